/- Texts joined: M2 M3 M5 K L1 L2 L3 L4. -/
import Derived.StillTailTactics
import Derived.Test.YthilhndejhnlnaaDoorZU19
import Derived.Test.YthilhndejhnlnaaDoorZU22
import Derived.Test.YthilhndejhnlnaaDoorZU23
section
/- The makers' plain law, 2: whatever the plan is, what Made makes is a schema. -/
namespace Go.Proofs.YthilhndejhnlnaaDoor.Mk
open Go.RowKit Go.Proofs.YthilhndejhnlnaaDoor.QAll Go.Proofs.YthilhndejhnlnaaDoorW.PrintWords Go.Proofs.YthilhndejhnlnaaDoorW.PrintLast Go.Proofs.YthilhndejhnlnaaDoorW.PrintMore Go.Proofs.YthilhndejhnlnaaDoor.Hand
set_option linter.unusedVariables false
set_option linter.unusedSimpArgs false
/-- A field of a schema of n structs, of the i-th one. -/
structure FOk (en : List S58) (n : Nat) (tr : Bool) (i : Nat) (f : S47) : Prop where
  kd : 1 ≤ f.f1.f0 ∧ f.f1.f0 ≤ 13
  ls : 0 ≤ f.f1.f2 ∧ f.f1.f2 ≤ 3
  enm : f.f1.f0 = 10 → 0 ≤ f.f1.f1 ∧ f.f1.f1 < en.length
  str : f.f1.f0 = 13 → 0 ≤ f.f1.f1 ∧ f.f1.f1 < n
  tree : tr = true → f.f1.f0 = 13 → (i : Int) < f.f1.f1
  num : f.f1.f2 = 0 → 0 < szB f.f1.f0 → ∀ st root, numB st en root f.f1.f0 f.f1.f1 0 f.f2 = true
  zero : ¬ (f.f1.f2 = 0 ∧ 0 < szB f.f1.f0) → f.f2 = 0
  rng : 0 ≤ f.f2 ∧ f.f2 < 18446744073709551616
structure SchOk (en : List S58) (n : Nat) (tr : Bool) (st : List S50) : Prop where
  fs : ∀ i r, st[i]? = some r → 1 ≤ r.f1.length ∧ r.f1.length ≤ 16 ∧ ∀ f ∈ r.f1, FOk en n tr i f
abbrev Res := List S50 × List S58 × Int × Bool
def MadeR (n : Nat) (tr : Bool) (r : Res) : Prop := r.2.2.2 = true → EnOk r.2.1 ∧ SchOk r.2.1 n tr r.1 ∧ r.1.length = n ∧ 1 ≤ n ∧ n ≤ 16 ∧ 0 ≤ r.2.2.1 ∧ r.2.2.1 < n
def G (g : Nat → Option Res) (Q : Res → Prop) : Prop := ∃ r, Ev g r ∧ Q r
theorem G.step {g f : Nat → Option Res} {Q : Res → Prop} (h : ∀ k, g (k + 1) = f k) (k : G f Q) : G g Q := by
  obtain ⟨r, e, q⟩ := k
  exact ⟨r, Ev.step h e, q⟩
/-- A field's plan: bytes, and a number. -/
structure BOk (x : S61) : Prop where
  b0 : 0 ≤ x.f0 ∧ x.f0 < 256
  b1 : 0 ≤ x.f1 ∧ x.f1 < 256
  b2 : 0 ≤ x.f2 ∧ x.f2 < 256
  b3 : 0 ≤ x.f3 ∧ x.f3 < 256
  b4 : 0 ≤ x.f4 ∧ x.f4 < 18446744073709551616
theorem label_some (a0 a1 : Int) (h0 : 0 ≤ a0) (h1 : a0 < 256) : ∃ t, transomhand05_label.f a0 a1 = some t := by
  unfold transomhand05_label.f
  simp only [Option.bind_some]
  rw [if_neg (by decide), w64 a0 h0 h1, tm a0 _ h0 (by decide)]
  obtain ⟨j, hj⟩ : ∃ j : Nat, a0 % 10 = j ∧ j < 10 := ⟨(a0 % 10).toNat, by omega, by omega⟩
  rw [show ((List.length [(⟨#[97]⟩ : ByteArray), ⟨#[120, 95]⟩, ⟨#[90, 101, 100]⟩, ⟨#[195, 169]⟩, ⟨#[239, 172, 128]⟩, ⟨#[240, 159, 152, 128]⟩, ⟨#[108, 105, 115, 116]⟩, ⟨#[98, 32, 99]⟩, ⟨#[115, 116, 114, 117, 99, 116]⟩, ⟨#[47]⟩] : Nat) : Int) = 10 from rfl, hj.1]
  rw [if_pos (by omega), if_pos (by omega), strOfNums_size, List.length_singleton, if_pos]
  · exact ⟨_, rfl⟩
  · obtain ⟨-, hj⟩ := hj
    match j, hj with
    | 0, _ | 1, _ | 2, _ | 3, _ | 4, _ | 5, _ | 6, _ | 7, _ | 8, _ | 9, _ => decide
section
variable {E : List Int} {S : List (List S61)} {Rt : Int} {tr : Bool} {Q : Res → Prop} {st : List S50} {en : List S58} {root : Int} {nm : ByteArray} {fs : List S47} {l : List S61} {i k n : Nat}
theorem wk (h : k < 1000) : wrap64 ((k : Int) + 1) = ((k + 1 : Nat) : Int) := by unfold wrap64; omega
theorem ref_tree (n i : Nat) (x : Int) (h : i + 1 < n) (hn : n ≤ 16) (hx : 0 ≤ x) : ∃ m q : Int, ¬ m = 0 ∧ 0 ≤ (i : Int) + 1 + q ∧ (i : Int) + 1 + q < n ∧ (i : Int) < (i : Int) + 1 + q ∧ wrap64 (wrap64 ((n : Int) - i) - 1) = m ∧ Int.tmod x m = q ∧ wrap64 (wrap64 ((i : Int) + 1) + q) = (i : Int) + 1 + q := by
  obtain ⟨m, hm⟩ : ∃ m : Nat, n = i + 1 + m := ⟨n - (i + 1), by omega⟩
  have m0 : (0 : Int) < m := by omega
  have e0 : wrap64 ((n : Int) - i) = (m : Int) + 1 := by unfold wrap64; omega
  have e1 : wrap64 ((m : Int) + 1 - 1) = m := by unfold wrap64; omega
  have q0 := Int.emod_nonneg x (b := (m : Int)) (by omega)
  have q1 := Int.emod_lt_of_pos x m0
  have e2 := tm x m hx m0
  obtain ⟨q, hq⟩ : ∃ q, x % (m : Int) = q := ⟨_, rfl⟩
  rw [hq] at q0 q1 e2
  clear hq
  have e4 : wrap64 ((i : Int) + 1) = (i : Int) + 1 := by unfold wrap64; omega
  refine ⟨m, q, by omega, by omega, by omega, by omega, by rw [e0, e1], e2, ?_⟩
  rw [e4]; unfold wrap64; omega
theorem ref_any (n : Nat) (x : Int) (h : 1 ≤ n) (hx : 0 ≤ x) : ∃ q : Int, 0 ≤ q ∧ q < n ∧ Int.tmod x (n : Int) = q :=
  ⟨x % (n : Int), Int.emod_nonneg x (by omega), Int.emod_lt_of_pos x (by omega), tm x n hx (by omega)⟩
theorem g11 (hE : EnOk en) (hk : k < l.length) (hl : l.length ≤ 16) (hb : BOk (rd_T61 l k)) (kd rf ls : Int) (h1 : 1 ≤ kd) (h2 : kd ≤ 13) (h3 : 0 ≤ ls) (h4 : ls ≤ 3) (h5 : kd = 10 → 0 ≤ rf ∧ rf < en.length)
    (h6 : kd = 13 → 0 ≤ rf ∧ rf < n) (h7 : tr = true → kd = 13 → (i : Int) < rf) (hfs : fs.length ≤ 16)
    (H : ∀ f, FOk en n tr i f → G (fun K => transomhand05_Made.l3 K i l ((k + 1 : Nat) : Int) E S Rt tr st en root nm (fs ++ [f])) Q) :
    G (fun K => transomhand05_Made.j11 K i l k E S Rt tr st en root nm fs kd rf ls) Q := by
  obtain ⟨t, ht⟩ := label_some _ (k : Int) hb.b3.1 hb.b3.2
  have hi := isnum_f kd rf ls (by omega) (by omega)
  have hw := wk (k := k) (by omega)
  by_cases c : ls = 0 ∧ 0 < szB kd
  · have hkd : kd ≤ 10 := by
      obtain ⟨-, c⟩ := c
      unfold szB at c; split at c; omega; split at c; omega; split at c; omega; split at c; omega; omega
    obtain ⟨m, hm, hn, m0, m1⟩ := number_ok hE kd rf _ h1 hkd h5 hb.b4.1 hb.b4.2 ls
    obtain ⟨r, ⟨K, hK⟩, hq⟩ := H ⟨t, ⟨kd, rf, ls⟩, m⟩ ⟨⟨h1, h2⟩, ⟨h3, h4⟩, h5, h6, h7, fun _ _ => hn, fun x => absurd c x, m0, m1⟩
    refine ⟨r, ⟨max K 7 + 1, fun j hj => ?_⟩, hq⟩
    obtain ⟨j, rfl⟩ : ∃ m, j = m + 1 := ⟨j - 1, by omega⟩
    simp only [transomhand05_Made.j11]
    rw [if_pos (by omega), if_pos (by omega), ht, at_rounds (transomref05_IsNum.mono kd rf ls) (show 6 ≤ j by omega) hi]
    simp only [Option.bind_some, decide_eq_true c, if_true]
    rw [at_rounds (transomhand05_Number.mono _ _ _ _ _ _ _) (show 7 ≤ j by omega) (hm st root)]
    simp only [Option.bind_some]
    rw [if_pos (by omega), hw]
    exact hK j (by omega)
  · obtain ⟨r, ⟨K, hK⟩, hq⟩ := H ⟨t, ⟨kd, rf, ls⟩, 0⟩ ⟨⟨h1, h2⟩, ⟨h3, h4⟩, h5, h6, h7, fun x y => absurd ⟨x, y⟩ c, fun _ => rfl, by show (0 : Int) ≤ 0; decide, by show (0 : Int) < 18446744073709551616; decide⟩
    refine ⟨r, ⟨max K 7 + 1, fun j hj => ?_⟩, hq⟩
    obtain ⟨j, rfl⟩ : ∃ m, j = m + 1 := ⟨j - 1, by omega⟩
    simp only [transomhand05_Made.j11]
    rw [if_pos (by omega), if_pos (by omega), ht, at_rounds (transomref05_IsNum.mono kd rf ls) (show 6 ≤ j by omega) hi]
    simp only [Option.bind_some, decide_eq_false c]
    rw [if_neg (by decide), if_pos (by omega), hw]
    exact hK j (by omega)
theorem g10 (hS : S.length = n) (hn0 : 1 ≤ n) (hn : n ≤ 16) (hin : i < n) (hE : EnOk en) (hk : k < l.length) (hl : l.length ≤ 16) (hb : BOk (rd_T61 l k)) (kd rf ls : Int) (h1 : 1 ≤ kd) (h2 : kd ≤ 13) (h3 : 0 ≤ ls) (h4 : ls ≤ 3) (h5 : kd = 10 → 0 ≤ rf ∧ rf < en.length)
    (h7 : tr = true → kd = 13 → i + 1 ≠ n) (hfs : fs.length ≤ 16)
    (H : ∀ f, FOk en n tr i f → G (fun K => transomhand05_Made.l3 K i l ((k + 1 : Nat) : Int) E S Rt tr st en root nm (fs ++ [f])) Q) :
    G (fun K => transomhand05_Made.j10 K i l k E S Rt tr st en root nm fs kd rf ls) Q := by
  by_cases c : kd = 13
  · have hc := c
    have a1 : (0 : Int) ≤ k := Int.natCast_nonneg _
    have a2 : (k : Int) < l.length := by omega
    have a3 : ¬ (S.length : Int) = 0 := by omega
    have hw2 : wrap64 (rd_T61 l k).f2 = (rd_T61 l k).f2 := w64 _ hb.b2.1 hb.b2.2
    cases tr with
    | true =>
      have hne := h7 rfl hc
      obtain ⟨m, q, m0, q0, q1, q2, e1, e2, e3⟩ := ref_tree n i _ (show i + 1 < n by omega) hn hb.b2.1
      rw [← hS] at e1
      refine G.step (fun K => ?_) (g11 hE hk hl hb kd ((i : Int) + 1 + q) ls h1 h2 h3 h4 (fun e => absurd (hc.symm.trans e) (by decide)) (fun _ => ⟨q0, q1⟩) (fun _ _ => q2) hfs H)
      simp only [transomhand05_Made.j10]
      rw [if_pos hc, if_pos a1, if_pos a2, if_neg a3, if_pos trivial, e1, if_neg m0, hw2, e2, e3]
    | false =>
      obtain ⟨q, q0, q1, e2⟩ := ref_any S.length (rd_T61 l k).f2 (by omega) hb.b2.1
      refine G.step (fun K => ?_) (g11 hE hk hl hb kd q ls h1 h2 h3 h4 (fun e => absurd (hc.symm.trans e) (by decide)) (fun _ => ⟨q0, by rw [← hS]; exact q1⟩) (fun e => by cases e) hfs H)
      simp only [transomhand05_Made.j10]
      rw [if_pos hc, if_pos a1, if_pos a2, if_neg a3, if_neg (by decide), hw2, e2]
  · refine G.step (fun K => ?_) (g11 hE hk hl hb kd rf ls h1 h2 h3 h4 h5 (fun e => absurd e c) (fun _ e => absurd e c) hfs H)
    simp only [transomhand05_Made.j10]
    rw [if_neg c]
theorem g8 (hS : S.length = n) (hn0 : 1 ≤ n) (hn : n ≤ 16) (hin : i < n) (hE : EnOk en) (hk : k < l.length) (hl : l.length ≤ 16) (hb : BOk (rd_T61 l k)) (kd rf ls : Int) (h1 : 1 ≤ kd) (h2 : kd ≤ 13) (h3 : 0 ≤ ls) (h4 : ls ≤ 3) (h5 : kd = 10 → 0 ≤ rf ∧ rf < en.length)
    (hfs : fs.length ≤ 16)
    (H : ∀ f, FOk en n tr i f → G (fun K => transomhand05_Made.l3 K i l ((k + 1 : Nat) : Int) E S Rt tr st en root nm (fs ++ [f])) Q) :
    G (fun K => transomhand05_Made.j8 K i l k E S Rt tr st en root nm fs kd rf ls) Q := by
  have hw : wrap64 ((i : Int) + 1) = (i : Int) + 1 := by unfold wrap64; omega
  have g9t : G (fun K => transomhand05_Made.j9 K i l k true E S Rt tr st en root nm fs kd rf ls) Q := by
    refine G.step (fun K => ?_) (g10 hS hn0 hn hin hE hk hl hb 11 rf ls (by decide) (by decide) h3 h4 (fun e => by omega) (fun _ e => by omega) hfs H)
    simp only [transomhand05_Made.j9, if_true]
  have g9f : (tr = true → kd = 13 → i + 1 ≠ n) → G (fun K => transomhand05_Made.j9 K i l k false E S Rt tr st en root nm fs kd rf ls) Q := fun h => by
    refine G.step (fun K => ?_) (g10 hS hn0 hn hin hE hk hl hb kd rf ls h1 h2 h3 h4 h5 h hfs H)
    simp only [transomhand05_Made.j9]
    rw [if_neg (by decide)]
  by_cases c : kd = 13
  · cases tr with
    | true =>
      by_cases e : i + 1 = n
      · have : (wrap64 ((i : Int) + 1) == (S.length : Int)) = true := by rw [hw]; simp; omega
        refine G.step (fun K => ?_) g9t
        simp only [transomhand05_Made.j8]
        rw [if_pos c, if_pos trivial, this]
      · have : (wrap64 ((i : Int) + 1) == (S.length : Int)) = false := by rw [hw]; simp; omega
        refine G.step (fun K => ?_) (g9f fun _ _ => e)
        simp only [transomhand05_Made.j8]
        rw [if_pos c, if_pos trivial, this]
    | false =>
      refine G.step (fun K => ?_) (g9f fun e => by cases e)
      simp only [transomhand05_Made.j8]
      rw [if_pos c, if_neg (by decide)]
  · refine G.step (fun K => ?_) (g9f fun _ e => absurd e c)
    simp only [transomhand05_Made.j8]
    rw [if_neg c]
theorem g7 (hS : S.length = n) (hn0 : 1 ≤ n) (hn : n ≤ 16) (hin : i < n) (hE : EnOk en) (hk : k < l.length) (hl : l.length ≤ 16) (hb : BOk (rd_T61 l k)) (kd ls : Int) (h1 : 1 ≤ kd) (h2 : kd ≤ 13) (h3 : 0 ≤ ls) (h4 : ls ≤ 3) (h5 : kd = 10 → 0 < en.length)
    (hfs : fs.length ≤ 16)
    (H : ∀ f, FOk en n tr i f → G (fun K => transomhand05_Made.l3 K i l ((k + 1 : Nat) : Int) E S Rt tr st en root nm (fs ++ [f])) Q) :
    G (fun K => transomhand05_Made.j7 K i l k E S Rt tr st en root nm fs kd 0 ls) Q := by
  by_cases c : kd = 10
  · have h6 := h5 c
    have a1 : (0 : Int) ≤ k := Int.natCast_nonneg _
    have a2 : (k : Int) < l.length := by omega
    have a3 : ¬ (en.length : Int) = 0 := by omega
    have hw2 : wrap64 (rd_T61 l k).f2 = (rd_T61 l k).f2 := w64 _ hb.b2.1 hb.b2.2
    obtain ⟨q, b0, b1, e2⟩ := ref_any en.length (rd_T61 l k).f2 h6 hb.b2.1
    refine G.step (fun K => ?_) (g8 hS hn0 hn hin hE hk hl hb kd q ls h1 h2 h3 h4 (fun _ => ⟨b0, b1⟩) hfs H)
    simp only [transomhand05_Made.j7]
    rw [if_pos c, if_pos a1, if_pos a2, if_neg a3, hw2, e2]
  · refine G.step (fun K => ?_) (g8 hS hn0 hn hin hE hk hl hb kd 0 ls h1 h2 h3 h4 (fun e => absurd e c) hfs H)
    simp only [transomhand05_Made.j7]
    rw [if_neg c]
theorem g6 (hS : S.length = n) (hn0 : 1 ≤ n) (hn : n ≤ 16) (hin : i < n) (hE : EnOk en) (hk : k < l.length) (hl : l.length ≤ 16) (hb : BOk (rd_T61 l k)) (kd ls : Int) (h1 : 1 ≤ kd) (h2 : kd ≤ 13) (h3 : 0 ≤ ls) (h4 : ls ≤ 3) (b : Bool) (h5 : b = false → kd = 10 → 0 < en.length)
    (hfs : fs.length ≤ 16)
    (H : ∀ f, FOk en n tr i f → G (fun K => transomhand05_Made.l3 K i l ((k + 1 : Nat) : Int) E S Rt tr st en root nm (fs ++ [f])) Q) :
    G (fun K => transomhand05_Made.j6 K i l k b E S Rt tr st en root nm fs kd 0 ls) Q := by
  cases b with
  | true =>
    refine G.step (fun K => ?_) (g7 hS hn0 hn hin hE hk hl hb 7 ls (by decide) (by decide) h3 h4 (fun e => by omega) hfs H)
    simp only [transomhand05_Made.j6, if_true]
  | false =>
    refine G.step (fun K => ?_) (g7 hS hn0 hn hin hE hk hl hb kd ls h1 h2 h3 h4 (h5 rfl) hfs H)
    simp only [transomhand05_Made.j6]
    rw [if_neg (by decide)]
end
end Go.Proofs.YthilhndejhnlnaaDoor.Mk
end

section
/- The makers' plain law, 3: Made whole. -/
namespace Go.Proofs.YthilhndejhnlnaaDoor.Mk
open Go.RowKit Go.Proofs.YthilhndejhnlnaaDoor.QAll Go.Proofs.YthilhndejhnlnaaDoorW.PrintWords Go.Proofs.YthilhndejhnlnaaDoorW.PrintLast Go.Proofs.YthilhndejhnlnaaDoorW.PrintMore Go.Proofs.YthilhndejhnlnaaDoor.Hand
set_option linter.unusedVariables false
set_option linter.unusedSimpArgs false
section
variable {E : List Int} {S : List (List S61)} {Rt : Int} {tr : Bool} {Q : Res → Prop} {st : List S50} {en : List S58} {root : Int} {nm : ByteArray} {l : List S61} {i n : Nat}
theorem g3 (hS : S.length = n) (hn0 : 1 ≤ n) (hn : n ≤ 16) (hin : i < n) (hE : EnOk en) (hl1 : 1 ≤ l.length) (hl : l.length ≤ 16) (hb : ∀ x ∈ l, BOk x) (hst : st.length ≤ 16)
    (H2 : ∀ fs, 1 ≤ fs.length → fs.length ≤ 16 → (∀ f ∈ fs, FOk en n tr i f) → G (fun K => transomhand05_Made.l2 K ((i + 1 : Nat) : Int) E S Rt tr (st ++ [⟨nm, fs⟩]) en root) Q) :
    ∀ (d k : Nat) (fs : List S47), k + d = l.length → fs.length = k → (∀ f ∈ fs, FOk en n tr i f) → G (fun K => transomhand05_Made.l3 K i l k E S Rt tr st en root nm fs) Q := by
  intro d
  induction d with
  | zero =>
    intro k fs hk hf hF
    refine G.step (fun K => ?_) (H2 fs (by omega) (by omega) hF)
    simp only [transomhand05_Made.l3]
    rw [if_neg (by omega), if_pos (by omega), wk (by omega)]
  | succ d ih =>
    intro k fs hk hf hF
    have hkl : k < l.length := by omega
    have hx : BOk (rd_T61 l k) := by
      have e : rd_T61 l (k : Int) = l[k] := by unfold rd_T61; rw [show ((k : Int)).toNat = k from rfl, List.getD_eq_getElem?_getD, List.getElem?_eq_getElem hkl]; rfl
      rw [e]; exact hb _ (List.getElem_mem hkl)
    have next : ∀ f, FOk en n tr i f → G (fun K => transomhand05_Made.l3 K i l ((k + 1 : Nat) : Int) E S Rt tr st en root nm (fs ++ [f])) Q := fun f h =>
      ih (k + 1) (fs ++ [f]) (by omega) (by simp [hf]) (fun g hg => by
        rcases List.mem_append.1 hg with e | e
        · exact hF g e
        · rw [List.mem_singleton] at e; exact e ▸ h)
    have e1 : Int.tmod (rd_T61 l k).f0 13 = (rd_T61 l k).f0 % 13 := tm _ _ hx.b0.1 (by decide)
    have e2 : Int.tmod (rd_T61 l k).f1 4 = (rd_T61 l k).f1 % 4 := tm _ _ hx.b1.1 (by decide)
    have e3 : wrap64 ((rd_T61 l k).f1 % 4) = (rd_T61 l k).f1 % 4 := w64 _ (by omega) (by omega)
    have e4 : ((rd_T61 l k).f0 % 13 + 1) % 256 = (rd_T61 l k).f0 % 13 + 1 := by omega
    by_cases c : (rd_T61 l k).f0 % 13 + 1 = 10
    · refine G.step (fun K => ?_) (g6 hS hn0 hn hin hE hkl hl hx ((rd_T61 l k).f0 % 13 + 1) ((rd_T61 l k).f1 % 4) (by omega) (by omega) (by omega) (by omega) ((en.length : Int) == 0) (fun e _ => by have e5 := beq_eq_false_iff_ne.1 e; omega) (by omega) next)
      simp only [transomhand05_Made.l3]
      rw [if_pos (by omega), if_pos (by omega), e1, e2, e3, e4, if_pos c]
    · refine G.step (fun K => ?_) (g6 hS hn0 hn hin hE hkl hl hx ((rd_T61 l k).f0 % 13 + 1) ((rd_T61 l k).f1 % 4) (by omega) (by omega) (by omega) (by omega) false (fun _ e => absurd e c) (by omega) next)
      simp only [transomhand05_Made.l3]
      rw [if_pos (by omega), if_pos (by omega), e1, e2, e3, e4, if_neg c]
theorem bad : MadeR n tr (([] : List S50), ([] : List S58), 0, false) := fun h => by cases h
theorem g2 (hS : S.length = n) (hn0 : 1 ≤ n) (hn : n ≤ 16) (hE : EnOk en) (hb : ∀ l ∈ S, ∀ x ∈ l, BOk x) (hr0 : 0 ≤ root) (hr1 : root < n) :
    ∀ (d i : Nat) (st : List S50), i + d = n → st.length = i → SchOk en n tr st → G (fun K => transomhand05_Made.l2 K i E S Rt tr st en root) (MadeR n tr) := by
  intro d
  induction d with
  | zero =>
    intro i st hi hs hF
    refine G.step (f := fun _ => some (st, en, root, true)) (fun K => ?_) ⟨_, Ev.now _, fun _ => ⟨hE, hF, by show st.length = n; omega, hn0, hn, hr0, hr1⟩⟩
    simp only [transomhand05_Made.l2]
    rw [if_neg (by omega)]
  | succ d ih =>
    intro i st hi hs hF
    have hiS : i < S.length := by omega
    have hl : rd_L14 S (i : Int) = S[i] := by unfold rd_L14; rw [show ((i : Int)).toNat = i from rfl, List.getD_eq_getElem?_getD, List.getElem?_eq_getElem hiS]; rfl
    have hbl : ∀ x ∈ rd_L14 S (i : Int), BOk x := by rw [hl]; exact hb _ (List.getElem_mem hiS)
    obtain ⟨l, hll⟩ : ∃ l, rd_L14 S (i : Int) = l := ⟨_, rfl⟩
    rw [hll] at hbl
    have four : ∀ b, (b = false → 1 ≤ l.length ∧ l.length ≤ 16) → G (fun K => transomhand05_Made.j4 K i l b E S Rt tr st en root) (MadeR n tr) := by
      intro b hb4
      cases b with
      | true =>
        refine G.step (f := fun _ => some (([] : List S50), ([] : List S58), 0, false)) (fun K => ?_) ⟨_, Ev.now _, bad⟩
        simp only [transomhand05_Made.j4, if_true]
      | false =>
        obtain ⟨l1, l2⟩ := hb4 rfl
        refine G.step (fun K => ?_) (g3 (nm := (⟨#[83]⟩ : ByteArray) ++ strOfNums [(wrap64 (97 + (i : Int))) % 256]) hS hn0 hn (show i < n by omega) hE l1 l2 hbl (by omega) (fun fs f1 f2 hf => ih (i + 1) (st ++ [⟨(⟨#[83]⟩ : ByteArray) ++ strOfNums [(wrap64 (97 + (i : Int))) % 256], fs⟩]) (by omega) (by simp [hs]) ⟨fun j r hj => by
          rcases Nat.lt_or_ge j st.length with e | e
          · rw [List.getElem?_append_left e] at hj; exact hF.fs j r hj
          · rw [List.getElem?_append_right e] at hj
            have : j - st.length = 0 := by
              rcases Nat.eq_zero_or_pos (j - st.length) with z | z
              · exact z
              · rw [List.getElem?_eq_none (by simp; omega)] at hj; cases hj
            rw [this] at hj; simp at hj; subst hj
            obtain rfl : j = i := by omega
            exact ⟨f1, f2, hf⟩⟩) l.length 0 [] (by omega) rfl (fun _ h => by cases h))
        simp only [transomhand05_Made.j4, Option.bind_some]
        rw [if_neg (by decide), strOfNums_size, if_pos (by simp)]
        rfl
    by_cases c : l.length < 1
    · refine G.step (fun K => ?_) (four true (fun e => by cases e))
      simp only [transomhand05_Made.l2]
      rw [if_pos (by omega), if_pos (by omega), hll, if_pos (by omega)]
    · refine G.step (fun K => ?_) (four (decide ((l.length : Int) > 16)) (fun e => by simp at e; omega))
      simp only [transomhand05_Made.l2]
      rw [if_pos (by omega), if_pos (by omega), hll, if_neg (by omega)]
theorem g1 {j : Nat} (hE : ∀ x ∈ E, 0 ≤ x ∧ x < 256) (hj : j < E.length) (hlen : E.length ≤ 8) (hen : en.length ≤ 8)
    (H0 : ∀ ns : List ByteArray, 1 ≤ ns.length → ns.length ≤ 32 → G (fun K => transomhand05_Made.l0 K ((j + 1 : Nat) : Int) E S Rt tr (en ++ [⟨nm, ns⟩]) root) Q) :
    ∀ (d k : Nat) (ns : List ByteArray), (k : Int) + d = rd E j % 32 + 1 → ns.length = k → G (fun K => transomhand05_Made.l1 K j k E S Rt tr en root nm ns) Q := by
  have hx : 0 ≤ rd E (j : Int) ∧ rd E (j : Int) < 256 := by
    have e : rd E (j : Int) = E[j] := by unfold rd; rw [show ((j : Int)).toNat = j from rfl, List.getD_eq_getElem?_getD, List.getElem?_eq_getElem hj]; rfl
    rw [e]; exact hE _ (List.getElem_mem hj)
  have e1 : Int.tmod (wrap64 (rd E (j : Int))) 32 = rd E (j : Int) % 32 := by rw [w64 _ hx.1 hx.2]; exact tm _ _ hx.1 (by decide)
  intro d
  induction d with
  | zero =>
    intro k ns hk hs
    refine G.step (fun K => ?_) (H0 ns (by omega) (by omega))
    simp only [transomhand05_Made.l1]
    rw [if_pos (by omega), if_pos (by omega), e1, if_neg (by omega), if_pos (by omega), wk (by omega)]
  | succ d ih =>
    intro k ns hk hs
    refine G.step (fun K => ?_) (ih (k + 1) (ns ++ [(⟨#[118]⟩ : ByteArray) ++ strOfNums [(wrap64 (97 + (Int.tmod (k : Int) 26))) % 256, (wrap64 (97 + (wrap64 (Int.tdiv (k : Int) 26)))) % 256]]) (by omega) (by simp [hs]))
    simp only [transomhand05_Made.l1, Option.bind_some]
    rw [if_pos (by omega), if_pos (by omega), e1, if_pos (by omega), strOfNums_size, if_pos (by simp), if_pos (by omega), wk (by omega)]
theorem g0 (hE : ∀ x ∈ E, 0 ≤ x ∧ x < 256) (hlen : E.length ≤ 8) (hS : S.length = n) (hn0 : 1 ≤ n) (hn : n ≤ 16) (hb : ∀ l ∈ S, ∀ x ∈ l, BOk x) (hr0 : 0 ≤ root) (hr1 : root < n) :
    ∀ (d j : Nat) (en : List S58), j + d = E.length → en.length = j → (∀ c ∈ en, 1 ≤ c.f1.length ∧ c.f1.length ≤ 32) → G (fun K => transomhand05_Made.l0 K j E S Rt tr en root) (MadeR n tr) := by
  intro d
  induction d with
  | zero =>
    intro j en hj hs hc
    refine G.step (fun K => ?_) (g2 (E := E) (Rt := Rt) (tr := tr) hS hn0 hn (⟨by omega, hc⟩ : EnOk en) hb hr0 hr1 n 0 [] (by omega) rfl ⟨fun i r h => by simp at h⟩)
    simp only [transomhand05_Made.l0]
    rw [if_neg (by omega)]
    rfl
  | succ d ih =>
    intro j en hj hs hc
    have hjE : j < E.length := by omega
    have hx : 0 ≤ rd E (j : Int) ∧ rd E (j : Int) < 256 := by
      have e : rd E (j : Int) = E[j] := by unfold rd; rw [show ((j : Int)).toNat = j from rfl, List.getD_eq_getElem?_getD, List.getElem?_eq_getElem hjE]; rfl
      rw [e]; exact hE _ (List.getElem_mem hjE)
    refine G.step (fun K => ?_) (g1 (nm := (⟨#[69]⟩ : ByteArray) ++ strOfNums [(wrap64 (97 + (j : Int))) % 256]) hE hjE hlen (show en.length ≤ 8 by omega) (fun ns n1 n2 => ih (j + 1) (en ++ [⟨_, ns⟩]) (by omega) (by simp [hs]) (fun c hcm => by
      rcases List.mem_append.1 hcm with e | e
      · exact hc c e
      · rw [List.mem_singleton] at e; subst e; exact ⟨n1, n2⟩)) (rd E (j : Int) % 32 + 1).toNat 0 [] (by omega) rfl)
    simp only [transomhand05_Made.l0, Option.bind_some]
    rw [if_pos (by omega), strOfNums_size, if_pos (by simp)]
    rfl
end
end Go.Proofs.YthilhndejhnlnaaDoor.Mk
end

section
/- The makers' plain law, 5: how large a value is; what a value that is made is like. -/
namespace Go.Proofs.YthilhndejhnlnaaDoor.Mk
open Go.RowKit Go.Proofs.YthilhndejhnlnaaDoor.QAll Go.Proofs.YthilhndejhnlnaaDoorW.PrintWords Go.Proofs.YthilhndejhnlnaaDoorW.PrintLast Go.Proofs.YthilhndejhnlnaaDoorW.PrintMore Go.Proofs.YthilhndejhnlnaaDoor.Hand Go.Proofs.YthilhndejhnlnaaDoor.Runes
set_option linter.unusedVariables false
/-- One sign of UTF-8. -/
def Sg (s : List Int) : Prop := s ≠ [] ∧ ∀ t, wsign (s ++ t) = s.length
def SgL (l : List Int) : Prop := ∃ S : List (List Int), l = S.flatten ∧ ∀ s ∈ S, Sg s
theorem SgL.nil : SgL [] := ⟨[], rfl, fun _ h => by cases h⟩
theorem SgL.one {s : List Int} (h : Sg s) : SgL s := ⟨[s], by simp, fun x hx => by rw [List.mem_singleton] at hx; exact hx ▸ h⟩
theorem SgL.append {a b : List Int} (h : SgL a) (k : SgL b) : SgL (a ++ b) := by
  obtain ⟨S, rfl, hS⟩ := h
  obtain ⟨T, rfl, hT⟩ := k
  exact ⟨S ++ T, by simp, fun x hx => (List.mem_append.1 hx).elim (hS x) (hT x)⟩
theorem U_SgL : ∀ (S : List (List Int)), (∀ s ∈ S, Sg s) → ∀ m, U m S.flatten = none := by
  intro S
  induction S with
  | nil => intro _ m; cases m <;> rfl
  | cons s S ih =>
    intro h m
    obtain ⟨h1, h2⟩ := h s (by simp)
    cases m with
    | zero => rfl
    | succ m =>
      rw [List.flatten_cons, U_sign s _ m h1 (h2 _), ih (fun x hx => h x (by simp [hx]))]; rfl
theorem SgL.text {l : List Int} (h : SgL l) : textB l = true := by
  obtain ⟨S, rfl, hS⟩ := h
  unfold textB; rw [U_SgL S hS]; rfl
/-- The pieces of texts. -/
def pcs : List ByteArray := [⟨#[97]⟩, ⟨#[]⟩, ⟨#[34]⟩, ⟨#[92]⟩, ⟨#[10]⟩, ⟨#[1]⟩, ⟨#[195, 169]⟩, ⟨#[226, 130, 172]⟩, ⟨#[240, 159, 152, 128]⟩, ⟨#[0]⟩, ⟨#[47]⟩, ⟨#[127]⟩]
theorem pc_ok (k : Nat) (hk : k < 12) : SgL (bytesOf (pcs.getD k ByteArray.empty)) ∧ (pcs.getD k ByteArray.empty).size ≤ 4 ∧ ∀ x ∈ bytesOf (pcs.getD k ByteArray.empty), 0 ≤ x ∧ x < 256 := by
  have one : ∀ x : Int, x < 128 → Sg [x] := fun x h => ⟨by simp, fun t => by simp [wsign, h]⟩
  refine ⟨?_, ?_, ?_⟩
  · match k, hk with
    | 0, _ => exact .one (one 97 (by decide))
    | 1, _ => exact .nil
    | 2, _ => exact .one (one 34 (by decide))
    | 3, _ => exact .one (one 92 (by decide))
    | 4, _ => exact .one (one 10 (by decide))
    | 5, _ => exact .one (one 1 (by decide))
    | 6, _ => exact .one (s := [195, 169]) ⟨by simp, fun t => by simp [wsign, tl]⟩
    | 7, _ => exact .one (s := [226, 130, 172]) ⟨by simp, fun t => by simp [wsign, tl, con]⟩
    | 8, _ => exact .one (s := [240, 159, 152, 128]) ⟨by simp, fun t => by simp [wsign, tl, con]⟩
    | 9, _ => exact .one (one 0 (by decide))
    | 10, _ => exact .one (one 47 (by decide))
    | 11, _ => exact .one (one 127 (by decide))
  · match k, hk with
    | 0, _ | 1, _ | 2, _ | 3, _ | 4, _ | 5, _ | 6, _ | 7, _ | 8, _ | 9, _ | 10, _ | 11, _ => decide
  · intro x hx
    unfold bytesOf at hx
    rw [List.mem_map] at hx
    obtain ⟨b, -, rfl⟩ := hx
    have := b.toNat_lt
    omega

mutual
/-- How much a value is: parts, and bytes. -/
def wt : S29 → Nat
  | ⟨_, b, ks, _⟩ => 1 + b.length + wts ks
def wts : List S29 → Nat
  | [] => 0
  | x :: xs => wt x + wts xs
end
mutual
/-- Numbers and bytes are in their ranges. -/
def rng : S29 → Prop
  | ⟨n, b, ks, _⟩ => (0 ≤ n ∧ n < 18446744073709551616) ∧ (∀ x ∈ b, 0 ≤ x ∧ x < 256) ∧ rngs ks
def rngs : List S29 → Prop
  | [] => True
  | x :: xs => rng x ∧ rngs xs
end
theorem wts_append (xs ys : List S29) : wts (xs ++ ys) = wts xs + wts ys := by
  induction xs with
  | nil => simp [wts]
  | cons a t ih => simp only [List.cons_append, wts, ih]; omega
theorem rngs_iff (xs : List S29) : rngs xs ↔ ∀ x ∈ xs, rng x := by
  induction xs with
  | nil => simp [rngs]
  | cons a t ih => simp only [rngs, ih, List.mem_cons, forall_eq_or_imp]
theorem rngs_append (xs ys : List S29) : rngs (xs ++ ys) ↔ rngs xs ∧ rngs ys := by
  rw [rngs_iff, rngs_iff, rngs_iff]; simp only [List.mem_append]
  exact ⟨fun h => ⟨fun x hx => h x (.inl hx), fun x hx => h x (.inr hx)⟩, fun h x hx => hx.elim (h.1 x) (h.2 x)⟩
/-- A type of a schema of n structs. -/
structure TyG (en : List S58) (n : Nat) (kd rf ls : Int) : Prop where
  kr : 1 ≤ kd ∧ kd ≤ 13
  lr : 0 ≤ ls ∧ ls ≤ 3
  enm : kd = 10 → 0 ≤ rf ∧ rf < en.length
  str : kd = 13 → 0 ≤ rf ∧ rf < n
theorem FOk.ty {en : List S58} {n : Nat} {tr : Bool} {i : Nat} {f : S47} (h : FOk en n tr i f) : TyG en n f.f1.f0 f.f1.f1 f.f1.f2 := ⟨h.kd, h.ls, h.enm, h.str⟩
theorem TyG.elem {en : List S58} {n : Nat} {kd rf ls : Int} (h : TyG en n kd rf ls) (hl : 0 < ls) : TyG en n kd rf (ls - 1) := ⟨h.kr, by have := h.lr; omega, h.enm, h.str⟩
/-- What a value that is made is like: of a source of n bytes, from place i to place j. -/
structure VOk (st : List S50) (en : List S58) (root : Int) (n : Nat) (left : Nat) (kd rf ls : Int) (sure : Bool) (i j : Int) (v : S29) : Prop where
  fit : fitsB st en root left kd rf ls v = true
  has : sure = true → ls = 0 → kd = 13 → 1 ≤ left → v.f3 = true
  rg : rng v
  adv : i ≤ j ∧ j ≤ n
  run : i < n → i < j ∧ (wt v : Int) ≤ 21 * (j - i)
  fin : i = n → (wt v : Int) ≤ 17 ∧ (sure = false → wt v = 1)
end Go.Proofs.YthilhndejhnlnaaDoor.Mk
end

section
/- Rows of the call's own, told apart by their blocks' numbers; the state of a walk of value. -/
namespace Go.Proofs.YthilhndejhnlnaaDoor.Hand
open Go.RowKit Go.Proofs.YthilhndejhnlnaaDoor.QAll Go.Proofs.YthilhndejhnlnaaDoorW.PrintWords Go.Proofs.YthilhndejhnlnaaDoorW.PrintLast Go.Proofs.YthilhndejhnlnaaDoorW.PrintMore Go.Proofs.YthilhndejhnlnaaDoor.Mk
set_option linter.unusedVariables false
section
variable {α : Type} {d : Kd α} {e : Nat} {w w1 : World} {base : Nat} {v : Value} {xs : List α}
/-- A row of the call's own whose blocks are from base on. -/
abbrev Rb (d : Kd α) (e : Nat) (w : World) (base : Nat) (v : Value) (xs : List α) : Prop := d.R e w base (fun _ => True) v xs
theorem Rb.of {ok : Nat → Prop} (h : d.R e w base ok v xs) : Rb d e w base v xs := Kd.R_mono h (fun _ _ => trivial)
theorem Rb.all (h : Rb d e w base v xs) (hm : ∀ k, base ≤ k → k < w.heap.size → w1.heap[k]? = w.heap[k]?) : Rb d e w1 base v xs :=
  Kd.R_mono (Kd.R_move (Kd.R_bound h) (fun k hk => hm k hk.2.1 hk.2.2.1)) (fun _ _ => trivial)
theorem Rb.keep {g : Nat} (h : Rb d e w base v xs) (hk : KeepBut w w1 g none) (hg : g < base) : Rb d e w1 base v xs := h.all (fun k hb hl => hk.2 k hl (by omega) (by simp))
theorem Rb.below (h : Rb d e w base v xs) (hb : Below w.heap.size w w1) : Rb d e w1 base v xs := h.all (fun k _ hl => hb.block k hl)
theorem Rb.set {p : Addr} (h : Rb d e w base v xs) (hp : p.block < base) (u : Value) : Rb d e (w.setCell p u) base v xs := h.all (fun k hb _ => Below.heap_setCell w p u k (by omega))
theorem Rb.lower {b : Nat} (h : Rb d e w base v xs) (hb : b ≤ base) : Rb d e w b v xs := Kd.R_lower h hb
theorem Rb.nil (d : Kd α) (e : Nat) (w : World) (base : Nat) : Rb d e w base (.slice none 0 0) [] := Kd.R_nil d e w base _
theorem Rb.slice (h : Rb d e w base v xs) : ∃ A c, v = .slice A xs.length c ∧ xs.length ≤ c ∧ d.C w A xs.length xs := Kd.R_reads h
/-- Its blocks are of this world; as a row whose blocks are all from base on, and none another row's. -/
theorem Rb.from (h : Rb d e w base v xs) : d.R e w base (fun k => base ≤ k) v xs := Kd.R_mono (Kd.R_bound h) (fun _ hk => hk.2.1)
theorem Rb.bas (h : Rb d e w base v xs) (k : Nat) (hk : v.ownBlock = some k) : base ≤ k ∧ k < w.heap.size := by
  have := (Kd.R_bound h).1 k hk
  exact ⟨this.2.1, this.2.2.1⟩
end
theorem keep_trans {w w1 w2 : World} {g : Nat} (h : KeepBut w w1 g none) (k : KeepBut w1 w2 g none) : KeepBut w w2 g none := h.trans k (.inl rfl)
theorem keep_grown {w w1 w2 : World} {g : Nat} {row : Option Nat} (h : KeepBut w w1 g none) (hg : w1.grownBy w2 row) (hr : ∀ k, row = some k → w.heap.size ≤ k) : KeepBut w w2 g none :=
  ⟨Nat.le_trans h.1 hg.size, fun i hi hne _ => (hg.block i (Nat.lt_of_lt_of_le hi h.1) (fun e => by have := hr i e.symm; omega)).trans (h.2 i hi hne (by simp))⟩
theorem keep_set {w w1 : World} {g : Nat} (h : KeepBut w w1 g none) {p : Addr} (hp : w.heap.size ≤ p.block) (u : Value) : KeepBut w (w1.setCell p u) g none :=
  ⟨by simpa [World.setCell] using h.1, fun i hi hne _ => (Below.heap_setCell w1 p u i (by omega)).trans (h.2 i hi hne (by simp))⟩

/-- The state of value's walk, behind its first two statements. -/
structure VS (w0 w W : World) (g : Nat) (B : List Int) (i : Int) (g1 g2 g3 g4 g5 : Nat) (us ts fs os : Array Value) : Prop where
  src : IsS69 w0 W g B i
  bel : Below w0.heap.size w0 W
  kp : KeepBut w W g none
  ne : w0.heap.size ≤ w.heap.size ∧ g < w.heap.size ∧ w.heap.size ≤ g1 ∧ g1 < g2 ∧ g2 < g3 ∧ g3 < g4 ∧ g4 < g5
  s : W.heap[g1]? = some (.cells us 34 (0, 0))
  t : W.heap[g2]? = some (.cells ts 45 (0, 0))
  f : W.heap[g3]? = some (.cells fs 47 (0, 0))
  r : W.heap[g4]? = some (.cells #[.int .u64 0, .slice none 0 0, .slice none 0 0, .bool false] 29 (0, 0))
  o : W.heap[g5]? = some (.cells os 29 (0, 0))
namespace VS
variable {w0 w W W' : World} {g : Nat} {B : List Int} {i j : Int} {g1 g2 g3 g4 g5 : Nat} {us ts fs os : Array Value}
theorem size (h : VS w0 w W g B i g1 g2 g3 g4 g5 us ts fs os) : g5 + 1 ≤ W.heap.size := blk_lt h.o
theorem call (h : VS w0 w W g B i g1 g2 g3 g4 g5 us ts fs os) (hs : IsS69 w0 W' g B j) (hb : Below w0.heap.size w0 W') (hk : KeepBut W W' g none) : VS w0 w W' g B j g1 g2 g3 g4 g5 us ts fs os :=
  have n := h.ne
  ⟨hs, hb, keep_trans h.kp hk, n, hk.blk h.s (by omega) (by simp), hk.blk h.t (by omega) (by simp), hk.blk h.f (by omega) (by simp), hk.blk h.r (by omega) (by simp), hk.blk h.o (by omega) (by simp)⟩
theorem below (h : VS w0 w W g B i g1 g2 g3 g4 g5 us ts fs os) (hb : Below W.heap.size W W') : VS w0 w W' g B i g1 g2 g3 g4 g5 us ts fs os :=
  ⟨h.src.below hb, below_then h.bel h.bel.size hb, keep_trans h.kp (KeepBut.of_below hb g none), h.ne, (hb.block _ (blk_lt h.s)).trans h.s, (hb.block _ (blk_lt h.t)).trans h.t, (hb.block _ (blk_lt h.f)).trans h.f, (hb.block _ (blk_lt h.r)).trans h.r, (hb.block _ (blk_lt h.o)).trans h.o⟩
theorem grown (h : VS w0 w W g B i g1 g2 g3 g4 g5 us ts fs os) {row : Option Nat} (hg : W.grownBy W' row) (hr : ∀ k, row = some k → g5 + 1 ≤ k) : VS w0 w W' g B i g1 g2 g3 g4 g5 us ts fs os :=
  have n := h.ne
  have ne : ∀ k, k ≤ g5 → some k ≠ row := fun k hk e => by have := hr k e.symm; omega
  ⟨h.src.grown hg (ne g (by omega)), h.bel.grown hg h.bel.size (fun k e => by have := hr k e; omega), keep_grown h.kp hg (fun k e => by have := hr k e; omega), n,
   blk_grown h.s hg (ne _ (by omega)), blk_grown h.t hg (ne _ (by omega)), blk_grown h.f hg (ne _ (by omega)), blk_grown h.r hg (ne _ (by omega)), blk_grown h.o hg (ne _ (by omega))⟩
theorem set (h : VS w0 w W g B i g1 g2 g3 g4 g5 us ts fs os) (q : Nat) (u : Value) : VS w0 w (W.setCell ⟨g5, q, none⟩ u) g B i g1 g2 g3 g4 g5 us ts fs (os.setIfInBounds q u) :=
  have n := h.ne
  ⟨h.src.far (p := ⟨g5, q, none⟩) (by show g ≠ g5; omega) u, Below.setCell h.bel (p := ⟨g5, q, none⟩) (by show w0.heap.size ≤ g5; omega) u, keep_set h.kp (p := ⟨g5, q, none⟩) (by show w.heap.size ≤ g5; omega) u, n,
   blk_far h.s (p := ⟨g5, q, none⟩) (by show g1 ≠ g5; omega) u, blk_far h.t (p := ⟨g5, q, none⟩) (by show g2 ≠ g5; omega) u, blk_far h.f (p := ⟨g5, q, none⟩) (by show g3 ≠ g5; omega) u, blk_far h.r (p := ⟨g5, q, none⟩) (by show g4 ≠ g5; omega) u, blk_set h.o q u⟩
end VS
theorem vs_new (w0 w : World) (g : Nat) (B : List Int) (i : Int) (us ts fs : Array Value) (hs : IsS69 w0 w g B i) (hb : Below w0.heap.size w0 w) {g1 g2 g3 g4 g5 : Nat} (e1 : w.heap.size = g1) (e2 : g1 + 1 = g2) (e3 : g2 + 1 = g3) (e4 : g3 + 1 = g4) (e5 : g4 + 1 = g5) {W : World}
    (hW : (((((w.alloc (.cells us 34)).alloc (.cells ts 45)).alloc (.cells fs 47)).alloc (.cells #[.int .u64 0, .slice none 0 0, .slice none 0 0, .bool false] 29)).alloc (.cells #[.int .u64 0, .slice none 0 0, .slice none 0 0, .bool false] 29)) = W) :
    VS w0 w W g B i g1 g2 g3 g4 g5 us ts fs #[.int .u64 0, .slice none 0 0, .slice none 0 0, .bool false] := by
  subst e1 e2 e3 e4 e5 hW
  obtain ⟨w1, h1⟩ : ∃ w1, w.alloc (.cells us 34) = w1 := ⟨_, rfl⟩
  obtain ⟨w2, h2⟩ : ∃ w2, w1.alloc (.cells ts 45) = w2 := ⟨_, rfl⟩
  obtain ⟨w3, h3⟩ : ∃ w3, w2.alloc (.cells fs 47) = w3 := ⟨_, rfl⟩
  obtain ⟨w4, h4⟩ : ∃ w4, w3.alloc (.cells #[.int .u64 0, .slice none 0 0, .slice none 0 0, .bool false] 29) = w4 := ⟨_, rfl⟩
  have s1 : w1.heap.size = w.heap.size + 1 := by rw [← h1]; simp
  have s2 : w2.heap.size = w.heap.size + 1 + 1 := by rw [← h2]; simp [s1]
  have s3 : w3.heap.size = w.heap.size + 1 + 1 + 1 := by rw [← h3]; simp [s2]
  have s4 : w4.heap.size = w.heap.size + 1 + 1 + 1 + 1 := by rw [← h4]; simp [s3]
  have a1 := heap_alloc_new w (.cells us 34)
  have a2 := heap_alloc_new w1 (.cells ts 45)
  have a3 := heap_alloc_new w2 (.cells fs 47)
  have a4 := heap_alloc_new w3 (.cells #[.int .u64 0, .slice none 0 0, .slice none 0 0, .bool false] 29)
  have a5 := heap_alloc_new w4 (.cells #[.int .u64 0, .slice none 0 0, .slice none 0 0, .bool false] 29)
  have b1 := below_alloc (Below.refl w.heap.size w) (.cells us 34)
  have b2 := below_alloc (Below.refl w1.heap.size w1) (.cells ts 45)
  have b3 := below_alloc (Below.refl w2.heap.size w2) (.cells fs 47)
  have b4 := below_alloc (Below.refl w3.heap.size w3) (.cells #[.int .u64 0, .slice none 0 0, .slice none 0 0, .bool false] 29)
  have b5 := below_alloc (Below.refl w4.heap.size w4) (.cells #[.int .u64 0, .slice none 0 0, .slice none 0 0, .bool false] 29)
  rw [h1] at a1 b1
  rw [h2] at a2 b2
  rw [h3] at a3 b3
  rw [h4] at a4 b4
  rw [h1, h2, h3, h4]
  rw [s1] at a2 b2
  rw [s2] at a3 b3
  rw [s3] at a4 b4
  rw [s4] at a5 b5
  have c5 := below_then (below_then (below_then (below_then b1 b1.size (by rw [s1]; exact b2)) (by omega) (by rw [s2]; exact b3)) (by omega) (by rw [s3]; exact b4)) (by omega) (by rw [s4]; exact b5)
  have hl := hs.lt
  have hsz := hb.size
  refine ⟨hs.below c5, below_then hb hsz c5, KeepBut.of_below c5 g none, ⟨hsz, hl, by omega, by omega, by omega, by omega, by omega⟩, ?_, ?_, ?_, ?_, a5⟩
  · exact (b5.block _ (by omega)).trans ((b4.block _ (by omega)).trans ((b3.block _ (by omega)).trans ((b2.block _ (by omega)).trans a1)))
  · exact (b5.block _ (by omega)).trans ((b4.block _ (by omega)).trans ((b3.block _ (by omega)).trans a2))
  · exact (b5.block _ (by omega)).trans ((b4.block _ (by omega)).trans a3)
  · exact (b5.block _ (by omega)).trans a4

/-- The end of value's walk: what is made stands in the result's block. -/
theorem vs_end {w0 w W : World} {g : Nat} {B : List Int} {i : Int} {g1 g2 g3 g4 g5 : Nat} {us ts fs : Array Value} {x0 x1 x2 x3 : Value} (h : VS w0 w W g B i g1 g2 g3 g4 g5 us ts fs #[x0, x1, x2, x3]) {W' : World}
    (hW : (((W.setCell ⟨g4, 0, none⟩ x0).setCell ⟨g4, 1, none⟩ x1).setCell ⟨g4, 2, none⟩ x2).setCell ⟨g4, 3, none⟩ x3 = W') :
    (W'.cell? ⟨g4, 0, none⟩ = some x0 ∧ W'.cell? ⟨g4, 1, none⟩ = some x1 ∧ W'.cell? ⟨g4, 2, none⟩ = some x2 ∧ W'.cell? ⟨g4, 3, none⟩ = some x3) ∧
    (IsS69 w0 W' g B i ∧ Below w0.heap.size w0 W' ∧ KeepBut w W' g none) ∧ ∀ {α : Type} {d : Kd α} {e : Nat} {v : Value} {xs : List α}, Rb d e W (g5 + 1) v xs → Rb d e W' w.heap.size v xs := by
  subst hW
  have n := h.ne
  have b0 := blk_set (blk_set (blk_set (blk_set h.r 0 x0) 1 x1) 2 x2) 3 x3
  refine ⟨⟨(blk_cell b0 0).trans rfl, (blk_cell b0 1).trans rfl, (blk_cell b0 2).trans rfl, (blk_cell b0 3).trans rfl⟩, ⟨?_, ?_, ?_⟩, fun hr => ?_⟩
  · exact (((h.src.far (p := ⟨g4, 0, none⟩) (by show g ≠ g4; omega) x0).far (p := ⟨g4, 1, none⟩) (by show g ≠ g4; omega) x1).far (p := ⟨g4, 2, none⟩) (by show g ≠ g4; omega) x2).far (p := ⟨g4, 3, none⟩) (by show g ≠ g4; omega) x3
  · exact Below.setCell (Below.setCell (Below.setCell (Below.setCell h.bel (p := ⟨g4, 0, none⟩) (by show w0.heap.size ≤ g4; omega) x0) (p := ⟨g4, 1, none⟩) (by show w0.heap.size ≤ g4; omega) x1) (p := ⟨g4, 2, none⟩) (by show w0.heap.size ≤ g4; omega) x2) (p := ⟨g4, 3, none⟩) (by show w0.heap.size ≤ g4; omega) x3
  · exact keep_set (keep_set (keep_set (keep_set h.kp (p := ⟨g4, 0, none⟩) (by show w.heap.size ≤ g4; omega) x0) (p := ⟨g4, 1, none⟩) (by show w.heap.size ≤ g4; omega) x1) (p := ⟨g4, 2, none⟩) (by show w.heap.size ≤ g4; omega) x2) (p := ⟨g4, 3, none⟩) (by show w.heap.size ≤ g4; omega) x3
  · exact Rb.lower (Rb.set (p := ⟨g4, 3, none⟩) (Rb.set (p := ⟨g4, 2, none⟩) (Rb.set (p := ⟨g4, 1, none⟩) (Rb.set (p := ⟨g4, 0, none⟩) hr (by show g4 < g5 + 1; omega) x0) (by show g4 < g5 + 1; omega) x1) (by show g4 < g5 + 1; omega) x2) (by show g4 < g5 + 1; omega) x3) (by omega)

/-- What value comes to. -/
def VPost (st : List S50) (en : List S58) (root : Int) (B : List Int) (left : Nat) (kd rf ls : Int) (sure : Bool) (i : Int) (w0 w : World) (g : Nat) (e : Ending) (w' : World) : Prop :=
  ∃ (v : S29) (j : Int) (v1 v2 : Value), e = .returned (.agg #[.int .u64 v.f0, v1, v2, .bool v.f3]) ∧ Rb (Kd.int .u8) 5 w' w.heap.size v1 v.f1 ∧ Rb k29 29 w' w.heap.size v2 v.f2 ∧
    IsS69 w0 w' g B j ∧ Below w0.heap.size w0 w' ∧ KeepBut w w' g none ∧ VOk st en root B.length left kd rf ls sure i j v
end Go.Proofs.YthilhndejhnlnaaDoor.Hand
end

section
/- value: its walk where bytes are made. -/
namespace Go.Proofs.YthilhndejhnlnaaDoor.Hand
open Go.RowKit Go.Proofs.YthilhndejhnlnaaDoor.QAll Go.Proofs.YthilhndejhnlnaaDoorW.PrintWords Go.Proofs.YthilhndejhnlnaaDoorW.PrintLast Go.Proofs.YthilhndejhnlnaaDoorW.PrintMore Go.Proofs.YthilhndejhnlnaaDoor.Mk
set_option linter.unusedVariables false
set_option linter.unusedSimpArgs false
abbrev fV (f : S47) : Value := .agg #[.string f.f0, .int .u8 f.f1.f0, .int .i64 f.f1.f1, .int .i64 f.f1.f2, .int .u64 f.f2]
set_option maxHeartbeats 6400000 in
set_option maxRecDepth 100000 in
theorem value_data {st : List S50} {en : List S58} {root : Int} {B : List Int} (hB : BytesOk B) (left : Nat) (rf : Int) (f : S47) (sure : Bool) (i : Int) (us : Value) (w0 w : World) (g : Nat) (i0 : 0 ≤ i) (i1 : i ≤ B.length)
    (hs : IsS69 w0 w g B i) (hb : Below w0.heap.size w0 w) (hS : ∃ a b c, us = .agg #[a, b, c]) :
    Calls Tryd.prog 19 #[us, tyV 12 rf 0, .pointer (some ⟨g, 0, none⟩), .int .i64 left, fV f, .bool sure] w (VPost st en root B left 12 rf 0 sure i w0 w g) := by
  obtain ⟨a, b, d, rfl⟩ := hS
  obtain ⟨c, j, hc, c0, c1, j0, j1, hrun, hfin⟩ := next_f hB i i0 i1
  obtain ⟨g1, e1⟩ : ∃ g1, w.heap.size = g1 := ⟨_, rfl⟩
  obtain ⟨g2, e2⟩ : ∃ g2, g1 + 1 = g2 := ⟨_, rfl⟩
  obtain ⟨g3, e3⟩ : ∃ g3, g2 + 1 = g3 := ⟨_, rfl⟩
  obtain ⟨g4, e4⟩ : ∃ g4, g3 + 1 = g4 := ⟨_, rfl⟩
  obtain ⟨g5, e5⟩ : ∃ g5, g4 + 1 = g5 := ⟨_, rfl⟩
  obtain ⟨w1, hw1⟩ : ∃ w1, (((((w.alloc (.cells #[a, b, d] 34)).alloc (.cells #[.int .u8 12, .int .i64 rf, .int .i64 0] 45)).alloc (.cells #[.string f.f0, .int .u8 f.f1.f0, .int .i64 f.f1.f1, .int .i64 f.f1.f2, .int .u64 f.f2] 47)).alloc (.cells #[.int .u64 0, .slice none 0 0, .slice none 0 0, .bool false] 29)).alloc (.cells #[.int .u64 0, .slice none 0 0, .slice none 0 0, .bool false] 29)) = w1 := ⟨_, rfl⟩
  have HV1 := Aside0.mk (vs_new w0 w g B i _ _ _ hs hb e1 e2 e3 e4 e5 hw1)
  have HEQ := Aside0.mk (And.intro e1 (And.intro e2 (And.intro e3 (And.intro e4 (And.intro e5 hw1)))))
  have HN := Aside0.mk (transomhand05_Source_next.calls g B i c j w0 w1 HV1.out.src HV1.out.bel hc)
  have HC : Aside0 (0 ≤ c ∧ c < 256 ∧ i ≤ j ∧ j ≤ B.length ∧ 0 ≤ i ∧ (i < B.length → j = i + 1) ∧ (i = B.length → c = 0 ∧ j = i)) := ⟨c0, c1, j0, j1, i0, hrun, hfin⟩
  clear hc j0 j1 hrun hfin e1 e2 e3 e4 e5 hw1 hs hb i0 i1
  go_enter Tryd.func19, Tryd.ntmps19
  go_upto_region 2 with (fail)
  rw [HEQ.out.1, HEQ.out.2.1, HEQ.out.2.2.1, HEQ.out.2.2.2.1, HEQ.out.2.2.2.2.1, HEQ.out.2.2.2.2.2]
  go_upto_region 8 with (go_at_call 30; (with_reducible refine HN.out.mono ?_); rintro e w2 ⟨rfl, hs2, hb2, hk2⟩; have HV2 := Aside0.mk (HV1.out.call hs2 hb2 hk2); clear hs2 hb2 hk2)
  have t0 : w2.cell? ⟨g2, 0, none⟩ = some (.int .u8 12) := (blk_cell HV2.out.t 0).trans rfl
  have t1 : w2.cell? ⟨g2, 1, none⟩ = some (.int .i64 rf) := (blk_cell HV2.out.t 1).trans rfl
  have t2 : w2.cell? ⟨g2, 2, none⟩ = some (.int .i64 0) := (blk_cell HV2.out.t 2).trans rfl
  have HNUM : Aside0 (transomref05_IsNum.f 6 12 rf 0 = some false) := ⟨isnum_f 12 rf 0 (by decide) (by decide)⟩
  go_upto_region 31 with (go_at_call 15; (with_reducible refine (transomref05_IsNum.calls 6 12 rf 0 false _ HNUM.out).mono ?_); rintro e w3 ⟨rfl, hb3⟩; have HV3 := Aside0.mk (HV2.out.below hb3); clear hb3 t0 t1 t2)
  have t0 : w3.cell? ⟨g2, 0, none⟩ = some (.int .u8 12) := (blk_cell HV3.out.t 0).trans rfl
  obtain ⟨m, hm, hm7⟩ : ∃ m : Nat, Int.tmod c 7 = m ∧ m < 7 := ⟨(c % 7).toNat, by rw [tm c 7 HC.out.1 (by decide)]; have := HC.out; omega, by have := HC.out; omega⟩
  have HM := Aside0.mk hm7
  clear hm7
  go_wp2_with (fail)
  clear t0
  go_loopg [25] 7 (fun kq v25 wr => ∃ (q : Nat) (jq : Int) (bs : List Int) (v1 : Value), v25 = .int .i64 q ∧ Aside0 (q ≤ m) ∧ Aside0 (m < kq + q) ∧ Aside0 (bs.length = q ∧ (∀ x ∈ bs, 0 ≤ x ∧ x < 256)) ∧ Aside0 (j ≤ jq ∧ jq ≤ B.length) ∧
      Aside0 (VS w0 w wr g B jq g1 g2 g3 g4 g5 #[a, b, d] #[.int .u8 12, .int .i64 rf, .int .i64 0] #[.string f.f0, .int .u8 f.f1.f0, .int .i64 f.f1.f1, .int .i64 f.f1.f2, .int .u64 f.f2] #[.int .u64 0, v1, .slice none 0 0, .bool false]) ∧
      Aside0 (Rb (Kd.int .u8) 5 wr (g5 + 1) v1 bs))
  case atStart => exact ⟨0, j, [], .slice none 0 0, rfl, ⟨Nat.zero_le _⟩, ⟨HM.out⟩, ⟨rfl, fun _ h => by cases h⟩, ⟨by omega, HC.out.2.2.2.1⟩, HV3, ⟨Rb.nil _ _ _ _⟩⟩
  case round =>
    obtain ⟨q, jq, bs, v1, rfl, HQ, HK, HBS, HJ, HV, HR⟩ := hrel
    obtain ⟨n, rfl⟩ : ∃ n, gk = n + 1 := ⟨gk - 1, by have := HK.out; have := HQ.out; omega⟩
    obtain ⟨A, cc, rfl, -, -⟩ := HR.out.slice
    by_cases p : q < m
    · have p1 : decide (q < m) = true := decide_eq_true p
      have p2 : decide ((q : Int) < (m : Int)) = true := decide_eq_true (by omega)
      obtain ⟨c', j', hc', c0', c1', j0', j1', -, -⟩ := next_f hB jq (by have := HJ.out; have := HC.out; omega) HJ.out.2
      have HN2 := Aside0.mk (transomhand05_Source_next.calls g B jq c' j' w0 wr HV.out.src HV.out.bel hc')
      have wc : IntKind.u8.wrap c' = c' := by rw [IntKind.wrap_u8]; omega
      have HP := Aside0.mk p
      have hq6 : q ≤ 6 := by have := HM.out; omega
      have HC2 : Aside0 (0 ≤ c' ∧ c' < 256 ∧ jq ≤ j' ∧ j' ≤ B.length) := ⟨c0', c1', j0', j1'⟩
      clear hc' j0' j1' c0' c1' p
      go_upto_region 7 with (go_at_call 30; (with_reducible refine HN2.out.mono ?_); rintro e w4 ⟨rfl, hs4, hb4, hk4⟩; have HV4 := Aside0.mk (HV.out.call hs4 hb4 hk4); have HR4 := Aside0.mk (HR.out.keep hk4 (by have := HV.out.ne; omega)); clear hs4 hb4 hk4)
      have o1 : w4.cell? ⟨g5, 1, none⟩ = some (.slice A bs.length cc) := (blk_cell HV4.out.o 1).trans rfl
      go_wp2_with ((with_reducible refine gate_builtin (b := .append) (xs := #[.tmp 39, .tmp 42]) rfl ?_); at_builtin; refine Kd.R_append (Kd.int .u8) (w0 := w4) (W := w4) (g5 + 1) rfl (.tmp 39) (.tmp 42) 22 5 (.int .u8 0) 1 rfl Tryd.underlying22 info5 rfl (by decide) (by decide) (.slice A bs.length cc) bs c' [.int .u8 c'] (fun _ => True) (fun _ => False) rfl rfl rfl (fun _ h => h.elim) (fun _ _ => trivial) HR4.out (Below.refl _ _) HV4.out.size (by have := HBS.out; have := HQ.out; have := HM.out; omega) ?_)
      intro v9 w9 hr9 hb9 hg9 hat9
      obtain ⟨A9, c9, e9, -, -⟩ := Rb.slice hr9
      rw [List.length_append, List.length_singleton] at e9
      subst e9
      have HV9 := Aside0.mk (HV4.out.grown hg9 (fun k hk => (HR4.out.bas k hk).1))
      have HR9 := Aside0.mk hr9
      have o9 : w9.cell? ⟨g5, 1, none⟩ = some (.slice A bs.length cc) := (blk_cell HV9.out.o 1).trans rfl
      have f9 := blk_frozen HV9.out.o 1
      clear hr9 hb9 hg9 hat9 o1
      go_wp2_with (fail)
      go_roundg n
      case measure => omega
      case rel =>
        exact ⟨q + 1, j', bs ++ [c'], .slice A9 (bs.length + 1) c9, by go_num, ⟨by have := HP.out; omega⟩, ⟨by have := HK.out; omega⟩, ⟨by rw [List.length_append, HBS.out.1]; rfl, fun x hx => by
          rcases List.mem_append.1 hx with h | h
          · exact HBS.out.2 x h
          · rw [List.mem_singleton] at h; subst h; exact ⟨HC2.out.1, HC2.out.2.1⟩⟩, ⟨by have := HC2.out; have := HJ.out; omega, HC2.out.2.2.2⟩, ⟨HV9.out.set 1 (.slice A9 (bs.length + 1) c9)⟩, ⟨Rb.set (p := ⟨g5, 1, none⟩) HR9.out (Nat.lt_succ_self _) _⟩⟩
    · have p1 : decide (q < m) = false := decide_eq_false p
      have p2 : decide ((q : Int) < (m : Int)) = false := decide_eq_false (by omega)
      have o0 : wr.cell? ⟨g5, 0, none⟩ = some (.int .u64 0) := (blk_cell HV.out.o 0).trans rfl
      have o1 : wr.cell? ⟨g5, 1, none⟩ = some (.slice A bs.length cc) := (blk_cell HV.out.o 1).trans rfl
      have o2 : wr.cell? ⟨g5, 2, none⟩ = some (.slice none 0 0) := (blk_cell HV.out.o 2).trans rfl
      have o3 : wr.cell? ⟨g5, 3, none⟩ = some (.bool false) := (blk_cell HV.out.o 3).trans rfl
      have r0 : wr.cell? ⟨g4, 0, none⟩ = some (.int .u64 0) := (blk_cell HV.out.r 0).trans rfl
      have r1 : wr.cell? ⟨g4, 1, none⟩ = some (.slice none 0 0) := (blk_cell HV.out.r 1).trans rfl
      have r2 : wr.cell? ⟨g4, 2, none⟩ = some (.slice none 0 0) := (blk_cell HV.out.r 2).trans rfl
      have r3 : wr.cell? ⟨g4, 3, none⟩ = some (.bool false) := (blk_cell HV.out.r 3).trans rfl
      have y0 := blk_frozen HV.out.r 0
      have y1 := blk_frozen HV.out.r 1
      have y2 := blk_frozen HV.out.r 2
      have y3 := blk_frozen HV.out.r 3
      go_wp2_with (fail)
      clear o0 o1 o2 o3 r0 r1 r2 r3 y0 y1 y2 y3
      obtain ⟨wz, hwz⟩ : ∃ wz, (((wr.setCell ⟨g4, 0, none⟩ (.int .u64 0)).setCell ⟨g4, 1, none⟩ (.slice A bs.length cc)).setCell ⟨g4, 2, none⟩ (.slice none 0 0)).setCell ⟨g4, 3, none⟩ (.bool false) = wz := ⟨_, rfl⟩
      rw [hwz]
      obtain ⟨⟨z0, z1, z2, z3⟩, ⟨hs, hb, hk⟩, hrows⟩ := vs_end HV.out hwz
      refine bodyPost_ret (v := .agg #[.int .u64 0, .slice A bs.length cc, .slice none 0 0, .bool false]) (by simp [results, Tryd.results19, go_sem, z0, z1, z2, z3]) rfl ⟨⟨0, bs, [], false⟩, jq, _, _, rfl, hrows HR.out, Rb.nil _ _ _ _, hs, hb, hk, ?_⟩
      have h1 := HC.out
      have h2 := HBS.out
      have h3 := HJ.out
      have h4 := HQ.out
      have h5 := HM.out
      refine ⟨?_, fun _ _ h => absurd h (by decide), ?_, by omega, fun h => ?_, fun h => ?_⟩
      · cases left <;> simp [fitsB, leafB, szB]
      · simp only [rng, rngs]; exact ⟨⟨by decide, by decide⟩, h2.2, trivial⟩
      · simp only [wt, wts]; have := h1.2.2.2.2.2.1 h; omega
      · have hc0 := (h1.2.2.2.2.2.2 h).1
        rw [hc0] at hm
        have : (m : Int) = 0 := by rw [← hm]; rfl
        simp only [wt, wts]
        exact ⟨by omega, fun _ => by omega⟩
end Go.Proofs.YthilhndejhnlnaaDoor.Hand
end

section
/- value: its walk where a text is made. -/
namespace Go.Proofs.YthilhndejhnlnaaDoor.Hand
open Go.RowKit Go.Proofs.YthilhndejhnlnaaDoor.QAll Go.Proofs.YthilhndejhnlnaaDoorW.PrintWords Go.Proofs.YthilhndejhnlnaaDoorW.PrintLast Go.Proofs.YthilhndejhnlnaaDoorW.PrintMore Go.Proofs.YthilhndejhnlnaaDoor.Mk
set_option linter.unusedVariables false
set_option linter.unusedSimpArgs false
theorem strCells_encs (s : ByteArray) : Lib.strCells s = encs (Value.int .u8) (bytesOf s) := by simp [encs, bytesOf, Lib.strCells]
theorem pcs_cell {W : World} {gp : Nat} (h : W.heap[gp]? = some (.cells #[.string ⟨#[97]⟩, .string ⟨#[]⟩, .string ⟨#[34]⟩, .string ⟨#[92]⟩, .string ⟨#[10]⟩, .string ⟨#[1]⟩, .string ⟨#[195, 169]⟩, .string ⟨#[226, 130, 172]⟩, .string ⟨#[240, 159, 152, 128]⟩, .string ⟨#[0]⟩, .string ⟨#[47]⟩, .string ⟨#[127]⟩] 9 (0, 0))) (r : Nat) (hr : r < 12) :
    W.cell? ⟨gp, r, none⟩ = some (.string (pcs.getD r ByteArray.empty)) := by
  refine (blk_cell h r).trans ?_
  match r, hr with
  | 0, _ | 1, _ | 2, _ | 3, _ | 4, _ | 5, _ | 6, _ | 7, _ | 8, _ | 9, _ | 10, _ | 11, _ => rfl
set_option maxHeartbeats 6400000 in
set_option maxRecDepth 100000 in
theorem value_text {st : List S50} {en : List S58} {root : Int} {B : List Int} (hB : BytesOk B) (left : Nat) (rf : Int) (f : S47) (sure : Bool) (i : Int) (us : Value) (w0 w : World) (g : Nat) (i0 : 0 ≤ i) (i1 : i ≤ B.length)
    (hs : IsS69 w0 w g B i) (hb : Below w0.heap.size w0 w) (hS : ∃ a b c, us = .agg #[a, b, c]) :
    Calls Tryd.prog 19 #[us, tyV 11 rf 0, .pointer (some ⟨g, 0, none⟩), .int .i64 left, fV f, .bool sure] w (VPost st en root B left 11 rf 0 sure i w0 w g) := by
  obtain ⟨a, b, d, rfl⟩ := hS
  obtain ⟨c, j, hc, c0, c1, j0, j1, hrun, hfin⟩ := next_f hB i i0 i1
  obtain ⟨g1, e1⟩ : ∃ g1, w.heap.size = g1 := ⟨_, rfl⟩
  obtain ⟨g2, e2⟩ : ∃ g2, g1 + 1 = g2 := ⟨_, rfl⟩
  obtain ⟨g3, e3⟩ : ∃ g3, g2 + 1 = g3 := ⟨_, rfl⟩
  obtain ⟨g4, e4⟩ : ∃ g4, g3 + 1 = g4 := ⟨_, rfl⟩
  obtain ⟨g5, e5⟩ : ∃ g5, g4 + 1 = g5 := ⟨_, rfl⟩
  obtain ⟨w1, hw1⟩ : ∃ w1, (((((w.alloc (.cells #[a, b, d] 34)).alloc (.cells #[.int .u8 11, .int .i64 rf, .int .i64 0] 45)).alloc (.cells #[.string f.f0, .int .u8 f.f1.f0, .int .i64 f.f1.f1, .int .i64 f.f1.f2, .int .u64 f.f2] 47)).alloc (.cells #[.int .u64 0, .slice none 0 0, .slice none 0 0, .bool false] 29)).alloc (.cells #[.int .u64 0, .slice none 0 0, .slice none 0 0, .bool false] 29)) = w1 := ⟨_, rfl⟩
  have HV1 := Aside0.mk (vs_new w0 w g B i _ _ _ hs hb e1 e2 e3 e4 e5 hw1)
  have HEQ := Aside0.mk (And.intro e1 (And.intro e2 (And.intro e3 (And.intro e4 (And.intro e5 hw1)))))
  have HN := Aside0.mk (transomhand05_Source_next.calls g B i c j w0 w1 HV1.out.src HV1.out.bel hc)
  have HC : Aside0 (0 ≤ c ∧ c < 256 ∧ i ≤ j ∧ j ≤ B.length ∧ 0 ≤ i ∧ (i < B.length → j = i + 1) ∧ (i = B.length → c = 0 ∧ j = i)) := ⟨c0, c1, j0, j1, i0, hrun, hfin⟩
  clear hc j0 j1 hrun hfin e1 e2 e3 e4 e5 hw1 hs hb i0 i1
  go_enter Tryd.func19, Tryd.ntmps19
  go_upto_region 2 with (fail)
  rw [HEQ.out.1, HEQ.out.2.1, HEQ.out.2.2.1, HEQ.out.2.2.2.1, HEQ.out.2.2.2.2.1, HEQ.out.2.2.2.2.2]
  go_upto_region 8 with (go_at_call 30; (with_reducible refine HN.out.mono ?_); rintro e w2 ⟨rfl, hs2, hb2, hk2⟩; have HV2 := Aside0.mk (HV1.out.call hs2 hb2 hk2); clear hs2 hb2 hk2)
  have t0 : w2.cell? ⟨g2, 0, none⟩ = some (.int .u8 11) := (blk_cell HV2.out.t 0).trans rfl
  have t1 : w2.cell? ⟨g2, 1, none⟩ = some (.int .i64 rf) := (blk_cell HV2.out.t 1).trans rfl
  have t2 : w2.cell? ⟨g2, 2, none⟩ = some (.int .i64 0) := (blk_cell HV2.out.t 2).trans rfl
  have HNUM : Aside0 (transomref05_IsNum.f 6 11 rf 0 = some false) := ⟨isnum_f 11 rf 0 (by decide) (by decide)⟩
  go_upto_region 31 with (go_at_call 15; (with_reducible refine (transomref05_IsNum.calls 6 11 rf 0 false _ HNUM.out).mono ?_); rintro e w3 ⟨rfl, hb3⟩; have HV3 := Aside0.mk (HV2.out.below hb3); clear hb3 t0 t1 t2)
  have t0 : w3.cell? ⟨g2, 0, none⟩ = some (.int .u8 11) := (blk_cell HV3.out.t 0).trans rfl
  obtain ⟨m, hm, hm7⟩ : ∃ m : Nat, Int.tmod c 6 = m ∧ m < 6 := ⟨(c % 6).toNat, by rw [tm c 6 HC.out.1 (by decide)]; have := HC.out; omega, by have := HC.out; omega⟩
  have HM := Aside0.mk hm7
  clear hm7
  go_wp2_with (fail)
  clear t0
  obtain ⟨gp, hgp⟩ : ∃ gp, w3.heap.size = gp := ⟨_, rfl⟩
  have HPB0 := Aside0.mk (heap_alloc_new w3 (.cells #[.string ⟨#[97]⟩, .string ⟨#[]⟩, .string ⟨#[34]⟩, .string ⟨#[92]⟩, .string ⟨#[10]⟩, .string ⟨#[1]⟩, .string ⟨#[195, 169]⟩, .string ⟨#[226, 130, 172]⟩, .string ⟨#[240, 159, 152, 128]⟩, .string ⟨#[0]⟩, .string ⟨#[47]⟩, .string ⟨#[127]⟩] 9))
  obtain ⟨w5, hw5⟩ : ∃ w5, w3.alloc (.cells #[.string ⟨#[97]⟩, .string ⟨#[]⟩, .string ⟨#[34]⟩, .string ⟨#[92]⟩, .string ⟨#[10]⟩, .string ⟨#[1]⟩, .string ⟨#[195, 169]⟩, .string ⟨#[226, 130, 172]⟩, .string ⟨#[240, 159, 152, 128]⟩, .string ⟨#[0]⟩, .string ⟨#[47]⟩, .string ⟨#[127]⟩] 9) = w5 := ⟨_, rfl⟩
  have HV5 : Aside0 (VS w0 w w5 g B j g1 g2 g3 g4 g5 #[a, b, d] #[.int .u8 11, .int .i64 rf, .int .i64 0] #[.string f.f0, .int .u8 f.f1.f0, .int .i64 f.f1.f1, .int .i64 f.f1.f2, .int .u64 f.f2] #[.int .u64 0, .slice none 0 0, .slice none 0 0, .bool false]) := ⟨by rw [← hw5]; exact HV3.out.below (below_alloc (Below.refl _ _) _)⟩
  have HGP : Aside0 (g5 + 1 ≤ gp) := ⟨by rw [← hgp]; exact HV3.out.size⟩
  rw [hw5, hgp] at HPB0
  rw [hw5, hgp]
  clear hw5 hgp
  go_loopg [23] 6 (fun kq v23 wr => ∃ (q : Nat) (jq : Int) (bs : List Int) (v1 : Value), v23 = .int .i64 q ∧ Aside0 (q ≤ m) ∧ Aside0 (m < kq + q) ∧ Aside0 (bs.length ≤ 4 * q ∧ (∀ x ∈ bs, 0 ≤ x ∧ x < 256) ∧ SgL bs) ∧ Aside0 (j ≤ jq ∧ jq ≤ B.length) ∧
      Aside0 (VS w0 w wr g B jq g1 g2 g3 g4 g5 #[a, b, d] #[.int .u8 11, .int .i64 rf, .int .i64 0] #[.string f.f0, .int .u8 f.f1.f0, .int .i64 f.f1.f1, .int .i64 f.f1.f2, .int .u64 f.f2] #[.int .u64 0, v1, .slice none 0 0, .bool false]) ∧
      Aside0 (Rb (Kd.int .u8) 5 wr (gp + 1) v1 bs) ∧ Aside0 (wr.heap[gp]? = some (.cells #[.string ⟨#[97]⟩, .string ⟨#[]⟩, .string ⟨#[34]⟩, .string ⟨#[92]⟩, .string ⟨#[10]⟩, .string ⟨#[1]⟩, .string ⟨#[195, 169]⟩, .string ⟨#[226, 130, 172]⟩, .string ⟨#[240, 159, 152, 128]⟩, .string ⟨#[0]⟩, .string ⟨#[47]⟩, .string ⟨#[127]⟩] 9 (0, 0))))
  case atStart => exact ⟨0, j, [], .slice none 0 0, rfl, ⟨Nat.zero_le _⟩, ⟨HM.out⟩, ⟨by simp, (fun _ h => by cases h), SgL.nil⟩, ⟨by omega, HC.out.2.2.2.1⟩, HV5, ⟨Rb.nil _ _ _ _⟩, HPB0⟩
  case round =>
    obtain ⟨q, jq, bs, v1, rfl, HQ, HK, HBS, HJ, HV, HR, HPB⟩ := hrel
    obtain ⟨n, rfl⟩ : ∃ n, gk = n + 1 := ⟨gk - 1, by have := HK.out; have := HQ.out; omega⟩
    obtain ⟨A, cc, rfl, -, -⟩ := HR.out.slice
    by_cases p : q < m
    · have p1 : decide (q < m) = true := decide_eq_true p
      have p2 : decide ((q : Int) < (m : Int)) = true := decide_eq_true (by omega)
      obtain ⟨c', j', hc', c0', c1', j0', j1', -, -⟩ := next_f hB jq (by have := HJ.out; have := HC.out; omega) HJ.out.2
      have HN2 := Aside0.mk (transomhand05_Source_next.calls g B jq c' j' w0 wr HV.out.src HV.out.bel hc')
      have HP := Aside0.mk p
      have hq6 : q ≤ 6 := by have := HM.out; omega
      have HC2 : Aside0 (0 ≤ c' ∧ c' < 256 ∧ jq ≤ j' ∧ j' ≤ B.length) := ⟨c0', c1', j0', j1'⟩
      obtain ⟨r, hr, hr12⟩ : ∃ r : Nat, Int.tmod c' 12 = r ∧ r < 12 := ⟨(c' % 12).toNat, by rw [tm c' 12 c0' (by decide)]; omega, by omega⟩
      have HPC := Aside0.mk (pc_ok r hr12)
      clear hc' j0' j1' c0' c1' p
      go_upto_region 37 with (go_at_call 30; (with_reducible refine HN2.out.mono ?_); rintro e w4 ⟨rfl, hs4, hb4, hk4⟩; have HV4 := Aside0.mk (HV.out.call hs4 hb4 hk4); have HR4 := Aside0.mk (HR.out.keep hk4 (by have := HV.out.ne; have := HGP.out; omega)); have HPB4 := Aside0.mk (hk4.blk HPB.out (by have := HV.out.ne; have := HGP.out; omega) (by simp)); clear hs4 hb4 hk4)
      have o1 : w4.cell? ⟨g5, 1, none⟩ = some (.slice A bs.length cc) := (blk_cell HV4.out.o 1).trans rfl
      have pc := pcs_cell HPB4.out r hr12
      obtain ⟨P, hP⟩ : ∃ P, pcs.getD r ByteArray.empty = P := ⟨_, rfl⟩
      rw [hP] at pc HPC
      have r0 : (0 : Int) ≤ (r : Int) := Int.natCast_nonneg _
      have r1 : (r : Int) < 12 := by omega
      clear hP
      go_still_tail 9, (by kernel_rfl)
      change wpList _ _ _ _ _ w4.drew
      have HV5 := Aside0.mk (HV4.out.below (below_drew (Below.refl w4.heap.size w4)))
      have HR5 := Aside0.mk (HR4.out.below (below_drew (Below.refl w4.heap.size w4)))
      have HPB5 : Aside0 (w4.drew.heap[gp]? = _) := ⟨HPB4.out⟩
      clear o1 pc r0 r1
      obtain ⟨i0, hi, hz0, hz1, hz2⟩ := info_parts info5
      have HI5 := Aside0.mk hi
      clear hi
      generalize w4.drew = w6 at *
      go_wp2_with ((with_reducible refine gate_builtin (b := .append) (xs := #[.tmp 186, .tmp 193]) rfl ?_); at_builtin; refine Lib.wpList_append_own_string _ rfl (.tmp 186) (.tmp 193) 22 9 rfl (gp + 1) 5 i0 Tryd.underlying22 Tryd.underlying9 HI5.out hz0 hz1 hz2 (.slice A bs.length cc) bs.length (encs (Value.int .u8) bs) rfl (Kd.own_of_R HR5.out) P rfl (by unfold maxLen; have := HBS.out; have := HPC.out; omega) (by have := HBS.out; have := HPC.out; omega) (blk_lt HPB5.out) ?_)
      intro v9 w9 ho9 hg9 _
      have hr9 : Rb (Kd.int .u8) 5 w9 (gp + 1) v9 (bs ++ bytesOf P) := Kd.R_of_own (enc := Value.int .u8) (h1 := fun _ => rfl) (by rw [encs_append, ← strCells_encs, List.length_append, bytesOf_length]; exact ho9) (fun _ _ => trivial)
      obtain ⟨A9, c9, e9, -, -⟩ := Rb.slice hr9
      obtain ⟨L, hL⟩ : ∃ L, (bs ++ bytesOf P).length = L := ⟨_, rfl⟩
      rw [hL] at e9
      subst e9
      have HV9 := Aside0.mk (HV5.out.grown hg9 (fun k hk => by have := (HR5.out.bas k hk).1; have := HGP.out; omega))
      have HR9 := Aside0.mk hr9
      have HPB9 := Aside0.mk (blk_grown HPB5.out hg9 (fun e => by have := (HR5.out.bas gp e.symm).1; omega))
      have o9 : w9.cell? ⟨g5, 1, none⟩ = some (.slice A bs.length cc) := (blk_cell HV9.out.o 1).trans rfl
      have f9 := blk_frozen HV9.out.o 1
      have HGP5 : Aside0 (gp ≠ g5) := ⟨by have := HGP.out; omega⟩
      clear hr9 hg9 hL ho9
      go_wp2_with (fail)
      go_roundg n
      case measure => omega
      case rel =>
        exact ⟨q + 1, j', bs ++ bytesOf P, .slice A9 L c9, by go_num, ⟨by have := HP.out; omega⟩, ⟨by have := HK.out; omega⟩, ⟨by rw [List.length_append, bytesOf_length]; have := HBS.out.1; have := HPC.out.2.1; omega, (fun x hx => by
          rcases List.mem_append.1 hx with h | h
          · exact HBS.out.2.1 x h
          · exact HPC.out.2.2 x h), HBS.out.2.2.append HPC.out.1⟩, ⟨by have := HC2.out; have := HJ.out; omega, HC2.out.2.2.2⟩, ⟨HV9.out.set 1 (.slice A9 L c9)⟩, ⟨Rb.set (p := ⟨g5, 1, none⟩) HR9.out (by show g5 < gp + 1; have := HGP.out; omega) _⟩, ⟨blk_far HPB9.out (p := ⟨g5, 1, none⟩) HGP5.out _⟩⟩
    · have p1 : decide (q < m) = false := decide_eq_false p
      have p2 : decide ((q : Int) < (m : Int)) = false := decide_eq_false (by omega)
      have o0 : wr.cell? ⟨g5, 0, none⟩ = some (.int .u64 0) := (blk_cell HV.out.o 0).trans rfl
      have o1 : wr.cell? ⟨g5, 1, none⟩ = some (.slice A bs.length cc) := (blk_cell HV.out.o 1).trans rfl
      have o2 : wr.cell? ⟨g5, 2, none⟩ = some (.slice none 0 0) := (blk_cell HV.out.o 2).trans rfl
      have o3 : wr.cell? ⟨g5, 3, none⟩ = some (.bool false) := (blk_cell HV.out.o 3).trans rfl
      have r0 : wr.cell? ⟨g4, 0, none⟩ = some (.int .u64 0) := (blk_cell HV.out.r 0).trans rfl
      have r1 : wr.cell? ⟨g4, 1, none⟩ = some (.slice none 0 0) := (blk_cell HV.out.r 1).trans rfl
      have r2 : wr.cell? ⟨g4, 2, none⟩ = some (.slice none 0 0) := (blk_cell HV.out.r 2).trans rfl
      have r3 : wr.cell? ⟨g4, 3, none⟩ = some (.bool false) := (blk_cell HV.out.r 3).trans rfl
      have y0 := blk_frozen HV.out.r 0
      have y1 := blk_frozen HV.out.r 1
      have y2 := blk_frozen HV.out.r 2
      have y3 := blk_frozen HV.out.r 3
      go_wp2_with (fail)
      clear o0 o1 o2 o3 r0 r1 r2 r3 y0 y1 y2 y3
      obtain ⟨wz, hwz⟩ : ∃ wz, (((wr.setCell ⟨g4, 0, none⟩ (.int .u64 0)).setCell ⟨g4, 1, none⟩ (.slice A bs.length cc)).setCell ⟨g4, 2, none⟩ (.slice none 0 0)).setCell ⟨g4, 3, none⟩ (.bool false) = wz := ⟨_, rfl⟩
      rw [hwz]
      obtain ⟨⟨z0, z1, z2, z3⟩, ⟨hs, hb, hk⟩, hrows⟩ := vs_end HV.out hwz
      refine bodyPost_ret (v := .agg #[.int .u64 0, .slice A bs.length cc, .slice none 0 0, .bool false]) (by simp [results, Tryd.results19, go_sem, z0, z1, z2, z3]) rfl ⟨⟨0, bs, [], false⟩, jq, _, _, rfl, hrows (HR.out.lower (by have := HGP.out; omega)), Rb.nil _ _ _ _, hs, hb, hk, ?_⟩
      have h1 := HC.out
      have h2 := HBS.out
      have h3 := HJ.out
      have h4 := HQ.out
      have h5 := HM.out
      refine ⟨?_, fun _ _ h => absurd h (by decide), ?_, by omega, fun h => ?_, fun h => ?_⟩
      · have ht := h2.2.2.text
        cases left <;> simp [fitsB, leafB, szB, ht]
      · simp only [rng, rngs]; exact ⟨⟨by decide, by decide⟩, h2.2.1, trivial⟩
      · simp only [wt, wts]; have := h1.2.2.2.2.2.1 h; omega
      · have hc0 := (h1.2.2.2.2.2.2 h).1
        rw [hc0] at hm
        have : (m : Int) = 0 := by rw [← hm]; rfl
        simp only [wt, wts]
        exact ⟨by omega, fun _ => by omega⟩
end Go.Proofs.YthilhndejhnlnaaDoor.Hand
end

section
/- value: its walk where a number is made. -/
namespace Go.Proofs.YthilhndejhnlnaaDoor.Hand
open Go.RowKit Go.Proofs.YthilhndejhnlnaaDoor.QAll Go.Proofs.YthilhndejhnlnaaDoorW.PrintWords Go.Proofs.YthilhndejhnlnaaDoorW.PrintLast Go.Proofs.YthilhndejhnlnaaDoorW.PrintMore Go.Proofs.YthilhndejhnlnaaDoor.Mk
set_option linter.unusedVariables false
set_option linter.unusedSimpArgs false
theorem heap28 : Kd.Heap k47 := Kd.heap_iso _ (Kd.heap_pair Kd.heap_string (Kd.heap_pair (Kd.heap_iso _ (Kd.heap_pair (Kd.heap_int _) (Kd.heap_pair (Kd.heap_int _) (Kd.heap_int _)))) (Kd.heap_int _)))
theorem heap31 : Kd.Heap k50 := Kd.heap_iso _ (Kd.heap_pair Kd.heap_string (Kd.heap_slice 47 heap28))
theorem heap61 : Kd.Heap k58 := Kd.heap_iso _ (Kd.heap_pair Kd.heap_string (Kd.heap_slice 9 Kd.heap_string))
/-- A schema of an elder world, at all worlds of the call. -/
theorem isS_all {st : List S50} {en : List S58} {root : Int} {us : Value} {w0 w : World} {g : Nat} (hS : IsS w0 st en root us) (hb : Below w0.heap.size w0 w) (hg : w0.heap.size ≤ g) :
    ∃ A0 c0 A1 c1, us = .agg #[.slice A0 st.length c0, .slice A1 en.length c1, .int .i64 root] ∧ st.length ≤ c0 ∧ en.length ≤ c1 ∧ Kd.C k50 w0 A0 st.length st ∧ Kd.C k58 w0 A1 en.length en ∧ ∀ W, KeepBut w W g none → Kd.C k50 W A0 st.length st ∧ Kd.C k58 W A1 en.length en := by
  obtain ⟨A0, c0, A1, c1, e, h1, h2, h3, h4⟩ := hS
  exact ⟨A0, c0, A1, c1, e, h2, h4, h1, h3, fun W hW => ⟨Kd.C_foot_came heap31 h1 hb hg W hW, Kd.C_foot_came heap61 h3 hb hg W hW⟩⟩
theorem szB_le {kd : Int} (h : 0 < szB kd) : kd ≤ 10 := by
  unfold szB at h
  split at h
  · omega
  split at h
  · omega
  split at h
  · omega
  split at h <;> omega
set_option maxHeartbeats 6400000 in
set_option maxRecDepth 100000 in
theorem value_num {st : List S50} {en : List S58} {root : Int} {B : List Int} (hE : EnOk en) (hB : BytesOk B) (left : Nat) (kd rf : Int) (hty : TyG en st.length kd rf 0) (hsz : 0 < szB kd) (f : S47) (hd : numB st en root kd rf 0 f.f2 = true) (hd0 : 0 ≤ f.f2 ∧ f.f2 < 18446744073709551616) (sure : Bool) (i : Int) (us : Value) (w0 w : World) (g : Nat) (i0 : 0 ≤ i) (i1 : i ≤ B.length)
    (hs : IsS69 w0 w g B i) (hb : Below w0.heap.size w0 w) (hS : IsS w0 st en root us) :
    Calls Tryd.prog 19 #[us, tyV kd rf 0, .pointer (some ⟨g, 0, none⟩), .int .i64 left, fV f, .bool sure] w (VPost st en root B left kd rf 0 sure i w0 w g) := by
  obtain ⟨A0, z0, A1, z1, rfl, hz0, hz1, -, -, hSC⟩ := isS_all hS hb hs.ge
  have HSC := Aside0.mk hSC
  have HZ : Aside0 (st.length ≤ z0 ∧ en.length ≤ z1) := ⟨hz0, hz1⟩
  have hk10 := szB_le hsz
  obtain ⟨c, j, hc, c0, c1, j0, j1, hrun, hfin⟩ := next_f hB i i0 i1
  obtain ⟨g1, e1⟩ : ∃ g1, w.heap.size = g1 := ⟨_, rfl⟩
  obtain ⟨g2, e2⟩ : ∃ g2, g1 + 1 = g2 := ⟨_, rfl⟩
  obtain ⟨g3, e3⟩ : ∃ g3, g2 + 1 = g3 := ⟨_, rfl⟩
  obtain ⟨g4, e4⟩ : ∃ g4, g3 + 1 = g4 := ⟨_, rfl⟩
  obtain ⟨g5, e5⟩ : ∃ g5, g4 + 1 = g5 := ⟨_, rfl⟩
  obtain ⟨w1, hw1⟩ : ∃ w1, (((((w.alloc (.cells #[.slice A0 st.length z0, .slice A1 en.length z1, .int .i64 root] 34)).alloc (.cells #[.int .u8 kd, .int .i64 rf, .int .i64 0] 45)).alloc (.cells #[.string f.f0, .int .u8 f.f1.f0, .int .i64 f.f1.f1, .int .i64 f.f1.f2, .int .u64 f.f2] 47)).alloc (.cells #[.int .u64 0, .slice none 0 0, .slice none 0 0, .bool false] 29)).alloc (.cells #[.int .u64 0, .slice none 0 0, .slice none 0 0, .bool false] 29)) = w1 := ⟨_, rfl⟩
  have HV1 := Aside0.mk (vs_new w0 w g B i _ _ _ hs hb e1 e2 e3 e4 e5 hw1)
  have HEQ := Aside0.mk (And.intro e1 (And.intro e2 (And.intro e3 (And.intro e4 (And.intro e5 hw1)))))
  have HN := Aside0.mk (transomhand05_Source_next.calls g B i c j w0 w1 HV1.out.src HV1.out.bel hc)
  have HC : Aside0 (0 ≤ c ∧ c < 256 ∧ i ≤ j ∧ j ≤ B.length ∧ 0 ≤ i ∧ (i < B.length → j = i + 1) ∧ (i = B.length → c = 0 ∧ j = i)) := ⟨c0, c1, j0, j1, i0, hrun, hfin⟩
  obtain ⟨k, m, j', hm, hmn, hm0, hm1, hj0, hj1⟩ := number_src (st := st) (root := root) hE hB kd rf 0 hty.kr.1 hk10 hty.enm j c f.f2 (by omega) j1 c0 c1 hd0.1 hd0.2 hd f.f0 f.f1.f0 f.f1.f1 f.f1.f2
  have HM := Aside0.mk hm
  have HM2 : Aside0 (numB st en root kd rf 0 m = true ∧ 0 ≤ m ∧ m < 18446744073709551616 ∧ j ≤ j' ∧ j' ≤ B.length) := ⟨hmn, hm0, hm1, hj0, hj1⟩
  have HNUM : Aside0 (transomref05_IsNum.f 6 kd rf 0 = some true) := ⟨by rw [isnum_f kd rf 0 (by have := hty.kr; omega) (by omega)]; simp [hsz]⟩
  have HTY : Aside0 (TyG en st.length kd rf 0 ∧ 0 < szB kd ∧ kd ≤ 10) := ⟨hty, hsz, hk10⟩
  have k13 : (kd == 13) = false := by simp only [beq_eq_false_iff_ne]; omega
  clear hc j0 j1 hrun hfin e1 e2 e3 e4 e5 hw1 hs hb i0 i1 hSC hS hz0 hz1 hm hmn hm0 hm1 hj0 hj1 hty hsz hk10 hd hd0
  go_enter Tryd.func19, Tryd.ntmps19
  go_upto_region 2 with (fail)
  rw [HEQ.out.1, HEQ.out.2.1, HEQ.out.2.2.1, HEQ.out.2.2.2.1, HEQ.out.2.2.2.2.1, HEQ.out.2.2.2.2.2]
  go_upto_region 8 with (go_at_call 30; (with_reducible refine HN.out.mono ?_); rintro e w2 ⟨rfl, hs2, hb2, hk2⟩; have HV2 := Aside0.mk (HV1.out.call hs2 hb2 hk2); clear hs2 hb2 hk2)
  have t0 : w2.cell? ⟨g2, 0, none⟩ = some (.int .u8 kd) := (blk_cell HV2.out.t 0).trans rfl
  have t1 : w2.cell? ⟨g2, 1, none⟩ = some (.int .i64 rf) := (blk_cell HV2.out.t 1).trans rfl
  have t2 : w2.cell? ⟨g2, 2, none⟩ = some (.int .i64 0) := (blk_cell HV2.out.t 2).trans rfl
  go_upto_region 30 with (go_at_call 15; (with_reducible refine (transomref05_IsNum.calls 6 kd rf 0 true _ HNUM.out).mono ?_); rintro e w3 ⟨rfl, hb3⟩; have HV3 := Aside0.mk (HV2.out.below hb3); clear hb3 t0 t1 t2)
  have t0 : w3.cell? ⟨g2, 0, none⟩ = some (.int .u8 kd) := (blk_cell HV3.out.t 0).trans rfl
  have t1 : w3.cell? ⟨g2, 1, none⟩ = some (.int .i64 rf) := (blk_cell HV3.out.t 1).trans rfl
  have t2 : w3.cell? ⟨g2, 2, none⟩ = some (.int .i64 0) := (blk_cell HV3.out.t 2).trans rfl
  have s0 : w3.cell? ⟨g1, 0, none⟩ = some (.slice A0 st.length z0) := (blk_cell HV3.out.s 0).trans rfl
  have s1 : w3.cell? ⟨g1, 1, none⟩ = some (.slice A1 en.length z1) := (blk_cell HV3.out.s 1).trans rfl
  have s2 : w3.cell? ⟨g1, 2, none⟩ = some (.int .i64 root) := (blk_cell HV3.out.s 2).trans rfl
  have f0 : w3.cell? ⟨g3, 0, none⟩ = some (.string f.f0) := (blk_cell HV3.out.f 0).trans rfl
  have f1 : w3.cell? ⟨g3, 1, none⟩ = some (.int .u8 f.f1.f0) := (blk_cell HV3.out.f 1).trans rfl
  have f2 : w3.cell? ⟨g3, 2, none⟩ = some (.int .i64 f.f1.f1) := (blk_cell HV3.out.f 2).trans rfl
  have f3 : w3.cell? ⟨g3, 3, none⟩ = some (.int .i64 f.f1.f2) := (blk_cell HV3.out.f 3).trans rfl
  have f4 : w3.cell? ⟨g3, 4, none⟩ = some (.int .u64 f.f2) := (blk_cell HV3.out.f 4).trans rfl
  have HCALL := Aside0.mk (transomhand05_number.calls k A0 z0 st A1 z1 en root kd rf 0 g B j c f.f0 f.f1.f0 f.f1.f1 f.f1.f2 f.f2 m j' w0 w3 HV3.out.src HV3.out.bel (fun W hW => (HSC.out W (keep_trans HV3.out.kp hW)).1) HZ.out.1 (fun W hW => (HSC.out W (keep_trans HV3.out.kp hW)).2) HZ.out.2 HM.out)
  go_upto_region 38 with (go_at_call 31; (with_reducible refine HCALL.out.mono ?_); rintro e w4 ⟨rfl, hs4, hb4, hk4⟩; have HV4 := Aside0.mk (HV3.out.call hs4 hb4 hk4); have o9 : w4.cell? ⟨g5, 0, none⟩ = some (.int .u64 0) := (blk_cell HV4.out.o 0).trans rfl; have y9 := blk_frozen HV4.out.o 0; clear hs4 hb4 hk4 t0 t1 t2 s0 s1 s2 f0 f1 f2 f3 f4)
  have HV5 : Aside0 (VS w0 w (w4.setCell ⟨g5, 0, none⟩ (.int .u64 m)) g B j' g1 g2 g3 g4 g5 #[.slice A0 st.length z0, .slice A1 en.length z1, .int .i64 root] #[.int .u8 kd, .int .i64 rf, .int .i64 0] #[.string f.f0, .int .u8 f.f1.f0, .int .i64 f.f1.f1, .int .i64 f.f1.f2, .int .u64 f.f2] #[.int .u64 m, .slice none 0 0, .slice none 0 0, .bool false]) := ⟨HV4.out.set 0 _⟩
  obtain ⟨w5, hw5⟩ : ∃ w5, w4.setCell ⟨g5, 0, none⟩ (.int .u64 m) = w5 := ⟨_, rfl⟩
  rw [hw5] at HV5 ⊢
  clear hw5 o9 y9
  have o0 : w5.cell? ⟨g5, 0, none⟩ = some (.int .u64 m) := (blk_cell HV5.out.o 0).trans rfl
  have o1 : w5.cell? ⟨g5, 1, none⟩ = some (.slice none 0 0) := (blk_cell HV5.out.o 1).trans rfl
  have o2 : w5.cell? ⟨g5, 2, none⟩ = some (.slice none 0 0) := (blk_cell HV5.out.o 2).trans rfl
  have o3 : w5.cell? ⟨g5, 3, none⟩ = some (.bool false) := (blk_cell HV5.out.o 3).trans rfl
  have r0 : w5.cell? ⟨g4, 0, none⟩ = some (.int .u64 0) := (blk_cell HV5.out.r 0).trans rfl
  have r1 : w5.cell? ⟨g4, 1, none⟩ = some (.slice none 0 0) := (blk_cell HV5.out.r 1).trans rfl
  have r2 : w5.cell? ⟨g4, 2, none⟩ = some (.slice none 0 0) := (blk_cell HV5.out.r 2).trans rfl
  have r3 : w5.cell? ⟨g4, 3, none⟩ = some (.bool false) := (blk_cell HV5.out.r 3).trans rfl
  have y0 := blk_frozen HV5.out.r 0
  have y1 := blk_frozen HV5.out.r 1
  have y2 := blk_frozen HV5.out.r 2
  have y3 := blk_frozen HV5.out.r 3
  go_wp2_with (fail)
  clear o0 o1 o2 o3 r0 r1 r2 r3 y0 y1 y2 y3
  obtain ⟨wz, hwz⟩ : ∃ wz, (((w5.setCell ⟨g4, 0, none⟩ (.int .u64 m)).setCell ⟨g4, 1, none⟩ (.slice none 0 0)).setCell ⟨g4, 2, none⟩ (.slice none 0 0)).setCell ⟨g4, 3, none⟩ (.bool false) = wz := ⟨_, rfl⟩
  rw [hwz]
  obtain ⟨⟨z0', z1', z2', z3'⟩, ⟨hs, hb, hk⟩, hrows⟩ := vs_end HV5.out hwz
  refine bodyPost_ret (v := .agg #[.int .u64 m, .slice none 0 0, .slice none 0 0, .bool false]) (by simp [results, Tryd.results19, go_sem, z0', z1', z2', z3']) rfl ⟨⟨m, [], [], false⟩, j', _, _, rfl, Rb.nil _ _ _ _, Rb.nil _ _ _ _, hs, hb, hk, ?_⟩
  have h1 := HC.out
  have h2 := HM2.out
  obtain ⟨hty, hsz, hk10⟩ := HTY.out
  refine ⟨?_, fun _ _ h => by omega, ?_, by omega, fun h => ?_, fun h => ?_⟩
  · have e13 : kd ≠ 13 := by omega
    cases left <;> simp [fitsB, leafB, hsz, h2.1, e13]
  · simp only [rng, rngs]; exact ⟨h2.2.1 |> fun x => ⟨x, h2.2.2.1⟩, (fun _ h => by cases h), trivial⟩
  · simp only [wt, wts]; have := h1.2.2.2.2.2.1 h; simp only [List.length_nil]; omega
  · simp only [wt, wts]; exact ⟨by simp only [List.length_nil]; omega, fun _ => by simp only [List.length_nil]⟩
end Go.Proofs.YthilhndejhnlnaaDoor.Hand
end

section
/- value: its walk where a struct is not there. -/
namespace Go.Proofs.YthilhndejhnlnaaDoor.Hand
open Go.RowKit Go.Proofs.YthilhndejhnlnaaDoor.QAll Go.Proofs.YthilhndejhnlnaaDoorW.PrintWords Go.Proofs.YthilhndejhnlnaaDoorW.PrintLast Go.Proofs.YthilhndejhnlnaaDoorW.PrintMore Go.Proofs.YthilhndejhnlnaaDoor.Mk
set_option linter.unusedVariables false
set_option linter.unusedSimpArgs false
set_option maxHeartbeats 6400000 in
set_option maxRecDepth 100000 in
theorem value_gone {st : List S50} {en : List S58} {root : Int} {B : List Int} (left : Nat) (rf : Int) (f : S47) (sure : Bool) (i c j : Int) (us : Value) (w0 w : World) (g : Nat) (i1 : i ≤ B.length)
    (hc : transomhand05_Source_next.f B i = some (c, j)) (c0 : 0 ≤ c) (hj : i ≤ j ∧ j ≤ B.length) (hrun : i < B.length → j = i + 1)
    (hgo : left = 0 ∨ (0 < left ∧ sure = false ∧ Int.tmod c 3 = 0) ∨ (0 < left ∧ sure = false ∧ Int.tmod c 3 ≠ 0 ∧ (B.length : Int) ≤ j))
    (hs : IsS69 w0 w g B i) (hb : Below w0.heap.size w0 w) (hS : IsS w0 st en root us) :
    Calls Tryd.prog 19 #[us, tyV 13 rf 0, .pointer (some ⟨g, 0, none⟩), .int .i64 left, fV f, .bool sure] w (VPost st en root B left 13 rf 0 sure i w0 w g) := by
  obtain ⟨A0, z0, A1, z1, rfl, hz0, hz1, -, -, hSC⟩ := isS_all hS hb hs.ge
  obtain ⟨g1, e1⟩ : ∃ g1, w.heap.size = g1 := ⟨_, rfl⟩
  obtain ⟨g2, e2⟩ : ∃ g2, g1 + 1 = g2 := ⟨_, rfl⟩
  obtain ⟨g3, e3⟩ : ∃ g3, g2 + 1 = g3 := ⟨_, rfl⟩
  obtain ⟨g4, e4⟩ : ∃ g4, g3 + 1 = g4 := ⟨_, rfl⟩
  obtain ⟨g5, e5⟩ : ∃ g5, g4 + 1 = g5 := ⟨_, rfl⟩
  obtain ⟨w1, hw1⟩ : ∃ w1, (((((w.alloc (.cells #[.slice A0 st.length z0, .slice A1 en.length z1, .int .i64 root] 34)).alloc (.cells #[.int .u8 13, .int .i64 rf, .int .i64 0] 45)).alloc (.cells #[.string f.f0, .int .u8 f.f1.f0, .int .i64 f.f1.f1, .int .i64 f.f1.f2, .int .u64 f.f2] 47)).alloc (.cells #[.int .u64 0, .slice none 0 0, .slice none 0 0, .bool false] 29)).alloc (.cells #[.int .u64 0, .slice none 0 0, .slice none 0 0, .bool false] 29)) = w1 := ⟨_, rfl⟩
  have HV1 := Aside0.mk (vs_new w0 w g B i _ _ _ hs hb e1 e2 e3 e4 e5 hw1)
  have HEQ := Aside0.mk (And.intro e1 (And.intro e2 (And.intro e3 (And.intro e4 (And.intro e5 hw1)))))
  have HN := Aside0.mk (transomhand05_Source_next.calls g B i c j w0 w1 HV1.out.src HV1.out.bel hc)
  have HOUT : Aside0 (VOk st en root B.length left 13 rf 0 sure i j ⟨0, [], [], false⟩) := ⟨by
    refine ⟨?_, fun h1 _ _ h4 => ?_, ?_, hj, fun h => ?_, fun h => ?_⟩
    · cases left <;> simp [fitsB, goneB]
    · rcases hgo with h | ⟨_, h, _⟩ | ⟨_, h, _⟩
      · omega
      · rw [h1] at h; cases h
      · rw [h1] at h; cases h
    · simp only [rng, rngs]; exact ⟨⟨by decide, by decide⟩, (fun _ h => by cases h), trivial⟩
    · simp only [wt, wts]; have := hrun h; simp only [List.length_nil]; omega
    · simp only [wt, wts]; exact ⟨by simp only [List.length_nil]; omega, fun _ => by simp only [List.length_nil]⟩⟩
  obtain ⟨r, hr⟩ : ∃ r, Int.tmod c 3 = r := ⟨_, rfl⟩
  rw [hr] at hgo
  have ways : (decide ((left : Int) < 1) = true ∧ decide (left < 1) = true) ∨ ((decide ((left : Int) < 1) = false ∧ decide (left < 1) = false) ∧ sure = false ∧ (r == 0) = true) ∨
      ((decide ((left : Int) < 1) = false ∧ decide (left < 1) = false) ∧ sure = false ∧ (r == 0) = false ∧ decide ((B.length : Int) ≤ j) = true) := by
    rcases hgo with h | ⟨h, h2, h3⟩ | ⟨h, h2, h3, h4⟩
    · exact .inl ⟨decide_eq_true (by omega), decide_eq_true (by omega)⟩
    · exact .inr (.inl ⟨⟨decide_eq_false (by omega), decide_eq_false (by omega)⟩, h2, by simp [h3]⟩)
    · exact .inr (.inr ⟨⟨decide_eq_false (by omega), decide_eq_false (by omega)⟩, h2, by simp [h3], decide_eq_true h4⟩)
  clear hc hj hrun e1 e2 e3 e4 e5 hw1 hs hb i1 hSC hS hz0 hz1 hgo c0
  rcases ways with ⟨p1, p2⟩ | ⟨⟨p1, p2⟩, rfl, p3⟩ | ⟨⟨p1, p2⟩, rfl, p3, p4⟩
  all_goals
    go_enter Tryd.func19, Tryd.ntmps19
    go_upto_region 2 with (fail)
    rw [HEQ.out.1, HEQ.out.2.1, HEQ.out.2.2.1, HEQ.out.2.2.2.1, HEQ.out.2.2.2.2.1, HEQ.out.2.2.2.2.2]
    go_upto_region 8 with (go_at_call 30; (with_reducible refine HN.out.mono ?_); rintro e w2 ⟨rfl, hs2, hb2, hk2⟩; have HV2 := Aside0.mk (HV1.out.call hs2 hb2 hk2); clear hs2 hb2 hk2)
    have t0 : w2.cell? ⟨g2, 0, none⟩ = some (.int .u8 13) := (blk_cell HV2.out.t 0).trans rfl
    have t2 : w2.cell? ⟨g2, 2, none⟩ = some (.int .i64 0) := (blk_cell HV2.out.t 2).trans rfl
    obtain ⟨As, cs, hsb, -, -⟩ := HV2.out.src
    have b0 := cellS69_0 hsb
    have b1 := cellS69_1 hsb
    clear hsb
    go_upto_region 20 with (fail)
    go_quiet (fail)
    clear t0 t2 b0 b1
    have o0 : w2.cell? ⟨g5, 0, none⟩ = some (.int .u64 0) := (blk_cell HV2.out.o 0).trans rfl
    have o1 : w2.cell? ⟨g5, 1, none⟩ = some (.slice none 0 0) := (blk_cell HV2.out.o 1).trans rfl
    have o2 : w2.cell? ⟨g5, 2, none⟩ = some (.slice none 0 0) := (blk_cell HV2.out.o 2).trans rfl
    have o3 : w2.cell? ⟨g5, 3, none⟩ = some (.bool false) := (blk_cell HV2.out.o 3).trans rfl
    have r0 : w2.cell? ⟨g4, 0, none⟩ = some (.int .u64 0) := (blk_cell HV2.out.r 0).trans rfl
    have r1 : w2.cell? ⟨g4, 1, none⟩ = some (.slice none 0 0) := (blk_cell HV2.out.r 1).trans rfl
    have r2 : w2.cell? ⟨g4, 2, none⟩ = some (.slice none 0 0) := (blk_cell HV2.out.r 2).trans rfl
    have r3 : w2.cell? ⟨g4, 3, none⟩ = some (.bool false) := (blk_cell HV2.out.r 3).trans rfl
    have y0 := blk_frozen HV2.out.r 0
    have y1 := blk_frozen HV2.out.r 1
    have y2 := blk_frozen HV2.out.r 2
    have y3 := blk_frozen HV2.out.r 3
    go_wp2_with (fail)
    clear o0 o1 o2 o3 r0 r1 r2 r3 y0 y1 y2 y3
    have hz := fun n => vs_end (HV2.out.below (Drawn0.below (⟨⟨n, rfl⟩⟩ : Drawn0 w2 (w2.drewN n)))) rfl
    refine bodyPost_ret (v := .agg #[.int .u64 0, .slice none 0 0, .slice none 0 0, .bool false]) (by simp [results, Tryd.results19, go_sem, (hz _).1.1, (hz _).1.2.1, (hz _).1.2.2.1, (hz _).1.2.2.2]) rfl ⟨⟨0, [], [], false⟩, j, _, _, rfl, Rb.nil _ _ _ _, Rb.nil _ _ _ _, (hz _).2.1.1, (hz _).2.1.2.1, (hz _).2.1.2.2, HOUT.out⟩
end Go.Proofs.YthilhndejhnlnaaDoor.Hand
end
