/- Texts joined: H1 H2. -/
import Derived.Test.YthilhndejhnlnaaZD16
import Derived.Test.YthilhndejhnlnaaZD20
import Derived.Test.YthilhndejhnlnaaZD29
import Derived.Test.YthilhndejhnlnaaZD31
import Derived.Test.YthilhndejhnlnaaZD32
section
/- A plan's schema, a source's value, and what is the same: words for the laws' walks. -/
namespace Go.Proofs.Ythilhndejhnlnaa.Hand
open Go.RowKit Go.Proofs.Ythilhndejhnlnaa.QAll Go.Proofs.YthilhndejhnlnaaW.PrintWords Go.Proofs.YthilhndejhnlnaaW.PrintLast Go.Proofs.YthilhndejhnlnaaW.PrintMore Go.Proofs.Ythilhndejhnlnaa.Mk
set_option linter.unusedVariables false
set_option linter.unusedSimpArgs false
/-- Made, of any plan. -/
theorem made_any (E : List Int) (S : List (List S64)) (Rt : Int) (tr : Bool) (hEb : ∀ x ∈ E, 0 ≤ x ∧ x < 256) (hSb : ∀ l ∈ S, ∀ x ∈ l, BOk x) (hRt : 0 ≤ Rt ∧ Rt < 256) (A0 : Option Addr) (z0 : Nat) (A1 : Option Addr) (z1 : Nat) (w : World)
    (hE : Kd.C (Kd.int .u8) w A0 E.length E) (hEz : E.length ≤ z0) (hS : Kd.C (Kd.slice 64 k64) w A1 S.length S) (hSz : S.length ≤ z1) :
    Calls Try.prog 8 #[.agg #[.slice A0 E.length z0, .slice A1 S.length z1, .int .u8 Rt, .bool tr]] w (MPost S.length tr w) := by
  by_cases h : S.length < 1 ∨ 16 < S.length ∨ 8 < E.length
  · exact made_no E S Rt tr A0 z0 A1 z1 w h
  · exact made_yes E S Rt tr hEb hSb hRt A0 z0 A1 z1 w hE hEz hS hSz (by omega) (by omega) (by omega)
theorem rb_isV {w : World} {b : Nat} {v : S39} {v1 v2 : Value} (h1 : Rb (Kd.int .u8) 5 w b v1 v.f1) (h2 : Rb k39 39 w b v2 v.f2) : IsV w v (.agg #[.int .u64 v.f0, v1, v2, .bool v.f3]) := by
  obtain ⟨A1, c1, rfl, l1, k1⟩ := h1.slice
  obtain ⟨A2, c2, rfl, l2, k2⟩ := h2.slice
  exact ⟨A1, c1, A2, c2, rfl, k1, l1, k2, l2⟩
theorem rb_isS {w : World} {b : Nat} {st : List S31} {en : List S61} {root : Int} {v1 v2 : Value} (h1 : Rb k31 31 w b v1 st) (h2 : Rb k61 61 w b v2 en) : IsS w st en root (.agg #[v1, v2, .int .i64 root]) := by
  obtain ⟨A1, c1, rfl, l1, k1⟩ := h1.slice
  obtain ⟨A2, c2, rfl, l2, k2⟩ := h2.slice
  exact ⟨A1, c1, A2, c2, rfl, k1, l1, k2, l2⟩
theorem sch_ty {en : List S61} {tr : Bool} {st : List S31} (h : SchOk en st.length tr st) : ∀ (i : Nat) (r : S31), st[i]? = some r → ∀ f ∈ r.f1, TyG en st.length f.f1.f0 f.f1.f1 f.f1.f2 := fun i r hr f hf => ((h.fs i r hr).2.2 f hf).ty
theorem sch_good {en : List S61} {tr : Bool} {st : List S31} (h : SchOk en st.length tr st) : Good st := by
  intro r hr f hf
  obtain ⟨i, hi, e⟩ := List.mem_iff_getElem.1 hr
  have t := sch_ty h i r (by rw [List.getElem?_eq_getElem hi, e]) f hf
  exact ⟨t.str, by have := t.lr; omega⟩
theorem vok_wt {st : List S31} {en : List S61} {root : Int} {n : Nat} {j : Int} {v : S39} (h : VOk st en root n 12 13 root 0 true 0 j v) (hn : n ≤ 2000) : wt v ≤ 42017 := by
  have := h.adv
  by_cases c : (0 : Int) < n
  · have := (h.run c).2; omega
  · have := (h.fin (by omega)).1; omega
/-- A value is the same as itself. -/
theorem same_self : ∀ (m : Nat) (v : S39), wt v ≤ m → wt v ≤ 1099511627776 → ∃ k, transomref05_Same.f k v.f0 v.f1 v.f2 v.f3 v.f0 v.f1 v.f2 v.f3 = some true := by
  intro m
  induction m with
  | zero => intro v h; have := wt_pos v; omega
  | succ m ih =>
    intro v hm hw
    have loop : ∀ d i : Nat, i + d = v.f2.length → ∃ k, transomref05_Same.l0 k (i : Int) v.f0 v.f1 v.f2 v.f3 v.f0 v.f1 v.f2 v.f3 = some true := by
      intro d
      induction d with
      | zero =>
        intro i hi
        refine ⟨1, ?_⟩
        simp only [transomref05_Same.l0]
        rw [if_neg (by omega)]
      | succ d ihd =>
        intro i hi
        have hlt : i < v.f2.length := by omega
        obtain ⟨kl, hl⟩ := ihd (i + 1) (by omega)
        have hk : rd_T39 v.f2 (i : Int) = v.f2[i] := by unfold rd_T39; rw [show ((i : Int)).toNat = i from rfl, List.getD_eq_getElem?_getD, List.getElem?_eq_getElem hlt]; rfl
        have h1 := wt_get v i hlt
        have h2 : wt v.f2[i] ≤ m := by have := wt_is v; have := wts_get v.f2 i hlt; omega
        obtain ⟨kf, hf⟩ := ih v.f2[i] h2 (by omega)
        have hlen : v.f2.length ≤ 1099511627776 := by have := wt_is v; have := wts_len v.f2; omega
        have hw1 : wrap64 ((i : Int) + 1) = ((i + 1 : Nat) : Int) := by unfold wrap64; omega
        refine ⟨max kf kl + 1, ?_⟩
        simp only [transomref05_Same.l0]
        rw [if_pos (by omega), if_pos (by omega), hk, at_rounds (transomref05_Same.mono _ _ _ _ _ _ _ _) (Nat.le_max_left kf kl) hf]
        simp only [Option.bind_some, if_true]
        rw [if_pos (by omega), hw1]
        exact at_rounds (fun k => (transomref05_Same.mono_l k).2.2 _ _ _ _ _ _ _ _ _) (Nat.le_max_right kf kl) hl
    obtain ⟨k, hk⟩ := loop v.f2.length 0 (by omega)
    refine ⟨k + 2, ?_⟩
    simp only [transomref05_Same.f, transomref05_Same.j0, if_true, bne_self_eq_false]
    rw [if_neg (by decide), if_neg (by decide)]
    exact hk
theorem same_any {w : World} {v : S39} {u1 u2 : Value} (h1 : IsV w v u1) (h2 : IsV w v u2) (hw : wt v ≤ 1099511627776) : Calls Try.prog 10 #[u1, u2] w fun e w' => e = .returned (.bool true) ∧ Below w.heap.size w w' := by
  obtain ⟨A1, c1, A2, c2, rfl, k1, l1, k2, l2⟩ := h1
  obtain ⟨A3, c3, A4, c4, rfl, k3, l3, k4, l4⟩ := h2
  obtain ⟨k, hk⟩ := same_self _ v (Nat.le_refl _) hw
  exact transomref05_Same.calls k _ _ _ _ _ _ _ _ _ _ _ _ _ _ _ _ _ w k1 l1 k2 l2 k3 l3 k4 l4 hk
end Go.Proofs.Ythilhndejhnlnaa.Hand
end

section
/- Empty, of a view of a value. -/
namespace Go.Proofs.Ythilhndejhnlnaa.Hand
open Go.RowKit Go.Proofs.Ythilhndejhnlnaa.QAll Go.Proofs.YthilhndejhnlnaaW.PrintWords Go.Proofs.YthilhndejhnlnaaW.PrintLast Go.Proofs.YthilhndejhnlnaaW.PrintMore Go.Proofs.Ythilhndejhnlnaa.Mk
set_option linter.unusedVariables false
set_option linter.unusedSimpArgs false
abbrev fldV (f : S28) : Value := .agg #[.string f.f0, .int .u8 f.f1.f0, .int .i64 f.f1.f1, .int .i64 f.f1.f2, .int .u64 f.f2]
/-- Is a field's value nothing? -/
def emptyB (f : S28) (k : S39) : Bool := if 0 < f.f1.f2 then decide (k.f2.length = 0) else if f.f1.f0 = 13 then !k.f3 else if 0 < szB f.f1.f0 then decide (k.f0 = f.f2) else decide (k.f1.length = 0)
theorem len0 (n : Nat) : decide (n = 0) = ((n : Int) == 0) := by rw [Bool.eq_iff_iff, decide_eq_true_iff, beq_iff_eq]; omega
theorem num0 (a b : Int) : decide (a = b) = (a == b) := by rw [Bool.eq_iff_iff, decide_eq_true_iff, beq_iff_eq]
section
variable (f : S28) (v : S39) (u : Value) (i : Nat) (hi : i < v.f2.length) (w : World) (hV : IsV w v u)
set_option maxHeartbeats 3200000 in
set_option maxRecDepth 100000 in
include hV in
theorem empty_any (hl : (v.f2[i]).f1.length ≤ 140737488355328) : Calls Try.prog 12 #[fldV f, .iface 80 u, .int .i64 i] w fun e w' => e = .returned (.bool (emptyB f v.f2[i])) ∧ Below w.heap.size w w' := by
  have HV := Aside0.mk hV
  have HLI := Aside0.mk (fun (W : World) (h : Below w.heap.size w W) => rlist_in v u i hi W (hV.below h))
  have HSU := Aside0.mk (fun (W : World) (h : Below w.heap.size w W) => rsub_in v u i hi W (hV.below h))
  have HNU := Aside0.mk (fun (W : World) (h : Below w.heap.size w W) => num_in v u i hi W (hV.below h))
  have HBY := Aside0.mk (fun (W : World) (h : Below w.heap.size w W) => bytes_in v u i hi hl W (hV.below h))
  obtain ⟨A2, c2, A3, c3, rfl, -⟩ := hV
  obtain ⟨K, hK⟩ : ∃ K, v.f2[i] = K := ⟨_, rfl⟩
  rw [hK] at HLI HSU HNU HBY ⊢
  clear hK hl
  have HLEN : Aside0 (∀ (W : World) (uk : Value), IsV W K uk → Calls Try.prog 56 #[uk] W fun e w' => e = .returned (.int .i64 K.f2.length) ∧ Below W.heap.size W w') := ⟨fun W uk h => len_any K uk W h⟩
  obtain ⟨nm, ⟨kd, rf, ls⟩, df⟩ := f
  have HSZ := Aside0.mk (size_f kd)
  have HE : Aside0 (emptyB ⟨nm, ⟨kd, rf, ls⟩, df⟩ K = if 0 < ls then decide (K.f2.length = 0) else if kd = 13 then !K.f3 else if 0 < szB kd then decide (K.f0 = df) else decide (K.f1.length = 0)) := ⟨rfl⟩
  obtain ⟨EB, hEB⟩ : ∃ EB, emptyB ⟨nm, ⟨kd, rf, ls⟩, df⟩ K = EB := ⟨_, rfl⟩
  rw [hEB] at HE ⊢
  clear hEB
  obtain ⟨g1, e1⟩ : ∃ g1, w.heap.size = g1 := ⟨_, rfl⟩
  obtain ⟨w1, hw1⟩ : ∃ w1, w.alloc (.cells #[.string nm, .int .u8 kd, .int .i64 rf, .int .i64 ls, .int .u64 df] 28) = w1 := ⟨_, rfl⟩
  have HW1 : Aside0 (Below w.heap.size w w1) := ⟨by rw [← hw1]; exact below_alloc (Below.refl _ _) _⟩
  have HP1 : Aside0 (w1.heap[g1]? = some (.cells #[.string nm, .int .u8 kd, .int .i64 rf, .int .i64 ls, .int .u64 df] 28 (0, 0))) := ⟨by rw [← hw1, ← e1]; exact heap_alloc_new w _⟩
  have HEQ := Aside0.mk (And.intro e1 hw1)
  clear e1 hw1
  have hmL : ∀ (a b c d : Value) (w : World), (method 221 80 (.agg #[a, b, c, d]) "List").run Try.prog w = .ok (60, .agg #[a, b, c, d]) w := fun _ _ _ _ _ => by kernel_rfl
  have hmE : ∀ (a b c d : Value) (w : World), (method 221 119 (.agg #[a, b, c, d]) "Len").run Try.prog w = .ok (56, .agg #[a, b, c, d]) w := fun _ _ _ _ _ => by kernel_rfl
  have hmS : ∀ (a b c d : Value) (w : World), (method 221 80 (.agg #[a, b, c, d]) "Sub").run Try.prog w = .ok (61, .agg #[a, b, c, d]) w := fun _ _ _ _ _ => by kernel_rfl
  have hmN : ∀ (a b c d : Value) (w : World), (method 221 80 (.agg #[a, b, c, d]) "Num").run Try.prog w = .ok (57, .agg #[a, b, c, d]) w := fun _ _ _ _ _ => by kernel_rfl
  have hmB : ∀ (a b c d : Value) (w : World), (method 221 80 (.agg #[a, b, c, d]) "Bytes").run Try.prog w = .ok (55, .agg #[a, b, c, d]) w := fun _ _ _ _ _ => by kernel_rfl
  go_enter Try.func12, Try.ntmps12
  go_upto_region 1 with (fail)
  rw [HEQ.out.1, HEQ.out.2]
  have t0 : w1.cell? ⟨g1, 1, none⟩ = some (.int .u8 kd) := (blk_cell HP1.out 1).trans rfl
  have t2 : w1.cell? ⟨g1, 3, none⟩ = some (.int .i64 ls) := (blk_cell HP1.out 3).trans rfl
  by_cases h0 : 0 < ls
  · have d0 : decide (0 < ls) = true := decide_eq_true h0
    have HE2 : Aside0 (EB = ((K.f2.length : Int) == 0)) := ⟨by rw [HE.out, if_pos h0, len0]⟩
    go_wp2_with (first
      | (go_at_call 60; (with_reducible refine (HLI.out w1 HW1.out).mono ?_); rintro e w2 hp; obtain ⟨uk, rfl, hu, hb⟩ := hp; have HW2 := Aside0.mk (below_then HW1.out HW1.out.size hb); obtain ⟨B2, k2, B3, k3, rfl, -⟩ := id hu; have HU := Aside0.mk hu; clear hu hb)
      | (go_at_call 56; (with_reducible refine (HLEN.out w2 _ HU.out).mono ?_); rintro e w3 ⟨rfl, hb⟩; have HW3 := Aside0.mk (below_then HW2.out HW2.out.size hb); clear hb))
    exact bodyPost_ret (v := .bool EB) (by rw [HE2.out]; simp [results, Try.results12, go_sem]) rfl ⟨rfl, HW3.out⟩
  · have d0 : decide (0 < ls) = false := decide_eq_false h0
    by_cases h13 : kd = 13
    · have k13 : (kd == 13) = true := by rw [beq_iff_eq]; exact h13
      have HE2 : Aside0 (EB = !K.f3) := ⟨by rw [HE.out, if_neg h0, if_pos h13]⟩
      go_wp2_with (first
        | (go_at_call 61; (with_reducible refine (HSU.out w1 HW1.out).mono ?_); rintro e w3 hp; obtain ⟨uk, rfl, hu, hb⟩ := hp; have HW3 := Aside0.mk (below_then HW1.out HW1.out.size hb); clear hu hb))
      exact bodyPost_ret (v := .bool EB) (by rw [HE2.out]; simp [results, Try.results12, go_sem]) rfl ⟨rfl, HW3.out⟩
    · have k13 : (kd == 13) = false := by rw [beq_eq_false_iff_ne]; exact h13
      by_cases hs : 0 < szB kd
      · have hsp : decide (0 < szB kd) = true := decide_eq_true hs
        have HE2 : Aside0 (EB = (K.f0 == df)) := ⟨by rw [HE.out, if_neg h0, if_neg h13, if_pos hs, num0]⟩
        go_upto_region 7 with (first
          | (go_at_call 22; (with_reducible refine (wire_Size.calls 6 kd (szB kd) w1 HSZ.out).mono ?_); rintro e w2 ⟨rfl, hd⟩; have hb := hd.below; have HW2 := Aside0.mk (below_then HW1.out HW1.out.size hb); have HP2 := Aside0.mk ((hb.block _ (blk_lt HP1.out)).trans HP1.out); clear hd hb t0 t2))
        have t4 : w2.cell? ⟨g1, 4, none⟩ = some (.int .u64 df) := (blk_cell HP2.out 4).trans rfl
        go_region_held3 (fun W => W.cell? ⟨g1, 4, none⟩ = some (.int .u64 df))
          (first | with_reducible exact ka | go_keep)
          (first | (go_at_call 57; (with_reducible refine (HNU.out w2.drew (below_then HW2.out HW2.out.size (below_drew (Below.refl _ _)))).mono ?_); rintro e w3 ⟨rfl, hb⟩; have hb2 := below_then (below_drew (Below.refl w2.heap.size w2)) (Nat.le_refl _) hb; have HW3 := Aside0.mk (below_then HW2.out HW2.out.size hb2); have ka := pw_cell_below hb2 t4; clear hb hb2))
        go_wp2_with (fail)
        exact bodyPost_ret (v := .bool EB) (by rw [HE2.out]; simp [results, Try.results12, go_sem]) rfl ⟨rfl, HW3.out⟩
      · have hsp : decide (0 < szB kd) = false := decide_eq_false hs
        have HE2 : Aside0 (EB = ((K.f1.length : Int) == 0)) := ⟨by rw [HE.out, if_neg h0, if_neg h13, if_neg hs, len0]⟩
        go_wp2_with (first
          | (go_at_call 22; (with_reducible refine (wire_Size.calls 6 kd (szB kd) w1 HSZ.out).mono ?_); rintro e w2 ⟨rfl, hd⟩; have hb := hd.below; have HW2 := Aside0.mk (below_then HW1.out HW1.out.size hb); clear hd hb t0 t2)
          | (go_at_call 55; (with_reducible refine (HBY.out w2 HW2.out).mono ?_); rintro e w3 hp; obtain ⟨v1, rfl, hr1, hb⟩ := hp; obtain ⟨A5, c5, rfl, -, -⟩ := hr1.slice; have HW3 := Aside0.mk (below_then HW2.out HW2.out.size hb); clear hr1 hb))
        exact bodyPost_ret (v := .bool EB) (by rw [HE2.out]; simp [results, Try.results12, go_sem]) rfl ⟨rfl, HW3.out⟩
end
end Go.Proofs.Ythilhndejhnlnaa.Hand
end
