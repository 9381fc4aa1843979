/- Layer 7, view: a value as a view (Of, Num), and the fixed fact. -/
import Derived.Test.YthilhndejhnlnaaV5
namespace Go.Proofs.Ythilhndejhnlnaa.Hand
open Go.RowKit Go.Proofs.Ythilhndejhnlnaa.QAll Go.Proofs.YthilhndejhnlnaaW.PrintWords Go.Proofs.YthilhndejhnlnaaW.PrintLast Go.Proofs.YthilhndejhnlnaaW.PrintMore Go.Proofs.Ythilhndejhnlnaa.Runes
set_option linter.unusedVariables false
set_option linter.unusedSimpArgs false

def KidPost (w : World) (x : S39) (e : Ending) (w' : World) : Prop := ∃ uk, e = .returned uk ∧ IsV w' x uk ∧ Below w.heap.size w w'
set_option maxHeartbeats 1600000 in
theorem kid_in (v : S39) (u : Value) (i : Nat) (hi : i < v.f2.length) (w : World) (hv : IsV w v u) : Calls Try.prog 59 #[u, .int .i64 i] w (KidPost w v.f2[i]) := by
  obtain ⟨A1, c1, A2, c2, rfl, hV1, hV2, hV3, hV4⟩ := hv
  obtain ⟨ad, E1, e1, E2, e2, rfl, m0, m1, m2, m3, hkv⟩ := kid_at hV3 i hi
  obtain ⟨K, hK⟩ : ∃ K, v.f2[i] = K := ⟨_, rfl⟩
  rw [hK] at m0 m1 m2 m3 hkv ⊢
  have HKV := Aside0.mk hkv
  have i0 : (0 : Int) ≤ (i : Int) := Int.natCast_nonneg _
  have i1 : (i : Int) < (v.f2.length : Int) := by omega
  have i2 : decide ((i : Int) < 0) = false := decide_eq_false (by omega)
  have i3 : decide (v.f2.length ≤ i) = false := decide_eq_false (by omega)
  have i4 : decide ((v.f2.length : Int) ≤ (i : Int)) = false := decide_eq_false (by omega)
  have l0 := World.block_lt_of_cell? w _ m0
  clear hV1 hV2 hV3 hV4 hK hkv
  go_enter Try.func59, Try.ntmps59
  go_wp2
  refine bodyPost_ret (v := .agg #[.int .u64 K.f0, .slice E1 K.f1.length e1, .slice E2 K.f2.length e2, .bool K.f3]) (by simp [results, Try.results59, go_sem]) rfl ⟨_, rfl, HKV.out.below ?_, ?_⟩
  all_goals
    first
      | exact below_alloc (below_alloc (Below.refl _ _) _) _
      | exact Below.setCell (below_alloc (below_alloc (Below.refl _ _) _) _) (by simp) _
      | exact below_alloc (Below.refl _ _) _
set_option maxHeartbeats 1600000 in
set_option maxRecDepth 100000 in
theorem num_in (v : S39) (u : Value) (i : Nat) (hi : i < v.f2.length) (w : World) (hv : IsV w v u) : Calls Try.prog 57 #[u, .int .i64 i] w fun e w' => e = .returned (.int .u64 (v.f2[i]).f0) ∧ Below w.heap.size w w' := by
  have HV := Aside0.mk hv
  obtain ⟨A1, c1, A2, c2, rfl, -, -, -, -⟩ := hv
  have HC : Aside0 (∀ W, Below w.heap.size w W → Calls Try.prog 59 #[.agg #[.int .u64 v.f0, .slice A1 v.f1.length c1, .slice A2 v.f2.length c2, .bool v.f3], .int .i64 i] W (KidPost W v.f2[i])) := ⟨fun W hW => kid_in v _ i hi W (HV.out.below hW)⟩
  obtain ⟨K, hK⟩ : ∃ K, v.f2[i] = K := ⟨_, rfl⟩
  rw [hK] at HC ⊢
  clear hK
  go_enter Try.func57, Try.ntmps57
  have HB1 : Aside0 (Below w.heap.size w (w.alloc (.cells #[.int .u64 v.f0, .slice A1 v.f1.length c1, .slice A2 v.f2.length c2, .bool v.f3] 78))) := ⟨below_alloc (Below.refl w.heap.size w) _⟩
  have hfld : ∀ (a b c d : Value) (w : World), (Instr.field 39 (.agg #[a, b, c, d]) 0).run Try.prog w = .ok a w := fun _ _ _ _ _ => by kernel_rfl
  go_wp2_with (go_at_call 59; have hx := HC.out _ HB1.out; (with_reducible refine hx.mono ?_); clear hx; rintro e w2 ⟨uk, rfl, hu, hb⟩; have HB2 := Aside0.mk (below_then HB1.out HB1.out.size hb); obtain ⟨E1, e1, E2, e2, rfl, -, -, -, -⟩ := hu; clear hb)
  go_ret
  exact ⟨rfl, HB2.out⟩
set_option maxHeartbeats 800000 in
theorem of_any (n s1 s2 h : Value) (w : World) : Calls Try.prog 13 #[.agg #[n, s1, s2, h]] w fun e w' => e = .returned (.iface 80 (.agg #[n, s1, s2, h])) ∧ Below w.heap.size w w' := by
  go_enter Try.func13, Try.ntmps13
  go_wp2
  go_ret
  exact ⟨rfl, below_alloc (Below.refl _ _) _⟩

/-- A row of elements, out of the block that holds them. -/
theorem C_of_block {α : Type} {d : Kd α} {w : World} {g : Nat} {cs : Array Value} {t : TypeId} {xs : List α} (hb : w.heap[g]? = some (.cells cs t (0, 0))) (hm : xs.length ≤ 1000)
    (hK : ∀ j p, xs[j]? = some p → ∃ c : List Value, c.length = d.sz ∧ d.K w p c ∧ ∀ i u, c[i]? = some u → cs[j * d.sz + i]? = some u) : Kd.C d w (some ⟨g, 0, none⟩) xs.length xs := by
  refine ⟨rfl, by omega, fun hp => ⟨⟨g, 0, none⟩, rfl, fun j p hp => ?_⟩⟩
  obtain ⟨c, h1, h2, h3⟩ := hK j p hp
  refine ⟨c, h1, h2, fun i u hu => ?_⟩
  have e : (⟨g, 0, none⟩ : Addr).add (j * d.sz + i) = ⟨g, j * d.sz + i, none⟩ := by
    unfold Addr.add; split
    · rename_i h; rw [h]
    · simp
  rw [e]
  exact (blk_cell hb _).trans (h3 i u hu)
/-- One element alone. -/
theorem C_one {α : Type} {d : Kd α} {w : World} {g : Nat} {cs : Array Value} {t : TypeId} {x : α} (hb : w.heap[g]? = some (.cells cs t (0, 0))) (hs : cs.toList.length = d.sz) (hK : d.K w x cs.toList) : Kd.C d w (some ⟨g, 0, none⟩) 1 [x] :=
  C_of_block (xs := [x]) hb (by simp) (fun j p hp => by
    rcases j with _ | j
    · simp at hp; subst hp
      exact ⟨cs.toList, hs, hK, fun i u hu => by simpa using hu⟩
    · simp at hp)
def fx : S28 := ⟨⟨#[120]⟩, ⟨6, 0, 0⟩, 5⟩
def ft : S28 := ⟨⟨#[116]⟩, ⟨11, 0, 0⟩, 0⟩
def rS : S31 := ⟨⟨#[83]⟩, [fx, ft]⟩
def dS : S39 := ⟨0, [], [⟨5, [], [], false⟩, ⟨0, [], [], false⟩], true⟩
theorem default_f : view_Default.f 5 ⟨#[83]⟩ [fx, ft] = some (0, [], [⟨5, [], [], false⟩, ⟨0, [], [], false⟩], true) := by kernel_rfl
theorem good_one (r : S31) (h : ∀ f ∈ r.f1, (f.f1.f0 = 13 → 0 ≤ f.f1.f1 ∧ f.f1.f1 < 1) ∧ f.f1.f2 ≤ 9223372036854775807) : Good [r] := by
  intro r' hr f hf
  rw [List.mem_singleton] at hr; subst hr
  exact ⟨fun e => (h f hf).1 e, (h f hf).2⟩
end Go.Proofs.Ythilhndejhnlnaa.Hand
