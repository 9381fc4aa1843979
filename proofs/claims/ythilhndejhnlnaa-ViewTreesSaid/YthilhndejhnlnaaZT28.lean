/- Texts joined: T4. -/
import Derived.Test.YthilhndejhnlnaaZT27
section
/- view: a list of a view as a value. -/
namespace Go.Proofs.Ythilhndejhnlnaa.Hand
open Go.RowKit Go.Proofs.Ythilhndejhnlnaa.QAll Go.Proofs.YthilhndejhnlnaaW.PrintWords Go.Proofs.YthilhndejhnlnaaW.PrintLast Go.Proofs.YthilhndejhnlnaaW.PrintMore Go.Proofs.Ythilhndejhnlnaa.Mk
set_option linter.unusedVariables false
set_option linter.unusedSimpArgs false
/-- list's blocks. -/
structure LR (w W : World) (g1 g2 g3 g4 : Nat) (us ts os : Array Value) : Prop where
  bel : Below w.heap.size w W
  ne : w.heap.size = g1 ∧ g1 + 1 = g2 ∧ g2 + 1 = g3 ∧ g3 + 1 = g4
  s : W.heap[g1]? = some (.cells us 35 (0, 0))
  t : W.heap[g2]? = some (.cells ts 25 (0, 0))
  r : W.heap[g3]? = some (.cells #[.int .u64 0, .slice none 0 0, .slice none 0 0, .bool false] 39 (0, 0))
  o : W.heap[g4]? = some (.cells os 39 (0, 0))
namespace LR
variable {w W W' : World} {g1 g2 g3 g4 : Nat} {us ts os : Array Value}
theorem below (h : LR w W g1 g2 g3 g4 us ts os) (hb : Below W.heap.size W W') : LR w W' g1 g2 g3 g4 us ts os := ⟨below_then h.bel h.bel.size hb, h.ne, (hb.block _ (blk_lt h.s)).trans h.s, (hb.block _ (blk_lt h.t)).trans h.t, (hb.block _ (blk_lt h.r)).trans h.r, (hb.block _ (blk_lt h.o)).trans h.o⟩
theorem grown (h : LR w W g1 g2 g3 g4 us ts os) {row : Option Nat} (hg : W.grownBy W' row) (hr : ∀ k, row = some k → g4 + 1 ≤ k) : LR w W' g1 g2 g3 g4 us ts os :=
  have n := h.ne
  have ne : ∀ k, k ≤ g4 → some k ≠ row := fun k hk e => by have := hr k e.symm; omega
  ⟨h.bel.grown hg h.bel.size (fun k e => by have := hr k e; omega), n, blk_grown h.s hg (ne _ (by omega)), blk_grown h.t hg (ne _ (by omega)), blk_grown h.r hg (ne _ (by omega)), blk_grown h.o hg (ne _ (by omega))⟩
theorem set (h : LR w W g1 g2 g3 g4 us ts os) (q : Nat) (u : Value) : LR w (W.setCell ⟨g4, q, none⟩ u) g1 g2 g3 g4 us ts (os.setIfInBounds q u) :=
  have n := h.ne
  ⟨Below.setCell h.bel (p := ⟨g4, q, none⟩) (by show w.heap.size ≤ g4; omega) u, n, blk_far h.s (p := ⟨g4, q, none⟩) (by show g1 ≠ g4; omega) u, blk_far h.t (p := ⟨g4, q, none⟩) (by show g2 ≠ g4; omega) u, blk_far h.r (p := ⟨g4, q, none⟩) (by show g3 ≠ g4; omega) u, blk_set h.o q u⟩
theorem sett (h : LR w W g1 g2 g3 g4 us ts os) (q : Nat) (u : Value) : LR w (W.setCell ⟨g2, q, none⟩ u) g1 g2 g3 g4 us (ts.setIfInBounds q u) os :=
  have n := h.ne
  ⟨Below.setCell h.bel (p := ⟨g2, q, none⟩) (by show w.heap.size ≤ g2; omega) u, n, blk_far h.s (p := ⟨g2, q, none⟩) (by show g1 ≠ g2; omega) u, blk_set h.t q u, blk_far h.r (p := ⟨g2, q, none⟩) (by show g3 ≠ g2; omega) u, blk_far h.o (p := ⟨g2, q, none⟩) (by show g4 ≠ g2; omega) u⟩
end LR
theorem lr_new (w : World) (us ts : Array Value) {g1 g2 g3 g4 : Nat} (e1 : w.heap.size = g1) (e2 : g1 + 1 = g2) (e3 : g2 + 1 = g3) (e4 : g3 + 1 = g4) {W : World}
    (hW : (((w.alloc (.cells us 35)).alloc (.cells ts 25)).alloc (.cells #[.int .u64 0, .slice none 0 0, .slice none 0 0, .bool false] 39)).alloc (.cells #[.int .u64 0, .slice none 0 0, .slice none 0 0, .bool false] 39) = W) : LR w W g1 g2 g3 g4 us ts #[.int .u64 0, .slice none 0 0, .slice none 0 0, .bool false] := by
  obtain ⟨w3, h3⟩ : ∃ w3, ((w.alloc (.cells us 35)).alloc (.cells ts 25)).alloc (.cells #[.int .u64 0, .slice none 0 0, .slice none 0 0, .bool false] 39) = w3 := ⟨_, rfl⟩
  have h := fr_new w us ts e1 e2 e3 h3
  rw [h3] at hW
  have b4 := below_alloc (Below.refl w3.heap.size w3) (.cells #[.int .u64 0, .slice none 0 0, .slice none 0 0, .bool false] 39)
  have a4 := heap_alloc_new w3 (.cells #[.int .u64 0, .slice none 0 0, .slice none 0 0, .bool false] 39)
  rw [hW] at a4 b4
  have s3 : w3.heap.size = g4 := by rw [← h3]; simp; omega
  rw [s3] at a4
  have h4 := h.below b4
  exact ⟨h4.bel, ⟨e1, e2, e3, e4⟩, h4.s, h4.t, h4.r, a4⟩
section
variable {st : List S31} {en : List S61} {root : Int} (v : S39) (us u : Value) (w : World) (hS : IsS w st en root us) (hV : IsV w v u)
set_option maxHeartbeats 12800000 in
set_option maxRecDepth 100000 in
include hS hV in
theorem list_lists (kd rf ls : Int) (hls : 1 < ls) (hls3 : ls ≤ 3) (hv : v.f0 = 0 ∧ v.f1 = [] ∧ v.f3 = false) (hsm : v.f2.length ≤ 1099511627776)
    (hE : ∀ (k : Nat) (hk : k < v.f2.length) (W : World) (ul : Value), Below w.heap.size w W → IsV W v.f2[k] ul → Calls Try.prog 34 #[us, tyV kd rf (ls - 1), .iface 119 ul] W (MkPost W v.f2[k])) :
    Calls Try.prog 34 #[us, tyV kd rf ls, .iface 119 u] w (MkPost w v) := by
  obtain ⟨A0, z0, A1, z1, rfl, -⟩ := hS
  have HLEN := Aside0.mk (fun (W : World) (h : Below w.heap.size w W) => len_any v u W (hV.below h))
  have HVV := Aside0.mk hV
  obtain ⟨A2, c2, A3, c3, rfl, -⟩ := hV
  obtain ⟨vn, vb, ks, vh⟩ := v
  obtain ⟨hv0, hv1, hv3⟩ := hv
  simp only at hv0 hv1 hv3 HLEN hsm HVV hE ⊢
  subst hv0 hv1 hv3
  simp only [List.length_nil] at HLEN HVV ⊢
  have HSM := Aside0.mk hsm
  have l1 : IntKind.i64.wrap (ls - 1) = ls - 1 := by rw [IntKind.wrap_i64]; omega
  have HE := Aside0.mk hE
  have l0 : decide (0 < ls - 1) = true := decide_eq_true (by omega)
  have l2 : decide (1 < ls) = true := decide_eq_true (by omega)
  obtain ⟨g1, e1⟩ : ∃ g1, w.heap.size = g1 := ⟨_, rfl⟩
  obtain ⟨g2, e2⟩ : ∃ g2, g1 + 1 = g2 := ⟨_, rfl⟩
  obtain ⟨g3, e3⟩ : ∃ g3, g2 + 1 = g3 := ⟨_, rfl⟩
  obtain ⟨g4, e4⟩ : ∃ g4, g3 + 1 = g4 := ⟨_, rfl⟩
  obtain ⟨w1, hw1⟩ : ∃ w1, (((w.alloc (.cells #[.slice A0 st.length z0, .slice A1 en.length z1, .int .i64 root] 35)).alloc (.cells #[.int .u8 kd, .int .i64 rf, .int .i64 ls] 25)).alloc (.cells #[.int .u64 0, .slice none 0 0, .slice none 0 0, .bool false] 39)).alloc (.cells #[.int .u64 0, .slice none 0 0, .slice none 0 0, .bool false] 39) = w1 := ⟨_, rfl⟩
  have HT0 := Aside0.mk (lr_new w _ _ e1 e2 e3 e4 hw1)
  have HEQ := Aside0.mk (And.intro e1 (And.intro e2 (And.intro e3 (And.intro e4 hw1))))
  clear e1 e2 e3 e4 hw1 hls hls3 hsm hE
  go_enter Try.func34, Try.ntmps34
  go_upto_region 2 with (fail)
  rw [HEQ.out.1, HEQ.out.2.1, HEQ.out.2.2.1, HEQ.out.2.2.2.1, HEQ.out.2.2.2.2]
  have t2 : w1.cell? ⟨g2, 2, none⟩ = some (.int .i64 ls) := (blk_cell HT0.out.t 2).trans rfl
  have y2 := blk_frozen HT0.out.t 2
  go_upto_region 3 with (fail)
  have HT1 : Aside0 (LR w (w1.setCell ⟨g2, 2, none⟩ (.int .i64 (ls - 1))) g1 g2 g3 g4 #[.slice A0 st.length z0, .slice A1 en.length z1, .int .i64 root] #[.int .u8 kd, .int .i64 rf, .int .i64 (ls - 1)] #[.int .u64 0, .slice none 0 0, .slice none 0 0, .bool false]) := ⟨HT0.out.sett 2 _⟩
  generalize w1.setCell ⟨g2, 2, none⟩ (.int .i64 (ls - 1)) = w2 at HT1 ⊢
  clear t2 y2
  have hm0 : ∀ (a b c d : Value) (w : World), (method 221 119 (.agg #[a, b, c, d]) "Len").run Try.prog w = .ok (56, .agg #[a, b, c, d]) w := fun _ _ _ _ _ => by kernel_rfl
  go_wp2_with (go_at_call 56; (with_reducible refine (HLEN.out w2 HT1.out.bel).mono ?_); rintro e w3 ⟨rfl, hb⟩; have HT2 := Aside0.mk (HT1.out.below hb); clear hb)
  go_loopg [15] (ks.length + 1) (fun kq v15 wr => ∃ (k : Nat) (vk : Value), v15 = .int .i64 k ∧ Aside0 (k ≤ ks.length) ∧ Aside0 (ks.length < kq + k) ∧ Aside0 (LR w wr g1 g2 g3 g4 #[.slice A0 st.length z0, .slice A1 en.length z1, .int .i64 root] #[.int .u8 kd, .int .i64 rf, .int .i64 (ls - 1)] #[.int .u64 0, .slice none 0 0, vk, .bool false]) ∧ Aside0 (Rb k39 39 wr (g4 + 1) vk (ks.take k)))
  case atStart => exact ⟨0, .slice none 0 0, rfl, ⟨Nat.zero_le _⟩, ⟨by omega⟩, HT2, ⟨Rb.nil _ _ _ _⟩⟩
  case round =>
    obtain ⟨k, vk, rfl, HK, HKQ, HT, HR⟩ := hrel
    obtain ⟨n, rfl⟩ : ∃ n, gk = n + 1 := ⟨gk - 1, by have := HKQ.out; have := HK.out; omega⟩
    obtain ⟨L, hL⟩ : ∃ L, (ks.take k).length = L := ⟨_, rfl⟩
    have hLk : L = k := by rw [← hL, List.length_take]; have := HK.out; omega
    subst hLk
    obtain ⟨Ak, ck, e9, -, -⟩ := HR.out.slice
    rw [hL] at e9
    subst e9
    have HLL := Aside0.mk hL
    clear hL
    by_cases p : L < ks.length
    · have p1 : decide (L < ks.length) = true := decide_eq_true p
      have p2 : decide ((L : Int) < (ks.length : Int)) = true := decide_eq_true (by omega)
      have k0 : (0 : Int) ≤ (L : Int) := Int.natCast_nonneg _
      have kb : L ≤ 1099511627776 := by have := HSM.out; omega
      obtain ⟨K, hK⟩ : ∃ K, ks[L] = K := ⟨_, rfl⟩
      have HTK : Aside0 (ks.take (L + 1) = ks.take L ++ [K]) := ⟨by rw [List.take_succ_eq_append_getElem p, hK]⟩
      have HP := Aside0.mk p
      have HM := Aside0.mk (fun (W : World) (h : Below w.heap.size w W) => ilist_in ⟨0, [], ks, false⟩ _ L p W (HVV.out.below h))
      have HC := Aside0.mk (fun (W : World) (h : Below w.heap.size w W) (ul : Value) (hu : IsV W ks[L] ul) => HE.out L p W ul h hu)
      simp only at HM HC
      rw [hK] at HM HC
      have hm : ∀ (a b c d : Value) (w : World), (method 221 119 (.agg #[a, b, c, d]) "List").run Try.prog w = .ok (63, .agg #[a, b, c, d]) w := fun _ _ _ _ _ => by kernel_rfl
      clear hK p
      have t0 : wr.cell? ⟨g2, 0, none⟩ = some (.int .u8 kd) := (blk_cell HT.out.t 0).trans rfl
      have t1 : wr.cell? ⟨g2, 1, none⟩ = some (.int .i64 rf) := (blk_cell HT.out.t 1).trans rfl
      have t2 : wr.cell? ⟨g2, 2, none⟩ = some (.int .i64 (ls - 1)) := (blk_cell HT.out.t 2).trans rfl
      have s0 : wr.cell? ⟨g1, 0, none⟩ = some (.slice A0 st.length z0) := (blk_cell HT.out.s 0).trans rfl
      have s1 : wr.cell? ⟨g1, 1, none⟩ = some (.slice A1 en.length z1) := (blk_cell HT.out.s 1).trans rfl
      have s2 : wr.cell? ⟨g1, 2, none⟩ = some (.int .i64 root) := (blk_cell HT.out.s 2).trans rfl
      have o2 : wr.cell? ⟨g4, 2, none⟩ = some (.slice Ak L ck) := (blk_cell HT.out.o 2).trans rfl
      go_upto_region 8 with (fail)
      go_region_law ((first
        | (refine call_ (N := some 37) 63 #[.agg #[.int .u64 0, .slice A2 0 c2, .slice A3 ks.length c3, .bool false], .int .i64 L] (by rfl) rfl (by go_simp) ?_; (refine (HM.out wr.drew (below_then HT.out.bel HT.out.bel.size (below_drew (Below.refl _ _)))).mono ?_); rintro e w6 hp; obtain ⟨uk, rfl, hu, hb⟩ := hp; have hb6 := below_then (below_drew (Below.refl wr.heap.size wr)) (Nat.le_refl _) hb; have HB6 := Aside0.mk hb6; have HT6 := Aside0.mk (HT.out.below hb6); have HR6 := Aside0.mk (HR.out.below hb6); have HU := Aside0.mk hu; have HW6 : Aside0 (wr.heap.size ≤ w6.heap.size) := ⟨hb6.size⟩; have o26 := pw_cell_below hb6 o2; have s06 := pw_cell_below hb6 s0; have s16 := pw_cell_below hb6 s1; have s26 := pw_cell_below hb6 s2; have t06 := pw_cell_below hb6 t0; have t16 := pw_cell_below hb6 t1; have t26 := pw_cell_below hb6 t2; clear hu hb hb6; refine ⟨_, rfl, ?_⟩)
        | (refine goes_ (N := some 38) Try.func34 (by kernel_rfl) rfl #[.agg #[.slice A0 st.length z0, .slice A1 en.length z1, .int .i64 root], tyV kd rf (ls - 1), .iface 119 uk] (by rfl) rfl rfl (by simp only [List.map_toArray, List.map_cons, List.map_nil]; rfl) ?_; (refine (HC.out w6 HT6.out.bel uk HU.out).mono ?_); rintro e w7 hp; obtain ⟨v1, v2, rfl, hr1, hr2, hb7⟩ := hp; obtain ⟨A5, c5, rfl, -, -⟩ := hr1.slice; obtain ⟨A6, c6, rfl, -, -⟩ := hr2.slice; have HT7 := Aside0.mk (HT6.out.below hb7); have HR7 := Aside0.mk (HR6.out.below hb7); have HR1 := Aside0.mk hr1; have HR2 := Aside0.mk hr2; have o27 := pw_cell_below hb7 o26; have o28 := pw_cell_below (below_alloc (Below.refl w7.heap.size w7) (.cells #[.int .u64 K.f0, .slice A5 K.f1.length c5, .slice A6 K.f2.length c6, .bool K.f3] 39)) o27; clear hr1 hr2 hb7; refine ⟨_, rfl, ?_⟩)
        | (refine Kd.R_append_step k39 (w0 := w7) (W := w7) (g4 + 1) rfl (.tmp 32) (.tmp 39) 37 39 (.agg #[.int .u64 0, .slice none 0 0, .slice none 0 0, .bool false]) 64 rfl Try.underlying37 info39 rfl (by decide) (by decide) (.slice Ak L ck) (ks.take L) K [.int .u64 K.f0, .slice A5 K.f1.length c5, .slice A6 K.f2.length c6, .bool K.f3] (fun _ => True) (fun x => wr.heap.size ≤ x) rfl rfl (k39_mkM w7 (g4 + 1) _ K (Kd.R_lower (Kd.R_mono (Rb.from HR1.out) (fun x hx => Nat.le_trans HW6.out hx)) (Nat.le_trans (blk_lt HT.out.o) HW6.out)) (Kd.R_lower (Kd.R_mono (Rb.from HR2.out) (fun x hx => Nat.le_trans HW6.out hx)) (Nat.le_trans (blk_lt HT.out.o) HW6.out))) (fun x hx => ⟨trivial, fun e => by have := (HR.out.bas x e.symm).2; omega⟩) (fun _ _ => trivial) HR7.out (Below.refl _ _) (blk_lt HT7.out.o) (by rw [HLL.out]; omega) ?_; intro v9 w9 hr9 _ hg9 _; obtain ⟨A9, c9, e9, -, -⟩ := Rb.slice hr9; rw [List.length_append, List.length_singleton, HLL.out] at e9; subst e9; have HT9 := Aside0.mk (HT7.out.grown hg9 (fun x hx => (HR7.out.bas x hx).1)); have HR9 := Aside0.mk hr9; have o9 : w9.cell? ⟨g4, 2, none⟩ = some (.slice Ak L ck) := (blk_cell HT9.out.o 2).trans rfl; have f9 := blk_frozen HT9.out.o 2; clear hr9 hg9)))
      all_goals
        clear t0 t1 t2 s0 s1 s2 o2
        go_wp2_with (fail)
        go_roundg n
        case measure => omega
        case rel => exact ⟨L + 1, .slice A9 (L + 1) c9, by go_num, ⟨by have := HP.out; omega⟩, ⟨by have := HKQ.out; omega⟩, ⟨HT9.out.set 2 (.slice A9 (L + 1) c9)⟩, ⟨by rw [HTK.out]; exact Rb.set (p := ⟨g4, 2, none⟩) HR9.out (Nat.lt_succ_self _) _⟩⟩
    · have p1 : decide (L < ks.length) = false := decide_eq_false p
      have p2 : decide ((L : Int) < (ks.length : Int)) = false := decide_eq_false (by omega)
      have HTK : Aside0 (ks.take L = ks ∧ L = ks.length) := ⟨by have := HK.out; exact ⟨List.take_of_length_le (by omega), by omega⟩⟩
      have o0 : wr.cell? ⟨g4, 0, none⟩ = some (.int .u64 0) := (blk_cell HT.out.o 0).trans rfl
      have o1 : wr.cell? ⟨g4, 1, none⟩ = some (.slice none 0 0) := (blk_cell HT.out.o 1).trans rfl
      have o2 : wr.cell? ⟨g4, 2, none⟩ = some (.slice Ak L ck) := (blk_cell HT.out.o 2).trans rfl
      have o3 : wr.cell? ⟨g4, 3, none⟩ = some (.bool false) := (blk_cell HT.out.o 3).trans rfl
      have r0 : wr.cell? ⟨g3, 0, none⟩ = some (.int .u64 0) := (blk_cell HT.out.r 0).trans rfl
      have r1 : wr.cell? ⟨g3, 1, none⟩ = some (.slice none 0 0) := (blk_cell HT.out.r 1).trans rfl
      have r2 : wr.cell? ⟨g3, 2, none⟩ = some (.slice none 0 0) := (blk_cell HT.out.r 2).trans rfl
      have r3 : wr.cell? ⟨g3, 3, none⟩ = some (.bool false) := (blk_cell HT.out.r 3).trans rfl
      have y0 := blk_frozen HT.out.r 0
      have y1 := blk_frozen HT.out.r 1
      have y2 := blk_frozen HT.out.r 2
      have y3 := blk_frozen HT.out.r 3
      clear p
      go_wp2_with (fail)
      clear o0 o1 o2 o3 r0 r1 r2 r3 y0 y1 y2 y3
      have hr := HR.out
      rw [HTK.out.1] at hr
      obtain ⟨wz, hwz⟩ : ∃ wz, (((wr.setCell ⟨g3, 0, none⟩ (.int .u64 0)).setCell ⟨g3, 1, none⟩ (.slice none 0 0)).setCell ⟨g3, 2, none⟩ (.slice Ak L ck)).setCell ⟨g3, 3, none⟩ (.bool false) = wz := ⟨_, rfl⟩
      rw [hwz]
      obtain ⟨q1, q2, q3, q4⟩ := set4_all hwz
      have hb := q4 HT.out.r
      have z0' := (blk_cell hb 0).trans rfl
      have z1' := (blk_cell hb 1).trans rfl
      have z2' := (blk_cell hb 2).trans rfl
      have z3' := (blk_cell hb 3).trans rfl
      have hn := HT.out.ne
      refine bodyPost_ret (v := .agg #[.int .u64 0, .slice none 0 0, .slice Ak L ck, .bool false]) (by simp [results, Try.results34, go_sem, z0', z1', z2', z3']) rfl ⟨_, _, rfl, Rb.nil _ _ _ _, (q1 hr (by omega)).lower (by omega), ?_⟩
      rw [← hwz]
      have hlow : w.heap.size ≤ g3 := by omega
      exact Below.setCell (Below.setCell (Below.setCell (Below.setCell HT.out.bel (p := ⟨g3, 0, none⟩) hlow _) (p := ⟨g3, 1, none⟩) hlow _) (p := ⟨g3, 2, none⟩) hlow _) (p := ⟨g3, 3, none⟩) hlow _
set_option maxHeartbeats 12800000 in
set_option maxRecDepth 100000 in
include hS hV in
theorem list_structs (rf : Int) (ls : Int) (hls : ls = 1) (hls3 : ls ≤ 3) (hv : v.f0 = 0 ∧ v.f1 = [] ∧ v.f3 = false) (hsm : v.f2.length ≤ 1099511627776)
    (hE : ∀ (k : Nat) (hk : k < v.f2.length) (W : World) (ul : Value), Below w.heap.size w W → IsV W v.f2[k] ul → Calls Try.prog 16 #[us, .int .i64 rf, .iface 80 ul] W (MkPost W v.f2[k])) :
    Calls Try.prog 34 #[us, tyV 13 rf ls, .iface 119 u] w (MkPost w v) := by
  obtain ⟨A0, z0, A1, z1, rfl, -⟩ := hS
  have HLEN := Aside0.mk (fun (W : World) (h : Below w.heap.size w W) => len_any v u W (hV.below h))
  have HVV := Aside0.mk hV
  obtain ⟨A2, c2, A3, c3, rfl, -⟩ := hV
  obtain ⟨vn, vb, ks, vh⟩ := v
  obtain ⟨hv0, hv1, hv3⟩ := hv
  simp only at hv0 hv1 hv3 HLEN hsm HVV hE ⊢
  subst hv0 hv1 hv3
  simp only [List.length_nil] at HLEN HVV ⊢
  have HSM := Aside0.mk hsm
  have l1 : IntKind.i64.wrap (ls - 1) = ls - 1 := by rw [IntKind.wrap_i64]; omega
  have HE := Aside0.mk hE
  have l0 : decide (0 < ls - 1) = false := decide_eq_false (by omega)
  have l2 : decide (1 < ls) = false := decide_eq_false (by omega)
  obtain ⟨g1, e1⟩ : ∃ g1, w.heap.size = g1 := ⟨_, rfl⟩
  obtain ⟨g2, e2⟩ : ∃ g2, g1 + 1 = g2 := ⟨_, rfl⟩
  obtain ⟨g3, e3⟩ : ∃ g3, g2 + 1 = g3 := ⟨_, rfl⟩
  obtain ⟨g4, e4⟩ : ∃ g4, g3 + 1 = g4 := ⟨_, rfl⟩
  obtain ⟨w1, hw1⟩ : ∃ w1, (((w.alloc (.cells #[.slice A0 st.length z0, .slice A1 en.length z1, .int .i64 root] 35)).alloc (.cells #[.int .u8 13, .int .i64 rf, .int .i64 ls] 25)).alloc (.cells #[.int .u64 0, .slice none 0 0, .slice none 0 0, .bool false] 39)).alloc (.cells #[.int .u64 0, .slice none 0 0, .slice none 0 0, .bool false] 39) = w1 := ⟨_, rfl⟩
  have HT0 := Aside0.mk (lr_new w _ _ e1 e2 e3 e4 hw1)
  have HEQ := Aside0.mk (And.intro e1 (And.intro e2 (And.intro e3 (And.intro e4 hw1))))
  clear e1 e2 e3 e4 hw1 hls hls3 hsm hE
  go_enter Try.func34, Try.ntmps34
  go_upto_region 2 with (fail)
  rw [HEQ.out.1, HEQ.out.2.1, HEQ.out.2.2.1, HEQ.out.2.2.2.1, HEQ.out.2.2.2.2]
  have t2 : w1.cell? ⟨g2, 2, none⟩ = some (.int .i64 ls) := (blk_cell HT0.out.t 2).trans rfl
  have y2 := blk_frozen HT0.out.t 2
  go_upto_region 3 with (fail)
  have HT1 : Aside0 (LR w (w1.setCell ⟨g2, 2, none⟩ (.int .i64 (ls - 1))) g1 g2 g3 g4 #[.slice A0 st.length z0, .slice A1 en.length z1, .int .i64 root] #[.int .u8 13, .int .i64 rf, .int .i64 (ls - 1)] #[.int .u64 0, .slice none 0 0, .slice none 0 0, .bool false]) := ⟨HT0.out.sett 2 _⟩
  generalize w1.setCell ⟨g2, 2, none⟩ (.int .i64 (ls - 1)) = w2 at HT1 ⊢
  clear t2 y2
  have hm0 : ∀ (a b c d : Value) (w : World), (method 221 119 (.agg #[a, b, c, d]) "Len").run Try.prog w = .ok (56, .agg #[a, b, c, d]) w := fun _ _ _ _ _ => by kernel_rfl
  go_wp2_with (go_at_call 56; (with_reducible refine (HLEN.out w2 HT1.out.bel).mono ?_); rintro e w3 ⟨rfl, hb⟩; have HT2 := Aside0.mk (HT1.out.below hb); clear hb)
  go_loopg [15] (ks.length + 1) (fun kq v15 wr => ∃ (k : Nat) (vk : Value), v15 = .int .i64 k ∧ Aside0 (k ≤ ks.length) ∧ Aside0 (ks.length < kq + k) ∧ Aside0 (LR w wr g1 g2 g3 g4 #[.slice A0 st.length z0, .slice A1 en.length z1, .int .i64 root] #[.int .u8 13, .int .i64 rf, .int .i64 (ls - 1)] #[.int .u64 0, .slice none 0 0, vk, .bool false]) ∧ Aside0 (Rb k39 39 wr (g4 + 1) vk (ks.take k)))
  case atStart => exact ⟨0, .slice none 0 0, rfl, ⟨Nat.zero_le _⟩, ⟨by omega⟩, HT2, ⟨Rb.nil _ _ _ _⟩⟩
  case round =>
    obtain ⟨k, vk, rfl, HK, HKQ, HT, HR⟩ := hrel
    obtain ⟨n, rfl⟩ : ∃ n, gk = n + 1 := ⟨gk - 1, by have := HKQ.out; have := HK.out; omega⟩
    obtain ⟨L, hL⟩ : ∃ L, (ks.take k).length = L := ⟨_, rfl⟩
    have hLk : L = k := by rw [← hL, List.length_take]; have := HK.out; omega
    subst hLk
    obtain ⟨Ak, ck, e9, -, -⟩ := HR.out.slice
    rw [hL] at e9
    subst e9
    have HLL := Aside0.mk hL
    clear hL
    by_cases p : L < ks.length
    · have p1 : decide (L < ks.length) = true := decide_eq_true p
      have p2 : decide ((L : Int) < (ks.length : Int)) = true := decide_eq_true (by omega)
      have k0 : (0 : Int) ≤ (L : Int) := Int.natCast_nonneg _
      have kb : L ≤ 1099511627776 := by have := HSM.out; omega
      obtain ⟨K, hK⟩ : ∃ K, ks[L] = K := ⟨_, rfl⟩
      have HTK : Aside0 (ks.take (L + 1) = ks.take L ++ [K]) := ⟨by rw [List.take_succ_eq_append_getElem p, hK]⟩
      have HP := Aside0.mk p
      have HM := Aside0.mk (fun (W : World) (h : Below w.heap.size w W) => isub_in ⟨0, [], ks, false⟩ _ L p W (HVV.out.below h))
      have HC := Aside0.mk (fun (W : World) (h : Below w.heap.size w W) (ul : Value) (hu : IsV W ks[L] ul) => HE.out L p W ul h hu)
      simp only at HM HC
      rw [hK] at HM HC
      have hm : ∀ (a b c d : Value) (w : World), (method 221 119 (.agg #[a, b, c, d]) "Sub").run Try.prog w = .ok (64, .agg #[a, b, c, d]) w := fun _ _ _ _ _ => by kernel_rfl
      clear hK p
      have t0 : wr.cell? ⟨g2, 0, none⟩ = some (.int .u8 13) := (blk_cell HT.out.t 0).trans rfl
      have t1 : wr.cell? ⟨g2, 1, none⟩ = some (.int .i64 rf) := (blk_cell HT.out.t 1).trans rfl
      have t2 : wr.cell? ⟨g2, 2, none⟩ = some (.int .i64 (ls - 1)) := (blk_cell HT.out.t 2).trans rfl
      have s0 : wr.cell? ⟨g1, 0, none⟩ = some (.slice A0 st.length z0) := (blk_cell HT.out.s 0).trans rfl
      have s1 : wr.cell? ⟨g1, 1, none⟩ = some (.slice A1 en.length z1) := (blk_cell HT.out.s 1).trans rfl
      have s2 : wr.cell? ⟨g1, 2, none⟩ = some (.int .i64 root) := (blk_cell HT.out.s 2).trans rfl
      have o2 : wr.cell? ⟨g4, 2, none⟩ = some (.slice Ak L ck) := (blk_cell HT.out.o 2).trans rfl
      go_upto_region 10 with (fail)
      go_region_law ((first
        | (refine call_ (N := some 53) 64 #[.agg #[.int .u64 0, .slice A2 0 c2, .slice A3 ks.length c3, .bool false], .int .i64 L] (by rfl) rfl (by go_simp) ?_; (refine (HM.out wr.drew (below_then HT.out.bel HT.out.bel.size (below_drew (Below.refl _ _)))).mono ?_); rintro e w6 hp; obtain ⟨uk, rfl, hu, hb⟩ := hp; have hb6 := below_then (below_drew (Below.refl wr.heap.size wr)) (Nat.le_refl _) hb; have HB6 := Aside0.mk hb6; have HT6 := Aside0.mk (HT.out.below hb6); have HR6 := Aside0.mk (HR.out.below hb6); have HU := Aside0.mk hu; have HW6 : Aside0 (wr.heap.size ≤ w6.heap.size) := ⟨hb6.size⟩; have o26 := pw_cell_below hb6 o2; have s06 := pw_cell_below hb6 s0; have s16 := pw_cell_below hb6 s1; have s26 := pw_cell_below hb6 s2; have t06 := pw_cell_below hb6 t0; have t16 := pw_cell_below hb6 t1; have t26 := pw_cell_below hb6 t2; clear hu hb hb6; refine ⟨_, rfl, ?_⟩)
        | (refine goes_ (N := some 54) Try.func16 (by kernel_rfl) rfl #[.agg #[.slice A0 st.length z0, .slice A1 en.length z1, .int .i64 root], .int .i64 rf, .iface 80 uk] (by rfl) rfl rfl (by simp only [List.map_toArray, List.map_cons, List.map_nil]; rfl) ?_; (refine (HC.out w6 HT6.out.bel uk HU.out).mono ?_); rintro e w7 hp; obtain ⟨v1, v2, rfl, hr1, hr2, hb7⟩ := hp; obtain ⟨A5, c5, rfl, -, -⟩ := hr1.slice; obtain ⟨A6, c6, rfl, -, -⟩ := hr2.slice; have HT7 := Aside0.mk (HT6.out.below hb7); have HR7 := Aside0.mk (HR6.out.below hb7); have HR1 := Aside0.mk hr1; have HR2 := Aside0.mk hr2; have o27 := pw_cell_below hb7 o26; have o28 := pw_cell_below (below_alloc (Below.refl w7.heap.size w7) (.cells #[.int .u64 K.f0, .slice A5 K.f1.length c5, .slice A6 K.f2.length c6, .bool K.f3] 39)) o27; clear hr1 hr2 hb7; refine ⟨_, rfl, ?_⟩)
        | (refine Kd.R_append_step k39 (w0 := w7) (W := w7) (g4 + 1) rfl (.tmp 47) (.tmp 55) 37 39 (.agg #[.int .u64 0, .slice none 0 0, .slice none 0 0, .bool false]) 64 rfl Try.underlying37 info39 rfl (by decide) (by decide) (.slice Ak L ck) (ks.take L) K [.int .u64 K.f0, .slice A5 K.f1.length c5, .slice A6 K.f2.length c6, .bool K.f3] (fun _ => True) (fun x => wr.heap.size ≤ x) rfl rfl (k39_mkM w7 (g4 + 1) _ K (Kd.R_lower (Kd.R_mono (Rb.from HR1.out) (fun x hx => Nat.le_trans HW6.out hx)) (Nat.le_trans (blk_lt HT.out.o) HW6.out)) (Kd.R_lower (Kd.R_mono (Rb.from HR2.out) (fun x hx => Nat.le_trans HW6.out hx)) (Nat.le_trans (blk_lt HT.out.o) HW6.out))) (fun x hx => ⟨trivial, fun e => by have := (HR.out.bas x e.symm).2; omega⟩) (fun _ _ => trivial) HR7.out (Below.refl _ _) (blk_lt HT7.out.o) (by rw [HLL.out]; omega) ?_; intro v9 w9 hr9 _ hg9 _; obtain ⟨A9, c9, e9, -, -⟩ := Rb.slice hr9; rw [List.length_append, List.length_singleton, HLL.out] at e9; subst e9; have HT9 := Aside0.mk (HT7.out.grown hg9 (fun x hx => (HR7.out.bas x hx).1)); have HR9 := Aside0.mk hr9; have o9 : w9.cell? ⟨g4, 2, none⟩ = some (.slice Ak L ck) := (blk_cell HT9.out.o 2).trans rfl; have f9 := blk_frozen HT9.out.o 2; clear hr9 hg9)))
      all_goals
        clear t0 t1 t2 s0 s1 s2 o2
        go_wp2_with (fail)
        go_roundg n
        case measure => omega
        case rel => exact ⟨L + 1, .slice A9 (L + 1) c9, by go_num, ⟨by have := HP.out; omega⟩, ⟨by have := HKQ.out; omega⟩, ⟨HT9.out.set 2 (.slice A9 (L + 1) c9)⟩, ⟨by rw [HTK.out]; exact Rb.set (p := ⟨g4, 2, none⟩) HR9.out (Nat.lt_succ_self _) _⟩⟩
    · have p1 : decide (L < ks.length) = false := decide_eq_false p
      have p2 : decide ((L : Int) < (ks.length : Int)) = false := decide_eq_false (by omega)
      have HTK : Aside0 (ks.take L = ks ∧ L = ks.length) := ⟨by have := HK.out; exact ⟨List.take_of_length_le (by omega), by omega⟩⟩
      have o0 : wr.cell? ⟨g4, 0, none⟩ = some (.int .u64 0) := (blk_cell HT.out.o 0).trans rfl
      have o1 : wr.cell? ⟨g4, 1, none⟩ = some (.slice none 0 0) := (blk_cell HT.out.o 1).trans rfl
      have o2 : wr.cell? ⟨g4, 2, none⟩ = some (.slice Ak L ck) := (blk_cell HT.out.o 2).trans rfl
      have o3 : wr.cell? ⟨g4, 3, none⟩ = some (.bool false) := (blk_cell HT.out.o 3).trans rfl
      have r0 : wr.cell? ⟨g3, 0, none⟩ = some (.int .u64 0) := (blk_cell HT.out.r 0).trans rfl
      have r1 : wr.cell? ⟨g3, 1, none⟩ = some (.slice none 0 0) := (blk_cell HT.out.r 1).trans rfl
      have r2 : wr.cell? ⟨g3, 2, none⟩ = some (.slice none 0 0) := (blk_cell HT.out.r 2).trans rfl
      have r3 : wr.cell? ⟨g3, 3, none⟩ = some (.bool false) := (blk_cell HT.out.r 3).trans rfl
      have y0 := blk_frozen HT.out.r 0
      have y1 := blk_frozen HT.out.r 1
      have y2 := blk_frozen HT.out.r 2
      have y3 := blk_frozen HT.out.r 3
      clear p
      go_wp2_with (fail)
      clear o0 o1 o2 o3 r0 r1 r2 r3 y0 y1 y2 y3
      have hr := HR.out
      rw [HTK.out.1] at hr
      obtain ⟨wz, hwz⟩ : ∃ wz, (((wr.setCell ⟨g3, 0, none⟩ (.int .u64 0)).setCell ⟨g3, 1, none⟩ (.slice none 0 0)).setCell ⟨g3, 2, none⟩ (.slice Ak L ck)).setCell ⟨g3, 3, none⟩ (.bool false) = wz := ⟨_, rfl⟩
      rw [hwz]
      obtain ⟨q1, q2, q3, q4⟩ := set4_all hwz
      have hb := q4 HT.out.r
      have z0' := (blk_cell hb 0).trans rfl
      have z1' := (blk_cell hb 1).trans rfl
      have z2' := (blk_cell hb 2).trans rfl
      have z3' := (blk_cell hb 3).trans rfl
      have hn := HT.out.ne
      refine bodyPost_ret (v := .agg #[.int .u64 0, .slice none 0 0, .slice Ak L ck, .bool false]) (by simp [results, Try.results34, go_sem, z0', z1', z2', z3']) rfl ⟨_, _, rfl, Rb.nil _ _ _ _, (q1 hr (by omega)).lower (by omega), ?_⟩
      rw [← hwz]
      have hlow : w.heap.size ≤ g3 := by omega
      exact Below.setCell (Below.setCell (Below.setCell (Below.setCell HT.out.bel (p := ⟨g3, 0, none⟩) hlow _) (p := ⟨g3, 1, none⟩) hlow _) (p := ⟨g3, 2, none⟩) hlow _) (p := ⟨g3, 3, none⟩) hlow _
set_option maxHeartbeats 12800000 in
set_option maxRecDepth 100000 in
include hS hV in
theorem list_nums (kd rf ls : Int) (hls : ls = 1) (hls3 : ls ≤ 3) (hsz : 0 < szB kd) (hk10 : kd ≤ 10) (hv : v.f0 = 0 ∧ v.f1 = [] ∧ v.f3 = false) (hsm : v.f2.length ≤ 1099511627776)
    (hE : ∀ (k : Nat) (hk : k < v.f2.length), v.f2[k].f1 = [] ∧ v.f2[k].f2 = [] ∧ v.f2[k].f3 = false) :
    Calls Try.prog 34 #[us, tyV kd rf ls, .iface 119 u] w (MkPost w v) := by
  obtain ⟨A0, z0, A1, z1, rfl, -⟩ := hS
  have HLEN := Aside0.mk (fun (W : World) (h : Below w.heap.size w W) => len_any v u W (hV.below h))
  have HVV := Aside0.mk hV
  obtain ⟨A2, c2, A3, c3, rfl, -⟩ := hV
  obtain ⟨vn, vb, ks, vh⟩ := v
  obtain ⟨hv0, hv1, hv3⟩ := hv
  simp only at hv0 hv1 hv3 HLEN hsm HVV hE ⊢
  subst hv0 hv1 hv3
  simp only [List.length_nil] at HLEN HVV ⊢
  have HSM := Aside0.mk hsm
  have l1 : IntKind.i64.wrap (ls - 1) = ls - 1 := by rw [IntKind.wrap_i64]; omega
  have HE := Aside0.mk hE
  have l0 : decide (0 < ls - 1) = false := decide_eq_false (by omega)
  have l2 : decide (1 < ls) = false := decide_eq_false (by omega)
  have HSZ := Aside0.mk (size_f kd)
  have k13 : (kd == 13) = false := by simp only [beq_eq_false_iff_ne]; omega
  have hsp : decide (0 < szB kd) = true := decide_eq_true hsz
  obtain ⟨g1, e1⟩ : ∃ g1, w.heap.size = g1 := ⟨_, rfl⟩
  obtain ⟨g2, e2⟩ : ∃ g2, g1 + 1 = g2 := ⟨_, rfl⟩
  obtain ⟨g3, e3⟩ : ∃ g3, g2 + 1 = g3 := ⟨_, rfl⟩
  obtain ⟨g4, e4⟩ : ∃ g4, g3 + 1 = g4 := ⟨_, rfl⟩
  obtain ⟨w1, hw1⟩ : ∃ w1, (((w.alloc (.cells #[.slice A0 st.length z0, .slice A1 en.length z1, .int .i64 root] 35)).alloc (.cells #[.int .u8 kd, .int .i64 rf, .int .i64 ls] 25)).alloc (.cells #[.int .u64 0, .slice none 0 0, .slice none 0 0, .bool false] 39)).alloc (.cells #[.int .u64 0, .slice none 0 0, .slice none 0 0, .bool false] 39) = w1 := ⟨_, rfl⟩
  have HT0 := Aside0.mk (lr_new w _ _ e1 e2 e3 e4 hw1)
  have HEQ := Aside0.mk (And.intro e1 (And.intro e2 (And.intro e3 (And.intro e4 hw1))))
  clear e1 e2 e3 e4 hw1 hls hls3 hsm hE hsz hk10
  go_enter Try.func34, Try.ntmps34
  go_upto_region 2 with (fail)
  rw [HEQ.out.1, HEQ.out.2.1, HEQ.out.2.2.1, HEQ.out.2.2.2.1, HEQ.out.2.2.2.2]
  have t2 : w1.cell? ⟨g2, 2, none⟩ = some (.int .i64 ls) := (blk_cell HT0.out.t 2).trans rfl
  have y2 := blk_frozen HT0.out.t 2
  go_upto_region 3 with (fail)
  have HT1 : Aside0 (LR w (w1.setCell ⟨g2, 2, none⟩ (.int .i64 (ls - 1))) g1 g2 g3 g4 #[.slice A0 st.length z0, .slice A1 en.length z1, .int .i64 root] #[.int .u8 kd, .int .i64 rf, .int .i64 (ls - 1)] #[.int .u64 0, .slice none 0 0, .slice none 0 0, .bool false]) := ⟨HT0.out.sett 2 _⟩
  generalize w1.setCell ⟨g2, 2, none⟩ (.int .i64 (ls - 1)) = w2 at HT1 ⊢
  clear t2 y2
  have hm0 : ∀ (a b c d : Value) (w : World), (method 221 119 (.agg #[a, b, c, d]) "Len").run Try.prog w = .ok (56, .agg #[a, b, c, d]) w := fun _ _ _ _ _ => by kernel_rfl
  go_wp2_with (go_at_call 56; (with_reducible refine (HLEN.out w2 HT1.out.bel).mono ?_); rintro e w3 ⟨rfl, hb⟩; have HT2 := Aside0.mk (HT1.out.below hb); clear hb)
  go_loopg [15] (ks.length + 1) (fun kq v15 wr => ∃ (k : Nat) (vk : Value), v15 = .int .i64 k ∧ Aside0 (k ≤ ks.length) ∧ Aside0 (ks.length < kq + k) ∧ Aside0 (LR w wr g1 g2 g3 g4 #[.slice A0 st.length z0, .slice A1 en.length z1, .int .i64 root] #[.int .u8 kd, .int .i64 rf, .int .i64 (ls - 1)] #[.int .u64 0, .slice none 0 0, vk, .bool false]) ∧ Aside0 (Rb k39 39 wr (g4 + 1) vk (ks.take k)))
  case atStart => exact ⟨0, .slice none 0 0, rfl, ⟨Nat.zero_le _⟩, ⟨by omega⟩, HT2, ⟨Rb.nil _ _ _ _⟩⟩
  case round =>
    obtain ⟨k, vk, rfl, HK, HKQ, HT, HR⟩ := hrel
    obtain ⟨n, rfl⟩ : ∃ n, gk = n + 1 := ⟨gk - 1, by have := HKQ.out; have := HK.out; omega⟩
    obtain ⟨L, hL⟩ : ∃ L, (ks.take k).length = L := ⟨_, rfl⟩
    have hLk : L = k := by rw [← hL, List.length_take]; have := HK.out; omega
    subst hLk
    obtain ⟨Ak, ck, e9, -, -⟩ := HR.out.slice
    rw [hL] at e9
    subst e9
    have HLL := Aside0.mk hL
    clear hL
    by_cases p : L < ks.length
    · have p1 : decide (L < ks.length) = true := decide_eq_true p
      have p2 : decide ((L : Int) < (ks.length : Int)) = true := decide_eq_true (by omega)
      have k0 : (0 : Int) ≤ (L : Int) := Int.natCast_nonneg _
      have kb : L ≤ 1099511627776 := by have := HSM.out; omega
      obtain ⟨K, hK⟩ : ∃ K, ks[L] = K := ⟨_, rfl⟩
      have HTK : Aside0 (ks.take (L + 1) = ks.take L ++ [K]) := ⟨by rw [List.take_succ_eq_append_getElem p, hK]⟩
      have HP := Aside0.mk p
      have HM := Aside0.mk (fun (W : World) (h : Below w.heap.size w W) => num_in ⟨0, [], ks, false⟩ _ L p W (HVV.out.below h))
      have hk := HE.out L p
      simp only at HM
      rw [hK] at HM hk
      obtain ⟨kn, kb', kk, kh⟩ := K
      obtain ⟨h1, h2, h3⟩ := hk
      simp only at h1 h2 h3 HM
      subst h1 h2 h3
      have hm : ∀ (a b c d : Value) (w : World), (method 221 119 (.agg #[a, b, c, d]) "Num").run Try.prog w = .ok (57, .agg #[a, b, c, d]) w := fun _ _ _ _ _ => by kernel_rfl
      clear hK p
      have t0 : wr.cell? ⟨g2, 0, none⟩ = some (.int .u8 kd) := (blk_cell HT.out.t 0).trans rfl
      have t1 : wr.cell? ⟨g2, 1, none⟩ = some (.int .i64 rf) := (blk_cell HT.out.t 1).trans rfl
      have t2 : wr.cell? ⟨g2, 2, none⟩ = some (.int .i64 (ls - 1)) := (blk_cell HT.out.t 2).trans rfl
      have s0 : wr.cell? ⟨g1, 0, none⟩ = some (.slice A0 st.length z0) := (blk_cell HT.out.s 0).trans rfl
      have s1 : wr.cell? ⟨g1, 1, none⟩ = some (.slice A1 en.length z1) := (blk_cell HT.out.s 1).trans rfl
      have s2 : wr.cell? ⟨g1, 2, none⟩ = some (.int .i64 root) := (blk_cell HT.out.s 2).trans rfl
      have o2 : wr.cell? ⟨g4, 2, none⟩ = some (.slice Ak L ck) := (blk_cell HT.out.o 2).trans rfl
      go_upto_region 12 with (go_at_call 22; (with_reducible refine (wire_Size.calls 6 kd (szB kd) wr HSZ.out).mono ?_); rintro e w6 ⟨rfl, hd⟩; have hb6 := hd.below; have HT6 := Aside0.mk (HT.out.below hb6); have HR6 := Aside0.mk (HR.out.below hb6); have o26 := pw_cell_below hb6 o2; have HW6 : Aside0 (wr.heap.size ≤ w6.heap.size) := ⟨hb6.size⟩; clear hd hb6)
      go_region_law ((first
        | (refine call_ (N := some 67) 57 #[.agg #[.int .u64 0, .slice A2 0 c2, .slice A3 ks.length c3, .bool false], .int .i64 L] (by rfl) rfl (by go_simp) ?_; (refine (HM.out w6.drew (below_then HT6.out.bel HT6.out.bel.size (below_drew (Below.refl _ _)))).mono ?_); rintro e w7 hp; obtain ⟨rfl, hb⟩ := hp; have hb7 := below_then (below_drew (Below.refl w6.heap.size w6)) (Nat.le_refl _) hb; have HT7 := Aside0.mk (HT6.out.below hb7); have HR7 := Aside0.mk (HR6.out.below hb7); have o27 := pw_cell_below hb7 o26; have o28 := pw_cell_below (below_alloc (Below.refl w7.heap.size w7) (.cells #[.int .u64 kn, .slice none 0 0, .slice none 0 0, .bool false] 39)) o27; clear hb hb7; refine ⟨_, rfl, ?_⟩)
        | (refine Kd.R_append_step k39 (w0 := w7) (W := w7) (g4 + 1) rfl (.tmp 64) (.tmp 69) 37 39 (.agg #[.int .u64 0, .slice none 0 0, .slice none 0 0, .bool false]) 64 rfl Try.underlying37 info39 rfl (by decide) (by decide) (.slice Ak L ck) (ks.take L) ⟨kn, [], [], false⟩ [.int .u64 kn, .slice none 0 0, .slice none 0 0, .bool false] (fun _ => True) (fun x => wr.heap.size ≤ x) rfl rfl (k39_mkM w7 (g4 + 1) _ ⟨kn, [], [], false⟩ (Kd.R_nil _ _ _ _ _) (Kd.R_nil _ _ _ _ _)) (fun x hx => ⟨trivial, fun e => by have := (HR.out.bas x e.symm).2; omega⟩) (fun _ _ => trivial) HR7.out (Below.refl _ _) (blk_lt HT7.out.o) (by rw [HLL.out]; omega) ?_; intro v9 w9 hr9 _ hg9 _; obtain ⟨A9, c9, e9, -, -⟩ := Rb.slice hr9; rw [List.length_append, List.length_singleton, HLL.out] at e9; subst e9; have HT9 := Aside0.mk (HT7.out.grown hg9 (fun x hx => (HR7.out.bas x hx).1)); have HR9 := Aside0.mk hr9; have o9 : w9.cell? ⟨g4, 2, none⟩ = some (.slice Ak L ck) := (blk_cell HT9.out.o 2).trans rfl; have f9 := blk_frozen HT9.out.o 2; clear hr9 hg9)))
      all_goals
        clear t0 t1 t2 s0 s1 s2 o2
        go_wp2_with (fail)
        go_roundg n
        case measure => omega
        case rel => exact ⟨L + 1, .slice A9 (L + 1) c9, by go_num, ⟨by have := HP.out; omega⟩, ⟨by have := HKQ.out; omega⟩, ⟨HT9.out.set 2 (.slice A9 (L + 1) c9)⟩, ⟨by rw [HTK.out]; exact Rb.set (p := ⟨g4, 2, none⟩) HR9.out (Nat.lt_succ_self _) _⟩⟩
    · have p1 : decide (L < ks.length) = false := decide_eq_false p
      have p2 : decide ((L : Int) < (ks.length : Int)) = false := decide_eq_false (by omega)
      have HTK : Aside0 (ks.take L = ks ∧ L = ks.length) := ⟨by have := HK.out; exact ⟨List.take_of_length_le (by omega), by omega⟩⟩
      have o0 : wr.cell? ⟨g4, 0, none⟩ = some (.int .u64 0) := (blk_cell HT.out.o 0).trans rfl
      have o1 : wr.cell? ⟨g4, 1, none⟩ = some (.slice none 0 0) := (blk_cell HT.out.o 1).trans rfl
      have o2 : wr.cell? ⟨g4, 2, none⟩ = some (.slice Ak L ck) := (blk_cell HT.out.o 2).trans rfl
      have o3 : wr.cell? ⟨g4, 3, none⟩ = some (.bool false) := (blk_cell HT.out.o 3).trans rfl
      have r0 : wr.cell? ⟨g3, 0, none⟩ = some (.int .u64 0) := (blk_cell HT.out.r 0).trans rfl
      have r1 : wr.cell? ⟨g3, 1, none⟩ = some (.slice none 0 0) := (blk_cell HT.out.r 1).trans rfl
      have r2 : wr.cell? ⟨g3, 2, none⟩ = some (.slice none 0 0) := (blk_cell HT.out.r 2).trans rfl
      have r3 : wr.cell? ⟨g3, 3, none⟩ = some (.bool false) := (blk_cell HT.out.r 3).trans rfl
      have y0 := blk_frozen HT.out.r 0
      have y1 := blk_frozen HT.out.r 1
      have y2 := blk_frozen HT.out.r 2
      have y3 := blk_frozen HT.out.r 3
      clear p
      go_wp2_with (fail)
      clear o0 o1 o2 o3 r0 r1 r2 r3 y0 y1 y2 y3
      have hr := HR.out
      rw [HTK.out.1] at hr
      obtain ⟨wz, hwz⟩ : ∃ wz, (((wr.setCell ⟨g3, 0, none⟩ (.int .u64 0)).setCell ⟨g3, 1, none⟩ (.slice none 0 0)).setCell ⟨g3, 2, none⟩ (.slice Ak L ck)).setCell ⟨g3, 3, none⟩ (.bool false) = wz := ⟨_, rfl⟩
      rw [hwz]
      obtain ⟨q1, q2, q3, q4⟩ := set4_all hwz
      have hb := q4 HT.out.r
      have z0' := (blk_cell hb 0).trans rfl
      have z1' := (blk_cell hb 1).trans rfl
      have z2' := (blk_cell hb 2).trans rfl
      have z3' := (blk_cell hb 3).trans rfl
      have hn := HT.out.ne
      refine bodyPost_ret (v := .agg #[.int .u64 0, .slice none 0 0, .slice Ak L ck, .bool false]) (by simp [results, Try.results34, go_sem, z0', z1', z2', z3']) rfl ⟨_, _, rfl, Rb.nil _ _ _ _, (q1 hr (by omega)).lower (by omega), ?_⟩
      rw [← hwz]
      have hlow : w.heap.size ≤ g3 := by omega
      exact Below.setCell (Below.setCell (Below.setCell (Below.setCell HT.out.bel (p := ⟨g3, 0, none⟩) hlow _) (p := ⟨g3, 1, none⟩) hlow _) (p := ⟨g3, 2, none⟩) hlow _) (p := ⟨g3, 3, none⟩) hlow _
set_option maxHeartbeats 12800000 in
set_option maxRecDepth 100000 in
include hS hV in
theorem list_bytes (kd rf ls : Int) (hls : ls = 1) (hls3 : ls ≤ 3) (hsz : ¬ 0 < szB kd) (hk13 : kd ≠ 13) (hv : v.f0 = 0 ∧ v.f1 = [] ∧ v.f3 = false) (hsm : v.f2.length ≤ 1099511627776)
    (hE : ∀ (k : Nat) (hk : k < v.f2.length), (v.f2[k].f0 = 0 ∧ v.f2[k].f2 = [] ∧ v.f2[k].f3 = false) ∧ v.f2[k].f1.length ≤ 140737488351232) :
    Calls Try.prog 34 #[us, tyV kd rf ls, .iface 119 u] w (MkPost w v) := by
  obtain ⟨A0, z0, A1, z1, rfl, -⟩ := hS
  have HLEN := Aside0.mk (fun (W : World) (h : Below w.heap.size w W) => len_any v u W (hV.below h))
  have HVV := Aside0.mk hV
  obtain ⟨A2, c2, A3, c3, rfl, -⟩ := hV
  obtain ⟨vn, vb, ks, vh⟩ := v
  obtain ⟨hv0, hv1, hv3⟩ := hv
  simp only at hv0 hv1 hv3 HLEN hsm HVV hE ⊢
  subst hv0 hv1 hv3
  simp only [List.length_nil] at HLEN HVV ⊢
  have HSM := Aside0.mk hsm
  have l1 : IntKind.i64.wrap (ls - 1) = ls - 1 := by rw [IntKind.wrap_i64]; omega
  have HE := Aside0.mk hE
  have l0 : decide (0 < ls - 1) = false := decide_eq_false (by omega)
  have l2 : decide (1 < ls) = false := decide_eq_false (by omega)
  have HSZ := Aside0.mk (size_f kd)
  have k13 : (kd == 13) = false := by simp only [beq_eq_false_iff_ne]; omega
  have hsp : decide (0 < szB kd) = false := decide_eq_false hsz
  obtain ⟨g1, e1⟩ : ∃ g1, w.heap.size = g1 := ⟨_, rfl⟩
  obtain ⟨g2, e2⟩ : ∃ g2, g1 + 1 = g2 := ⟨_, rfl⟩
  obtain ⟨g3, e3⟩ : ∃ g3, g2 + 1 = g3 := ⟨_, rfl⟩
  obtain ⟨g4, e4⟩ : ∃ g4, g3 + 1 = g4 := ⟨_, rfl⟩
  obtain ⟨w1, hw1⟩ : ∃ w1, (((w.alloc (.cells #[.slice A0 st.length z0, .slice A1 en.length z1, .int .i64 root] 35)).alloc (.cells #[.int .u8 kd, .int .i64 rf, .int .i64 ls] 25)).alloc (.cells #[.int .u64 0, .slice none 0 0, .slice none 0 0, .bool false] 39)).alloc (.cells #[.int .u64 0, .slice none 0 0, .slice none 0 0, .bool false] 39) = w1 := ⟨_, rfl⟩
  have HT0 := Aside0.mk (lr_new w _ _ e1 e2 e3 e4 hw1)
  have HEQ := Aside0.mk (And.intro e1 (And.intro e2 (And.intro e3 (And.intro e4 hw1))))
  clear e1 e2 e3 e4 hw1 hls hls3 hsm hE hsz hk13
  go_enter Try.func34, Try.ntmps34
  go_upto_region 2 with (fail)
  rw [HEQ.out.1, HEQ.out.2.1, HEQ.out.2.2.1, HEQ.out.2.2.2.1, HEQ.out.2.2.2.2]
  have t2 : w1.cell? ⟨g2, 2, none⟩ = some (.int .i64 ls) := (blk_cell HT0.out.t 2).trans rfl
  have y2 := blk_frozen HT0.out.t 2
  go_upto_region 3 with (fail)
  have HT1 : Aside0 (LR w (w1.setCell ⟨g2, 2, none⟩ (.int .i64 (ls - 1))) g1 g2 g3 g4 #[.slice A0 st.length z0, .slice A1 en.length z1, .int .i64 root] #[.int .u8 kd, .int .i64 rf, .int .i64 (ls - 1)] #[.int .u64 0, .slice none 0 0, .slice none 0 0, .bool false]) := ⟨HT0.out.sett 2 _⟩
  generalize w1.setCell ⟨g2, 2, none⟩ (.int .i64 (ls - 1)) = w2 at HT1 ⊢
  clear t2 y2
  have hm0 : ∀ (a b c d : Value) (w : World), (method 221 119 (.agg #[a, b, c, d]) "Len").run Try.prog w = .ok (56, .agg #[a, b, c, d]) w := fun _ _ _ _ _ => by kernel_rfl
  go_wp2_with (go_at_call 56; (with_reducible refine (HLEN.out w2 HT1.out.bel).mono ?_); rintro e w3 ⟨rfl, hb⟩; have HT2 := Aside0.mk (HT1.out.below hb); clear hb)
  go_loopg [15] (ks.length + 1) (fun kq v15 wr => ∃ (k : Nat) (vk : Value), v15 = .int .i64 k ∧ Aside0 (k ≤ ks.length) ∧ Aside0 (ks.length < kq + k) ∧ Aside0 (LR w wr g1 g2 g3 g4 #[.slice A0 st.length z0, .slice A1 en.length z1, .int .i64 root] #[.int .u8 kd, .int .i64 rf, .int .i64 (ls - 1)] #[.int .u64 0, .slice none 0 0, vk, .bool false]) ∧ Aside0 (Rb k39 39 wr (g4 + 1) vk (ks.take k)))
  case atStart => exact ⟨0, .slice none 0 0, rfl, ⟨Nat.zero_le _⟩, ⟨by omega⟩, HT2, ⟨Rb.nil _ _ _ _⟩⟩
  case round =>
    obtain ⟨k, vk, rfl, HK, HKQ, HT, HR⟩ := hrel
    obtain ⟨n, rfl⟩ : ∃ n, gk = n + 1 := ⟨gk - 1, by have := HKQ.out; have := HK.out; omega⟩
    obtain ⟨L, hL⟩ : ∃ L, (ks.take k).length = L := ⟨_, rfl⟩
    have hLk : L = k := by rw [← hL, List.length_take]; have := HK.out; omega
    subst hLk
    obtain ⟨Ak, ck, e9, -, -⟩ := HR.out.slice
    rw [hL] at e9
    subst e9
    have HLL := Aside0.mk hL
    clear hL
    by_cases p : L < ks.length
    · have p1 : decide (L < ks.length) = true := decide_eq_true p
      have p2 : decide ((L : Int) < (ks.length : Int)) = true := decide_eq_true (by omega)
      have k0 : (0 : Int) ≤ (L : Int) := Int.natCast_nonneg _
      have kb : L ≤ 1099511627776 := by have := HSM.out; omega
      obtain ⟨K, hK⟩ : ∃ K, ks[L] = K := ⟨_, rfl⟩
      have HTK : Aside0 (ks.take (L + 1) = ks.take L ++ [K]) := ⟨by rw [List.take_succ_eq_append_getElem p, hK]⟩
      have HP := Aside0.mk p
      have HM := Aside0.mk (fun (W : World) (h : Below w.heap.size w W) => bytes_in ⟨0, [], ks, false⟩ _ L p (by have := (HE.out L p).2; simp only at this ⊢; omega) W (HVV.out.below h))
      have hk := (HE.out L p).1
      simp only at HM
      rw [hK] at HM hk
      obtain ⟨kn, kb', kk, kh⟩ := K
      obtain ⟨h1, h2, h3⟩ := hk
      simp only at h1 h2 h3 HM
      subst h1 h2 h3
      have hm : ∀ (a b c d : Value) (w : World), (method 221 119 (.agg #[a, b, c, d]) "Bytes").run Try.prog w = .ok (55, .agg #[a, b, c, d]) w := fun _ _ _ _ _ => by kernel_rfl
      clear hK p
      have t0 : wr.cell? ⟨g2, 0, none⟩ = some (.int .u8 kd) := (blk_cell HT.out.t 0).trans rfl
      have t1 : wr.cell? ⟨g2, 1, none⟩ = some (.int .i64 rf) := (blk_cell HT.out.t 1).trans rfl
      have t2 : wr.cell? ⟨g2, 2, none⟩ = some (.int .i64 (ls - 1)) := (blk_cell HT.out.t 2).trans rfl
      have s0 : wr.cell? ⟨g1, 0, none⟩ = some (.slice A0 st.length z0) := (blk_cell HT.out.s 0).trans rfl
      have s1 : wr.cell? ⟨g1, 1, none⟩ = some (.slice A1 en.length z1) := (blk_cell HT.out.s 1).trans rfl
      have s2 : wr.cell? ⟨g1, 2, none⟩ = some (.int .i64 root) := (blk_cell HT.out.s 2).trans rfl
      have o2 : wr.cell? ⟨g4, 2, none⟩ = some (.slice Ak L ck) := (blk_cell HT.out.o 2).trans rfl
      go_upto_region 6 with (go_at_call 22; (with_reducible refine (wire_Size.calls 6 kd (szB kd) wr HSZ.out).mono ?_); rintro e w6 ⟨rfl, hd⟩; have hb6 := hd.below; have HT6 := Aside0.mk (HT.out.below hb6); have HR6 := Aside0.mk (HR.out.below hb6); have o26 := pw_cell_below hb6 o2; have HW6 : Aside0 (wr.heap.size ≤ w6.heap.size) := ⟨hb6.size⟩; clear hd hb6)
      go_region_law ((first
        | (refine call_ (N := some 22) 55 #[.agg #[.int .u64 0, .slice A2 0 c2, .slice A3 ks.length c3, .bool false], .int .i64 L] (by rfl) rfl (by go_simp) ?_; (refine (HM.out w6.drew (below_then HT6.out.bel HT6.out.bel.size (below_drew (Below.refl _ _)))).mono ?_); rintro e w7 hp; obtain ⟨v1, rfl, hr1, hb⟩ := hp; obtain ⟨A5, c5, rfl, -, -⟩ := hr1.slice; have HR1 := Aside0.mk hr1; clear hr1; have hb7 := below_then (below_drew (Below.refl w6.heap.size w6)) (Nat.le_refl _) hb; have HT7 := Aside0.mk (HT6.out.below hb7); have HR7 := Aside0.mk (HR6.out.below hb7); have o27 := pw_cell_below hb7 o26; have o28 := pw_cell_below (below_alloc (Below.refl w7.heap.size w7) (.cells #[.int .u64 0, .slice A5 kb'.length c5, .slice none 0 0, .bool false] 39)) o27; clear hb hb7; refine ⟨_, rfl, ?_⟩)
        | (refine Kd.R_append_step k39 (w0 := w7) (W := w7) (g4 + 1) rfl (.tmp 19) (.tmp 24) 37 39 (.agg #[.int .u64 0, .slice none 0 0, .slice none 0 0, .bool false]) 64 rfl Try.underlying37 info39 rfl (by decide) (by decide) (.slice Ak L ck) (ks.take L) ⟨0, kb', [], false⟩ [.int .u64 0, .slice A5 kb'.length c5, .slice none 0 0, .bool false] (fun _ => True) (fun x => wr.heap.size ≤ x) rfl rfl (k39_mkM w7 (g4 + 1) _ ⟨0, kb', [], false⟩ (Kd.R_lower (Kd.R_mono (Rb.from HR1.out) (fun x hx => Nat.le_trans HW6.out hx)) (Nat.le_trans (blk_lt HT.out.o) HW6.out)) (Kd.R_nil _ _ _ _ _)) (fun x hx => ⟨trivial, fun e => by have := (HR.out.bas x e.symm).2; omega⟩) (fun _ _ => trivial) HR7.out (Below.refl _ _) (blk_lt HT7.out.o) (by rw [HLL.out]; omega) ?_; intro v9 w9 hr9 _ hg9 _; obtain ⟨A9, c9, e9, -, -⟩ := Rb.slice hr9; rw [List.length_append, List.length_singleton, HLL.out] at e9; subst e9; have HT9 := Aside0.mk (HT7.out.grown hg9 (fun x hx => (HR7.out.bas x hx).1)); have HR9 := Aside0.mk hr9; have o9 : w9.cell? ⟨g4, 2, none⟩ = some (.slice Ak L ck) := (blk_cell HT9.out.o 2).trans rfl; have f9 := blk_frozen HT9.out.o 2; clear hr9 hg9)))
      all_goals
        clear t0 t1 t2 s0 s1 s2 o2
        go_wp2_with (fail)
        go_roundg n
        case measure => omega
        case rel => exact ⟨L + 1, .slice A9 (L + 1) c9, by go_num, ⟨by have := HP.out; omega⟩, ⟨by have := HKQ.out; omega⟩, ⟨HT9.out.set 2 (.slice A9 (L + 1) c9)⟩, ⟨by rw [HTK.out]; exact Rb.set (p := ⟨g4, 2, none⟩) HR9.out (Nat.lt_succ_self _) _⟩⟩
    · have p1 : decide (L < ks.length) = false := decide_eq_false p
      have p2 : decide ((L : Int) < (ks.length : Int)) = false := decide_eq_false (by omega)
      have HTK : Aside0 (ks.take L = ks ∧ L = ks.length) := ⟨by have := HK.out; exact ⟨List.take_of_length_le (by omega), by omega⟩⟩
      have o0 : wr.cell? ⟨g4, 0, none⟩ = some (.int .u64 0) := (blk_cell HT.out.o 0).trans rfl
      have o1 : wr.cell? ⟨g4, 1, none⟩ = some (.slice none 0 0) := (blk_cell HT.out.o 1).trans rfl
      have o2 : wr.cell? ⟨g4, 2, none⟩ = some (.slice Ak L ck) := (blk_cell HT.out.o 2).trans rfl
      have o3 : wr.cell? ⟨g4, 3, none⟩ = some (.bool false) := (blk_cell HT.out.o 3).trans rfl
      have r0 : wr.cell? ⟨g3, 0, none⟩ = some (.int .u64 0) := (blk_cell HT.out.r 0).trans rfl
      have r1 : wr.cell? ⟨g3, 1, none⟩ = some (.slice none 0 0) := (blk_cell HT.out.r 1).trans rfl
      have r2 : wr.cell? ⟨g3, 2, none⟩ = some (.slice none 0 0) := (blk_cell HT.out.r 2).trans rfl
      have r3 : wr.cell? ⟨g3, 3, none⟩ = some (.bool false) := (blk_cell HT.out.r 3).trans rfl
      have y0 := blk_frozen HT.out.r 0
      have y1 := blk_frozen HT.out.r 1
      have y2 := blk_frozen HT.out.r 2
      have y3 := blk_frozen HT.out.r 3
      clear p
      go_wp2_with (fail)
      clear o0 o1 o2 o3 r0 r1 r2 r3 y0 y1 y2 y3
      have hr := HR.out
      rw [HTK.out.1] at hr
      obtain ⟨wz, hwz⟩ : ∃ wz, (((wr.setCell ⟨g3, 0, none⟩ (.int .u64 0)).setCell ⟨g3, 1, none⟩ (.slice none 0 0)).setCell ⟨g3, 2, none⟩ (.slice Ak L ck)).setCell ⟨g3, 3, none⟩ (.bool false) = wz := ⟨_, rfl⟩
      rw [hwz]
      obtain ⟨q1, q2, q3, q4⟩ := set4_all hwz
      have hb := q4 HT.out.r
      have z0' := (blk_cell hb 0).trans rfl
      have z1' := (blk_cell hb 1).trans rfl
      have z2' := (blk_cell hb 2).trans rfl
      have z3' := (blk_cell hb 3).trans rfl
      have hn := HT.out.ne
      refine bodyPost_ret (v := .agg #[.int .u64 0, .slice none 0 0, .slice Ak L ck, .bool false]) (by simp [results, Try.results34, go_sem, z0', z1', z2', z3']) rfl ⟨_, _, rfl, Rb.nil _ _ _ _, (q1 hr (by omega)).lower (by omega), ?_⟩
      rw [← hwz]
      have hlow : w.heap.size ≤ g3 := by omega
      exact Below.setCell (Below.setCell (Below.setCell (Below.setCell HT.out.bel (p := ⟨g3, 0, none⟩) hlow _) (p := ⟨g3, 1, none⟩) hlow _) (p := ⟨g3, 2, none⟩) hlow _) (p := ⟨g3, 3, none⟩) hlow _
end
end Go.Proofs.Ythilhndejhnlnaa.Hand
end
