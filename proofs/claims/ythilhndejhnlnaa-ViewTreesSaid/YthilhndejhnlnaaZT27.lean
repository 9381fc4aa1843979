/- Texts joined: T2 T3. -/
import Derived.Deep.RegionLaw
import Derived.Test.YthilhndejhnlnaaZT25
import Derived.Test.YthilhndejhnlnaaZT26
section
/- view: a view as a value; words, and Tree itself over field. -/
namespace Go.Proofs.Ythilhndejhnlnaa.Hand
open Go.RowKit Go.Proofs.Ythilhndejhnlnaa.QAll Go.Proofs.YthilhndejhnlnaaW.PrintWords Go.Proofs.YthilhndejhnlnaaW.PrintLast Go.Proofs.YthilhndejhnlnaaW.PrintMore Go.Proofs.Ythilhndejhnlnaa.Mk
set_option linter.unusedVariables false
set_option linter.unusedSimpArgs false
/-- A value in new memory. -/
def MkPost (w : World) (v : S39) (e : Ending) (w' : World) : Prop :=
  ∃ v1 v2, e = .returned (.agg #[.int .u64 v.f0, v1, v2, .bool v.f3]) ∧ Rb (Kd.int .u8) 5 w' w.heap.size v1 v.f1 ∧ Rb k39 39 w' w.heap.size v2 v.f2 ∧ Below w.heap.size w w'
abbrev zV : Array Value := #[.int .u64 0, .slice none 0 0, .slice none 0 0, .bool false]
/-- Tree's fixed blocks. -/
structure TR (w W : World) (g1 g2 g3 : Nat) (us os : Array Value) : Prop where
  bel : Below w.heap.size w W
  ne : w.heap.size = g1 ∧ g1 + 1 = g2 ∧ g2 + 1 = g3
  s : W.heap[g1]? = some (.cells us 35 (0, 0))
  r : W.heap[g2]? = some (.cells #[.int .u64 0, .slice none 0 0, .slice none 0 0, .bool false] 39 (0, 0))
  o : W.heap[g3]? = some (.cells os 39 (0, 0))
namespace TR
variable {w W W' : World} {g1 g2 g3 : Nat} {us os : Array Value}
theorem below (h : TR w W g1 g2 g3 us os) (hb : Below W.heap.size W W') : TR w W' g1 g2 g3 us os := ⟨below_then h.bel h.bel.size hb, h.ne, (hb.block _ (blk_lt h.s)).trans h.s, (hb.block _ (blk_lt h.r)).trans h.r, (hb.block _ (blk_lt h.o)).trans h.o⟩
theorem grown (h : TR w W g1 g2 g3 us os) {row : Option Nat} (hg : W.grownBy W' row) (hr : ∀ k, row = some k → g3 + 1 ≤ k) : TR w W' g1 g2 g3 us os :=
  have n := h.ne
  have ne : ∀ k, k ≤ g3 → some k ≠ row := fun k hk e => by have := hr k e.symm; omega
  ⟨h.bel.grown hg h.bel.size (fun k e => by have := hr k e; omega), n, blk_grown h.s hg (ne _ (by omega)), blk_grown h.r hg (ne _ (by omega)), blk_grown h.o hg (ne _ (by omega))⟩
theorem set (h : TR w W g1 g2 g3 us os) (q : Nat) (u : Value) : TR w (W.setCell ⟨g3, q, none⟩ u) g1 g2 g3 us (os.setIfInBounds q u) :=
  have n := h.ne
  ⟨Below.setCell h.bel (p := ⟨g3, q, none⟩) (by show w.heap.size ≤ g3; omega) u, n, blk_far h.s (p := ⟨g3, q, none⟩) (by show g1 ≠ g3; omega) u, blk_far h.r (p := ⟨g3, q, none⟩) (by show g2 ≠ g3; omega) u, blk_set h.o q u⟩
end TR
theorem tr_new (w : World) (us os : Array Value) {g1 g2 g3 : Nat} (e1 : w.heap.size = g1) (e2 : g1 + 1 = g2) (e3 : g2 + 1 = g3) {W : World}
    (hW : ((w.alloc (.cells us 35)).alloc (.cells #[.int .u64 0, .slice none 0 0, .slice none 0 0, .bool false] 39)).alloc (.cells os 39) = W) : TR w W g1 g2 g3 us os := by
  subst e1 e2 e3 hW
  obtain ⟨w1, h1⟩ : ∃ w1, w.alloc (.cells us 35) = w1 := ⟨_, rfl⟩
  obtain ⟨w2, h2⟩ : ∃ w2, w1.alloc (.cells #[.int .u64 0, .slice none 0 0, .slice none 0 0, .bool false] 39) = w2 := ⟨_, rfl⟩
  have s1 : w1.heap.size = w.heap.size + 1 := by rw [← h1]; simp
  have s2 : w2.heap.size = w.heap.size + 1 + 1 := by rw [← h2]; simp [s1]
  have a1 := heap_alloc_new w (.cells us 35)
  have a2 := heap_alloc_new w1 (.cells #[.int .u64 0, .slice none 0 0, .slice none 0 0, .bool false] 39)
  have a3 := heap_alloc_new w2 (.cells os 39)
  have b1 := below_alloc (Below.refl w.heap.size w) (.cells us 35)
  have b2 := below_alloc (Below.refl w1.heap.size w1) (.cells #[.int .u64 0, .slice none 0 0, .slice none 0 0, .bool false] 39)
  have b3 := below_alloc (Below.refl w2.heap.size w2) (.cells os 39)
  rw [h1] at a1 b1
  rw [h2] at a2 b2
  rw [h1, h2]
  rw [s1] at a2
  rw [s2] at a3
  exact ⟨below_then (below_then b1 b1.size b2) (by have := b1.size; have := b2.size; omega) b3, ⟨rfl, rfl, rfl⟩, (b3.block _ (by omega)).trans ((b2.block _ (by omega)).trans a1), (b3.block _ (by omega)).trans a2, a3⟩
theorem rd31_get {st : List S31} {q : Nat} (h : q < st.length) : rd_T31 st (q : Int) = st[q] := by
  unfold rd_T31; rw [show ((q : Int)).toNat = q from rfl, List.getD_eq_getElem?_getD, List.getElem?_eq_getElem h]; rfl
set_option maxHeartbeats 6400000 in
set_option maxRecDepth 100000 in
/-- Tree, if field does what it should. -/
theorem tree_at {st : List S31} {en : List S61} {root : Int} (q : Nat) (hq : q < st.length) (v : S39) (us u : Value) (w : World) (hS : IsS w st en root us) (hV : IsV w v u)
    (hv : v.f0 = 0 ∧ v.f1 = [] ∧ v.f3 = true) (hlen : v.f2.length = (rd_T31 st (q : Int)).f1.length) (hsm : v.f2.length ≤ 1099511627776)
    (hF : ∀ (k : Nat) (hk : k < (rd_T31 st (q : Int)).f1.length) (hk2 : k < v.f2.length) (W : World), Below w.heap.size w W →
      Calls Try.prog 24 #[us, tyV ((rd_T31 st (q : Int)).f1[k]).f1.f0 ((rd_T31 st (q : Int)).f1[k]).f1.f1 ((rd_T31 st (q : Int)).f1[k]).f1.f2, .iface 80 u, .int .i64 k] W (MkPost W v.f2[k])) :
    Calls Try.prog 16 #[us, .int .i64 q, .iface 80 u] w (MkPost w v) := by
  obtain ⟨A0, z0, A1, z1, rfl, hC0, -, hC1, -⟩ := hS
  obtain ⟨ad, A4, c4, rfl, x0', x1', hF1, hF2⟩ := at_T31 hC0 (q : Int) (Int.natCast_nonneg _) (by omega)
  rw [show ((q : Int)).toNat = q from rfl] at x0' x1'
  obtain ⟨A2, c2, A3, c3, rfl, -⟩ := hV
  obtain ⟨n, b, ks, h⟩ := v
  obtain ⟨h0, h1, h3⟩ := hv
  simp only at h0 h1 h3 hlen hsm hF ⊢
  subst h0 h1 h3
  obtain ⟨R, hRR⟩ : ∃ R, rd_T31 st (q : Int) = R := ⟨_, rfl⟩
  rw [hRR] at x0' x1' hF1 hF2 hlen
  have HFD : Aside0 (∀ (k : Nat) (hk : k < R.f1.length) (hk2 : k < ks.length) (W : World), Below w.heap.size w W →
      Calls Try.prog 24 #[.agg #[.slice (some ad) st.length z0, .slice A1 en.length z1, .int .i64 root], tyV (R.f1[k]).f1.f0 (R.f1[k]).f1.f1 (R.f1[k]).f1.f2, .iface 80 (.agg #[.int .u64 0, .slice A2 0 c2, .slice A3 ks.length c3, .bool true]), .int .i64 k] W (MkPost W ks[k])) := ⟨by subst hRR; exact hF⟩
  have HX1 := Aside0.mk x1'
  have HF2 := Aside0.mk hF2
  have HLEN : Aside0 (ks.length = R.f1.length ∧ ks.length ≤ 1099511627776 ∧ R.f1.length ≤ c4) := ⟨hlen, hsm, hF1⟩
  obtain ⟨g1, e1⟩ : ∃ g1, w.heap.size = g1 := ⟨_, rfl⟩
  obtain ⟨g2, e2⟩ : ∃ g2, g1 + 1 = g2 := ⟨_, rfl⟩
  obtain ⟨g3, e3⟩ : ∃ g3, g2 + 1 = g3 := ⟨_, rfl⟩
  obtain ⟨w1, hw1⟩ : ∃ w1, ((w.alloc (.cells #[.slice (some ad) st.length z0, .slice A1 en.length z1, .int .i64 root] 35)).alloc (.cells #[.int .u64 0, .slice none 0 0, .slice none 0 0, .bool false] 39)).alloc (.cells #[.int .u64 0, .slice none 0 0, .slice none 0 0, .bool true] 39) = w1 := ⟨_, rfl⟩
  have HT1 := Aside0.mk (tr_new w _ _ e1 e2 e3 hw1)
  have HEQ := Aside0.mk (And.intro e1 (And.intro e2 (And.intro e3 hw1)))
  have q0 : (0 : Int) ≤ (q : Int) := Int.natCast_nonneg _
  have q1 : (q : Int) < (st.length : Int) := by omega
  clear e1 e2 e3 hw1 hF hRR x0' x1' hF1 hF2 hlen hsm hC0 hC1
  go_enter Try.func16, Try.ntmps16
  go_upto_region 2 with (fail)
  rw [HEQ.out.1, HEQ.out.2.1, HEQ.out.2.2.1, HEQ.out.2.2.2]
  have s0 : w1.cell? ⟨g1, 0, none⟩ = some (.slice (some ad) st.length z0) := (blk_cell HT1.out.s 0).trans rfl
  have x1 := pw_cell_below HT1.out.bel HX1.out
  go_wp2_with (fail)
  clear s0 x1
  go_loopg [18] (R.f1.length + 1) (fun kq v18 wr => ∃ (k : Nat) (vk : Value), v18 = .int .i64 k ∧ Aside0 (k ≤ R.f1.length) ∧ Aside0 (R.f1.length < kq + k) ∧ Aside0 (TR w wr g1 g2 g3 #[.slice (some ad) st.length z0, .slice A1 en.length z1, .int .i64 root] #[.int .u64 0, .slice none 0 0, vk, .bool true]) ∧ Aside0 (Rb k39 39 wr (g3 + 1) vk (ks.take k)))
  case atStart => exact ⟨0, .slice none 0 0, rfl, ⟨Nat.zero_le _⟩, ⟨by omega⟩, HT1, ⟨Rb.nil _ _ _ _⟩⟩
  case round =>
    obtain ⟨k, vk, rfl, HK, HKQ, HT, HR⟩ := hrel
    obtain ⟨n, rfl⟩ : ∃ n, gk = n + 1 := ⟨gk - 1, by have := HKQ.out; have := HK.out; omega⟩
    obtain ⟨L, hL⟩ : ∃ L, (ks.take k).length = L := ⟨_, rfl⟩
    have hLk : L = k := by rw [← hL, List.length_take]; have := HK.out; have := HLEN.out; omega
    subst hLk
    obtain ⟨Ak, ck, e9, -, -⟩ := HR.out.slice
    rw [hL] at e9
    subst e9
    have HLL := Aside0.mk hL
    clear hL
    by_cases p : L < R.f1.length
    · have p1 : decide (L < R.f1.length) = true := decide_eq_true p
      have p2 : decide ((L : Int) < (R.f1.length : Int)) = true := decide_eq_true (by omega)
      have k0 : (0 : Int) ≤ (L : Int) := Int.natCast_nonneg _
      have k1 : (L : Int) < (R.f1.length : Int) := by omega
      have kb : L ≤ 1099511627776 := by have := HLEN.out; omega
      obtain ⟨af, rfl, m0, m1, m2, m3, m4⟩ := at_T28 HF2.out (L : Int) k0 k1
      obtain ⟨fd, hfd⟩ : ∃ fd, rd_T28 R.f1 (L : Int) = fd := ⟨_, rfl⟩
      have hfk : R.f1[L] = fd := by rw [← hfd]; unfold rd_T28; rw [show ((L : Int)).toNat = L from rfl, List.getD_eq_getElem?_getD, List.getElem?_eq_getElem p]; rfl
      have p3 : L < ks.length := by have := HLEN.out; omega
      obtain ⟨K, hK⟩ : ∃ K, ks[L] = K := ⟨_, rfl⟩
      have HCALL : Aside0 (∀ W, Below w.heap.size w W → Calls Try.prog 24 #[.agg #[.slice (some ad) st.length z0, .slice A1 en.length z1, .int .i64 root], tyV fd.f1.f0 fd.f1.f1 fd.f1.f2, .iface 80 (.agg #[.int .u64 0, .slice A2 0 c2, .slice A3 ks.length c3, .bool true]), .int .i64 L] W (MkPost W K)) := ⟨fun W hW => by
        have := HFD.out L p p3 W hW
        rw [hfk, hK] at this
        exact this⟩
      have HTK : Aside0 (ks.take (L + 1) = ks.take L ++ [K]) := ⟨by rw [List.take_succ_eq_append_getElem p3, hK]⟩
      rw [hfd] at m0 m1 m2 m3 m4
      rw [show ((L : Int)).toNat = L from rfl] at m0 m1 m2 m3 m4
      have HP := Aside0.mk p
      replace m0 := pw_cell_below HT.out.bel m0
      replace m1 := pw_cell_below HT.out.bel m1
      replace m2 := pw_cell_below HT.out.bel m2
      replace m3 := pw_cell_below HT.out.bel m3
      replace m4 := pw_cell_below HT.out.bel m4
      clear hfd hfk hK p p3
      go_upto_region 5 with (fail)
      clear m0 m1 m2 m3 m4
      have hb := below_alloc (Below.refl wr.heap.size wr) (.cells #[.string fd.f0, .int .u8 fd.f1.f0, .int .i64 fd.f1.f1, .int .i64 fd.f1.f2, .int .u64 fd.f2] 28)
      have ha := heap_alloc_new wr (.cells #[.string fd.f0, .int .u8 fd.f1.f0, .int .i64 fd.f1.f1, .int .i64 fd.f1.f2, .int .u64 fd.f2] 28)
      have HT5 := Aside0.mk (HT.out.below hb)
      have HR5 := Aside0.mk (HR.out.below hb)
      obtain ⟨gf, hgf⟩ : ∃ gf, wr.heap.size = gf := ⟨_, rfl⟩
      rw [hgf] at ha ⊢
      generalize wr.alloc (.cells #[.string fd.f0, .int .u8 fd.f1.f0, .int .i64 fd.f1.f1, .int .i64 fd.f1.f2, .int .u64 fd.f2] 28) = w5 at HT5 HR5 ha ⊢
      have f1 : w5.cell? ⟨gf, 1, none⟩ = some (.int .u8 fd.f1.f0) := (blk_cell ha 1).trans rfl
      have f2 : w5.cell? ⟨gf, 2, none⟩ = some (.int .i64 fd.f1.f1) := (blk_cell ha 2).trans rfl
      have f3 : w5.cell? ⟨gf, 3, none⟩ = some (.int .i64 fd.f1.f2) := (blk_cell ha 3).trans rfl
      have s0 : w5.cell? ⟨g1, 0, none⟩ = some (.slice (some ad) st.length z0) := (blk_cell HT5.out.s 0).trans rfl
      have s1 : w5.cell? ⟨g1, 1, none⟩ = some (.slice A1 en.length z1) := (blk_cell HT5.out.s 1).trans rfl
      have s2 : w5.cell? ⟨g1, 2, none⟩ = some (.int .i64 root) := (blk_cell HT5.out.s 2).trans rfl
      have o2 : w5.cell? ⟨g3, 2, none⟩ = some (.slice Ak L ck) := (blk_cell HT5.out.o 2).trans rfl
      clear hb ha hgf
      have HO5 : Aside0 (w5.cell? ⟨g3, 2, none⟩ = some (.slice Ak L ck)) := ⟨o2⟩
      go_region_law ((first
        | (refine goes_ (N := some 30) Try.func24 (by kernel_rfl) rfl #[.agg #[.slice (some ad) st.length z0, .slice A1 en.length z1, .int .i64 root], tyV fd.f1.f0 fd.f1.f1 fd.f1.f2, .iface 80 (.agg #[.int .u64 0, .slice A2 0 c2, .slice A3 ks.length c3, .bool true]), .int .i64 L] (by rfl) rfl rfl (by simp only [List.map_toArray, List.map_cons, List.map_nil]; rfl) ?_; (refine (HCALL.out w5.drew (below_then HT5.out.bel HT5.out.bel.size (below_drew (Below.refl _ _)))).mono ?_); rintro e w7 hp; obtain ⟨v1, v2, rfl, hr1, hr2, hb7⟩ := hp; obtain ⟨A5, c5, rfl, -, -⟩ := hr1.slice; obtain ⟨A6, c6, rfl, -, -⟩ := hr2.slice; have hb57 := below_then (below_drew (Below.refl w5.heap.size w5)) (Nat.le_refl _) hb7; have HT7 := Aside0.mk (HT5.out.below hb57); have HR7 := Aside0.mk (HR5.out.below hb57); have HR1 := Aside0.mk hr1; have HR2 := Aside0.mk hr2; have o27 := pw_cell_below hb57 HO5.out; have o28 := pw_cell_below (below_alloc (Below.refl w7.heap.size w7) (.cells #[.int .u64 K.f0, .slice A5 K.f1.length c5, .slice A6 K.f2.length c6, .bool K.f3] 39)) o27; clear hr1 hr2 hb7 hb57; refine ⟨_, rfl, ?_⟩)
        | (refine Kd.R_append_step k39 (w0 := w7) (W := w7) (g3 + 1) rfl (.tmp 24) (.tmp 31) 37 39 (.agg #[.int .u64 0, .slice none 0 0, .slice none 0 0, .bool false]) 64 rfl Try.underlying37 info39 rfl (by decide) (by decide) (.slice Ak L ck) (ks.take L) K [.int .u64 K.f0, .slice A5 K.f1.length c5, .slice A6 K.f2.length c6, .bool K.f3] (fun _ => True) (fun x => w5.heap.size ≤ x) rfl rfl (k39_mkM w7 (g3 + 1) _ K (Kd.R_lower (Rb.from HR1.out) (blk_lt HT5.out.o)) (Kd.R_lower (Rb.from HR2.out) (blk_lt HT5.out.o))) (fun x hx => ⟨trivial, fun e => by have := (HR5.out.bas x e.symm).2; omega⟩) (fun _ _ => trivial) HR7.out (Below.refl _ _) (blk_lt HT7.out.o) (by rw [HLL.out]; omega) ?_; intro v9 w9 hr9 _ hg9 _; obtain ⟨A9, c9, e9, -, -⟩ := Rb.slice hr9; rw [List.length_append, List.length_singleton, HLL.out] at e9; subst e9; have HT9 := Aside0.mk (HT7.out.grown hg9 (fun x hx => (HR7.out.bas x hx).1)); have HR9 := Aside0.mk hr9; have o9 : w9.cell? ⟨g3, 2, none⟩ = some (.slice Ak L ck) := (blk_cell HT9.out.o 2).trans rfl; have f9 := blk_frozen HT9.out.o 2; clear hr9 hg9)))
      all_goals
        clear f1 f2 f3 s0 s1 s2 o2
        go_wp2_with (fail)
        go_roundg n
        case measure => omega
        case rel => exact ⟨L + 1, .slice A9 (L + 1) c9, by go_num, ⟨by have := HP.out; omega⟩, ⟨by have := HKQ.out; omega⟩, ⟨HT9.out.set 2 (.slice A9 (L + 1) c9)⟩, ⟨by rw [HTK.out]; exact Rb.set (p := ⟨g3, 2, none⟩) HR9.out (Nat.lt_succ_self _) _⟩⟩
    · have p1 : decide (L < R.f1.length) = false := decide_eq_false p
      have p2 : decide ((L : Int) < (R.f1.length : Int)) = false := decide_eq_false (by omega)
      have HTK : Aside0 (ks.take L = ks ∧ L = ks.length) := ⟨by have := HLEN.out; have := HK.out; exact ⟨List.take_of_length_le (by omega), by omega⟩⟩
      have o0 : wr.cell? ⟨g3, 0, none⟩ = some (.int .u64 0) := (blk_cell HT.out.o 0).trans rfl
      have o1 : wr.cell? ⟨g3, 1, none⟩ = some (.slice none 0 0) := (blk_cell HT.out.o 1).trans rfl
      have o2 : wr.cell? ⟨g3, 2, none⟩ = some (.slice Ak L ck) := (blk_cell HT.out.o 2).trans rfl
      have o3 : wr.cell? ⟨g3, 3, none⟩ = some (.bool true) := (blk_cell HT.out.o 3).trans rfl
      have r0 : wr.cell? ⟨g2, 0, none⟩ = some (.int .u64 0) := (blk_cell HT.out.r 0).trans rfl
      have r1 : wr.cell? ⟨g2, 1, none⟩ = some (.slice none 0 0) := (blk_cell HT.out.r 1).trans rfl
      have r2 : wr.cell? ⟨g2, 2, none⟩ = some (.slice none 0 0) := (blk_cell HT.out.r 2).trans rfl
      have r3 : wr.cell? ⟨g2, 3, none⟩ = some (.bool false) := (blk_cell HT.out.r 3).trans rfl
      have y0 := blk_frozen HT.out.r 0
      have y1 := blk_frozen HT.out.r 1
      have y2 := blk_frozen HT.out.r 2
      have y3 := blk_frozen HT.out.r 3
      clear p
      go_wp2_with (fail)
      clear o0 o1 o2 o3 r0 r1 r2 r3 y0 y1 y2 y3
      have hr := HR.out
      rw [HTK.out.1] at hr
      obtain ⟨wz, hwz⟩ : ∃ wz, (((wr.setCell ⟨g2, 0, none⟩ (.int .u64 0)).setCell ⟨g2, 1, none⟩ (.slice none 0 0)).setCell ⟨g2, 2, none⟩ (.slice Ak L ck)).setCell ⟨g2, 3, none⟩ (.bool true) = wz := ⟨_, rfl⟩
      rw [hwz]
      obtain ⟨q1, q2, q3, q4⟩ := set4_all hwz
      have hb := q4 HT.out.r
      have z0' := (blk_cell hb 0).trans rfl
      have z1' := (blk_cell hb 1).trans rfl
      have z2' := (blk_cell hb 2).trans rfl
      have z3' := (blk_cell hb 3).trans rfl
      have hn := HT.out.ne
      refine bodyPost_ret (v := .agg #[.int .u64 0, .slice none 0 0, .slice Ak L ck, .bool true]) (by simp [results, Try.results16, go_sem, z0', z1', z2', z3']) rfl ⟨_, _, rfl, Rb.nil _ _ _ _, (q1 hr (by omega)).lower (by omega), ?_⟩
      rw [← hwz]
      have hlow : w.heap.size ≤ g2 := by omega
      exact Below.setCell (Below.setCell (Below.setCell (Below.setCell HT.out.bel (p := ⟨g2, 0, none⟩) hlow _) (p := ⟨g2, 1, none⟩) hlow _) (p := ⟨g2, 2, none⟩) hlow _) (p := ⟨g2, 3, none⟩) hlow _
end Go.Proofs.Ythilhndejhnlnaa.Hand
end

section
/- view: a field of a view as a value. -/
namespace Go.Proofs.Ythilhndejhnlnaa.Hand
open Go.RowKit Go.Proofs.Ythilhndejhnlnaa.QAll Go.Proofs.YthilhndejhnlnaaW.PrintWords Go.Proofs.YthilhndejhnlnaaW.PrintLast Go.Proofs.YthilhndejhnlnaaW.PrintMore Go.Proofs.Ythilhndejhnlnaa.Mk
set_option linter.unusedVariables false
set_option linter.unusedSimpArgs false
/-- field's blocks. -/
structure FR (w W : World) (g1 g2 g3 : Nat) (us ts : Array Value) : Prop where
  bel : Below w.heap.size w W
  ne : w.heap.size = g1 ∧ g1 + 1 = g2 ∧ g2 + 1 = g3
  s : W.heap[g1]? = some (.cells us 35 (0, 0))
  t : W.heap[g2]? = some (.cells ts 25 (0, 0))
  r : W.heap[g3]? = some (.cells #[.int .u64 0, .slice none 0 0, .slice none 0 0, .bool false] 39 (0, 0))
namespace FR
variable {w W W' : World} {g1 g2 g3 : Nat} {us ts : Array Value}
theorem below (h : FR w W g1 g2 g3 us ts) (hb : Below W.heap.size W W') : FR w W' g1 g2 g3 us ts := ⟨below_then h.bel h.bel.size hb, h.ne, (hb.block _ (blk_lt h.s)).trans h.s, (hb.block _ (blk_lt h.t)).trans h.t, (hb.block _ (blk_lt h.r)).trans h.r⟩
end FR
theorem fr_new (w : World) (us ts : Array Value) {g1 g2 g3 : Nat} (e1 : w.heap.size = g1) (e2 : g1 + 1 = g2) (e3 : g2 + 1 = g3) {W : World}
    (hW : ((w.alloc (.cells us 35)).alloc (.cells ts 25)).alloc (.cells #[.int .u64 0, .slice none 0 0, .slice none 0 0, .bool false] 39) = W) : FR w W g1 g2 g3 us ts := by
  subst e1 e2 e3 hW
  obtain ⟨w1, h1⟩ : ∃ w1, w.alloc (.cells us 35) = w1 := ⟨_, rfl⟩
  obtain ⟨w2, h2⟩ : ∃ w2, w1.alloc (.cells ts 25) = w2 := ⟨_, rfl⟩
  have s1 : w1.heap.size = w.heap.size + 1 := by rw [← h1]; simp
  have s2 : w2.heap.size = w.heap.size + 1 + 1 := by rw [← h2]; simp [s1]
  have a1 := heap_alloc_new w (.cells us 35)
  have a2 := heap_alloc_new w1 (.cells ts 25)
  have a3 := heap_alloc_new w2 (.cells #[.int .u64 0, .slice none 0 0, .slice none 0 0, .bool false] 39)
  have b1 := below_alloc (Below.refl w.heap.size w) (.cells us 35)
  have b2 := below_alloc (Below.refl w1.heap.size w1) (.cells ts 25)
  have b3 := below_alloc (Below.refl w2.heap.size w2) (.cells #[.int .u64 0, .slice none 0 0, .slice none 0 0, .bool false] 39)
  rw [h1] at a1 b1
  rw [h2] at a2 b2
  rw [h1, h2]
  rw [s1] at a2
  rw [s2] at a3
  exact ⟨below_then (below_then b1 b1.size b2) (by have := b1.size; have := b2.size; omega) b3, ⟨rfl, rfl, rfl⟩, (b3.block _ (by omega)).trans ((b2.block _ (by omega)).trans a1), (b3.block _ (by omega)).trans a2, a3⟩
/-- The end: what is made stands in the result's block. -/
theorem fr_end {w W W0 : World} {g1 g2 g3 : Nat} {us ts : Array Value} {x0 x1 x2 x3 : Value} (h : FR w W g1 g2 g3 us ts) {W' : World} (hW : (((W.setCell ⟨g3, 0, none⟩ x0).setCell ⟨g3, 1, none⟩ x1).setCell ⟨g3, 2, none⟩ x2).setCell ⟨g3, 3, none⟩ x3 = W') :
    (W'.cell? ⟨g3, 0, none⟩ = some x0 ∧ W'.cell? ⟨g3, 1, none⟩ = some x1 ∧ W'.cell? ⟨g3, 2, none⟩ = some x2 ∧ W'.cell? ⟨g3, 3, none⟩ = some x3) ∧ Below w.heap.size w W' ∧
    ∀ {α : Type} {d : Kd α} {e base : Nat} {v : Value} {xs : List α}, Rb d e W base v xs → g3 < base → Rb d e W' w.heap.size v xs := by
  obtain ⟨q1, q2, q3, q4⟩ := set4_all hW
  have hb := q4 h.r
  have hn := h.ne
  refine ⟨⟨(blk_cell hb 0).trans rfl, (blk_cell hb 1).trans rfl, (blk_cell hb 2).trans rfl, (blk_cell hb 3).trans rfl⟩, ?_, fun hr hg => (q1 hr hg).lower (by omega)⟩
  rw [← hW]
  have hlow : w.heap.size ≤ g3 := by omega
  exact Below.setCell (Below.setCell (Below.setCell (Below.setCell h.bel (p := ⟨g3, 0, none⟩) hlow _) (p := ⟨g3, 1, none⟩) hlow _) (p := ⟨g3, 2, none⟩) hlow _) (p := ⟨g3, 3, none⟩) hlow _
section
variable {st : List S31} {en : List S61} {root : Int} (v : S39) (us u : Value) (i : Nat) (hi : i < v.f2.length) (w : World) (hS : IsS w st en root us) (hV : IsV w v u)
set_option maxHeartbeats 6400000 in
set_option maxRecDepth 100000 in
include hS hV in
theorem field_list (kd rf ls : Int) (hls : 0 < ls) (hL : ∀ (W : World) (ul : Value), Below w.heap.size w W → IsV W v.f2[i] ul → Calls Try.prog 34 #[us, tyV kd rf ls, .iface 119 ul] W (MkPost W v.f2[i])) :
    Calls Try.prog 24 #[us, tyV kd rf ls, .iface 80 u, .int .i64 i] w (MkPost w v.f2[i]) := by
  obtain ⟨A0, z0, A1, z1, rfl, -⟩ := hS
  have HM := Aside0.mk (fun (W : World) (h : Below w.heap.size w W) => rlist_in v u i hi W (hV.below h))
  obtain ⟨A2, c2, A3, c3, rfl, -⟩ := hV
  have HL := Aside0.mk hL
  clear hL
  obtain ⟨K, hK⟩ : ∃ K, v.f2[i] = K := ⟨_, rfl⟩
  rw [hK] at HM HL ⊢
  have l0 : decide (0 < ls) = true := decide_eq_true hls
  obtain ⟨g1, e1⟩ : ∃ g1, w.heap.size = g1 := ⟨_, rfl⟩
  obtain ⟨g2, e2⟩ : ∃ g2, g1 + 1 = g2 := ⟨_, rfl⟩
  obtain ⟨g3, e3⟩ : ∃ g3, g2 + 1 = g3 := ⟨_, rfl⟩
  obtain ⟨w1, hw1⟩ : ∃ w1, ((w.alloc (.cells #[.slice A0 st.length z0, .slice A1 en.length z1, .int .i64 root] 35)).alloc (.cells #[.int .u8 kd, .int .i64 rf, .int .i64 ls] 25)).alloc (.cells #[.int .u64 0, .slice none 0 0, .slice none 0 0, .bool false] 39) = w1 := ⟨_, rfl⟩
  have HT1 := Aside0.mk (fr_new w _ _ e1 e2 e3 hw1)
  have HEQ := Aside0.mk (And.intro e1 (And.intro e2 (And.intro e3 hw1)))
  clear e1 e2 e3 hw1 hK hls
  go_enter Try.func24, Try.ntmps24
  go_upto_region 1 with (fail)
  rw [HEQ.out.1, HEQ.out.2.1, HEQ.out.2.2.1, HEQ.out.2.2.2]
  have s0 : w1.cell? ⟨g1, 0, none⟩ = some (.slice A0 st.length z0) := (blk_cell HT1.out.s 0).trans rfl
  have s1 : w1.cell? ⟨g1, 1, none⟩ = some (.slice A1 en.length z1) := (blk_cell HT1.out.s 1).trans rfl
  have s2 : w1.cell? ⟨g1, 2, none⟩ = some (.int .i64 root) := (blk_cell HT1.out.s 2).trans rfl
  have t0 : w1.cell? ⟨g2, 0, none⟩ = some (.int .u8 kd) := (blk_cell HT1.out.t 0).trans rfl
  have t1 : w1.cell? ⟨g2, 1, none⟩ = some (.int .i64 rf) := (blk_cell HT1.out.t 1).trans rfl
  have t2 : w1.cell? ⟨g2, 2, none⟩ = some (.int .i64 ls) := (blk_cell HT1.out.t 2).trans rfl
  go_upto_region 2 with (fail)
  have hm : ∀ (a b c d : Value) (w : World), (method 221 80 (.agg #[a, b, c, d]) "List").run Try.prog w = .ok (60, .agg #[a, b, c, d]) w := fun _ _ _ _ _ => by kernel_rfl
  have HNE : Aside0 (g1 ≠ g3 ∧ g2 ≠ g3) := ⟨by have := HT1.out.ne; omega, by have := HT1.out.ne; omega⟩
  go_region_held3 (fun W => W.cell? ⟨g1, 0, none⟩ = some (.slice A0 st.length z0) ∧ W.cell? ⟨g1, 1, none⟩ = some (.slice A1 en.length z1) ∧ W.cell? ⟨g1, 2, none⟩ = some (.int .i64 root) ∧ W.cell? ⟨g2, 0, none⟩ = some (.int .u8 kd) ∧ W.cell? ⟨g2, 1, none⟩ = some (.int .i64 rf) ∧ W.cell? ⟨g2, 2, none⟩ = some (.int .i64 ls))
    (first | with_reducible exact ⟨kk0, kk1, kk2, kk3, kk4, kk5⟩ | with_reducible exact ⟨jj0, jj1, jj2, jj3, jj4, jj5⟩ | with_reducible exact ⟨set4_cell kk0 HNE.out.1, set4_cell kk1 HNE.out.1, set4_cell kk2 HNE.out.1, set4_cell kk3 HNE.out.2, set4_cell kk4 HNE.out.2, set4_cell kk5 HNE.out.2⟩ | go_keep)
    (first
      | (go_at_call 60; (with_reducible refine (HM.out w1.drew (below_then HT1.out.bel HT1.out.bel.size (below_drew (Below.refl _ _)))).mono ?_); rintro e w2 hp; obtain ⟨uk, rfl, hu, hb⟩ := hp; have HT2 := Aside0.mk (HT1.out.below (below_then (below_drew (Below.refl w1.heap.size w1)) (Nat.le_refl _) hb)); have HU := Aside0.mk hu; have jj0 : w2.cell? ⟨g1, 0, none⟩ = some (.slice A0 st.length z0) := (blk_cell HT2.out.s 0).trans rfl; have jj1 : w2.cell? ⟨g1, 1, none⟩ = some (.slice A1 en.length z1) := (blk_cell HT2.out.s 1).trans rfl; have jj2 : w2.cell? ⟨g1, 2, none⟩ = some (.int .i64 root) := (blk_cell HT2.out.s 2).trans rfl; have jj3 : w2.cell? ⟨g2, 0, none⟩ = some (.int .u8 kd) := (blk_cell HT2.out.t 0).trans rfl; have jj4 : w2.cell? ⟨g2, 1, none⟩ = some (.int .i64 rf) := (blk_cell HT2.out.t 1).trans rfl; have jj5 : w2.cell? ⟨g2, 2, none⟩ = some (.int .i64 ls) := (blk_cell HT2.out.t 2).trans rfl; clear hu hb)
      | (go_at_call 34; (with_reducible refine (HL.out w2 uk HT2.out.bel HU.out).mono ?_); rintro e w3 hp; obtain ⟨v1, v2, rfl, hr1, hr2, hb⟩ := hp; obtain ⟨A5, c5, rfl, -, -⟩ := hr1.slice; obtain ⟨A6, c6, rfl, -, -⟩ := hr2.slice; have HT3 := Aside0.mk (HT2.out.below hb); have HR1 := Aside0.mk hr1; have HR2 := Aside0.mk hr2; have kk0 : w3.cell? ⟨g1, 0, none⟩ = some (.slice A0 st.length z0) := (blk_cell HT3.out.s 0).trans rfl; have kk1 : w3.cell? ⟨g1, 1, none⟩ = some (.slice A1 en.length z1) := (blk_cell HT3.out.s 1).trans rfl; have kk2 : w3.cell? ⟨g1, 2, none⟩ = some (.int .i64 root) := (blk_cell HT3.out.s 2).trans rfl; have kk3 : w3.cell? ⟨g2, 0, none⟩ = some (.int .u8 kd) := (blk_cell HT3.out.t 0).trans rfl; have kk4 : w3.cell? ⟨g2, 1, none⟩ = some (.int .i64 rf) := (blk_cell HT3.out.t 1).trans rfl; have kk5 : w3.cell? ⟨g2, 2, none⟩ = some (.int .i64 ls) := (blk_cell HT3.out.t 2).trans rfl; have r0 := (blk_cell HT3.out.r 0).trans rfl; have r1 := (blk_cell HT3.out.r 1).trans rfl; have r2 := (blk_cell HT3.out.r 2).trans rfl; have r3 := (blk_cell HT3.out.r 3).trans rfl; have y0 := blk_frozen HT3.out.r 0; have y1 := blk_frozen HT3.out.r 1; have y2 := blk_frozen HT3.out.r 2; have y3 := blk_frozen HT3.out.r 3; clear hr1 hr2 hb))
  clear s0 s1 s2 t0 t1 t2 jj0 jj1 jj2 jj3 jj4 jj5 kk0 kk1 kk2 kk3 kk4 kk5
  go_wp2_with (fail)
  clear r0 r1 r2 r3 y0 y1 y2 y3
  obtain ⟨wz, hwz⟩ : ∃ wz, (((w3.setCell ⟨g3, 0, none⟩ (.int .u64 K.f0)).setCell ⟨g3, 1, none⟩ (.slice A5 K.f1.length c5)).setCell ⟨g3, 2, none⟩ (.slice A6 K.f2.length c6)).setCell ⟨g3, 3, none⟩ (.bool K.f3) = wz := ⟨_, rfl⟩
  rw [hwz]
  obtain ⟨⟨z0', z1', z2', z3'⟩, hb, hrows⟩ := fr_end (W0 := w) HT3.out hwz
  have hg : g3 < w2.heap.size := blk_lt HT2.out.r
  refine bodyPost_ret (v := .agg #[.int .u64 K.f0, .slice A5 K.f1.length c5, .slice A6 K.f2.length c6, .bool K.f3]) (by simp [results, Try.results24, go_sem, z0', z1', z2', z3']) rfl ⟨_, _, rfl, hrows HR1.out hg, hrows HR2.out hg, hb⟩
set_option maxHeartbeats 6400000 in
set_option maxRecDepth 100000 in
include hS hV in
theorem field_struct (rf : Int) (hT : v.f2[i].f3 = true → ∀ (W : World) (ul : Value), Below w.heap.size w W → IsV W v.f2[i] ul → Calls Try.prog 16 #[us, .int .i64 rf, .iface 80 ul] W (MkPost W v.f2[i])) (hz : v.f2[i].f3 = false → v.f2[i] = z39) :
    Calls Try.prog 24 #[us, tyV 13 rf 0, .iface 80 u, .int .i64 i] w (MkPost w v.f2[i]) := by
  obtain ⟨A0, z0, A1, z1, rfl, -⟩ := hS
  have HM := Aside0.mk (fun (W : World) (h : Below w.heap.size w W) => rsub_in v u i hi W (hV.below h))
  obtain ⟨A2, c2, A3, c3, rfl, -⟩ := hV
  obtain ⟨K, hK⟩ : ∃ K, v.f2[i] = K := ⟨_, rfl⟩
  rw [hK] at HM hT hz ⊢
  have HTR := Aside0.mk hT
  have HZ := Aside0.mk hz
  clear hT hz
  obtain ⟨g1, e1⟩ : ∃ g1, w.heap.size = g1 := ⟨_, rfl⟩
  obtain ⟨g2, e2⟩ : ∃ g2, g1 + 1 = g2 := ⟨_, rfl⟩
  obtain ⟨g3, e3⟩ : ∃ g3, g2 + 1 = g3 := ⟨_, rfl⟩
  obtain ⟨w1, hw1⟩ : ∃ w1, ((w.alloc (.cells #[.slice A0 st.length z0, .slice A1 en.length z1, .int .i64 root] 35)).alloc (.cells #[.int .u8 13, .int .i64 rf, .int .i64 0] 25)).alloc (.cells #[.int .u64 0, .slice none 0 0, .slice none 0 0, .bool false] 39) = w1 := ⟨_, rfl⟩
  have HT1 := Aside0.mk (fr_new w _ _ e1 e2 e3 hw1)
  have HEQ := Aside0.mk (And.intro e1 (And.intro e2 (And.intro e3 hw1)))
  clear e1 e2 e3 hw1 hK
  go_enter Try.func24, Try.ntmps24
  go_upto_region 1 with (fail)
  rw [HEQ.out.1, HEQ.out.2.1, HEQ.out.2.2.1, HEQ.out.2.2.2]
  have s0 : w1.cell? ⟨g1, 0, none⟩ = some (.slice A0 st.length z0) := (blk_cell HT1.out.s 0).trans rfl
  have s1 : w1.cell? ⟨g1, 1, none⟩ = some (.slice A1 en.length z1) := (blk_cell HT1.out.s 1).trans rfl
  have s2 : w1.cell? ⟨g1, 2, none⟩ = some (.int .i64 root) := (blk_cell HT1.out.s 2).trans rfl
  have t0 : w1.cell? ⟨g2, 0, none⟩ = some (.int .u8 13) := (blk_cell HT1.out.t 0).trans rfl
  have t1 : w1.cell? ⟨g2, 1, none⟩ = some (.int .i64 rf) := (blk_cell HT1.out.t 1).trans rfl
  have t2 : w1.cell? ⟨g2, 2, none⟩ = some (.int .i64 0) := (blk_cell HT1.out.t 2).trans rfl
  have hm : ∀ (a b c d : Value) (w : World), (method 221 80 (.agg #[a, b, c, d]) "Sub").run Try.prog w = .ok (61, .agg #[a, b, c, d]) w := fun _ _ _ _ _ => by kernel_rfl
  clear t1
  go_upto_region 5 with (go_at_call 61; (with_reducible refine (HM.out w1 HT1.out.bel).mono ?_); rintro e w2 hp; obtain ⟨uk, rfl, hu, hb⟩ := hp; have HT2 := Aside0.mk (HT1.out.below hb); have HU := Aside0.mk hu; clear hu hb s0 s1 s2 t0 t2)
  obtain ⟨h3, hh3⟩ : ∃ h3, K.f3 = h3 := ⟨_, rfl⟩
  rw [hh3]
  cases h3 with
  | true =>
    have HC := Aside0.mk (fun (W : World) (h : Below w.heap.size w W) (ul : Value) (hu : IsV W K ul) => HTR.out hh3 W ul h hu)
    have s0 : w2.cell? ⟨g1, 0, none⟩ = some (.slice A0 st.length z0) := (blk_cell HT2.out.s 0).trans rfl
    have s1 : w2.cell? ⟨g1, 1, none⟩ = some (.slice A1 en.length z1) := (blk_cell HT2.out.s 1).trans rfl
    have s2 : w2.cell? ⟨g1, 2, none⟩ = some (.int .i64 root) := (blk_cell HT2.out.s 2).trans rfl
    have t1 : w2.cell? ⟨g2, 1, none⟩ = some (.int .i64 rf) := (blk_cell HT2.out.t 1).trans rfl
    go_wp2_with (go_at_call 16; (with_reducible refine (HC.out w2 HT2.out.bel uk HU.out).mono ?_); rintro e w3 hp; obtain ⟨v1, v2, rfl, hr1, hr2, hb⟩ := hp; obtain ⟨A5, c5, rfl, -, -⟩ := hr1.slice; obtain ⟨A6, c6, rfl, -, -⟩ := hr2.slice; rw [hh3]; have HT3 := Aside0.mk (HT2.out.below hb); have HR1 := Aside0.mk hr1; have HR2 := Aside0.mk hr2; have r0 := (blk_cell HT3.out.r 0).trans rfl; have r1 := (blk_cell HT3.out.r 1).trans rfl; have r2 := (blk_cell HT3.out.r 2).trans rfl; have r3 := (blk_cell HT3.out.r 3).trans rfl; have y0 := blk_frozen HT3.out.r 0; have y1 := blk_frozen HT3.out.r 1; have y2 := blk_frozen HT3.out.r 2; have y3 := blk_frozen HT3.out.r 3; clear hr1 hr2 hb s0 s1 s2 t1)
    clear r0 r1 r2 r3 y0 y1 y2 y3
    obtain ⟨wz, hwz⟩ : ∃ wz, (((w3.setCell ⟨g3, 0, none⟩ (.int .u64 K.f0)).setCell ⟨g3, 1, none⟩ (.slice A5 K.f1.length c5)).setCell ⟨g3, 2, none⟩ (.slice A6 K.f2.length c6)).setCell ⟨g3, 3, none⟩ (.bool true) = wz := ⟨_, rfl⟩
    rw [hwz]
    obtain ⟨⟨z0', z1', z2', z3'⟩, hb, hrows⟩ := fr_end (W0 := w) HT3.out hwz
    have hg : g3 < w2.heap.size := blk_lt HT2.out.r
    refine bodyPost_ret (v := .agg #[.int .u64 K.f0, .slice A5 K.f1.length c5, .slice A6 K.f2.length c6, .bool true]) (by simp [results, Try.results24, go_sem, z0', z1', z2', z3']) rfl ⟨_, _, by rw [hh3], hrows HR1.out hg, hrows HR2.out hg, hb⟩
  | false =>
    have hk := HZ.out hh3
    subst hk
    have r0 := (blk_cell HT2.out.r 0).trans rfl
    have r1 := (blk_cell HT2.out.r 1).trans rfl
    have r2 := (blk_cell HT2.out.r 2).trans rfl
    have r3 := (blk_cell HT2.out.r 3).trans rfl
    have y0 := blk_frozen HT2.out.r 0
    have y1 := blk_frozen HT2.out.r 1
    have y2 := blk_frozen HT2.out.r 2
    have y3 := blk_frozen HT2.out.r 3
    go_wp2_with (fail)
    clear r0 r1 r2 r3 y0 y1 y2 y3
    obtain ⟨wz, hwz⟩ : ∃ wz, (((w2.setCell ⟨g3, 0, none⟩ (.int .u64 0)).setCell ⟨g3, 1, none⟩ (.slice none 0 0)).setCell ⟨g3, 2, none⟩ (.slice none 0 0)).setCell ⟨g3, 3, none⟩ (.bool false) = wz := ⟨_, rfl⟩
    rw [hwz]
    obtain ⟨⟨z0', z1', z2', z3'⟩, hb, hrows⟩ := fr_end (W0 := w) HT2.out hwz
    exact bodyPost_ret (v := .agg #[.int .u64 0, .slice none 0 0, .slice none 0 0, .bool false]) (by simp [results, Try.results24, go_sem, z0', z1', z2', z3']) rfl ⟨_, _, rfl, Rb.nil _ _ _ _, Rb.nil _ _ _ _, hb⟩
set_option maxHeartbeats 6400000 in
set_option maxRecDepth 100000 in
include hS hV in
theorem field_num (kd rf : Int) (hsz : 0 < szB kd) (hk10 : kd ≤ 10) (hk : v.f2[i].f1 = [] ∧ v.f2[i].f2 = [] ∧ v.f2[i].f3 = false) :
    Calls Try.prog 24 #[us, tyV kd rf 0, .iface 80 u, .int .i64 i] w (MkPost w v.f2[i]) := by
  obtain ⟨A0, z0, A1, z1, rfl, -⟩ := hS
  have HM := Aside0.mk (fun (W : World) (h : Below w.heap.size w W) => num_in v u i hi W (hV.below h))
  obtain ⟨A2, c2, A3, c3, rfl, -⟩ := hV
  have HSZ := Aside0.mk (size_f kd)
  have k13 : (kd == 13) = false := by simp only [beq_eq_false_iff_ne]; omega
  have hsp : decide (0 < szB kd) = true := decide_eq_true hsz
  obtain ⟨K, hK⟩ : ∃ K, v.f2[i] = K := ⟨_, rfl⟩
  rw [hK] at HM hk ⊢
  obtain ⟨kn, kb, kk, kh⟩ := K
  obtain ⟨h1, h2, h3⟩ := hk
  simp only at h1 h2 h3 HM
  subst h1 h2 h3
  obtain ⟨g1, e1⟩ : ∃ g1, w.heap.size = g1 := ⟨_, rfl⟩
  obtain ⟨g2, e2⟩ : ∃ g2, g1 + 1 = g2 := ⟨_, rfl⟩
  obtain ⟨g3, e3⟩ : ∃ g3, g2 + 1 = g3 := ⟨_, rfl⟩
  obtain ⟨w1, hw1⟩ : ∃ w1, ((w.alloc (.cells #[.slice A0 st.length z0, .slice A1 en.length z1, .int .i64 root] 35)).alloc (.cells #[.int .u8 kd, .int .i64 rf, .int .i64 0] 25)).alloc (.cells #[.int .u64 0, .slice none 0 0, .slice none 0 0, .bool false] 39) = w1 := ⟨_, rfl⟩
  have HT1 := Aside0.mk (fr_new w _ _ e1 e2 e3 hw1)
  have HEQ := Aside0.mk (And.intro e1 (And.intro e2 (And.intro e3 hw1)))
  clear e1 e2 e3 hw1 hK hsz hk10
  go_enter Try.func24, Try.ntmps24
  go_upto_region 1 with (fail)
  rw [HEQ.out.1, HEQ.out.2.1, HEQ.out.2.2.1, HEQ.out.2.2.2]
  have s0 : w1.cell? ⟨g1, 0, none⟩ = some (.slice A0 st.length z0) := (blk_cell HT1.out.s 0).trans rfl
  have s1 : w1.cell? ⟨g1, 1, none⟩ = some (.slice A1 en.length z1) := (blk_cell HT1.out.s 1).trans rfl
  have s2 : w1.cell? ⟨g1, 2, none⟩ = some (.int .i64 root) := (blk_cell HT1.out.s 2).trans rfl
  have t0 : w1.cell? ⟨g2, 0, none⟩ = some (.int .u8 kd) := (blk_cell HT1.out.t 0).trans rfl
  have t1 : w1.cell? ⟨g2, 1, none⟩ = some (.int .i64 rf) := (blk_cell HT1.out.t 1).trans rfl
  have t2 : w1.cell? ⟨g2, 2, none⟩ = some (.int .i64 0) := (blk_cell HT1.out.t 2).trans rfl
  have hm : ∀ (a b c d : Value) (w : World), (method 221 80 (.agg #[a, b, c, d]) "Num").run Try.prog w = .ok (57, .agg #[a, b, c, d]) w := fun _ _ _ _ _ => by kernel_rfl
  clear t1 s0 s1 s2
  go_wp2_with (first
    | (go_at_call 22; (with_reducible refine (wire_Size.calls 6 kd (szB kd) w1 HSZ.out).mono ?_); rintro e w2 ⟨rfl, hd⟩; have HT2 := Aside0.mk (HT1.out.below hd.below); clear hd t0 t2)
    | (go_at_call 57; (with_reducible refine (HM.out w2 HT2.out.bel).mono ?_); rintro e w3 ⟨rfl, hb⟩; have HT3 := Aside0.mk (HT2.out.below hb); have r0 := (blk_cell HT3.out.r 0).trans rfl; have r1 := (blk_cell HT3.out.r 1).trans rfl; have r2 := (blk_cell HT3.out.r 2).trans rfl; have r3 := (blk_cell HT3.out.r 3).trans rfl; have y0 := blk_frozen HT3.out.r 0; have y1 := blk_frozen HT3.out.r 1; have y2 := blk_frozen HT3.out.r 2; have y3 := blk_frozen HT3.out.r 3; clear hb))
  clear r0 r1 r2 r3 y0 y1 y2 y3
  obtain ⟨wz, hwz⟩ : ∃ wz, (((w3.setCell ⟨g3, 0, none⟩ (.int .u64 kn)).setCell ⟨g3, 1, none⟩ (.slice none 0 0)).setCell ⟨g3, 2, none⟩ (.slice none 0 0)).setCell ⟨g3, 3, none⟩ (.bool false) = wz := ⟨_, rfl⟩
  rw [hwz]
  obtain ⟨⟨z0', z1', z2', z3'⟩, hb, hrows⟩ := fr_end (W0 := w) HT3.out hwz
  exact bodyPost_ret (v := .agg #[.int .u64 kn, .slice none 0 0, .slice none 0 0, .bool false]) (by simp [results, Try.results24, go_sem, z0', z1', z2', z3']) rfl ⟨_, _, rfl, Rb.nil _ _ _ _, Rb.nil _ _ _ _, hb⟩
set_option maxHeartbeats 6400000 in
set_option maxRecDepth 100000 in
include hS hV in
theorem field_bytes (kd rf : Int) (hsz : ¬ 0 < szB kd) (hk13 : kd ≠ 13) (hl : v.f2[i].f1.length ≤ 140737488355328) (hk : v.f2[i].f0 = 0 ∧ v.f2[i].f2 = [] ∧ v.f2[i].f3 = false) :
    Calls Try.prog 24 #[us, tyV kd rf 0, .iface 80 u, .int .i64 i] w (MkPost w v.f2[i]) := by
  obtain ⟨A0, z0, A1, z1, rfl, -⟩ := hS
  have HM := Aside0.mk (fun (W : World) (h : Below w.heap.size w W) => bytes_in v u i hi hl W (hV.below h))
  obtain ⟨A2, c2, A3, c3, rfl, -⟩ := hV
  have HSZ := Aside0.mk (size_f kd)
  have k13 : (kd == 13) = false := by simp only [beq_eq_false_iff_ne]; omega
  have hsp : decide (0 < szB kd) = false := decide_eq_false hsz
  obtain ⟨K, hK⟩ : ∃ K, v.f2[i] = K := ⟨_, rfl⟩
  rw [hK] at HM hk ⊢
  obtain ⟨kn, kb, kk, kh⟩ := K
  obtain ⟨h1, h2, h3⟩ := hk
  simp only at h1 h2 h3 HM
  subst h1 h2 h3
  obtain ⟨g1, e1⟩ : ∃ g1, w.heap.size = g1 := ⟨_, rfl⟩
  obtain ⟨g2, e2⟩ : ∃ g2, g1 + 1 = g2 := ⟨_, rfl⟩
  obtain ⟨g3, e3⟩ : ∃ g3, g2 + 1 = g3 := ⟨_, rfl⟩
  obtain ⟨w1, hw1⟩ : ∃ w1, ((w.alloc (.cells #[.slice A0 st.length z0, .slice A1 en.length z1, .int .i64 root] 35)).alloc (.cells #[.int .u8 kd, .int .i64 rf, .int .i64 0] 25)).alloc (.cells #[.int .u64 0, .slice none 0 0, .slice none 0 0, .bool false] 39) = w1 := ⟨_, rfl⟩
  have HT1 := Aside0.mk (fr_new w _ _ e1 e2 e3 hw1)
  have HEQ := Aside0.mk (And.intro e1 (And.intro e2 (And.intro e3 hw1)))
  clear e1 e2 e3 hw1 hK hsz hk13 hl
  go_enter Try.func24, Try.ntmps24
  go_upto_region 1 with (fail)
  rw [HEQ.out.1, HEQ.out.2.1, HEQ.out.2.2.1, HEQ.out.2.2.2]
  have s0 : w1.cell? ⟨g1, 0, none⟩ = some (.slice A0 st.length z0) := (blk_cell HT1.out.s 0).trans rfl
  have s1 : w1.cell? ⟨g1, 1, none⟩ = some (.slice A1 en.length z1) := (blk_cell HT1.out.s 1).trans rfl
  have s2 : w1.cell? ⟨g1, 2, none⟩ = some (.int .i64 root) := (blk_cell HT1.out.s 2).trans rfl
  have t0 : w1.cell? ⟨g2, 0, none⟩ = some (.int .u8 kd) := (blk_cell HT1.out.t 0).trans rfl
  have t1 : w1.cell? ⟨g2, 1, none⟩ = some (.int .i64 rf) := (blk_cell HT1.out.t 1).trans rfl
  have t2 : w1.cell? ⟨g2, 2, none⟩ = some (.int .i64 0) := (blk_cell HT1.out.t 2).trans rfl
  have hm : ∀ (a b c d : Value) (w : World), (method 221 80 (.agg #[a, b, c, d]) "Bytes").run Try.prog w = .ok (55, .agg #[a, b, c, d]) w := fun _ _ _ _ _ => by kernel_rfl
  clear t1 s0 s1 s2
  go_wp2_with (first
    | (go_at_call 22; (with_reducible refine (wire_Size.calls 6 kd (szB kd) w1 HSZ.out).mono ?_); rintro e w2 ⟨rfl, hd⟩; have HT2 := Aside0.mk (HT1.out.below hd.below); clear hd t0 t2)
    | (go_at_call 55; (with_reducible refine (HM.out w2 HT2.out.bel).mono ?_); rintro e w3 hp; obtain ⟨v1, rfl, hr1, hb⟩ := hp; obtain ⟨A5, c5, rfl, -, -⟩ := hr1.slice; have HR1 := Aside0.mk hr1; have HT3 := Aside0.mk (HT2.out.below hb); have r0 := (blk_cell HT3.out.r 0).trans rfl; have r1 := (blk_cell HT3.out.r 1).trans rfl; have r2 := (blk_cell HT3.out.r 2).trans rfl; have r3 := (blk_cell HT3.out.r 3).trans rfl; have y0 := blk_frozen HT3.out.r 0; have y1 := blk_frozen HT3.out.r 1; have y2 := blk_frozen HT3.out.r 2; have y3 := blk_frozen HT3.out.r 3; clear hb hr1))
  clear r0 r1 r2 r3 y0 y1 y2 y3
  obtain ⟨wz, hwz⟩ : ∃ wz, (((w3.setCell ⟨g3, 0, none⟩ (.int .u64 0)).setCell ⟨g3, 1, none⟩ (.slice A5 kb.length c5)).setCell ⟨g3, 2, none⟩ (.slice none 0 0)).setCell ⟨g3, 3, none⟩ (.bool false) = wz := ⟨_, rfl⟩
  rw [hwz]
  obtain ⟨⟨z0', z1', z2', z3'⟩, hb, hrows⟩ := fr_end (W0 := w) HT3.out hwz
  exact bodyPost_ret (v := .agg #[.int .u64 0, .slice A5 kb.length c5, .slice none 0 0, .bool false]) (by simp [results, Try.results24, go_sem, z0', z1', z2', z3']) rfl ⟨_, _, rfl, hrows HR1.out (blk_lt HT2.out.r), Rb.nil _ _ _ _, hb⟩
end
end Go.Proofs.Ythilhndejhnlnaa.Hand
end
