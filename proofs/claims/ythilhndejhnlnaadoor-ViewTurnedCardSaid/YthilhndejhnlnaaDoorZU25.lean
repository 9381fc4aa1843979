/- Texts joined: L5 L6 L7 L8 G1 G2. -/
import Derived.Test.YthilhndejhnlnaaDoorZU16
import Derived.Test.YthilhndejhnlnaaDoorZU24
section
/- value: its walk where a struct is there. -/
namespace Go.Proofs.YthilhndejhnlnaaDoor.Hand
open Go.RowKit Go.Proofs.YthilhndejhnlnaaDoor.QAll Go.Proofs.YthilhndejhnlnaaDoorW.PrintWords Go.Proofs.YthilhndejhnlnaaDoorW.PrintLast Go.Proofs.YthilhndejhnlnaaDoorW.PrintMore Go.Proofs.YthilhndejhnlnaaDoor.Mk
set_option linter.unusedVariables false
set_option linter.unusedSimpArgs false
theorem set4_cell {W : World} {n : Nat} {a : Addr} {v x0 x1 x2 x3 : Value} (hc : W.cell? a = some v) (hne : a.block ≠ n) :
    ((((W.setCell ⟨n, 0, none⟩ x0).setCell ⟨n, 1, none⟩ x1).setCell ⟨n, 2, none⟩ x2).setCell ⟨n, 3, none⟩ x3).cell? a = some v := by
  rw [cell_far (p := ⟨n, 3, none⟩) hne, cell_far (p := ⟨n, 2, none⟩) hne, cell_far (p := ⟨n, 1, none⟩) hne, cell_far (p := ⟨n, 0, none⟩) hne, hc]
theorem VS.far {w0 w W : World} {g : Nat} {B : List Int} {i : Int} {g1 g2 g3 g4 g5 n : Nat} {us ts fs os : Array Value} (h : VS w0 w W g B i g1 g2 g3 g4 g5 us ts fs os) (hn : g5 < n) (q : Nat) (u : Value) : VS w0 w (W.setCell ⟨n, q, none⟩ u) g B i g1 g2 g3 g4 g5 us ts fs os :=
  have e := h.ne
  ⟨h.src.far (p := ⟨n, q, none⟩) (by show g ≠ n; omega) u, Below.setCell h.bel (p := ⟨n, q, none⟩) (by show w0.heap.size ≤ n; omega) u, keep_set h.kp (p := ⟨n, q, none⟩) (by show w.heap.size ≤ n; omega) u, e,
   blk_far h.s (p := ⟨n, q, none⟩) (by show g1 ≠ n; omega) u, blk_far h.t (p := ⟨n, q, none⟩) (by show g2 ≠ n; omega) u, blk_far h.f (p := ⟨n, q, none⟩) (by show g3 ≠ n; omega) u, blk_far h.r (p := ⟨n, q, none⟩) (by show g4 ≠ n; omega) u, blk_far h.o (p := ⟨n, q, none⟩) (by show g5 ≠ n; omega) u⟩
/-- Four cells of a block were written. -/
theorem set4_all {W W' : World} {n : Nat} {x0 x1 x2 x3 : Value} (hW : (((W.setCell ⟨n, 0, none⟩ x0).setCell ⟨n, 1, none⟩ x1).setCell ⟨n, 2, none⟩ x2).setCell ⟨n, 3, none⟩ x3 = W') :
    (∀ {α : Type} {d : Kd α} {e base : Nat} {v : Value} {xs : List α}, Rb d e W base v xs → n < base → Rb d e W' base v xs) ∧
    (∀ {w0 w : World} {g : Nat} {B : List Int} {i : Int} {g1 g2 g3 g4 g5 : Nat} {us ts fs os : Array Value}, VS w0 w W g B i g1 g2 g3 g4 g5 us ts fs os → g5 < n → VS w0 w W' g B i g1 g2 g3 g4 g5 us ts fs os) ∧
    (∀ {w : World} {g : Nat}, KeepBut w W g none → w.heap.size ≤ n → KeepBut w W' g none) ∧
    (∀ {a b c d : Value} {t : TypeId}, W.heap[n]? = some (.cells #[a, b, c, d] t (0, 0)) → W'.heap[n]? = some (.cells #[x0, x1, x2, x3] t (0, 0))) := by
  subst hW
  refine ⟨fun h hn => ?_, fun h hn => ?_, fun h hn => ?_, fun h => ?_⟩
  · exact Rb.set (p := ⟨n, 3, none⟩) (Rb.set (p := ⟨n, 2, none⟩) (Rb.set (p := ⟨n, 1, none⟩) (Rb.set (p := ⟨n, 0, none⟩) h hn x0) hn x1) hn x2) hn x3
  · exact (((h.far hn 0 x0).far hn 1 x1).far hn 2 x2).far hn 3 x3
  · exact keep_set (keep_set (keep_set (keep_set h (p := ⟨n, 0, none⟩) hn x0) (p := ⟨n, 1, none⟩) hn x1) (p := ⟨n, 2, none⟩) hn x2) (p := ⟨n, 3, none⟩) hn x3
  · exact blk_set (blk_set (blk_set (blk_set h 0 x0) 1 x1) 2 x2) 3 x3
theorem VS.drawn {w0 w W W' : World} {g : Nat} {B : List Int} {i : Int} {g1 g2 g3 g4 g5 n : Nat} {us ts fs os : Array Value} (h : VS w0 w W g B i g1 g2 g3 g4 g5 us ts fs os) (e : W.drewN n = W') : VS w0 w W' g B i g1 g2 g3 g4 g5 us ts fs os := by
  subst e; exact h.below (Drawn0.below ⟨⟨_, rfl⟩⟩)
/-- What the fields that were made so far are like. -/
structure KOk (st : List S50) (en : List S58) (root : Int) (left n : Nat) (fs : List S47) (j jk : Int) (k : Nat) (kids : List S29) : Prop where
  len : kids.length = k
  fit : ((fs.take k).zip kids).all (fun p => fitsB st en root left p.1.f1.f0 p.1.f1.f1 p.1.f1.f2 p.2) = true
  rg : rngs kids
  adv : j ≤ jk ∧ jk ≤ n
  wts : (Mk.wts kids : Int) ≤ k + 21 * (jk - j)
theorem KOk.snoc {st : List S50} {en : List S58} {root : Int} {left n : Nat} {fs : List S47} {j jk jl : Int} {k : Nat} {kids : List S29} {v : S29} (h : KOk st en root left n fs j jk k kids) (hk : k < fs.length)
    (hv : VOk st en root n left fs[k].f1.f0 fs[k].f1.f1 fs[k].f1.f2 false jk jl v) : KOk st en root left n fs j jl (k + 1) (kids ++ [v]) where
  len := by rw [List.length_append, h.len]; rfl
  fit := by
    rw [List.take_succ_eq_append_getElem hk, List.zip_append (by rw [List.length_take, h.len]; omega), List.all_append, h.fit]
    simp [hv.fit]
  rg := by rw [rngs_append]; exact ⟨h.rg, hv.rg, trivial⟩
  adv := ⟨by have := h.adv; have := hv.adv; omega, hv.adv.2⟩
  wts := by
    have h1 := h.wts
    have h2 := h.adv
    have h3 := hv.adv
    rw [wts_append]; simp only [Mk.wts]
    rcases Int.lt_or_le jk n with e | e
    · have := (hv.run e).2; omega
    · have := (hv.fin (by omega)).2 rfl; omega
set_option maxHeartbeats 12800000 in
set_option maxRecDepth 100000 in
theorem value_there {st : List S50} {en : List S58} {root : Int} {B : List Int} {tr : Bool} (hSch : SchOk en st.length tr st) (l : Nat) (hl12 : l ≤ 1000) (q : Nat) (hq : q < st.length) (f : S47) (sure : Bool) (i c j : Int) (us : Value) (w0 w : World) (g : Nat) (i0 : 0 ≤ i) (i1 : i ≤ B.length)
    (hc : transomhand05_Source_next.f B i = some (c, j)) (c0 : 0 ≤ c) (hj : i ≤ j ∧ j ≤ B.length) (hrun : i < B.length → j = i + 1)
    (hgo : sure = true ∨ (sure = false ∧ Int.tmod c 3 ≠ 0 ∧ j < (B.length : Int)))
    (hs : IsS69 w0 w g B i) (hb : Below w0.heap.size w0 w) (hS : IsS w0 st en root us)
    (hIH : ∀ (W : World) (jk : Int) (fd : S47), FOk en st.length tr q fd → 0 ≤ jk → jk ≤ B.length → IsS69 w0 W g B jk → Below w0.heap.size w0 W → KeepBut w W g none →
      Calls Tryd.prog 19 #[us, tyV fd.f1.f0 fd.f1.f1 fd.f1.f2, .pointer (some ⟨g, 0, none⟩), .int .i64 l, fV fd, .bool false] W (VPost st en root B l fd.f1.f0 fd.f1.f1 fd.f1.f2 false jk w0 W g)) :
    Calls Tryd.prog 19 #[us, tyV 13 q 0, .pointer (some ⟨g, 0, none⟩), .int .i64 ((l : Int) + 1), fV f, .bool sure] w (VPost st en root B (l + 1) 13 q 0 sure i w0 w g) := by
  obtain ⟨A0, z0, A1, z1, rfl, hz0, hz1, hC0, -, -⟩ := isS_all hS hb hs.ge
  obtain ⟨ad, A4, c4, rfl, x0', x1', hF1, hF2⟩ := at_T50 hC0 (q : Int) (Int.natCast_nonneg _) (by omega)
  rw [show ((q : Int)).toNat = q from rfl] at x0' x1'
  have HIH := Aside0.mk hIH
  obtain ⟨g1, e1⟩ : ∃ g1, w.heap.size = g1 := ⟨_, rfl⟩
  obtain ⟨g2, e2⟩ : ∃ g2, g1 + 1 = g2 := ⟨_, rfl⟩
  obtain ⟨g3, e3⟩ : ∃ g3, g2 + 1 = g3 := ⟨_, rfl⟩
  obtain ⟨g4, e4⟩ : ∃ g4, g3 + 1 = g4 := ⟨_, rfl⟩
  obtain ⟨g5, e5⟩ : ∃ g5, g4 + 1 = g5 := ⟨_, rfl⟩
  obtain ⟨w1, hw1⟩ : ∃ w1, (((((w.alloc (.cells #[.slice (some ad) st.length z0, .slice A1 en.length z1, .int .i64 root] 34)).alloc (.cells #[.int .u8 13, .int .i64 (q : Int), .int .i64 0] 45)).alloc (.cells #[.string f.f0, .int .u8 f.f1.f0, .int .i64 f.f1.f1, .int .i64 f.f1.f2, .int .u64 f.f2] 47)).alloc (.cells #[.int .u64 0, .slice none 0 0, .slice none 0 0, .bool false] 29)).alloc (.cells #[.int .u64 0, .slice none 0 0, .slice none 0 0, .bool false] 29)) = w1 := ⟨_, rfl⟩
  have HV1 := Aside0.mk (vs_new w0 w g B i _ _ _ hs hb e1 e2 e3 e4 e5 hw1)
  have HEQ := Aside0.mk (And.intro e1 (And.intro e2 (And.intro e3 (And.intro e4 (And.intro e5 hw1)))))
  have HN := Aside0.mk (transomhand05_Source_next.calls g B i c j w0 w1 HV1.out.src HV1.out.bel hc)
  have hR := hSch.fs q (rd_T50 st (q : Int)) (by unfold rd_T50; rw [show ((q : Int)).toNat = q from rfl, List.getD_eq_getElem?_getD, List.getElem?_eq_getElem hq]; rfl)
  obtain ⟨R, hRR⟩ : ∃ R, rd_T50 st (q : Int) = R := ⟨_, rfl⟩
  rw [hRR] at hR x0' x1' hF1 hF2
  have HR := Aside0.mk hR
  have HX : Aside0 (w0.cell? (ad.add (q * 2)) = some (.string R.f0) ∧ w0.cell? ⟨(ad.add (q * 2)).block, (ad.add (q * 2)).off + 1, none⟩ = some (.slice A4 R.f1.length c4)) := ⟨x0', x1'⟩
  have HRR := Aside0.mk hRR
  have HF1 := Aside0.mk hF1
  have HF2 := Aside0.mk hF2
  have HJ : Aside0 (0 ≤ i ∧ i ≤ j ∧ j ≤ B.length ∧ (i < B.length → j = i + 1) ∧ (sure = false → j < B.length)) := ⟨i0, hj.1, hj.2, hrun, fun h => by rcases hgo with h' | ⟨_, _, h'⟩; rw [h] at h'; cases h'; exact h'⟩
  have l1 : decide ((l : Int) + 1 < 1) = false := decide_eq_false (by omega)
  have hl0 : (l : Int) ≤ 1000 := by omega
  have q0 : (0 : Int) ≤ (q : Int) := Int.natCast_nonneg _
  have q1 : (q : Int) < (st.length : Int) := by omega
  obtain ⟨r, hr⟩ : ∃ r, Int.tmod c 3 = r := ⟨_, rfl⟩
  rw [hr] at hgo
  have ways : sure = true ∨ (sure = false ∧ (r == 0) = false ∧ decide ((B.length : Int) ≤ j) = false) := by
    rcases hgo with h | ⟨h, h2, h3⟩
    · exact .inl h
    · exact .inr ⟨h, by simp [h2], decide_eq_false (by omega)⟩
  clear hc hj hrun e1 e2 e3 e4 e5 hw1 hs hb i0 i1 hS hz0 hz1 hgo c0 hR hRR hIH hSch hl12 hC0 x0' x1' hF1 hF2
  have WAYS := Aside0.mk ways
  clear ways
  go_enter Tryd.func19, Tryd.ntmps19
  go_upto_region 2 with (fail)
  rw [HEQ.out.1, HEQ.out.2.1, HEQ.out.2.2.1, HEQ.out.2.2.2.1, HEQ.out.2.2.2.2.1, HEQ.out.2.2.2.2.2]
  go_upto_region 8 with (go_at_call 30; (with_reducible refine HN.out.mono ?_); rintro e w2 ⟨rfl, hs2, hb2, hk2⟩; have HV2 := Aside0.mk (HV1.out.call hs2 hb2 hk2); clear hs2 hb2 hk2)
  have t0 : w2.cell? ⟨g2, 0, none⟩ = some (.int .u8 13) := (blk_cell HV2.out.t 0).trans rfl
  have t2 : w2.cell? ⟨g2, 2, none⟩ = some (.int .i64 0) := (blk_cell HV2.out.t 2).trans rfl
  go_upto_region 20 with (fail)
  go_cut [124] from 102 to 124 (fun v124 wc => v124 = .bool false ∧ Aside0 (VS w0 w wc g B j g1 g2 g3 g4 g5 #[.slice (some ad) st.length z0, .slice A1 en.length z1, .int .i64 root] #[.int .u8 13, .int .i64 (q : Int), .int .i64 0] #[.string f.f0, .int .u8 f.f1.f0, .int .i64 f.f1.f1, .int .i64 f.f1.f2, .int .u64 f.f2] #[.int .u64 0, .slice none 0 0, .slice none 0 0, .bool false]))
  case first =>
    obtain ⟨As, cs, hsb, -, -⟩ := HV2.out.src
    have b0 := cellS69_0 hsb
    have b1 := cellS69_1 hsb
    clear hsb
    rcases WAYS.out with rfl | ⟨rfl, p3, p4⟩
    all_goals
      go_quiet (fail)
      go_wp2_with (fail)
      go_meet
      exact ⟨rfl, ⟨HV2.out.drawn rfl⟩⟩
  obtain ⟨rfl, HV3⟩ := hcut
  clear t0 t2
  generalize wc = w3 at *
  have o3 : w3.cell? ⟨g5, 3, none⟩ = some (.bool false) := (blk_cell HV3.out.o 3).trans rfl
  have y3 := blk_frozen HV3.out.o 3
  go_upto_region 23 with (fail)
  have HV4 : Aside0 (VS w0 w (w3.setCell ⟨g5, 3, none⟩ (.bool true)) g B j g1 g2 g3 g4 g5 #[.slice (some ad) st.length z0, .slice A1 en.length z1, .int .i64 root] #[.int .u8 13, .int .i64 (q : Int), .int .i64 0] #[.string f.f0, .int .u8 f.f1.f0, .int .i64 f.f1.f1, .int .i64 f.f1.f2, .int .u64 f.f2] #[.int .u64 0, .slice none 0 0, .slice none 0 0, .bool true]) := ⟨HV3.out.set 3 _⟩
  generalize w3.setCell ⟨g5, 3, none⟩ (.bool true) = w4 at HV4 ⊢
  clear o3 y3
  have x0 := pw_cell_below HV4.out.bel HX.out.1
  have x1 := pw_cell_below HV4.out.bel HX.out.2
  have s0 : w4.cell? ⟨g1, 0, none⟩ = some (.slice (some ad) st.length z0) := (blk_cell HV4.out.s 0).trans rfl
  have t1 : w4.cell? ⟨g2, 1, none⟩ = some (.int .i64 (q : Int)) := (blk_cell HV4.out.t 1).trans rfl
  go_upto_region 24 with (fail)
  have HBR0 := Aside0.mk (heap_alloc_new w4 (.cells #[.string R.f0, .slice A4 R.f1.length c4] 50))
  have HV50 : Aside0 (VS w0 w (w4.alloc (.cells #[.string R.f0, .slice A4 R.f1.length c4] 50)) g B j g1 g2 g3 g4 g5 #[.slice (some ad) st.length z0, .slice A1 en.length z1, .int .i64 root] #[.int .u8 13, .int .i64 (q : Int), .int .i64 0] #[.string f.f0, .int .u8 f.f1.f0, .int .i64 f.f1.f1, .int .i64 f.f1.f2, .int .u64 f.f2] #[.int .u64 0, .slice none 0 0, .slice none 0 0, .bool true]) := ⟨HV4.out.below (below_alloc (Below.refl _ _) _)⟩
  have HGR0 := Aside0.mk HV4.out.size
  obtain ⟨gr, hgr⟩ : ∃ gr, w4.heap.size = gr := ⟨_, rfl⟩
  obtain ⟨w5, hw5⟩ : ∃ w5, w4.alloc (.cells #[.string R.f0, .slice A4 R.f1.length c4] 50) = w5 := ⟨_, rfl⟩
  rw [hgr] at HGR0
  rw [hw5, hgr] at HBR0
  rw [hw5] at HV50
  rw [hw5, hgr]
  clear hw5 hgr x0 x1 s0 t1
  have HBR := HBR0
  have HV5 := HV50
  have HGR := HGR0
  clear HBR0 HV50 HGR0
  go_wp2_with (fail)
  go_loopg [20] 17 (fun kq v20 wr => ∃ (k : Nat) (jk : Int) (kids : List S29) (vk : Value), v20 = .int .i64 k ∧ Aside0 (k ≤ R.f1.length) ∧ Aside0 (R.f1.length < kq + k) ∧ Aside0 (KOk st en root l B.length R.f1 j jk k kids) ∧
    Aside0 (VS w0 w wr g B jk g1 g2 g3 g4 g5 #[.slice (some ad) st.length z0, .slice A1 en.length z1, .int .i64 root] #[.int .u8 13, .int .i64 (q : Int), .int .i64 0] #[.string f.f0, .int .u8 f.f1.f0, .int .i64 f.f1.f1, .int .i64 f.f1.f2, .int .u64 f.f2] #[.int .u64 0, .slice none 0 0, vk, .bool true]) ∧ Aside0 (Rb k29 29 wr (gr + 1) vk kids) ∧ Aside0 (wr.heap[gr]? = some (.cells #[.string R.f0, .slice A4 R.f1.length c4] 50 (0, 0))))
  case atStart => exact ⟨0, j, [], .slice none 0 0, rfl, ⟨Nat.zero_le _⟩, ⟨by have := HR.out.2.1; omega⟩, ⟨⟨rfl, by simp, by simp [rngs], ⟨by omega, HJ.out.2.2.1⟩, by simp [Mk.wts]⟩⟩, HV5, ⟨Rb.nil _ _ _ _⟩, HBR⟩
  case round =>
    obtain ⟨k, jk, kids, vk, rfl, HK, HKQ, HO, HV, HKR, HB⟩ := hrel
    obtain ⟨n, rfl⟩ : ∃ n, gk = n + 1 := ⟨gk - 1, by have := HKQ.out; have := HK.out; omega⟩
    obtain ⟨Ak, ck, rfl, -, -⟩ := HKR.out.slice
    by_cases p : k < R.f1.length
    · have p1 : decide (k < R.f1.length) = true := decide_eq_true p
      have p2 : decide ((k : Int) < (R.f1.length : Int)) = true := decide_eq_true (by omega)
      have k0 : (0 : Int) ≤ (k : Int) := Int.natCast_nonneg _
      have k1 : (k : Int) < (R.f1.length : Int) := by omega
      have k16 : k ≤ 16 := by have := HR.out.2.1; omega
      obtain ⟨af, rfl, m0, m1, m2, m3, m4⟩ := at_T47 HF2.out (k : Int) k0 k1
      obtain ⟨fd, hfd⟩ : ∃ fd, rd_T47 R.f1 (k : Int) = fd := ⟨_, rfl⟩
      have hfk : R.f1[k] = fd := by rw [← hfd]; unfold rd_T47; rw [show ((k : Int)).toNat = k from rfl, List.getD_eq_getElem?_getD, List.getElem?_eq_getElem p]; rfl
      have HFK : Aside0 (∃ p : k < R.f1.length, R.f1[k] = fd) := ⟨⟨p, hfk⟩⟩
      have HFD : Aside0 (FOk en st.length tr q fd) := ⟨by rw [← hfk]; exact HR.out.2.2 _ (List.getElem_mem p)⟩
      rw [hfd] at m0 m1 m2 m3 m4
      rw [show ((k : Int)).toNat = k from rfl] at m0 m1 m2 m3 m4
      have HM := Aside0.mk (And.intro m0 (And.intro m1 (And.intro m2 (And.intro m3 m4))))
      clear m0 m1 m2 m3 m4 hfd p hfk
      have s0 : wr.cell? ⟨g1, 0, none⟩ = some (.slice (some ad) st.length z0) := (blk_cell HV.out.s 0).trans rfl
      have s1 : wr.cell? ⟨g1, 1, none⟩ = some (.slice A1 en.length z1) := (blk_cell HV.out.s 1).trans rfl
      have s2 : wr.cell? ⟨g1, 2, none⟩ = some (.int .i64 root) := (blk_cell HV.out.s 2).trans rfl
      have b1 : wr.cell? ⟨gr, 1, none⟩ = some (.slice (some af) R.f1.length c4) := (blk_cell HB.out 1).trans rfl
      have m0 := pw_cell_below HV.out.bel HM.out.1
      have m1 := pw_cell_below HV.out.bel HM.out.2.1
      have m2 := pw_cell_below HV.out.bel HM.out.2.2.1
      have m3 := pw_cell_below HV.out.bel HM.out.2.2.2.1
      have m4 := pw_cell_below HV.out.bel HM.out.2.2.2.2
      have HCALL : Aside0 (∀ W, Below wr.heap.size wr W → Calls Tryd.prog 19 #[.agg #[.slice (some ad) st.length z0, .slice A1 en.length z1, .int .i64 root], tyV fd.f1.f0 fd.f1.f1 fd.f1.f2, .pointer (some ⟨g, 0, none⟩), .int .i64 l, fV fd, .bool false] W (VPost st en root B l fd.f1.f0 fd.f1.f1 fd.f1.f2 false jk w0 W g)) := ⟨fun W hW => by
        have h6 := HV.out.below hW
        exact HIH.out W jk fd HFD.out (by have := HO.out.adv; have := HJ.out; omega) HO.out.adv.2 h6.src h6.bel h6.kp⟩
      have HNQ : Aside0 (g1 ≠ wr.heap.size ∧ gr ≠ wr.heap.size ∧ (af.add (k * 5)).block ≠ wr.heap.size) := ⟨by have := HV.out.ne; have := HV.out.size; omega, by have := blk_lt HB.out; omega, by have := World.block_lt_of_cell? _ _ HM.out.1; have := HV.out.bel.size; omega⟩
      have wl : IntKind.i64.wrap (l : Int) = (l : Int) := by rw [IntKind.wrap_i64]; omega
      go_upto_region 27 with (fail)
      go_cut [21] from 133 to 161 (fun v21 wc => ∃ (gn : Nat) (v : S29) (jl : Int) (A5 : Option Addr) (c5 : Nat) (A6 : Option Addr) (c6 hz : Nat), v21 = .pointer (some ⟨gn, 0, none⟩) ∧ Aside0 (VS w0 w wc g B jl g1 g2 g3 g4 g5 #[.slice (some ad) st.length z0, .slice A1 en.length z1, .int .i64 root] #[.int .u8 13, .int .i64 (q : Int), .int .i64 0] #[.string f.f0, .int .u8 f.f1.f0, .int .i64 f.f1.f1, .int .i64 f.f1.f2, .int .u64 f.f2] #[.int .u64 0, .slice none 0 0, .slice Ak kids.length ck, .bool true]) ∧
        Aside0 (Rb k29 29 wc (gr + 1) (.slice Ak kids.length ck) kids) ∧ Aside0 (wc.heap[gr]? = some (.cells #[.string R.f0, .slice (some af) R.f1.length c4] 50 (0, 0))) ∧ Aside0 (wc.heap[gn]? = some (.cells #[.int .u64 v.f0, .slice A5 v.f1.length c5, .slice A6 v.f2.length c6, .bool v.f3] 29 (0, 0))) ∧
        Aside0 (k29.M wc (gr + 1) (fun x => hz ≤ x) v [.int .u64 v.f0, .slice A5 v.f1.length c5, .slice A6 v.f2.length c6, .bool v.f3]) ∧ Aside0 (∀ x, hz ≤ x → True ∧ some x ≠ (Value.slice Ak kids.length ck).ownBlock) ∧ Aside0 (VOk st en root B.length l fd.f1.f0 fd.f1.f1 fd.f1.f2 false jk jl v))
      case first =>
        go_region_held3 (fun W => W.cell? ⟨g1, 0, none⟩ = some (.slice (some ad) st.length z0) ∧ W.cell? ⟨g1, 1, none⟩ = some (.slice A1 en.length z1) ∧ W.cell? ⟨g1, 2, none⟩ = some (.int .i64 root) ∧ W.cell? ⟨gr, 1, none⟩ = some (.slice (some af) R.f1.length c4) ∧ W.cell? (af.add (k * 5)) = some (.string fd.f0) ∧ W.cell? ⟨(af.add (k * 5)).block, (af.add (k * 5)).off + 1, none⟩ = some (.int .u8 fd.f1.f0) ∧ W.cell? ⟨(af.add (k * 5)).block, (af.add (k * 5)).off + 2, none⟩ = some (.int .i64 fd.f1.f1) ∧ W.cell? ⟨(af.add (k * 5)).block, (af.add (k * 5)).off + 3, none⟩ = some (.int .i64 fd.f1.f2) ∧ W.cell? ⟨(af.add (k * 5)).block, (af.add (k * 5)).off + 4, none⟩ = some (.int .u64 fd.f2))
          (first | with_reducible exact ⟨kk0, kk1, kk2, kk3, kk4, kk5, kk6, kk7, kk8⟩ | with_reducible exact ⟨set4_cell kk0 HNQ.out.1, set4_cell kk1 HNQ.out.1, set4_cell kk2 HNQ.out.1, set4_cell kk3 HNQ.out.2.1, set4_cell kk4 HNQ.out.2.2, set4_cell kk5 HNQ.out.2.2, set4_cell kk6 HNQ.out.2.2, set4_cell kk7 HNQ.out.2.2, set4_cell kk8 HNQ.out.2.2⟩ | go_keep)
          (first
            | (go_at_call 19; (with_reducible refine (HCALL.out _ (below_drew (Below.refl wr.heap.size wr))).mono ?_); rintro e w7 hp; obtain ⟨v, jl, v1, v2, rfl, hr1, hr2, hs7, hb7, hk7, hok⟩ := hp; obtain ⟨A5, c5, rfl, -, -⟩ := hr1.slice; obtain ⟨A6, c6, rfl, -, -⟩ := hr2.slice; have hw6 := below_drew (Below.refl wr.heap.size wr); have HV7 := Aside0.mk ((HV.out.below hw6).call hs7 hb7 hk7); have HKR7 := Aside0.mk ((HKR.out.below hw6).keep hk7 (by have := HV.out.ne; have := HGR.out; omega)); have HB7 := Aside0.mk (hk7.blk ((hw6.block _ (blk_lt HB.out)).trans HB.out) (by have := HV.out.ne; have := HGR.out; omega) (by simp)); have HR1 := Aside0.mk hr1; have HR2 := Aside0.mk hr2; have HOK := Aside0.mk hok; have HK7 := Aside0.mk hk7; have kk0 : w7.cell? ⟨g1, 0, none⟩ = some (.slice (some ad) st.length z0) := (blk_cell HV7.out.s 0).trans rfl; have kk1 : w7.cell? ⟨g1, 1, none⟩ = some (.slice A1 en.length z1) := (blk_cell HV7.out.s 1).trans rfl; have kk2 : w7.cell? ⟨g1, 2, none⟩ = some (.int .i64 root) := (blk_cell HV7.out.s 2).trans rfl; have kk3 : w7.cell? ⟨gr, 1, none⟩ = some (.slice (some af) R.f1.length c4) := (blk_cell HB7.out 1).trans rfl; have kk4 := pw_cell_below HV7.out.bel HM.out.1; have kk5 := pw_cell_below HV7.out.bel HM.out.2.1; have kk6 := pw_cell_below HV7.out.bel HM.out.2.2.1; have kk7 := pw_cell_below HV7.out.bel HM.out.2.2.2.1; have kk8 := pw_cell_below HV7.out.bel HM.out.2.2.2.2; clear hr1 hr2 hs7 hb7 hk7 hok hw6)
            | (go_at_call 19; (with_reducible refine (HCALL.out _ (below_drew (below_alloc (Below.refl wr.heap.size wr) (.cells #[.int .u64 0, .slice none 0 0, .slice none 0 0, .bool false] 29)))).mono ?_); rintro e w7 hp; obtain ⟨v, jl, v1, v2, rfl, hr1, hr2, hs7, hb7, hk7, hok⟩ := hp; obtain ⟨A5, c5, rfl, -, -⟩ := hr1.slice; obtain ⟨A6, c6, rfl, -, -⟩ := hr2.slice; have hw6 := below_drew (below_alloc (Below.refl wr.heap.size wr) (.cells #[.int .u64 0, .slice none 0 0, .slice none 0 0, .bool false] 29)); have HV7 := Aside0.mk ((HV.out.below hw6).call hs7 hb7 hk7); have HKR7 := Aside0.mk ((HKR.out.below hw6).keep hk7 (by have := HV.out.ne; have := HGR.out; omega)); have HB7 := Aside0.mk (hk7.blk ((hw6.block _ (blk_lt HB.out)).trans HB.out) (by have := HV.out.ne; have := HGR.out; omega) (by simp)); have HR1 := Aside0.mk hr1; have HR2 := Aside0.mk hr2; have HOK := Aside0.mk hok; have HK7 := Aside0.mk hk7; have kk0 : w7.cell? ⟨g1, 0, none⟩ = some (.slice (some ad) st.length z0) := (blk_cell HV7.out.s 0).trans rfl; have kk1 : w7.cell? ⟨g1, 1, none⟩ = some (.slice A1 en.length z1) := (blk_cell HV7.out.s 1).trans rfl; have kk2 : w7.cell? ⟨g1, 2, none⟩ = some (.int .i64 root) := (blk_cell HV7.out.s 2).trans rfl; have kk3 : w7.cell? ⟨gr, 1, none⟩ = some (.slice (some af) R.f1.length c4) := (blk_cell HB7.out 1).trans rfl; have kk4 := pw_cell_below HV7.out.bel HM.out.1; have kk5 := pw_cell_below HV7.out.bel HM.out.2.1; have kk6 := pw_cell_below HV7.out.bel HM.out.2.2.1; have kk7 := pw_cell_below HV7.out.bel HM.out.2.2.2.1; have kk8 := pw_cell_below HV7.out.bel HM.out.2.2.2.2; have HN7 := Aside0.mk (hk7.blk (o := .cells #[.int .u64 0, .slice none 0 0, .slice none 0 0, .bool false] 29 (0, 0)) (heap_alloc_new wr (.cells #[.int .u64 0, .slice none 0 0, .slice none 0 0, .bool false] 29)) (by have := HV.out.ne; have := HV.out.size; omega) (by simp)); have nn0 := (blk_cell HN7.out 0).trans rfl; have nn1 := (blk_cell HN7.out 1).trans rfl; have nn2 := (blk_cell HN7.out 2).trans rfl; have nn3 := (blk_cell HN7.out 3).trans rfl; have yn0 := blk_frozen HN7.out 0; have yn1 := blk_frozen HN7.out 1; have yn2 := blk_frozen HN7.out 2; have yn3 := blk_frozen HN7.out 3; clear hr1 hr2 hs7 hb7 hk7 hok hw6))
        · clear kk0 kk1 kk2 kk3 kk4 kk5 kk6 kk7 kk8
          go_wp2_with (fail)
          go_meet
          have hbn := below_alloc (Below.refl w7.heap.size w7) (.cells #[.int .u64 v.f0, .slice A5 v.f1.length c5, .slice A6 v.f2.length c6, .bool v.f3] 29)
          have hgr : gr + 1 ≤ wr.drew.heap.size := blk_lt HB.out
          exact ⟨w7.heap.size, v, jl, A5, c5, A6, c6, wr.drew.heap.size, rfl, ⟨HV7.out.below hbn⟩, ⟨HKR7.out.below hbn⟩, ⟨(hbn.block _ (blk_lt HB7.out)).trans HB7.out⟩, ⟨heap_alloc_new w7 _⟩,
            ⟨k29_mkM _ (gr + 1) _ v (Kd.R_below (Kd.R_lower (Rb.from HR1.out) hgr) hbn) (Kd.R_below (Kd.R_lower (Rb.from HR2.out) hgr) hbn)⟩, ⟨fun x hx => ⟨trivial, fun e => by have := (HKR.out.bas x e.symm).2; have hx' : wr.heap.size ≤ x := hx; omega⟩⟩, HOK⟩
        · clear kk0 kk1 kk2 kk3 kk4 kk5 kk6 kk7 kk8 nn0 nn1 nn2 nn3 yn0 yn1 yn2 yn3
          go_wp2_with (fail)
          go_meet
          obtain ⟨wz, hwz⟩ : ∃ wz, (((w7.setCell ⟨wr.heap.size, 0, none⟩ (.int .u64 v.f0)).setCell ⟨wr.heap.size, 1, none⟩ (.slice A5 v.f1.length c5)).setCell ⟨wr.heap.size, 2, none⟩ (.slice A6 v.f2.length c6)).setCell ⟨wr.heap.size, 3, none⟩ (.bool v.f3) = wz := ⟨_, rfl⟩
          rw [hwz]
          obtain ⟨q1, q2, q3, q4⟩ := set4_all hwz
          have hgr : gr + 1 ≤ wr.heap.size + 1 := by have := blk_lt HB.out; omega
          have hsz : (wr.alloc (.cells #[.int .u64 0, .slice none 0 0, .slice none 0 0, .bool false] 29)).drew.heap.size = wr.heap.size + 1 := by show (wr.alloc (.cells #[.int .u64 0, .slice none 0 0, .slice none 0 0, .bool false] 29)).heap.size = _; simp
          have hr1 := HR1.out
          have hr2 := HR2.out
          rw [hsz] at hr1 hr2
          have hk := q3 (keep_trans (KeepBut.of_below (below_drew (below_alloc (Below.refl wr.heap.size wr) (.cells #[.int .u64 0, .slice none 0 0, .slice none 0 0, .bool false] 29))) g none) HK7.out) (Nat.le_refl _)
          exact ⟨wr.heap.size, v, jl, A5, c5, A6, c6, wr.heap.size + 1, rfl, ⟨q2 HV7.out HV.out.size⟩, ⟨HKR.out.keep hk (by have := HV.out.ne; have := HGR.out; omega)⟩, ⟨hk.blk HB.out (by have := HV.out.ne; have := HGR.out; omega) (by simp)⟩, ⟨q4 HN7.out⟩,
            ⟨k29_mkM _ (gr + 1) _ v (Kd.R_lower (Rb.from (q1 hr1 (Nat.lt_succ_self _))) hgr) (Kd.R_lower (Rb.from (q1 hr2 (Nat.lt_succ_self _))) hgr)⟩, ⟨fun x hx => ⟨trivial, fun e => by have := (HKR.out.bas x e.symm).2; omega⟩⟩, HOK⟩
      obtain ⟨gn, v, jl, A5, c5, A6, c6, hz, rfl, HV8, HKR8, HB8, HNB, HM8, HNE, HOK⟩ := hcut
      have o2 : wc.cell? ⟨g5, 2, none⟩ = some (.slice Ak kids.length ck) := (blk_cell HV8.out.o 2).trans rfl
      have n0 : wc.cell? ⟨gn, 0, none⟩ = some (.int .u64 v.f0) := (blk_cell HNB.out 0).trans rfl
      have n1 : wc.cell? ⟨gn, 1, none⟩ = some (.slice A5 v.f1.length c5) := (blk_cell HNB.out 1).trans rfl
      have n2 : wc.cell? ⟨gn, 2, none⟩ = some (.slice A6 v.f2.length c6) := (blk_cell HNB.out 2).trans rfl
      have n3 : wc.cell? ⟨gn, 3, none⟩ = some (.bool v.f3) := (blk_cell HNB.out 3).trans rfl
      go_wp2_with ((with_reducible refine gate_builtin (b := .append) (xs := #[.tmp 157, .tmp 159]) rfl ?_); at_builtin; refine Kd.R_append k29 (w0 := wc) (W := wc) (gr + 1) rfl (.tmp 157) (.tmp 159) 27 29 (.agg #[.int .u64 0, .slice none 0 0, .slice none 0 0, .bool false]) 64 rfl Tryd.underlying27 info29 rfl (by decide) (by decide) (.slice Ak kids.length ck) kids v [.int .u64 v.f0, .slice A5 v.f1.length c5, .slice A6 v.f2.length c6, .bool v.f3] (fun _ => True) (fun x => hz ≤ x) rfl rfl HM8.out HNE.out (fun _ _ => trivial) HKR8.out (Below.refl _ _) (blk_lt HB8.out) (by have := HO.out.len; have := HK.out; have := HR.out.2.1; omega) ?_)
      intro v9 w9 hr9 _ hg9 _
      obtain ⟨A9, c9, e9, -, -⟩ := Rb.slice hr9
      rw [List.length_append, List.length_singleton] at e9
      subst e9
      have HG9 : Aside0 (∀ x, (Value.slice Ak kids.length ck).ownBlock = some x → gr + 1 ≤ x) := ⟨fun x hx => (HKR8.out.bas x hx).1⟩
      have HV9 := Aside0.mk (HV8.out.grown hg9 (fun x hx => by have := HG9.out x hx; have := HGR.out; omega))
      have HR9 := Aside0.mk hr9
      have HB9 := Aside0.mk (blk_grown HB8.out hg9 (fun e => by have := HG9.out gr e.symm; omega))
      have o9 : w9.cell? ⟨g5, 2, none⟩ = some (.slice Ak kids.length ck) := (blk_cell HV9.out.o 2).trans rfl
      have f9 := blk_frozen HV9.out.o 2
      have HNE5 : Aside0 (gr ≠ g5) := ⟨by have := HGR.out; omega⟩
      clear hr9 hg9 o2 n0 n1 n2 n3
      go_wp2_with (fail)
      go_roundg n
      case measure => omega
      case rel =>
        exact ⟨k + 1, jl, kids ++ [v], .slice A9 (kids.length + 1) c9, by go_num, ⟨by obtain ⟨p, _⟩ := HFK.out; omega⟩, ⟨by have := HKQ.out; omega⟩, ⟨by obtain ⟨p, hfk⟩ := HFK.out; exact HO.out.snoc p (by rw [hfk]; exact HOK.out)⟩,
          ⟨HV9.out.set 2 (.slice A9 (kids.length + 1) c9)⟩, ⟨Rb.set (p := ⟨g5, 2, none⟩) HR9.out (by show g5 < gr + 1; have := HGR.out; omega) _⟩, ⟨blk_far HB9.out (p := ⟨g5, 2, none⟩) HNE5.out _⟩⟩
    · have p1 : decide (k < R.f1.length) = false := decide_eq_false p
      have p2 : decide ((k : Int) < (R.f1.length : Int)) = false := decide_eq_false (by omega)
      have hkR : k = R.f1.length := by have := HK.out; omega
      have HKE := Aside0.mk hkR
      clear p hkR
      have b1 : wr.cell? ⟨gr, 1, none⟩ = some (.slice A4 R.f1.length c4) := (blk_cell HB.out 1).trans rfl
      have o0 : wr.cell? ⟨g5, 0, none⟩ = some (.int .u64 0) := (blk_cell HV.out.o 0).trans rfl
      have o1 : wr.cell? ⟨g5, 1, none⟩ = some (.slice none 0 0) := (blk_cell HV.out.o 1).trans rfl
      have o2 : wr.cell? ⟨g5, 2, none⟩ = some (.slice Ak kids.length ck) := (blk_cell HV.out.o 2).trans rfl
      have o3 : wr.cell? ⟨g5, 3, none⟩ = some (.bool true) := (blk_cell HV.out.o 3).trans rfl
      have r0 : wr.cell? ⟨g4, 0, none⟩ = some (.int .u64 0) := (blk_cell HV.out.r 0).trans rfl
      have r1 : wr.cell? ⟨g4, 1, none⟩ = some (.slice none 0 0) := (blk_cell HV.out.r 1).trans rfl
      have r2 : wr.cell? ⟨g4, 2, none⟩ = some (.slice none 0 0) := (blk_cell HV.out.r 2).trans rfl
      have r3 : wr.cell? ⟨g4, 3, none⟩ = some (.bool false) := (blk_cell HV.out.r 3).trans rfl
      have y0 := blk_frozen HV.out.r 0
      have y1 := blk_frozen HV.out.r 1
      have y2 := blk_frozen HV.out.r 2
      have y3 := blk_frozen HV.out.r 3
      go_wp2_with (fail)
      clear o0 o1 o2 o3 r0 r1 r2 r3 y0 y1 y2 y3 b1
      obtain ⟨wz, hwz⟩ : ∃ wz, (((wr.setCell ⟨g4, 0, none⟩ (.int .u64 0)).setCell ⟨g4, 1, none⟩ (.slice none 0 0)).setCell ⟨g4, 2, none⟩ (.slice Ak kids.length ck)).setCell ⟨g4, 3, none⟩ (.bool true) = wz := ⟨_, rfl⟩
      rw [hwz]
      obtain ⟨⟨z0', z1', z2', z3'⟩, ⟨hs, hb, hk⟩, hrows⟩ := vs_end HV.out hwz
      refine bodyPost_ret (v := .agg #[.int .u64 0, .slice none 0 0, .slice Ak kids.length ck, .bool true]) (by simp [results, Tryd.results19, go_sem, z0', z1', z2', z3']) rfl ⟨⟨0, [], kids, true⟩, jk, _, _, rfl, Rb.nil _ _ _ _, hrows (HKR.out.lower (by have := HGR.out; omega)), hs, hb, hk, ?_⟩
      have h1 := HJ.out
      have h2 := HO.out
      have h3 := HR.out
      have hkR := HKE.out
      subst hkR
      refine ⟨?_, fun _ _ _ _ => rfl, ?_, by have := h2.adv; omega, fun h => ?_, fun h => ?_⟩
      · have hf := h2.fit
        rw [List.take_length] at hf
        unfold fitsB
        rw [if_neg (by decide), if_pos rfl, if_neg (by simp), HRR.out, if_neg (by simp [h2.len])]
        exact hf
      · simp only [rng]; exact ⟨⟨by decide, by decide⟩, (fun _ h => by cases h), h2.rg⟩
      · simp only [wt]; have := h1.2.2.2.1 h; have := h2.wts; have := h2.adv; simp only [List.length_nil]; omega
      · simp only [wt]; have := h2.wts; have := h2.adv; simp only [List.length_nil]; exact ⟨by omega, fun hf => by have := h1.2.2.2.2 hf; omega⟩
end Go.Proofs.YthilhndejhnlnaaDoor.Hand
end

section
/- value: its walk where a list is made. -/
namespace Go.Proofs.YthilhndejhnlnaaDoor.Hand
open Go.RowKit Go.Proofs.YthilhndejhnlnaaDoor.QAll Go.Proofs.YthilhndejhnlnaaDoorW.PrintWords Go.Proofs.YthilhndejhnlnaaDoorW.PrintLast Go.Proofs.YthilhndejhnlnaaDoorW.PrintMore Go.Proofs.YthilhndejhnlnaaDoor.Mk
set_option linter.unusedVariables false
set_option linter.unusedSimpArgs false
/-- What the elements that were made so far are like. -/
structure LOk (st : List S50) (en : List S58) (root : Int) (left n : Nat) (kd rf ls : Int) (j jk : Int) (k : Nat) (kids : List S29) : Prop where
  len : kids.length = k
  fit : ∀ x ∈ kids, 1 ≤ left ∧ fitsB st en root (left - 1) kd rf (ls - 1) x = true ∧ lackB kd (ls - 1) x = false
  rg : rngs kids
  adv : j ≤ jk ∧ jk ≤ n
  wts : (Mk.wts kids : Int) ≤ 21 * (jk - j)
theorem LOk.snoc {st : List S50} {en : List S58} {root : Int} {left n : Nat} {kd rf ls j jk jl : Int} {k : Nat} {kids : List S29} {v : S29} (h : LOk st en root left n kd rf ls j jk k kids) (h1 : 1 ≤ left) (h2 : kd = 13 → ls - 1 = 0 → 2 ≤ left) (hjk : jk < n)
    (hv : VOk st en root n (left - 1) kd rf (ls - 1) true jk jl v) : LOk st en root left n kd rf ls j jl (k + 1) (kids ++ [v]) where
  len := by rw [List.length_append, h.len]; rfl
  fit := by
    intro x hx
    rcases List.mem_append.1 hx with e | e
    · exact h.fit x e
    · rw [List.mem_singleton] at e; subst e
      refine ⟨h1, hv.fit, ?_⟩
      unfold lackB
      by_cases a : ls - 1 = 0
      · by_cases b : kd = 13
        · have := h2 b a
          rw [hv.has rfl a b (by omega)]; simp
        · simp [b]
      · simp [a]
  rg := by rw [rngs_append]; exact ⟨h.rg, hv.rg, trivial⟩
  adv := ⟨by have := h.adv; have := hv.adv; omega, hv.adv.2⟩
  wts := by
    have h3 := h.wts
    have h4 := (hv.run hjk).2
    rw [wts_append]; simp only [Mk.wts]; omega
set_option maxHeartbeats 12800000 in
set_option maxRecDepth 100000 in
theorem value_list {st : List S50} {en : List S58} {root : Int} {B : List Int} (left : Nat) (hl12 : left ≤ 1000) (kd rf ls : Int) (hls : 0 < ls) (hls2 : ls ≤ 3) (f : S47) (sure : Bool) (i c j : Int) (us : Value) (w0 w : World) (g : Nat) (i0 : 0 ≤ i) (i1 : i ≤ B.length)
    (hc : transomhand05_Source_next.f B i = some (c, j)) (c0 : 0 ≤ c) (hj : i ≤ j ∧ j ≤ B.length) (hrun : i < B.length → j = i + 1)
    (hs : IsS69 w0 w g B i) (hb : Below w0.heap.size w0 w) (hS : IsS w0 st en root us)
    (hIH : 1 ≤ left → (kd = 13 → ls - 1 = 0 → 2 ≤ left) → ∀ (W : World) (jk : Int), 0 ≤ jk → jk ≤ B.length → IsS69 w0 W g B jk → Below w0.heap.size w0 W → KeepBut w W g none →
      Calls Tryd.prog 19 #[us, tyV kd rf (ls - 1), .pointer (some ⟨g, 0, none⟩), .int .i64 ((left : Int) - 1), fV z47, .bool true] W (VPost st en root B (left - 1) kd rf (ls - 1) true jk w0 W g)) :
    Calls Tryd.prog 19 #[us, tyV kd rf ls, .pointer (some ⟨g, 0, none⟩), .int .i64 left, fV f, .bool sure] w (VPost st en root B left kd rf ls sure i w0 w g) := by
  obtain ⟨A0, z0, A1, z1, rfl, hz0, hz1, hC0, -, -⟩ := isS_all hS hb hs.ge
  have HIH := Aside0.mk hIH
  obtain ⟨g1, e1⟩ : ∃ g1, w.heap.size = g1 := ⟨_, rfl⟩
  obtain ⟨g2, e2⟩ : ∃ g2, g1 + 1 = g2 := ⟨_, rfl⟩
  obtain ⟨g3, e3⟩ : ∃ g3, g2 + 1 = g3 := ⟨_, rfl⟩
  obtain ⟨g4, e4⟩ : ∃ g4, g3 + 1 = g4 := ⟨_, rfl⟩
  obtain ⟨g5, e5⟩ : ∃ g5, g4 + 1 = g5 := ⟨_, rfl⟩
  obtain ⟨w1, hw1⟩ : ∃ w1, (((((w.alloc (.cells #[.slice A0 st.length z0, .slice A1 en.length z1, .int .i64 root] 34)).alloc (.cells #[.int .u8 kd, .int .i64 rf, .int .i64 ls] 45)).alloc (.cells #[.string f.f0, .int .u8 f.f1.f0, .int .i64 f.f1.f1, .int .i64 f.f1.f2, .int .u64 f.f2] 47)).alloc (.cells #[.int .u64 0, .slice none 0 0, .slice none 0 0, .bool false] 29)).alloc (.cells #[.int .u64 0, .slice none 0 0, .slice none 0 0, .bool false] 29)) = w1 := ⟨_, rfl⟩
  have HV1 := Aside0.mk (vs_new w0 w g B i _ _ _ hs hb e1 e2 e3 e4 e5 hw1)
  have HEQ := Aside0.mk (And.intro e1 (And.intro e2 (And.intro e3 (And.intro e4 (And.intro e5 hw1)))))
  have HN := Aside0.mk (transomhand05_Source_next.calls g B i c j w0 w1 HV1.out.src HV1.out.bel hc)
  have HJ : Aside0 (0 ≤ i ∧ i ≤ j ∧ j ≤ B.length ∧ (i < B.length → j = i + 1) ∧ 0 < ls ∧ i ≤ B.length) := ⟨i0, hj.1, hj.2, hrun, hls, i1⟩
  have hl0 : (left : Int) ≤ 1000 := by omega
  have l1 : decide (0 < ls) = true := decide_eq_true hls
  have wl : IntKind.i64.wrap (ls - 1) = ls - 1 := by rw [IntKind.wrap_i64]; omega
  obtain ⟨m, hm, hm5⟩ : ∃ m : Nat, Int.tmod c 5 = m ∧ m < 5 := ⟨(c % 5).toNat, by rw [tm c 5 c0 (by decide)]; omega, by omega⟩
  have HM := Aside0.mk hm5
  obtain ⟨L, L', hLL, hL1, hL2⟩ : ∃ (L : Int) (L' : Nat), (L : Int) = L' ∧ ((((ls - 1) == 0) = true ∧ (kd == 13) = true ∧ L = 2 ∧ L' = 2) ∨ (((ls - 1) == 0) = true ∧ (kd == 13) = false ∧ L = 1 ∧ L' = 1) ∨ (((ls - 1) == 0) = false ∧ L = 1 ∧ L' = 1)) ∧ (L' ≤ left → 1 ≤ left ∧ (kd = 13 → ls - 1 = 0 → 2 ≤ left)) := by
    by_cases a : ls - 1 = 0
    · by_cases b : kd = 13
      · exact ⟨2, 2, rfl, .inl ⟨by simp [a], by simp [b], rfl, rfl⟩, fun h => ⟨by omega, fun _ _ => h⟩⟩
      · exact ⟨1, 1, rfl, .inr (.inl ⟨by simp [a], by simp [b], rfl, rfl⟩), fun h => ⟨h, fun x => absurd x b⟩⟩
    · exact ⟨1, 1, rfl, .inr (.inr ⟨by simp [a], rfl, rfl⟩), fun h => ⟨h, fun _ x => absurd x a⟩⟩
  obtain ⟨bL, hbL⟩ : ∃ b, decide (L' ≤ left) = b := ⟨_, rfl⟩
  have hbI : decide (L ≤ (left : Int)) = bL := by rw [← hbL, hLL]; exact decide_eq_decide.2 (by omega)
  have HL : Aside0 (bL = true → 1 ≤ left ∧ (kd = 13 → ls - 1 = 0 → 2 ≤ left)) := ⟨fun h => hL2 (by rw [h] at hbL; exact of_decide_eq_true hbL)⟩
  clear hc hj hrun e1 e2 e3 e4 e5 hw1 hs hb i0 i1 hS hz0 hz1 c0 hIH hl12 hC0 hm5 hLL hL2 hls hls2
  rcases hL1 with ⟨d1, d2, rfl, rfl⟩ | ⟨d1, d2, rfl, rfl⟩ | ⟨d1, rfl, rfl⟩
  all_goals
    go_enter Tryd.func19, Tryd.ntmps19
    go_upto_region 2 with (fail)
    rw [HEQ.out.1, HEQ.out.2.1, HEQ.out.2.2.1, HEQ.out.2.2.2.1, HEQ.out.2.2.2.2.1, HEQ.out.2.2.2.2.2]
    go_upto_region 8 with (go_at_call 30; (with_reducible refine HN.out.mono ?_); rintro e w2 ⟨rfl, hs2, hb2, hk2⟩; have HV2 := Aside0.mk (HV1.out.call hs2 hb2 hk2); clear hs2 hb2 hk2)
    have t0 : w2.cell? ⟨g2, 0, none⟩ = some (.int .u8 kd) := (blk_cell HV2.out.t 0).trans rfl
    have t1 : w2.cell? ⟨g2, 1, none⟩ = some (.int .i64 rf) := (blk_cell HV2.out.t 1).trans rfl
    have t2 : w2.cell? ⟨g2, 2, none⟩ = some (.int .i64 ls) := (blk_cell HV2.out.t 2).trans rfl
    go_upto_region 14 with (fail)
    have HBR := Aside0.mk (heap_alloc_new w2 (.cells #[.int .u8 kd, .int .i64 rf, .int .i64 (ls - 1)] 45))
    have HV5 : Aside0 (VS w0 w (w2.alloc (.cells #[.int .u8 kd, .int .i64 rf, .int .i64 (ls - 1)] 45)) g B j g1 g2 g3 g4 g5 #[.slice A0 st.length z0, .slice A1 en.length z1, .int .i64 root] #[.int .u8 kd, .int .i64 rf, .int .i64 ls] #[.string f.f0, .int .u8 f.f1.f0, .int .i64 f.f1.f1, .int .i64 f.f1.f2, .int .u64 f.f2] #[.int .u64 0, .slice none 0 0, .slice none 0 0, .bool false]) := ⟨HV2.out.below (below_alloc (Below.refl _ _) _)⟩
    have HGR := Aside0.mk HV2.out.size
    obtain ⟨ge, hge⟩ : ∃ ge, w2.heap.size = ge := ⟨_, rfl⟩
    obtain ⟨w5, hw5⟩ : ∃ w5, w2.alloc (.cells #[.int .u8 kd, .int .i64 rf, .int .i64 (ls - 1)] 45) = w5 := ⟨_, rfl⟩
    rw [hge] at HGR
    rw [hw5, hge] at HBR
    rw [hw5] at HV5
    rw [hw5, hge]
    clear hw5 hge t0 t1 t2
    go_wp2_with (fail)
    go_loopg [17] 6 (fun kq v17 wr => ∃ (k : Nat) (jk : Int) (kids : List S29) (vk : Value), v17 = .int .i64 k ∧ Aside0 (k ≤ m) ∧ Aside0 (m < kq + k) ∧ Aside0 (LOk st en root left B.length kd rf ls j jk k kids) ∧
      Aside0 (VS w0 w wr g B jk g1 g2 g3 g4 g5 #[.slice A0 st.length z0, .slice A1 en.length z1, .int .i64 root] #[.int .u8 kd, .int .i64 rf, .int .i64 ls] #[.string f.f0, .int .u8 f.f1.f0, .int .i64 f.f1.f1, .int .i64 f.f1.f2, .int .u64 f.f2] #[.int .u64 0, .slice none 0 0, vk, .bool false]) ∧ Aside0 (Rb k29 29 wr (ge + 1) vk kids) ∧ Aside0 (wr.heap[ge]? = some (.cells #[.int .u8 kd, .int .i64 rf, .int .i64 (ls - 1)] 45 (0, 0))))
    case atStart => exact ⟨0, j, [], .slice none 0 0, rfl, ⟨Nat.zero_le _⟩, ⟨by have := HM.out; omega⟩, ⟨⟨rfl, (fun _ h => by cases h), by simp [rngs], ⟨by omega, HJ.out.2.2.1⟩, by simp [Mk.wts]⟩⟩, HV5, ⟨Rb.nil _ _ _ _⟩, HBR⟩
    case round =>
      obtain ⟨k, jk, kids, vk, rfl, HK, HKQ, HO, HV, HKR, HB⟩ := hrel
      obtain ⟨n, rfl⟩ : ∃ n, gk = n + 1 := ⟨gk - 1, by have := HKQ.out; have := HK.out; omega⟩
      obtain ⟨Ak, ck, rfl, -, -⟩ := HKR.out.slice
      have k16 : k ≤ 16 := by have := HK.out; have := HM.out; omega
      obtain ⟨bb, hbb⟩ : ∃ bb, (decide (k < m) && bL && decide (jk < (B.length : Int))) = bb := ⟨_, rfl⟩
      have HBB := Aside0.mk hbb
      go_upto_region 15 with (fail)
      go_cut [82] from 62 to 97 (fun v82 wc => v82 = .bool bb ∧ Aside0 (VS w0 w wc g B jk g1 g2 g3 g4 g5 #[.slice A0 st.length z0, .slice A1 en.length z1, .int .i64 root] #[.int .u8 kd, .int .i64 rf, .int .i64 ls] #[.string f.f0, .int .u8 f.f1.f0, .int .i64 f.f1.f1, .int .i64 f.f1.f2, .int .u64 f.f2] #[.int .u64 0, .slice none 0 0, .slice Ak kids.length ck, .bool false]) ∧ Aside0 (Rb k29 29 wc (ge + 1) (.slice Ak kids.length ck) kids) ∧ Aside0 (wc.heap[ge]? = some (.cells #[.int .u8 kd, .int .i64 rf, .int .i64 (ls - 1)] 45 (0, 0))))
      case first =>
        obtain ⟨As, cs, hsb, -, -⟩ := HV.out.src
        have b0 := cellS69_0 hsb
        have b1 := cellS69_1 hsb
        clear hsb
        have HF : Aside0 (∀ W n, wr.drewN n = W → VS w0 w W g B jk g1 g2 g3 g4 g5 #[.slice A0 st.length z0, .slice A1 en.length z1, .int .i64 root] #[.int .u8 kd, .int .i64 rf, .int .i64 ls] #[.string f.f0, .int .u8 f.f1.f0, .int .i64 f.f1.f1, .int .i64 f.f1.f2, .int .u64 f.f2] #[.int .u64 0, .slice none 0 0, .slice Ak kids.length ck, .bool false] ∧ Rb k29 29 W (ge + 1) (.slice Ak kids.length ck) kids ∧ W.heap[ge]? = some (.cells #[.int .u8 kd, .int .i64 rf, .int .i64 (ls - 1)] 45 (0, 0))) := ⟨fun W n e => by
          subst e; exact ⟨HV.out.drawn rfl, HKR.out.below (Drawn0.below ⟨⟨_, rfl⟩⟩), HB.out⟩⟩
        by_cases p : k < m
        · have p1 : decide (k < m) = true := decide_eq_true p
          have p2 : decide ((k : Int) < (m : Int)) = true := decide_eq_true (by omega)
          cases bL with
          | true =>
            have pj := HBB.out
            rw [p1] at pj
            simp only [Bool.true_and] at pj
            clear p hbb
            subst pj
            by_cases q : jk < (B.length : Int)
            · have q1 : decide (jk < (B.length : Int)) = true := decide_eq_true q
              go_quiet (fail)
              go_wp2_with (fail)
              go_meet
              exact ⟨by rw [q1], ⟨(HF.out _ _ rfl).1⟩, ⟨(HF.out _ _ rfl).2.1⟩, ⟨(HF.out _ _ rfl).2.2⟩⟩
            · have q1 : decide (jk < (B.length : Int)) = false := decide_eq_false q
              go_quiet (fail)
              go_wp2_with (fail)
              go_meet
              exact ⟨by rw [q1], ⟨(HF.out _ _ rfl).1⟩, ⟨(HF.out _ _ rfl).2.1⟩, ⟨(HF.out _ _ rfl).2.2⟩⟩
          | false =>
            have pj := HBB.out
            rw [p1] at pj
            simp only [Bool.true_and, Bool.false_and] at pj
            clear p hbb
            subst pj
            go_quiet (fail)
            go_wp2_with (fail)
            go_meet
            exact ⟨rfl, ⟨(HF.out _ _ rfl).1⟩, ⟨(HF.out _ _ rfl).2.1⟩, ⟨(HF.out _ _ rfl).2.2⟩⟩
        · have p1 : decide (k < m) = false := decide_eq_false p
          have p2 : decide ((k : Int) < (m : Int)) = false := decide_eq_false (by omega)
          have pj := HBB.out
          rw [p1] at pj
          simp only [Bool.false_and] at pj
          clear p hbb
          subst pj
          go_quiet (fail)
          go_wp2_with (fail)
          go_meet
          exact ⟨rfl, ⟨(HF.out _ _ rfl).1⟩, ⟨(HF.out _ _ rfl).2.1⟩, ⟨(HF.out _ _ rfl).2.2⟩⟩
      obtain ⟨rfl, HVc, HKRc, HBc⟩ := hcut
      clear hbb HV HKR HB
      cases bb with
      | true =>
        have HGO : Aside0 (k < m ∧ bL = true ∧ jk < (B.length : Int)) := ⟨by have := HBB.out; simp only [Bool.and_eq_true, decide_eq_true_eq] at this; exact ⟨this.1.1, this.1.2, this.2⟩⟩
        have HCALL : Aside0 (∀ W, Below wc.heap.size wc W → Calls Tryd.prog 19 #[.agg #[.slice A0 st.length z0, .slice A1 en.length z1, .int .i64 root], tyV kd rf (ls - 1), .pointer (some ⟨g, 0, none⟩), .int .i64 ((left : Int) - 1), .agg #[.string ⟨#[]⟩, .int .u8 0, .int .i64 0, .int .i64 0, .int .u64 0], .bool true] W (VPost st en root B (left - 1) kd rf (ls - 1) true jk w0 W g)) := ⟨fun W hW => by
          have h6 := HVc.out.below hW
          have h7 := HL.out HGO.out.2.1
          exact HIH.out h7.1 h7.2 W jk (by have := HO.out.adv; have := HJ.out; omega) HO.out.adv.2 h6.src h6.bel h6.kp⟩
        have s0 : wc.cell? ⟨g1, 0, none⟩ = some (.slice A0 st.length z0) := (blk_cell HVc.out.s 0).trans rfl
        have s1 : wc.cell? ⟨g1, 1, none⟩ = some (.slice A1 en.length z1) := (blk_cell HVc.out.s 1).trans rfl
        have s2 : wc.cell? ⟨g1, 2, none⟩ = some (.int .i64 root) := (blk_cell HVc.out.s 2).trans rfl
        have e0 : wc.cell? ⟨ge, 0, none⟩ = some (.int .u8 kd) := (blk_cell HBc.out 0).trans rfl
        have e1 : wc.cell? ⟨ge, 1, none⟩ = some (.int .i64 rf) := (blk_cell HBc.out 1).trans rfl
        have e2 : wc.cell? ⟨ge, 2, none⟩ = some (.int .i64 (ls - 1)) := (blk_cell HBc.out 2).trans rfl
        have hl1 : (1 : Int) ≤ (left : Int) := by have := (HL.out HGO.out.2.1).1; omega
        go_upto_region 18 with (go_at_call 19; (with_reducible refine (HCALL.out _ (Below.refl _ _)).mono ?_); rintro e w7 hp; obtain ⟨v, jl, v1, v2, rfl, hr1, hr2, hs7, hb7, hk7, hok⟩ := hp; obtain ⟨A5, c5, rfl, -, -⟩ := hr1.slice; obtain ⟨A6, c6, rfl, -, -⟩ := hr2.slice; have HV7 := Aside0.mk (HVc.out.call hs7 hb7 hk7); have HKR7 := Aside0.mk (HKRc.out.keep hk7 (by have := HVc.out.ne; have := HGR.out; omega)); have HB7 := Aside0.mk (hk7.blk HBc.out (by have := HVc.out.ne; have := HGR.out; omega) (by simp)); have HR1 := Aside0.mk hr1; have HR2 := Aside0.mk hr2; have HOK := Aside0.mk hok; clear hr1 hr2 hs7 hb7 hk7 hok s0 s1 s2 e0 e1 e2)
        have HNB := Aside0.mk (heap_alloc_new w7 (.cells #[.int .u64 v.f0, .slice A5 v.f1.length c5, .slice A6 v.f2.length c6, .bool v.f3] 29))
        have hbn := below_alloc (Below.refl w7.heap.size w7) (.cells #[.int .u64 v.f0, .slice A5 v.f1.length c5, .slice A6 v.f2.length c6, .bool v.f3] 29)
        obtain ⟨gn, hgn⟩ : ∃ gn, w7.heap.size = gn := ⟨_, rfl⟩
        obtain ⟨w8, hw8⟩ : ∃ w8, w7.alloc (.cells #[.int .u64 v.f0, .slice A5 v.f1.length c5, .slice A6 v.f2.length c6, .bool v.f3] 29) = w8 := ⟨_, rfl⟩
        rw [hw8] at HNB hbn
        have HV8 := Aside0.mk (HV7.out.below hbn)
        have HKR8 := Aside0.mk (HKR7.out.below hbn)
        have HB8 := Aside0.mk ((hbn.block _ (blk_lt HB7.out)).trans HB7.out)
        have HM8 : Aside0 (k29.M w8 (ge + 1) (fun x => wc.heap.size ≤ x) v [.int .u64 v.f0, .slice A5 v.f1.length c5, .slice A6 v.f2.length c6, .bool v.f3]) := ⟨k29_mkM w8 (ge + 1) _ v
          (Kd.R_below (Kd.R_lower (Rb.from HR1.out) (blk_lt HBc.out)) hbn) (Kd.R_below (Kd.R_lower (Rb.from HR2.out) (blk_lt HBc.out)) hbn)⟩
        have HNE : Aside0 (∀ x, wc.heap.size ≤ x → True ∧ some x ≠ (Value.slice Ak kids.length ck).ownBlock) := ⟨fun x hx => ⟨trivial, fun e => by have := (HKRc.out.bas x e.symm).2; omega⟩⟩
        rw [hgn] at HNB
        rw [hw8, hgn]
        clear hbn hgn hw8
        have o2 : w8.cell? ⟨g5, 2, none⟩ = some (.slice Ak kids.length ck) := (blk_cell HV8.out.o 2).trans rfl
        have n0 : w8.cell? ⟨gn, 0, none⟩ = some (.int .u64 v.f0) := (blk_cell HNB.out 0).trans rfl
        have n1 : w8.cell? ⟨gn, 1, none⟩ = some (.slice A5 v.f1.length c5) := (blk_cell HNB.out 1).trans rfl
        have n2 : w8.cell? ⟨gn, 2, none⟩ = some (.slice A6 v.f2.length c6) := (blk_cell HNB.out 2).trans rfl
        have n3 : w8.cell? ⟨gn, 3, none⟩ = some (.bool v.f3) := (blk_cell HNB.out 3).trans rfl
        go_wp2_with ((with_reducible refine gate_builtin (b := .append) (xs := #[.tmp 93, .tmp 95]) rfl ?_); at_builtin; refine Kd.R_append k29 (w0 := w8) (W := w8) (ge + 1) rfl (.tmp 93) (.tmp 95) 27 29 (.agg #[.int .u64 0, .slice none 0 0, .slice none 0 0, .bool false]) 64 rfl Tryd.underlying27 info29 rfl (by decide) (by decide) (.slice Ak kids.length ck) kids v [.int .u64 v.f0, .slice A5 v.f1.length c5, .slice A6 v.f2.length c6, .bool v.f3] (fun _ => True) (fun x => wc.heap.size ≤ x) rfl rfl HM8.out HNE.out (fun _ _ => trivial) HKR8.out (Below.refl _ _) (blk_lt HB8.out) (by have := HO.out.len; omega) ?_)
        intro v9 w9 hr9 _ hg9 _
        obtain ⟨A9, c9, e9, -, -⟩ := Rb.slice hr9
        rw [List.length_append, List.length_singleton] at e9
        subst e9
        have HG9 : Aside0 (∀ x, (Value.slice Ak kids.length ck).ownBlock = some x → ge + 1 ≤ x) := ⟨fun x hx => (HKR8.out.bas x hx).1⟩
        have HV9 := Aside0.mk (HV8.out.grown hg9 (fun x hx => by have := HG9.out x hx; have := HGR.out; omega))
        have HR9 := Aside0.mk hr9
        have HB9 := Aside0.mk (blk_grown HB8.out hg9 (fun e => by have := HG9.out ge e.symm; omega))
        have o9 : w9.cell? ⟨g5, 2, none⟩ = some (.slice Ak kids.length ck) := (blk_cell HV9.out.o 2).trans rfl
        have f9 := blk_frozen HV9.out.o 2
        have HNE5 : Aside0 (ge ≠ g5) := ⟨by have := HGR.out; omega⟩
        clear hr9 hg9 o2 n0 n1 n2 n3
        go_wp2_with (fail)
        go_roundg n
        case measure => omega
        case rel =>
          exact ⟨k + 1, jl, kids ++ [v], .slice A9 (kids.length + 1) c9, by go_num, ⟨by have := HGO.out; omega⟩, ⟨by have := HKQ.out; omega⟩, ⟨HO.out.snoc (HL.out HGO.out.2.1).1 (HL.out HGO.out.2.1).2 HGO.out.2.2 HOK.out⟩,
            ⟨HV9.out.set 2 (.slice A9 (kids.length + 1) c9)⟩, ⟨Rb.set (p := ⟨g5, 2, none⟩) HR9.out (by show g5 < ge + 1; have := HGR.out; omega) _⟩, ⟨blk_far HB9.out (p := ⟨g5, 2, none⟩) HNE5.out _⟩⟩
      | false =>
        have o0 : wc.cell? ⟨g5, 0, none⟩ = some (.int .u64 0) := (blk_cell HVc.out.o 0).trans rfl
        have o1 : wc.cell? ⟨g5, 1, none⟩ = some (.slice none 0 0) := (blk_cell HVc.out.o 1).trans rfl
        have o2 : wc.cell? ⟨g5, 2, none⟩ = some (.slice Ak kids.length ck) := (blk_cell HVc.out.o 2).trans rfl
        have o3 : wc.cell? ⟨g5, 3, none⟩ = some (.bool false) := (blk_cell HVc.out.o 3).trans rfl
        have r0 : wc.cell? ⟨g4, 0, none⟩ = some (.int .u64 0) := (blk_cell HVc.out.r 0).trans rfl
        have r1 : wc.cell? ⟨g4, 1, none⟩ = some (.slice none 0 0) := (blk_cell HVc.out.r 1).trans rfl
        have r2 : wc.cell? ⟨g4, 2, none⟩ = some (.slice none 0 0) := (blk_cell HVc.out.r 2).trans rfl
        have r3 : wc.cell? ⟨g4, 3, none⟩ = some (.bool false) := (blk_cell HVc.out.r 3).trans rfl
        have y0 := blk_frozen HVc.out.r 0
        have y1 := blk_frozen HVc.out.r 1
        have y2 := blk_frozen HVc.out.r 2
        have y3 := blk_frozen HVc.out.r 3
        go_wp2_with (fail)
        clear o0 o1 o2 o3 r0 r1 r2 r3 y0 y1 y2 y3
        obtain ⟨wz, hwz⟩ : ∃ wz, (((wc.setCell ⟨g4, 0, none⟩ (.int .u64 0)).setCell ⟨g4, 1, none⟩ (.slice none 0 0)).setCell ⟨g4, 2, none⟩ (.slice Ak kids.length ck)).setCell ⟨g4, 3, none⟩ (.bool false) = wz := ⟨_, rfl⟩
        rw [hwz]
        obtain ⟨⟨z0', z1', z2', z3'⟩, ⟨hs, hb, hk⟩, hrows⟩ := vs_end HVc.out hwz
        refine bodyPost_ret (v := .agg #[.int .u64 0, .slice none 0 0, .slice Ak kids.length ck, .bool false]) (by simp [results, Tryd.results19, go_sem, z0', z1', z2', z3']) rfl ⟨⟨0, [], kids, false⟩, jk, _, _, rfl, Rb.nil _ _ _ _, hrows (HKRc.out.lower (by have := HGR.out; omega)), hs, hb, hk, ?_⟩
        have h1 := HJ.out
        have h2 := HO.out
        refine ⟨?_, fun _ h => absurd h (by omega), ?_, by have := h2.adv; omega, fun h => ?_, fun h => ?_⟩
        · have hf := h2.fit
          cases left with
          | zero =>
            have hn : kids = [] := by
              cases hk0 : kids with
              | nil => rfl
              | cons a t => have := (hf a (by rw [hk0]; simp)).1; omega
            unfold fitsB
            rw [if_pos h1.2.2.2.2.1, if_neg (by rw [hn]; simp)]
          | succ d =>
            unfold fitsB
            rw [if_pos h1.2.2.2.2.1, if_neg (by simp), List.all_eq_true]
            intro x hx
            have := hf x hx
            rw [Nat.add_sub_cancel] at this
            rw [this.2.1, this.2.2]; rfl
        · simp only [rng]; exact ⟨⟨by decide, by decide⟩, (fun _ h => by cases h), h2.rg⟩
        · simp only [wt]; have := h1.2.2.2.1 h; have := h2.wts; have := h2.adv; simp only [List.length_nil]; omega
        · simp only [wt]; have := h2.wts; have := h2.adv; simp only [List.length_nil]; exact ⟨by omega, fun _ => by omega⟩
end Go.Proofs.YthilhndejhnlnaaDoor.Hand
end

section
/- value, whatever the type: what it makes fits. -/
namespace Go.Proofs.YthilhndejhnlnaaDoor.Hand
open Go.RowKit Go.Proofs.YthilhndejhnlnaaDoor.QAll Go.Proofs.YthilhndejhnlnaaDoorW.PrintWords Go.Proofs.YthilhndejhnlnaaDoorW.PrintLast Go.Proofs.YthilhndejhnlnaaDoorW.PrintMore Go.Proofs.YthilhndejhnlnaaDoor.Mk
set_option linter.unusedVariables false
set_option linter.unusedSimpArgs false
/-- 0 is a number of each type. -/
theorem num_zero {st : List S50} {en : List S58} {root : Int} (hE : EnOk en) (kd rf : Int) (h1 : 1 ≤ kd) (h2 : kd ≤ 10) (hr : kd = 10 → 0 ≤ rf ∧ rf < en.length) : numB st en root kd rf 0 0 = true := by
  refine num_of st en root kd rf 0 h1 h2 true ?_
  have hsg : wire_Signed.f 0 (szB kd) = some 0 := by
    unfold wire_Signed.f
    split
    · decide +kernel
    split
    · decide +kernel
    split
    · decide +kernel
    · rfl
  have hw : (0 : Int) ≤ wrap64 (8 * szB kd) := by unfold wrap64; rcases szB_or kd with e | e | e | e | e <;> rw [e] <;> decide
  have hz : shr .u64 0 (wrap64 (8 * szB kd)) = 0 := by unfold shr; exact Int.zero_ediv _
  simp only [schema_Fits.j0]
  rw [if_neg (by decide)]
  by_cases k1 : kd = 1
  · rw [if_pos k1]; rfl
  rw [if_neg k1]
  by_cases k10 : kd = 10
  · obtain ⟨r0, r1⟩ := hr k10
    obtain ⟨l1, l2⟩ := rd_en hE rf r0 r1
    rw [if_pos k10, if_pos r0, if_pos r1, if_pos r0, wu _ l2, decide_eq_true (by omega)]
  have hsw : wire_Sign.f kd = some (decide (2 ≤ kd ∧ kd ≤ 5)) := by
    unfold wire_Sign.f
    rw [if_pos (show kd ≥ 2 by omega)]; congr 1; simp; omega
  rw [if_neg k10, hsw]
  simp only [Option.bind_some]
  by_cases hs : 2 ≤ kd ∧ kd ≤ 5
  · rw [decide_eq_true hs, if_pos rfl, hsg]; rfl
  · rw [decide_eq_false hs, if_neg (by decide)]
    by_cases e8 : szB kd = 8
    · rw [if_pos e8]
    · rw [if_neg e8, if_pos hw, hz]; rfl
theorem szB_no {kd : Int} (h1 : 1 ≤ kd) (h2 : kd ≤ 13) (h3 : kd ≠ 13) (h : ¬ 0 < szB kd) : kd = 11 ∨ kd = 12 := by
  unfold szB at h
  split at h
  · omega
  split at h
  · omega
  split at h
  · omega
  split at h <;> omega
/-- A field whose default is one of its type. -/
def FDef (st : List S50) (en : List S58) (root kd rf ls : Int) (f : S47) : Prop := (ls = 0 → 0 < szB kd → numB st en root kd rf 0 f.f2 = true) ∧ 0 ≤ f.f2 ∧ f.f2 < 18446744073709551616
theorem value_any {st : List S50} {en : List S58} {root : Int} {B : List Int} {tr : Bool} (hE : EnOk en) (hSch : SchOk en st.length tr st) (hB : BytesOk B) : ∀ (left : Nat), left ≤ 1000 → ∀ (kd rf ls : Int), TyG en st.length kd rf ls → ∀ (f : S47), FDef st en root kd rf ls f →
    ∀ (sure : Bool) (i : Int) (us : Value) (w0 w : World) (g : Nat), 0 ≤ i → i ≤ B.length → IsS69 w0 w g B i → Below w0.heap.size w0 w → IsS w0 st en root us →
    Calls Tryd.prog 19 #[us, tyV kd rf ls, .pointer (some ⟨g, 0, none⟩), .int .i64 left, fV f, .bool sure] w (VPost st en root B left kd rf ls sure i w0 w g) := by
  intro left
  induction left with
  | zero =>
    intro _ kd rf ls hty f hf sure i us w0 w g i0 i1 hs hb hS
    obtain ⟨c, j, hc, c0, c1, j0, j1, hrun, hfin⟩ := next_f hB i i0 i1
    by_cases hl : 0 < ls
    · exact value_list 0 (by decide) kd rf ls hl hty.lr.2 f sure i c j us w0 w g i0 i1 hc c0 ⟨j0, j1⟩ hrun hs hb hS (fun h => absurd h (by decide))
    obtain rfl : ls = 0 := by have := hty.lr; omega
    by_cases h13 : kd = 13
    · subst h13
      exact value_gone 0 rf f sure i c j us w0 w g i1 hc c0 ⟨j0, j1⟩ hrun (.inl rfl) hs hb hS
    by_cases hz : 0 < szB kd
    · exact value_num hE hB 0 kd rf hty hz f (hf.1 rfl hz) hf.2 sure i us w0 w g i0 i1 hs hb hS
    obtain ⟨A0, z0, A1, z1, e, -⟩ := hS
    rcases szB_no hty.kr.1 hty.kr.2 h13 hz with rfl | rfl
    · exact value_text hB 0 rf f sure i us w0 w g i0 i1 hs hb ⟨_, _, _, e⟩
    · exact value_data hB 0 rf f sure i us w0 w g i0 i1 hs hb ⟨_, _, _, e⟩
  | succ l ih =>
    intro hl12 kd rf ls hty f hf sure i us w0 w g i0 i1 hs hb hS
    obtain ⟨c, j, hc, c0, c1, j0, j1, hrun, hfin⟩ := next_f hB i i0 i1
    by_cases hl : 0 < ls
    · refine value_list (l + 1) hl12 kd rf ls hl hty.lr.2 f sure i c j us w0 w g i0 i1 hc c0 ⟨j0, j1⟩ hrun hs hb hS (fun _ _ W jk h0 h1 h2 h3 h4 => ?_)
      have e : (((l + 1 : Nat) : Int) - 1) = (l : Int) := by omega
      rw [e]
      refine ih (by omega) kd rf (ls - 1) (hty.elem hl) z47 ⟨fun _ hz => ?_, by decide, by decide⟩ true jk us w0 W g h0 h1 h2 h3 hS
      exact num_zero hE kd rf hty.kr.1 (szB_le hz) hty.enm
    obtain rfl : ls = 0 := by have := hty.lr; omega
    by_cases h13 : kd = 13
    · subst h13
      obtain ⟨r0, r1⟩ := hty.str rfl
      by_cases hgo : sure = true ∨ (sure = false ∧ Int.tmod c 3 ≠ 0 ∧ j < (B.length : Int))
      · obtain ⟨q, rfl⟩ := Int.eq_ofNat_of_zero_le r0
        exact value_there hSch l (by omega) q (by omega) f sure i c j us w0 w g i0 i1 hc c0 ⟨j0, j1⟩ hrun hgo hs hb hS (fun W jk fd hfd h0 h1 h2 h3 h4 =>
          ih (by omega) fd.f1.f0 fd.f1.f1 fd.f1.f2 hfd.ty fd ⟨fun e hz => by have := hfd.num e hz st root; exact this, hfd.rng.1, hfd.rng.2⟩ false jk us w0 W g h0 h1 h2 h3 hS)
      · refine value_gone (l + 1) rf f sure i c j us w0 w g i1 hc c0 ⟨j0, j1⟩ hrun (.inr ?_) hs hb hS
        cases sure with
        | true => exact absurd (.inl rfl) hgo
        | false =>
          by_cases h3 : Int.tmod c 3 = 0
          · exact .inl ⟨by omega, rfl, h3⟩
          · refine .inr ⟨by omega, rfl, h3, ?_⟩
            rcases Int.lt_or_le j B.length with e | e
            · exact absurd (.inr ⟨rfl, h3, e⟩) hgo
            · exact e
    by_cases hz : 0 < szB kd
    · exact value_num hE hB (l + 1) kd rf hty hz f (hf.1 rfl hz) hf.2 sure i us w0 w g i0 i1 hs hb hS
    obtain ⟨A0, z0, A1, z1, e, -⟩ := hS
    rcases szB_no hty.kr.1 hty.kr.2 h13 hz with rfl | rfl
    · exact value_text hB (l + 1) rf f sure i us w0 w g i0 i1 hs hb ⟨_, _, _, e⟩
    · exact value_data hB (l + 1) rf f sure i us w0 w g i0 i1 hs hb ⟨_, _, _, e⟩
end Go.Proofs.YthilhndejhnlnaaDoor.Hand
end

section
/- Value: a value of the root. -/
namespace Go.Proofs.YthilhndejhnlnaaDoor.Hand
open Go.RowKit Go.Proofs.YthilhndejhnlnaaDoor.QAll Go.Proofs.YthilhndejhnlnaaDoorW.PrintWords Go.Proofs.YthilhndejhnlnaaDoorW.PrintLast Go.Proofs.YthilhndejhnlnaaDoorW.PrintMore Go.Proofs.YthilhndejhnlnaaDoor.Mk
set_option linter.unusedVariables false
set_option linter.unusedSimpArgs false
/-- What Value comes to: a value that fits, in new memory. -/
def VTop (st : List S50) (en : List S58) (root : Int) (n : Nat) (w : World) (e : Ending) (w' : World) : Prop :=
  ∃ (v : S29) (j : Int) (v1 v2 : Value), e = .returned (.agg #[.int .u64 v.f0, v1, v2, .bool v.f3]) ∧ Rb (Kd.int .u8) 5 w' w.heap.size v1 v.f1 ∧ Rb k29 29 w' w.heap.size v2 v.f2 ∧ Below w.heap.size w w' ∧ VOk st en root n 12 13 root 0 true 0 j v
set_option maxHeartbeats 3200000 in
set_option maxRecDepth 100000 in
theorem vtop_any {st : List S50} {en : List S58} {root : Int} {B : List Int} {tr : Bool} (hE : EnOk en) (hSch : SchOk en st.length tr st) (hB : BytesOk B) (hr0 : 0 ≤ root) (hr1 : root < st.length) (us : Value) (A : Option Addr) (c : Nat) (w : World) (hS : IsS w st en root us) (hA : Kd.C (Kd.int .u8) w A B.length B) :
    Calls Tryd.prog 11 #[us, .slice A B.length c] w (VTop st en root B.length w) := by
  have HS := Aside0.mk hS
  obtain ⟨A0, z0, A1, z1, e0, -⟩ := hS
  subst e0
  obtain ⟨g1, e1⟩ : ∃ g1, w.heap.size = g1 := ⟨_, rfl⟩
  obtain ⟨g2, e2⟩ : ∃ g2, g1 + 1 = g2 := ⟨_, rfl⟩
  obtain ⟨w1, h1⟩ : ∃ w1, w.alloc (.cells #[.slice A0 st.length z0, .slice A1 en.length z1, .int .i64 root] 34) = w1 := ⟨_, rfl⟩
  obtain ⟨w2, h2⟩ : ∃ w2, w1.alloc (.cells #[.int .u64 0, .slice none 0 0, .slice none 0 0, .bool false] 29) = w2 := ⟨_, rfl⟩
  have s1 : w1.heap.size = g2 := by rw [← h1]; simp [e1, e2]
  have s2 : w2.heap.size = g2 + 1 := by rw [← h2]; simp [s1]
  have a1 := heap_alloc_new w (.cells #[.slice A0 st.length z0, .slice A1 en.length z1, .int .i64 root] 34)
  have a2 := heap_alloc_new w1 (.cells #[.int .u64 0, .slice none 0 0, .slice none 0 0, .bool false] 29)
  have b1 := below_alloc (Below.refl w.heap.size w) (.cells #[.slice A0 st.length z0, .slice A1 en.length z1, .int .i64 root] 34)
  have b2 := below_alloc (Below.refl w1.heap.size w1) (.cells #[.int .u64 0, .slice none 0 0, .slice none 0 0, .bool false] 29)
  rw [h1] at a1 b1
  rw [h2] at a2 b2
  have b12 := below_then b1 b1.size b2
  have x1 := (b2.block _ (blk_lt a1)).trans a1
  have hn := IsS69.new w w2 A c B 0 b12 hA
  have b3 := below_alloc b12 (.cells #[.slice A B.length c, .int .i64 0] 69)
  have b23 := below_alloc (Below.refl w2.heap.size w2) (.cells #[.slice A B.length c, .int .i64 0] 69)
  have a23 := (b23.block _ (blk_lt a2)).trans a2
  obtain ⟨w3, h3⟩ : ∃ w3, w2.alloc (.cells #[.slice A B.length c, .int .i64 0] 69) = w3 := ⟨_, rfl⟩
  rw [h3] at hn b3 a23
  rw [s2] at hn
  rw [s1] at a23
  rw [e1] at x1
  have HX := Aside0.mk x1
  have HX2 := Aside0.mk a23
  have HN := Aside0.mk hn
  have HB3 := Aside0.mk b3
  have hcall : Calls Tryd.prog 19 #[.agg #[.slice A0 st.length z0, .slice A1 en.length z1, .int .i64 root], .agg #[.int .u8 13, .int .i64 root, .int .i64 0], .pointer (some ⟨g2 + 1, 0, none⟩), .int .i64 12, .agg #[.string ⟨#[]⟩, .int .u8 0, .int .i64 0, .int .i64 0, .int .u64 0], .bool true] w3 (VPost st en root B 12 13 root 0 true 0 w w3 (g2 + 1)) := (value_any (tr := tr) hE hSch hB 12 (by decide) 13 root 0 ⟨by decide, by decide, fun h => absurd h (by decide), fun _ => ⟨hr0, hr1⟩⟩ z47 ⟨fun _ h => absurd h (by decide), by decide, by decide⟩ true 0 _ w w3 (g2 + 1) (by decide) (Int.natCast_nonneg _) hn b3 HS.out)
  have HC := Aside0.mk hcall
  have HG : Aside0 (w.heap.size = g1 ∧ g1 + 1 = g2) := ⟨e1, e2⟩
  have HEQ := Aside0.mk (And.intro e1 (And.intro e2 (And.intro h1 (And.intro h2 (And.intro s1 (And.intro s2 h3))))))
  clear e1 e2 h1 h2 h3 s1 s2 a1 a2 b1 b2 b12 b23 hn b3 a23 x1 hA hE hSch hB hr0 hr1 hcall
  go_enter Tryd.func11, Tryd.ntmps11
  go_upto_region 1 with (fail)
  rw [HEQ.out.1, HEQ.out.2.1, HEQ.out.2.2.1, HEQ.out.2.2.2.1]
  have u0 : w2.cell? ⟨g1, 0, none⟩ = some (.slice A0 st.length z0) := (blk_cell HX.out 0).trans rfl
  have u1 : w2.cell? ⟨g1, 1, none⟩ = some (.slice A1 en.length z1) := (blk_cell HX.out 1).trans rfl
  have u2 : w2.cell? ⟨g1, 2, none⟩ = some (.int .i64 root) := (blk_cell HX.out 2).trans rfl
  have hsz := HEQ.out.2.2.2.2.2.1
  go_wp2_with (go_at_call 19; rw [HEQ.out.2.2.2.2.2.2]; (with_reducible refine HC.out.mono ?_); rintro e w4 hp; obtain ⟨v, jl, v1, v2, rfl, hr1, hr2, hs4, hb4, hk4, hok⟩ := hp; obtain ⟨A5, c5, rfl, -, -⟩ := hr1.slice; obtain ⟨A6, c6, rfl, -, -⟩ := hr2.slice; have HR1 := Aside0.mk hr1; have HR2 := Aside0.mk hr2; have HB4 := Aside0.mk hb4; have HOK := Aside0.mk hok; have HX4 := Aside0.mk (hk4.blk HX2.out (by omega) (by simp)); have r0 := (blk_cell HX4.out 0).trans rfl; have r1 := (blk_cell HX4.out 1).trans rfl; have r2 := (blk_cell HX4.out 2).trans rfl; have r3 := (blk_cell HX4.out 3).trans rfl; have y0 := blk_frozen HX4.out 0; have y1 := blk_frozen HX4.out 1; have y2 := blk_frozen HX4.out 2; have y3 := blk_frozen HX4.out 3; clear hr1 hr2 hs4 hb4 hk4 hok u0 u1 u2)
  clear r0 r1 r2 r3 y0 y1 y2 y3
  obtain ⟨wz, hwz⟩ : ∃ wz, (((w4.setCell ⟨g2, 0, none⟩ (.int .u64 v.f0)).setCell ⟨g2, 1, none⟩ (.slice A5 v.f1.length c5)).setCell ⟨g2, 2, none⟩ (.slice A6 v.f2.length c6)).setCell ⟨g2, 3, none⟩ (.bool v.f3) = wz := ⟨_, rfl⟩
  rw [hwz]
  have hsz3 : g2 + 1 ≤ w3.heap.size := by rw [← HEQ.out.2.2.2.2.2.2]; simp [hsz]
  have hlow : w.heap.size ≤ g2 := by have := HG.out; omega
  obtain ⟨q1, q2, q3, q4⟩ := set4_all hwz
  have hb := q4 HX4.out
  have z0' := (blk_cell hb 0).trans rfl
  have z1' := (blk_cell hb 1).trans rfl
  have z2' := (blk_cell hb 2).trans rfl
  have z3' := (blk_cell hb 3).trans rfl
  refine bodyPost_ret (v := .agg #[.int .u64 v.f0, .slice A5 v.f1.length c5, .slice A6 v.f2.length c6, .bool v.f3]) (by simp [results, Tryd.results11, go_sem, z0', z1', z2', z3']) rfl ⟨v, jl, _, _, rfl, (q1 HR1.out hsz3).lower (by omega), (q1 HR2.out hsz3).lower (by omega), ?_, HOK.out⟩
  rw [← hwz]
  exact Below.setCell (Below.setCell (Below.setCell (Below.setCell HB4.out (p := ⟨g2, 0, none⟩) hlow _) (p := ⟨g2, 1, none⟩) hlow _) (p := ⟨g2, 2, none⟩) hlow _) (p := ⟨g2, 3, none⟩) hlow _
end Go.Proofs.YthilhndejhnlnaaDoor.Hand
end

section
/- Made: words for its walk. -/
namespace Go.Proofs.YthilhndejhnlnaaDoor.Hand
open Go.RowKit Go.Proofs.YthilhndejhnlnaaDoor.QAll Go.Proofs.YthilhndejhnlnaaDoorW.PrintWords Go.Proofs.YthilhndejhnlnaaDoorW.PrintLast Go.Proofs.YthilhndejhnlnaaDoorW.PrintMore Go.Proofs.YthilhndejhnlnaaDoor.Mk
set_option linter.unusedVariables false
set_option linter.unusedSimpArgs false
/-- A literal row of bytes, turned text. -/
theorem conv_lit (W : World) (l : List Int) (cells : Array Value) (hc : cells.toList = encs (Value.int .u8) l) (hl : l.length ≤ 1000000) (n : Nat) (hn : l.length = n) :
    (convert 22 9 (.slice (some ⟨W.heap.size, 0, none⟩) n n)).run Tryd.prog (W.alloc (.cells cells 5)) = .ok (.string (strOfNums l)) (W.alloc (.cells cells 5)) := by
  subst hn
  refine Kd.C_string (P := Tryd.prog) (c := l.length) Tryd.underlying22 Tryd.underlying5 Tryd.underlying9 ?_
  refine Kd.C_of_reads (enc := Value.int .u8) (d := (0 : Int)) (h1 := fun _ => rfl) ⟨rfl, by omega, fun _ => ⟨_, rfl, fun j hj => ?_⟩⟩
  have e : (⟨W.heap.size, 0, none⟩ : Addr).add j = ⟨W.heap.size, j, none⟩ := by unfold Addr.add; split <;> simp_all
  rw [e]
  refine (blk_cell (w := W.alloc (.cells cells 5)) (heap_alloc_new W (.cells cells 5)) j).trans ?_
  rw [← Array.getElem?_toList, hc]
  exact encs_get _ _ hj
/-- The fixed blocks of Made's walk. -/
structure MS (w W : World) (gp gr go : Nat) (ps os : Array Value) : Prop where
  bel : Below w.heap.size w W
  ne : w.heap.size = gp ∧ gp + 1 = gr ∧ gr + 1 = go
  p : W.heap[gp]? = some (.cells ps 25 (0, 0))
  r : W.heap[gr]? = some (.cells #[.slice none 0 0, .slice none 0 0, .int .i64 0] 34 (0, 0))
  o : W.heap[go]? = some (.cells os 34 (0, 0))
namespace MS
variable {w W W' : World} {gp gr go : Nat} {ps os : Array Value}
theorem below (h : MS w W gp gr go ps os) (hb : Below W.heap.size W W') : MS w W' gp gr go ps os :=
  ⟨below_then h.bel h.bel.size hb, h.ne, (hb.block _ (blk_lt h.p)).trans h.p, (hb.block _ (blk_lt h.r)).trans h.r, (hb.block _ (blk_lt h.o)).trans h.o⟩
theorem grown (h : MS w W gp gr go ps os) {row : Option Nat} (hg : W.grownBy W' row) (hr : ∀ k, row = some k → go + 1 ≤ k) : MS w W' gp gr go ps os :=
  have n := h.ne
  have ne : ∀ k, k ≤ go → some k ≠ row := fun k hk e => by have := hr k e.symm; omega
  ⟨h.bel.grown hg h.bel.size (fun k e => by have := hr k e; omega), n, blk_grown h.p hg (ne _ (by omega)), blk_grown h.r hg (ne _ (by omega)), blk_grown h.o hg (ne _ (by omega))⟩
theorem set (h : MS w W gp gr go ps os) (q : Nat) (u : Value) : MS w (W.setCell ⟨go, q, none⟩ u) gp gr go ps (os.setIfInBounds q u) :=
  have n := h.ne
  ⟨Below.setCell h.bel (p := ⟨go, q, none⟩) (by show w.heap.size ≤ go; omega) u, n, blk_far h.p (p := ⟨go, q, none⟩) (by show gp ≠ go; omega) u, blk_far h.r (p := ⟨go, q, none⟩) (by show gr ≠ go; omega) u, blk_set h.o q u⟩
end MS
/-- Field i of a struct bears the i-th label. -/
def NmOk (fs : List S47) : Prop := ∀ (i : Nat) (f : S47), fs[i]? = some f → ∃ n : Int, 0 ≤ n ∧ n < 256 ∧ transomhand05_label.f n i = some f.f0
theorem NmOk.snoc {fs : List S47} {f : S47} (h : NmOk fs) {n : Int} (h0 : 0 ≤ n) (h1 : n < 256) (hl : transomhand05_label.f n fs.length = some f.f0) : NmOk (fs ++ [f]) := by
  intro i g hg
  rcases Nat.lt_or_ge i fs.length with e | e
  · rw [List.getElem?_append_left e] at hg; exact h i g hg
  · rw [List.getElem?_append_right e] at hg
    have hi : i - fs.length = 0 := by
      rcases Nat.eq_zero_or_pos (i - fs.length) with z | z
      · exact z
      · rw [List.getElem?_eq_none (by simp; omega)] at hg; cases hg
    rw [hi] at hg; simp at hg; subst hg
    obtain rfl : i = fs.length := by omega
    exact ⟨n, h0, h1, hl⟩
theorem schOk_snoc {en : List S58} {n : Nat} {tr : Bool} {st : List S50} {nm : ByteArray} {fs : List S47} (h : SchOk en n tr st) (h1 : 1 ≤ fs.length) (h2 : fs.length ≤ 16) (hf : ∀ f ∈ fs, FOk en n tr st.length f) : SchOk en n tr (st ++ [⟨nm, fs⟩]) :=
  ⟨fun j r hj => by
    rcases Nat.lt_or_ge j st.length with e | e
    · rw [List.getElem?_append_left e] at hj; exact h.fs j r hj
    · rw [List.getElem?_append_right e] at hj
      have h0 : j - st.length = 0 := by
        rcases Nat.eq_zero_or_pos (j - st.length) with z | z
        · exact z
        · rw [List.getElem?_eq_none (by simp; omega)] at hj; cases hj
      rw [h0] at hj; simp at hj; subst hj
      obtain rfl : j = st.length := by omega
      exact ⟨h1, h2, hf⟩⟩
/-- A type in the making, at block gt, behind world wq. -/
structure TSt (wq W : World) (gt : Nat) (kd rf ls : Int) : Prop where
  bel : Below wq.heap.size wq W
  ge : wq.heap.size ≤ gt
  t : W.heap[gt]? = some (.cells #[.int .u8 kd, .int .i64 rf, .int .i64 ls] 45 (0, 0))
namespace TSt
variable {wq W W' : World} {gt : Nat} {kd rf ls : Int}
theorem c0 (h : TSt wq W gt kd rf ls) : W.cell? ⟨gt, 0, none⟩ = some (.int .u8 kd) := (blk_cell h.t 0).trans rfl
theorem c1 (h : TSt wq W gt kd rf ls) : W.cell? ⟨gt, 1, none⟩ = some (.int .i64 rf) := (blk_cell h.t 1).trans rfl
theorem c2 (h : TSt wq W gt kd rf ls) : W.cell? ⟨gt, 2, none⟩ = some (.int .i64 ls) := (blk_cell h.t 2).trans rfl
theorem set0 (h : TSt wq W gt kd rf ls) (x : Int) : TSt wq (W.setCell ⟨gt, 0, none⟩ (.int .u8 x)) gt x rf ls := ⟨Below.setCell h.bel (p := ⟨gt, 0, none⟩) h.ge _, h.ge, by simpa using blk_set h.t 0 (.int .u8 x)⟩
theorem set1 (h : TSt wq W gt kd rf ls) (x : Int) : TSt wq (W.setCell ⟨gt, 1, none⟩ (.int .i64 x)) gt kd x ls := ⟨Below.setCell h.bel (p := ⟨gt, 1, none⟩) h.ge _, h.ge, by simpa using blk_set h.t 1 (.int .i64 x)⟩
theorem drew (h : TSt wq W gt kd rf ls) : TSt wq W.drew gt kd rf ls := ⟨below_drew h.bel, h.ge, h.t⟩
theorem below (h : TSt wq W gt kd rf ls) (hb : Below W.heap.size W W') : TSt wq W' gt kd rf ls := ⟨below_then h.bel h.bel.size hb, h.ge, (hb.block _ (blk_lt h.t)).trans h.t⟩
end TSt
/-- Five cells of a new block were written. -/
theorem set5_all {W W' : World} {n : Nat} {x0 x1 x2 x3 x4 : Value} (hW : ((((W.setCell ⟨n, 0, none⟩ x0).setCell ⟨n, 1, none⟩ x1).setCell ⟨n, 2, none⟩ x2).setCell ⟨n, 3, none⟩ x3).setCell ⟨n, 4, none⟩ x4 = W') :
    (∀ {wq : World}, Below wq.heap.size wq W → wq.heap.size ≤ n → Below wq.heap.size wq W') ∧ (∀ {m : Nat} {cs : Array Value} {t : TypeId}, m ≠ n → W.heap[m]? = some (.cells cs t (0, 0)) → W'.heap[m]? = some (.cells cs t (0, 0))) ∧
    (∀ {a b c d e : Value} {t : TypeId}, W.heap[n]? = some (.cells #[a, b, c, d, e] t (0, 0)) → W'.heap[n]? = some (.cells #[x0, x1, x2, x3, x4] t (0, 0))) := by
  subst hW
  refine ⟨fun h hn => ?_, fun hm h => ?_, fun h => ?_⟩
  · exact Below.setCell (Below.setCell (Below.setCell (Below.setCell (Below.setCell h (p := ⟨n, 0, none⟩) hn x0) (p := ⟨n, 1, none⟩) hn x1) (p := ⟨n, 2, none⟩) hn x2) (p := ⟨n, 3, none⟩) hn x3) (p := ⟨n, 4, none⟩) hn x4
  · exact blk_far (p := ⟨n, 4, none⟩) (blk_far (p := ⟨n, 3, none⟩) (blk_far (p := ⟨n, 2, none⟩) (blk_far (p := ⟨n, 1, none⟩) (blk_far (p := ⟨n, 0, none⟩) h hm x0) hm x1) hm x2) hm x3) hm x4
  · exact blk_set (blk_set (blk_set (blk_set (blk_set h 0 x0) 1 x1) 2 x2) 3 x3) 4 x4
theorem set5_cell {W : World} {n : Nat} {a : Addr} {v x0 x1 x2 x3 x4 : Value} (hc : W.cell? a = some v) (hne : a.block ≠ n) :
    (((((W.setCell ⟨n, 0, none⟩ x0).setCell ⟨n, 1, none⟩ x1).setCell ⟨n, 2, none⟩ x2).setCell ⟨n, 3, none⟩ x3).setCell ⟨n, 4, none⟩ x4).cell? a = some v := by
  rw [cell_far (p := ⟨n, 4, none⟩) hne, cell_far (p := ⟨n, 3, none⟩) hne, cell_far (p := ⟨n, 2, none⟩) hne, cell_far (p := ⟨n, 1, none⟩) hne, cell_far (p := ⟨n, 0, none⟩) hne, hc]
/-- What Made comes to. -/
def MPost (n : Nat) (tr : Bool) (w : World) (e : Ending) (w' : World) : Prop :=
  ∃ (st : List S50) (en : List S58) (root : Int) (ok : Bool) (v0 v1 : Value), e = .returned (.tuple #[.agg #[v0, v1, .int .i64 root], .bool ok]) ∧ Rb k50 50 w' w.heap.size v0 st ∧ Rb k58 58 w' w.heap.size v1 en ∧ Below w.heap.size w w' ∧
    MadeR n tr (st, en, root, ok) ∧ (ok = true → ∀ r ∈ st, NmOk r.f1)
end Go.Proofs.YthilhndejhnlnaaDoor.Hand
end

section
/- Made: its walk, where the plan is none. -/
namespace Go.Proofs.YthilhndejhnlnaaDoor.Hand
open Go.RowKit Go.Proofs.YthilhndejhnlnaaDoor.QAll Go.Proofs.YthilhndejhnlnaaDoorW.PrintWords Go.Proofs.YthilhndejhnlnaaDoorW.PrintLast Go.Proofs.YthilhndejhnlnaaDoorW.PrintMore Go.Proofs.YthilhndejhnlnaaDoor.Mk
set_option linter.unusedVariables false
set_option linter.unusedSimpArgs false
theorem at_byte {k : IntKind} {w : World} {A : Option Addr} {n : Nat} {xs : List Int} (h : Kd.C (Kd.int k) w A n xs) (i : Nat) (hi : i < n) : ∃ ad, A = some ad ∧ w.cell? (ad.add i) = some (.int k (rd xs i)) := by
  obtain ⟨ad, c, e, -, hK, hc⟩ := Kd.C_get h 0 (i : Int) (Int.natCast_nonneg _) (by omega)
  refine ⟨ad, e, ?_⟩
  have h2 : c = [.int k (xs.getD ((i : Int)).toNat 0)] := hK
  have h3 := hc 0 (.int k (xs.getD ((i : Int)).toNat 0)) (by rw [h2]; rfl)
  rw [show ((i : Int)).toNat * (Kd.int k).sz + 0 = i from by show i * 1 + 0 = i; omega] at h3
  exact h3
theorem made_bad {n : Nat} {tr : Bool} : MadeR n tr (([] : List S50), ([] : List S58), 0, false) := fun h => by cases h
/-- The blocks at the begin: the plan's, the result's. -/
theorem two_new (w : World) (ps : Array Value) {g1 g2 : Nat} (e1 : w.heap.size = g1) (e2 : g1 + 1 = g2) {W : World} (hW : (w.alloc (.cells ps 25)).alloc (.cells #[.slice none 0 0, .slice none 0 0, .int .i64 0] 34) = W) :
    Below w.heap.size w W ∧ W.heap[g1]? = some (.cells ps 25 (0, 0)) ∧ W.heap[g2]? = some (.cells #[.slice none 0 0, .slice none 0 0, .int .i64 0] 34 (0, 0)) ∧ W.heap.size = g2 + 1 := by
  subst e1 e2 hW
  obtain ⟨w1, h1⟩ : ∃ w1, w.alloc (.cells ps 25) = w1 := ⟨_, rfl⟩
  have s1 : w1.heap.size = w.heap.size + 1 := by rw [← h1]; simp
  have a1 := heap_alloc_new w (.cells ps 25)
  have a2 := heap_alloc_new w1 (.cells #[.slice none 0 0, .slice none 0 0, .int .i64 0] 34)
  have b1 := below_alloc (Below.refl w.heap.size w) (.cells ps 25)
  have b2 := below_alloc (Below.refl w1.heap.size w1) (.cells #[.slice none 0 0, .slice none 0 0, .int .i64 0] 34)
  rw [h1] at a1 b1 ⊢
  rw [s1] at a2
  exact ⟨below_then b1 b1.size b2, (b2.block _ (by omega)).trans a1, a2, by simp [s1]⟩
set_option maxHeartbeats 6400000 in
set_option maxRecDepth 100000 in
theorem made_no (E : List Int) (S : List (List S61)) (Rt : Int) (tr : Bool) (A0 : Option Addr) (c0 : Nat) (A1 : Option Addr) (c1 : Nat) (w : World) (hno : S.length < 1 ∨ 16 < S.length ∨ 8 < E.length) :
    Calls Tryd.prog 6 #[.agg #[.slice A0 E.length c0, .slice A1 S.length c1, .int .u8 Rt, .bool tr]] w (MPost S.length tr w) := by
  obtain ⟨g1, e1⟩ : ∃ g1, w.heap.size = g1 := ⟨_, rfl⟩
  obtain ⟨g2, e2⟩ : ∃ g2, g1 + 1 = g2 := ⟨_, rfl⟩
  obtain ⟨w1, hw1⟩ : ∃ w1, (w.alloc (.cells #[.slice A0 E.length c0, .slice A1 S.length c1, .int .u8 Rt, .bool tr] 25)).alloc (.cells #[.slice none 0 0, .slice none 0 0, .int .i64 0] 34) = w1 := ⟨_, rfl⟩
  have H := Aside0.mk (two_new w _ e1 e2 hw1)
  have HEQ := Aside0.mk (And.intro e1 (And.intro e2 hw1))
  have ways : (decide (S.length < 1) = true ∧ decide ((S.length : Int) < 1) = true) ∨
      ((decide (S.length < 1) = false ∧ decide ((S.length : Int) < 1) = false) ∧ decide (16 < S.length) = true ∧ decide ((16 : Int) < (S.length : Int)) = true) ∨
      ((decide (S.length < 1) = false ∧ decide ((S.length : Int) < 1) = false) ∧ (decide (16 < S.length) = false ∧ decide ((16 : Int) < (S.length : Int)) = false) ∧ decide (8 < E.length) = true ∧ decide ((8 : Int) < (E.length : Int)) = true) := by
    by_cases h1 : S.length < 1
    · exact .inl ⟨decide_eq_true h1, decide_eq_true (by omega)⟩
    · by_cases h2 : 16 < S.length
      · exact .inr (.inl ⟨⟨decide_eq_false h1, decide_eq_false (by omega)⟩, decide_eq_true h2, decide_eq_true (by omega)⟩)
      · exact .inr (.inr ⟨⟨decide_eq_false h1, decide_eq_false (by omega)⟩, ⟨decide_eq_false h2, decide_eq_false (by omega)⟩, decide_eq_true (by omega), decide_eq_true (by omega)⟩)
  clear e1 e2 hw1 hno
  rcases ways with ⟨p1, p2⟩ | ⟨⟨p1, p2⟩, p3, p4⟩ | ⟨⟨p1, p2⟩, ⟨p3, p4⟩, p5, p6⟩
  all_goals
    go_enter Tryd.func6, Tryd.ntmps6
    go_upto_region 1 with (fail)
    rw [HEQ.out.1, HEQ.out.2.1, HEQ.out.2.2]
    have c0 : w1.cell? ⟨g1, 0, none⟩ = some (.slice A0 E.length c0) := (blk_cell H.out.2.1 0).trans rfl
    have c1 : w1.cell? ⟨g1, 1, none⟩ = some (.slice A1 S.length c1) := (blk_cell H.out.2.1 1).trans rfl
    have r0 := (blk_cell H.out.2.2.1 0).trans rfl
    have r1 := (blk_cell H.out.2.2.1 1).trans rfl
    have r2 := (blk_cell H.out.2.2.1 2).trans rfl
    have y0 := blk_frozen H.out.2.2.1 0
    have y1 := blk_frozen H.out.2.2.1 1
    have y2 := blk_frozen H.out.2.2.1 2
    go_wp2_with (fail)
    clear c0 c1 r0 r1 r2 y0 y1 y2
    have hb := blk_set (blk_set (blk_set H.out.2.2.1 0 (.slice none 0 0)) 1 (.slice none 0 0)) 2 (.int .i64 0)
    have z0 := (blk_cell hb 0).trans rfl
    have z1 := (blk_cell hb 1).trans rfl
    have z2 := (blk_cell hb 2).trans rfl
    have hlow : w.heap.size ≤ g2 := by have := HEQ.out; omega
    refine bodyPost_ret (v := .tuple #[.agg #[.slice none 0 0, .slice none 0 0, .int .i64 0], .bool false]) (by simp [results, Tryd.results6, go_sem, z0, z1, z2]) rfl ⟨[], [], 0, false, _, _, rfl, Rb.nil _ _ _ _, Rb.nil _ _ _ _, ?_, made_bad, fun h => by cases h⟩
    exact Below.setCell (Below.setCell (Below.setCell H.out.1 (p := ⟨g2, 0, none⟩) hlow _) (p := ⟨g2, 1, none⟩) hlow _) (p := ⟨g2, 2, none⟩) hlow _
end Go.Proofs.YthilhndejhnlnaaDoor.Hand
end
