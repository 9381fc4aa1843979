/- Texts joined: W7. -/
import Derived.Test.YthilhndejhnlnaaDoorZU36
section
/- turn: a part of a value, turned about, however deep. -/
namespace Go.Proofs.YthilhndejhnlnaaDoor.Hand
open Go.RowKit Go.Proofs.YthilhndejhnlnaaDoor.QAll Go.Proofs.YthilhndejhnlnaaDoorW.PrintWords Go.Proofs.YthilhndejhnlnaaDoorW.PrintLast Go.Proofs.YthilhndejhnlnaaDoorW.PrintMore Go.Proofs.YthilhndejhnlnaaDoor.Runes Go.Proofs.YthilhndejhnlnaaDoor.Mk
set_option linter.unusedVariables false
set_option linter.unusedSimpArgs false
theorem wts_set (xs : List S29) (i : Nat) (h : i < xs.length) (X : S29) : wts (xs.set i X) + wt xs[i] = wts xs + wt X := by
  induction xs generalizing i with
  | nil => simp at h
  | cons a t ih =>
    cases i with
    | zero => simp only [List.set_cons_zero, wts, List.getElem_cons_zero]; omega
    | succ i => simp only [List.set_cons_succ, wts, List.getElem_cons_succ]; have := ih i (by simpa using h); omega
theorem elem_sets {W : World} {a : Addr} {gk o : Nat} (ha : a = ⟨gk, o, none⟩) {x0 x1 x2 y1 y2 y3 : Value} (h1 : W.cell? ⟨a.block, a.off + 1, none⟩ = some y1) (h2 : W.cell? ⟨a.block, a.off + 2, none⟩ = some y2) (h3 : W.cell? ⟨a.block, a.off + 3, none⟩ = some y3)
    (z1 : W.frozen? ⟨a.block, a.off + 1, none⟩ = false) (z2 : W.frozen? ⟨a.block, a.off + 2, none⟩ = false) (z3 : W.frozen? ⟨a.block, a.off + 3, none⟩ = false) :
    ((W.setCell a x0).cell? ⟨a.block, a.off + 1, none⟩ = some y1 ∧ (W.setCell a x0).frozen? ⟨a.block, a.off + 1, none⟩ = false) ∧
    (((W.setCell a x0).setCell ⟨a.block, a.off + 1, none⟩ x1).cell? ⟨a.block, a.off + 2, none⟩ = some y2 ∧ ((W.setCell a x0).setCell ⟨a.block, a.off + 1, none⟩ x1).frozen? ⟨a.block, a.off + 2, none⟩ = false) ∧
    ((((W.setCell a x0).setCell ⟨a.block, a.off + 1, none⟩ x1).setCell ⟨a.block, a.off + 2, none⟩ x2).cell? ⟨a.block, a.off + 3, none⟩ = some y3 ∧ (((W.setCell a x0).setCell ⟨a.block, a.off + 1, none⟩ x1).setCell ⟨a.block, a.off + 2, none⟩ x2).frozen? ⟨a.block, a.off + 3, none⟩ = false) := by
  subst ha
  exact ⟨⟨(World.cell?_setCells_out gk [x0] o W ⟨gk, o + 1, none⟩ (fun _ _ => by simp)).trans h1, (World.frozen?_setCells gk [x0] o W ⟨gk, o + 1, none⟩).trans z1⟩,
    ⟨(World.cell?_setCells_out gk [x0, x1] o W ⟨gk, o + 2, none⟩ (fun _ _ => by simp)).trans h2, (World.frozen?_setCells gk [x0, x1] o W ⟨gk, o + 2, none⟩).trans z2⟩,
    ⟨(World.cell?_setCells_out gk [x0, x1, x2] o W ⟨gk, o + 3, none⟩ (fun _ _ => by simp)).trans h3, (World.frozen?_setCells gk [x0, x1, x2] o W ⟨gk, o + 3, none⟩).trans z3⟩⟩
set_option maxHeartbeats 6400000 in
set_option maxRecDepth 100000 in
theorem turn_deep (what n deep : Int) (hn : 0 ≤ n ∧ n < 18446744073709551616) (hd : 0 < deep ∧ deep ≤ 1000) (b : Int) (t : List Int) (hb : 0 ≤ b ∧ b < 256) (v : S29) (u : Value) (A : Option Addr) (c : Nat) (w : World) (okv : Nat → Prop) (hr : rng v) (hw : wt v ≤ 90000) (hv : FV w okv v u)
    (hA : Kd.C (Kd.int .u8) w A (b :: t).length (b :: t)) (hc : (b :: t).length ≤ c) (hk : 0 < v.f2.length)
    (hcall : ∀ (W : World) (okx : Nat → Prop) (x : S29) (ux : Value) (A' : Option Addr) (c' : Nat), x ∈ v.f2 → Below w.heap.size w W → FV W okx x ux → Kd.C (Kd.int .u8) W A' t.length t → t.length ≤ c' →
      Calls Tryd.prog 10 #[ux, .slice A' t.length c', .int .u8 what, .int .u64 n, .int .i64 (deep - 1)] W (TPost okx x W)) :
    Calls Tryd.prog 10 #[u, .slice A (b :: t).length c, .int .u8 what, .int .u64 n, .int .i64 deep] w (TPost okv v w) := by
  obtain ⟨A2, c2, A3, c3, rfl, hV1, hV2, hV3, hV4⟩ := hv
  obtain ⟨w1, gv, gr, hw1, hgv, hgr, hsz, a1, a2, hbb⟩ := turn_new w #[.int .u64 v.f0, .slice A2 v.f1.length c2, .slice A3 v.f2.length c3, .bool v.f3] #[.int .u64 0, .slice none 0 0, .slice none 0 0, .bool false]
  have HEQ := Aside0.mk (And.intro hw1 (And.intro hgv hgr))
  have HG := Aside0.mk a1
  have HR := Aside0.mk a2
  have HB1 := Aside0.mk hbb
  have HV1 := Aside0.mk (And.intro hV1 hV2)
  have HV3 := Aside0.mk (And.intro hV3 hV4)
  have HLO : Aside0 (w.heap.size ≤ gv ∧ w.heap.size ≤ gr ∧ gr ≠ gv) := ⟨by omega⟩
  have HSZ : Aside0 (gr + 1 = w1.heap.size) := ⟨hsz⟩
  have HRG := Aside0.mk (rng_is v hr)
  have HWT := Aside0.mk hw
  have HCALL := Aside0.mk hcall
  have HLV : Aside0 (v.f1.length ≤ 90000 ∧ v.f2.length ≤ 90000) := ⟨by have := wtd_is v; have := wtds_len v.f2; have := HWT.out; omega⟩
  -- the way's first byte, and its rest
  obtain ⟨A', c', t1, t2, t3⟩ := cut_drop A c (b :: t) 1 t rfl (by simp) hc
  have HT2 := Aside0.mk t2
  have HT3 := Aside0.mk t3
  have HA := Aside0.mk hA
  obtain ⟨aw, cw, rfl, -, hKw, hcw⟩ := Kd.C_get hA (0 : Int) 0 (by omega) (by simp)
  have hcw0 : w.cell? aw = some (.int .u8 b) := by
    have hk0 : cw = [.int .u8 b] := hKw
    subst hk0
    have := hcw 0 _ rfl
    have e0 : aw.add 0 = aw := by
      unfold Addr.add; split
      · rename_i h; cases aw; simp_all
      · cases aw; simp_all
    rw [show (0 : Int).toNat * (Kd.int IntKind.u8).sz + 0 = 0 from rfl, e0] at this
    exact this
  obtain ⟨L, hL⟩ : ∃ L, (b :: t).length = L := ⟨_, rfl⟩
  have hL0 : 0 < L := by rw [← hL]; simp
  rw [hL] at t1 ⊢
  have t1' : ∀ W : World, (Instr.slice 22 (.slice (some aw) L c) (some (.int .i64 1)) none none).run Tryd.prog W = .ok (.slice A' t.length c') W := t1
  obtain ⟨i, hi⟩ : ∃ i : Nat, Int.tmod b (v.f2.length : Int) = i ∧ i < v.f2.length := by
    have e : Int.tmod b (v.f2.length : Int) = b % (v.f2.length : Int) := Int.tmod_eq_emod_of_nonneg hb.1
    have h0 := Int.emod_nonneg b (b := (v.f2.length : Int)) (by omega)
    have h1 := Int.emod_lt_of_pos b (b := (v.f2.length : Int)) (by omega)
    exact ⟨(b % (v.f2.length : Int)).toNat, by rw [e]; omega, by omega⟩
  obtain ⟨hmod, hi⟩ := hi
  have HI := Aside0.mk hi
  have f1 : decide ((0 : Int) < (L : Int)) = true := decide_eq_true (by omega)
  have f2 : decide (0 < L) = true := decide_eq_true hL0
  have f3 : decide ((0 : Int) < (v.f2.length : Int)) = true := decide_eq_true (by omega)
  have f4 : decide (0 < v.f2.length) = true := decide_eq_true hk
  have f5 : decide (0 < deep) = true := decide_eq_true hd.1
  have wd : IntKind.i64.wrap (deep - 1) = deep - 1 := by rw [IntKind.wrap_i64]; omega
  have n0 : ((v.f2.length : Int) == 0) = false := by rw [beq_eq_false_iff_ne]; omega
  have hwb : IntKind.i64.wrap b = b := by rw [IntKind.wrap_i64]; omega
  have n1 : ¬ v.f2 = [] := by intro e; rw [e] at hk; simp at hk
  have hmod2 : b % (v.f2.length : Int) = i := by rw [← hmod]; exact (Int.tmod_eq_emod_of_nonneg hb.1).symm
  have hmod3 : IntKind.i64.wrap (Int.tmod b (v.f2.length : Int)) = i := by rw [hmod, IntKind.wrap_i64]; have := HLV.out.2; omega
  have i0 : (0 : Int) ≤ (i : Int) := Int.natCast_nonneg _
  have i1 : (i : Int) < (v.f2.length : Int) := by omega
  have i2 : decide (i < v.f2.length) = true := decide_eq_true hi
  have i3 : decide ((i : Int) < (v.f2.length : Int)) = true := decide_eq_true i1
  have b0 := hb.1
  have b1 := hb.2
  replace hcw0 := pw_cell_below hbb hcw0
  clear hw1 hgv hgr a1 a2 hbb hV1 hV2 hV3 hV4 hsz hr hw hcall t1 t2 t3 hA hc hcw hKw hL hb hd hn
  go_enter Tryd.func10, Tryd.ntmps10
  go_upto_region 1 with (fail)
  rw [HEQ.out.1, HEQ.out.2.1, HEQ.out.2.2]
  have v2 : w1.cell? ⟨gv, 2, none⟩ = some (.slice A3 v.f2.length c3) := (blk_cell HG.out 2).trans rfl
  go_upto_region 2 with (fail)
  go_region_held3 (fun W => W.cell? ⟨gv, 2, none⟩ = some (.slice A3 v.f2.length c3) ∧ W.cell? aw = some (.int .u8 b)) (go_keep) (fail)
  clear v2 hcw0 f1 f2 f3 f4 f5 n0 n1 hmod hmod2 hmod3
  obtain ⟨wd1, hwd1⟩ : ∃ wd1, w1.drew = wd1 := ⟨_, rfl⟩
  have bd : Below w1.heap.size w1 wd1 := by rw [← hwd1]; exact below_drew (Below.refl _ _)
  have HSD : Aside0 (gr + 1 = wd1.heap.size) := ⟨by rw [← hwd1]; exact HSZ.out⟩
  have HGd := Aside0.mk ((bd.block _ (blk_lt HG.out)).trans HG.out)
  have HRd := Aside0.mk ((bd.block _ (blk_lt HR.out)).trans HR.out)
  have HBd := Aside0.mk (below_then HB1.out HB1.out.size bd)
  rw [hwd1]
  clear hwd1 bd
  have hbw := below_alloc (Below.refl wd1.heap.size wd1) (.cells #[] 29)
  have HN0 : Aside0 (Kd.N k29 29 (wd1.alloc (.cells #[] 29)) wd1.heap.size (fun k => (okv k ∨ w.heap.size ≤ k) ∧ k ≠ gr ∧ k ≠ gv) (.slice (some ⟨wd1.heap.size, 0, none⟩) 0 0) []) := ⟨by
    have hlo := HLO.out
    have hsz := HSD.out
    have hsz0 : gv < gr := by have := HEQ.out.2.2; omega
    exact Kd.R_N ⟨fun k hk => by simp [Value.ownBlock] at hk; subst hk; exact ⟨.inr (by omega), by omega, by omega⟩, [], World.ownsRow_made wd1 #[] 0 (Nat.le_refl _) (Nat.zero_le _) rfl, rfl, fun j p hj => by simp at hj⟩⟩
  have ga := (hbw.block _ (blk_lt HGd.out)).trans HGd.out
  have v2 : wd1.cell? ⟨gv, 2, none⟩ = some (.slice A3 v.f2.length c3) := (blk_cell HGd.out 2).trans rfl
  have u1 : (wd1.alloc (.cells #[] 29)).cell? ⟨gv, 2, none⟩ = some (.slice A3 v.f2.length c3) := (blk_cell ga 2).trans rfl
  have HBW := Aside0.mk hbw
  have HFV : Aside0 (Kd.F k29 (wd1.alloc (.cells #[] 29)) (fun k => ((okv k ∨ w.heap.size ≤ k) ∧ k ≠ gr ∧ k ≠ gv) ∧ some k ≠ (Value.slice (some ⟨wd1.heap.size, 0, none⟩) 0 0).ownBlock) A3 v.f2.length v.f2) := ⟨by
    have hlo := HLO.out
    have hsz := HSD.out
    have e := HEQ.out
    exact Kd.F_mono (Kd.F_below (Kd.F_bound HV3.out.1) (below_then HBd.out HBd.out.size hbw)) (fun k hk => by have hk2 := hk.2; exact ⟨⟨.inl hk.1, by omega, by omega⟩, by simp [Value.ownBlock]; omega⟩)⟩
  have HFR : Aside0 (∀ k, (wd1.alloc (.cells #[] 29)).heap.size ≤ k → (okv k ∨ w.heap.size ≤ k) ∧ k ≠ gr ∧ k ≠ gv) := ⟨fun k hk => by
    have hlo := HLO.out
    have hsz := HSD.out
    have e := HEQ.out.2.2
    have := hbw.size
    exact ⟨.inr (by omega), by omega, by omega⟩⟩
  clear hbw ga
  go_upto_region 4 with ((with_reducible refine gate_builtin (b := .append) (xs := #[.tmp 33, .tmp 35]) rfl ?_); at_builtin; refine Kd.N_append_rows k29 (w0 := wd1) (W := wd1.alloc (.cells #[] 29)) wd1.heap.size rfl (.tmp 33) (.tmp 35) 27 29 (.agg #[.int .u64 0, .slice none 0 0, .slice none 0 0, .bool false]) 64 rfl Tryd.underlying27 info29 rfl (by decide) (by decide) (.slice (some ⟨wd1.heap.size, 0, none⟩) 0 0) [] v.f2 A3 v.f2.length c3 (fun k => (okv k ∨ w.heap.size ≤ k) ∧ k ≠ gr ∧ k ≠ gv) (fun k => ((okv k ∨ w.heap.size ≤ k) ∧ k ≠ gr ∧ k ≠ gv) ∧ some k ≠ (Value.slice (some ⟨wd1.heap.size, 0, none⟩) 0 0).ownBlock) rfl rfl HN0.out HFV.out (fun k hk => hk) HFR.out HBW.out HBW.out.size (by have := HLV.out.2; simp only [List.length_nil]; omega) ?_; intro va wa hra hba hga hata; rw [List.nil_append] at hra; obtain ⟨Aa, ca, rfl⟩ := Kd.N_slice hra; have HRA := Aside0.mk hra; have HBA := Aside0.mk hba; have gb := (hba.block _ (blk_lt HGd.out)).trans HGd.out; have u2 : wa.cell? ⟨gv, 2, none⟩ = some (.slice A3 v.f2.length c3) := (blk_cell gb 2).trans rfl; have u2f := blk_frozen gb 2; clear hra hba hga hata gb)
  have gb := (HBA.out.block _ (blk_lt HGd.out)).trans HGd.out
  have rb := (HBA.out.block _ (blk_lt HRd.out)).trans HRd.out
  obtain ⟨w2, hw2⟩ : ∃ w2, wa.setCell ⟨gv, 2, none⟩ (.slice Aa v.f2.length ca) = w2 := ⟨_, rfl⟩
  have hB2 : Below w.heap.size w w2 := by rw [← hw2]; exact Below.setCell (below_then HBd.out HBd.out.size HBA.out) (p := ⟨gv, 2, none⟩) HLO.out.1 _
  have hG2 : w2.heap[gv]? = some (.cells #[.int .u64 v.f0, .slice A2 v.f1.length c2, .slice Aa v.f2.length ca, .bool v.f3] 29 (0, 0)) := by rw [← hw2]; exact blk_set gb 2 _
  have hR2 : w2.heap[gr]? = some (.cells #[.int .u64 0, .slice none 0 0, .slice none 0 0, .bool false] 29 (0, 0)) := by rw [← hw2]; exact blk_far (p := ⟨gv, 2, none⟩) rb HLO.out.2.2 _
  have hN2 : Kd.N k29 29 w2 wd1.heap.size (fun k => (okv k ∨ w.heap.size ≤ k) ∧ k ≠ gr ∧ k ≠ gv) (.slice Aa v.f2.length ca) v.f2 := by rw [← hw2]; exact Kd.N_far (p := ⟨gv, 2, none⟩) HRA.out (fun k hk => hk.2.2) _
  rw [hw2]
  clear gb rb hw2 v2 u1 u2 u2f
  obtain ⟨gk, capk, eA, hbk, hgk, -⟩ := Kd.N_form hN2 hk
  injection eA with eA1 eA2 eA3
  subst eA1 eA3
  obtain ⟨cE, hcl, hFK, hcc, hfr⟩ := Kd.N_elem hN2 z29 (i : Int) i0 i1
  rw [show ((i : Int)).toNat = i from rfl] at hFK hcc hfr
  rw [List.getD_eq_getElem?_getD, List.getElem?_eq_getElem hi] at hFK
  obtain ⟨x, hx⟩ : ∃ x, v.f2[i] = x := ⟨_, rfl⟩
  have HX : Aside0 (∃ h : i < v.f2.length, v.f2[i] = x) := ⟨⟨hi, hx⟩⟩
  rw [hx] at hFK
  obtain ⟨A10, c10, A11, c11, rfl, l1, g1, l2, g2⟩ := k29_openF (show Kd.FK k29 w2 _ x cE from hFK)
  obtain ⟨ad, had⟩ : ∃ ad : Addr, (⟨gk, 0, none⟩ : Addr) = ad := ⟨_, rfl⟩
  have HADD := Aside0.mk had
  have HAD : Aside0 (ad.add (i * 4) = ⟨gk, i * 4, none⟩) := ⟨by rw [← had, add_at, Nat.zero_add]⟩
  have HCE : Aside0 (∀ W, Below w2.heap.size w2 W → W.cell? ⟨gk, i * 4, none⟩ = some (.int .u64 x.f0) ∧ W.cell? ⟨gk, i * 4 + 1, none⟩ = some (.slice A10 x.f1.length c10) ∧ W.cell? ⟨gk, i * 4 + 2, none⟩ = some (.slice A11 x.f2.length c11) ∧ W.cell? ⟨gk, i * 4 + 3, none⟩ = some (.bool x.f3)) := ⟨fun W hW => ⟨pw_cell_below hW (hcc 0 _ rfl), pw_cell_below hW (hcc 1 _ rfl), pw_cell_below hW (hcc 2 _ rfl), pw_cell_below hW (hcc 3 _ rfl)⟩⟩
  have hgkb : ∃ cells, w2.heap[gk]? = some (.cells cells 29 (0, 0)) := Kd.N_typed hN2 gk (by simp [Value.ownBlock])
  have HGK : Aside0 (gk ≠ gv ∧ gk ≠ gr ∧ gk < w2.heap.size ∧ gv < w2.heap.size ∧ gr < w2.heap.size ∧ w.heap.size ≤ w2.heap.size ∧ w.heap.size ≤ gk) := ⟨by
    have hlo := HLO.out
    have hsz := HSD.out
    have e := HEQ.out.2.2
    have := blk_lt hG2
    have := blk_lt hR2
    have := hB2.size
    exact ⟨by omega, by omega, hgk, by omega, by omega, by omega, by omega⟩⟩
  have HFZ : Aside0 (∀ W, Below w2.heap.size w2 W → ∀ j, W.frozen? ⟨gk, j, none⟩ = false) := ⟨fun W hW j => by
    obtain ⟨cells, hcells⟩ := hgkb
    exact blk_frozen ((hW.block _ (blk_lt hcells)).trans hcells) j⟩
  have HNN := Aside0.mk hN2
  have HCX : Aside0 (∀ W, Below w2.heap.size w2 W → Calls Tryd.prog 10 #[.agg #[.int .u64 x.f0, .slice A10 x.f1.length c10, .slice A11 x.f2.length c11, .bool x.f3], .slice A' t.length c', .int .u8 what, .int .u64 n, .int .i64 (deep - 1)] W (TPost (fun k => ((okv k ∨ w.heap.size ≤ k) ∧ k ≠ gr ∧ k ≠ gv) ∧ k ≠ gk) x W)) := ⟨fun W hW =>
    HCALL.out W _ x _ A' c' (by rw [← hx]; exact List.getElem_mem hi) (below_then hB2 hB2.size hW) ⟨A10, c10, A11, c11, rfl, Kd.F_below g1 hW, l1, Kd.F_below g2 hW, l2⟩ (HT2.out W (Kd.C_below HA.out (below_then hB2 hB2.size hW))) HT3.out⟩
  have HB2 := Aside0.mk hB2
  have HG2 := Aside0.mk hG2
  have HR2 := Aside0.mk hR2
  rw [had] at hG2 ⊢
  have v2 : w2.cell? ⟨gv, 2, none⟩ = some (.slice (some ad) v.f2.length ca) := (blk_cell hG2 2).trans rfl
  have v2d : w2.drew.cell? ⟨gv, 2, none⟩ = some (.slice (some ad) v.f2.length ca) := pw_cell_below (below_drew (Below.refl _ _)) v2
  have HV2 : Aside0 (∀ W, Below w2.heap.size w2 W → W.cell? ⟨gv, 2, none⟩ = some (.slice (some ad) v.f2.length ca)) := ⟨fun W hW => pw_cell_below hW v2⟩
  obtain ⟨p0, p1, p2, p3⟩ := HCE.out w2.drew (below_drew (Below.refl _ _))
  rw [← HAD.out] at p0
  have hblk : (ad.add (i * 4)).block = gk := by rw [HAD.out]
  have hoff : (ad.add (i * 4)).off = i * 4 := by rw [HAD.out]
  have HAB := Aside0.mk (And.intro hblk hoff)
  have q1 : w2.drew.cell? ⟨(ad.add (i * 4)).block, (ad.add (i * 4)).off + 1, none⟩ = some (.slice A10 x.f1.length c10) := by rw [hblk, hoff]; exact p1
  have q2 : w2.drew.cell? ⟨(ad.add (i * 4)).block, (ad.add (i * 4)).off + 2, none⟩ = some (.slice A11 x.f2.length c11) := by rw [hblk, hoff]; exact p2
  have q3 : w2.drew.cell? ⟨(ad.add (i * 4)).block, (ad.add (i * 4)).off + 3, none⟩ = some (.bool x.f3) := by rw [hblk, hoff]; exact p3
  have HCA : Aside0 (∀ W, Below w2.heap.size w2 W → (W.cell? (ad.add (i * 4)) = some (.int .u64 x.f0) ∧ W.cell? ⟨(ad.add (i * 4)).block, (ad.add (i * 4)).off + 1, none⟩ = some (.slice A10 x.f1.length c10) ∧ W.cell? ⟨(ad.add (i * 4)).block, (ad.add (i * 4)).off + 2, none⟩ = some (.slice A11 x.f2.length c11) ∧ W.cell? ⟨(ad.add (i * 4)).block, (ad.add (i * 4)).off + 3, none⟩ = some (.bool x.f3)) ∧ W.frozen? (ad.add (i * 4)) = false ∧ W.frozen? ⟨(ad.add (i * 4)).block, (ad.add (i * 4)).off + 1, none⟩ = false ∧ W.frozen? ⟨(ad.add (i * 4)).block, (ad.add (i * 4)).off + 2, none⟩ = false ∧ W.frozen? ⟨(ad.add (i * 4)).block, (ad.add (i * 4)).off + 3, none⟩ = false) := ⟨fun W hW => by
    rw [hblk, hoff, HAD.out]
    exact ⟨HCE.out W hW, HFZ.out W hW _, HFZ.out W hW _, HFZ.out W hW _, HFZ.out W hW _⟩⟩
  have HKZ : Aside0 (∀ (W : World) (x0 x1 x2 x3 : Value), W.cell? ⟨gv, 2, none⟩ = some (.slice (some ad) v.f2.length ca) → ((((W.setCell (ad.add (i * 4)) x0).setCell ⟨(ad.add (i * 4)).block, (ad.add (i * 4)).off + 1, none⟩ x1).setCell ⟨(ad.add (i * 4)).block, (ad.add (i * 4)).off + 2, none⟩ x2).setCell ⟨(ad.add (i * 4)).block, (ad.add (i * 4)).off + 3, none⟩ x3).cell? ⟨gv, 2, none⟩ = some (.slice (some ad) v.f2.length ca)) := ⟨fun W x0 x1 x2 x3 h => by
    have hne : gv ≠ gk := fun e => HGK.out.1 e.symm
    rw [hblk, hoff, HAD.out]
    exact (cell_far (p := ⟨gk, i * 4 + 3, none⟩) hne x3).trans ((cell_far (p := ⟨gk, i * 4 + 2, none⟩) hne x2).trans ((cell_far (p := ⟨gk, i * 4 + 1, none⟩) hne x1).trans ((cell_far (p := ⟨gk, i * 4, none⟩) hne x0).trans h)))⟩
  clear hFK hcc hfr hcl l1 g1 l2 g2 hx hN2 hG2 hR2 hB2 hbk hgk eA2 had p1 p2 p3 hblk hoff hgkb hi v2
  refine wp_region_held_drew (S := fun W => W.cell? ⟨gv, 2, none⟩ = some (.slice (some ad) v.f2.length ca)) (by kernel_rfl) v2d (fun hHeld => ?_)
  refine wpAnyH_take (i := 0) (v := ?vz0) rfl (by kernel_rfl) (by kernel_rfl) (by kernel_rfl) (fun _ _ _ h => h) (Or.inl ⟨by kernel_rfl, ?hyz0⟩) (by assumption) ?restz0
  case hyz0 => (intro w hSw; (try dsimp only at hSw); go_simp; (try with_reducible rfl))
  try simp only [Act.put, List.getElem_toArray, List.getElem_cons_zero, List.getElem_cons_succ, List.setIfInBounds_toArray, List.set_cons_zero, List.set_cons_succ]
  refine wpAnyH_take (i := 1) (v := ?vz1) rfl (by kernel_rfl) (by kernel_rfl) (by kernel_rfl) (fun _ _ _ h => h) (Or.inl ⟨by kernel_rfl, ?hyz1⟩) (by assumption) ?restz1
  case hyz1 => (intro w hSw; (try dsimp only at hSw); go_simp; (try with_reducible rfl))
  try simp only [Act.put, List.getElem_toArray, List.getElem_cons_zero, List.getElem_cons_succ, List.setIfInBounds_toArray, List.set_cons_zero, List.set_cons_succ]
  refine wpAnyH_take (i := 2) (v := ?vz2) rfl (by kernel_rfl) (by kernel_rfl) (by kernel_rfl) (fun _ _ _ h => h) (Or.inl ⟨by kernel_rfl, ?hyz2⟩) (by assumption) ?restz2
  case hyz2 => (intro w hSw; (try dsimp only at hSw); go_simp; (try with_reducible rfl))
  try simp only [Act.put, List.getElem_toArray, List.getElem_cons_zero, List.getElem_cons_succ, List.setIfInBounds_toArray, List.set_cons_zero, List.set_cons_succ]
  refine wpAnyH_take (i := 3) (v := ?vz3) rfl (by kernel_rfl) (by kernel_rfl) (by kernel_rfl) (fun _ _ _ h => h) (Or.inl ⟨by kernel_rfl, ?hyz3⟩) (by assumption) ?restz3
  case hyz3 => (intro w hSw; (try dsimp only at hSw); go_simp; (try with_reducible rfl))
  try simp only [Act.put, List.getElem_toArray, List.getElem_cons_zero, List.getElem_cons_succ, List.setIfInBounds_toArray, List.set_cons_zero, List.set_cons_succ]
  refine wpAnyH_take (i := 4) (v := ?vz4) rfl (by kernel_rfl) (by kernel_rfl) (by kernel_rfl) (fun _ _ _ h => h) (Or.inl ⟨by kernel_rfl, ?hyz4⟩) (by assumption) ?restz4
  case hyz4 => (intro w hSw; (try dsimp only at hSw); go_simp; (try with_reducible rfl))
  try simp only [Act.put, List.getElem_toArray, List.getElem_cons_zero, List.getElem_cons_succ, List.setIfInBounds_toArray, List.set_cons_zero, List.set_cons_succ]
  refine wpAnyH_take (i := 5) (v := ?vz5) rfl (by kernel_rfl) (by kernel_rfl) (by kernel_rfl) (fun _ _ _ h => h) (Or.inl ⟨by kernel_rfl, ?hyz5⟩) (by assumption) ?restz5
  case hyz5 => (intro w hSw; (try dsimp only at hSw); go_simp; (try with_reducible rfl))
  try simp only [Act.put, List.getElem_toArray, List.getElem_cons_zero, List.getElem_cons_succ, List.setIfInBounds_toArray, List.set_cons_zero, List.set_cons_succ]
  refine wpAnyH_take (i := 6) (v := ?vz6) rfl (by kernel_rfl) (by kernel_rfl) (by kernel_rfl) (fun _ _ _ h => h) (Or.inl ⟨by kernel_rfl, ?hyz6⟩) (by assumption) ?restz6
  case hyz6 => (intro w hSw; (try dsimp only at hSw); go_simp; (try with_reducible rfl))
  try simp only [Act.put, List.getElem_toArray, List.getElem_cons_zero, List.getElem_cons_succ, List.setIfInBounds_toArray, List.set_cons_zero, List.set_cons_succ]
  refine wpAnyH_take (i := 8) (v := ?vz8) rfl (by kernel_rfl) (by kernel_rfl) (by kernel_rfl) (fun _ _ _ h => h) (Or.inl ⟨by kernel_rfl, ?hyz8⟩) (by assumption) ?restz8
  case hyz8 => (intro w hSw; (try dsimp only at hSw); go_simp; (try with_reducible rfl))
  try simp only [Act.put, List.getElem_toArray, List.getElem_cons_zero, List.getElem_cons_succ, List.setIfInBounds_toArray, List.set_cons_zero, List.set_cons_succ]
  refine wpAnyH_take (i := 9) (v := ?vz9) rfl (by kernel_rfl) (by kernel_rfl) (by kernel_rfl) (fun _ _ _ h => h) (Or.inl ⟨by kernel_rfl, ?hyz9⟩) (by assumption) ?restz9
  case hyz9 => (intro w hSw; (try dsimp only at hSw); go_simp; (try with_reducible rfl))
  try simp only [Act.put, List.getElem_toArray, List.getElem_cons_zero, List.getElem_cons_succ, List.setIfInBounds_toArray, List.set_cons_zero, List.set_cons_succ]
  refine wpAnyH_take (i := 10) (v := ?vz10) rfl (by kernel_rfl) (by kernel_rfl) (by kernel_rfl) (fun _ _ _ h => h) (Or.inl ⟨by kernel_rfl, ?hyz10⟩) (by assumption) ?restz10
  case hyz10 => (intro w hSw; (try dsimp only at hSw); go_simp; (try with_reducible rfl))
  try simp only [Act.put, List.getElem_toArray, List.getElem_cons_zero, List.getElem_cons_succ, List.setIfInBounds_toArray, List.set_cons_zero, List.set_cons_succ]
  refine wpAnyH_take (i := 11) (v := ?vz11) rfl (by kernel_rfl) (by kernel_rfl) (by kernel_rfl) (fun _ _ _ h => h) (Or.inl ⟨by kernel_rfl, ?hyz11⟩) (by assumption) ?restz11
  case hyz11 => (intro w hSw; (try dsimp only at hSw); go_simp; (try with_reducible rfl))
  try simp only [Act.put, List.getElem_toArray, List.getElem_cons_zero, List.getElem_cons_succ, List.setIfInBounds_toArray, List.set_cons_zero, List.set_cons_succ]
  refine wpAnyH_take (i := 12) (v := ?vz12) rfl (by kernel_rfl) (by kernel_rfl) (by kernel_rfl) (fun _ _ _ h => h) (Or.inl ⟨by kernel_rfl, ?hyz12⟩) (by assumption) ?restz12
  case hyz12 => (intro w hSw; (try dsimp only at hSw); go_simp; (try with_reducible rfl))
  try simp only [Act.put, List.getElem_toArray, List.getElem_cons_zero, List.getElem_cons_succ, List.setIfInBounds_toArray, List.set_cons_zero, List.set_cons_succ]
  refine wpAnyH_take (i := 13) (v := ?vz13) rfl (by kernel_rfl) (by kernel_rfl) (by kernel_rfl) (fun _ _ _ h => h) (Or.inl ⟨by kernel_rfl, ?hyz13⟩) (by assumption) ?restz13
  case hyz13 => (intro w hSw; (try dsimp only at hSw); go_simp; (try with_reducible rfl))
  try simp only [Act.put, List.getElem_toArray, List.getElem_cons_zero, List.getElem_cons_succ, List.setIfInBounds_toArray, List.set_cons_zero, List.set_cons_succ]
  refine wpAnyH_ready (rs := [7]) (by kernel_rfl) (by simp) ?_
  refine AllReadyH.cons rfl (fun K hK => ?_) AllReadyH.nil
  go_simp
  refine hK.out _ _ (v2d) (fun hHeld7 => ?_)
  clear hK K
  try simp only [Act.put, List.getElem_toArray, List.getElem_cons_zero, List.getElem_cons_succ, List.setIfInBounds_toArray, List.set_cons_zero, List.set_cons_succ]
  refine wpAnyH_ready (rs := [14]) (by kernel_rfl) (by simp) ?_
  refine AllReadyH.cons rfl (fun K hK => ?_) AllReadyH.nil
  go_simp
  go_at_call 10; (with_reducible refine (HCX.out w2.drew (below_drew (Below.refl _ _))).mono ?_); rintro e wx hp; obtain ⟨V, B1, d1, B2, d2, rfl, hF1, m1, hF2, m2, hrV, hwV, hbx⟩ := hp; have HBX := Aside0.mk (below_then (below_drew (Below.refl w2.heap.size w2)) (Nat.le_refl _) hbx); have ka := HV2.out wx HBX.out; obtain ⟨⟨r0, r1, r2, r3⟩, z0, z1, z2, z3⟩ := HCA.out wx HBX.out; obtain ⟨⟨k1, k1f⟩, ⟨k2, k2f⟩, ⟨k3, k3f⟩⟩ := elem_sets (x0 := .int .u64 V.f0) (x1 := .slice B1 V.f1.length d1) (x2 := .slice B2 V.f2.length d2) HAD.out r1 r2 r3 z1 z2 z3; have HVR := Aside0.mk (And.intro hF1 (And.intro m1 (And.intro hF2 (And.intro m2 (And.intro hrV hwV))))); clear hF1 m1 hF2 m2 hrV hwV hbx
  refine hK.out _ _ (ka) (fun hHeld14 => ?_)
  clear hK K
  try simp only [Act.put, List.getElem_toArray, List.getElem_cons_zero, List.getElem_cons_succ, List.setIfInBounds_toArray, List.set_cons_zero, List.set_cons_succ]
  refine wpAnyH_take (i := 15) (v := ?vz15) rfl (by kernel_rfl) (by kernel_rfl) (by kernel_rfl) (fun _ _ _ h => h) (Or.inl ⟨by kernel_rfl, ?hyz15⟩) (by assumption) ?restz15
  case hyz15 => (intro w hSw; (try dsimp only at hSw); go_simp; (try with_reducible rfl))
  try simp only [Act.put, List.getElem_toArray, List.getElem_cons_zero, List.getElem_cons_succ, List.setIfInBounds_toArray, List.set_cons_zero, List.set_cons_succ]
  refine wpAnyH_ready (rs := [16]) (by kernel_rfl) (by simp) ?_
  refine AllReadyH.cons rfl (fun K hK => ?_) AllReadyH.nil
  go_simp
  refine hK.out _ _ (HKZ.out _ _ _ _ _ ka) (fun hHeld16 => ?_)
  clear hK K
  try simp only [Act.put, List.getElem_toArray, List.getElem_cons_zero, List.getElem_cons_succ, List.setIfInBounds_toArray, List.set_cons_zero, List.set_cons_succ]
  refine wpAnyH_done (by kernel_rfl) ?_ _
  obtain ⟨w3, hw3⟩ : ∃ w3, (((wx.setCell (ad.add (i * 4)) (.int .u64 V.f0)).setCell ⟨(ad.add (i * 4)).block, (ad.add (i * 4)).off + 1, none⟩ (.slice B1 V.f1.length d1)).setCell ⟨(ad.add (i * 4)).block, (ad.add (i * 4)).off + 2, none⟩ (.slice B2 V.f2.length d2)).setCell ⟨(ad.add (i * 4)).block, (ad.add (i * 4)).off + 3, none⟩ (.bool V.f3) = w3 := ⟨_, rfl⟩
  have hs3 : wx.setCells gk (i * 4) [.int .u64 V.f0, .slice B1 V.f1.length d1, .slice B2 V.f2.length d2, .bool V.f3] = w3 := by
    rw [← hw3, HAB.out.1, HAB.out.2, HAD.out]; rfl
  rw [hw3]
  obtain ⟨hF1, m1, hF2, m2, hrV, hwV⟩ := HVR.out
  have hgkk := HGK.out
  have hseg := Kd.N_seg (Kd.N_below HNN.out HBX.out) (i : Int) i0 i1 (c := [.int .u64 x.f0, .slice A10 x.f1.length c10, .slice A11 x.f2.length c11, .bool x.f3]) (seg := [.int .u64 V.f0, .slice B1 V.f1.length d1, .slice B2 V.f2.length d2, .bool V.f3]) (j := 0) (x' := V) (okp := fun k => (((okv k ∨ w.heap.size ≤ k) ∧ k ≠ gr ∧ k ≠ gv) ∧ k ≠ gk) ∨ w2.drew.heap.size ≤ k) rfl
    (fun j u hu => by
      have hc := HCE.out wx HBX.out
      match j, hu with
      | 0, hu => obtain rfl := Option.some.inj hu; exact hc.1
      | 1, hu => obtain rfl := Option.some.inj hu; exact hc.2.1
      | 2, hu => obtain rfl := Option.some.inj hu; exact hc.2.2.1
      | 3, hu => obtain rfl := Option.some.inj hu; exact hc.2.2.2
      | j + 4, hu => simp at hu) (Nat.le_refl _) (k29_mkF wx _ V m1 hF1 m2 hF2)
    (fun k hk => by
      rcases hk with hk | hk
      · exact hk
      · have hk' : w2.heap.size ≤ k := hk
        exact ⟨⟨.inr (by omega), by omega, by omega⟩, by omega⟩)
  obtain ⟨hN3, hg3⟩ := hseg
  rw [show wx.setCells gk ((i : Int).toNat * k29.sz + 0) [.int .u64 V.f0, .slice B1 V.f1.length d1, .slice B2 V.f2.length d2, .bool V.f3] = w3 from hs3] at hN3 hg3
  rw [show ((i : Int)).toNat = i from rfl] at hN3
  have hKF := Kd.N_F hN3
  rw [HADD.out] at hKF
  have HKF : Aside0 (Kd.F k29 w3 (fun k => (okv k ∨ w.heap.size ≤ k) ∧ k ≠ gr) (some ad) v.f2.length (v.f2.set i V)) := ⟨Kd.F_mono hKF (fun k hk => ⟨hk.1, hk.2.1⟩)⟩
  have HB3 : Aside0 (Below w.heap.size w w3) := ⟨Below.grown (below_then HB2.out HB2.out.size HBX.out) hg3 (below_then HB2.out HB2.out.size HBX.out).size (fun k e => by injection e with e; omega)⟩
  have HG3 : Aside0 (w3.heap[gv]? = some (.cells #[.int .u64 v.f0, .slice A2 v.f1.length c2, .slice (some ad) v.f2.length ca, .bool v.f3] 29 (0, 0))) := ⟨by
    have h := (HBX.out.block _ hgkk.2.2.2.1).trans HG2.out
    rw [HADD.out] at h
    rw [← hs3]
    exact (setCells_far _ _ gv (fun e => hgkk.1 e.symm)).trans h⟩
  have HR3 : Aside0 (w3.heap[gr]? = some (.cells #[.int .u64 0, .slice none 0 0, .slice none 0 0, .bool false] 29 (0, 0))) := ⟨by
    rw [← hs3]
    exact (setCells_far _ _ gr (fun e => hgkk.2.1 e.symm)).trans ((HBX.out.block _ hgkk.2.2.2.2.1).trans HR2.out)⟩
  have HLC : Aside0 (v.f2.length ≤ ca) := ⟨(Kd.N_reads' HNN.out).2.1⟩
  have HSET : Aside0 (rng ⟨v.f0, v.f1, v.f2.set i V, v.f3⟩ ∧ wt ⟨v.f0, v.f1, v.f2.set i V, v.f3⟩ ≤ wt v + 2) := ⟨by
    obtain ⟨hi, hx⟩ := HX.out
    refine ⟨rng_mk HRG.out.1 HRG.out.2.1 (fun y hy => ?_), ?_⟩
    · rcases List.mem_or_eq_of_mem_set hy with h | h
      · exact HRG.out.2.2 y h
      · rw [h]; exact hrV
    · have h1 := wts_set v.f2 i hi V
      rw [hx] at h1
      have h2 := wtd_is v
      simp only [wt]; omega⟩
  clear hs3 hw3 hF1 m1 hF2 m2 hrV hwV hgkk hN3 hg3 hKF ka r0 r1 r2 r3 z0 z1 z2 z3 k1 k1f k2 k2f k3 k3f
  have v0 : w3.cell? ⟨gv, 0, none⟩ = some (.int .u64 v.f0) := (blk_cell HG3.out 0).trans rfl
  have v1 : w3.cell? ⟨gv, 1, none⟩ = some (.slice A2 v.f1.length c2) := (blk_cell HG3.out 1).trans rfl
  have v2 : w3.cell? ⟨gv, 2, none⟩ = some (.slice (some ad) v.f2.length ca) := (blk_cell HG3.out 2).trans rfl
  have v3 : w3.cell? ⟨gv, 3, none⟩ = some (.bool v.f3) := (blk_cell HG3.out 3).trans rfl
  have HDONE := Aside0.mk (turn_done (okv := okv) (v := v) (b := v.f1) (ks := v.f2.set i V) (n2 := v.f2.length) (f := v.f3) (x0 := v.f0) rfl (by simp) HB3.out HLO.out.2.1 HR3.out (old_F HV1.out.1 HB3.out HLO.out.2.1) HV1.out.2 HKF.out HLC.out HSET.out.1 HSET.out.2)
  have r0 : w3.cell? ⟨gr, 0, none⟩ = some (.int .u64 0) := (blk_cell HR3.out 0).trans rfl
  have r1 : w3.cell? ⟨gr, 1, none⟩ = some (.slice none 0 0) := (blk_cell HR3.out 1).trans rfl
  have r2 : w3.cell? ⟨gr, 2, none⟩ = some (.slice none 0 0) := (blk_cell HR3.out 2).trans rfl
  have r3 : w3.cell? ⟨gr, 3, none⟩ = some (.bool false) := (blk_cell HR3.out 3).trans rfl
  have r0f := blk_frozen HR3.out 0
  have r1f := blk_frozen HR3.out 1
  have r2f := blk_frozen HR3.out 2
  have r3f := blk_frozen HR3.out 3
  obtain ⟨Wz, hWz, z0, z1, z2, z3, hT⟩ := HDONE.out
  have HWZ := Aside0.mk hWz
  have HT := Aside0.mk hT
  clear hWz hT
  go_wp2_with (fail)
  rw [HWZ.out]
  exact bodyPost_ret (by simp [results, Tryd.results10, go_sem, z0, z1, z2, z3]) rfl HT.out
/-- turn, of any way. -/
theorem turn_any (what n : Int) (hn : 0 ≤ n ∧ n < 18446744073709551616) (hwh : 0 ≤ what ∧ what < 256) : ∀ (way : List Int) (deep : Int) (v : S29) (u : Value) (A : Option Addr) (c : Nat) (w : World) (okv : Nat → Prop), deep ≤ 1000 → (∀ b ∈ way, 0 ≤ b ∧ b < 256) → rng v → wt v ≤ 90000 → FV w okv v u → Kd.C (Kd.int .u8) w A way.length way → way.length ≤ c →
    Calls Tryd.prog 10 #[u, .slice A way.length c, .int .u8 what, .int .u64 n, .int .i64 deep] w (TPost okv v w) := by
  intro way
  induction way with
  | nil => intro deep v u A c w okv hd hb hr hw hv hA hc; exact turn_leaf what n deep hn hwh [] v u A c w okv hr hw hv (.inl rfl)
  | cons b t ih =>
    intro deep v u A c w okv hd hb hr hw hv hA hc
    by_cases hk : v.f2.length = 0
    · exact turn_leaf what n deep hn hwh (b :: t) v u A c w okv hr hw hv (.inr (.inl hk))
    by_cases hp : 0 < deep
    · refine turn_deep what n deep hn ⟨hp, hd⟩ b t (hb b (.head _)) v u A c w okv hr hw hv hA hc (by omega) (fun W okx x ux A' c' hx hW hux hA' hc' => ?_)
      exact ih (deep - 1) x ux A' c' W okx (by omega) (fun y hy => hb y (.tail _ hy)) ((rng_is v hr).2.2 x hx) (by have := wtds_mem v.f2 x hx; have := wtd_is v; omega) hux hA' hc'
    · exact turn_leaf what n deep hn hwh (b :: t) v u A c w okv hr hw hv (.inr (.inr hp))
end Go.Proofs.YthilhndejhnlnaaDoor.Hand
end
