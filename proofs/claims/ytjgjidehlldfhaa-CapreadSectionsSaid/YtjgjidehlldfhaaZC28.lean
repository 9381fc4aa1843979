/- Texts joined: C13 C14. -/
import Derived.Lib.AppendZerosOnto
import Derived.Laws.CopyOwn
import Derived.Test.YtjgjidehlldfhaaZC27
section
/- Layer 8, capread: the walk of Sections. -/
namespace Go.Proofs.Ytjgjidehlldfhaa.Hand
open Go.RowKit Go.Proofs.Ytjgjidehlldfhaa.QAll Go.Proofs.YtjgjidehlldfhaaW.PrintWords Go.Proofs.YtjgjidehlldfhaaW.PrintLast Go.Proofs.YtjgjidehlldfhaaW.PrintMore Go.Proofs.Ytjgjidehlldfhaa.Nums Go.Proofs.Ytjgjidehlldfhaa.Runes
set_option linter.unusedVariables false
set_option linter.unusedSimpArgs false
/-- Bytes that lie at a block's begin. -/
def BK (W : World) (g : Nat) (bs : List Int) : Prop := ∃ cs : Array Value, W.heap[g]? = some (.cells cs 5 (0, 0)) ∧ ∀ (j : Nat) (x : Int), bs[j]? = some x → cs[j]? = some (Value.int .u8 x)
section bk
variable {W W' : World} {g : Nat} {bs : List Int}
theorem BK.C (h : BK W g bs) (hm : bs.length ≤ 281474976710656) : (Kd.int .u8).C W (some ⟨g, 0, none⟩) bs.length bs := by
  obtain ⟨cs, hb, hc⟩ := h
  exact C_bytes hb hm hc
theorem BK.of (h : BK W g bs) (e : W'.heap[g]? = W.heap[g]?) : BK W' g bs := by
  obtain ⟨cs, hb, hc⟩ := h
  exact ⟨cs, e.trans hb, hc⟩
theorem BK.lt (h : BK W g bs) : g < W.heap.size := by
  obtain ⟨cs, hb, hc⟩ := h
  exact blk_lt hb
theorem BK.cell (h : BK W g bs) (j : Nat) (x : Int) (hj : bs[j]? = some x) : W.cell? ⟨g, j, none⟩ = some (.int .u8 x) ∧ W.frozen? ⟨g, j, none⟩ = false := by
  obtain ⟨cs, hb, hc⟩ := h
  exact ⟨(blk_cell hb j).trans (hc j x hj), blk_frozen hb j⟩
theorem BK.set (h : BK W g bs) (i : Nat) (y : Int) : BK (W.setCell ⟨g, i, none⟩ (.int .u8 y)) g (bs.set i y) := by
  obtain ⟨cs, hb, hc⟩ := h
  refine ⟨cs.setIfInBounds i (.int .u8 y), blk_set hb i _, fun j x hj => ?_⟩
  rw [List.getElem?_set] at hj
  by_cases e : i = j
  · subst e
    rw [if_pos rfl] at hj
    split at hj
    · rename_i hlt
      injection hj with hj; subst hj
      have h1 := hc i bs[i] (List.getElem?_eq_getElem hlt)
      have h2 : i < cs.size := by
        rcases Nat.lt_or_ge i cs.size with h | h
        · exact h
        · rw [Array.getElem?_eq_none h] at h1; cases h1
      rw [Array.getElem?_setIfInBounds_self_of_lt h2]
    · cases hj
  · rw [if_neg e] at hj
    rw [Array.getElem?_setIfInBounds_ne e]
    exact hc j x hj
end bk
theorem append_none (w : World) (a : Addr) (n c : Nat) (h : n ≤ c) : (Builtin.append_ #[37, 3] 37 #[.slice (some a) n c, .int .i64 0]).run Try.prog w = .ok (.slice (some a) n c) w := by
  obtain ⟨i0, hi, hz0, hz1, hz2⟩ := info_parts info5
  have hw : IntKind.i64.wrap 0 = 0 := by decide
  simp [Builtin.append_, run_underlying Try.underlying37, run_underlying Try.underlying3, sizeOf, typeInfo, zeroValue, hi, hz0, hz1, asInt, asIntOf, hw, h, storeCells]
theorem copy0 {W : World} {gb gc : Nat} (lo hi : Int) (hb : W.heap[gb]? = some (.cells #[.int .u8 0, .int .u8 0, .int .u8 0, .int .u8 0, .int .u8 1, .int .u8 0, .int .u8 0, .int .u8 0, .int .u8 0, .int .u8 0, .int .u8 0, .int .u8 0, .int .u8 0, .int .u8 0, .int .u8 0, .int .u8 0] 5 (0, 0)))
    (hc : W.heap[gc]? = some (.cells #[.int .u8 252, .int .u8 255, .int .u8 255, .int .u8 255] 5 (0, 0))) :
    ∃ W1, (Builtin.copy_ #[37, 37] 3 #[.slice (some ⟨gb, 8, none⟩) 8 8, .slice (some ⟨gc, 0, none⟩) 4 4]).run Try.prog W = .ok (.int .i64 4) W1 ∧ BK W1 gb (bsec 0 lo hi) ∧ W.grownBy W1 (some gb) := by
  have hinfo : (Try.prog.info? 5).map (·.size) = some 1 := by
    obtain ⟨i0, h0, _, h1, _⟩ := info_parts info5
    rw [h0]; simp [h1]
  have hrun := run_copy_cells (P := Try.prog) W 37 37 3 5 gb 8 8 8 ⟨gc, 0, none⟩ 4 4 [.int .u8 252, .int .u8 255, .int .u8 255, .int .u8 255] Try.underlying37 hinfo (by decide) (fun j u hu => by
      have e : (⟨gc, 0, none⟩ : Addr).add j = ⟨gc, j, none⟩ := by
        unfold Addr.add; split
        · rename_i h; rw [h]
        · simp
      rw [e, blk_cell hc j]
      rcases (show j = 0 ∨ j = 1 ∨ j = 2 ∨ j = 3 ∨ 4 ≤ j by omega) with rfl | rfl | rfl | rfl | h
      · exact hu
      · exact hu
      · exact hu
      · exact hu
      · rw [List.getElem?_eq_none (by simp; omega)] at hu; cases hu)
    (fun j hj => by rw [cell_of_row W gb _ _ 5 (0, 0) hb]; simp at hj ⊢; omega) (fun j _ => blk_frozen hb _) (by intro v hv; simp at hv; rcases hv with rfl | rfl <;> rfl)
  obtain ⟨cur', h3, h4, h5⟩ := setCells_row [.int .u8 252, .int .u8 255, .int .u8 255, .int .u8 255] 8 W _ hb (by decide)
  obtain ⟨s1, s2, s3, s4⟩ := setCells_same gb [.int .u8 252, .int .u8 255, .int .u8 255, .int .u8 255] 8 W
  refine ⟨_, hrun, ⟨cur', h3, fun j x hj => ?_⟩, ⟨s1, s2, s3, by rw [s4]; exact Nat.le_refl _, fun k _ hk => setCells_far _ _ k (fun he => hk (by rw [he]))⟩⟩
  have e : cur' = (bsec 0 lo hi).toArray.map (Value.int .u8) := by
    rw [← Array.toArray_toList (xs := cur'), h5]; simp [bsec]
  rw [e]
  have hj' : (bsec 0 lo hi).toArray[j]? = some x := by simpa using hj
  rw [Array.getElem?_map, hj']; rfl
theorem sec_split (n m : Nat) (h : m < 8 * n) : hsec n ++ (List.replicate m 165 ++ List.replicate (8 * n - m) 0) = (hsec n ++ List.replicate m 165) ++ 0 :: List.replicate (8 * n - (m + 1)) 0 := by
  rw [← List.append_assoc]
  congr 1
  rw [show 8 * n - m = (8 * n - (m + 1)) + 1 by omega, List.replicate_succ]
theorem sec_len (n m : Nat) : (hsec n ++ List.replicate m 165).length = 16 + m := by rw [List.length_append, List.length_replicate]; rfl
theorem sec_at (n m : Nat) (h : m < 8 * n) : (hsec n ++ (List.replicate m 165 ++ List.replicate (8 * n - m) 0))[16 + m]? = some 0 := by
  rw [sec_split n m h, List.getElem?_append_right (by rw [sec_len]; exact Nat.le_refl _), sec_len, Nat.sub_self]
  rfl
theorem sec_set (n m : Nat) (h : m < 8 * n) : (hsec n ++ (List.replicate m 165 ++ List.replicate (8 * n - m) 0)).set (16 + m) 165 = hsec n ++ (List.replicate (m + 1) 165 ++ List.replicate (8 * n - (m + 1)) 0) := by
  rw [sec_split n m h, List.set_append_right _ _ (by rw [sec_len]; exact Nat.le_refl _), sec_len, Nat.sub_self, List.set_cons_zero, List.replicate_succ', List.append_assoc, List.append_assoc]
  rfl
theorem sec_two (n : Nat) (h : 0 < n) : hsec n ++ List.replicate (8 * n) 165 = hsec n ++ 165 :: 165 :: List.replicate (8 * n - 2) 165 := by
  congr 1
  rw [show 8 * n = (8 * n - 2) + 1 + 1 by omega, List.replicate_succ, List.replicate_succ]
  rfl
theorem sec_fin (n : Nat) (h : 0 < n) (lo hi : Int) : ((hsec n ++ List.replicate (8 * n) 165).set 16 lo).set 17 hi = bsec n lo hi := by
  rw [sec_two n h]
  unfold bsec
  rw [if_neg (by omega)]
  rfl
theorem zero_cells (m j : Nat) (h : j < m) : (Builtin.zeroCells (Value.int .u8 0).cells m)[j]? = some (Value.int .u8 0) := by
  have e : (Value.int .u8 0).cells = #[Value.int .u8 0] := rfl
  rw [e]
  simp [Builtin.zeroCells, h, Nat.mod_one]
set_option maxRecDepth 100000 in
theorem append_zeros {w3 : World} {gh : Nat} {i : TypeInfo} (n : Nat) (hp : 0 < n) (hn : n < 5) (hi : Try.prog.info? 5 = some i) (hz : i.zero = some (.int .u8 0)) (hs : i.size = 1) (hby : i.bytes = 1)
    (hb : w3.heap[gh]? = some (.cells #[Value.int .u8 0, .int .u8 0, .int .u8 0, .int .u8 0, .int .u8 (1 + n), .int .u8 0, .int .u8 0, .int .u8 0, .int .u8 0, .int .u8 0, .int .u8 0, .int .u8 0, .int .u8 n, .int .u8 0, .int .u8 0, .int .u8 0] 5 (0, 0))) :
    ∃ W cp, (Builtin.append_ #[37, 3] 37 #[.slice (some ⟨gh, 0, none⟩) 16 16, .int .i64 (8 * n)]).run Try.prog w3 = .ok (.slice (some ⟨w3.heap.size, 0, none⟩) (16 + 8 * n) cp) W ∧ 16 + 8 * n ≤ cp ∧ BK W w3.heap.size (hsec n ++ List.replicate (8 * n) 0) ∧ Below w3.heap.size w3 W := by
  obtain ⟨olds, ho⟩ : ∃ olds : List Value, [Value.int .u8 0, .int .u8 0, .int .u8 0, .int .u8 0, .int .u8 (1 + n), .int .u8 0, .int .u8 0, .int .u8 0, .int .u8 0, .int .u8 0, .int .u8 0, .int .u8 0, .int .u8 n, .int .u8 0, .int .u8 0, .int .u8 0] = olds := ⟨_, rfl⟩
  have hfc : (Builtin.firstCells i.size 16 (.slice (some ⟨gh, 0, none⟩) 16 16)).run Try.prog w3.drew = .ok olds.toArray w3.drew := by
    refine run_firstCells_some _ i.size 16 ⟨gh, 0, none⟩ 16 16 olds (by rw [← ho, hs]; rfl) (fun j v hj => ?_)
    have e : (⟨gh, 0, none⟩ : Addr).add j = ⟨gh, j, none⟩ := by
      unfold Addr.add; split
      · rename_i h; rw [h]
      · simp
    rw [e]
    refine (blk_cell (w := w3.drew) hb j).trans ?_
    rw [← ho] at hj
    simpa using hj
  have h := Lib.run_append_grow_zeros (P := Try.prog) w3 37 3 37 5 i (.int .u8 0) .i64 .i64 Try.underlying37 Try.underlying3 hi hz (some ⟨gh, 0, none⟩) 16 16 olds hfc (8 * n) (by omega) (by omega) (by omega) (by omega) (by rw [hby]; omega) (by
    rw [hby]
    rcases (show n = 1 ∨ n = 2 ∨ n = 3 ∨ n = 4 by omega) with rfl | rfl | rfl | rfl <;> decide)
  rw [show ((8 * n : Nat) : Int) = 8 * (n : Int) by omega] at h
  refine ⟨_, _, h, ?_, ⟨_, heap_alloc_new w3.drew _, fun j x hj => ?_⟩, below_alloc (below_drew (Below.refl _ _)) _⟩
  · exact grownCap_ge w3 (16 + 8 * n) 16 5
  · have hol : olds.length = 16 := by rw [← ho]; rfl
    rcases Nat.lt_or_ge j 16 with h1 | h1
    · rw [List.getElem?_append_left (by simp [hsec]; exact h1)] at hj
      rw [Array.getElem?_append_left (by simp [hol]; omega), Array.getElem?_append_left (by simp [hol]; exact h1)]
      have e : olds = (hsec n).map (Value.int .u8) := by rw [← ho]; rfl
      rw [e]
      simp [hj]
    · rw [List.getElem?_append_right (by simp [hsec]; exact h1)] at hj
      have hlt : j - 16 < 8 * n := by
        rcases Nat.lt_or_ge (j - 16) (8 * n) with h | h
        · exact h
        · rw [List.getElem?_eq_none (by simp [hsec]; omega)] at hj; cases hj
      have hx0 : x = 0 := by
        rw [show (hsec n).length = 16 from rfl, List.getElem?_replicate, if_pos hlt] at hj
        injection hj with hj; exact hj.symm
      subst hx0
      have hzs : (Builtin.zeroCells (Value.int .u8 0).cells (8 * n)).size = 8 * n := by
        have e : (Value.int .u8 0).cells = #[Value.int .u8 0] := rfl
        rw [e]; simp [Builtin.zeroCells]
      rw [Array.getElem?_append_left (by simp [hol, hzs]; omega), Array.getElem?_append_right (by simp [hol]; exact h1)]
      simp only [List.size_toArray, hol]
      exact zero_cells _ _ hlt
theorem enough_any (w : World) : Calls Try.prog 8 #[] w fun e w' => ∃ g, e = .returned (.pointer (some ⟨g, 0, none⟩)) ∧ w'.heap[g]? = some (.cells #[.int .i64 1099511627776, .bool false] 101 (0, 0)) ∧ w.heap.size ≤ g ∧ Below w.heap.size w w' := by
  have HNEW := Aside0.mk (new_any w 1099511627776)
  go_enter Try.func8, Try.ntmps8
  go_wp2_with (go_at_call 12; (with_reducible refine HNEW.out.mono ?_); rintro e w1 ⟨g, rfl, hm, hg, hb⟩; have HM := Aside0.mk hm; have HG := Aside0.mk hg; have HB := Aside0.mk hb; clear hm hg hb)
  go_ret
  exact ⟨g, rfl, HM.out, HG.out, HB.out⟩
set_option maxHeartbeats 6400000 in
set_option maxRecDepth 100000 in
theorem sections_walk (x more df : Int) (hx : 0 ≤ x ∧ x < 65536) (hmo : 0 ≤ more ∧ more < 256) (hdf : 0 ≤ df ∧ df < 256) (w : World) :
    Calls Try.prog 3 #[.int .u16 x, .int .u8 more, .int .u8 df] w fun e w' => e = .returned (.bool true) ∧ Below w.heap.size w w' := by
  obtain ⟨n, hn⟩ : ∃ n : Nat, more % 5 = n := Int.eq_ofNat_of_zero_le (by omega)
  have hn5 : n < 5 := by omega
  have e1 : more.tmod 5 = (n : Int) := by rw [Int.tmod_eq_emod_of_nonneg hmo.1]; exact hn
  obtain ⟨raw, hraw⟩ : ∃ raw, Go.bits .xor .u16 x df = raw := ⟨_, rfl⟩
  have hrb : 0 ≤ raw ∧ raw < 65536 := by
    obtain ⟨d, rfl⟩ := Int.eq_ofNat_of_zero_le hdf.1
    obtain ⟨xn, rfl⟩ := Int.eq_ofNat_of_zero_le hx.1
    rw [u16_xor_nat xn d (by omega) (by omega)] at hraw
    have hr : xn ^^^ d < 65536 := Nat.xor_lt_two_pow (n := 16) (by omega) (by omega)
    omega
  have HAW := Aside0.mk (fun W => awake08 W)
  go_enter Try.func3, Try.ntmps3
  go_upto_region 6 with (go_at_call 6; (with_reducible refine (HAW.out _).mono ?_); rintro e w1 ⟨rfl, hb⟩; have HB1 := Aside0.mk hb; clear hb)
  obtain ⟨b0, h0⟩ : ∃ b0, w1.heap.size = b0 := ⟨_, rfl⟩
  obtain ⟨b1, h1⟩ : ∃ b1, b0 + 1 = b1 := ⟨_, rfl⟩
  obtain ⟨b2, h2⟩ : ∃ b2, b1 + 1 = b2 := ⟨_, rfl⟩
  rw [h0, h1, h2]
  obtain ⟨w2, hw2⟩ : ∃ w2, ((w1.alloc (.cells #[.string ⟨#[120]⟩, .int .u8 7, .int .i64 0, .int .i64 0, .int .u64 df] 29)).alloc (.cells #[.string ⟨#[83]⟩, .slice (some ⟨b0, 0, none⟩) 1 1] 32)).alloc (.cells #[.slice (some ⟨b1, 0, none⟩) 1 1, .slice none 0 0, .int .i64 0] 36) = w2 := ⟨_, rfl⟩
  obtain ⟨x0, x1, x2, hB, hsz⟩ := heap_three w1 _ _ _ h0 h1 h2 hw2
  rw [hw2]
  have HF := Aside0.mk x0
  have HR := Aside0.mk x1
  have HS := Aside0.mk x2
  have HB2 := Aside0.mk (below_then HB1.out HB1.out.size hB)
  have HSZ := Aside0.mk hsz
  have HN := Aside0.mk hn5
  have HRB := Aside0.mk hrb
  have HRW := Aside0.mk hraw
  have HDF := Aside0.mk hdf
  have HXB := Aside0.mk hx
  clear x0 x1 x2 hB hsz h0 h1 h2 hw2 hn hmo e1
  have HRD : Aside0 (∀ W gm gb c3, Below w2.heap.size w2 W → w2.heap.size ≤ gm → gb ≠ gm → BK W gb (bsec n (raw % 256) (raw / 256)) → 16 + 8 * n ≤ c3 → W.heap[gm]? = some (.cells #[.int .i64 1099511627776, .bool false] 101 (0, 0)) →
      Calls Try.prog 7 #[.agg #[.slice (some ⟨b1, 0, none⟩) 1 1, .slice none 0 0, .int .i64 0], .slice (some ⟨gb, 0, none⟩) (16 + 8 * n) c3, .pointer (some ⟨gm, 0, none⟩)] W fun e w' => ∃ (L : Loc) (s' : Mt), e = .returned (.tuple #[.iface 80 (.agg #[.pointer (some ⟨L.gx, 0, none⟩), .int .i64 0, .int .i64 (secP n).pos, .int .i64 (secP n).data, .int .i64 0]), .int .i64 0]) ∧ MS (msgM [rX 7 df] [] 0 (bsec n (raw % 256) (raw / 256))) L w' s' ∧ Below w2.heap.size w2 w') := ⟨fun W gm gb c3 hW hgm hgb hbk hc3 hmm => by
    have hrr := HRB.out
    have hlo : 0 ≤ raw % 256 ∧ raw % 256 < 256 := by omega
    have hhi : 0 ≤ raw / 256 ∧ raw / 256 < 256 := by omega
    have hx := read_blocks (b := bsec n (raw % 256) (raw / 256)) HF.out HR.out hW hgm hgb c3 (fun V hV => (hbk.of hV).C (by rw [bsec_len]; have := HN.out; omega)) hbk.lt (by rw [bsec_len]; exact hc3) hmm ⟨by decide, by decide⟩ ⟨by decide, by decide⟩ (by decide) (by decide) (by decide) (by decide) (by have := HDF.out; omega) (bsec_bytes HN.out hlo hhi) (sec_head HN.out _ _)
    rw [bsec_len] at hx
    refine hx.mono ?_
    rintro e w' ⟨L, hLm, hLx, he, hM, hT⟩
    refine ⟨L, _, ?_, hM, hT.below hW hW.size hgm hgm⟩
    rw [he]
    unfold rdV
    rw [if_pos (sec_read HN.out _ _ _), sec_root HN.out]
    have : (secP n).ptrs = 0 := by unfold secP; split <;> rfl
    simp only [this]
    rfl⟩
  have HNEW := Aside0.mk (fun W => enough_any W)
  obtain ⟨i0, hi0, hz0, hz1, hz2⟩ := info_parts info5
  rcases Nat.eq_zero_or_pos n with hz | hp
  · subst hz
    have es0 : (secP 0).pos = 0 := rfl
    have es1 : (secP 0).data = 0 := rfl
    simp only [es0, es1] at HRD
    clear es0 es1
    have hb3 := below_alloc (Below.refl w2.heap.size w2) (.cells #[.int .u8 0, .int .u8 0, .int .u8 0, .int .u8 0, .int .u8 1, .int .u8 0, .int .u8 0, .int .u8 0, .int .u8 0, .int .u8 0, .int .u8 0, .int .u8 0, .int .u8 0, .int .u8 0, .int .u8 0, .int .u8 0] 5)
    have hn3 := heap_alloc_new w2 (.cells #[.int .u8 0, .int .u8 0, .int .u8 0, .int .u8 0, .int .u8 1, .int .u8 0, .int .u8 0, .int .u8 0, .int .u8 0, .int .u8 0, .int .u8 0, .int .u8 0, .int .u8 0, .int .u8 0, .int .u8 0, .int .u8 0] 5)
    go_upto_region 7 with ((with_reducible refine gate_builtin (b := .append) (xs := #[.tmp 36, .tmp 38]) rfl ?_); at_builtin; refine Lib.wpList_append_run _ rfl (.tmp 36) (.tmp 38) 37 3 rfl (.slice (some ⟨w2.heap.size, 0, none⟩) 16 16) (.int .i64 0) rfl rfl _ _ (append_none _ _ 16 16 (by decide)) ?_)
    obtain ⟨gb, hgb⟩ : ∃ gb, w2.heap.size = gb := ⟨_, rfl⟩
    obtain ⟨w3, hw3⟩ : ∃ w3, w2.alloc (.cells #[.int .u8 0, .int .u8 0, .int .u8 0, .int .u8 0, .int .u8 1, .int .u8 0, .int .u8 0, .int .u8 0, .int .u8 0, .int .u8 0, .int .u8 0, .int .u8 0, .int .u8 0, .int .u8 0, .int .u8 0, .int .u8 0] 5) = w3 := ⟨_, rfl⟩
    rw [hw3] at hb3 hn3 ⊢
    rw [hgb] at hn3 ⊢
    have hb4 := below_alloc (Below.refl w3.heap.size w3) (.cells #[.int .u8 252, .int .u8 255, .int .u8 255, .int .u8 255] 5)
    have hn4 := heap_alloc_new w3 (.cells #[.int .u8 252, .int .u8 255, .int .u8 255, .int .u8 255] 5)
    obtain ⟨gc, hgc⟩ : ∃ gc, w3.heap.size = gc := ⟨_, rfl⟩
    obtain ⟨w4, hw4⟩ : ∃ w4, w3.alloc (.cells #[.int .u8 252, .int .u8 255, .int .u8 255, .int .u8 255] 5) = w4 := ⟨_, rfl⟩
    rw [hw4] at hb4 hn4
    rw [hgc] at hn4
    have hcut : ∀ W : World, (Instr.slice 37 (.slice (some ⟨gb, 0, none⟩) 16 16) (some (.int .i64 8)) none none).run Try.prog W = .ok (.slice (some ⟨gb, 8, none⟩) 8 8) W := cut_from 37 5 .i64 Try.underlying37 hi0 1 hz1 (some ⟨gb, 0, none⟩) 16 16 8 (by decide) (by decide)
    have hcp := copy0 (raw % 256) (raw / 256) ((hb4.block _ (blk_lt hn3)).trans hn3) hn4
    obtain ⟨w5, hrun, hbk, hg5⟩ := hcp
    have HBK5 := Aside0.mk hbk
    have HB25 : Aside0 (Below w2.heap.size w2 w5) := ⟨below_then hb3 hb3.size hb4 |>.grown hg5 (by have := hb3.size; have := hb4.size; omega) (fun k e => by injection e with e; omega)⟩
    clear hb3 hn3 hb4 hn4 hbk hg5 hw3 hi0 hz0 hz1 hz2
    go_upto_region 10 with (fail)
    clear hcut hrun
    go_loopg [11] 1 (fun kq v11 wr => v11 = .int .i64 16 ∧ Aside0 (wr = w5))
    case atStart => exact ⟨rfl, ⟨rfl⟩⟩
    case round =>
      obtain ⟨rfl, hwr⟩ := hrel
      rw [hwr.out]
      go_upto_region 15 with (fail)
      have HBK := HBK5
      have HBT := HB25
      have HXS : Aside0 (∀ W, Below w2.heap.size w2 W → W.cell? ⟨b2, 0, none⟩ = some (.slice (some ⟨b1, 0, none⟩) 1 1) ∧ W.cell? ⟨b2, 1, none⟩ = some (.slice none 0 0) ∧ W.cell? ⟨b2, 2, none⟩ = some (.int .i64 0)) := ⟨fun W hW => ⟨pw_cell_below hW ((blk_cell HS.out 0).trans rfl), pw_cell_below hW ((blk_cell HS.out 1).trans rfl), pw_cell_below hW ((blk_cell HS.out 2).trans rfl)⟩⟩
      obtain ⟨s0, s1, s2⟩ := HXS.out w5 HBT.out
      go_region_held3 (fun W => W.cell? ⟨b2, 0, none⟩ = some (.slice (some ⟨b1, 0, none⟩) 1 1) ∧ W.cell? ⟨b2, 1, none⟩ = some (.slice none 0 0) ∧ W.cell? ⟨b2, 2, none⟩ = some (.int .i64 0))
        (first | go_keep | with_reducible exact ⟨s0, s1, s2⟩ | with_reducible exact ⟨z0, z1, z2⟩ | with_reducible exact ⟨y0, y1, y2⟩)
        (first
          | (go_at_call 8; (with_reducible refine (HNEW.out _).mono ?_); rintro e w6 ⟨g6, rfl, hm6, hg6, hb6⟩
             have hX : Below w2.heap.size w2 w5.drew := below_drew HBT.out
             have HM6 := Aside0.mk hm6
             have HB6 := Aside0.mk (below_then hX hX.size hb6)
             have HG6 : Aside0 (w2.heap.size ≤ g6 ∧ gb ≠ g6) := ⟨Nat.le_trans hX.size hg6, Nat.ne_of_lt (Nat.lt_of_lt_of_le HBK.out.lt hg6)⟩
             have HBK6 := Aside0.mk (HBK.out.of (hb6.block gb HBK.out.lt))
             obtain ⟨z0, z1, z2⟩ := HXS.out w6 HB6.out
             clear hX hm6 hg6 hb6)
          | (go_at_call 7; refine (HRD.out w6 g6 gb 16 HB6.out HG6.out.1 HG6.out.2 HBK6.out (by decide) HM6.out).mono ?_
             rintro e w7 ⟨L, s', rfl, hM, hb7⟩
             have HM7 := Aside0.mk hM; have HB7 := Aside0.mk hb7
             obtain ⟨y0, y1, y2⟩ := HXS.out w7 HB7.out
             clear hM hb7))
      have HNUM : Aside0 (Calls Try.prog 49 #[.agg #[.pointer (some ⟨L.gx, 0, none⟩), .int .i64 0, .int .i64 0, .int .i64 0, .int .i64 0], .int .i64 0] w7 fun e w' => e = .returned (.int .u64 df) ∧ Below w7.heap.size w7 w') := ⟨by
        have hx := rnum_any HM7.out 0 0 0 0 0 (by show 0 < 1; decide) (by show 0 < 1; decide) (by show (0 : Int) < bitsM 7; decide) ⟨by decide, by decide⟩ ⟨by decide, by decide⟩
        have e : numM (msgM [rX 7 df] [] 0 (bsec 0 (raw % 256) (raw / 256))).b (rd_T29 (rd_T32 (msgM [rX 7 df] [] 0 (bsec 0 (raw % 256) (raw / 256))).st ((0 : Nat) : Int)).f1 ((0 : Nat) : Int)).f1.f0 (rd_T29 (rd_T32 (msgM [rX 7 df] [] 0 (bsec 0 (raw % 256) (raw / 256))).st ((0 : Nat) : Int)).f1 ((0 : Nat) : Int)).f2 0 0 (rd (rd_T72 (msgM [rX 7 df] [] 0 (bsec 0 (raw % 256) (raw / 256))).rows ((0 : Nat) : Int)).f2 ((0 : Nat) : Int)) = df := sec_num0 df HDF.out _ _
        rw [e] at hx
        exact hx⟩
      have hmt := num_method
      go_wp2_with (go_at_call 49; (with_reducible refine HNUM.out.mono ?_); rintro e w8 ⟨rfl, hb⟩; have HB8 := Aside0.mk (below_then HB7.out HB7.out.size hb); clear hb)
      go_ret
      exact ⟨rfl, below_then HB2.out HB2.out.size HB8.out⟩
  · have es0 : (secP n).pos = 1 := by unfold secP; rw [if_neg (by omega)]
    have es1 : (secP n).data = n := by unfold secP; rw [if_neg (by omega)]
    simp only [es0, es1] at HRD
    clear es0 es1
    have hd0 : decide ((0 : Int) < (n : Int)) = true := decide_eq_true (by omega)
    have hd1 : ((n : Int) == 0) = false := by simp; omega
    have k8 : IntKind.i64.wrap (8 * (n : Int)) = 8 * (n : Int) := by rw [IntKind.wrap_i64]; omega
    obtain ⟨h16, hh16⟩ : ∃ h16 : Array Value, #[Value.int .u8 0, .int .u8 0, .int .u8 0, .int .u8 0, .int .u8 (1 + n), .int .u8 0, .int .u8 0, .int .u8 0, .int .u8 0, .int .u8 0, .int .u8 0, .int .u8 0, .int .u8 n, .int .u8 0, .int .u8 0, .int .u8 0] = h16 := ⟨_, rfl⟩
    have hb3 := below_alloc (Below.refl w2.heap.size w2) (.cells h16 5)
    have hn3 := heap_alloc_new w2 (.cells h16 5)
    obtain ⟨w3, hw3⟩ : ∃ w3, w2.alloc (.cells h16 5) = w3 := ⟨_, rfl⟩
    rw [hw3] at hb3 hn3
    have happ := append_zeros n hp hn5 hi0 hz0 hz1 hz2 (by rw [hh16]; exact hn3)
    obtain ⟨w4, cp, hrun, hcp, hbk, hb4⟩ := happ
    have HRUN := Aside0.mk hrun
    have HBK4 := Aside0.mk hbk
    have HB24 := Aside0.mk (below_then hb3 hb3.size hb4)
    have HCP := Aside0.mk hcp
    have HGB : Aside0 (w2.heap.size ≤ w3.heap.size) := ⟨hb3.size⟩
    have HEQ := Aside0.mk (And.intro hh16 hw3)
    clear hb3 hn3 hrun hbk hb4 hcp hi0 hz0 hz1 hz2 hh16 hw3
    go_upto_region 7 with ((with_reducible refine gate_builtin (b := .append) (xs := #[.tmp 36, .tmp 38]) rfl ?_); at_builtin; rw [HEQ.out.1, HEQ.out.2]; refine Lib.wpList_append_run _ rfl (.tmp 36) (.tmp 38) 37 3 rfl (.slice (some ⟨w2.heap.size, 0, none⟩) 16 16) (.int .i64 (8 * n)) rfl rfl _ _ HRUN.out ?_)
    obtain ⟨gb, hgb⟩ : ∃ gb, w3.heap.size = gb := ⟨_, rfl⟩
    rw [hgb] at HBK4 HGB ⊢
    clear hgb
    obtain ⟨len, hlen⟩ : ∃ len, 16 + 8 * n = len := ⟨_, rfl⟩
    have HLEN := Aside0.mk hlen
    rw [hlen]
    have hlb : len ≤ 48 := by omega
    clear hlen
    go_upto_region 10 with (fail)
    go_loopg [11] (8 * n + 1) (fun kq v11 wr => ∃ m : Nat, v11 = .int .i64 ((16 + m : Nat) : Int) ∧ Aside0 (m ≤ 8 * n) ∧ Aside0 (8 * n < kq + m) ∧ Aside0 (BK wr gb (hsec n ++ (List.replicate m 165 ++ List.replicate (8 * n - m) 0))) ∧ Aside0 (Below w2.heap.size w2 wr) ∧ Aside0 (w2.heap.size ≤ gb))
    case atStart => exact ⟨0, rfl, ⟨Nat.zero_le _⟩, ⟨by omega⟩, ⟨HBK4.out⟩, HB24, HGB⟩
    case round =>
      obtain ⟨m, rfl, HM, HMK, HBKm, HBm, HGBm⟩ := hrel
      have two : (m < 8 * n ∧ decide (((16 + m : Nat) : Int) < (len : Int)) = true ∧ decide (16 + m < len) = true ∧ decide ((16 : Int) + (m : Int) < (len : Int)) = true) ∨ (m = 8 * n ∧ decide (((16 + m : Nat) : Int) < (len : Int)) = false ∧ decide (16 + m < len) = false ∧ decide ((16 : Int) + (m : Int) < (len : Int)) = false) := by
        have h1 := HM.out
        have h2 := HLEN.out
        by_cases c : m < 8 * n
        · exact .inl ⟨c, decide_eq_true (by omega), decide_eq_true (by omega), decide_eq_true (by omega)⟩
        · exact .inr ⟨by omega, decide_eq_false (by omega), decide_eq_false (by omega), decide_eq_false (by omega)⟩
      rcases two with ⟨c, d1, d2, d3⟩ | ⟨c, d1, d2, d3⟩
      · have hbk := HBKm.out
        obtain ⟨hcell, hfr⟩ := hbk.cell (16 + m) 0 (sec_at n m c)
        have hset := hbk.set (16 + m) 165
        rw [sec_set n m c] at hset
        obtain ⟨ix, hix⟩ : ∃ ix, 16 + m = ix := ⟨_, rfl⟩
        have hixi : (16 : Int) + (m : Int) = (ix : Int) := by omega
        rw [hix] at hcell hfr hset d1 d2 ⊢
        rw [hixi] at d3
        have i0 : (0 : Int) ≤ (ix : Int) := Int.natCast_nonneg _
        have i1 : (ix : Int) < (len : Int) := of_decide_eq_true d1
        have wi : IntKind.i64.wrap ((ix : Int) + 1) = (ix : Int) + 1 := by rw [IntKind.wrap_i64]; omega
        obtain ⟨k, rfl⟩ : ∃ k, gk = k + 1 := ⟨gk - 1, by have := HMK.out; omega⟩
        have HSET := Aside0.mk hset
        have HIX := Aside0.mk hix
        have HC := Aside0.mk c
        have HB5 : Aside0 (Below w2.heap.size w2 (wr.setCell ⟨gb, ix, none⟩ (.int .u8 165))) := ⟨Below.setCell HBm.out (p := ⟨gb, ix, none⟩) HGBm.out _⟩
        clear hbk hset hix hixi c
        go_wp2_with (fail)
        go_roundg k
        case measure => omega
        case rel => exact ⟨m + 1, by rw [show (16 + (m + 1) : Nat) = ix + 1 by have := HIX.out; omega]; go_num, ⟨by have := HC.out; omega⟩, ⟨by have := HMK.out; omega⟩, ⟨HSET.out⟩, HB5, HGBm⟩
      · have hbk := HBKm.out
        rw [c, Nat.sub_self, List.replicate_zero, List.append_nil] at hbk
        have hrb2 := HRB.out
        have k5 : IntKind.u8.wrap raw = raw % 256 := by simp only [IntKind.wrap, IntKind.bits, IntKind.signed]; simp
        have k6 : IntKind.u8.wrap (raw / 256) = raw / 256 := by simp only [IntKind.wrap, IntKind.bits, IntKind.signed]; simp; omega
        obtain ⟨ha, fa⟩ := hbk.cell 16 165 (by rw [sec_two n hp]; rfl)
        obtain ⟨hb17, fb⟩ := hbk.cell 17 165 (by rw [sec_two n hp]; rfl)
        have hset := (hbk.set 16 (raw % 256)).set 17 (raw / 256)
        rw [sec_fin n hp] at hset
        have HSET := Aside0.mk hset
        have hBb := Below.setCell (Below.setCell HBm.out (p := ⟨gb, 16, none⟩) HGBm.out (.int .u8 (raw % 256))) (p := ⟨gb, 17, none⟩) HGBm.out (.int .u8 (raw / 256))
        have HBT' := Aside0.mk hBb
        have hl16 : (16 : Int) < (len : Int) := by have := HLEN.out; omega
        have hl17 : (17 : Int) < (len : Int) := by have := HLEN.out; omega
        have HBW := Aside0.mk hbk.lt
        clear c hbk hset hBb
        go_upto_region 15 with (fail)
        obtain ⟨w5, hw5⟩ : ∃ w5, (wr.setCell ⟨gb, 16, none⟩ (.int .u8 (raw % 256))).setCell ⟨gb, 17, none⟩ (.int .u8 (raw / 256)) = w5 := ⟨_, rfl⟩
        rw [hw5] at HSET HBT' ⊢
        have HBK : Aside0 (BK w5 gb (bsec n (raw % 256) (raw / 256))) := ⟨HSET.out⟩
        have HBT := HBT'
        rw [HLEN.out] at HRD
        clear ha fa hb17 fb hw5 hrb2 k5 k6
        have HXS : Aside0 (∀ W, Below w2.heap.size w2 W → W.cell? ⟨b2, 0, none⟩ = some (.slice (some ⟨b1, 0, none⟩) 1 1) ∧ W.cell? ⟨b2, 1, none⟩ = some (.slice none 0 0) ∧ W.cell? ⟨b2, 2, none⟩ = some (.int .i64 0)) := ⟨fun W hW => ⟨pw_cell_below hW ((blk_cell HS.out 0).trans rfl), pw_cell_below hW ((blk_cell HS.out 1).trans rfl), pw_cell_below hW ((blk_cell HS.out 2).trans rfl)⟩⟩
        obtain ⟨s0, s1, s2⟩ := HXS.out w5 HBT.out
        go_region_held3 (fun W => W.cell? ⟨b2, 0, none⟩ = some (.slice (some ⟨b1, 0, none⟩) 1 1) ∧ W.cell? ⟨b2, 1, none⟩ = some (.slice none 0 0) ∧ W.cell? ⟨b2, 2, none⟩ = some (.int .i64 0))
          (first | go_keep | with_reducible exact ⟨s0, s1, s2⟩ | with_reducible exact ⟨z0, z1, z2⟩ | with_reducible exact ⟨y0, y1, y2⟩)
          (first
            | (go_at_call 8; (with_reducible refine (HNEW.out _).mono ?_); rintro e w6 ⟨g6, rfl, hm6, hg6, hb6⟩
               have hX : Below w2.heap.size w2 w5.drew := below_drew HBT.out
               have HM6 := Aside0.mk hm6
               have HB6 := Aside0.mk (below_then hX hX.size hb6)
               have HG6 : Aside0 (w2.heap.size ≤ g6 ∧ gb ≠ g6) := ⟨Nat.le_trans hX.size hg6, Nat.ne_of_lt (Nat.lt_of_lt_of_le HBK.out.lt hg6)⟩
               have HBK6 := Aside0.mk (HBK.out.of (hb6.block gb HBK.out.lt))
               obtain ⟨z0, z1, z2⟩ := HXS.out w6 HB6.out
               clear hX hm6 hg6 hb6)
            | (go_at_call 7; refine (HRD.out w6 g6 gb cp HB6.out HG6.out.1 HG6.out.2 HBK6.out (by rw [← HLEN.out]; exact HCP.out) HM6.out).mono ?_
               rintro e w7 ⟨L, s', rfl, hM, hb7⟩
               have HM7 := Aside0.mk hM; have HB7 := Aside0.mk hb7
               obtain ⟨y0, y1, y2⟩ := HXS.out w7 HB7.out
               clear hM hb7))
        have HNUM : Aside0 (Calls Try.prog 49 #[.agg #[.pointer (some ⟨L.gx, 0, none⟩), .int .i64 0, .int .i64 1, .int .i64 n, .int .i64 0], .int .i64 0] w7 fun e w' => e = .returned (.int .u64 x) ∧ Below w7.heap.size w7 w') := ⟨by
          have hx := rnum_any HM7.out 0 0 1 n 0 (by show 0 < 1; decide) (by show 0 < 1; decide) (by show (0 : Int) < bitsM 7; decide) ⟨by decide, by decide⟩ (by have := HN.out; omega)
          have e : numM (msgM [rX 7 df] [] 0 (bsec n (raw % 256) (raw / 256))).b (rd_T29 (rd_T32 (msgM [rX 7 df] [] 0 (bsec n (raw % 256) (raw / 256))).st ((0 : Nat) : Int)).f1 ((0 : Nat) : Int)).f1.f0 (rd_T29 (rd_T32 (msgM [rX 7 df] [] 0 (bsec n (raw % 256) (raw / 256))).st ((0 : Nat) : Int)).f1 ((0 : Nat) : Int)).f2 1 n (rd (rd_T72 (msgM [rX 7 df] [] 0 (bsec n (raw % 256) (raw / 256))).rows ((0 : Nat) : Int)).f2 ((0 : Nat) : Int)) = x := sec_num HN.out hp x df HXB.out HDF.out raw HRW.out.symm
          rw [e] at hx
          exact hx⟩
        have hmt := num_method
        go_wp2_with (go_at_call 49; (with_reducible refine HNUM.out.mono ?_); rintro e w8 ⟨rfl, hb⟩; have HB8 := Aside0.mk (below_then HB7.out HB7.out.size hb); clear hb)
        go_ret
        exact ⟨rfl, below_then HB2.out HB2.out.size HB8.out⟩
end Go.Proofs.Ytjgjidehlldfhaa.Hand
end

section
/- Layer 8, capread: Sections, as the row asks it. -/
namespace Go.Proofs.Ytjgjidehlldfhaa.Hand
open Go.RowKit
theorem wf_u16 {n : Int} (h : (Lit.int .u16 n).wf = true) : 0 ≤ n ∧ n < 65536 := by
  simp [Lit.wf, IntKind.min, IntKind.max, IntKind.bits, IntKind.signed] at h; omega
theorem sections_row (x more df : Int) (w : World) (h0 : (Lit.int .u16 x).wf = true) (h1 : (Lit.int .u8 more).wf = true) (h2 : (Lit.int .u8 df).wf = true) :
    Calls Try.prog 3 #[.int .u16 x, .int .u8 more, .int .u8 df] w fun e w' => e = .returned (.bool true) ∧ Below w.heap.size w w' :=
  sections_walk x more df (wf_u16 h0) (U.wf_u8 h1) (U.wf_u8 h2) w
end Go.Proofs.Ytjgjidehlldfhaa.Hand
end
