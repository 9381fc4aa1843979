/- Layer 13, scan: the walk of the document's Quoted. -/
import Derived.Test.YtonekmigcpgdeaaS18
import Derived.Lib.AppendStr
namespace Go.Proofs.Ytonekmigcpgdeaa.Hand
open Go.RowKit Go.Proofs.Ytonekmigcpgdeaa.QAll Go.Proofs.YtonekmigcpgdeaaW.PrintWords Go.Proofs.YtonekmigcpgdeaaW.PrintLast Go.Proofs.YtonekmigcpgdeaaW.PrintMore Go.Proofs.Ytonekmigcpgdeaa.Runes
set_option linter.unusedVariables false
set_option linter.unusedSimpArgs false
theorem strCells_nums (l : List Int) (hb : ∀ x ∈ l, 0 ≤ x ∧ x < 256) : Lib.strCells (strOfNums l) = encs (Value.int .u8) l := by
  unfold Lib.strCells strOfNums encs
  simp only [List.map_map]
  apply List.map_congr_left
  intro x hx
  have := hb x hx
  simp
  omega
theorem qfs_take (l : List Int) (i : Nat) (h : i < l.length) : qfs (l.take (i + 1)) = qfs (l.take i) ++ qf l[i] := by
  rw [List.take_succ_eq_append_getElem h, qfs_append]; simp [qfs]
theorem qfs_take_length (l : List Int) (i : Nat) : (qfs (l.take i)).length ≤ 6 * l.length := by
  have := qfs_length (l.take i)
  rw [List.length_take] at this
  omega
set_option maxHeartbeats 6400000 in
set_option maxRecDepth 100000 in
theorem refquoted_any (A : Option Addr) (c : Nat) (l : List Int) (w : World) (hr : Kd.C (Kd.int .u8) w A l.length l) (hc : l.length ≤ c) (hl : l.length ≤ 100000) (hb : ∀ x ∈ l, 0 ≤ x ∧ x < 256) :
    Calls Try.prog 12 #[.slice A l.length c] w fun e w' => e = .returned (.string (strOfNums (quoted l))) ∧ Below w.heap.size w w' := by
  have HR := Aside0.mk hr
  have HC := Aside0.mk hc
  have HL := Aside0.mk hl
  have HBY := Aside0.mk hb
  clear hr hc hl hb
  go_enter Try.func12, Try.ntmps12
  go_wp2
  go_loopg [3, 6] (l.length + 1) (fun kq v3 v6 wr => ∃ (i : Nat), v6 = .int .i64 i ∧ Aside0 (i ≤ l.length) ∧ Aside0 (l.length < kq + i) ∧ Aside0 (wr.ownsRow w.heap.size 5 1 v3 (34 :: qfs (l.take i)).length (encs (Value.int .u8) (34 :: qfs (l.take i)))) ∧ Aside0 (Below w.heap.size w wr))
  case atStart => exact ⟨0, rfl, ⟨Nat.zero_le _⟩, ⟨by omega⟩, ⟨World.ownsRow_lit w #[.int .u8 34] 1 (Nat.le_refl _) (by decide) rfl⟩, ⟨below_alloc (Below.refl _ _) _⟩⟩
  case round =>
    obtain ⟨i, rfl, HI, HK, HOWN, HB⟩ := hrel
    have k0 : (0 : Int) ≤ (i : Int) := Int.natCast_nonneg _
    by_cases hlt : i < l.length
    · obtain ⟨Ao, co, rfl, hoc⟩ := own_form HOWN.out
      obtain ⟨ad, rfl⟩ := addr_of HR.out (by omega)
      have hx := cell_at (Kd.C_below HR.out HB.out) i hlt
      have hbx := HBY.out _ (List.getElem_mem hlt)
      have hq := qfs_take l i hlt
      obtain ⟨x, hxx⟩ : ∃ x, l[i] = x := ⟨_, rfl⟩
      rw [hxx] at hx hbx hq
      have HQ := Aside0.mk hq
      have HX := Aside0.mk hbx
      have HXX : Aside0 (∀ h : i < l.length, l[i] = x) := ⟨fun _ => hxx⟩
      obtain ⟨o, ho⟩ : ∃ o, 34 :: qfs (l.take i) = o := ⟨_, rfl⟩
      have HOL : Aside0 (o.length ≤ 6 * l.length + 1) := ⟨by rw [← ho]; have := qfs_take_length l i; simp; omega⟩
      have HOQ : Aside0 (34 :: qfs (l.take (i + 1)) = o ++ qf x) := ⟨by rw [HQ.out, ← ho]; rfl⟩
      rw [ho] at HOWN ⊢
      have d0 : decide (i < l.length) = true := decide_eq_true hlt
      have d1 : decide ((i : Int) < (l.length : Int)) = true := decide_eq_true (by omega)
      have k1 : (i : Int) < (l.length : Int) := by omega
      obtain ⟨ii, hii⟩ : ∃ ii, ii = i + 1 := ⟨_, rfl⟩
      have HII := Aside0.mk hii
      have wi : IntKind.i64.wrap ((i : Int) + 1) = (ii : Int) := by rw [IntKind.wrap_i64]; have := HL.out; omega
      have eii : ii - i = 1 := by omega
      have k2 : (i : Int) ≤ (ii : Int) := by omega
      have k3 : (ii : Int) ≤ (c : Int) := by have := HC.out; omega
      have k4 : ¬ c = i := by have := HC.out; omega
      have HLT := Aside0.mk hlt
      obtain ⟨n, rfl⟩ : ∃ n, gk = n + 1 := ⟨gk - 1, by have := HK.out; omega⟩
      clear hxx hbx hq ho hoc hlt hii
      go_wp2_with (fail)
      go_loopg [7] 8 (fun kq v7 wr2 => ∃ (k m : Nat), v7 = .int .i64 k ∧ Aside0 (k ≤ kx x) ∧ Aside0 (8 ≤ kq + k) ∧ wr2 = wr.drewN m)
      case atStart => exact ⟨0, 0, rfl, ⟨Nat.zero_le _⟩, ⟨by omega⟩, rfl⟩
      case round =>
        obtain ⟨k, m, rfl, HKX, HKK, rfl⟩ := hrel
        have j0 : (0 : Int) ≤ (k : Int) := Int.natCast_nonneg _
        have HB5 : Aside0 (Below w.heap.size w (wr.drewN m)) := ⟨HB.out.trans (below_from (pw_below_drewN (Below.refl _ _) m) HB.out.size)⟩
        by_cases h7 : k < 7
        · have hfs := fromS_at x k h7 HKX.out
          have hbt : ∀ h : k < (⟨#[34, 92, 8, 9, 10, 12, 13]⟩ : ByteArray).size, (((⟨#[34, 92, 8, 9, 10, 12, 13]⟩ : ByteArray)[k]'h).toNat : Int) = bt fromS (k : Int) := fun h => bt_at fromS (k : Int) h
          obtain ⟨y, hy⟩ : ∃ y, bt fromS (k : Int) = y := ⟨_, rfl⟩
          rw [hy] at hbt hfs
          have e0 : decide (k < 7) = true := decide_eq_true h7
          have e1 : decide ((k : Int) < 7) = true := decide_eq_true (by omega)
          have j1 : (k : Int) < 7 := by omega
          have wk : IntKind.i64.wrap ((k : Int) + 1) = (k : Int) + 1 := by rw [IntKind.wrap_i64]; omega
          by_cases hkx : k = kx x
          · have q1 : (y == x) = true := by simp [hfs.2 hkx]
            have HE : Aside0 (qf x = [92, toL k]) := ⟨by unfold qf; rw [← hkx, if_pos h7]⟩
            clear hfs hkx hy
            go_upto_region 7 with (fail)
            go_quiet (fail)
            rename_i nq
            have HD5 : Aside0 (Below wr.heap.size wr ((wr.drewN m).drewN nq)) := ⟨(pw_below_drewN (Below.refl _ _) m).trans (below_from (pw_below_drewN (Below.refl _ _) nq) (Nat.le_refl _))⟩
            obtain ⟨w5, hw5⟩ : ∃ w5, (wr.drewN m).drewN nq = w5 := ⟨_, rfl⟩
            rw [hw5] at HD5 ⊢
            have HB6 : Aside0 (Below w.heap.size w w5) := ⟨HB.out.trans (below_from HD5.out HB.out.size)⟩
            have HO6 : Aside0 (w5.ownsRow w.heap.size 5 1 (.slice Ao o.length co) o.length (encs (Value.int .u8) o)) := ⟨own_below HOWN.out HD5.out⟩
            have hx5 : w5.cell? (ad.add i) = some (.int .u8 x) := (HD5.out.cell (World.block_lt_of_cell? wr _ hx)).trans hx
            obtain ⟨i0, hi, hz0, hz1, hz2⟩ := info_parts info5
            have HI5 := Aside0.mk hi
            clear hw5 hi hx HOWN HB HB5
            have hbt2 : ∀ h : k < (⟨#[34, 92, 98, 116, 110, 102, 114]⟩ : ByteArray).size, (((⟨#[34, 92, 98, 116, 110, 102, 114]⟩ : ByteArray)[k]'h).toNat : Int) = toL k := fun h => (bt_at toS (k : Int) h).trans (toS_at k h7)
            clear hbt wk
            obtain ⟨t, ht⟩ : ∃ t, toL k = t := ⟨_, rfl⟩
            rw [ht] at hbt2 HE
            clear ht
            go_wp2_with ((with_reducible refine gate_builtin (b := .append) (xs := #[.tmp 35, .tmp 39]) rfl ?_); at_builtin; refine wpList_append_own _ rfl (.tmp 35) (.tmp 39) 24 rfl w.heap.size 5 i0 (.int .u8 0) 1 1 Try.underlying24 HI5.out hz0 hz1 hz2 rfl (by decide) (.slice Ao o.length co) o.length (encs (Value.int .u8) o) rfl (HO6.out.alloc _) ⟨w5.heap.size, 0, none⟩ 2 2 [.int .u8 92, .int .u8 t] rfl rfl ?c1 ?c2 ?c3 ?c4 ?c5 ?_)
            case c1 =>
              intro j u hj
              match j, hj with
              | 0, hj => simp at hj; subst hj; simp [Addr.add]
              | 1, hj => simp at hj; subst hj; simp [Addr.add]
              | (j + 2), hj => simp at hj
            case c2 => intro u hu; simp at hu; rcases hu with rfl | rfl <;> rfl
            case c3 => unfold maxLen; have := HOL.out; have := HL.out; omega
            case c4 => have := HOL.out; have := HL.out; omega
            case c5 => have := HB6.out.size; simp; omega
            intro v9 w9 ho9 hg9 _
            have HO9 : Aside0 (w9.ownsRow w.heap.size 5 1 v9 (34 :: qfs (l.take (i + 1))).length (encs (Value.int .u8) (34 :: qfs (l.take (i + 1))))) := ⟨by rw [HOQ.out, HE.out, encs_append, List.length_append]; exact ho9⟩
            have HB9 : Aside0 (Below w.heap.size w w9) := ⟨below_own (below_alloc HB6.out _) hg9 (own_base HO6.out)⟩
            clear ho9 hg9
            go_wp2_with (fail)
            go_roundg n
            case measure => omega
            case rel => exact ⟨i + 1, by rw [HII.out], ⟨by have := HLT.out; omega⟩, ⟨by have := HK.out; omega⟩, HO9, HB9⟩
          · have q1 : (y == x) = false := by
              rw [beq_eq_false_iff_ne]; intro e; exact hkx (hfs.1 e)
            have HK2 : Aside0 (k + 1 ≤ kx x) := ⟨by have := HKX.out; omega⟩
            obtain ⟨n2, rfl⟩ : ∃ n2, gk = n2 + 1 := ⟨gk - 1, by have := HKK.out; omega⟩
            clear hfs hkx hy
            go_upto_region 7 with (fail)
            go_quiet (fail)
            go_wp2_with (fail)
            go_roundg n2
            case measure => omega
            case rel => exact ⟨k + 1, _, by go_num, HK2, ⟨by have := HKK.out; omega⟩, rfl⟩
        · have e0 : decide (k < 7) = false := decide_eq_false h7
          have e1 : decide ((k : Int) < 7) = false := decide_eq_false (by omega)
          have HE : Aside0 (kx x = 7) := ⟨by have := HKX.out; have := kx_le x; omega⟩
          go_upto_region 7 with (fail)
          go_quiet (fail)
          rename_i nq
          have HD5 : Aside0 (Below wr.heap.size wr ((wr.drewN m).drewN nq)) := ⟨(pw_below_drewN (Below.refl _ _) m).trans (below_from (pw_below_drewN (Below.refl _ _) nq) (Nat.le_refl _))⟩
          obtain ⟨w5, hw5⟩ : ∃ w5, (wr.drewN m).drewN nq = w5 := ⟨_, rfl⟩
          rw [hw5] at HD5 ⊢
          have HB6 : Aside0 (Below w.heap.size w w5) := ⟨HB.out.trans (below_from HD5.out HB.out.size)⟩
          have HO6 : Aside0 (w5.ownsRow w.heap.size 5 1 (.slice Ao o.length co) o.length (encs (Value.int .u8) o)) := ⟨own_below HOWN.out HD5.out⟩
          have hx5 : w5.cell? (ad.add i) = some (.int .u8 x) := (HD5.out.cell (World.block_lt_of_cell? wr _ hx)).trans hx
          obtain ⟨i0, hi, hz0, hz1, hz2⟩ := info_parts info5
          have HI5 := Aside0.mk hi
          clear hw5 hi hx HOWN HB HB5
          by_cases h32 : x < 32
          · have e32 : decide (x < 32) = true := decide_eq_true h32
            have HE2 : Aside0 (qf x = [92, 117, 48, 48] ++ [dg false (x / 16), dg false (x % 16)]) := ⟨by unfold qf; rw [if_neg (by have := HE.out; omega), if_pos h32]; rfl⟩
            clear h32
            go_wp2_with ((with_reducible refine gate_builtin (b := .append) (xs := #[.tmp 46, .const (.string ⟨#[92, 117, 48, 48]⟩)]) rfl ?_); at_builtin; refine Lib.wpList_append_own_string _ rfl (.tmp 46) (.const (.string ⟨#[92, 117, 48, 48]⟩)) 24 9 rfl w.heap.size 5 i0 Try.underlying24 Try.underlying9 HI5.out hz0 hz1 hz2 (.slice Ao o.length co) o.length (encs (Value.int .u8) o) rfl HO6.out ⟨#[92, 117, 48, 48]⟩ rfl ?d1 ?d2 ?d3 ?_)
            case d1 => have := HOL.out; have := HL.out; show o.length + 4 ≤ 9223372036854775807; omega
            case d2 => have := HOL.out; have := HL.out; show o.length + 4 ≤ 140737488355328; omega
            case d3 => exact HB6.out.size
            intro v8 w8 ho8 hg8 _
            have hB8 : Below w.heap.size w w8 := below_own HB6.out hg8 (own_base HO6.out)
            have HO8 : Aside0 (w8.ownsRow w.heap.size 5 1 v8 (o ++ [92, 117, 48, 48]).length (encs (Value.int .u8) (o ++ [92, 117, 48, 48]))) := ⟨by rw [encs_append, List.length_append]; exact ho8⟩
            have HB8 := Aside0.mk hB8
            obtain ⟨A8, c8, rfl, _⟩ := own_form HO8.out
            have HRD : Aside0 (Calls Try.prog 18 #[.slice (some (ad.add i)) 1 (c - i)] w8 fun e w' => e = .returned (.string (strOfNums [dg false (x / 16), dg false (x % 16)])) ∧ Drawn0 w8 w') := ⟨by
              have hC := C_part (W := w8) (k := i) (n := 1) (by have := HLT.out; omega) (by decide) (Kd.C_below HR.out hB8)
              have e1 : (l.drop i).take 1 = [x] := by rw [List.drop_eq_getElem_cons HLT.out, List.take_succ_cons, List.take_zero, HXX.out HLT.out]
              rw [e1] at hC
              exact refdigits_any (some (ad.add i)) (c - i) [x] w8 hC (by have := HLT.out; have := HC.out; show 1 ≤ c - i; omega) (by show 1 ≤ 1000000; omega) (by intro y hy; rw [List.mem_singleton.1 hy]; have := HX.out; omega)⟩
            have HSC : Aside0 (Lib.strCells (strOfNums [dg false (x / 16), dg false (x % 16)]) = encs (Value.int .u8) [dg false (x / 16), dg false (x % 16)]) := ⟨strCells_nums _ (by
              intro y hy
              have := HX.out
              simp only [List.mem_cons, List.not_mem_nil, or_false] at hy
              rcases hy with rfl | rfl <;> exact dg_byte false _ (by omega) (by omega))⟩
            have HSZ : Aside0 ((strOfNums [dg false (x / 16), dg false (x % 16)]).size = 2) := ⟨strOfNums_size _⟩
            obtain ⟨o2, ho2⟩ : ∃ o2, o ++ [92, 117, 48, 48] = o2 := ⟨_, rfl⟩
            have HO2L : Aside0 (o2.length ≤ 6 * l.length + 5) := ⟨by rw [← ho2, List.length_append]; have := HOL.out; simp; omega⟩
            have HOQ2 : Aside0 (34 :: qfs (l.take (i + 1)) = o2 ++ [dg false (x / 16), dg false (x % 16)]) := ⟨by rw [HOQ.out, HE2.out, ← ho2, List.append_assoc]⟩
            rw [ho2] at HO8 ⊢
            obtain ⟨DS, hDS⟩ : ∃ DS, strOfNums [dg false (x / 16), dg false (x % 16)] = DS := ⟨_, rfl⟩
            rw [hDS] at HRD HSC HSZ
            clear ho8 hg8 hB8 hx5 ho2 hDS
            go_upto_region 13 with (fail)
            go_wp2_with (first
              | (go_at_call 18; (with_reducible refine HRD.out.mono ?_); rintro e w10 ⟨rfl, hd10⟩; have HO10 := Aside0.mk (own_below HO8.out hd10.below); have HB10 : Aside0 (Below w.heap.size w w10) := ⟨HB8.out.trans (below_from hd10.below HB8.out.size)⟩; clear hd10)
              | ((with_reducible refine gate_builtin (b := .append) (xs := #[.tmp 48, .tmp 54]) rfl ?_); at_builtin; refine Lib.wpList_append_own_string _ rfl (.tmp 48) (.tmp 54) 24 9 rfl w.heap.size 5 i0 Try.underlying24 Try.underlying9 HI5.out hz0 hz1 hz2 (.slice A8 o2.length c8) o2.length (encs (Value.int .u8) o2) rfl HO10.out DS rfl ?f1 ?f2 ?f3 ?_))
            case f1 => rw [HSZ.out]; have := HO2L.out; have := HL.out; show o2.length + 2 ≤ 9223372036854775807; omega
            case f2 => rw [HSZ.out]; have := HO2L.out; have := HL.out; omega
            case f3 => exact HB10.out.size
            rw [HSC.out, HSZ.out]
            intro v9 w9 ho9 hg9 _
            have HO9 : Aside0 (w9.ownsRow w.heap.size 5 1 v9 (34 :: qfs (l.take (i + 1))).length (encs (Value.int .u8) (34 :: qfs (l.take (i + 1))))) := ⟨by rw [HOQ2.out, encs_append, List.length_append]; exact ho9⟩
            have HB9 : Aside0 (Below w.heap.size w w9) := ⟨below_own HB10.out hg9 (own_base HO10.out)⟩
            clear ho9 hg9
            go_wp2_with (fail)
            go_roundg n
            case measure => omega
            case rel => exact ⟨i + 1, by rw [HII.out], ⟨by have := HLT.out; omega⟩, ⟨by have := HK.out; omega⟩, HO9, HB9⟩
          · have e32 : decide (x < 32) = false := decide_eq_false h32
            have HE2 : Aside0 (qf x = [x]) := ⟨by unfold qf; rw [if_neg (by have := HE.out; omega), if_neg h32]⟩
            clear h32
            go_wp2_with ((with_reducible refine gate_builtin (b := .append) (xs := #[.tmp 56, .tmp 61]) rfl ?_); at_builtin; refine wpList_append_own _ rfl (.tmp 56) (.tmp 61) 24 rfl w.heap.size 5 i0 (.int .u8 0) 1 1 Try.underlying24 HI5.out hz0 hz1 hz2 rfl (by decide) (.slice Ao o.length co) o.length (encs (Value.int .u8) o) rfl (HO6.out.alloc _) ⟨w5.heap.size, 0, none⟩ 1 1 [.int .u8 x] rfl rfl ?c1 ?c2 ?c3 ?c4 ?c5 ?_)
            case c1 =>
              intro j u hj
              match j, hj with
              | 0, hj => simp at hj; subst hj; simp [Addr.add]
              | (j + 1), hj => simp at hj
            case c2 => intro u hu; simp at hu; subst hu; rfl
            case c3 => unfold maxLen; have := HOL.out; have := HL.out; omega
            case c4 => have := HOL.out; have := HL.out; omega
            case c5 => have := HB6.out.size; simp; omega
            intro v9 w9 ho9 hg9 _
            have HO9 : Aside0 (w9.ownsRow w.heap.size 5 1 v9 (34 :: qfs (l.take (i + 1))).length (encs (Value.int .u8) (34 :: qfs (l.take (i + 1))))) := ⟨by rw [HOQ.out, HE2.out, encs_append, List.length_append]; exact ho9⟩
            have HB9 : Aside0 (Below w.heap.size w w9) := ⟨below_own (below_alloc HB6.out _) hg9 (own_base HO6.out)⟩
            clear ho9 hg9
            go_wp2_with (fail)
            go_roundg n
            case measure => omega
            case rel => exact ⟨i + 1, by rw [HII.out], ⟨by have := HLT.out; omega⟩, ⟨by have := HK.out; omega⟩, HO9, HB9⟩
    · have d0 : decide (i < l.length) = false := decide_eq_false hlt
      have d1 : decide ((i : Int) < (l.length : Int)) = false := decide_eq_false (by omega)
      have e1 : l.take i = l := List.take_of_length_le (by omega)
      rw [e1] at HOWN
      obtain ⟨Ao, co, rfl, hoc⟩ := own_form HOWN.out
      obtain ⟨o, ho⟩ : ∃ o, 34 :: qfs l = o := ⟨_, rfl⟩
      have HOL : Aside0 (o.length ≤ 6 * l.length + 1) := ⟨by rw [← ho]; have := qfs_length l; simp; omega⟩
      have HQU : Aside0 (quoted l = o ++ [34]) := ⟨by rw [← ho]; rfl⟩
      rw [ho] at HOWN ⊢
      obtain ⟨i0, hi, hz0, hz1, hz2⟩ := info_parts info5
      have HI5 := Aside0.mk hi
      clear hoc e1 ho hlt hi
      go_wp2_with ((with_reducible refine gate_builtin (b := .append) (xs := #[.tmp 63, .tmp 64]) rfl ?_); at_builtin; refine wpList_append_own _ rfl (.tmp 63) (.tmp 64) 24 rfl w.heap.size 5 i0 (.int .u8 0) 1 1 Try.underlying24 HI5.out hz0 hz1 hz2 rfl (by decide) (.slice Ao o.length co) o.length (encs (Value.int .u8) o) rfl (HOWN.out.alloc _) ⟨wr.heap.size, 0, none⟩ 1 1 [.int .u8 34] rfl rfl ?c1 ?c2 ?c3 ?c4 ?c5 ?_)
      case c1 =>
        intro j u hj
        match j, hj with
        | 0, hj => simp at hj; subst hj; simp [Addr.add]
        | (j + 1), hj => simp at hj
      case c2 => intro u hu; simp at hu; subst hu; rfl
      case c3 => unfold maxLen; have := HOL.out; have := HL.out; omega
      case c4 => have := HOL.out; have := HL.out; omega
      case c5 => have := HB.out.size; simp; omega
      intro v9 w9 ho9 hg9 _
      have hO9 : w9.ownsRow w.heap.size 5 1 v9 (quoted l).length (encs (Value.int .u8) (quoted l)) := by rw [HQU.out, encs_append, List.length_append]; exact ho9
      have HB9 : Aside0 (Below w.heap.size w w9) := ⟨below_own (below_alloc HB.out _) hg9 (own_base HOWN.out)⟩
      obtain ⟨A9, c9, rfl, _⟩ := own_form hO9
      have vs : (convert 24 9 (.slice A9 (quoted l).length c9)).run Try.prog w9 = .ok (.string (strOfNums (quoted l))) w9 := Kd.C_string (P := Try.prog) (c := c9) Try.underlying24 Try.underlying5 Try.underlying9 (own_C hO9)
      clear ho9 hg9 hO9
      go_wp2_with (fail)
      go_ret
      exact ⟨rfl, HB9.out⟩
end Go.Proofs.Ytonekmigcpgdeaa.Hand
