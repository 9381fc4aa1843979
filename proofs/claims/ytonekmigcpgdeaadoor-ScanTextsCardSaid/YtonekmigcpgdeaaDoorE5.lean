/- Layer 13, scan: the document's reader: the walk of Text. -/
import Derived.Test.YtonekmigcpgdeaaDoorE4
namespace Go.Proofs.YtonekmigcpgdeaaDoor.Hand
open Go.RowKit Go.Proofs.YtonekmigcpgdeaaDoor.QAll Go.Proofs.YtonekmigcpgdeaaDoorW.PrintWords Go.Proofs.YtonekmigcpgdeaaDoorW.PrintLast Go.Proofs.YtonekmigcpgdeaaDoorW.PrintMore Go.Proofs.YtonekmigcpgdeaaDoor.Runes
set_option linter.unusedVariables false
set_option linter.unusedSimpArgs false
theorem C_nil8 (W : World) (X : Option Addr) : Kd.C (Kd.int .u8) W X 0 [] :=
  Kd.C_of_reads (enc := Value.int .u8) (d := (0 : Int)) (h1 := fun _ => rfl) ⟨rfl, by decide, fun h => by omega⟩
section rtext
variable {w0 w : World} {r : Nat} {A : Option Addr} {c : Nat} {b : List Int} {i : Nat}
set_option maxHeartbeats 3200000 in
set_option maxRecDepth 100000 in
theorem rtext_no (hd : Rdr w r A c b i) (hby : ∀ x ∈ b, 0 ≤ x ∧ x < 256) (hb : Below w0.heap.size w0 w) (hr : w0.heap.size ≤ r) (hC : Kd.C (Kd.int .u8) w0 A b.length b) (hs : signB b i 34 = false) :
    Calls Tryd.prog 7 #[.pointer (some ⟨r, 0, none⟩)] w (RTextPost none w0 w r b) := by
  have hsg := rsign_any 34 (by decide) hby hd
  rw [hs] at hsg
  have HSG := Aside0.mk hsg
  have HP : Aside0 (∀ w1 j, Rdr w1 r A c b j → Two r r w w1 → RS w0 w1 r b j) := ⟨fun w1 j h1 h2 => RS.of h1 hby (h2.below hb hb.size hr hr) hr hC⟩
  clear hd hby hb hr hC hs hsg
  go_enter Tryd.func7, Tryd.ntmps7
  go_wp2_with (go_at_call 20; (with_reducible refine HSG.out.mono ?_); rintro e w1 ⟨rfl, h1, h2⟩; have H1 := Aside0.mk h1; have H2 := Aside0.mk h2; clear h1 h2)
  go_ret2
  exact ⟨none, [], 0, rfl, C_nil8 _ none, ⟨_, HP.out _ _ H1.out H2.out, fun p hp => by cases hp⟩, keep_two H2.out⟩
set_option maxHeartbeats 6400000 in
set_option maxRecDepth 100000 in
theorem rtext_go (hd : Rdr w r A c b i) (hby : ∀ x ∈ b, 0 ≤ x ∧ x < 256) (hb : Below w0.heap.size w0 w) (hr : w0.heap.size ≤ r) (hC : Kd.C (Kd.int .u8) w0 A b.length b) (hT : Tabs w) (hr1 : 1 < r) (hs : signB b i 34 = true) (hlb : b.length ≤ 20000) :
    Calls Tryd.prog 7 #[.pointer (some ⟨r, 0, none⟩)] w (RTextPost (textF (b.length + 1) b (skip b i + 1) []) w0 w r b) := by
  have hsg := rsign_any 34 (by decide) hby hd
  rw [hs, if_pos rfl] at hsg
  have HSG := Aside0.mk hsg
  have HLT : Aside0 (r < w.heap.size) := ⟨blk_lt hd.sc⟩
  have HW0 : Aside0 (w0.heap.size ≤ w.heap.size) := ⟨hb.size⟩
  have HP : Aside0 (∀ w1 j, Rdr w1 r A c b j → Two r r w w1 → RS w0 w1 r b j) := ⟨fun w1 j h1 h2 => RS.of h1 hby (h2.below hb hb.size hr hr) hr hC⟩
  have HTB : Aside0 (∀ W, KeepBut w W r none → Tabs W) := ⟨fun W hW => hT.keep hW (by omega) (by omega)⟩
  have hle : skip b i + 1 ≤ b.length := by
    unfold signB at hs
    simp at hs
    omega
  have HBY := Aside0.mk hby
  have HLB := Aside0.mk hlb
  obtain ⟨i0, hi0⟩ : ∃ i0, skip b i + 1 = i0 := ⟨_, rfl⟩
  rw [hi0] at HSG hle ⊢
  have HLE := Aside0.mk hle
  obtain ⟨R, hR⟩ : ∃ R, textF (b.length + 1) b i0 [] = R := ⟨_, rfl⟩
  have HR := Aside0.mk hR
  rw [hR]
  have HNO : Aside0 (∀ (W : World) (j : Nat), R = none → RS w0 W r b j → KeepBut w W r none → RTextPost R w0 w r b (.returned (.tuple #[.slice none 0 0, .bool false])) W) := ⟨fun W j e h1 h2 => by
    subst e; exact ⟨none, [], 0, rfl, C_nil8 _ none, ⟨j, h1, fun p hp => by cases hp⟩, h2⟩⟩
  clear hd hby hb hr hC hs hsg hT hr1 hle hi0 hR hlb
  go_enter Tryd.func7, Tryd.ntmps7
  go_wp2_with (go_at_call 20; (with_reducible refine HSG.out.mono ?_); rintro e w1 ⟨rfl, h1, h2⟩; have HS1 := Aside0.mk (HP.out _ _ h1 h2); have HK1 := Aside0.mk (keep_two h2); clear h1 h2)
  go_loopg [4] (b.length + 1) (fun kq v4 wr => ∃ (i1 : Nat) (out : List Int), Aside0 (i1 ≤ b.length) ∧ Aside0 (textF kq b i1 out = R) ∧ Aside0 (b.length < kq + i1) ∧ Aside0 (out.length ≤ 4 * i1) ∧ Aside0 (∀ x ∈ out, 0 ≤ x ∧ x < 256) ∧ Aside0 (RS w0 wr r b i1) ∧ Aside0 (KeepBut w wr r none) ∧ Aside0 (wr.ownsRow w.heap.size 5 1 v4 out.length (encs (Value.int .u8) out)))
  case atStart => exact ⟨i0, [], HLE, HR, ⟨by omega⟩, ⟨by simp⟩, ⟨fun x hx => by cases hx⟩, HS1, HK1, ⟨World.ownsRow_nil _ _ _ _⟩⟩
  case round =>
    obtain ⟨i1, out, HI, HF, HK, HO, HOB, HS, HKP, HOWN⟩ := hrel
    obtain ⟨n, rfl⟩ : ∃ n, gk = n + 1 := ⟨gk - 1, by have := HK.out; have := HI.out; omega⟩
    obtain ⟨Ao, co, rfl, hoc⟩ := own_form HOWN.out
    have HOC := Aside0.mk hoc
    clear hoc
    obtain ⟨x, hx⟩ : ∃ x, hereZ b i1 = x := ⟨_, rfl⟩
    have hF := HF.out
    unfold textF at hF
    have hhr := rs_here HS.out
    rw [hx] at hhr
    have HERE := Aside0.mk hhr
    have hxb := hereZ_byte HBY.out i1
    rw [hx] at hxb
    have hxx : (x < 32 ∧ R = none) ∨ (32 ≤ x ∧ i1 < b.length ∧ hereB b i1 = x) := by
      rcases Nat.lt_or_ge i1 b.length with q | q
      · rw [hereZ_B q] at hx
        rw [hx] at hF
        by_cases q2 : x < 32
        · rw [if_pos (.inr q2)] at hF; exact .inl ⟨q2, hF.symm⟩
        · exact .inr ⟨by omega, q, hx⟩
      · rw [if_pos (.inl q)] at hF
        rw [(hereZ_no (b := b) (i := i1) (by omega)).1] at hx
        exact .inl ⟨by omega, hF.symm⟩
    have wi : IntKind.i64.wrap ((i1 : Int) + 1) = (i1 : Int) + 1 := by rw [IntKind.wrap_i64]; have := HI.out; have := HLB.out; omega
    have HXB := Aside0.mk hxb
    clear hhr hx hxb HF
    go_upto_region 5 with (go_at_call 21; (with_reducible refine HERE.out.mono ?_); rintro e w2 ⟨rfl, hs, hk⟩; have HS2 := Aside0.mk hs; have HK2 := Aside0.mk (keep_trans HKP.out hk); have HO2 := Aside0.mk (own_keep HOWN.out hk HLT.out); clear hs hk)
    have y2 := HS2.out.c4
    have yf := HS2.out.f4
    go_upto_region 10 with (fail)
    obtain ⟨w3, hw3⟩ : ∃ w3, w2.setCell ⟨r, 4, none⟩ (.int .i64 ((i1 : Int) + 1)) = w3 := ⟨_, rfl⟩
    have hmv : RS w0 (w2.setCell ⟨r, 4, none⟩ (.int .i64 ((i1 : Int) + 1))) r b (i1 + 1) ∧ KeepBut w2 (w2.setCell ⟨r, 4, none⟩ (.int .i64 ((i1 : Int) + 1))) r none := by have h := HS2.out.move (i1 + 1); rw [Int.natCast_add] at h; exact h
    rw [hw3] at hmv ⊢
    have HS3 := Aside0.mk hmv.1
    have HK3 := Aside0.mk (keep_trans HK2.out hmv.2)
    have HO3 := Aside0.mk (own_keep HO2.out hmv.2 HLT.out)
    clear hmv hw3 y2 yf wi
    rcases hxx with ⟨q, hn⟩ | ⟨q, hlt, hbx⟩
    · have q1 : decide (x < 32) = true := decide_eq_true q
      have HRN := Aside0.mk hn
      clear hF q hn
      go_wp2_with (fail)
      go_ret2
      exact HNO.out _ _ HRN.out HS3.out HK3.out
    have q1 : decide (x < 32) = false := decide_eq_false (by omega)
    rw [hbx, if_neg (by omega)] at hF
    have HLT1 := Aside0.mk hlt
    have HOL : Aside0 (out.length ≤ 80000) := ⟨by have := HO.out; have := HI.out; have := HLB.out; omega⟩
    clear hlt hbx
    by_cases e34 : x = 34
    · subst e34
      rw [if_pos rfl] at hF
      have hrt := fun v hv => reftext_any Ao co out w3 (HTB.out _ HK3.out) (own_C HO3.out) HOC.out HOB.out (by have := HOL.out; omega) v hv
      obtain ⟨v, hv⟩ : ∃ v, v = (U out.length out).isNone := ⟨_, rfl⟩
      have HRT := Aside0.mk (hrt v hv)
      have HRV : Aside0 (R.isSome = v ∧ ∀ p, R = some p → out = p.1 ∧ i1 + 1 = p.2) := ⟨by
        rw [hv, ← hF]
        cases hU : U out.length out with
        | none => rw [if_pos rfl]; exact ⟨rfl, fun p hp => by injection hp with hp; subst hp; exact ⟨rfl, rfl⟩⟩
        | some p => rw [if_neg (by simp)]; exact ⟨rfl, fun p hp => by cases hp⟩⟩
      clear hF hrt hv
      go_wp2_with (go_at_call 22; (with_reducible refine HRT.out.mono ?_); rintro e w4 ⟨rfl, hb⟩; have HB4 := Aside0.mk hb; clear hb)
      go_ret2
      exact ⟨Ao, out, co, by rw [HRV.out.1]; rfl, Kd.C_below (own_C HO3.out) HB4.out, ⟨i1 + 1, HS3.out.kept HB4.out, HRV.out.2⟩, keep_trans HK3.out (keep_below HB4.out)⟩
    rw [if_neg e34] at hF
    have b34 : (x == 34) = false := by simp [e34]
    obtain ⟨z0', hi, hz0, hz1, hz2⟩ := info_parts info5
    have HI5 := Aside0.mk hi
    have HGE : Aside0 (w0.heap.size ≤ r) := ⟨HS3.out.ge⟩
    clear hi
    by_cases e92 : x = 92
    · subst e92
      rw [if_pos rfl] at hF
      have hesc := resc_any HS3.out (by have := HLT1.out; omega)
      obtain ⟨E, hE⟩ : ∃ E, escV b (i1 + 1) = E := ⟨_, rfl⟩
      rw [hE] at hesc hF
      cases E with
      | none =>
        have HESC : Aside0 (Calls Tryd.prog 23 #[.pointer (some ⟨r, 0, none⟩)] w3 fun e w' => ∃ v, e = .returned (.tuple #[v, .bool false]) ∧ (∃ j, RS w0 w' r b j) ∧ KeepBut w3 w' r none) := ⟨hesc.mono fun e w' hp => by
          obtain ⟨v, h1, h2, ⟨j, h3, _⟩, h4⟩ := hp
          exact ⟨v, h1, ⟨j, h3⟩, h4⟩⟩
        have HRN : Aside0 (R = none) := ⟨hF.symm⟩
        clear hF hesc hE e34
        go_wp2_with (go_at_call 23; (with_reducible refine HESC.out.mono ?_); rintro e w4 ⟨v4, rfl, ⟨j4, hs⟩, hk⟩; have HS4 := Aside0.mk hs; have HK4 := Aside0.mk (keep_trans HK3.out hk); clear hs hk)
        go_ret2
        exact HNO.out _ _ HRN.out HS4.out HK4.out
      | some p =>
        obtain ⟨q', j⟩ := p
        have hle := escV_le hE
        simp only at hle
        have HESC : Aside0 (Calls Tryd.prog 23 #[.pointer (some ⟨r, 0, none⟩)] w3 fun e w' => ∃ A' c', e = .returned (.tuple #[.slice A' (Lib.encodeRuneZ q').length c', .bool true]) ∧ Kd.C (Kd.int .u8) w' A' (Lib.encodeRuneZ q').length (Lib.encodeRuneZ q') ∧ RS w0 w' r b j ∧ KeepBut w3 w' r none) := ⟨hesc.mono fun e w' hp => by
          obtain ⟨v, h1, h2, ⟨j', h3, h5⟩, h4⟩ := hp
          have := h5 _ rfl
          subst this
          obtain ⟨A', c', hv, _, hC⟩ := Kd.R_reads h2
          subst hv
          exact ⟨A', c', h1, hC, h3, h4⟩⟩
        have HF3 : Aside0 (textF n b j (out ++ Lib.encodeRuneZ q') = R) := ⟨hF⟩
        have HLE3 := Aside0.mk hle
        have hln := Lib.encodeRuneZ_length q'
        have HENB := Aside0.mk (Lib.encodeRuneZ_byte q')
        obtain ⟨E, hEE⟩ : ∃ E, Lib.encodeRuneZ q' = E := ⟨_, rfl⟩
        rw [hEE] at HESC HF3 hln HENB
        have HLN := Aside0.mk hln
        clear hF hesc hE hle e34 hEE hln
        go_wp2_with (first
          | (go_at_call 23; (with_reducible refine HESC.out.mono ?_); rintro e w4 ⟨A4, c4, rfl, hC4, hs, hk⟩; have HC4 := Aside0.mk hC4; have HS4 := Aside0.mk hs; have HK4 := Aside0.mk (keep_trans HK3.out hk); have HO4 := Aside0.mk (own_keep HO3.out hk HLT.out); clear hs hk hC4)
          | ((with_reducible refine gate_builtin (b := .append) (xs := #[.tmp 28, .tmp 29]) rfl ?_); at_builtin; refine Kd.R_append_row (Value.int .u8) (0 : Int) (h1 := fun _ => rfl) (w0 := w4) w.heap.size rfl (.tmp 28) (.tmp 29) 22 5 (.int .u8 0) 1 rfl Tryd.underlying22 info5 rfl (by decide) (.slice Ao out.length co) out E A4 E.length c4 (fun _ => True) rfl rfl (fun _ _ => trivial) ?o1 ?o2 ?o3 ?o4 ?o5 ?_))
        case o1 => exact Kd.R_of_own (enc := Value.int .u8) (h1 := fun _ => rfl) HO4.out (fun _ _ => trivial)
        case o2 => exact HC4.out
        case o3 => exact ⟨rfl, rfl, rfl, Nat.le_refl _, fun k hk => rfl⟩
        case o4 => exact HK4.out.1
        case o5 => have := HOL.out; have := HLN.out; omega
        intro v9 w9 hr9 _ hg9 _
        have HO9 : Aside0 (w9.ownsRow w.heap.size 5 1 v9 (out ++ E).length (encs (Value.int .u8) (out ++ E))) := ⟨Kd.own_of_R hr9⟩
        have hrow := own_base HO4.out
        have HK9 := Aside0.mk (keep_grown HK4.out hg9 hrow)
        have HS9 := Aside0.mk (HS4.out.grown hg9 (fun k hk => by have := hrow k hk; have := HLT.out; have := HW0.out; omega))
        clear hr9 hg9 hrow
        go_wp2_with (fail)
        go_roundg n
        case measure => omega
        case rel => exact ⟨j, out ++ E, ⟨HLE3.out.2.1⟩, HF3, ⟨by have := HK.out; have := HLE3.out; omega⟩, ⟨by have := HO.out; have := HLE3.out; have := HLN.out; rw [List.length_append]; omega⟩, ⟨fun y hy => by
          rcases List.mem_append.1 hy with hy | hy
          · exact HOB.out y hy
          · exact HENB.out y hy⟩, HS9, HK9, HO9⟩
    · rw [if_neg e92] at hF
      have b92 : (x != 92) = true := by simp [e92]
      have HF3 := Aside0.mk hF
      have wx : IntKind.u8.wrap x = x := by rw [IntKind.wrap_u8]; have := HXB.out; omega
      have x0 : 0 ≤ x := by omega
      have x1 : x < 256 := HXB.out.2
      clear hF e34 e92
      go_wp2_with ((with_reducible refine gate_builtin (b := .append) (xs := #[.tmp 43, .tmp 46]) rfl ?_); at_builtin; refine wpList_append_own _ rfl (.tmp 43) (.tmp 46) 22 rfl w.heap.size 5 z0' (.int .u8 0) 1 1 Tryd.underlying22 HI5.out hz0 hz1 hz2 rfl (by decide) (.slice Ao out.length co) out.length (encs (Value.int .u8) out) rfl (HO3.out.alloc _) ⟨w3.heap.size, 0, none⟩ 1 1 [.int .u8 x] rfl rfl ?c1 ?c2 ?c3 ?c4 ?c5 ?_)
      case c1 =>
        intro j u hj
        match j, hj with
        | 0, hj => simp at hj; subst hj; simp [Addr.add]
        | (j + 1), hj => simp at hj
      case c2 => intro u hu; simp at hu; subst hu; rfl
      case c3 => unfold maxLen; have := HOL.out; omega
      case c4 => have := HOL.out; omega
      case c5 => have := HK3.out.1; simp; omega
      intro v9 w9 ho9 hg9 _
      have HO9 : Aside0 (w9.ownsRow w.heap.size 5 1 v9 (out ++ [x]).length (encs (Value.int .u8) (out ++ [x]))) := ⟨by rw [encs_append, List.length_append]; exact ho9⟩
      have hrow := own_base HO3.out
      have HK9 := Aside0.mk (keep_grown (keep_trans HK3.out (keep_below (below_alloc (Below.refl w3.heap.size w3) _))) hg9 hrow)
      have HS9 := Aside0.mk ((HS3.out.kept (below_alloc (Below.refl w3.heap.size w3) _)).grown hg9 (fun k hk => by have := hrow k hk; have := HLT.out; have := HW0.out; omega))
      clear ho9 hg9 hrow
      go_wp2_with (fail)
      go_roundg n
      case measure => omega
      case rel => exact ⟨i1 + 1, out ++ [x], ⟨by have := HLT1.out; omega⟩, HF3, ⟨by have := HK.out; omega⟩, ⟨by have := HO.out; rw [List.length_append]; simp; omega⟩, ⟨fun y hy => by
        rcases List.mem_append.1 hy with hy | hy
        · exact HOB.out y hy
        · rw [List.mem_singleton.1 hy]; exact ⟨x0, x1⟩⟩, HS9, HK9, HO9⟩
theorem rtext_any (hd : Rdr w r A c b i) (hby : ∀ x ∈ b, 0 ≤ x ∧ x < 256) (hb : Below w0.heap.size w0 w) (hr : w0.heap.size ≤ r) (hC : Kd.C (Kd.int .u8) w0 A b.length b) (hT : Tabs w) (hr1 : 1 < r) (hlb : b.length ≤ 20000) :
    Calls Tryd.prog 7 #[.pointer (some ⟨r, 0, none⟩)] w (RTextPost (textV b i) w0 w r b) := by
  unfold textV
  by_cases hs : signB b i 34 = true
  · rw [if_pos hs]; exact rtext_go hd hby hb hr hC hT hr1 hs hlb
  · rw [if_neg hs]; exact rtext_no hd hby hb hr hC (by simpa using hs)
end rtext
end Go.Proofs.YtonekmigcpgdeaaDoor.Hand
