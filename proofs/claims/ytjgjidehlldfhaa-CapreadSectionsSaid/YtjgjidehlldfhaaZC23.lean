/- Texts joined: C4 C5 C6 C7. -/
import Derived.Test.YtjgjidehlldfhaaZC22
section
/- Layer 8, capread: what a message's rows hold, whatever its reader does. -/
namespace Go.Proofs.Ytjgjidehlldfhaa.Hand
open Go.RowKit Go.Proofs.Ytjgjidehlldfhaa.QAll Go.Proofs.YtjgjidehlldfhaaW.PrintWords Go.Proofs.YtjgjidehlldfhaaW.PrintLast Go.Proofs.YtjgjidehlldfhaaW.PrintMore Go.Proofs.Ytjgjidehlldfhaa.Nums Go.Proofs.Ytjgjidehlldfhaa.Runes
set_option linter.unusedVariables false
set_option linter.unusedSimpArgs false
theorem Two.setp {g m : Nat} {w : World} {p : Addr} (hp : p.block = g ∨ p.block = m) (u : Value) : Two g m w (w.setCell p u) :=
  ⟨rfl, rfl, rfl, by simp, fun k _ h1 h2 => Below.heap_setCell w p u k (by rcases hp with h | h <;> omega)⟩
/-- A cell that stays, whatever is written into two blocks, is in neither of them. -/
theorem apart_cell {g m : Nat} {w : World} {p : Addr} {u : Value} (hu : w.cell? p = some u) (H : ∀ W, Two g m w W → ∃ A n c, W.cell? p = some (.slice A n c)) : p.block ≠ g ∧ p.block ≠ m := by
  have key : ¬ (p.block = g ∨ p.block = m) := by
    intro hp
    obtain ⟨A, n, c, hc⟩ := H _ (Two.setp hp (.bool true))
    rw [World.cell?_setCell_same _ _ _ hu] at hc
    cases hc
  exact ⟨fun h => key (.inl h), fun h => key (.inr h)⟩
theorem Two.cell {g m : Nat} {w W : World} (h : Two g m w W) {p : Addr} {u : Value} (hu : w.cell? p = some u) (h1 : p.block ≠ g) (h2 : p.block ≠ m) : W.cell? p = some u := by
  have hlt := World.block_lt_of_cell? w p hu
  have e := h.block _ hlt h1 h2
  rw [← hu]
  unfold World.cell?
  rw [e]
section
variable {X : Msg} {L : Loc} {w : World} {s : Mt}
theorem MS.st_row (h : MS X L w s) (k : Nat) (hk : k < X.st.length) : ∃ ad A c, L.A0 = some ad ∧ (rd_T32 X.st k).f1.length ≤ c ∧ ∀ W, Two L.gx L.gm w W →
    W.cell? ⟨(ad.add (k * 2)).block, (ad.add (k * 2)).off + 1, none⟩ = some (.slice A (rd_T32 X.st k).f1.length c) ∧ k29.C W A (rd_T32 X.st k).f1.length (rd_T32 X.st k).f1 := by
  obtain ⟨ad, A, c, e, -, s1, hc, -⟩ := at_T32 h.m.st (k : Int) (Int.natCast_nonneg _) (by omega)
  have hap := apart_cell s1 (g := L.gx) (m := L.gm) (fun W hW => by
    obtain ⟨ad', A', c', e', -, s1', -, -⟩ := at_T32 (h.mem W hW).st (k : Int) (Int.natCast_nonneg _) (by omega)
    rw [e] at e'; injection e' with e'; subst e'
    exact ⟨_, _, _, s1'⟩)
  refine ⟨ad, A, c, e, hc, fun W hW => ?_⟩
  have s2 := hW.cell s1 hap.1 hap.2
  obtain ⟨ad', A', c', e', -, s1', -, hF⟩ := at_T32 (h.mem W hW).st (k : Int) (Int.natCast_nonneg _) (by omega)
  rw [e] at e'; injection e' with e'; subst e'
  rw [s2] at s1'; injection s1' with s1'; injection s1' with e1 _ e2
  subst e1
  exact ⟨s2, hF⟩
theorem MS.rw_row (h : MS X L w s) (k : Nat) (hk : k < X.st.length) : ∃ ad aJ c, L.A2 = some ad ∧ (0 < (rd_T72 X.rows k).f2.length → ∃ a, aJ = some a) ∧ ∀ W, Two L.gx L.gm w W →
    W.cell? ⟨(ad.add (k * 3)).block, (ad.add (k * 3)).off + 2, none⟩ = some (.slice aJ (rd_T72 X.rows k).f2.length c) ∧ (Kd.int .i64).C W aJ (rd_T72 X.rows k).f2.length (rd_T72 X.rows k).f2 := by
  have hlen := h.ok.rows
  obtain ⟨ad, A, c, e, -, -, s1, hc, hR⟩ := at_T72 h.m.rows (k : Int) (Int.natCast_nonneg _) (by omega)
  have hap := apart_cell s1 (g := L.gx) (m := L.gm) (fun W hW => by
    obtain ⟨ad', A', c', e', -, -, s1', -, -⟩ := at_T72 (h.mem W hW).rows (k : Int) (Int.natCast_nonneg _) (by omega)
    rw [e] at e'; injection e' with e'; subst e'
    exact ⟨_, _, _, s1'⟩)
  refine ⟨ad, A, c, e, fun hp => ?_, fun W hW => ?_⟩
  · have hRr := Kd.reads_of_C (enc := Value.int .i64) (d := (0 : Int)) (h1 := fun _ => rfl) hR
    obtain ⟨a, ea, -⟩ := hRr.2.2 hp
    exact ⟨a, ea⟩
  have s2 := hW.cell s1 hap.1 hap.2
  obtain ⟨ad', A', c', e', -, -, s1', -, hF⟩ := at_T72 (h.mem W hW).rows (k : Int) (Int.natCast_nonneg _) (by omega)
  rw [e] at e'; injection e' with e'; subst e'
  rw [s2] at s1'; injection s1' with s1'; injection s1' with e1 _ e2
  subst e1
  exact ⟨s2, hF⟩
end
end Go.Proofs.Ytjgjidehlldfhaa.Hand
end

section
/- Layer 8, capread: a struct's fields, and a struct. -/
namespace Go.Proofs.Ytjgjidehlldfhaa.Hand
open Go.RowKit Go.Proofs.Ytjgjidehlldfhaa.QAll Go.Proofs.YtjgjidehlldfhaaW.PrintWords Go.Proofs.YtjgjidehlldfhaaW.PrintLast Go.Proofs.YtjgjidehlldfhaaW.PrintMore Go.Proofs.Ytjgjidehlldfhaa.Nums Go.Proofs.Ytjgjidehlldfhaa.Runes
set_option linter.unusedVariables false
set_option linter.unusedSimpArgs false
abbrev tyV (t : S26) : Value := .agg #[.int .u8 t.f0, .int .i64 t.f1, .int .i64 t.f2]
/-- What target is to come to, so deep. -/
def TgtOk (X : Msg) (L : Loc) (d : Int) (T : Tgt) (t : S26) : Prop :=
  ∀ (i : Int) (s : Mt) (w : World), MS X L w s → s.reached ≤ X.words → 0 ≤ i → i ≤ X.words →
    Calls Try.prog 48 #[.pointer (some ⟨L.gx, 0, none⟩), tyV t, .int .i64 i, .int .i64 d] w (Does X L w (T t i s)) ∧ ((T t i s).1 = true → (T t i s).2.reached ≤ X.words)
set_option maxHeartbeats 6400000 in
set_option maxRecDepth 100000 in
theorem fields_any {X : Msg} {L : Loc} {w : World} {s : Mt} (h : MS X L w s) (hr : s.reached ≤ X.words) (k : Nat) (hk : k < X.st.length) (d : Nat) (hd : d < 1000) (T : Tgt) (pos data ptrs : Int) (hp : 0 ≤ pos) (hdt : 0 ≤ data) (hpt : 0 ≤ ptrs) (hfit : pos + data + ptrs ≤ X.words)
    (HT : ∀ f ∈ (rd_T32 X.st k).f1, 0 < f.f1.f2 ∨ szB f.f1.f0 = 0 → TgtOk X L d T f.f1) :
    Calls Try.prog 34 #[.pointer (some ⟨L.gx, 0, none⟩), .int .i64 pos, .int .i64 data, .int .i64 ptrs, .int .i64 k, .int .i64 ((d : Int) + 1)] w (Does X L w (fieldsM X.en X.b T pos data ptrs (X.fs k) s)) := by
  have hok := h.ok.at_ k hk
  have htp := h.ok.types k hk
  obtain ⟨aS, AS, cS, eA0, hc1, HST⟩ := h.st_row k hk
  obtain ⟨aR, AJ, cR, eA2, hJs, HRW⟩ := h.rw_row k hk
  have x0 := h.x0
  rw [eA0] at x0
  have k0 : (0 : Int) ≤ (k : Int) := Int.natCast_nonneg _
  have k1 : (k : Int) < (X.st.length : Int) := by omega
  have k2 : (k : Int) < (X.rows.length : Int) := by have := h.ok.rows; omega
  have HOK := Aside0.mk h.ok
  have hba := below_alloc (Below.refl w.heap.size w) (.cells #[.pointer (some ⟨L.gx, 0, none⟩), .int .i64 k, .int .i64 pos, .int .i64 data, .int .i64 ptrs] 80)
  have hn := heap_alloc_new w (.cells #[.pointer (some ⟨L.gx, 0, none⟩), .int .i64 k, .int .i64 pos, .int .i64 data, .int .i64 ptrs] 80)
  obtain ⟨g0, hg0⟩ : ∃ g0, w.heap.size = g0 := ⟨_, rfl⟩
  obtain ⟨w1, hw1⟩ : ∃ w1, w.alloc (.cells #[.pointer (some ⟨L.gx, 0, none⟩), .int .i64 k, .int .i64 pos, .int .i64 data, .int .i64 ptrs] 80) = w1 := ⟨_, rfl⟩
  rw [hw1] at hba hn
  rw [hg0] at hn
  have s1 := (HST w1 (Two.of_below L.gx L.gm hba)).1
  replace x0 := pw_cell_below hba x0
  have H1 := Aside0.mk (h.below hba)
  have HT1 := Aside0.mk (Two.of_below L.gx L.gm hba)
  have HG1 := Aside0.mk hn
  have HNE : Aside0 (L.gx ≠ g0 ∧ L.gm ≠ g0) := ⟨by have := h.lt; omega⟩
  have HTG : Aside0 (∀ W, Two L.gx L.gm w1 W → W.heap[g0]? = some (.cells #[.pointer (some ⟨L.gx, 0, none⟩), .int .i64 k, .int .i64 pos, .int .i64 data, .int .i64 ptrs] 80 (0, 0))) := ⟨fun W hW => hW.blk HG1.out (by have := HNE.out; omega) (by have := HNE.out; omega)⟩
  obtain ⟨fs, hfs⟩ : ∃ fs, (rd_T32 X.st k).f1 = fs := ⟨_, rfl⟩
  obtain ⟨js, hjs⟩ : ∃ js, (rd_T72 X.rows k).f2 = js := ⟨_, rfl⟩
  have hfk : X.fs k = fs.zip js := by unfold Msg.fs; rw [hfs, hjs]
  obtain ⟨fin, hfin⟩ : ∃ fin, fieldsM X.en X.b T pos data ptrs (X.fs k) s = fin := ⟨_, rfl⟩
  rw [hfin]
  rw [hfk] at hfin
  rw [hfs] at s1 hc1 HT hok htp HST
  rw [hjs] at hok HRW hJs
  have HST' := Aside0.mk HST
  have HRW' := Aside0.mk HRW
  have HTGT := Aside0.mk HT
  have HHOK := Aside0.mk hok
  have HHTP := Aside0.mk htp
  have HHJS := Aside0.mk hJs
  have HFIN := Aside0.mk hfin
  have HA0 := Aside0.mk eA0
  have HA2 := Aside0.mk eA2
  have HHR := Aside0.mk hr
  have HBND : Aside0 (0 ≤ pos ∧ 0 ≤ data ∧ 0 ≤ ptrs ∧ pos + data + ptrs ≤ X.words) := ⟨hp, hdt, hpt, hfit⟩
  have HFS := Aside0.mk hfs
  have HJS := Aside0.mk hjs
  clear HST HRW HT hok htp hJs hfin hn hba h hfs hjs hfk hr eA0 eA2 hp hdt hpt hfit
  go_enter Try.func34, Try.ntmps34
  go_upto_region 3 with (fail)
  clear x0 s1
  go_loopg [33] (fs.length + 1) (fun kq v33 wr => ∃ (i : Nat) (s' : Mt), v33 = .int .i64 i ∧ Aside0 (i ≤ fs.length) ∧ Aside0 (fs.length < kq + i) ∧ Aside0 (fieldsM X.en X.b T pos data ptrs ((fs.zip js).drop i) s' = fin) ∧ Aside0 (MS X L wr s') ∧ Aside0 (s'.reached ≤ X.words) ∧ Aside0 (Two L.gx L.gm w1 wr))
  case atStart => exact ⟨0, s, rfl, ⟨Nat.zero_le _⟩, ⟨by omega⟩, HFIN, H1, HHR, ⟨Two.refl _ _ _⟩⟩
  case round =>
    obtain ⟨i, s', rfl, HI, HK, HF, HS, HRC, HTW⟩ := hrel
    have two : (i < fs.length ∧ decide ((i : Int) < (fs.length : Int)) = true ∧ decide (i < fs.length) = true) ∨ (i = fs.length ∧ decide ((i : Int) < (fs.length : Int)) = false ∧ decide (i < fs.length) = false) := by
      have := HI.out
      by_cases c : i < fs.length
      · exact .inl ⟨c, decide_eq_true (by omega), decide_eq_true c⟩
      · exact .inr ⟨by omega, decide_eq_false (by omega), decide_eq_false c⟩
    rcases two with ⟨c, d1, d2⟩ | ⟨c, d1, d2⟩
    · have hTW := HT1.out.trans HTW.out
      obtain ⟨F, hFF⟩ : ∃ F, rd_T29 fs i = F := ⟨_, rfl⟩
      have hFe : fs[i] = F := by rw [← hFF]; unfold rd_T29; rw [show ((i : Int)).toNat = i from rfl, List.getD_eq_getElem?_getD, List.getElem?_eq_getElem c]; rfl
      have hij : i < js.length := by have := HHOK.out.1; omega
      obtain ⟨J, hJJ⟩ : ∃ J, js[i] = J := ⟨_, rfl⟩
      have HJB : Aside0 (0 ≤ J ∧ J ≤ 100000000) := ⟨HHOK.out.2.2 J (by rw [← hJJ]; exact List.getElem_mem _)⟩
      have hFm : F ∈ fs := by rw [← hFe]; exact List.getElem_mem _
      have HTP := Aside0.mk (HHTP.out F hFm)
      have HTF : Aside0 (0 < F.f1.f2 ∨ szB F.f1.f0 = 0 → TgtOk X L d T F.f1) := ⟨HTGT.out F hFm⟩
      have HF2 : Aside0 (fieldsM X.en X.b T pos data ptrs ((F, J) :: (fs.zip js).drop (i + 1)) s' = fin) := ⟨by
        have := HF.out
        rw [List.drop_eq_getElem_cons (by rw [List.length_zip]; omega), List.getElem_zip, hFe, hJJ] at this
        exact this⟩
      obtain ⟨aF, eAS, f0, f1, f2, f3, f4⟩ := at_T29 (HST'.out wr hTW).2 (i : Int) (Int.natCast_nonneg _) (by omega)
      rw [hFF] at f0 f1 f2 f3 f4
      rw [show ((i : Int)).toNat = i from rfl] at f0 f1 f2 f3 f4
      obtain ⟨aJ, eAJ⟩ := HHJS.out (by omega)
      subst eAS eAJ
      have hJC := (HRW'.out wr hTW).2
      have i0 : (0 : Int) ≤ (i : Int) := Int.natCast_nonneg _
      have i1 : (i : Int) < (fs.length : Int) := by omega
      have i2 : (i : Int) < (js.length : Int) := by omega
      have wi : IntKind.i64.wrap ((i : Int) + 1) = (i : Int) + 1 := by rw [IntKind.wrap_i64]; have := HHOK.out.2.1; omega
      obtain ⟨gf, hgf⟩ : ∃ gf, wr.heap.size = gf := ⟨_, rfl⟩
      obtain ⟨w2, hw2⟩ : ∃ w2, wr.alloc (.cells #[.string F.f0, .int .u8 F.f1.f0, .int .i64 F.f1.f1, .int .i64 F.f1.f2, .int .u64 F.f2] 29) = w2 := ⟨_, rfl⟩
      have hb2 := below_alloc (Below.refl wr.heap.size wr) (.cells #[.string F.f0, .int .u8 F.f1.f0, .int .i64 F.f1.f1, .int .i64 F.f1.f2, .int .u64 F.f2] 29)
      have hn2 := heap_alloc_new wr (.cells #[.string F.f0, .int .u8 F.f1.f0, .int .i64 F.f1.f1, .int .i64 F.f1.f2, .int .u64 F.f2] 29)
      rw [hw2] at hb2 hn2
      rw [hgf] at hn2
      have HS2 := Aside0.mk (HS.out.below hb2)
      have HT2 := Aside0.mk (hTW.trans (Two.of_below L.gx L.gm hb2))
      have HW2 := Aside0.mk (HTW.out.trans (Two.of_below L.gx L.gm hb2))
      have HGF := Aside0.mk hn2
      have HNF : Aside0 (gf ≠ L.gx ∧ gf ≠ L.gm) := ⟨by have := HS.out.lt; omega⟩
      have HCI : Aside0 (i < fs.length ∧ js[i]? = some J) := ⟨c, by rw [List.getElem?_eq_getElem hij, hJJ]⟩
      have HRD : Aside0 (rd_T29 fs i = F ∧ rd js i = J) := ⟨hFF, by rw [Nums.rd_eq js i hij, hJJ]⟩
      clear c hij hTW hFF hFe hJJ hFm hb2 hn2 hJC
      go_upto_region 5 with (fail)
      clear f0 f1 f2 f3 f4
      have x7 := HS2.out.x7
      have HTAKE := Aside0.mk (take_any HS2.out 1 (by decide))
      obtain ⟨s2, hs2⟩ : ∃ s2, (takeM 1 s').2 = s2 := ⟨_, rfl⟩
      obtain ⟨tk, htk⟩ : ∃ tk, (takeM 1 s').1 = tk := ⟨_, rfl⟩
      have HRC2 : Aside0 (s2.reached ≤ X.words) := ⟨by rw [← hs2, take_reached]; exact HRC.out⟩
      have hf := HF2.out
      unfold fieldsM at hf
      rw [htk, hs2] at hf HTAKE
      have HFF := Aside0.mk hf
      clear hf htk hs2
      cases tk with
      | false =>
        go_wp2_with (go_at_call 47; (with_reducible refine HTAKE.out.mono ?_); rintro e w3 ⟨rfl, hm, ht⟩; have HM3 := Aside0.mk hm; have HT3 := Aside0.mk ht; clear hm ht)
        go_ret
        rw [← HFF.out]
        exact ⟨rfl, HM3.out, HT2.out.trans HT3.out⟩
      | true =>
        go_upto_region 7 with (go_at_call 47; (with_reducible refine HTAKE.out.mono ?_); rintro e w3 ⟨rfl, hm, ht⟩; have HM3 := Aside0.mk hm; have HT3 := Aside0.mk ht; clear hm ht)
        clear x7
        have HG3 : Aside0 (w3.heap[gf]? = some (.cells #[.string F.f0, .int .u8 F.f1.f0, .int .i64 F.f1.f1, .int .i64 F.f1.f2, .int .u64 F.f2] 29 (0, 0))) := ⟨HT3.out.blk HGF.out HNF.out.1 HNF.out.2⟩
        have HW3 := Aside0.mk (HW2.out.trans HT3.out)
        have HTT3 := Aside0.mk (HT2.out.trans HT3.out)
        have m1 : w3.cell? ⟨gf, 1, none⟩ = some (.int .u8 F.f1.f0) := (blk_cell HG3.out 1).trans rfl
        have m2 : w3.cell? ⟨gf, 2, none⟩ = some (.int .i64 F.f1.f1) := (blk_cell HG3.out 2).trans rfl
        have m3 : w3.cell? ⟨gf, 3, none⟩ = some (.int .i64 F.f1.f2) := (blk_cell HG3.out 3).trans rfl
        have HSZ := Aside0.mk (fun W => wire_Size.calls 6 F.f1.f0 (szB F.f1.f0) W (size_f F.f1.f0))
        have hzb := szB_or F.f1.f0
        have hff := HFF.out
        rw [if_neg (by decide)] at hff
        have ways : (decide (0 < F.f1.f2) = true ∧ 0 < F.f1.f2) ∨ (decide (0 < F.f1.f2) = false ∧ ¬ 0 < F.f1.f2 ∧ (szB F.f1.f0 == 0) = true ∧ szB F.f1.f0 = 0) ∨ (decide (0 < F.f1.f2) = false ∧ ¬ 0 < F.f1.f2 ∧ (szB F.f1.f0 == 0) = false ∧ szB F.f1.f0 ≠ 0) := by
          by_cases a : 0 < F.f1.f2
          · exact .inl ⟨decide_eq_true a, a⟩
          · by_cases b : szB F.f1.f0 = 0
            · exact .inr (.inl ⟨decide_eq_false a, a, by simp [b], b⟩)
            · exact .inr (.inr ⟨decide_eq_false a, a, by simp [b], b⟩)
        rcases ways with ⟨a1, a2⟩ | ⟨a1, a2, b1, b2⟩ | ⟨a1, a2, b1, b2⟩
        case' inl => have hor : 0 < F.f1.f2 ∨ szB F.f1.f0 = 0 := .inl a2
        case' inr.inl => have hor : 0 < F.f1.f2 ∨ szB F.f1.f0 = 0 := .inr b2
        case' inl | inr.inl =>
          rw [if_pos hor] at hff
          have HFP := Aside0.mk hff
          have HTX := Aside0.mk (HTF.out hor)
          clear hff hzb hor
        case' inl =>
          go_upto_region 8 with (fail)
          obtain ⟨w4, hw4⟩ : ∃ w4, w4 = w3 := ⟨_, rfl⟩
          rw [← hw4]
          have HD4 : Aside0 (Drawn0 w3 w4) := ⟨by rw [hw4]; exact Drawn0.refl w3⟩
          clear hw4
        case' inr.inl =>
          go_upto_region 8 with (go_at_call 46; (with_reducible refine (HSZ.out _).mono ?_); rintro e w4 ⟨rfl, hd⟩; have HD4 := Aside0.mk hd; clear hd)
        case' inl | inr.inl =>
          clear m1 m2 m3
          have HM4 := Aside0.mk (HM3.out.below HD4.out.below)
          have hT4 := Two.of_below L.gx L.gm HD4.out.below
          have HG4 : Aside0 (w4.heap[gf]? = some (.cells #[.string F.f0, .int .u8 F.f1.f0, .int .i64 F.f1.f1, .int .i64 F.f1.f2, .int .u64 F.f2] 29 (0, 0))) := ⟨hT4.blk HG3.out HNF.out.1 HNF.out.2⟩
          have HW4 := Aside0.mk (HW3.out.trans hT4)
          have HTT4 := Aside0.mk (HTT3.out.trans hT4)
          have x3 := HM4.out.x3
          rw [HA2.out] at x3
          obtain ⟨q2, hJC⟩ := HRW'.out w4 HTT4.out
          have hRr := Kd.reads_of_C (enc := Value.int .i64) (d := (0 : Int)) (h1 := fun _ => rfl) hJC
          obtain ⟨aJ', eJ', hJ'⟩ := hRr.2.2 (by omega)
          injection eJ' with eJ'
          have j0 := hJ' i (by omega)
          rw [List.getD_eq_getElem?_getD, HCI.out.2, ← eJ'] at j0
          replace j0 : w4.cell? (aJ.add i) = some (.int .i64 J) := j0
          clear hRr hJC hJ' eJ' hT4
          go_upto_region 9 with (fail)
          clear x3 q2 j0
          have m1 : w4.cell? ⟨gf, 1, none⟩ = some (.int .u8 F.f1.f0) := (blk_cell HG4.out 1).trans rfl
          have m2 : w4.cell? ⟨gf, 2, none⟩ = some (.int .i64 F.f1.f1) := (blk_cell HG4.out 2).trans rfl
          have m3 : w4.cell? ⟨gf, 3, none⟩ = some (.int .i64 F.f1.f2) := (blk_cell HG4.out 3).trans rfl
          have hB := HBND.out
          have hJB := HJB.out
          have hX := HOK.out.words
          have wr1 : IntKind.i64.wrap (pos + data) = pos + data := by rw [IntKind.wrap_i64]; omega
          have wr2 : IntKind.i64.wrap (pos + data + J) = pos + data + J := by rw [IntKind.wrap_i64]; omega
          have wr3 : IntKind.i64.wrap ((d : Int) + 1 - 1) = d := by rw [IntKind.wrap_i64]; omega
          have three : (¬ J < ptrs ∧ decide (J < ptrs) = false) ∨ (J < ptrs ∧ decide (J < ptrs) = true ∧ 0 ≤ pos + data + J ∧ pos + data + J ≤ X.words) := by
            by_cases c : J < ptrs
            · exact .inr ⟨c, decide_eq_true c, by omega, by omega⟩
            · exact .inl ⟨c, decide_eq_false c⟩
          have HMR : 0 < gk := by have := HK.out; have := HCI.out; omega
          obtain ⟨n, rfl⟩ : ∃ n, gk = n + 1 := ⟨gk - 1, by omega⟩
          have HK' : Aside0 (fs.length < n + (i + 1)) := ⟨by have := HK.out; omega⟩
          clear hB hJB hX HMR
          rcases three with ⟨c, d3⟩ | ⟨c, d3, c1, c2⟩
          · have hf := HFP.out
            rw [if_neg c] at hf
            have HNX := Aside0.mk hf
            clear hf c
            go_wp2_with (fail)
            go_roundg n
            case measure => omega
            case rel => exact ⟨i + 1, s2, rfl, ⟨by have := HCI.out; omega⟩, HK', HNX, HM4, HRC2, HW4⟩
          · have hx := HTX.out (pos + data + J) s2 w4 HM4.out HRC2.out c1 c2
            have hf := HFP.out
            rw [if_pos c] at hf
            obtain ⟨r, hr⟩ : ∃ r, T F.f1 (pos + data + J) s2 = r := ⟨_, rfl⟩
            rw [hr] at hf hx
            obtain ⟨rb, rs⟩ := r
            have HCALL := Aside0.mk hx.1
            have HRCH := Aside0.mk hx.2
            have HFX := Aside0.mk hf
            clear hf hx hr c c1 c2
            cases rb with
            | false =>
              have HE : Aside0 ((false, rs) = fin) := ⟨by have := HFX.out; simpa using this⟩
              go_wp2_with (go_at_call 48; (with_reducible refine HCALL.out.mono ?_); rintro e w5 ⟨rfl, hm, ht⟩; have HM5 := Aside0.mk hm; have HT5 := Aside0.mk ht; clear hm ht)
              go_ret
              rw [← HE.out]
              exact ⟨rfl, HM5.out, HTT4.out.trans HT5.out⟩
            | true =>
              have HNX : Aside0 (fieldsM X.en X.b T pos data ptrs ((fs.zip js).drop (i + 1)) rs = fin) := ⟨by have := HFX.out; simpa using this⟩
              have HRC5 := Aside0.mk (HRCH.out rfl)
              go_wp2_with (go_at_call 48; (with_reducible refine HCALL.out.mono ?_); rintro e w5 ⟨rfl, hm, ht⟩; have HM5 := Aside0.mk hm; have HW5 := Aside0.mk (HW4.out.trans ht); clear hm ht)
              go_roundg n
              case measure => omega
              case rel => exact ⟨i + 1, rs, rfl, ⟨by have := HCI.out; omega⟩, HK', HNX, HM5, HRC5, HW5⟩
        have hor : ¬ (0 < F.f1.f2 ∨ szB F.f1.f0 = 0) := by rintro (h | h); exact a2 h; exact b2 h
        rw [if_neg hor] at hff
        have HFP := Aside0.mk hff
        clear hff hor
        go_upto_region 11 with (go_at_call 46; (with_reducible refine (HSZ.out _).mono ?_); rintro e w4 ⟨rfl, hd⟩; have HD4 := Aside0.mk hd; clear hd)
        clear m1 m2 m3
        have HM4 := Aside0.mk (HM3.out.below HD4.out.below)
        have hT4 := Two.of_below L.gx L.gm HD4.out.below
        have HG4 : Aside0 (w4.heap[gf]? = some (.cells #[.string F.f0, .int .u8 F.f1.f0, .int .i64 F.f1.f1, .int .i64 F.f1.f2, .int .u64 F.f2] 29 (0, 0))) := ⟨hT4.blk HG3.out HNF.out.1 HNF.out.2⟩
        have HW4 := Aside0.mk (HW3.out.trans hT4)
        have HTT4 := Aside0.mk (HTT3.out.trans hT4)
        have m1 : w4.cell? ⟨gf, 1, none⟩ = some (.int .u8 F.f1.f0) := (blk_cell HG4.out 1).trans rfl
        have m2 : w4.cell? ⟨gf, 2, none⟩ = some (.int .i64 F.f1.f1) := (blk_cell HG4.out 2).trans rfl
        obtain ⟨n, rfl⟩ : ∃ n, gk = n + 1 := ⟨gk - 1, by have := HK.out; have := HCI.out; omega⟩
        have HK' : Aside0 (fs.length < n + (i + 1)) := ⟨by have := HK.out; omega⟩
        have two : ((F.f1.f0 == 10) = false ∧ F.f1.f0 ≠ 10) ∨ ((F.f1.f0 == 10) = true ∧ F.f1.f0 = 10) := by
          by_cases c : F.f1.f0 = 10
          · exact .inr ⟨by simp [c], c⟩
          · exact .inl ⟨by simp [c], c⟩
        rcases two with ⟨c1, c2⟩ | ⟨c1, c2⟩
        · have HNX : Aside0 (fieldsM X.en X.b T pos data ptrs ((fs.zip js).drop (i + 1)) s2 = fin) := ⟨by have := HFP.out; rw [if_neg (fun h => c2 h.1)] at this; exact this⟩
          clear hzb c2
          go_quiet (fail)
          clear m1 m2
          rename_i nq
          obtain ⟨w5, hw5⟩ : ∃ w5, w4.drewN nq = w5 := ⟨_, rfl⟩
          have HM5 : Aside0 (MS X L w5 s2) := ⟨HM4.out.below (Drawn0.below ⟨nq, hw5.symm⟩)⟩
          have HW5 : Aside0 (Two L.gx L.gm w1 w5) := ⟨HW4.out.trans (Two.of_below _ _ (Drawn0.below ⟨nq, hw5.symm⟩))⟩
          rw [hw5]
          clear hw5
          go_wp2_with (fail)
          go_roundg n
          case measure => omega
          case rel => exact ⟨i + 1, s2, rfl, ⟨by have := HCI.out; omega⟩, HK', HNX, HM5, HRC2, HW5⟩
        · have hty := HTP.out.1.2.2.2.1 c2
          have hN0 : 0 < bitsM (rd_T29 (rd_T32 X.st k).f1 i).f1.f0 := by rw [HFS.out, HRD.out.1, c2]; decide
          have HNUM : Aside0 (∀ W, MS X L W s2 → Calls Try.prog 49 #[.agg #[.pointer (some ⟨L.gx, 0, none⟩), .int .i64 k, .int .i64 pos, .int .i64 data, .int .i64 ptrs], .int .i64 i] W fun e w' => e = .returned (.int .u64 (numM X.b F.f1.f0 F.f2 pos data J)) ∧ Below W.heap.size W w') := ⟨fun W hW => by
            have hx := rnum_any hW k i pos data ptrs (by omega) (by rw [HFS.out]; exact HCI.out.1) hN0 (by have := HBND.out; have := HOK.out.words; omega) (by have := HBND.out; have := HOK.out.words; omega)
            rw [HFS.out, HJS.out, HRD.out.1, HRD.out.2] at hx
            exact hx⟩
          have hEN := at_T83 HM4.out.m.en F.f1.f1 hty.1 hty.2
          obtain ⟨aE, AN, cN, eA1, -, e1, hcN, -⟩ := hEN
          have x1 := HM4.out.x1
          rw [eA1] at x1
          have hff := HFP.out
          obtain ⟨N, hNN⟩ : ∃ N, numM X.b F.f1.f0 F.f2 pos data J = N := ⟨_, rfl⟩
          rw [hNN] at HNUM hff
          unfold namesM at hff
          have hln := HOK.out.names F.f1.f1.toNat (by omega)
          rw [show ((F.f1.f1.toNat : Nat) : Int) = F.f1.f1 by omega] at hln
          obtain ⟨nm, hnm⟩ : ∃ nm, (rd_T83 X.en F.f1.f1).f1.length = nm := ⟨_, rfl⟩
          rw [hnm] at e1 hff hln
          obtain ⟨rf, hrf⟩ : ∃ rf, F.f1.f1 = rf := ⟨_, rfl⟩
          rw [hrf] at m2 hty
          have wu : IntKind.u64.wrap (nm : Int) = nm := by rw [IntKind.wrap_u64]; omega
          have r0 := hty.1
          have r1 := hty.2
          have n0 : w4.cell? ⟨g0, 0, none⟩ = some (.pointer (some ⟨L.gx, 0, none⟩)) := (blk_cell (HTG.out _ HW4.out) 0).trans rfl
          have n1 : w4.cell? ⟨g0, 1, none⟩ = some (.int .i64 k) := (blk_cell (HTG.out _ HW4.out) 1).trans rfl
          have n2 : w4.cell? ⟨g0, 2, none⟩ = some (.int .i64 pos) := (blk_cell (HTG.out _ HW4.out) 2).trans rfl
          have n3 : w4.cell? ⟨g0, 3, none⟩ = some (.int .i64 data) := (blk_cell (HTG.out _ HW4.out) 3).trans rfl
          have n4 : w4.cell? ⟨g0, 4, none⟩ = some (.int .i64 ptrs) := (blk_cell (HTG.out _ HW4.out) 4).trans rfl
          rw [hrf] at e1
          have HX : Aside0 (∀ W, Below w4.heap.size w4 W → W.cell? ⟨gf, 1, none⟩ = some (.int .u8 F.f1.f0) ∧ W.cell? ⟨gf, 2, none⟩ = some (.int .i64 rf) ∧ W.cell? ⟨g0, 0, none⟩ = some (.pointer (some ⟨L.gx, 0, none⟩)) ∧ W.cell? ⟨g0, 1, none⟩ = some (.int .i64 k) ∧ W.cell? ⟨g0, 2, none⟩ = some (.int .i64 pos) ∧ W.cell? ⟨g0, 3, none⟩ = some (.int .i64 data) ∧ W.cell? ⟨g0, 4, none⟩ = some (.int .i64 ptrs) ∧ W.cell? ⟨L.gx, 1, none⟩ = some (.slice (some aE) X.en.length L.c1) ∧ W.cell? ⟨(aE.add (rf.toNat * 2)).block, (aE.add (rf.toNat * 2)).off + 1, none⟩ = some (.slice AN nm cN)) := ⟨fun W hW => ⟨pw_cell_below hW m1, pw_cell_below hW m2, pw_cell_below hW n0, pw_cell_below hW n1, pw_cell_below hW n2, pw_cell_below hW n3, pw_cell_below hW n4, pw_cell_below hW x1, pw_cell_below hW e1⟩⟩
          have HFX := Aside0.mk hff
          have HKD := Aside0.mk c2
          have four : (↑nm ≤ N ∧ decide ((nm : Int) ≤ N) = true) ∨ (¬ ↑nm ≤ N ∧ decide ((nm : Int) ≤ N) = false) := by
            by_cases c : (nm : Int) ≤ N
            · exact .inl ⟨c, decide_eq_true c⟩
            · exact .inr ⟨c, decide_eq_false c⟩
          clear hff hzb hN0 hnm hrf hty hNN eA1 c2 hln
          rcases four with ⟨c, d3⟩ | ⟨c, d3⟩
          all_goals
            have HC := Aside0.mk c
            clear c
            go_region_held3 (fun W => W.cell? ⟨gf, 1, none⟩ = some (.int .u8 F.f1.f0) ∧ W.cell? ⟨gf, 2, none⟩ = some (.int .i64 rf) ∧ W.cell? ⟨g0, 0, none⟩ = some (.pointer (some ⟨L.gx, 0, none⟩)) ∧ W.cell? ⟨g0, 1, none⟩ = some (.int .i64 k) ∧ W.cell? ⟨g0, 2, none⟩ = some (.int .i64 pos) ∧ W.cell? ⟨g0, 3, none⟩ = some (.int .i64 data) ∧ W.cell? ⟨g0, 4, none⟩ = some (.int .i64 ptrs) ∧ W.cell? ⟨L.gx, 1, none⟩ = some (.slice (some aE) X.en.length L.c1) ∧ W.cell? ⟨(aE.add (rf.toNat * 2)).block, (aE.add (rf.toNat * 2)).off + 1, none⟩ = some (.slice AN nm cN))
              (first | go_keep | with_reducible exact ⟨m1, m2, n0, n1, n2, n3, n4, x1, e1⟩ | with_reducible exact ⟨z1, z2, y0, y1, y2, y3, y4, zx, ze⟩)
              (first
                | (go_at_call 49; (with_reducible refine (HNUM.out _ (HM4.out.below (below_drew (Below.refl _ _)))).mono ?_); rintro e w5 ⟨rfl, hb⟩
                   have HB5 := Aside0.mk (below_then (below_drew (Below.refl w4.heap.size w4)) (Nat.le_refl _) hb)
                   obtain ⟨z1, z2, y0, y1, y2, y3, y4, zx, ze⟩ := HX.out w5 HB5.out
                   clear hb))
            have HM5 := Aside0.mk (HM4.out.below HB5.out)
            have HW5 := Aside0.mk (HW4.out.trans (Two.of_below L.gx L.gm HB5.out))
            have HTT5 := Aside0.mk (HTT4.out.trans (Two.of_below L.gx L.gm HB5.out))
          · go_wp2_with (fail)
            go_ret
            have hf := HFX.out
            rw [if_pos ⟨HKD.out, HC.out⟩] at hf
            rw [← hf]
            exact ⟨rfl, HM5.out, HTT5.out⟩
          · have HNX : Aside0 (fieldsM X.en X.b T pos data ptrs ((fs.zip js).drop (i + 1)) s2 = fin) := ⟨by have := HFX.out; rw [if_neg (fun h => absurd h.2 (by have := HC.out; omega))] at this; exact this⟩
            go_wp2_with (fail)
            go_roundg n
            case measure => omega
            case rel => exact ⟨i + 1, s2, rfl, ⟨by have := HCI.out; omega⟩, HK', HNX, HM5, HRC2, HW5⟩
    · have HE : Aside0 ((true, s') = fin) := ⟨by
        have := HF.out
        rw [List.drop_eq_nil_of_le (by rw [List.length_zip]; omega)] at this
        exact this⟩
      clear c
      go_wp2_with (fail)
      go_ret
      rw [← HE.out]
      exact ⟨rfl, HS.out, HT1.out.trans HTW.out⟩
end Go.Proofs.Ytjgjidehlldfhaa.Hand
end

section
/- Layer 8, capread: a struct that is pointed to. -/
namespace Go.Proofs.Ytjgjidehlldfhaa.Hand
open Go.RowKit Go.Proofs.Ytjgjidehlldfhaa.QAll Go.Proofs.YtjgjidehlldfhaaW.PrintWords Go.Proofs.YtjgjidehlldfhaaW.PrintLast Go.Proofs.YtjgjidehlldfhaaW.PrintMore Go.Proofs.Ytjgjidehlldfhaa.Nums Go.Proofs.Ytjgjidehlldfhaa.Runes
set_option linter.unusedVariables false
set_option linter.unusedSimpArgs false
theorem reach_ok (words n : Int) (s : Mt) (h : (reachM words n s).1 = true) : (reachM words n s).2.reached ≤ words := by
  unfold reachM at h ⊢
  split
  · rename_i c; rw [take_reached]; exact c
  · rename_i c; rw [if_neg c] at h; cases h
set_option maxHeartbeats 3200000 in
set_option maxRecDepth 100000 in
theorem record_any {X : Msg} {L : Loc} {w : World} {s : Mt} (h : MS X L w s) (hr : s.reached ≤ X.words) (k : Nat) (hk : k < X.st.length) (d : Nat) (hd : d ≤ 1000) (T : Tgt) (pos data ptrs : Int) (hp : 0 ≤ pos) (hdt : 0 ≤ data) (hpt : 0 ≤ ptrs) (hfit : pos + data + ptrs ≤ X.words)
    (HT : 1 ≤ d → ∀ f ∈ (rd_T32 X.st k).f1, 0 < f.f1.f2 ∨ szB f.f1.f0 = 0 → TgtOk X L ((d : Int) - 1) T f.f1) :
    Calls Try.prog 19 #[.pointer (some ⟨L.gx, 0, none⟩), .int .i64 pos, .int .i64 data, .int .i64 ptrs, .int .i64 k, .int .i64 d] w (Does X L w (recordM X d T pos data ptrs k s)) := by
  have hwd := h.ok.words
  have hre := h.rch
  have HREACH := Aside0.mk (reach_any h (data + ptrs) (by omega) (by omega) hr)
  have wr1 : IntKind.i64.wrap (data + ptrs) = data + ptrs := by rw [IntKind.wrap_i64]; omega
  have HOKR := Aside0.mk (reach_ok X.words (data + ptrs) s)
  obtain ⟨R, hR⟩ : ∃ R, reachM X.words (data + ptrs) s = R := ⟨_, rfl⟩
  obtain ⟨fin, hfin⟩ : ∃ fin, recordM X d T pos data ptrs k s = fin := ⟨_, rfl⟩
  rw [hfin]
  unfold recordM at hfin
  rw [hR] at HREACH hfin HOKR
  obtain ⟨rb, rs⟩ := R
  by_cases d0 : d = 0
  · subst d0
    rw [if_pos rfl] at hfin
    have HE := Aside0.mk hfin
    have H0 := Aside0.mk h
    clear hfin hR HT HOKR h
    go_enter Try.func19, Try.ntmps19
    go_wp2_with (fail)
    go_ret
    rw [← HE.out]
    exact ⟨rfl, H0.out, Two.refl _ _ _⟩
  · rw [if_neg d0] at hfin
    obtain ⟨n, rfl⟩ : ∃ n, d = n + 1 := ⟨d - 1, by omega⟩
    have dd : decide (((n + 1 : Nat) : Int) < 1) = false := decide_eq_false (by omega)
    have HE := Aside0.mk hfin
    have HTT := Aside0.mk (HT (by omega))
    cases rb with
    | false =>
      clear hfin hR HT HOKR h hre hwd hr
      go_enter Try.func19, Try.ntmps19
      go_wp2_with (go_at_call 33; (with_reducible refine HREACH.out.mono ?_); rintro e w5 ⟨rfl, hm, ht⟩; have HM5 := Aside0.mk hm; have HT5 := Aside0.mk ht; clear hm ht)
      go_ret
      have := HE.out
      rw [if_neg (by decide)] at this
      rw [← this]
      exact ⟨rfl, HM5.out, HT5.out⟩
    | true =>
      have HF : Aside0 (∀ W, MS X L W rs → Calls Try.prog 34 #[.pointer (some ⟨L.gx, 0, none⟩), .int .i64 pos, .int .i64 data, .int .i64 ptrs, .int .i64 k, .int .i64 ((n : Int) + 1)] W (Does X L W fin)) := ⟨fun W hW => by
        have := HE.out
        rw [if_pos rfl] at this
        rw [← this]
        exact fields_any hW (HOKR.out rfl) k hk n (by omega) T pos data ptrs hp hdt hpt hfit (by
          have := HTT.out
          rw [show (((n + 1 : Nat) : Int) - 1) = (n : Int) by omega] at this
          exact this)⟩
      clear hfin hR HT HOKR h hre hwd hr
      go_enter Try.func19, Try.ntmps19
      go_wp2_with (first
        | (go_at_call 33; (with_reducible refine HREACH.out.mono ?_); rintro e w5 ⟨rfl, hm, ht⟩; have HM5 := Aside0.mk hm; have HT5 := Aside0.mk ht; clear hm ht)
        | (go_at_call 34; (with_reducible refine (HF.out _ HM5.out).mono ?_); rintro e w6 ⟨rfl, hm, ht⟩; have HM6 := Aside0.mk hm; have HT6 := Aside0.mk (HT5.out.trans ht); clear hm ht))
      go_ret
      exact ⟨rfl, HM6.out, HT6.out⟩
end Go.Proofs.Ytjgjidehlldfhaa.Hand
end

section
/- Layer 6, layout: a struct in words; what Words answers, in plain Lean, and its walk. -/
namespace Go.Proofs.Ytjgjidehlldfhaa.Hand
open Go.RowKit Go.Proofs.Ytjgjidehlldfhaa.QAll Go.Proofs.YtjgjidehlldfhaaW.PrintWords Go.Proofs.YtjgjidehlldfhaaW.PrintLast Go.Proofs.YtjgjidehlldfhaaW.PrintMore Go.Proofs.Ytjgjidehlldfhaa.Nums Go.Proofs.Ytjgjidehlldfhaa.Runes
set_option linter.unusedVariables false
set_option linter.unusedSimpArgs false
/-- A field's place, if it is a number of that many bits. -/
def packStep (z : Int) (f : S29) (i : Nat) (st : List Int × Int) : List Int × Int := if numberM f = true ∧ bitsM f.f1.f0 = z then (st.1.set i st.2, st.2 + z) else st
def packRound (z : Int) : List S29 → Nat → List Int × Int → List Int × Int
  | [], _, st => st
  | f :: t, i, st => packRound z t (i + 1) (packStep z f i st)
def packNums (fs : List S29) : List Int → List Int × Int → List Int × Int
  | [], st => st
  | z :: t, st => packNums fs t (packRound z fs 0 st)
def packPtrs : List S29 → Nat → List Int × Int → List Int × Int
  | [], _, st => st
  | f :: t, i, st => packPtrs t (i + 1) (if numberM f = true then st else (st.1.set i st.2, st.2 + 1))
def sizesM : List Int := [64, 32, 16, 8, 1]
/-- A struct in words. -/
def packM (fs : List S29) : S72 :=
  let a := packNums fs sizesM (List.replicate fs.length 0, 0)
  let b := packPtrs fs 0 (a.1, 0)
  ⟨(a.2 + 63) / 64, b.2, b.1⟩
theorem idx_0 : ∀ W : World, (Instr.index 105 (.agg #[.int .i64 64, .int .i64 32, .int .i64 16, .int .i64 8, .int .i64 1]) (.int .i64 0)).run Try.prog W = .ok (.int .i64 64) W := fun _ => by kernel_rfl
theorem idx_1 : ∀ W : World, (Instr.index 105 (.agg #[.int .i64 64, .int .i64 32, .int .i64 16, .int .i64 8, .int .i64 1]) (.int .i64 1)).run Try.prog W = .ok (.int .i64 32) W := fun _ => by kernel_rfl
theorem idx_2 : ∀ W : World, (Instr.index 105 (.agg #[.int .i64 64, .int .i64 32, .int .i64 16, .int .i64 8, .int .i64 1]) (.int .i64 2)).run Try.prog W = .ok (.int .i64 16) W := fun _ => by kernel_rfl
theorem idx_3 : ∀ W : World, (Instr.index 105 (.agg #[.int .i64 64, .int .i64 32, .int .i64 16, .int .i64 8, .int .i64 1]) (.int .i64 3)).run Try.prog W = .ok (.int .i64 8) W := fun _ => by kernel_rfl
theorem idx_4 : ∀ W : World, (Instr.index 105 (.agg #[.int .i64 64, .int .i64 32, .int .i64 16, .int .i64 8, .int .i64 1]) (.int .i64 4)).run Try.prog W = .ok (.int .i64 1) W := fun _ => by kernel_rfl
/-- The state of Words' walk. -/
structure PK (w W : World) (A : Option Addr) (c : Nat) (n : Nat) (nm : ByteArray) (g0 g1 g3 : Nat) (v : Value) (xs : List Int) (c0 c1 : Int) : Prop where
  bel : Below w.heap.size w W
  b0 : W.heap[g0]? = some (.cells #[.string nm, .slice A n c] 32 (0, 0))
  b1 : W.heap[g1]? = some (.cells #[.int .i64 0, .int .i64 0, .slice none 0 0] 72 (0, 0))
  b3 : W.heap[g3]? = some (.cells #[.int .i64 c0, .int .i64 c1, v] 72 (0, 0))
  row : (Kd.int .i64).R 3 W w.heap.size (fun k => k ≠ g0 ∧ k ≠ g1 ∧ k ≠ g3) v xs
  len : xs.length = n
  ne : w.heap.size ≤ g0 ∧ g0 < g1 ∧ g1 < g3
namespace PK
variable {w W W' : World} {A : Option Addr} {c n : Nat} {nm : ByteArray} {g0 g1 g3 : Nat} {v : Value} {xs : List Int} {c0 c1 : Int}
theorem below (h : PK w W A c n nm g0 g1 g3 v xs c0 c1) (hb : Below W.heap.size W W') : PK w W' A c n nm g0 g1 g3 v xs c0 c1 :=
  ⟨below_then h.bel h.bel.size hb, (hb.block _ (blk_lt h.b0)).trans h.b0, (hb.block _ (blk_lt h.b1)).trans h.b1, (hb.block _ (blk_lt h.b3)).trans h.b3,
    Kd.R_mono (Kd.R_move (Kd.R_bound h.row) (fun k hk => hb.block k hk.2.2.1)) (fun k hk => hk.1), h.len, h.ne⟩
theorem form (h : PK w W A c n nm g0 g1 g3 v xs c0 c1) (hp : 0 < n) : ∃ g cap, v = .slice (some ⟨g, 0, none⟩) n cap ∧ w.heap.size ≤ g ∧ g ≠ g0 ∧ g ≠ g1 ∧ g ≠ g3 := by
  obtain ⟨g, cap, e, hb, -, -⟩ := Kd.R_form h.row (by rw [h.len]; exact hp)
  have hk := h.row.1 g (by rw [e]; rfl)
  rw [h.len] at e
  exact ⟨g, cap, e, hb, hk⟩
theorem put {g cap : Nat} (h : PK w W A c n nm g0 g1 g3 (.slice (some ⟨g, 0, none⟩) n cap) xs c0 c1) (hg : w.heap.size ≤ g ∧ g ≠ g0 ∧ g ≠ g1 ∧ g ≠ g3) (i : Nat) (x : Int) :
    PK w (W.setCell ⟨g, i, none⟩ (.int .i64 x)) A c n nm g0 g1 g3 (.slice (some ⟨g, 0, none⟩) n cap) (xs.set i x) c0 c1 :=
  ⟨Below.setCell h.bel (p := ⟨g, i, none⟩) hg.1 _, blk_far h.b0 (p := ⟨g, i, none⟩) (Ne.symm hg.2.1) _, blk_far h.b1 (p := ⟨g, i, none⟩) (Ne.symm hg.2.2.1) _, blk_far h.b3 (p := ⟨g, i, none⟩) (Ne.symm hg.2.2.2) _,
    (Kd.R_putg h.row (i : Int) x).1, by rw [List.length_set]; exact h.len, h.ne⟩
theorem set3 (h : PK w W A c n nm g0 g1 g3 v xs c0 c1) (x0 x1 : Int) : PK w (W.setCell ⟨g3, 1, none⟩ (.int .i64 x1)) A c n nm g0 g1 g3 v xs c0 x1 :=
  ⟨Below.setCell h.bel (p := ⟨g3, 1, none⟩) (by have := h.ne; show w.heap.size ≤ g3; omega) _, blk_far h.b0 (p := ⟨g3, 1, none⟩) (by have := h.ne; show g0 ≠ g3; omega) _, blk_far h.b1 (p := ⟨g3, 1, none⟩) (by have := h.ne; show g1 ≠ g3; omega) _, blk_set h.b3 1 _,
    Kd.R_move h.row (fun k hk => Below.heap_setCell W ⟨g3, 1, none⟩ _ k hk.2.2), h.len, h.ne⟩
theorem set0 (h : PK w W A c n nm g0 g1 g3 v xs c0 c1) (x0 : Int) : PK w (W.setCell ⟨g3, 0, none⟩ (.int .i64 x0)) A c n nm g0 g1 g3 v xs x0 c1 :=
  ⟨Below.setCell h.bel (p := ⟨g3, 0, none⟩) (by have := h.ne; show w.heap.size ≤ g3; omega) _, blk_far h.b0 (p := ⟨g3, 0, none⟩) (by have := h.ne; show g0 ≠ g3; omega) _, blk_far h.b1 (p := ⟨g3, 0, none⟩) (by have := h.ne; show g1 ≠ g3; omega) _, blk_set h.b3 0 _,
    Kd.R_move h.row (fun k hk => Below.heap_setCell W ⟨g3, 0, none⟩ _ k hk.2.2), h.len, h.ne⟩
theorem cells (h : PK w W A c n nm g0 g1 g3 v xs c0 c1) : W.cell? ⟨g0, 1, none⟩ = some (.slice A n c) ∧ W.cell? ⟨g3, 0, none⟩ = some (.int .i64 c0) ∧ W.cell? ⟨g3, 1, none⟩ = some (.int .i64 c1) ∧ W.cell? ⟨g3, 2, none⟩ = some v :=
  ⟨(blk_cell h.b0 1).trans rfl, (blk_cell h.b3 0).trans rfl, (blk_cell h.b3 1).trans rfl, (blk_cell h.b3 2).trans rfl⟩
end PK
set_option maxHeartbeats 6400000 in
set_option maxRecDepth 100000 in
theorem words_any (w : World) (nm : ByteArray) (A : Option Addr) (c : Nat) (fs : List S29) (hC : k29.C w A fs.length fs) (hl : fs.length ≤ 1000000) (hc : fs.length ≤ c) :
    Calls Try.prog 17 #[.agg #[.string nm, .slice A fs.length c]] w fun e w' => ∃ v, e = .returned (.agg #[.int .i64 (packM fs).f0, .int .i64 (packM fs).f1, v]) ∧ (Kd.int .i64).R 3 w' w.heap.size (fun _ => True) v (packM fs).f2 ∧ Below w.heap.size w w' := by
  have HC := Aside0.mk hC
  have hba := below_alloc (below_alloc (Below.refl w.heap.size w) (.cells #[.string nm, .slice A fs.length c] 32)) (.cells #[.int .i64 0, .int .i64 0, .slice none 0 0] 72)
  have hn0 := heap_alloc_new w (.cells #[.string nm, .slice A fs.length c] 32)
  have hsz : (w.alloc (.cells #[.string nm, .slice A fs.length c] 32)).heap.size = w.heap.size + 1 := by simp
  have hn1 := heap_alloc_new (w.alloc (.cells #[.string nm, .slice A fs.length c] 32)) (.cells #[.int .i64 0, .int .i64 0, .slice none 0 0] 72)
  have hb1 := below_alloc (Below.refl (w.alloc (.cells #[.string nm, .slice A fs.length c] 32)).heap.size (w.alloc (.cells #[.string nm, .slice A fs.length c] 32))) (.cells #[.int .i64 0, .int .i64 0, .slice none 0 0] 72)
  replace hn0 := (hb1.block _ (by omega)).trans hn0
  have hsz1 : ((w.alloc (.cells #[.string nm, .slice A fs.length c] 32)).alloc (.cells #[.int .i64 0, .int .i64 0, .slice none 0 0] 72)).heap.size = w.heap.size + 1 + 1 := by simp
  rw [hsz] at hn1
  obtain ⟨w1, hw1⟩ : ∃ w1, (w.alloc (.cells #[.string nm, .slice A fs.length c] 32)).alloc (.cells #[.int .i64 0, .int .i64 0, .slice none 0 0] 72) = w1 := ⟨_, rfl⟩
  rw [hw1] at hba hn0 hn1 hsz1
  obtain ⟨g0, hg0⟩ : ∃ g0, w.heap.size = g0 := ⟨_, rfl⟩
  obtain ⟨g1, hg1⟩ : ∃ g1, g0 + 1 = g1 := ⟨_, rfl⟩
  have HN0 : Aside0 (w1.heap[g0]? = some (.cells #[.string nm, .slice A fs.length c] 32 (0, 0))) := ⟨by rw [← hg0]; exact hn0⟩
  have HN1 : Aside0 (w1.heap[g1]? = some (.cells #[.int .i64 0, .int .i64 0, .slice none 0 0] 72 (0, 0))) := ⟨by rw [← hg1, ← hg0]; exact hn1⟩
  have HB1 := Aside0.mk hba
  have HSZ1 : Aside0 (w1.heap.size = g1 + 1 ∧ w.heap.size = g0 ∧ g0 + 1 = g1) := ⟨by omega, hg0, hg1⟩
  obtain ⟨P, hP⟩ : ∃ P, packM fs = P := ⟨_, rfl⟩
  rw [hP]
  have HP := Aside0.mk hP
  have c01 : w1.cell? ⟨g0, 1, none⟩ = some (.slice A fs.length c) := (blk_cell HN0.out 1).trans rfl
  clear hn0 hn1 hb1 hsz hsz1 hba hC hP
  go_enter Try.func17, Try.ntmps17
  go_upto_region 2 with (first | ((with_reducible refine gate_dst (N := 14) rfl ?_); refine Kd.R_make (Kd.int .i64) w.heap.size 3 rfl (N := 14) rfl 70 _ _ rfl (fs.length : Int) rfl rfl Try.underlying70 (.int .i64 0) 8 info3 rfl (by decide) (by omega) 0 (ok := fun k => k ≠ g0 ∧ k ≠ g1) (okp := fun k => k ≠ g0 ∧ k ≠ g1) rfl (fun _ hk => hk) (by have := HSZ1.out; omega) (by omega) (by omega) (Below.refl _ _) (by have := HSZ1.out; omega) ?_; intro v w2 ho6 hb hg_ hnew_; rw [show ((fs.length : Int)).toNat = fs.length from rfl] at ho6; obtain ⟨Av, cv, hv, -, -⟩ := Kd.R_reads ho6; rw [List.length_replicate] at hv; subst hv; have HO6 := Aside0.mk ho6; have HBB := Aside0.mk hb; have HGG := Aside0.mk hg_; clear ho6 hb hg_ hnew_))
  obtain ⟨g3, hg3⟩ : ∃ g3, w2.heap.size = g3 := ⟨_, rfl⟩
  obtain ⟨w3, hw3⟩ : ∃ w3, w2.alloc (.cells #[.int .i64 0, .int .i64 0, .slice Av fs.length cv] 72) = w3 := ⟨_, rfl⟩
  have hb3 := below_alloc (Below.refl w2.heap.size w2) (.cells #[.int .i64 0, .int .i64 0, .slice Av fs.length cv] 72)
  have hn3 := heap_alloc_new w2 (.cells #[.int .i64 0, .int .i64 0, .slice Av fs.length cv] 72)
  rw [hw3] at hb3 hn3
  rw [hg3] at hn3
  have hs2 : w1.heap.size ≤ w2.heap.size := HBB.out.size
  have HK0 : Aside0 (PK w w3 A c fs.length nm g0 g1 g3 (.slice Av fs.length cv) (List.replicate fs.length 0) 0 0) := ⟨by
    have hq := HSZ1.out
    have e0 := (HGG.out.block g0 (by omega) (by simp)).trans HN0.out
    have e1 := (HGG.out.block g1 (by omega) (by simp)).trans HN1.out
    refine ⟨below_then (HB1.out.trans HBB.out) (HB1.out.trans HBB.out).size hb3, (hb3.block _ (by omega)).trans e0, (hb3.block _ (by omega)).trans e1, hn3, ?_, List.length_replicate, by omega⟩
    exact Kd.R_mono (Kd.R_move (Kd.R_bound HO6.out) (fun k hk => hb3.block k hk.2.2.1)) (fun k hk => ⟨hk.1.1, hk.1.2, by omega⟩)⟩
  rw [hw3, hg3]
  clear hb3 hn3 hs2 hw3 hg3 c01
  obtain ⟨fin, hfin⟩ : ∃ fin, packNums fs sizesM (List.replicate fs.length 0, 0) = fin := ⟨_, rfl⟩
  have HFIN := Aside0.mk hfin
  clear hfin
  go_upto_region 4 with (fail)
  go_loopg [4, 17] 6 (fun kq v4 v17 wr => ∃ (q : Nat) (xs : List Int) (bit : Int), v4 = .int .i64 bit ∧ v17 = .int .i64 q ∧ Aside0 (q ≤ 5) ∧ Aside0 (5 < kq + q) ∧ Aside0 (packNums fs (sizesM.drop q) (xs, bit) = fin) ∧ Aside0 (0 ≤ bit ∧ bit ≤ 64000000 * q) ∧ Aside0 (PK w wr A c fs.length nm g0 g1 g3 (.slice Av fs.length cv) xs 0 0))
  case atStart => exact ⟨0, _, 0, rfl, rfl, ⟨by decide⟩, ⟨by decide⟩, HFIN, ⟨by decide⟩, HK0⟩
  case round =>
    obtain ⟨q, xs, bit, rfl, rfl, HQ, HQK, HF, HBT, HPK⟩ := hrel
    have two : (q < 5 ∧ decide ((q : Int) < 5) = true ∧ decide (q < 5) = true) ∨ (q = 5 ∧ decide ((q : Int) < 5) = false ∧ decide (q < 5) = false) := by
      have := HQ.out
      by_cases c : q < 5
      · exact .inl ⟨c, decide_eq_true (by omega), decide_eq_true c⟩
      · exact .inr ⟨by omega, decide_eq_false (by omega), decide_eq_false c⟩
    rcases two with ⟨c5, d1, d2⟩ | ⟨c5, d1, d2⟩
    · obtain ⟨z, hz⟩ : ∃ z, sizesM.drop q = z :: sizesM.drop (q + 1) ∧ (z = 64 ∨ z = 32 ∨ z = 16 ∨ z = 8 ∨ z = 1) := by
        rcases (show q = 0 ∨ q = 1 ∨ q = 2 ∨ q = 3 ∨ q = 4 by omega) with rfl | rfl | rfl | rfl | rfl
        · exact ⟨64, rfl, by decide⟩
        · exact ⟨32, rfl, by decide⟩
        · exact ⟨16, rfl, by decide⟩
        · exact ⟨8, rfl, by decide⟩
        · exact ⟨1, rfl, by decide⟩
      have HZ := Aside0.mk hz
      have HC5 := Aside0.mk c5
      have hix : ∀ W, (Instr.index 105 (.agg #[.int .i64 64, .int .i64 32, .int .i64 16, .int .i64 8, .int .i64 1]) (.int .i64 (q : Int))).run Try.prog W = .ok (.int .i64 z) W := by
        intro W
        have hz1 := hz.1
        rcases (show q = 0 ∨ q = 1 ∨ q = 2 ∨ q = 3 ∨ q = 4 by omega) with rfl | rfl | rfl | rfl | rfl
        all_goals
          simp [sizesM] at hz1
          subst hz1
          first | exact idx_0 W | exact idx_1 W | exact idx_2 W | exact idx_3 W | exact idx_4 W
      clear hz c5
      obtain ⟨c01, -, -, -⟩ := HPK.out.cells
      go_upto_region 7 with (fail)
      clear hix c01
      obtain ⟨m, rfl⟩ : ∃ m, gk = m + 1 := ⟨gk - 1, by have := HQK.out; have := HC5.out; omega⟩
      go_loopg [4, 23] (fs.length + 1) (fun kp v4 v23 wi => ∃ (i : Nat) (ys : List Int) (bt : Int), v4 = .int .i64 bt ∧ v23 = .int .i64 i ∧ Aside0 (i ≤ fs.length) ∧ Aside0 (fs.length < kp + i) ∧ Aside0 (packNums fs (sizesM.drop (q + 1)) (packRound z (fs.drop i) i (ys, bt)) = fin) ∧ Aside0 (0 ≤ bt ∧ bt ≤ 64000000 * q + 64 * i) ∧ Aside0 (PK w wi A c fs.length nm g0 g1 g3 (.slice Av fs.length cv) ys 0 0))
      case atStart => exact ⟨0, xs, bit, rfl, rfl, ⟨Nat.zero_le _⟩, ⟨by omega⟩, ⟨by have := HF.out; rw [HZ.out.1] at this; exact this⟩, ⟨by have := HBT.out; omega⟩, HPK⟩
      case round =>
        obtain ⟨i, ys, bt, rfl, rfl, HI, HIK, HG, HBI, HPI⟩ := hrel
        have two : (i < fs.length ∧ decide ((i : Int) < (fs.length : Int)) = true ∧ decide (i < fs.length) = true) ∨ (i = fs.length ∧ decide ((i : Int) < (fs.length : Int)) = false ∧ decide (i < fs.length) = false) := by
          have := HI.out
          by_cases c : i < fs.length
          · exact .inl ⟨c, decide_eq_true (by omega), decide_eq_true c⟩
          · exact .inr ⟨by omega, decide_eq_false (by omega), decide_eq_false c⟩
        rcases two with ⟨c6, d3, d4⟩ | ⟨c6, d3, d4⟩
        · obtain ⟨F, hFF⟩ : ∃ F, rd_T29 fs i = F := ⟨_, rfl⟩
          have hFe : fs[i] = F := by rw [← hFF]; unfold rd_T29; rw [show ((i : Int)).toNat = i from rfl, List.getD_eq_getElem?_getD, List.getElem?_eq_getElem c6]; rfl
          have HG2 : Aside0 (packNums fs (sizesM.drop (q + 1)) (packRound z (fs.drop (i + 1)) (i + 1) (packStep z F i (ys, bt))) = fin) := ⟨by
            have := HG.out
            rw [List.drop_eq_getElem_cons c6, hFe] at this
            exact this⟩
          obtain ⟨aF, eA, f0, f1, f2, f3, f4⟩ := at_T29 (Kd.C_below HC.out HPI.out.bel) (i : Int) (Int.natCast_nonneg _) (by omega)
          rw [hFF] at f0 f1 f2 f3 f4
          rw [show ((i : Int)).toNat = i from rfl] at f0 f1 f2 f3 f4
          subst eA
          have i0 : (0 : Int) ≤ (i : Int) := Int.natCast_nonneg _
          have i1 : (i : Int) < (fs.length : Int) := by omega
          have wi1 : IntKind.i64.wrap ((i : Int) + 1) = (i : Int) + 1 := by rw [IntKind.wrap_i64]; omega
          have hz2 := HZ.out.2
          have hbi := HBI.out
          have hq5 := HC5.out
          have wb : IntKind.i64.wrap (bt + z) = bt + z := by rw [IntKind.wrap_i64]; omega
          have HCI := Aside0.mk c6
          obtain ⟨gf, hgf⟩ : ∃ gf, wr.heap.size = gf := ⟨_, rfl⟩
          obtain ⟨w4, hw4⟩ : ∃ w4, wr.alloc (.cells #[.string F.f0, .int .u8 F.f1.f0, .int .i64 F.f1.f1, .int .i64 F.f1.f2, .int .u64 F.f2] 29) = w4 := ⟨_, rfl⟩
          have hb4 := below_alloc (Below.refl wr.heap.size wr) (.cells #[.string F.f0, .int .u8 F.f1.f0, .int .i64 F.f1.f1, .int .i64 F.f1.f2, .int .u64 F.f2] 29)
          have hn4 := heap_alloc_new wr (.cells #[.string F.f0, .int .u8 F.f1.f0, .int .i64 F.f1.f1, .int .i64 F.f1.f2, .int .u64 F.f2] 29)
          rw [hw4] at hb4 hn4
          rw [hgf] at hn4
          have HP4 := Aside0.mk (HPI.out.below hb4)
          have HG4 := Aside0.mk hn4
          obtain ⟨n, rfl⟩ : ∃ n, gk = n + 1 := ⟨gk - 1, by have := HIK.out; omega⟩
          have HIK' : Aside0 (fs.length < n + (i + 1)) := ⟨by have := HIK.out; omega⟩
          clear hb4 hn4 c6 hFF hFe hz2 hbi hq5
          go_upto_region 9 with (fail)
          clear f0 f1 f2 f3 f4
          have y0 : w4.cell? ⟨gf, 0, none⟩ = some (.string F.f0) := (blk_cell HG4.out 0).trans rfl
          have y1 : w4.cell? ⟨gf, 1, none⟩ = some (.int .u8 F.f1.f0) := (blk_cell HG4.out 1).trans rfl
          have y2 : w4.cell? ⟨gf, 2, none⟩ = some (.int .i64 F.f1.f1) := (blk_cell HG4.out 2).trans rfl
          have y3 : w4.cell? ⟨gf, 3, none⟩ = some (.int .i64 F.f1.f2) := (blk_cell HG4.out 3).trans rfl
          have y4 : w4.cell? ⟨gf, 4, none⟩ = some (.int .u64 F.f2) := (blk_cell HG4.out 4).trans rfl
          have HNUM := Aside0.mk (fun W => layout_number.calls 6 F.f0 F.f1.f0 F.f1.f1 F.f1.f2 F.f2 (numberM F) W (number_f F))
          have HBITS := Aside0.mk (fun W => layout_Bits.calls 6 F.f1.f0 (bitsM F.f1.f0) W (bits_f F.f1.f0))
          have HST := Aside0.mk (show packStep z F i (ys, bt) = if numberM F = true ∧ bitsM F.f1.f0 = z then (ys.set i bt, bt + z) else (ys, bt) from rfl)
          obtain ⟨p, hp⟩ : ∃ p, numberM F = p := ⟨_, rfl⟩
          obtain ⟨B, hB⟩ : ∃ B, bitsM F.f1.f0 = B := ⟨_, rfl⟩
          rw [hp] at HNUM
          rw [hB] at HBITS
          rw [hp, hB] at HST
          clear hp hB
          have ways : (p = false) ∨ (p = true ∧ (B == z) = false ∧ B ≠ z) ∨ (p = true ∧ (B == z) = true ∧ B = z) := by
            cases p with
            | false => exact .inl rfl
            | true =>
              by_cases c : B = z
              · exact .inr (.inr ⟨rfl, by simp [c], c⟩)
              · exact .inr (.inl ⟨rfl, by simp [c], c⟩)
          rcases ways with rfl | ⟨rfl, a1, a2⟩ | ⟨rfl, a1, a2⟩
          · have HNX : Aside0 (packNums fs (sizesM.drop (q + 1)) (packRound z (fs.drop (i + 1)) (i + 1) (ys, bt)) = fin) := ⟨by have := HG2.out; rw [HST.out, if_neg (fun h => by cases h.1)] at this; exact this⟩
            go_wp2_with (go_at_call 30; (with_reducible refine (HNUM.out _).mono ?_); rintro e w5 ⟨rfl, hd⟩; have HP5 := Aside0.mk (HP4.out.below hd); clear hd)
            go_roundg n
            case measure => omega
            case rel => exact ⟨i + 1, ys, bt, rfl, rfl, ⟨by have := HCI.out; omega⟩, HIK', HNX, ⟨by have := HBI.out; omega⟩, HP5⟩
          · have HNX : Aside0 (packNums fs (sizesM.drop (q + 1)) (packRound z (fs.drop (i + 1)) (i + 1) (ys, bt)) = fin) := ⟨by have := HG2.out; rw [HST.out, if_neg (fun h => a2 h.2)] at this; exact this⟩
            clear a2
            go_wp2_with (first | (go_at_call 30; (with_reducible refine (HNUM.out _).mono ?_); rintro e w5 ⟨rfl, hd⟩; have HP5 := Aside0.mk (HP4.out.below hd); have y1' := pw_cell_below hd y1; clear hd) | (go_at_call 31; (with_reducible refine (HBITS.out _).mono ?_); rintro e w6 ⟨rfl, hd⟩; have HP6 := Aside0.mk (HP5.out.below hd.below); clear hd))
            go_roundg n
            case measure => omega
            case rel => exact ⟨i + 1, ys, bt, rfl, rfl, ⟨by have := HCI.out; omega⟩, HIK', HNX, ⟨by have := HBI.out; omega⟩, HP6⟩
          · have HNX : Aside0 (packNums fs (sizesM.drop (q + 1)) (packRound z (fs.drop (i + 1)) (i + 1) (ys.set i bt, bt + z)) = fin) := ⟨by have := HG2.out; rw [HST.out, if_pos ⟨rfl, a2⟩] at this; exact this⟩
            clear a2
            go_upto_region 10 with (first | (go_at_call 30; (with_reducible refine (HNUM.out _).mono ?_); rintro e w5 ⟨rfl, hd⟩; have HP5 := Aside0.mk (HP4.out.below hd); have y1' := pw_cell_below hd y1; clear hd) | (go_at_call 31; (with_reducible refine (HBITS.out _).mono ?_); rintro e w6 ⟨rfl, hd⟩; have HP6 := Aside0.mk (HP5.out.below hd.below); clear hd))
            clear y0 y1 y2 y3 y4 y1'
            obtain ⟨-, -, -, c3⟩ := HP6.out.cells
            obtain ⟨go, co, eo, hgo⟩ := HP6.out.form (by have := HCI.out; omega)
            injection eo with ea _ ec
            subst ea ec
            obtain ⟨hx, hf⟩ := Kd.R_celln 0 HP6.out.row (i : Int) i0 (by omega)
            rw [show ((i : Int)).toNat = i from rfl] at hx hf
            have HGO := Aside0.mk hgo
            have HP7 : Aside0 (PK w (w6.setCell ⟨go, i, none⟩ (.int .i64 bt)) (some aF) c fs.length nm g0 g1 g3 (.slice (some ⟨go, 0, none⟩) fs.length cv) (ys.set i bt) 0 0) := ⟨HP6.out.put hgo i bt⟩
            clear hgo
            go_wp2_with (fail)
            go_roundg n
            case measure => omega
            case rel => exact ⟨i + 1, ys.set i bt, bt + z, rfl, rfl, ⟨by have := HCI.out; omega⟩, HIK', HNX, ⟨by have := HBI.out; have := HZ.out.2; omega⟩, HP7⟩
        · have HNX : Aside0 (packNums fs (sizesM.drop (q + 1)) (ys, bt) = fin) := ⟨by have := HG.out; rw [c6, List.drop_length] at this; exact this⟩
          have HBN : Aside0 (0 ≤ bt ∧ bt ≤ 64000000 * ((q + 1 : Nat) : Int)) := ⟨by have := HBI.out; have := HI.out; omega⟩
          have wq1 : IntKind.i64.wrap ((q : Int) + 1) = (q : Int) + 1 := by rw [IntKind.wrap_i64]; have := HC5.out; omega
          clear c6
          go_wp2_with (fail)
          go_roundg m
          case measure => omega
          case rel => exact ⟨q + 1, ys, bt, rfl, rfl, ⟨by have := HC5.out; omega⟩, ⟨by have := HQK.out; omega⟩, HNX, HBN, HPI⟩
    · have HE : Aside0 ((xs, bit) = fin) := ⟨by have := HF.out; rw [c5] at this; exact this⟩
      clear c5
      obtain ⟨c01, -, -, -⟩ := HPK.out.cells
      go_upto_region 15 with (fail)
      clear c01
      obtain ⟨fin2, hfin2⟩ : ∃ fin2, packPtrs fs 0 (xs, 0) = fin2 := ⟨_, rfl⟩
      have HPP : Aside0 (P = ⟨(bit + 63) / 64, fin2.2, fin2.1⟩) := ⟨by
        rw [← HP.out]; unfold packM; rw [HFIN.out, ← HE.out]; simp only; rw [hfin2]⟩
      have HF2 := Aside0.mk hfin2
      clear hfin2
      have hbt := HBT.out
      have hqq := HQ.out
      have wq63 : IntKind.i64.wrap (bit + 63) = bit + 63 := by rw [IntKind.wrap_i64]; omega
      have HBB2 : Aside0 (0 ≤ bit ∧ bit ≤ 320000000) := ⟨by omega⟩
      clear hbt hqq
      go_loopg [51] (fs.length + 1) (fun kp v51 wi => ∃ (i : Nat) (ys : List Int) (cn : Int), v51 = .int .i64 i ∧ Aside0 (i ≤ fs.length) ∧ Aside0 (fs.length < kp + i) ∧ Aside0 (packPtrs (fs.drop i) i (ys, cn) = fin2) ∧ Aside0 (0 ≤ cn ∧ cn ≤ i) ∧ Aside0 (PK w wi A c fs.length nm g0 g1 g3 (.slice Av fs.length cv) ys 0 cn))
      case atStart => exact ⟨0, xs, 0, rfl, ⟨Nat.zero_le _⟩, ⟨by omega⟩, HF2, ⟨by omega⟩, HPK⟩
      case round =>
        obtain ⟨i, ys, cn, rfl, HI, HIK, HG, HBI, HPI⟩ := hrel
        have two : (i < fs.length ∧ decide ((i : Int) < (fs.length : Int)) = true ∧ decide (i < fs.length) = true) ∨ (i = fs.length ∧ decide ((i : Int) < (fs.length : Int)) = false ∧ decide (i < fs.length) = false) := by
          have := HI.out
          by_cases c : i < fs.length
          · exact .inl ⟨c, decide_eq_true (by omega), decide_eq_true c⟩
          · exact .inr ⟨by omega, decide_eq_false (by omega), decide_eq_false c⟩
        rcases two with ⟨c6, d3, d4⟩ | ⟨c6, d3, d4⟩
        · obtain ⟨F, hFF⟩ : ∃ F, rd_T29 fs i = F := ⟨_, rfl⟩
          have hFe : fs[i] = F := by rw [← hFF]; unfold rd_T29; rw [show ((i : Int)).toNat = i from rfl, List.getD_eq_getElem?_getD, List.getElem?_eq_getElem c6]; rfl
          have HG2 : Aside0 (packPtrs (fs.drop (i + 1)) (i + 1) (if numberM F = true then (ys, cn) else (ys.set i cn, cn + 1)) = fin2) := ⟨by
            have := HG.out
            rw [List.drop_eq_getElem_cons c6, hFe] at this
            exact this⟩
          obtain ⟨aF, eA, f0, f1, f2, f3, f4⟩ := at_T29 (Kd.C_below HC.out HPI.out.bel) (i : Int) (Int.natCast_nonneg _) (by omega)
          rw [hFF] at f0 f1 f2 f3 f4
          rw [show ((i : Int)).toNat = i from rfl] at f0 f1 f2 f3 f4
          subst eA
          have i0 : (0 : Int) ≤ (i : Int) := Int.natCast_nonneg _
          have i1 : (i : Int) < (fs.length : Int) := by omega
          have wi1 : IntKind.i64.wrap ((i : Int) + 1) = (i : Int) + 1 := by rw [IntKind.wrap_i64]; omega
          have hbi := HBI.out
          have wb : IntKind.i64.wrap (cn + 1) = cn + 1 := by rw [IntKind.wrap_i64]; omega
          clear hbi
          have HCI := Aside0.mk c6
          obtain ⟨gf, hgf⟩ : ∃ gf, wr.heap.size = gf := ⟨_, rfl⟩
          obtain ⟨w4, hw4⟩ : ∃ w4, wr.alloc (.cells #[.string F.f0, .int .u8 F.f1.f0, .int .i64 F.f1.f1, .int .i64 F.f1.f2, .int .u64 F.f2] 29) = w4 := ⟨_, rfl⟩
          have hb4 := below_alloc (Below.refl wr.heap.size wr) (.cells #[.string F.f0, .int .u8 F.f1.f0, .int .i64 F.f1.f1, .int .i64 F.f1.f2, .int .u64 F.f2] 29)
          have hn4 := heap_alloc_new wr (.cells #[.string F.f0, .int .u8 F.f1.f0, .int .i64 F.f1.f1, .int .i64 F.f1.f2, .int .u64 F.f2] 29)
          rw [hw4] at hb4 hn4
          rw [hgf] at hn4
          have HP4 := Aside0.mk (HPI.out.below hb4)
          have HG4 := Aside0.mk hn4
          obtain ⟨n, rfl⟩ : ∃ n, gk = n + 1 := ⟨gk - 1, by have := HIK.out; omega⟩
          have HIK' : Aside0 (fs.length < n + (i + 1)) := ⟨by have := HIK.out; omega⟩
          clear hb4 hn4 c6 hFF hFe
          go_upto_region 17 with (fail)
          clear f0 f1 f2 f3 f4
          have y0 : w4.cell? ⟨gf, 0, none⟩ = some (.string F.f0) := (blk_cell HG4.out 0).trans rfl
          have y1 : w4.cell? ⟨gf, 1, none⟩ = some (.int .u8 F.f1.f0) := (blk_cell HG4.out 1).trans rfl
          have y2 : w4.cell? ⟨gf, 2, none⟩ = some (.int .i64 F.f1.f1) := (blk_cell HG4.out 2).trans rfl
          have y3 : w4.cell? ⟨gf, 3, none⟩ = some (.int .i64 F.f1.f2) := (blk_cell HG4.out 3).trans rfl
          have y4 : w4.cell? ⟨gf, 4, none⟩ = some (.int .u64 F.f2) := (blk_cell HG4.out 4).trans rfl
          have HNUM := Aside0.mk (fun W => layout_number.calls 6 F.f0 F.f1.f0 F.f1.f1 F.f1.f2 F.f2 (numberM F) W (number_f F))
          obtain ⟨p, hp⟩ : ∃ p, numberM F = p := ⟨_, rfl⟩
          rw [hp] at HNUM HG2
          clear hp
          cases p with
          | true =>
            go_wp2_with (go_at_call 30; (with_reducible refine (HNUM.out _).mono ?_); rintro e w5 ⟨rfl, hd⟩; have HP5 := Aside0.mk (HP4.out.below hd); clear hd)
            go_roundg n
            case measure => omega
            case rel => exact ⟨i + 1, ys, cn, rfl, ⟨by have := HCI.out; omega⟩, HIK', HG2, ⟨by have := HBI.out; omega⟩, HP5⟩
          | false =>
            go_upto_region 18 with (go_at_call 30; (with_reducible refine (HNUM.out _).mono ?_); rintro e w5 ⟨rfl, hd⟩; have HP6 := Aside0.mk (HP4.out.below hd); clear hd)
            clear y0 y1 y2 y3 y4
            obtain ⟨-, -, c2, c3⟩ := HP6.out.cells
            obtain ⟨go, co, eo, hgo⟩ := HP6.out.form (by have := HCI.out; omega)
            injection eo with ea _ ec
            subst ea ec
            obtain ⟨hx, hf⟩ := Kd.R_celln 0 HP6.out.row (i : Int) i0 (by omega)
            rw [show ((i : Int)).toNat = i from rfl] at hx hf
            have HP7' := HP6.out.put hgo i cn
            obtain ⟨w7, hw7⟩ : ∃ w7, w5.setCell ⟨go, i, none⟩ (.int .i64 cn) = w7 := ⟨_, rfl⟩
            rw [hw7] at HP7'
            have HP7 := Aside0.mk HP7'
            clear hgo HP7'
            go_upto_region 19 with (fail)
            clear c2 c3 hx hf hw7
            obtain ⟨-, -, c2, -⟩ := HP7.out.cells
            have f1 := blk_frozen HP7.out.b3 1
            have HP8 : Aside0 (PK w (w7.setCell ⟨g3, 1, none⟩ (.int .i64 (cn + 1))) (some aF) c fs.length nm g0 g1 g3 (.slice (some ⟨go, 0, none⟩) fs.length cv) (ys.set i cn) 0 (cn + 1)) := ⟨HP7.out.set3 0 (cn + 1)⟩
            go_wp2_with (fail)
            go_roundg n
            case measure => omega
            case rel => exact ⟨i + 1, ys.set i cn, cn + 1, rfl, ⟨by have := HCI.out; omega⟩, HIK', by have := HG2.out; rw [if_neg (by decide)] at this; exact ⟨this⟩, ⟨by have := HBI.out; omega⟩, HP8⟩
        · have HE2 : Aside0 ((ys, cn) = fin2) := ⟨by have := HG.out; rw [c6, List.drop_length] at this; exact this⟩
          clear c6
          obtain ⟨-, p0, -, -⟩ := HPI.out.cells
          have f0 := blk_frozen HPI.out.b3 0
          have hbb := HBB2.out
          go_upto_region 22 with (fail)
          clear p0 f0 hbb
          obtain ⟨wd, hwd⟩ : ∃ wd, (bit + 63) / 64 = wd := ⟨_, rfl⟩
          rw [hwd] at HPP ⊢
          obtain ⟨w7, hw7⟩ : ∃ w7, wr.setCell ⟨g3, 0, none⟩ (.int .i64 wd) = w7 := ⟨_, rfl⟩
          have HP7 : Aside0 (PK w w7 A c fs.length nm g0 g1 g3 (.slice Av fs.length cv) ys wd cn) := ⟨by rw [← hw7]; exact HPI.out.set0 wd⟩
          rw [hw7]
          clear hw7 hwd
          obtain ⟨-, p0, p1, p2⟩ := HP7.out.cells
          have q0 : w7.cell? ⟨g1, 0, none⟩ = some (.int .i64 0) := (blk_cell HP7.out.b1 0).trans rfl
          have q1 : w7.cell? ⟨g1, 1, none⟩ = some (.int .i64 0) := (blk_cell HP7.out.b1 1).trans rfl
          have q2 : w7.cell? ⟨g1, 2, none⟩ = some (.slice none 0 0) := (blk_cell HP7.out.b1 2).trans rfl
          have f0 := blk_frozen HP7.out.b1 0
          have f1 := blk_frozen HP7.out.b1 1
          have f2 := blk_frozen HP7.out.b1 2
          go_wp2_with (fail)
          obtain ⟨wz, hwz⟩ : ∃ wz, ((w7.setCell ⟨g1, 0, none⟩ (.int .i64 wd)).setCell ⟨g1, 1, none⟩ (.int .i64 cn)).setCell ⟨g1, 2, none⟩ (.slice Av fs.length cv) = wz := ⟨_, rfl⟩
          rw [hwz]
          have b3 := blk_set (blk_set (blk_set HP7.out.b1 0 (.int .i64 wd)) 1 (.int .i64 cn)) 2 (.slice Av fs.length cv)
          rw [hwz] at b3
          have z0 : wz.cell? ⟨g1, 0, none⟩ = some (.int .i64 wd) := (blk_cell b3 0).trans rfl
          have z1 : wz.cell? ⟨g1, 1, none⟩ = some (.int .i64 cn) := (blk_cell b3 1).trans rfl
          have z2 : wz.cell? ⟨g1, 2, none⟩ = some (.slice Av fs.length cv) := (blk_cell b3 2).trans rfl
          have hne := HP7.out.ne
          have hbz : Below w.heap.size w wz := by
            rw [← hwz]
            exact Below.setCell (Below.setCell (Below.setCell HP7.out.bel (p := ⟨g1, 0, none⟩) (by show w.heap.size ≤ g1; omega) _) (p := ⟨g1, 1, none⟩) (by show w.heap.size ≤ g1; omega) _) (p := ⟨g1, 2, none⟩) (by show w.heap.size ≤ g1; omega) _
          have hrz : (Kd.int .i64).R 3 wz w.heap.size (fun _ => True) (.slice Av fs.length cv) ys := by
            rw [← hwz]
            exact Kd.R_mono (Kd.R_move (Kd.R_move (Kd.R_move HP7.out.row (fun k hk => Below.heap_setCell w7 ⟨g1, 0, none⟩ _ k hk.2.1)) (fun k hk => Below.heap_setCell _ ⟨g1, 1, none⟩ _ k hk.2.1)) (fun k hk => Below.heap_setCell _ ⟨g1, 2, none⟩ _ k hk.2.1)) (fun _ _ => trivial)
          have hpp := HPP.out
          rw [← HE2.out] at hpp
          exact bodyPost_ret (v := .agg #[.int .i64 wd, .int .i64 cn, .slice Av fs.length cv]) (by simp [results, Try.results17, go_sem, z0, z1, z2]) rfl ⟨_, by rw [hpp], by rw [hpp]; exact hrz, hbz⟩
end Go.Proofs.Ytjgjidehlldfhaa.Hand
end
