/- Layer 13, scan: a text in quotes. -/
import Derived.Test.YtonekmigcpgdeaaDoorS6a
import Derived.Test.YtonekmigcpgdeaaDoorLay
import Derived.Test.YtonekmigcpgdeaaDoorVRunes
namespace Go.Proofs.YtonekmigcpgdeaaDoor.Hand
open Go.RowKit Go.Proofs.YtonekmigcpgdeaaDoor.QAll Go.Proofs.YtonekmigcpgdeaaDoorW.PrintWords Go.Proofs.YtonekmigcpgdeaaDoorW.PrintLast Go.Proofs.YtonekmigcpgdeaaDoorW.PrintMore Go.Proofs.YtonekmigcpgdeaaDoor.Runes
set_option linter.unusedVariables false
set_option linter.unusedSimpArgs false
/-- The text from a place on, of which these bytes are told already. -/
def textF : Nat → List Int → Nat → List Int → Option (List Int × Nat)
  | 0, _, _, _ => none
  | k + 1, b, i, out =>
    if b.length ≤ i ∨ hereB b i < 32 then none
    else if hereB b i = 34 then (if U out.length out = none then some (out, i + 1) else none)
    else if hereB b i = 92 then (match escV b (i + 1) with | none => none | some p => textF k b p.2 (out ++ Lib.encodeRuneZ p.1))
    else textF k b (i + 1) (out ++ [hereB b i])
def textV (b : List Int) (i : Nat) : Option (List Int × Nat) := if signB b i 34 = true then textF (b.length + 1) b (skip b i + 1) [] else none
/-- What Text tells, and where the scanner stands then. -/
def TextPost (R : Option (List Int × Nat)) (g m : Nat) (A : Option Addr) (c : Nat) (b : List Int) (w : World) (e : Ending) (w' : World) : Prop :=
  ∃ v, e = .returned (.tuple #[v, .bool R.isSome]) ∧ w'.ownsRow w.heap.size 5 1 v ((R.map Prod.fst).getD []).length (encs (Value.int .u8) ((R.map Prod.fst).getD [])) ∧ (∃ (j : Nat) (left' : Int), Scn w' g m A c b j left' ∧ ∀ p, R = some p → j = p.2) ∧ Two g m w w'
theorem unitV_le {b : List Int} {i : Nat} {r : Int} (h : unitV b i = some r) : i + 4 ≤ b.length := by
  unfold unitV at h
  split at h
  · assumption
  · cases h
theorem hereB_lt {b : List Int} {i : Nat} (h : hereB b i ≠ 0) : i < b.length := by
  by_cases q : i < b.length
  · exact q
  · unfold hereB at h; rw [dif_neg q] at h; exact absurd rfl h
theorem escV_le {b : List Int} {i : Nat} {p : Int × Nat} (h : escV b i = some p) : i < p.2 ∧ p.2 ≤ b.length ∧ 0 ≤ p.1 ∧ p.1 ≤ 1114111 := by
  unfold escV at h
  have key : ∀ (x r : Int), hereB b i = x → x ≠ 0 → 0 ≤ r → r ≤ 1114111 → some (r, i + 1) = some p → i < p.2 ∧ p.2 ≤ b.length ∧ 0 ≤ p.1 ∧ p.1 ≤ 1114111 := by
    intro x r hx h0 h1 h2 e
    injection e with e; subst e
    have := hereB_lt (b := b) (i := i) (by omega)
    exact ⟨by simp, by simp; omega, h1, h2⟩
  split at h
  · exact key _ _ (by assumption) (by decide) (by decide) (by decide) h
  split at h
  · exact key _ _ (by assumption) (by decide) (by decide) (by decide) h
  split at h
  · exact key _ _ (by assumption) (by decide) (by decide) (by decide) h
  split at h
  · exact key _ _ (by assumption) (by decide) (by decide) (by decide) h
  split at h
  · exact key _ _ (by assumption) (by decide) (by decide) (by decide) h
  split at h
  · exact key _ _ (by assumption) (by decide) (by decide) (by decide) h
  split at h
  · exact key _ _ (by assumption) (by decide) (by decide) (by decide) h
  split at h
  · exact key _ _ (by assumption) (by decide) (by decide) (by decide) h
  split at h
  · clear key
    unfold pairV at h
    cases hu : unitV b (i + 1) with
    | none => rw [hu] at h; cases h
    | some r =>
      rw [hu] at h
      dsimp only at h
      have h1 := unitV_le hu
      have h2 := unitV_bound hu
      split at h
      · cases h
      split at h
      · injection h with h; subst h; simp; omega
      split at h
      · cases hl : unitV b (i + 7) with
        | none => rw [hl] at h; cases h
        | some l =>
          rw [hl] at h
          dsimp only at h
          have h3 := unitV_le hl
          have h4 := unitV_bound hl
          split at h
          · injection h with h; subst h; simp; omega
          · cases h
      · cases h
  · cases h
theorem own_below {W W' : World} {B e s n : Nat} {v : Value} {xs : List Value} (h : W.ownsRow B e s v n xs) (hb : Below W.heap.size W W') : W'.ownsRow B e s v n xs := by
  refine ⟨h.1, ?_⟩
  rcases h.2 with hn | ⟨g, cap, cur, rfl, hbb, hgg, rest⟩
  · exact .inl hn
  · exact .inr ⟨g, cap, cur, rfl, hbb, (hb.block g (blk_lt hgg)).trans hgg, rest⟩
theorem own_setCell {W : World} {B e s n : Nat} {v : Value} {xs : List Value} (h : W.ownsRow B e s v n xs) (m i : Nat) (u : Value) (hm : m < B) : (W.setCell ⟨m, i, none⟩ u).ownsRow B e s v n xs := by
  refine ⟨h.1, ?_⟩
  rcases h.2 with hn | ⟨g, cap, cur, rfl, hbb, hgg, rest⟩
  · exact .inl hn
  · exact .inr ⟨g, cap, cur, rfl, hbb, (Below.heap_setCell W ⟨m, i, none⟩ u g (by simp; omega)).trans hgg, rest⟩
theorem own_form {W : World} {B e s n : Nat} {v : Value} {xs : List Value} (h : W.ownsRow B e s v n xs) : ∃ A c, v = .slice A n c ∧ n ≤ c := by
  rcases h.2 with ⟨hv, hn⟩ | ⟨g, cap, cur, hv, _, _, hle, _⟩
  · exact ⟨none, 0, by rw [hv, hn], by omega⟩
  · exact ⟨_, cap, hv, hle⟩
theorem own_C {W : World} {B c : Nat} {A : Option Addr} {l : List Int} (h : W.ownsRow B 5 1 (.slice A l.length c) l.length (encs (Value.int .u8) l)) : Kd.C (Kd.int .u8) W A l.length l :=
  (Kd.R_reads' (Kd.R_of_own (enc := Value.int .u8) (h1 := fun _ => rfl) (ok := fun _ => True) h (fun _ _ => trivial))).2.2
theorem own_base {W : World} {B e s n : Nat} {v : Value} {xs : List Value} (h : W.ownsRow B e s v n xs) : ∀ k, v.ownBlock = some k → B ≤ k := fun k hk => (h.lt k hk).1
theorem own_two {W W' : World} {g m B e s n : Nat} {v : Value} {xs : List Value} (h : W.ownsRow B e s v n xs) (ht : Two g m W W') (hg : g < B) (hm : m < B) : W'.ownsRow B e s v n xs := by
  refine ⟨h.1, ?_⟩
  rcases h.2 with hn | ⟨k, cap, cur, rfl, hbb, hgg, rest⟩
  · exact .inl hn
  · exact .inr ⟨k, cap, cur, rfl, hbb, (ht.block k (blk_lt hgg) (by omega) (by omega)).trans hgg, rest⟩
section text
variable {w : World} {g m : Nat} {A : Option Addr} {c : Nat} {b : List Int} {i : Nat} {left : Int}
/-- The scanner is untouched where the call's own new row alone has grown. -/
theorem Scn.grown {w wr w' : World} {i0 i : Nat} {l0 left : Int} {row : Option Nat} (h0 : Scn w g m A c b i0 l0) (ht : Two g m w w') (hs : Scn wr g m A c b i left) (hg : wr.grownBy w' row) (hrow : ∀ k, row = some k → w.heap.size ≤ k) : Scn w' g m A c b i left :=
  ⟨(hg.block g (blk_lt hs.sc) (fun e => by have := hrow g e.symm; have := blk_lt h0.sc; omega)).trans hs.sc, (hg.block m (blk_lt hs.mt) (fun e => by have := hrow m e.symm; have := blk_lt h0.mt; omega)).trans hs.mt, hs.ne, fun W hW => h0.bytes W (ht.trans hW), hs.cap, hs.lim, hs.bud⟩
theorem Two.grown {w wr w' : World} {row : Option Nat} (h : Two g m w wr) (hg : wr.grownBy w' row) (hrow : ∀ k, row = some k → w.heap.size ≤ k) : Two g m w w' :=
  ⟨hg.os.trans h.os, hg.tape.trans h.tape, hg.output.trans h.output, Nat.le_trans h.size hg.size, fun k hk h1 h2 => (hg.block k (Nat.lt_of_lt_of_le hk h.size) (fun e => by have := hrow k e.symm; omega)).trans (h.block k hk h1 h2)⟩
set_option maxHeartbeats 3200000 in
set_option maxRecDepth 100000 in
theorem text_no (h : Scn w g m A c b i left) (hs : signB b i 34 = false) :
    Calls Tryd.prog 6 #[.pointer (some ⟨g, 0, none⟩)] w (TextPost none g m A c b w) := by
  have hsg := sign_any 34 h
  have HSG : Aside0 (Calls Tryd.prog 14 #[.pointer (some ⟨g, 0, none⟩), .int .u8 34] w fun e w' => e = .returned (.bool false) ∧ (∃ left', Scn w' g m A c b (skip b i) left') ∧ Two g m w w') := ⟨hsg.mono fun e w' hp => by
    obtain ⟨h1, ⟨l, h2⟩, h3⟩ := hp
    rw [hs] at h1 h2
    exact ⟨h1, ⟨l, by simpa using h2⟩, h3⟩⟩
  clear hsg hs h
  go_enter Tryd.func6, Tryd.ntmps6
  go_wp2_with (go_at_call 14; (with_reducible refine HSG.out.mono ?_); rintro e w1 ⟨rfl, ⟨lf, hs1⟩, ht1⟩; have HS1 := Aside0.mk hs1; have HT1 := Aside0.mk ht1; clear hs1 ht1)
  go_ret2
  exact ⟨_, rfl, World.ownsRow_nil _ _ _ _, ⟨_, lf, HS1.out, fun p hp => by cases hp⟩, HT1.out⟩
set_option maxHeartbeats 6400000 in
set_option maxRecDepth 100000 in
theorem text_go (h : Scn w g m A c b i left) (hby : ∀ x ∈ b, 0 ≤ x ∧ x < 256) (hs : signB b i 34 = true) :
    Calls Tryd.prog 6 #[.pointer (some ⟨g, 0, none⟩)] w (TextPost (textF (b.length + 1) b (skip b i + 1) []) g m A c b w) := by
  have hsg := sign_any 34 h
  have HSG : Aside0 (Calls Tryd.prog 14 #[.pointer (some ⟨g, 0, none⟩), .int .u8 34] w fun e w' => e = .returned (.bool true) ∧ (∃ left', Scn w' g m A c b (skip b i + 1) left') ∧ Two g m w w') := ⟨hsg.mono fun e w' hp => by
    obtain ⟨h1, ⟨l, h2⟩, h3⟩ := hp
    rw [hs] at h1 h2
    exact ⟨h1, ⟨l, by simpa using h2⟩, h3⟩⟩
  have hle : skip b i + 1 ≤ b.length := by
    unfold signB at hs
    simp at hs
    omega
  have HLE := Aside0.mk hle
  obtain ⟨i0, hi0⟩ : ∃ i0, skip b i + 1 = i0 := ⟨_, rfl⟩
  rw [hi0] at HSG HLE ⊢
  obtain ⟨R, hR⟩ : ∃ R, textF (b.length + 1) b i0 [] = R := ⟨_, rfl⟩
  have HR := Aside0.mk hR
  rw [hR]
  have H0 := Aside0.mk h
  have HBY := Aside0.mk hby
  have HNO : Aside0 (∀ (W : World) (j : Nat) (lf : Int), R = none → Scn W g m A c b j lf → Two g m w W → TextPost R g m A c b w (.returned (.tuple #[.slice none 0 0, .bool false])) W) := ⟨fun W j lf hR h1 h2 => by
    subst hR; exact ⟨_, rfl, World.ownsRow_nil _ _ _ _, ⟨j, lf, h1, fun p hp => by cases hp⟩, h2⟩⟩
  clear hsg hs h hle hi0 hR hby
  go_enter Tryd.func6, Tryd.ntmps6
  go_wp2_with (go_at_call 14; (with_reducible refine HSG.out.mono ?_); rintro e w1 ⟨rfl, ⟨lf, hs1⟩, ht1⟩; have HS1 := Aside0.mk hs1; have HT1 := Aside0.mk ht1; clear hs1 ht1)
  go_loopg [4] (b.length + 1) (fun kq v4 wr => ∃ (i1 : Nat) (lf : Int) (out : List Int), Aside0 (i1 ≤ b.length) ∧ Aside0 (textF kq b i1 out = R) ∧ Aside0 (b.length < kq + i1) ∧ Aside0 (out.length ≤ 4 * i1) ∧ Aside0 (Scn wr g m A c b i1 lf) ∧ Aside0 (Two g m w wr) ∧ Aside0 (wr.ownsRow w.heap.size 5 1 v4 out.length (encs (Value.int .u8) out)))
  case atStart =>
    refine ⟨i0, lf, [], HLE, HR, ⟨by omega⟩, ⟨by simp⟩, ⟨HS1.out.kept (below_alloc (Below.refl _ _) _)⟩, ⟨HT1.out.trans (Two.of_below g m (below_alloc (Below.refl _ _) _))⟩, ⟨?_⟩⟩
    exact World.ownsRow_made w1 #[] 0 HT1.out.size (Nat.zero_le _) rfl
  case round =>
    obtain ⟨i1, lf1, out, HI, HF, HK, HO, HS, HT, HOWN⟩ := hrel
    obtain ⟨n, rfl⟩ : ∃ n, gk = n + 1 := ⟨gk - 1, by have := HK.out; have := HI.out; omega⟩
    obtain ⟨Ao, co, rfl, hoc⟩ := own_form HOWN.out
    have HOC := Aside0.mk hoc
    clear hoc
    obtain ⟨x, hx⟩ : ∃ x, hereB b i1 = x := ⟨_, rfl⟩
    have hF := HF.out
    unfold textF at hF
    rw [hx] at hF
    have HERE := Aside0.mk (here_any HS.out)
    rw [hx] at HERE
    by_cases p : b.length ≤ i1
    · rw [if_pos (.inl p)] at hF
      have HRN : Aside0 (R = none) := ⟨hF.symm⟩
      have p1 : decide (b.length ≤ i1) = true := decide_eq_true p
      have p2 : decide ((b.length : Int) ≤ (i1 : Int)) = true := decide_eq_true (by omega)
      clear hF hx p
      go_upto_region 7 with (go_at_call 15; (with_reducible refine HERE.out.mono ?_); rintro e w2 ⟨rfl, hd⟩; have HS2 := Aside0.mk (HS.out.kept hd.below); have HT2 := Aside0.mk (HT.out.trans (Two.of_below g m hd.below)); clear hd)
      have c0 := HS2.out.c0
      have c1 := HS2.out.c1
      have c2 := HS2.out.c2
      go_quiet (fail)
      clear c0 c1 c2
      go_wp2_with (fail)
      go_ret2
      exact HNO.out _ _ _ HRN.out (HS2.out.kept (Drawn0.below ⟨⟨_, rfl⟩⟩)) (HT2.out.trans (Two.of_below g m (Drawn0.below ⟨⟨_, rfl⟩⟩)))
    have p1 : decide (b.length ≤ i1) = false := decide_eq_false p
    have p2 : decide ((b.length : Int) ≤ (i1 : Int)) = false := decide_eq_false (by omega)
    by_cases q : x < 32
    · rw [if_pos (.inr q)] at hF
      have HRN : Aside0 (R = none) := ⟨hF.symm⟩
      have q1 : decide (x < 32) = true := decide_eq_true q
      clear hF hx p q
      go_upto_region 7 with (go_at_call 15; (with_reducible refine HERE.out.mono ?_); rintro e w2 ⟨rfl, hd⟩; have HS2 := Aside0.mk (HS.out.kept hd.below); have HT2 := Aside0.mk (HT.out.trans (Two.of_below g m hd.below)); clear hd)
      have c0 := HS2.out.c0
      have c1 := HS2.out.c1
      have c2 := HS2.out.c2
      go_quiet (fail)
      clear c0 c1 c2
      go_wp2_with (fail)
      go_ret2
      exact HNO.out _ _ _ HRN.out (HS2.out.kept (Drawn0.below ⟨⟨_, rfl⟩⟩)) (HT2.out.trans (Two.of_below g m (Drawn0.below ⟨⟨_, rfl⟩⟩)))
    have q1 : decide (x < 32) = false := decide_eq_false q
    rw [if_neg (by omega)] at hF
    have HF2 := Aside0.mk hF
    have HP := Aside0.mk p
    have HX : Aside0 (0 ≤ x ∧ x < 256) := ⟨by
      have := Nat.lt_of_not_le p
      rw [← hx]; unfold hereB; rw [dif_pos this]; exact HBY.out _ (List.getElem_mem _)⟩
    clear hF hx p q HF
    go_upto_region 7 with (go_at_call 15; (with_reducible refine HERE.out.mono ?_); rintro e w2 ⟨rfl, hd⟩; have HS2 := Aside0.mk (HS.out.kept hd.below); have HT2 := Aside0.mk (HT.out.trans (Two.of_below g m hd.below)); have HOWN2 := Aside0.mk (own_below HOWN.out hd.below); clear hd)
    have c0 := HS2.out.c0
    have c1 := HS2.out.c1
    have c2 := HS2.out.c2
    have HTAKE : Aside0 (∀ W, Scn W g m A c b i1 lf1 → Calls Tryd.prog 16 #[.pointer (some ⟨m, 0, none⟩), .int .i64 1] W fun e w' => e = .returned (.bool true) ∧ W.setCell ⟨m, 0, none⟩ (.int .i64 (lf1 - 1)) = w') := ⟨fun W hW => take_ok W m lf1 1 hW.mt (by decide) (by have := hW.bud; have := HI.out; omega) hW.bud.2⟩
    have HW5 : Aside0 (∀ W, Scn W g m A c b i1 lf1 → (W.setCell ⟨m, 0, none⟩ (.int .i64 (lf1 - 1))).heap[g]? = some (.cells #[.slice A b.length c, .int .i64 i1, .pointer (some ⟨m, 0, none⟩)] 48 (0, 0)) ∧
        Scn ((W.setCell ⟨m, 0, none⟩ (.int .i64 (lf1 - 1))).setCell ⟨g, 1, none⟩ (.int .i64 ((i1 : Int) + 1))) g m A c b (i1 + 1) (lf1 - 1)) := ⟨fun W hW => by
      refine ⟨(Below.heap_setCell W ⟨m, 0, none⟩ _ g hW.ne).trans hW.sc, by have := hW.pay 1 (by have := HP.out; omega); rw [Int.natCast_add] at this; exact this⟩⟩
    have wi : IntKind.i64.wrap ((i1 : Int) + 1) = (i1 : Int) + 1 := by rw [IntKind.wrap_i64]; have := HS2.out.lim; omega
    go_region_held3 (fun W => W.cell? ⟨g, 0, none⟩ = some (.slice A b.length c) ∧ W.cell? ⟨g, 1, none⟩ = some (.int .i64 i1) ∧ W.cell? ⟨g, 2, none⟩ = some (.pointer (some ⟨m, 0, none⟩)))
      (first | go_keep | exact ⟨z0, z1, z2⟩)
      (first
        | (go_at_call 16; (with_reducible refine (HTAKE.out _ (HS2.out.kept (below_drew (Below.refl w2.heap.size w2)))).mono ?_); rintro e w6 ⟨rfl, rfl⟩
           obtain ⟨w5, hw5⟩ : ∃ w5, w2.drew.setCell ⟨m, 0, none⟩ (.int .i64 (lf1 - 1)) = w5 := ⟨_, rfl⟩
           have hh := HW5.out _ (HS2.out.kept (below_drew (Below.refl w2.heap.size w2)))
           have ht := (HT2.out.trans (Two.of_below g m (below_drew (Below.refl w2.heap.size w2)))).trans (Two.setm g m 0 _ (.int .i64 (lf1 - 1)))
           have ho := own_setCell (own_below HOWN2.out (below_drew (Below.refl w2.heap.size w2))) m 0 (.int .i64 (lf1 - 1)) (blk_lt H0.out.mt)
           rw [hw5] at hh ht ho ⊢
           have HSG := Aside0.mk hh.1; have HPAY := Aside0.mk hh.2; have HT5 := Aside0.mk ht; have HO5 := Aside0.mk ho
           have z0 : w5.cell? ⟨g, 0, none⟩ = some (.slice A b.length c) := (blk_cell hh.1 0).trans rfl
           have z1 : w5.cell? ⟨g, 1, none⟩ = some (.int .i64 i1) := (blk_cell hh.1 1).trans rfl
           have z2 : w5.cell? ⟨g, 2, none⟩ = some (.pointer (some ⟨m, 0, none⟩)) := (blk_cell hh.1 2).trans rfl
           clear hh ht hw5 ho))
    clear c0 c1 c2
    have yf := blk_frozen HSG.out 1
    have HP5 : Aside0 (∀ W1, w5.setCell ⟨g, 1, none⟩ (.int .i64 ((i1 : Int) + 1)) = W1 → Scn W1 g m A c b (i1 + 1) (lf1 - 1) ∧ Two g m w W1 ∧ W1.ownsRow w.heap.size 5 1 (.slice Ao out.length co) out.length (encs (Value.int .u8) out)) := ⟨fun W1 e => by
      subst e; exact ⟨HPAY.out, HT5.out.trans (Two.setg g m 1 _ _), own_setCell HO5.out g 1 _ (blk_lt H0.out.sc)⟩⟩
    by_cases e34 : x = 34
    · subst e34
      have hF := HF2.out
      rw [if_pos rfl] at hF
      have HUT : Aside0 (wire_Utf8.f (out.length + 21) out = some (at_ (U out.length out))) := ⟨utf8_f out out.length _ (by have := HO.out; have := HI.out; have := HS2.out.lim; omega) (Nat.le_refl _) (by omega)⟩
      cases hU : U out.length out with
      | none =>
        rw [hU] at hF HUT
        rw [if_pos rfl] at hF
        have HRS := Aside0.mk hF.symm
        clear hF hU
        go_upto_region 11 with (fail)
        obtain ⟨w7, hw7⟩ : ∃ w7, w5.setCell ⟨g, 1, none⟩ (.int .i64 ((i1 : Int) + 1)) = w7 := ⟨_, rfl⟩
        have HQ := Aside0.mk (HP5.out w7 hw7)
        rw [hw7]
        clear hw7 yf z0 z1 z2
        go_wp2_with (go_at_call 17; (with_reducible refine (wire_Utf8.calls _ _ _ _ _ _ (own_C HQ.out.2.2) HOC.out HUT.out).mono ?_); rintro e w8 ⟨rfl, hd⟩; have HD := Aside0.mk hd.below; clear hd)
        go_ret2
        rw [HRS.out]
        exact ⟨_, rfl, own_below HQ.out.2.2 HD.out, ⟨i1 + 1, lf1 - 1, HQ.out.1.kept HD.out, fun p hp => by injection hp with hp; rw [← hp]⟩, HQ.out.2.1.trans (Two.of_below g m HD.out)⟩
      | some pu =>
        rw [hU] at hF HUT
        rw [if_neg (by simp)] at hF
        have HRN : Aside0 (R = none) := ⟨hF.symm⟩
        clear hF hU
        have u1 : (0 : Int) ≤ (pu : Int) := Int.natCast_nonneg _
        have u2' : decide ((0 : Int) ≤ (pu : Int)) = true := decide_eq_true u1
        go_upto_region 11 with (fail)
        obtain ⟨w7, hw7⟩ : ∃ w7, w5.setCell ⟨g, 1, none⟩ (.int .i64 ((i1 : Int) + 1)) = w7 := ⟨_, rfl⟩
        have HQ := Aside0.mk (HP5.out w7 hw7)
        rw [hw7]
        clear hw7 yf z0 z1 z2
        go_wp2_with (go_at_call 17; (with_reducible refine (wire_Utf8.calls _ _ _ _ _ _ (own_C HQ.out.2.2) HOC.out HUT.out).mono ?_); rintro e w8 ⟨rfl, hd⟩; have HD := Aside0.mk hd.below; clear hd)
        go_ret2
        exact HNO.out _ _ _ HRN.out (HQ.out.1.kept HD.out) (HQ.out.2.1.trans (Two.of_below g m HD.out))
    by_cases e92 : x = 92
    · subst e92
      have hF := HF2.out
      rw [if_neg e34, if_pos rfl] at hF
      clear e34
      go_upto_region 16 with (fail)
      obtain ⟨w7, hw7⟩ : ∃ w7, w5.setCell ⟨g, 1, none⟩ (.int .i64 ((i1 : Int) + 1)) = w7 := ⟨_, rfl⟩
      have HQ := Aside0.mk (HP5.out w7 hw7)
      rw [hw7]
      clear hw7 yf z0 z1 z2
      have hesc := esc_any HQ.out.1 HBY.out (by have := HP.out; omega)
      cases hE : escV b (i1 + 1) with
      | none =>
        rw [hE] at hF hesc
        have HRN : Aside0 (R = none) := ⟨hF.symm⟩
        have HESC : Aside0 (Calls Tryd.prog 18 #[.pointer (some ⟨g, 0, none⟩)] w7 fun e w' => e = .returned (.tuple #[.int .i32 0, .bool false]) ∧ (∃ j lf, Scn w' g m A c b j lf) ∧ Two g m w7 w') := ⟨hesc.mono fun e w' hp => by
          obtain ⟨h1, ⟨j, l, h2, _⟩, h3⟩ := hp; exact ⟨h1, ⟨j, l, h2⟩, h3⟩⟩
        clear hF hE hesc
        go_wp2_with (go_at_call 18; (with_reducible refine HESC.out.mono ?_); rintro e w8 ⟨rfl, ⟨j8, lf8, hs8⟩, ht8⟩; have HS8 := Aside0.mk hs8; have HT8 := Aside0.mk ht8; clear hs8 ht8)
        go_ret2
        exact HNO.out _ _ _ HRN.out HS8.out (HQ.out.2.1.trans HT8.out)
      | some p =>
        obtain ⟨r, j⟩ := p
        have hle := escV_le hE
        rw [hE] at hF hesc
        have HF3 : Aside0 (textF n b j (out ++ Lib.encodeRuneZ r) = R) := ⟨hF⟩
        have HLE3 : Aside0 (i1 + 1 < j ∧ j ≤ b.length ∧ 0 ≤ r ∧ r ≤ 1114111) := ⟨hle⟩
        have HESC : Aside0 (Calls Tryd.prog 18 #[.pointer (some ⟨g, 0, none⟩)] w7 fun e w' => e = .returned (.tuple #[.int .i32 r, .bool true]) ∧ (∃ lf, Scn w' g m A c b j lf) ∧ Two g m w7 w') := ⟨hesc.mono fun e w' hp => by
          obtain ⟨h1, ⟨j', l, h2, _, h4⟩, h3⟩ := hp
          have := h4 _ rfl
          subst this
          exact ⟨h1, ⟨l, h2⟩, h3⟩⟩
        clear hF hE hesc hle
        have HAPP : Aside0 (∀ W : World, W.ownsRow w.heap.size 5 1 (.slice Ao out.length co) out.length (encs (Value.int .u8) out) → w.heap.size ≤ W.heap.size → Calls Tryd.prog 19 #[.slice Ao out.length co, .int .i32 r] W fun e w' => ∃ v', e = .returned v' ∧ w'.ownsRow w.heap.size 5 1 v' (out ++ Lib.encodeRuneZ r).length (encs (Value.int .u8) (out ++ Lib.encodeRuneZ r)) ∧ ∃ o, (W.alloc o).grownBy w' (Value.slice Ao out.length co).ownBlock) := ⟨fun W hW hsz =>
          (Tryd.utf8_AppendRune_plain w.heap.size _ _ _ r (by have := HLE3.out; omega) (by have := HLE3.out; omega) W hW (by have := HO.out; have := HI.out; have := HS.out.lim; omega) hsz).mono fun e w' hp => by
            obtain ⟨v', h1, h2, h3⟩ := hp
            refine ⟨v', h1, ?_, h3⟩
            rw [encs_append, List.length_append]
            have e1 : Lib.runeCells r = encs (Value.int .u8) (Lib.encodeRuneZ r) := rfl
            rw [e1, encs_length] at h2
            exact h2⟩
        go_wp2_with (first
          | (go_at_call 18; (with_reducible refine HESC.out.mono ?_); rintro e w8 ⟨rfl, ⟨lf8, hs8⟩, ht8⟩; have HS8 := Aside0.mk hs8; have HT8 := Aside0.mk (HQ.out.2.1.trans ht8); have HO8 := Aside0.mk (own_two HQ.out.2.2 ht8 (blk_lt H0.out.sc) (blk_lt H0.out.mt)); clear hs8 ht8)
          | (go_at_call 19; (with_reducible refine (HAPP.out _ HO8.out HT8.out.size).mono ?_); rintro e w9 ⟨v9, rfl, ho9, o9, hg9⟩; have HO9 := Aside0.mk ho9; have HG9 := Aside0.mk hg9; clear ho9 hg9))
        have HB9 : Aside0 (∀ k, (Value.slice Ao out.length co).ownBlock = some k → w.heap.size ≤ k) := ⟨own_base HO8.out⟩
        have HT9 := Aside0.mk ((HT8.out.trans (Two.of_below g m (below_alloc (Below.refl w8.heap.size w8) o9))).grown HG9.out HB9.out)
        have HS9 := Aside0.mk (Scn.grown H0.out HT9.out (HS8.out.kept (below_alloc (Below.refl w8.heap.size w8) o9)) HG9.out HB9.out)
        go_roundg n
        case measure => omega
        case rel => exact ⟨j, lf8, out ++ Lib.encodeRuneZ r, ⟨HLE3.out.2.1⟩, HF3, ⟨by have := HK.out; have := HLE3.out; omega⟩, ⟨by have := HO.out; have := HLE3.out; have := (Lib.encodeRuneZ_length r).2; rw [List.length_append]; omega⟩, HS9, HT9, HO9⟩
    · have hF := HF2.out
      rw [if_neg e34, if_neg e92] at hF
      have HF3 := Aside0.mk hF
      have b34 : (x == 34) = false := by simp [e34]
      have b92 : (x == 92) = false := by simp [e92]
      clear hF e34 e92
      go_upto_region 6 with (fail)
      obtain ⟨w7, hw7⟩ : ∃ w7, w5.setCell ⟨g, 1, none⟩ (.int .i64 ((i1 : Int) + 1)) = w7 := ⟨_, rfl⟩
      have HQ := Aside0.mk (HP5.out w7 hw7)
      rw [hw7]
      clear hw7 yf z0 z1 z2
      obtain ⟨i0, hi, hz0, hz1, hz2⟩ := info_parts info5
      have HI5 := Aside0.mk hi
      clear hi
      go_wp2_with ((with_reducible refine gate_builtin (b := .append) (xs := #[.tmp 21, .tmp 23]) rfl ?_); at_builtin; refine wpList_append_own _ rfl (.tmp 21) (.tmp 23) 22 rfl w.heap.size 5 i0 (.int .u8 0) 1 1 Tryd.underlying22 HI5.out hz0 hz1 hz2 rfl (by decide) (.slice Ao out.length co) out.length (encs (Value.int .u8) out) rfl (HQ.out.2.2.alloc _) ⟨w7.heap.size, 0, none⟩ 1 1 [.int .u8 x] rfl rfl ?c1 ?c2 ?c3 ?c4 ?c5 ?_)
      case c1 =>
        intro j u hj
        match j, hj with
        | 0, hj => simp at hj; subst hj; simp [Addr.add]
        | (j + 1), hj => simp at hj
      case c2 => intro u hu; simp at hu; subst hu; rfl
      case c3 => unfold maxLen; have := HO.out; have := HI.out; have := HS.out.lim; omega
      case c4 => have := HO.out; have := HI.out; have := HS.out.lim; omega
      case c5 => have := HQ.out.2.1.size; simp; omega
      intro v9 w9 ho9 hg9 _
      have HO9 : Aside0 (w9.ownsRow w.heap.size 5 1 v9 (out ++ [x]).length (encs (Value.int .u8) (out ++ [x]))) := ⟨by rw [encs_append, List.length_append]; exact ho9⟩
      have HB9 : Aside0 (∀ k, (Value.slice Ao out.length co).ownBlock = some k → w.heap.size ≤ k) := ⟨own_base HQ.out.2.2⟩
      have HT9 := Aside0.mk ((HQ.out.2.1.trans (Two.of_below g m (below_alloc (Below.refl w7.heap.size w7) _))).grown hg9 HB9.out)
      have HS9 := Aside0.mk (Scn.grown H0.out HT9.out (HQ.out.1.kept (below_alloc (Below.refl w7.heap.size w7) _)) hg9 HB9.out)
      clear ho9 hg9
      go_wp2_with (fail)
      go_roundg n
      case measure => omega
      case rel => exact ⟨i1 + 1, lf1 - 1, out ++ [x], ⟨by have := HP.out; omega⟩, HF3, ⟨by have := HK.out; omega⟩, ⟨by have := HO.out; rw [List.length_append]; simp; omega⟩, HS9, HT9, HO9⟩
theorem text_any (h : Scn w g m A c b i left) (hby : ∀ x ∈ b, 0 ≤ x ∧ x < 256) :
    Calls Tryd.prog 6 #[.pointer (some ⟨g, 0, none⟩)] w (TextPost (textV b i) g m A c b w) := by
  unfold textV
  by_cases hs : signB b i 34 = true
  · rw [if_pos hs]; exact text_go h hby hs
  · rw [if_neg hs]; exact text_no h (by simpa using hs)
end text
end Go.Proofs.YtonekmigcpgdeaaDoor.Hand
