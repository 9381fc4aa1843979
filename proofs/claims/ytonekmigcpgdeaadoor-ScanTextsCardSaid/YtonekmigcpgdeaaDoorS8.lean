/- Layer 13, scan: a number that is none. -/
import Derived.Test.YtonekmigcpgdeaaDoorS7
namespace Go.Proofs.YtonekmigcpgdeaaDoor.Hand
open Go.RowKit Go.Proofs.YtonekmigcpgdeaaDoor.QAll Go.Proofs.YtonekmigcpgdeaaDoorW.PrintWords Go.Proofs.YtonekmigcpgdeaaDoorW.PrintLast Go.Proofs.YtonekmigcpgdeaaDoorW.PrintMore Go.Proofs.YtonekmigcpgdeaaDoor.Runes
set_option linter.unusedVariables false
set_option linter.unusedSimpArgs false
set_option maxHeartbeats 3200000 in
theorem lexnum_no (s : ByteArray) (z : Bool) (w : World) (hg : lex_good.f s = some false) :
    Calls Tryd.prog 25 #[.string s, .int .i64 8, .bool z] w fun e w' => e = .returned (.tuple #[.int .u64 0, .bool false]) ∧ Drawn0 w w' := by
  have HG := Aside0.mk hg
  clear hg
  go_enter Tryd.func25, Tryd.ntmps25
  go_wp2_with (go_at_call 35; (with_reducible refine (lex_good.calls _ _ _ HG.out).mono ?_); rintro e w' ⟨rfl, ⟨nd, rfl⟩⟩)
  go_ret2
  exact ⟨rfl, ⟨_, rfl⟩⟩
def isDg (x : Int) : Bool := decide (48 ≤ x) && decide (x ≤ 57)
/-- Behind the digits from a place on. -/
def digF : Nat → List Int → Nat → Nat
  | 0, _, i => i
  | n + 1, b, i => if isDg (hereB b i) = true then digF n b (i + 1) else i
theorem digF_le : ∀ (n : Nat) (b : List Int) (i : Nat), i ≤ digF n b i ∧ (i ≤ b.length → digF n b i ≤ b.length)
  | 0, b, i => ⟨Nat.le_refl _, fun h => h⟩
  | n + 1, b, i => by
    unfold digF
    split
    · rename_i h
      have : i < b.length := by
        refine hereB_lt fun e => ?_
        rw [e] at h; exact absurd h (by decide)
      have ih := digF_le n b (i + 1)
      exact ⟨by omega, fun _ => ih.2 (by omega)⟩
    · exact ⟨Nat.le_refl _, fun h => h⟩
/-- Behind a sign, where there is one. -/
def minusB (b : List Int) (j : Nat) : Nat := if hereB b j = 45 then j + 1 else j
def numEnd (b : List Int) (i : Nat) : Nat := digF (b.length + 1) b (minusB b (skip b i))
def numText (b : List Int) (i : Nat) : List Int := (b.drop (skip b i)).take (numEnd b i - skip b i)
section num
variable {w : World} {g m : Nat} {A : Option Addr} {c : Nat} {b : List Int} {i : Nat} {left : Int}
set_option maxHeartbeats 6400000 in
set_option maxRecDepth 100000 in
/-- A number with a text that is no number. -/
theorem number_no (h : Scn w g m A c b i left) (hne : skip b i < numEnd b i) (hin : i ≤ b.length) (hg : lex_good.f (strOfNums (numText b i)) = some false) :
    Calls Tryd.prog 9 #[.pointer (some ⟨g, 0, none⟩)] w fun e w' => e = .returned (.tuple #[.string ⟨#[]⟩, .bool false]) ∧ (∃ j left', Scn w' g m A c b j left') ∧ Two g m w w' := by
  have HBL := Aside0.mk (blank_any h)
  have H := Aside0.mk h
  have hsk : skip b i ≤ b.length := (skipF_le (b.length + 1) b i).2.1 hin
  unfold numText at hg
  unfold numEnd at hne hg
  obtain ⟨j, hj⟩ : ∃ j, skip b i = j := ⟨_, rfl⟩
  rw [hj] at HBL hne hg hsk
  have hm1 : minusB b j ≤ b.length := by
    unfold minusB
    split
    · rename_i e; have := hereB_lt (b := b) (i := j) (by omega); omega
    · exact hsk
  have hfl : digF (b.length + 1) b (minusB b j) ≤ b.length := (digF_le _ _ _).2 hm1
  obtain ⟨fin, hfin⟩ : ∃ fin, digF (b.length + 1) b (minusB b j) = fin := ⟨_, rfl⟩
  rw [hfin] at hfl
  have HFIN := Aside0.mk hfin
  rw [hfin] at hne hg
  obtain ⟨T, hT⟩ : ∃ T, (b.drop j).take (fin - j) = T := ⟨_, rfl⟩
  rw [hT] at hg
  have HG := Aside0.mk hg
  have HTT := Aside0.mk hT
  have HNE := Aside0.mk hne
  have HSK := Aside0.mk hsk
  have HFL := Aside0.mk hfl
  have hA : ∃ ad, A = some ad := by
    obtain ⟨ad, e, _⟩ := (Kd.reads_of_C (enc := Value.int .u8) (d := (0 : Int)) (h1 := fun _ => rfl) (h.bytes w (Two.refl _ _ _))).2.2 (by omega)
    exact ⟨ad, e⟩
  obtain ⟨ad, hA⟩ := hA
  subst hA
  have HCP : Aside0 (∀ W, Kd.C (Kd.int .u8) W (some ad) b.length b → Kd.C (Kd.int .u8) W (some (ad.add j)) (fin - j) T) := ⟨fun W hW => by rw [← hT]; exact C_part (by omega) (by omega) hW⟩
  obtain ⟨x, hx⟩ : ∃ x, hereB b j = x := ⟨_, rfl⟩
  have HX := Aside0.mk hx
  clear h hj hne hsk hg hT hfin hx hm1 hfl
  go_enter Tryd.func9, Tryd.ntmps9
  go_upto_region 5 with (go_at_call 24; (with_reducible refine HBL.out.mono ?_); rintro e w1 ⟨rfl, lf, hs1, ht1⟩; have HS1 := Aside0.mk hs1; have HT1 := Aside0.mk ht1; have c1 := hs1.c1; clear hs1 ht1)
  clear c1
  have HH1 := here_any HS1.out
  rw [HX.out] at HH1
  have HHR := Aside0.mk HH1
  clear HH1
  have ways : ((x == 45) = true ∧ x = 45) ∨ ((x == 45) = false ∧ x ≠ 45) := by
    by_cases e : x = 45
    · exact .inl ⟨by simp [e], e⟩
    · exact .inr ⟨by simp [e], e⟩
  have wj : IntKind.i64.wrap ((j : Int) + 1) = (j : Int) + 1 := by rw [IntKind.wrap_i64]; have := HS1.out.lim; omega
  obtain ⟨j2, hj2⟩ : ∃ j2, minusB b j = j2 := ⟨_, rfl⟩
  rw [hj2] at HFIN
  have HJ2 := Aside0.mk hj2
  clear hj2
  have key : ∀ (W : World), ((x = 45 ∧ ∃ W2, Drawn0 w1 W2 ∧ W = W2.setCell ⟨g, 1, none⟩ (.int .i64 ((j : Int) + 1))) ∨ (x ≠ 45 ∧ Drawn0 w1 W)) → Scn W g m (some ad) c b j2 lf ∧ Two g m w W ∧ j ≤ j2 ∧ j2 ≤ b.length := by
    intro W hW
    rcases hW with ⟨e, W2, hd, rfl⟩ | ⟨e, hd⟩
    · have hlt : j < b.length := hereB_lt (by rw [HX.out, e]; decide)
      have e2 : j2 = j + 1 := by rw [← HJ2.out]; unfold minusB; rw [HX.out, if_pos e]
      subst e2
      exact ⟨(HS1.out.kept hd.below).move (j + 1) (by omega) (by omega), (HT1.out.trans (Two.of_below g m hd.below)).trans (Two.setg g m 1 _ _), by omega, by omega⟩
    · have e2 : j2 = j := by rw [← HJ2.out]; unfold minusB; rw [HX.out, if_neg e]
      subst e2
      exact ⟨HS1.out.kept hd.below, HT1.out.trans (Two.of_below g m hd.below), Nat.le_refl _, HSK.out⟩
  have KEY := Aside0.mk key
  clear key
  rcases ways with ⟨ex, hx45⟩ | ⟨ex, hx45⟩
  case' inl =>
    have HX45 := Aside0.mk hx45
    clear hx45
    go_upto_region 7 with (go_at_call 15; (with_reducible refine HHR.out.mono ?_); rintro e w2 ⟨rfl, hd⟩; have HD2 := Aside0.mk hd; have HS2 := Aside0.mk (HS1.out.kept hd.below); have c1 := HS2.out.c1; have f1 := blk_frozen HS2.out.sc 1; clear hd)
    obtain ⟨w3, hw3⟩ : ∃ w3, w2.setCell ⟨g, 1, none⟩ (.int .i64 ((j : Int) + 1)) = w3 := ⟨_, rfl⟩
    have HK3 := Aside0.mk (KEY.out w3 (.inl ⟨HX45.out, w2, HD2.out, hw3.symm⟩))
    rw [hw3]
    clear hw3 c1 f1 HS2 HD2
  case' inr =>
    have HX45 := Aside0.mk hx45
    clear hx45
    go_upto_region 7 with (go_at_call 15; (with_reducible refine HHR.out.mono ?_); rintro e w2 ⟨rfl, hd⟩; have HD2 := Aside0.mk hd; clear hd)
    obtain ⟨w3, hw3⟩ : ∃ w3, w2 = w3 := ⟨_, rfl⟩
    have HK3 := Aside0.mk (KEY.out w3 (.inr ⟨HX45.out, hw3 ▸ HD2.out⟩))
    rw [hw3]
    clear hw3 HD2
  all_goals
    clear ex HX45 KEY HJ2 wj
    go_wp2_with (go_at_call 15; (with_reducible refine (here_any HK3.out.1).mono ?_); rintro e w4 ⟨rfl, hd⟩; have HS4 := Aside0.mk (HK3.out.1.kept hd.below); have HT4 := Aside0.mk (HK3.out.2.1.trans (Two.of_below g m hd.below)); clear hd)
    go_loopg [5] (b.length + 1) (fun kq v5 wr => ∃ (i2 : Nat), v5 = .int .u8 (hereB b i2) ∧ Aside0 (digF kq b i2 = fin) ∧ Aside0 (i2 ≤ b.length) ∧ Aside0 (b.length < kq + i2) ∧ Aside0 (Scn wr g m (some ad) c b i2 lf) ∧ Aside0 (Two g m w wr))
    case atStart => exact ⟨j2, rfl, HFIN, ⟨HK3.out.2.2.2⟩, ⟨by omega⟩, HS4, HT4⟩
    case round =>
      obtain ⟨i2, rfl, HF, HI, HK, HS, HT⟩ := hrel
      obtain ⟨y, hy⟩ : ∃ y, hereB b i2 = y := ⟨_, rfl⟩
      rw [hy]
      have HY := Aside0.mk hy
      clear hy
      obtain ⟨n, rfl⟩ : ∃ n, gk = n + 1 := ⟨gk - 1, by have := HK.out; have := HI.out; omega⟩
      have hF := HF.out
      unfold digF at hF
      rw [HY.out] at hF
      have ways2 : (isDg y = true ∧ decide (48 ≤ y) = true ∧ decide (y ≤ 57) = true) ∨ (isDg y = false ∧ decide (48 ≤ y) = false) ∨ (isDg y = false ∧ decide (48 ≤ y) = true ∧ decide (y ≤ 57) = false) := by
        unfold isDg; cases decide (48 ≤ y) <;> cases decide (y ≤ 57) <;> simp
      rcases ways2 with ⟨hd, q1, q2⟩ | ⟨hd, q1⟩ | ⟨hd, q1, q2⟩
      · rw [hd, if_pos rfl] at hF
        have HF2 := Aside0.mk hF
        have hlt : i2 < b.length := hereB_lt (by rw [HY.out]; have := of_decide_eq_true q1; omega)
        have HLT := Aside0.mk hlt
        have wi : IntKind.i64.wrap ((i2 : Int) + 1) = (i2 : Int) + 1 := by rw [IntKind.wrap_i64]; have := HS.out.lim; omega
        have c1 := HS.out.c1
        have f1 := blk_frozen HS.out.sc 1
        clear hF hd hlt
        go_upto_region 9 with (fail)
        obtain ⟨w7, hw7⟩ : ∃ w7, wr.setCell ⟨g, 1, none⟩ (.int .i64 ((i2 : Int) + 1)) = w7 := ⟨_, rfl⟩
        have HS7 : Aside0 (Scn w7 g m (some ad) c b (i2 + 1) lf) := ⟨by rw [← hw7]; exact HS.out.move (i2 + 1) (by have := HLT.out; omega) (by omega)⟩
        have HT7 : Aside0 (Two g m w w7) := ⟨by rw [← hw7]; exact HT.out.trans (Two.setg g m 1 wr _)⟩
        rw [hw7]
        clear hw7 c1 f1
        go_wp2_with (go_at_call 15; (with_reducible refine (here_any HS7.out).mono ?_); rintro e w8 ⟨rfl, hd⟩; have HS8 := Aside0.mk (HS7.out.kept hd.below); have HT8 := Aside0.mk (HT7.out.trans (Two.of_below g m hd.below)); clear hd)
        go_roundg n
        case measure => omega
        case rel => exact ⟨i2 + 1, rfl, HF2, ⟨by have := HLT.out; omega⟩, ⟨by have := HK.out; omega⟩, HS8, HT8⟩
      all_goals
        rw [hd, if_neg (by decide)] at hF
        have HF2 := Aside0.mk hF
        clear hF hd
        go_upto_region 11 with (fail)
        have c0 := HS.out.c0
        have c1 := HS.out.c1
        have k0 : (0 : Int) ≤ (j : Int) := Int.natCast_nonneg _
        have k1 : (j : Int) ≤ (i2 : Int) := by have := HF2.out; have := HNE.out; omega
        have k2 : (i2 : Int) ≤ (c : Int) := by have := HS.out.cap; have := HF2.out; have := HFL.out; omega
        have k3 : ¬ c = j := by have := HS.out.cap; have := HF2.out; have := HFL.out; have := HNE.out; omega
        have vs : ∀ k : Nat, (convert 22 9 (.slice (some (ad.add j)) (i2 - j) (c - j))).run Tryd.prog (wr.drewN k) = .ok (.string (strOfNums T)) (wr.drewN k) := fun k => by
          rw [HF2.out]
          exact Kd.C_string (P := Tryd.prog) (c := c - j) Tryd.underlying22 Tryd.underlying5 Tryd.underlying9 (HCP.out _ (HS.out.bytes _ (Two.of_below g m (Drawn0.below ⟨⟨_, rfl⟩⟩))))
        go_quiet (fail)
        rename_i nq
        have HS5 : Aside0 (Scn (wr.drewN nq) g m (some ad) c b i2 lf) := ⟨HS.out.kept (Drawn0.below ⟨⟨_, rfl⟩⟩)⟩
        have HT5 : Aside0 (Two g m w (wr.drewN nq)) := ⟨HT.out.trans (Two.of_below g m (Drawn0.below ⟨⟨_, rfl⟩⟩))⟩
        obtain ⟨w5, hw5⟩ : ∃ w5, wr.drewN nq = w5 := ⟨_, rfl⟩
        rw [hw5] at HS5 HT5 ⊢
        clear hw5 vs c0 c1 k0 k1 k2 k3
        go_wp2_with (first
          | (go_at_call 25; (with_reducible refine (lexnum_no _ _ _ HG.out).mono ?_); rintro e w6 ⟨rfl, hd⟩; have HS6 := Aside0.mk (HS5.out.kept hd.below); have HT6 := Aside0.mk (HT5.out.trans (Two.of_below g m hd.below)); clear hd HS5 HT5; have HS5 := HS6; have HT5 := HT6; clear HS6 HT6)
          | (go_at_call 15; (with_reducible refine (here_any HS5.out).mono ?_); rintro e w6 ⟨rfl, hd⟩; have HS6 := Aside0.mk (HS5.out.kept hd.below); have HT6 := Aside0.mk (HT5.out.trans (Two.of_below g m hd.below)); clear hd HS5 HT5; have HS5 := HS6; have HT5 := HT6; clear HS6 HT6))
        go_ret2
        exact ⟨rfl, ⟨i2, lf, HS5.out⟩, HT5.out⟩
end num
end Go.Proofs.YtonekmigcpgdeaaDoor.Hand
