/- Layer 13, scan: a scanner with a meter that is enough; Take, here, blanks, a sign, the end. -/
import Derived.Test.YtonekmigcpgdeaaDoorQAllx3
import Derived.StillTailTactics
namespace Go.Proofs.YtonekmigcpgdeaaDoor.Hand
open Go.RowKit Go.Proofs.YtonekmigcpgdeaaDoor.QAll Go.Proofs.YtonekmigcpgdeaaDoorW.PrintWords Go.Proofs.YtonekmigcpgdeaaDoorW.PrintLast Go.Proofs.YtonekmigcpgdeaaDoorW.PrintMore
set_option linter.unusedVariables false
set_option linter.unusedSimpArgs false

/-- Nothing changes but two blocks; new memory. -/
structure Two (g m : Nat) (w w' : World) : Prop where
  os : w'.os = w.os
  tape : w'.tape = w.tape
  output : w'.output = w.output
  size : w.heap.size ≤ w'.heap.size
  block : ∀ k, k < w.heap.size → k ≠ g → k ≠ m → w'.heap[k]? = w.heap[k]?
section two
variable {g m : Nat} {w w' w'' : World}
theorem Two.refl (g m : Nat) (w : World) : Two g m w w := ⟨rfl, rfl, rfl, Nat.le_refl _, fun _ _ _ _ => rfl⟩
theorem Two.trans (h : Two g m w w') (k : Two g m w' w'') : Two g m w w'' :=
  ⟨k.os.trans h.os, k.tape.trans h.tape, k.output.trans h.output, Nat.le_trans h.size k.size, fun j hj h1 h2 => (k.block j (Nat.lt_of_lt_of_le hj h.size) h1 h2).trans (h.block j hj h1 h2)⟩
theorem Two.of_below (g m : Nat) (h : Below w.heap.size w w') : Two g m w w' := ⟨h.os, h.tape, h.output, h.size, fun k hk _ _ => h.block k hk⟩
theorem Two.setg (g m i : Nat) (w : World) (u : Value) : Two g m w (w.setCell ⟨g, i, none⟩ u) := ⟨rfl, rfl, rfl, by simp, fun k _ h1 _ => Below.heap_setCell w ⟨g, i, none⟩ u k h1⟩
theorem Two.setm (g m i : Nat) (w : World) (u : Value) : Two g m w (w.setCell ⟨m, i, none⟩ u) := ⟨rfl, rfl, rfl, by simp, fun k _ _ h2 => Below.heap_setCell w ⟨m, i, none⟩ u k h2⟩
theorem Two.below {B : Nat} {w0 : World} (h : Two g m w w') (hb : Below B w0 w) (hB : B ≤ w.heap.size) (hg : B ≤ g) (hm : B ≤ m) : Below B w0 w' :=
  hb.trans ⟨h.os, h.tape, h.output, h.size, fun k hk => h.block k (by omega) (by omega) (by omega)⟩
end two

/-- A scanner over bytes, at a place; its meter is enough. -/
structure Scn (w : World) (g m : Nat) (A : Option Addr) (c : Nat) (b : List Int) (i : Nat) (left : Int) : Prop where
  sc : w.heap[g]? = some (.cells #[.slice A b.length c, .int .i64 i, .pointer (some ⟨m, 0, none⟩)] 48 (0, 0))
  mt : w.heap[m]? = some (.cells #[.int .i64 left, .bool false] 62 (0, 0))
  ne : g ≠ m
  bytes : ∀ W, Two g m w W → Kd.C (Kd.int .u8) W A b.length b
  cap : b.length ≤ c
  lim : b.length ≤ 1000000 ∧ i ≤ b.length + 1
  bud : (b.length : Int) + 8 ≤ left + i ∧ left < 4611686018427387904
section scn
variable {w w' : World} {g m : Nat} {A : Option Addr} {c : Nat} {b : List Int} {i : Nat} {left : Int}
theorem Scn.c0 (h : Scn w g m A c b i left) : w.cell? ⟨g, 0, none⟩ = some (.slice A b.length c) := (blk_cell h.sc 0).trans rfl
theorem Scn.c1 (h : Scn w g m A c b i left) : w.cell? ⟨g, 1, none⟩ = some (.int .i64 i) := (blk_cell h.sc 1).trans rfl
theorem Scn.c2 (h : Scn w g m A c b i left) : w.cell? ⟨g, 2, none⟩ = some (.pointer (some ⟨m, 0, none⟩)) := (blk_cell h.sc 2).trans rfl
theorem Scn.m0 (h : Scn w g m A c b i left) : w.cell? ⟨m, 0, none⟩ = some (.int .i64 left) := (blk_cell h.mt 0).trans rfl
theorem Scn.m1 (h : Scn w g m A c b i left) : w.cell? ⟨m, 1, none⟩ = some (.bool false) := (blk_cell h.mt 1).trans rfl
theorem Scn.kept (h : Scn w g m A c b i left) (hb : Below w.heap.size w w') : Scn w' g m A c b i left :=
  ⟨(hb.block _ (blk_lt h.sc)).trans h.sc, (hb.block _ (blk_lt h.mt)).trans h.mt, h.ne, fun W hW => h.bytes W ((Two.of_below g m hb).trans hW), h.cap, h.lim, h.bud⟩
theorem Scn.move (h : Scn w g m A c b i left) (j : Nat) (hj : j ≤ b.length + 1) (hij : i ≤ j) : Scn (w.setCell ⟨g, 1, none⟩ (.int .i64 j)) g m A c b j left :=
  ⟨blk_set h.sc 1 _, (Below.heap_setCell w ⟨g, 1, none⟩ _ m h.ne.symm).trans h.mt, h.ne, fun W hW => h.bytes W ((Two.setg g m 1 w _).trans hW), h.cap, ⟨h.lim.1, hj⟩, by have := h.bud; omega⟩
/-- So many bytes paid and gone over. -/
theorem Scn.pay (h : Scn w g m A c b i left) (n : Nat) (hj : i + n ≤ b.length + 1) : Scn ((w.setCell ⟨m, 0, none⟩ (.int .i64 (left - n))).setCell ⟨g, 1, none⟩ (.int .i64 ((i + n : Nat) : Int))) g m A c b (i + n) (left - n) :=
  ⟨blk_set ((Below.heap_setCell w ⟨m, 0, none⟩ _ g h.ne).trans h.sc) 1 _, (Below.heap_setCell _ ⟨g, 1, none⟩ _ m h.ne.symm).trans (blk_set h.mt 0 _), h.ne,
    fun W hW => h.bytes W (((Two.setm g m 0 w _).trans (Two.setg g m 1 _ _)).trans hW), h.cap, ⟨h.lim.1, hj⟩, by have := h.bud; omega⟩
/-- The byte at a place. -/
theorem Scn.at_ (h : Scn w g m A c b i left) (hi : i < b.length) : ∃ ad, A = some ad ∧ w.cell? (ad.add i) = some (.int .u8 b[i]) := by
  have hR := Kd.reads_of_C (enc := Value.int .u8) (d := (0 : Int)) (h1 := fun _ => rfl) (h.bytes w (Two.refl _ _ _))
  obtain ⟨ad, e, hc⟩ := hR.2.2 (by omega)
  have := hc i hi
  rw [List.getD_eq_getElem?_getD, List.getElem?_eq_getElem hi] at this
  exact ⟨ad, e, this⟩
end scn

set_option maxHeartbeats 800000 in
theorem take_ok (w : World) (m : Nat) (left : Int) (n : Int) (hm : w.heap[m]? = some (.cells #[.int .i64 left, .bool false] 62 (0, 0))) (h0 : 0 ≤ n) (h1 : n ≤ left) (h2 : left < 4611686018427387904) :
    Calls Tryd.prog 16 #[.pointer (some ⟨m, 0, none⟩), .int .i64 n] w fun e w' => e = .returned (.bool true) ∧ w.setCell ⟨m, 0, none⟩ (.int .i64 (left - n)) = w' := by
  have c0 : w.cell? ⟨m, 0, none⟩ = some (.int .i64 left) := (blk_cell hm 0).trans rfl
  have c1 : w.cell? ⟨m, 1, none⟩ = some (.bool false) := (blk_cell hm 1).trans rfl
  have f0 := blk_frozen hm 0
  have d0 : decide (n < 0) = false := decide_eq_false (by omega)
  have d1 : decide (left < n) = false := decide_eq_false (by omega)
  have wr : IntKind.i64.wrap (left - n) = left - n := by rw [IntKind.wrap_i64]; omega
  clear hm h0 h1 h2
  go_enter Tryd.func16, Tryd.ntmps16
  go_wp2
  go_ret
  exact ⟨rfl, rfl⟩
/-- The byte that is next. -/
def hereB (b : List Int) (i : Nat) : Int := if h : i < b.length then b[i] else 0
set_option maxHeartbeats 800000 in
theorem here_any {w : World} {g m : Nat} {A : Option Addr} {c : Nat} {b : List Int} {i : Nat} {left : Int} (h : Scn w g m A c b i left) :
    Calls Tryd.prog 15 #[.pointer (some ⟨g, 0, none⟩)] w fun e w' => e = .returned (.int .u8 (hereB b i)) ∧ Drawn0 w w' := by
  have c0 := h.c0
  have c1 := h.c1
  by_cases hi : i < b.length
  · obtain ⟨ad, rfl, hx⟩ := h.at_ hi
    have hh : hereB b i = b[i] := by unfold hereB; rw [dif_pos hi]
    obtain ⟨x, hxx⟩ : ∃ x, b[i] = x := ⟨_, rfl⟩
    rw [hxx] at hx hh
    rw [hh]
    have d0 : decide (i < b.length) = true := decide_eq_true hi
    have d1 : decide ((i : Int) < (b.length : Int)) = true := decide_eq_true (by omega)
    have k0 : (0 : Int) ≤ (i : Int) := Int.natCast_nonneg _
    have k1 : (i : Int) < (b.length : Int) := by omega
    clear h hh hxx
    go_enter Tryd.func15, Tryd.ntmps15
    go_wp2
    go_quiet (fail)
    go_wp2
    go_quiet (fail)
    go_wp2
    go_ret
    exact ⟨rfl, ((Drawn0.refl _).step _).step _⟩
  · have hh : hereB b i = 0 := by unfold hereB; rw [dif_neg hi]
    rw [hh]
    have d0 : decide (i < b.length) = false := decide_eq_false hi
    have d1 : decide ((i : Int) < (b.length : Int)) = false := decide_eq_false (by omega)
    clear h hh
    go_enter Tryd.func15, Tryd.ntmps15
    go_wp2
    go_quiet (fail)
    go_wp2
    go_ret
    exact ⟨rfl, ⟨_, rfl⟩⟩

def isBl (x : Int) : Bool := x == 32 || x == 9 || x == 10 || x == 13
/-- Behind the blanks from a place on. -/
def skipF : Nat → List Int → Nat → Nat
  | 0, _, i => i
  | n + 1, b, i => if isBl (hereB b i) = true then skipF n b (i + 1) else i
theorem hereB_blank {b : List Int} {i : Nat} (h : isBl (hereB b i) = true) : i < b.length := by
  by_cases hi : i < b.length
  · exact hi
  · unfold hereB at h; rw [dif_neg hi] at h; exact absurd h (by decide)
theorem skipF_le : ∀ (n : Nat) (b : List Int) (i : Nat), i ≤ skipF n b i ∧ (i ≤ b.length → skipF n b i ≤ b.length) ∧ skipF n b i ≤ max i b.length
  | 0, b, i => ⟨Nat.le_refl _, fun h => h, Nat.le_max_left _ _⟩
  | n + 1, b, i => by
    unfold skipF
    split
    · rename_i h
      have := hereB_blank h
      have ih := skipF_le n b (i + 1)
      exact ⟨by omega, fun _ => ih.2.1 (by omega), by omega⟩
    · exact ⟨Nat.le_refl _, fun h => h, by omega⟩
def skip (b : List Int) (i : Nat) : Nat := skipF (b.length + 1) b i
set_option maxHeartbeats 3200000 in
set_option maxRecDepth 100000 in
theorem blank_any {w : World} {g m : Nat} {A : Option Addr} {c : Nat} {b : List Int} {i0 : Nat} {left : Int} (h : Scn w g m A c b i0 left) :
    Calls Tryd.prog 24 #[.pointer (some ⟨g, 0, none⟩)] w fun e w' => e = .returned (.tuple #[]) ∧ ∃ left', Scn w' g m A c b (skip b i0) left' ∧ Two g m w w' := by
  have H := Aside0.mk h
  obtain ⟨fin, hfin⟩ : ∃ fin, skip b i0 = fin := ⟨_, rfl⟩
  rw [hfin]
  have HST : Aside0 (skipF (b.length + 1) b i0 = fin) := ⟨hfin⟩
  clear h hfin
  go_enter Tryd.func24, Tryd.ntmps24
  go_wp2_with (go_at_call 15; (with_reducible refine (here_any H.out).mono ?_); rintro e w1 ⟨rfl, hd⟩; have H1 := Aside0.mk (H.out.kept hd.below); have HT1 := Aside0.mk (Two.of_below g m hd.below); clear hd)
  go_loopg [2] (b.length + 1) (fun kq v2 wr => ∃ (i : Nat) (lf : Int), v2 = .int .u8 (hereB b i) ∧ Aside0 (skipF kq b i = fin) ∧ Aside0 (b.length < kq + i) ∧ Aside0 (Scn wr g m A c b i lf) ∧ Aside0 (Two g m w wr))
  case atStart => exact ⟨i0, left, rfl, HST, ⟨by omega⟩, H1, HT1⟩
  case round =>
    obtain ⟨i, lf, rfl, HF, HK, HS, HT⟩ := hrel
    obtain ⟨x, hx⟩ : ∃ x, hereB b i = x := ⟨_, rfl⟩
    rw [hx]
    have HX := Aside0.mk hx
    have ways : isBl x = false ∨ isBl x = true := by cases isBl x <;> simp
    have w4 : (isBl x = false ∧ (x == 32) = false ∧ (x == 9) = false ∧ (x == 10) = false ∧ (x == 13) = false) ∨ (isBl x = true ∧ (x == 32) = true) ∨ (isBl x = true ∧ (x == 32) = false ∧ (x == 9) = true) ∨ (isBl x = true ∧ (x == 32) = false ∧ (x == 9) = false ∧ (x == 10) = true) ∨ (isBl x = true ∧ (x == 32) = false ∧ (x == 9) = false ∧ (x == 10) = false ∧ (x == 13) = true) := by
      unfold isBl; cases (x == 32) <;> cases (x == 9) <;> cases (x == 10) <;> cases (x == 13) <;> simp
    clear hx ways
    have s2 := HS.out.c2
    have s1 := HS.out.c1
    rcases w4 with ⟨hb, a1, a2, a3, a4⟩ | ⟨hb, a1⟩ | ⟨hb, a1, a2⟩ | ⟨hb, a1, a2, a3⟩ | ⟨hb, a1, a2, a3, a4⟩
    · have HE : Aside0 (i = fin) := ⟨by
        have := HF.out
        cases gk with
        | zero => exact this
        | succ n => unfold skipF at this; rw [HX.out, hb, if_neg (by decide)] at this; exact this⟩
      clear hb
      go_wp2_with (fail)
      go_end0
      exact ⟨rfl, lf, by rw [← HE.out]; exact HS.out, HT.out⟩
    all_goals
      have hlt : i < b.length := hereB_blank (by rw [HX.out]; exact hb)
      obtain ⟨n, rfl⟩ : ∃ n, gk = n + 1 := ⟨gk - 1, by have := HK.out; omega⟩
      have HE : Aside0 (skipF n b (i + 1) = fin) := ⟨by
        have := HF.out
        unfold skipF at this; rw [HX.out, hb, if_pos rfl] at this; exact this⟩
      have HLT := Aside0.mk hlt
      have hbud := HS.out.bud
      have wi : IntKind.i64.wrap ((i : Int) + 1) = (i : Int) + 1 := by rw [IntKind.wrap_i64]; have := HS.out.lim; omega
      have HTAKE := Aside0.mk (take_ok wr m lf 1 HS.out.mt (by decide) (by omega) hbud.2)
      have HP : Aside0 (Scn ((wr.setCell ⟨m, 0, none⟩ (.int .i64 (lf - 1))).setCell ⟨g, 1, none⟩ (.int .i64 ((i : Int) + 1))) g m A c b (i + 1) (lf - 1)) := ⟨by have := HS.out.pay 1 (by omega); rw [Int.natCast_add] at this; exact this⟩
      have HTW : Aside0 (Two g m w ((wr.setCell ⟨m, 0, none⟩ (.int .i64 (lf - 1))).setCell ⟨g, 1, none⟩ (.int .i64 ((i : Int) + 1)))) := ⟨(HT.out.trans (Two.setm g m 0 wr _)).trans (Two.setg g m 1 _ _)⟩
      have hsg : (wr.setCell ⟨m, 0, none⟩ (.int .i64 (lf - 1))).heap[g]? = some (.cells #[.slice A b.length c, .int .i64 i, .pointer (some ⟨m, 0, none⟩)] 48 (0, 0)) := (Below.heap_setCell wr ⟨m, 0, none⟩ _ g HS.out.ne).trans HS.out.sc
      obtain ⟨w5, hw5⟩ : ∃ w5, wr.setCell ⟨m, 0, none⟩ (.int .i64 (lf - 1)) = w5 := ⟨_, rfl⟩
      rw [hw5] at HTAKE HP HTW hsg
      have HSG := Aside0.mk hsg
      clear hb hlt hbud hsg hw5
      go_upto_region 5 with (go_at_call 16; (with_reducible refine HTAKE.out.mono ?_); rintro e w6 ⟨rfl, rfl⟩)
      clear s2 s1
      have y1 : w5.cell? ⟨g, 1, none⟩ = some (.int .i64 i) := (blk_cell HSG.out 1).trans rfl
      have yf := blk_frozen HSG.out 1
      go_upto_region 3 with (fail)
      obtain ⟨w7, hw7⟩ : ∃ w7, w5.setCell ⟨g, 1, none⟩ (.int .i64 ((i : Int) + 1)) = w7 := ⟨_, rfl⟩
      have HP7 : Aside0 (Scn w7 g m A c b (i + 1) (lf - 1)) := ⟨by rw [← hw7]; exact HP.out⟩
      have HT7 : Aside0 (Two g m w w7) := ⟨by rw [← hw7]; exact HTW.out⟩
      rw [hw7]
      clear hw7 y1 yf
      go_wp2_with (go_at_call 15; (with_reducible refine (here_any HP7.out).mono ?_); rintro e w8 ⟨rfl, hd⟩; have HP8 := Aside0.mk (HP7.out.kept hd.below); have HT8 := Aside0.mk (HT7.out.trans (Two.of_below g m hd.below)); clear hd)
      go_roundg n
      case measure => omega
      case rel => exact ⟨i + 1, lf - 1, rfl, HE, ⟨by have := HK.out; omega⟩, HP8, HT8⟩
end Go.Proofs.YtonekmigcpgdeaaDoor.Hand
