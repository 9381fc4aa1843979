/- Layer 13, scan: a sign, the end, a new scanner. -/
import Derived.Test.YtonekmigcpgdeaaDoorS0
import Derived.Deep.RegionHeld3
import Derived.BigQuiet
import Derived.Deep.QuietTactic
namespace Go.Proofs.YtonekmigcpgdeaaDoor.Hand
open Go.RowKit Go.Proofs.YtonekmigcpgdeaaDoor.QAll Go.Proofs.YtonekmigcpgdeaaDoorW.PrintWords Go.Proofs.YtonekmigcpgdeaaDoorW.PrintLast Go.Proofs.YtonekmigcpgdeaaDoorW.PrintMore
set_option linter.unusedVariables false
set_option linter.unusedSimpArgs false

theorem skip_le (b : List Int) (i : Nat) (h : i ≤ b.length + 1) : skip b i ≤ b.length + 1 ∧ i ≤ skip b i := by
  have := skipF_le (b.length + 1) b i
  unfold skip; omega
/-- Is a byte next, behind blanks? -/
def signB (b : List Int) (i : Nat) (x : Int) : Bool := decide (skip b i < b.length) && hereB b (skip b i) == x
def SignPost (g m : Nat) (A : Option Addr) (c : Nat) (b : List Int) (i : Nat) (x : Int) (w : World) (e : Ending) (w' : World) : Prop :=
  e = .returned (.bool (signB b i x)) ∧ (∃ left', Scn w' g m A c b (if signB b i x = true then skip b i + 1 else skip b i) left') ∧ Two g m w w'
set_option maxHeartbeats 3200000 in
set_option maxRecDepth 100000 in
theorem sign_any {w : World} {g m : Nat} {A : Option Addr} {c : Nat} {b : List Int} {i : Nat} {left : Int} (x : Int) (h : Scn w g m A c b i left) :
    Calls Tryd.prog 14 #[.pointer (some ⟨g, 0, none⟩), .int .u8 x] w (SignPost g m A c b i x w) := by
  have HBL := Aside0.mk (blank_any h)
  obtain ⟨j, hj⟩ : ∃ j, skip b i = j := ⟨_, rfl⟩
  rw [hj] at HBL
  obtain ⟨r, hr⟩ : ∃ r, signB b i x = r := ⟨_, rfl⟩
  have hrr : r = (decide (j < b.length) && hereB b j == x) := by rw [← hr, ← hj]; rfl
  have HPOST : Aside0 (∀ w' left', Scn w' g m A c b (if r = true then j + 1 else j) left' → Two g m w w' → SignPost g m A c b i x w (.returned (.bool r)) w') := ⟨fun w' left' h1 h2 => by
    unfold SignPost; rw [hr, hj]; exact ⟨rfl, ⟨left', h1⟩, h2⟩⟩
  have ways : (¬ j < b.length ∧ r = false) ∨ (j < b.length ∧ (hereB b j != x) = true ∧ r = false) ∨ (j < b.length ∧ (hereB b j != x) = false ∧ r = true) := by
    by_cases p : j < b.length
    · right
      rw [decide_eq_true p] at hrr
      by_cases e : hereB b j = x
      · right; exact ⟨p, by simp [e], by rw [hrr]; simp [e]⟩
      · left; exact ⟨p, by simp [e], by rw [hrr]; simp [e]⟩
    · left; rw [decide_eq_false p] at hrr; exact ⟨p, by simpa using hrr⟩
  clear h hr hrr hj
  rcases ways with ⟨p, rfl⟩ | ⟨p, q, rfl⟩ | ⟨p, q, rfl⟩
  · have p1 : decide (b.length ≤ j) = true := decide_eq_true (by omega)
    have p2 : decide ((b.length : Int) ≤ (j : Int)) = true := decide_eq_true (by omega)
    clear p
    go_enter Tryd.func14, Tryd.ntmps14
    go_upto_region 4 with (go_at_call 24; (with_reducible refine HBL.out.mono ?_); rintro e w1 ⟨rfl, left1, h1, ht1⟩; have H1 := Aside0.mk h1; have HT1 := Aside0.mk ht1; clear h1 ht1)
    have c0 := H1.out.c0
    have c1 := H1.out.c1
    have c2 := H1.out.c2
    go_quiet (fail)
    clear c0 c1 c2
    go_wp2_with (fail)
    go_ret
    exact HPOST.out _ _ (H1.out.kept (Drawn0.below ⟨⟨_, rfl⟩⟩)) (HT1.out.trans (Two.of_below g m (Drawn0.below ⟨⟨_, rfl⟩⟩)))
  all_goals
    have p1 : decide (b.length ≤ j) = false := decide_eq_false (by omega)
    have p2 : decide ((b.length : Int) ≤ (j : Int)) = false := decide_eq_false (by omega)
    have HP := Aside0.mk p
    have k0 : (0 : Int) ≤ (j : Int) := Int.natCast_nonneg _
    have k1 : (j : Int) < (b.length : Int) := by omega
    obtain ⟨y, hy⟩ : ∃ y, hereB b j = y := ⟨_, rfl⟩
    rw [hy] at q
    have HY : Aside0 (∀ hp : j < b.length, b[j] = y) := ⟨fun hp => by rw [← hy]; unfold hereB; rw [dif_pos p]⟩
    clear hy p
    go_enter Tryd.func14, Tryd.ntmps14
    go_upto_region 4 with (go_at_call 24; (with_reducible refine HBL.out.mono ?_); rintro e w1 ⟨rfl, left1, h1, ht1⟩; have H1 := Aside0.mk h1; have HT1 := Aside0.mk ht1; clear h1 ht1)
    have c0 := H1.out.c0
    have c1 := H1.out.c1
    have c2 := H1.out.c2
    obtain ⟨ad, rfl, hx⟩ := H1.out.at_ HP.out
    rw [HY.out HP.out] at hx
  · go_quiet (fail)
    clear c0 c1 c2 hx
    go_wp2_with (fail)
    go_ret
    exact HPOST.out _ _ (H1.out.kept (Drawn0.below ⟨⟨_, rfl⟩⟩)) (HT1.out.trans (Two.of_below g m (Drawn0.below ⟨⟨_, rfl⟩⟩)))
  · have HTAKE : Aside0 (∀ W, Scn W g m (some ad) c b j left1 → Calls Tryd.prog 16 #[.pointer (some ⟨m, 0, none⟩), .int .i64 1] W fun e w' => e = .returned (.bool true) ∧ W.setCell ⟨m, 0, none⟩ (.int .i64 (left1 - 1)) = w') := ⟨fun W hW => take_ok W m left1 1 hW.mt (by decide) (by have := hW.bud; have := HP.out; omega) hW.bud.2⟩
    have HW5 : Aside0 (∀ W, Scn W g m (some ad) c b j left1 → (W.setCell ⟨m, 0, none⟩ (.int .i64 (left1 - 1))).heap[g]? = some (.cells #[.slice (some ad) b.length c, .int .i64 j, .pointer (some ⟨m, 0, none⟩)] 48 (0, 0)) ∧
        Scn ((W.setCell ⟨m, 0, none⟩ (.int .i64 (left1 - 1))).setCell ⟨g, 1, none⟩ (.int .i64 ((j : Int) + 1))) g m (some ad) c b (j + 1) (left1 - 1) ∧ (W.setCell ⟨m, 0, none⟩ (.int .i64 (left1 - 1))).cell? (ad.add j) = some (.int .u8 y)) := ⟨fun W hW => by
      refine ⟨(Below.heap_setCell W ⟨m, 0, none⟩ _ g hW.ne).trans hW.sc, by have := hW.pay 1 (by have := HP.out; omega); rw [Int.natCast_add] at this; exact this, ?_⟩
      have hR := Kd.reads_of_C (enc := Value.int .u8) (d := (0 : Int)) (h1 := fun _ => rfl) (hW.bytes _ (Two.setm g m 0 W (.int .i64 (left1 - 1))))
      obtain ⟨ad', e, hc⟩ := hR.2.2 (by have := HP.out; omega)
      injection e with e; subst e
      rw [hc j HP.out, List.getD_eq_getElem?_getD, List.getElem?_eq_getElem HP.out]
      simp [HY.out HP.out]⟩
    have wi : IntKind.i64.wrap ((j : Int) + 1) = (j : Int) + 1 := by rw [IntKind.wrap_i64]; have := H1.out.lim; omega
    go_region_held3 (fun W => W.cell? ⟨g, 0, none⟩ = some (.slice (some ad) b.length c) ∧ W.cell? ⟨g, 1, none⟩ = some (.int .i64 j) ∧ W.cell? ⟨g, 2, none⟩ = some (.pointer (some ⟨m, 0, none⟩)) ∧ W.cell? (ad.add j) = some (.int .u8 y))
      (first | go_keep | exact ⟨z0, z1, z2, z3⟩)
      (first
        | (go_at_call 16; (with_reducible refine (HTAKE.out _ (H1.out.kept (below_drew (Below.refl w1.heap.size w1)))).mono ?_); rintro e w6 ⟨rfl, rfl⟩
           obtain ⟨w5, hw5⟩ : ∃ w5, w1.drew.setCell ⟨m, 0, none⟩ (.int .i64 (left1 - 1)) = w5 := ⟨_, rfl⟩
           have hh := HW5.out _ (H1.out.kept (below_drew (Below.refl w1.heap.size w1)))
           have ht := (HT1.out.trans (Two.of_below g m (below_drew (Below.refl w1.heap.size w1)))).trans (Two.setm g m 0 _ (.int .i64 (left1 - 1)))
           rw [hw5] at hh ht ⊢
           have HSG := Aside0.mk hh.1; have HPAY := Aside0.mk hh.2.1; have z3 := hh.2.2; have HT5 := Aside0.mk ht
           have z0 : w5.cell? ⟨g, 0, none⟩ = some (.slice (some ad) b.length c) := (blk_cell hh.1 0).trans rfl
           have z1 : w5.cell? ⟨g, 1, none⟩ = some (.int .i64 j) := (blk_cell hh.1 1).trans rfl
           have z2 : w5.cell? ⟨g, 2, none⟩ = some (.pointer (some ⟨m, 0, none⟩)) := (blk_cell hh.1 2).trans rfl
           clear hh ht hw5))
    have yf := blk_frozen HSG.out 1
    clear c0 c1 c2 hx
    go_wp2_with (fail)
    go_ret
    exact HPOST.out _ _ HPAY.out (HT5.out.trans (Two.setg g m 1 _ _))
set_option maxHeartbeats 3200000 in
set_option maxRecDepth 100000 in
theorem end_any {w : World} {g m : Nat} {A : Option Addr} {c : Nat} {b : List Int} {i : Nat} {left : Int} (h : Scn w g m A c b i left) :
    Calls Tryd.prog 11 #[.pointer (some ⟨g, 0, none⟩)] w fun e w' => e = .returned (.bool (skip b i == b.length)) ∧ Two g m w w' := by
  have HBL := Aside0.mk (blank_any h)
  obtain ⟨j, hj⟩ : ∃ j, skip b i = j := ⟨_, rfl⟩
  rw [hj] at HBL ⊢
  obtain ⟨r, hr⟩ : ∃ r, (j == b.length) = r := ⟨_, rfl⟩
  have hr2 : ((j : Int) == (b.length : Int)) = r := by rw [← hr, Bool.eq_iff_iff]; simp only [beq_iff_eq]; omega
  rw [hr]
  clear h hj
  go_enter Tryd.func11, Tryd.ntmps11
  go_upto_region 4 with (go_at_call 24; (with_reducible refine HBL.out.mono ?_); rintro e w1 ⟨rfl, left1, h1, ht1⟩; have H1 := Aside0.mk h1; have HT1 := Aside0.mk ht1; clear h1 ht1)
  have c0 := H1.out.c0
  have c1 := H1.out.c1
  go_quiet (fail)
  go_wp2
  go_ret
  exact ⟨rfl, HT1.out.trans (Two.of_below g m (Drawn0.below ⟨⟨_, rfl⟩⟩))⟩
end Go.Proofs.YtonekmigcpgdeaaDoor.Hand
