/- Texts joined: QAllx2 QAllx3. -/
import Derived.Test.YtjgjidehlldfhaaZC17
section
-- written by a program of this session (turned from a print)
namespace Go.Proofs.Ytjgjidehlldfhaa.QAll
open Go.RowKit Go.Proofs.YtjgjidehlldfhaaW.PrintWords Go.Proofs.YtjgjidehlldfhaaW.PrintLast Go.Proofs.YtjgjidehlldfhaaW.PrintMore
attribute [local go_sem] max2_int min2_int max_two min_two max_three min_three max_four min_four   -- for this text's walks alone
set_option linter.unusedVariables false
set_option linter.unusedSimpArgs false

/-- A state of type 101 at block g of W; what its slices lead to came in by w0. -/
def IsS101 (w0 W : World) (g : Nat) (f0 : Int) (f1 : Bool) : Prop := W.heap[g]? = some (.cells #[.int .i64 f0, .bool f1] 101 (0, 0)) ∧ w0.heap.size ≤ g
theorem IsS101.grown {w0 W : World} {g : Nat} {f0 : Int} {f1 : Bool} {W1 : World} {row : Option Nat} (h : IsS101 w0 W g f0 f1) (hw : W.grownBy W1 row) (hne : some g ≠ row) : IsS101 w0 W1 g f0 f1 := by
  obtain ⟨hb, hg⟩ := h
  exact ⟨blk_grown hb hw hne, hg⟩
theorem IsS101.kept {w0 W : World} {g : Nat} {f0 : Int} {f1 : Bool} {W1 : World} {S : Nat → Prop} (h : IsS101 w0 W g f0 f1) (hk : Kept W W1 S) (hne : ¬ S g) : IsS101 w0 W1 g f0 f1 := by
  obtain ⟨hb, hg⟩ := h
  exact ⟨blk_kept hb hk hne, hg⟩
theorem IsS101.below {w0 W : World} {g : Nat} {f0 : Int} {f1 : Bool} {W1 : World} (h : IsS101 w0 W g f0 f1) (hw : Below W.heap.size W W1) : IsS101 w0 W1 g f0 f1 := h.grown (grown_of_below hw none) (by simp)
theorem IsS101.alloc {w0 W : World} {g : Nat} {f0 : Int} {f1 : Bool} (h : IsS101 w0 W g f0 f1) (o : Obj) : IsS101 w0 (W.alloc o) g f0 f1 := h.below (below_alloc (Below.refl _ _) o)
theorem IsS101.drewN {w0 W : World} {g : Nat} {f0 : Int} {f1 : Bool} (h : IsS101 w0 W g f0 f1) (m : Nat) : IsS101 w0 (W.drewN m) g f0 f1 := h
theorem IsS101.drew {w0 W : World} {g : Nat} {f0 : Int} {f1 : Bool} (h : IsS101 w0 W g f0 f1) : IsS101 w0 W.drew g f0 f1 := h
theorem IsS101.at_ {w0 W : World} {g : Nat} {f0 : Int} {f1 : Bool} {w' : World} {m : Nat} (hq : W.drewN m = w') (h : IsS101 w0 W g f0 f1) : IsS101 w0 w' g f0 f1 := by subst hq; exact IsS101.drewN h m
theorem IsS101.apart {w0 W : World} {g : Nat} {f0 : Int} {f1 : Bool} {α : Type} {d : Kd α} {e : Nat} {base : Nat} {ok : Nat → Prop} {v : Value} {xs : List α} (h : IsS101 w0 W g f0 f1) (ho : d.R e W base ok v xs) (ht : ∀ q, q ∈ e :: d.E → q ≠ 101) : d.R e W base (fun k => ok k ∧ k ≠ g) v xs := by
  obtain ⟨hb, hg⟩ := h
  exact Kd.R_types ho hb ht
theorem IsS101.own_ne {w0 W : World} {g : Nat} {f0 : Int} {f1 : Bool} {α : Type} {d : Kd α} {e : Nat} {base : Nat} {ok : Nat → Prop} {v : Value} {xs : List α} (h : IsS101 w0 W g f0 f1) (ho : d.R e W base ok v xs) (ht : e ≠ 101) : some g ≠ v.ownBlock := by
  obtain ⟨hb, hg⟩ := h
  exact Kd.R_ne ho hb ht
theorem IsS101.lt {w0 W : World} {g : Nat} {f0 : Int} {f1 : Bool} (h : IsS101 w0 W g f0 f1) : g < W.heap.size := by
  obtain ⟨hb, hg⟩ := h
  exact blk_lt hb
theorem IsS101.ge {w0 W : World} {g : Nat} {f0 : Int} {f1 : Bool} (h : IsS101 w0 W g f0 f1) : w0.heap.size ≤ g := by
  obtain ⟨hb, hg⟩ := h
  exact hg
theorem cellS101_0 {W : World} {g : Nat} {f0 : Int} {f1 : Bool} (h : W.heap[g]? = some (.cells #[.int .i64 f0, .bool f1] 101 (0, 0))) : W.cell? ⟨g, 0, none⟩ = some (.int .i64 f0) := (blk_cell h 0).trans rfl
theorem IsS101.set_0 {w0 W : World} {g : Nat} {f0 : Int} {f1 : Bool} (h : IsS101 w0 W g f0 f1) (x : Int) : IsS101 w0 (W.setCell ⟨g, 0, none⟩ (.int .i64 x)) g x f1 := by
  obtain ⟨hb, hg⟩ := h
  exact ⟨by simpa using blk_set hb 0 (.int .i64 x), hg⟩
theorem cellS101_1 {W : World} {g : Nat} {f0 : Int} {f1 : Bool} (h : W.heap[g]? = some (.cells #[.int .i64 f0, .bool f1] 101 (0, 0))) : W.cell? ⟨g, 1, none⟩ = some (.bool f1) := (blk_cell h 1).trans rfl
theorem IsS101.set_1 {w0 W : World} {g : Nat} {f0 : Int} {f1 : Bool} (h : IsS101 w0 W g f0 f1) (x : Bool) : IsS101 w0 (W.setCell ⟨g, 1, none⟩ (.bool x)) g f0 x := by
  obtain ⟨hb, hg⟩ := h
  exact ⟨by simpa using blk_set hb 1 (.bool x), hg⟩
/-! ### wire_Meter_Take: function 47 -/
def wire_Meter_Take.j0 : Nat → Int → Bool → Int → Bool → Option (Bool × Int × Bool)
  | 0, _, _, _, _ => none
  | k + 1, x1, x16, x1000, x1001 => if x16 = true then (some (false, x1000, x1001)) else (if x1 > x1000 then (some (false, 0, true)) else (some (true, wrap64 (x1000 - x1), x1001)))
def wire_Meter_Take.f (k : Nat) (s0_0 : Int) (s0_1 : Bool) (a1 : Int) : Option (Bool × Int × Bool) := if s0_1 = true then (wire_Meter_Take.j0 k a1 true s0_0 s0_1) else (wire_Meter_Take.j0 k a1 (decide (a1 < 0)) s0_0 s0_1)
theorem wire_Meter_Take.mono_l : ∀ k, (∀ y0 y1 y2 y3, LeO (wire_Meter_Take.j0 k y0 y1 y2 y3) (wire_Meter_Take.j0 (k + 1) y0 y1 y2 y3))
  | 0 => fun _ _ _ _ r h => by simp [wire_Meter_Take.j0] at h
  | k + 1 => by
    have ih0 := wire_Meter_Take.mono_l k
    · intro y0 y1 y2 y3
      unfold wire_Meter_Take.j0
      repeat' first
      | (with_reducible exact ih0 _ _ _ _)
      | (with_reducible exact LeO.refl _)
      | (with_reducible exact LeO.none _)
      | (with_reducible refine LeO.ite ?_ ?_)
      | (with_reducible refine LeO.bind ?_ (fun _ => ?_))
      | exact ih0 _ _ _ _
      | exact LeO.none _
      | refine LeO.ite ?_ ?_
      | refine LeO.bind ?_ (fun _ => ?_)
theorem wire_Meter_Take.mono : ∀ a0 a1 a2 k, LeO (wire_Meter_Take.f k a0 a1 a2) (wire_Meter_Take.f (k + 1) a0 a1 a2) := by
  intro a0 a1 a2 k
  have ih0 := wire_Meter_Take.mono_l k
  unfold wire_Meter_Take.f
  repeat' first
      | (with_reducible exact ih0 _ _ _ _)
      | (with_reducible exact LeO.refl _)
      | (with_reducible exact LeO.none _)
      | (with_reducible refine LeO.ite ?_ ?_)
      | (with_reducible refine LeO.bind ?_ (fun _ => ?_))
      | exact ih0 _ _ _ _
      | exact LeO.none _
      | refine LeO.ite ?_ ?_
      | refine LeO.bind ?_ (fun _ => ?_)
set_option maxHeartbeats 8000000 in
set_option maxRecDepth 100000 in
theorem wire_Meter_Take.calls (k : Nat) (g : Nat) (s0_0 : Int) (s0_1 : Bool) (a1 : Int) (r1 : Bool) (r2 : Int) (r3 : Bool) (w0 w : World) (hI : IsS101 w0 w g s0_0 s0_1) (hB : Below w0.heap.size w0 w) (h : wire_Meter_Take.f k s0_0 s0_1 a1 = some (r1, r2, r3)) :
    Calls Try.prog 47 #[.pointer (some ⟨g, 0, none⟩), .int .i64 a1] w fun e w' => e = .returned (.bool r1) ∧ IsS101 w0 w' g r2 r3 ∧ Below w0.heap.size w0 w' ∧ KeepBut w w' g none := by
  have HI0 := Aside0.mk hI
  have HK := Aside0.mk (KeepBut.refl w g none)
  have HL := Aside0.mk hB.size
  clear hI
  have HW0 := Aside0.mk hB.size
  have HB := Aside0.mk hB
  clear hB
  have H : (if s0_1 = true then (wire_Meter_Take.j0 k a1 true s0_0 s0_1) else (wire_Meter_Take.j0 k a1 (decide (a1 < 0)) s0_0 s0_1)) = some (r1, r2, r3) := h
  clear h
  have HC3 := Aside0.mk H
  clear H
  go_enter Try.func47, Try.ntmps47
  go_upto_region 1 with (fail)
  go_cut [16] (fun v16 wc => ∃ (kq : Nat) (x16_2 : Bool), v16 = .bool x16_2 ∧ Aside0 (wire_Meter_Take.j0 kq a1 x16_2 s0_0 s0_1 = some (r1, r2, r3)) ∧ Aside0 (kq ≤ k) ∧ Aside0 (IsS101 w0 wc g s0_0 s0_1) ∧ Aside0 (KeepBut w wc g none) ∧ Aside0 (Below w0.heap.size w0 wc))
  case first =>
    have H := HC3.out
    clear HC3
    by_cases c4 : s0_1 = true
    · subst c4
      have H1 : (wire_Meter_Take.j0 k a1 true s0_0 true) = some (r1, r2, r3) := by rw [if_pos rfl] at H; exact H
      clear H
      have H := H1
      clear H1
      have H' := Aside0.mk H
      clear H
      obtain ⟨HGz5, hgz5⟩ := HI0.out
      have hcz5_0 := cellS101_0 HGz5
      have hcz5_1 := cellS101_1 HGz5
      have hfz5_0 := blk_frozen HGz5 0
      have hfz5_1 := blk_frozen HGz5 1
      clear HGz5 hgz5
      go_wp2
      go_meet
      case rel => exact ⟨_, (true), (by first | rfl | (simp; done) | (simp [*]; done)), H', ⟨by first | omega | exact Nat.le_refl _⟩, ⟨by repeat (first | (with_reducible first | exact HI0.out | apply IsS101.alloc | apply IsS101.drewN | apply IsS101.drew | apply IsS101.set_0 | apply IsS101.set_1) | exact HI0.out)⟩, ⟨by repeat (first | (with_reducible first | exact HK.out | apply KeepBut.set_ | apply keep_drewN | apply keep_drew | apply keep_alloc) | exact HK.out)⟩, ⟨by repeat (first | (with_reducible first | exact HB.out | apply below_alloc | apply pw_below_drewN | apply below_drew1 | refine below_set ?_ (IsS101.ge HI0.out)) | exact HB.out)⟩⟩
    · replace c4 := Bool.eq_false_iff.mpr c4
      subst c4
      have H1 : (wire_Meter_Take.j0 k a1 (decide (a1 < 0)) s0_0 false) = some (r1, r2, r3) := by rw [if_neg (show ¬ (false = true) by decide)] at H; exact H
      clear H
      have H := H1
      clear H1
      have H' := Aside0.mk H
      clear H
      obtain ⟨HGz6, hgz6⟩ := HI0.out
      have hcz6_0 := cellS101_0 HGz6
      have hcz6_1 := cellS101_1 HGz6
      have hfz6_0 := blk_frozen HGz6 0
      have hfz6_1 := blk_frozen HGz6 1
      clear HGz6 hgz6
      go_wp2
      go_meet
      case rel => exact ⟨_, (decide (a1 < 0)), (by first | rfl | (simp; done) | (simp [*]; done)), H', ⟨by first | omega | exact Nat.le_refl _⟩, ⟨by repeat (first | (with_reducible first | exact HI0.out | apply IsS101.alloc | apply IsS101.drewN | apply IsS101.drew | apply IsS101.set_0 | apply IsS101.set_1) | exact HI0.out)⟩, ⟨by repeat (first | (with_reducible first | exact HK.out | apply KeepBut.set_ | apply keep_drewN | apply keep_drew | apply keep_alloc) | exact HK.out)⟩, ⟨by repeat (first | (with_reducible first | exact HB.out | apply below_alloc | apply pw_below_drewN | apply below_drew1 | refine below_set ?_ (IsS101.ge HI0.out)) | exact HB.out)⟩⟩
  case rest =>
    clear HC3
    try clear p2
    try clear c4
    try clear hcz5_0
    try clear hcz5_1
    try clear hcz6_0
    try clear hcz6_1
    try clear hfz5_0
    try clear hfz5_1
    try clear hfz6_0
    try clear hfz6_1
    obtain ⟨kq, x16_2, rfl, HA, HJ2, HI0, HK, HB⟩ := hcut
    cases kq with
    | zero => exact absurd HA.out (by simp [wire_Meter_Take.j0])
    | succ kj2 =>
      have H := HA.out
      clear HA
      simp only [wire_Meter_Take.j0] at H
      by_cases c7 : x16_2 = true
      · subst c7
        have H1 : (some (false, s0_0, s0_1)) = some (r1, r2, r3) := by rw [if_pos rfl] at H; exact H
        clear H
        have H := H1
        clear H1
        simp only [Option.some.injEq, Prod.mk.injEq] at H
        obtain ⟨rfl, rfl, rfl⟩ := H
        go_wp2
        go_ret
        exact ⟨by first | rfl | (simp [errW_none, errW_some] <;> rfl) | (simp [*, errW_none, errW_some] <;> rfl), by repeat (first | (with_reducible first | exact HI0.out | apply IsS101.alloc | apply IsS101.drewN | apply IsS101.drew | apply IsS101.set_0 | apply IsS101.set_1) | exact HI0.out), by repeat (first | (with_reducible first | exact HB.out | apply below_alloc | apply pw_below_drewN | apply below_drew1 | refine below_set ?_ (IsS101.ge HI0.out)) | exact HB.out), by repeat (first | (with_reducible first | exact HK.out | apply KeepBut.set_ | apply keep_drewN | apply keep_drew | apply keep_alloc) | exact HK.out)⟩
      · replace c7 := Bool.eq_false_iff.mpr c7
        subst c7
        have H1 : (if a1 > s0_0 then (some (false, 0, true)) else (some (true, wrap64 (s0_0 - a1), s0_1))) = some (r1, r2, r3) := by rw [if_neg (show ¬ (false = true) by decide)] at H; exact H
        clear H
        have H := H1
        clear H1
        by_cases c8 : a1 > s0_0
        · rw [if_pos c8] at H
          have c8b0 : decide (s0_0 < a1) = true := decide_eq_true c8
          clear c8
          simp only [Option.some.injEq, Prod.mk.injEq] at H
          obtain ⟨rfl, rfl, rfl⟩ := H
          obtain ⟨HGz9, hgz9⟩ := HI0.out
          have hcz9_0 := cellS101_0 HGz9
          have hcz9_1 := cellS101_1 HGz9
          have hfz9_0 := blk_frozen HGz9 0
          have hfz9_1 := blk_frozen HGz9 1
          clear HGz9 hgz9
          go_wp2
          go_ret
          exact ⟨by first | rfl | (simp [errW_none, errW_some] <;> rfl) | (simp [*, errW_none, errW_some] <;> rfl), by repeat (first | (with_reducible first | exact HI0.out | apply IsS101.alloc | apply IsS101.drewN | apply IsS101.drew | apply IsS101.set_0 | apply IsS101.set_1) | exact HI0.out), by repeat (first | (with_reducible first | exact HB.out | apply below_alloc | apply pw_below_drewN | apply below_drew1 | refine below_set ?_ (IsS101.ge HI0.out)) | exact HB.out), by repeat (first | (with_reducible first | exact HK.out | apply KeepBut.set_ | apply keep_drewN | apply keep_drew | apply keep_alloc) | exact HK.out)⟩
        · rw [if_neg c8] at H
          have c8b0 : decide (s0_0 < a1) = false := decide_eq_false c8
          clear c8
          simp only [Option.some.injEq, Prod.mk.injEq] at H
          obtain ⟨rfl, rfl, rfl⟩ := H
          obtain ⟨HGz10, hgz10⟩ := HI0.out
          have hcz10_0 := cellS101_0 HGz10
          have hcz10_1 := cellS101_1 HGz10
          have hfz10_0 := blk_frozen HGz10 0
          have hfz10_1 := blk_frozen HGz10 1
          clear HGz10 hgz10
          go_wp2
          go_ret
          exact ⟨by first | rfl | (simp [errW_none, errW_some] <;> rfl) | (simp [*, errW_none, errW_some] <;> rfl), by repeat (first | (with_reducible first | exact HI0.out | apply IsS101.alloc | apply IsS101.drewN | apply IsS101.drew | apply IsS101.set_0 | apply IsS101.set_1) | exact HI0.out), by repeat (first | (with_reducible first | exact HB.out | apply below_alloc | apply pw_below_drewN | apply below_drew1 | refine below_set ?_ (IsS101.ge HI0.out)) | exact HB.out), by repeat (first | (with_reducible first | exact HK.out | apply KeepBut.set_ | apply keep_drewN | apply keep_drew | apply keep_alloc) | exact HK.out)⟩

-- NOT PRINTED: function 33 (capread_msg_reach)

end Go.Proofs.Ytjgjidehlldfhaa.QAll
end

section
-- written by a program of this session (turned from a print)
namespace Go.Proofs.Ytjgjidehlldfhaa.QAll
open Go.RowKit Go.Proofs.YtjgjidehlldfhaaW.PrintWords Go.Proofs.YtjgjidehlldfhaaW.PrintLast Go.Proofs.YtjgjidehlldfhaaW.PrintMore
attribute [local go_sem] max2_int min2_int max_two min_two max_three min_three max_four min_four   -- for this text's walks alone
set_option linter.unusedVariables false
set_option linter.unusedSimpArgs false

/-! ### wire_sign: function 59 -/
mutual
def wire_sign.j5 : Nat → List Int → Int → Int → Int → Int → Option (Int)
  | 0, _, _, _, _, _ => none
  | k + 1, x0, x1, x6, x7, x8 => if (wrap64 ((x0.length : Int) - x1)) < x6 then (wire_sign.j6 k x0 x1 x6 true) else (if 0 ≤ (wrap64 (x1 + 1)) then (if (wrap64 (x1 + 1)) < (x0.length : Int) then (if (rd x0 (wrap64 (x1 + 1))) < x7 then (wire_sign.j6 k x0 x1 x6 true) else (wire_sign.j6 k x0 x1 x6 (decide ((rd x0 (wrap64 (x1 + 1))) > x8)))) else (none)) else (none))
def wire_sign.j6 : Nat → List Int → Int → Int → Bool → Option (Int)
  | 0, _, _, _, _ => none
  | k + 1, x0, x1, x6, x70 => if x70 = true then (some 0) else (if 0 ≤ (wrap64 (x1 + 2)) then (if (wrap64 (x1 + 2)) ≤ (wrap64 (x1 + x6)) then (if (wrap64 (x1 + x6)) ≤ (x0.length : Int) then (wire_sign.l0 k x6 ((x0.take ((wrap64 (x1 + x6)) : Int).toNat).drop ((wrap64 (x1 + 2)) : Int).toNat) (((x0.take ((wrap64 (x1 + x6)) : Int).toNat).drop ((wrap64 (x1 + 2)) : Int).toNat).length : Int) 0) else (none)) else (none)) else (none))
def wire_sign.l0 : Nat → Int → List Int → Int → Int → Option (Int)
  | 0, _, _, _, _ => none
  | k + 1, x6, x77, x78, x79 => if x79 < x78 then (if 0 ≤ x79 then (if x79 < (x77.length : Int) then (if (rd x77 x79) < 128 then (some 0) else (if (rd x77 x79) > 191 then (some 0) else (wire_sign.l0 k x6 x77 x78 (wrap64 (x79 + 1))))) else (none)) else (none)) else (some x6)
def wire_sign.j0 : Nat → List Int → Int → Int → Int → Int → Bool → Option (Int)
  | 0, _, _, _, _, _, _ => none
  | k + 1, x0, x1, x5, x7, x8, x18 => if x18 = true then (wire_sign.j5 k x0 x1 2 x7 x8) else (if x5 ≥ 224 then (wire_sign.j1 k x0 x1 x5 x7 x8 (decide (x5 ≤ 239))) else (wire_sign.j1 k x0 x1 x5 x7 x8 false))
def wire_sign.j1 : Nat → List Int → Int → Int → Int → Int → Bool → Option (Int)
  | 0, _, _, _, _, _, _ => none
  | k + 1, x0, x1, x5, x7, x8, x25 => if x25 = true then (if x5 = 224 then (wire_sign.j2 k x0 x1 x5 3 160 x8) else (wire_sign.j2 k x0 x1 x5 3 x7 x8)) else (if x5 ≥ 240 then (wire_sign.j3 k x0 x1 x5 x7 x8 (decide (x5 ≤ 244))) else (wire_sign.j3 k x0 x1 x5 x7 x8 false))
def wire_sign.j2 : Nat → List Int → Int → Int → Int → Int → Int → Option (Int)
  | 0, _, _, _, _, _, _ => none
  | k + 1, x0, x1, x5, x6, x7, x8 => if x5 = 237 then (wire_sign.j5 k x0 x1 x6 x7 159) else (wire_sign.j5 k x0 x1 x6 x7 x8)
def wire_sign.j3 : Nat → List Int → Int → Int → Int → Int → Bool → Option (Int)
  | 0, _, _, _, _, _, _ => none
  | k + 1, x0, x1, x5, x7, x8, x36 => if x36 = true then (if x5 = 240 then (wire_sign.j4 k x0 x1 x5 4 144 x8) else (wire_sign.j4 k x0 x1 x5 4 x7 x8)) else (some 0)
def wire_sign.j4 : Nat → List Int → Int → Int → Int → Int → Int → Option (Int)
  | 0, _, _, _, _, _, _ => none
  | k + 1, x0, x1, x5, x6, x7, x8 => if x5 = 244 then (wire_sign.j5 k x0 x1 x6 x7 143) else (wire_sign.j5 k x0 x1 x6 x7 x8)
end
def wire_sign.f (k : Nat) (l0 : List Int) (a1 : Int) : Option (Int) := if 0 ≤ a1 then (if a1 < (l0.length : Int) then (if (rd l0 a1) < 128 then (some 1) else (if (rd l0 a1) ≥ 194 then (wire_sign.j0 k l0 a1 (rd l0 a1) 128 191 (decide ((rd l0 a1) ≤ 223))) else (wire_sign.j0 k l0 a1 (rd l0 a1) 128 191 false))) else (none)) else (none)
theorem wire_sign.mono_l : ∀ k, (∀ y0 y1 y2 y3 y4, LeO (wire_sign.j5 k y0 y1 y2 y3 y4) (wire_sign.j5 (k + 1) y0 y1 y2 y3 y4)) ∧ (∀ y0 y1 y2 y3, LeO (wire_sign.j6 k y0 y1 y2 y3) (wire_sign.j6 (k + 1) y0 y1 y2 y3)) ∧ (∀ y0 y1 y2 y3, LeO (wire_sign.l0 k y0 y1 y2 y3) (wire_sign.l0 (k + 1) y0 y1 y2 y3)) ∧ (∀ y0 y1 y2 y3 y4 y5, LeO (wire_sign.j0 k y0 y1 y2 y3 y4 y5) (wire_sign.j0 (k + 1) y0 y1 y2 y3 y4 y5)) ∧ (∀ y0 y1 y2 y3 y4 y5, LeO (wire_sign.j1 k y0 y1 y2 y3 y4 y5) (wire_sign.j1 (k + 1) y0 y1 y2 y3 y4 y5)) ∧ (∀ y0 y1 y2 y3 y4 y5, LeO (wire_sign.j2 k y0 y1 y2 y3 y4 y5) (wire_sign.j2 (k + 1) y0 y1 y2 y3 y4 y5)) ∧ (∀ y0 y1 y2 y3 y4 y5, LeO (wire_sign.j3 k y0 y1 y2 y3 y4 y5) (wire_sign.j3 (k + 1) y0 y1 y2 y3 y4 y5)) ∧ (∀ y0 y1 y2 y3 y4 y5, LeO (wire_sign.j4 k y0 y1 y2 y3 y4 y5) (wire_sign.j4 (k + 1) y0 y1 y2 y3 y4 y5))
  | 0 => ⟨fun _ _ _ _ _ r h => by simp [wire_sign.j5] at h, fun _ _ _ _ r h => by simp [wire_sign.j6] at h, fun _ _ _ _ r h => by simp [wire_sign.l0] at h, fun _ _ _ _ _ _ r h => by simp [wire_sign.j0] at h, fun _ _ _ _ _ _ r h => by simp [wire_sign.j1] at h, fun _ _ _ _ _ _ r h => by simp [wire_sign.j2] at h, fun _ _ _ _ _ _ r h => by simp [wire_sign.j3] at h, fun _ _ _ _ _ _ r h => by simp [wire_sign.j4] at h⟩
  | k + 1 => by
    obtain ⟨ih0, ih1, ih2, ih3, ih4, ih5, ih6, ih7⟩ := wire_sign.mono_l k
    refine ⟨?_, ?_, ?_, ?_, ?_, ?_, ?_, ?_⟩
    · intro y0 y1 y2 y3 y4
      unfold wire_sign.j5
      repeat' first
      | (with_reducible exact ih0 _ _ _ _ _)
      | (with_reducible exact ih1 _ _ _ _)
      | (with_reducible exact ih2 _ _ _ _)
      | (with_reducible exact ih3 _ _ _ _ _ _)
      | (with_reducible exact ih4 _ _ _ _ _ _)
      | (with_reducible exact ih5 _ _ _ _ _ _)
      | (with_reducible exact ih6 _ _ _ _ _ _)
      | (with_reducible exact ih7 _ _ _ _ _ _)
      | (with_reducible exact LeO.refl _)
      | (with_reducible exact LeO.none _)
      | (with_reducible refine LeO.ite ?_ ?_)
      | (with_reducible refine LeO.bind ?_ (fun _ => ?_))
      | exact ih0 _ _ _ _ _
      | exact ih1 _ _ _ _
      | exact ih2 _ _ _ _
      | exact ih3 _ _ _ _ _ _
      | exact ih4 _ _ _ _ _ _
      | exact ih5 _ _ _ _ _ _
      | exact ih6 _ _ _ _ _ _
      | exact ih7 _ _ _ _ _ _
      | exact LeO.none _
      | refine LeO.ite ?_ ?_
      | refine LeO.bind ?_ (fun _ => ?_)
    · intro y0 y1 y2 y3
      unfold wire_sign.j6
      repeat' first
      | (with_reducible exact ih0 _ _ _ _ _)
      | (with_reducible exact ih1 _ _ _ _)
      | (with_reducible exact ih2 _ _ _ _)
      | (with_reducible exact ih3 _ _ _ _ _ _)
      | (with_reducible exact ih4 _ _ _ _ _ _)
      | (with_reducible exact ih5 _ _ _ _ _ _)
      | (with_reducible exact ih6 _ _ _ _ _ _)
      | (with_reducible exact ih7 _ _ _ _ _ _)
      | (with_reducible exact LeO.refl _)
      | (with_reducible exact LeO.none _)
      | (with_reducible refine LeO.ite ?_ ?_)
      | (with_reducible refine LeO.bind ?_ (fun _ => ?_))
      | exact ih0 _ _ _ _ _
      | exact ih1 _ _ _ _
      | exact ih2 _ _ _ _
      | exact ih3 _ _ _ _ _ _
      | exact ih4 _ _ _ _ _ _
      | exact ih5 _ _ _ _ _ _
      | exact ih6 _ _ _ _ _ _
      | exact ih7 _ _ _ _ _ _
      | exact LeO.none _
      | refine LeO.ite ?_ ?_
      | refine LeO.bind ?_ (fun _ => ?_)
    · intro y0 y1 y2 y3
      unfold wire_sign.l0
      repeat' first
      | (with_reducible exact ih0 _ _ _ _ _)
      | (with_reducible exact ih1 _ _ _ _)
      | (with_reducible exact ih2 _ _ _ _)
      | (with_reducible exact ih3 _ _ _ _ _ _)
      | (with_reducible exact ih4 _ _ _ _ _ _)
      | (with_reducible exact ih5 _ _ _ _ _ _)
      | (with_reducible exact ih6 _ _ _ _ _ _)
      | (with_reducible exact ih7 _ _ _ _ _ _)
      | (with_reducible exact LeO.refl _)
      | (with_reducible exact LeO.none _)
      | (with_reducible refine LeO.ite ?_ ?_)
      | (with_reducible refine LeO.bind ?_ (fun _ => ?_))
      | exact ih0 _ _ _ _ _
      | exact ih1 _ _ _ _
      | exact ih2 _ _ _ _
      | exact ih3 _ _ _ _ _ _
      | exact ih4 _ _ _ _ _ _
      | exact ih5 _ _ _ _ _ _
      | exact ih6 _ _ _ _ _ _
      | exact ih7 _ _ _ _ _ _
      | exact LeO.none _
      | refine LeO.ite ?_ ?_
      | refine LeO.bind ?_ (fun _ => ?_)
    · intro y0 y1 y2 y3 y4 y5
      unfold wire_sign.j0
      repeat' first
      | (with_reducible exact ih0 _ _ _ _ _)
      | (with_reducible exact ih1 _ _ _ _)
      | (with_reducible exact ih2 _ _ _ _)
      | (with_reducible exact ih3 _ _ _ _ _ _)
      | (with_reducible exact ih4 _ _ _ _ _ _)
      | (with_reducible exact ih5 _ _ _ _ _ _)
      | (with_reducible exact ih6 _ _ _ _ _ _)
      | (with_reducible exact ih7 _ _ _ _ _ _)
      | (with_reducible exact LeO.refl _)
      | (with_reducible exact LeO.none _)
      | (with_reducible refine LeO.ite ?_ ?_)
      | (with_reducible refine LeO.bind ?_ (fun _ => ?_))
      | exact ih0 _ _ _ _ _
      | exact ih1 _ _ _ _
      | exact ih2 _ _ _ _
      | exact ih3 _ _ _ _ _ _
      | exact ih4 _ _ _ _ _ _
      | exact ih5 _ _ _ _ _ _
      | exact ih6 _ _ _ _ _ _
      | exact ih7 _ _ _ _ _ _
      | exact LeO.none _
      | refine LeO.ite ?_ ?_
      | refine LeO.bind ?_ (fun _ => ?_)
    · intro y0 y1 y2 y3 y4 y5
      unfold wire_sign.j1
      repeat' first
      | (with_reducible exact ih0 _ _ _ _ _)
      | (with_reducible exact ih1 _ _ _ _)
      | (with_reducible exact ih2 _ _ _ _)
      | (with_reducible exact ih3 _ _ _ _ _ _)
      | (with_reducible exact ih4 _ _ _ _ _ _)
      | (with_reducible exact ih5 _ _ _ _ _ _)
      | (with_reducible exact ih6 _ _ _ _ _ _)
      | (with_reducible exact ih7 _ _ _ _ _ _)
      | (with_reducible exact LeO.refl _)
      | (with_reducible exact LeO.none _)
      | (with_reducible refine LeO.ite ?_ ?_)
      | (with_reducible refine LeO.bind ?_ (fun _ => ?_))
      | exact ih0 _ _ _ _ _
      | exact ih1 _ _ _ _
      | exact ih2 _ _ _ _
      | exact ih3 _ _ _ _ _ _
      | exact ih4 _ _ _ _ _ _
      | exact ih5 _ _ _ _ _ _
      | exact ih6 _ _ _ _ _ _
      | exact ih7 _ _ _ _ _ _
      | exact LeO.none _
      | refine LeO.ite ?_ ?_
      | refine LeO.bind ?_ (fun _ => ?_)
    · intro y0 y1 y2 y3 y4 y5
      unfold wire_sign.j2
      repeat' first
      | (with_reducible exact ih0 _ _ _ _ _)
      | (with_reducible exact ih1 _ _ _ _)
      | (with_reducible exact ih2 _ _ _ _)
      | (with_reducible exact ih3 _ _ _ _ _ _)
      | (with_reducible exact ih4 _ _ _ _ _ _)
      | (with_reducible exact ih5 _ _ _ _ _ _)
      | (with_reducible exact ih6 _ _ _ _ _ _)
      | (with_reducible exact ih7 _ _ _ _ _ _)
      | (with_reducible exact LeO.refl _)
      | (with_reducible exact LeO.none _)
      | (with_reducible refine LeO.ite ?_ ?_)
      | (with_reducible refine LeO.bind ?_ (fun _ => ?_))
      | exact ih0 _ _ _ _ _
      | exact ih1 _ _ _ _
      | exact ih2 _ _ _ _
      | exact ih3 _ _ _ _ _ _
      | exact ih4 _ _ _ _ _ _
      | exact ih5 _ _ _ _ _ _
      | exact ih6 _ _ _ _ _ _
      | exact ih7 _ _ _ _ _ _
      | exact LeO.none _
      | refine LeO.ite ?_ ?_
      | refine LeO.bind ?_ (fun _ => ?_)
    · intro y0 y1 y2 y3 y4 y5
      unfold wire_sign.j3
      repeat' first
      | (with_reducible exact ih0 _ _ _ _ _)
      | (with_reducible exact ih1 _ _ _ _)
      | (with_reducible exact ih2 _ _ _ _)
      | (with_reducible exact ih3 _ _ _ _ _ _)
      | (with_reducible exact ih4 _ _ _ _ _ _)
      | (with_reducible exact ih5 _ _ _ _ _ _)
      | (with_reducible exact ih6 _ _ _ _ _ _)
      | (with_reducible exact ih7 _ _ _ _ _ _)
      | (with_reducible exact LeO.refl _)
      | (with_reducible exact LeO.none _)
      | (with_reducible refine LeO.ite ?_ ?_)
      | (with_reducible refine LeO.bind ?_ (fun _ => ?_))
      | exact ih0 _ _ _ _ _
      | exact ih1 _ _ _ _
      | exact ih2 _ _ _ _
      | exact ih3 _ _ _ _ _ _
      | exact ih4 _ _ _ _ _ _
      | exact ih5 _ _ _ _ _ _
      | exact ih6 _ _ _ _ _ _
      | exact ih7 _ _ _ _ _ _
      | exact LeO.none _
      | refine LeO.ite ?_ ?_
      | refine LeO.bind ?_ (fun _ => ?_)
    · intro y0 y1 y2 y3 y4 y5
      unfold wire_sign.j4
      repeat' first
      | (with_reducible exact ih0 _ _ _ _ _)
      | (with_reducible exact ih1 _ _ _ _)
      | (with_reducible exact ih2 _ _ _ _)
      | (with_reducible exact ih3 _ _ _ _ _ _)
      | (with_reducible exact ih4 _ _ _ _ _ _)
      | (with_reducible exact ih5 _ _ _ _ _ _)
      | (with_reducible exact ih6 _ _ _ _ _ _)
      | (with_reducible exact ih7 _ _ _ _ _ _)
      | (with_reducible exact LeO.refl _)
      | (with_reducible exact LeO.none _)
      | (with_reducible refine LeO.ite ?_ ?_)
      | (with_reducible refine LeO.bind ?_ (fun _ => ?_))
      | exact ih0 _ _ _ _ _
      | exact ih1 _ _ _ _
      | exact ih2 _ _ _ _
      | exact ih3 _ _ _ _ _ _
      | exact ih4 _ _ _ _ _ _
      | exact ih5 _ _ _ _ _ _
      | exact ih6 _ _ _ _ _ _
      | exact ih7 _ _ _ _ _ _
      | exact LeO.none _
      | refine LeO.ite ?_ ?_
      | refine LeO.bind ?_ (fun _ => ?_)
theorem wire_sign.mono : ∀ a0 a1 k, LeO (wire_sign.f k a0 a1) (wire_sign.f (k + 1) a0 a1) := by
  intro a0 a1 k
  obtain ⟨ih0, ih1, ih2, ih3, ih4, ih5, ih6, ih7⟩ := wire_sign.mono_l k
  unfold wire_sign.f
  repeat' first
      | (with_reducible exact ih0 _ _ _ _ _)
      | (with_reducible exact ih1 _ _ _ _)
      | (with_reducible exact ih2 _ _ _ _)
      | (with_reducible exact ih3 _ _ _ _ _ _)
      | (with_reducible exact ih4 _ _ _ _ _ _)
      | (with_reducible exact ih5 _ _ _ _ _ _)
      | (with_reducible exact ih6 _ _ _ _ _ _)
      | (with_reducible exact ih7 _ _ _ _ _ _)
      | (with_reducible exact LeO.refl _)
      | (with_reducible exact LeO.none _)
      | (with_reducible refine LeO.ite ?_ ?_)
      | (with_reducible refine LeO.bind ?_ (fun _ => ?_))
      | exact ih0 _ _ _ _ _
      | exact ih1 _ _ _ _
      | exact ih2 _ _ _ _
      | exact ih3 _ _ _ _ _ _
      | exact ih4 _ _ _ _ _ _
      | exact ih5 _ _ _ _ _ _
      | exact ih6 _ _ _ _ _ _
      | exact ih7 _ _ _ _ _ _
      | exact LeO.none _
      | refine LeO.ite ?_ ?_
      | refine LeO.bind ?_ (fun _ => ?_)
set_option maxHeartbeats 8000000 in
set_option maxRecDepth 100000 in
theorem wire_sign.calls (k : Nat) (A0 : Option Addr) (c0 : Nat) (l0 : List Int) (a1 : Int) (r : Int) (w : World) (hr0 : Kd.C (Kd.int .u8) w A0 l0.length l0) (hc0 : l0.length ≤ c0) (h : wire_sign.f k l0 a1 = some r) :
    Calls Try.prog 59 #[.slice A0 l0.length c0, .int .i64 a1] w fun e w' => e = .returned (.int .i64 r) ∧ Drawn0 w w' := by
  have HR0 := Aside0.mk hr0
  have HC0 := Aside0.mk hc0
  clear hr0 hc0
  have H : (if 0 ≤ a1 then (if a1 < (l0.length : Int) then (if (rd l0 a1) < 128 then (some 1) else (if (rd l0 a1) ≥ 194 then (wire_sign.j0 k l0 a1 (rd l0 a1) 128 191 (decide ((rd l0 a1) ≤ 223))) else (wire_sign.j0 k l0 a1 (rd l0 a1) 128 191 false))) else (none)) else (none)) = some r := h
  clear h
  by_cases c3 : 0 ≤ a1
  · rw [if_pos c3] at H
    have c3b0 : decide (0 ≤ a1) = true := decide_eq_true c3
    clear c3
    by_cases c4 : a1 < (l0.length : Int)
    · rw [if_pos c4] at H
      have c4b0 : decide (a1 < (l0.length : Int)) = true := decide_eq_true c4
      clear c4
      have HC5 := Aside0.mk H
      clear H
      have p113 : 0 ≤ (a1 : Int) := of_decide_eq_true (by first | (with_reducible assumption) | assumption)
      have q113 : a1 < (l0.length : Int) := of_decide_eq_true (by first | (with_reducible assumption) | assumption)
      obtain ⟨ad113, e113, hx113_0⟩ := Kd.at_int HR0.out a1 p113 q113
      cases e113
      replace p113 := eq_true p113
      replace q113 := eq_true q113
      go_enter Try.func59, Try.ntmps59
      go_upto_block 0 with (fail)
      go_cut [6, 7, 8] (fun v6 v7 v8 wc => ∃ (kq : Nat) (x6_4 : Int) (x7_4 : Int) (x8_4 : Int), v6 = .int .i64 x6_4 ∧ v7 = .int .u8 x7_4 ∧ v8 = .int .u8 x8_4 ∧ Aside0 (wire_sign.j5 kq l0 a1 x6_4 x7_4 x8_4 = some r) ∧ Aside0 (kq ≤ k) ∧ Drawn0 w wc)
      case first =>
        have H := HC5.out
        clear HC5
        by_cases c6 : (rd l0 a1) < 128
        · rw [if_pos c6] at H
          have c6b0 : decide ((rd l0 a1) < 128) = true := decide_eq_true c6
          clear c6
          (first | rw [c6b0] | (simp only [i64_w, i32_w]; rw [c6b0]) | skip)
          obtain rfl := Option.some.inj H
          go_wp2
          go_ret
          exact ⟨by first | rfl | (simp; done) | (simp [*]; done), by repeat (first | exact Drawn0.refl _ | apply Drawn0.step)⟩
        · rw [if_neg c6] at H
          have c6b0 : decide ((rd l0 a1) < 128) = false := decide_eq_false c6
          clear c6
          (first | rw [c6b0] | (simp only [i64_w, i32_w]; rw [c6b0]) | skip)
          have HC7 := Aside0.mk H
          clear H
          go_upto_region 7 with (fail)
          go_cut [18] (fun v18 wc => ∃ (kq : Nat) (x18_6 : Bool), v18 = .bool x18_6 ∧ Aside0 (wire_sign.j0 kq l0 a1 (rd l0 a1) 128 191 x18_6 = some r) ∧ Aside0 (kq ≤ k) ∧ Drawn0 w wc)
          case first =>
            have H := HC7.out
            clear HC7
            by_cases c8 : (rd l0 a1) ≥ 194
            · rw [if_pos c8] at H
              have c8b0 : decide (194 ≤ (rd l0 a1)) = true := decide_eq_true c8
              clear c8
              (first | rw [c8b0] | (simp only [i64_w, i32_w]; rw [c8b0]) | skip)
              have H' := Aside0.mk H
              clear H
              go_wp2
              go_meet
              case rel => exact ⟨_, (decide ((rd l0 a1) ≤ 223)), (by first | rfl | (simp; done) | (simp [*]; done)), H', ⟨by first | omega | exact Nat.le_refl _⟩, by repeat (first | exact Drawn0.refl _ | apply Drawn0.step)⟩
            · rw [if_neg c8] at H
              have c8b0 : decide (194 ≤ (rd l0 a1)) = false := decide_eq_false c8
              clear c8
              (first | rw [c8b0] | (simp only [i64_w, i32_w]; rw [c8b0]) | skip)
              have H' := Aside0.mk H
              clear H
              go_wp2
              go_meet
              case rel => exact ⟨_, (false), (by first | rfl | (simp; done) | (simp [*]; done)), H', ⟨by first | omega | exact Nat.le_refl _⟩, by repeat (first | exact Drawn0.refl _ | apply Drawn0.step)⟩
          case rest =>
            clear HC7
            try clear p1
            try clear q1
            try clear hx1
            try clear p2
            try clear c3
            try clear c3b0
            try clear c4
            try clear c4b0
            try clear c5
            try clear c6
            try clear c6b0
            try clear c8
            try clear c8b0
            try clear hx113_0
            try clear p113
            try clear q113
            obtain ⟨kq, x18_6, rfl, HA, HJ6, ⟨mc6, rfl⟩⟩ := hcut
            cases kq with
            | zero => exact absurd HA.out (by simp [wire_sign.j0])
            | succ kj6 =>
              have H := HA.out
              clear HA
              simp only [wire_sign.j0] at H
              by_cases c9 : x18_6 = true
              · subst c9
                have H1 : (wire_sign.j5 kj6 l0 a1 2 128 191) = some r := by rw [if_pos rfl] at H; exact H
                clear H
                have H := H1
                clear H1
                have H' := Aside0.mk H
                clear H
                go_wp2
                go_meet
                case rel => exact ⟨_, (2), (128), (191), (by first | rfl | (simp; done) | (simp [*]; done)), (by first | rfl | (simp; done) | (simp [*]; done)), (by first | rfl | (simp; done) | (simp [*]; done)), H', ⟨by have := HJ6.out; first | omega | exact Nat.le_refl _⟩, by repeat (first | exact Drawn0.refl _ | apply Drawn0.step)⟩
              · replace c9 := Bool.eq_false_iff.mpr c9
                subst c9
                have H1 : (if (rd l0 a1) ≥ 224 then (wire_sign.j1 kj6 l0 a1 (rd l0 a1) 128 191 (decide ((rd l0 a1) ≤ 239))) else (wire_sign.j1 kj6 l0 a1 (rd l0 a1) 128 191 false)) = some r := by rw [if_neg (show ¬ (false = true) by decide)] at H; exact H
                clear H
                have H := H1
                clear H1
                have HC10 := Aside0.mk H
                clear H
                go_upto_region 9 with (fail)
                go_cut [25] (fun v25 wc => ∃ (kq : Nat) (x25_9 : Bool), v25 = .bool x25_9 ∧ Aside0 (wire_sign.j1 kq l0 a1 (rd l0 a1) 128 191 x25_9 = some r) ∧ Aside0 (kq ≤ kj6) ∧ Drawn0 w wc)
                case first =>
                  have H := HC10.out
                  clear HC10
                  by_cases c11 : (rd l0 a1) ≥ 224
                  · rw [if_pos c11] at H
                    have c11b0 : decide (224 ≤ (rd l0 a1)) = true := decide_eq_true c11
                    clear c11
                    (first | rw [c11b0] | (simp only [i64_w, i32_w]; rw [c11b0]) | skip)
                    have H' := Aside0.mk H
                    clear H
                    go_wp2
                    go_meet
                    case rel => exact ⟨_, (decide ((rd l0 a1) ≤ 239)), (by first | rfl | (simp; done) | (simp [*]; done)), H', ⟨by have := HJ6.out; first | omega | exact Nat.le_refl _⟩, by repeat (first | exact Drawn0.refl _ | apply Drawn0.step)⟩
                  · rw [if_neg c11] at H
                    have c11b0 : decide (224 ≤ (rd l0 a1)) = false := decide_eq_false c11
                    clear c11
                    (first | rw [c11b0] | (simp only [i64_w, i32_w]; rw [c11b0]) | skip)
                    have H' := Aside0.mk H
                    clear H
                    go_wp2
                    go_meet
                    case rel => exact ⟨_, (false), (by first | rfl | (simp; done) | (simp [*]; done)), H', ⟨by have := HJ6.out; first | omega | exact Nat.le_refl _⟩, by repeat (first | exact Drawn0.refl _ | apply Drawn0.step)⟩
                case rest =>
                  clear HC10
                  try clear c1
                  try clear p1
                  try clear q1
                  try clear hx1
                  try clear p2
                  try clear c3
                  try clear c3b0
                  try clear c4
                  try clear c4b0
                  try clear c5
                  try clear c6
                  try clear c6b0
                  try clear c8
                  try clear c8b0
                  try clear c9
                  try clear c11
                  try clear c11b0
                  try clear p11
                  try clear q11
                  try clear hx11
                  try clear hx113_0
                  try clear p1
                  try clear p113
                  try clear p2
                  try clear q1
                  try clear q113
                  obtain ⟨kq, x25_9, rfl, HA, HJ9, ⟨mc9, rfl⟩⟩ := hcut
                  cases kq with
                  | zero => exact absurd HA.out (by simp [wire_sign.j1])
                  | succ kj9 =>
                    have H := HA.out
                    clear HA
                    simp only [wire_sign.j1] at H
                    by_cases c12 : x25_9 = true
                    · subst c12
                      have H1 : (if (rd l0 a1) = 224 then (wire_sign.j2 kj9 l0 a1 (rd l0 a1) 3 160 191) else (wire_sign.j2 kj9 l0 a1 (rd l0 a1) 3 128 191)) = some r := by rw [if_pos rfl] at H; exact H
                      clear H
                      have H := H1
                      clear H1
                      have HC13 := Aside0.mk H
                      clear H
                      go_upto_if 33 with (fail)
                      go_cut [7] (fun v7 wc => ∃ (kq : Nat) (x7_12 : Int), v7 = .int .u8 x7_12 ∧ Aside0 (wire_sign.j2 kq l0 a1 (rd l0 a1) 3 x7_12 191 = some r) ∧ Aside0 (kq ≤ kj9) ∧ Drawn0 w wc)
                      case first =>
                        have H := HC13.out
                        clear HC13
                        by_cases c14 : (rd l0 a1) = 224
                        · rw [if_pos c14] at H
                          have c14b0 : ((rd l0 a1) == 224) = true := beq_iff_eq.mpr c14
                          have c14b1 : ((rd l0 a1) != 224) = false := bne_eq_false_iff_eq.mpr c14
                          clear c14
                          (first | rw [c14b0] | (simp only [i64_w, i32_w]; rw [c14b0]) | skip)
                          have H' := Aside0.mk H
                          clear H
                          go_wp2
                          go_meet
                          case rel => exact ⟨_, (160), (by first | rfl | (simp; done) | (simp [*]; done)), H', ⟨by have := HJ6.out; have := HJ9.out; first | omega | exact Nat.le_refl _⟩, by repeat (first | exact Drawn0.refl _ | apply Drawn0.step)⟩
                        · rw [if_neg c14] at H
                          have c14b0 : ((rd l0 a1) == 224) = false := beq_eq_false_iff_ne.mpr c14
                          have c14b1 : ((rd l0 a1) != 224) = true := bne_iff_ne.mpr c14
                          (first | rw [c14b0] | (simp only [i64_w, i32_w]; rw [c14b0]) | skip)
                          have H' := Aside0.mk H
                          clear H
                          go_wp2
                          go_meet
                          case rel => exact ⟨_, (128), (by first | rfl | (simp; done) | (simp [*]; done)), H', ⟨by have := HJ6.out; have := HJ9.out; first | omega | exact Nat.le_refl _⟩, by repeat (first | exact Drawn0.refl _ | apply Drawn0.step)⟩
                      case rest =>
                        clear HC13
                        try clear c1
                        try clear p1
                        try clear q1
                        try clear hx1
                        try clear p2
                        try clear c3
                        try clear c3b0
                        try clear c4
                        try clear c4b0
                        try clear c5
                        try clear c6
                        try clear c6b0
                        try clear c8
                        try clear c8b0
                        try clear c9
                        try clear c11
                        try clear c11b0
                        try clear p11
                        try clear q11
                        try clear hx11
                        try clear c12
                        try clear c14
                        try clear c14b0
                        try clear c14b1
                        try clear hx113_0
                        try clear p1
                        try clear p11
                        try clear p113
                        try clear p2
                        try clear q1
                        try clear q11
                        try clear q113
                        obtain ⟨kq, x7_12, rfl, HA, HJ12, ⟨mc12, rfl⟩⟩ := hcut
                        cases kq with
                        | zero => exact absurd HA.out (by simp [wire_sign.j2])
                        | succ kj12 =>
                          have H := HA.out
                          clear HA
                          simp only [wire_sign.j2] at H
                          by_cases c15 : (rd l0 a1) = 237
                          · rw [if_pos c15] at H
                            have c15b0 : ((rd l0 a1) == 237) = true := beq_iff_eq.mpr c15
                            have c15b1 : ((rd l0 a1) != 237) = false := bne_eq_false_iff_eq.mpr c15
                            clear c15
                            have H' := Aside0.mk H
                            clear H
                            go_wp2
                            go_meet
                            case rel => exact ⟨_, (3), (x7_12), (159), (by first | rfl | (simp; done) | (simp [*]; done)), (by first | rfl | (simp; done) | (simp [*]; done)), (by first | rfl | (simp; done) | (simp [*]; done)), H', ⟨by have := HJ6.out; have := HJ9.out; have := HJ12.out; first | omega | exact Nat.le_refl _⟩, by repeat (first | exact Drawn0.refl _ | apply Drawn0.step)⟩
                          · rw [if_neg c15] at H
                            have c15b0 : ((rd l0 a1) == 237) = false := beq_eq_false_iff_ne.mpr c15
                            have c15b1 : ((rd l0 a1) != 237) = true := bne_iff_ne.mpr c15
                            have H' := Aside0.mk H
                            clear H
                            go_wp2
                            go_meet
                            case rel => exact ⟨_, (3), (x7_12), (191), (by first | rfl | (simp; done) | (simp [*]; done)), (by first | rfl | (simp; done) | (simp [*]; done)), (by first | rfl | (simp; done) | (simp [*]; done)), H', ⟨by have := HJ6.out; have := HJ9.out; have := HJ12.out; first | omega | exact Nat.le_refl _⟩, by repeat (first | exact Drawn0.refl _ | apply Drawn0.step)⟩
                    · replace c12 := Bool.eq_false_iff.mpr c12
                      subst c12
                      have H1 : (if (rd l0 a1) ≥ 240 then (wire_sign.j3 kj9 l0 a1 (rd l0 a1) 128 191 (decide ((rd l0 a1) ≤ 244))) else (wire_sign.j3 kj9 l0 a1 (rd l0 a1) 128 191 false)) = some r := by rw [if_neg (show ¬ (false = true) by decide)] at H; exact H
                      clear H
                      have H := H1
                      clear H1
                      have HC16 := Aside0.mk H
                      clear H
                      go_upto_region 15 with (fail)
                      go_cut [36] (fun v36 wc => ∃ (kq : Nat) (x36_15 : Bool), v36 = .bool x36_15 ∧ Aside0 (wire_sign.j3 kq l0 a1 (rd l0 a1) 128 191 x36_15 = some r) ∧ Aside0 (kq ≤ kj9) ∧ Drawn0 w wc)
                      case first =>
                        have H := HC16.out
                        clear HC16
                        by_cases c17 : (rd l0 a1) ≥ 240
                        · rw [if_pos c17] at H
                          have c17b0 : decide (240 ≤ (rd l0 a1)) = true := decide_eq_true c17
                          clear c17
                          (first | rw [c17b0] | (simp only [i64_w, i32_w]; rw [c17b0]) | skip)
                          have H' := Aside0.mk H
                          clear H
                          go_wp2
                          go_meet
                          case rel => exact ⟨_, (decide ((rd l0 a1) ≤ 244)), (by first | rfl | (simp; done) | (simp [*]; done)), H', ⟨by have := HJ6.out; have := HJ9.out; first | omega | exact Nat.le_refl _⟩, by repeat (first | exact Drawn0.refl _ | apply Drawn0.step)⟩
                        · rw [if_neg c17] at H
                          have c17b0 : decide (240 ≤ (rd l0 a1)) = false := decide_eq_false c17
                          clear c17
                          (first | rw [c17b0] | (simp only [i64_w, i32_w]; rw [c17b0]) | skip)
                          have H' := Aside0.mk H
                          clear H
                          go_wp2
                          go_meet
                          case rel => exact ⟨_, (false), (by first | rfl | (simp; done) | (simp [*]; done)), H', ⟨by have := HJ6.out; have := HJ9.out; first | omega | exact Nat.le_refl _⟩, by repeat (first | exact Drawn0.refl _ | apply Drawn0.step)⟩
                      case rest =>
                        clear HC16
                        try clear c1
                        try clear p1
                        try clear q1
                        try clear hx1
                        try clear p2
                        try clear c3
                        try clear c3b0
                        try clear c4
                        try clear c4b0
                        try clear c5
                        try clear c6
                        try clear c6b0
                        try clear c8
                        try clear c8b0
                        try clear c9
                        try clear c11
                        try clear c11b0
                        try clear p11
                        try clear q11
                        try clear hx11
                        try clear c12
                        try clear c14
                        try clear c14b0
                        try clear c14b1
                        try clear c15
                        try clear c15b0
                        try clear c15b1
                        try clear c17
                        try clear c17b0
                        try clear hx113_0
                        try clear p1
                        try clear p11
                        try clear p113
                        try clear p2
                        try clear q1
                        try clear q11
                        try clear q113
                        obtain ⟨kq, x36_15, rfl, HA, HJ15, ⟨mc15, rfl⟩⟩ := hcut
                        cases kq with
                        | zero => exact absurd HA.out (by simp [wire_sign.j3])
                        | succ kj15 =>
                          have H := HA.out
                          clear HA
                          simp only [wire_sign.j3] at H
                          by_cases c18 : x36_15 = true
                          · subst c18
                            have H1 : (if (rd l0 a1) = 240 then (wire_sign.j4 kj15 l0 a1 (rd l0 a1) 4 144 191) else (wire_sign.j4 kj15 l0 a1 (rd l0 a1) 4 128 191)) = some r := by rw [if_pos rfl] at H; exact H
                            clear H
                            have H := H1
                            clear H1
                            have HC19 := Aside0.mk H
                            clear H
                            go_upto_if 44 with (fail)
                            go_cut [7] (fun v7 wc => ∃ (kq : Nat) (x7_18 : Int), v7 = .int .u8 x7_18 ∧ Aside0 (wire_sign.j4 kq l0 a1 (rd l0 a1) 4 x7_18 191 = some r) ∧ Aside0 (kq ≤ kj15) ∧ Drawn0 w wc)
                            case first =>
                              have H := HC19.out
                              clear HC19
                              by_cases c20 : (rd l0 a1) = 240
                              · rw [if_pos c20] at H
                                have c20b0 : ((rd l0 a1) == 240) = true := beq_iff_eq.mpr c20
                                have c20b1 : ((rd l0 a1) != 240) = false := bne_eq_false_iff_eq.mpr c20
                                clear c20
                                (first | rw [c20b0] | (simp only [i64_w, i32_w]; rw [c20b0]) | skip)
                                have H' := Aside0.mk H
                                clear H
                                go_wp2
                                go_meet
                                case rel => exact ⟨_, (144), (by first | rfl | (simp; done) | (simp [*]; done)), H', ⟨by have := HJ6.out; have := HJ9.out; have := HJ15.out; first | omega | exact Nat.le_refl _⟩, by repeat (first | exact Drawn0.refl _ | apply Drawn0.step)⟩
                              · rw [if_neg c20] at H
                                have c20b0 : ((rd l0 a1) == 240) = false := beq_eq_false_iff_ne.mpr c20
                                have c20b1 : ((rd l0 a1) != 240) = true := bne_iff_ne.mpr c20
                                (first | rw [c20b0] | (simp only [i64_w, i32_w]; rw [c20b0]) | skip)
                                have H' := Aside0.mk H
                                clear H
                                go_wp2
                                go_meet
                                case rel => exact ⟨_, (128), (by first | rfl | (simp; done) | (simp [*]; done)), H', ⟨by have := HJ6.out; have := HJ9.out; have := HJ15.out; first | omega | exact Nat.le_refl _⟩, by repeat (first | exact Drawn0.refl _ | apply Drawn0.step)⟩
                            case rest =>
                              clear HC19
                              try clear c1
                              try clear p1
                              try clear q1
                              try clear hx1
                              try clear c2
                              try clear p2
                              try clear c3
                              try clear c3b0
                              try clear c4
                              try clear c4b0
                              try clear c5
                              try clear c6
                              try clear c6b0
                              try clear c8
                              try clear c8b0
                              try clear c9
                              try clear c11
                              try clear c11b0
                              try clear p11
                              try clear q11
                              try clear hx11
                              try clear c12
                              try clear c14
                              try clear c14b0
                              try clear c14b1
                              try clear c15
                              try clear c15b0
                              try clear c15b1
                              try clear c17
                              try clear c17b0
                              try clear c18
                              try clear c20
                              try clear c20b0
                              try clear c20b1
                              try clear hx113_0
                              try clear p1
                              try clear p11
                              try clear p113
                              try clear p2
                              try clear q1
                              try clear q11
                              try clear q113
                              obtain ⟨kq, x7_18, rfl, HA, HJ18, ⟨mc18, rfl⟩⟩ := hcut
                              cases kq with
                              | zero => exact absurd HA.out (by simp [wire_sign.j4])
                              | succ kj18 =>
                                have H := HA.out
                                clear HA
                                simp only [wire_sign.j4] at H
                                by_cases c21 : (rd l0 a1) = 244
                                · rw [if_pos c21] at H
                                  have c21b0 : ((rd l0 a1) == 244) = true := beq_iff_eq.mpr c21
                                  have c21b1 : ((rd l0 a1) != 244) = false := bne_eq_false_iff_eq.mpr c21
                                  clear c21
                                  have H' := Aside0.mk H
                                  clear H
                                  go_wp2
                                  go_meet
                                  case rel => exact ⟨_, (4), (x7_18), (143), (by first | rfl | (simp; done) | (simp [*]; done)), (by first | rfl | (simp; done) | (simp [*]; done)), (by first | rfl | (simp; done) | (simp [*]; done)), H', ⟨by have := HJ6.out; have := HJ9.out; have := HJ15.out; have := HJ18.out; first | omega | exact Nat.le_refl _⟩, by repeat (first | exact Drawn0.refl _ | apply Drawn0.step)⟩
                                · rw [if_neg c21] at H
                                  have c21b0 : ((rd l0 a1) == 244) = false := beq_eq_false_iff_ne.mpr c21
                                  have c21b1 : ((rd l0 a1) != 244) = true := bne_iff_ne.mpr c21
                                  have H' := Aside0.mk H
                                  clear H
                                  go_wp2
                                  go_meet
                                  case rel => exact ⟨_, (4), (x7_18), (191), (by first | rfl | (simp; done) | (simp [*]; done)), (by first | rfl | (simp; done) | (simp [*]; done)), (by first | rfl | (simp; done) | (simp [*]; done)), H', ⟨by have := HJ6.out; have := HJ9.out; have := HJ15.out; have := HJ18.out; first | omega | exact Nat.le_refl _⟩, by repeat (first | exact Drawn0.refl _ | apply Drawn0.step)⟩
                          · replace c18 := Bool.eq_false_iff.mpr c18
                            subst c18
                            have H1 : (some 0) = some r := by rw [if_neg (show ¬ (false = true) by decide)] at H; exact H
                            clear H
                            have H := H1
                            clear H1
                            obtain rfl := Option.some.inj H
                            go_wp2
                            go_ret
                            exact ⟨by first | rfl | (simp; done) | (simp [*]; done), by repeat (first | exact Drawn0.refl _ | apply Drawn0.step)⟩
      case rest =>
        clear HC5
        try clear c1
        try clear p1
        try clear q1
        try clear hx1
        try clear c2
        try clear p2
        try clear c3
        try clear c3b0
        try clear c4
        try clear c4b0
        try clear c5
        try clear c6
        try clear c6b0
        try clear c8
        try clear c8b0
        try clear c9
        try clear c11
        try clear c11b0
        try clear p11
        try clear q11
        try clear hx11
        try clear c12
        try clear c14
        try clear c14b0
        try clear c14b1
        try clear c15
        try clear c15b0
        try clear c15b1
        try clear c17
        try clear c17b0
        try clear c18
        try clear c20
        try clear c20b0
        try clear c20b1
        try clear c21
        try clear c21b0
        try clear c21b1
        try clear hx113_0
        try clear p1
        try clear p11
        try clear p113
        try clear p2
        try clear q1
        try clear q11
        try clear q113
        obtain ⟨kq, x6_4, x7_4, x8_4, rfl, rfl, rfl, HA, HJ4, ⟨mc4, rfl⟩⟩ := hcut
        cases kq with
        | zero => exact absurd HA.out (by simp [wire_sign.j5])
        | succ kj4 =>
          have H := HA.out
          clear HA
          simp only [wire_sign.j5] at H
          have HC22 := Aside0.mk H
          clear H
          go_upto_region 21 with (fail)
          go_cut [70] (fun v70 wc => ∃ (kq : Nat) (x70_21 : Bool), v70 = .bool x70_21 ∧ Aside0 (wire_sign.j6 kq l0 a1 x6_4 x70_21 = some r) ∧ Aside0 (kq ≤ kj4) ∧ Drawn0 w wc)
          case first =>
            have H := HC22.out
            clear HC22
            by_cases c23 : (wrap64 ((l0.length : Int) - a1)) < x6_4
            · rw [if_pos c23] at H
              have c23b0 : decide ((wrap64 ((l0.length : Int) - a1)) < x6_4) = true := decide_eq_true c23
              clear c23
              (first | rw [c23b0] | (simp only [i64_w, i32_w]; rw [c23b0]) | skip)
              have H' := Aside0.mk H
              clear H
              go_wp2
              go_meet
              case rel => exact ⟨_, (true), (by first | rfl | (simp; done) | (simp [*]; done)), H', ⟨by have := HJ4.out; first | omega | exact Nat.le_refl _⟩, by repeat (first | exact Drawn0.refl _ | apply Drawn0.step)⟩
            · rw [if_neg c23] at H
              have c23b0 : decide ((wrap64 ((l0.length : Int) - a1)) < x6_4) = false := decide_eq_false c23
              clear c23
              (first | rw [c23b0] | (simp only [i64_w, i32_w]; rw [c23b0]) | skip)
              obtain ⟨ji24, hji24⟩ : ∃ j_ : Int, (wrap64 (a1 + 1)) = j_ := ⟨_, rfl⟩
              replace H : (if 0 ≤ (ji24) then (if (ji24) < (l0.length : Int) then (if (rd l0 (ji24)) < x7_4 then (wire_sign.j6 kj4 l0 a1 x6_4 true) else (wire_sign.j6 kj4 l0 a1 x6_4 (decide ((rd l0 (ji24)) > x8_4)))) else (none)) else (none)) = some r := by first | (rw [hji24] at H; exact H) | (simp only [hji24] at H ⊢; exact H)
              have hji24w : (IntKind.i64.wrap (a1 + 1)) = ji24 := (i64_w _).trans hji24
              by_cases c25 : 0 ≤ (ji24)
              · rw [if_pos c25] at H
                have c25b0 : decide (0 ≤ (ji24)) = true := decide_eq_true c25
                clear c25
                by_cases c26 : (ji24) < (l0.length : Int)
                · rw [if_pos c26] at H
                  have c26b0 : decide ((ji24) < (l0.length : Int)) = true := decide_eq_true c26
                  clear c26
                  by_cases c27 : (rd l0 (ji24)) < x7_4
                  · rw [if_pos c27] at H
                    have c27b0 : decide ((rd l0 (ji24)) < x7_4) = true := decide_eq_true c27
                    clear c27
                    have H' := Aside0.mk H
                    clear H
                    have p114 : 0 ≤ ((ji24) : Int) := of_decide_eq_true (by first | (with_reducible assumption) | assumption)
                    have q114 : (ji24) < (l0.length : Int) := of_decide_eq_true (by first | (with_reducible assumption) | assumption)
                    obtain ⟨ad114, e114, hx114_0⟩ := Kd.at_int HR0.out (ji24) p114 q114
                    obtain rfl : ad113 = ad114 := (by injection e114)
                    replace p114 := eq_true p114
                    replace q114 := eq_true q114
                    go_wp2
                    go_meet
                    case rel => exact ⟨_, (true), (by first | rfl | (simp; done) | (simp [*]; done)), H', ⟨by have := HJ4.out; first | omega | exact Nat.le_refl _⟩, by repeat (first | exact Drawn0.refl _ | apply Drawn0.step)⟩
                  · rw [if_neg c27] at H
                    have c27b0 : decide ((rd l0 (ji24)) < x7_4) = false := decide_eq_false c27
                    clear c27
                    have H' := Aside0.mk H
                    clear H
                    have p114 : 0 ≤ ((ji24) : Int) := of_decide_eq_true (by first | (with_reducible assumption) | assumption)
                    have q114 : (ji24) < (l0.length : Int) := of_decide_eq_true (by first | (with_reducible assumption) | assumption)
                    obtain ⟨ad114, e114, hx114_0⟩ := Kd.at_int HR0.out (ji24) p114 q114
                    obtain rfl : ad113 = ad114 := (by injection e114)
                    replace p114 := eq_true p114
                    replace q114 := eq_true q114
                    have p115 : 0 ≤ ((ji24) : Int) := of_decide_eq_true (by first | (with_reducible assumption) | assumption)
                    have q115 : (ji24) < (l0.length : Int) := of_decide_eq_true (by first | (with_reducible assumption) | assumption)
                    obtain ⟨ad115, e115, hx115_0⟩ := Kd.at_int HR0.out (ji24) p115 q115
                    obtain rfl : ad113 = ad115 := (by injection e115)
                    replace p115 := eq_true p115
                    replace q115 := eq_true q115
                    go_wp2
                    go_meet
                    case rel => exact ⟨_, (decide ((rd l0 (ji24)) > x8_4)), (by first | rfl | (simp; done) | (simp only [← hji24] <;> (first | rfl | simp)) | (simp [*]; done)), H', ⟨by have := HJ4.out; first | omega | exact Nat.le_refl _⟩, by repeat (first | exact Drawn0.refl _ | apply Drawn0.step)⟩
                · rw [if_neg c26] at H
                  exact absurd H (by simp)
              · rw [if_neg c25] at H
                exact absurd H (by simp)
          case rest =>
            clear HC22
            try clear c1
            try clear p1
            try clear q1
            try clear hx1
            try clear c2
            try clear p2
            try clear c3
            try clear c3b0
            try clear c4
            try clear c4b0
            try clear c5
            try clear c6
            try clear c6b0
            try clear p6
            try clear c8
            try clear c8b0
            try clear c9
            try clear c11
            try clear c11b0
            try clear p11
            try clear q11
            try clear hx11
            try clear c12
            try clear c14
            try clear c14b0
            try clear c14b1
            try clear c15
            try clear c15b0
            try clear c15b1
            try clear c17
            try clear c17b0
            try clear c18
            try clear c20
            try clear c20b0
            try clear c20b1
            try clear c21
            try clear c21b0
            try clear c21b1
            try clear c23
            try clear c23b0
            try clear c25
            try clear c25b0
            try clear c26
            try clear c26b0
            try clear c27
            try clear c27b0
            try clear hx113_0
            try clear hx114_0
            try clear hx115_0
            try clear p1
            try clear p11
            try clear p113
            try clear p114
            try clear p115
            try clear p2
            try clear q1
            try clear q11
            try clear q113
            try clear q114
            try clear q115
            obtain ⟨kq, x70_21, rfl, HA, HJ21, ⟨mc21, rfl⟩⟩ := hcut
            cases kq with
            | zero => exact absurd HA.out (by simp [wire_sign.j6])
            | succ kj21 =>
              have H := HA.out
              clear HA
              simp only [wire_sign.j6] at H
              by_cases c28 : x70_21 = true
              · subst c28
                have H1 : (some 0) = some r := by rw [if_pos rfl] at H; exact H
                clear H
                have H := H1
                clear H1
                obtain rfl := Option.some.inj H
                go_wp2
                go_ret
                exact ⟨by first | rfl | (simp; done) | (simp [*]; done), by repeat (first | exact Drawn0.refl _ | apply Drawn0.step)⟩
              · replace c28 := Bool.eq_false_iff.mpr c28
                subst c28
                have H1 : (if 0 ≤ (wrap64 (a1 + 2)) then (if (wrap64 (a1 + 2)) ≤ (wrap64 (a1 + x6_4)) then (if (wrap64 (a1 + x6_4)) ≤ (l0.length : Int) then (wire_sign.l0 kj21 x6_4 ((l0.take ((wrap64 (a1 + x6_4)) : Int).toNat).drop ((wrap64 (a1 + 2)) : Int).toNat) (((l0.take ((wrap64 (a1 + x6_4)) : Int).toNat).drop ((wrap64 (a1 + 2)) : Int).toNat).length : Int) 0) else (none)) else (none)) else (none)) = some r := by rw [if_neg (show ¬ (false = true) by decide)] at H; exact H
                clear H
                have H := H1
                clear H1
                obtain ⟨ji29, hji29⟩ : ∃ j_ : Int, (wrap64 (a1 + 2)) = j_ := ⟨_, rfl⟩
                replace H : (if 0 ≤ (ji29) then (if (ji29) ≤ (wrap64 (a1 + x6_4)) then (if (wrap64 (a1 + x6_4)) ≤ (l0.length : Int) then (wire_sign.l0 kj21 x6_4 ((l0.take ((wrap64 (a1 + x6_4)) : Int).toNat).drop ((ji29) : Int).toNat) (((l0.take ((wrap64 (a1 + x6_4)) : Int).toNat).drop ((ji29) : Int).toNat).length : Int) 0) else (none)) else (none)) else (none)) = some r := by first | (rw [hji29] at H; exact H) | (simp only [hji29] at H ⊢; exact H)
                have hji29w : (IntKind.i64.wrap (a1 + 2)) = ji29 := (i64_w _).trans hji29
                by_cases c30 : 0 ≤ (ji29)
                · rw [if_pos c30] at H
                  have c30b0 := eq_true c30
                  have c30b1 : decide (0 ≤ (ji29)) = true := decide_eq_true c30
                  clear c30
                  by_cases c31 : (ji29) ≤ (wrap64 (a1 + x6_4))
                  · rw [if_pos c31] at H
                    have c31b0 := eq_true c31
                    have c31b1 : decide ((ji29) ≤ (wrap64 (a1 + x6_4))) = true := decide_eq_true c31
                    by_cases c32 : (wrap64 (a1 + x6_4)) ≤ (l0.length : Int)
                    · rw [if_pos c32] at H
                      have c32b0 := eq_true c32
                      have c32b1 : decide ((wrap64 (a1 + x6_4)) ≤ (l0.length : Int)) = true := decide_eq_true c32
                      have H' := Aside0.mk H
                      clear H
                      obtain ⟨i033, hi033, _, hsz33, _⟩ := info_parts info5
                      obtain ⟨A33, hcut33, hA33, hC33⟩ := print_mid_of (P := Try.prog) (Value.int .u8) 0 37 5 .i64 .i64 Try.underlying37 hi033 hsz33 (some ad113) c0 l0 (ji29) (wrap64 (a1 + x6_4)) (of_decide_eq_true (by first | (with_reducible assumption) | assumption)) (by first | omega | exact of_decide_eq_true (by first | (with_reducible assumption) | assumption)) (of_decide_eq_true (by first | (with_reducible assumption) | assumption)) HC0.out
                      have HR116 := Aside0.mk (Kd.C_of_reads (h1 := fun _ => rfl) (hA33 _ (Kd.reads_of_C HR0.out)))
                      have HC116 := Aside0.mk hC33
                      clear hA33 hC33 hi033 hsz33
                      have SLM33 : Aside0 (((l0.take ((wrap64 (a1 + x6_4)) : Int).toNat).drop ((ji29) : Int).toNat).length = ((wrap64 (a1 + x6_4)).toNat - (ji29).toNat)) := ⟨(by rw [List.length_drop, List.length_take]; have h_ : ((wrap64 (a1 + x6_4)) : Int) ≤ (l0.length : Int) := of_decide_eq_true (by first | (with_reducible assumption) | assumption); omega)⟩
                      go_wp2
                      go_loopg [79] kj21 (fun kq v79 w' => ∃ (x79_3 : Int), v79 = .int .i64 x79_3 ∧ Aside0 (wire_sign.l0 kq x6_4 ((l0.take ((wrap64 (a1 + x6_4)) : Int).toNat).drop ((ji29) : Int).toNat) (((l0.take ((wrap64 (a1 + x6_4)) : Int).toNat).drop ((ji29) : Int).toNat).length : Int) x79_3 = some r) ∧ Aside0 (kq ≤ kj21) ∧ Drawn0 w w')
                      case atStart => exact ⟨(0), (by first | rfl | (simp; done) | (simp [*]; done)), H', ⟨Nat.le_refl _⟩, by repeat (first | exact Drawn0.refl _ | apply Drawn0.step)⟩
                      case round =>
                        clear H'
                        try clear c1
                        try clear p1
                        try clear q1
                        try clear hx1
                        try clear c2
                        try clear p2
                        try clear c3
                        try clear c3b0
                        try clear c4
                        try clear c4b0
                        try clear c5
                        try clear c6
                        try clear c6b0
                        try clear p6
                        try clear c8
                        try clear c8b0
                        try clear c9
                        try clear c11
                        try clear c11b0
                        try clear p11
                        try clear q11
                        try clear hx11
                        try clear c12
                        try clear c14
                        try clear c14b0
                        try clear c14b1
                        try clear c15
                        try clear c15b0
                        try clear c15b1
                        try clear c17
                        try clear c17b0
                        try clear c18
                        try clear c20
                        try clear c20b0
                        try clear c20b1
                        try clear c21
                        try clear c21b0
                        try clear c21b1
                        try clear c23
                        try clear c23b0
                        try clear c25
                        try clear c25b0
                        try clear c26
                        try clear c26b0
                        try clear c27
                        try clear c27b0
                        try clear c28
                        try clear c30
                        try clear c30b0
                        try clear c30b1
                        try clear c31
                        try clear c31b0
                        try clear c31b1
                        try clear c32
                        try clear c32b0
                        try clear c32b1
                        try clear hx113_0
                        try clear hx114_0
                        try clear hx115_0
                        try clear p1
                        try clear p11
                        try clear p113
                        try clear p114
                        try clear p115
                        try clear p2
                        try clear p6
                        try clear q1
                        try clear q11
                        try clear q113
                        try clear q114
                        try clear q115
                        obtain ⟨x79_3, rfl, HA, HK3, ⟨m3, rfl⟩⟩ := hrel
                        cases gk with
                        | zero => exact absurd HA.out (by simp [wire_sign.l0])
                        | succ k3 =>
                          have H := HA.out
                          clear HA
                          simp only [wire_sign.l0] at H
                          by_cases c34 : x79_3 < (((l0.take ((wrap64 (a1 + x6_4)) : Int).toNat).drop ((ji29) : Int).toNat).length : Int)
                          · rw [if_pos c34] at H
                            have c34b0 : decide (x79_3 < (((l0.take ((wrap64 (a1 + x6_4)) : Int).toNat).drop ((ji29) : Int).toNat).length : Int)) = true := decide_eq_true c34
                            (try (have c34b0n := c34b0; rw [SLM33.out] at c34b0n))
                            clear c34
                            by_cases c35 : 0 ≤ x79_3
                            · rw [if_pos c35] at H
                              have c35b0 : decide (0 ≤ x79_3) = true := decide_eq_true c35
                              clear c35
                              by_cases c36 : x79_3 < (((l0.take ((wrap64 (a1 + x6_4)) : Int).toNat).drop ((ji29) : Int).toNat).length : Int)
                              · rw [if_pos c36] at H
                                have c36b0 : decide (x79_3 < (((l0.take ((wrap64 (a1 + x6_4)) : Int).toNat).drop ((ji29) : Int).toNat).length : Int)) = true := decide_eq_true c36
                                (try (have c36b0n := c36b0; rw [SLM33.out] at c36b0n))
                                clear c36
                                by_cases c37 : (rd ((l0.take ((wrap64 (a1 + x6_4)) : Int).toNat).drop ((ji29) : Int).toNat) x79_3) < 128
                                · rw [if_pos c37] at H
                                  have c37b0 : decide ((rd ((l0.take ((wrap64 (a1 + x6_4)) : Int).toNat).drop ((ji29) : Int).toNat) x79_3) < 128) = true := decide_eq_true c37
                                  clear c37
                                  obtain rfl := Option.some.inj H
                                  have p117 : 0 ≤ (x79_3 : Int) := of_decide_eq_true (by first | (with_reducible assumption) | assumption)
                                  have q117 : x79_3 < (((l0.take ((wrap64 (a1 + x6_4)) : Int).toNat).drop ((ji29) : Int).toNat).length : Int) := of_decide_eq_true (by first | (with_reducible assumption) | assumption)
                                  obtain ⟨ad117, e117, hx117_0⟩ := Kd.at_int HR116.out x79_3 p117 q117
                                  cases e117
                                  replace p117 := eq_true p117
                                  (try (have q117n33 := q117; rw [SLM33.out] at q117n33; replace q117n33 := eq_true q117n33))
                                  replace q117 := eq_true q117
                                  go_wp2
                                  go_ret
                                  exact ⟨by first | rfl | (simp; done) | (simp only [← hji29] <;> (first | rfl | simp)) | (simp [*]; done), by repeat (first | exact Drawn0.refl _ | apply Drawn0.step)⟩
                                · rw [if_neg c37] at H
                                  have c37b0 : decide ((rd ((l0.take ((wrap64 (a1 + x6_4)) : Int).toNat).drop ((ji29) : Int).toNat) x79_3) < 128) = false := decide_eq_false c37
                                  clear c37
                                  by_cases c38 : (rd ((l0.take ((wrap64 (a1 + x6_4)) : Int).toNat).drop ((ji29) : Int).toNat) x79_3) > 191
                                  · rw [if_pos c38] at H
                                    have c38b0 : decide (191 < (rd ((l0.take ((wrap64 (a1 + x6_4)) : Int).toNat).drop ((ji29) : Int).toNat) x79_3)) = true := decide_eq_true c38
                                    clear c38
                                    obtain rfl := Option.some.inj H
                                    have p117 : 0 ≤ (x79_3 : Int) := of_decide_eq_true (by first | (with_reducible assumption) | assumption)
                                    have q117 : x79_3 < (((l0.take ((wrap64 (a1 + x6_4)) : Int).toNat).drop ((ji29) : Int).toNat).length : Int) := of_decide_eq_true (by first | (with_reducible assumption) | assumption)
                                    obtain ⟨ad117, e117, hx117_0⟩ := Kd.at_int HR116.out x79_3 p117 q117
                                    cases e117
                                    replace p117 := eq_true p117
                                    (try (have q117n33 := q117; rw [SLM33.out] at q117n33; replace q117n33 := eq_true q117n33))
                                    replace q117 := eq_true q117
                                    go_wp2
                                    go_ret
                                    exact ⟨by first | rfl | (simp; done) | (simp only [← hji29] <;> (first | rfl | simp)) | (simp [*]; done), by repeat (first | exact Drawn0.refl _ | apply Drawn0.step)⟩
                                  · rw [if_neg c38] at H
                                    have c38b0 : decide (191 < (rd ((l0.take ((wrap64 (a1 + x6_4)) : Int).toNat).drop ((ji29) : Int).toNat) x79_3)) = false := decide_eq_false c38
                                    clear c38
                                    have H' := Aside0.mk H
                                    clear H
                                    have p117 : 0 ≤ (x79_3 : Int) := of_decide_eq_true (by first | (with_reducible assumption) | assumption)
                                    have q117 : x79_3 < (((l0.take ((wrap64 (a1 + x6_4)) : Int).toNat).drop ((ji29) : Int).toNat).length : Int) := of_decide_eq_true (by first | (with_reducible assumption) | assumption)
                                    obtain ⟨ad117, e117, hx117_0⟩ := Kd.at_int HR116.out x79_3 p117 q117
                                    cases e117
                                    replace p117 := eq_true p117
                                    (try (have q117n33 := q117; rw [SLM33.out] at q117n33; replace q117n33 := eq_true q117n33))
                                    replace q117 := eq_true q117
                                    go_wp2
                                    go_roundg k3
                                    case measure => have := HJ4.out; have := HJ21.out; have := HK3.out; omega
                                    case rel => exact ⟨(wrap64 (x79_3 + 1)), (by first | rfl | (simp; done) | (simp [*]; done)), H', ⟨by have := HJ4.out; have := HJ21.out; have := HK3.out; omega⟩, by repeat (first | exact Drawn0.refl _ | apply Drawn0.step)⟩
                              · rw [if_neg c36] at H
                                exact absurd H (by simp)
                            · rw [if_neg c35] at H
                              exact absurd H (by simp)
                          · rw [if_neg c34] at H
                            have c34b0 : decide (x79_3 < (((l0.take ((wrap64 (a1 + x6_4)) : Int).toNat).drop ((ji29) : Int).toNat).length : Int)) = false := decide_eq_false c34
                            (try (have c34b0n := c34b0; rw [SLM33.out] at c34b0n))
                            clear c34
                            obtain rfl := Option.some.inj H
                            go_wp2
                            go_ret
                            exact ⟨by first | rfl | (simp; done) | (simp only [← hji29] <;> (first | rfl | simp)) | (simp [*]; done), by repeat (first | exact Drawn0.refl _ | apply Drawn0.step)⟩
                    · rw [if_neg c32] at H
                      exact absurd H (by simp)
                  · rw [if_neg c31] at H
                    exact absurd H (by simp)
                · rw [if_neg c30] at H
                  exact absurd H (by simp)
    · rw [if_neg c4] at H
      exact absurd H (by simp)
  · rw [if_neg c3] at H
    exact absurd H (by simp)

end Go.Proofs.Ytjgjidehlldfhaa.QAll
end
