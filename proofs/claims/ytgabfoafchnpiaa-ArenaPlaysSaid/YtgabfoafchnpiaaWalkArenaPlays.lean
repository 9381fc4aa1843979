/- ArenaPlays: the walk. -/
import Derived.Test.YtgabfoafchnpiaaPlays2
import Derived.Test.YtgabfoafchnpiaaOpen
import Derived.Deep.Cut
import Derived.Deep.CutBlock
import Derived.Deep.RegionLaw
import Derived.StillTailTactics
import Derived.Deep.RegionHeld3
namespace Go.Proofs.Ytgabfoafchnpiaa.Hand
open Go.RowKit Go.Proofs.Ytgabfoafchnpiaa.QAll Go.Proofs.YtgabfoafchnpiaaW.PrintWords Go.Proofs.YtgabfoafchnpiaaW.PrintLast Go.Proofs.YtgabfoafchnpiaaW.PrintMore Go.Proofs.Ytgabfoafchnpiaa.Nums
set_option linter.unusedVariables false
set_option linter.unusedSimpArgs false

abbrev Play := Int × Int × Int × Int × List Int
noncomputable abbrev KPlay : Kd Play := Kd.pair (Kd.int .i64) (Kd.pair (Kd.int .i64) (Kd.pair (Kd.int .i64) (Kd.pair (Kd.int .u64) (Kd.slice 5 (Kd.int .u8)))))

/-- What the law and the arena hold, both. -/
structure Both (w W : World) (g gm gb go : Nat) (M : Int) (L : List Int) (over : Bool) (v vb : Value) : Prop where
  arn : Arn w.heap.size W g v L M over
  vm : Var W gm 3 (.int .i64 M)
  bx : Var W gb 23 vb
  vo : Var W go 4 (.bool over)
  own : W.ownsRow w.heap.size 5 1 vb L.length (nums .u8 L)
  sep : ∀ k, v.ownBlock = some k → vb.ownBlock ≠ some k
  below : Below w.heap.size w W
  base : w.heap.size ≤ gm ∧ w.heap.size ≤ gb ∧ w.heap.size ≤ go

def PlayRound (w : World) (g gm gb go : Nat) (M : Int) (n : Nat) (v8 : Value) (wr : World) : Prop :=
  ∃ (i : Nat) (L : List Int) (over : Bool) (v vb : Value), v8 = .int .i64 i ∧ i ≤ n ∧ i ≤ 200 ∧ L.length ≤ 5000 * i ∧ Both w wr g gm gb go M L over v vb

theorem Var.kept {W W' : World} {g : Nat} {t : TypeId} {v : Value} (h : Var W g t v) (hb : Below W.heap.size W W') : Var W' g t v := (hb.block g h.lt).trans h
theorem Var.new (W : World) (t : TypeId) (v : Value) : Var (W.alloc (.cells #[v] t)) W.heap.size t v := heap_alloc_new W _
theorem Arn.far {base : Nat} {W : World} {g k : Nat} {v u : Value} {l : List Int} {most : Int} {over : Bool} (h : Arn base W g v l most over) (h1 : g ≠ k) (h2 : some k ≠ v.ownBlock) : Arn base (W.setCell ⟨k, 0, none⟩ u) g v l most over :=
  ⟨(Below.heap_setCell W ⟨k, 0, none⟩ u g h1).trans h.1, h.2.1, own_setCell (p := ⟨k, 0, none⟩) h.2.2 h2 _⟩
theorem Arn.ne_var {base : Nat} {W : World} {g k : Nat} {v u : Value} {l : List Int} {most : Int} {over : Bool} {t : TypeId} (h : Arn base W g v l most over) (hk : Var W k t u) (ht : t ≠ 69) : g ≠ k := by
  rintro rfl
  have h3 := hk.symm.trans h.1
  injection h3 with e; injection e with _ e; exact ht e

theorem Both.kept {w W W' : World} {g gm gb go : Nat} {M : Int} {L : List Int} {over : Bool} {v vb : Value} (h : Both w W g gm gb go M L over v vb) (hb : Below W.heap.size W W') : Both w W' g gm gb go M L over v vb :=
  ⟨h.arn.kept hb, h.vm.kept hb, h.bx.kept hb, h.vo.kept hb, pw_own_below h.own hb, h.sep, below_then h.below h.below.size hb, h.base⟩
/-- Behind a round's act: what it said, and what is held. -/
def PlayMid (w : World) (g gm gb go gw gi : Nat) (M : Int) (lim : Nat) (s10 s11 : Value) (wx : World) : Prop :=
  ∃ (L : List Int) (over : Bool) (v vb : Value) (at_ : Int) (ok : Bool), s10 = .int .i64 at_ ∧ s11 = .bool ok ∧ Both w wx g gm gb go M L over v vb ∧ Var wx gw 3 (.int .i64 at_) ∧ Var wx gi 4 (.bool ok) ∧ L.length ≤ lim
theorem Half.mid {w W : World} {g gm gb go gw gi g9 : Nat} {M : Int} {xs : Array Value} {L : List Int} {o : Bool} {v vb : Value} {a : Int} {b : Bool} {lim : Nat} (h : Half w W g gm gb go gw gi g9 M xs L o v L o vb a b) (hl : L.length ≤ lim) :
    PlayMid w g gm gb go gw gi M lim (.int .i64 a) (.bool b) W :=
  ⟨L, o, v, vb, a, b, rfl, rfl, ⟨h.arn, h.vm, h.bx, h.vo, h.own, h.sep, h.below, h.base⟩, h.vw, h.vi, hl⟩
theorem quietEq {f : FuncId} {args : Array Value} {w : World} {n : Nat} {v : Value}
    (h : Calls Try.prog f args (w.drewN n) fun e w' => e = .returned v ∧ w.drewN n = w') : Calls Try.prog f args (w.drewN n) fun e w'' => e = .returned v ∧ ∃ m, w'' = w.drewN m :=
  Calls.quiet_of (h.mono fun _ _ ⟨he, hd⟩ => ⟨he, 0, hd.symm⟩)
/-- A row of bytes of which nothing is asked but that they are bytes. -/
def Spoil (wc : World) (g : Nat) (n : Nat) (ws : World) : Prop :=
  Below wc.heap.size wc ws ∧ wc.heap.size ≤ g ∧ ∃ cur : Array Value, ws.heap[g]? = some (.cells cur 5 (0, 0)) ∧ ∀ j, j < n → ∃ x : Int, cur[j]? = some (.int .u8 x)
theorem Spoil.set {wc : World} {g n : Nat} {ws : World} (h : Spoil wc g n ws) (k : Nat) (x : Int) : Spoil wc g n (ws.setCell ⟨g, k, none⟩ (.int .u8 x)) := by
  obtain ⟨hb, hg, cur, hh, hc⟩ := h
  refine ⟨Below.setCell hb (p := ⟨g, k, none⟩) hg _, hg, _, blk_set hh k _, fun j hj => ?_⟩
  obtain ⟨y, hy⟩ := hc j hj
  rw [Array.getElem?_setIfInBounds]
  split
  · split
    · exact ⟨x, rfl⟩
    · have := (Array.getElem?_eq_some_iff.1 hy).1; omega
  · exact ⟨y, hy⟩
theorem play_cells {w : World} {ad : Addr} {i : Nat} {kd n sz num : Int} {D : List Int} {cc : List Value} (hk : KPlay.K w (kd, n, sz, num, D) cc) (hcell : ∀ j u, cc[j]? = some u → w.cell? (ad.add (i * 5 + j)) = some u) :
    w.cell? (ad.add (i * 5)) = some (.int .i64 kd) ∧ w.cell? ⟨(ad.add (i * 5)).block, (ad.add (i * 5)).off + 1, none⟩ = some (.int .i64 n) ∧ w.cell? ⟨(ad.add (i * 5)).block, (ad.add (i * 5)).off + 2, none⟩ = some (.int .i64 sz) ∧ w.cell? ⟨(ad.add (i * 5)).block, (ad.add (i * 5)).off + 3, none⟩ = some (.int .u64 num) ∧
      ∃ (A' : Option Addr) (c' : Nat), D.length ≤ c' ∧ w.cell? ⟨(ad.add (i * 5)).block, (ad.add (i * 5)).off + 4, none⟩ = some (.slice A' D.length c') ∧ Kd.C (Kd.int .u8) w A' D.length D := by
  obtain ⟨_, _, rfl, e1, _, _, rfl, e2, _, _, rfl, e3, _, _, rfl, e4, A', c', e5, hc, hr⟩ := hk
  have e1' : _ = [Value.int .i64 kd] := e1
  have e2' : _ = [Value.int .i64 n] := e2
  have e3' : _ = [Value.int .i64 sz] := e3
  have e4' : _ = [Value.int .u64 num] := e4
  subst e1' e2' e3' e4' e5
  have e : ∀ j, 0 < j → ad.add (i * 5 + j) = ⟨(ad.add (i * 5)).block, (ad.add (i * 5)).off + j, none⟩ := by
    intro j hj
    unfold Addr.add
    by_cases h1 : i * 5 = 0
    · rw [if_pos h1, if_neg (by omega), h1, Nat.zero_add]
    · rw [if_neg h1, if_neg (by omega), Nat.add_assoc]
  exact ⟨hcell 0 _ rfl, e 1 (by decide) ▸ hcell 1 _ rfl, e 2 (by decide) ▸ hcell 2 _ rfl, e 3 (by decide) ▸ hcell 3 _ rfl, A', c', hc, e 4 (by decide) ▸ hcell 4 _ rfl, hr⟩
attribute [local go_sem] max2_int min2_int max_two min_two
set_option maxHeartbeats 800000 in
theorem new_arena_any (most M : Int) (hM : (if most < 0 then 0 else most) = M) (w : World) :
    Calls Try.prog 21 #[.int .i64 most] w fun e w' => ∃ g, e = .returned (.pointer (some ⟨g, 0, none⟩)) ∧ Arn w.heap.size w' g (.slice none 0 0) [] M false ∧ Below w.heap.size w w' := by
  have hu69 := Try.underlying69
  go_enter Try.func21, Try.ntmps21
  go_wp2
  go_ret
  exact ⟨_, rfl, ⟨by first | exact heap_alloc_new w _ | (have := heap_alloc_new w (.cells #[.slice none 0 0, .int .i64 M, .bool false] 69); simpa using this), Nat.le_refl _, own_nil _ _ _ _⟩, below_alloc (Below.refl _ _) _⟩
set_option maxHeartbeats 25600000 in
set_option maxRecDepth 100000 in
theorem plays_any (A : Option Addr) (c : Nat) (acts : List Play) (most : Int) (w : World) (hm : -9223372036854775808 ≤ most ∧ most < 9223372036854775808)
    (hr : Kd.C KPlay w A acts.length acts) (hc : acts.length ≤ c) (hwf : ∀ p ∈ acts, p.2.1 < 9223372036854775808) :
    Calls Try.prog 10 #[.int .i64 most, .slice A acts.length c] w fun e w' => e = .returned (.bool true) ∧ Below w.heap.size w w' := by
  have HR := Aside0.mk hr
  have HC := Aside0.mk hc
  have HWF := Aside0.mk hwf
  obtain ⟨M, hM⟩ : ∃ M, (if most < 0 then 0 else most) = M := ⟨_, rfl⟩
  have HM := Aside0.mk hM
  have HMB : Aside0 (0 ≤ M ∧ M < 9223372036854775808) := ⟨by rw [← hM]; split <;> omega⟩
  clear hr hc hm hM hwf
  have hmf : ∀ (fn : Fn) (first cap : Array Value) (w : World), (Instr.makeFunc fn first cap).run Try.prog w = .ok (.func fn first cap) w := fun _ _ _ _ => rfl
  go_enter Try.func10, Try.ntmps10
  go_upto_region 1 with (fail)
  obtain ⟨w0, hw0⟩ : ∃ w0, w.alloc (.cells #[.int .i64 most] 3) = w0 := ⟨_, rfl⟩
  obtain ⟨gm, hgm⟩ : ∃ gm, w.heap.size = gm := ⟨_, rfl⟩
  have V0 : Aside0 (Var w0 gm 3 (.int .i64 most)) := ⟨by rw [← hw0, ← hgm]; exact Var.new _ _ _⟩
  have B0 : Aside0 (Below w.heap.size w w0) := ⟨by rw [← hw0]; exact below_alloc (Below.refl _ _) _⟩
  have GM : Aside0 (w.heap.size ≤ gm) := ⟨Nat.le_of_eq hgm⟩
  rw [hw0, hgm]
  clear hw0 hgm
  go_upto_region 4 with (first
    | (go_at_call 12; (with_reducible refine (awake02 _).mono ?_); rintro e w1 ⟨rfl, hb⟩; have HB1 := Aside0.mk (below_then B0.out B0.out.size hb); have V1 := Aside0.mk (V0.out.kept hb); have c1 := V1.out.cell; clear hb)
    | (go_at_call 21; (with_reducible refine (new_arena_any _ _ HM.out _).mono ?_); rintro e w2 ⟨g, rfl, ha, hb⟩; have HA2 := Aside0.mk ha; have HB2 := Aside0.mk (below_then HB1.out HB1.out.size hb); have V2 := Aside0.mk (V1.out.kept hb); clear ha hb))
  clear c1
  have c2 := V2.out.cell
  have f2 := V2.out.frozen
  have hmx := HM.out
  go_upto_region 7 with (fail)
  clear c2 f2 hmx
  obtain ⟨w3, hw3⟩ : ∃ w3, ((w2.setCell ⟨gm, 0, none⟩ (.int .i64 M)).alloc (.cells #[.slice none 0 0] 23)).alloc (.cells #[.bool false] 4) = w3 := ⟨_, rfl⟩
  obtain ⟨gb, hgb⟩ : ∃ gb, w2.heap.size = gb := ⟨_, rfl⟩
  obtain ⟨go, hgo⟩ : ∃ go, gb + 1 = go := ⟨_, rfl⟩
  have HBOTH : Aside0 (Both w w3 g gm gb go M [] false (.slice none 0 0) (.slice none 0 0)) := by
    have hA : Arn w.heap.size w2 g (.slice none 0 0) [] M false := ⟨HA2.out.1, Nat.le_trans HB1.out.size HA2.out.2.1, own_nil _ _ _ _⟩
    have hA3 := hA.far (u := .int .i64 M) (hA.ne_var V2.out (by decide)) (by simp [Value.ownBlock])
    have hM3 : Var (w2.setCell ⟨gm, 0, none⟩ (.int .i64 M)) gm 3 (.int .i64 M) := V2.out.set _
    have s3 : (w2.setCell ⟨gm, 0, none⟩ (.int .i64 M)).heap.size = gb := by rw [← hgb]; simp
    have b1 := below_alloc (Below.refl (w2.setCell ⟨gm, 0, none⟩ (.int .i64 M)).heap.size (w2.setCell ⟨gm, 0, none⟩ (.int .i64 M))) (.cells #[.slice none 0 0] 23)
    have hb4 := Var.new (w2.setCell ⟨gm, 0, none⟩ (.int .i64 M)) 23 (.slice none 0 0)
    rw [s3] at hb4
    have s4 : ((w2.setCell ⟨gm, 0, none⟩ (.int .i64 M)).alloc (.cells #[.slice none 0 0] 23)).heap.size = go := by rw [← hgo, ← s3]; simp
    have b2 := below_alloc (Below.refl ((w2.setCell ⟨gm, 0, none⟩ (.int .i64 M)).alloc (.cells #[.slice none 0 0] 23)).heap.size ((w2.setCell ⟨gm, 0, none⟩ (.int .i64 M)).alloc (.cells #[.slice none 0 0] 23))) (.cells #[.bool false] 4)
    have ho5 := Var.new ((w2.setCell ⟨gm, 0, none⟩ (.int .i64 M)).alloc (.cells #[.slice none 0 0] 23)) 4 (.bool false)
    rw [s4] at ho5
    rw [← hw3]
    have hsz := HB2.out.size
    refine ⟨(hA3.kept b1).kept b2, (hM3.kept b1).kept b2, hb4.kept b2, ho5, own_nil _ _ _ _, fun k hk => by simp [Value.ownBlock] at hk, ?_, GM.out, by omega, by omega⟩
    exact below_alloc (below_alloc ((Below.setCell HB2.out (p := ⟨gm, 0, none⟩) GM.out _)) _) _
  rw [hw3, hgb, hgo]
  clear hw3 hgb hgo
  go_wp2_with (fail)
  go_loopw [8] (fun v8 wr => PlayRound w g gm gb go M acts.length v8 wr) (fun v8 _ => acts.length - (intOf v8).toNat)
  case atStart => exact ⟨0, [], false, _, _, rfl, by omega, by omega, by simp, HBOTH.out⟩
  case round =>
    obtain ⟨i, L, over, v, vb, rfl, hi, hi2, hlen, hboth⟩ := hrel
    have HI := Aside0.mk (And.intro hi hi2)
    have HLEN := Aside0.mk hlen
    have HB := Aside0.mk hboth
    clear hi hi2 hlen hboth
    by_cases hlt : i < acts.length ∧ i < 200
    · obtain ⟨h1, h2⟩ := hlt
      obtain ⟨ad, cc, rfl, _, hk, hcell⟩ := Kd.C_get HR.out (0, 0, 0, 0, []) (i : Int) (by omega) (by omega)
      obtain ⟨⟨kd, n, sz, num, D⟩, hp⟩ : ∃ p, acts[i] = p := ⟨_, rfl⟩
      have hgd : acts.getD ((i : Int)).toNat (0, 0, 0, 0, []) = (kd, n, sz, num, D) := by
        rw [show ((i : Int)).toNat = i from rfl, List.getD_eq_getElem?_getD, List.getElem?_eq_getElem h1]; exact hp
      rw [hgd] at hk
      obtain ⟨x0, x1, x2, x3, A', c', hDc, x4, hDr⟩ := play_cells hk (show ∀ j u, cc[j]? = some u → w.cell? (ad.add (i * 5 + j)) = some u from hcell)
      have y0 := pw_cell_below HB.out.below x0
      have y1 := pw_cell_below HB.out.below x1
      have y2 := pw_cell_below HB.out.below x2
      have y3 := pw_cell_below HB.out.below x3
      have y4 := pw_cell_below HB.out.below x4
      have HDR := Aside0.mk hDr
      have HDC := Aside0.mk hDc
      have HP := Aside0.mk hp
      have HNQ : Aside0 (n < 9223372036854775808) := ⟨by have := HWF.out _ (List.getElem_mem h1); rw [hp] at this; exact this⟩
      have d1 : decide (i < acts.length) = true := decide_eq_true h1
      have d2 : decide ((i : Int) < 200) = true := decide_eq_true (by omega)
      clear hk hcell hgd hDr hDc x0 x1 x2 x3 x4 hp
      go_upto_region 11 with (fail)
      obtain ⟨w4, hw4⟩ : ∃ w4, wr.alloc (.cells #[.int .i64 kd, .int .i64 n, .int .i64 sz, .int .u64 num, .slice A' D.length c'] 62) = w4 := ⟨_, rfl⟩
      obtain ⟨g9, hg9⟩ : ∃ g9, wr.heap.size = g9 := ⟨_, rfl⟩
      have hB4 : Below wr.heap.size wr w4 := by rw [← hw4]; exact below_alloc (Below.refl _ _) _
      have HB4 : Aside0 (Both w w4 g gm gb go M L over v vb) := ⟨HB.out.kept hB4⟩
      have HX4 : Aside0 (w4.heap[g9]? = some (.cells #[.int .i64 kd, .int .i64 n, .int .i64 sz, .int .u64 num, .slice A' D.length c'] 62 (0, 0))) := ⟨by rw [← hw4, ← hg9]; exact heap_alloc_new wr _⟩
      have HG9 : Aside0 (w.heap.size ≤ g9 ∧ gm < g9) := ⟨by rw [← hg9]; exact ⟨HB.out.below.size, HB.out.vm.lt⟩⟩
      rw [hw4, hg9]
      clear hw4 hg9 hB4 y0 y1 y2 y3 y4
      obtain ⟨r, hr5⟩ : ∃ r, kd.tmod 5 = r := ⟨_, rfl⟩
      have c9 := HB4.out.vm.cell
      have k0 : w4.cell? ⟨g9, 0, none⟩ = some (.int .i64 kd) := (blk_cell HX4.out 0).trans rfl
      have k1 : w4.cell? ⟨g9, 1, none⟩ = some (.int .i64 n) := (blk_cell HX4.out 1).trans rfl
      have k2 : w4.cell? ⟨g9, 2, none⟩ = some (.int .i64 sz) := (blk_cell HX4.out 2).trans rfl
      have k3 : w4.cell? ⟨g9, 3, none⟩ = some (.int .u64 num) := (blk_cell HX4.out 3).trans rfl
      have k4 : w4.cell? ⟨g9, 4, none⟩ = some (.slice A' D.length c') := (blk_cell HX4.out 4).trans rfl
      have hr55 : -5 < r ∧ r < 5 := by rw [← hr5]; exact ⟨Int.lt_tmod_of_pos kd (by decide), Int.tmod_lt_of_pos kd (by decide)⟩
      have wr5 : IntKind.i64.wrap r = r := by rw [IntKind.wrap_i64]; omega
      by_cases hsk : D.length ≤ 500 ∧ (r = 0 → n ≤ 5000 ∨ M < n) ∧ (r = 3 → n ≤ 5000 ∨ M ≤ 5000)
      · have HSK := Aside0.mk hsk
        have d3 : decide (500 < D.length) = false := decide_eq_false (by omega)
        have d3' : decide ((500 : Int) < (D.length : Int)) = false := decide_eq_false (by omega)
        go_cut [73] from 38 to 73 (fun s73 wx => s73 = .bool false ∧ wx = w4)
        case first =>
          obtain ⟨_, s0, s3⟩ := hsk
          by_cases q0 : r = 0
          · have e0 : (r == 0) = true := by simp [q0]
            have e3 : (r == 3) = false := by simp [q0]
            replace s0 := s0 q0
            clear q0 s3
            by_cases q1 : 5000 < n
            · have e1 : decide (5000 < n) = true := decide_eq_true q1
              have e2 : decide (n ≤ M) = false := decide_eq_false (by omega)
              clear q1 s0
              go_wp2_with (fail)
              go_meet
              exact ⟨rfl, rfl⟩
            · have e1 : decide (5000 < n) = false := decide_eq_false q1
              clear q1 s0
              go_wp2_with (fail)
              go_meet
              exact ⟨rfl, rfl⟩
          · have e0 : (r == 0) = false := by simp [q0]
            clear s0
            by_cases q3 : r = 3
            · have e3 : (r == 3) = true := by simp [q3]
              replace s3 := s3 q3
              clear q0 q3
              by_cases q1 : 5000 < n
              · have e1 : decide (5000 < n) = true := decide_eq_true q1
                have e2 : decide (5000 < M) = false := decide_eq_false (by omega)
                clear q1 s3
                go_wp2_with (fail)
                go_meet
                exact ⟨rfl, rfl⟩
              · have e1 : decide (5000 < n) = false := decide_eq_false q1
                clear q1 s3
                go_wp2_with (fail)
                go_meet
                exact ⟨rfl, rfl⟩
            · have e3 : (r == 3) = false := by simp [q3]
              clear q0 q3 s3
              go_wp2_with (fail)
              go_meet
              exact ⟨rfl, rfl⟩
        case rest =>
          obtain ⟨rfl, rfl⟩ := hcut
          clear hr55 hsk
          go_upto_region 14 with (fail)
          obtain ⟨w5, hw5⟩ : ∃ w5, (wc.alloc (.cells #[.int .i64 0] 3)).alloc (.cells #[.bool false] 4) = w5 := ⟨_, rfl⟩
          obtain ⟨gw, hgw⟩ : ∃ gw, wc.heap.size = gw := ⟨_, rfl⟩
          obtain ⟨gi, hgi⟩ : ∃ gi, gw + 1 = gi := ⟨_, rfl⟩
          have b1 := below_alloc (Below.refl wc.heap.size wc) (.cells #[.int .i64 0] 3)
          have s4 : (wc.alloc (.cells #[.int .i64 0] 3)).heap.size = gi := by rw [← hgi, ← hgw]; simp
          have b2 := below_alloc (Below.refl (wc.alloc (.cells #[.int .i64 0] 3)).heap.size (wc.alloc (.cells #[.int .i64 0] 3))) (.cells #[.bool false] 4)
          have v1 := Var.new wc 3 (.int .i64 0)
          rw [hgw] at v1
          have v2 := Var.new (wc.alloc (.cells #[.int .i64 0] 3)) 4 (.bool false)
          rw [s4] at v2
          have hb5 : Below wc.heap.size wc w5 := by rw [← hw5]; exact below_alloc (below_alloc (Below.refl _ _) _) _
          have HB5 : Aside0 (Both w w5 g gm gb go M L over v vb) := ⟨HB4.out.kept hb5⟩
          have HX5 := Aside0.mk ((hb5.block g9 (blk_lt HX4.out)).trans HX4.out)
          have HW5 : Aside0 (Var w5 gw 3 (.int .i64 0)) := ⟨by rw [← hw5]; exact v1.kept b2⟩
          have HI5 : Aside0 (Var w5 gi 4 (.bool false)) := ⟨by rw [← hw5]; exact v2⟩
          have HGG : Aside0 (gm ≠ gw ∧ go ≠ gi ∧ w.heap.size ≤ gw ∧ w.heap.size ≤ gi ∧ gw ≠ gi ∧ g9 ≠ gw ∧ g9 ≠ gi ∧ gw < gi) := ⟨by
            have l1 := HB4.out.vm.lt
            have l2 := HB4.out.vo.lt
            have l3 := HB4.out.below.size
            have l4 := blk_lt HX4.out
            omega⟩
          have k5 : w5.cell? ⟨g9, 0, none⟩ = some (.int .i64 kd) := (blk_cell HX5.out 0).trans rfl
          rw [hw5, hgw, hgi]
          clear hw5 hgw hgi b1 b2 s4 v1 v2 hb5 k0 k1 k2 k3 k4 c9
          go_upto_block 2 with (fail)
          go_cut [10, 11] from 78 to 198 (fun s10 s11 wx => PlayMid w g gm gb go gw gi M (L.length + 5000) s10 s11 wx)
          case first =>
            have HH : Aside0 (Half w w5 g gm gb go gw gi g9 M #[.int .i64 kd, .int .i64 n, .int .i64 sz, .int .u64 num, .slice A' D.length c'] L over v L over vb 0 false) :=
              ⟨⟨HB5.out.arn, HB5.out.vm, HB5.out.bx, HB5.out.vo, HB5.out.own, HB5.out.sep, HB5.out.below, HB5.out.base, HW5.out, HI5.out, HX5.out, HGG.out.1, HGG.out.2.1, HGG.out.2.2.1, HGG.out.2.2.2.1, HG9.out.1⟩⟩
            have HLM : Aside0 (L.length ≤ 1000000) := ⟨by have := HLEN.out; have := HI.out; omega⟩
            clear k5
            have k1 : w5.cell? ⟨g9, 1, none⟩ = some (.int .i64 n) := (blk_cell HX5.out 1).trans rfl
            have k2 : w5.cell? ⟨g9, 2, none⟩ = some (.int .i64 sz) := (blk_cell HX5.out 2).trans rfl
            have k3 : w5.cell? ⟨g9, 3, none⟩ = some (.int .u64 num) := (blk_cell HX5.out 3).trans rfl
            have k4 : w5.cell? ⟨g9, 4, none⟩ = some (.slice A' D.length c') := (blk_cell HX5.out 4).trans rfl
            have HB5B : Aside0 (Below w.heap.size w w5) := ⟨HH.out.below⟩
            rcases (show r = 0 ∨ r = 1 ∨ r = 2 ∨ r = 3 ∨ (r ≠ 0 ∧ r ≠ 1 ∧ r ≠ 2 ∧ r ≠ 3) by omega) with q | q | q | q | q
            · as_aux_lemma =>
              have e0 : (r == 0) = true := by simp [q]
              have HN5 : Aside0 (n ≤ 5000 ∨ M < n) := ⟨HSK.out.2.1 q⟩
              obtain ⟨L7, o7, a7, b7, hR⟩ : ∃ L7 o7 a7 b7, growF M L over n = (L7, o7, a7, b7) := ⟨_, _, _, _, rfl⟩
              have HR7 := Aside0.mk hR
              clear q hr5 wr5 k2 k3 k4 hR
              go_wp2_with (first
                | (go_at_call 13; (with_reducible refine (HH.out.room' HR7.out HMB.out HLM.out HN5.out).mono ?_); rintro e w6 ⟨rfl, v6, h6⟩; have H6 := Aside0.mk h6; have k16 := h6.at9 1 rfl; clear h6)
                | (go_at_call 39; (with_reducible refine (H6.out.grow' HR7.out HMB.out HLM.out HN5.out).mono ?_); rintro e w7 ⟨rfl, vb7, h7⟩; have H7 := Aside0.mk h7; clear h7))
              go_meet
              exact H7.out.mid (growF_len HR7.out HN5.out)
            · as_aux_lemma =>
              have e0 : (r == 0) = false := by simp [q]
              have e1 : (r == 1) = true := by simp [q]
              have HD5 : Aside0 (D.length ≤ 500) := ⟨HSK.out.1⟩
              obtain ⟨L7, o7, a7, b7, hR⟩ : ∃ L7 o7 a7 b7, growF M L over D.length = (L7, o7, a7, b7) := ⟨_, _, _, _, rfl⟩
              have HR7 := Aside0.mk hR
              have two := growF_or hR
              clear q hr5 wr5 k1 k2 k3 hR
              rcases two with ⟨hb7, hL7⟩ | ⟨hb7, hL7, ha7⟩
              all_goals
                subst hb7
                have HL7 := Aside0.mk hL7
                clear hL7
                go_upto_region 25 with (first
                  | ((with_reducible refine gate_dst (N := 130) rfl ?_); refine Kd.R_lit (Kd.int .u8) _ 5 ?hg (N := 130) ?hd (xs := ([] : List Int)) (inner := []) (ok := fun _ => True) (okp := fun _ => True) ?hr ?hp (fun _ hk => hk) trivial (Below.refl w5.heap.size w5) (Nat.le_refl _) (by simp) ?_; (case hd => rfl); (case hg => rfl); (case hr => first | (go_simp; done) | (go_simp; rfl)); (case hp => exact (Reps.none _ _)); intro va wa ho_ hb_ hg_ hnew_; clear hg_ hnew_; have HOa := Aside0.mk ho_; have HBa := Aside0.mk hb_; have k4a := (HH.out.kept hb_).at9 4 rfl; clear ho_ hb_ k4)
                  | ((with_reducible refine gate_builtin (b := .append) (xs := #[.tmp 130, .tmp 132]) rfl ?_); at_builtin; refine Kd.R_append_rows (Kd.int .u8) (w0 := w5) w5.heap.size rfl (.tmp 130) (.tmp 132) 23 5 (.int .u8 0) 1 rfl Try.underlying23 info5 rfl (by decide) (by omega) va [] D _ _ _ (fun _ => True) (fun _ => False) rfl rfl HOa.out (Kd.C_below HDR.out (below_then HB5B.out HB5B.out.size HBa.out)) (fun _ _ h => h) (fun _ h => h.elim) (fun _ _ => trivial) HBa.out HBa.out.size (by have := HD5.out; simp; omega) ?_; intro v_ wb ho_ hb_ hg_ hat_; clear hg_ hat_; rw [List.nil_append] at ho_; obtain ⟨A2, c2, rfl⟩ := Kd.R_slice ho_; have HOb := Aside0.mk ho_; have HBb := Aside0.mk hb_; clear ho_ hb_ k4a)
                  | (go_at_call 14; have hx := (HH.out.kept HBb.out).put' HR7.out A2 c2 (Kd.R_reads' HOb.out).2.2 (HH.out.fresh (Kd.own_of_R HOb.out)) HMB.out HLM.out HD5.out; (with_reducible refine hx.mono ?_); clear hx; rintro e w6 ⟨rfl, v6, h6⟩; have H6 := Aside0.mk h6; have k46 := h6.at9 4 rfl; clear h6)
                  | (go_at_call 39; have hx := H6.out.grow' HR7.out HMB.out HLM.out (.inl (by have := HD5.out; omega)); (with_reducible refine hx.mono ?_); clear hx; rintro e w7 ⟨rfl, vb7, h7⟩; have H7 := Aside0.mk h7; clear h7 k46))
                have i7 := H7.out.vi.cell
              · go_wp2
                go_meet
                obtain rfl := HL7.out
                exact H7.out.mid (by simp)
              · subst ha7
                have k47 := H7.out.at9 4 rfl
                have b7 := H7.out.bx.cell
                have g7 := H7.out.vw.cell
                obtain rfl := HL7.out
                obtain ⟨Ab, cb, rfl⟩ := own_slice H7.out.own
                have hl7 : (L ++ List.replicate D.length (0 : Int)).length = L.length + D.length := by simp
                have H7d := H7.out.kept (below_drew (Below.refl w7.heap.size w7))
                obtain ⟨w8, hcp, h8⟩ := H7d.copy L.length D (by rw [hl7]; exact Nat.le_refl _) A' c' (Kd.C_below HDR.out H7d.below)
                rw [put_len L D.length D rfl] at h8
                rw [hl7, Nat.add_sub_cancel_left] at hcp
                have H8 := Aside0.mk h8
                have hct := cut_at Ab cb (L.length + D.length) L.length (by omega)
                rw [Nat.add_sub_cancel_left] at hct
                rw [hl7] at b7
                obtain ⟨A3, hA3⟩ : ∃ A3, (if cb = L.length then Ab else Ab.map (·.add L.length)) = A3 := ⟨_, rfl⟩
                rw [hA3] at hcp hct
                clear H7d h8 hl7 hA3
                go_upto_region 26 with (fail)
                clear i7
                go_region_with (fail)
                all_goals
                  go_wp2
                  go_meet
                  exact H8.out.mid (show (L ++ D).length ≤ L.length + 5000 by rw [List.length_append]; have := HD5.out; omega)
            · as_aux_lemma =>
              have e0 : (r == 0) = false := by simp [q]
              have e1 : (r == 1) = false := by simp [q]
              have e2 : (r == 2) = true := by simp [q]
              clear q hr5 wr5 k1 k4
              cases hsz : sizedB sz with
              | false =>
                have HSZ := Aside0.mk hsz
                have HRS := Aside0.mk ((refsized_f sz).trans (by rw [hsz]))
                clear hsz
                go_wp2_with (first
                  | (go_at_call 15; have hx := HH.out.num_not sz num HSZ.out; (with_reducible refine hx.mono ?_); clear hx; rintro e w6 ⟨rfl, h6⟩; have H6 := Aside0.mk h6; have k26 := h6.at9 2 rfl; clear h6 k2 k3)
                  | (go_at_call 40; (with_reducible refine (transomref01_Sized.calls _ _ _ HRS.out).mono ?_); rintro e w7 ⟨rfl, ⟨nd, rfl⟩⟩; have H7 := Aside0.mk (H6.out.kept (pw_below_drewN (Below.refl w6.heap.size w6) nd)); have i7 := H7.out.vi.cell; clear k26))
                go_meet
                exact H7.out.mid (by omega)
              | true =>
                obtain ⟨s1, s8⟩ := sized_le hsz
                obtain ⟨t, rfl⟩ := Int.eq_ofNat_of_zero_le (show 0 ≤ sz by omega)
                have HSZ := Aside0.mk hsz
                have HT8 : Aside0 (t ≤ 8) := ⟨by omega⟩
                have HRS := Aside0.mk ((refsized_f (t : Int)).trans (by rw [hsz]))
                have HPUT := Aside0.mk (refput_f num (t : Int) (by omega) s8)
                obtain ⟨L7, o7, a7, b7, hR⟩ : ∃ L7 o7 a7 b7, growF M L over t = (L7, o7, a7, b7) := ⟨_, _, _, _, rfl⟩
                have HR7 := Aside0.mk hR
                have two := growF_or hR
                clear hR hsz s1 s8
                rcases two with ⟨hb7, hL7⟩ | ⟨hb7, hL7, ha7⟩
                all_goals
                  subst hb7
                  have HL7 := Aside0.mk hL7
                  clear hL7
                  go_upto_region 31 with (first
                    | (go_at_call 15; have hx := HH.out.num' t num HR7.out HSZ.out HMB.out HLM.out; (with_reducible refine hx.mono ?_); clear hx; rintro e w6 ⟨rfl, v6, h6⟩; have H6 := Aside0.mk h6; have k26 := h6.at9 2 rfl; clear h6 k2 k3)
                    | (go_at_call 40; (with_reducible refine (transomref01_Sized.calls _ _ _ HRS.out).mono ?_); rintro e w7 ⟨rfl, ⟨nd, rfl⟩⟩; have H7 := Aside0.mk (H6.out.kept (pw_below_drewN (Below.refl w6.heap.size w6) nd)); have k27 := H7.out.at9 2 rfl; clear k26)
                    | (go_at_call 39; have hx := H7.out.grow' HR7.out HMB.out HLM.out (.inl (by have := HT8.out; omega)); (with_reducible refine hx.mono ?_); clear hx; rintro e w8 ⟨rfl, vb8, h8⟩; have H8 := Aside0.mk h8; clear h8 k27))
                  have i8 := H8.out.vi.cell
                · go_wp2
                  go_meet
                  obtain rfl := HL7.out
                  exact H8.out.mid (by simp)
                · subst ha7
                  have k28 := H8.out.at9 2 rfl
                  have k38 := H8.out.at9 3 rfl
                  have b8 := H8.out.bx.cell
                  have g8 := H8.out.vw.cell
                  obtain rfl := HL7.out
                  obtain ⟨Ab, cb, rfl⟩ := own_slice H8.out.own
                  have hl7 : (L ++ List.replicate t (0 : Int)).length = L.length + t := by simp
                  have hct := cut_at Ab cb (L.length + t) L.length (by omega)
                  rw [Nat.add_sub_cancel_left] at hct
                  rw [hl7] at b8
                  obtain ⟨A3, hA3⟩ : ∃ A3, (if cb = L.length then Ab else Ab.map (·.add L.length)) = A3 := ⟨_, rfl⟩
                  rw [hA3] at hct
                  have HCP : Aside0 (∀ W, Below w8.heap.size w8 W → ∀ (A5 : Option Addr) (c5 : Nat), Kd.C (Kd.int .u8) W A5 (leB num t).length (leB num t) →
                      ∃ W1, (Builtin.copy_ #[23, 23] 3 #[.slice A3 t (cb - L.length), .slice A5 (leB num t).length c5]).run Try.prog W = .ok (.int .i64 ((leB num t).length : Int)) W1 ∧
                        Half w W1 g gm gb go gw gi g9 M #[.int .i64 kd, .int .i64 n, .int .i64 (t : Int), .int .u64 num, .slice A' D.length c'] (if True then L ++ leB num t else L) o7 v6 (L ++ leB num t) o7 (.slice Ab (L ++ List.replicate t (0 : Int)).length cb) L.length true) := ⟨fun W hW A5 c5 hr => by
                    obtain ⟨W1, hcp, h9⟩ := (H8.out.kept hW).copy L.length (leB num t) (by rw [hl7, leB_length]; exact Nat.le_refl _) A5 c5 hr
                    rw [put_len L t (leB num t) (leB_length _ _)] at h9
                    rw [hl7, Nat.add_sub_cancel_left, hA3] at hcp
                    exact ⟨W1, hcp, h9⟩⟩
                  clear hl7 hA3
                  go_upto_region 32 with (fail)
                  clear i8
                  go_region_held3 (fun W => W.cell? ⟨gb, 0, none⟩ = some (.slice Ab (L.length + t) cb) ∧ W.cell? ⟨gw, 0, none⟩ = some (.int .i64 L.length) ∧ W.cell? ⟨g9, 3, none⟩ = some (.int .u64 num) ∧ W.cell? ⟨g9, 2, none⟩ = some (.int .i64 (t : Int)))
                    (first | go_keep | exact ⟨b9, g9', k39, k29⟩ | exact ⟨b10, g10, k310, k210⟩)
                    (first
                    | (go_at_call 41; (with_reducible refine (transomref01_Put.calls 10 _ _ _ _ HPUT.out).mono ?_); rintro e w9 ⟨v9, rfl, hr9, hb9⟩; obtain ⟨A5, c5, rfl⟩ := Kd.R_slice hr9; have hb89 := below_then (below_drew (Below.refl w8.heap.size w8)) (Nat.le_refl _) hb9; have H9 := H8.out.kept hb89; have b9 := H9.bx.cell; rw [List.length_append, List.length_replicate] at b9; have g9' := H9.vw.cell; have k29 := H9.at9 2 rfl; have k39 := H9.at9 3 rfl
                       obtain ⟨w10, hcp, h10⟩ := HCP.out w9 hb89 A5 c5 (Kd.R_reads' hr9).2.2; have H10 := Aside0.mk h10; have b10 := h10.bx.cell; rw [List.length_append, List.length_replicate] at b10; have g10 := h10.vw.cell; have k210 := h10.at9 2 rfl; have k310 := h10.at9 3 rfl; clear hr9 hb9 h10 hb89 H9))
                  all_goals
                    go_wp2
                    go_meet
                    exact H10.out.mid (by have := HT8.out; simp [leB_length]; omega)
            · as_aux_lemma =>
              have e0 : (r == 0) = false := by simp [q]
              have e1 : (r == 1) = false := by simp [q]
              have e2 : (r == 2) = false := by simp [q]
              have e3 : (r == 3) = true := by simp [q]
              have HQ3 : Aside0 (n ≤ 5000 ∨ M ≤ 5000) := ⟨HSK.out.2.2 q⟩
              clear q hr5 wr5 k2 k3 k4
              by_cases hn1 : n < 1
              · have HN1 := Aside0.mk hn1
                have d1 : decide (0 < n) = false := decide_eq_false (by omega)
                clear hn1
                go_wp2_with (first
                  | (go_at_call 19; have hx := HH.out.align_not n HN1.out; (with_reducible refine hx.mono ?_); clear hx; rintro e w6 ⟨rfl, h6⟩; have H6 := Aside0.mk h6; have k16 := h6.at9 1 rfl; have f16 := h6.vw.frozen; have c16 := h6.vw.cell; clear h6 k1))
                go_meet
                exact (H6.out.setw 0).mid (by omega)
              · obtain ⟨q, rfl⟩ := Int.eq_ofNat_of_zero_le (show 0 ≤ n by omega)
                have HQ1 : Aside0 (1 ≤ q) := ⟨by omega⟩
                have HG5 : Aside0 ((gap L.length q : Int) ≤ 5000 ∨ M < gap L.length q) := ⟨by have := gap_lt L.length q HQ1.out; have := HQ3.out; omega⟩
                obtain ⟨L7, o7, a7, b7, hR⟩ : ∃ L7 o7 a7 b7, growF M L over (gap L.length q) = (L7, o7, a7, b7) := ⟨_, _, _, _, rfl⟩
                have HR7 := Aside0.mk hR
                have d1 : decide ((0 : Int) < (q : Int)) = true := decide_eq_true (by omega)
                have d1' : decide (0 < q) = true := decide_eq_true (by omega)
                obtain ⟨Ab, cb, hvb⟩ := own_slice HH.out.own
                subst hvb
                clear hn1 hR
                go_upto_region 36 with (first
                  | (go_at_call 19; have hx := HH.out.align' q HR7.out HQ1.out (by have := HNQ.out; omega) HMB.out HLM.out HG5.out; (with_reducible refine hx.mono ?_); clear hx; rintro e w6 ⟨rfl, v6, h6⟩; have H6 := Aside0.mk h6; have k16 := h6.at9 1 rfl; have b16 := h6.bx.cell; clear h6 k1))
                obtain ⟨m1, hm1⟩ : ∃ m1, L.length % q = m1 := ⟨_, rfl⟩
                obtain ⟨m2, hm2⟩ : ∃ m2, q - m1 = m2 := ⟨_, rfl⟩
                have hm1q : m1 < q := by rw [← hm1]; exact Nat.mod_lt _ HQ1.out
                have t1 : (L.length : Int).tmod (q : Int) = (m1 : Int) := by rw [Int.tmod_eq_emod_of_nonneg (Int.natCast_nonneg _), ← Int.natCast_emod, hm1]
                have s1 : IntKind.i64.wrap (m1 : Int) = (m1 : Int) := by rw [IntKind.wrap_i64]; have := HNQ.out; omega
                have s2 : IntKind.i64.wrap ((q : Int) - (m1 : Int)) = (m2 : Int) := by rw [IntKind.wrap_i64]; have := HNQ.out; omega
                have t2 : (m2 : Int).tmod (q : Int) = (gap L.length q : Int) := by rw [Int.tmod_eq_emod_of_nonneg (Int.natCast_nonneg _), ← Int.natCast_emod, ← hm2, ← hm1]; rfl
                have s3 : IntKind.i64.wrap (gap L.length q : Int) = (gap L.length q : Int) := by rw [IntKind.wrap_i64]; have := HNQ.out; have := gap_lt L.length q HQ1.out; omega
                have hz : ((q : Int) == 0) = false := by have := HQ1.out; simp; omega
                have hz2 : (q == 0) = false := by have := HQ1.out; simp; omega
                have hz3 : ((q : Int) = 0) = False := eq_false (by have := HQ1.out; omega)
                have hz4 : (q = 0) = False := eq_false (by have := HQ1.out; omega)
                clear hm1 hm2 hm1q
                go_still_tail 12, (by kernel_rfl)
                change wpList _ _ _ _ _ w6.drew
                have H6d := Aside0.mk (H6.out.kept (below_drew (Below.refl w6.heap.size w6)))
                clear b16 k16 t1 s1 s2 t2 s3 hz hz2 hz3 hz4
                go_wp2_with (first
                  | (go_at_call 39; have hx := H6d.out.grow' HR7.out HMB.out HLM.out HG5.out; (with_reducible refine hx.mono ?_); clear hx; rintro e w8 ⟨rfl, vb8, h8⟩; have H8 := Aside0.mk h8; have f8 := h8.vw.frozen; have c8 := h8.vw.cell; clear h8))
                go_meet
                exact (H8.out.setw 0).mid (growF_len HR7.out HG5.out)
            · as_aux_lemma =>
              have e0 : (r == 0) = false := by simp [q.1]
              have e1 : (r == 1) = false := by simp [q.2.1]
              have e2 : (r == 2) = false := by simp [q.2.2.1]
              have e3 : (r == 3) = false := by simp [q.2.2.2]
              have HRS := Aside0.mk (refsized_f sz)
              have HRW := Aside0.mk (refwithin_f L.length (by have := HLM.out; omega) n sz)
              clear q hr5 wr5 k4
              cases over with
              | true =>
                clear HRS HRW
                go_wp2_with (first
                  | (go_at_call 20; have hx := HH.out.set_over_ n sz num; (with_reducible refine hx.mono ?_); clear hx; rintro e w6 ⟨rfl, h6⟩; have H6 := Aside0.mk h6; have o6 := h6.vo.cell; have f6 := h6.vi.frozen; have c6 := h6.vi.cell; have i6 := (h6.seti false).vi.cell; clear h6 k1 k2 k3))
                go_meet
                exact (H6.out.seti false).mid (by omega)
              | false =>
                by_cases hin : sizedB sz = true ∧ withinB L.length n sz = true
                · obtain ⟨i1, i2⟩ := hin
                  obtain ⟨a0, _, hle⟩ := (withinB_iff _ _ _).1 i2
                  obtain ⟨s1, s8⟩ := sized_le i1
                  obtain ⟨i, rfl⟩ := Int.eq_ofNat_of_zero_le a0
                  obtain ⟨t, rfl⟩ := Int.eq_ofNat_of_zero_le (show 0 ≤ sz by omega)
                  rw [i1] at HRS
                  rw [i2] at HRW
                  have HPL : Aside0 (i + t ≤ L.length) := ⟨by omega⟩
                  have HPUT := Aside0.mk (refput_f num (t : Int) (by omega) s8)
                  have HSV : Aside0 (storeV L (i : Int) (t : Int) num = (true, put_ L i (leB num t))) := ⟨by unfold storeV put_; rw [i1, i2]; simp only [Bool.and_self, if_true, Int.toNat_natCast, leB_length]⟩
                  obtain ⟨Ab, cb, hvb⟩ := own_slice HH.out.own
                  subst hvb
                  have hil : (i : Int) ≤ (L.length : Int) := by omega
                  clear a0 hle s1 s8 i1 i2
                  go_upto_region 16 with (first
                    | (go_at_call 20; have hx := HH.out.set_ (i : Int) (t : Int) num (by have := HLM.out; omega); rw [HSV.out] at hx; (with_reducible refine hx.mono ?_); clear hx; rintro e w6 ⟨rfl, h6⟩; have H6 := Aside0.mk h6; have o6 := h6.vo.cell; have k26 := h6.at9 2 rfl; clear h6 k1 k2 k3))
                  go_upto_region 17 with (first
                    | (go_at_call 40; (with_reducible refine (transomref01_Sized.calls _ _ _ HRS.out).mono ?_); rintro e w7 ⟨rfl, hd⟩; have H7 := Aside0.mk (H6.out.kept hd.below); have b7 := H7.out.bx.cell; have k17 := H7.out.at9 1 rfl; have k27 := H7.out.at9 2 rfl; clear hd k26 o6)
                    | (go_at_call 31; (with_reducible refine (transomref01_Within.calls _ _ _ _ _ HRW.out).mono ?_); rintro e w8 ⟨rfl, hd⟩; have H8 := Aside0.mk (H7.out.kept hd.below); have f8 := H8.out.vi.frozen; have c8 := H8.out.vi.cell; clear hd b7 k17 k27))
                  obtain ⟨w9, hw9⟩ : ∃ w9, w8.setCell ⟨gi, 0, none⟩ (.bool true) = w9 := ⟨_, rfl⟩
                  have H9 : Aside0 (Half w w9 g gm gb go gw gi g9 M #[.int .i64 kd, .int .i64 (i : Int), .int .i64 (t : Int), .int .u64 num, .slice A' D.length c'] (put_ L i (leB num t)) false v L false (.slice Ab L.length cb) 0 true) := ⟨by rw [← hw9]; exact H8.out.seti true⟩
                  rw [hw9]
                  clear hw9 f8 c8
                  have i9 := H9.out.vi.cell
                  have b9 := H9.out.bx.cell
                  have k19 := H9.out.at9 1 rfl
                  have k29 := H9.out.at9 2 rfl
                  have k39 := H9.out.at9 3 rfl
                  have hct := cut_at Ab cb L.length i (by have := HPL.out; omega)
                  obtain ⟨A3, hA3⟩ : ∃ A3, (if cb = i then Ab else Ab.map (·.add i)) = A3 := ⟨_, rfl⟩
                  rw [hA3] at hct
                  have HCP : Aside0 (∀ W, Below w9.heap.size w9 W → ∀ (A5 : Option Addr) (c5 : Nat), Kd.C (Kd.int .u8) W A5 (leB num t).length (leB num t) →
                      ∃ W1, (Builtin.copy_ #[23, 23] 3 #[.slice A3 (L.length - i) (cb - i), .slice A5 (leB num t).length c5]).run Try.prog W = .ok (.int .i64 ((leB num t).length : Int)) W1 ∧
                        Half w W1 g gm gb go gw gi g9 M #[.int .i64 kd, .int .i64 (i : Int), .int .i64 (t : Int), .int .u64 num, .slice A' D.length c'] (put_ L i (leB num t)) false v (put_ L i (leB num t)) false (.slice Ab L.length cb) 0 true) := ⟨fun W hW A5 c5 hr => by
                    obtain ⟨W1, hcp, h9⟩ := (H9.out.kept hW).copy i (leB num t) (by rw [leB_length]; exact HPL.out) A5 c5 hr
                    rw [hA3] at hcp
                    exact ⟨W1, hcp, h9⟩⟩
                  clear hA3
                  go_upto_region 18 with (fail)
                  clear i9
                  go_region_held3 (fun W => W.cell? ⟨gb, 0, none⟩ = some (.slice Ab L.length cb) ∧ W.cell? ⟨g9, 1, none⟩ = some (.int .i64 (i : Int)) ∧ W.cell? ⟨g9, 3, none⟩ = some (.int .u64 num) ∧ W.cell? ⟨g9, 2, none⟩ = some (.int .i64 (t : Int)))
                    (first | go_keep | exact ⟨b10, k110, k310, k210⟩ | exact ⟨b11, k111, k311, k211⟩)
                    (first
                    | (go_at_call 41; (with_reducible refine (transomref01_Put.calls 10 _ _ _ _ HPUT.out).mono ?_); rintro e w10 ⟨v10, rfl, hr10, hb10⟩; obtain ⟨A5, c5, rfl⟩ := Kd.R_slice hr10; have hb90 := below_then (below_drew (Below.refl w9.heap.size w9)) (Nat.le_refl _) hb10; have b10 := (H9.out.kept hb90).bx.cell; have k110 := (H9.out.kept hb90).at9 1 rfl; have k210 := (H9.out.kept hb90).at9 2 rfl; have k310 := (H9.out.kept hb90).at9 3 rfl
                       obtain ⟨w11, hcp, h11⟩ := HCP.out w10 hb90 A5 c5 (Kd.R_reads' hr10).2.2; have H11 := Aside0.mk h11; have b11 := h11.bx.cell; have k111 := h11.at9 1 rfl; have k211 := h11.at9 2 rfl; have k311 := h11.at9 3 rfl; clear hr10 hb10 h11 hb90))
                  all_goals
                    go_wp2
                    go_meet
                    exact H11.out.mid (by rw [put_length L i _ (by rw [leB_length]; exact HPL.out)]; omega)
                · have hff : (sizedB sz && withinB L.length n sz) = false := by
                    revert hin; cases sizedB sz <;> cases withinB L.length n sz <;> simp
                  have HSV : Aside0 (storeV L n sz num = (false, L)) := ⟨by unfold storeV; rw [hff]; rfl⟩
                  obtain ⟨Ab, cb, hvb⟩ := own_slice HH.out.own
                  subst hvb
                  clear hff
                  cases hsz : sizedB sz with
                  | false =>
                    rw [hsz] at HRS
                    clear hin hsz HRW
                    go_upto_region 16 with (first
                      | (go_at_call 20; have hx := HH.out.set_ n sz num (by have := HLM.out; omega); rw [HSV.out] at hx; (with_reducible refine hx.mono ?_); clear hx; rintro e w6 ⟨rfl, h6⟩; have H6 := Aside0.mk h6; have o6 := h6.vo.cell; have k26 := h6.at9 2 rfl; clear h6 k1 k2 k3))
                    go_upto_region 17 with (first
                      | (go_at_call 40; (with_reducible refine (transomref01_Sized.calls _ _ _ HRS.out).mono ?_); rintro e w7 ⟨rfl, hd⟩; have H7 := Aside0.mk (H6.out.kept hd.below); have f7 := H7.out.vi.frozen; have c7 := H7.out.vi.cell; clear hd k26 o6))
                    obtain ⟨w9, hw9⟩ : ∃ w9, w7.setCell ⟨gi, 0, none⟩ (.bool false) = w9 := ⟨_, rfl⟩
                    have H9 : Aside0 (PlayMid w g gm gb go gw gi M (L.length + 5000) (.int .i64 0) (.bool false) w9 ∧ Var w9 gi 4 (.bool false)) := ⟨by rw [← hw9]; exact ⟨(H7.out.seti false).mid (by omega), (H7.out.seti false).vi⟩⟩
                    rw [hw9]
                    clear hw9 f7 c7
                    have i9 := H9.out.2.cell
                    go_wp2
                    go_meet
                    exact H9.out.1
                  | true =>
                    have hw2 : withinB L.length n sz = false := by
                      cases h2 : withinB L.length n sz with
                      | false => rfl
                      | true => exact absurd ⟨hsz, h2⟩ hin
                    rw [hsz] at HRS
                    rw [hw2] at HRW
                    clear hin hsz hw2
                    go_upto_region 16 with (first
                      | (go_at_call 20; have hx := HH.out.set_ n sz num (by have := HLM.out; omega); rw [HSV.out] at hx; (with_reducible refine hx.mono ?_); clear hx; rintro e w6 ⟨rfl, h6⟩; have H6 := Aside0.mk h6; have o6 := h6.vo.cell; have k26 := h6.at9 2 rfl; clear h6 k1 k2 k3))
                    go_upto_region 17 with (first
                      | (go_at_call 40; (with_reducible refine (transomref01_Sized.calls _ _ _ HRS.out).mono ?_); rintro e w7 ⟨rfl, hd⟩; have H7 := Aside0.mk (H6.out.kept hd.below); have b7 := H7.out.bx.cell; have k17 := H7.out.at9 1 rfl; have k27 := H7.out.at9 2 rfl; clear hd k26 o6)
                      | (go_at_call 31; (with_reducible refine (transomref01_Within.calls _ _ _ _ _ HRW.out).mono ?_); rintro e w8 ⟨rfl, hd⟩; have H8 := Aside0.mk (H7.out.kept hd.below); have f8 := H8.out.vi.frozen; have c8 := H8.out.vi.cell; clear hd b7 k17 k27))
                    obtain ⟨w9, hw9⟩ : ∃ w9, w8.setCell ⟨gi, 0, none⟩ (.bool false) = w9 := ⟨_, rfl⟩
                    have H9 : Aside0 (PlayMid w g gm gb go gw gi M (L.length + 5000) (.int .i64 0) (.bool false) w9 ∧ Var w9 gi 4 (.bool false)) := ⟨by rw [← hw9]; exact ⟨(H8.out.seti false).mid (by omega), (H8.out.seti false).vi⟩⟩
                    rw [hw9]
                    clear hw9 f8 c8
                    have i9 := H9.out.2.cell
                    go_wp2
                    go_meet
                    exact H9.out.1
          case rest =>
            as_aux_lemma =>
              obtain ⟨L2, over2, v2, vb2, at_, ok, rfl, rfl, hb, hgw2, hgi2, hl2⟩ := hcut
              have HB6 := Aside0.mk hb
              have HL2 := Aside0.mk hl2
              obtain ⟨A2, c2, rfl⟩ := own_slice hb.own
              have q1 := hgw2.cell
              have q2 := hgi2.cell
              have q3 := hb.bx.cell
              have q4 := hb.vo.cell
              have n1 : (at_ != at_) = false := bne_self_eq_false _
              have n2 : (ok != ok) = false := bne_self_eq_false _
              have n3 : (over2 != over2) = false := bne_self_eq_false _
              have n4 : ((L2.length : Int) != (L2.length : Int)) = false := bne_self_eq_false _
              clear hgw2 hgi2 hb hl2 k5 HSK HX5 HX4 HW5 HI5 HGG hr5 wr5
              go_upto_region 38 with (fail)
              go_quiet (first
                | (go_at_call 18; exact quietEq (over_some _ (Arn.drewN HB6.out.arn _)))
                | (go_at_call 17; exact quietEq (len_some _ (Arn.drewN HB6.out.arn _))))
              have HLM : Aside0 (L2.length ≤ 140737488355328) := ⟨by have := HL2.out; have := HLEN.out; have := HI.out; omega⟩
              have HREL : Aside0 (∀ W, Below wc.heap.size wc W → PlayRound w g gm gb go M acts.length (.int .i64 ((i : Int) + 1)) W) := ⟨fun W hW =>
                ⟨i + 1, L2, over2, v2, _, by go_num, by omega, by omega, by have := HL2.out; have := HLEN.out; omega, HB6.out.kept hW⟩⟩
              have wi : IntKind.i64.wrap ((i : Int) + 1) = (i : Int) + 1 := by rw [IntKind.wrap_i64]; omega
              clear n1 n2 n3 n4 q1 q2
              cases over2
              · have zz : ((strOfNums L2).toList != (strOfNums L2).toList) = false := bne_self_eq_false _
                go_upto_region 43 with (first
                  | (go_at_call 16; (with_reducible refine (bytes_some _ (Arn.drewN HB6.out.arn _) HLM.out).mono ?_); rintro e w7 ⟨A7, c7, rfl, ho7, hb7⟩
                     have HO7 := Aside0.mk ho7; have HB7 := Aside0.mk (below_then (pw_below_drewN (Below.refl wc.heap.size wc) _) (pw_below_drewN (Below.refl wc.heap.size wc) _).size hb7); have q37 := (Var.kept (HB6.out.bx) HB7.out).cell; have q47 := (Var.kept (HB6.out.vo) HB7.out).cell; clear ho7 hb7 q3 q4
                     have vs1 := Kd.C_string (P := Try.prog) (c := c7) Try.underlying23 Try.underlying5 Try.underlying9 (Kd.C_of_reads (d := (0 : Int)) (h1 := fun _ => rfl) (own_reads' HO7.out))
                     have vs2 := Kd.C_string (P := Try.prog) (c := c2) Try.underlying23 Try.underlying5 Try.underlying9 (Kd.C_of_reads (d := (0 : Int)) (h1 := fun _ => rfl) (own_reads' (pw_own_below HB6.out.own HB7.out)))))
                clear vs1 vs2 q37 q47
                by_cases hp : 0 < L2.length
                · obtain ⟨g7, cap7, cur7, hv7, hg7, _, hle7, _, hh7, hcl7, hct7⟩ := own_open HO7.out hp
                  injection hv7 with e1 _ e2
                  subst e1 e2
                  have HSP : Aside0 (Spoil wc g7 L2.length w7) := ⟨⟨HB7.out, hg7, cur7.toArray, hh7, fun j hj => ⟨L2[j], by rw [List.getElem?_toArray, ← List.getElem?_take_of_lt hj, hct7]; simp [nums, hj]⟩⟩⟩
                  clear hg7 hle7 hh7 hcl7 hct7
                  go_wp2_with (fail)
                  go_loopw [17, 241] (fun v17 v241 ws => ∃ k : Nat, v241 = .int .i64 k ∧ k ≤ L2.length ∧ Spoil wc g7 L2.length ws) (fun _ v241 _ => L2.length - (intOf v241).toNat)
                  case atStart => exact ⟨0, rfl, Nat.zero_le _, HSP.out⟩
                  case round =>
                    obtain ⟨k, rfl, hk, hsp⟩ := hrel
                    have HS := Aside0.mk hsp
                    have HK := Aside0.mk hk
                    obtain ⟨hbs, hgs, cur, hcs, hx⟩ := hsp
                    have HCS := Aside0.mk hcs
                    have HX := Aside0.mk hx
                    have HBS := Aside0.mk hbs
                    clear hbs hgs hcs hx hk
                    by_cases hlt : k < L2.length
                    · obtain ⟨x, hxk⟩ := HX.out k hlt
                      have c3 : wr.cell? ⟨g7, k, none⟩ = some (.int .u8 x) := (blk_cell HCS.out k).trans hxk
                      have f3 := blk_frozen HCS.out k
                      have d4 : decide (k < L2.length) = true := decide_eq_true hlt
                      have d5 : decide ((k : Int) < (L2.length : Int)) = true := decide_eq_true (by omega)
                      have wk : IntKind.i64.wrap ((k : Int) + 1) = (k : Int) + 1 := by rw [IntKind.wrap_i64]; have := HLM.out; omega
                      clear hxk
                      go_wp2_with (fail)
                      go_roundw
                      case rel => exact ⟨k + 1, by go_num, by omega, HS.out.set k _⟩
                      case measure => simp [intOf]; omega
                    · have d4 : decide (k < L2.length) = false := decide_eq_false hlt
                      have d5 : decide ((k : Int) < (L2.length : Int)) = false := decide_eq_false (by omega)
                      go_wp2_with (fail)
                      go_roundw
                      case rel => exact HREL.out _ HBS.out
                      case measure => simp [intOf]; omega
                · have hz : L2.length = 0 := by omega
                  have HZ := Aside0.mk hz
                  obtain rfl : L2 = [] := List.eq_nil_of_length_eq_zero hz
                  clear hz hp
                  go_wp2_with (fail)
                  go_loopw [17, 241] (fun v17 v241 ws => v241 = .int .i64 0 ∧ Below wc.heap.size wc ws) (fun _ v241 _ => 0)
                  case atStart => exact ⟨rfl, HB7.out⟩
                  case round =>
                    obtain ⟨rfl, hbw⟩ := hrel
                    have HBW := Aside0.mk hbw
                    clear hbw
                    go_wp2_with (fail)
                    go_roundw
                    case rel => exact HREL.out _ HBW.out
                    case measure => simp [intOf]; omega
              · go_wp2_with (first
                  | (go_at_call 16; (with_reducible refine (bytes_over _ (Arn.drewN HB6.out.arn _)).mono ?_); rintro e w7 ⟨rfl, rfl⟩))
                go_loopw [17, 241] (fun v17 v241 ws => v241 = .int .i64 0 ∧ Below wc.heap.size wc ws) (fun _ v241 _ => 0)
                case atStart => exact ⟨rfl, pw_below_drewN (Below.refl wc.heap.size wc) _⟩
                case round =>
                  obtain ⟨rfl, hbw⟩ := hrel
                  have HBW := Aside0.mk hbw
                  clear hbw
                  go_wp2_with (fail)
                  go_roundw
                  case rel => exact HREL.out _ HBW.out
                  case measure => simp [intOf]; omega
      · have three : 500 < D.length ∨ (D.length ≤ 500 ∧ r = 0 ∧ 5000 < n ∧ n ≤ M) ∨ (D.length ≤ 500 ∧ r = 3 ∧ 5000 < n ∧ 5000 < M) := by omega
        have HREL : Aside0 (PlayRound w g gm gb go M acts.length (.int .i64 ((i : Int) + 1)) w4) := ⟨⟨i + 1, L, over, v, vb, by go_num, by omega, by omega, by have := HLEN.out; omega, HB4.out⟩⟩
        have wi : IntKind.i64.wrap ((i : Int) + 1) = (i : Int) + 1 := by rw [IntKind.wrap_i64]; omega
        clear hr55 hsk
        rcases three with p1 | ⟨p1, p2, p3, p4⟩ | ⟨p1, p2, p3, p4⟩
        · have d3 : decide (500 < D.length) = true := decide_eq_true (by omega)
          have d3' : decide ((500 : Int) < (D.length : Int)) = true := decide_eq_true (by omega)
          go_wp2_with (fail)
          go_roundw
          case rel => exact HREL.out
          case measure => simp [intOf]; omega
        · have d3 : decide (500 < D.length) = false := decide_eq_false (by omega)
          have d3' : decide ((500 : Int) < (D.length : Int)) = false := decide_eq_false (by omega)
          have e0 : (r == 0) = true := by simp [p2]
          have e3 : (r == 3) = false := by simp [p2]
          have e1 : decide (5000 < n) = true := decide_eq_true p3
          have e2 : decide (n ≤ M) = true := decide_eq_true p4
          clear p2
          go_wp2_with (fail)
          go_roundw
          case rel => exact HREL.out
          case measure => simp [intOf]; omega
        · have d3 : decide (500 < D.length) = false := decide_eq_false (by omega)
          have d3' : decide ((500 : Int) < (D.length : Int)) = false := decide_eq_false (by omega)
          have e0 : (r == 0) = false := by simp [p2]
          have e3 : (r == 3) = true := by simp [p2]
          have e1 : decide (5000 < n) = true := decide_eq_true p3
          have e2 : decide (5000 < M) = true := decide_eq_true p4
          clear p2
          go_wp2_with (fail)
          go_roundw
          case rel => exact HREL.out
          case measure => simp [intOf]; omega
    · have two : acts.length ≤ i ∨ (i < acts.length ∧ 200 ≤ i) := by omega
      clear hlt
      rcases two with h1 | ⟨h1, h2⟩
      · have d1 : decide (i < acts.length) = false := decide_eq_false (by omega)
        have d1' : decide ((i : Int) < (acts.length : Int)) = false := decide_eq_false (by omega)
        go_wp2_with (fail)
        go_ret
        exact ⟨rfl, HB.out.below⟩
      · have d1 : decide (i < acts.length) = true := decide_eq_true h1
        have d1' : decide ((i : Int) < (acts.length : Int)) = true := decide_eq_true (by omega)
        have d2 : decide ((i : Int) < 200) = false := decide_eq_false (by omega)
        go_wp2_with (fail)
        go_ret
        exact ⟨rfl, HB.out.below⟩
theorem ArenaPlays_walk (a0 : Int) (a1 : Option Addr) (len1 cap1 : Nat) (z1 : List Play) (w : World) (w0 : (Lit.int .i64 a0).wf = true) (K1 : (Kd.slice 62 KPlay).K w z1 (Value.slice a1 len1 cap1).cells.toList)
    (wf1 : z1.length ≤ maxLen ∧ ∀ x ∈ z1, (Lit.int .i64 x.1).wf = true ∧ (Lit.int .i64 x.2.1).wf = true ∧ (Lit.int .i64 x.2.2.1).wf = true ∧ (Lit.int .u64 x.2.2.2.1).wf = true ∧ (x.2.2.2.2.length ≤ maxLen ∧ ∀ y ∈ x.2.2.2.2, (Lit.int .u8 y).wf = true)) :
    Calls Try.prog 10 #[.int .i64 a0, .slice a1 len1 cap1] w fun e w' => e = .returned (.bool true) ∧ Below w.heap.size w w' := by
  obtain ⟨A, c, he, hc, hC⟩ := K1
  have he' : Value.slice a1 len1 cap1 = .slice A z1.length c := by simpa [Value.cells] using he
  rw [he']
  exact plays_any A c z1 a0 w (U.wf_i64 w0) hC hc (fun p hp => (U.wf_i64 (wf1.2 p hp).2.1).2)
end Go.Proofs.Ytgabfoafchnpiaa.Hand
