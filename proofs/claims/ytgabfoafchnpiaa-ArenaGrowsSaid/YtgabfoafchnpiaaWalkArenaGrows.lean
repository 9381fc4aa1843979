/- ArenaGrows: the walk of the law 'pieces stand one behind the other; the one that has no room ends it'. -/
import Derived.Test.YtgabfoafchnpiaaWalkArenaNil
import Derived.Test.YtgabfoafchnpiaaOpen
namespace Go.Proofs.Ytgabfoafchnpiaa.Hand
open Go.RowKit Go.Proofs.Ytgabfoafchnpiaa.QAll Go.Proofs.YtgabfoafchnpiaaW.PrintWords Go.Proofs.YtgabfoafchnpiaaW.PrintLast Go.Proofs.YtgabfoafchnpiaaW.PrintMore Go.Proofs.Ytgabfoafchnpiaa.Nums
set_option linter.unusedVariables false
set_option linter.unusedSimpArgs false

theorem C_block {w : World} {n : Nat} {A : Option Addr} {bs : List Int} (hr : Kd.C (Kd.int .u8) w A n bs) : ∀ ad, A = some ad → 0 < n → ad.block < w.heap.size := by
  intro ad e hp
  have hR := Kd.reads_of_C (enc := Value.int .u8) (d := (0 : Int)) (h1 := fun _ => rfl) hr
  obtain ⟨ad', e', hc⟩ := hR.2.2 hp
  rw [e] at e'; injection e' with e'; subst e'
  have hb := World.block_lt_of_cell? w _ (hc 0 hp)
  rwa [block_add] at hb

theorem strOfNums_app (a b : List Int) : strOfNums a ++ strOfNums b = strOfNums (a ++ b) := by
  apply ByteArray.ext
  rw [ByteArray.data_append]
  unfold strOfNums
  simp
theorem take_flat (parts : List (List Int)) (i : Nat) (h : i < parts.length) : (parts.take (i + 1)).flatten = (parts.take i).flatten ++ parts[i] := by
  rw [List.take_succ_eq_append_getElem h, List.flatten_append]; simp

/-- What stands at the head of a round. -/
def GrowRound (parts : List (List Int)) (most : Int) (w1 : World) (g : Nat) (v6 v7 : Value) (wr : World) : Prop :=
  ∃ (i : Nat) (v : Value), v6 = .string (strOfNums (parts.take i).flatten) ∧ v7 = .int .i64 i ∧ i ≤ parts.length ∧ i ≤ 100 ∧ ((parts.take i).flatten.length : Int) ≤ most ∧ Arn w1.heap.size wr g v (parts.take i).flatten most false ∧ Below w1.heap.size w1 wr

attribute [local go_sem] max2_int min2_int max_two min_two
set_option maxHeartbeats 6400000 in
set_option maxRecDepth 100000 in
theorem grows_any (A : Option Addr) (c : Nat) (parts : List (List Int)) (m : Int) (w : World) (hm : -9223372036854775808 ≤ m ∧ m < 9223372036854775808)
    (hr : Kd.C (Kd.slice 5 (Kd.int .u8)) w A parts.length parts) (hc : parts.length ≤ c) :
    Calls Try.prog 4 #[.slice A parts.length c, .int .i64 m] w fun e w' => e = .returned (.bool true) ∧ Below w.heap.size w w' := by
  have HR := Aside0.mk hr
  have HC := Aside0.mk hc
  have HM := Aside0.mk hm
  have hmax := Kd.C_max hr
  obtain ⟨q, hq⟩ : ∃ q, wrap64 ((IntKind.u64.wrap m).tmod 4000) = q := ⟨_, rfl⟩
  have hq0 : 0 ≤ q ∧ q < 4000 := by
    have h1 := U.wrap_u64 m
    have h2 : 0 ≤ IntKind.u64.wrap m := by rw [h1]; omega
    rw [Int.tmod_eq_emod_of_nonneg h2] at hq
    have h3 : 0 ≤ (IntKind.u64.wrap m) % 4000 ∧ (IntKind.u64.wrap m) % 4000 < 4000 := by omega
    rw [← hq]; unfold wrap64; omega
  have HQ := Aside0.mk hq0
  clear hr hc hm
  go_enter Try.func4, Try.ntmps4
  go_upto_region 4 with (first
    | (go_at_call 12; (with_reducible refine (awake02 _).mono ?_); rintro e w1 ⟨rfl, hb⟩; have HB1 := Aside0.mk hb; clear hb))
  rw [hq]
  clear hq
  go_wp2_with (first
    | (go_at_call 21; (with_reducible refine (new_arena q HQ.out.1 _).mono ?_); rintro e w2 ⟨g, rfl, ha, hb⟩; have HA2 := Aside0.mk ha; have HB2 := Aside0.mk hb; clear ha hb))
  go_loopw [6, 7] (fun v6 v7 wr => GrowRound parts q w1 g v6 v7 wr) (fun _ v7 _ => parts.length - (intOf v7).toNat)
  case atStart =>
    exact ⟨0, _, rfl, rfl, Nat.zero_le _, by omega, by have := HQ.out; simpa using this.1, HA2.out, HB2.out⟩
  case round =>
    obtain ⟨i, v, rfl, rfl, hi, h100, hlen, ha, hb⟩ := hrel
    obtain ⟨L, hL⟩ : ∃ L, (parts.take i).flatten = L := ⟨_, rfl⟩
    rw [hL] at ha hlen ⊢
    have HI := Aside0.mk (And.intro hi h100)
    have HA := Aside0.mk ha
    have HB := Aside0.mk hb
    have HLL := Aside0.mk hL
    have HLE := Aside0.mk hlen
    have hBW := Aside0.mk (below_then HB1.out HB1.out.size hb)
    clear hi h100 ha hb hL hlen
    by_cases hlt : i < parts.length ∧ i < 100
    · obtain ⟨h1, h2⟩ := hlt
      obtain ⟨ad, cc, rfl, _, hk, hcell⟩ := Kd.C_get HR.out [] (i : Int) (by omega) (by omega)
      obtain ⟨p, hp⟩ : ∃ p, parts[i] = p := ⟨_, rfl⟩
      have hgd : parts.getD ((i : Int)).toNat [] = p := by
        rw [show ((i : Int)).toNat = i from rfl, List.getD_eq_getElem?_getD, List.getElem?_eq_getElem h1]; exact hp
      rw [hgd] at hk
      obtain ⟨A', c', rfl, hpc, hpr⟩ := hk
      have hx0 : w.cell? (ad.add i) = some (.slice A' p.length c') := by
        have h3 := hcell 0 _ rfl
        rwa [show ((i : Int)).toNat * (Kd.slice 5 (Kd.int .u8)).sz + 0 = i by show i * 1 + 0 = i; omega] at h3
      have hxr := pw_cell_below hBW.out hx0
      have HX0 := Aside0.mk hx0
      have HPR := Aside0.mk hpr
      have HPC := Aside0.mk hpc
      have HP := Aside0.mk hp
      have HBL := Aside0.mk (C_block hpr)
      have hsz : (strOfNums L).size = L.length := strOfNums_size L
      have d1 : decide (i < parts.length) = true := decide_eq_true h1
      have d2 : decide ((i : Int) < 100) = true := decide_eq_true (by omega)
      clear hcell hgd hx0 hpr hpc hp
      by_cases hbig : 1000 < p.length
      · have d3 : decide (1000 < p.length) = true := decide_eq_true hbig
        have d4 : decide ((1000 : Int) < (p.length : Int)) = true := decide_eq_true (by omega)
        go_wp2
        go_ret
        exact ⟨rfl, hBW.out⟩
      · have d3 : decide (1000 < p.length) = false := decide_eq_false hbig
        have d4 : decide ((1000 : Int) < (p.length : Int)) = false := decide_eq_false (by omega)
        have hLE := HLE.out
        have hQ := HQ.out
        by_cases hfit : (L.length : Int) + (p.length : Int) ≤ q
        · have hszp : (strOfNums p).size = p.length := strOfNums_size p
          have lm1 := eq_true (show L.length + p.length ≤ 9223372036854775807 by omega)
          have lm2 := eq_false (show ¬ 9223372036854775807 < L.length + p.length by omega)
          have HN := Aside0.mk (next_good (L.length : Int) (p.length : Int) q (by omega) (by omega) (by omega) (by omega) (by omega))
          have HNE : Aside0 (∀ ad, A' = some ad → 0 < p.length → ad.block ≠ g ∧ some ad.block ≠ v.ownBlock) := ⟨fun ad e hp0 => by
            have h3 := HBL.out ad e hp0
            have h4 := HB1.out.size
            refine ⟨fun e2 => ?_, fun e2 => ?_⟩
            · have := HA.out.2.1; omega
            · have := own_base HA.out.2.2 _ e2.symm; omega⟩
          go_wp2_with (go_at_call 14; (with_reducible refine (put_yes A' c' _ HA.out HB.out.size (Kd.C_below HPR.out hBW.out) HNE.out (by omega) HN.out).mono ?_); rintro e w3 ⟨rfl, v3, ha, hs⟩; have HB3 := Aside0.mk (HB.out.trans (HA.out.below HB.out.size hs)); have HA3 := Aside0.mk ha; have HBW3 := Aside0.mk (below_then HB1.out HB1.out.size HB3.out); have hx3 := pw_cell_below HBW3.out HX0.out; have v9 := Kd.C_string (P := Try.prog) (c := c') Try.underlying23 Try.underlying5 Try.underlying9 (Kd.C_below HPR.out HBW3.out); clear ha hs)
          go_roundw
          case rel =>
            refine ⟨i + 1, v3, ?_, by go_num, by omega, by omega, ?_, ?_, HB3.out⟩
            · rw [take_flat parts i h1, HLL.out, HP.out, ← strOfNums_app]
            · rw [take_flat parts i h1, HLL.out, HP.out, List.length_append]; omega
            · rw [take_flat parts i h1, HLL.out, HP.out]; exact HA3.out
          case measure => simp [intOf]; omega
        · have HN := Aside0.mk (next_bad (L.length : Int) (p.length : Int) q (.inr (.inr (.inr ⟨by omega, by omega, by omega, by omega⟩))))
          go_wp2_with (first
            | (go_at_call 14; (with_reducible refine (put_no A' p.length c' _ HA.out HN.out).mono ?_); rintro e w3 ⟨rfl, ha, hs⟩; have HB3 := Aside0.mk (HB.out.trans (HA.out.below HB.out.size hs)); have HA3 := Aside0.mk ha; have HBW3 := Aside0.mk (below_then HB1.out HB1.out.size HB3.out); have hx3 := pw_cell_below HBW3.out HX0.out; clear ha hs)
            | (go_at_call 16; (with_reducible refine (bytes_over _ HA3.out).mono ?_); rintro e w5 ⟨rfl, rfl⟩)
            | (go_at_call 17; (with_reducible refine (len_some _ HA3.out).mono ?_); rintro e w5 ⟨rfl, rfl⟩)
            | (go_at_call 18; (with_reducible refine (over_some _ HA3.out).mono ?_); rintro e w5 ⟨rfl, rfl⟩))
          go_ret
          exact ⟨by simp, HBW3.out⟩
    · have hnot : ¬ (i < parts.length ∧ i < 100) := hlt
      have HQ' := HQ.out
      have hLE := HLE.out
      have z9 : ((strOfNums L).toList == (strOfNums L).toList) = true := beq_self_eq_true _
      have two : parts.length ≤ i ∨ (i < parts.length ∧ 100 ≤ i) := by omega
      clear hlt hnot
      rcases two with h1 | ⟨h1, h2⟩
      all_goals
        go_wp2_with (go_at_call 16; (with_reducible refine (bytes_some _ HA.out (by omega)).mono ?_); rintro e w5 ⟨A9, c9, rfl, ho, hb⟩; have HB5 := Aside0.mk (below_then hBW.out hBW.out.size hb); have v9 := Kd.C_string (P := Try.prog) (c := c9) Try.underlying23 Try.underlying5 Try.underlying9 (Kd.C_of_reads (d := (0 : Int)) (h1 := fun _ => rfl) (own_reads' ho)); clear ho hb)
        go_ret
        exact ⟨by simp, HB5.out⟩

theorem ArenaGrows_walk (a0 : Option Addr) (len0 cap0 : Nat) (z0 : List (List Int)) (a1 : Int) (w : World) (K0 : (Kd.slice 23 (Kd.slice 5 (Kd.int .u8))).K w z0 (Value.slice a0 len0 cap0).cells.toList)
    (wf0 : z0.length ≤ maxLen ∧ ∀ x ∈ z0, x.length ≤ maxLen ∧ ∀ y ∈ x, (Lit.int .u8 y).wf = true) (w1 : (Lit.int .i64 a1).wf = true) :
    Calls Try.prog 4 #[.slice a0 len0 cap0, .int .i64 a1] w fun e w' => e = .returned (.bool true) ∧ Below w.heap.size w w' := by
  obtain ⟨A, c, he, hc, hC⟩ := K0
  have he' : Value.slice a0 len0 cap0 = .slice A z0.length c := by simpa [Value.cells] using he
  rw [he']
  exact grows_any A c z0 a1 w (U.wf_i64 w1) hC hc
end Go.Proofs.Ytgabfoafchnpiaa.Hand
