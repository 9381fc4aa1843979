/- ScanSigns: the walk of the law. -/
import Derived.Test.YtonekmigcpgdeaaS17
import Derived.Test.YtonekmigcpgdeaaWalkScanHex
namespace Go.Proofs.Ytonekmigcpgdeaa.Hand
open Go.RowKit Go.Proofs.Ytonekmigcpgdeaa.QAll Go.Proofs.YtonekmigcpgdeaaW.PrintWords Go.Proofs.YtonekmigcpgdeaaW.PrintLast Go.Proofs.YtonekmigcpgdeaaW.PrintMore Go.Proofs.Ytonekmigcpgdeaa.Runes
set_option linter.unusedVariables false
set_option linter.unusedSimpArgs false
theorem str_at {W : World} {A : Option Addr} {ws : List ByteArray} (h : Kd.C Kd.string W A ws.length ws) (i : Nat) (hi : i < ws.length) : ∃ ad, A = some ad ∧ W.cell? (ad.add i) = some (.string ws[i]) := by
  have hR := Kd.reads_of_C (enc := Value.string) (d := (⟨#[]⟩ : ByteArray)) (h1 := fun _ => rfl) h
  obtain ⟨ad, e, hc⟩ := hR.2.2 (by omega)
  refine ⟨ad, e, ?_⟩
  rw [hc i hi, List.getD_eq_getElem?_getD, List.getElem?_eq_getElem hi]; rfl
/-- The scanner, behind a step of the reader alone. -/
theorem Both.after {w0 w w' : World} {g m r : Nat} {A1 A2 : Option Addr} {c1 c2 : Nat} {b : List Int} {i : Nat} (hl : Lies w0 g m r A1 A2 b) (h : Both w0 w g m r A1 A2 c1 c2 b i) (ht : Two r r w w') : ∃ left, Scn w' g m A1 c1 b i left ∧ Below w0.heap.size w0 w' := by
  obtain ⟨left, hs⟩ := h.s
  have hb2 : Below w0.heap.size w0 w' := ht.below h.base h.base.size hl.hr hl.hr
  exact ⟨left, ⟨(ht.block g (blk_lt hs.sc) hl.rg.symm hl.rg.symm).trans hs.sc, (ht.block m (blk_lt hs.mt) hl.rm.symm hl.rm.symm).trans hs.mt, hs.ne, fun W hW => Kd.C_below hl.C1 (hW.below hb2 hb2.size hl.hg hl.hm), hs.cap, hs.lim, hs.bud⟩, hb2⟩
theorem two_cell {w w' : World} {g m r i : Nat} {u : Value} (ht : Two g m w.drew w') (hg : r ≠ g) (hm : r ≠ m) (hc : w.cell? ⟨r, i, none⟩ = some u) : w'.cell? ⟨r, i, none⟩ = some u := by
  have hlt : r < w.heap.size := World.block_lt_of_cell? w _ hc
  exact (World.cell?_of_block (a := ⟨r, i, none⟩) (ht.block r hlt hg hm)).trans hc
set_option maxHeartbeats 1600000 in
set_option maxRecDepth 100000 in
theorem signs_large (A A2 : Option Addr) (c c2 n2 : Nat) (b : List Int) (p : Int) (w : World) (hl : b.length ≤ 140737488351232) (h : 3000 < b.length) :
    Calls Try.prog 6 #[.slice A b.length c, .int .i64 p, .slice A2 n2 c2] w fun e w' => e = .returned (.bool true) ∧ Below w.heap.size w w' := by
  have d1 : decide (3000 < b.length) = true := decide_eq_true h
  have d2 : decide (3000 < (b.length : Int)) = true := decide_eq_true (by omega)
  clear h
  go_enter Try.func6, Try.ntmps6
  go_wp2_with (go_at_call 8; (with_reducible refine (awake_any w).mono ?_); rintro e w1 ⟨rfl, hb⟩; have HB := Aside0.mk hb; clear hb)
  go_ret
  exact ⟨rfl, HB.out⟩
set_option maxHeartbeats 6400000 in
set_option maxRecDepth 100000 in
theorem signs_small (A A2 : Option Addr) (c c2 : Nat) (b : List Int) (p : Int) (ws : List ByteArray) (w : World) (hr : Kd.C (Kd.int .u8) w A b.length b) (hc : b.length ≤ c) (hb : ∀ x ∈ b, 0 ≤ x ∧ x < 256)
    (hr2 : Kd.C Kd.string w A2 ws.length ws) (hl : b.length ≤ 3000) :
    Calls Try.prog 6 #[.slice A b.length c, .int .i64 p, .slice A2 ws.length c2] w fun e w' => e = .returned (.bool true) ∧ Below w.heap.size w w' := by
  have d1 : decide (3000 < b.length) = false := decide_eq_false (by omega)
  have d2 : decide (3000 < (b.length : Int)) = false := decide_eq_false (by omega)
  have HR := Aside0.mk hr
  have HC := Aside0.mk hc
  have HBY := Aside0.mk hb
  have HR2 := Aside0.mk hr2
  have HL := Aside0.mk hl
  have hcl := clampN_le p b.length
  have hmm : min (max p 0) (b.length : Int) = ((clampN p b.length : Nat) : Int) := by unfold clampN; omega
  obtain ⟨q, hq⟩ : ∃ q, clampN p b.length = q := ⟨_, rfl⟩
  rw [hq] at hmm hcl
  have HCL := Aside0.mk hcl
  have HQ := Aside0.mk hq
  clear hr hc hb hr2 hl hcl hq
  go_enter Try.func6, Try.ntmps6
  go_upto_region 5 with (go_at_call 8; (with_reducible refine (awake_any w).mono ?_); rintro e w1 ⟨rfl, hb⟩; have HB := Aside0.mk hb; clear hb)
  have HR1 := Aside0.mk (Kd.C_below (Kd.C_below HR.out HB.out) (below_alloc (Below.refl w1.heap.size w1) (.cells #[] 5)))
  go_wp2_with ((with_reducible refine gate_builtin (b := .append) (xs := #[.tmp 18, .tmp 19]) rfl ?_); at_builtin; refine Kd.R_append_row (Value.int .u8) (0 : Int) (h1 := fun _ => rfl) (w0 := w1) w1.heap.size rfl (.tmp 18) (.tmp 19) 24 5 (.int .u8 0) 1 rfl Try.underlying24 info5 rfl (by decide) (.slice (some ⟨w1.heap.size, 0, none⟩) 0 0) [] b A b.length c (fun _ => True) rfl rfl (fun _ _ => trivial) ?o1 ?o2 ?o3 ?o4 ?o5 ?_)
  case o1 => exact empty_R w1
  case o2 => exact HR1.out
  case o3 => exact below_alloc (Below.refl _ _) _
  case o4 => simp
  case o5 => have := HL.out; simp; omega
  intro v2 w2 hr2 hb2 _ _
  obtain ⟨A3, c3, rfl, hc3, hC3⟩ := Kd.R_reads hr2
  have HC3 := Aside0.mk hc3
  have HR3 : Aside0 (Kd.C (Kd.int .u8) w2 A3 b.length b) := ⟨hC3⟩
  have HB2 : Aside0 (Below w.heap.size w w2) := ⟨HB.out.trans (below_from hb2 HB.out.size)⟩
  have HRA : Aside0 (Kd.C (Kd.int .u8) w2 A b.length b) := ⟨Kd.C_below HR.out HB2.out⟩
  clear hr2 hb2 hc3 hC3 HB HR1
  have HOP := Aside0.mk (open_at (w := w2) (A := A3) (c := c3) (b := b) p HR3.out HC3.out (by have := HL.out; omega))
  rw [HQ.out] at HOP
  go_upto_region 7 with (go_at_call 10; (with_reducible refine HOP.out.mono ?_); rintro e w3 ho; obtain ⟨g, m, rfl, hs3, hg3, hm3, hb3⟩ := ho; have HS3 := Aside0.mk hs3; have HG3 := Aside0.mk (And.intro hg3 hm3); have HB3 := Aside0.mk hb3; clear hs3 hg3 hm3 hb3)
  have hr3 : w2.heap.size ≤ w3.heap.size := HB3.out.size
  have hgl : g < w3.heap.size := blk_lt HS3.out.sc
  have hml : m < w3.heap.size := blk_lt HS3.out.mt
  have HLI : Aside0 (Lies w2 g m w3.heap.size A3 A b) := ⟨⟨HG3.out.1, HG3.out.2, hr3, by omega, by omega, HR3.out, HRA.out⟩⟩
  have HBO : Aside0 (Both w2 (w3.alloc (.cells #[.slice none 0 0, .slice none 0 0, .int .i64 0, .slice A b.length c, .int .i64 q, .bool false] 49)) g m w3.heap.size A3 A c3 c b q) := ⟨by
    have hb4 : Below w2.heap.size w2 (w3.alloc (.cells #[.slice none 0 0, .slice none 0 0, .int .i64 0, .slice A b.length c, .int .i64 q, .bool false] 49)) := HB3.out.trans (below_from (below_alloc (Below.refl _ _) _) HB3.out.size)
    exact ⟨⟨_, HS3.out.kept (below_alloc (Below.refl _ _) _)⟩, ⟨heap_alloc_new w3 _, fun W hW => Kd.C_below HRA.out (hW.below hb4 hb4.size hr3 hr3), HC.out, ⟨by have := HL.out; omega, by have := HCL.out; omega⟩⟩, hb4⟩⟩
  obtain ⟨r, hrr⟩ : ∃ r, w3.heap.size = r := ⟨_, rfl⟩
  generalize hw4 : World.alloc w3 _ = w4 at HBO ⊢
  rw [hrr] at HLI HBO ⊢
  clear hrr hw4 hr3 hgl hml HOP HS3 HG3 HB3
  have y4 := HBO.out.r.c4
  have q1 : ((q : Int) != (q : Int)) = false := by simp
  obtain ⟨lf4, hs4⟩ := HBO.out.s
  have HS4 := Aside0.mk hs4
  clear hs4
  go_quiet ((go_at_call 13; exact quietD (at_any (HS4.out.kept (Drawn0.below ⟨⟨_, rfl⟩⟩)))))
  rename_i nq
  have HBO5 := Aside0.mk (HBO.out.kept (pw_below_drewN (Below.refl _ _) nq))
  obtain ⟨w5, hw5⟩ : ∃ w5, w4.drewN nq = w5 := ⟨_, rfl⟩
  rw [hw5] at HBO5 ⊢
  clear y4 hw5 HBO HS4
  go_wp2_with (fail)
  go_loopg [40] (ws.length + 1) (fun kq v40 wr => ∃ (k i : Nat), v40 = .int .i64 k ∧ Aside0 (ws.length < kq + k) ∧ Aside0 (i ≤ b.length) ∧ Aside0 (Both w2 wr g m r A3 A c3 c b i))
  case atStart => exact ⟨0, q, rfl, ⟨by omega⟩, HCL, HBO5⟩
  case round =>
    obtain ⟨k, i, rfl, HK, HI, HBR⟩ := hrel
    have HBW : Aside0 (Below w.heap.size w wr) := ⟨HB2.out.trans (below_from HBR.out.base HB2.out.size)⟩
    have k0 : (0 : Int) ≤ (k : Int) := Int.natCast_nonneg _
    by_cases hlt : k < ws.length
    · have e0 : decide (k < ws.length) = true := decide_eq_true hlt
      have e1 : decide ((k : Int) < (ws.length : Int)) = true := decide_eq_true (by omega)
      have k1 : (k : Int) < (ws.length : Int) := by omega
      obtain ⟨ad2, rfl, hs⟩ := str_at (Kd.C_below HR2.out HBW.out) k hlt
      obtain ⟨s, hss⟩ : ∃ s, ws[k] = s := ⟨_, rfl⟩
      rw [hss] at hs
      clear hss
      by_cases hk : 100 < k
      · have e2 : decide (100 < k) = true := decide_eq_true hk
        have e3 : decide (100 < (k : Int)) = true := decide_eq_true (by omega)
        clear hk
        go_wp2_with (fail)
        go_ret
        exact ⟨rfl, HBW.out⟩
      have e2 : decide (100 < k) = false := decide_eq_false hk
      have e3 : decide (100 < (k : Int)) = false := decide_eq_false (by omega)
      by_cases hz : 100 < s.size
      · have e4 : decide (100 < s.size) = true := decide_eq_true hz
        have e5 : decide (100 < (s.size : Int)) = true := decide_eq_true (by omega)
        clear hz hk
        go_wp2_with (fail)
        go_ret
        exact ⟨rfl, HBW.out⟩
      have e4 : decide (100 < s.size) = false := decide_eq_false hz
      have e5 : decide (100 < (s.size : Int)) = false := decide_eq_false (by omega)
      have wk : IntKind.i64.wrap ((k : Int) + 1) = (k : Int) + 1 := by rw [IntKind.wrap_i64]; omega
      obtain ⟨n, rfl⟩ : ∃ n, gk = n + 1 := ⟨gk - 1, by have := HK.out; omega⟩
      obtain ⟨lf, hsc⟩ := HBR.out.s
      by_cases h1 : s.size = 1
      · have z1 : (s.size : Int) = 1 := by omega
        have hbt := bt_at s 0
        have hbr := bt_range s 0
        obtain ⟨x, hx⟩ : ∃ x, bt s 0 = x := ⟨_, rfl⟩
        rw [hx] at hbt hbr
        have hb0 : ∀ h : 0 < s.size, ((s[0]'h).toNat : Int) = x := fun h => hbt h
        clear hbt
        have hsg := sign_any x hsc
        have wx : IntKind.i64.wrap x = x := by rw [IntKind.wrap_i64]; omega
        have HX := Aside0.mk hbr
        obtain ⟨sb, hsb⟩ : ∃ sb, signB b i x = sb := ⟨_, rfl⟩
        obtain ⟨j, hj⟩ : ∃ j, (if sb = true then skip b i + 1 else skip b i) = j := ⟨_, rfl⟩
        have HJ : Aside0 (j ≤ b.length) := ⟨by
          have h1 := (skipF_le (b.length + 1) b i).2.1 HI.out
          change skip b i ≤ b.length at h1
          rw [← hj]; split
          · rename_i e; rw [e] at hsb; unfold signB at hsb; simp at hsb; omega
          · exact h1⟩
        have HSG : Aside0 (∀ W, Both w2 W g m r A3 A c3 c b i → Calls Try.prog 19 #[.pointer (some ⟨g, 0, none⟩), .int .u8 x] W fun e w' => e = .returned (.bool sb) ∧ (∃ left', Scn w' g m A3 c3 b j left') ∧ Two g m W w') := ⟨fun W hW => by
          obtain ⟨l9, h9⟩ := hW.s
          refine (sign_any x h9).mono fun e w' hp => ?_
          obtain ⟨a1, a2, a3⟩ := hp
          rw [hsb] at a1 a2
          rw [hj] at a2
          exact ⟨a1, a2, a3⟩⟩
        have HRG : Aside0 (∀ W, Rdr W r A c b i → Calls Try.prog 20 #[.pointer (some ⟨r, 0, none⟩), .int .i64 x] W fun e w' => e = .returned (.bool sb) ∧ Rdr w' r A c b j ∧ Two r r W w') := ⟨fun W hW => by
          have h := rsign_any x HX.out.1 HBY.out hW
          rw [hsb, hj] at h
          exact h⟩
        clear hx hbr hsg hsb hj hz hk
        go_upto_region 16 with (fail)
        have HBD := Aside0.mk (HBR.out.kept (below_drew (Below.refl wr.heap.size wr)))
        go_region_held3 (fun W => True)
          (first | go_keep | exact trivial)
          (first
            | (go_at_call 19; (with_reducible refine (HSG.out _ HBD.out).mono ?_); rintro e w6 ⟨rfl, hs6, ht6⟩; have HS6 := Aside0.mk hs6; have HT6 := Aside0.mk ht6; have HR6 := Aside0.mk (HBD.out.rdr HLI.out ht6); clear hs6 ht6)
            | (go_at_call 20; (with_reducible refine (HRG.out _ HR6.out).mono ?_); rintro e w7 ⟨rfl, hr7, ht7⟩; have HB7 := Aside0.mk (Both.step HLI.out HBD.out HS6.out HT6.out hr7 ht7); clear hr7 ht7))
        all_goals
          go_upto_region 18 with (fail)
          have y4 := HB7.out.r.c4
          have q2 : ((j : Int) != (j : Int)) = false := by simp
          have q3 : (sb != sb) = false := by simp
          obtain ⟨lf7, hs7⟩ := HB7.out.s
          have HS7 := Aside0.mk hs7
          clear hs7
          go_quiet ((go_at_call 13; exact quietD (at_any (HS7.out.kept (Drawn0.below ⟨⟨_, rfl⟩⟩)))))
          clear y4
          go_wp2_with (fail)
          go_roundg n
          case measure => omega
          case rel => exact ⟨k + 1, j, by go_num, ⟨by have := HK.out; omega⟩, HJ, ⟨HB7.out.kept (Drawn0.below ⟨⟨_, rfl⟩⟩)⟩⟩
      · have z1 : ((s.size : Int) == 1) = false := beq_eq_false_iff_ne.mpr (by omega)
        have z2 : (s.size == 1) = false := beq_eq_false_iff_ne.mpr h1
        obtain ⟨sb, hsb⟩ : ∃ sb, wordB b i s = sb := ⟨_, rfl⟩
        obtain ⟨j, hj⟩ : ∃ j, (if sb = true then skip b i + s.size else skip b i) = j := ⟨_, rfl⟩
        have HJ : Aside0 (j ≤ b.length) := ⟨by
          have h1 := (skipF_le (b.length + 1) b i).2.1 HI.out
          change skip b i ≤ b.length at h1
          rw [← hj]; split
          · rename_i e; rw [e] at hsb; unfold wordB at hsb; simp at hsb; omega
          · exact h1⟩
        have HSG : Aside0 (∀ W, Both w2 W g m r A3 A c3 c b i → Calls Try.prog 21 #[.pointer (some ⟨g, 0, none⟩), .string s] W fun e w' => e = .returned (.bool sb) ∧ (∃ left', Scn w' g m A3 c3 b j left') ∧ Two g m W w') := ⟨fun W hW => by
          obtain ⟨l9, h9⟩ := hW.s
          have h := word_any h9 s HI.out
          rw [hsb, hj] at h
          exact h⟩
        have HRG : Aside0 (∀ W, Rdr W r A c b i → Calls Try.prog 22 #[.pointer (some ⟨r, 0, none⟩), .string s] W fun e w' => e = .returned (.bool sb) ∧ Rdr w' r A c b j ∧ Two r r W w') := ⟨fun W hW => by
          have h := rword_any HBY.out hW s (by omega) HI.out
          rw [hsb, hj] at h
          exact h⟩
        clear hsc hsb hj hz hk h1
        go_upto_region 18 with (first
            | (go_at_call 21; (with_reducible refine (HSG.out _ HBR.out).mono ?_); rintro e w6 ⟨rfl, hs6, ht6⟩; have HS6 := Aside0.mk hs6; have HT6 := Aside0.mk ht6; have HR6 := Aside0.mk (HBR.out.rdr HLI.out ht6); clear hs6 ht6)
            | (go_at_call 22; (with_reducible refine (HRG.out _ HR6.out).mono ?_); rintro e w7 ⟨rfl, hr7, ht7⟩; have HB7 := Aside0.mk (Both.step HLI.out HBR.out HS6.out HT6.out hr7 ht7); clear hr7 ht7))
        have y4 := HB7.out.r.c4
        have q2 : ((j : Int) != (j : Int)) = false := by simp
        have q3 : (sb != sb) = false := by simp
        obtain ⟨lf7, hs7⟩ := HB7.out.s
        have HS7 := Aside0.mk hs7
        clear hs7
        go_quiet ((go_at_call 13; exact quietD (at_any (HS7.out.kept (Drawn0.below ⟨⟨_, rfl⟩⟩)))))
        clear y4
        go_wp2_with (fail)
        go_roundg n
        case measure => omega
        case rel => exact ⟨k + 1, j, by go_num, ⟨by have := HK.out; omega⟩, HJ, ⟨HB7.out.kept (Drawn0.below ⟨⟨_, rfl⟩⟩)⟩⟩
    · have e0 : decide (k < ws.length) = false := decide_eq_false hlt
      have e1 : decide ((k : Int) < (ws.length : Int)) = false := decide_eq_false (by omega)
      clear hlt
      have HRB := Aside0.mk (rblank_any HBY.out HBR.out.r)
      go_upto_region 22 with (go_at_call 23; (with_reducible refine HRB.out.mono ?_); rintro e w6 ⟨rfl, hr6, ht6⟩; have HR6 := Aside0.mk hr6; have HT6 := Aside0.mk ht6; clear hr6 ht6)
      obtain ⟨lf6, hs6, hb6⟩ := HBR.out.after HLI.out HT6.out
      have HS6 := Aside0.mk hs6
      have HB6 := Aside0.mk hb6
      have hend := end_any hs6
      have y6 := HR6.out.c4
      obtain ⟨j, hj⟩ : ∃ j, skip b i = j := ⟨_, rfl⟩
      rw [hj] at hend y6
      obtain ⟨eb, heb⟩ : ∃ eb, (j == b.length) = eb := ⟨_, rfl⟩
      have hz2 : ((j : Int) == (b.length : Int)) = eb := by rw [← heb, Bool.eq_iff_iff]; simp only [beq_iff_eq]; omega
      rw [heb] at hend
      have HEND : Aside0 (∀ W, Below w6.heap.size w6 W → Calls Try.prog 24 #[.pointer (some ⟨g, 0, none⟩)] W fun e w' => e = .returned (.bool eb) ∧ Two g m W w') := ⟨fun W hW => by
        have h := end_any (HS6.out.kept hW)
        rw [hj, heb] at h
        exact h⟩
      have HRG : Aside0 (r < w6.heap.size) := ⟨blk_lt HR6.out.sc⟩
      clear hs6 hb6 hend hj heb
      have hself : (eb == eb) = true := by simp
      go_region_held3 (fun W => W.cell? ⟨r, 4, none⟩ = some (.int .i64 j))
          (first | go_keep | exact z0)
          (first
            | (go_at_call 24; (with_reducible refine (HEND.out _ (below_drew (Below.refl w6.heap.size w6))).mono ?_); rintro e w7 ⟨rfl, ht7⟩; have HT7 := Aside0.mk ht7; have z0 : w7.cell? ⟨r, 4, none⟩ = some (.int .i64 j) := two_cell ht7 HLI.out.rg HLI.out.rm y6; clear ht7))
      all_goals
        go_wp2_with (fail)
        go_ret
        exact ⟨rfl, HB2.out.trans (below_from (HT7.out.below (HB6.out.trans (below_from (below_drew (Below.refl w6.heap.size w6)) HB6.out.size)) HB6.out.size HLI.out.hg HLI.out.hm) HB2.out.size)⟩
theorem ScanSigns_walk (a0 : Option Addr) (len0 cap0 : Nat) (z0 : List Int) (a1 : Int) (a2 : Option Addr) (len2 cap2 : Nat) (z2 : List ByteArray) (w : World)
    (w0 : (a0 = none ∧ len0 = 0 ∧ cap0 = 0 ∧ z0 = []) ∨ ∃ x, a0 = some x ∧ len0 ≤ cap0 ∧ cap0 ≤ maxLen ∧ z0.length = cap0 ∧ (∀ i, i < z0.length → w.cell? (x.add i) = some (.int .u8 (z0.getD i 0))) ∧ ∀ n ∈ z0, (Lit.int .u8 n).wf = true)
    (y0 : len0 * 1 ≤ 140737488351232) (w1 : (Lit.int .i64 a1).wf = true) (K2 : (Kd.slice 9 Kd.string).K w z2 (Value.slice a2 len2 cap2).cells.toList)
    (wf2 : z2.length ≤ maxLen ∧ ∀ x ∈ z2, x.size ≤ maxLen) :
    Calls Try.prog 6 #[.slice a0 len0 cap0, .int .i64 a1, .slice a2 len2 cap2] w fun e w' => e = .returned (.bool true) ∧ Below w.heap.size w w' := by
  obtain ⟨l, rfl, hr, hm, hw, hc⟩ := ReadsInt.ofRowC w0
  obtain ⟨A, c, he, hc2, hC⟩ := K2
  have he' : Value.slice a2 len2 cap2 = .slice A z2.length c := by simpa [Value.cells] using he
  rw [he']
  by_cases h : l.length ≤ 3000
  · exact signs_small _ _ _ _ l a1 z2 w (Kd.C_of_reads (d := (0 : Int)) (h1 := fun _ => rfl) hr) hc (fun x hx => wf_u8 (hw x hx)) hC h
  · exact signs_large _ _ _ _ _ l a1 w (by omega) (by omega)
end Go.Proofs.Ytonekmigcpgdeaa.Hand
