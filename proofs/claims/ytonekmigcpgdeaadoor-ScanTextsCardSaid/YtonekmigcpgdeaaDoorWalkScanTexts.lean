/- ScanTexts: the walk of the law. -/
import Derived.Test.YtonekmigcpgdeaaDoorE5
import Derived.Test.YtonekmigcpgdeaaDoorS17
namespace Go.Proofs.YtonekmigcpgdeaaDoor.Hand
open Go.RowKit Go.Proofs.YtonekmigcpgdeaaDoor.QAll Go.Proofs.YtonekmigcpgdeaaDoorW.PrintWords Go.Proofs.YtonekmigcpgdeaaDoorW.PrintLast Go.Proofs.YtonekmigcpgdeaaDoorW.PrintMore Go.Proofs.YtonekmigcpgdeaaDoor.Runes
set_option linter.unusedVariables false
set_option linter.unusedSimpArgs false
theorem wf_u8 {n : Int} (h : (Lit.int .u8 n).wf = true) : 0 ≤ n ∧ n < 256 := by
  simp [Lit.wf, IntKind.min, IntKind.max, IntKind.signed, IntKind.bits] at h; omega
theorem empty_R (w : World) : Kd.R (Kd.int .u8) 5 (w.alloc (.cells #[] 5)) w.heap.size (fun _ => True) (.slice (some ⟨w.heap.size, 0, none⟩) 0 0) [] :=
  Kd.R_of_own (enc := Value.int .u8) (h1 := fun _ => rfl) (World.ownsRow_made w #[] 0 (Nat.le_refl _) (Nat.zero_le _) rfl) (fun _ _ => trivial)
theorem Scn.keep {w0 w w' : World} {g m r : Nat} {A : Option Addr} {c : Nat} {b : List Int} {i : Nat} {left : Int} (h : Scn w g m A c b i left) (hk : KeepBut w w' r none) (hg : r ≠ g) (hm : r ≠ m) (hg0 : w0.heap.size ≤ g) (hm0 : w0.heap.size ≤ m) (hb : Below w0.heap.size w0 w') (hC : Kd.C (Kd.int .u8) w0 A b.length b) : Scn w' g m A c b i left :=
  ⟨(hk.2 g (blk_lt h.sc) hg.symm (by simp)).trans h.sc, (hk.2 m (blk_lt h.mt) hm.symm (by simp)).trans h.mt, h.ne, fun W hW => Kd.C_below hC (hW.below hb hb.size hg0 hm0), h.cap, h.lim, h.bud⟩
theorem Tabs.size {w : World} (h : Tabs w) : 1 < w.heap.size := by
  have h1 := (h.2 0 (by decide)).1
  exact World.block_lt_of_cell? w _ h1
set_option maxHeartbeats 1600000 in
set_option maxRecDepth 100000 in
theorem texts_large (A : Option Addr) (c : Nat) (b : List Int) (p : Int) (w : World) (hl : b.length ≤ 140737488351232) (h : 3000 < b.length) :
    Calls Tryd.prog 3 #[.slice A b.length c, .int .i64 p] w fun e w' => e = .returned (.bool true) ∧ Below w.heap.size w w' := by
  have d1 : decide (3000 < b.length) = true := decide_eq_true h
  have d2 : decide (3000 < (b.length : Int)) = true := decide_eq_true (by omega)
  clear h
  go_enter Tryd.func3, Tryd.ntmps3
  go_wp2_with (go_at_call 4; (with_reducible refine (awake_any w).mono ?_); rintro e w1 ⟨rfl, hb⟩; have HB := Aside0.mk hb; clear hb)
  go_ret
  exact ⟨rfl, HB.out⟩
set_option maxHeartbeats 6400000 in
set_option maxRecDepth 100000 in
theorem texts_small (A : Option Addr) (c : Nat) (b : List Int) (p : Int) (w : World) (hr : Kd.C (Kd.int .u8) w A b.length b) (hc : b.length ≤ c) (hb : ∀ x ∈ b, 0 ≤ x ∧ x < 256) (hl : b.length ≤ 3000) (hT : Tabs w) :
    Calls Tryd.prog 3 #[.slice A b.length c, .int .i64 p] w fun e w' => e = .returned (.bool true) ∧ Below w.heap.size w w' := by
  have d1 : decide (3000 < b.length) = false := decide_eq_false (by omega)
  have d2 : decide (3000 < (b.length : Int)) = false := decide_eq_false (by omega)
  have HR := Aside0.mk hr
  have HC := Aside0.mk hc
  have HBY := Aside0.mk hb
  have HL := Aside0.mk hl
  have HTT := Aside0.mk hT
  have hcl := clampN_le p b.length
  have hmm : min (max p 0) (b.length : Int) = ((clampN p b.length : Nat) : Int) := by unfold clampN; omega
  obtain ⟨q, hq⟩ : ∃ q, clampN p b.length = q := ⟨_, rfl⟩
  rw [hq] at hmm hcl
  have HCL := Aside0.mk hcl
  have HQ := Aside0.mk hq
  clear hr hc hb hl hcl hq hT
  go_enter Tryd.func3, Tryd.ntmps3
  go_upto_region 5 with (go_at_call 4; (with_reducible refine (awake_any w).mono ?_); rintro e w1 ⟨rfl, hb⟩; have HB := Aside0.mk hb; clear hb)
  have HR1 := Aside0.mk (Kd.C_below (Kd.C_below HR.out HB.out) (below_alloc (Below.refl w1.heap.size w1) (.cells #[] 5)))
  go_wp2_with ((with_reducible refine gate_builtin (b := .append) (xs := #[.tmp 16, .tmp 17]) rfl ?_); at_builtin; refine Kd.R_append_row (Value.int .u8) (0 : Int) (h1 := fun _ => rfl) (w0 := w1) w1.heap.size rfl (.tmp 16) (.tmp 17) 22 5 (.int .u8 0) 1 rfl Tryd.underlying22 info5 rfl (by decide) (.slice (some ⟨w1.heap.size, 0, none⟩) 0 0) [] b A b.length c (fun _ => True) rfl rfl (fun _ _ => trivial) ?o1 ?o2 ?o3 ?o4 ?o5 ?_)
  case o1 => exact empty_R w1
  case o2 => exact HR1.out
  case o3 => exact below_alloc (Below.refl _ _) _
  case o4 => simp
  case o5 => have := HL.out; simp; omega
  intro v2 w2 hr2 hb2 _ _
  obtain ⟨A3, c3, rfl, hc3, hC3⟩ := Kd.R_reads hr2
  have HC3 := Aside0.mk hc3
  have HR3 : Aside0 (Kd.C (Kd.int .u8) w2 A3 b.length b) := ⟨hC3⟩
  have HB2 : Aside0 (Below w.heap.size w w2) := ⟨HB.out.trans (below_from hb2 HB.out.size)⟩
  have HRA : Aside0 (Kd.C (Kd.int .u8) w2 A b.length b) := ⟨Kd.C_below HR.out HB2.out⟩
  clear hr2 hb2 hc3 hC3 HB HR1
  have HOP := Aside0.mk (open_at (w := w2) (A := A3) (c := c3) (b := b) p HR3.out HC3.out (by have := HL.out; omega))
  rw [HQ.out] at HOP
  go_upto_region 7 with (go_at_call 5; (with_reducible refine HOP.out.mono ?_); rintro e w3 ho; obtain ⟨g, m, rfl, hs3, hg3, hm3, hb3⟩ := ho; have HS3 := Aside0.mk hs3; have HG3 := Aside0.mk (And.intro hg3 hm3); have HB3 := Aside0.mk hb3; clear hs3 hg3 hm3 hb3)
  have hr3 : w2.heap.size ≤ w3.heap.size := HB3.out.size
  have hgl : g < w3.heap.size := blk_lt HS3.out.sc
  have hml : m < w3.heap.size := blk_lt HS3.out.mt
  have HLI : Aside0 (Lies w2 g m w3.heap.size A3 A b) := ⟨⟨HG3.out.1, HG3.out.2, hr3, by omega, by omega, HR3.out, HRA.out⟩⟩
  have hb4 : Below w2.heap.size w2 (w3.alloc (.cells #[.slice none 0 0, .slice none 0 0, .int .i64 0, .slice A b.length c, .int .i64 q, .bool false] 32)) := HB3.out.trans (below_from (below_alloc (Below.refl _ _) _) HB3.out.size)
  have HSC := Aside0.mk (HS3.out.kept (below_alloc (Below.refl w3.heap.size w3) (.cells #[.slice none 0 0, .slice none 0 0, .int .i64 0, .slice A b.length c, .int .i64 q, .bool false] 32)))
  have HRD : Aside0 (Rdr (w3.alloc (.cells #[.slice none 0 0, .slice none 0 0, .int .i64 0, .slice A b.length c, .int .i64 q, .bool false] 32)) w3.heap.size A c b q) := ⟨⟨heap_alloc_new w3 _, fun W hW => Kd.C_below HRA.out (hW.below hb4 hb4.size hr3 hr3), HC.out, ⟨by have := HL.out; omega, by have := HCL.out; omega⟩⟩⟩
  have HBB := Aside0.mk hb4
  obtain ⟨r, hrr⟩ : ∃ r, w3.heap.size = r := ⟨_, rfl⟩
  generalize hw4 : World.alloc w3 _ = w4 at HSC HRD HBB ⊢
  rw [hrr] at HLI HRD ⊢
  have HR1 : Aside0 (1 < r) := ⟨by have := HTT.out.size; have := HB2.out.size; omega⟩
  clear hrr hw4 hr3 hgl hml HOP HS3 HG3 HB3 hb4
  have HBO : Aside0 (Both w2 w4 g m r A3 A c3 c b q) := ⟨⟨⟨_, HSC.out⟩, HRD.out, HBB.out⟩⟩
  have HRT : Aside0 (∀ W, Rdr W r A c b q → Below w2.heap.size w2 W → Calls Tryd.prog 7 #[.pointer (some ⟨r, 0, none⟩)] W (RTextPost (textV b q) w2 W r b)) := ⟨fun W h1 h2 => rtext_any h1 HBY.out h2 HLI.out.hr HRA.out ((HTT.out.below HB2.out).below h2) HR1.out (by have := HL.out; omega)⟩
  cases hV : textV b q with
  | none =>
    rw [hV] at HRT
    have HRT2 : Aside0 (∀ W, Rdr W r A c b q → Below w2.heap.size w2 W → Calls Tryd.prog 7 #[.pointer (some ⟨r, 0, none⟩)] W fun e w' => ∃ A' n' c', e = .returned (.tuple #[.slice A' n' c', .bool false]) ∧ (∃ j, RS w2 w' r b j)) := ⟨fun W h1 h2 => (HRT.out W h1 h2).mono fun e w' hp => by
      obtain ⟨A', L, c', h1, h2, ⟨j, h3, _⟩, h4⟩ := hp
      exact ⟨A', L.length, c', h1, ⟨j, h3⟩⟩⟩
    have HTX := Aside0.mk (text_none HSC.out HBY.out hV)
    clear hV HRT
    go_upto_region 9 with (first
      | (go_at_call 6; (with_reducible refine HTX.out.mono ?_); rintro e w5 ⟨A5, c5, rfl, ht5⟩; have HRD5 := Aside0.mk (HBO.out.rdr HLI.out ht5); have HB5 : Aside0 (Below w2.heap.size w2 w5) := ⟨ht5.below HBB.out HBB.out.size HLI.out.hg HLI.out.hm⟩; clear ht5)
      | (go_at_call 7; (with_reducible refine (HRT2.out w5 HRD5.out HB5.out).mono ?_); rintro e w6 ⟨A6, n6, c6, rfl, j6, hs6⟩; have HS6 := Aside0.mk hs6; have y6 := hs6.c4; clear hs6))
    go_quiet (fail)
    go_wp2_with (fail)
    go_ret
    exact ⟨rfl, HB2.out.trans (below_from (HS6.out.base.trans (below_from (Drawn0.below ⟨⟨_, rfl⟩⟩) HS6.out.base.size)) HB2.out.size)⟩
  | some pr =>
    obtain ⟨L, j⟩ := pr
    rw [hV] at HRT
    have HRT2 : Aside0 (∀ W, Rdr W r A c b q → Below w2.heap.size w2 W → Calls Tryd.prog 7 #[.pointer (some ⟨r, 0, none⟩)] W fun e w' => ∃ A' c', e = .returned (.tuple #[.slice A' L.length c', .bool true]) ∧ Kd.C (Kd.int .u8) w' A' L.length L ∧ RS w2 w' r b j ∧ KeepBut W w' r none) := ⟨fun W h1 h2 => (HRT.out W h1 h2).mono fun e w' hp => by
      obtain ⟨A', L', c', h1, h2, ⟨j', h3, h5⟩, h4⟩ := hp
      obtain ⟨e1, e2⟩ := h5 _ rfl
      subst e1 e2
      exact ⟨A', c', h1, h2, h3, h4⟩⟩
    have HTX := Aside0.mk (text_some HSC.out HBY.out hV)
    clear hV HRT
    go_upto_region 9 with (first
      | (go_at_call 6; (with_reducible refine HTX.out.mono ?_); rintro e w5 ⟨A5, c5, rfl, ho5, ⟨lf5, hs5⟩, ht5⟩; have HSN5 := Aside0.mk hs5; have HO5 := Aside0.mk ho5; have HRD5 := Aside0.mk (HBO.out.rdr HLI.out ht5); have HB5 : Aside0 (Below w2.heap.size w2 w5) := ⟨ht5.below HBB.out HBB.out.size HLI.out.hg HLI.out.hm⟩; clear ht5 hs5 ho5)
      | (go_at_call 7; (with_reducible refine (HRT2.out w5 HRD5.out HB5.out).mono ?_); rintro e w6 ⟨A6, c6, rfl, hC6, hs6, hk6⟩; have HS6 := Aside0.mk hs6; have HC6 := Aside0.mk hC6; have HK6 := Aside0.mk hk6; clear hs6 hC6 hk6))
    have y6 := HS6.out.c4
    have HSN6 := Aside0.mk (HSN5.out.keep HK6.out HLI.out.rg HLI.out.rm HLI.out.hg HLI.out.hm HS6.out.base HR3.out)
    have HO6 := Aside0.mk (own_keep HO5.out HK6.out (blk_lt HRD.out.sc))
    have vs5 : ∀ k : Nat, (convert 22 9 (.slice A5 L.length c5)).run Tryd.prog (w6.drewN k) = .ok (.string (strOfNums L)) (w6.drewN k) := fun k => Kd.C_string (P := Tryd.prog) (c := c5) Tryd.underlying22 Tryd.underlying5 Tryd.underlying9 (Kd.C_drewN (own_C HO6.out) k)
    have vs6 : ∀ k : Nat, (convert 22 9 (.slice A6 L.length c6)).run Tryd.prog (w6.drewN k) = .ok (.string (strOfNums L)) (w6.drewN k) := fun k => Kd.C_string (P := Tryd.prog) (c := c6) Tryd.underlying22 Tryd.underlying5 Tryd.underlying9 (Kd.C_drewN HC6.out k)
    have q1 : ((j : Int) == (j : Int)) = true := by simp
    go_quiet ((go_at_call 8; exact quietD (at_any (HSN6.out.kept (Drawn0.below ⟨⟨_, rfl⟩⟩)))))
    go_wp2_with (fail)
    go_ret
    exact ⟨rfl, HB2.out.trans (below_from (HS6.out.base.trans (below_from (Drawn0.below ⟨⟨_, rfl⟩⟩) HS6.out.base.size)) HB2.out.size)⟩
theorem ScanTexts_walk (a0 : Option Addr) (len0 cap0 : Nat) (z0 : List Int) (a1 : Int) (w : World)
    (w0 : (a0 = none ∧ len0 = 0 ∧ cap0 = 0 ∧ z0 = []) ∨ ∃ x, a0 = some x ∧ len0 ≤ cap0 ∧ cap0 ≤ maxLen ∧ z0.length = cap0 ∧ (∀ i, i < z0.length → w.cell? (x.add i) = some (.int .u8 (z0.getD i 0))) ∧ ∀ n ∈ z0, (Lit.int .u8 n).wf = true)
    (y0 : len0 * 1 ≤ 140737488351232) (w1 : (Lit.int .i64 a1).wf = true) (hT : Tabs w) :
    Calls Tryd.prog 3 #[.slice a0 len0 cap0, .int .i64 a1] w fun e w' => e = .returned (.bool true) ∧ Below w.heap.size w w' := by
  obtain ⟨l, rfl, hr, hm, hw, hc⟩ := ReadsInt.ofRowC w0
  by_cases h : l.length ≤ 3000
  · exact texts_small _ _ l a1 w (Kd.C_of_reads (d := (0 : Int)) (h1 := fun _ => rfl) hr) hc (fun x hx => wf_u8 (hw x hx)) h hT
  · exact texts_large _ _ l a1 w (by omega) (by omega)
end Go.Proofs.YtonekmigcpgdeaaDoor.Hand
