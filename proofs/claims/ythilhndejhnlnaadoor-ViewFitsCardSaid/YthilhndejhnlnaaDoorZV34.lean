/- Texts joined: G3. -/
import Derived.Test.YthilhndejhnlnaaDoorZV33
section
/- Made: its walk. -/
namespace Go.Proofs.YthilhndejhnlnaaDoor.Hand
open Go.RowKit Go.Proofs.YthilhndejhnlnaaDoor.QAll Go.Proofs.YthilhndejhnlnaaDoorW.PrintWords Go.Proofs.YthilhndejhnlnaaDoorW.PrintLast Go.Proofs.YthilhndejhnlnaaDoorW.PrintMore Go.Proofs.YthilhndejhnlnaaDoor.Mk
set_option linter.unusedVariables false
set_option linter.unusedSimpArgs false
set_option maxHeartbeats 25600000 in
set_option maxRecDepth 100000 in
theorem made_yes (E : List Int) (S : List (List S61)) (Rt : Int) (tr : Bool) (hEb : ∀ x ∈ E, 0 ≤ x ∧ x < 256) (hSb : ∀ l ∈ S, ∀ x ∈ l, BOk x) (hRt : 0 ≤ Rt ∧ Rt < 256) (A0 : Option Addr) (z0 : Nat) (A1 : Option Addr) (z1 : Nat) (w : World) (hE : Kd.C (Kd.int .u8) w A0 E.length E) (hEz : E.length ≤ z0) (hS : Kd.C (Kd.slice 61 k61) w A1 S.length S) (hSz : S.length ≤ z1) (hE8 : E.length ≤ 8) (hS1 : 1 ≤ S.length) (hS16 : S.length ≤ 16) :
    Calls Tryd.prog 6 #[.agg #[.slice A0 E.length z0, .slice A1 S.length z1, .int .u8 Rt, .bool tr]] w (MPost S.length tr w) := by
  obtain ⟨g1, e1⟩ : ∃ g1, w.heap.size = g1 := ⟨_, rfl⟩
  obtain ⟨g2, e2⟩ : ∃ g2, g1 + 1 = g2 := ⟨_, rfl⟩
  obtain ⟨go, e3⟩ : ∃ go, g2 + 1 = go := ⟨_, rfl⟩
  obtain ⟨w1, hw1⟩ : ∃ w1, (w.alloc (.cells #[.slice A0 E.length z0, .slice A1 S.length z1, .int .u8 Rt, .bool tr] 25)).alloc (.cells #[.slice none 0 0, .slice none 0 0, .int .i64 0] 34) = w1 := ⟨_, rfl⟩
  have H := Aside0.mk (two_new w _ e1 e2 hw1)
  have HEQ := Aside0.mk (And.intro e1 (And.intro e2 (And.intro e3 hw1)))
  have HEC := Aside0.mk hE
  have HSC := Aside0.mk hS
  have HEB := Aside0.mk hEb
  have HSB := Aside0.mk hSb
  have HLEN : Aside0 (E.length ≤ 8 ∧ 1 ≤ S.length ∧ S.length ≤ 16 ∧ E.length ≤ z0 ∧ S.length ≤ z1) := ⟨hE8, hS1, hS16, hEz, hSz⟩
  have p1 : decide (S.length < 1) = false := decide_eq_false (by omega)
  have p2 : decide ((S.length : Int) < 1) = false := decide_eq_false (by omega)
  have p3 : decide (16 < S.length) = false := decide_eq_false (by omega)
  have p4 : decide ((16 : Int) < (S.length : Int)) = false := decide_eq_false (by omega)
  have p5 : decide (8 < E.length) = false := decide_eq_false (by omega)
  have p6 : decide ((8 : Int) < (E.length : Int)) = false := decide_eq_false (by omega)
  obtain ⟨root, hroot, hr0, hr1⟩ : ∃ root : Int, Int.tmod Rt (S.length : Int) = root ∧ 0 ≤ root ∧ root < S.length := ⟨Rt % (S.length : Int), tm Rt _ hRt.1 (by omega), Int.emod_nonneg _ (by omega), Int.emod_lt_of_pos _ (by omega)⟩
  have wR : IntKind.i64.wrap Rt = Rt := by rw [IntKind.wrap_i64]; omega
  have hz0 : ((S.length : Int) == 0) = false := by simp only [beq_eq_false_iff_ne]; omega
  have hz1 : (S.length == 0) = false := by simp only [beq_eq_false_iff_ne]; omega
  have hz2 : ((S.length : Int) = 0) = False := eq_false (by omega)
  have hz3 : (S.length = 0) = False := eq_false (by omega)
  have HROOT : Aside0 (0 ≤ root ∧ root < S.length) := ⟨hr0, hr1⟩
  clear e1 e2 e3 hw1 hE hEz hS hSz hE8 hS1 hS16 hEb hSb hRt hr0 hr1
  go_enter Tryd.func6, Tryd.ntmps6
  go_upto_region 1 with (fail)
  rw [HEQ.out.1, HEQ.out.2.1, HEQ.out.2.2.2]
  have c0 : w1.cell? ⟨g1, 0, none⟩ = some (.slice A0 E.length z0) := (blk_cell H.out.2.1 0).trans rfl
  have c1 : w1.cell? ⟨g1, 1, none⟩ = some (.slice A1 S.length z1) := (blk_cell H.out.2.1 1).trans rfl
  have c2 : w1.cell? ⟨g1, 2, none⟩ = some (.int .u8 Rt) := (blk_cell H.out.2.1 2).trans rfl
  go_upto_region 4 with (fail)
  have HM2 : Aside0 (MS w (w1.alloc (.cells #[.slice none 0 0, .slice none 0 0, .int .i64 root] 34)) g1 g2 go #[.slice A0 E.length z0, .slice A1 S.length z1, .int .u8 Rt, .bool tr] #[.slice none 0 0, .slice none 0 0, .int .i64 root]) := ⟨by
    have hb := below_alloc (Below.refl w1.heap.size w1) (.cells #[.slice none 0 0, .slice none 0 0, .int .i64 root] 34)
    have ha := heap_alloc_new w1 (.cells #[.slice none 0 0, .slice none 0 0, .int .i64 root] 34)
    rw [H.out.2.2.2, HEQ.out.2.2.1] at ha
    exact ⟨below_then H.out.1 H.out.1.size hb, ⟨HEQ.out.1, HEQ.out.2.1, HEQ.out.2.2.1⟩, (hb.block _ (blk_lt H.out.2.1)).trans H.out.2.1, (hb.block _ (blk_lt H.out.2.2.1)).trans H.out.2.2.1, ha⟩⟩
  rw [H.out.2.2.2, HEQ.out.2.2.1]
  generalize w1.alloc (.cells #[.slice none 0 0, .slice none 0 0, .int .i64 root] 34) = w2 at HM2 ⊢
  clear c0 c1 c2 p1 p2 p3 p4 p5 p6 wR hroot hz0 hz1 hz2 hz3
  go_upto_block 0 with (fail)
  go_cut [] from 39 to 85 (fun wc => ∃ (en : List S58) (v1 : Value), Aside0 (EnOk en ∧ en.length ≤ 8) ∧ Aside0 (MS w wc g1 g2 go #[.slice A0 E.length z0, .slice A1 S.length z1, .int .u8 Rt, .bool tr] #[.slice none 0 0, v1, .int .i64 root]) ∧ Aside0 (Rb k58 58 wc (go + 1) v1 en))
  case first =>
    go_wp2_with (fail)
    go_loopg [5] 9 (fun kq v5 wr => ∃ (k : Nat) (en : List S58) (v1 : Value), v5 = .int .i64 k ∧ Aside0 (k ≤ E.length) ∧ Aside0 (E.length < kq + k) ∧ Aside0 (en.length = k ∧ ∀ c ∈ en, 1 ≤ c.f1.length ∧ c.f1.length ≤ 32) ∧
      Aside0 (MS w wr g1 g2 go #[.slice A0 E.length z0, .slice A1 S.length z1, .int .u8 Rt, .bool tr] #[.slice none 0 0, v1, .int .i64 root]) ∧ Aside0 (Rb k58 58 wr (go + 1) v1 en))
    case atStart => exact ⟨0, [], .slice none 0 0, rfl, ⟨Nat.zero_le _⟩, ⟨by have := HLEN.out.1; omega⟩, ⟨rfl, fun _ h => by cases h⟩, HM2, ⟨Rb.nil _ _ _ _⟩⟩
    case round =>
      obtain ⟨wo, rfl⟩ : ∃ wo : World, wo = wr := ⟨_, rfl⟩
      obtain ⟨k, en, v1, rfl, HK, HKQ, HEN, HM, HR⟩ := hrel
      obtain ⟨n, rfl⟩ : ∃ n, gk = n + 1 := ⟨gk - 1, by have := HKQ.out; have := HK.out; omega⟩
      obtain ⟨Ae, ce, rfl, -, -⟩ := HR.out.slice
      have m0 : wo.cell? ⟨g1, 0, none⟩ = some (.slice A0 E.length z0) := (blk_cell HM.out.p 0).trans rfl
      by_cases p : k < E.length
      · have p1 : decide (k < E.length) = true := decide_eq_true p
        have p2 : decide ((k : Int) < (E.length : Int)) = true := decide_eq_true (by omega)
        have k8 : k ≤ 8 := by have := HLEN.out.1; omega
        obtain ⟨y, hy⟩ : ∃ y : Int, 97 + (k : Int) = y := ⟨_, rfl⟩
        have wy : IntKind.u8.wrap y = y := by rw [IntKind.wrap_u8]; omega
        have vs := conv_lit wo [y] #[.int .u8 y] rfl (by simp) 1 rfl
        have hsz : (strOfNums [y]).size = 1 := strOfNums_size _
        go_upto_region 8 with (fail)
        obtain ⟨nm, hnm⟩ : ∃ nm, (⟨#[69]⟩ : ByteArray) ++ strOfNums [y] = nm := ⟨_, rfl⟩
        rw [hnm]
        clear hnm vs hsz wy hy m0 p1 p2
        obtain ⟨gc, hgc⟩ : ∃ gc, wo.heap.size + 1 = gc := ⟨_, rfl⟩
        have HC3 : Aside0 (Below wo.heap.size wo ((wo.alloc (.cells #[.int .u8 y] 5)).alloc (.cells #[.string nm, .slice none 0 0] 58)) ∧ ((wo.alloc (.cells #[.int .u8 y] 5)).alloc (.cells #[.string nm, .slice none 0 0] 58)).heap[gc]? = some (.cells #[.string nm, .slice none 0 0] 58 (0, 0))) := ⟨below_alloc (below_alloc (Below.refl _ _) _) _, by
          have := heap_alloc_new (wo.alloc (.cells #[.int .u8 y] 5)) (.cells #[.string nm, .slice none 0 0] 58)
          rw [show (wo.alloc (.cells #[.int .u8 y] 5)).heap.size = gc from by simp [hgc]] at this
          exact this⟩
        have HGC : Aside0 (wo.heap.size + 1 = gc) := ⟨hgc⟩
        generalize (wo.alloc (.cells #[.int .u8 y] 5)).alloc (.cells #[.string nm, .slice none 0 0] 58) = w3 at HC3 ⊢
        rw [hgc]
        clear hgc
        obtain ⟨ae, hae, hx0⟩ := at_byte HEC.out k p
        obtain ⟨x, hx⟩ : ∃ x, rd E (k : Int) = x := ⟨_, rfl⟩
        rw [hx] at hx0
        have hxr : 0 ≤ x ∧ x < 256 := by rw [← hx]; unfold rd; rw [show ((k : Int)).toNat = k from rfl, List.getD_eq_getElem?_getD, List.getElem?_eq_getElem p]; exact HEB.out _ (List.getElem_mem p)
        obtain ⟨m, hm, hm32⟩ : ∃ m : Nat, Int.tmod x 32 = m ∧ m < 32 := ⟨(x % 32).toNat, by rw [tm x 32 hxr.1 (by decide)]; omega, by omega⟩
        have wx : IntKind.i64.wrap x = x := by rw [IntKind.wrap_i64]; omega
        have HX0 := Aside0.mk hx0
        have HP := Aside0.mk p
        have HM32 := Aside0.mk hm32
        subst hae
        have k0 : (0 : Int) ≤ (k : Int) := Int.natCast_nonneg _
        have k1 : (k : Int) < (E.length : Int) := by omega
        clear hx hx0 p hxr hm32
        go_wp2_with (fail)
        go_loopg [7] 34 (fun kr v7 wq => ∃ (q : Nat) (ns : List ByteArray) (v : Value), v7 = .int .i64 q ∧ Aside0 (q ≤ m + 1) ∧ Aside0 (m + 1 < kr + q) ∧ Aside0 (ns.length = q) ∧ Aside0 (Below wo.heap.size wo wq) ∧ Aside0 (wq.heap[gc]? = some (.cells #[.string nm, v] 58 (0, 0))) ∧ Aside0 (Rb Kd.string 9 wq (gc + 1) v ns))
        case atStart => exact ⟨0, [], .slice none 0 0, rfl, ⟨Nat.zero_le _⟩, ⟨by have := HM32.out; omega⟩, ⟨rfl⟩, ⟨HC3.out.1⟩, ⟨HC3.out.2⟩, ⟨Rb.nil _ _ _ _⟩⟩
        case round =>
          obtain ⟨wq, rfl⟩ : ∃ wq : World, wq = wr := ⟨_, rfl⟩
          obtain ⟨q, ns, v, rfl, HQ, HQK, HNS, HB, HC, HN⟩ := hrel
          obtain ⟨n', rfl⟩ : ∃ n', gk = n' + 1 := ⟨gk - 1, by have := HQK.out; have := HQ.out; omega⟩
          obtain ⟨An, cn, rfl, -, -⟩ := HN.out.slice
          have m0 : wq.cell? ⟨g1, 0, none⟩ = some (.slice (some ae) E.length z0) := pw_cell_below HB.out ((blk_cell HM.out.p 0).trans rfl)
          have x0 := pw_cell_below HB.out (pw_cell_below HM.out.bel HX0.out)
          have b1 : wq.cell? ⟨gc, 1, none⟩ = some (.slice An ns.length cn) := (blk_cell HC.out 1).trans rfl
          have q33 : q ≤ 33 := by have := HQ.out; have := HM32.out; omega
          by_cases t : q ≤ m
          · have t1 : decide (q ≤ m) = true := decide_eq_true t
            have t2 : decide ((q : Int) ≤ (m : Int)) = true := decide_eq_true (by omega)
            obtain ⟨y1, hy1⟩ : ∃ y1 : Int, 97 + (q : Int) % 26 = y1 := ⟨_, rfl⟩
            obtain ⟨y2, hy2⟩ : ∃ y2 : Int, 97 + (q : Int) / 26 = y2 := ⟨_, rfl⟩
            have wy1 : IntKind.u8.wrap y1 = y1 := by rw [IntKind.wrap_u8]; omega
            have wy2 : IntKind.u8.wrap y2 = y2 := by rw [IntKind.wrap_u8]; omega
            have vs2 := conv_lit wq [y1, y2] #[.int .u8 y1, .int .u8 y2] rfl (by simp) 2 rfl
            have hsz2 : (strOfNums [y1, y2]).size = 2 := strOfNums_size _
            have HT := Aside0.mk t
            clear t
            have HB5 := Aside0.mk (below_alloc (Below.refl wq.heap.size wq) (.cells #[.int .u8 y1, .int .u8 y2] 5))
            have HS5 : Aside0 ((wq.alloc (.cells #[.int .u8 y1, .int .u8 y2] 5)).heap.size = wq.heap.size + 1) := ⟨by simp⟩
            go_wp2_with ((with_reducible refine gate_builtin (b := .append) (xs := #[.tmp 65, .tmp 77]) rfl ?_); at_builtin; refine Kd.R_append Kd.string (w0 := (wq.alloc (.cells #[.int .u8 y1, .int .u8 y2] 5))) (W := (wq.alloc (.cells #[.int .u8 y1, .int .u8 y2] 5))) (gc + 1) rfl (.tmp 65) (.tmp 77) 56 9 (.string ⟨#[]⟩) 16 rfl Tryd.underlying56 info9 rfl (by decide) (by decide) (.slice An ns.length cn) ns ((⟨#[118]⟩ : ByteArray) ++ strOfNums [y1, y2]) [.string ((⟨#[118]⟩ : ByteArray) ++ strOfNums [y1, y2])] (fun _ => True) (fun _ => False) rfl (by show Value.slice (some ⟨wq.heap.size + 1, 0, none⟩) 1 1 = _; rw [HS5.out]) rfl (fun _ h => h.elim) (fun _ _ => trivial) (HN.out.below HB5.out) (Below.refl _ _) (by rw [HS5.out]; have := blk_lt HC.out; omega) (by have := HNS.out; omega) ?_)
            intro v9 w9 hr9 _ hg9 _
            obtain ⟨A9, c9, e9, -, -⟩ := Rb.slice hr9
            rw [List.length_append, List.length_singleton] at e9
            subst e9
            have HG9 : Aside0 (∀ z, (Value.slice An ns.length cn).ownBlock = some z → gc + 1 ≤ z) := ⟨fun z hz => (HN.out.bas z hz).1⟩
            have HB9 : Aside0 (Below wo.heap.size wo w9) := ⟨(below_then HB.out HB.out.size HB5.out).grown hg9 (Nat.le_trans HB.out.size HB5.out.size) (fun z hz => by have := HG9.out z hz; have := HGC.out; omega)⟩
            have HC9 : Aside0 (w9.heap[gc]? = some (.cells #[.string nm, .slice An ns.length cn] 58 (0, 0))) := ⟨blk_grown ((HB5.out.block _ (blk_lt HC.out)).trans HC.out) hg9 (fun e => by have := HG9.out gc e.symm; omega)⟩
            have HR9 := Aside0.mk hr9
            have o9 : w9.cell? ⟨gc, 1, none⟩ = some (.slice An ns.length cn) := (blk_cell HC9.out 1).trans rfl
            have f9 := blk_frozen HC9.out 1
            clear hr9 hg9 m0 x0 b1 vs2 hsz2 wy1 wy2 hy1 hy2
            go_wp2_with (fail)
            go_roundg n'
            case measure => omega
            case rel =>
              exact ⟨q + 1, ns ++ [((⟨#[118]⟩ : ByteArray) ++ strOfNums [y1, y2])], .slice A9 (ns.length + 1) c9, by go_num, ⟨by have := HT.out; omega⟩, ⟨by have := HQK.out; omega⟩, ⟨by rw [List.length_append, HNS.out]; rfl⟩,
                ⟨Below.setCell HB9.out (p := ⟨gc, 1, none⟩) (by show wo.heap.size ≤ gc; have := HGC.out; omega) _⟩, ⟨by simpa using blk_set HC9.out 1 (.slice A9 (ns.length + 1) c9)⟩, ⟨Rb.set (p := ⟨gc, 1, none⟩) HR9.out (Nat.lt_succ_self _) _⟩⟩
          · have t1 : decide (q ≤ m) = false := decide_eq_false t
            have t2 : decide ((q : Int) ≤ (m : Int)) = false := decide_eq_false (by omega)
            have HT : Aside0 (q = m + 1) := ⟨by have := HQ.out; omega⟩
            have HMq := Aside0.mk (HM.out.below HB.out)
            have HRq := Aside0.mk (HR.out.below HB.out)
            have o1 : wq.cell? ⟨go, 1, none⟩ = some (.slice Ae en.length ce) := (blk_cell HMq.out.o 1).trans rfl
            have b0 : wq.cell? ⟨gc, 0, none⟩ = some (.string nm) := (blk_cell HC.out 0).trans rfl
            have HMk : Aside0 (k58.M wq (go + 1) (fun z => gc + 1 ≤ z) ⟨nm, ns⟩ [.string nm, .slice An ns.length cn]) := ⟨k58_mkM wq (go + 1) _ ⟨nm, ns⟩ (Kd.R_lower (Rb.from HN.out) (by have := HM.out.o; have := blk_lt this; have := HGC.out; omega))⟩
            have HNE : Aside0 (∀ z, gc + 1 ≤ z → True ∧ some z ≠ (Value.slice Ae en.length ce).ownBlock) := ⟨fun z hz => ⟨trivial, fun e => by have := (HR.out.bas z e.symm).2; have := HGC.out; omega⟩⟩
            clear t
            go_wp2_with ((with_reducible refine gate_builtin (b := .append) (xs := #[.tmp 81, .tmp 83]) rfl ?_); at_builtin; refine Kd.R_append k58 (w0 := wq) (W := wq) (go + 1) rfl (.tmp 81) (.tmp 83) 32 58 (.agg #[.string ⟨#[]⟩, .slice none 0 0]) 40 rfl Tryd.underlying32 info58 rfl (by decide) (by decide) (.slice Ae en.length ce) en ⟨nm, ns⟩ [.string nm, .slice An ns.length cn] (fun _ => True) (fun z => gc + 1 ≤ z) rfl rfl HMk.out HNE.out (fun _ _ => trivial) HRq.out (Below.refl _ _) (blk_lt HMq.out.o) (by have := HEN.out.1; omega) ?_)
            intro v9 w9 hr9 _ hg9 _
            obtain ⟨A9, c9, e9, -, -⟩ := Rb.slice hr9
            rw [List.length_append, List.length_singleton] at e9
            subst e9
            have HM9 := Aside0.mk (HMq.out.grown hg9 (fun z hz => (HRq.out.bas z hz).1))
            have HR9 := Aside0.mk hr9
            have o9 : w9.cell? ⟨go, 1, none⟩ = some (.slice Ae en.length ce) := (blk_cell HM9.out.o 1).trans rfl
            have f9 := blk_frozen HM9.out.o 1
            clear hr9 hg9 m0 x0 b1 b0 o1
            go_wp2_with (fail)
            go_roundg n
            case measure => omega
            case rel =>
              exact ⟨k + 1, en ++ [⟨nm, ns⟩], .slice A9 (en.length + 1) c9, by go_num, ⟨by have := HP.out; omega⟩, ⟨by have := HKQ.out; omega⟩, ⟨by rw [List.length_append, HEN.out.1]; rfl, fun c hc => by
                rcases List.mem_append.1 hc with h | h
                · exact HEN.out.2 c h
                · rw [List.mem_singleton] at h; subst h; have h1 := HNS.out; have h2 := HT.out; have h3 := HM32.out; exact ⟨by show 1 ≤ ns.length; omega, by show ns.length ≤ 32; omega⟩⟩,
                ⟨HM9.out.set 1 (.slice A9 (en.length + 1) c9)⟩, ⟨Rb.set (p := ⟨go, 1, none⟩) HR9.out (Nat.lt_succ_self _) _⟩⟩
      · have p1 : decide (k < E.length) = false := decide_eq_false p
        have p2 : decide ((k : Int) < (E.length : Int)) = false := decide_eq_false (by omega)
        clear p
        go_wp2_with (fail)
        go_meet
        exact ⟨en, _, ⟨⟨by have := HK.out; have := HEN.out.1; have := HLEN.out.1; omega, HEN.out.2⟩, by have := HK.out; have := HEN.out.1; have := HLEN.out.1; omega⟩, HM, HR⟩
  obtain ⟨en, v1, HEN, HM, HR⟩ := hcut
  obtain ⟨Ae, ce, rfl, -, -⟩ := HR.out.slice
  obtain ⟨wE, rfl⟩ : ∃ wE : World, wE = wc := ⟨_, rfl⟩
  have HENC : Aside0 (∀ W, KeepBut wE W go none → Kd.C k58 W Ae en.length en ∧ en.length ≤ ce ∧ Rb k58 58 W (go + 1) (.slice Ae en.length ce) en) := ⟨fun W hW => by
    have h := HR.out.keep hW (Nat.lt_succ_self _)
    have h2 := Kd.R_reads' h
    exact ⟨h2.2.2, h2.2.1, h⟩⟩
  have HGE : Aside0 (go + 1 ≤ wE.heap.size) := ⟨blk_lt HM.out.o⟩
  go_wp2_with (fail)
  go_loopg [8] 18 (fun kq v8 wr => ∃ (i : Nat) (st : List S50) (v0 : Value), v8 = .int .i64 i ∧ Aside0 (i ≤ S.length) ∧ Aside0 (S.length < kq + i) ∧ Aside0 (st.length = i ∧ SchOk en S.length tr st ∧ ∀ r ∈ st, NmOk r.f1) ∧
    Aside0 (MS w wr g1 g2 go #[.slice A0 E.length z0, .slice A1 S.length z1, .int .u8 Rt, .bool tr] #[v0, .slice Ae en.length ce, .int .i64 root]) ∧ Aside0 (KeepBut wE wr go none) ∧ Aside0 (Rb k50 50 wr wE.heap.size v0 st))
  case atStart => exact ⟨0, [], .slice none 0 0, rfl, ⟨Nat.zero_le _⟩, ⟨by have := HLEN.out; omega⟩, ⟨rfl, ⟨fun i r h => by simp at h⟩, fun _ h => by cases h⟩, HM, ⟨KeepBut.refl _ _ _⟩, ⟨Rb.nil _ _ _ _⟩⟩
  case round =>
    obtain ⟨wo, rfl⟩ : ∃ wo : World, wo = wr := ⟨_, rfl⟩
    obtain ⟨i, st, v0, rfl, HI, HIK, HST, HMo, HKo, HRo⟩ := hrel
    obtain ⟨n, rfl⟩ : ∃ n, gk = n + 1 := ⟨gk - 1, by have := HIK.out; have := HI.out; omega⟩
    obtain ⟨As, cs, rfl, -, -⟩ := HRo.out.slice
    have m1 : wo.cell? ⟨g1, 1, none⟩ = some (.slice A1 S.length z1) := (blk_cell HMo.out.p 1).trans rfl
    by_cases p : i < S.length
    · have p1 : decide (i < S.length) = true := decide_eq_true p
      have p2 : decide ((i : Int) < (S.length : Int)) = true := decide_eq_true (by omega)
      have i0 : (0 : Int) ≤ (i : Int) := Int.natCast_nonneg _
      have i1 : (i : Int) < (S.length : Int) := by omega
      have i16 : (i : Int) < 16 := by have := HLEN.out; omega
      obtain ⟨aS, Al, cl, hAS, xl, hcl, hCl⟩ := at_L14 HSC.out (i : Int) i0 i1
      obtain ⟨l, hl⟩ : ∃ l, rd_L14 S (i : Int) = l := ⟨_, rfl⟩
      have hlb : ∀ x ∈ l, BOk x := by rw [← hl]; unfold rd_L14; rw [show ((i : Int)).toNat = i from rfl, List.getD_eq_getElem?_getD, List.getElem?_eq_getElem p]; exact HSB.out _ (List.getElem_mem p)
      rw [hl] at xl hcl hCl
      rw [show ((i : Int)).toNat = i from rfl] at xl
      subst hAS
      have xl0 := pw_cell_below HMo.out.bel xl
      have HCl := Aside0.mk hCl
      have HLB := Aside0.mk hlb
      have HP := Aside0.mk p
      clear hl hlb xl hCl p
      by_cases hl16 : 1 ≤ l.length ∧ l.length ≤ 16
      · have q1 : decide (l.length < 1) = false := decide_eq_false (by omega)
        have q2 : decide ((l.length : Int) < 1) = false := decide_eq_false (by omega)
        have q3 : decide (16 < l.length) = false := decide_eq_false (by omega)
        have q4 : decide ((16 : Int) < (l.length : Int)) = false := decide_eq_false (by omega)
        have HL16 := Aside0.mk hl16
        obtain ⟨y, hy⟩ : ∃ y : Int, 97 + (i : Int) = y := ⟨_, rfl⟩
        have wy : IntKind.u8.wrap y = y := by rw [IntKind.wrap_u8]; omega
        have vs := conv_lit wo [y] #[.int .u8 y] rfl (by simp) 1 rfl
        have hsz : (strOfNums [y]).size = 1 := strOfNums_size _
        clear hl16
        go_upto_region 20 with (fail)
        obtain ⟨nm, hnm⟩ : ∃ nm, (⟨#[83]⟩ : ByteArray) ++ strOfNums [y] = nm := ⟨_, rfl⟩
        rw [hnm]
        clear hnm vs hsz wy hy m1 p1 p2 q1 q2 q3 q4 xl0
        obtain ⟨gr, hgr⟩ : ∃ gr, wo.heap.size + 1 = gr := ⟨_, rfl⟩
        have HC3 : Aside0 (Below wo.heap.size wo ((wo.alloc (.cells #[.int .u8 y] 5)).alloc (.cells #[.string nm, .slice none 0 0] 50)) ∧ ((wo.alloc (.cells #[.int .u8 y] 5)).alloc (.cells #[.string nm, .slice none 0 0] 50)).heap[gr]? = some (.cells #[.string nm, .slice none 0 0] 50 (0, 0))) := ⟨below_alloc (below_alloc (Below.refl _ _) _) _, by
          have := heap_alloc_new (wo.alloc (.cells #[.int .u8 y] 5)) (.cells #[.string nm, .slice none 0 0] 50)
          rw [show (wo.alloc (.cells #[.int .u8 y] 5)).heap.size = gr from by simp [hgr]] at this
          exact this⟩
        have HGR : Aside0 (wo.heap.size + 1 = gr) := ⟨hgr⟩
        generalize (wo.alloc (.cells #[.int .u8 y] 5)).alloc (.cells #[.string nm, .slice none 0 0] 50) = w3 at HC3 ⊢
        rw [hgr]
        clear hgr
        go_wp2_with (fail)
        go_loopg [11] 18 (fun kr v11 wq => ∃ (k : Nat) (fs : List S47) (v : Value), v11 = .int .i64 k ∧ Aside0 (k ≤ l.length) ∧ Aside0 (l.length < kr + k) ∧ Aside0 (fs.length = k ∧ (∀ f ∈ fs, FOk en S.length tr i f) ∧ NmOk fs) ∧ Aside0 (Below wo.heap.size wo wq) ∧ Aside0 (wq.heap[gr]? = some (.cells #[.string nm, v] 50 (0, 0))) ∧ Aside0 (Rb k47 47 wq (gr + 1) v fs))
        case atStart => exact ⟨0, [], .slice none 0 0, rfl, ⟨Nat.zero_le _⟩, ⟨by have := HL16.out; omega⟩, ⟨rfl, (fun _ h => by cases h), (fun i f h => by simp at h)⟩, ⟨HC3.out.1⟩, ⟨HC3.out.2⟩, ⟨Rb.nil _ _ _ _⟩⟩
        case round =>
          obtain ⟨wq, rfl⟩ : ∃ wq : World, wq = wr := ⟨_, rfl⟩
          obtain ⟨k, fs, v, rfl, HK, HKK, HFS, HB, HC, HF⟩ := hrel
          obtain ⟨n', rfl⟩ : ∃ n', gk = n' + 1 := ⟨gk - 1, by have := HKK.out; have := HK.out; omega⟩
          obtain ⟨Af, cf, rfl, -, -⟩ := HF.out.slice
          by_cases t : k < l.length
          · have t1 : decide (k < l.length) = true := decide_eq_true t
            have t2 : decide ((k : Int) < (l.length : Int)) = true := decide_eq_true (by omega)
            have k0 : (0 : Int) ≤ (k : Int) := Int.natCast_nonneg _
            have k1 : (k : Int) < (l.length : Int) := by omega
            have k16 : (k : Int) < 16 := by have := HL16.out; omega
            obtain ⟨al, hal, mx0, mx1, mx2, mx3, mx4⟩ := at_T61 HCl.out (k : Int) k0 k1
            obtain ⟨x, hx⟩ : ∃ x, rd_T61 l (k : Int) = x := ⟨_, rfl⟩
            have hxb : BOk x := by rw [← hx]; unfold rd_T61; rw [show ((k : Int)).toNat = k from rfl, List.getD_eq_getElem?_getD, List.getElem?_eq_getElem t]; exact HLB.out _ (List.getElem_mem t)
            rw [hx] at mx0 mx1 mx2 mx3 mx4
            rw [show ((k : Int)).toNat = k from rfl] at mx0 mx1 mx2 mx3 mx4
            have HWQ := Aside0.mk (below_then HMo.out.bel HMo.out.bel.size HB.out)
            have HX := Aside0.mk (And.intro mx0 (And.intro mx1 (And.intro mx2 (And.intro mx3 mx4))))
            have HXB := Aside0.mk hxb
            have HT := Aside0.mk t
            have HMq := Aside0.mk (HMo.out.below HB.out)
            subst hal
            obtain ⟨K0, hK0, hK1, hK2⟩ : ∃ K0 : Int, Int.tmod x.f0 13 = K0 ∧ 0 ≤ K0 ∧ K0 < 13 := ⟨x.f0 % 13, tm _ _ hxb.b0.1 (by decide), by omega, by omega⟩
            obtain ⟨L, hL0, hL1, hL2⟩ : ∃ L : Int, Int.tmod x.f1 4 = L ∧ 0 ≤ L ∧ L < 4 := ⟨x.f1 % 4, tm _ _ hxb.b1.1 (by decide), by omega, by omega⟩
            have wK : IntKind.u8.wrap (K0 + 1) = K0 + 1 := by rw [IntKind.wrap_u8]; omega
            have wL : IntKind.i64.wrap L = L := by rw [IntKind.wrap_i64]; omega
            clear mx0 mx1 mx2 mx3 mx4 hx hxb t
            have m0 := pw_cell_below HWQ.out HX.out.1
            have m1 := pw_cell_below HWQ.out HX.out.2.1
            go_upto_region 23 with (fail)
            go_region_held3 (fun W => W.cell? ((al.add (k * 5))) = some (.int .u8 x.f0) ∧ W.cell? ⟨(al.add (k * 5)).block, (al.add (k * 5)).off + 1, none⟩ = some (.int .u8 x.f1))
              (first | with_reducible exact ⟨m0, m1⟩ | go_keep)
              (fail)
            go_upto_region 24 with (fail)
            have HT0 : Aside0 (TSt wq ((wq.alloc (.cells #[.int .u8 (K0 + 1), .int .i64 0, .int .i64 L] 45)).drew) wq.heap.size (K0 + 1) 0 L) := ⟨below_drew (below_alloc (Below.refl _ _) _), Nat.le_refl _, heap_alloc_new wq _⟩
            obtain ⟨gt, hgt⟩ : ∃ gt, wq.heap.size = gt := ⟨_, rfl⟩
            obtain ⟨w4, hw4⟩ : ∃ w4, (wq.alloc (.cells #[.int .u8 (K0 + 1), .int .i64 0, .int .i64 L] 45)).drew = w4 := ⟨_, rfl⟩
            rw [hw4, hgt] at HT0
            rw [hw4, hgt]
            obtain ⟨KD, hKD⟩ : ∃ KD, K0 + 1 = KD := ⟨_, rfl⟩
            rw [hKD] at HT0
            rw [hKD]
            have HKD : Aside0 (1 ≤ KD ∧ KD ≤ 13) := ⟨by omega⟩
            have HLS : Aside0 (0 ≤ L ∧ L ≤ 3) := ⟨by omega⟩
            clear hw4 hgt hKD hK0 hK1 hK2 hL0 hL1 hL2 wK wL m0 m1
            obtain ⟨b1, hb1⟩ : ∃ b1, ((KD == 10) && (en.length == 0)) = b1 := ⟨_, rfl⟩
            have HB1 := Aside0.mk hb1
            clear hb1
            go_cut [143] from 135 to 143 (fun v143 wc => v143 = .bool b1 ∧ wc = w4)
            case first =>
              as_aux_lemma =>
                have t0 := HT0.out.c0
                have o1 : w4.cell? ⟨go, 1, none⟩ = some (.slice Ae en.length ce) := pw_cell_below HT0.out.bel ((blk_cell HMq.out.o 1).trans rfl)
                by_cases a : KD = 10
                · have a1 : (KD == 10) = true := by simp [a]
                  by_cases e : en.length = 0
                  · have e1 : (en.length == 0) = true := by simp [e]
                    have e2 : ((en.length : Int) == 0) = true := by simp [e]
                    have hb := HB1.out
                    rw [a1, e1] at hb
                    clear a e HB1
                    subst hb
                    go_wp2_with (fail)
                    go_meet
                    exact ⟨rfl, rfl⟩
                  · have e1 : (en.length == 0) = false := by simp only [beq_eq_false_iff_ne]; omega
                    have e2 : ((en.length : Int) == 0) = false := by simp only [beq_eq_false_iff_ne]; omega
                    have hb := HB1.out
                    rw [a1, e1] at hb
                    clear a e HB1
                    subst hb
                    go_wp2_with (fail)
                    go_meet
                    exact ⟨rfl, rfl⟩
                · have a1 : (KD == 10) = false := by simp [a]
                  have hb := HB1.out
                  rw [a1] at hb
                  clear a HB1
                  subst hb
                  go_wp2_with (fail)
                  go_meet
                  exact ⟨rfl, rfl⟩
            obtain ⟨rfl, rfl⟩ := hcut
            go_upto_if 143 with (fail)
            go_cut [] from 135 to 144 (fun wd => ∃ kd : Int, Aside0 (1 ≤ kd ∧ kd ≤ 13 ∧ (kd = 10 → 0 < en.length)) ∧ Aside0 (TSt wq wd gt kd 0 L))
            case first =>
              as_aux_lemma =>
                have t0 := HT0.out.c0
                have y0 := blk_frozen HT0.out.t 0
                cases b1 with
                | true =>
                  go_wp2_with (fail)
                  go_meet
                  exact ⟨7, ⟨by decide, by decide, fun h => absurd h (by decide)⟩, ⟨HT0.out.set0 7⟩⟩
                | false =>
                  go_wp2_with (fail)
                  go_meet
                  exact ⟨KD, ⟨HKD.out.1, HKD.out.2, fun h => (Nat.eq_zero_or_pos en.length).elim (fun z => by have := HB1.out; rw [h, z] at this; exact absurd this (by decide)) id⟩, HT0⟩
            obtain ⟨kd, HKD1, HT1⟩ := hcut
            obtain ⟨w5, rfl⟩ : ∃ w5 : World, w5 = wc := ⟨_, rfl⟩
            clear HB1 HT0
            have t0 := HT1.out.c0
            go_upto_if 147 with (fail)
            clear t0
            go_cut [] from 145 to 158 (fun wd => ∃ rf : Int, Aside0 ((kd = 10 → 0 ≤ rf ∧ rf < en.length) ∧ (kd ≠ 10 → rf = 0)) ∧ Aside0 (TSt wq wd gt kd rf L))
            case first =>
              as_aux_lemma =>
                have m2 := pw_cell_below HT1.out.bel (pw_cell_below HWQ.out HX.out.2.2.1)
                have o1 : w5.cell? ⟨go, 1, none⟩ = some (.slice Ae en.length ce) := pw_cell_below HT1.out.bel ((blk_cell HMq.out.o 1).trans rfl)
                have c1 := HT1.out.c1
                have y1 := blk_frozen HT1.out.t 1
                by_cases a : kd = 10
                · have a1 : (kd == 10) = true := by simp [a]
                  have he := HKD1.out.2.2 a
                  obtain ⟨q, hq, hq0, hq1⟩ : ∃ q : Int, Int.tmod x.f2 (en.length : Int) = q ∧ 0 ≤ q ∧ q < en.length := ⟨x.f2 % (en.length : Int), tm _ _ HXB.out.b2.1 (by omega), Int.emod_nonneg _ (by omega), Int.emod_lt_of_pos _ (by omega)⟩
                  have wx : IntKind.i64.wrap x.f2 = x.f2 := by rw [IntKind.wrap_i64]; have := HXB.out.b2; omega
                  have hz0 : ((en.length : Int) == 0) = false := by simp only [beq_eq_false_iff_ne]; omega
                  have hz1 : (en.length == 0) = false := by simp only [beq_eq_false_iff_ne]; omega
                  have hz2 : ((en.length : Int) = 0) = False := eq_false (by omega)
                  have hz3 : (en.length = 0) = False := eq_false (by omega)
                  have HQ : Aside0 (0 ≤ q ∧ q < en.length) := ⟨hq0, hq1⟩
                  have HA := Aside0.mk a
                  clear a he hq0 hq1
                  go_upto_region 27 with (fail)
                  go_still_tail 11, (by kernel_rfl)
                  change wpList _ _ _ _ _ w5.drew
                  clear m2 o1
                  go_wp2_with (fail)
                  go_meet
                  exact ⟨q, ⟨fun _ => HQ.out, fun h => absurd HA.out h⟩, ⟨by first | exact (HT1.out.set1 q).drew | exact HT1.out.drew.set1 q⟩⟩
                · have a1 : (kd == 10) = false := by simp [a]
                  have HA := Aside0.mk a
                  clear a
                  go_wp2_with (fail)
                  go_meet
                  exact ⟨0, ⟨fun h => absurd h HA.out, fun _ => rfl⟩, HT1⟩
            obtain ⟨rf, HRF, HT2⟩ := hcut
            obtain ⟨w6, rfl⟩ : ∃ w6 : World, w6 = wc := ⟨_, rfl⟩
            clear HT1
            obtain ⟨b3, hb3⟩ : ∃ b3, ((kd == 13) && tr && ((i : Int) + 1 == (S.length : Int))) = b3 := ⟨_, rfl⟩
            have HB3 := Aside0.mk hb3
            clear hb3
            go_upto_region 28 with (fail)
            go_cut [173] from 159 to 173 (fun v173 wd => v173 = .bool b3 ∧ wd = w6)
            case first =>
              as_aux_lemma =>
                have t0 := HT2.out.c0
                have m1 : w6.cell? ⟨g1, 1, none⟩ = some (.slice (some aS) S.length z1) := pw_cell_below HT2.out.bel ((blk_cell HMq.out.p 1).trans rfl)
                have m3 : w6.cell? ⟨g1, 3, none⟩ = some (.bool tr) := pw_cell_below HT2.out.bel ((blk_cell HMq.out.p 3).trans rfl)
                have hb := HB3.out
                by_cases a : kd = 13
                · have a1 : (kd == 13) = true := by simp [a]
                  rw [a1] at hb
                  cases tr with
                  | true =>
                    by_cases e : (i : Int) + 1 = (S.length : Int)
                    · have e1 : (((i : Int) + 1) == (S.length : Int)) = true := by simp [e]
                      rw [e1] at hb
                      clear a e HB3
                      subst hb
                      go_wp2_with (fail)
                      go_meet
                      exact ⟨rfl, rfl⟩
                    · have e1 : (((i : Int) + 1) == (S.length : Int)) = false := by simp [e]
                      rw [e1] at hb
                      clear a e HB3
                      subst hb
                      go_wp2_with (fail)
                      go_meet
                      exact ⟨rfl, rfl⟩
                  | false =>
                    clear a HB3
                    subst hb
                    go_wp2_with (fail)
                    go_meet
                    exact ⟨rfl, rfl⟩
                · have a1 : (kd == 13) = false := by simp [a]
                  rw [a1] at hb
                  clear a HB3
                  subst hb
                  go_wp2_with (fail)
                  go_meet
                  exact ⟨rfl, rfl⟩
            obtain ⟨rfl, hw6⟩ := hcut
            rw [hw6]
            clear hw6
            go_upto_if 173 with (fail)
            go_cut [] from 159 to 174 (fun wd => ∃ kd' : Int, Aside0 (1 ≤ kd' ∧ kd' ≤ 13 ∧ (kd' = 10 → kd = 10) ∧ (kd' = 13 → tr = true → (i : Int) + 1 ≠ (S.length : Int))) ∧ Aside0 (TSt wq wd gt kd' rf L))
            case first =>
              as_aux_lemma =>
                have t0 := HT2.out.c0
                have y0 := blk_frozen HT2.out.t 0
                cases b3 with
                | true =>
                  go_wp2_with (fail)
                  go_meet
                  exact ⟨11, ⟨by decide, by decide, fun h => absurd h (by decide), fun h => absurd h (by decide)⟩, ⟨HT2.out.set0 11⟩⟩
                | false =>
                  go_wp2_with (fail)
                  go_meet
                  exact ⟨kd, ⟨HKD1.out.1, HKD1.out.2.1, id, fun h h2 e => by have := HB3.out; rw [h, h2, e] at this; simp at this⟩, HT2⟩
            obtain ⟨kd', HKD2, HT3⟩ := hcut
            obtain ⟨w7, rfl⟩ : ∃ w7 : World, w7 = wc := ⟨_, rfl⟩
            clear HB3 HT2
            have t0 := HT3.out.c0
            go_upto_if 177 with (fail)
            clear t0
            go_cut [] from 175 to 207 (fun wd => ∃ rf' : Int, Aside0 ((kd' = 13 → 0 ≤ rf' ∧ rf' < S.length ∧ (tr = true → (i : Int) < rf')) ∧ (kd' ≠ 13 → rf' = rf)) ∧ Aside0 (TSt wq wd gt kd' rf' L))
            case first =>
              as_aux_lemma =>
                have m2 := pw_cell_below HT3.out.bel (pw_cell_below HWQ.out HX.out.2.2.1)
                have m1 : w7.cell? ⟨g1, 1, none⟩ = some (.slice (some aS) S.length z1) := pw_cell_below HT3.out.bel ((blk_cell HMq.out.p 1).trans rfl)
                have m3 : w7.cell? ⟨g1, 3, none⟩ = some (.bool tr) := pw_cell_below HT3.out.bel ((blk_cell HMq.out.p 3).trans rfl)
                have c1 := HT3.out.c1
                have y1 := blk_frozen HT3.out.t 1
                by_cases a : kd' = 13
                · have a1 : (kd' == 13) = true := by simp [a]
                  obtain ⟨q, hq, hq0, hq1⟩ : ∃ q : Int, Int.tmod x.f2 (S.length : Int) = q ∧ 0 ≤ q ∧ q < S.length := ⟨x.f2 % (S.length : Int), tm _ _ HXB.out.b2.1 (by omega), Int.emod_nonneg _ (by omega), Int.emod_lt_of_pos _ (by omega)⟩
                  have wx : IntKind.i64.wrap x.f2 = x.f2 := by rw [IntKind.wrap_i64]; have := HXB.out.b2; omega
                  have hz0 : ((S.length : Int) == 0) = false := by simp only [beq_eq_false_iff_ne]; omega
                  have hz1 : (S.length == 0) = false := by simp only [beq_eq_false_iff_ne]; omega
                  have hz2 : ((S.length : Int) = 0) = False := eq_false (by omega)
                  have hz3 : (S.length = 0) = False := eq_false (by omega)
                  have HQ : Aside0 (0 ≤ q ∧ q < S.length) := ⟨hq0, hq1⟩
                  have HA := Aside0.mk a
                  clear a hq0 hq1
                  go_upto_region 31 with (fail)
                  go_still_tail 11, (by kernel_rfl)
                  change wpList _ _ _ _ _ w7.drew
                  go_upto_region 32 with (fail)
                  have HT4 : Aside0 (TSt wq (w7.setCell ⟨gt, 1, none⟩ (.int .i64 q)).drew gt kd' q L) := ⟨(HT3.out.set1 q).drew⟩
                  generalize (w7.setCell ⟨gt, 1, none⟩ (.int .i64 q)).drew = w8 at HT4 ⊢
                  clear m1 m2 m3 c1 y1 hq hz0 hz1 hz2 hz3
                  have m2 := pw_cell_below HT4.out.bel (pw_cell_below HWQ.out HX.out.2.2.1)
                  have m1 : w8.cell? ⟨g1, 1, none⟩ = some (.slice (some aS) S.length z1) := pw_cell_below HT4.out.bel ((blk_cell HMq.out.p 1).trans rfl)
                  have m3 : w8.cell? ⟨g1, 3, none⟩ = some (.bool tr) := pw_cell_below HT4.out.bel ((blk_cell HMq.out.p 3).trans rfl)
                  have c1 := HT4.out.c1
                  have y1 := blk_frozen HT4.out.t 1
                  cases tr with
                  | false =>
                    go_wp2_with (fail)
                    go_meet
                    exact ⟨q, ⟨fun _ => ⟨HQ.out.1, HQ.out.2, fun h => by cases h⟩, fun h => absurd HA.out h⟩, HT4⟩
                  | true =>
                    have hne := HKD2.out.2.2.2 HA.out rfl
                    obtain ⟨q', hq, hq0, hq1⟩ : ∃ q' : Int, Int.tmod x.f2 ((S.length : Int) - (i : Int) - 1) = q' ∧ 0 ≤ q' ∧ q' < (S.length : Int) - (i : Int) - 1 := ⟨x.f2 % ((S.length : Int) - (i : Int) - 1), tm _ _ HXB.out.b2.1 (by omega), Int.emod_nonneg _ (by omega), Int.emod_lt_of_pos _ (by omega)⟩
                    have hs16 : (S.length : Int) ≤ 16 := by have := HLEN.out; omega
                    have hz0 : ((S.length : Int) - (i : Int) - 1 == 0) = false := by simp only [beq_eq_false_iff_ne]; omega
                    have hz2 : ((S.length : Int) - (i : Int) - 1 = 0) = False := eq_false (by omega)
                    have HQ' : Aside0 (0 ≤ q' ∧ q' < (S.length : Int) - (i : Int) - 1) := ⟨hq0, hq1⟩
                    have hq16 : q' < 16 := by omega
                    have ws : IntKind.i64.wrap ((i : Int) + 1 + q') = (i : Int) + 1 + q' := by rw [IntKind.wrap_i64]; omega
                    have ws1 : IntKind.i64.wrap ((i : Int) + 1) = (i : Int) + 1 := by rw [IntKind.wrap_i64]; omega
                    have ws2 : IntKind.i64.wrap ((S.length : Int) - (i : Int)) = (S.length : Int) - (i : Int) := by rw [IntKind.wrap_i64]; omega
                    have ws3 : IntKind.i64.wrap ((S.length : Int) - (i : Int) - 1) = (S.length : Int) - (i : Int) - 1 := by rw [IntKind.wrap_i64]; omega
                    clear hne
                    go_upto_region 33 with (fail)
                    go_still_tail 17, (by kernel_rfl)
                    change wpList _ _ _ _ _ w8.drew
                    go_wp2_with (fail)
                    go_meet
                    exact ⟨(i : Int) + 1 + q', ⟨fun _ => ⟨by have := HQ'.out; omega, by have := HQ'.out; omega, fun _ => by have := HQ'.out; omega⟩, fun h => absurd HA.out h⟩, ⟨by first | exact (HT4.out.set1 _).drew | exact HT4.out.drew.set1 _⟩⟩
                · have a1 : (kd' == 13) = false := by simp [a]
                  have HA := Aside0.mk a
                  clear a
                  go_wp2_with (fail)
                  go_meet
                  exact ⟨rf, ⟨fun h => absurd h HA.out, fun _ => rfl⟩, HT3⟩
            obtain ⟨rf', HRF2, HT4⟩ := hcut
            obtain ⟨w8, rfl⟩ : ∃ w8 : World, w8 = wc := ⟨_, rfl⟩
            clear HT3
            obtain ⟨lb, hlb⟩ := label_some x.f3 (k : Int) HXB.out.b3.1 HXB.out.b3.2
            have HLAB : Aside0 (∀ W, Calls Tryd.prog 14 #[.int .u8 x.f3, .int .i64 k] W fun e w' => e = .returned (.string lb) ∧ Below W.heap.size W w') := ⟨fun W => transomhand05_label.calls _ _ _ W hlb⟩
            have HLBF := Aside0.mk hlb
            clear hlb
            have HNQ : Aside0 (gt ≠ w8.heap.size ∧ (al.add (k * 5)).block ≠ w8.heap.size) := ⟨by have := blk_lt HT4.out.t; omega, by have := World.block_lt_of_cell? _ _ HX.out.1; have := HWQ.out.size; have := HT4.out.bel.size; omega⟩
            go_upto_region 34 with (fail)
            go_cut [13] from 208 to 216 (fun v13 wd => ∃ gf : Nat, v13 = .pointer (some ⟨gf, 0, none⟩) ∧ Aside0 (TSt wq wd gt kd' rf' L) ∧ Aside0 (w8.heap.size ≤ gf ∧ wd.heap[gf]? = some (.cells #[.string lb, .int .u8 kd', .int .i64 rf', .int .i64 L, .int .u64 0] 47 (0, 0))))
            case first =>
              as_aux_lemma =>
                have m3 := pw_cell_below HT4.out.bel (pw_cell_below HWQ.out HX.out.2.2.2.1)
                have t0 := HT4.out.c0
                have t1' := HT4.out.c1
                have t2' := HT4.out.c2
                go_region_held3 (fun W => W.cell? ⟨(al.add (k * 5)).block, (al.add (k * 5)).off + 3, none⟩ = some (.int .u8 x.f3) ∧ W.cell? ⟨gt, 0, none⟩ = some (.int .u8 kd') ∧ W.cell? ⟨gt, 1, none⟩ = some (.int .i64 rf') ∧ W.cell? ⟨gt, 2, none⟩ = some (.int .i64 L))
                  (first | with_reducible exact ⟨kk0, kk1, kk2, kk3⟩ | with_reducible exact ⟨set5_cell kk0 HNQ.out.2, set5_cell kk1 HNQ.out.1, set5_cell kk2 HNQ.out.1, set5_cell kk3 HNQ.out.1⟩ | go_keep)
                  (first
                    | (go_at_call 14; (with_reducible refine (HLAB.out w8.drew).mono ?_); rintro e w9 ⟨rfl, hb9⟩; have hw6 := below_drew (Below.refl w8.heap.size w8); have HT9 := Aside0.mk ((HT4.out.below hw6).below hb9); have kk0 := pw_cell_below HT9.out.bel (pw_cell_below HWQ.out HX.out.2.2.2.1); have kk1 := HT9.out.c0; have kk2 := HT9.out.c1; have kk3 := HT9.out.c2; have HB9 := Aside0.mk (below_then hw6 hw6.size hb9); clear hw6 hb9)
                    | (go_at_call 14; (with_reducible refine (HLAB.out (w8.alloc (.cells #[.string ⟨#[]⟩, .int .u8 0, .int .i64 0, .int .i64 0, .int .u64 0] 47)).drew).mono ?_); rintro e w9 ⟨rfl, hb9⟩; have hw6 := below_drew (below_alloc (Below.refl w8.heap.size w8) (.cells #[.string ⟨#[]⟩, .int .u8 0, .int .i64 0, .int .i64 0, .int .u64 0] 47)); have HT9 := Aside0.mk ((HT4.out.below hw6).below hb9); have kk0 := pw_cell_below HT9.out.bel (pw_cell_below HWQ.out HX.out.2.2.2.1); have kk1 := HT9.out.c0; have kk2 := HT9.out.c1; have kk3 := HT9.out.c2; have HB9 := Aside0.mk (below_then hw6 hw6.size hb9); have HN9 := Aside0.mk ((hb9.block w8.heap.size (by show w8.heap.size < (w8.alloc (.cells #[.string ⟨#[]⟩, .int .u8 0, .int .i64 0, .int .i64 0, .int .u64 0] 47)).heap.size; simp)).trans (heap_alloc_new w8 (.cells #[.string ⟨#[]⟩, .int .u8 0, .int .i64 0, .int .i64 0, .int .u64 0] 47))); have nn0 := (blk_cell HN9.out 0).trans rfl; have nn1 := (blk_cell HN9.out 1).trans rfl; have nn2 := (blk_cell HN9.out 2).trans rfl; have nn3 := (blk_cell HN9.out 3).trans rfl; have nn4 := (blk_cell HN9.out 4).trans rfl; have yn0 := blk_frozen HN9.out 0; have yn1 := blk_frozen HN9.out 1; have yn2 := blk_frozen HN9.out 2; have yn3 := blk_frozen HN9.out 3; have yn4 := blk_frozen HN9.out 4; clear hw6 hb9))
                · clear kk0 kk1 kk2 kk3 m3 t0 t1' t2'
                  go_wp2_with (fail)
                  go_meet
                  exact ⟨w9.heap.size, rfl, ⟨HT9.out.below (below_alloc (Below.refl _ _) _)⟩, ⟨⟨HB9.out.size, heap_alloc_new w9 _⟩⟩⟩
                · clear kk0 kk1 kk2 kk3 m3 t0 t1' t2' nn0 nn1 nn2 nn3 nn4 yn0 yn1 yn2 yn3 yn4
                  go_wp2_with (fail)
                  go_meet
                  obtain ⟨wz, hwz⟩ : ∃ wz, ((((w9.setCell ⟨w8.heap.size, 0, none⟩ (.string lb)).setCell ⟨w8.heap.size, 1, none⟩ (.int .u8 kd')).setCell ⟨w8.heap.size, 2, none⟩ (.int .i64 rf')).setCell ⟨w8.heap.size, 3, none⟩ (.int .i64 L)).setCell ⟨w8.heap.size, 4, none⟩ (.int .u64 0) = wz := ⟨_, rfl⟩
                  rw [hwz]
                  obtain ⟨q1, q2, q3⟩ := set5_all hwz
                  exact ⟨w8.heap.size, rfl, ⟨⟨q1 HT9.out.bel HT4.out.bel.size, HT9.out.ge, q2 HNQ.out.1 HT9.out.t⟩⟩, ⟨⟨Nat.le_refl _, q3 HN9.out⟩⟩⟩
            obtain ⟨gf, rfl, HT5, HF5⟩ := hcut
            obtain ⟨w10, rfl⟩ : ∃ w10 : World, w10 = wc := ⟨_, rfl⟩
            have HGF : Aside0 (w8.heap.size ≤ gf) := ⟨HF5.out.1⟩
            have t0 := HT5.out.c0
            have t1' := HT5.out.c1
            have t2' := HT5.out.c2
            obtain ⟨bN, hbN⟩ : ∃ bN, decide (L = 0 ∧ 0 < szB kd') = bN := ⟨_, rfl⟩
            have HNUM : Aside0 (transomref05_IsNum.f 6 kd' rf' L = some bN) := ⟨by rw [isnum_f kd' rf' L (by have := HKD2.out; omega) (by have := HKD2.out; omega), hbN]⟩
            have HBN := Aside0.mk hbN
            clear hbN
            go_upto_if 218 with (go_at_call 15; (with_reducible refine (transomref05_IsNum.calls 6 kd' rf' L bN _ HNUM.out).mono ?_); rintro e w11 ⟨rfl, hb11⟩; have HT6 := Aside0.mk (HT5.out.below hb11); have HF6 := Aside0.mk ((hb11.block _ (blk_lt HF5.out.2)).trans HF5.out.2); clear hb11 t0 t1' t2')
            go_cut [] from 217 to 227 (fun wd => ∃ d : Int, Aside0 (FOk en S.length tr i ⟨lb, ⟨kd', rf', L⟩, d⟩) ∧ Aside0 (Below wq.heap.size wq wd) ∧ Aside0 (wd.heap[gf]? = some (.cells #[.string lb, .int .u8 kd', .int .i64 rf', .int .i64 L, .int .u64 d] 47 (0, 0))))
            case first =>
              as_aux_lemma =>
                have hk1 := HKD1.out
                have hk2 := HKD2.out
                have hrf := HRF.out
                have hrf2 := HRF2.out
                have hls := HLS.out
                have HFOK : Aside0 (∀ d : Int, (L = 0 → 0 < szB kd' → ∀ st root, numB st en root kd' rf' 0 d = true) → (¬ (L = 0 ∧ 0 < szB kd') → d = 0) → 0 ≤ d ∧ d < 18446744073709551616 → FOk en S.length tr i ⟨lb, ⟨kd', rf', L⟩, d⟩) := ⟨fun d h1 h2 h3 =>
                  ⟨⟨hk2.1, hk2.2.1⟩, hls, fun e => by have e' : kd' = 10 := e; have := hrf2.2 (by omega); have := hrf.1 (hk2.2.2.1 e'); show 0 ≤ rf' ∧ rf' < _; omega, fun e => ⟨(hrf2.1 e).1, (hrf2.1 e).2.1⟩, fun ht e => (hrf2.1 e).2.2 ht, h1, h2, h3⟩⟩
                cases bN with
                | false =>
                  have hn : ¬ (L = 0 ∧ 0 < szB kd') := of_decide_eq_false HBN.out
                  have HOK0 := Aside0.mk (HFOK.out 0 (fun x y => absurd ⟨x, y⟩ hn) (fun _ => rfl) ⟨by decide, by decide⟩)
                  clear hk1 hk2 hrf hrf2 hls hn HFOK
                  go_wp2_with (fail)
                  go_meet
                  exact ⟨0, HOK0, ⟨HT6.out.bel⟩, HF6⟩
                | true =>
                  have hn : L = 0 ∧ 0 < szB kd' := of_decide_eq_true HBN.out
                  obtain ⟨m, hm, hmn, hm0, hm1⟩ := number_ok HEN.out.1 kd' rf' x.f4 hk2.1 (szB_le hn.2) (fun e => by have := hrf2.2 (by omega); have := hrf.1 (hk2.2.2.1 e); omega) HXB.out.b4.1 HXB.out.b4.2 L
                  have HOK0 := Aside0.mk (HFOK.out m (fun _ _ st root => hmn st root) (fun h => absurd hn h) ⟨hm0, hm1⟩)
                  have hbo := below_then HB.out HB.out.size HT6.out.bel
                  have HO11 := Aside0.mk (HMo.out.below hbo)
                  have HNC : Aside0 (∀ W, Below w11.heap.size w11 W → Calls Tryd.prog 16 #[.agg #[.slice As st.length cs, .slice Ae en.length ce, .int .i64 root], .agg #[.int .u8 kd', .int .i64 rf', .int .i64 L], .int .u64 x.f4] W fun e w' => e = .returned (.int .u64 m) ∧ Below W.heap.size W w') := ⟨fun W hW => by
                    have h0 := below_then hbo hbo.size hW
                    have h1 := Kd.R_reads' (HRo.out.below h0)
                    have h2 := HENC.out W (keep_trans HKo.out (KeepBut.of_below h0 go none))
                    exact transomhand05_Number.calls 7 As cs st Ae ce en root kd' rf' L x.f4 m W h1.2.2 h1.2.1 h2.1 h2.2.1 (hm st root)⟩
                  have o0 : w11.cell? ⟨go, 0, none⟩ = some (.slice As st.length cs) := (blk_cell HO11.out.o 0).trans rfl
                  have o1 : w11.cell? ⟨go, 1, none⟩ = some (.slice Ae en.length ce) := (blk_cell HO11.out.o 1).trans rfl
                  have o2 : w11.cell? ⟨go, 2, none⟩ = some (.int .i64 root) := (blk_cell HO11.out.o 2).trans rfl
                  have t0 := HT6.out.c0
                  have t1' := HT6.out.c1
                  have t2' := HT6.out.c2
                  have m4 := pw_cell_below HT6.out.bel (pw_cell_below HWQ.out HX.out.2.2.2.2)
                  clear hk1 hk2 hrf hrf2 hls hn HFOK hm hmn hm0 hm1 hbo
                  go_upto_region 36 with (fail)
                  go_still_tail 7, (by kernel_rfl)
                  change wpList _ _ _ _ _ w11.drew
                  clear o0 o1 o2 t0 t1' t2' m4
                  go_wp2_with (go_at_call 16; (with_reducible refine (HNC.out w11.drew (below_drew (Below.refl w11.heap.size w11))).mono ?_); rintro e w12 ⟨rfl, hb12⟩; have HF7 := Aside0.mk ((hb12.block gf (blk_lt HF6.out)).trans HF6.out); have HB7 := Aside0.mk (below_then (below_drew HT6.out.bel) HT6.out.bel.size hb12); have n4 := (blk_cell HF7.out 4).trans rfl; have yn4 := blk_frozen HF7.out 4; clear hb12)
                  go_meet
                  exact ⟨m, HOK0, ⟨Below.setCell HB7.out (p := ⟨gf, 4, none⟩) (by show wq.heap.size ≤ gf; have := HGF.out; have := HT4.out.bel.size; omega) _⟩, ⟨by simpa using blk_set HF7.out 4 (.int .u64 m)⟩⟩
            obtain ⟨d, HFD, HB8, HF8⟩ := hcut
            obtain ⟨w13, rfl⟩ : ∃ w13 : World, w13 = wc := ⟨_, rfl⟩
            have HC8 := Aside0.mk ((HB8.out.block _ (blk_lt HC.out)).trans HC.out)
            have HR8 := Aside0.mk (HF.out.below HB8.out)
            have b1 : w13.cell? ⟨gr, 1, none⟩ = some (.slice Af fs.length cf) := (blk_cell HC8.out 1).trans rfl
            have n0 : w13.cell? ⟨gf, 0, none⟩ = some (.string lb) := (blk_cell HF8.out 0).trans rfl
            have n1 : w13.cell? ⟨gf, 1, none⟩ = some (.int .u8 kd') := (blk_cell HF8.out 1).trans rfl
            have n2 : w13.cell? ⟨gf, 2, none⟩ = some (.int .i64 rf') := (blk_cell HF8.out 2).trans rfl
            have n3 : w13.cell? ⟨gf, 3, none⟩ = some (.int .i64 L) := (blk_cell HF8.out 3).trans rfl
            have n4 : w13.cell? ⟨gf, 4, none⟩ = some (.int .u64 d) := (blk_cell HF8.out 4).trans rfl
            go_wp2_with ((with_reducible refine gate_builtin (b := .append) (xs := #[.tmp 229, .tmp 231]) rfl ?_); at_builtin; refine Kd.R_append k47 (w0 := w13) (W := w13) (gr + 1) rfl (.tmp 229) (.tmp 231) 48 47 (.agg #[.string ⟨#[]⟩, .int .u8 0, .int .i64 0, .int .i64 0, .int .u64 0]) 48 rfl Tryd.underlying48 info47 rfl (by decide) (by decide) (.slice Af fs.length cf) fs ⟨lb, ⟨kd', rf', L⟩, d⟩ [.string lb, .int .u8 kd', .int .i64 rf', .int .i64 L, .int .u64 d] (fun _ => True) (fun _ => False) rfl rfl (k47_mkM w13 (gr + 1) _ ⟨lb, ⟨kd', rf', L⟩, d⟩) (fun _ h => h.elim) (fun _ _ => trivial) HR8.out (Below.refl _ _) (blk_lt HC8.out) (by have := HFS.out.1; omega) ?_)
            intro v9 w9 hr9 _ hg9 _
            obtain ⟨A9, c9, e9, -, -⟩ := Rb.slice hr9
            rw [List.length_append, List.length_singleton] at e9
            subst e9
            have HG9 : Aside0 (∀ z, (Value.slice Af fs.length cf).ownBlock = some z → gr + 1 ≤ z) := ⟨fun z hz => (HR8.out.bas z hz).1⟩
            have HB9 : Aside0 (Below wo.heap.size wo w9) := ⟨by
              have h0 := below_then HB.out HB.out.size HB8.out
              exact h0.grown hg9 h0.size (fun z hz => by have := HG9.out z hz; have := HGR.out; omega)⟩
            have HC9 := Aside0.mk (blk_grown HC8.out hg9 (fun e => by have := HG9.out gr e.symm; omega))
            have HR9 := Aside0.mk hr9
            have o9 : w9.cell? ⟨gr, 1, none⟩ = some (.slice Af fs.length cf) := (blk_cell HC9.out 1).trans rfl
            have f9 := blk_frozen HC9.out 1
            clear hr9 hg9 b1 n0 n1 n2 n3 n4
            go_wp2_with (fail)
            go_roundg n'
            case measure => omega
            case rel =>
              have h1 := HFS.out
              exact ⟨k + 1, fs ++ [⟨lb, ⟨kd', rf', L⟩, d⟩], .slice A9 (fs.length + 1) c9, by go_num, ⟨by have := HT.out; omega⟩, ⟨by have := HKK.out; omega⟩, ⟨by rw [List.length_append, h1.1]; rfl, (fun f hf => by
                rcases List.mem_append.1 hf with h | h
                · exact h1.2.1 f h
                · rw [List.mem_singleton] at h; subst h; exact HFD.out), h1.2.2.snoc HXB.out.b3.1 HXB.out.b3.2 (by rw [h1.1]; exact HLBF.out)⟩,
                ⟨Below.setCell HB9.out (p := ⟨gr, 1, none⟩) (by show wo.heap.size ≤ gr; have := HGR.out; omega) _⟩, ⟨by simpa using blk_set HC9.out 1 (.slice A9 (fs.length + 1) c9)⟩, ⟨Rb.set (p := ⟨gr, 1, none⟩) HR9.out (Nat.lt_succ_self _) _⟩⟩
          · have t1 : decide (k < l.length) = false := decide_eq_false t
            have t2 : decide ((k : Int) < (l.length : Int)) = false := decide_eq_false (by omega)
            have HT : Aside0 (k = l.length) := ⟨by have := HK.out; omega⟩
            have HMq := Aside0.mk (HMo.out.below HB.out)
            have HRq := Aside0.mk (HRo.out.below HB.out)
            have o0 : wq.cell? ⟨go, 0, none⟩ = some (.slice As st.length cs) := (blk_cell HMq.out.o 0).trans rfl
            have b0 : wq.cell? ⟨gr, 0, none⟩ = some (.string nm) := (blk_cell HC.out 0).trans rfl
            have b1 : wq.cell? ⟨gr, 1, none⟩ = some (.slice Af fs.length cf) := (blk_cell HC.out 1).trans rfl
            have HMk : Aside0 (k50.M wq wE.heap.size (fun z => gr + 1 ≤ z) ⟨nm, fs⟩ [.string nm, .slice Af fs.length cf]) := ⟨k50_mkM wq wE.heap.size _ ⟨nm, fs⟩ (Kd.R_lower (Rb.from HF.out) (by have := HKo.out.1; have := HGR.out; omega))⟩
            have HNE : Aside0 (∀ z, gr + 1 ≤ z → True ∧ some z ≠ (Value.slice As st.length cs).ownBlock) := ⟨fun z hz => ⟨trivial, fun e => by have := (HRo.out.bas z e.symm).2; have := HGR.out; omega⟩⟩
            clear t
            go_wp2_with ((with_reducible refine gate_builtin (b := .append) (xs := #[.tmp 235, .tmp 237]) rfl ?_); at_builtin; refine Kd.R_append k50 (w0 := wq) (W := wq) wE.heap.size rfl (.tmp 235) (.tmp 237) 31 50 (.agg #[.string ⟨#[]⟩, .slice none 0 0]) 40 rfl Tryd.underlying31 info50 rfl (by decide) (by decide) (.slice As st.length cs) st ⟨nm, fs⟩ [.string nm, .slice Af fs.length cf] (fun _ => True) (fun z => gr + 1 ≤ z) rfl rfl HMk.out HNE.out (fun _ _ => trivial) HRq.out (Below.refl _ _) (by have := HKo.out.1; have := HB.out.size; omega) (by have := HST.out.1; omega) ?_)
            intro v9 w9 hr9 _ hg9 _
            obtain ⟨A9, c9, e9, -, -⟩ := Rb.slice hr9
            rw [List.length_append, List.length_singleton] at e9
            subst e9
            have HG9 : Aside0 (∀ z, (Value.slice As st.length cs).ownBlock = some z → wE.heap.size ≤ z) := ⟨fun z hz => (HRq.out.bas z hz).1⟩
            have HM9 := Aside0.mk (HMq.out.grown hg9 (fun z hz => by have := HG9.out z hz; have := HGE.out; omega))
            have HK9 := Aside0.mk (keep_grown (keep_trans HKo.out (KeepBut.of_below HB.out go none)) hg9 HG9.out)
            have HR9 := Aside0.mk hr9
            have o9 : w9.cell? ⟨go, 0, none⟩ = some (.slice As st.length cs) := (blk_cell HM9.out.o 0).trans rfl
            have f9 := blk_frozen HM9.out.o 0
            clear hr9 hg9 b0 b1 o0
            go_wp2_with (fail)
            go_roundg n
            case measure => omega
            case rel =>
              have h1 := HFS.out
              have h2 := HT.out
              have h3 := HL16.out
              have h4 := HST.out
              exact ⟨i + 1, st ++ [⟨nm, fs⟩], .slice A9 (st.length + 1) c9, by go_num, ⟨by have := HP.out; omega⟩, ⟨by have := HIK.out; omega⟩, ⟨by rw [List.length_append, h4.1]; rfl, schOk_snoc h4.2.1 (by omega) (by omega) (by rw [h4.1]; exact h1.2.1), fun r hr => by
                rcases List.mem_append.1 hr with h | h
                · exact h4.2.2 r h
                · rw [List.mem_singleton] at h; subst h; exact h1.2.2⟩,
                ⟨HM9.out.set 0 (.slice A9 (st.length + 1) c9)⟩, ⟨HK9.out.set_ 0 _⟩, ⟨Rb.set (p := ⟨go, 0, none⟩) HR9.out HGE.out _⟩⟩
      · have ways : (decide (l.length < 1) = true ∧ decide ((l.length : Int) < 1) = true) ∨ ((decide (l.length < 1) = false ∧ decide ((l.length : Int) < 1) = false) ∧ decide (16 < l.length) = true ∧ decide ((16 : Int) < (l.length : Int)) = true) := by
          by_cases h1 : l.length < 1
          · exact .inl ⟨decide_eq_true h1, decide_eq_true (by omega)⟩
          · exact .inr ⟨⟨decide_eq_false h1, decide_eq_false (by omega)⟩, decide_eq_true (by omega), decide_eq_true (by omega)⟩
        have r0 : wo.cell? ⟨g2, 0, none⟩ = some (.slice none 0 0) := (blk_cell HMo.out.r 0).trans rfl
        have r1 : wo.cell? ⟨g2, 1, none⟩ = some (.slice none 0 0) := (blk_cell HMo.out.r 1).trans rfl
        have r2 : wo.cell? ⟨g2, 2, none⟩ = some (.int .i64 0) := (blk_cell HMo.out.r 2).trans rfl
        have y0 := blk_frozen HMo.out.r 0
        have y1 := blk_frozen HMo.out.r 1
        have y2 := blk_frozen HMo.out.r 2
        clear hl16
        rcases ways with ⟨q1, q2⟩ | ⟨⟨q1, q2⟩, q3, q4⟩
        all_goals
          go_wp2_with (fail)
          clear r0 r1 r2 y0 y1 y2
          have hb := blk_set (blk_set (blk_set HMo.out.r 0 (.slice none 0 0)) 1 (.slice none 0 0)) 2 (.int .i64 0)
          have x0 := (blk_cell hb 0).trans rfl
          have x1 := (blk_cell hb 1).trans rfl
          have x2 := (blk_cell hb 2).trans rfl
          have hlow : w.heap.size ≤ g2 := by have := HEQ.out; omega
          refine bodyPost_ret (v := .tuple #[.agg #[.slice none 0 0, .slice none 0 0, .int .i64 0], .bool false]) (by simp [results, Tryd.results6, go_sem, x0, x1, x2]) rfl ⟨[], [], 0, false, _, _, rfl, Rb.nil _ _ _ _, Rb.nil _ _ _ _, ?_, made_bad, fun h => by cases h⟩
          exact Below.setCell (Below.setCell (Below.setCell HMo.out.bel (p := ⟨g2, 0, none⟩) hlow _) (p := ⟨g2, 1, none⟩) hlow _) (p := ⟨g2, 2, none⟩) hlow _
    · have p1 : decide (i < S.length) = false := decide_eq_false p
      have p2 : decide ((i : Int) < (S.length : Int)) = false := decide_eq_false (by omega)
      have HT : Aside0 (i = S.length) := ⟨by have := HI.out; omega⟩
      have o0 : wo.cell? ⟨go, 0, none⟩ = some (.slice As st.length cs) := (blk_cell HMo.out.o 0).trans rfl
      have o1 : wo.cell? ⟨go, 1, none⟩ = some (.slice Ae en.length ce) := (blk_cell HMo.out.o 1).trans rfl
      have o2 : wo.cell? ⟨go, 2, none⟩ = some (.int .i64 root) := (blk_cell HMo.out.o 2).trans rfl
      have r0 : wo.cell? ⟨g2, 0, none⟩ = some (.slice none 0 0) := (blk_cell HMo.out.r 0).trans rfl
      have r1 : wo.cell? ⟨g2, 1, none⟩ = some (.slice none 0 0) := (blk_cell HMo.out.r 1).trans rfl
      have r2 : wo.cell? ⟨g2, 2, none⟩ = some (.int .i64 0) := (blk_cell HMo.out.r 2).trans rfl
      have y0 := blk_frozen HMo.out.r 0
      have y1 := blk_frozen HMo.out.r 1
      have y2 := blk_frozen HMo.out.r 2
      clear p
      go_wp2_with (fail)
      clear o0 o1 o2 r0 r1 r2 y0 y1 y2 m1
      have hb := blk_set (blk_set (blk_set HMo.out.r 0 (.slice As st.length cs)) 1 (.slice Ae en.length ce)) 2 (.int .i64 root)
      have x0 := (blk_cell hb 0).trans rfl
      have x1 := (blk_cell hb 1).trans rfl
      have x2 := (blk_cell hb 2).trans rfl
      have hlow : w.heap.size ≤ g2 := by have := HEQ.out; omega
      have h1 := HST.out
      have h2 := HT.out
      have h3 := HLEN.out
      have h4 := HROOT.out
      have hE := (HENC.out wo HKo.out).2.2
      have hg1 : g2 < wE.heap.size := by have := HGE.out; have := HEQ.out; omega
      have hg2 : g2 < go + 1 := by have := HEQ.out; omega
      refine bodyPost_ret (v := .tuple #[.agg #[.slice As st.length cs, .slice Ae en.length ce, .int .i64 root], .bool true]) (by simp [results, Tryd.results6, go_sem, x0, x1, x2]) rfl ⟨st, en, root, true, _, _, rfl, ?_, ?_, ?_, fun _ => ⟨HEN.out.1, h1.2.1, by show st.length = S.length; omega, h3.2.1, h3.2.2.1, h4.1, h4.2⟩, fun _ => h1.2.2⟩
      · exact (Rb.set (p := ⟨g2, 2, none⟩) (Rb.set (p := ⟨g2, 1, none⟩) (Rb.set (p := ⟨g2, 0, none⟩) HRo.out hg1 _) hg1 _) hg1 _).lower (by have := HM.out.bel.size; omega)
      · exact (Rb.set (p := ⟨g2, 2, none⟩) (Rb.set (p := ⟨g2, 1, none⟩) (Rb.set (p := ⟨g2, 0, none⟩) hE hg2 _) hg2 _) hg2 _).lower (by have := HEQ.out; omega)
      · exact Below.setCell (Below.setCell (Below.setCell HMo.out.bel (p := ⟨g2, 0, none⟩) hlow _) (p := ⟨g2, 1, none⟩) hlow _) (p := ⟨g2, 2, none⟩) hlow _
end Go.Proofs.YthilhndejhnlnaaDoor.Hand
end
