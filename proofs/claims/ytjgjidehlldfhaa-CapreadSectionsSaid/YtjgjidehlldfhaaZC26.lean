/- Texts joined: C9 C10 C11. -/
import Derived.Deep.DeepCutAuto
import Derived.Deep.RegionLaw
import Derived.Test.YtjgjidehlldfhaaZC25
section
/- Layer 8, capread: Read, where the head is right. -/
namespace Go.Proofs.Ytjgjidehlldfhaa.Hand
open Go.RowKit Go.Proofs.Ytjgjidehlldfhaa.QAll Go.Proofs.YtjgjidehlldfhaaW.PrintWords Go.Proofs.YtjgjidehlldfhaaW.PrintLast Go.Proofs.YtjgjidehlldfhaaW.PrintMore Go.Proofs.Ytjgjidehlldfhaa.Nums Go.Proofs.Ytjgjidehlldfhaa.Runes
set_option linter.unusedVariables false
set_option linter.unusedSimpArgs false
/-- What Read hands back: a view of the root, or which error. -/
def rdV (X : Msg) (gx : Nat) (r : Bool × Mt) : Value :=
  if r.1 = true then .tuple #[.iface 80 (.agg #[.pointer (some ⟨gx, 0, none⟩), .int .i64 X.root, .int .i64 (rootM X).1.pos, .int .i64 (rootM X).1.data, .int .i64 (rootM X).1.ptrs]), .int .i64 0]
  else if r.2.out = true then .tuple #[.nilIface, .int .i64 3] else .tuple #[.nilIface, .int .i64 20]
def RdPost (X : Msg) (gm : Nat) (w : World) (r : Bool × Mt) (e : Ending) (w' : World) : Prop :=
  ∃ L : Loc, L.gm = gm ∧ w.heap.size ≤ L.gx ∧ e = .returned (rdV X L.gx r) ∧ MS X L w' r.2 ∧ Two gm gm w w'
theorem pointer_sound (words w i : Int) (hw : 0 ≤ w ∧ w < 18446744073709551616) : ∀ p ok, pointerM words w i = (p, ok) → ok = true → p.null = false → 0 ≤ p.pos ∧ p.pos ≤ words ∧
    (p.list = false → 0 ≤ p.data ∧ 0 ≤ p.ptrs ∧ p.pos + p.data + p.ptrs ≤ words) ∧ (p.list = true → 0 ≤ p.count ∧ p.count < 536870912 ∧ 0 ≤ p.code ∧ p.code ≤ 7 ∧ p.pos + sizeM p.code p.count ≤ words ∧ p.data = 0 ∧ p.ptrs = 0) := by
  intro p ok h ho hn
  subst ho
  unfold pointerM at h
  split at h
  · injection h with h1 h2
    rw [← h1] at hn; cases hn
  split at h
  · injection h with h1 h2; cases h2
  rename_i h1
  split at h
  · injection h with h2 h3
    have := of_decide_eq_true h3
    subst h2
    exact ⟨by show 0 ≤ i + 1 + lowM w; omega, by show i + 1 + lowM w ≤ words; omega, (fun h => by cases h), fun _ => ⟨by show 0 ≤ w / 34359738368; omega, by show w / 34359738368 < _; omega, by show 0 ≤ w / 4294967296 % 8; omega, by show w / 4294967296 % 8 ≤ 7; omega, this, rfl, rfl⟩⟩
  · injection h with h2 h3
    have := of_decide_eq_true h3
    subst h2
    exact ⟨by show 0 ≤ i + 1 + lowM w; omega, by show i + 1 + lowM w ≤ words; omega, fun _ => ⟨by show 0 ≤ w / 4294967296 % 65536; omega, by show 0 ≤ w / 281474976710656; omega, this⟩, fun h => by cases h⟩
theorem out_any {X : Msg} {L : Loc} {w : World} {s : Mt} (h : MS X L w s) :
    Calls Try.prog 20 #[.pointer (some ⟨L.gm, 0, none⟩)] w fun e w' => e = .returned (.bool s.out) ∧ MS X L w' s ∧ Two L.gx L.gm w w' := by
  have hB : Below ({ w with heap := #[] } : World).heap.size { w with heap := #[] } w := ⟨rfl, rfl, rfl, Nat.zero_le _, fun k hk => absurd hk (Nat.not_lt_zero k)⟩
  refine (wire_Meter_Out.calls L.gm s.left s.out _ _ _ { w with heap := #[] } w ⟨h.mc, Nat.zero_le _⟩ hB rfl).mono ?_
  rintro e w' ⟨he, hI, hb, hk⟩
  have hT : Two L.gx L.gm w w' := ⟨hb.os, hb.tape, hb.output, hk.1, fun k hk1 _ h2 => hk.2 k hk1 h2 (by simp)⟩
  exact ⟨he, ⟨(hk.2 _ (blk_lt h.xc) h.ne (by simp)).trans h.xc, hI.1, h.ne, fun W hW => h.mem W (hT.trans hW), h.cap, h.ok, h.bud, h.rch⟩, hT⟩
theorem two_of {w wr W : World} {gx gm : Nat} (hb : Below w.heap.size w wr) (h : Two gx gm wr W) (hg : w.heap.size ≤ gx) : Two gm gm w W :=
  ⟨h.os.trans hb.os, h.tape.trans hb.tape, h.output.trans hb.output, Nat.le_trans hb.size h.size, fun k hk h1 _ => (h.block k (Nat.lt_of_lt_of_le hk hb.size) (by omega) h1).trans (hb.block k hk)⟩
theorem two_then {w w7 W : World} {gx gm : Nat} (hb : Two gm gm w w7) (h : Two gx gm w7 W) (hg : w.heap.size ≤ gx) : Two gm gm w W :=
  ⟨h.os.trans hb.os, h.tape.trans hb.tape, h.output.trans hb.output, Nat.le_trans hb.size h.size, fun k hk h1 _ => (h.block k (Nat.lt_of_lt_of_le hk hb.size) (by omega) h1).trans (hb.block k hk h1 h1)⟩
set_option maxHeartbeats 6400000 in
set_option maxRecDepth 100000 in
theorem read_ok (w : World) (A0 : Option Addr) (c0 : Nat) (A1 : Option Addr) (c1 : Nat) (root : Int) (A3 : Option Addr) (c3 : Nat) (st : List S32) (en : List S83) (b : List Int) (gm : Nat) (left : Int) (out : Bool)
    (hM : ∀ W, Two gm gm w W → k32.C W A0 st.length st ∧ k83.C W A1 en.length en ∧ (Kd.int .u8).C W A3 b.length b)
    (hm : w.heap[gm]? = some (.cells #[.int .i64 left, .bool out] 101 (0, 0))) (hlf : 0 ≤ left ∧ left < 9223372036854775808)
    (hcap : st.length ≤ c0 ∧ en.length ≤ c1 ∧ b.length ≤ c3) (hb : ∀ x ∈ b, 0 ≤ x ∧ x < 256) (hh : headM b = true) (hX : (msgM st en root b).Ok) (T : Tgt)
    (hT : ∀ (L : Loc) (k : Nat), k < st.length → ∀ f ∈ (rd_T32 st k).f1, 0 < f.f1.f2 ∨ szB f.f1.f0 = 0 → TgtOk (msgM st en root b) L 11 T f.f1) :
    Calls Try.prog 7 #[.agg #[.slice A0 st.length c0, .slice A1 en.length c1, .int .i64 root], .slice A3 b.length c3, .pointer (some ⟨gm, 0, none⟩)] w (RdPost (msgM st en root b) gm w (readM (msgM st en root b) T ⟨0, left, out⟩)) := by
  have hh2 := hh
  unfold headM at hh2
  have hcnt := load4_bound b hb 4
  have hok := load4_ok b
  have hbl : b.length < 4611686018427387904 := by
    have : b.length ≤ 16384 := by
      by_cases c : b.length ≤ 16384
      · exact c
      · rw [decide_eq_false c] at hh2; simp at hh2
    omega
  have hC := hM w (Two.refl _ _ _)
  have HL : Aside0 (∀ (W : World) (a : Int), Below w.heap.size w W → Calls Try.prog 16 #[.slice A3 b.length c3, .int .i64 a, .int .i64 4] W fun e w' => e = .returned (.tuple #[.int .u64 (loadV b a 4).1, .bool (loadV b a 4).2]) ∧ Drawn0 W w') := ⟨fun W a hW =>
    wire_Load.calls 20 A3 c3 b a 4 _ _ W (Kd.C_below hC.2.2 hW) hcap.2.2 (load_f b hb hbl a 4 19 (by decide))⟩
  have H4 := Aside0.mk (fun W hW => HL.out W 4 hW)
  have H0 := Aside0.mk (fun W hW => HL.out W 0 hW)
  obtain ⟨cn, hcn⟩ : ∃ cn, (loadV b 4 4).1 = cn := ⟨_, rfl⟩
  obtain ⟨ok, hokk⟩ : ∃ ok, (loadV b 4 4).2 = ok := ⟨_, rfl⟩
  obtain ⟨fi, hfi⟩ : ∃ fi, (loadV b 0 4).1 = fi := ⟨_, rfl⟩
  obtain ⟨fk, hfk⟩ : ∃ fk, (loadV b 0 4).2 = fk := ⟨_, rfl⟩
  rw [hcn, hokk] at H4
  rw [hfi, hfk] at H0
  rw [hcn, hokk, hfi] at hh2
  rw [hokk] at hok
  rw [hcn] at hcnt
  simp only [Bool.and_eq_true, beq_iff_eq, decide_eq_true_eq, Bool.not_eq_true', beq_eq_false_iff_ne] at hh2
  obtain ⟨⟨⟨⟨rfl, hf0⟩, h16⟩, h8⟩, hc0⟩ := hh2
  have hl8 : 8 ≤ b.length := by simpa using hok.symm
  obtain ⟨X, hXX⟩ : ∃ X, msgM st en root b = X := ⟨_, rfl⟩
  rw [hXX]
  obtain ⟨r, hr⟩ : ∃ r, readM X T ⟨0, left, out⟩ = r := ⟨_, rfl⟩
  rw [hr]
  have HRD := Aside0.mk hr
  clear hr
  have a1 : (fi != 0) = false := by simp [hf0]
  have a2 : decide ((16384 : Int) < (b.length : Int)) = false := decide_eq_false (by omega)
  have a3 : decide (16384 < b.length) = false := decide_eq_false (by omega)
  have a4 : IntKind.i64.wrap ((b.length : Int) - 8) = (b.length : Int) - 8 := by rw [IntKind.wrap_i64]; omega
  have a5 : IntKind.u64.wrap ((b.length : Int) - 8) = (b.length : Int) - 8 := by rw [IntKind.wrap_u64]; omega
  have a6 : IntKind.u64.wrap (8 * cn) = 8 * cn := by rw [IntKind.wrap_u64]; omega
  have a7 : ((b.length : Int) - 8 != 8 * cn) = false := by simp [h8]
  have a8 : (cn == 0) = false := by simp [hc0]
  have a9 : IntKind.i64.wrap cn = cn := by rw [IntKind.wrap_i64]; omega
  have hn0 := heap_alloc_new w (.cells #[.slice A0 st.length c0, .slice A1 en.length c1, .int .i64 root] 36)
  have hba := below_alloc (Below.refl w.heap.size w) (.cells #[.slice A0 st.length c0, .slice A1 en.length c1, .int .i64 root] 36)
  obtain ⟨g0, hg0⟩ : ∃ g0, w.heap.size = g0 := ⟨_, rfl⟩
  obtain ⟨w1, hw1⟩ : ∃ w1, w.alloc (.cells #[.slice A0 st.length c0, .slice A1 en.length c1, .int .i64 root] 36) = w1 := ⟨_, rfl⟩
  rw [hw1] at hba hn0
  have HB1 := Aside0.mk hba
  have HN0 : Aside0 (w1.heap[g0]? = some (.cells #[.slice A0 st.length c0, .slice A1 en.length c1, .int .i64 root] 36 (0, 0))) := ⟨by rw [← hg0]; exact hn0⟩
  have HSZ : Aside0 (w.heap.size = g0 ∧ w.heap.size < w1.heap.size) := ⟨hg0, by have := blk_lt hn0; omega⟩
  have HCN := Aside0.mk hcn
  have l8 : (8 : Int) ≤ (b.length : Int) := by omega
  have lc : (b.length : Int) ≤ (c3 : Int) := by have := hcap.2.2; omega
  clear hokk hcn hfi hfk hC hn0 hba hok hcnt hf0 h16 hc0
  go_enter Try.func7, Try.ntmps7
  go_upto_region 5 with (first
      | (go_at_call 16; (with_reducible refine (H4.out _ HB1.out).mono ?_); rintro e w2 ⟨rfl, hd⟩; have HD2 := Aside0.mk (Below.refl w1.heap.size w1 |>.trans hd.below); have HB2 := Aside0.mk (below_then HB1.out HB1.out.size hd.below); clear hd)
      | (go_at_call 16; (with_reducible refine (H0.out _ HB2.out).mono ?_); rintro e w3 ⟨rfl, hd⟩; have HD3 := Aside0.mk (below_then HD2.out HD2.out.size hd.below); have HB3 := Aside0.mk (below_then HB2.out HB2.out.size hd.below); clear hd))
  obtain ⟨i0, hi0, hz0, hz1, hz2⟩ := info_parts info5
  have hcut := cut_from 37 5 .i64 Try.underlying37 hi0 1 hz1 A3 b.length c3 8 (by decide) l8
  rw [show ((8 : Int)).toNat = 8 from rfl] at hcut
  obtain ⟨A4, hA4⟩ : ∃ A4, (if c3 = 8 then A3 else A3.map (fun x => x.add (8 * 1))) = A4 := ⟨_, rfl⟩
  rw [hA4, show b.length - 8 = (b.drop 8).length from (List.length_drop).symm] at hcut
  have HC4 : Aside0 (∀ W, Two gm gm w W → (Kd.int .u8).C W A4 (b.drop 8).length (b.drop 8)) := ⟨fun W hW => by rw [← hA4]; exact Kd.C_drop (hM W hW).2.2 hl8 hcap.2.2⟩
  have HCAP : Aside0 (st.length ≤ c0 ∧ en.length ≤ c1 ∧ (b.drop 8).length ≤ c3 - 8) := ⟨hcap.1, hcap.2.1, by rw [List.length_drop]; omega⟩
  obtain ⟨b8, hb8⟩ : ∃ b8, b.drop 8 = b8 := ⟨_, rfl⟩
  obtain ⟨c4, hc4⟩ : ∃ c4, c3 - 8 = c4 := ⟨_, rfl⟩
  rw [hb8, hc4] at hcut
  rw [hb8] at HC4
  rw [hb8, hc4] at HCAP
  have HN3 : Aside0 (w3.heap[g0]? = some (.cells #[.slice A0 st.length c0, .slice A1 en.length c1, .int .i64 root] 36 (0, 0))) := ⟨(HD3.out.block _ (by have := HSZ.out; omega)).trans HN0.out⟩
  have s0 : w3.cell? ⟨g0, 0, none⟩ = some (.slice A0 st.length c0) := (blk_cell HN3.out 0).trans rfl
  have s1 : w3.cell? ⟨g0, 1, none⟩ = some (.slice A1 en.length c1) := (blk_cell HN3.out 1).trans rfl
  have s2 : w3.cell? ⟨g0, 2, none⟩ = some (.int .i64 root) := (blk_cell HN3.out 2).trans rfl
  have v0 := World.new_ne w3 _ s0
  clear hi0 hz0 hz1 hz2 hA4 hc4 hcap hl8 h8 a1 a2 a3 a4 a5 a6 a7 l8 lc
  go_region_held3 (fun W => W.cell? ⟨g0, 0, none⟩ = some (.slice A0 st.length c0) ∧ W.cell? ⟨g0, 1, none⟩ = some (.slice A1 en.length c1) ∧ W.cell? ⟨g0, 2, none⟩ = some (.int .i64 root))
    (first | go_keep | with_reducible exact ⟨s0, s1, s2⟩)
    (fail)
  obtain ⟨gx, hgx⟩ : ∃ gx, w3.heap.size = gx := ⟨_, rfl⟩
  obtain ⟨w4, hw4⟩ : ∃ w4, (w3.alloc (.cells #[.slice A0 st.length c0, .slice A1 en.length c1, .int .i64 root, .slice none 0 0, .slice A4 b8.length c4, .int .i64 cn, .int .i64 0, .pointer (some ⟨gm, 0, none⟩)] 69)).drew = w4 := ⟨_, rfl⟩
  have hb4 : Below w3.heap.size w3 w4 := by rw [← hw4]; exact below_drew (below_alloc (Below.refl _ _) _)
  have hn4 : w4.heap[gx]? = some (.cells #[.slice A0 st.length c0, .slice A1 en.length c1, .int .i64 root, .slice none 0 0, .slice A4 b8.length c4, .int .i64 cn, .int .i64 0, .pointer (some ⟨gm, 0, none⟩)] 69 (0, 0)) := by rw [← hw4, ← hgx]; exact heap_alloc_new w3 _
  rw [hw4, hgx]
  have HR4 : Aside0 (RS w w4 A0 st.length c0 A1 en.length c1 root A4 b8.length c4 cn gm g0 gx (.slice none 0 0) []) := ⟨⟨below_then HB3.out HB3.out.size hb4, (hb4.block _ (blk_lt HN3.out)).trans HN3.out, hn4, Rb.nil _ _ _ _, by have := HSZ.out; have := blk_lt HN3.out; omega⟩⟩
  clear hb4 hn4 hw4 hgx s0 s1 s2 v0 hcut a8 a9
  have hstl := hX.len.1
  have hrows : ∀ k, k < st.length → (rd_T32 st k).f1.length ≤ 1000000 := fun k hk => by have := (hX.at_ k hk).2.1; exact this
  have HROWS := Aside0.mk hrows
  have s0 : w4.cell? ⟨g0, 0, none⟩ = some (.slice A0 st.length c0) := (blk_cell HR4.out.b0 0).trans rfl
  obtain ⟨rows, hrw⟩ : ∃ rows, st.map (fun r => packM r.f1) = rows := ⟨_, rfl⟩
  have HRW := Aside0.mk hrw
  have hrl : rows.length = st.length := by rw [← hrw, List.length_map]
  have HLL := Aside0.mk hrl
  have HST1 : Aside0 (st.length < 9223372036854775808) := ⟨hstl⟩
  have hst2 : st.length ≤ 1000000 := by have := hX.few; exact this
  have HST2 := Aside0.mk hst2
  clear hrows hrw hrl hstl hst2
  go_upto_region 7 with (fail)
  clear s0
  go_loopg [61] (st.length + 1) (fun kp v61 wi => ∃ (i : Nat) (Av : Option Addr) (cv : Nat), v61 = .int .i64 i ∧ Aside0 (i ≤ st.length) ∧ Aside0 (st.length < kp + i) ∧ Aside0 (RS w wi A0 st.length c0 A1 en.length c1 root A4 b8.length c4 cn gm g0 gx (.slice Av i cv) (rows.take i)))
  case atStart => exact ⟨0, none, 0, rfl, ⟨Nat.zero_le _⟩, ⟨by omega⟩, HR4⟩
  case round =>
    obtain ⟨i, Av, cv, rfl, HI, HIK, HR⟩ := hrel
    have two : (i < st.length ∧ decide ((i : Int) < (st.length : Int)) = true ∧ decide (i < st.length) = true) ∨ (i = st.length ∧ decide ((i : Int) < (st.length : Int)) = false ∧ decide (i < st.length) = false) := by
      have := HI.out
      by_cases c : i < st.length
      · exact .inl ⟨c, decide_eq_true (by omega), decide_eq_true c⟩
      · exact .inr ⟨by omega, decide_eq_false (by omega), decide_eq_false c⟩
    rcases two with ⟨c6, d3, d4⟩ | ⟨c6, d3, d4⟩
    · obtain ⟨R, hRR⟩ : ∃ R, rd_T32 st (i : Int) = R := ⟨_, rfl⟩
      have hRe : st[i] = R := by rw [← hRR]; unfold rd_T32; rw [show ((i : Int)).toNat = i from rfl, List.getD_eq_getElem?_getD, List.getElem?_eq_getElem c6]; rfl
      obtain ⟨P, hPP⟩ : ∃ P, packM R.f1 = P := ⟨_, rfl⟩
      have HTK : Aside0 (rows.take (i + 1) = rows.take i ++ [P]) := ⟨by
        rw [List.take_succ_eq_append_getElem (by rw [HLL.out]; exact c6)]
        congr 2
        simp only [← HRW.out, List.getElem_map, hRe, hPP]⟩
      obtain ⟨aS, AF, cF, eA, m0, m1, hcF, hFC⟩ := at_T32 (hM wr (Two.of_below gm gm HR.out.bel)).1 (i : Int) (Int.natCast_nonneg _) (by omega)
      rw [hRR] at m0 m1 hcF hFC
      rw [show ((i : Int)).toNat = i from rfl] at m0 m1
      subst eA
      have hfl := HROWS.out i c6
      rw [hRR] at hfl
      have i0 : (0 : Int) ≤ (i : Int) := Int.natCast_nonneg _
      have i1 : (i : Int) < (st.length : Int) := by omega
      have wi1 : IntKind.i64.wrap ((i : Int) + 1) = (i : Int) + 1 := by rw [IntKind.wrap_i64]; have := HST1.out; omega
      obtain ⟨n, rfl⟩ : ∃ n, gk = n + 1 := ⟨gk - 1, by have := HIK.out; omega⟩
      have HIK' : Aside0 (st.length < n + (i + 1)) := ⟨by have := HIK.out; omega⟩
      have HCI := Aside0.mk c6
      obtain ⟨gr, hgr⟩ : ∃ gr, wr.heap.size = gr := ⟨_, rfl⟩
      obtain ⟨w5, hw5⟩ : ∃ w5, wr.alloc (.cells #[.string R.f0, .slice AF R.f1.length cF] 32) = w5 := ⟨_, rfl⟩
      have hb5 := below_alloc (Below.refl wr.heap.size wr) (.cells #[.string R.f0, .slice AF R.f1.length cF] 32)
      have hn5 := heap_alloc_new wr (.cells #[.string R.f0, .slice AF R.f1.length cF] 32)
      rw [hw5] at hb5 hn5
      rw [hgr] at hn5
      have HR5 := Aside0.mk (HR.out.below hb5)
      have hFC5 := Kd.C_below hFC hb5
      have HWORDS : Aside0 (∀ W, Below w5.heap.size w5 W → Calls Try.prog 17 #[.agg #[.string R.f0, .slice AF R.f1.length cF]] W fun e w' => ∃ v, e = .returned (.agg #[.int .i64 P.f0, .int .i64 P.f1, v]) ∧ (Kd.int .i64).R 3 w' W.heap.size (fun _ => True) v P.f2 ∧ Below W.heap.size W w') := ⟨fun W hW => by
        have := words_any W R.f0 AF cF R.f1 (Kd.C_below hFC5 hW) hfl hcF
        rw [hPP] at this
        exact this⟩
      clear c6 hRR hRe hPP hcF hFC hfl hb5 hFC5
      go_upto_region 9 with (fail)
      clear m0 m1
      have r0 : w5.cell? ⟨gr, 0, none⟩ = some (.string R.f0) := (blk_cell hn5 0).trans rfl
      have r1 : w5.cell? ⟨gr, 1, none⟩ = some (.slice AF R.f1.length cF) := (blk_cell hn5 1).trans rfl
      have o3 : w5.cell? ⟨gx, 3, none⟩ = some (.slice Av i cv) := (blk_cell HR5.out.bx 3).trans rfl
      clear hn5 hgr hw5
      have HO5 := Aside0.mk o3
      have HLT : Aside0 ((rows.take i).length = i) := ⟨by rw [List.length_take, HLL.out]; have := HCI.out; omega⟩
      go_region_law ((first
        | (refine goes_ (N := some 71) Try.func17 (by kernel_rfl) rfl #[.agg #[.string R.f0, .slice AF R.f1.length cF]] (by rfl) rfl rfl (by simp only [List.map_toArray, List.map_cons, List.map_nil]; rfl) ?_; (refine (HWORDS.out w5.drew (below_drew (Below.refl _ _))).mono ?_); rintro e w7 ⟨v, rfl, hr, hb7⟩; obtain ⟨Ap, cp, rfl, -, -⟩ := Rb.slice hr; have hb57 := below_then (below_drew (Below.refl w5.heap.size w5)) (Nat.le_refl _) hb7; have HR7 := Aside0.mk (HR5.out.below hb57); have HRP := Aside0.mk hr; have o37 := pw_cell_below hb57 HO5.out; have o38 := pw_cell_below (below_alloc (Below.refl w7.heap.size w7) (.cells #[.int .i64 P.f0, .int .i64 P.f1, .slice Ap P.f2.length cp] 72)) o37; clear hr hb7 hb57; refine ⟨_, rfl, ?_⟩)
        | (refine Kd.R_append_step k72 (w0 := w7) (W := w7) (gx + 1) rfl (.tmp 69) (.tmp 72) 67 72 (.agg #[.int .i64 0, .int .i64 0, .slice none 0 0]) 40 rfl Try.underlying67 info72 rfl (by decide) (by decide) (.slice Av i cv) (rows.take i) P [.int .i64 P.f0, .int .i64 P.f1, .slice Ap P.f2.length cp] (fun _ => True) (fun x => w5.heap.size ≤ x) rfl rfl (k72_mkM w7 (gx + 1) _ P (Kd.R_lower (Rb.from HRP.out) (blk_lt HR5.out.bx))) (fun x hx => ⟨trivial, fun e => by have := (HR5.out.row.bas x e.symm).2; omega⟩) (fun _ _ => trivial) HR7.out.row (Below.refl _ _) (blk_lt HR7.out.bx) (by rw [HLT.out]; have := HST2.out; have := HI.out; omega) ?_; intro v9 w9 hr9 _ hg9 _; obtain ⟨A9, c9, e9, -, -⟩ := Rb.slice hr9; rw [List.length_append, List.length_singleton, HLT.out] at e9; subst e9; have HR9' := Aside0.mk (HR7.out.grown hg9 (fun x hx => (HR7.out.row.bas x hx).1) hr9); have HR9 := Aside0.mk hr9; have o9 : w9.cell? ⟨gx, 3, none⟩ = some (.slice Av i cv) := (blk_cell HR9'.out.2.2 3).trans rfl; have f9 := blk_frozen HR9'.out.2.2 3; clear hr9 hg9)))
      all_goals
        clear r0 r1 o3
        go_wp2_with (fail)
        go_roundg n
        case measure => omega
        case rel => exact ⟨i + 1, A9, c9, rfl, ⟨by have := HCI.out; omega⟩, HIK', ⟨by rw [HTK.out]; exact RS.set HR9'.out.1 HR9'.out.2.1 HR9'.out.2.2 HR5.out.ne HR9.out⟩⟩
    · have hMS : MS X ⟨A0, c0, A1, c1, Av, cv, A4, c4, gx, gm⟩ wr ⟨0, left, out⟩ := by
        have hr := HR.out
        have hri : i = rows.length := by rw [HLL.out]; exact c6
        rw [hri, List.take_length] at hr
        have hgm := blk_lt hm
        have hne := hr.ne
        have e0 : X.st = st ∧ X.en = en ∧ X.root = root ∧ X.rows = rows ∧ X.b = b8 ∧ X.words = cn := by rw [← hXX]; exact ⟨rfl, rfl, rfl, HRW.out, hb8, HCN.out⟩
        obtain ⟨q0, q1, q2, q3, q4, q5⟩ := e0
        refine ⟨?_, (hr.bel.block _ hgm).trans hm, by show gx ≠ gm; omega, fun W hW => ?_, ?_, by rw [← hXX]; exact hX, hlf, ⟨Int.le_refl _, show (0 : Int) < 1125899906842624 by decide⟩⟩
        · rw [q0, q1, q2, q3, q4, q5]; exact hr.bx
        · have hT : Two gm gm w W := two_of hr.bel hW (by show w.heap.size ≤ gx; omega)
          obtain ⟨n0, n1, -⟩ := hM W hT
          have hrow := Rb.all hr.row (w1 := W) (fun k hk hl => hW.block k hl (show k ≠ gx by omega) (show k ≠ gm by omega))
          obtain ⟨A9, c9, e9, -, hC9⟩ := hrow.slice
          injection e9 with ea _ _
          subst ea
          exact ⟨by rw [q0]; exact n0, by rw [q1]; exact n1, by rw [q3]; exact hC9, by rw [q4]; exact HC4.out W hT⟩
        · rw [q0, q1, q3, q4]
          obtain ⟨A9, c9, e9, hc9, -⟩ := hr.row.slice
          injection e9 with _ _ ec
          exact ⟨HCAP.out.1, HCAP.out.2.1, by show rows.length ≤ cv; rw [ec]; exact hc9, HCAP.out.2.2⟩
      have HT0 : Aside0 (Two gm gm w wr) := ⟨Two.of_below gm gm HR.out.bel⟩
      have HGX : Aside0 (w.heap.size ≤ gx ∧ gx ≠ gm) := ⟨by have := HR.out.ne; have := blk_lt hm; omega⟩
      have HG0 : Aside0 (wr.heap[g0]? = some (.cells #[.slice A0 st.length c0, .slice A1 en.length c1, .int .i64 root] 36 (0, 0)) ∧ g0 ≠ gx ∧ g0 ≠ gm) := ⟨HR.out.b0, by have := HR.out.ne; have := blk_lt hm; omega⟩
      have HRT : Aside0 (X.root = root ∧ X.st = st) := ⟨by rw [← hXX]; exact ⟨rfl, rfl⟩⟩
      have HMS := Aside0.mk hMS
      clear hMS c6
      obtain ⟨L, hL⟩ : ∃ L : Loc, L = ⟨A0, c0, A1, c1, Av, cv, A4, c4, gx, gm⟩ := ⟨_, rfl⟩
      rw [← hL] at HMS
      have HLx : Aside0 (L.gx = gx ∧ L.gm = gm) := ⟨by rw [hL]; exact ⟨rfl, rfl⟩⟩
      clear hL
      have hpt := pointer_any HMS.out 0 (by decide) (by decide)
      obtain ⟨p, hp⟩ : ∃ p, pointerM X.words (wordM X.b 0) 0 = p := ⟨_, rfl⟩
      rw [hp, HLx.out.1] at hpt
      obtain ⟨⟨nl, ls, po, da, pt, co, ct⟩, pk⟩ := p
      have hps := pointer_sound X.words (wordM X.b 0) 0 (wordM_bound _ HMS.out.ok.bytes 0) _ _ hp
      have HPT : Aside0 (Calls Try.prog 18 #[.pointer (some ⟨gx, 0, none⟩), .int .i64 0] wr fun e w' => e = .returned (.tuple #[.agg #[.bool nl, .bool ls, .int .i64 po, .int .i64 da, .int .i64 pt, .int .i64 co, .int .i64 ct], .bool pk]) ∧ Below wr.heap.size wr w') := ⟨hpt⟩
      have HRM : Aside0 (rootM X = (⟨nl, ls, po, da, pt, co, ct⟩, pk)) := ⟨hp⟩
      have HPS := Aside0.mk hps
      clear hpt hp hps
      go_upto_region 12 with (go_at_call 18; (with_reducible refine HPT.out.mono ?_); rintro e w6 ⟨rfl, hd⟩; have HD6 := Aside0.mk hd; clear hd)
      obtain ⟨gp, hgp⟩ : ∃ gp, w6.heap.size = gp := ⟨_, rfl⟩
      obtain ⟨w7, hw7⟩ : ∃ w7, w6.alloc (.cells #[.bool nl, .bool ls, .int .i64 po, .int .i64 da, .int .i64 pt, .int .i64 co, .int .i64 ct] 75) = w7 := ⟨_, rfl⟩
      have hb7 := below_alloc (Below.refl w6.heap.size w6) (.cells #[.bool nl, .bool ls, .int .i64 po, .int .i64 da, .int .i64 pt, .int .i64 co, .int .i64 ct] 75)
      have hn7 := heap_alloc_new w6 (.cells #[.bool nl, .bool ls, .int .i64 po, .int .i64 da, .int .i64 pt, .int .i64 co, .int .i64 ct] 75)
      rw [hw7] at hb7 hn7 ⊢
      rw [hgp] at hn7 ⊢
      have hd7 := below_then HD6.out HD6.out.size hb7
      have HM7 := Aside0.mk (HMS.out.below hd7)
      have HT7 := Aside0.mk (HT0.out.trans (Two.of_below gm gm hd7))
      have HG7 : Aside0 (w7.heap[g0]? = some (.cells #[.slice A0 st.length c0, .slice A1 en.length c1, .int .i64 root] 36 (0, 0))) := ⟨(hd7.block _ (blk_lt HG0.out.1)).trans HG0.out.1⟩
      have HP7 := Aside0.mk hn7
      have HNP : Aside0 (gp ≠ gx ∧ gp ≠ gm) := ⟨by have := HM7.out.lt; rw [HLx.out.1, HLx.out.2] at this; have h6 := (HMS.out.below HD6.out).lt; rw [HLx.out.1, HLx.out.2] at h6; omega⟩
      clear hb7 hn7 hd7 hw7 hgp
      have q0 : w7.cell? ⟨gp, 0, none⟩ = some (.bool nl) := (blk_cell HP7.out 0).trans rfl
      have q1 : w7.cell? ⟨gp, 1, none⟩ = some (.bool ls) := (blk_cell HP7.out 1).trans rfl
      have q2 : w7.cell? ⟨gp, 2, none⟩ = some (.int .i64 po) := (blk_cell HP7.out 2).trans rfl
      have q3 : w7.cell? ⟨gp, 3, none⟩ = some (.int .i64 da) := (blk_cell HP7.out 3).trans rfl
      have q4 : w7.cell? ⟨gp, 4, none⟩ = some (.int .i64 pt) := (blk_cell HP7.out 4).trans rfl
      have t2 : w7.cell? ⟨g0, 2, none⟩ = some (.int .i64 root) := (blk_cell HG7.out 2).trans rfl
      have HOUT : Aside0 (∀ W s', MS X L W s' → Calls Try.prog 20 #[.pointer (some ⟨gm, 0, none⟩)] W fun e w' => e = .returned (.bool s'.out) ∧ MS X L w' s' ∧ Two gx gm W w') := ⟨fun W s' hW => by
        have := out_any hW
        rw [HLx.out.1, HLx.out.2] at this
        exact this⟩
      have hr2 := HRD.out
      unfold readM at hr2
      rw [HRM.out] at hr2
      simp only at hr2
      have HEND : Aside0 (∀ W v, Two gx gm w7 W → MS X L W r.2 → v = rdV X gx r → RdPost X gm w r (.returned v) W) := ⟨fun W v hT hM2 hv => ⟨L, HLx.out.2, by rw [HLx.out.1]; exact HGX.out.1, by rw [HLx.out.1, hv], hM2, two_then HT7.out hT HGX.out.1⟩⟩
      by_cases cz : pk = false ∨ nl = true ∨ ls = true
      · rw [if_pos cz] at hr2
        subst hr2
        have three : pk = false ∨ (pk = true ∧ nl = true) ∨ (pk = true ∧ nl = false ∧ ls = true) := by
          cases pk <;> cases nl <;> cases ls <;> simp_all
        clear cz
        rcases three with rfl | ⟨rfl, rfl⟩ | ⟨rfl, rfl, rfl⟩
        all_goals
          cases out with
          | true =>
            go_wp2_with (go_at_call 20; (with_reducible refine (HOUT.out _ _ HM7.out).mono ?_); rintro e w8 ⟨rfl, hm8, ht8⟩; have HM8 := Aside0.mk hm8; have HT8 := Aside0.mk ht8; clear hm8 ht8)
            go_ret2
            exact HEND.out _ _ HT8.out HM8.out rfl
          | false =>
            go_wp2_with (go_at_call 20; (with_reducible refine (HOUT.out _ _ HM7.out).mono ?_); rintro e w8 ⟨rfl, hm8, ht8⟩; have HM8 := Aside0.mk hm8; have HT8 := Aside0.mk ht8; clear hm8 ht8)
            go_ret2
            exact HEND.out _ _ HT8.out HM8.out rfl
      · rw [if_neg cz] at hr2
        have three : pk = true ∧ nl = false ∧ ls = false := by
          cases pk <;> cases nl <;> cases ls <;> simp_all
        obtain ⟨rfl, rfl, rfl⟩ := three
        obtain ⟨po0, -, hps, -⟩ := HPS.out rfl rfl
        obtain ⟨da0, pt0, hfit⟩ := hps rfl
        have hXr := HMS.out.ok.root
        have HREC : Aside0 (Calls Try.prog 19 #[.pointer (some ⟨gx, 0, none⟩), .int .i64 po, .int .i64 da, .int .i64 pt, .int .i64 root, .int .i64 12] w7 (Does X L w7 r)) := ⟨by
          have hk : X.root.toNat < X.st.length := by omega
          have hx := record_any (d := 12) HM7.out (by show (0 : Int) ≤ X.words; have := HMS.out.ok.words; omega) X.root.toNat hk (by decide) T po da pt po0 da0 pt0 hfit (fun _ f hf ho => by
            have := hT L X.root.toNat (by rw [← HRT.out.2]; exact hk) f (by rw [← HRT.out.2]; exact hf) ho
            rw [hXX] at this
            exact this)
          rw [show ((X.root.toNat : Nat) : Int) = X.root by omega, hr2, HRT.out.1, HLx.out.1] at hx
          exact hx⟩
        clear cz hr2 hXr po0 da0 pt0 hfit hps
        obtain ⟨rb, rs⟩ := r
        cases rb with
        | true =>
          go_wp2_with (go_at_call 19; (with_reducible refine HREC.out.mono ?_); rintro e w8 ⟨rfl, hm8, ht8⟩; have HM8 := Aside0.mk hm8; have HT8 := Aside0.mk (show Two gx gm w7 w8 by rw [← HLx.out.1, ← HLx.out.2]; exact ht8); have HP8 := Aside0.mk (HT8.out.blk HP7.out HNP.out.1 HNP.out.2); have HG8 := Aside0.mk (HT8.out.blk HG7.out HG0.out.2.1 HG0.out.2.2); have z2 : w8.cell? ⟨gp, 2, none⟩ = some (.int .i64 po) := (blk_cell HP8.out 2).trans rfl; have z3 : w8.cell? ⟨gp, 3, none⟩ = some (.int .i64 da) := (blk_cell HP8.out 3).trans rfl; have z4 : w8.cell? ⟨gp, 4, none⟩ = some (.int .i64 pt) := (blk_cell HP8.out 4).trans rfl; have zr : w8.cell? ⟨g0, 2, none⟩ = some (.int .i64 root) := (blk_cell HG8.out 2).trans rfl; clear hm8 ht8)
          go_ret2
          refine HEND.out _ _ HT8.out HM8.out ?_
          unfold rdV
          rw [if_pos rfl, HRM.out, HRT.out.1]
          rfl
        | false =>
          obtain ⟨rr, rl, ro⟩ := rs
          cases ro with
          | true =>
            go_wp2_with (first
              | (go_at_call 19; (with_reducible refine HREC.out.mono ?_); rintro e w8 ⟨rfl, hm8, ht8⟩; have HM8 := Aside0.mk hm8; have HT8 := Aside0.mk (show Two gx gm w7 w8 by rw [← HLx.out.1, ← HLx.out.2]; exact ht8); clear hm8 ht8)
              | (go_at_call 20; (with_reducible refine (HOUT.out _ _ HM8.out).mono ?_); rintro e w9 ⟨rfl, hm9, ht9⟩; have HM9 := Aside0.mk hm9; have HT9 := Aside0.mk (HT8.out.trans ht9); clear hm9 ht9))
            go_ret2
            exact HEND.out _ _ HT9.out HM9.out rfl
          | false =>
            go_wp2_with (first
              | (go_at_call 19; (with_reducible refine HREC.out.mono ?_); rintro e w8 ⟨rfl, hm8, ht8⟩; have HM8 := Aside0.mk hm8; have HT8 := Aside0.mk (show Two gx gm w7 w8 by rw [← HLx.out.1, ← HLx.out.2]; exact ht8); clear hm8 ht8)
              | (go_at_call 20; (with_reducible refine (HOUT.out _ _ HM8.out).mono ?_); rintro e w9 ⟨rfl, hm9, ht9⟩; have HM9 := Aside0.mk hm9; have HT9 := Aside0.mk (HT8.out.trans ht9); clear hm9 ht9))
            go_ret2
            exact HEND.out _ _ HT9.out HM9.out rfl
end Go.Proofs.Ytjgjidehlldfhaa.Hand
end

section
/- Layer 8, capread: messages of a schema of one struct of one number. -/
namespace Go.Proofs.Ytjgjidehlldfhaa.Hand
open Go.RowKit Go.Proofs.Ytjgjidehlldfhaa.QAll Go.Proofs.YtjgjidehlldfhaaW.PrintWords Go.Proofs.YtjgjidehlldfhaaW.PrintLast Go.Proofs.YtjgjidehlldfhaaW.PrintMore Go.Proofs.Ytjgjidehlldfhaa.Nums Go.Proofs.Ytjgjidehlldfhaa.Runes
set_option linter.unusedVariables false
set_option linter.unusedSimpArgs false
theorem C_of_block {α : Type} {d : Kd α} {w : World} {g : Nat} {cs : Array Value} {t : TypeId} {xs : List α} (hb : w.heap[g]? = some (.cells cs t (0, 0))) (hm : xs.length ≤ 281474976710656)
    (hK : ∀ j p, xs[j]? = some p → ∃ c : List Value, c.length = d.sz ∧ d.K w p c ∧ ∀ i u, c[i]? = some u → cs[j * d.sz + i]? = some u) : Kd.C d w (some ⟨g, 0, none⟩) xs.length xs := by
  refine ⟨rfl, by omega, fun hp => ⟨⟨g, 0, none⟩, rfl, fun j p hp => ?_⟩⟩
  obtain ⟨c, h1, h2, h3⟩ := hK j p hp
  refine ⟨c, h1, h2, fun i u hu => ?_⟩
  have e : (⟨g, 0, none⟩ : Addr).add (j * d.sz + i) = ⟨g, j * d.sz + i, none⟩ := by
    unfold Addr.add; split
    · rename_i h; rw [h]
    · simp
  rw [e]
  exact (blk_cell hb _).trans (h3 i u hu)
theorem C_one {α : Type} {d : Kd α} {w : World} {g : Nat} {cs : Array Value} {t : TypeId} {x : α} (hb : w.heap[g]? = some (.cells cs t (0, 0))) (hs : cs.toList.length = d.sz) (hK : d.K w x cs.toList) : Kd.C d w (some ⟨g, 0, none⟩) 1 [x] :=
  C_of_block (xs := [x]) hb (by simp) (fun j p hp => by
    rcases j with _ | j
    · have hp' : some x = some p := hp
      injection hp' with hp'; subst hp'
      exact ⟨cs.toList, hs, hK, fun i u hu => by rw [Nat.zero_mul, Nat.zero_add]; simpa using hu⟩
    · simp at hp)
/-- Bytes that lie in a block, written out. -/
theorem C_bytes {w : World} {g : Nat} {cs : Array Value} {bs : List Int} (hb : w.heap[g]? = some (.cells cs 5 (0, 0))) (hm : bs.length ≤ 281474976710656) (hc : ∀ (j : Nat) (x : Int), bs[j]? = some x → cs[j]? = some (Value.int .u8 x)) : (Kd.int .u8).C w (some ⟨g, 0, none⟩) bs.length bs :=
  C_of_block hb hm (fun j p hp => ⟨[.int .u8 p], rfl, rfl, fun i u hu => by
    rcases i with _ | i
    · have : some (Value.int .u8 p) = some u := hu
      injection this with this; subst this
      rw [show j * (Kd.int .u8).sz + 0 = j by show j * 1 + 0 = j; omega]
      exact hc j p hp
    · simp at hu⟩)
def fX (kd df : Int) : S29 := ⟨⟨#[120]⟩, ⟨kd, 0, 0⟩, df⟩
def rX (kd df : Int) : S32 := ⟨⟨#[83]⟩, [fX kd df]⟩
theorem k32_one {w : World} {gF gR : Nat} {kd df : Int} (hF : w.heap[gF]? = some (.cells #[.string ⟨#[120]⟩, .int .u8 kd, .int .i64 0, .int .i64 0, .int .u64 df] 29 (0, 0)))
    (hR : w.heap[gR]? = some (.cells #[.string ⟨#[83]⟩, .slice (some ⟨gF, 0, none⟩) 1 1] 32 (0, 0))) : k32.C w (some ⟨gR, 0, none⟩) 1 [rX kd df] :=
  C_one hR rfl (k32_mk w (rX kd df) (Nat.le_refl 1) (C_one hF rfl (k29_mk w (fX kd df))))
theorem pack_one (kd df : Int) (h : 0 < bitsM kd) : packM [fX kd df] = ⟨(bitsM kd + 63) / 64, 0, [0]⟩ := by
  have hn : numberM (fX kd df) = true := by unfold numberM fX; simp [h]
  rcases bitsM_or kd with e | e | e | e | e | e
  · omega
  all_goals simp [packM, sizesM, packNums, packRound, packStep, packPtrs, hn, show (fX kd df).f1.f0 = kd from rfl, e]
theorem head_words {b : List Int} (h : headM b = true) : 0 < (loadV b 4 4).1 ∧ (loadV b 4 4).1 ≤ 2047 ∧ ((b.drop 8).length : Int) = 8 * (loadV b 4 4).1 := by
  unfold headM at h
  simp only [Bool.and_eq_true, beq_iff_eq, decide_eq_true_eq, Bool.not_eq_true', beq_eq_false_iff_ne] at h
  obtain ⟨⟨⟨⟨h1, h2⟩, h3⟩, h4⟩, h5⟩ := h
  have h8 := load4_ok b
  rw [h1] at h8
  have h9 : 8 ≤ b.length := by simpa using h8.symm
  rw [List.length_drop]
  omega
theorem ok_one (kd df : Int) (b : List Int) (hk : 0 ≤ kd ∧ kd < 256) (hn : kd ≠ 10) (h13 : kd ≠ 13) (hbits : 0 < bitsM kd) (hd : 0 ≤ df ∧ df < 18446744073709551616) (hb : ∀ x ∈ b, 0 ≤ x ∧ x < 256) (hh : headM b = true) : (msgM [rX kd df] [] 0 b).Ok := by
  have hw := head_words hh
  have hp := pack_one kd df hbits
  refine ⟨fun x hx => hb x (List.mem_of_mem_drop hx), ⟨hw.1, by show (loadV b 4 4).1 ≤ 2048; omega, hw.2.2⟩, rfl, ⟨Int.le_refl _, by show (0 : Int) < 1; decide⟩, ?_, ?_, ?_, ⟨by show 1 < _; decide, by show 0 < _; decide⟩, by show 1 ≤ _; decide⟩
  · intro k hk0
    have hk1 : k = 0 := by have : k < 1 := hk0; omega
    subst hk1
    have e : rd_T72 (msgM [rX kd df] [] 0 b).rows ((0 : Nat) : Int) = packM [fX kd df] := rfl
    rw [e, hp]
    exact ⟨rfl, by show 1 ≤ 1000000; decide, fun j hj => by simp at hj; omega⟩
  · intro k hk0 f hf
    have hk1 : k = 0 := by have : k < 1 := hk0; omega
    subst hk1
    have e : rd_T32 (msgM [rX kd df] [] 0 b).st ((0 : Nat) : Int) = rX kd df := rfl
    rw [e] at hf
    simp only [rX, List.mem_cons, List.not_mem_nil, or_false] at hf
    subst hf
    exact ⟨⟨hk.1, hk.2, fun h => absurd h h13, fun h => absurd h hn, Int.le_refl _, by show (0 : Int) < 1000; decide⟩, hd.1, hd.2⟩
  · intro k hk0; exact absurd hk0 (Nat.not_lt_zero k)
theorem read_one (w : World) (gF gR gm : Nat) (kd df : Int) (A3 : Option Addr) (c3 : Nat) (b : List Int) (left : Int)
    (hF : w.heap[gF]? = some (.cells #[.string ⟨#[120]⟩, .int .u8 kd, .int .i64 0, .int .i64 0, .int .u64 df] 29 (0, 0))) (hR : w.heap[gR]? = some (.cells #[.string ⟨#[83]⟩, .slice (some ⟨gF, 0, none⟩) 1 1] 32 (0, 0)))
    (hne : gF ≠ gm ∧ gR ≠ gm) (hB : ∀ W, Two gm gm w W → (Kd.int .u8).C W A3 b.length b) (hc : b.length ≤ c3) (hm : w.heap[gm]? = some (.cells #[.int .i64 left, .bool false] 101 (0, 0))) (hlf : 0 ≤ left ∧ left < 9223372036854775808)
    (hk : 0 ≤ kd ∧ kd < 256) (hn : kd ≠ 10) (h13 : kd ≠ 13) (hsz : szB kd ≠ 0) (hbits : 0 < bitsM kd) (hd : 0 ≤ df ∧ df < 18446744073709551616) (hb : ∀ x ∈ b, 0 ≤ x ∧ x < 256) (hh : headM b = true) :
    Calls Try.prog 7 #[.agg #[.slice (some ⟨gR, 0, none⟩) 1 1, .slice none 0 0, .int .i64 0], .slice A3 b.length c3, .pointer (some ⟨gm, 0, none⟩)] w (RdPost (msgM [rX kd df] [] 0 b) gm w (readM (msgM [rX kd df] [] 0 b) noT ⟨0, left, false⟩)) :=
  read_ok w (some ⟨gR, 0, none⟩) 1 none 0 0 A3 c3 [rX kd df] [] b gm left false (fun W hT => ⟨k32_one (hT.blk hF hne.1 hne.1) (hT.blk hR hne.2 hne.2), Kd.C_nil _ _, hB W hT⟩) hm hlf ⟨Nat.le_refl _, Nat.le_refl _, hc⟩ hb hh (ok_one kd df b hk hn h13 hbits hd hb hh) noT (fun L k hk0 f hf ho => by
    have hk1 : k = 0 := by have : k < 1 := hk0; omega
    subst hk1
    have e : rd_T32 [rX kd df] ((0 : Nat) : Int) = rX kd df := rfl
    rw [e] at hf
    simp only [rX, List.mem_cons, List.not_mem_nil, or_false] at hf
    subst hf
    exfalso
    rcases ho with h | h
    · exact absurd h (by show ¬ (0 : Int) < 0; decide)
    · exact hsz h)
theorem read_one_true (kd df : Int) (b : List Int) (left : Int) (p : Ptr) (hn : kd ≠ 10) (hsz : szB kd ≠ 0) (hbits : 0 < bitsM kd) (hp : rootM (msgM [rX kd df] [] 0 b) = (p, true)) (hnl : p.null = false) (hls : p.list = false)
    (hs : max (p.data + p.ptrs) 1 ≤ (loadV b 4 4).1) (hl : max (p.data + p.ptrs) 1 + 1 ≤ left) : (readM (msgM [rX kd df] [] 0 b) noT ⟨0, left, false⟩).1 = true := by
  unfold readM
  rw [hp, if_neg (by simp [hnl, hls])]
  have hfs : (msgM [rX kd df] [] 0 b).fs (msgM [rX kd df] [] 0 b).root = [(fX kd df, 0)] := by
    have e : (msgM [rX kd df] [] 0 b).fs (msgM [rX kd df] [] 0 b).root = [fX kd df].zip (packM [fX kd df]).f2 := rfl
    rw [e, pack_one kd df hbits]; rfl
  have hre : reachM (msgM [rX kd df] [] 0 b).words (p.data + p.ptrs) ⟨0, left, false⟩ = (true, ⟨max (p.data + p.ptrs) 1, left - max (p.data + p.ptrs) 1, false⟩) := by
    unfold reachM takeM
    rw [if_pos (by show 0 + max (p.data + p.ptrs) 1 ≤ (loadV b 4 4).1; omega)]
    simp only [Int.zero_add]
    rw [if_neg (by decide), if_neg (by omega)]
  unfold recordM
  rw [if_neg (by decide), hre, if_pos rfl, hfs]
  have ht : takeM 1 ⟨max (p.data + p.ptrs) 1, left - max (p.data + p.ptrs) 1, false⟩ = (true, ⟨max (p.data + p.ptrs) 1, left - max (p.data + p.ptrs) 1 - 1, false⟩) := by
    unfold takeM
    rw [if_neg (show ¬ (false = true) by decide), if_neg (by show ¬ left - max (p.data + p.ptrs) 1 < 1; omega)]
  unfold fieldsM
  rw [ht, if_neg (show ¬ (true = false) by decide), if_neg (by rintro (h | h); exact absurd h (by show ¬ (0 : Int) < 0; decide); exact hsz h), if_neg (fun h => hn h.1)]
  rfl
end Go.Proofs.Ytjgjidehlldfhaa.Hand
end

section
/- Layer 8, capread: the fixed facts of the laws. -/
namespace Go.Proofs.Ytjgjidehlldfhaa.Hand
open Go.RowKit Go.Proofs.Ytjgjidehlldfhaa.QAll Go.Proofs.YtjgjidehlldfhaaW.PrintWords Go.Proofs.YtjgjidehlldfhaaW.PrintLast Go.Proofs.YtjgjidehlldfhaaW.PrintMore Go.Proofs.Ytjgjidehlldfhaa.Nums Go.Proofs.Ytjgjidehlldfhaa.Runes
set_option linter.unusedVariables false
set_option linter.unusedSimpArgs false
def bA : List Int := [0, 0, 0, 0, 2, 0, 0, 0, 0, 0, 0, 0, 1, 0, 0, 0, 4, 0, 0, 0, 0, 0, 0, 0]
def bB : List Int := [0, 0, 0, 0, 1, 0, 0, 0, 0, 0, 0, 0, 0, 0, 0, 0]
theorem headA : headM bA = true := by kernel_rfl
theorem headB : headM bB = true := by kernel_rfl
theorem readA : (readM (msgM [rX 6 3] [] 0 bA) noT ⟨0, 1000, false⟩).1 = true := by kernel_rfl
theorem readB' : (readM (msgM [rX 6 3] [] 0 bB) noT ⟨0, 1000, false⟩).1 = false ∧ (readM (msgM [rX 6 3] [] 0 bB) noT ⟨0, 1000, false⟩).2.out = false := ⟨by kernel_rfl, by kernel_rfl⟩
theorem rootA : rootM (msgM [rX 6 3] [] 0 bA) = (⟨false, false, 1, 1, 0, 0, 0⟩, true) := by kernel_rfl
abbrev cA : Array Value := #[.int .u8 0, .int .u8 0, .int .u8 0, .int .u8 0, .int .u8 2, .int .u8 0, .int .u8 0, .int .u8 0, .int .u8 0, .int .u8 0, .int .u8 0, .int .u8 0, .int .u8 1, .int .u8 0, .int .u8 0, .int .u8 0, .int .u8 4, .int .u8 0, .int .u8 0, .int .u8 0, .int .u8 0, .int .u8 0, .int .u8 0, .int .u8 0]
abbrev cB : Array Value := #[.int .u8 0, .int .u8 0, .int .u8 0, .int .u8 0, .int .u8 1, .int .u8 0, .int .u8 0, .int .u8 0, .int .u8 0, .int .u8 0, .int .u8 0, .int .u8 0, .int .u8 0, .int .u8 0, .int .u8 0, .int .u8 0]
theorem bytes_u8 {b : List Int} (h : b.all (fun x => decide (0 ≤ x ∧ x < 256)) = true) : ∀ x ∈ b, 0 ≤ x ∧ x < 256 := fun x hx => of_decide_eq_true (List.all_eq_true.1 h x hx)
theorem CbA {w : World} {g : Nat} (hb : w.heap[g]? = some (.cells cA 5 (0, 0))) : (Kd.int .u8).C w (some ⟨g, 0, none⟩) bA.length bA := C_bytes hb (by decide) (fun j x hx => by
  have hj : j < 24 := by have := (List.getElem?_eq_some_iff.1 hx).1; exact this
  rcases (show j = 0 ∨ j = 1 ∨ j = 2 ∨ j = 3 ∨ j = 4 ∨ j = 5 ∨ j = 6 ∨ j = 7 ∨ j = 8 ∨ j = 9 ∨ j = 10 ∨ j = 11 ∨ j = 12 ∨ j = 13 ∨ j = 14 ∨ j = 15 ∨ j = 16 ∨ j = 17 ∨ j = 18 ∨ j = 19 ∨ j = 20 ∨ j = 21 ∨ j = 22 ∨ j = 23 by omega) with rfl | rfl | rfl | rfl | rfl | rfl | rfl | rfl | rfl | rfl | rfl | rfl | rfl | rfl | rfl | rfl | rfl | rfl | rfl | rfl | rfl | rfl | rfl | rfl <;> (injection hx with hx; subst hx; rfl))
theorem CbB {w : World} {g : Nat} (hb : w.heap[g]? = some (.cells cB 5 (0, 0))) : (Kd.int .u8).C w (some ⟨g, 0, none⟩) bB.length bB := C_bytes hb (by decide) (fun j x hx => by
  have hj : j < 16 := by have := (List.getElem?_eq_some_iff.1 hx).1; exact this
  rcases (show j = 0 ∨ j = 1 ∨ j = 2 ∨ j = 3 ∨ j = 4 ∨ j = 5 ∨ j = 6 ∨ j = 7 ∨ j = 8 ∨ j = 9 ∨ j = 10 ∨ j = 11 ∨ j = 12 ∨ j = 13 ∨ j = 14 ∨ j = 15 by omega) with rfl | rfl | rfl | rfl | rfl | rfl | rfl | rfl | rfl | rfl | rfl | rfl | rfl | rfl | rfl | rfl <;> (injection hx with hx; subst hx; rfl))
theorem heap_three (w : World) (o0 o1 o2 : Obj) {b0 b1 b2 : Nat} (h : w.heap.size = b0) (h1 : b0 + 1 = b1) (h2 : b1 + 1 = b2) {W : World} (hW : ((w.alloc o0).alloc o1).alloc o2 = W) :
    W.heap[b0]? = some o0 ∧ W.heap[b1]? = some o1 ∧ W.heap[b2]? = some o2 ∧ Below w.heap.size w W ∧ W.heap.size = b2 + 1 := by
  subst h h1 h2 hW
  have a1 := heap_alloc_new w o0
  have b1 := below_alloc (Below.refl (w.alloc o0).heap.size (w.alloc o0)) o1
  have a2 := heap_alloc_new (w.alloc o0) o1
  have b2 := below_alloc (Below.refl ((w.alloc o0).alloc o1).heap.size ((w.alloc o0).alloc o1)) o2
  have a3 := heap_alloc_new ((w.alloc o0).alloc o1) o2
  have e1 : (w.alloc o0).heap.size = w.heap.size + 1 := by simp
  have e2 : ((w.alloc o0).alloc o1).heap.size = w.heap.size + 1 + 1 := by simp
  rw [e1] at a2
  rw [e2] at a3
  exact ⟨(b2.block _ (by omega)).trans ((b1.block _ (by omega)).trans a1), (b2.block _ (by omega)).trans a2, a3, below_alloc (below_alloc (below_alloc (Below.refl _ _) _) _) _, by simp⟩
/-- What New answers. -/
theorem new_any (w : World) (n : Int) : Calls Try.prog 12 #[.int .i64 n] w fun e w' => ∃ g, e = .returned (.pointer (some ⟨g, 0, none⟩)) ∧ w'.heap[g]? = some (.cells #[.int .i64 (mx n 0), .bool false] 101 (0, 0)) ∧ w.heap.size ≤ g ∧ Below w.heap.size w w' := by
  refine (wire_New.calls n _ _ w w (Below.refl _ _) rfl).mono ?_
  rintro e w' ⟨g, he, hI, hb, -⟩
  exact ⟨g, he, hI.1, hI.2, hb⟩
/-- Read of a one-field schema that lies in blocks, whatever the meter. -/
theorem read_blocks {w1 W : World} {gF gR gm gb : Nat} {kd df : Int} {b : List Int} {left : Int} (hF : w1.heap[gF]? = some (.cells #[.string ⟨#[120]⟩, .int .u8 kd, .int .i64 0, .int .i64 0, .int .u64 df] 29 (0, 0)))
    (hR : w1.heap[gR]? = some (.cells #[.string ⟨#[83]⟩, .slice (some ⟨gF, 0, none⟩) 1 1] 32 (0, 0))) (hW : Below w1.heap.size w1 W) (hgm : w1.heap.size ≤ gm) (hgb : gb ≠ gm) (c3 : Nat)
    (hB : ∀ V, V.heap[gb]? = W.heap[gb]? → (Kd.int .u8).C V (some ⟨gb, 0, none⟩) b.length b) (hbl : gb < W.heap.size) (hc : b.length ≤ c3) (hm : W.heap[gm]? = some (.cells #[.int .i64 left, .bool false] 101 (0, 0))) (hlf : 0 ≤ left ∧ left < 9223372036854775808)
    (hk : 0 ≤ kd ∧ kd < 256) (hn : kd ≠ 10) (h13 : kd ≠ 13) (hsz : szB kd ≠ 0) (hbits : 0 < bitsM kd) (hd : 0 ≤ df ∧ df < 18446744073709551616) (hb : ∀ x ∈ b, 0 ≤ x ∧ x < 256) (hh : headM b = true) :
    Calls Try.prog 7 #[.agg #[.slice (some ⟨gR, 0, none⟩) 1 1, .slice none 0 0, .int .i64 0], .slice (some ⟨gb, 0, none⟩) b.length c3, .pointer (some ⟨gm, 0, none⟩)] W (RdPost (msgM [rX kd df] [] 0 b) gm W (readM (msgM [rX kd df] [] 0 b) noT ⟨0, left, false⟩)) :=
  read_one W gF gR gm kd df (some ⟨gb, 0, none⟩) c3 b left ((hW.block _ (blk_lt hF)).trans hF) ((hW.block _ (blk_lt hR)).trans hR) ⟨by have := blk_lt hF; omega, by have := blk_lt hR; omega⟩
    (fun V hV => hB V (hV.block _ hbl hgb hgb)) hc hm hlf hk hn h13 hsz hbits hd hb hh
theorem num_method : ∀ (a b c d e : Value) (w : World), (method 260 80 (.agg #[a, b, c, d, e]) "Num").run Try.prog w = .ok (49, .agg #[a, b, c, d, e]) w := fun _ _ _ _ _ _ => by kernel_rfl
set_option maxHeartbeats 6400000 in
set_option maxRecDepth 100000 in
theorem awake08 (w : World) : Calls Try.prog 6 #[] w fun e w' => e = .returned (.bool true) ∧ Below w.heap.size w w' := by
  obtain ⟨b0, h0⟩ : ∃ b0, w.heap.size = b0 := ⟨_, rfl⟩
  obtain ⟨b1, h1⟩ : ∃ b1, b0 + 1 = b1 := ⟨_, rfl⟩
  obtain ⟨b2, h2⟩ : ∃ b2, b1 + 1 = b2 := ⟨_, rfl⟩
  obtain ⟨w1, hw1⟩ : ∃ w1, ((w.alloc (.cells #[.string ⟨#[120]⟩, .int .u8 6, .int .i64 0, .int .i64 0, .int .u64 3] 29)).alloc (.cells #[.string ⟨#[83]⟩, .slice (some ⟨b0, 0, none⟩) 1 1] 32)).alloc (.cells #[.slice (some ⟨b1, 0, none⟩) 1 1, .slice none 0 0, .int .i64 0] 36) = w1 := ⟨_, rfl⟩
  obtain ⟨x0, x1, x2, hB, hsz⟩ := heap_three w _ _ _ h0 h1 h2 hw1
  have HF := Aside0.mk x0
  have HR := Aside0.mk x1
  have HS := Aside0.mk x2
  have HB1 := Aside0.mk hB
  have s0 : w1.cell? ⟨b2, 0, none⟩ = some (.slice (some ⟨b1, 0, none⟩) 1 1) := (blk_cell x2 0).trans rfl
  have s1 : w1.cell? ⟨b2, 1, none⟩ = some (.slice none 0 0) := (blk_cell x2 1).trans rfl
  have s2 : w1.cell? ⟨b2, 2, none⟩ = some (.int .i64 0) := (blk_cell x2 2).trans rfl
  have v0 := World.new_ne w1 _ s0
  have HX : Aside0 (∀ W, Below w1.heap.size w1 W → W.cell? ⟨b2, 0, none⟩ = some (.slice (some ⟨b1, 0, none⟩) 1 1) ∧ W.cell? ⟨b2, 1, none⟩ = some (.slice none 0 0) ∧ W.cell? ⟨b2, 2, none⟩ = some (.int .i64 0)) := ⟨fun W hW => ⟨pw_cell_below hW s0, pw_cell_below hW s1, pw_cell_below hW s2⟩⟩
  have HRD : Aside0 (∀ W gm gb, Below w1.heap.size w1 W → w1.heap.size ≤ gm → gb ≠ gm → W.heap[gb]? = some (.cells cA 5 (0, 0)) → W.heap[gm]? = some (.cells #[.int .i64 1000, .bool false] 101 (0, 0)) →
      Calls Try.prog 7 #[.agg #[.slice (some ⟨b1, 0, none⟩) 1 1, .slice none 0 0, .int .i64 0], .slice (some ⟨gb, 0, none⟩) 24 24, .pointer (some ⟨gm, 0, none⟩)] W fun e w' => ∃ (L : Loc) (s' : Mt), e = .returned (.tuple #[.iface 80 (.agg #[.pointer (some ⟨L.gx, 0, none⟩), .int .i64 0, .int .i64 1, .int .i64 1, .int .i64 0]), .int .i64 0]) ∧ MS (msgM [rX 6 3] [] 0 bA) L w' s' ∧ Below w1.heap.size w1 w') := ⟨fun W gm gb hW hgm hgb hbb hmm => by
    refine (read_blocks (b := bA) x0 x1 hW hgm hgb 24 (fun V hV => CbA (hV.trans hbb)) (blk_lt hbb) (by decide) hmm ⟨by decide, by decide⟩ ⟨by decide, by decide⟩ (by decide) (by decide) (by decide) (by decide) ⟨by decide, by decide⟩ (bytes_u8 (by decide)) headA).mono ?_
    rintro e w' ⟨L, hLm, hLx, he, hM, hT⟩
    refine ⟨L, _, ?_, hM, hT.below hW hW.size hgm hgm⟩
    rw [he]
    unfold rdV
    rw [if_pos readA, rootA]
    rfl⟩
  have HNEW := Aside0.mk (fun W => new_any W 1000)
  have HEQ := Aside0.mk (And.intro h0 (And.intro h1 (And.intro h2 hw1)))
  clear x0 x1 x2 hB hsz s0 s1 s2 v0 h0 h1 h2 hw1
  go_enter Try.func6, Try.ntmps6
  go_upto_region 2 with (fail)
  rw [HEQ.out.1, HEQ.out.2.1, HEQ.out.2.2.1, HEQ.out.2.2.2]
  go_cut [2, 3] (fun v2 v3 wc => ∃ (L : Loc) (s' : Mt), v2 = .iface 80 (.agg #[.pointer (some ⟨L.gx, 0, none⟩), .int .i64 0, .int .i64 1, .int .i64 1, .int .i64 0]) ∧ v3 = .int .i64 0 ∧ Aside0 (MS (msgM [rX 6 3] [] 0 bA) L wc s') ∧ Aside0 (Below w1.heap.size w1 wc))
  case first =>
    obtain ⟨s0, s1, s2⟩ := HX.out w1 (Below.refl _ _)
    have v0 := World.new_ne w1 _ s0
    go_region_held3 (fun W => W.cell? ⟨b2, 0, none⟩ = some (.slice (some ⟨b1, 0, none⟩) 1 1) ∧ W.cell? ⟨b2, 1, none⟩ = some (.slice none 0 0) ∧ W.cell? ⟨b2, 2, none⟩ = some (.int .i64 0))
      (first | go_keep | with_reducible exact ⟨s0, s1, s2⟩ | with_reducible exact ⟨z0, z1, z2⟩ | with_reducible exact ⟨y0, y1, y2⟩)
      (first
        | (go_at_call 12; (with_reducible refine (HNEW.out _).mono ?_); rintro e w5 ⟨g5, rfl, hm5, hg5, hb5⟩
           have HM5 := Aside0.mk hm5
           first
             | (have hX : Below w1.heap.size w1 (w1.alloc (.cells cA 5)).drew := below_drew (below_alloc (Below.refl _ _) _)
                have HB5 := Aside0.mk (below_then hX hX.size hb5)
                have HG5 : Aside0 (w1.heap.size < g5) := ⟨Nat.lt_of_lt_of_le (show w1.heap.size < (w1.alloc (.cells cA 5)).heap.size by simp) hg5⟩
                have HBY : Aside0 (w5.heap[w1.heap.size]? = some (.cells cA 5 (0, 0))) := ⟨(hb5.block _ (show w1.heap.size < (w1.alloc (.cells cA 5)).heap.size by simp)).trans (heap_alloc_new w1 _)⟩
                clear hX)
             | (have hX : Below w1.heap.size w1 w1.drew := below_drew (Below.refl _ _)
                have HB5 := Aside0.mk (below_then hX hX.size hb5)
                have HG5 : Aside0 (w1.heap.size ≤ g5) := ⟨hg5⟩
                clear hX)
           obtain ⟨z0, z1, z2⟩ := HX.out w5 HB5.out
           have v5 := World.new_ne w5 _ z0
           clear hm5 hg5 hb5)
        | (go_at_call 7
           first
             | (refine (HRD.out w5 g5 w1.heap.size HB5.out (Nat.le_of_lt HG5.out) (Nat.ne_of_lt HG5.out) HBY.out HM5.out).mono ?_)
             | (refine (HRD.out (w5.alloc (.cells cA 5)) g5 w5.heap.size (below_alloc HB5.out _) HG5.out (by have := blk_lt HM5.out; omega) (heap_alloc_new w5 _) (by have hb := below_alloc (Below.refl w5.heap.size w5) (.cells cA 5); exact (hb.block _ (blk_lt HM5.out)).trans HM5.out)).mono ?_)
           rintro e w6 ⟨L, s', rfl, hM, hb6⟩
           have HM6 := Aside0.mk hM; have HB6 := Aside0.mk hb6
           obtain ⟨y0, y1, y2⟩ := HX.out w6 HB6.out
           clear hM hb6))
    all_goals
      go_wp2_with (fail)
      go_meet
      exact ⟨L, s', rfl, rfl, HM6, HB6⟩
  obtain ⟨L, s', rfl, rfl, HM6, HB6⟩ := hcut
  obtain ⟨w6, hw6⟩ : ∃ w6, wc = w6 := ⟨_, rfl⟩
  rw [hw6] at HM6 HB6 ⊢
  clear hw6
  have HRD2 : Aside0 (∀ W gm gb, Below w6.heap.size w6 W → w6.heap.size ≤ gm → gb ≠ gm → W.heap[gb]? = some (.cells cB 5 (0, 0)) → W.heap[gm]? = some (.cells #[.int .i64 1000, .bool false] 101 (0, 0)) →
      Calls Try.prog 7 #[.agg #[.slice (some ⟨b1, 0, none⟩) 1 1, .slice none 0 0, .int .i64 0], .slice (some ⟨gb, 0, none⟩) 16 16, .pointer (some ⟨gm, 0, none⟩)] W fun e w' => e = .returned (.tuple #[.nilIface, .int .i64 20]) ∧ Below w6.heap.size w6 w') := ⟨fun W gm gb hW hgm hgb hbb hmm => by
    refine (read_blocks (b := bB) ((HB6.out.block _ (blk_lt HF.out)).trans HF.out) ((HB6.out.block _ (blk_lt HR.out)).trans HR.out) hW hgm hgb 16 (fun V hV => CbB (hV.trans hbb)) (blk_lt hbb) (by decide) hmm ⟨by decide, by decide⟩ ⟨by decide, by decide⟩ (by decide) (by decide) (by decide) (by decide) ⟨by decide, by decide⟩ (bytes_u8 (by decide)) headB).mono ?_
    rintro e w' ⟨L, hLm, hLx, he, hM, hT⟩
    refine ⟨?_, hT.below hW hW.size hgm hgm⟩
    rw [he]
    unfold rdV
    rw [if_neg (by rw [readB'.1]; decide), if_neg (by rw [readB'.2]; decide)]⟩
  go_upto_region 3 with (fail)
  go_cut [5] (fun v5 wc => v5 = .int .i64 20 ∧ Aside0 (Below w6.heap.size w6 wc))
  case first =>
    obtain ⟨s0, s1, s2⟩ := HX.out w6 HB6.out
    have v0 := World.new_ne w6 _ s0
    go_region_held3 (fun W => W.cell? ⟨b2, 0, none⟩ = some (.slice (some ⟨b1, 0, none⟩) 1 1) ∧ W.cell? ⟨b2, 1, none⟩ = some (.slice none 0 0) ∧ W.cell? ⟨b2, 2, none⟩ = some (.int .i64 0))
      (first | go_keep | with_reducible exact ⟨s0, s1, s2⟩ | with_reducible exact ⟨z0, z1, z2⟩ | with_reducible exact ⟨y0, y1, y2⟩)
      (first
        | (go_at_call 12; (with_reducible refine (HNEW.out _).mono ?_); rintro e w5 ⟨g5, rfl, hm5, hg5, hb5⟩
           have HM5 := Aside0.mk hm5
           first
             | (have hX : Below w6.heap.size w6 (w6.alloc (.cells cB 5)).drew := below_drew (below_alloc (Below.refl _ _) _)
                have HB5 := Aside0.mk (below_then hX hX.size hb5)
                have HG5 : Aside0 (w6.heap.size < g5) := ⟨Nat.lt_of_lt_of_le (show w6.heap.size < (w6.alloc (.cells cB 5)).heap.size by simp) hg5⟩
                have HBY : Aside0 (w5.heap[w6.heap.size]? = some (.cells cB 5 (0, 0))) := ⟨(hb5.block _ (show w6.heap.size < (w6.alloc (.cells cB 5)).heap.size by simp)).trans (heap_alloc_new w6 _)⟩
                clear hX)
             | (have hX : Below w6.heap.size w6 w6.drew := below_drew (Below.refl _ _)
                have HB5 := Aside0.mk (below_then hX hX.size hb5)
                have HG5 : Aside0 (w6.heap.size ≤ g5) := ⟨hg5⟩
                clear hX)
           obtain ⟨z0, z1, z2⟩ := HX.out w5 (below_then HB6.out HB6.out.size HB5.out)
           have v5 := World.new_ne w5 _ z0
           clear hm5 hg5 hb5)
        | (go_at_call 7
           first
             | (refine (HRD2.out w5 g5 w6.heap.size HB5.out (Nat.le_of_lt HG5.out) (Nat.ne_of_lt HG5.out) HBY.out HM5.out).mono ?_)
             | (refine (HRD2.out (w5.alloc (.cells cB 5)) g5 w5.heap.size (below_alloc HB5.out _) HG5.out (by have := blk_lt HM5.out; omega) (heap_alloc_new w5 _) (by have hb := below_alloc (Below.refl w5.heap.size w5) (.cells cB 5); exact (hb.block _ (blk_lt HM5.out)).trans HM5.out)).mono ?_)
           rintro e w7 ⟨rfl, hb7⟩
           have HB7 := Aside0.mk hb7
           obtain ⟨y0, y1, y2⟩ := HX.out w7 (below_then HB6.out HB6.out.size HB7.out)
           clear hb7))
    all_goals
      go_wp2_with (fail)
      go_meet
      exact ⟨rfl, HB7⟩
  obtain ⟨rfl, HB7⟩ := hcut
  obtain ⟨w7, hw7⟩ : ∃ w7, wc = w7 := ⟨_, rfl⟩
  rw [hw7] at HB7 ⊢
  clear hw7
  have HNUM : Aside0 (∀ W, Below w6.heap.size w6 W → Calls Try.prog 49 #[.agg #[.pointer (some ⟨L.gx, 0, none⟩), .int .i64 0, .int .i64 1, .int .i64 1, .int .i64 0], .int .i64 0] W fun e w' => e = .returned (.int .u64 7) ∧ Below W.heap.size W w') := ⟨fun W hW => by
    have hx := rnum_any (HM6.out.below hW) 0 0 1 1 0 (by decide) (by decide) (by decide) ⟨by decide, by decide⟩ ⟨by decide, by decide⟩
    have e : numM (msgM [rX 6 3] [] 0 bA).b (rd_T29 (rd_T32 (msgM [rX 6 3] [] 0 bA).st ((0 : Nat) : Int)).f1 ((0 : Nat) : Int)).f1.f0 (rd_T29 (rd_T32 (msgM [rX 6 3] [] 0 bA).st ((0 : Nat) : Int)).f1 ((0 : Nat) : Int)).f2 1 1 (rd (rd_T72 (msgM [rX 6 3] [] 0 bA).rows ((0 : Nat) : Int)).f2 ((0 : Nat) : Int)) = 7 := by kernel_rfl
    rw [e] at hx
    exact hx⟩
  have hmt := num_method
  go_wp2_with (go_at_call 49; (with_reducible refine (HNUM.out _ HB7.out).mono ?_); rintro e w8 ⟨rfl, hb⟩; have HB8 := Aside0.mk (below_then HB7.out HB7.out.size hb); clear hb)
  go_ret
  exact ⟨rfl, below_then HB1.out HB1.out.size (below_then HB6.out HB6.out.size HB8.out)⟩
end Go.Proofs.Ytjgjidehlldfhaa.Hand
end
