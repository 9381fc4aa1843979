/- Layer 13, scan: the fixed facts that every law asks first. -/
import Derived.Test.YtonekmigcpgdeaaDoorS8
import Derived.Lib.Bytes
import Derived.Lib.SlBytesConst
namespace Go.Proofs.YtonekmigcpgdeaaDoor.Hand
open Go.RowKit Go.Proofs.YtonekmigcpgdeaaDoor.QAll Go.Proofs.YtonekmigcpgdeaaDoorW.PrintWords Go.Proofs.YtonekmigcpgdeaaDoorW.PrintLast Go.Proofs.YtonekmigcpgdeaaDoorW.PrintMore Go.Proofs.YtonekmigcpgdeaaDoor.Runes
set_option linter.unusedVariables false
set_option linter.unusedSimpArgs false
theorem below_from {B : Nat} {w w' : World} (h : Below w.heap.size w w') (hB : B ≤ w.heap.size) : Below B w w' := ⟨h.os, h.tape, h.output, h.size, fun k hk => h.block k (by omega)⟩
theorem C_lit (w : World) (l : List Int) (n : Nat) (cells : Array Value) (fz : Nat × Nat) (hn : l.length = n) (hc : cells.toList = encs (Value.int .u8) l) (hl : n ≤ 1000000) : Kd.C (Kd.int .u8) (w.alloc (.cells cells 5 fz)) (some ⟨w.heap.size, 0, none⟩) l.length l := by
  refine Kd.C_of_reads (enc := Value.int .u8) (d := (0 : Int)) (h1 := fun _ => rfl) ⟨rfl, by omega, fun _ => ⟨_, rfl, fun j hj => ?_⟩⟩
  have e : (⟨w.heap.size, 0, none⟩ : Addr).add j = ⟨w.heap.size, j, none⟩ := by unfold Addr.add; split <;> simp_all
  rw [e, cell_of_row _ _ _ _ _ _ (heap_alloc_new w (.cells cells 5 fz)), ← Array.getElem?_toList, hc]
  exact encs_get _ _ hj
theorem open_lit (w : World) (l : List Int) (n : Nat) (cells : Array Value) (fz : Nat × Nat) (hn : l.length = n) (hc : cells.toList = encs (Value.int .u8) l) (hl : n ≤ 1000000) :
    Calls Tryd.prog 5 #[.slice (some ⟨w.heap.size, 0, none⟩) n n, .int .i64 0] (w.alloc (.cells cells 5 fz)) (Opened (some ⟨w.heap.size, 0, none⟩) n l 0 (w.alloc (.cells cells 5 fz))) := by
  have h := open_any (w := w.alloc (.cells cells 5 fz)) (A := some ⟨w.heap.size, 0, none⟩) (c := n) (b := l) (i := 0) (C_lit w l n cells fz hn hc hl) (by omega) (by omega) (Nat.zero_le _)
  rw [hn] at h
  exact h
def aw1 : List Int := [34, 97, 92, 117, 48, 48, 101, 57, 92, 117, 100, 56, 51, 100, 92, 117, 100, 101, 48, 48, 34]
def aw2 : List Int := [34, 92, 117, 100, 56, 51, 100, 34]
theorem aw1_text : textV aw1 0 = some ([97, 195, 169, 240, 159, 152, 128], 21) := by decide +kernel
theorem aw2_text : textV aw2 0 = none := by decide +kernel
theorem aw1_end : (skip aw1 21 == aw1.length) = true := by decide +kernel
theorem aw3_num : lex_good.f (strOfNums (numText [45, 48] 0)) = some false := by decide +kernel
theorem aw4 : scan_Undigits.f 40 [48, 97, 102, 102] = some ([10, 255], 0) := by decide +kernel
theorem aw5 : scan_Undigits.f 40 [48, 65] = some ([], 20) := by decide +kernel
theorem undig_lit (w : World) (l : List Int) (n : Nat) (cells : Array Value) (fz : Nat × Nat) (k : Nat) (r1 : List Int) (r2 : Int) (hn : l.length = n) (hc : cells.toList = encs (Value.int .u8) l) (hl : n ≤ 1000000) (hf : scan_Undigits.f k l = some (r1, r2)) :
    Calls Tryd.prog 10 #[.slice (some ⟨w.heap.size, 0, none⟩) n n] (w.alloc (.cells cells 5 fz)) fun e w' => ∃ v0_ : Value, e = .returned (.tuple #[v0_, .int .i64 r2]) ∧ Kd.R (Kd.int .u8) 5 w' (w.alloc (.cells cells 5 fz)).heap.size (fun _ => True) v0_ r1 ∧ Below (w.alloc (.cells cells 5 fz)).heap.size (w.alloc (.cells cells 5 fz)) w' := by
  have h := scan_Undigits.calls k (some ⟨w.heap.size, 0, none⟩) n l r1 r2 (w.alloc (.cells cells 5 fz)) (C_lit w l n cells fz hn hc hl) (by omega) hf
  rw [hn] at h
  exact h
theorem open_aw1 (w : World) : Calls Tryd.prog 5 #[.slice (some ⟨w.heap.size, 0, none⟩) 21 21, .int .i64 0] (w.alloc (.cells #[.int .u8 34, .int .u8 97, .int .u8 92, .int .u8 117, .int .u8 48, .int .u8 48, .int .u8 101, .int .u8 57, .int .u8 92, .int .u8 117, .int .u8 100, .int .u8 56, .int .u8 51, .int .u8 100, .int .u8 92, .int .u8 117, .int .u8 100, .int .u8 101, .int .u8 48, .int .u8 48, .int .u8 34] 5 (21, 22))) (Opened (some ⟨w.heap.size, 0, none⟩) 21 aw1 0 (w.alloc (.cells #[.int .u8 34, .int .u8 97, .int .u8 92, .int .u8 117, .int .u8 48, .int .u8 48, .int .u8 101, .int .u8 57, .int .u8 92, .int .u8 117, .int .u8 100, .int .u8 56, .int .u8 51, .int .u8 100, .int .u8 92, .int .u8 117, .int .u8 100, .int .u8 101, .int .u8 48, .int .u8 48, .int .u8 34] 5 (21, 22)))) := open_lit w aw1 21 _ _ rfl rfl (by decide)
theorem open_aw2 (w : World) : Calls Tryd.prog 5 #[.slice (some ⟨w.heap.size, 0, none⟩) 8 8, .int .i64 0] (w.alloc (.cells #[.int .u8 34, .int .u8 92, .int .u8 117, .int .u8 100, .int .u8 56, .int .u8 51, .int .u8 100, .int .u8 34] 5 (8, 9))) (Opened (some ⟨w.heap.size, 0, none⟩) 8 aw2 0 (w.alloc (.cells #[.int .u8 34, .int .u8 92, .int .u8 117, .int .u8 100, .int .u8 56, .int .u8 51, .int .u8 100, .int .u8 34] 5 (8, 9)))) := open_lit w aw2 8 _ _ rfl rfl (by decide)
theorem open_aw3 (w : World) : Calls Tryd.prog 5 #[.slice (some ⟨w.heap.size, 0, none⟩) 2 2, .int .i64 0] (w.alloc (.cells #[.int .u8 45, .int .u8 48] 5 (2, 3))) (Opened (some ⟨w.heap.size, 0, none⟩) 2 [45, 48] 0 (w.alloc (.cells #[.int .u8 45, .int .u8 48] 5 (2, 3)))) := open_lit w [45, 48] 2 _ _ rfl rfl (by decide)
theorem und_aw4l (w : World) : Calls Tryd.prog 10 #[.slice (some ⟨w.heap.size, 0, none⟩) 4 4] (w.alloc (.cells #[.int .u8 48, .int .u8 97, .int .u8 102, .int .u8 102] 5 (4, 5))) fun e w' => ∃ v0_ : Value, e = .returned (.tuple #[v0_, .int .i64 0]) ∧ Kd.R (Kd.int .u8) 5 w' (w.alloc (.cells #[.int .u8 48, .int .u8 97, .int .u8 102, .int .u8 102] 5 (4, 5))).heap.size (fun _ => True) v0_ ([10, 255] : List Int) ∧ Below (w.alloc (.cells #[.int .u8 48, .int .u8 97, .int .u8 102, .int .u8 102] 5 (4, 5))).heap.size (w.alloc (.cells #[.int .u8 48, .int .u8 97, .int .u8 102, .int .u8 102] 5 (4, 5))) w' := undig_lit w [48, 97, 102, 102] 4 _ _ 40 _ _ rfl rfl (by decide) aw4
theorem und_aw5l (w : World) : Calls Tryd.prog 10 #[.slice (some ⟨w.heap.size, 0, none⟩) 2 2] (w.alloc (.cells #[.int .u8 48, .int .u8 65] 5 (2, 3))) fun e w' => ∃ v0_ : Value, e = .returned (.tuple #[v0_, .int .i64 20]) ∧ Kd.R (Kd.int .u8) 5 w' (w.alloc (.cells #[.int .u8 48, .int .u8 65] 5 (2, 3))).heap.size (fun _ => True) v0_ ([] : List Int) ∧ Below (w.alloc (.cells #[.int .u8 48, .int .u8 65] 5 (2, 3))).heap.size (w.alloc (.cells #[.int .u8 48, .int .u8 65] 5 (2, 3))) w' := undig_lit w [48, 65] 2 _ _ 40 _ _ rfl rfl (by decide) aw5
theorem own_le {w : World} {base base' size n : Nat} {e : TypeId} {v : Value} {xs : List Value} (h : w.ownsRow base e size v n xs) (hb : base' ≤ base) : w.ownsRow base' e size v n xs :=
  ⟨h.1, h.2.elim Or.inl (fun ⟨g, cap, cur, hv, hg, r⟩ => Or.inr ⟨g, cap, cur, hv, Nat.le_trans hb hg, r⟩)⟩
theorem text_some {w : World} {g m : Nat} {A : Option Addr} {c i : Nat} {b out : List Int} {left : Int} {j : Nat} (h : Scn w g m A c b i left) (hby : ∀ x ∈ b, 0 ≤ x ∧ x < 256) (hv : textV b i = some (out, j)) :
    Calls Tryd.prog 6 #[.pointer (some ⟨g, 0, none⟩)] w fun e w' => ∃ A' c', e = .returned (.tuple #[.slice A' out.length c', .bool true]) ∧ w'.ownsRow w.heap.size 5 1 (.slice A' out.length c') out.length (encs (Value.int .u8) out) ∧ (∃ left', Scn w' g m A c b j left') ∧ Two g m w w' := by
  have h1 := text_any h hby
  rw [hv] at h1
  refine h1.mono fun e w' hp => ?_
  obtain ⟨v, h1, h2, ⟨j', l, h3, h5⟩, h4⟩ := hp
  obtain ⟨A', c', hv', _⟩ := own_form h2
  subst hv'
  have := h5 _ rfl
  subst this
  exact ⟨A', c', h1, h2, ⟨l, h3⟩, h4⟩
theorem text_none {w : World} {g m : Nat} {A : Option Addr} {c i : Nat} {b : List Int} {left : Int} (h : Scn w g m A c b i left) (hby : ∀ x ∈ b, 0 ≤ x ∧ x < 256) (hv : textV b i = none) :
    Calls Tryd.prog 6 #[.pointer (some ⟨g, 0, none⟩)] w fun e w' => ∃ A' c', e = .returned (.tuple #[.slice A' 0 c', .bool false]) ∧ Two g m w w' := by
  have h1 := text_any h hby
  rw [hv] at h1
  refine h1.mono fun e w' hp => ?_
  obtain ⟨v, h1, h2, _, h4⟩ := hp
  obtain ⟨A', c', hv', _⟩ := own_form h2
  subst hv'
  exact ⟨A', c', h1, h4⟩
theorem byte_all (b : List Int) (h : b.all (fun x => decide (0 ≤ x ∧ x < 256)) = true) : ∀ x ∈ b, 0 ≤ x ∧ x < 256 := fun x hx => of_decide_eq_true (List.all_eq_true.1 h x hx)
theorem str_eq (l : List Int) (s : List UInt8) (h : Lib.bytesOf l = s) : ((strOfNums l).toList == s) = true := by rw [Lib.strOfNums_toList, h]; exact beq_self_eq_true s
theorem own_far {W W' : World} {B e s n : Nat} {v : Value} {xs : List Value} (h : W.ownsRow B e s v n xs) (hb : Below W.heap.size W W') : W'.ownsRow B e s v n xs := own_below h hb
/-- Two new blocks: nothing that was has changed. -/
theorem Two.fresh {g m : Nat} {w0 w w' : World} (h : Two g m w w') (hb : Below w0.heap.size w0 w) (hg : w0.heap.size ≤ g) (hm : w0.heap.size ≤ m) : Below w0.heap.size w0 w' := h.below hb hb.size hg hm
set_option maxHeartbeats 6400000 in
set_option maxRecDepth 100000 in
theorem awake_any (w : World) : Calls Tryd.prog 4 #[] w fun e w' => e = .returned (.bool true) ∧ Below w.heap.size w w' := by
  have HA0 : Aside0 (∀ o, Below w.heap.size w (w.alloc o)) := ⟨fun o => below_alloc (Below.refl _ _) o⟩
  have kc := fun (w : World) (C : Array Value) (n c : Nat) => Lib.run_convert_bytes_const (P := Tryd.prog) w 22 5 C n c Tryd.underlying22 Tryd.underlying5
  go_enter Tryd.func4, Tryd.ntmps4
  go_upto_region 4 with (go_at_call 5; (with_reducible refine (open_aw1 w).mono ?_); rintro e w1 ho; obtain ⟨g1, m1, rfl, hs1, hg1, hm1, hb1⟩ := ho; have HS1 := Aside0.mk hs1; have HB1 : Aside0 (Below w.heap.size w w1) := ⟨(HA0.out _).trans (below_from hb1 (HA0.out _).size)⟩; have HG1 : Aside0 (w.heap.size ≤ g1 ∧ w.heap.size ≤ m1) := ⟨Nat.le_trans (HA0.out _).size hg1, Nat.le_trans (HA0.out _).size hm1⟩; clear hs1 hb1 hg1 hm1)
  go_upto_region 5 with (go_at_call 6; (with_reducible refine (text_some HS1.out (byte_all _ (by decide)) aw1_text).mono ?_); rintro e w2 ⟨A2, c2, rfl, ho2, ⟨lf2, hs2⟩, ht2⟩; have HS2 := Aside0.mk hs2; have HO2 := Aside0.mk ho2; have HB2 : Aside0 (Below w.heap.size w w2) := ⟨ht2.fresh HB1.out HG1.out.1 HG1.out.2⟩; clear ho2 hs2 ht2)
  have HA2 : Aside0 (∀ o, Below w2.heap.size w2 (w2.alloc o)) := ⟨fun o => below_alloc (Below.refl _ _) o⟩
  go_upto_region 6 with (first
    | (go_at_call 5; (with_reducible refine (open_aw2 w2).mono ?_); rintro e w3 ho; obtain ⟨g3, m3, rfl, hs3, hg3, hm3, hb3⟩ := ho; have HS3 := Aside0.mk hs3; have HB3 : Aside0 (Below w2.heap.size w2 w3) := ⟨(HA2.out _).trans (below_from hb3 (HA2.out _).size)⟩; have HG3 : Aside0 (w2.heap.size ≤ g3 ∧ w2.heap.size ≤ m3) := ⟨Nat.le_trans (HA2.out _).size hg3, Nat.le_trans (HA2.out _).size hm3⟩; clear hs3 hb3 hg3 hm3)
    | (go_at_call 6; (with_reducible refine (text_none HS3.out (byte_all _ (by decide)) aw2_text).mono ?_); rintro e w4 ⟨A4, c4, rfl, ht4⟩; have HB4 : Aside0 (Below w2.heap.size w2 w4) := ⟨ht4.fresh HB3.out HG3.out.1 HG3.out.2⟩; clear ht4))
  have HA4 : Aside0 (∀ o, Below w4.heap.size w4 (w4.alloc o)) := ⟨fun o => below_alloc (Below.refl _ _) o⟩
  go_upto_region 7 with (first
    | (go_at_call 5; (with_reducible refine (open_aw3 w4).mono ?_); rintro e w5 ho; obtain ⟨g5, m5, rfl, hs5, hg5, hm5, hb5⟩ := ho; have HS5 := Aside0.mk hs5; have HB5 : Aside0 (Below w4.heap.size w4 w5) := ⟨(HA4.out _).trans (below_from hb5 (HA4.out _).size)⟩; have HG5 : Aside0 (w4.heap.size ≤ g5 ∧ w4.heap.size ≤ m5) := ⟨Nat.le_trans (HA4.out _).size hg5, Nat.le_trans (HA4.out _).size hm5⟩; clear hs5 hb5 hg5 hm5)
    | (go_at_call 9; (with_reducible refine (number_no HS5.out (by decide +kernel) (by decide) aw3_num).mono ?_); rintro e w6 ⟨rfl, _, ht6⟩; have HB6 : Aside0 (Below w2.heap.size w2 w6) := ⟨HB4.out.trans (below_from (ht6.fresh HB5.out HG5.out.1 HG5.out.2) HB4.out.size)⟩; clear ht6))
  have HA6 : Aside0 (∀ o, Below w6.heap.size w6 (w6.alloc o)) := ⟨fun o => below_alloc (Below.refl _ _) o⟩
  go_upto_region 8 with (go_at_call 10; (with_reducible refine (und_aw4l w6).mono ?_); rintro e w7 ⟨v7, rfl, hr7, hb7⟩; have HR7 := Aside0.mk hr7; have HB7 : Aside0 (Below w2.heap.size w2 w7) := ⟨HB6.out.trans (below_from ((HA6.out _).trans (below_from hb7 (HA6.out _).size)) HB6.out.size)⟩; clear hr7 hb7)
  obtain ⟨A7, c7, rfl, _, hC7⟩ := Kd.R_reads HR7.out
  have HO7 := Aside0.mk (own_le (Kd.own_of_R HR7.out) (Nat.le_trans HB6.out.size (HA6.out _).size))
  clear hC7
  have HA7 : Aside0 (∀ o, Below w7.heap.size w7 (w7.alloc o)) := ⟨fun o => below_alloc (Below.refl _ _) o⟩
  go_upto_region 9 with (go_at_call 10; (with_reducible refine (und_aw5l w7).mono ?_); rintro e w8 ⟨v8, rfl, hr8, hb8⟩; have HB8 : Aside0 (Below w7.heap.size w7 w8) := ⟨(HA7.out _).trans (below_from hb8 (HA7.out _).size)⟩; clear hr8 hb8)
  have HB9 : Aside0 (Below w2.heap.size w2 w8) := ⟨HB7.out.trans (below_from HB8.out HB7.out.size)⟩
  have HS9 := Aside0.mk (HS2.out.kept HB9.out)
  have HEND := Aside0.mk (end_any HS9.out)
  rw [aw1_end] at HEND
  have vs1 : (convert 22 9 (.slice A2 7 c2)).run Tryd.prog w8 = .ok (.string (strOfNums [97, 195, 169, 240, 159, 152, 128])) w8 :=
    Kd.C_string (P := Tryd.prog) (c := c2) Tryd.underlying22 Tryd.underlying5 Tryd.underlying9 (own_C (own_far HO2.out HB9.out))
  have z1 : ((strOfNums [97, 195, 169, 240, 159, 152, 128]).toList == [97, 195, 169, 240, 159, 152, 128]) = true := str_eq _ _ (by decide)
  have HV7 : Aside0 (∀ W, Two g1 m1 w8 W → (convert 22 9 (.slice A7 2 c7)).run Tryd.prog W = .ok (.string (strOfNums [10, 255])) W) := ⟨fun W hW =>
    Kd.C_string (P := Tryd.prog) (c := c7) Tryd.underlying22 Tryd.underlying5 Tryd.underlying9 (own_C (own_two (own_far HO7.out HB8.out) hW (blk_lt HS2.out.sc) (blk_lt HS2.out.mt)))⟩
  have z7 : ((strOfNums [10, 255]).toList == [10, 255]) = true := str_eq _ _ (by decide)
  go_wp2_with (go_at_call 11; (with_reducible refine HEND.out.mono ?_); rintro e w9 ⟨rfl, ht9⟩; have HT9 := Aside0.mk ht9; clear ht9; have vs7 := HV7.out w9 HT9.out)
  go_ret
  exact ⟨rfl, HT9.out.fresh (HB2.out.trans (below_from HB9.out HB2.out.size)) HG1.out.1 HG1.out.2⟩
end Go.Proofs.YtonekmigcpgdeaaDoor.Hand
