/- Texts joined: EUtf W0. -/
import Derived.Lib.DecodeN
import Derived.Lib.LaidU8
import Derived.Test.YthilhndejhnlnaaDoorZV14
import Derived.Test.YthilhndejhnlnaaDoorZV17
import Derived.Test.YthilhndejhnlnaaDoorZV24
section
/- Any bytes as UTF-8: the walk of the document's answer. -/
namespace Go.Proofs.YthilhndejhnlnaaDoor.Hand
open Go.RowKit Go.Proofs.YthilhndejhnlnaaDoor.QAll Go.Proofs.YthilhndejhnlnaaDoorW.PrintWords Go.Proofs.YthilhndejhnlnaaDoorW.PrintLast Go.Proofs.YthilhndejhnlnaaDoorW.PrintMore Go.Proofs.YthilhndejhnlnaaDoor.Runes
set_option linter.unusedVariables false
set_option linter.unusedSimpArgs false

/-- How many bytes the sign has, by its first four. -/
def wsN (n b0 b1 b2 b3 : Nat) : Nat :=
  if b0 < 128 then 1 else if 194 ≤ b0 ∧ b0 ≤ 223 then (if 2 ≤ n ∧ 128 ≤ b1 ∧ b1 ≤ 191 then 2 else 0)
  else if 224 ≤ b0 ∧ b0 ≤ 239 then (if 3 ≤ n ∧ (if b0 = 224 then 160 else 128) ≤ b1 ∧ b1 ≤ (if b0 = 237 then 159 else 191) ∧ 128 ≤ b2 ∧ b2 ≤ 191 then 3 else 0)
  else if 240 ≤ b0 ∧ b0 ≤ 244 then (if 4 ≤ n ∧ (if b0 = 240 then 144 else 128) ≤ b1 ∧ b1 ≤ (if b0 = 244 then 143 else 191) ∧ 128 ≤ b2 ∧ b2 ≤ 191 ∧ 128 ≤ b3 ∧ b3 ≤ 191 then 4 else 0)
  else 0
def Tells (k : Nat) (r : Nat × Nat) : Prop := (k = 0 → r = (65533, 1)) ∧ (k ≠ 0 → r.2 = k ∧ (r.1 = 65533 → 2 ≤ k))
theorem tells (n b0 b1 b2 b3 : Nat) (h0 : b0 < 256) (h1 : b1 < 256) (h2 : b2 < 256) (h3 : b3 < 256) : Tells (wsN n b0 b1 b2 b3) (Lib.decodeN n b0 b1 b2 b3) := by
  unfold wsN Lib.decodeN Tells
  by_cases c0 : b0 < 128
  · rw [if_pos c0, if_pos c0]; exact ⟨fun h => by omega, fun _ => ⟨rfl, fun h => by simp only at h; omega⟩⟩
  rw [if_neg c0, if_neg c0]
  by_cases c1 : b0 < 224
  · have e2 : ¬ (224 ≤ b0 ∧ b0 ≤ 239) := by omega
    have e3 : ¬ (240 ≤ b0 ∧ b0 ≤ 244) := by omega
    have e4 : ¬ (b0 / 16 = 14 ∧ (1 < n ∧ b1 / 64 = 2) ∧ (2 < n ∧ b2 / 64 = 2)) := by omega
    have e5 : ¬ (b0 / 8 = 30 ∧ (1 < n ∧ b1 / 64 = 2) ∧ (2 < n ∧ b2 / 64 = 2) ∧ (3 < n ∧ b3 / 64 = 2)) := by omega
    rw [if_neg e2, if_neg e3, if_neg e4, if_neg e5]
    by_cases a : b0 / 32 = 6 ∧ (1 < n ∧ b1 / 64 = 2)
    · rw [if_pos a]
      by_cases b : b0 % 32 * 64 + b1 % 64 ≥ 128
      · rw [if_pos b, if_pos (by omega), if_pos (by omega)]; exact ⟨fun h => by omega, fun _ => ⟨rfl, fun _ => by omega⟩⟩
      · rw [if_neg b, if_neg (by omega)]; exact ⟨fun _ => rfl, fun h => absurd rfl h⟩
    · rw [if_neg a]
      have : ¬ (2 ≤ n ∧ 128 ≤ b1 ∧ b1 ≤ 191) ∨ ¬ (194 ≤ b0 ∧ b0 ≤ 223) := by omega
      rcases this with t | t
      · rw [if_neg t, ite_self]; exact ⟨fun _ => rfl, fun h => absurd rfl h⟩
      · rw [if_neg t]; exact ⟨fun _ => rfl, fun h => absurd rfl h⟩
  have e1 : ¬ (194 ≤ b0 ∧ b0 ≤ 223) := by omega
  have f1 : ¬ (b0 / 32 = 6 ∧ (1 < n ∧ b1 / 64 = 2)) := by omega
  rw [if_neg e1, if_neg f1]
  by_cases c2 : b0 < 240
  · have e3 : 224 ≤ b0 ∧ b0 ≤ 239 := by omega
    have e5 : ¬ (b0 / 8 = 30 ∧ (1 < n ∧ b1 / 64 = 2) ∧ (2 < n ∧ b2 / 64 = 2) ∧ (3 < n ∧ b3 / 64 = 2)) := by omega
    rw [if_pos e3, if_neg e5]
    by_cases a : b0 / 16 = 14 ∧ (1 < n ∧ b1 / 64 = 2) ∧ (2 < n ∧ b2 / 64 = 2)
    · rw [if_pos a]
      by_cases b : b0 % 16 * 4096 + b1 % 64 * 64 + b2 % 64 ≥ 2048 ∧ (b0 % 16 * 4096 + b1 % 64 * 64 + b2 % 64 < 55296 ∨ (57344 ≤ b0 % 16 * 4096 + b1 % 64 * 64 + b2 % 64 ∧ b0 % 16 * 4096 + b1 % 64 * 64 + b2 % 64 ≤ 1114111))
      · rw [if_pos b, if_pos (by split <;> split <;> omega)]; exact ⟨fun h => by omega, fun _ => ⟨rfl, fun _ => by omega⟩⟩
      · rw [if_neg b, if_neg (by split <;> split <;> omega)]; exact ⟨fun _ => rfl, fun h => absurd rfl h⟩
    · rw [if_neg a, if_neg (by split <;> split <;> omega)]; exact ⟨fun _ => rfl, fun h => absurd rfl h⟩
  have e2 : ¬ (224 ≤ b0 ∧ b0 ≤ 239) := by omega
  have f2 : ¬ (b0 / 16 = 14 ∧ (1 < n ∧ b1 / 64 = 2) ∧ (2 < n ∧ b2 / 64 = 2)) := by omega
  rw [if_neg e2, if_neg f2]
  by_cases a : b0 / 8 = 30 ∧ (1 < n ∧ b1 / 64 = 2) ∧ (2 < n ∧ b2 / 64 = 2) ∧ (3 < n ∧ b3 / 64 = 2)
  · rw [if_pos a]
    by_cases b : b0 % 8 * 262144 + b1 % 64 * 4096 + b2 % 64 * 64 + b3 % 64 ≥ 65536 ∧ (b0 % 8 * 262144 + b1 % 64 * 4096 + b2 % 64 * 64 + b3 % 64 < 55296 ∨ (57344 ≤ b0 % 8 * 262144 + b1 % 64 * 4096 + b2 % 64 * 64 + b3 % 64 ∧ b0 % 8 * 262144 + b1 % 64 * 4096 + b2 % 64 * 64 + b3 % 64 ≤ 1114111))
    · rw [if_pos b, if_pos (by omega), if_pos (by split <;> split <;> omega)]; exact ⟨fun h => by omega, fun _ => ⟨rfl, fun _ => by omega⟩⟩
    · rw [if_neg b]
      by_cases c : 240 ≤ b0 ∧ b0 ≤ 244
      · rw [if_pos c, if_neg (by split <;> split <;> omega)]; exact ⟨fun _ => rfl, fun h => absurd rfl h⟩
      · rw [if_neg c]; exact ⟨fun _ => rfl, fun h => absurd rfl h⟩
  · rw [if_neg a]
    by_cases c : 240 ≤ b0 ∧ b0 ≤ 244
    · rw [if_pos c, if_neg (by split <;> split <;> omega)]; exact ⟨fun _ => rfl, fun h => absurd rfl h⟩
    · rw [if_neg c]; exact ⟨fun _ => rfl, fun h => absurd rfl h⟩

theorem tl2 (lo hi : Int) (t : List Int) : tl 2 lo hi t = if 2 ≤ t.length + 1 ∧ lo ≤ t.getD 0 0 ∧ t.getD 0 0 ≤ hi then 2 else 0 := by
  cases t with
  | nil => rfl
  | cons d t => simp [tl]
theorem tl3 (lo hi : Int) (t : List Int) : tl 3 lo hi t = if 3 ≤ t.length + 1 ∧ lo ≤ t.getD 0 0 ∧ t.getD 0 0 ≤ hi ∧ 128 ≤ t.getD 1 0 ∧ t.getD 1 0 ≤ 191 then 3 else 0 := by
  rcases t with _ | ⟨d, _ | ⟨e, t⟩⟩
  · rfl
  · simp [tl]
  · simp [tl, con]
theorem tl4 (lo hi : Int) (t : List Int) : tl 4 lo hi t = if 4 ≤ t.length + 1 ∧ lo ≤ t.getD 0 0 ∧ t.getD 0 0 ≤ hi ∧ 128 ≤ t.getD 1 0 ∧ t.getD 1 0 ≤ 191 ∧ 128 ≤ t.getD 2 0 ∧ t.getD 2 0 ≤ 191 then 4 else 0 := by
  rcases t with _ | ⟨d, _ | ⟨e, _ | ⟨f, t⟩⟩⟩
  · rfl
  · simp [tl]
  · simp [tl]
  · simp [tl, con, and_assoc]
theorem wsign_wsN (l : List Int) (hne : l ≠ []) (hb : ∀ x ∈ l, 0 ≤ x ∧ x < 256) : wsign l = (wsN l.length (l.getD 0 0).toNat (l.getD 1 0).toNat (l.getD 2 0).toNat (l.getD 3 0).toNat : Nat) := by
  have nn : ∀ j, ∃ m : Nat, l.getD j 0 = m := by
    intro j
    by_cases h : j < l.length
    · have := hb _ (List.getElem_mem h)
      rw [List.getD_eq_getElem?_getD, List.getElem?_eq_getElem h]; exact Int.eq_ofNat_of_zero_le this.1
    · rw [List.getD_eq_getElem?_getD, List.getElem?_eq_none (by omega)]; exact ⟨0, rfl⟩
  obtain ⟨b0, h0⟩ := nn 0
  obtain ⟨b1, h1⟩ := nn 1
  obtain ⟨b2, h2⟩ := nn 2
  obtain ⟨b3, h3⟩ := nn 3
  rw [h0, h1, h2, h3]
  simp only [Int.toNat_natCast]
  cases l with
  | nil => exact absurd rfl hne
  | cons c t =>
    simp only [List.getD_cons_zero, List.getD_cons_succ] at h0 h1 h2 h3
    simp only [wsign, tl2, tl3, tl4, List.length_cons]
    rw [h0, h1, h2, h3]
    unfold wsN
    by_cases k0 : b0 < 128
    · rw [if_pos k0, if_pos (by omega)]; rfl
    rw [if_neg k0, if_neg (by omega)]
    by_cases k1 : 194 ≤ b0 ∧ b0 ≤ 223
    · rw [if_pos k1, if_pos (by omega)]
      by_cases q : 2 ≤ t.length + 1 ∧ 128 ≤ b1 ∧ b1 ≤ 191
      · rw [if_pos q, if_pos (by omega)]; rfl
      · rw [if_neg q, if_neg (by omega)]; rfl
    rw [if_neg k1, if_neg (by omega)]
    by_cases k2 : 224 ≤ b0 ∧ b0 ≤ 239
    · rw [if_pos k2, if_pos (by omega)]
      obtain ⟨lo, hlo⟩ : ∃ lo, (if b0 = 224 then 160 else 128) = lo := ⟨_, rfl⟩
      obtain ⟨hi, hhi⟩ : ∃ hi, (if b0 = 237 then 159 else 191) = hi := ⟨_, rfl⟩
      have e1 : (if (b0 : Int) = 224 then (160 : Int) else 128) = (lo : Nat) := by rw [← hlo]; by_cases a : b0 = 224 <;> simp [a] <;> omega
      have e2 : (if (b0 : Int) = 237 then (159 : Int) else 191) = (hi : Nat) := by rw [← hhi]; by_cases a : b0 = 237 <;> simp [a] <;> omega
      rw [e1, e2, hlo, hhi]
      by_cases q : 3 ≤ t.length + 1 ∧ lo ≤ b1 ∧ b1 ≤ hi ∧ 128 ≤ b2 ∧ b2 ≤ 191
      · rw [if_pos q, if_pos (by omega)]; rfl
      · rw [if_neg q, if_neg (by omega)]; rfl
    rw [if_neg k2, if_neg (by omega)]
    by_cases k3 : 240 ≤ b0 ∧ b0 ≤ 244
    · rw [if_pos k3, if_pos (by omega)]
      obtain ⟨lo, hlo⟩ : ∃ lo, (if b0 = 240 then 144 else 128) = lo := ⟨_, rfl⟩
      obtain ⟨hi, hhi⟩ : ∃ hi, (if b0 = 244 then 143 else 191) = hi := ⟨_, rfl⟩
      have e1 : (if (b0 : Int) = 240 then (144 : Int) else 128) = (lo : Nat) := by rw [← hlo]; by_cases a : b0 = 240 <;> simp [a] <;> omega
      have e2 : (if (b0 : Int) = 244 then (143 : Int) else 191) = (hi : Nat) := by rw [← hhi]; by_cases a : b0 = 244 <;> simp [a] <;> omega
      rw [e1, e2, hlo, hhi]
      by_cases q : 4 ≤ t.length + 1 ∧ lo ≤ b1 ∧ b1 ≤ hi ∧ 128 ≤ b2 ∧ b2 ≤ 191 ∧ 128 ≤ b3 ∧ b3 ≤ 191
      · rw [if_pos q, if_pos (by omega)]; rfl
      · rw [if_neg q, if_neg (by omega)]; rfl
    rw [if_neg k3, if_neg (by omega)]; rfl

/-- Bytes as a string. -/
def bs (l : List Int) : ByteArray := ⟨(l.map fun x => UInt8.ofNat x.toNat).toArray⟩
theorem bs_size (l : List Int) : (bs l).size = l.length := by unfold bs; rw [ByteArray.size]; simp
theorem bs_get (l : List Int) (hb : ∀ x ∈ l, 0 ≤ x ∧ x < 256) (j : Nat) : ((bs l).get! j).toNat = (l.getD j 0).toNat := by
  by_cases h : j < l.length
  · rw [Utf8W.get!_of_lt (bs l) j (by rw [bs_size]; exact h)]
    have := hb _ (List.getElem_mem h)
    rw [List.getD_eq_getElem?_getD, List.getElem?_eq_getElem h]
    have e : (bs l)[j]'(by rw [bs_size]; exact h) = UInt8.ofNat (l[j]).toNat := by
      show ((l.map fun x => UInt8.ofNat x.toNat).toArray)[j]'(by simpa using h) = _
      rw [List.getElem_toArray, List.getElem_map]
    rw [e, UInt8.toNat_ofNat']
    simp only [Option.getD_some]
    omega
  · rw [List.getD_eq_getElem?_getD, List.getElem?_eq_none (by omega)]
    have : (bs l).get! j = default := by
      show (bs l).data[j]! = default
      exact getElem!_neg _ _ (by have := bs_size l; rw [ByteArray.size] at this; omega)
    rw [this]; rfl
theorem dec_tells (l : List Int) (hne : l ≠ []) (hb : ∀ x ∈ l, 0 ≤ x ∧ x < 256) : ∃ k : Nat, wsign l = k ∧ Tells k (Lib.decodeGo (bs l)) := by
  refine ⟨_, wsign_wsN l hne hb, ?_⟩
  have hp : l.length ≠ 0 := fun h => hne (List.eq_nil_of_length_eq_zero h)
  have hd : Lib.decodeGo (bs l) = Lib.decodeN l.length (l.getD 0 0).toNat (l.getD 1 0).toNat (l.getD 2 0).toNat (l.getD 3 0).toNat := by
    unfold Lib.decodeGo
    rw [bs_size, if_neg hp, Lib.decode_at, bs_size, bs_get l hb, bs_get l hb, bs_get l hb, bs_get l hb]; rfl
  have lt : ∀ j, (l.getD j 0).toNat < 256 := by
    intro j
    by_cases h : j < l.length
    · have := hb _ (List.getElem_mem h)
      rw [List.getD_eq_getElem?_getD, List.getElem?_eq_getElem h]; simp; omega
    · rw [List.getD_eq_getElem?_getD, List.getElem?_eq_none (by omega)]; decide
  rw [hd]
  exact tells _ _ _ _ _ (lt 0) (lt 1) (lt 2) (lt 3)
/-- Go's own tables for the first bytes of signs. -/
def Tabs (w : World) : Prop := Lib.Utf8Tabs 0 1 w
theorem Tabs.below {w w' : World} (h : Tabs w) (hb : Below w.heap.size w w') : Tabs w' :=
  ⟨fun c hc => pw_cell_below hb (h.1 c hc), fun i hi => ⟨pw_cell_below hb (h.2 i hi).1, pw_cell_below hb (h.2 i hi).2⟩⟩
theorem decode_any (l : List Int) (hne : l ≠ []) (hb : ∀ x ∈ l, 0 ≤ x ∧ x < 256) (A : Option Addr) (c : Nat) (w : World) (hT : Tabs w) (hr : Kd.C (Kd.int .u8) w A l.length l) :
    Calls Tryd.prog 37 #[.slice A l.length c] w fun e w' => e = .returned (.tuple #[.int .i32 ((Lib.decodeGo (bs l)).1 : Int), .int .i64 ((Lib.decodeGo (bs l)).2 : Int)]) ∧ Below w.heap.size w w' := by
  have hR := Kd.reads_of_C (enc := Value.int .u8) (d := (0 : Int)) (h1 := fun _ => rfl) hr
  have hp : 0 < l.length := List.length_pos_iff.2 hne
  obtain ⟨ad, rfl, hc⟩ := hR.2.2 hp
  have h0 := hc 0 hp
  obtain ⟨b, off, sp⟩ := ad
  have hsp : sp = none := cell_spot (show w.cell? ⟨b, off, sp⟩ = _ from h0)
  subst hsp
  have := Any7.utf8_DecodeRune Tryd.lays32 (bs l) b off c w hT (fun j hj => by
    rw [bs_size] at hj
    have h := hc j hj
    have e : (⟨b, off, none⟩ : Addr).add j = ⟨b, off + j, none⟩ := by
      unfold Addr.add; split
      · subst_vars; rfl
      · rfl
    rw [e] at h
    rw [h, bs_get l hb j]
    have hx := hb _ (List.getElem_mem hj)
    rw [List.getD_eq_getElem?_getD, List.getElem?_eq_getElem hj]
    simp only [Option.getD_some]
    rw [Int.toNat_of_nonneg hx.1])
  rw [bs_size] at this
  exact this
theorem cut_drop (A : Option Addr) (c : Nat) (L : List Int) (a : Nat) (y : List Int) (hy : L.drop a = y) (ha : a ≤ L.length) (hc : L.length ≤ c) :
    ∃ (A' : Option Addr) (c' : Nat), (∀ W : World, (Instr.slice 22 (.slice A L.length c) (some (.int .i64 (a : Int))) none none).run Tryd.prog W = .ok (.slice A' y.length c') W) ∧
      (∀ w : World, Kd.C (Kd.int .u8) w A L.length L → Kd.C (Kd.int .u8) w A' y.length y) ∧ y.length ≤ c' := by
  subst hy
  obtain ⟨i0, hi, _, hsz, _⟩ := info_parts info5
  obtain ⟨A', h1, h2, h3⟩ := print_drop_of (P := Tryd.prog) (Value.int .u8) (0 : Int) 22 5 .i64 Tryd.underlying22 hi hsz A c L (a : Int) (by omega) (by omega) hc
  exact ⟨A', _, h1, fun w hr => Kd.C_of_reads (h1 := fun _ => rfl) (h2 w (Kd.reads_of_C hr)), h3⟩

/-- What stands at the head of a round. -/
def TRound (w : World) (l : List Int) (R : Option Nat) (v3 : Value) (wr : World) : Prop :=
  ∃ k m : Nat, v3 = .int .i64 k ∧ k ≤ l.length ∧ l.length - k ≤ m ∧ (U m (l.drop k)).map (· + k) = R ∧ Below w.heap.size w wr
set_option maxHeartbeats 3200000 in
theorem refutf8_any (A : Option Addr) (c : Nat) (l : List Int) (w : World) (hT : Tabs w) (hr : Kd.C (Kd.int .u8) w A l.length l) (hc : l.length ≤ c) (hb : ∀ x ∈ l, 0 ≤ x ∧ x < 256) (hl : l.length ≤ 100000) (m0 : Nat) (hm0 : l.length ≤ m0) (x : Int) (hx : at_ (U m0 l) = x) :
    Calls Tryd.prog 36 #[.slice A l.length c] w fun e w' => e = .returned (.int .i64 x) ∧ Below w.heap.size w w' := by
  have HT := Aside0.mk hT
  have HR := Aside0.mk hr
  have HC := Aside0.mk hc
  have HY := Aside0.mk hb
  have HL := Aside0.mk hl
  obtain ⟨R, hR⟩ : ∃ R, U m0 l = R := ⟨_, rfl⟩
  rw [hR] at hx
  have HX := Aside0.mk hx
  have HSTART : Aside0 (TRound w l R (.int .i64 0) w) := ⟨⟨0, m0, rfl, Nat.zero_le _, by omega, by rw [List.drop_zero, hR]; cases R <;> simp, Below.refl _ _⟩⟩
  clear hT hr hc hb hl hx hR hm0
  go_enter Tryd.func36, Tryd.ntmps36
  go_wp2
  go_loopw [3] (fun v3 wr => TRound w l R v3 wr) (fun v3 _ => l.length - (intOf v3).toNat)
  case atStart => exact HSTART.out
  case round =>
    obtain ⟨k, m, rfl, hk, hm, hR, hB⟩ := hrel
    have HB := Aside0.mk hB
    have HK := Aside0.mk hk
    have HM := Aside0.mk hm
    have HRR := Aside0.mk hR
    clear hB hk hm hR
    by_cases hlt : k < l.length
    · obtain ⟨y, hy⟩ : ∃ y, l.drop k = y := ⟨_, rfl⟩
      have hne : y ≠ [] := by rw [← hy]; intro h; have := congrArg List.length h; rw [List.length_drop] at this; simp at this; omega
      have hyb : ∀ x ∈ y, 0 ≤ x ∧ x < 256 := by rw [← hy]; exact fun x hx => HY.out x (List.mem_of_mem_drop hx)
      obtain ⟨A', c', t1, t2, t3⟩ := cut_drop A c l k y hy (by omega) HC.out
      obtain ⟨s, hs, htell⟩ := dec_tells y hne hyb
      have hyl : y.length = l.length - k := by rw [← hy, List.length_drop]
      have hsl : s ≤ y.length := by have := wsign_le y; omega
      obtain ⟨m, rfl⟩ : ∃ q, m = q + 1 := ⟨m - 1, by have := HM.out; omega⟩
      have hU : U (m + 1) y = if s = 0 then some 0 else (U m (y.drop s)).map (· + s) := by
        cases y with
        | nil => exact absurd rfl hne
        | cons a t =>
          simp only [U]; rw [hs]
          by_cases h0 : s = 0
          · subst h0; simp
          · rw [if_neg (by omega), if_neg h0, Int.toNat_natCast]
      have HRy := Aside0.mk (decode_any y hne hyb A' c' wr (HT.out.below HB.out) (t2 wr (Kd.C_below HR.out HB.out)))
      have hRk := HRR.out
      rw [hy, hU] at hRk
      have HSL := Aside0.mk (And.intro hsl hyl)
      have HDROP : Aside0 (y.drop s = l.drop (k + s)) := ⟨by rw [← hy, List.drop_drop]⟩
      have d0 : decide (k < l.length) = true := decide_eq_true hlt
      have d0' : decide ((k : Int) < (l.length : Int)) = true := decide_eq_true (by omega)
      by_cases h0 : s = 0
      · subst h0
        have hd := htell.1 rfl
        rw [hd] at HRy
        rw [if_pos rfl] at hRk
        have HXK : Aside0 (x = (k : Int)) := ⟨by rw [← HX.out, ← hRk]; simp [at_]⟩
        clear hRk htell hd hs hne hyb hy hU hyl hsl t2 t3
        go_wp2_with (go_at_call 37; (with_reducible refine HRy.out.mono ?_); rintro e w2 ⟨rfl, hb⟩; have HB2 := Aside0.mk hb; clear hb)
        go_ret
        exact ⟨by rw [HXK.out]; rfl, below_then HB.out HB.out.size HB2.out⟩
      · rw [if_neg h0] at hRk
        obtain ⟨hn, h2⟩ := htell.2 h0
        obtain ⟨r, hr⟩ : ∃ r, (Lib.decodeGo (bs y)).1 = r := ⟨_, rfl⟩
        rw [hn, hr] at HRy
        rw [hr] at h2
        have HREL : Aside0 ((U m (l.drop (k + s))).map (· + (k + s)) = R) := ⟨by
          rw [← hRk, HDROP.out]
          cases U m (l.drop (k + s)) with
          | none => rfl
          | some q => simp; omega⟩
        have HS0 : Aside0 (0 < s) := ⟨by omega⟩
        have wr1 : IntKind.i64.wrap ((k : Int) + (s : Int)) = (k : Int) + (s : Int) := by rw [IntKind.wrap_i64]; have := HL.out; omega
        have two : ((r : Int) == 65533) = false ∨ (((r : Int) == 65533) = true ∧ decide ((s : Int) ≤ 1) = false) := by
          by_cases e : r = 65533
          · have := h2 e; right; subst e; exact ⟨by decide, decide_eq_false (by omega)⟩
          · left; simp; omega
        clear hRk h2 hn hr htell hs hne hyb hy hU hyl hsl t2 t3 h0
        rcases two with p1 | ⟨p1, p2⟩
        all_goals
          go_wp2_with (go_at_call 37; (with_reducible refine HRy.out.mono ?_); rintro e w2 ⟨rfl, hb⟩; have HB2 := Aside0.mk hb; clear hb)
          go_roundw
          case rel => exact ⟨k + s, m, by go_num, by have := HSL.out; omega, by have := HM.out; have := HS0.out; omega, HREL.out, below_then HB.out HB.out.size HB2.out⟩
          case measure => have := HS0.out; have := HSL.out; simp [intOf]; omega
    · have d0 : decide (k < l.length) = false := decide_eq_false hlt
      have d0' : decide ((k : Int) < (l.length : Int)) = false := decide_eq_false (by omega)
      have HXK : Aside0 (x = -1) := ⟨by
        rw [← HX.out, ← HRR.out, List.drop_of_length_le (by omega)]
        cases m <;> rfl⟩
      go_wp2_with (fail)
      go_ret
      exact ⟨by rw [HXK.out]; rfl, HB.out⟩

end Go.Proofs.YthilhndejhnlnaaDoor.Hand
end

section
/- The document's Text: is all of it UTF-8: the walk. -/
namespace Go.Proofs.YthilhndejhnlnaaDoor.Hand
open Go.RowKit Go.Proofs.YthilhndejhnlnaaDoor.QAll Go.Proofs.YthilhndejhnlnaaDoorW.PrintWords Go.Proofs.YthilhndejhnlnaaDoorW.PrintLast Go.Proofs.YthilhndejhnlnaaDoorW.PrintMore Go.Proofs.YthilhndejhnlnaaDoor.Runes
set_option linter.unusedVariables false
set_option linter.unusedSimpArgs false
set_option maxHeartbeats 800000 in
theorem reftext_any (A : Option Addr) (c : Nat) (l : List Int) (w : World) (hT : Tabs w) (hr : Kd.C (Kd.int .u8) w A l.length l) (hc : l.length ≤ c) (hb : ∀ x ∈ l, 0 ≤ x ∧ x < 256) (hl : l.length ≤ 100000) (v : Bool) (hv : v = (U l.length l).isNone) :
    Calls Tryd.prog 29 #[.slice A l.length c] w fun e w' => e = .returned (.bool v) ∧ Below w.heap.size w w' := by
  obtain ⟨x, hx⟩ : ∃ x, at_ (U l.length l) = x := ⟨_, rfl⟩
  have HU := Aside0.mk (refutf8_any A c l w hT hr hc hb hl l.length (Nat.le_refl _) x hx)
  have hd : decide (x < 0) = v := by
    rw [← hx, hv]
    cases U l.length l with
    | none => rfl
    | some p => show decide ((p : Int) < 0) = false; exact decide_eq_false (by omega)
  clear hx hT hr hc hb hl hv
  go_enter Tryd.func29, Tryd.ntmps29
  go_wp2_with (go_at_call 36; (with_reducible refine HU.out.mono ?_); rintro e w2 ⟨rfl, hb⟩; have HB2 := Aside0.mk hb; clear hb)
  go_ret
  exact ⟨by first | rfl | rw [hd] | simp [hd], HB2.out⟩
end Go.Proofs.YthilhndejhnlnaaDoor.Hand
end
