/- Texts joined: C0 C1 C2 C3. -/
import Derived.StillTailTactics
import Derived.Deep.RegionHeld3
import Derived.BigQuiet
import Derived.Deep.QuietTactic
import Derived.Test.YtjgjidehlldfhaaZC19
import Derived.Test.YtjgjidehlldfhaaZC20
import Derived.Test.YtjgjidehlldfhaaZC21
section
/- Layer 8, capread: how a message is gone through, in plain Lean: words, pointers, what is reached, steps of a meter. -/
namespace Go.Proofs.Ytjgjidehlldfhaa.Hand
open Go.RowKit Go.Proofs.Ytjgjidehlldfhaa.QAll Go.Proofs.YtjgjidehlldfhaaW.PrintWords Go.Proofs.YtjgjidehlldfhaaW.PrintLast Go.Proofs.YtjgjidehlldfhaaW.PrintMore Go.Proofs.Ytjgjidehlldfhaa.Nums Go.Proofs.Ytjgjidehlldfhaa.Runes
set_option linter.unusedVariables false
set_option linter.unusedSimpArgs false

/-- A pointer. -/
structure Ptr where
  null : Bool
  list : Bool
  pos : Int
  data : Int
  ptrs : Int
  code : Int
  count : Int
/-- What was reached, and what is left of a meter. -/
structure Mt where
  reached : Int
  left : Int
  out : Bool
/-- A struct in words. -/
structure S72 where
  f0 : Int
  f1 : Int
  f2 : List Int
def z72 : S72 := ⟨0, 0, []⟩
def k72 : Kd S72 := Kd.iso (Kd.pair (Kd.int .i64) (Kd.pair (Kd.int .i64) (Kd.slice 3 (Kd.int .i64)))) (fun x : S72 => (x.f0, x.f1, x.f2))
theorem k72_open {w : World} {x : S72} {cs : List Value} (h : k72.K w x cs) : ∃ A1 c1, cs = [.int .i64 x.f0, .int .i64 x.f1, .slice A1 x.f2.length c1] ∧ x.f2.length ≤ c1 ∧ (Kd.int .i64).C w A1 x.f2.length x.f2 := by
  obtain ⟨_, _, rfl, rfl, ⟨_, _, rfl, rfl, ⟨A1, c1, rfl, l1, g1⟩⟩⟩ := h
  exact ⟨A1, c1, rfl, l1, g1⟩
theorem k72_mkM (w : World) (base : Nat) (ok : Nat → Prop) (x : S72) {v1 : Value} (g1 : (Kd.int .i64).R 3 w base ok v1 x.f2) : k72.M w base ok x [.int .i64 x.f0, .int .i64 x.f1, v1] := ⟨[.int .i64 x.f0], [.int .i64 x.f1, v1], rfl, rfl, ⟨[.int .i64 x.f1], [v1], rfl, rfl, ⟨v1, rfl, g1⟩⟩⟩
def rd_T72 (xs : List S72) (i : Int) : S72 := xs.getD i.toNat z72
theorem at_T72 {w : World} {A : Option Addr} {n : Nat} {xs : List S72} (h : Kd.C k72 w A n xs) (i : Int) (h0 : 0 ≤ i) (h1 : i < n) : ∃ ad A1 c1, A = some ad ∧ w.cell? (ad.add (i.toNat * 3)) = some (.int .i64 (rd_T72 xs i).f0) ∧ w.cell? ⟨(ad.add (i.toNat * 3)).block, (ad.add (i.toNat * 3)).off + 1, none⟩ = some (.int .i64 (rd_T72 xs i).f1) ∧ w.cell? ⟨(ad.add (i.toNat * 3)).block, (ad.add (i.toNat * 3)).off + 2, none⟩ = some (.slice A1 (rd_T72 xs i).f2.length c1) ∧ (rd_T72 xs i).f2.length ≤ c1 ∧ (Kd.int .i64).C w A1 (rd_T72 xs i).f2.length (rd_T72 xs i).f2 := by
  obtain ⟨ad, c, e, _, hK, hc0⟩ := Kd.C_get h z72 i h0 h1
  have hc : ∀ j u, c[j]? = some u → w.cell? (ad.add (i.toNat * 3 + j)) = some u := hc0
  obtain ⟨A1, c1, rfl, l1, g1⟩ := k72_open hK
  exact ⟨ad, A1, c1, e, hc 0 _ rfl, by rw [← add_field _ _ 1 (by omega)]; exact hc 1 _ rfl, by rw [← add_field _ _ 2 (by omega)]; exact hc 2 _ rfl, l1, g1⟩

def szB (k : Int) : Int := if k = 1 ∨ k = 2 ∨ k = 6 ∨ k = 10 then 1 else if k = 3 ∨ k = 7 then 2 else if k = 4 ∨ k = 8 then 4 else if k = 5 ∨ k = 9 then 8 else 0
theorem size_f (c : Int) : wire_Size.f 6 c = some (szB c) := by
  by_cases h : 1 ≤ c ∧ c ≤ 10
  · have key : ∀ n : Fin 11, wire_Size.f 6 (n.val : Int) = some (szB (n.val : Int)) := by decide +kernel
    obtain ⟨m, rfl⟩ := Int.eq_ofNat_of_zero_le (show 0 ≤ c by omega)
    exact key ⟨m, by omega⟩
  · have n1 : c ≠ 1 := by omega
    have n2 : c ≠ 2 := by omega
    have n3 : c ≠ 3 := by omega
    have n4 : c ≠ 4 := by omega
    have n5 : c ≠ 5 := by omega
    have n6 : c ≠ 6 := by omega
    have n7 : c ≠ 7 := by omega
    have n8 : c ≠ 8 := by omega
    have n9 : c ≠ 9 := by omega
    have n10 : c ≠ 10 := by omega
    simp [wire_Size.f, wire_Size.j0, wire_Size.j1, wire_Size.j2, wire_Size.j3, szB, n1, n2, n3, n4, n5, n6, n7, n8, n9, n10]
theorem szB_or (c : Int) : szB c = 0 ∨ szB c = 1 ∨ szB c = 2 ∨ szB c = 4 ∨ szB c = 8 := by
  unfold szB; split; omega; split; omega; split; omega; split <;> omega
/-- How many bits a kind's numbers have in words. -/
def bitsM (k : Int) : Int := if k = 1 then 1 else if k = 10 then 16 else 8 * szB k
theorem bits_f (c : Int) : layout_Bits.f 6 c = some (bitsM c) := by
  unfold layout_Bits.f bitsM
  split
  · rfl
  split
  · rfl
  rw [size_f]
  simp only [Option.bind_some, Option.some.injEq]
  unfold wrap64
  rcases szB_or c with e | e | e | e | e <;> rw [e] <;> omega
theorem bitsM_or (c : Int) : bitsM c = 0 ∨ bitsM c = 1 ∨ bitsM c = 8 ∨ bitsM c = 16 ∨ bitsM c = 32 ∨ bitsM c = 64 := by
  unfold bitsM
  rcases szB_or c with e | e | e | e | e <;> rw [e] <;> split <;> (try split) <;> omega
def numberM (f : S29) : Bool := decide (f.f1.f2 = 0) && decide (0 < bitsM f.f1.f0)
theorem number_f (f : S29) : layout_number.f 6 f.f0 f.f1.f0 f.f1.f1 f.f1.f2 f.f2 = some (numberM f) := by
  unfold layout_number.f numberM
  split
  · rename_i h
    rw [bits_f]; simp [h]
  · rename_i h
    simp [h]
/-- A text's bytes: are they signs one behind the other? -/
def textB (l : List Int) : Bool := decide (at_ (U l.length l) < 0)
/-- A word; 0 where there is none. -/
def wordM (b : List Int) (i : Int) : Int := (loadV b (8 * i) 8).1
theorem wordM_bound (b : List Int) (hb : ∀ x ∈ b, 0 ≤ x ∧ x < 256) (i : Int) : 0 ≤ wordM b i ∧ wordM b i < 18446744073709551616 := by
  unfold wordM loadV
  split
  · have h := leN_bound ((b.drop (8 * i).toNat).take (8 : Int).toNat) (fun x hx => hb x (List.mem_of_mem_drop (List.mem_of_mem_take hx)))
    refine ⟨h.1, Int.lt_of_lt_of_le h.2 ?_⟩
    have hl : ((b.drop (8 * i).toNat).take (8 : Int).toNat).length ≤ 8 := by rw [List.length_take]; exact Nat.min_le_left _ _
    have : (256 : Nat) ^ ((b.drop (8 * i).toNat).take (8 : Int).toNat).length ≤ 256 ^ 8 := Nat.pow_le_pow_right (by decide) hl
    calc (256 : Int) ^ ((b.drop (8 * i).toNat).take (8 : Int).toNat).length = ((256 ^ ((b.drop (8 * i).toNat).take (8 : Int).toNat).length : Nat) : Int) := (Int.natCast_pow 256 _).symm
      _ ≤ ((256 ^ 8 : Nat) : Int) := Int.ofNat_le.2 this
      _ = 18446744073709551616 := by decide
  · exact ⟨Int.le_refl _, by decide⟩
/-- A pointer's offset. -/
def lowM (w : Int) : Int := ((w + 2147483648) % 4294967296 - 2147483648) / 4
theorem lowM_bound (w : Int) : -536870912 ≤ lowM w ∧ lowM w < 536870912 := by unfold lowM; omega
/-- How many words a list has. -/
def sizeM (code count : Int) : Int :=
  if code = 0 then 0 else if code = 1 then (count + 63) / 64 else if code = 2 then (count + 7) / 8 else if code = 3 then (count * 2 + 7) / 8 else if code = 4 then (count * 4 + 7) / 8 else if code = 7 then count + 1 else count
def nullP : Ptr := ⟨true, false, 0, 0, 0, 0, 0⟩
def noneP : Ptr := ⟨false, false, 0, 0, 0, 0, 0⟩
def pointerM (words w i : Int) : Ptr × Bool :=
  if w = 0 then (nullP, true)
  else if 1 < w % 4 ∨ i + 1 + lowM w < 0 ∨ words < i + 1 + lowM w then (noneP, false)
  else if w % 4 = 1 then (⟨false, true, i + 1 + lowM w, 0, 0, w / 4294967296 % 8, w / 34359738368⟩, decide (i + 1 + lowM w + sizeM (w / 4294967296 % 8) (w / 34359738368) ≤ words))
  else (⟨false, false, i + 1 + lowM w, w / 4294967296 % 65536, w / 281474976710656, 0, 0⟩, decide (i + 1 + lowM w + w / 4294967296 % 65536 + w / 281474976710656 ≤ words))
def takeM (n : Int) (s : Mt) : Bool × Mt := if s.out = true then (false, s) else if s.left < n then (false, ⟨s.reached, 0, true⟩) else (true, ⟨s.reached, s.left - n, false⟩)
def reachM (words n : Int) (s : Mt) : Bool × Mt :=
  if s.reached + max n 1 ≤ words then takeM (max n 1) ⟨s.reached + max n 1, s.left, s.out⟩ else (false, ⟨s.reached + max n 1, s.left, s.out⟩)
/-- One behind the other, as long as it is right. -/
def allM (f : Int → Mt → Bool × Mt) : Nat → Int → Mt → Bool × Mt
  | 0, _, s => (true, s)
  | n + 1, i, s => if (f i s).1 = true then allM f n (i + 1) (f i s).2 else (false, (f i s).2)
/-- A number, of a word's bits. -/
def valueM (k raw : Int) : Int := (capread_value.f 10 k raw).getD 0
theorem value_f (k raw : Int) : capread_value.f 10 k raw = some (valueM k raw) := by
  have : (capread_value.f 10 k raw).isSome = true := by
    unfold capread_value.f
    rw [at_rounds (fun k' => layout_Bits.mono k k') (show 6 ≤ 10 by decide) (bits_f k)]
    simp only [Option.bind_some]
    have key : ∀ x y, (capread_value.j0 10 k x y).isSome = true := by
      intro x y
      have hs : ∃ b2, wire_Sign.f k = some b2 := by unfold wire_Sign.f; split <;> exact ⟨_, rfl⟩
      obtain ⟨b2, h2⟩ := hs
      have hg : ∀ z, ∃ u, wire_Signed.f x z = some u := by
        intro z
        unfold wire_Signed.f
        split
        · exact ⟨_, rfl⟩
        split
        · exact ⟨_, rfl⟩
        split <;> exact ⟨_, rfl⟩
      obtain ⟨u, hu⟩ := hg (wrap64 (Int.tdiv y 8))
      simp only [capread_value.j0, h2, hu, Option.bind_some]
      cases b2 <;> rfl
    have h0 : 0 ≤ bitsM k := by rcases bitsM_or k with e | e | e | e | e | e <;> omega
    rw [if_pos h0]
    split <;> exact key _ _
  unfold valueM
  cases h : capread_value.f 10 k raw with
  | none => rw [h] at this; simp at this
  | some b => rfl
/-- A struct's number. -/
def numM (b : List Int) (kd df pos data bit : Int) : Int :=
  valueM kd (Go.bits .xor .u64 (if bit + bitsM kd ≤ 64 * data then wordM b (pos + bit / 64) / 2 ^ (bit % 64).toNat else 0) df)
/-- A list's number. -/
def elemM (b : List Int) (kd pos i : Int) : Int := valueM kd (wordM b (pos + i * bitsM kd / 64) / 2 ^ (i * bitsM kd % 64).toNat)
/-- How many names an enum has. -/
def namesM (en : List S83) (rf : Int) : Int := ((rd_T83 en rf).f1.length : Int)
abbrev Tgt := S26 → Int → Mt → Bool × Mt
/-- Are a struct's fields right? -/
def fieldsM (en : List S83) (b : List Int) (tgt : Tgt) (pos data ptrs : Int) : List (S29 × Int) → Mt → Bool × Mt
  | [], s => (true, s)
  | (f, j) :: t, s =>
    if (takeM 1 s).1 = false then (false, (takeM 1 s).2)
    else if 0 < f.f1.f2 ∨ szB f.f1.f0 = 0 then
      if j < ptrs then (if (tgt f.f1 (pos + data + j) (takeM 1 s).2).1 = true then fieldsM en b tgt pos data ptrs t (tgt f.f1 (pos + data + j) (takeM 1 s).2).2 else (false, (tgt f.f1 (pos + data + j) (takeM 1 s).2).2))
      else fieldsM en b tgt pos data ptrs t (takeM 1 s).2
    else if f.f1.f0 = 10 ∧ namesM en f.f1.f1 ≤ numM b f.f1.f0 f.f2 pos data j then (false, (takeM 1 s).2)
    else fieldsM en b tgt pos data ptrs t (takeM 1 s).2
/-- What is read: a schema, its structs in words, a message's bytes. -/
structure Msg where
  st : List S32
  en : List S83
  root : Int
  rows : List S72
  b : List Int
  words : Int
def Msg.fs (X : Msg) (k : Int) : List (S29 × Int) := (rd_T32 X.st k).f1.zip (rd_T72 X.rows k).f2
def recordM (X : Msg) (d : Nat) (tgt : Tgt) (pos data ptrs k : Int) (s : Mt) : Bool × Mt :=
  if d = 0 then (false, s) else if (reachM X.words (data + ptrs) s).1 = true then fieldsM X.en X.b tgt pos data ptrs (X.fs k) (reachM X.words (data + ptrs) s).2 else (false, (reachM X.words (data + ptrs) s).2)
def codeM (t : S26) : Int :=
  if 0 < t.f2 ∨ t.f0 = 11 ∨ t.f0 = 12 then 6 else if t.f0 = 13 then 7
  else if bitsM t.f0 = 1 then 1 else if bitsM t.f0 = 8 then 2 else if bitsM t.f0 = 16 then 3 else if bitsM t.f0 = 32 then 4 else if bitsM t.f0 = 64 then 5 else 0
/-- A list of structs by its tag: how many, how many words of numbers and of pointers each; false: they don't fill its words. -/
def tagM (w count : Int) : Int × Int × Int × Bool :=
  (w % 4294967296 / 4, w / 4294967296 % 65536, w / 281474976710656,
    decide (w % 4 = 0) && decide (w % 4294967296 / 4 < 536870912) && decide (w % 4294967296 / 4 * (w / 4294967296 % 65536 + w / 281474976710656) = count))
/-- Are a list's elements right? t: the elements' type. -/
def elementsM (X : Msg) (d : Nat) (T1 T2 : Tgt) (t : S26) (p : Ptr) (s : Mt) : Bool × Mt :=
  if p.code ≠ codeM t ∨ d < 1 ∧ p.code ≠ 7 ∧ 0 < p.count then (false, s)
  else if p.code = 6 then
    if (reachM X.words p.count s).1 = true then allM (fun i s => T1 t (p.pos + i) s) p.count.toNat 0 (reachM X.words p.count s).2 else (false, (reachM X.words p.count s).2)
  else if p.code = 7 then
    let g := tagM (wordM X.b p.pos) p.count
    if g.2.2.2 = false ∨ d < 1 ∧ 0 < g.1 then (false, s)
    else if (reachM X.words (1 + g.1 * max (g.2.1 + g.2.2.1) 1) s).1 = true then
      allM (fun i s => if d < 2 then (false, s) else fieldsM X.en X.b T2 (p.pos + 1 + i * (g.2.1 + g.2.2.1)) g.2.1 g.2.2.1 (X.fs t.f1) s) g.1.toNat 0 (reachM X.words (1 + g.1 * max (g.2.1 + g.2.2.1) 1) s).2
    else (false, (reachM X.words (1 + g.1 * max (g.2.1 + g.2.2.1) 1) s).2)
  else if (reachM X.words ((p.count * bitsM t.f0 + 63) / 64) s).1 = true then
    if t.f0 = 10 then allM (fun i s => (decide (elemM X.b t.f0 p.pos i < namesM X.en t.f1), s)) p.count.toNat 0 (reachM X.words ((p.count * bitsM t.f0 + 63) / 64) s).2
    else (true, (reachM X.words ((p.count * bitsM t.f0 + 63) / 64) s).2)
  else (false, (reachM X.words ((p.count * bitsM t.f0 + 63) / 64) s).2)
/-- Are bytes right: all of data; of a text, a 0 behind signs? -/
def bytesM (X : Msg) (kd : Int) (p : Ptr) : Bool :=
  decide (kd = 12) || (decide (0 < p.count) && decide (rd X.b (8 * p.pos + p.count - 1) = 0) && textB ((X.b.drop (8 * p.pos).toNat).take (p.count - 1).toNat))
def targetS (X : Msg) (d : Nat) (T1 T2 : Tgt) : Tgt := fun t i s =>
  let p := (pointerM X.words (wordM X.b i) i).1
  if (pointerM X.words (wordM X.b i) i).2 = false then (false, s)
  else if p.null = true then (true, s)
  else if t.f2 = 0 ∧ t.f0 = 13 then (if p.list = true then (false, s) else recordM X d T1 p.pos p.data p.ptrs t.f1 s)
  else if p.list = false then (false, s)
  else if t.f2 = 0 then
    if p.code ≠ 2 then (false, s)
    else if (reachM X.words ((p.count + 7) / 8) s).1 = true then (bytesM X t.f0 p, (reachM X.words ((p.count + 7) / 8) s).2) else (false, (reachM X.words ((p.count + 7) / 8) s).2)
  else elementsM X d T1 T2 ⟨t.f0, t.f1, t.f2 - 1⟩ p s
def noT : Tgt := fun _ _ s => (false, s)
/-- Is what a pointer in a word points to right, for a type, so deep? -/
def targetM (X : Msg) : Nat → Tgt
  | 0 => targetS X 0 noT noT
  | 1 => targetS X 1 (targetM X 0) noT
  | d + 2 => targetS X (d + 2) (targetM X (d + 1)) (targetM X d)
end Go.Proofs.Ytjgjidehlldfhaa.Hand
end

section
/- Layer 8, capread: the state of a message and its meter; a step taken, a word, so many words reached. -/
namespace Go.Proofs.Ytjgjidehlldfhaa.Hand
open Go.RowKit Go.Proofs.Ytjgjidehlldfhaa.QAll Go.Proofs.YtjgjidehlldfhaaW.PrintWords Go.Proofs.YtjgjidehlldfhaaW.PrintLast Go.Proofs.YtjgjidehlldfhaaW.PrintMore Go.Proofs.Ytjgjidehlldfhaa.Nums Go.Proofs.Ytjgjidehlldfhaa.Runes
set_option linter.unusedVariables false
set_option linter.unusedSimpArgs false

/-- Nothing changes but two blocks; new memory. -/
structure Two (g m : Nat) (w w' : World) : Prop where
  os : w'.os = w.os
  tape : w'.tape = w.tape
  output : w'.output = w.output
  size : w.heap.size ≤ w'.heap.size
  block : ∀ k, k < w.heap.size → k ≠ g → k ≠ m → w'.heap[k]? = w.heap[k]?
section two
variable {g m : Nat} {w w' w'' : World}
theorem Two.refl (g m : Nat) (w : World) : Two g m w w := ⟨rfl, rfl, rfl, Nat.le_refl _, fun _ _ _ _ => rfl⟩
theorem Two.trans (h : Two g m w w') (k : Two g m w' w'') : Two g m w w'' :=
  ⟨k.os.trans h.os, k.tape.trans h.tape, k.output.trans h.output, Nat.le_trans h.size k.size, fun j hj h1 h2 => (k.block j (Nat.lt_of_lt_of_le hj h.size) h1 h2).trans (h.block j hj h1 h2)⟩
theorem Two.of_below (g m : Nat) (h : Below w.heap.size w w') : Two g m w w' := ⟨h.os, h.tape, h.output, h.size, fun k hk _ _ => h.block k hk⟩
theorem Two.setg (g m i : Nat) (w : World) (u : Value) : Two g m w (w.setCell ⟨g, i, none⟩ u) := ⟨rfl, rfl, rfl, by simp, fun k _ h1 _ => Below.heap_setCell w ⟨g, i, none⟩ u k h1⟩
theorem Two.below {B : Nat} {w0 : World} (h : Two g m w w') (hb : Below B w0 w) (hB : B ≤ w.heap.size) (hg : B ≤ g) (hm : B ≤ m) : Below B w0 w' :=
  hb.trans ⟨h.os, h.tape, h.output, h.size, fun k hk => h.block k (by omega) (by omega) (by omega)⟩
/-- A block of the caller's stays. -/
theorem Two.blk (h : Two g m w w') {k : Nat} {o : Obj} (hk : w.heap[k]? = some o) (h1 : k ≠ g) (h2 : k ≠ m) : w'.heap[k]? = some o :=
  (h.block k (by rcases Nat.lt_or_ge k w.heap.size with h | h; exact h; rw [Array.getElem?_eq_none h] at hk; cases hk) h1 h2).trans hk
end two

/-- A type that names a struct or an enum names one that is there. -/
def TyG (X : Msg) (t : S26) : Prop := 0 ≤ t.f0 ∧ t.f0 < 256 ∧ (t.f0 = 13 → 0 ≤ t.f1 ∧ t.f1 < X.st.length) ∧ (t.f0 = 10 → 0 ≤ t.f1 ∧ t.f1 < X.en.length) ∧ 0 ≤ t.f2 ∧ t.f2 < 1000
/-- What stays of a message. -/
structure Msg.Ok (X : Msg) : Prop where
  bytes : ∀ x ∈ X.b, 0 ≤ x ∧ x < 256
  words : 0 < X.words ∧ X.words ≤ 2048 ∧ (X.b.length : Int) = 8 * X.words
  rows : X.rows.length = X.st.length
  root : 0 ≤ X.root ∧ X.root < X.st.length
  at_ : ∀ k, k < X.st.length → (rd_T72 X.rows k).f2.length = (rd_T32 X.st k).f1.length ∧ (rd_T32 X.st k).f1.length ≤ 1000000 ∧ ∀ j ∈ (rd_T72 X.rows k).f2, 0 ≤ j ∧ j ≤ 100000000
  types : ∀ k, k < X.st.length → ∀ f ∈ (rd_T32 X.st k).f1, TyG X f.f1 ∧ 0 ≤ f.f2 ∧ f.f2 < 18446744073709551616
  names : ∀ k, k < X.en.length → (rd_T83 X.en k).f1.length < 9223372036854775808
  len : X.st.length < 9223372036854775808 ∧ X.en.length < 9223372036854775808
  few : X.st.length ≤ 1000000
/-- Where it lies. -/
structure Loc where
  A0 : Option Addr
  c0 : Nat
  A1 : Option Addr
  c1 : Nat
  A2 : Option Addr
  c2 : Nat
  A3 : Option Addr
  c3 : Nat
  gx : Nat
  gm : Nat
structure Mem (X : Msg) (L : Loc) (W : World) : Prop where
  st : k32.C W L.A0 X.st.length X.st
  en : k83.C W L.A1 X.en.length X.en
  rows : k72.C W L.A2 X.rows.length X.rows
  b : (Kd.int .u8).C W L.A3 X.b.length X.b
structure MS (X : Msg) (L : Loc) (w : World) (s : Mt) : Prop where
  xc : w.heap[L.gx]? = some (.cells #[.slice L.A0 X.st.length L.c0, .slice L.A1 X.en.length L.c1, .int .i64 X.root, .slice L.A2 X.rows.length L.c2, .slice L.A3 X.b.length L.c3, .int .i64 X.words, .int .i64 s.reached, .pointer (some ⟨L.gm, 0, none⟩)] 69 (0, 0))
  mc : w.heap[L.gm]? = some (.cells #[.int .i64 s.left, .bool s.out] 101 (0, 0))
  ne : L.gx ≠ L.gm
  mem : ∀ W, Two L.gx L.gm w W → Mem X L W
  cap : X.st.length ≤ L.c0 ∧ X.en.length ≤ L.c1 ∧ X.rows.length ≤ L.c2 ∧ X.b.length ≤ L.c3
  ok : X.Ok
  bud : 0 ≤ s.left ∧ s.left < 9223372036854775808
  rch : 0 ≤ s.reached ∧ s.reached < 1125899906842624
section ms
variable {X : Msg} {L : Loc} {w w' : World} {s s' : Mt}
theorem MS.m (h : MS X L w s) : Mem X L w := h.mem w (Two.refl _ _ _)
theorem MS.x0 (h : MS X L w s) : w.cell? ⟨L.gx, 0, none⟩ = some (.slice L.A0 X.st.length L.c0) := (blk_cell h.xc 0).trans rfl
theorem MS.x1 (h : MS X L w s) : w.cell? ⟨L.gx, 1, none⟩ = some (.slice L.A1 X.en.length L.c1) := (blk_cell h.xc 1).trans rfl
theorem MS.x2 (h : MS X L w s) : w.cell? ⟨L.gx, 2, none⟩ = some (.int .i64 X.root) := (blk_cell h.xc 2).trans rfl
theorem MS.x3 (h : MS X L w s) : w.cell? ⟨L.gx, 3, none⟩ = some (.slice L.A2 X.rows.length L.c2) := (blk_cell h.xc 3).trans rfl
theorem MS.x4 (h : MS X L w s) : w.cell? ⟨L.gx, 4, none⟩ = some (.slice L.A3 X.b.length L.c3) := (blk_cell h.xc 4).trans rfl
theorem MS.x5 (h : MS X L w s) : w.cell? ⟨L.gx, 5, none⟩ = some (.int .i64 X.words) := (blk_cell h.xc 5).trans rfl
theorem MS.x6 (h : MS X L w s) : w.cell? ⟨L.gx, 6, none⟩ = some (.int .i64 s.reached) := (blk_cell h.xc 6).trans rfl
theorem MS.x7 (h : MS X L w s) : w.cell? ⟨L.gx, 7, none⟩ = some (.pointer (some ⟨L.gm, 0, none⟩)) := (blk_cell h.xc 7).trans rfl
theorem MS.lt (h : MS X L w s) : L.gx < w.heap.size ∧ L.gm < w.heap.size := ⟨blk_lt h.xc, blk_lt h.mc⟩
theorem MS.below (h : MS X L w s) (hb : Below w.heap.size w w') : MS X L w' s :=
  ⟨(hb.block _ (blk_lt h.xc)).trans h.xc, (hb.block _ (blk_lt h.mc)).trans h.mc, h.ne, fun W hW => h.mem W ((Two.of_below _ _ hb).trans hW), h.cap, h.ok, h.bud, h.rch⟩
theorem MS.reach (h : MS X L w s) (n : Int) (h0 : 0 ≤ n) (h1 : n < 1125899906842624) : MS X L (w.setCell ⟨L.gx, 6, none⟩ (.int .i64 n)) ⟨n, s.left, s.out⟩ :=
  ⟨blk_set h.xc 6 _, (Below.heap_setCell w ⟨L.gx, 6, none⟩ _ L.gm h.ne.symm).trans h.mc, h.ne, fun W hW => h.mem W ((Two.setg _ _ 6 w _).trans hW), h.cap, h.ok, h.bud, ⟨h0, h1⟩⟩
end ms

theorem take_f (s : Mt) (n : Int) (h0 : 0 ≤ n) (h1 : 0 ≤ s.left ∧ s.left < 9223372036854775808) : wire_Meter_Take.f 5 s.left s.out n = some ((takeM n s).1, (takeM n s).2.left, (takeM n s).2.out) := by
  unfold wire_Meter_Take.f takeM
  cases ho : s.out with
  | true => simp [wire_Meter_Take.j0, ho]
  | false =>
    have d : decide (n < 0) = false := decide_eq_false (by omega)
    by_cases c : s.left < n
    · simp [wire_Meter_Take.j0, d, c, show n > s.left from c]
    · have e : wrap64 (s.left - n) = s.left - n := by unfold wrap64; omega
      simp [wire_Meter_Take.j0, d, c, show ¬ n > s.left from c, e]
theorem take_any {X : Msg} {L : Loc} {w : World} {s : Mt} (h : MS X L w s) (n : Int) (h0 : 0 ≤ n) :
    Calls Try.prog 47 #[.pointer (some ⟨L.gm, 0, none⟩), .int .i64 n] w fun e w' => e = .returned (.bool (takeM n s).1) ∧ MS X L w' (takeM n s).2 ∧ Two L.gx L.gm w w' := by
  have hz : ({ w with heap := #[] } : World).heap.size = 0 := rfl
  have hB : Below ({ w with heap := #[] } : World).heap.size { w with heap := #[] } w := ⟨rfl, rfl, rfl, Nat.zero_le _, fun k hk => absurd hk (Nat.not_lt_zero k)⟩
  refine (wire_Meter_Take.calls 5 L.gm s.left s.out n _ _ _ { w with heap := #[] } w ⟨h.mc, Nat.zero_le _⟩ hB (take_f s n h0 h.bud)).mono ?_
  rintro e w' ⟨he, hI, hb, hk⟩
  have hT : Two L.gx L.gm w w' := ⟨hb.os, hb.tape, hb.output, hk.1, fun k hk1 _ h2 => hk.2 k hk1 h2 (by simp)⟩
  refine ⟨he, ⟨?_, hI.1, h.ne, fun W hW => h.mem W (hT.trans hW), h.cap, h.ok, ?_, ?_⟩, hT⟩
  · have : (takeM n s).2.reached = s.reached := by unfold takeM; split; rfl; split <;> rfl
    rw [this]
    exact (hk.2 _ (blk_lt h.xc) h.ne (by simp)).trans h.xc
  · have := h.bud
    unfold takeM; split
    · exact this
    split
    · exact ⟨Int.le_refl _, show (0 : Int) < 9223372036854775808 by decide⟩
    · show 0 ≤ s.left - n ∧ s.left - n < _; omega
  · have : (takeM n s).2.reached = s.reached := by unfold takeM; split; rfl; split <;> rfl
    rw [this]; exact h.rch
set_option maxHeartbeats 800000 in
theorem word_any {X : Msg} {L : Loc} {w : World} {s : Mt} (h : MS X L w s) (i : Int) (h0 : 0 ≤ i) (h1 : i < 1152921504606846976) :
    Calls Try.prog 32 #[.pointer (some ⟨L.gx, 0, none⟩), .int .i64 i] w fun e w' => e = .returned (.int .u64 (wordM X.b i)) ∧ Drawn0 w w' := by
  have c4 := h.x4
  have wr : IntKind.i64.wrap (8 * i) = 8 * i := by rw [IntKind.wrap_i64]; omega
  have HL : Aside0 (Calls Try.prog 16 #[.slice L.A3 X.b.length L.c3, .int .i64 (8 * i), .int .i64 8] w fun e w' => e = .returned (.tuple #[.int .u64 (loadV X.b (8 * i) 8).1, .bool (loadV X.b (8 * i) 8).2]) ∧ Drawn0 w w') := ⟨
    wire_Load.calls 20 L.A3 L.c3 X.b (8 * i) 8 _ _ w h.m.b h.cap.2.2.2 (load_f X.b h.ok.bytes (by have := h.ok.words; omega) (8 * i) 8 19 (by decide))⟩
  unfold wordM
  obtain ⟨x, hx⟩ : ∃ x, (loadV X.b (8 * i) 8).1 = x := ⟨_, rfl⟩
  rw [hx] at HL ⊢
  obtain ⟨y, hy⟩ : ∃ y, (loadV X.b (8 * i) 8).2 = y := ⟨_, rfl⟩
  rw [hy] at HL
  clear h h0 h1 hx hy
  go_enter Try.func32, Try.ntmps32
  go_wp2_with (go_at_call 16; (with_reducible refine HL.out.mono ?_); rintro e w1 ⟨rfl, hd⟩; have HD := Aside0.mk hd; clear hd)
  go_ret
  exact ⟨rfl, HD.out⟩

theorem take_reached (n : Int) (s : Mt) : (takeM n s).2.reached = s.reached := by unfold takeM; split; rfl; split <;> rfl
/-- What a call of a message's comes to. -/
def Does (X : Msg) (L : Loc) (w : World) (r : Bool × Mt) (e : Ending) (w' : World) : Prop := e = .returned (.bool r.1) ∧ MS X L w' r.2 ∧ Two L.gx L.gm w w'
set_option maxHeartbeats 3200000 in
set_option maxRecDepth 100000 in
theorem reach_any {X : Msg} {L : Loc} {w : World} {s : Mt} (h : MS X L w s) (n : Int) (h0 : 0 ≤ n) (h1 : n < 562949953421312) (hr : s.reached ≤ X.words) :
    Calls Try.prog 33 #[.pointer (some ⟨L.gx, 0, none⟩), .int .i64 n] w (Does X L w (reachM X.words n s)) := by
  obtain ⟨r, hrr⟩ : ∃ r, reachM X.words n s = r := ⟨_, rfl⟩
  rw [hrr]
  have hw := h.ok.words
  have hb := h.rch
  have two : (n < 1 ∧ max n 1 = 1) ∨ (1 ≤ n ∧ max n 1 = n) := by omega
  obtain ⟨m1, hm1⟩ : ∃ m1, max n 1 = m1 := ⟨_, rfl⟩
  rw [hm1] at two
  have HU : Aside0 ((if n < 1 then (1 : Int) else n) = m1) := ⟨by omega⟩
  have hm0 : 0 ≤ m1 ∧ m1 < 562949953421313 := by omega
  have wr : IntKind.i64.wrap (s.reached + m1) = s.reached + m1 := by rw [IntKind.wrap_i64]; omega
  obtain ⟨rn, hrn⟩ : ∃ rn, s.reached + m1 = rn := ⟨_, rfl⟩
  have h1' := h.reach rn (by omega) (by omega)
  have y6 := h.x6
  have f6 := blk_frozen h.xc 6
  have HT := Aside0.mk (Two.setg L.gx L.gm 6 w (.int .i64 rn))
  unfold reachM at hrr
  rw [hm1, hrn] at hrr
  obtain ⟨w1, hw1⟩ : ∃ w1, w.setCell ⟨L.gx, 6, none⟩ (.int .i64 rn) = w1 := ⟨_, rfl⟩
  rw [hw1] at HT h1'
  have H1 := Aside0.mk h1'
  have HTAKE : Aside0 (∀ W u, u = m1 → MS X L W ⟨rn, s.left, s.out⟩ → Calls Try.prog 47 #[.pointer (some ⟨L.gm, 0, none⟩), .int .i64 u] W (Does X L W (takeM m1 ⟨rn, s.left, s.out⟩))) := ⟨fun W u hu hW => by subst hu; exact take_any hW u hm0.1⟩
  have HR := Aside0.mk hrr
  clear hm1 hrr hm0 hb hw h0 h1 h h1'
  have HW1 := Aside0.mk hw1
  have HRN := Aside0.mk hrn
  have ways : (rn ≤ X.words ∧ decide (rn ≤ X.words) = true) ∨ (¬ rn ≤ X.words ∧ decide (rn ≤ X.words) = false) := by
    by_cases c : rn ≤ X.words
    · exact .inl ⟨c, decide_eq_true c⟩
    · exact .inr ⟨c, decide_eq_false c⟩
  clear hw1 hrn
  rcases two with ⟨hn, rfl⟩ | ⟨hn, rfl⟩
  all_goals
    go_enter Try.func33, Try.ntmps33
    go_upto_region 2 with (fail)
    rw [HRN.out, HW1.out]
    clear y6 f6 wr
    have c6 : w1.cell? ⟨L.gx, 6, none⟩ = some (.int .i64 rn) := H1.out.x6
    have c5 := H1.out.x5
    have c7 := H1.out.x7
    rcases ways with ⟨q1, d1⟩ | ⟨q1, d1⟩
    · have HR2 := Aside0.mk (show takeM _ ⟨rn, s.left, s.out⟩ = r by have := HR.out; rw [if_pos q1] at this; exact this)
      have HB : Aside0 (Below w1.heap.size w1 w1.drew) := ⟨below_drew (Below.refl w1.heap.size w1)⟩
      go_region_held3 (fun W => W.cell? ⟨L.gx, 5, none⟩ = some (.int .i64 X.words) ∧ W.cell? ⟨L.gx, 6, none⟩ = some (.int .i64 rn) ∧ W.cell? ⟨L.gx, 7, none⟩ = some (.pointer (some ⟨L.gm, 0, none⟩)))
        (first | go_keep | with_reducible exact ⟨z5, z6, z7⟩)
        (first
          | (go_at_call 47; (first | (with_reducible refine (HTAKE.out _ 1 rfl (H1.out.below HB.out)).mono ?_) | (with_reducible refine (HTAKE.out _ _ HU.out (H1.out.below HB.out)).mono ?_)); rintro e w6 ⟨rfl, hm, ht⟩
             have HM6 := Aside0.mk hm; have HT6 := Aside0.mk ht
             have zr := hm.x6
             have z5 := hm.x5
             have z6 : w6.cell? ⟨L.gx, 6, none⟩ = some (.int .i64 rn) := by rw [take_reached] at zr; exact zr
             have z7 := hm.x7
             clear hm ht zr))
      go_wp2
      go_ret
      rw [← HR2.out]
      exact ⟨rfl, HM6.out, (HT.out.trans (Two.of_below _ _ HB.out)).trans HT6.out⟩
    · go_quiet (fail)
      go_wp2
      go_ret
      have := HR.out
      rw [if_neg (by omega)] at this
      subst this
      exact ⟨rfl, H1.out.below (Drawn0.below ⟨⟨_, rfl⟩⟩), HT.out.trans (Two.of_below _ _ (Drawn0.below ⟨⟨_, rfl⟩⟩))⟩
end Go.Proofs.Ytjgjidehlldfhaa.Hand
end

section
/- Layer 8, capread: a pointer. -/
namespace Go.Proofs.Ytjgjidehlldfhaa.Hand
open Go.RowKit Go.Proofs.Ytjgjidehlldfhaa.QAll Go.Proofs.YtjgjidehlldfhaaW.PrintWords Go.Proofs.YtjgjidehlldfhaaW.PrintLast Go.Proofs.YtjgjidehlldfhaaW.PrintMore Go.Proofs.Ytjgjidehlldfhaa.Nums Go.Proofs.Ytjgjidehlldfhaa.Runes
set_option linter.unusedVariables false
set_option linter.unusedSimpArgs false
abbrev Ptr.v (p : Ptr) : Value := .agg #[.bool p.null, .bool p.list, .int .i64 p.pos, .int .i64 p.data, .int .i64 p.ptrs, .int .i64 p.code, .int .i64 p.count]
theorem below_all {w w1 : World} {o : Obj} (hd : Drawn0 (w.alloc o) w1) : Below w.heap.size w w1 ∧ w1.heap[w.heap.size]? = some o ∧ w1.heap.size = w.heap.size + 1 := by
  have hb := below_alloc (Below.refl w.heap.size w) o
  obtain ⟨m, rfl⟩ := hd
  exact ⟨below_then hb hb.size (Drawn0.below ⟨m, rfl⟩), heap_alloc_new w o, by simp⟩
theorem put7 {w0 W wz : World} {B g : Nat} {c0 c1 c2 c3 c4 c5 c6 x0 x1 x2 x3 x4 x5 x6 : Value} (h : W.heap[g]? = some (.cells #[c0, c1, c2, c3, c4, c5, c6] 75 (0, 0))) (hb : Below B w0 W) (hg : B ≤ g)
    (hw : ((((((W.setCell ⟨g, 0, none⟩ x0).setCell ⟨g, 1, none⟩ x1).setCell ⟨g, 2, none⟩ x2).setCell ⟨g, 3, none⟩ x3).setCell ⟨g, 4, none⟩ x4).setCell ⟨g, 5, none⟩ x5).setCell ⟨g, 6, none⟩ x6 = wz) :
    (wz.cell? ⟨g, 0, none⟩ = some x0 ∧ wz.cell? ⟨g, 1, none⟩ = some x1 ∧ wz.cell? ⟨g, 2, none⟩ = some x2 ∧ wz.cell? ⟨g, 3, none⟩ = some x3 ∧ wz.cell? ⟨g, 4, none⟩ = some x4 ∧ wz.cell? ⟨g, 5, none⟩ = some x5 ∧ wz.cell? ⟨g, 6, none⟩ = some x6) ∧ Below B w0 wz := by
  obtain ⟨W1, h1⟩ : ∃ u, W.setCell ⟨g, 0, none⟩ x0 = u := ⟨_, rfl⟩
  rw [h1] at hw
  have b1 : W1.heap[g]? = some (.cells #[x0, c1, c2, c3, c4, c5, c6] 75 (0, 0)) := by rw [← h1]; exact blk_set h 0 x0
  have B1 : Below B w0 W1 := by rw [← h1]; exact Below.setCell hb (p := ⟨g, 0, none⟩) hg x0
  obtain ⟨W2, h2⟩ : ∃ u, W1.setCell ⟨g, 1, none⟩ x1 = u := ⟨_, rfl⟩
  rw [h2] at hw
  have b2 : W2.heap[g]? = some (.cells #[x0, x1, c2, c3, c4, c5, c6] 75 (0, 0)) := by rw [← h2]; exact blk_set b1 1 x1
  have B2 : Below B w0 W2 := by rw [← h2]; exact Below.setCell B1 (p := ⟨g, 1, none⟩) hg x1
  obtain ⟨W3, h3⟩ : ∃ u, W2.setCell ⟨g, 2, none⟩ x2 = u := ⟨_, rfl⟩
  rw [h3] at hw
  have b3 : W3.heap[g]? = some (.cells #[x0, x1, x2, c3, c4, c5, c6] 75 (0, 0)) := by rw [← h3]; exact blk_set b2 2 x2
  have B3 : Below B w0 W3 := by rw [← h3]; exact Below.setCell B2 (p := ⟨g, 2, none⟩) hg x2
  obtain ⟨W4, h4⟩ : ∃ u, W3.setCell ⟨g, 3, none⟩ x3 = u := ⟨_, rfl⟩
  rw [h4] at hw
  have b4 : W4.heap[g]? = some (.cells #[x0, x1, x2, x3, c4, c5, c6] 75 (0, 0)) := by rw [← h4]; exact blk_set b3 3 x3
  have B4 : Below B w0 W4 := by rw [← h4]; exact Below.setCell B3 (p := ⟨g, 3, none⟩) hg x3
  obtain ⟨W5, h5⟩ : ∃ u, W4.setCell ⟨g, 4, none⟩ x4 = u := ⟨_, rfl⟩
  rw [h5] at hw
  have b5 : W5.heap[g]? = some (.cells #[x0, x1, x2, x3, x4, c5, c6] 75 (0, 0)) := by rw [← h5]; exact blk_set b4 4 x4
  have B5 : Below B w0 W5 := by rw [← h5]; exact Below.setCell B4 (p := ⟨g, 4, none⟩) hg x4
  obtain ⟨W6, h6⟩ : ∃ u, W5.setCell ⟨g, 5, none⟩ x5 = u := ⟨_, rfl⟩
  rw [h6] at hw
  have b6 : W6.heap[g]? = some (.cells #[x0, x1, x2, x3, x4, x5, c6] 75 (0, 0)) := by rw [← h6]; exact blk_set b5 5 x5
  have B6 : Below B w0 W6 := by rw [← h6]; exact Below.setCell B5 (p := ⟨g, 5, none⟩) hg x5
  obtain ⟨W7, h7⟩ : ∃ u, W6.setCell ⟨g, 6, none⟩ x6 = u := ⟨_, rfl⟩
  rw [h7] at hw
  have b7 : W7.heap[g]? = some (.cells #[x0, x1, x2, x3, x4, x5, x6] 75 (0, 0)) := by rw [← h7]; exact blk_set b6 6 x6
  have B7 : Below B w0 W7 := by rw [← h7]; exact Below.setCell B6 (p := ⟨g, 6, none⟩) hg x6
  subst hw
  exact ⟨⟨(blk_cell b7 0).trans rfl, (blk_cell b7 1).trans rfl, (blk_cell b7 2).trans rfl, (blk_cell b7 3).trans rfl, (blk_cell b7 4).trans rfl, (blk_cell b7 5).trans rfl, (blk_cell b7 6).trans rfl⟩, B7⟩
theorem put7f {W : World} {g : Nat} {c0 c1 c2 c3 c4 c5 c6 : Value} (x0 x1 x2 x3 x4 x5 x6 : Value) (h : W.heap[g]? = some (.cells #[c0, c1, c2, c3, c4, c5, c6] 75 (0, 0))) :
    (W.drew.cell? ⟨g, 0, none⟩ = some c0 ∧ W.drew.frozen? ⟨g, 0, none⟩ = false) ∧
    ((W.setCell ⟨g, 0, none⟩ x0).drew.cell? ⟨g, 1, none⟩ = some c1 ∧ (W.setCell ⟨g, 0, none⟩ x0).drew.frozen? ⟨g, 1, none⟩ = false) ∧
    (((W.setCell ⟨g, 0, none⟩ x0).setCell ⟨g, 1, none⟩ x1).drew.cell? ⟨g, 2, none⟩ = some c2 ∧ ((W.setCell ⟨g, 0, none⟩ x0).setCell ⟨g, 1, none⟩ x1).drew.frozen? ⟨g, 2, none⟩ = false) ∧
    ((((W.setCell ⟨g, 0, none⟩ x0).setCell ⟨g, 1, none⟩ x1).setCell ⟨g, 2, none⟩ x2).drew.cell? ⟨g, 3, none⟩ = some c3 ∧ (((W.setCell ⟨g, 0, none⟩ x0).setCell ⟨g, 1, none⟩ x1).setCell ⟨g, 2, none⟩ x2).drew.frozen? ⟨g, 3, none⟩ = false) ∧
    (((((W.setCell ⟨g, 0, none⟩ x0).setCell ⟨g, 1, none⟩ x1).setCell ⟨g, 2, none⟩ x2).setCell ⟨g, 3, none⟩ x3).drew.cell? ⟨g, 4, none⟩ = some c4 ∧ ((((W.setCell ⟨g, 0, none⟩ x0).setCell ⟨g, 1, none⟩ x1).setCell ⟨g, 2, none⟩ x2).setCell ⟨g, 3, none⟩ x3).drew.frozen? ⟨g, 4, none⟩ = false) ∧
    ((((((W.setCell ⟨g, 0, none⟩ x0).setCell ⟨g, 1, none⟩ x1).setCell ⟨g, 2, none⟩ x2).setCell ⟨g, 3, none⟩ x3).setCell ⟨g, 4, none⟩ x4).drew.cell? ⟨g, 5, none⟩ = some c5 ∧ (((((W.setCell ⟨g, 0, none⟩ x0).setCell ⟨g, 1, none⟩ x1).setCell ⟨g, 2, none⟩ x2).setCell ⟨g, 3, none⟩ x3).setCell ⟨g, 4, none⟩ x4).drew.frozen? ⟨g, 5, none⟩ = false) ∧
    (((((((W.setCell ⟨g, 0, none⟩ x0).setCell ⟨g, 1, none⟩ x1).setCell ⟨g, 2, none⟩ x2).setCell ⟨g, 3, none⟩ x3).setCell ⟨g, 4, none⟩ x4).setCell ⟨g, 5, none⟩ x5).drew.cell? ⟨g, 6, none⟩ = some c6 ∧ ((((((W.setCell ⟨g, 0, none⟩ x0).setCell ⟨g, 1, none⟩ x1).setCell ⟨g, 2, none⟩ x2).setCell ⟨g, 3, none⟩ x3).setCell ⟨g, 4, none⟩ x4).setCell ⟨g, 5, none⟩ x5).drew.frozen? ⟨g, 6, none⟩ = false) := by
  have b1 : (W.setCell ⟨g, 0, none⟩ x0).heap[g]? = some (.cells #[x0, c1, c2, c3, c4, c5, c6] 75 (0, 0)) := blk_set h 0 x0
  have b2 : ((W.setCell ⟨g, 0, none⟩ x0).setCell ⟨g, 1, none⟩ x1).heap[g]? = some (.cells #[x0, x1, c2, c3, c4, c5, c6] 75 (0, 0)) := blk_set b1 1 x1
  have b3 : (((W.setCell ⟨g, 0, none⟩ x0).setCell ⟨g, 1, none⟩ x1).setCell ⟨g, 2, none⟩ x2).heap[g]? = some (.cells #[x0, x1, x2, c3, c4, c5, c6] 75 (0, 0)) := blk_set b2 2 x2
  have b4 : ((((W.setCell ⟨g, 0, none⟩ x0).setCell ⟨g, 1, none⟩ x1).setCell ⟨g, 2, none⟩ x2).setCell ⟨g, 3, none⟩ x3).heap[g]? = some (.cells #[x0, x1, x2, x3, c4, c5, c6] 75 (0, 0)) := blk_set b3 3 x3
  have b5 : (((((W.setCell ⟨g, 0, none⟩ x0).setCell ⟨g, 1, none⟩ x1).setCell ⟨g, 2, none⟩ x2).setCell ⟨g, 3, none⟩ x3).setCell ⟨g, 4, none⟩ x4).heap[g]? = some (.cells #[x0, x1, x2, x3, x4, c5, c6] 75 (0, 0)) := blk_set b4 4 x4
  have b6 : ((((((W.setCell ⟨g, 0, none⟩ x0).setCell ⟨g, 1, none⟩ x1).setCell ⟨g, 2, none⟩ x2).setCell ⟨g, 3, none⟩ x3).setCell ⟨g, 4, none⟩ x4).setCell ⟨g, 5, none⟩ x5).heap[g]? = some (.cells #[x0, x1, x2, x3, x4, x5, c6] 75 (0, 0)) := blk_set b5 5 x5
  have F : ∀ (V : World) (cs : Array Value) (i : Nat), V.heap[g]? = some (.cells cs 75 (0, 0)) → V.drew.frozen? ⟨g, i, none⟩ = false := fun V cs i h => blk_frozen h i
  have D : ∀ (V : World) (cs : Array Value) (i : Nat) (u : Value), V.heap[g]? = some (.cells cs 75 (0, 0)) → cs[i]? = some u → V.drew.cell? ⟨g, i, none⟩ = some u := fun V cs i u h e => (blk_cell h i).trans e
  exact ⟨⟨D _ _ 0 _ h rfl, F _ _ 0 h⟩, ⟨D _ _ 1 _ b1 rfl, F _ _ 1 b1⟩, ⟨D _ _ 2 _ b2 rfl, F _ _ 2 b2⟩, ⟨D _ _ 3 _ b3 rfl, F _ _ 3 b3⟩, ⟨D _ _ 4 _ b4 rfl, F _ _ 4 b4⟩, ⟨D _ _ 5 _ b5 rfl, F _ _ 5 b5⟩, ⟨D _ _ 6 _ b6 rfl, F _ _ 6 b6⟩⟩
theorem pt_low (v : Int) : wrap64 (wrap32 v / 4) = lowM v := by unfold wrap64 wrap32 lowM; omega
theorem pt_and3 (v : Int) (h : 0 ≤ v ∧ v < 18446744073709551616) : Go.bits .and .u64 v 3 = v % 4 := by have := U.and_u64 2 (by decide) v h.1 h.2; simpa using this
theorem pt_and7 (v : Int) (h : 0 ≤ v ∧ v < 18446744073709551616) : Go.bits .and .u64 (v / 4294967296) 7 = v / 4294967296 % 8 := by have := U.and_u64 3 (by decide) (v / 4294967296) (by omega) (by omega); simpa using this
theorem pt_and16 (v : Int) (h : 0 ≤ v ∧ v < 18446744073709551616) : Go.bits .and .u64 (v / 4294967296) 65535 = v / 4294967296 % 65536 := by have := U.and_u64 16 (by decide) (v / 4294967296) (by omega) (by omega); simpa using this
set_option maxHeartbeats 3200000 in
set_option maxRecDepth 100000 in
theorem pointer_any {X : Msg} {L : Loc} {w : World} {s : Mt} (h : MS X L w s) (i : Int) (h0 : 0 ≤ i) (h1 : i < 1152921504606846976) :
    Calls Try.prog 18 #[.pointer (some ⟨L.gx, 0, none⟩), .int .i64 i] w fun e w' => e = .returned (.tuple #[(pointerM X.words (wordM X.b i) i).1.v, .bool (pointerM X.words (wordM X.b i) i).2]) ∧ Below w.heap.size w w' := by
  have hb := wordM_bound X.b h.ok.bytes i
  have hwd := h.ok.words
  have HWORD := Aside0.mk (fun W (hW : MS X L W s) => word_any hW i h0 h1)
  obtain ⟨v, hv⟩ : ∃ v, wordM X.b i = v := ⟨_, rfl⟩
  rw [hv] at HWORD hb ⊢
  have H0 := Aside0.mk h
  obtain ⟨p, hp⟩ : ∃ p, pointerM X.words v i = p := ⟨_, rfl⟩
  rw [hp]
  have hlo := lowM_bound v
  have e1 := pt_low v
  have e3 := pt_and3 v hb
  have e7 := pt_and7 v hb
  have e16 := pt_and16 v hb
  unfold pointerM at hp
  obtain ⟨lo, hl⟩ : ∃ lo, lowM v = lo := ⟨_, rfl⟩
  rw [hl] at hlo e1 hp
  have e2 : wrap64 (i + 1 + lo) = i + 1 + lo := by unfold wrap64; omega
  obtain ⟨at_, ha⟩ : ∃ at_, i + 1 + lo = at_ := ⟨_, rfl⟩
  rw [ha] at e2 hp
  have hm4 : 0 ≤ v % 4 ∧ v % 4 < 4 := by omega
  obtain ⟨m4, h4⟩ : ∃ m4, v % 4 = m4 := ⟨_, rfl⟩
  rw [h4] at e3 hp hm4
  have hdd : 0 ≤ v / 4294967296 % 65536 ∧ v / 4294967296 % 65536 < 65536 := by omega
  have hpp : 0 ≤ v / 281474976710656 ∧ v / 281474976710656 < 65536 := by omega
  have hcc : 0 ≤ v / 4294967296 % 8 ∧ v / 4294967296 % 8 < 8 := by omega
  have hnn : 0 ≤ v / 34359738368 ∧ v / 34359738368 < 536870912 := by omega
  obtain ⟨dd, ed⟩ : ∃ dd, v / 4294967296 % 65536 = dd := ⟨_, rfl⟩
  obtain ⟨pp, ep⟩ : ∃ pp, v / 281474976710656 = pp := ⟨_, rfl⟩
  obtain ⟨cc, ec⟩ : ∃ cc, v / 4294967296 % 8 = cc := ⟨_, rfl⟩
  obtain ⟨nn, en⟩ : ∃ nn, v / 34359738368 = nn := ⟨_, rfl⟩
  rw [ed] at hdd e16 hp
  rw [ep] at hpp hp
  rw [ec] at hcc e7 hp
  rw [en] at hnn hp
  have u1 : wrap64 dd = dd := by unfold wrap64; omega
  have u2 : wrap64 pp = pp := by unfold wrap64; omega
  have u3 : wrap64 cc = cc := by unfold wrap64; omega
  have u4 : wrap64 nn = nn := by unfold wrap64; omega
  have HWD := Aside0.mk hwd
  have ways : (v = 0 ∧ (v == 0) = true) ∨ (v ≠ 0 ∧ (v == 0) = false) := by
    by_cases c : v = 0
    · exact .inl ⟨c, by simp [c]⟩
    · exact .inr ⟨c, by simp [c]⟩
  clear hv hl h4 h hlo
  rcases ways with ⟨c, z⟩ | ⟨c, z⟩
  · rw [if_pos c] at hp
    subst hp
    clear c e1 e2 e3 e7 e16 u1 u2 u3 u4 ha ed ep ec en hdd hpp hcc hnn hm4 hwd
    go_enter Try.func18, Try.ntmps18
    go_upto_region 3 with (go_at_call 32; (with_reducible refine (HWORD.out _ (H0.out.below (below_alloc (Below.refl _ _) _))).mono ?_); rintro e w1 ⟨rfl, hd⟩; have HD := Aside0.mk hd; clear hd)
    obtain ⟨hB, hG, hS⟩ := below_all HD.out
    obtain ⟨gr, hgr⟩ : ∃ gr, w.heap.size = gr := ⟨_, rfl⟩
    rw [hgr] at hG ⊢
    have HG := Aside0.mk hG
    have HB := Aside0.mk hB
    clear hG hB
    have r0 : w1.cell? ⟨gr, 0, none⟩ = some (.bool false) := (blk_cell HG.out 0).trans rfl
    have r1 : w1.cell? ⟨gr, 1, none⟩ = some (.bool false) := (blk_cell HG.out 1).trans rfl
    have r2 : w1.cell? ⟨gr, 2, none⟩ = some (.int .i64 0) := (blk_cell HG.out 2).trans rfl
    have r3 : w1.cell? ⟨gr, 3, none⟩ = some (.int .i64 0) := (blk_cell HG.out 3).trans rfl
    have r4 : w1.cell? ⟨gr, 4, none⟩ = some (.int .i64 0) := (blk_cell HG.out 4).trans rfl
    have r5 : w1.cell? ⟨gr, 5, none⟩ = some (.int .i64 0) := (blk_cell HG.out 5).trans rfl
    have r6 : w1.cell? ⟨gr, 6, none⟩ = some (.int .i64 0) := (blk_cell HG.out 6).trans rfl
    have f0 := blk_frozen HG.out 0
    have f1 := blk_frozen HG.out 1
    have f2 := blk_frozen HG.out 2
    have f3 := blk_frozen HG.out 3
    have f4 := blk_frozen HG.out 4
    have f5 := blk_frozen HG.out 5
    have f6 := blk_frozen HG.out 6
    go_wp2_with (fail)
    clear r0 r1 r2 r3 r4 r5 r6 f0 f1 f2 f3 f4 f5 f6
    obtain ⟨wz, hwz⟩ : ∃ wz, (((((((w1.setCell ⟨gr, 0, none⟩ (.bool true)).setCell ⟨gr, 1, none⟩ (.bool false)).setCell ⟨gr, 2, none⟩ (.int .i64 0)).setCell ⟨gr, 3, none⟩ (.int .i64 0)).setCell ⟨gr, 4, none⟩ (.int .i64 0)).setCell ⟨gr, 5, none⟩ (.int .i64 0)).setCell ⟨gr, 6, none⟩ (.int .i64 0)) = wz := ⟨_, rfl⟩
    rw [hwz]
    obtain ⟨⟨z0, z1, z2, z3, z4, z5, z6⟩, hbz⟩ := put7 (B := w.heap.size) HG.out HB.out (by omega) hwz
    exact bodyPost_ret (v := .tuple #[.agg #[.bool true, .bool false, .int .i64 0, .int .i64 0, .int .i64 0, .int .i64 0, .int .i64 0], .bool true]) (by simp [results, Try.results18, go_sem, z0, z1, z2, z3, z4, z5, z6]) rfl ⟨rfl, hbz⟩
  · rw [if_neg c] at hp
    have HP := Aside0.mk hp
    have HV := Aside0.mk hb
    have hmb : (m4 == 1) = decide (m4 = 1) := by by_cases q : m4 = 1 <;> simp [q]
    obtain ⟨bl, hbl⟩ : ∃ bl, decide (m4 = 1) = bl := ⟨_, rfl⟩
    rw [hbl] at hmb
    clear c hp
    have ways : (decide (1 < m4) = true ∧ 1 < m4) ∨ (decide (1 < m4) = false ∧ ¬ 1 < m4 ∧ decide (at_ < 0) = true ∧ at_ < 0) ∨ (decide (1 < m4) = false ∧ ¬ 1 < m4 ∧ decide (at_ < 0) = false ∧ ¬ at_ < 0 ∧ decide (X.words < at_) = true ∧ X.words < at_) ∨
      (decide (1 < m4) = false ∧ ¬ 1 < m4 ∧ decide (at_ < 0) = false ∧ ¬ at_ < 0 ∧ decide (X.words < at_) = false ∧ ¬ X.words < at_) := by
      by_cases a : 1 < m4
      · exact .inl ⟨decide_eq_true a, a⟩
      · by_cases b : at_ < 0
        · exact .inr (.inl ⟨decide_eq_false a, a, decide_eq_true b, b⟩)
        · by_cases c : X.words < at_
          · exact .inr (.inr (.inl ⟨decide_eq_false a, a, decide_eq_false b, b, decide_eq_true c, c⟩))
          · exact .inr (.inr (.inr ⟨decide_eq_false a, a, decide_eq_false b, b, decide_eq_false c, c⟩))
    go_enter Try.func18, Try.ntmps18
    go_upto_region 5 with (go_at_call 32; (with_reducible refine (HWORD.out _ (H0.out.below (below_alloc (Below.refl _ _) _))).mono ?_); rintro e w1 ⟨rfl, hd⟩; have HD := Aside0.mk hd; clear hd)
    obtain ⟨hB, hG, hS⟩ := below_all HD.out
    obtain ⟨gr, hgr⟩ : ∃ gr, w.heap.size = gr := ⟨_, rfl⟩
    obtain ⟨gp, hgp⟩ : ∃ gp, w1.heap.size = gp := ⟨_, rfl⟩
    obtain ⟨w2, hw2⟩ : ∃ w2, w1.alloc (.cells #[.bool false, .bool bl, .int .i64 at_, .int .i64 0, .int .i64 0, .int .i64 0, .int .i64 0] 75) = w2 := ⟨_, rfl⟩
    have hba := below_alloc (Below.refl w1.heap.size w1) (.cells #[.bool false, .bool bl, .int .i64 at_, .int .i64 0, .int .i64 0, .int .i64 0, .int .i64 0] 75)
    have hpn := heap_alloc_new w1 (.cells #[.bool false, .bool bl, .int .i64 at_, .int .i64 0, .int .i64 0, .int .i64 0, .int .i64 0] 75)
    rw [hw2] at hba hpn
    have H2 := Aside0.mk ((H0.out.below hB).below hba)
    have HB2 := Aside0.mk (below_then hB hB.size hba)
    have HR2 := Aside0.mk ((hba.block _ (by omega)).trans hG)
    rw [hgr] at HR2 hS ⊢
    rw [hgp] at hpn
    have HN : Aside0 (L.gx ≠ gr ∧ L.gx ≠ gp ∧ gr < gp ∧ w.heap.size ≤ gr ∧ w.heap.size ≤ gp) := ⟨by have := H0.out.lt; omega⟩
    have HP2 := Aside0.mk hpn
    rw [hw2, hgp]
    clear hB hG hba hpn hw2 hgp
    have x5 := H2.out.x5
    rcases ways with ⟨a1, a2⟩ | ⟨a1, a2, b1, b2⟩ | ⟨a1, a2, b1, b2, g1, g2⟩ | ⟨a1, a2, b1, b2, g1, g2⟩
    case' inl | inr.inl | inr.inr.inl =>
      have hnone : p = (noneP, false) := by rw [← HP.out]; exact if_pos (by omega)
      subst hnone
      have p0 : w2.cell? ⟨gp, 0, none⟩ = some (.bool false) := (blk_cell HP2.out 0).trans rfl
      have p1 : w2.cell? ⟨gp, 1, none⟩ = some (.bool bl) := (blk_cell HP2.out 1).trans rfl
      have p2 : w2.cell? ⟨gp, 2, none⟩ = some (.int .i64 at_) := (blk_cell HP2.out 2).trans rfl
      have p3 : w2.cell? ⟨gp, 3, none⟩ = some (.int .i64 0) := (blk_cell HP2.out 3).trans rfl
      have p4 : w2.cell? ⟨gp, 4, none⟩ = some (.int .i64 0) := (blk_cell HP2.out 4).trans rfl
      have p5 : w2.cell? ⟨gp, 5, none⟩ = some (.int .i64 0) := (blk_cell HP2.out 5).trans rfl
      have p6 : w2.cell? ⟨gp, 6, none⟩ = some (.int .i64 0) := (blk_cell HP2.out 6).trans rfl
      go_quiet (fail)
      clear p0 p1 p2 p3 p4 p5 p6
      rename_i nq
      obtain ⟨w3, hw3⟩ : ∃ w3, w2.drewN nq = w3 := ⟨_, rfl⟩
      rw [hw3]
      have HR3 : Aside0 (w3.heap[gr]? = some (.cells #[.bool false, .bool false, .int .i64 0, .int .i64 0, .int .i64 0, .int .i64 0, .int .i64 0] 75 (0, 0))) := ⟨by rw [← hw3]; exact HR2.out⟩
      have HB3 : Aside0 (Below w.heap.size w w3) := ⟨below_then HB2.out HB2.out.size (Drawn0.below ⟨nq, hw3.symm⟩)⟩
      clear hw3 x5
      have r0 : w3.cell? ⟨gr, 0, none⟩ = some (.bool false) := (blk_cell HR3.out 0).trans rfl
      have r1 : w3.cell? ⟨gr, 1, none⟩ = some (.bool false) := (blk_cell HR3.out 1).trans rfl
      have r2 : w3.cell? ⟨gr, 2, none⟩ = some (.int .i64 0) := (blk_cell HR3.out 2).trans rfl
      have r3 : w3.cell? ⟨gr, 3, none⟩ = some (.int .i64 0) := (blk_cell HR3.out 3).trans rfl
      have r4 : w3.cell? ⟨gr, 4, none⟩ = some (.int .i64 0) := (blk_cell HR3.out 4).trans rfl
      have r5 : w3.cell? ⟨gr, 5, none⟩ = some (.int .i64 0) := (blk_cell HR3.out 5).trans rfl
      have r6 : w3.cell? ⟨gr, 6, none⟩ = some (.int .i64 0) := (blk_cell HR3.out 6).trans rfl
      have f0 := blk_frozen HR3.out 0
      have f1 := blk_frozen HR3.out 1
      have f2 := blk_frozen HR3.out 2
      have f3 := blk_frozen HR3.out 3
      have f4 := blk_frozen HR3.out 4
      have f5 := blk_frozen HR3.out 5
      have f6 := blk_frozen HR3.out 6
      go_wp2_with (fail)
      clear r0 r1 r2 r3 r4 r5 r6 f0 f1 f2 f3 f4 f5 f6
      obtain ⟨wz, hwz⟩ : ∃ wz, (((((((w3.setCell ⟨gr, 0, none⟩ (.bool false)).setCell ⟨gr, 1, none⟩ (.bool false)).setCell ⟨gr, 2, none⟩ (.int .i64 0)).setCell ⟨gr, 3, none⟩ (.int .i64 0)).setCell ⟨gr, 4, none⟩ (.int .i64 0)).setCell ⟨gr, 5, none⟩ (.int .i64 0)).setCell ⟨gr, 6, none⟩ (.int .i64 0)) = wz := ⟨_, rfl⟩
      rw [hwz]
      obtain ⟨⟨z0, z1, z2, z3, z4, z5, z6⟩, hbz⟩ := put7 (B := w.heap.size) HR3.out HB3.out (by omega) hwz
      exact bodyPost_ret (v := .tuple #[.agg #[.bool false, .bool false, .int .i64 0, .int .i64 0, .int .i64 0, .int .i64 0, .int .i64 0], .bool false]) (by simp [results, Try.results18, go_sem, z0, z1, z2, z3, z4, z5, z6]) rfl ⟨rfl, by first | exact hbz | exact hgr ▸ hbz⟩
    all_goals skip
    case inr.inr.inr =>
      have p0 : w2.cell? ⟨gp, 0, none⟩ = some (.bool false) := (blk_cell HP2.out 0).trans rfl
      have p1 : w2.cell? ⟨gp, 1, none⟩ = some (.bool bl) := (blk_cell HP2.out 1).trans rfl
      have p2 : w2.cell? ⟨gp, 2, none⟩ = some (.int .i64 at_) := (blk_cell HP2.out 2).trans rfl
      have p3 : w2.cell? ⟨gp, 3, none⟩ = some (.int .i64 0) := (blk_cell HP2.out 3).trans rfl
      have p4 : w2.cell? ⟨gp, 4, none⟩ = some (.int .i64 0) := (blk_cell HP2.out 4).trans rfl
      have p5 : w2.cell? ⟨gp, 5, none⟩ = some (.int .i64 0) := (blk_cell HP2.out 5).trans rfl
      have p6 : w2.cell? ⟨gp, 6, none⟩ = some (.int .i64 0) := (blk_cell HP2.out 6).trans rfl
      go_quiet (fail)
      clear p0 p1 p2 p3 p4 p5 p6
      rename_i nq
      obtain ⟨w3, hw3⟩ : ∃ w3, w2.drewN nq = w3 := ⟨_, rfl⟩
      rw [hw3]
      have HR3 : Aside0 (w3.heap[gr]? = some (.cells #[.bool false, .bool false, .int .i64 0, .int .i64 0, .int .i64 0, .int .i64 0, .int .i64 0] 75 (0, 0))) := ⟨by rw [← hw3]; exact HR2.out⟩
      have HP3 : Aside0 (w3.heap[gp]? = some (.cells #[.bool false, .bool bl, .int .i64 at_, .int .i64 0, .int .i64 0, .int .i64 0, .int .i64 0] 75 (0, 0))) := ⟨by rw [← hw3]; exact HP2.out⟩
      have HB3 : Aside0 (Below w.heap.size w w3) := ⟨below_then HB2.out HB2.out.size (Drawn0.below ⟨nq, hw3.symm⟩)⟩
      have H3 := Aside0.mk (H2.out.below (Drawn0.below ⟨nq, hw3.symm⟩))
      clear hw3 x5
      have HP' := Aside0.mk (show (if m4 = 1 then ((⟨false, true, at_, 0, 0, cc, nn⟩ : Ptr), decide (at_ + sizeM cc nn ≤ X.words)) else (⟨false, false, at_, dd, pp, 0, 0⟩, decide (at_ + dd + pp ≤ X.words))) = p by rw [← HP.out]; exact (if_neg (by omega)).symm)
      clear HP
      have two : (m4 = 1 ∧ bl = true) ∨ (m4 = 0 ∧ bl = false) := by
        rcases (show m4 = 1 ∨ m4 = 0 by omega) with q | q
        · exact .inl ⟨q, by rw [← hbl]; exact decide_eq_true q⟩
        · exact .inr ⟨q, by rw [← hbl]; exact decide_eq_false (by omega)⟩
      have p1 : w3.cell? ⟨gp, 1, none⟩ = some (.bool bl) := (blk_cell HP3.out 1).trans rfl
      rcases two with ⟨rfl, rfl⟩ | ⟨rfl, rfl⟩
      · have y5 := blk_frozen HP3.out 5
        have y6 := blk_frozen HP3.out 6
        have p5 : w3.cell? ⟨gp, 5, none⟩ = some (.int .i64 0) := (blk_cell HP3.out 5).trans rfl
        have p6 : w3.cell? ⟨gp, 6, none⟩ = some (.int .i64 0) := (blk_cell HP3.out 6).trans rfl
        go_upto_region 11 with (fail)
        clear y5 y6 p1 p5 p6
        obtain ⟨w4, hw4⟩ : ∃ w4, (w3.setCell ⟨gp, 5, none⟩ (.int .i64 cc)).setCell ⟨gp, 6, none⟩ (.int .i64 nn) = w4 := ⟨_, rfl⟩
        rw [hw4]
        have HP4 : Aside0 (w4.heap[gp]? = some (.cells #[.bool false, .bool true, .int .i64 at_, .int .i64 0, .int .i64 0, .int .i64 cc, .int .i64 nn] 75 (0, 0))) := ⟨by rw [← hw4]; exact blk_set (blk_set HP3.out 5 _) 6 _⟩
        have HR4 : Aside0 (w4.heap[gr]? = some (.cells #[.bool false, .bool false, .int .i64 0, .int .i64 0, .int .i64 0, .int .i64 0, .int .i64 0] 75 (0, 0))) := ⟨by rw [← hw4]; exact blk_far (blk_far HR3.out (p := ⟨gp, 5, none⟩) (by show gr ≠ gp; have := HN.out; omega) _) (p := ⟨gp, 6, none⟩) (by show gr ≠ gp; have := HN.out; omega) _⟩
        have HB4 : Aside0 (Below w.heap.size w w4) := ⟨by rw [← hw4]; exact Below.setCell (Below.setCell HB3.out (p := ⟨gp, 5, none⟩) HN.out.2.2.2.2 _) (p := ⟨gp, 6, none⟩) HN.out.2.2.2.2 _⟩
        have HX5 : Aside0 (w4.cell? ⟨L.gx, 5, none⟩ = some (.int .i64 X.words)) := ⟨by
          rw [← hw4]; exact (blk_cell (blk_far (blk_far H3.out.xc (p := ⟨gp, 5, none⟩) HN.out.2.1 _) (p := ⟨gp, 6, none⟩) HN.out.2.1 _) 5).trans rfl⟩
        clear hw4 ec
        have hsz : 0 ≤ sizeM cc nn ∧ sizeM cc nn < 4294967296 := by unfold sizeM; split; omega; split; omega; split; omega; split; omega; split; omega; split <;> omega
        have HSZ := Aside0.mk hsz
        obtain ⟨sz, hs⟩ : ∃ sz, sizeM cc nn = sz := ⟨_, rfl⟩
        rw [hs] at HSZ HP' hsz
        have k2 : IntKind.i64.wrap (at_ + sz) = at_ + sz := by rw [IntKind.wrap_i64]; have := HWD.out; omega
        obtain ⟨q, hq⟩ : ∃ q, decide (at_ + sz ≤ X.words) = q := ⟨_, rfl⟩
        have hpq : p = (⟨false, true, at_, 0, 0, cc, nn⟩, q) := by rw [← HP'.out, ← hq]; rfl
        subst hpq
        have p5 : w4.cell? ⟨gp, 5, none⟩ = some (.int .i64 cc) := (blk_cell HP4.out 5).trans rfl
        have p6 : w4.cell? ⟨gp, 6, none⟩ = some (.int .i64 nn) := (blk_cell HP4.out 6).trans rfl
        have c8 : (cc = 0 ∧ sz = 0) ∨ (cc = 1 ∧ sz = (nn + 63) / 64) ∨ (cc = 2 ∧ sz = (nn + 7) / 8) ∨ (cc = 3 ∧ sz = (nn * 2 + 7) / 8) ∨ (cc = 4 ∧ sz = (nn * 4 + 7) / 8) ∨ (cc = 5 ∧ sz = nn) ∨ (cc = 6 ∧ sz = nn) ∨ (cc = 7 ∧ sz = nn + 1) := by
          have c9 : cc = 0 ∨ cc = 1 ∨ cc = 2 ∨ cc = 3 ∨ cc = 4 ∨ cc = 5 ∨ cc = 6 ∨ cc = 7 := by omega
          rcases c9 with e | e | e | e | e | e | e | e <;> rw [← hs, e] <;> simp [sizeM]
        clear hs p5 p6
        rcases c8 with ⟨rfl, rfl⟩ | ⟨rfl, rfl⟩ | ⟨rfl, rfl⟩ | ⟨rfl, rfl⟩ | ⟨rfl, rfl⟩ | ⟨rfl, rfl⟩ | ⟨rfl, rfl⟩ | ⟨rfl, rfl⟩
        · have p0 : w4.cell? ⟨gp, 0, none⟩ = some (.bool false) := (blk_cell HP4.out 0).trans rfl
          have p1 : w4.cell? ⟨gp, 1, none⟩ = some (.bool true) := (blk_cell HP4.out 1).trans rfl
          have p2 : w4.cell? ⟨gp, 2, none⟩ = some (.int .i64 at_) := (blk_cell HP4.out 2).trans rfl
          have p3 : w4.cell? ⟨gp, 3, none⟩ = some (.int .i64 0) := (blk_cell HP4.out 3).trans rfl
          have p4 : w4.cell? ⟨gp, 4, none⟩ = some (.int .i64 0) := (blk_cell HP4.out 4).trans rfl
          have p5 : w4.cell? ⟨gp, 5, none⟩ = some (.int .i64 0) := (blk_cell HP4.out 5).trans rfl
          have p6 : w4.cell? ⟨gp, 6, none⟩ = some (.int .i64 nn) := (blk_cell HP4.out 6).trans rfl
          go_upto_region 23 with (fail)
          have x5 := HX5.out
          have HR5 : Aside0 (w4.drew.heap[gr]? = some (.cells #[.bool false, .bool false, .int .i64 0, .int .i64 0, .int .i64 0, .int .i64 0, .int .i64 0] 75 (0, 0))) := ⟨HR4.out⟩
          obtain ⟨⟨r0, f0⟩, ⟨r1, f1⟩, ⟨r2, f2⟩, ⟨r3, f3⟩, ⟨r4, f4⟩, ⟨r5, f5⟩, ⟨r6, f6⟩⟩ := put7f (.bool false) (.bool true) (.int .i64 at_) (.int .i64 0) (.int .i64 0) (.int .i64 0) (.int .i64 nn) HR4.out
          have n1 : gp ≠ gr := by have := HN.out; omega
          have n2 : gr ≠ gp := by have := HN.out; omega
          have n3 : L.gx ≠ gr := by have := HN.out; omega
          have n4 : gr ≠ L.gx := by have := HN.out; omega
          go_region_held3 (fun W => W.cell? ⟨gp, 0, none⟩ = some (.bool false) ∧ W.cell? ⟨gp, 1, none⟩ = some (.bool true) ∧ W.cell? ⟨gp, 2, none⟩ = some (.int .i64 at_) ∧ W.cell? ⟨gp, 3, none⟩ = some (.int .i64 0) ∧ W.cell? ⟨gp, 4, none⟩ = some (.int .i64 0) ∧ W.cell? ⟨gp, 5, none⟩ = some (.int .i64 0) ∧ W.cell? ⟨gp, 6, none⟩ = some (.int .i64 nn) ∧ W.cell? ⟨L.gx, 5, none⟩ = some (.int .i64 X.words))
            (first | go_keep | with_reducible exact ⟨p0, p1, p2, p3, p4, p5, p6, x5⟩)
            (fail)
          go_wp2_with (fail)
          obtain ⟨wy, hwy⟩ : ∃ wy, (((((((w4.setCell ⟨gr, 0, none⟩ (.bool false)).setCell ⟨gr, 1, none⟩ (.bool true)).setCell ⟨gr, 2, none⟩ (.int .i64 at_)).setCell ⟨gr, 3, none⟩ (.int .i64 0)).setCell ⟨gr, 4, none⟩ (.int .i64 0)).setCell ⟨gr, 5, none⟩ (.int .i64 0)).setCell ⟨gr, 6, none⟩ (.int .i64 nn)) = wy := ⟨_, rfl⟩
          rw [hwy]
          obtain ⟨⟨y0, y1, y2, y3, y4, y5, y6⟩, hbz⟩ := put7 (B := w.heap.size) HR4.out HB4.out (by have := HN.out; omega) hwy
          have z0 : wy.drew.cell? ⟨gr, 0, none⟩ = some (.bool false) := y0
          have z1 : wy.drew.cell? ⟨gr, 1, none⟩ = some (.bool true) := y1
          have z2 : wy.drew.cell? ⟨gr, 2, none⟩ = some (.int .i64 at_) := y2
          have z3 : wy.drew.cell? ⟨gr, 3, none⟩ = some (.int .i64 0) := y3
          have z4 : wy.drew.cell? ⟨gr, 4, none⟩ = some (.int .i64 0) := y4
          have z5 : wy.drew.cell? ⟨gr, 5, none⟩ = some (.int .i64 0) := y5
          have z6 : wy.drew.cell? ⟨gr, 6, none⟩ = some (.int .i64 nn) := y6
          have hbd : Below w.heap.size w wy.drew := below_then hbz hbz.size (below_drew (Below.refl wy.heap.size wy))
          clear y0 y1 y2 y3 y4 y5 y6 hbz
          have hq0 : decide (IntKind.i64.wrap at_ ≤ X.words) = q := by have k3 := k2; rw [Int.add_zero] at k3; rw [k3, ← hq, Int.add_zero]
          exact bodyPost_ret (v := .tuple #[.agg #[.bool false, .bool true, .int .i64 at_, .int .i64 0, .int .i64 0, .int .i64 0, .int .i64 nn], .bool q]) (by simp [results, Try.results18, go_sem, z0, z1, z2, z3, z4, z5, z6, hq0]) rfl ⟨rfl, by first | exact hbd | exact hgr ▸ hbd⟩
        · have p0 : w4.cell? ⟨gp, 0, none⟩ = some (.bool false) := (blk_cell HP4.out 0).trans rfl
          have p1 : w4.cell? ⟨gp, 1, none⟩ = some (.bool true) := (blk_cell HP4.out 1).trans rfl
          have p2 : w4.cell? ⟨gp, 2, none⟩ = some (.int .i64 at_) := (blk_cell HP4.out 2).trans rfl
          have p3 : w4.cell? ⟨gp, 3, none⟩ = some (.int .i64 0) := (blk_cell HP4.out 3).trans rfl
          have p4 : w4.cell? ⟨gp, 4, none⟩ = some (.int .i64 0) := (blk_cell HP4.out 4).trans rfl
          have p5 : w4.cell? ⟨gp, 5, none⟩ = some (.int .i64 1) := (blk_cell HP4.out 5).trans rfl
          have p6 : w4.cell? ⟨gp, 6, none⟩ = some (.int .i64 nn) := (blk_cell HP4.out 6).trans rfl
          go_upto_region 23 with (fail)
          have x5 := HX5.out
          have HR5 : Aside0 (w4.drew.heap[gr]? = some (.cells #[.bool false, .bool false, .int .i64 0, .int .i64 0, .int .i64 0, .int .i64 0, .int .i64 0] 75 (0, 0))) := ⟨HR4.out⟩
          obtain ⟨⟨r0, f0⟩, ⟨r1, f1⟩, ⟨r2, f2⟩, ⟨r3, f3⟩, ⟨r4, f4⟩, ⟨r5, f5⟩, ⟨r6, f6⟩⟩ := put7f (.bool false) (.bool true) (.int .i64 at_) (.int .i64 0) (.int .i64 0) (.int .i64 1) (.int .i64 nn) HR4.out
          have n1 : gp ≠ gr := by have := HN.out; omega
          have n2 : gr ≠ gp := by have := HN.out; omega
          have n3 : L.gx ≠ gr := by have := HN.out; omega
          have n4 : gr ≠ L.gx := by have := HN.out; omega
          go_region_held3 (fun W => W.cell? ⟨gp, 0, none⟩ = some (.bool false) ∧ W.cell? ⟨gp, 1, none⟩ = some (.bool true) ∧ W.cell? ⟨gp, 2, none⟩ = some (.int .i64 at_) ∧ W.cell? ⟨gp, 3, none⟩ = some (.int .i64 0) ∧ W.cell? ⟨gp, 4, none⟩ = some (.int .i64 0) ∧ W.cell? ⟨gp, 5, none⟩ = some (.int .i64 1) ∧ W.cell? ⟨gp, 6, none⟩ = some (.int .i64 nn) ∧ W.cell? ⟨L.gx, 5, none⟩ = some (.int .i64 X.words))
            (first | go_keep | with_reducible exact ⟨p0, p1, p2, p3, p4, p5, p6, x5⟩)
            (fail)
          go_wp2_with (fail)
          obtain ⟨wy, hwy⟩ : ∃ wy, (((((((w4.setCell ⟨gr, 0, none⟩ (.bool false)).setCell ⟨gr, 1, none⟩ (.bool true)).setCell ⟨gr, 2, none⟩ (.int .i64 at_)).setCell ⟨gr, 3, none⟩ (.int .i64 0)).setCell ⟨gr, 4, none⟩ (.int .i64 0)).setCell ⟨gr, 5, none⟩ (.int .i64 1)).setCell ⟨gr, 6, none⟩ (.int .i64 nn)) = wy := ⟨_, rfl⟩
          rw [hwy]
          obtain ⟨⟨y0, y1, y2, y3, y4, y5, y6⟩, hbz⟩ := put7 (B := w.heap.size) HR4.out HB4.out (by have := HN.out; omega) hwy
          have z0 : wy.drew.cell? ⟨gr, 0, none⟩ = some (.bool false) := y0
          have z1 : wy.drew.cell? ⟨gr, 1, none⟩ = some (.bool true) := y1
          have z2 : wy.drew.cell? ⟨gr, 2, none⟩ = some (.int .i64 at_) := y2
          have z3 : wy.drew.cell? ⟨gr, 3, none⟩ = some (.int .i64 0) := y3
          have z4 : wy.drew.cell? ⟨gr, 4, none⟩ = some (.int .i64 0) := y4
          have z5 : wy.drew.cell? ⟨gr, 5, none⟩ = some (.int .i64 1) := y5
          have z6 : wy.drew.cell? ⟨gr, 6, none⟩ = some (.int .i64 nn) := y6
          have hbd : Below w.heap.size w wy.drew := below_then hbz hbz.size (below_drew (Below.refl wy.heap.size wy))
          clear y0 y1 y2 y3 y4 y5 y6 hbz
          exact bodyPost_ret (v := .tuple #[.agg #[.bool false, .bool true, .int .i64 at_, .int .i64 0, .int .i64 0, .int .i64 1, .int .i64 nn], .bool q]) (by simp [results, Try.results18, go_sem, z0, z1, z2, z3, z4, z5, z6]) rfl ⟨rfl, by first | exact hbd | exact hgr ▸ hbd⟩
        · have p0 : w4.cell? ⟨gp, 0, none⟩ = some (.bool false) := (blk_cell HP4.out 0).trans rfl
          have p1 : w4.cell? ⟨gp, 1, none⟩ = some (.bool true) := (blk_cell HP4.out 1).trans rfl
          have p2 : w4.cell? ⟨gp, 2, none⟩ = some (.int .i64 at_) := (blk_cell HP4.out 2).trans rfl
          have p3 : w4.cell? ⟨gp, 3, none⟩ = some (.int .i64 0) := (blk_cell HP4.out 3).trans rfl
          have p4 : w4.cell? ⟨gp, 4, none⟩ = some (.int .i64 0) := (blk_cell HP4.out 4).trans rfl
          have p5 : w4.cell? ⟨gp, 5, none⟩ = some (.int .i64 2) := (blk_cell HP4.out 5).trans rfl
          have p6 : w4.cell? ⟨gp, 6, none⟩ = some (.int .i64 nn) := (blk_cell HP4.out 6).trans rfl
          go_upto_region 23 with (fail)
          have x5 := HX5.out
          have HR5 : Aside0 (w4.drew.heap[gr]? = some (.cells #[.bool false, .bool false, .int .i64 0, .int .i64 0, .int .i64 0, .int .i64 0, .int .i64 0] 75 (0, 0))) := ⟨HR4.out⟩
          obtain ⟨⟨r0, f0⟩, ⟨r1, f1⟩, ⟨r2, f2⟩, ⟨r3, f3⟩, ⟨r4, f4⟩, ⟨r5, f5⟩, ⟨r6, f6⟩⟩ := put7f (.bool false) (.bool true) (.int .i64 at_) (.int .i64 0) (.int .i64 0) (.int .i64 2) (.int .i64 nn) HR4.out
          have n1 : gp ≠ gr := by have := HN.out; omega
          have n2 : gr ≠ gp := by have := HN.out; omega
          have n3 : L.gx ≠ gr := by have := HN.out; omega
          have n4 : gr ≠ L.gx := by have := HN.out; omega
          go_region_held3 (fun W => W.cell? ⟨gp, 0, none⟩ = some (.bool false) ∧ W.cell? ⟨gp, 1, none⟩ = some (.bool true) ∧ W.cell? ⟨gp, 2, none⟩ = some (.int .i64 at_) ∧ W.cell? ⟨gp, 3, none⟩ = some (.int .i64 0) ∧ W.cell? ⟨gp, 4, none⟩ = some (.int .i64 0) ∧ W.cell? ⟨gp, 5, none⟩ = some (.int .i64 2) ∧ W.cell? ⟨gp, 6, none⟩ = some (.int .i64 nn) ∧ W.cell? ⟨L.gx, 5, none⟩ = some (.int .i64 X.words))
            (first | go_keep | with_reducible exact ⟨p0, p1, p2, p3, p4, p5, p6, x5⟩)
            (fail)
          go_wp2_with (fail)
          obtain ⟨wy, hwy⟩ : ∃ wy, (((((((w4.setCell ⟨gr, 0, none⟩ (.bool false)).setCell ⟨gr, 1, none⟩ (.bool true)).setCell ⟨gr, 2, none⟩ (.int .i64 at_)).setCell ⟨gr, 3, none⟩ (.int .i64 0)).setCell ⟨gr, 4, none⟩ (.int .i64 0)).setCell ⟨gr, 5, none⟩ (.int .i64 2)).setCell ⟨gr, 6, none⟩ (.int .i64 nn)) = wy := ⟨_, rfl⟩
          rw [hwy]
          obtain ⟨⟨y0, y1, y2, y3, y4, y5, y6⟩, hbz⟩ := put7 (B := w.heap.size) HR4.out HB4.out (by have := HN.out; omega) hwy
          have z0 : wy.drew.cell? ⟨gr, 0, none⟩ = some (.bool false) := y0
          have z1 : wy.drew.cell? ⟨gr, 1, none⟩ = some (.bool true) := y1
          have z2 : wy.drew.cell? ⟨gr, 2, none⟩ = some (.int .i64 at_) := y2
          have z3 : wy.drew.cell? ⟨gr, 3, none⟩ = some (.int .i64 0) := y3
          have z4 : wy.drew.cell? ⟨gr, 4, none⟩ = some (.int .i64 0) := y4
          have z5 : wy.drew.cell? ⟨gr, 5, none⟩ = some (.int .i64 2) := y5
          have z6 : wy.drew.cell? ⟨gr, 6, none⟩ = some (.int .i64 nn) := y6
          have hbd : Below w.heap.size w wy.drew := below_then hbz hbz.size (below_drew (Below.refl wy.heap.size wy))
          clear y0 y1 y2 y3 y4 y5 y6 hbz
          exact bodyPost_ret (v := .tuple #[.agg #[.bool false, .bool true, .int .i64 at_, .int .i64 0, .int .i64 0, .int .i64 2, .int .i64 nn], .bool q]) (by simp [results, Try.results18, go_sem, z0, z1, z2, z3, z4, z5, z6]) rfl ⟨rfl, by first | exact hbd | exact hgr ▸ hbd⟩
        · have p0 : w4.cell? ⟨gp, 0, none⟩ = some (.bool false) := (blk_cell HP4.out 0).trans rfl
          have p1 : w4.cell? ⟨gp, 1, none⟩ = some (.bool true) := (blk_cell HP4.out 1).trans rfl
          have p2 : w4.cell? ⟨gp, 2, none⟩ = some (.int .i64 at_) := (blk_cell HP4.out 2).trans rfl
          have p3 : w4.cell? ⟨gp, 3, none⟩ = some (.int .i64 0) := (blk_cell HP4.out 3).trans rfl
          have p4 : w4.cell? ⟨gp, 4, none⟩ = some (.int .i64 0) := (blk_cell HP4.out 4).trans rfl
          have p5 : w4.cell? ⟨gp, 5, none⟩ = some (.int .i64 3) := (blk_cell HP4.out 5).trans rfl
          have p6 : w4.cell? ⟨gp, 6, none⟩ = some (.int .i64 nn) := (blk_cell HP4.out 6).trans rfl
          go_upto_region 23 with (fail)
          have x5 := HX5.out
          have HR5 : Aside0 (w4.drew.heap[gr]? = some (.cells #[.bool false, .bool false, .int .i64 0, .int .i64 0, .int .i64 0, .int .i64 0, .int .i64 0] 75 (0, 0))) := ⟨HR4.out⟩
          obtain ⟨⟨r0, f0⟩, ⟨r1, f1⟩, ⟨r2, f2⟩, ⟨r3, f3⟩, ⟨r4, f4⟩, ⟨r5, f5⟩, ⟨r6, f6⟩⟩ := put7f (.bool false) (.bool true) (.int .i64 at_) (.int .i64 0) (.int .i64 0) (.int .i64 3) (.int .i64 nn) HR4.out
          have n1 : gp ≠ gr := by have := HN.out; omega
          have n2 : gr ≠ gp := by have := HN.out; omega
          have n3 : L.gx ≠ gr := by have := HN.out; omega
          have n4 : gr ≠ L.gx := by have := HN.out; omega
          go_region_held3 (fun W => W.cell? ⟨gp, 0, none⟩ = some (.bool false) ∧ W.cell? ⟨gp, 1, none⟩ = some (.bool true) ∧ W.cell? ⟨gp, 2, none⟩ = some (.int .i64 at_) ∧ W.cell? ⟨gp, 3, none⟩ = some (.int .i64 0) ∧ W.cell? ⟨gp, 4, none⟩ = some (.int .i64 0) ∧ W.cell? ⟨gp, 5, none⟩ = some (.int .i64 3) ∧ W.cell? ⟨gp, 6, none⟩ = some (.int .i64 nn) ∧ W.cell? ⟨L.gx, 5, none⟩ = some (.int .i64 X.words))
            (first | go_keep | with_reducible exact ⟨p0, p1, p2, p3, p4, p5, p6, x5⟩)
            (fail)
          go_wp2_with (fail)
          obtain ⟨wy, hwy⟩ : ∃ wy, (((((((w4.setCell ⟨gr, 0, none⟩ (.bool false)).setCell ⟨gr, 1, none⟩ (.bool true)).setCell ⟨gr, 2, none⟩ (.int .i64 at_)).setCell ⟨gr, 3, none⟩ (.int .i64 0)).setCell ⟨gr, 4, none⟩ (.int .i64 0)).setCell ⟨gr, 5, none⟩ (.int .i64 3)).setCell ⟨gr, 6, none⟩ (.int .i64 nn)) = wy := ⟨_, rfl⟩
          rw [hwy]
          obtain ⟨⟨y0, y1, y2, y3, y4, y5, y6⟩, hbz⟩ := put7 (B := w.heap.size) HR4.out HB4.out (by have := HN.out; omega) hwy
          have z0 : wy.drew.cell? ⟨gr, 0, none⟩ = some (.bool false) := y0
          have z1 : wy.drew.cell? ⟨gr, 1, none⟩ = some (.bool true) := y1
          have z2 : wy.drew.cell? ⟨gr, 2, none⟩ = some (.int .i64 at_) := y2
          have z3 : wy.drew.cell? ⟨gr, 3, none⟩ = some (.int .i64 0) := y3
          have z4 : wy.drew.cell? ⟨gr, 4, none⟩ = some (.int .i64 0) := y4
          have z5 : wy.drew.cell? ⟨gr, 5, none⟩ = some (.int .i64 3) := y5
          have z6 : wy.drew.cell? ⟨gr, 6, none⟩ = some (.int .i64 nn) := y6
          have hbd : Below w.heap.size w wy.drew := below_then hbz hbz.size (below_drew (Below.refl wy.heap.size wy))
          clear y0 y1 y2 y3 y4 y5 y6 hbz
          exact bodyPost_ret (v := .tuple #[.agg #[.bool false, .bool true, .int .i64 at_, .int .i64 0, .int .i64 0, .int .i64 3, .int .i64 nn], .bool q]) (by simp [results, Try.results18, go_sem, z0, z1, z2, z3, z4, z5, z6]) rfl ⟨rfl, by first | exact hbd | exact hgr ▸ hbd⟩
        · have p0 : w4.cell? ⟨gp, 0, none⟩ = some (.bool false) := (blk_cell HP4.out 0).trans rfl
          have p1 : w4.cell? ⟨gp, 1, none⟩ = some (.bool true) := (blk_cell HP4.out 1).trans rfl
          have p2 : w4.cell? ⟨gp, 2, none⟩ = some (.int .i64 at_) := (blk_cell HP4.out 2).trans rfl
          have p3 : w4.cell? ⟨gp, 3, none⟩ = some (.int .i64 0) := (blk_cell HP4.out 3).trans rfl
          have p4 : w4.cell? ⟨gp, 4, none⟩ = some (.int .i64 0) := (blk_cell HP4.out 4).trans rfl
          have p5 : w4.cell? ⟨gp, 5, none⟩ = some (.int .i64 4) := (blk_cell HP4.out 5).trans rfl
          have p6 : w4.cell? ⟨gp, 6, none⟩ = some (.int .i64 nn) := (blk_cell HP4.out 6).trans rfl
          go_upto_region 23 with (fail)
          have x5 := HX5.out
          have HR5 : Aside0 (w4.drew.heap[gr]? = some (.cells #[.bool false, .bool false, .int .i64 0, .int .i64 0, .int .i64 0, .int .i64 0, .int .i64 0] 75 (0, 0))) := ⟨HR4.out⟩
          obtain ⟨⟨r0, f0⟩, ⟨r1, f1⟩, ⟨r2, f2⟩, ⟨r3, f3⟩, ⟨r4, f4⟩, ⟨r5, f5⟩, ⟨r6, f6⟩⟩ := put7f (.bool false) (.bool true) (.int .i64 at_) (.int .i64 0) (.int .i64 0) (.int .i64 4) (.int .i64 nn) HR4.out
          have n1 : gp ≠ gr := by have := HN.out; omega
          have n2 : gr ≠ gp := by have := HN.out; omega
          have n3 : L.gx ≠ gr := by have := HN.out; omega
          have n4 : gr ≠ L.gx := by have := HN.out; omega
          go_region_held3 (fun W => W.cell? ⟨gp, 0, none⟩ = some (.bool false) ∧ W.cell? ⟨gp, 1, none⟩ = some (.bool true) ∧ W.cell? ⟨gp, 2, none⟩ = some (.int .i64 at_) ∧ W.cell? ⟨gp, 3, none⟩ = some (.int .i64 0) ∧ W.cell? ⟨gp, 4, none⟩ = some (.int .i64 0) ∧ W.cell? ⟨gp, 5, none⟩ = some (.int .i64 4) ∧ W.cell? ⟨gp, 6, none⟩ = some (.int .i64 nn) ∧ W.cell? ⟨L.gx, 5, none⟩ = some (.int .i64 X.words))
            (first | go_keep | with_reducible exact ⟨p0, p1, p2, p3, p4, p5, p6, x5⟩)
            (fail)
          go_wp2_with (fail)
          obtain ⟨wy, hwy⟩ : ∃ wy, (((((((w4.setCell ⟨gr, 0, none⟩ (.bool false)).setCell ⟨gr, 1, none⟩ (.bool true)).setCell ⟨gr, 2, none⟩ (.int .i64 at_)).setCell ⟨gr, 3, none⟩ (.int .i64 0)).setCell ⟨gr, 4, none⟩ (.int .i64 0)).setCell ⟨gr, 5, none⟩ (.int .i64 4)).setCell ⟨gr, 6, none⟩ (.int .i64 nn)) = wy := ⟨_, rfl⟩
          rw [hwy]
          obtain ⟨⟨y0, y1, y2, y3, y4, y5, y6⟩, hbz⟩ := put7 (B := w.heap.size) HR4.out HB4.out (by have := HN.out; omega) hwy
          have z0 : wy.drew.cell? ⟨gr, 0, none⟩ = some (.bool false) := y0
          have z1 : wy.drew.cell? ⟨gr, 1, none⟩ = some (.bool true) := y1
          have z2 : wy.drew.cell? ⟨gr, 2, none⟩ = some (.int .i64 at_) := y2
          have z3 : wy.drew.cell? ⟨gr, 3, none⟩ = some (.int .i64 0) := y3
          have z4 : wy.drew.cell? ⟨gr, 4, none⟩ = some (.int .i64 0) := y4
          have z5 : wy.drew.cell? ⟨gr, 5, none⟩ = some (.int .i64 4) := y5
          have z6 : wy.drew.cell? ⟨gr, 6, none⟩ = some (.int .i64 nn) := y6
          have hbd : Below w.heap.size w wy.drew := below_then hbz hbz.size (below_drew (Below.refl wy.heap.size wy))
          clear y0 y1 y2 y3 y4 y5 y6 hbz
          exact bodyPost_ret (v := .tuple #[.agg #[.bool false, .bool true, .int .i64 at_, .int .i64 0, .int .i64 0, .int .i64 4, .int .i64 nn], .bool q]) (by simp [results, Try.results18, go_sem, z0, z1, z2, z3, z4, z5, z6]) rfl ⟨rfl, by first | exact hbd | exact hgr ▸ hbd⟩
        · have p0 : w4.cell? ⟨gp, 0, none⟩ = some (.bool false) := (blk_cell HP4.out 0).trans rfl
          have p1 : w4.cell? ⟨gp, 1, none⟩ = some (.bool true) := (blk_cell HP4.out 1).trans rfl
          have p2 : w4.cell? ⟨gp, 2, none⟩ = some (.int .i64 at_) := (blk_cell HP4.out 2).trans rfl
          have p3 : w4.cell? ⟨gp, 3, none⟩ = some (.int .i64 0) := (blk_cell HP4.out 3).trans rfl
          have p4 : w4.cell? ⟨gp, 4, none⟩ = some (.int .i64 0) := (blk_cell HP4.out 4).trans rfl
          have p5 : w4.cell? ⟨gp, 5, none⟩ = some (.int .i64 5) := (blk_cell HP4.out 5).trans rfl
          have p6 : w4.cell? ⟨gp, 6, none⟩ = some (.int .i64 sz) := (blk_cell HP4.out 6).trans rfl
          go_upto_region 23 with (fail)
          have x5 := HX5.out
          have HR5 : Aside0 (w4.drew.heap[gr]? = some (.cells #[.bool false, .bool false, .int .i64 0, .int .i64 0, .int .i64 0, .int .i64 0, .int .i64 0] 75 (0, 0))) := ⟨HR4.out⟩
          obtain ⟨⟨r0, f0⟩, ⟨r1, f1⟩, ⟨r2, f2⟩, ⟨r3, f3⟩, ⟨r4, f4⟩, ⟨r5, f5⟩, ⟨r6, f6⟩⟩ := put7f (.bool false) (.bool true) (.int .i64 at_) (.int .i64 0) (.int .i64 0) (.int .i64 5) (.int .i64 sz) HR4.out
          have n1 : gp ≠ gr := by have := HN.out; omega
          have n2 : gr ≠ gp := by have := HN.out; omega
          have n3 : L.gx ≠ gr := by have := HN.out; omega
          have n4 : gr ≠ L.gx := by have := HN.out; omega
          go_region_held3 (fun W => W.cell? ⟨gp, 0, none⟩ = some (.bool false) ∧ W.cell? ⟨gp, 1, none⟩ = some (.bool true) ∧ W.cell? ⟨gp, 2, none⟩ = some (.int .i64 at_) ∧ W.cell? ⟨gp, 3, none⟩ = some (.int .i64 0) ∧ W.cell? ⟨gp, 4, none⟩ = some (.int .i64 0) ∧ W.cell? ⟨gp, 5, none⟩ = some (.int .i64 5) ∧ W.cell? ⟨gp, 6, none⟩ = some (.int .i64 sz) ∧ W.cell? ⟨L.gx, 5, none⟩ = some (.int .i64 X.words))
            (first | go_keep | with_reducible exact ⟨p0, p1, p2, p3, p4, p5, p6, x5⟩)
            (fail)
          go_wp2_with (fail)
          obtain ⟨wy, hwy⟩ : ∃ wy, (((((((w4.setCell ⟨gr, 0, none⟩ (.bool false)).setCell ⟨gr, 1, none⟩ (.bool true)).setCell ⟨gr, 2, none⟩ (.int .i64 at_)).setCell ⟨gr, 3, none⟩ (.int .i64 0)).setCell ⟨gr, 4, none⟩ (.int .i64 0)).setCell ⟨gr, 5, none⟩ (.int .i64 5)).setCell ⟨gr, 6, none⟩ (.int .i64 sz)) = wy := ⟨_, rfl⟩
          rw [hwy]
          obtain ⟨⟨y0, y1, y2, y3, y4, y5, y6⟩, hbz⟩ := put7 (B := w.heap.size) HR4.out HB4.out (by have := HN.out; omega) hwy
          have z0 : wy.drew.cell? ⟨gr, 0, none⟩ = some (.bool false) := y0
          have z1 : wy.drew.cell? ⟨gr, 1, none⟩ = some (.bool true) := y1
          have z2 : wy.drew.cell? ⟨gr, 2, none⟩ = some (.int .i64 at_) := y2
          have z3 : wy.drew.cell? ⟨gr, 3, none⟩ = some (.int .i64 0) := y3
          have z4 : wy.drew.cell? ⟨gr, 4, none⟩ = some (.int .i64 0) := y4
          have z5 : wy.drew.cell? ⟨gr, 5, none⟩ = some (.int .i64 5) := y5
          have z6 : wy.drew.cell? ⟨gr, 6, none⟩ = some (.int .i64 sz) := y6
          have hbd : Below w.heap.size w wy.drew := below_then hbz hbz.size (below_drew (Below.refl wy.heap.size wy))
          clear y0 y1 y2 y3 y4 y5 y6 hbz
          exact bodyPost_ret (v := .tuple #[.agg #[.bool false, .bool true, .int .i64 at_, .int .i64 0, .int .i64 0, .int .i64 5, .int .i64 sz], .bool q]) (by simp [results, Try.results18, go_sem, z0, z1, z2, z3, z4, z5, z6]) rfl ⟨rfl, by first | exact hbd | exact hgr ▸ hbd⟩
        · have p0 : w4.cell? ⟨gp, 0, none⟩ = some (.bool false) := (blk_cell HP4.out 0).trans rfl
          have p1 : w4.cell? ⟨gp, 1, none⟩ = some (.bool true) := (blk_cell HP4.out 1).trans rfl
          have p2 : w4.cell? ⟨gp, 2, none⟩ = some (.int .i64 at_) := (blk_cell HP4.out 2).trans rfl
          have p3 : w4.cell? ⟨gp, 3, none⟩ = some (.int .i64 0) := (blk_cell HP4.out 3).trans rfl
          have p4 : w4.cell? ⟨gp, 4, none⟩ = some (.int .i64 0) := (blk_cell HP4.out 4).trans rfl
          have p5 : w4.cell? ⟨gp, 5, none⟩ = some (.int .i64 6) := (blk_cell HP4.out 5).trans rfl
          have p6 : w4.cell? ⟨gp, 6, none⟩ = some (.int .i64 sz) := (blk_cell HP4.out 6).trans rfl
          go_upto_region 23 with (fail)
          have x5 := HX5.out
          have HR5 : Aside0 (w4.drew.heap[gr]? = some (.cells #[.bool false, .bool false, .int .i64 0, .int .i64 0, .int .i64 0, .int .i64 0, .int .i64 0] 75 (0, 0))) := ⟨HR4.out⟩
          obtain ⟨⟨r0, f0⟩, ⟨r1, f1⟩, ⟨r2, f2⟩, ⟨r3, f3⟩, ⟨r4, f4⟩, ⟨r5, f5⟩, ⟨r6, f6⟩⟩ := put7f (.bool false) (.bool true) (.int .i64 at_) (.int .i64 0) (.int .i64 0) (.int .i64 6) (.int .i64 sz) HR4.out
          have n1 : gp ≠ gr := by have := HN.out; omega
          have n2 : gr ≠ gp := by have := HN.out; omega
          have n3 : L.gx ≠ gr := by have := HN.out; omega
          have n4 : gr ≠ L.gx := by have := HN.out; omega
          go_region_held3 (fun W => W.cell? ⟨gp, 0, none⟩ = some (.bool false) ∧ W.cell? ⟨gp, 1, none⟩ = some (.bool true) ∧ W.cell? ⟨gp, 2, none⟩ = some (.int .i64 at_) ∧ W.cell? ⟨gp, 3, none⟩ = some (.int .i64 0) ∧ W.cell? ⟨gp, 4, none⟩ = some (.int .i64 0) ∧ W.cell? ⟨gp, 5, none⟩ = some (.int .i64 6) ∧ W.cell? ⟨gp, 6, none⟩ = some (.int .i64 sz) ∧ W.cell? ⟨L.gx, 5, none⟩ = some (.int .i64 X.words))
            (first | go_keep | with_reducible exact ⟨p0, p1, p2, p3, p4, p5, p6, x5⟩)
            (fail)
          go_wp2_with (fail)
          obtain ⟨wy, hwy⟩ : ∃ wy, (((((((w4.setCell ⟨gr, 0, none⟩ (.bool false)).setCell ⟨gr, 1, none⟩ (.bool true)).setCell ⟨gr, 2, none⟩ (.int .i64 at_)).setCell ⟨gr, 3, none⟩ (.int .i64 0)).setCell ⟨gr, 4, none⟩ (.int .i64 0)).setCell ⟨gr, 5, none⟩ (.int .i64 6)).setCell ⟨gr, 6, none⟩ (.int .i64 sz)) = wy := ⟨_, rfl⟩
          rw [hwy]
          obtain ⟨⟨y0, y1, y2, y3, y4, y5, y6⟩, hbz⟩ := put7 (B := w.heap.size) HR4.out HB4.out (by have := HN.out; omega) hwy
          have z0 : wy.drew.cell? ⟨gr, 0, none⟩ = some (.bool false) := y0
          have z1 : wy.drew.cell? ⟨gr, 1, none⟩ = some (.bool true) := y1
          have z2 : wy.drew.cell? ⟨gr, 2, none⟩ = some (.int .i64 at_) := y2
          have z3 : wy.drew.cell? ⟨gr, 3, none⟩ = some (.int .i64 0) := y3
          have z4 : wy.drew.cell? ⟨gr, 4, none⟩ = some (.int .i64 0) := y4
          have z5 : wy.drew.cell? ⟨gr, 5, none⟩ = some (.int .i64 6) := y5
          have z6 : wy.drew.cell? ⟨gr, 6, none⟩ = some (.int .i64 sz) := y6
          have hbd : Below w.heap.size w wy.drew := below_then hbz hbz.size (below_drew (Below.refl wy.heap.size wy))
          clear y0 y1 y2 y3 y4 y5 y6 hbz
          exact bodyPost_ret (v := .tuple #[.agg #[.bool false, .bool true, .int .i64 at_, .int .i64 0, .int .i64 0, .int .i64 6, .int .i64 sz], .bool q]) (by simp [results, Try.results18, go_sem, z0, z1, z2, z3, z4, z5, z6]) rfl ⟨rfl, by first | exact hbd | exact hgr ▸ hbd⟩
        · have p0 : w4.cell? ⟨gp, 0, none⟩ = some (.bool false) := (blk_cell HP4.out 0).trans rfl
          have p1 : w4.cell? ⟨gp, 1, none⟩ = some (.bool true) := (blk_cell HP4.out 1).trans rfl
          have p2 : w4.cell? ⟨gp, 2, none⟩ = some (.int .i64 at_) := (blk_cell HP4.out 2).trans rfl
          have p3 : w4.cell? ⟨gp, 3, none⟩ = some (.int .i64 0) := (blk_cell HP4.out 3).trans rfl
          have p4 : w4.cell? ⟨gp, 4, none⟩ = some (.int .i64 0) := (blk_cell HP4.out 4).trans rfl
          have p5 : w4.cell? ⟨gp, 5, none⟩ = some (.int .i64 7) := (blk_cell HP4.out 5).trans rfl
          have p6 : w4.cell? ⟨gp, 6, none⟩ = some (.int .i64 nn) := (blk_cell HP4.out 6).trans rfl
          go_upto_region 23 with (fail)
          have x5 := HX5.out
          have HR5 : Aside0 (w4.drew.heap[gr]? = some (.cells #[.bool false, .bool false, .int .i64 0, .int .i64 0, .int .i64 0, .int .i64 0, .int .i64 0] 75 (0, 0))) := ⟨HR4.out⟩
          obtain ⟨⟨r0, f0⟩, ⟨r1, f1⟩, ⟨r2, f2⟩, ⟨r3, f3⟩, ⟨r4, f4⟩, ⟨r5, f5⟩, ⟨r6, f6⟩⟩ := put7f (.bool false) (.bool true) (.int .i64 at_) (.int .i64 0) (.int .i64 0) (.int .i64 7) (.int .i64 nn) HR4.out
          have n1 : gp ≠ gr := by have := HN.out; omega
          have n2 : gr ≠ gp := by have := HN.out; omega
          have n3 : L.gx ≠ gr := by have := HN.out; omega
          have n4 : gr ≠ L.gx := by have := HN.out; omega
          go_region_held3 (fun W => W.cell? ⟨gp, 0, none⟩ = some (.bool false) ∧ W.cell? ⟨gp, 1, none⟩ = some (.bool true) ∧ W.cell? ⟨gp, 2, none⟩ = some (.int .i64 at_) ∧ W.cell? ⟨gp, 3, none⟩ = some (.int .i64 0) ∧ W.cell? ⟨gp, 4, none⟩ = some (.int .i64 0) ∧ W.cell? ⟨gp, 5, none⟩ = some (.int .i64 7) ∧ W.cell? ⟨gp, 6, none⟩ = some (.int .i64 nn) ∧ W.cell? ⟨L.gx, 5, none⟩ = some (.int .i64 X.words))
            (first | go_keep | with_reducible exact ⟨p0, p1, p2, p3, p4, p5, p6, x5⟩)
            (fail)
          go_wp2_with (fail)
          obtain ⟨wy, hwy⟩ : ∃ wy, (((((((w4.setCell ⟨gr, 0, none⟩ (.bool false)).setCell ⟨gr, 1, none⟩ (.bool true)).setCell ⟨gr, 2, none⟩ (.int .i64 at_)).setCell ⟨gr, 3, none⟩ (.int .i64 0)).setCell ⟨gr, 4, none⟩ (.int .i64 0)).setCell ⟨gr, 5, none⟩ (.int .i64 7)).setCell ⟨gr, 6, none⟩ (.int .i64 nn)) = wy := ⟨_, rfl⟩
          rw [hwy]
          obtain ⟨⟨y0, y1, y2, y3, y4, y5, y6⟩, hbz⟩ := put7 (B := w.heap.size) HR4.out HB4.out (by have := HN.out; omega) hwy
          have z0 : wy.drew.cell? ⟨gr, 0, none⟩ = some (.bool false) := y0
          have z1 : wy.drew.cell? ⟨gr, 1, none⟩ = some (.bool true) := y1
          have z2 : wy.drew.cell? ⟨gr, 2, none⟩ = some (.int .i64 at_) := y2
          have z3 : wy.drew.cell? ⟨gr, 3, none⟩ = some (.int .i64 0) := y3
          have z4 : wy.drew.cell? ⟨gr, 4, none⟩ = some (.int .i64 0) := y4
          have z5 : wy.drew.cell? ⟨gr, 5, none⟩ = some (.int .i64 7) := y5
          have z6 : wy.drew.cell? ⟨gr, 6, none⟩ = some (.int .i64 nn) := y6
          have hbd : Below w.heap.size w wy.drew := below_then hbz hbz.size (below_drew (Below.refl wy.heap.size wy))
          clear y0 y1 y2 y3 y4 y5 y6 hbz
          exact bodyPost_ret (v := .tuple #[.agg #[.bool false, .bool true, .int .i64 at_, .int .i64 0, .int .i64 0, .int .i64 7, .int .i64 nn], .bool q]) (by simp [results, Try.results18, go_sem, z0, z1, z2, z3, z4, z5, z6]) rfl ⟨rfl, by first | exact hbd | exact hgr ▸ hbd⟩
      · have y3 := blk_frozen HP3.out 3
        have y4 := blk_frozen HP3.out 4
        have p3 : w3.cell? ⟨gp, 3, none⟩ = some (.int .i64 0) := (blk_cell HP3.out 3).trans rfl
        have p4 : w3.cell? ⟨gp, 4, none⟩ = some (.int .i64 0) := (blk_cell HP3.out 4).trans rfl
        go_upto_region 9 with (fail)
        clear y3 y4 p1 p3 p4
        obtain ⟨w4, hw4⟩ : ∃ w4, (w3.setCell ⟨gp, 3, none⟩ (.int .i64 dd)).setCell ⟨gp, 4, none⟩ (.int .i64 pp) = w4 := ⟨_, rfl⟩
        rw [hw4]
        have HP4 : Aside0 (w4.heap[gp]? = some (.cells #[.bool false, .bool false, .int .i64 at_, .int .i64 dd, .int .i64 pp, .int .i64 0, .int .i64 0] 75 (0, 0))) := ⟨by rw [← hw4]; exact blk_set (blk_set HP3.out 3 _) 4 _⟩
        have HR4 : Aside0 (w4.heap[gr]? = some (.cells #[.bool false, .bool false, .int .i64 0, .int .i64 0, .int .i64 0, .int .i64 0, .int .i64 0] 75 (0, 0))) := ⟨by rw [← hw4]; exact blk_far (blk_far HR3.out (p := ⟨gp, 3, none⟩) (by show gr ≠ gp; have := HN.out; omega) _) (p := ⟨gp, 4, none⟩) (by show gr ≠ gp; have := HN.out; omega) _⟩
        have HB4 : Aside0 (Below w.heap.size w w4) := ⟨by rw [← hw4]; exact Below.setCell (Below.setCell HB3.out (p := ⟨gp, 3, none⟩) HN.out.2.2.2.2 _) (p := ⟨gp, 4, none⟩) HN.out.2.2.2.2 _⟩
        have x5 : w4.cell? ⟨L.gx, 5, none⟩ = some (.int .i64 X.words) := by
          rw [← hw4]; exact (blk_cell (blk_far (blk_far H3.out.xc (p := ⟨gp, 3, none⟩) HN.out.2.1 _) (p := ⟨gp, 4, none⟩) HN.out.2.1 _) 5).trans rfl
        clear hw4
        have k1 : IntKind.i64.wrap (at_ + dd) = at_ + dd := by rw [IntKind.wrap_i64]; have := HWD.out; omega
        have k2 : IntKind.i64.wrap (at_ + dd + pp) = at_ + dd + pp := by rw [IntKind.wrap_i64]; have := HWD.out; omega
        obtain ⟨q, hq⟩ : ∃ q, decide (at_ + dd + pp ≤ X.words) = q := ⟨_, rfl⟩
        have p0 : w4.cell? ⟨gp, 0, none⟩ = some (.bool false) := (blk_cell HP4.out 0).trans rfl
        have p1 : w4.cell? ⟨gp, 1, none⟩ = some (.bool false) := (blk_cell HP4.out 1).trans rfl
        have p2 : w4.cell? ⟨gp, 2, none⟩ = some (.int .i64 at_) := (blk_cell HP4.out 2).trans rfl
        have p3 : w4.cell? ⟨gp, 3, none⟩ = some (.int .i64 dd) := (blk_cell HP4.out 3).trans rfl
        have p4 : w4.cell? ⟨gp, 4, none⟩ = some (.int .i64 pp) := (blk_cell HP4.out 4).trans rfl
        have p5 : w4.cell? ⟨gp, 5, none⟩ = some (.int .i64 0) := (blk_cell HP4.out 5).trans rfl
        have p6 : w4.cell? ⟨gp, 6, none⟩ = some (.int .i64 0) := (blk_cell HP4.out 6).trans rfl
        have HR5 : Aside0 (w4.drew.heap[gr]? = some (.cells #[.bool false, .bool false, .int .i64 0, .int .i64 0, .int .i64 0, .int .i64 0, .int .i64 0] 75 (0, 0))) := ⟨HR4.out⟩
        have HB5 : Aside0 (Below w.heap.size w w4.drew) := ⟨below_then HB4.out HB4.out.size (below_drew (Below.refl w4.heap.size w4))⟩
        have hpq : p = (⟨false, false, at_, dd, pp, 0, 0⟩, q) := by rw [← HP'.out, ← hq]; rfl
        subst hpq
        obtain ⟨⟨r0, f0⟩, ⟨r1, f1⟩, ⟨r2, f2⟩, ⟨r3, f3⟩, ⟨r4, f4⟩, ⟨r5, f5⟩, ⟨r6, f6⟩⟩ := put7f (.bool false) (.bool false) (.int .i64 at_) (.int .i64 dd) (.int .i64 pp) (.int .i64 0) (.int .i64 0) HR4.out
        have n1 : gp ≠ gr := by have := HN.out; omega
        have n2 : gr ≠ gp := by have := HN.out; omega
        have n3 : L.gx ≠ gr := by have := HN.out; omega
        have n4 : gr ≠ L.gx := by have := HN.out; omega
        go_region_held3 (fun W => W.cell? ⟨gp, 0, none⟩ = some (.bool false) ∧ W.cell? ⟨gp, 1, none⟩ = some (.bool false) ∧ W.cell? ⟨gp, 2, none⟩ = some (.int .i64 at_) ∧ W.cell? ⟨gp, 3, none⟩ = some (.int .i64 dd) ∧ W.cell? ⟨gp, 4, none⟩ = some (.int .i64 pp) ∧ W.cell? ⟨gp, 5, none⟩ = some (.int .i64 0) ∧ W.cell? ⟨gp, 6, none⟩ = some (.int .i64 0) ∧ W.cell? ⟨L.gx, 5, none⟩ = some (.int .i64 X.words))
          (first | go_keep | with_reducible exact ⟨p0, p1, p2, p3, p4, p5, p6, x5⟩)
          (fail)
        go_wp2_with (fail)
        obtain ⟨wy, hwy⟩ : ∃ wy, (((((((w4.setCell ⟨gr, 0, none⟩ (.bool false)).setCell ⟨gr, 1, none⟩ (.bool false)).setCell ⟨gr, 2, none⟩ (.int .i64 at_)).setCell ⟨gr, 3, none⟩ (.int .i64 dd)).setCell ⟨gr, 4, none⟩ (.int .i64 pp)).setCell ⟨gr, 5, none⟩ (.int .i64 0)).setCell ⟨gr, 6, none⟩ (.int .i64 0)) = wy := ⟨_, rfl⟩
        rw [hwy]
        obtain ⟨⟨y0, y1, y2, y3, y4, y5, y6⟩, hbz⟩ := put7 (B := w.heap.size) HR4.out HB4.out (by have := HN.out; omega) hwy
        have z0 : wy.drew.cell? ⟨gr, 0, none⟩ = some (.bool false) := y0
        have z1 : wy.drew.cell? ⟨gr, 1, none⟩ = some (.bool false) := y1
        have z2 : wy.drew.cell? ⟨gr, 2, none⟩ = some (.int .i64 at_) := y2
        have z3 : wy.drew.cell? ⟨gr, 3, none⟩ = some (.int .i64 dd) := y3
        have z4 : wy.drew.cell? ⟨gr, 4, none⟩ = some (.int .i64 pp) := y4
        have z5 : wy.drew.cell? ⟨gr, 5, none⟩ = some (.int .i64 0) := y5
        have z6 : wy.drew.cell? ⟨gr, 6, none⟩ = some (.int .i64 0) := y6
        have hbd : Below w.heap.size w wy.drew := below_then hbz hbz.size (below_drew (Below.refl wy.heap.size wy))
        clear y0 y1 y2 y3 y4 y5 y6 hbz
        exact bodyPost_ret (v := .tuple #[.agg #[.bool false, .bool false, .int .i64 at_, .int .i64 dd, .int .i64 pp, .int .i64 0, .int .i64 0], .bool q]) (by simp [results, Try.results18, go_sem, z0, z1, z2, z3, z4, z5, z6]) rfl ⟨rfl, by first | exact hbd | exact hgr ▸ hbd⟩
end Go.Proofs.Ytjgjidehlldfhaa.Hand
end

section
/- Layer 8, capread: the walks of small functions: a list's tag and length, a code, numbers. -/
namespace Go.Proofs.Ytjgjidehlldfhaa.Hand
open Go.RowKit Go.Proofs.Ytjgjidehlldfhaa.QAll Go.Proofs.YtjgjidehlldfhaaW.PrintWords Go.Proofs.YtjgjidehlldfhaaW.PrintLast Go.Proofs.YtjgjidehlldfhaaW.PrintMore Go.Proofs.Ytjgjidehlldfhaa.Nums Go.Proofs.Ytjgjidehlldfhaa.Runes
set_option linter.unusedVariables false
set_option linter.unusedSimpArgs false
/-- A list, by value. -/
abbrev lstV (g : Nat) (t : S26) (pos count code : Int) (nl ls : Bool) (pd pp data ptrs : Int) : Value :=
  .agg #[.pointer (some ⟨g, 0, none⟩), .int .u8 t.f0, .int .i64 t.f1, .int .i64 t.f2, .bool nl, .bool ls, .int .i64 pos, .int .i64 pd, .int .i64 pp, .int .i64 code, .int .i64 count, .int .i64 data, .int .i64 ptrs]
set_option maxHeartbeats 3200000 in
set_option maxRecDepth 100000 in
theorem rnum_any {X : Msg} {L : Loc} {w : World} {s : Mt} (h : MS X L w s) (k i : Nat) (pos data ptrs : Int) (hk : k < X.st.length) (hi : i < (rd_T32 X.st k).f1.length)
    (hnum : 0 < bitsM (rd_T29 (rd_T32 X.st k).f1 i).f1.f0) (h0 : 0 ≤ pos ∧ pos < 1048576) (h1 : 0 ≤ data ∧ data < 1048576) :
    Calls Try.prog 49 #[.agg #[.pointer (some ⟨L.gx, 0, none⟩), .int .i64 k, .int .i64 pos, .int .i64 data, .int .i64 ptrs], .int .i64 i] w fun e w' =>
      e = .returned (.int .u64 (numM X.b (rd_T29 (rd_T32 X.st k).f1 i).f1.f0 (rd_T29 (rd_T32 X.st k).f1 i).f2 pos data (rd (rd_T72 X.rows k).f2 i))) ∧ Below w.heap.size w w' := by
  have hok := h.ok.at_ k hk
  have hm := h.m
  obtain ⟨aS, AS, cS, eA0, s0, s1, hc1, hF⟩ := at_T32 hm.st (k : Int) (Int.natCast_nonneg _) (by omega)
  obtain ⟨aR, AR, cR, eA2, q0, q1, q2, hc2, hR⟩ := at_T72 hm.rows (k : Int) (Int.natCast_nonneg _) (by have := h.ok.rows; omega)
  obtain ⟨aF, eAs, f0, f1, f2, f3, f4⟩ := at_T29 hF (i : Int) (Int.natCast_nonneg _) (by omega)
  have hRr := Kd.reads_of_C (enc := Value.int .i64) (d := (0 : Int)) (h1 := fun _ => rfl) hR
  obtain ⟨aJ, eAr, hJ⟩ := hRr.2.2 (by omega)
  have j0 := hJ i (by omega)
  obtain ⟨F, hFF⟩ : ∃ F, rd_T29 (rd_T32 X.st k).f1 i = F := ⟨_, rfl⟩
  obtain ⟨J, hJJ⟩ : ∃ J, rd (rd_T72 X.rows k).f2 i = J := ⟨_, rfl⟩
  have hj : J ∈ (rd_T72 X.rows k).f2 := by rw [← hJJ, Nums.rd_eq _ i (by omega)]; exact List.getElem_mem _
  have hJb := hok.2.2 J hj
  rw [show (rd_T72 X.rows k).f2.getD i 0 = J from hJJ] at j0
  rw [hFF] at hnum f0 f1 f2 f3 f4 ⊢
  rw [hJJ]
  have HBITS := Aside0.mk (fun W => layout_Bits.calls 6 F.f1.f0 (bitsM F.f1.f0) W (bits_f F.f1.f0))
  have hbs : 0 ≤ bitsM F.f1.f0 ∧ bitsM F.f1.f0 ≤ 64 := by rcases bitsM_or F.f1.f0 with e | e | e | e | e | e <;> omega
  obtain ⟨B, hB⟩ : ∃ B, bitsM F.f1.f0 = B := ⟨_, rfl⟩
  obtain ⟨r, hr⟩ : ∃ r, numM X.b F.f1.f0 F.f2 pos data J = r := ⟨_, rfl⟩
  rw [hr]
  unfold numM at hr
  rw [hB] at HBITS hbs hnum hr
  have HR := Aside0.mk hr
  clear hr
  rw [show ((k : Int)).toNat = k from rfl] at s0 s1 q0 q1 q2
  rw [show ((i : Int)).toNat = i from rfl] at f0 f1 f2 f3 f4
  have x0 := h.x0
  have x3 := h.x3
  have x4 := h.x4
  rw [eA0] at x0
  rw [eA2] at x3
  subst eAs eAr
  have k0 : (0 : Int) ≤ (k : Int) := Int.natCast_nonneg _
  have k1 : (k : Int) < (X.st.length : Int) := by omega
  have k2 : (k : Int) < (X.rows.length : Int) := by have := h.ok.rows; omega
  have i0 : (0 : Int) ≤ (i : Int) := Int.natCast_nonneg _
  have i1 : (i : Int) < ((rd_T32 X.st k).f1.length : Int) := by omega
  have i2 : (i : Int) < ((rd_T72 X.rows k).f2.length : Int) := by omega
  have H0 := Aside0.mk h
  have hba := below_alloc (Below.refl w.heap.size w) (.cells #[.pointer (some ⟨L.gx, 0, none⟩), .int .i64 k, .int .i64 pos, .int .i64 data, .int .i64 ptrs] 80)
  have hn := heap_alloc_new w (.cells #[.pointer (some ⟨L.gx, 0, none⟩), .int .i64 k, .int .i64 pos, .int .i64 data, .int .i64 ptrs] 80)
  obtain ⟨g0, hg0⟩ : ∃ g0, w.heap.size = g0 := ⟨_, rfl⟩
  obtain ⟨w1, hw1⟩ : ∃ w1, w.alloc (.cells #[.pointer (some ⟨L.gx, 0, none⟩), .int .i64 k, .int .i64 pos, .int .i64 data, .int .i64 ptrs] 80) = w1 := ⟨_, rfl⟩
  rw [hw1] at hba hn
  replace x0 := pw_cell_below hba x0
  replace x3 := pw_cell_below hba x3
  replace x4 := pw_cell_below hba x4
  replace s1 := pw_cell_below hba s1
  replace q2 := pw_cell_below hba q2
  replace f0 := pw_cell_below hba f0
  replace f1 := pw_cell_below hba f1
  replace f2 := pw_cell_below hba f2
  replace f3 := pw_cell_below hba f3
  replace f4 := pw_cell_below hba f4
  replace j0 := pw_cell_below hba j0
  rw [hg0] at hn
  have g00 : w1.cell? ⟨g0, 0, none⟩ = some (.pointer (some ⟨L.gx, 0, none⟩)) := (blk_cell hn 0).trans rfl
  have g01 : w1.cell? ⟨g0, 1, none⟩ = some (.int .i64 k) := (blk_cell hn 1).trans rfl
  have g02 : w1.cell? ⟨g0, 2, none⟩ = some (.int .i64 pos) := (blk_cell hn 2).trans rfl
  have g03 : w1.cell? ⟨g0, 3, none⟩ = some (.int .i64 data) := (blk_cell hn 3).trans rfl
  have e1 := Aside0.mk hw1
  go_enter Try.func49, Try.ntmps49
  go_upto_region 1 with (fail)
  have v1 := World.new_ne w1 _ x0
  have v2 := World.new_ne w1 _ s1
  have v3 := World.new_ne w1 _ f0
  have v4 := World.new_ne w1 _ f1
  have v5 := World.new_ne w1 _ f2
  have v6 := World.new_ne w1 _ f3
  have v7 := World.new_ne w1 _ f4
  have v8 := World.new_ne w1 _ g00
  have v9 := World.new_ne w1 _ g01
  go_region_held3 (fun W => W.cell? ⟨g0, 0, none⟩ = some (.pointer (some ⟨L.gx, 0, none⟩)) ∧ W.cell? ⟨g0, 1, none⟩ = some (.int .i64 k) ∧ W.cell? ⟨L.gx, 0, none⟩ = some (.slice (some aS) X.st.length L.c0) ∧
      W.cell? ⟨(aS.add (k * 2)).block, (aS.add (k * 2)).off + 1, none⟩ = some (.slice (some aF) (rd_T32 X.st k).f1.length cS) ∧ W.cell? (aF.add (i * 5)) = some (.string F.f0) ∧
      W.cell? ⟨(aF.add (i * 5)).block, (aF.add (i * 5)).off + 1, none⟩ = some (.int .u8 F.f1.f0) ∧ W.cell? ⟨(aF.add (i * 5)).block, (aF.add (i * 5)).off + 2, none⟩ = some (.int .i64 F.f1.f1) ∧
      W.cell? ⟨(aF.add (i * 5)).block, (aF.add (i * 5)).off + 3, none⟩ = some (.int .i64 F.f1.f2) ∧ W.cell? ⟨(aF.add (i * 5)).block, (aF.add (i * 5)).off + 4, none⟩ = some (.int .u64 F.f2))
    (first | go_keep | with_reducible exact ⟨g00, g01, x0, s1, f0, f1, f2, f3, f4⟩)
    (fail)
  obtain ⟨w2, hw2⟩ : ∃ w2, (w1.alloc (.cells #[.string F.f0, .int .u8 F.f1.f0, .int .i64 F.f1.f1, .int .i64 F.f1.f2, .int .u64 F.f2] 29)).drew = w2 := ⟨_, rfl⟩
  have hn2 : w2.heap[w1.heap.size]? = some (.cells #[.string F.f0, .int .u8 F.f1.f0, .int .i64 F.f1.f1, .int .i64 F.f1.f2, .int .u64 F.f2] 29 (0, 0)) := by rw [← hw2]; exact heap_alloc_new w1 _
  have hb2 : Below w1.heap.size w1 w2 := by rw [← hw2]; exact below_drew (below_alloc (Below.refl _ _) _)
  rw [hw2]
  obtain ⟨gf, hgf⟩ : ∃ gf, w1.heap.size = gf := ⟨_, rfl⟩
  rw [hgf] at hn2 ⊢
  have HX : Aside0 (∀ W, Below w2.heap.size w2 W → W.cell? ⟨gf, 1, none⟩ = some (.int .u8 F.f1.f0) ∧ W.cell? ⟨gf, 2, none⟩ = some (.int .i64 F.f1.f1) ∧ W.cell? ⟨gf, 4, none⟩ = some (.int .u64 F.f2) ∧ W.cell? ⟨g0, 0, none⟩ = some (.pointer (some ⟨L.gx, 0, none⟩)) ∧ W.cell? ⟨g0, 1, none⟩ = some (.int .i64 k) ∧
      W.cell? ⟨g0, 2, none⟩ = some (.int .i64 pos) ∧ W.cell? ⟨g0, 3, none⟩ = some (.int .i64 data) ∧ W.cell? ⟨L.gx, 3, none⟩ = some (.slice (some aR) X.rows.length L.c2) ∧
      W.cell? ⟨(aR.add (k * 3)).block, (aR.add (k * 3)).off + 2, none⟩ = some (.slice (some aJ) (rd_T72 X.rows k).f2.length cR) ∧ W.cell? (aJ.add i) = some (.int .i64 J)) := ⟨fun W hW =>
    have hb := below_then hb2 hb2.size hW
    ⟨pw_cell_below hW ((blk_cell hn2 1).trans rfl), pw_cell_below hW ((blk_cell hn2 2).trans rfl), pw_cell_below hW ((blk_cell hn2 4).trans rfl), pw_cell_below hb g00, pw_cell_below hb g01, pw_cell_below hb g02, pw_cell_below hb g03, pw_cell_below hb x3, pw_cell_below hb q2, pw_cell_below hb j0⟩⟩
  have HB2 : Aside0 (Below w.heap.size w w2) := ⟨below_then hba hba.size hb2⟩
  have HMS2 : Aside0 (∀ W, Below w2.heap.size w2 W → MS X L W s) := ⟨fun W hW => H0.out.below (below_then HB2.out HB2.out.size hW)⟩
  clear hw2 hn2 hb2 hgf v1 v2 v3 v4 v5 v6 v7 v8 v9 g00 g01 g02 g03 x0 x3 x4 s0 s1 q0 q1 q2 f0 f1 f2 f3 f4 j0 hn hw1 e1 hba hJ hRr hR hF hm
  obtain ⟨y1, y2, y4, g0', g1', g2', g3', x3', q2', j0'⟩ := HX.out w2 (Below.refl _ _)
  go_upto_region 2 with (fail)
  go_region_held3 (fun W => W.cell? ⟨gf, 1, none⟩ = some (.int .u8 F.f1.f0) ∧ W.cell? ⟨g0, 0, none⟩ = some (.pointer (some ⟨L.gx, 0, none⟩)) ∧ W.cell? ⟨g0, 1, none⟩ = some (.int .i64 k) ∧ W.cell? ⟨L.gx, 3, none⟩ = some (.slice (some aR) X.rows.length L.c2) ∧
      W.cell? ⟨(aR.add (k * 3)).block, (aR.add (k * 3)).off + 2, none⟩ = some (.slice (some aJ) (rd_T72 X.rows k).f2.length cR) ∧ W.cell? (aJ.add i) = some (.int .i64 J))
    (first | go_keep | with_reducible exact ⟨y1, g0', g1', x3', q2', j0'⟩ | with_reducible exact ⟨z1, z0', z1', z3', zq', zj'⟩)
    (first
      | (go_at_call 31; (with_reducible refine (HBITS.out _).mono ?_); rintro e w3 ⟨rfl, hd⟩
         have HD3 := Aside0.mk (below_then (below_drew (Below.refl w2.heap.size w2)) (Nat.le_refl _) hd.below)
         obtain ⟨z1, -, -, z0', z1', -, -, z3', zq', zj'⟩ := HX.out w3 HD3.out
         clear hd))
  clear y1 y2 y4 g0' g1' g2' g3' x3' q2' j0' z1 z0' z1' z3' zq' zj'
  obtain ⟨y1, y2, y4, g0', g1', g2', g3', x3', q2', j0'⟩ := HX.out w3 HD3.out
  have HVAL : Aside0 (∀ W x, Calls Try.prog 56 #[.int .u8 F.f1.f0, .int .u64 x] W fun e w' => e = .returned (.int .u64 (valueM F.f1.f0 x)) ∧ Drawn0 W w') := ⟨fun W x => capread_value.calls 10 F.f1.f0 x _ W (value_f F.f1.f0 x)⟩
  have HW3 : Aside0 (Below w.heap.size w w3) := ⟨below_then HB2.out HB2.out.size HD3.out⟩
  have HWORD : Aside0 (Calls Try.prog 32 #[.pointer (some ⟨L.gx, 0, none⟩), .int .i64 (pos + J / 64)] w3 fun e w' => e = .returned (.int .u64 (wordM X.b (pos + J / 64))) ∧ Drawn0 w3 w') := ⟨word_any (HMS2.out w3 HD3.out) _ (by omega) (by omega)⟩
  have ways : (J + B ≤ 64 * data ∧ decide (J + B ≤ 64 * data) = true) ∨ (¬ J + B ≤ 64 * data ∧ decide (J + B ≤ 64 * data) = false) := by
    by_cases c : J + B ≤ 64 * data
    · exact .inl ⟨c, decide_eq_true c⟩
    · exact .inr ⟨c, decide_eq_false c⟩
  rcases ways with ⟨c, d⟩ | ⟨c, d⟩
  · go_wp2_with (first
      | (go_at_call 32; (with_reducible refine HWORD.out.mono ?_); rintro e w4 ⟨rfl, hd⟩
         have HD4 := Aside0.mk (below_then HD3.out HD3.out.size hd.below)
         have HW4 := Aside0.mk (below_then HW3.out HW3.out.size hd.below)
         obtain ⟨u1, -, u4, -, -, -, -, -, -, -⟩ := HX.out w4 HD4.out
         clear hd)
      | (go_at_call 56; (with_reducible refine (HVAL.out _ _).mono ?_); rintro e w5 ⟨rfl, hd⟩; have HW5 := Aside0.mk (below_then HW4.out HW4.out.size hd.below); clear hd))
    go_ret
    have hr := HR.out
    rw [if_pos c] at hr
    exact ⟨by rw [← hr]; rfl, HW5.out⟩
  · go_wp2_with (first
      | (go_at_call 56; (with_reducible refine (HVAL.out _ _).mono ?_); rintro e w5 ⟨rfl, hd⟩; have HW5 := Aside0.mk (below_then HW3.out HW3.out.size hd.below); clear hd))
    go_ret
    have hr := HR.out
    rw [if_neg (by omega)] at hr
    exact ⟨by rw [← hr]; rfl, HW5.out⟩
end Go.Proofs.Ytjgjidehlldfhaa.Hand
end
