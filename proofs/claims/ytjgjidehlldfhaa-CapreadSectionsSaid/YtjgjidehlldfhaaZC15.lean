/- Texts joined: HLab. -/
import Derived.Test.YtjgjidehlldfhaaProg
import Derived.Below
import Derived.Deep.Draws
import Derived.Deep.AppendLies
import Derived.Maps.AppendAt
import Derived.OwnWalk
import Derived.Laws.BytesArg
import Derived.Laws.MakeOwn
import Derived.Laws.OwnMore
import Derived.Deep.OwnRows
import Derived.Tactics
import Derived.Lib.ConvBytes
import Derived.Laws.Slices
import Derived.WalkKit
import Derived.KernelRfl
import Derived.RowKit3
import Derived.Deep.LoopGhost
import Derived.Deep.QuietTactic
import Derived.BigQuiet
import Derived.WideLaws
import Derived.Deep.DeepCutAuto
import Derived.Deep.CutBlock
import Derived.Deep.RegionHeld3
import Derived.Laws.Rows
import Derived.Lib.AppendStr
import Derived.ArgAppend
import Derived.Laws.IdiomCopy
import Derived.OrdersHeld
import Derived.Laws.BitsLemmas
import Derived.RowKit
import Derived.StillTailTactics
import Derived.Test.YtjgjidehlldfhaaZC5
import Derived.Test.YtjgjidehlldfhaaZC6
import Derived.Test.YtjgjidehlldfhaaZC7
import Derived.Test.YtjgjidehlldfhaaZC8
import Derived.Test.YtjgjidehlldfhaaZC9
import Derived.Test.YtjgjidehlldfhaaZC10
import Derived.Test.YtjgjidehlldfhaaZC11
import Derived.Test.YtjgjidehlldfhaaZC12
import Derived.Test.YtjgjidehlldfhaaZC13
import Derived.Test.YtjgjidehlldfhaaZC14
section
/- label: its walk. -/
namespace Go.Proofs.Ytjgjidehlldfhaa.HandL
open Go.RowKit Go.Proofs.YtjgjidehlldfhaaW.PrintWords Go.Proofs.YtjgjidehlldfhaaW.PrintLast Go.Proofs.YtjgjidehlldfhaaW.PrintMore
set_option linter.unusedVariables false
def heads : List ByteArray := [(⟨#[97]⟩ : ByteArray), (⟨#[120, 95]⟩ : ByteArray), (⟨#[90, 101, 100]⟩ : ByteArray), (⟨#[195, 169]⟩ : ByteArray), (⟨#[239, 172, 128]⟩ : ByteArray), (⟨#[240, 159, 152, 128]⟩ : ByteArray), (⟨#[108, 105, 115, 116]⟩ : ByteArray), (⟨#[98, 32, 99]⟩ : ByteArray), (⟨#[115, 116, 114, 117, 99, 116]⟩ : ByteArray), (⟨#[47]⟩ : ByteArray)]
theorem C_lit0 (w : World) (l : List Int) (cells : Array Value) (hc : cells.toList = encs (Value.int .u8) l) (hl : l.length ≤ 1000000) : Kd.C (Kd.int .u8) (w.alloc (.cells cells 5)).drew (some ⟨w.heap.size, 0, none⟩) l.length l := by
  refine Kd.C_of_reads (enc := Value.int .u8) (d := (0 : Int)) (h1 := fun _ => rfl) ⟨rfl, by omega, fun _ => ⟨_, rfl, fun j hj => ?_⟩⟩
  have e : (⟨w.heap.size, 0, none⟩ : Addr).add j = ⟨w.heap.size, j, none⟩ := by unfold Addr.add; split <;> simp_all
  rw [e]
  refine (blk_cell (w := (w.alloc (.cells cells 5)).drew) (heap_alloc_new w (.cells cells 5)) j).trans ?_
  rw [← Array.getElem?_toList, hc]
  exact encs_get _ _ hj
theorem heads_cell (w : World) (g : Nat) (hg : w.heap.size = g) (i : Nat) (hi : i < 10) : (w.alloc (.cells #[.string (⟨#[97]⟩ : ByteArray), .string (⟨#[120, 95]⟩ : ByteArray), .string (⟨#[90, 101, 100]⟩ : ByteArray), .string (⟨#[195, 169]⟩ : ByteArray), .string (⟨#[239, 172, 128]⟩ : ByteArray), .string (⟨#[240, 159, 152, 128]⟩ : ByteArray), .string (⟨#[108, 105, 115, 116]⟩ : ByteArray), .string (⟨#[98, 32, 99]⟩ : ByteArray), .string (⟨#[115, 116, 114, 117, 99, 116]⟩ : ByteArray), .string (⟨#[47]⟩ : ByteArray)] 9)).cell? ⟨g, i, none⟩ = some (.string (heads.getD i ByteArray.empty)) := by
  subst hg
  refine (blk_cell (heap_alloc_new w _) i).trans ?_
  match i, hi with
  | 0, _ | 1, _ | 2, _ | 3, _ | 4, _ | 5, _ | 6, _ | 7, _ | 8, _ | 9, _ => rfl
set_option maxHeartbeats 8000000 in
set_option maxRecDepth 100000 in
theorem label_any (a0 a1 : Int) (r : ByteArray) (w : World) (i : Int) (hi : i = Int.tmod (wrap64 a0) 10) (h0 : 0 ≤ i) (h1 : i < 10) (y : Int) (hy0 : (wrap64 (97 + a1.tmod 26)) % 256 = y) (hr : (heads.getD i.toNat ByteArray.empty) ++ strOfNums [y] = r) :
    Calls Try.prog 21 #[.int .u8 a0, .int .i64 a1] w fun e w' => e = .returned (.string r) ∧ Below w.heap.size w w' := by
  go_enter Try.func21, Try.ntmps21
  go_upto_region 2 with (fail)
  have hy : IntKind.u8.wrap (IntKind.i64.wrap (97 + a1.tmod 26)) = y := by rw [IntKind.wrap_u8, IntKind.wrap_i64]; unfold wrap64 at hy0; exact hy0
  have hcell := heads_cell w w.heap.size rfl i.toNat (by omega)
  have wi : (IntKind.i64.wrap a0).tmod 10 = i := by rw [IntKind.wrap_i64]; unfold wrap64 at hi; exact hi.symm
  have hl := heap_alloc_new w (.cells #[.string (⟨#[97]⟩ : ByteArray), .string (⟨#[120, 95]⟩ : ByteArray), .string (⟨#[90, 101, 100]⟩ : ByteArray), .string (⟨#[195, 169]⟩ : ByteArray), .string (⟨#[239, 172, 128]⟩ : ByteArray), .string (⟨#[240, 159, 152, 128]⟩ : ByteArray), .string (⟨#[108, 105, 115, 116]⟩ : ByteArray), .string (⟨#[98, 32, 99]⟩ : ByteArray), .string (⟨#[115, 116, 114, 117, 99, 116]⟩ : ByteArray), .string (⟨#[47]⟩ : ByteArray)] 9)
  have hb : Below w.heap.size w (w.alloc (.cells #[.string (⟨#[97]⟩ : ByteArray), .string (⟨#[120, 95]⟩ : ByteArray), .string (⟨#[90, 101, 100]⟩ : ByteArray), .string (⟨#[195, 169]⟩ : ByteArray), .string (⟨#[239, 172, 128]⟩ : ByteArray), .string (⟨#[240, 159, 152, 128]⟩ : ByteArray), .string (⟨#[108, 105, 115, 116]⟩ : ByteArray), .string (⟨#[98, 32, 99]⟩ : ByteArray), .string (⟨#[115, 116, 114, 117, 99, 116]⟩ : ByteArray), .string (⟨#[47]⟩ : ByteArray)] 9)) := below_alloc (Below.refl _ _) _
  obtain ⟨w1, hw1⟩ : ∃ w1, (w.alloc (.cells #[.string (⟨#[97]⟩ : ByteArray), .string (⟨#[120, 95]⟩ : ByteArray), .string (⟨#[90, 101, 100]⟩ : ByteArray), .string (⟨#[195, 169]⟩ : ByteArray), .string (⟨#[239, 172, 128]⟩ : ByteArray), .string (⟨#[240, 159, 152, 128]⟩ : ByteArray), .string (⟨#[108, 105, 115, 116]⟩ : ByteArray), .string (⟨#[98, 32, 99]⟩ : ByteArray), .string (⟨#[115, 116, 114, 117, 99, 116]⟩ : ByteArray), .string (⟨#[47]⟩ : ByteArray)] 9)) = w1 := ⟨_, rfl⟩
  obtain ⟨H, hH⟩ : ∃ H, heads.getD i.toNat ByteArray.empty = H := ⟨_, rfl⟩
  obtain ⟨g, hg⟩ : ∃ g, w.heap.size = g := ⟨_, rfl⟩
  rw [hw1] at hcell hb ⊢
  rw [hH] at hcell hr
  have HS : H.size ≤ 6 := by
    rw [← hH]
    obtain ⟨j, hj⟩ : ∃ j, i.toNat = j := ⟨_, rfl⟩
    have hj1 : j < 10 := by omega
    rw [hj]; match j, hj1 with
    | 0, _ | 1, _ | 2, _ | 3, _ | 4, _ | 5, _ | 6, _ | 7, _ | 8, _ | 9, _ => decide
  rw [hg] at hcell ⊢
  clear hl hw1 hH hi
  have HB := Aside0.mk hb
  clear hb
  have vs : (convert 37 9 (.slice (some ⟨w1.heap.size, 0, none⟩) 1 1)).run Try.prog (w1.alloc (.cells #[.int .u8 y] 5)).drew = .ok (.string (strOfNums [y])) (w1.alloc (.cells #[.int .u8 y] 5)).drew :=
    Kd.C_string (P := Try.prog) (c := 1) Try.underlying37 Try.underlying5 Try.underlying9 (C_lit0 w1 [y] _ rfl (by simp))
  have hsz : (strOfNums [y]).size = 1 := strOfNums_size _
  have hcell2 : (w1.alloc (.cells #[.int .u8 y] 5)).cell? ⟨g, i.toNat, none⟩ = some (.string H) := World.cell?_alloc_lt _ _ _ (World.block_lt_of_cell? _ _ hcell) |>.trans hcell
  have hlt : decide (9223372036854775807 < H.size + 1) = false := decide_eq_false (by omega)
  have hlt2 : ¬ 9223372036854775807 < H.size + 1 := by omega
  go_region_with (fail)
  all_goals
    rename_i Q K hK
    refine hK _ _ ?_
    go_wp2_with (fail)
    go_ret
    exact ⟨rfl, below_drew (below_alloc HB.out _)⟩
end Go.Proofs.Ytjgjidehlldfhaa.HandL
end
