/- The shelf's contract of unicode/utf8.DecodeRune at this program: its table of numbers, and the facts of it. Written by the kit's tool. -/
import Derived.Shelf.Spec.DecodeRune
import Derived.Shelf.Lays7
import Derived.Test.YtonekmigcpgdeaaDoorProg
namespace Go.Proofs
open Go.Shelf
def Tryd.lays32_ren : Go.Shelf.Ren := ⟨fun | 32 => 40 | 49 => 43 | n => n, fun | 30 => 22 | 21 => 21 | 3 => 3 | 0 => 0 | 5 => 5 | 4 => 4 | 33 => 70 | 66 => 74 | 25 => 60 | 69 => 77 | 68 => 76 | n => n, fun | 2 => 0 | 3 => 1 | n => n⟩
theorem Tryd.lays32 : Go.Proofs.Lays7.n32 Tryd.prog Tryd.lays32_ren := {
  mixed := by kernel_rfl
  f32 := Tryd.func40.trans (congrArg some (by kernel_rfl))
  f49 := Tryd.func43.trans (congrArg some (by kernel_rfl))
  t0 := Tryd.underlying0
  a0 := Tryd.isAgg0
  z0 := Tryd.sizeOf0
  v0 := Tryd.zeroValue0
  i0 := by kernel_rfl
  t3 := Tryd.underlying3
  a3 := Tryd.isAgg3
  z3 := Tryd.sizeOf3
  v3 := Tryd.zeroValue3
  i3 := by kernel_rfl
  t4 := Tryd.underlying4
  a4 := Tryd.isAgg4
  z4 := Tryd.sizeOf4
  v4 := Tryd.zeroValue4
  i4 := by kernel_rfl
  t5 := Tryd.underlying5
  a5 := Tryd.isAgg5
  z5 := Tryd.sizeOf5
  v5 := Tryd.zeroValue5
  i5 := by kernel_rfl
  t21 := Tryd.underlying21
  a21 := Tryd.isAgg21
  z21 := Tryd.sizeOf21
  v21 := Tryd.zeroValue21
  i21 := by kernel_rfl
  t25 := Tryd.underlying60
  a25 := Tryd.isAgg60
  z25 := Tryd.sizeOf60
  v25 := Tryd.zeroValue60
  i25 := by kernel_rfl
  t30 := Tryd.underlying22
  a30 := Tryd.isAgg22
  z30 := Tryd.sizeOf22
  v30 := Tryd.zeroValue22
  i30 := by kernel_rfl
  t33 := Tryd.underlying70
  a33 := Tryd.isAgg70
  z33 := Tryd.sizeOf70
  v33 := Tryd.zeroValue70
  i33 := by kernel_rfl
  t66 := Tryd.underlying74
  a66 := Tryd.isAgg74
  z66 := Tryd.sizeOf74
  t68 := Tryd.underlying76
  a68 := Tryd.isAgg76
  z68 := Tryd.sizeOf76
  v68 := Tryd.zeroValue76
  i68 := by kernel_rfl
  t69 := Tryd.underlying77
  a69 := Tryd.isAgg77
  z69 := Tryd.sizeOf77
  v69 := Tryd.zeroValue77
  i69 := by kernel_rfl
  g2 := by kernel_rfl
  g3 := by kernel_rfl }
end Go.Proofs
