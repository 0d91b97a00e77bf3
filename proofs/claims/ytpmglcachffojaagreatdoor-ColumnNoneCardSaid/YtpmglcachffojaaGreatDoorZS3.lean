/- The shelf's contracts that this claim uses, laid at this program. -/
import Derived.Shelf.SlIterI.Collect
import Derived.Ground.GgzProg
import Derived.Shelf.Strings.Builder1
import Derived.Shelf.Strings.Builder2
import Derived.Shelf.Strings.OnBuilder
import Derived.Shelf.Small.Bits
import Derived.Shelf.Small.Wraps
import Derived.Shelf.Strings.BuilderF
import Derived.Shelf.Strings.BuilderK
import Derived.Shelf.Strings.Builder2Cap
import Derived.Shelf.Strconv.Itoa0
import Derived.Shelf.Sort.Plain
import Derived.Shelf.Unicode.Decode
import Derived.Shelf.Bits.Mul64
import Derived.Shelf.Unicode.DecodeSlow
import Derived.Shelf.Unicode.DecodeAny
import Derived.Shelf.Slices.Turned
import Derived.Shelf.Slices.Equal
import Derived.Shelf.Slices.CompactS
import Derived.Ground.Names2Prog
import Derived.Shelf.Slices.SearchI
import Derived.Shelf.Slices.Cells
import Derived.Shelf.Slices.In.SortNone
import Derived.Shelf.Slices.Empties2
import Derived.Shelf.Bytes.SlEqualAll
import Derived.Shelf.Bytes.Small
import Derived.Test.YtpmglcachffojaaGreatDoorProg
import Derived.Test.YtpmglcachffojaaGreatDoorZS1
namespace Go.Proofs
open Go.Shelf
open Go.Sort Go.RowKit Go.Lib Go.Maps
def Tryz.keysI_ren : Go.Shelf.Ren := ⟨fun | 7 => 234 | 10 => 273 | n => n, fun | 23 => 247 | 26 => 3 | 3 => 41 | 28 => 280 | 0 => 0 | 27 => 279 | 33 => 78 | 4 => 4 | n => n, fun | n => n⟩
theorem Tryz.keysI : Go.Proofs.SlLaysZI.n7 Tryz.prog Tryz.keysI_ren := {
  mixed := by kernel_rfl
  f7 := ⟨Tryz.f234.name, by decide, Tryz.func234.trans (congrArg some (by kernel_rfl))⟩
  f10 := ⟨Tryz.f273.name, by decide, Tryz.func273.trans (congrArg some (by kernel_rfl))⟩
  t0 := Tryz.underlying0
  a0 := Tryz.isAgg0
  z0 := Tryz.sizeOf0
  v0 := Tryz.zeroValue0
  t4 := Tryz.underlying4
  a4 := Tryz.isAgg4
  z4 := Tryz.sizeOf4
  v4 := Tryz.zeroValue4
  t23 := Tryz.underlying247
  a23 := Tryz.isAgg247
  z23 := Tryz.sizeOf247
  v23 := Tryz.zeroValue247
  t26 := Tryz.underlying3
  a26 := Tryz.isAgg3
  z26 := Tryz.sizeOf3
  v26 := Tryz.zeroValue3
  t27 := Tryz.underlying279
  a27 := Tryz.isAgg279
  z27 := Tryz.sizeOf279
  v27 := Tryz.zeroValue279
  t28 := Tryz.underlying280
  a28 := Tryz.isAgg280
  z28 := Tryz.sizeOf280
  v28 := Tryz.zeroValue280
  t33 := Tryz.underlying78
  a33 := Tryz.isAgg78
  z33 := Tryz.sizeOf78
  v33 := Tryz.zeroValue78 }
def Tryz.collectI_ren : Go.Shelf.Ren := ⟨fun | 8 => 233 | 11 => 272 | n => n, fun | 26 => 3 | 28 => 280 | 24 => 94 | 0 => 0 | 33 => 78 | 4 => 4 | n => n, fun | n => n⟩
theorem Tryz.collectI : Go.Proofs.SlLaysZI.n8 Tryz.prog Tryz.collectI_ren := {
  mixed := by kernel_rfl
  f8 := ⟨Tryz.f233.name, by decide, Tryz.func233.trans (congrArg some (by kernel_rfl))⟩
  f11 := ⟨Tryz.f272.name, by decide, Tryz.func272.trans (congrArg some (by kernel_rfl))⟩
  t0 := Tryz.underlying0
  a0 := Tryz.isAgg0
  z0 := Tryz.sizeOf0
  v0 := Tryz.zeroValue0
  t24 := Tryz.underlying94
  a24 := Tryz.isAgg94
  z24 := Tryz.sizeOf94
  v24 := Tryz.zeroValue94
  t26 := Tryz.underlying3
  a26 := Tryz.isAgg3
  z26 := Tryz.sizeOf3
  v26 := Tryz.zeroValue3
  t28 := Tryz.underlying280
  a28 := Tryz.isAgg280
  z28 := Tryz.sizeOf280
  v28 := Tryz.zeroValue280
  i26 := by kernel_rfl }
end Go.Proofs
