/- The shelf's contracts that this claim uses, laid at this program. -/
import Derived.Shelf.Strings.Builder1
import Derived.Shelf.Strings.Builder2
import Derived.Shelf.Strings.OnBuilder
import Derived.Shelf.Small.Bits
import Derived.Shelf.Strings.BuilderF
import Derived.Shelf.Strings.BuilderK
import Derived.Shelf.Strconv.Itoa0
import Derived.Shelf.Sort.Plain
import Derived.Shelf.Unicode.Decode
import Derived.Shelf.Bits.Mul64
import Derived.Shelf.Unicode.DecodeSlow
import Derived.Shelf.Unicode.DecodeAny
import Derived.Shelf.Slices.Turned
import Derived.Shelf.Slices.CompactS
import Derived.Ground.Names2Prog
import Derived.Shelf.Slices.SearchI
import Derived.Shelf.Slices.Cells
import Derived.Shelf.Slices.In.SortNone
import Derived.Test.YtpmglcachffojaaGreatDoorProg
import Derived.Test.YtpmglcachffojaaGreatDoorZS1
namespace Go.Proofs
open Go.Shelf
open Go.Sort Go.RowKit Go.Lib
def Tryz.lays190_ren : Go.Shelf.Ren := ⟨fun | 190 => 208 | 125 => 253 | 258 => 252 | 128 => 302 | 129 => 303 | 302 => 294 | 303 => 295 | 304 => 296 | 305 => 297 | 306 => 298 | 307 => 299 | 308 => 274 | 309 => 300 | 310 => 301 | 333 => 322 | 329 => 323 | 330 => 324 | 334 => 325 | 335 => 326 | 336 => 306 | 344 => 336 | n => n, fun | 31 => 89 | 9 => 9 | 3 => 3 | 46 => 98 | 0 => 0 | 51 => 37 | 53 => 112 | 4 => 4 | 183 => 338 | 182 => 337 | 131 => 171 | 5 => 5 | 218 => 349 | 222 => 353 | 228 => 359 | 229 => 163 | n => n, fun | n => n⟩
theorem Tryz.lays190 : Go.Proofs.Lays.n190 Tryz.prog Tryz.lays190_ren := {
  mixed := by kernel_rfl
  f125 := Tryz.func253.trans (congrArg some (by kernel_rfl))
  f128 := Tryz.func302.trans (congrArg some (by kernel_rfl))
  f129 := Tryz.func303.trans (congrArg some (by kernel_rfl))
  f190 := Tryz.func208.trans (congrArg some (by kernel_rfl))
  f258 := Tryz.func252.trans (congrArg some (by kernel_rfl))
  f302 := Tryz.func294.trans (congrArg some (by kernel_rfl))
  f303 := Tryz.func295.trans (congrArg some (by kernel_rfl))
  f304 := Tryz.func296.trans (congrArg some (by kernel_rfl))
  f305 := Tryz.func297.trans (congrArg some (by kernel_rfl))
  f306 := Tryz.func298.trans (congrArg some (by kernel_rfl))
  f307 := Tryz.func299.trans (congrArg some (by kernel_rfl))
  f308 := Tryz.func274.trans (congrArg some (by kernel_rfl))
  f309 := Tryz.func300.trans (congrArg some (by kernel_rfl))
  f310 := Tryz.func301.trans (congrArg some (by kernel_rfl))
  f329 := Tryz.func323.trans (congrArg some (by kernel_rfl))
  f330 := Tryz.func324.trans (congrArg some (by kernel_rfl))
  f333 := Tryz.func322.trans (congrArg some (by kernel_rfl))
  f334 := Tryz.func325.trans (congrArg some (by kernel_rfl))
  f335 := Tryz.func326.trans (congrArg some (by kernel_rfl))
  f336 := Tryz.func306.trans (congrArg some (by kernel_rfl))
  f344 := Tryz.func336.trans (congrArg some (by kernel_rfl))
  t0 := Tryz.underlying0
  a0 := Tryz.isAgg0
  z0 := Tryz.sizeOf0
  v0 := Tryz.zeroValue0
  t3 := Tryz.underlying3
  a3 := Tryz.isAgg3
  z3 := Tryz.sizeOf3
  v3 := Tryz.zeroValue3
  t4 := Tryz.underlying4
  a4 := Tryz.isAgg4
  z4 := Tryz.sizeOf4
  v4 := Tryz.zeroValue4
  t5 := Tryz.underlying5
  a5 := Tryz.isAgg5
  z5 := Tryz.sizeOf5
  v5 := Tryz.zeroValue5
  t9 := Tryz.underlying9
  a9 := Tryz.isAgg9
  z9 := Tryz.sizeOf9
  v9 := Tryz.zeroValue9
  t31 := Tryz.underlying89
  a31 := Tryz.isAgg89
  z31 := Tryz.sizeOf89
  v31 := Tryz.zeroValue89
  t46 := Tryz.underlying98
  a46 := Tryz.isAgg98
  z46 := Tryz.sizeOf98
  v46 := Tryz.zeroValue98
  t51 := Tryz.underlying37
  a51 := Tryz.isAgg37
  z51 := Tryz.sizeOf37
  v51 := Tryz.zeroValue37
  t53 := Tryz.underlying112
  a53 := Tryz.isAgg112
  z53 := Tryz.sizeOf112
  v53 := Tryz.zeroValue112
  t131 := Tryz.underlying171
  a131 := Tryz.isAgg171
  z131 := Tryz.sizeOf171
  v131 := Tryz.zeroValue171
  t182 := Tryz.underlying337
  a182 := Tryz.isAgg337
  z182 := Tryz.sizeOf337
  v182 := Tryz.zeroValue337
  t183 := Tryz.underlying338
  a183 := Tryz.isAgg338
  z183 := Tryz.sizeOf338
  v183 := Tryz.zeroValue338
  t218 := Tryz.underlying349
  a218 := Tryz.isAgg349
  z218 := Tryz.sizeOf349
  v218 := Tryz.zeroValue349
  t222 := Tryz.underlying353
  a222 := Tryz.isAgg353
  z222 := Tryz.sizeOf353
  v222 := Tryz.zeroValue353
  t228 := Tryz.underlying359
  a228 := Tryz.isAgg359
  z228 := Tryz.sizeOf359
  v228 := Tryz.zeroValue359
  t229 := Tryz.underlying163
  a229 := Tryz.isAgg163
  z229 := Tryz.sizeOf163
  v229 := Tryz.zeroValue163 }
theorem Tryz.slices_Sort_string (blk off cap : Nat) (ss : List (List UInt8)) (w : World) (hH : Holds encStr w blk off ss.toArray) (hblk : blk < w.heap.size) (hsz : ss.length < 4611686018427387904) :
    Calls Tryz.prog 208 #[.slice (some ⟨blk, off, none⟩) ss.length cap] w fun e w' =>
      e = .returned (.tuple #[]) ∧ ∃ n os, w' = grow (putRow encStr (Sort.ahead w n) blk off (ss.mergeSort fun x y => decide (x ≤ y)).toArray) os := Any.slices_Sort_string Tryz.lays190 blk off cap ss w hH hblk hsz
theorem Tryz.slices_Sort_string_none (p : Option Addr) (cap : Nat) (w : World) :
    Calls Tryz.prog 208 #[.slice p 0 cap] w fun e w' => e = .returned (.tuple #[]) ∧ w' = w := Any.slices_Sort_string_none Tryz.lays190 p cap w
end Go.Proofs
