/- The shelf's contracts that this claim uses, laid at this program. -/
import Derived.Shelf.Unicode.ValidAny
import Derived.Shelf.Strings.Builder1
import Derived.Shelf.Strings.Builder2
import Derived.Shelf.Strings.OnBuilder
import Derived.Shelf.Small.Bits
import Derived.Shelf.Strings.BuilderF
import Derived.Shelf.Strings.BuilderK
import Derived.Shelf.Strconv.Itoa0
import Derived.Shelf.Unicode.Decode
import Derived.Shelf.Bits.Mul64
import Derived.Shelf.Unicode.DecodeSlow
import Derived.Shelf.Unicode.DecodeAny
import Derived.Shelf.Slices.Turned
import Derived.Shelf.Slices.CompactS
import Derived.Ground.Names2Prog
import Derived.Shelf.Slices.SearchI
import Derived.Shelf.Slices.Cells
import Derived.Test.YtpmglcachffojaaGreatDoorProg
namespace Go.Proofs
open Go.Shelf
def Tryz.lays156_ren : Go.Shelf.Ren := ⟨fun | 156 => 100 | 165 => 167 | 166 => 168 | 169 => 169 | 240 => 210 | 241 => 211 | 276 => 254 | 277 => 242 | n => n, fun | 31 => 89 | 9 => 9 | 3 => 3 | 4 => 4 | 0 => 0 | 20 => 20 | 72 => 216 | 76 => 220 | 70 => 214 | 37 => 41 | 75 => 219 | 127 => 262 | 164 => 293 | 5 => 5 | 80 => 222 | n => n, fun | n => n⟩
theorem Tryz.lays156 : Go.Proofs.Lays.n156 Tryz.prog Tryz.lays156_ren := {
  mixed := by kernel_rfl
  f156 := Tryz.func100.trans (congrArg some (by kernel_rfl))
  f165 := Tryz.func167.trans (congrArg some (by kernel_rfl))
  f166 := Tryz.func168.trans (congrArg some (by kernel_rfl))
  f169 := Tryz.func169.trans (congrArg some (by kernel_rfl))
  f240 := Tryz.func210.trans (congrArg some (by kernel_rfl))
  f241 := Tryz.func211.trans (congrArg some (by kernel_rfl))
  f276 := Tryz.func254.trans (congrArg some (by kernel_rfl))
  f277 := Tryz.func242.trans (congrArg some (by kernel_rfl))
  t0 := Tryz.underlying0
  a0 := Tryz.isAgg0
  z0 := Tryz.sizeOf0
  v0 := Tryz.zeroValue0
  t3 := Tryz.underlying3
  a3 := Tryz.isAgg3
  z3 := Tryz.sizeOf3
  v3 := Tryz.zeroValue3
  t4 := Tryz.underlying4
  a4 := Tryz.isAgg4
  z4 := Tryz.sizeOf4
  v4 := Tryz.zeroValue4
  t9 := Tryz.underlying9
  a9 := Tryz.isAgg9
  z9 := Tryz.sizeOf9
  v9 := Tryz.zeroValue9
  t20 := Tryz.underlying20
  a20 := Tryz.isAgg20
  z20 := Tryz.sizeOf20
  v20 := Tryz.zeroValue20
  t31 := Tryz.underlying89
  a31 := Tryz.isAgg89
  z31 := Tryz.sizeOf89
  v31 := Tryz.zeroValue89
  t37 := Tryz.underlying41
  a37 := Tryz.isAgg41
  z37 := Tryz.sizeOf41
  v37 := Tryz.zeroValue41
  t70 := Tryz.underlying214
  a70 := Tryz.isAgg214
  z70 := Tryz.sizeOf214
  v70 := Tryz.zeroValue214
  t72 := Tryz.underlying216
  a72 := Tryz.isAgg216
  z72 := Tryz.sizeOf216
  v72 := Tryz.zeroValue216
  t75 := Tryz.underlying219
  a75 := Tryz.isAgg219
  z75 := Tryz.sizeOf219
  v75 := Tryz.zeroValue219
  t76 := Tryz.underlying220
  a76 := Tryz.isAgg220
  z76 := Tryz.sizeOf220
  v76 := Tryz.zeroValue220
  t127 := Tryz.underlying262
  a127 := Tryz.isAgg262
  z127 := Tryz.sizeOf262
  v127 := Tryz.zeroValue262
  t164 := Tryz.underlying293
  a164 := Tryz.isAgg293
  z164 := Tryz.sizeOf293
  v164 := Tryz.zeroValue293 }
theorem Tryz.Builder_Extra_156 : Builder.Extra Tryz.prog Tryz.lays156_ren := {
  sizeBuilder := by kernel_rfl
  liesBuilder := by kernel_rfl
  t5 := Tryz.underlying5
  a5 := Tryz.isAgg5
  z5 := Tryz.sizeOf5
  v5 := Tryz.zeroValue5
  infoByte := by kernel_rfl
  cellsByte := by kernel_rfl
  sizeByte := by kernel_rfl
  neB5 := by decide }
open Go.RowKit in
theorem Tryz.strings_Join_none (a : Option Addr) (c : Nat) (sep : ByteArray) (w : World) :
    Calls Tryz.prog 100 #[.slice a 0 c, .string sep] w fun e w' => e = .returned (.string ⟨#[]⟩) ∧ w' = w := Any.strings_Join_none Tryz.lays156 Tryz.Builder_Extra_156 a c sep w
open Go.RowKit in
theorem Tryz.strings_Join (bk o c : Nat) (xs : List ByteArray) (sep : ByteArray) (w : World) (hcells : ∀ (j : Nat) x, xs[j]? = some x → w.cell? ⟨bk, o + j, none⟩ = some (.string x)) (hbk : bk < w.heap.size) (hN : xs.length ≤ 140737488355328) (hcap : xs.length ≤ c) (hlen : (Lib.join (xs.map (·.data.toList)) sep.data.toList).length ≤ 140737488355328) :
    Calls Tryz.prog 100 #[.slice (some ⟨bk, o, none⟩) xs.length c, .string sep] w fun e w' => e = .returned (.string ⟨(Lib.join (xs.map (·.data.toList)) sep.data.toList).toArray⟩) ∧ Below w.heap.size w w' := Any.strings_Join Tryz.lays156 Tryz.Builder_Extra_156 bk o c xs sep w hcells hbk hN hcap hlen
def Tryz.lays129_ren : Go.Shelf.Ren := ⟨fun | 129 => 303 | n => n, fun | 53 => 112 | 3 => 3 | 4 => 4 | 46 => 98 | 5 => 5 | 9 => 9 | n => n, fun | n => n⟩
theorem Tryz.lays129 : Go.Proofs.Lays.n129 Tryz.prog Tryz.lays129_ren := {
  mixed := by kernel_rfl
  f129 := Tryz.func303.trans (congrArg some (by kernel_rfl))
  t3 := Tryz.underlying3
  a3 := Tryz.isAgg3
  z3 := Tryz.sizeOf3
  v3 := Tryz.zeroValue3
  t4 := Tryz.underlying4
  a4 := Tryz.isAgg4
  z4 := Tryz.sizeOf4
  v4 := Tryz.zeroValue4
  t5 := Tryz.underlying5
  a5 := Tryz.isAgg5
  z5 := Tryz.sizeOf5
  v5 := Tryz.zeroValue5
  t9 := Tryz.underlying9
  a9 := Tryz.isAgg9
  z9 := Tryz.sizeOf9
  v9 := Tryz.zeroValue9
  t46 := Tryz.underlying98
  a46 := Tryz.isAgg98
  z46 := Tryz.sizeOf98
  v46 := Tryz.zeroValue98
  t53 := Tryz.underlying112
  a53 := Tryz.isAgg112
  z53 := Tryz.sizeOf112
  v53 := Tryz.zeroValue112 }
theorem Tryz.bits_Len64 (x : Int) (w : World) (h0 : 0 ≤ x) (h1 : x ≤ 18446744073709551615) :
    Calls Tryz.prog 303 #[.int .u64 x] w fun e w' => e = .returned (.int .i64 (Lib.bitLen x.toNat)) ∧ w' = w := Any.bits_Len64 Tryz.lays129 x w h0 h1
def Tryz.lays197_ren : Go.Shelf.Ren := ⟨fun | 197 => 156 | 260 => 200 | n => n, fun | 9 => 9 | 21 => 21 | 3 => 3 | 4 => 4 | 5 => 5 | 105 => 205 | 119 => 224 | 0 => 0 | 46 => 98 | 139 => 227 | 138 => 226 | n => n, fun | 3 => 0 | 4 => 1 | n => n⟩
theorem Tryz.lays197 : Go.Proofs.Lays.n197 Tryz.prog Tryz.lays197_ren := {
  mixed := by kernel_rfl
  f197 := Tryz.func156.trans (congrArg some (by kernel_rfl))
  f260 := Tryz.func200.trans (congrArg some (by kernel_rfl))
  t0 := Tryz.underlying0
  a0 := Tryz.isAgg0
  z0 := Tryz.sizeOf0
  v0 := Tryz.zeroValue0
  t3 := Tryz.underlying3
  a3 := Tryz.isAgg3
  z3 := Tryz.sizeOf3
  v3 := Tryz.zeroValue3
  t4 := Tryz.underlying4
  a4 := Tryz.isAgg4
  z4 := Tryz.sizeOf4
  v4 := Tryz.zeroValue4
  t5 := Tryz.underlying5
  a5 := Tryz.isAgg5
  z5 := Tryz.sizeOf5
  v5 := Tryz.zeroValue5
  t9 := Tryz.underlying9
  a9 := Tryz.isAgg9
  z9 := Tryz.sizeOf9
  v9 := Tryz.zeroValue9
  t21 := Tryz.underlying21
  a21 := Tryz.isAgg21
  z21 := Tryz.sizeOf21
  v21 := Tryz.zeroValue21
  t46 := Tryz.underlying98
  a46 := Tryz.isAgg98
  z46 := Tryz.sizeOf98
  v46 := Tryz.zeroValue98
  t105 := Tryz.underlying205
  a105 := Tryz.isAgg205
  z105 := Tryz.sizeOf205
  v105 := Tryz.zeroValue205
  t119 := Tryz.underlying224
  a119 := Tryz.isAgg224
  z119 := Tryz.sizeOf224
  t138 := Tryz.underlying226
  a138 := Tryz.isAgg226
  z138 := Tryz.sizeOf226
  v138 := Tryz.zeroValue226
  t139 := Tryz.underlying227
  a139 := Tryz.isAgg227
  z139 := Tryz.sizeOf227
  v139 := Tryz.zeroValue227
  g3 := by kernel_rfl
  g4 := by kernel_rfl }
def Tryz.lays212_ren : Go.Shelf.Ren := ⟨fun | 212 => 190 | 263 => 226 | 264 => 227 | n => n, fun | 46 => 98 | 51 => 37 | 146 => 274 | 53 => 112 | 148 => 270 | n => n, fun | n => n⟩
theorem Tryz.lays212 : Go.Proofs.Lays.n212 Tryz.prog Tryz.lays212_ren := {
  mixed := by kernel_rfl
  f212 := Tryz.func190.trans (congrArg some (by kernel_rfl))
  f263 := Tryz.func226.trans (congrArg some (by kernel_rfl))
  f264 := Tryz.func227.trans (congrArg some (by kernel_rfl))
  t46 := Tryz.underlying98
  a46 := Tryz.isAgg98
  z46 := Tryz.sizeOf98
  v46 := Tryz.zeroValue98
  t51 := Tryz.underlying37
  a51 := Tryz.isAgg37
  z51 := Tryz.sizeOf37
  v51 := Tryz.zeroValue37
  t53 := Tryz.underlying112
  a53 := Tryz.isAgg112
  z53 := Tryz.sizeOf112
  v53 := Tryz.zeroValue112
  t146 := Tryz.underlying274
  a146 := Tryz.isAgg274
  z146 := Tryz.sizeOf274
  v146 := Tryz.zeroValue274
  t148 := Tryz.underlying270
  a148 := Tryz.isAgg270
  z148 := Tryz.sizeOf270
  v148 := Tryz.zeroValue270 }
open Go.RowKit Go.Lib in
theorem Tryz.bits_Mul (x y : Nat) (hx : x < 18446744073709551616) (hy : y < 18446744073709551616) (w : World) :
    Calls Tryz.prog 190 #[.int .u64 x, .int .u64 y] w fun e w' => e = .returned (.tuple #[.int .u64 ((x * y / 18446744073709551616 : Nat) : Int), .int .u64 ((x * y % 18446744073709551616 : Nat) : Int)]) ∧ w' = w := Any.bits_Mul Tryz.lays212 x y hx hy w
open Go.RowKit Go.Lib in
theorem Tryz.utf8_DecodeRuneInString (s : ByteArray) (w : World) (hT : Lib.Utf8Tabs 0 1 w) :
    Calls Tryz.prog 156 #[.string s] w fun e w' => e = .returned (.tuple #[.int .i32 (Lib.decodeGo s).1, .int .i64 (Lib.decodeGo s).2]) ∧ Below w.heap.size w w' := Any.utf8_DecodeRuneInString Tryz.lays197 s w hT
def Tryz.lays108_ren : Go.Shelf.Ren := ⟨fun | 108 => 319 | n => n, fun | 28 => 94 | 3 => 3 | 0 => 0 | 4 => 4 | n => n, fun | n => n⟩
theorem Tryz.lays108 : Go.Proofs.Lays.n108 Tryz.prog Tryz.lays108_ren := {
  mixed := by kernel_rfl
  f108 := Tryz.func319.trans (congrArg some (by kernel_rfl))
  t0 := Tryz.underlying0
  a0 := Tryz.isAgg0
  z0 := Tryz.sizeOf0
  v0 := Tryz.zeroValue0
  t3 := Tryz.underlying3
  a3 := Tryz.isAgg3
  z3 := Tryz.sizeOf3
  v3 := Tryz.zeroValue3
  t4 := Tryz.underlying4
  a4 := Tryz.isAgg4
  z4 := Tryz.sizeOf4
  v4 := Tryz.zeroValue4
  t28 := Tryz.underlying94
  a28 := Tryz.isAgg94
  z28 := Tryz.sizeOf94
  v28 := Tryz.zeroValue94 }
open Go.Lib in
theorem Tryz.slices_Index_int (b off n c : Nat) (zs : List Int) (x : Int) (w : World) (hz : n ≤ zs.length) (hbig : n ≤ 9223372036854775807) (hc : ∀ j, j < zs.length → w.cell? ⟨b, off + j, none⟩ = some (.int .i64 (zs.getD j 0))) :
    Calls Tryz.prog 319 #[.slice (some ⟨b, off, none⟩) n c, .int .i64 x] w fun e w' => e = .returned (.int .i64 (Lib.idxOf (zs.take n) x)) ∧ w' = w := Any.slices_Index_int Tryz.lays108 b off n c zs x w hz hbig hc
def Tryz.lays114_ren : Go.Shelf.Ren := ⟨fun | 114 => 205 | n => n, fun | 28 => 94 | 3 => 3 | 4 => 4 | 9 => 9 | 20 => 20 | 0 => 0 | n => n, fun | n => n⟩
theorem Tryz.lays114 : Go.Proofs.Lays.n114 Tryz.prog Tryz.lays114_ren := {
  mixed := by kernel_rfl
  f114 := Tryz.func205.trans (congrArg some (by kernel_rfl))
  t0 := Tryz.underlying0
  a0 := Tryz.isAgg0
  z0 := Tryz.sizeOf0
  v0 := Tryz.zeroValue0
  t3 := Tryz.underlying3
  a3 := Tryz.isAgg3
  z3 := Tryz.sizeOf3
  v3 := Tryz.zeroValue3
  t4 := Tryz.underlying4
  a4 := Tryz.isAgg4
  z4 := Tryz.sizeOf4
  v4 := Tryz.zeroValue4
  t9 := Tryz.underlying9
  a9 := Tryz.isAgg9
  z9 := Tryz.sizeOf9
  v9 := Tryz.zeroValue9
  t20 := Tryz.underlying20
  a20 := Tryz.isAgg20
  z20 := Tryz.sizeOf20
  v20 := Tryz.zeroValue20
  t28 := Tryz.underlying94
  a28 := Tryz.isAgg94
  z28 := Tryz.sizeOf94
  v28 := Tryz.zeroValue94 }
open Go.Lib in
theorem Tryz.slices_Min_int (b off n c : Nat) (zs : List Int) (w : World) (hn : 0 < n) (hz : n ≤ zs.length) (hbig : n ≤ 9223372036854775807) (hc : ∀ j, j < zs.length → w.cell? ⟨b, off + j, none⟩ = some (.int .i64 (zs.getD j 0))) :
    Calls Tryz.prog 205 #[.slice (some ⟨b, off, none⟩) n c] w fun e w' => e = .returned (.int .i64 (Lib.minOf (zs.take n))) ∧ w' = w := Any.slices_Min_int Tryz.lays114 b off n c zs w hn hz hbig hc
def Tryz.lays194_ren : Go.Shelf.Ren := ⟨fun | 194 => 164 | n => n, fun | 31 => 89 | 9 => 9 | 3 => 3 | 4 => 4 | 0 => 0 | n => n, fun | n => n⟩
theorem Tryz.lays194 : Go.Proofs.Lays.n194 Tryz.prog Tryz.lays194_ren := {
  mixed := by kernel_rfl
  f194 := Tryz.func164.trans (congrArg some (by kernel_rfl))
  t0 := Tryz.underlying0
  a0 := Tryz.isAgg0
  z0 := Tryz.sizeOf0
  v0 := Tryz.zeroValue0
  t3 := Tryz.underlying3
  a3 := Tryz.isAgg3
  z3 := Tryz.sizeOf3
  v3 := Tryz.zeroValue3
  t4 := Tryz.underlying4
  a4 := Tryz.isAgg4
  z4 := Tryz.sizeOf4
  v4 := Tryz.zeroValue4
  t9 := Tryz.underlying9
  a9 := Tryz.isAgg9
  z9 := Tryz.sizeOf9
  v9 := Tryz.zeroValue9
  t31 := Tryz.underlying89
  a31 := Tryz.isAgg89
  z31 := Tryz.sizeOf89
  v31 := Tryz.zeroValue89 }
open Go.RowKit Go.Lib Go.Sort in
theorem Tryz.slices_Compact_string (blk off cap : Nat) (zs : List (List UInt8)) (w : World) (hH : Holds encStr w blk off zs.toArray) (hsz : zs.length ≤ 9223372036854775807) (hcap : zs.length ≤ cap) :
    Calls Tryz.prog 164 #[.slice (some ⟨blk, off, none⟩) zs.length cap] w fun e w' => e = .returned (.slice (some ⟨blk, off, none⟩) (Lib.compact zs).length cap) ∧ ∃ q, w' = putRow encStr (Sort.ahead w q) blk off (Lib.compact zs ++ List.replicate (zs.length - (Lib.compact zs).length) []).toArray := Any.slices_Compact_string Tryz.lays194 blk off cap zs w hH hsz hcap
open Go.RowKit Go.Lib Go.Sort in
theorem Tryz.slices_Compact_string_empty (a : Option Addr) (cap : Nat) (w : World) :
    Calls Tryz.prog 164 #[.slice a 0 cap] w fun e w' => e = .returned (.slice a 0 cap) ∧ w' = w := Any.slices_Compact_string_empty Tryz.lays194 a cap w
def Tryz.laysValid_ren : Go.Shelf.Ren := ⟨fun | 196 => 102 | 259 => 170 | n => n, fun | 9 => 9 | 4 => 4 | 3 => 3 | 5 => 5 | 12 => 12 | 119 => 224 | 0 => 0 | 46 => 98 | 139 => 227 | 138 => 226 | 53 => 112 | n => n, fun | 3 => 0 | 4 => 1 | n => n⟩
theorem Tryz.laysValid : Go.Proofs.Lays.n196 Tryz.prog Tryz.laysValid_ren := {
  mixed := by kernel_rfl
  f196 := Tryz.func102.trans (congrArg some (by kernel_rfl))
  f259 := Tryz.func170.trans (congrArg some (by kernel_rfl))
  t0 := Tryz.underlying0
  a0 := Tryz.isAgg0
  z0 := Tryz.sizeOf0
  v0 := Tryz.zeroValue0
  t3 := Tryz.underlying3
  a3 := Tryz.isAgg3
  z3 := Tryz.sizeOf3
  v3 := Tryz.zeroValue3
  t4 := Tryz.underlying4
  a4 := Tryz.isAgg4
  z4 := Tryz.sizeOf4
  v4 := Tryz.zeroValue4
  t5 := Tryz.underlying5
  a5 := Tryz.isAgg5
  z5 := Tryz.sizeOf5
  v5 := Tryz.zeroValue5
  t9 := Tryz.underlying9
  a9 := Tryz.isAgg9
  z9 := Tryz.sizeOf9
  v9 := Tryz.zeroValue9
  t12 := Tryz.underlying12
  a12 := Tryz.isAgg12
  z12 := Tryz.sizeOf12
  v12 := Tryz.zeroValue12
  t46 := Tryz.underlying98
  a46 := Tryz.isAgg98
  z46 := Tryz.sizeOf98
  v46 := Tryz.zeroValue98
  t53 := Tryz.underlying112
  a53 := Tryz.isAgg112
  z53 := Tryz.sizeOf112
  v53 := Tryz.zeroValue112
  t119 := Tryz.underlying224
  a119 := Tryz.isAgg224
  z119 := Tryz.sizeOf224
  t138 := Tryz.underlying226
  a138 := Tryz.isAgg226
  z138 := Tryz.sizeOf226
  v138 := Tryz.zeroValue226
  t139 := Tryz.underlying227
  a139 := Tryz.isAgg227
  z139 := Tryz.sizeOf227
  v139 := Tryz.zeroValue227
  g3 := by kernel_rfl
  g4 := by kernel_rfl }
end Go.Proofs
