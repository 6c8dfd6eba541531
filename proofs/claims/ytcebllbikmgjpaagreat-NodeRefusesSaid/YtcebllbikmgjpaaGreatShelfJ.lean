/- Contracts of the library at this program, laid by the shelf tool. -/
import Derived.Shelf.Strings.Builder1
import Derived.Shelf.Strings.Builder2
import Derived.Shelf.Strings.BuilderF
import Derived.Shelf.Strings.BuilderK
import Derived.Shelf.Strings.Builder2Cap
import Derived.Shelf.Strings.Prefix
import Derived.Shelf.Bits.Mul64
import Derived.Shelf.Strings.Repeat
import Derived.Shelf.Strings.BuilderCap
import Derived.Test.YtcebllbikmgjpaaGreatProg
namespace Go.Proofs
open Go.Shelf
def Tryz.lays169_ren : Go.Shelf.Ren := ⟨fun | 169 => 245 | n => n, fun | 70 => 406 | 9 => 9 | 0 => 0 | 72 => 408 | 37 => 201 | 127 => 436 | 3 => 3 | 5 => 5 | n => n, fun | n => n⟩
theorem Tryz.lays169 : Go.Proofs.Lays.n169 Tryz.prog Tryz.lays169_ren := {
  mixed := by kernel_rfl
  f169 := Tryz.func245.trans (congrArg some (by kernel_rfl))
  t0 := Tryz.underlying0
  a0 := Tryz.isAgg0
  z0 := Tryz.sizeOf0
  v0 := Tryz.zeroValue0
  t3 := Tryz.underlying3
  a3 := Tryz.isAgg3
  z3 := Tryz.sizeOf3
  v3 := Tryz.zeroValue3
  t9 := Tryz.underlying9
  a9 := Tryz.isAgg9
  z9 := Tryz.sizeOf9
  v9 := Tryz.zeroValue9
  t37 := Tryz.underlying201
  a37 := Tryz.isAgg201
  z37 := Tryz.sizeOf201
  v37 := Tryz.zeroValue201
  t70 := Tryz.underlying406
  a70 := Tryz.isAgg406
  z70 := Tryz.sizeOf406
  v70 := Tryz.zeroValue406
  t72 := Tryz.underlying408
  a72 := Tryz.isAgg408
  z72 := Tryz.sizeOf408
  v72 := Tryz.zeroValue408
  t127 := Tryz.underlying436
  a127 := Tryz.isAgg436
  z127 := Tryz.sizeOf436
  v127 := Tryz.zeroValue436 }
theorem Tryz.Builder_Extra_169 : Builder.Extra Tryz.prog Tryz.lays169_ren := {
  sizeBuilder := by kernel_rfl
  liesBuilder := by kernel_rfl
  t5 := Tryz.underlying5
  a5 := Tryz.isAgg5
  z5 := Tryz.sizeOf5
  v5 := Tryz.zeroValue5
  infoByte := by kernel_rfl
  cellsByte := by kernel_rfl
  sizeByte := by kernel_rfl
  neB5 := by decide }
open Go.RowKit in
theorem Tryz.Builder_String_any (B b : Nat) (l : List UInt8) (w : World) (h : Lib.IsBuilder 408 5 B b (Lib.byteCells l) w) (hBw : B ≤ w.heap.size) :
    Calls Tryz.prog 245 #[.pointer (some ⟨b, 0, none⟩)] w fun e w' => e = .returned (.string ⟨l.toArray⟩) ∧ Below B w w' := Any.Builder_String_any Tryz.lays169 Tryz.Builder_Extra_169 B b l w h hBw
def Tryz.lays99_ren : Go.Shelf.Ren := ⟨fun | 99 => 78 | 206 => 119 | n => n, fun | 9 => 9 | 4 => 4 | 3 => 3 | n => n, fun | n => n⟩
theorem Tryz.lays99 : Go.Proofs.Lays.n99 Tryz.prog Tryz.lays99_ren := {
  mixed := by kernel_rfl
  f99 := Tryz.func78.trans (congrArg some (by kernel_rfl))
  f206 := Tryz.func119.trans (congrArg some (by kernel_rfl))
  t3 := Tryz.underlying3
  a3 := Tryz.isAgg3
  z3 := Tryz.sizeOf3
  v3 := Tryz.zeroValue3
  t4 := Tryz.underlying4
  a4 := Tryz.isAgg4
  z4 := Tryz.sizeOf4
  v4 := Tryz.zeroValue4
  t9 := Tryz.underlying9
  a9 := Tryz.isAgg9
  z9 := Tryz.sizeOf9
  v9 := Tryz.zeroValue9 }
open Go.RowKit Go.Lib in
theorem Tryz.strings_HasPrefix (s p : ByteArray) (w : World) :
    Calls Tryz.prog 78 #[.string s, .string p] w fun e w' => e = .returned (.bool (Lib.hasPrefix s.data.toList p.data.toList)) ∧ w' = w := Any.strings_HasPrefix Tryz.lays99 s p w
def Tryz.lays264_ren : Go.Shelf.Ren := ⟨fun | 264 => 262 | n => n, fun | 53 => 177 | 46 => 265 | n => n, fun | n => n⟩
theorem Tryz.lays264 : Go.Proofs.Lays.n264 Tryz.prog Tryz.lays264_ren := {
  mixed := by kernel_rfl
  f264 := Tryz.func262.trans (congrArg some (by kernel_rfl))
  t46 := Tryz.underlying265
  a46 := Tryz.isAgg265
  z46 := Tryz.sizeOf265
  v46 := Tryz.zeroValue265
  t53 := Tryz.underlying177
  a53 := Tryz.isAgg177
  z53 := Tryz.sizeOf177
  v53 := Tryz.zeroValue177 }
open Go.RowKit Go.Lib in
theorem Tryz.bits_Mul64 (x y : Nat) (hx : x < 18446744073709551616) (hy : y < 18446744073709551616) (w : World) :
    Calls Tryz.prog 262 #[.int .u64 x, .int .u64 y] w fun e w' => e = .returned (.tuple #[.int .u64 ((x * y / 18446744073709551616 : Nat) : Int), .int .u64 ((x * y % 18446744073709551616 : Nat) : Int)]) ∧ w' = w := Any.bits_Mul64 Tryz.lays264 x y hx hy w
def Tryz.lays105_ren : Go.Shelf.Ren := ⟨fun | 105 => 244 | 212 => 267 | 99 => 78 | 165 => 268 | 166 => 243 | 170 => 269 | 169 => 245 | 263 => 278 | 264 => 262 | 206 => 119 | 240 => 266 | 241 => 279 | 276 => 277 | 277 => 281 | n => n, fun | 9 => 9 | 3 => 3 | 4 => 4 | 20 => 20 | 0 => 0 | 46 => 265 | 109 => 433 | 5 => 5 | 72 => 408 | 76 => 411 | 51 => 100 | 146 => 447 | 53 => 177 | 148 => 426 | 70 => 406 | 37 => 201 | 75 => 410 | 127 => 436 | 164 => 445 | 80 => 254 | n => n, fun | n => n⟩
theorem Tryz.lays105 : Go.Proofs.Lays.n105 Tryz.prog Tryz.lays105_ren := {
  mixed := by kernel_rfl
  f99 := Tryz.func78.trans (congrArg some (by kernel_rfl))
  f105 := Tryz.func244.trans (congrArg some (by kernel_rfl))
  f165 := Tryz.func268.trans (congrArg some (by kernel_rfl))
  f166 := Tryz.func243.trans (congrArg some (by kernel_rfl))
  f169 := Tryz.func245.trans (congrArg some (by kernel_rfl))
  f170 := Tryz.func269.trans (congrArg some (by kernel_rfl))
  f206 := Tryz.func119.trans (congrArg some (by kernel_rfl))
  f212 := Tryz.func267.trans (congrArg some (by kernel_rfl))
  f240 := Tryz.func266.trans (congrArg some (by kernel_rfl))
  f241 := Tryz.func279.trans (congrArg some (by kernel_rfl))
  f263 := Tryz.func278.trans (congrArg some (by kernel_rfl))
  f264 := Tryz.func262.trans (congrArg some (by kernel_rfl))
  f276 := Tryz.func277.trans (congrArg some (by kernel_rfl))
  f277 := Tryz.func281.trans (congrArg some (by kernel_rfl))
  t0 := Tryz.underlying0
  a0 := Tryz.isAgg0
  z0 := Tryz.sizeOf0
  v0 := Tryz.zeroValue0
  t3 := Tryz.underlying3
  a3 := Tryz.isAgg3
  z3 := Tryz.sizeOf3
  v3 := Tryz.zeroValue3
  t4 := Tryz.underlying4
  a4 := Tryz.isAgg4
  z4 := Tryz.sizeOf4
  v4 := Tryz.zeroValue4
  t5 := Tryz.underlying5
  a5 := Tryz.isAgg5
  z5 := Tryz.sizeOf5
  v5 := Tryz.zeroValue5
  t9 := Tryz.underlying9
  a9 := Tryz.isAgg9
  z9 := Tryz.sizeOf9
  v9 := Tryz.zeroValue9
  t20 := Tryz.underlying20
  a20 := Tryz.isAgg20
  z20 := Tryz.sizeOf20
  v20 := Tryz.zeroValue20
  t37 := Tryz.underlying201
  a37 := Tryz.isAgg201
  z37 := Tryz.sizeOf201
  v37 := Tryz.zeroValue201
  t46 := Tryz.underlying265
  a46 := Tryz.isAgg265
  z46 := Tryz.sizeOf265
  v46 := Tryz.zeroValue265
  t51 := Tryz.underlying100
  a51 := Tryz.isAgg100
  z51 := Tryz.sizeOf100
  v51 := Tryz.zeroValue100
  t53 := Tryz.underlying177
  a53 := Tryz.isAgg177
  z53 := Tryz.sizeOf177
  v53 := Tryz.zeroValue177
  t70 := Tryz.underlying406
  a70 := Tryz.isAgg406
  z70 := Tryz.sizeOf406
  v70 := Tryz.zeroValue406
  t72 := Tryz.underlying408
  a72 := Tryz.isAgg408
  z72 := Tryz.sizeOf408
  v72 := Tryz.zeroValue408
  t75 := Tryz.underlying410
  a75 := Tryz.isAgg410
  z75 := Tryz.sizeOf410
  v75 := Tryz.zeroValue410
  t76 := Tryz.underlying411
  a76 := Tryz.isAgg411
  z76 := Tryz.sizeOf411
  v76 := Tryz.zeroValue411
  t109 := Tryz.underlying433
  a109 := Tryz.isAgg433
  z109 := Tryz.sizeOf433
  v109 := Tryz.zeroValue433
  t127 := Tryz.underlying436
  a127 := Tryz.isAgg436
  z127 := Tryz.sizeOf436
  v127 := Tryz.zeroValue436
  t146 := Tryz.underlying447
  a146 := Tryz.isAgg447
  z146 := Tryz.sizeOf447
  v146 := Tryz.zeroValue447
  t148 := Tryz.underlying426
  a148 := Tryz.isAgg426
  z148 := Tryz.sizeOf426
  v148 := Tryz.zeroValue426
  t164 := Tryz.underlying445
  a164 := Tryz.isAgg445
  z164 := Tryz.sizeOf445
  v164 := Tryz.zeroValue445 }
theorem Tryz.Builder_Extra_105 : Builder.Extra Tryz.prog Tryz.lays105_ren := {
  sizeBuilder := by kernel_rfl
  liesBuilder := by kernel_rfl
  t5 := Tryz.underlying5
  a5 := Tryz.isAgg5
  z5 := Tryz.sizeOf5
  v5 := Tryz.zeroValue5
  infoByte := by kernel_rfl
  cellsByte := by kernel_rfl
  sizeByte := by kernel_rfl
  neB5 := by decide }
open Go.RowKit Go.Lib in
theorem Tryz.strings_Repeat (s : ByteArray) (c : Nat) (w : World) (hc : c ≤ 9223372036854775807) (hlen : s.size * c ≤ 140737488355328) :
    Calls Tryz.prog 244 #[.string s, .int .i64 c] w fun e w' => e = .returned (.string ⟨(Lib.repeatL s.data.toList c).toArray⟩) ∧ Below w.heap.size w w' := Any.strings_Repeat Tryz.lays105 Tryz.Builder_Extra_105 s c w hc hlen
end Go.Proofs
