/- Contracts of the library at this program, laid by the shelf tool. -/
import Derived.Shelf.Strings.Builder1
import Derived.Shelf.Strings.Builder2
import Derived.Shelf.Strings.BuilderF
import Derived.Shelf.Strings.BuilderK
import Derived.Shelf.Strings.Builder2Cap
import Derived.Shelf.Strings.Prefix
import Derived.Shelf.Bits.Mul64
import Derived.Shelf.Strings.Repeat
import Derived.Shelf.Strings.BuilderCap
import Derived.Test.YtiagbbknkdgmeaaGreatProg
namespace Go.Proofs
open Go.Shelf
def Tryz.lays169_ren : Go.Shelf.Ren := ⟨fun | 169 => 213 | n => n, fun | 70 => 345 | 9 => 9 | 0 => 0 | 72 => 347 | 37 => 168 | 127 => 371 | 3 => 3 | 5 => 5 | n => n, fun | n => n⟩
theorem Tryz.lays169 : Go.Proofs.Lays.n169 Tryz.prog Tryz.lays169_ren := {
  mixed := by kernel_rfl
  f169 := Tryz.func213.trans (congrArg some (by kernel_rfl))
  t0 := Tryz.underlying0
  a0 := Tryz.isAgg0
  z0 := Tryz.sizeOf0
  v0 := Tryz.zeroValue0
  t3 := Tryz.underlying3
  a3 := Tryz.isAgg3
  z3 := Tryz.sizeOf3
  v3 := Tryz.zeroValue3
  t9 := Tryz.underlying9
  a9 := Tryz.isAgg9
  z9 := Tryz.sizeOf9
  v9 := Tryz.zeroValue9
  t37 := Tryz.underlying168
  a37 := Tryz.isAgg168
  z37 := Tryz.sizeOf168
  v37 := Tryz.zeroValue168
  t70 := Tryz.underlying345
  a70 := Tryz.isAgg345
  z70 := Tryz.sizeOf345
  v70 := Tryz.zeroValue345
  t72 := Tryz.underlying347
  a72 := Tryz.isAgg347
  z72 := Tryz.sizeOf347
  v72 := Tryz.zeroValue347
  t127 := Tryz.underlying371
  a127 := Tryz.isAgg371
  z127 := Tryz.sizeOf371
  v127 := Tryz.zeroValue371 }
theorem Tryz.Builder_Extra_169 : Builder.Extra Tryz.prog Tryz.lays169_ren := {
  sizeBuilder := by kernel_rfl
  liesBuilder := by kernel_rfl
  t5 := Tryz.underlying5
  a5 := Tryz.isAgg5
  z5 := Tryz.sizeOf5
  v5 := Tryz.zeroValue5
  infoByte := by kernel_rfl
  cellsByte := by kernel_rfl
  sizeByte := by kernel_rfl
  neB5 := by decide }
open Go.RowKit in
theorem Tryz.Builder_String_any (B b : Nat) (l : List UInt8) (w : World) (h : Lib.IsBuilder 347 5 B b (Lib.byteCells l) w) (hBw : B <= w.heap.size) :
    Calls Tryz.prog 213 #[.pointer (some ⟨b, 0, none⟩)] w fun e w' => e = .returned (.string ⟨l.toArray⟩) /\ Below B w w' := Any.Builder_String_any Tryz.lays169 Tryz.Builder_Extra_169 B b l w h hBw
def Tryz.lays99_ren : Go.Shelf.Ren := ⟨fun | 99 => 62 | 206 => 92 | n => n, fun | 9 => 9 | 4 => 4 | 3 => 3 | n => n, fun | n => n⟩
theorem Tryz.lays99 : Go.Proofs.Lays.n99 Tryz.prog Tryz.lays99_ren := {
  mixed := by kernel_rfl
  f99 := Tryz.func62.trans (congrArg some (by kernel_rfl))
  f206 := Tryz.func92.trans (congrArg some (by kernel_rfl))
  t3 := Tryz.underlying3
  a3 := Tryz.isAgg3
  z3 := Tryz.sizeOf3
  v3 := Tryz.zeroValue3
  t4 := Tryz.underlying4
  a4 := Tryz.isAgg4
  z4 := Tryz.sizeOf4
  v4 := Tryz.zeroValue4
  t9 := Tryz.underlying9
  a9 := Tryz.isAgg9
  z9 := Tryz.sizeOf9
  v9 := Tryz.zeroValue9 }
open Go.RowKit Go.Lib in
theorem Tryz.strings_HasPrefix (s p : ByteArray) (w : World) :
    Calls Tryz.prog 62 #[.string s, .string p] w fun e w' => e = .returned (.bool (Lib.hasPrefix s.data.toList p.data.toList)) /\ w' = w := Any.strings_HasPrefix Tryz.lays99 s p w
def Tryz.lays264_ren : Go.Shelf.Ren := ⟨fun | 264 => 225 | n => n, fun | 53 => 143 | 46 => 207 | n => n, fun | n => n⟩
theorem Tryz.lays264 : Go.Proofs.Lays.n264 Tryz.prog Tryz.lays264_ren := {
  mixed := by kernel_rfl
  f264 := Tryz.func225.trans (congrArg some (by kernel_rfl))
  t46 := Tryz.underlying207
  a46 := Tryz.isAgg207
  z46 := Tryz.sizeOf207
  v46 := Tryz.zeroValue207
  t53 := Tryz.underlying143
  a53 := Tryz.isAgg143
  z53 := Tryz.sizeOf143
  v53 := Tryz.zeroValue143 }
open Go.RowKit Go.Lib in
theorem Tryz.bits_Mul64 (x y : Nat) (hx : x < 18446744073709551616) (hy : y < 18446744073709551616) (w : World) :
    Calls Tryz.prog 225 #[.int .u64 x, .int .u64 y] w fun e w' => e = .returned (.tuple #[.int .u64 ((x * y / 18446744073709551616 : Nat) : Int), .int .u64 ((x * y % 18446744073709551616 : Nat) : Int)]) /\ w' = w := Any.bits_Mul64 Tryz.lays264 x y hx hy w
def Tryz.lays105_ren : Go.Shelf.Ren := ⟨fun | 105 => 193 | 212 => 216 | 99 => 62 | 165 => 217 | 166 => 212 | 170 => 218 | 169 => 213 | 263 => 231 | 264 => 225 | 206 => 92 | 240 => 229 | 241 => 232 | 276 => 235 | 277 => 236 | n => n, fun | 9 => 9 | 3 => 3 | 4 => 4 | 20 => 20 | 0 => 0 | 46 => 207 | 109 => 354 | 5 => 5 | 72 => 347 | 76 => 350 | 51 => 81 | 146 => 372 | 53 => 143 | 148 => 364 | 70 => 345 | 37 => 168 | 75 => 349 | 127 => 371 | 164 => 375 | 80 => 196 | n => n, fun | n => n⟩
theorem Tryz.lays105 : Go.Proofs.Lays.n105 Tryz.prog Tryz.lays105_ren := {
  mixed := by kernel_rfl
  f99 := Tryz.func62.trans (congrArg some (by kernel_rfl))
  f105 := Tryz.func193.trans (congrArg some (by kernel_rfl))
  f165 := Tryz.func217.trans (congrArg some (by kernel_rfl))
  f166 := Tryz.func212.trans (congrArg some (by kernel_rfl))
  f169 := Tryz.func213.trans (congrArg some (by kernel_rfl))
  f170 := Tryz.func218.trans (congrArg some (by kernel_rfl))
  f206 := Tryz.func92.trans (congrArg some (by kernel_rfl))
  f212 := Tryz.func216.trans (congrArg some (by kernel_rfl))
  f240 := Tryz.func229.trans (congrArg some (by kernel_rfl))
  f241 := Tryz.func232.trans (congrArg some (by kernel_rfl))
  f263 := Tryz.func231.trans (congrArg some (by kernel_rfl))
  f264 := Tryz.func225.trans (congrArg some (by kernel_rfl))
  f276 := Tryz.func235.trans (congrArg some (by kernel_rfl))
  f277 := Tryz.func236.trans (congrArg some (by kernel_rfl))
  t0 := Tryz.underlying0
  a0 := Tryz.isAgg0
  z0 := Tryz.sizeOf0
  v0 := Tryz.zeroValue0
  t3 := Tryz.underlying3
  a3 := Tryz.isAgg3
  z3 := Tryz.sizeOf3
  v3 := Tryz.zeroValue3
  t4 := Tryz.underlying4
  a4 := Tryz.isAgg4
  z4 := Tryz.sizeOf4
  v4 := Tryz.zeroValue4
  t5 := Tryz.underlying5
  a5 := Tryz.isAgg5
  z5 := Tryz.sizeOf5
  v5 := Tryz.zeroValue5
  t9 := Tryz.underlying9
  a9 := Tryz.isAgg9
  z9 := Tryz.sizeOf9
  v9 := Tryz.zeroValue9
  t20 := Tryz.underlying20
  a20 := Tryz.isAgg20
  z20 := Tryz.sizeOf20
  v20 := Tryz.zeroValue20
  t37 := Tryz.underlying168
  a37 := Tryz.isAgg168
  z37 := Tryz.sizeOf168
  v37 := Tryz.zeroValue168
  t46 := Tryz.underlying207
  a46 := Tryz.isAgg207
  z46 := Tryz.sizeOf207
  v46 := Tryz.zeroValue207
  t51 := Tryz.underlying81
  a51 := Tryz.isAgg81
  z51 := Tryz.sizeOf81
  v51 := Tryz.zeroValue81
  t53 := Tryz.underlying143
  a53 := Tryz.isAgg143
  z53 := Tryz.sizeOf143
  v53 := Tryz.zeroValue143
  t70 := Tryz.underlying345
  a70 := Tryz.isAgg345
  z70 := Tryz.sizeOf345
  v70 := Tryz.zeroValue345
  t72 := Tryz.underlying347
  a72 := Tryz.isAgg347
  z72 := Tryz.sizeOf347
  v72 := Tryz.zeroValue347
  t75 := Tryz.underlying349
  a75 := Tryz.isAgg349
  z75 := Tryz.sizeOf349
  v75 := Tryz.zeroValue349
  t76 := Tryz.underlying350
  a76 := Tryz.isAgg350
  z76 := Tryz.sizeOf350
  v76 := Tryz.zeroValue350
  t109 := Tryz.underlying354
  a109 := Tryz.isAgg354
  z109 := Tryz.sizeOf354
  v109 := Tryz.zeroValue354
  t127 := Tryz.underlying371
  a127 := Tryz.isAgg371
  z127 := Tryz.sizeOf371
  v127 := Tryz.zeroValue371
  t146 := Tryz.underlying372
  a146 := Tryz.isAgg372
  z146 := Tryz.sizeOf372
  v146 := Tryz.zeroValue372
  t148 := Tryz.underlying364
  a148 := Tryz.isAgg364
  z148 := Tryz.sizeOf364
  v148 := Tryz.zeroValue364
  t164 := Tryz.underlying375
  a164 := Tryz.isAgg375
  z164 := Tryz.sizeOf375
  v164 := Tryz.zeroValue375 }
theorem Tryz.Builder_Extra_105 : Builder.Extra Tryz.prog Tryz.lays105_ren := {
  sizeBuilder := by kernel_rfl
  liesBuilder := by kernel_rfl
  t5 := Tryz.underlying5
  a5 := Tryz.isAgg5
  z5 := Tryz.sizeOf5
  v5 := Tryz.zeroValue5
  infoByte := by kernel_rfl
  cellsByte := by kernel_rfl
  sizeByte := by kernel_rfl
  neB5 := by decide }
open Go.RowKit Go.Lib in
theorem Tryz.strings_Repeat (s : ByteArray) (c : Nat) (w : World) (hc : c <= 9223372036854775807) (hlen : s.size * c <= 140737488355328) :
    Calls Tryz.prog 193 #[.string s, .int .i64 c] w fun e w' => e = .returned (.string ⟨(Lib.repeatL s.data.toList c).toArray⟩) /\ Below w.heap.size w w' := Any.strings_Repeat Tryz.lays105 Tryz.Builder_Extra_105 s c w hc hlen
end Go.Proofs
