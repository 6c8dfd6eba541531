/- The types whose values are compared cell by cell. By program. -/
import Derived.Test.YtjeclimoknilcaaAgg
import Derived.Test.YtjeclimoknilcaaEql
namespace Go.Proofs.Ytjeclimoknilcaa
theorem Try.plain2 : PlainT Try.prog 1 2 false [.int .i64] := plain_int Try.underlying2 (by kernel_rfl) .i64
theorem Try.plain3 : PlainT Try.prog 1 3 false [.int .i64] := plain_int Try.underlying3 (by kernel_rfl) .i64
theorem Try.plain4 : PlainT Try.prog 1 4 false [.bool] := plain_bool Try.underlying4 (by kernel_rfl)
theorem Try.plain5 : PlainT Try.prog 1 5 false [.int .u8] := plain_int Try.underlying5 (by kernel_rfl) .u8
theorem Try.plain6 : PlainT Try.prog 1 6 false [.int .u8] := plain_int Try.underlying6 (by kernel_rfl) .u8
theorem Try.plain9 : PlainT Try.prog 1 9 false [.str] := plain_str Try.underlying9 (by kernel_rfl)
theorem Try.plain10 : PlainT Try.prog 1 10 false [.str] := plain_str Try.underlying10 (by kernel_rfl)
theorem Try.plain11 : PlainT Try.prog 1 11 false [.str] := plain_str Try.underlying11 (by kernel_rfl)
theorem Try.plain12 : PlainT Try.prog 1 12 false [.int .u64] := plain_int Try.underlying12 (by kernel_rfl) .u64
theorem Try.plain21 : PlainT Try.prog 1 21 false [.int .i32] := plain_int Try.underlying21 (by kernel_rfl) .i32
theorem Try.plain22 : PlainT Try.prog 2 22 true (leaves 32 (.int .u8)) := plain_array Try.plain5 Try.underlying22 (by kernel_rfl)
instance Try.cmp22 : PlainC Try.prog 22 (leaves 32 (.int .u8)) := ⟨⟨2, by decide, Try.plain22⟩, by kernel_rfl⟩
theorem Try.plain23 : PlainT Try.prog 2 23 true (leaves 32 (.int .u8)) := plain_array Try.plain5 Try.underlying23 (by kernel_rfl)
instance Try.cmp23 : PlainC Try.prog 23 (leaves 32 (.int .u8)) := ⟨⟨2, by decide, Try.plain23⟩, by kernel_rfl⟩
theorem Try.plain24 : PlainT Try.prog 1 24 false [.int .u64] := plain_int Try.underlying24 (by kernel_rfl) .u64
theorem Try.plain27 : PlainT Try.prog 1 27 false [.int .i64] := plain_int Try.underlying27 (by kernel_rfl) .i64
theorem Try.plain38 : PlainT Try.prog 1 38 false [.int .u32] := plain_int Try.underlying38 (by kernel_rfl) .u32
theorem Try.plain40 : PlainT Try.prog 2 40 true (leaves 16 (.int .u8)) := plain_array Try.plain5 Try.underlying40 (by kernel_rfl)
instance Try.cmp40 : PlainC Try.prog 40 (leaves 16 (.int .u8)) := ⟨⟨2, by decide, Try.plain40⟩, by kernel_rfl⟩
theorem Try.plain48 : PlainT Try.prog 2 48 true (leaves 64 (.int .u8)) := plain_array Try.plain5 Try.underlying48 (by kernel_rfl)
instance Try.cmp48 : PlainC Try.prog 48 (leaves 64 (.int .u8)) := ⟨⟨2, by decide, Try.plain48⟩, by kernel_rfl⟩
theorem Try.plain52 : PlainT Try.prog 2 52 true (leaves 2 (.int .u64)) := plain_array Try.plain24 Try.underlying52 (by kernel_rfl)
instance Try.cmp52 : PlainC Try.prog 52 (leaves 2 (.int .u64)) := ⟨⟨2, by decide, Try.plain52⟩, by kernel_rfl⟩
theorem Try.plain53 : PlainT Try.prog 2 53 true (leaves 3 (.int .u64)) := plain_array Try.plain24 Try.underlying53 (by kernel_rfl)
instance Try.cmp53 : PlainC Try.prog 53 (leaves 3 (.int .u64)) := ⟨⟨2, by decide, Try.plain53⟩, by kernel_rfl⟩
theorem Try.plain54 : PlainT Try.prog 2 54 true (leaves 3 (.int .u64)) := plain_array Try.plain24 Try.underlying54 (by kernel_rfl)
instance Try.cmp54 : PlainC Try.prog 54 (leaves 3 (.int .u64)) := ⟨⟨2, by decide, Try.plain54⟩, by kernel_rfl⟩
theorem Try.plain69 : PlainT Try.prog 2 69 true (leaves 16 (.int .u32)) := plain_array Try.plain38 Try.underlying69 (by kernel_rfl)
instance Try.cmp69 : PlainC Try.prog 69 (leaves 16 (.int .u32)) := ⟨⟨2, by decide, Try.plain69⟩, by kernel_rfl⟩
theorem Try.plain75 : PlainT Try.prog 2 75 true (leaves 16 (.int .u32)) := plain_array Try.plain38 Try.underlying75 (by kernel_rfl)
instance Try.cmp75 : PlainC Try.prog 75 (leaves 16 (.int .u32)) := ⟨⟨2, by decide, Try.plain75⟩, by kernel_rfl⟩
theorem Try.plain78 : PlainT Try.prog 1 78 false [.int .u64] := plain_int Try.underlying78 (by kernel_rfl) .u64
theorem Try.plain83 : PlainT Try.prog 2 83 true (leaves 4 (.int .u64)) := plain_array Try.plain24 Try.underlying83 (by kernel_rfl)
instance Try.cmp83 : PlainC Try.prog 83 (leaves 4 (.int .u64)) := ⟨⟨2, by decide, Try.plain83⟩, by kernel_rfl⟩
theorem Try.plain107 : PlainT Try.prog 1 107 false [.int .u8] := plain_int Try.underlying107 (by kernel_rfl) .u8
theorem Try.plain108 : PlainT Try.prog 1 108 false [.int .u8] := plain_int Try.underlying108 (by kernel_rfl) .u8
theorem Try.plain110 : PlainT Try.prog 1 110 false [.int .i32] := plain_int Try.underlying110 (by kernel_rfl) .i32
theorem Try.plain111 : PlainT Try.prog 1 111 false [.int .i32] := plain_int Try.underlying111 (by kernel_rfl) .i32
end Go.Proofs.Ytjeclimoknilcaa
