/- The types whose values are compared cell by cell. By program. -/
import Derived.Test.YtohhiibgjcbpiaaAgg
import Derived.Test.YtohhiibgjcbpiaaEql
namespace Go.Proofs.Ytohhiibgjcbpiaa
theorem Try.plain2 : PlainT Try.prog 1 2 false [.int .i64] := plain_int Try.underlying2 (by kernel_rfl) .i64
theorem Try.plain3 : PlainT Try.prog 1 3 false [.int .i64] := plain_int Try.underlying3 (by kernel_rfl) .i64
theorem Try.plain4 : PlainT Try.prog 1 4 false [.bool] := plain_bool Try.underlying4 (by kernel_rfl)
theorem Try.plain5 : PlainT Try.prog 1 5 false [.int .u8] := plain_int Try.underlying5 (by kernel_rfl) .u8
theorem Try.plain6 : PlainT Try.prog 1 6 false [.int .u8] := plain_int Try.underlying6 (by kernel_rfl) .u8
theorem Try.plain9 : PlainT Try.prog 1 9 false [.str] := plain_str Try.underlying9 (by kernel_rfl)
theorem Try.plain10 : PlainT Try.prog 1 10 false [.str] := plain_str Try.underlying10 (by kernel_rfl)
theorem Try.plain11 : PlainT Try.prog 1 11 false [.str] := plain_str Try.underlying11 (by kernel_rfl)
theorem Try.plain12 : PlainT Try.prog 1 12 false [.int .u64] := plain_int Try.underlying12 (by kernel_rfl) .u64
theorem Try.plain21 : PlainT Try.prog 1 21 false [.int .i32] := plain_int Try.underlying21 (by kernel_rfl) .i32
theorem Try.plain22 : PlainT Try.prog 2 22 true (leaves 32 (.int .u8)) := plain_array Try.plain5 Try.underlying22 (by kernel_rfl)
instance Try.cmp22 : PlainC Try.prog 22 (leaves 32 (.int .u8)) := ⟨⟨2, by decide, Try.plain22⟩, by kernel_rfl⟩
theorem Try.plain23 : PlainT Try.prog 2 23 true (leaves 32 (.int .u8)) := plain_array Try.plain5 Try.underlying23 (by kernel_rfl)
instance Try.cmp23 : PlainC Try.prog 23 (leaves 32 (.int .u8)) := ⟨⟨2, by decide, Try.plain23⟩, by kernel_rfl⟩
theorem Try.plain27 : PlainT Try.prog 1 27 false [.int .u64] := plain_int Try.underlying27 (by kernel_rfl) .u64
theorem Try.plain30 : PlainT Try.prog 2 30 true (leaves 32 (.int .i64)) := plain_array Try.plain3 Try.underlying30 (by kernel_rfl)
instance Try.cmp30 : PlainC Try.prog 30 (leaves 32 (.int .i64)) := ⟨⟨2, by decide, Try.plain30⟩, by kernel_rfl⟩
theorem Try.plain37 : PlainT Try.prog 2 37 true (leaves 16 (.int .i64)) := plain_array Try.plain2 Try.underlying37 (by kernel_rfl)
instance Try.cmp37 : PlainC Try.prog 37 (leaves 16 (.int .i64)) := ⟨⟨2, by decide, Try.plain37⟩, by kernel_rfl⟩
theorem Try.plain38 : PlainT Try.prog 2 38 true (leaves 16 (.int .i64)) := plain_array Try.plain2 Try.underlying38 (by kernel_rfl)
instance Try.cmp38 : PlainC Try.prog 38 (leaves 16 (.int .i64)) := ⟨⟨2, by decide, Try.plain38⟩, by kernel_rfl⟩
theorem Try.plain40 : PlainT Try.prog 3 40 true ((leaves 16 (.int .i64)) ++ ((leaves 16 (.int .i64)) ++ [])) := plain_struct' (ts := [(true, (leaves 16 (.int .i64))), (true, (leaves 16 (.int .i64)))]) Try.underlying40 (.cons (Try.plain38.mono (by decide)) rfl (.cons (Try.plain38.mono (by decide)) rfl (.nil _))) (by kernel_rfl) (by kernel_rfl) (by kernel_rfl) (by decide)
instance Try.cmp40 : PlainC Try.prog 40 ((leaves 16 (.int .i64)) ++ ((leaves 16 (.int .i64)) ++ [])) := ⟨⟨3, by decide, Try.plain40⟩, by kernel_rfl⟩
theorem Try.plain41 : PlainT Try.prog 3 41 true ((leaves 16 (.int .i64)) ++ ((leaves 16 (.int .i64)) ++ [])) := plain_struct' (ts := [(true, (leaves 16 (.int .i64))), (true, (leaves 16 (.int .i64)))]) Try.underlying41 (.cons (Try.plain38.mono (by decide)) rfl (.cons (Try.plain38.mono (by decide)) rfl (.nil _))) (by kernel_rfl) (by kernel_rfl) (by kernel_rfl) (by decide)
instance Try.cmp41 : PlainC Try.prog 41 ((leaves 16 (.int .i64)) ++ ((leaves 16 (.int .i64)) ++ [])) := ⟨⟨3, by decide, Try.plain41⟩, by kernel_rfl⟩
theorem Try.plain49 : PlainT Try.prog 2 49 true (leaves 31 (.int .i64)) := plain_array Try.plain2 Try.underlying49 (by kernel_rfl)
instance Try.cmp49 : PlainC Try.prog 49 (leaves 31 (.int .i64)) := ⟨⟨2, by decide, Try.plain49⟩, by kernel_rfl⟩
theorem Try.plain59 : PlainT Try.prog 1 59 false [.int .u32] := plain_int Try.underlying59 (by kernel_rfl) .u32
theorem Try.plain60 : PlainT Try.prog 1 60 false [.int .u8] := plain_int Try.underlying60 (by kernel_rfl) .u8
theorem Try.plain61 : PlainT Try.prog 1 61 false [.int .u8] := plain_int Try.underlying61 (by kernel_rfl) .u8
theorem Try.plain64 : PlainT Try.prog 1 64 false [.int .i32] := plain_int Try.underlying64 (by kernel_rfl) .i32
theorem Try.plain65 : PlainT Try.prog 1 65 false [.int .i32] := plain_int Try.underlying65 (by kernel_rfl) .i32
end Go.Proofs.Ytohhiibgjcbpiaa
