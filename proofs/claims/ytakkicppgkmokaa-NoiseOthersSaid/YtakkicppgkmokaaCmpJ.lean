/- The types whose values are compared cell by cell. By program. -/
import Derived.Test.YtakkicppgkmokaaJ2
namespace Go.Proofs.Ytakkicppgkmokaa
theorem Try.plain2 : PlainT Try.prog 1 2 false [.int .i64] := plain_int Try.underlying2 (by kernel_rfl) .i64
theorem Try.plain3 : PlainT Try.prog 1 3 false [.int .i64] := plain_int Try.underlying3 (by kernel_rfl) .i64
theorem Try.plain4 : PlainT Try.prog 1 4 false [.bool] := plain_bool Try.underlying4 (by kernel_rfl)
theorem Try.plain5 : PlainT Try.prog 1 5 false [.int .u8] := plain_int Try.underlying5 (by kernel_rfl) .u8
theorem Try.plain6 : PlainT Try.prog 1 6 false [.int .u8] := plain_int Try.underlying6 (by kernel_rfl) .u8
theorem Try.plain9 : PlainT Try.prog 1 9 false [.str] := plain_str Try.underlying9 (by kernel_rfl)
theorem Try.plain10 : PlainT Try.prog 1 10 false [.str] := plain_str Try.underlying10 (by kernel_rfl)
theorem Try.plain11 : PlainT Try.prog 1 11 false [.str] := plain_str Try.underlying11 (by kernel_rfl)
theorem Try.plain12 : PlainT Try.prog 1 12 false [.int .u64] := plain_int Try.underlying12 (by kernel_rfl) .u64
theorem Try.plain21 : PlainT Try.prog 1 21 false [.int .i32] := plain_int Try.underlying21 (by kernel_rfl) .i32
theorem Try.plain22 : PlainT Try.prog 2 22 true (leaves 32 (.int .u8)) := plain_array Try.plain5 Try.underlying22 (by kernel_rfl)
instance Try.cmp22 : PlainC Try.prog 22 (leaves 32 (.int .u8)) := ⟨⟨2, by decide, Try.plain22⟩, by kernel_rfl⟩
theorem Try.plain23 : PlainT Try.prog 2 23 true (leaves 32 (.int .u8)) := plain_array Try.plain5 Try.underlying23 (by kernel_rfl)
instance Try.cmp23 : PlainC Try.prog 23 (leaves 32 (.int .u8)) := ⟨⟨2, by decide, Try.plain23⟩, by kernel_rfl⟩
theorem Try.plain28 : PlainT Try.prog 3 28 true ((leaves 32 (.int .u8)) ++ ((leaves 32 (.int .u8)) ++ [])) := plain_struct' (ts := [(true, (leaves 32 (.int .u8))), (true, (leaves 32 (.int .u8)))]) Try.underlying28 (.cons (Try.plain23.mono (by decide)) rfl (.cons (Try.plain23.mono (by decide)) rfl (.nil _))) (by kernel_rfl) (by kernel_rfl) (by kernel_rfl) (by decide)
instance Try.cmp28 : PlainC Try.prog 28 ((leaves 32 (.int .u8)) ++ ((leaves 32 (.int .u8)) ++ [])) := ⟨⟨3, by decide, Try.plain28⟩, by kernel_rfl⟩
theorem Try.plain29 : PlainT Try.prog 3 29 true ((leaves 32 (.int .u8)) ++ ((leaves 32 (.int .u8)) ++ [])) := plain_struct' (ts := [(true, (leaves 32 (.int .u8))), (true, (leaves 32 (.int .u8)))]) Try.underlying29 (.cons (Try.plain23.mono (by decide)) rfl (.cons (Try.plain23.mono (by decide)) rfl (.nil _))) (by kernel_rfl) (by kernel_rfl) (by kernel_rfl) (by decide)
instance Try.cmp29 : PlainC Try.prog 29 ((leaves 32 (.int .u8)) ++ ((leaves 32 (.int .u8)) ++ [])) := ⟨⟨3, by decide, Try.plain29⟩, by kernel_rfl⟩
theorem Try.plain30 : PlainT Try.prog 1 30 false [.int .i64] := plain_int Try.underlying30 (by kernel_rfl) .i64
theorem Try.plain50 : PlainT Try.prog 1 50 false [.int .u32] := plain_int Try.underlying50 (by kernel_rfl) .u32
theorem Try.plain51 : PlainT Try.prog 2 51 true (leaves 64 (.int .u32)) := plain_array Try.plain50 Try.underlying51 (by kernel_rfl)
instance Try.cmp51 : PlainC Try.prog 51 (leaves 64 (.int .u32)) := ⟨⟨2, by decide, Try.plain51⟩, by kernel_rfl⟩
theorem Try.plain53 : PlainT Try.prog 2 53 true (leaves 8 (.int .u32)) := plain_array Try.plain50 Try.underlying53 (by kernel_rfl)
instance Try.cmp53 : PlainC Try.prog 53 (leaves 8 (.int .u32)) := ⟨⟨2, by decide, Try.plain53⟩, by kernel_rfl⟩
theorem Try.plain57 : PlainT Try.prog 1 57 false [.int .u64] := plain_int Try.underlying57 (by kernel_rfl) .u64
theorem Try.plain58 : PlainT Try.prog 3 58 true ((leaves 32 (.int .u8)) ++ ((leaves 32 (.int .u8)) ++ ((leaves 32 (.int .u8)) ++ (.int .u64 :: ((leaves 32 (.int .u8)) ++ []))))) := plain_struct' (ts := [(true, (leaves 32 (.int .u8))), (true, (leaves 32 (.int .u8))), (true, (leaves 32 (.int .u8))), (false, [.int .u64]), (true, (leaves 32 (.int .u8)))]) Try.underlying58 (.cons (Try.plain23.mono (by decide)) rfl (.cons (Try.plain23.mono (by decide)) rfl (.cons (Try.plain23.mono (by decide)) rfl (.cons (Try.plain57.mono (by decide)) rfl (.cons (Try.plain23.mono (by decide)) rfl (.nil _)))))) (by kernel_rfl) (by kernel_rfl) (by kernel_rfl) (by decide)
instance Try.cmp58 : PlainC Try.prog 58 ((leaves 32 (.int .u8)) ++ ((leaves 32 (.int .u8)) ++ ((leaves 32 (.int .u8)) ++ (.int .u64 :: ((leaves 32 (.int .u8)) ++ []))))) := ⟨⟨3, by decide, Try.plain58⟩, by kernel_rfl⟩
theorem Try.plain59 : PlainT Try.prog 3 59 true ((leaves 32 (.int .u8)) ++ ((leaves 32 (.int .u8)) ++ ((leaves 32 (.int .u8)) ++ (.int .u64 :: ((leaves 32 (.int .u8)) ++ []))))) := plain_struct' (ts := [(true, (leaves 32 (.int .u8))), (true, (leaves 32 (.int .u8))), (true, (leaves 32 (.int .u8))), (false, [.int .u64]), (true, (leaves 32 (.int .u8)))]) Try.underlying59 (.cons (Try.plain23.mono (by decide)) rfl (.cons (Try.plain23.mono (by decide)) rfl (.cons (Try.plain23.mono (by decide)) rfl (.cons (Try.plain57.mono (by decide)) rfl (.cons (Try.plain23.mono (by decide)) rfl (.nil _)))))) (by kernel_rfl) (by kernel_rfl) (by kernel_rfl) (by decide)
instance Try.cmp59 : PlainC Try.prog 59 ((leaves 32 (.int .u8)) ++ ((leaves 32 (.int .u8)) ++ ((leaves 32 (.int .u8)) ++ (.int .u64 :: ((leaves 32 (.int .u8)) ++ []))))) := ⟨⟨3, by decide, Try.plain59⟩, by kernel_rfl⟩
theorem Try.plain72 : PlainT Try.prog 2 72 true (leaves 16 (.int .i64)) := plain_array Try.plain2 Try.underlying72 (by kernel_rfl)
instance Try.cmp72 : PlainC Try.prog 72 (leaves 16 (.int .i64)) := ⟨⟨2, by decide, Try.plain72⟩, by kernel_rfl⟩
theorem Try.plain73 : PlainT Try.prog 2 73 true (leaves 16 (.int .i64)) := plain_array Try.plain2 Try.underlying73 (by kernel_rfl)
instance Try.cmp73 : PlainC Try.prog 73 (leaves 16 (.int .i64)) := ⟨⟨2, by decide, Try.plain73⟩, by kernel_rfl⟩
theorem Try.plain75 : PlainT Try.prog 3 75 true ((leaves 16 (.int .i64)) ++ ((leaves 16 (.int .i64)) ++ [])) := plain_struct' (ts := [(true, (leaves 16 (.int .i64))), (true, (leaves 16 (.int .i64)))]) Try.underlying75 (.cons (Try.plain73.mono (by decide)) rfl (.cons (Try.plain73.mono (by decide)) rfl (.nil _))) (by kernel_rfl) (by kernel_rfl) (by kernel_rfl) (by decide)
instance Try.cmp75 : PlainC Try.prog 75 ((leaves 16 (.int .i64)) ++ ((leaves 16 (.int .i64)) ++ [])) := ⟨⟨3, by decide, Try.plain75⟩, by kernel_rfl⟩
theorem Try.plain76 : PlainT Try.prog 3 76 true ((leaves 16 (.int .i64)) ++ ((leaves 16 (.int .i64)) ++ [])) := plain_struct' (ts := [(true, (leaves 16 (.int .i64))), (true, (leaves 16 (.int .i64)))]) Try.underlying76 (.cons (Try.plain73.mono (by decide)) rfl (.cons (Try.plain73.mono (by decide)) rfl (.nil _))) (by kernel_rfl) (by kernel_rfl) (by kernel_rfl) (by decide)
instance Try.cmp76 : PlainC Try.prog 76 ((leaves 16 (.int .i64)) ++ ((leaves 16 (.int .i64)) ++ [])) := ⟨⟨3, by decide, Try.plain76⟩, by kernel_rfl⟩
theorem Try.plain88 : PlainT Try.prog 1 88 false [.int .u64] := plain_int Try.underlying88 (by kernel_rfl) .u64
theorem Try.plain90 : PlainT Try.prog 2 90 true (leaves 31 (.int .i64)) := plain_array Try.plain2 Try.underlying90 (by kernel_rfl)
instance Try.cmp90 : PlainC Try.prog 90 (leaves 31 (.int .i64)) := ⟨⟨2, by decide, Try.plain90⟩, by kernel_rfl⟩
theorem Try.plain93 : PlainT Try.prog 2 93 true (leaves 64 (.int .u8)) := plain_array Try.plain5 Try.underlying93 (by kernel_rfl)
instance Try.cmp93 : PlainC Try.prog 93 (leaves 64 (.int .u8)) := ⟨⟨2, by decide, Try.plain93⟩, by kernel_rfl⟩
theorem Try.plain96 : PlainT Try.prog 2 96 true (leaves 16 (.int .u8)) := plain_array Try.plain5 Try.underlying96 (by kernel_rfl)
instance Try.cmp96 : PlainC Try.prog 96 (leaves 16 (.int .u8)) := ⟨⟨2, by decide, Try.plain96⟩, by kernel_rfl⟩
theorem Try.plain114 : PlainT Try.prog 2 114 true (leaves 16 (.int .u32)) := plain_array Try.plain50 Try.underlying114 (by kernel_rfl)
instance Try.cmp114 : PlainC Try.prog 114 (leaves 16 (.int .u32)) := ⟨⟨2, by decide, Try.plain114⟩, by kernel_rfl⟩
theorem Try.plain115 : PlainT Try.prog 2 115 true (leaves 16 (.int .u32)) := plain_array Try.plain50 Try.underlying115 (by kernel_rfl)
instance Try.cmp115 : PlainC Try.prog 115 (leaves 16 (.int .u32)) := ⟨⟨2, by decide, Try.plain115⟩, by kernel_rfl⟩
theorem Try.plain119 : PlainT Try.prog 2 119 true (leaves 2 (.int .u64)) := plain_array Try.plain57 Try.underlying119 (by kernel_rfl)
instance Try.cmp119 : PlainC Try.prog 119 (leaves 2 (.int .u64)) := ⟨⟨2, by decide, Try.plain119⟩, by kernel_rfl⟩
theorem Try.plain120 : PlainT Try.prog 2 120 true (leaves 3 (.int .u64)) := plain_array Try.plain57 Try.underlying120 (by kernel_rfl)
instance Try.cmp120 : PlainC Try.prog 120 (leaves 3 (.int .u64)) := ⟨⟨2, by decide, Try.plain120⟩, by kernel_rfl⟩
theorem Try.plain121 : PlainT Try.prog 2 121 true (leaves 3 (.int .u64)) := plain_array Try.plain57 Try.underlying121 (by kernel_rfl)
instance Try.cmp121 : PlainC Try.prog 121 (leaves 3 (.int .u64)) := ⟨⟨2, by decide, Try.plain121⟩, by kernel_rfl⟩
theorem Try.plain140 : PlainT Try.prog 2 140 true (leaves 4 (.int .u64)) := plain_array Try.plain57 Try.underlying140 (by kernel_rfl)
instance Try.cmp140 : PlainC Try.prog 140 (leaves 4 (.int .u64)) := ⟨⟨2, by decide, Try.plain140⟩, by kernel_rfl⟩
theorem Try.plain151 : PlainT Try.prog 1 151 false [.int .u8] := plain_int Try.underlying151 (by kernel_rfl) .u8
theorem Try.plain152 : PlainT Try.prog 1 152 false [.int .u8] := plain_int Try.underlying152 (by kernel_rfl) .u8
theorem Try.plain154 : PlainT Try.prog 1 154 false [.int .i32] := plain_int Try.underlying154 (by kernel_rfl) .i32
theorem Try.plain155 : PlainT Try.prog 1 155 false [.int .i32] := plain_int Try.underlying155 (by kernel_rfl) .i32
end Go.Proofs.Ytakkicppgkmokaa
