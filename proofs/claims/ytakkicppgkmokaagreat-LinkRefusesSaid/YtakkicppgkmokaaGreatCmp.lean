/- The types whose values are compared cell by cell. By program. -/
import Derived.Test.YtakkicppgkmokaaGreatAgg
import Derived.Test.YtakkicppgkmokaaGreatEql
namespace Go.Proofs.YtakkicppgkmokaaGreat
theorem Tryz.plain2 : PlainT Tryz.prog 1 2 false [.int .i64] := plain_int Tryz.underlying2 (by kernel_rfl) .i64
theorem Tryz.plain3 : PlainT Tryz.prog 1 3 false [.int .i64] := plain_int Tryz.underlying3 (by kernel_rfl) .i64
theorem Tryz.plain4 : PlainT Tryz.prog 1 4 false [.bool] := plain_bool Tryz.underlying4 (by kernel_rfl)
theorem Tryz.plain5 : PlainT Tryz.prog 1 5 false [.int .u8] := plain_int Tryz.underlying5 (by kernel_rfl) .u8
theorem Tryz.plain6 : PlainT Tryz.prog 1 6 false [.int .u8] := plain_int Tryz.underlying6 (by kernel_rfl) .u8
theorem Tryz.plain9 : PlainT Tryz.prog 1 9 false [.str] := plain_str Tryz.underlying9 (by kernel_rfl)
theorem Tryz.plain10 : PlainT Tryz.prog 1 10 false [.str] := plain_str Tryz.underlying10 (by kernel_rfl)
theorem Tryz.plain11 : PlainT Tryz.prog 1 11 false [.str] := plain_str Tryz.underlying11 (by kernel_rfl)
theorem Tryz.plain12 : PlainT Tryz.prog 1 12 false [.int .u64] := plain_int Tryz.underlying12 (by kernel_rfl) .u64
theorem Tryz.plain21 : PlainT Tryz.prog 1 21 false [.int .i32] := plain_int Tryz.underlying21 (by kernel_rfl) .i32
theorem Tryz.plain22 : PlainT Tryz.prog 2 22 true (leaves 32 (.int .u8)) := plain_array Tryz.plain5 Tryz.underlying22 (by kernel_rfl)
instance Tryz.cmp22 : PlainC Tryz.prog 22 (leaves 32 (.int .u8)) := ⟨⟨2, by decide, Tryz.plain22⟩, by kernel_rfl⟩
theorem Tryz.plain23 : PlainT Tryz.prog 2 23 true (leaves 32 (.int .u8)) := plain_array Tryz.plain5 Tryz.underlying23 (by kernel_rfl)
instance Tryz.cmp23 : PlainC Tryz.prog 23 (leaves 32 (.int .u8)) := ⟨⟨2, by decide, Tryz.plain23⟩, by kernel_rfl⟩
theorem Tryz.plain28 : PlainT Tryz.prog 3 28 true ((leaves 32 (.int .u8)) ++ ((leaves 32 (.int .u8)) ++ [])) := plain_struct' (ts := [(true, (leaves 32 (.int .u8))), (true, (leaves 32 (.int .u8)))]) Tryz.underlying28 (.cons (Tryz.plain23.mono (by decide)) rfl (.cons (Tryz.plain23.mono (by decide)) rfl (.nil _))) (by kernel_rfl) (by kernel_rfl) (by kernel_rfl) (by decide)
instance Tryz.cmp28 : PlainC Tryz.prog 28 ((leaves 32 (.int .u8)) ++ ((leaves 32 (.int .u8)) ++ [])) := ⟨⟨3, by decide, Tryz.plain28⟩, by kernel_rfl⟩
theorem Tryz.plain29 : PlainT Tryz.prog 3 29 true ((leaves 32 (.int .u8)) ++ ((leaves 32 (.int .u8)) ++ [])) := plain_struct' (ts := [(true, (leaves 32 (.int .u8))), (true, (leaves 32 (.int .u8)))]) Tryz.underlying29 (.cons (Tryz.plain23.mono (by decide)) rfl (.cons (Tryz.plain23.mono (by decide)) rfl (.nil _))) (by kernel_rfl) (by kernel_rfl) (by kernel_rfl) (by decide)
instance Tryz.cmp29 : PlainC Tryz.prog 29 ((leaves 32 (.int .u8)) ++ ((leaves 32 (.int .u8)) ++ [])) := ⟨⟨3, by decide, Tryz.plain29⟩, by kernel_rfl⟩
theorem Tryz.plain30 : PlainT Tryz.prog 1 30 false [.int .i64] := plain_int Tryz.underlying30 (by kernel_rfl) .i64
theorem Tryz.plain33 : PlainT Tryz.prog 3 33 true ((leaves 32 (.int .u8)) ++ ((leaves 32 (.int .u8)) ++ ((leaves 32 (.int .u8)) ++ []))) := plain_struct' (ts := [(true, (leaves 32 (.int .u8))), (true, (leaves 32 (.int .u8))), (true, (leaves 32 (.int .u8)))]) Tryz.underlying33 (.cons (Tryz.plain22.mono (by decide)) rfl (.cons (Tryz.plain22.mono (by decide)) rfl (.cons (Tryz.plain22.mono (by decide)) rfl (.nil _)))) (by kernel_rfl) (by kernel_rfl) (by kernel_rfl) (by decide)
instance Tryz.cmp33 : PlainC Tryz.prog 33 ((leaves 32 (.int .u8)) ++ ((leaves 32 (.int .u8)) ++ ((leaves 32 (.int .u8)) ++ []))) := ⟨⟨3, by decide, Tryz.plain33⟩, by kernel_rfl⟩
theorem Tryz.plain34 : PlainT Tryz.prog 3 34 true ((leaves 32 (.int .u8)) ++ ((leaves 32 (.int .u8)) ++ ((leaves 32 (.int .u8)) ++ []))) := plain_struct' (ts := [(true, (leaves 32 (.int .u8))), (true, (leaves 32 (.int .u8))), (true, (leaves 32 (.int .u8)))]) Tryz.underlying34 (.cons (Tryz.plain22.mono (by decide)) rfl (.cons (Tryz.plain22.mono (by decide)) rfl (.cons (Tryz.plain22.mono (by decide)) rfl (.nil _)))) (by kernel_rfl) (by kernel_rfl) (by kernel_rfl) (by decide)
instance Tryz.cmp34 : PlainC Tryz.prog 34 ((leaves 32 (.int .u8)) ++ ((leaves 32 (.int .u8)) ++ ((leaves 32 (.int .u8)) ++ []))) := ⟨⟨3, by decide, Tryz.plain34⟩, by kernel_rfl⟩
theorem Tryz.plain40 : PlainT Tryz.prog 2 40 true (leaves 4 (.int .u8)) := plain_array Tryz.plain5 Tryz.underlying40 (by kernel_rfl)
instance Tryz.cmp40 : PlainC Tryz.prog 40 (leaves 4 (.int .u8)) := ⟨⟨2, by decide, Tryz.plain40⟩, by kernel_rfl⟩
theorem Tryz.plain41 : PlainT Tryz.prog 2 41 true (.int .i64 :: (.int .i64 :: (.int .i64 :: (.int .i64 :: [])))) := plain_struct' (ts := [(false, [.int .i64]), (false, [.int .i64]), (false, [.int .i64]), (false, [.int .i64])]) Tryz.underlying41 (.cons (Tryz.plain3.mono (by decide)) rfl (.cons (Tryz.plain3.mono (by decide)) rfl (.cons (Tryz.plain3.mono (by decide)) rfl (.cons (Tryz.plain3.mono (by decide)) rfl (.nil _))))) (by kernel_rfl) (by kernel_rfl) (by kernel_rfl) (by decide)
instance Tryz.cmp41 : PlainC Tryz.prog 41 (.int .i64 :: (.int .i64 :: (.int .i64 :: (.int .i64 :: [])))) := ⟨⟨2, by decide, Tryz.plain41⟩, by kernel_rfl⟩
theorem Tryz.plain42 : PlainT Tryz.prog 2 42 true (.int .i64 :: (.int .i64 :: (.int .i64 :: (.int .i64 :: [])))) := plain_struct' (ts := [(false, [.int .i64]), (false, [.int .i64]), (false, [.int .i64]), (false, [.int .i64])]) Tryz.underlying42 (.cons (Tryz.plain3.mono (by decide)) rfl (.cons (Tryz.plain3.mono (by decide)) rfl (.cons (Tryz.plain3.mono (by decide)) rfl (.cons (Tryz.plain3.mono (by decide)) rfl (.nil _))))) (by kernel_rfl) (by kernel_rfl) (by kernel_rfl) (by decide)
instance Tryz.cmp42 : PlainC Tryz.prog 42 (.int .i64 :: (.int .i64 :: (.int .i64 :: (.int .i64 :: [])))) := ⟨⟨2, by decide, Tryz.plain42⟩, by kernel_rfl⟩
theorem Tryz.plain57 : PlainT Tryz.prog 2 57 true (leaves 4 (.int .i64)) := plain_array Tryz.plain3 Tryz.underlying57 (by kernel_rfl)
instance Tryz.cmp57 : PlainC Tryz.prog 57 (leaves 4 (.int .i64)) := ⟨⟨2, by decide, Tryz.plain57⟩, by kernel_rfl⟩
theorem Tryz.plain66 : PlainT Tryz.prog 1 66 false [.int .u64] := plain_int Tryz.underlying66 (by kernel_rfl) .u64
theorem Tryz.plain67 : PlainT Tryz.prog 2 67 true (.int .i64 :: (.int .u64 :: (.str :: []))) := plain_struct' (ts := [(false, [.int .i64]), (false, [.int .u64]), (false, [.str])]) Tryz.underlying67 (.cons (Tryz.plain3.mono (by decide)) rfl (.cons (Tryz.plain66.mono (by decide)) rfl (.cons (Tryz.plain9.mono (by decide)) rfl (.nil _)))) (by kernel_rfl) (by kernel_rfl) (by kernel_rfl) (by decide)
instance Tryz.cmp67 : PlainC Tryz.prog 67 (.int .i64 :: (.int .u64 :: (.str :: []))) := ⟨⟨2, by decide, Tryz.plain67⟩, by kernel_rfl⟩
theorem Tryz.plain68 : PlainT Tryz.prog 2 68 true (.int .i64 :: (.int .u64 :: (.str :: []))) := plain_struct' (ts := [(false, [.int .i64]), (false, [.int .u64]), (false, [.str])]) Tryz.underlying68 (.cons (Tryz.plain3.mono (by decide)) rfl (.cons (Tryz.plain66.mono (by decide)) rfl (.cons (Tryz.plain9.mono (by decide)) rfl (.nil _)))) (by kernel_rfl) (by kernel_rfl) (by kernel_rfl) (by decide)
instance Tryz.cmp68 : PlainC Tryz.prog 68 (.int .i64 :: (.int .u64 :: (.str :: []))) := ⟨⟨2, by decide, Tryz.plain68⟩, by kernel_rfl⟩
theorem Tryz.plain89 : PlainT Tryz.prog 2 89 true (leaves 2 (.int .i64)) := plain_array Tryz.plain3 Tryz.underlying89 (by kernel_rfl)
instance Tryz.cmp89 : PlainC Tryz.prog 89 (leaves 2 (.int .i64)) := ⟨⟨2, by decide, Tryz.plain89⟩, by kernel_rfl⟩
theorem Tryz.plain95 : PlainT Tryz.prog 2 95 true (.int .u64 :: (.int .u64 :: (.bool :: []))) := plain_struct' (ts := [(false, [.int .u64]), (false, [.int .u64]), (false, [.bool])]) Tryz.underlying95 (.cons (Tryz.plain66.mono (by decide)) rfl (.cons (Tryz.plain66.mono (by decide)) rfl (.cons (Tryz.plain4.mono (by decide)) rfl (.nil _)))) (by kernel_rfl) (by kernel_rfl) (by kernel_rfl) (by decide)
instance Tryz.cmp95 : PlainC Tryz.prog 95 (.int .u64 :: (.int .u64 :: (.bool :: []))) := ⟨⟨2, by decide, Tryz.plain95⟩, by kernel_rfl⟩
theorem Tryz.plain96 : PlainT Tryz.prog 2 96 true (.int .u64 :: (.int .u64 :: (.bool :: []))) := plain_struct' (ts := [(false, [.int .u64]), (false, [.int .u64]), (false, [.bool])]) Tryz.underlying96 (.cons (Tryz.plain66.mono (by decide)) rfl (.cons (Tryz.plain66.mono (by decide)) rfl (.cons (Tryz.plain4.mono (by decide)) rfl (.nil _)))) (by kernel_rfl) (by kernel_rfl) (by kernel_rfl) (by decide)
instance Tryz.cmp96 : PlainC Tryz.prog 96 (.int .u64 :: (.int .u64 :: (.bool :: []))) := ⟨⟨2, by decide, Tryz.plain96⟩, by kernel_rfl⟩
theorem Tryz.plain97 : PlainT Tryz.prog 3 97 true ((.int .u64 :: (.int .u64 :: (.bool :: []))) ++ []) := plain_struct' (ts := [(true, (.int .u64 :: (.int .u64 :: (.bool :: []))))]) Tryz.underlying97 (.cons (Tryz.plain96.mono (by decide)) rfl (.nil _)) (by kernel_rfl) (by kernel_rfl) (by kernel_rfl) (by decide)
instance Tryz.cmp97 : PlainC Tryz.prog 97 ((.int .u64 :: (.int .u64 :: (.bool :: []))) ++ []) := ⟨⟨3, by decide, Tryz.plain97⟩, by kernel_rfl⟩
theorem Tryz.plain98 : PlainT Tryz.prog 3 98 true ((.int .u64 :: (.int .u64 :: (.bool :: []))) ++ []) := plain_struct' (ts := [(true, (.int .u64 :: (.int .u64 :: (.bool :: []))))]) Tryz.underlying98 (.cons (Tryz.plain96.mono (by decide)) rfl (.nil _)) (by kernel_rfl) (by kernel_rfl) (by kernel_rfl) (by decide)
instance Tryz.cmp98 : PlainC Tryz.prog 98 ((.int .u64 :: (.int .u64 :: (.bool :: []))) ++ []) := ⟨⟨3, by decide, Tryz.plain98⟩, by kernel_rfl⟩
theorem Tryz.plain99 : PlainT Tryz.prog 4 99 true (((leaves 32 (.int .u8)) ++ ((leaves 32 (.int .u8)) ++ [])) ++ (.int .i64 :: (.int .u64 :: (((.int .u64 :: (.int .u64 :: (.bool :: []))) ++ []) ++ (.int .i64 :: (.int .i64 :: (.int .i64 :: []))))))) := plain_struct' (ts := [(true, ((leaves 32 (.int .u8)) ++ ((leaves 32 (.int .u8)) ++ []))), (false, [.int .i64]), (false, [.int .u64]), (true, ((.int .u64 :: (.int .u64 :: (.bool :: []))) ++ [])), (false, [.int .i64]), (false, [.int .i64]), (false, [.int .i64])]) Tryz.underlying99 (.cons (Tryz.plain29.mono (by decide)) rfl (.cons (Tryz.plain3.mono (by decide)) rfl (.cons (Tryz.plain66.mono (by decide)) rfl (.cons (Tryz.plain98.mono (by decide)) rfl (.cons (Tryz.plain3.mono (by decide)) rfl (.cons (Tryz.plain3.mono (by decide)) rfl (.cons (Tryz.plain3.mono (by decide)) rfl (.nil _)))))))) (by kernel_rfl) (by kernel_rfl) (by kernel_rfl) (by decide)
instance Tryz.cmp99 : PlainC Tryz.prog 99 (((leaves 32 (.int .u8)) ++ ((leaves 32 (.int .u8)) ++ [])) ++ (.int .i64 :: (.int .u64 :: (((.int .u64 :: (.int .u64 :: (.bool :: []))) ++ []) ++ (.int .i64 :: (.int .i64 :: (.int .i64 :: []))))))) := ⟨⟨4, by decide, Tryz.plain99⟩, by kernel_rfl⟩
theorem Tryz.plain100 : PlainT Tryz.prog 4 100 true (((leaves 32 (.int .u8)) ++ ((leaves 32 (.int .u8)) ++ [])) ++ (.int .i64 :: (.int .u64 :: (((.int .u64 :: (.int .u64 :: (.bool :: []))) ++ []) ++ (.int .i64 :: (.int .i64 :: (.int .i64 :: []))))))) := plain_struct' (ts := [(true, ((leaves 32 (.int .u8)) ++ ((leaves 32 (.int .u8)) ++ []))), (false, [.int .i64]), (false, [.int .u64]), (true, ((.int .u64 :: (.int .u64 :: (.bool :: []))) ++ [])), (false, [.int .i64]), (false, [.int .i64]), (false, [.int .i64])]) Tryz.underlying100 (.cons (Tryz.plain29.mono (by decide)) rfl (.cons (Tryz.plain3.mono (by decide)) rfl (.cons (Tryz.plain66.mono (by decide)) rfl (.cons (Tryz.plain98.mono (by decide)) rfl (.cons (Tryz.plain3.mono (by decide)) rfl (.cons (Tryz.plain3.mono (by decide)) rfl (.cons (Tryz.plain3.mono (by decide)) rfl (.nil _)))))))) (by kernel_rfl) (by kernel_rfl) (by kernel_rfl) (by decide)
instance Tryz.cmp100 : PlainC Tryz.prog 100 (((leaves 32 (.int .u8)) ++ ((leaves 32 (.int .u8)) ++ [])) ++ (.int .i64 :: (.int .u64 :: (((.int .u64 :: (.int .u64 :: (.bool :: []))) ++ []) ++ (.int .i64 :: (.int .i64 :: (.int .i64 :: []))))))) := ⟨⟨4, by decide, Tryz.plain100⟩, by kernel_rfl⟩
theorem Tryz.plain111 : PlainT Tryz.prog 3 111 true ((leaves 32 (.int .u8)) ++ ((leaves 32 (.int .u8)) ++ ((leaves 32 (.int .u8)) ++ (.int .u64 :: ((leaves 32 (.int .u8)) ++ []))))) := plain_struct' (ts := [(true, (leaves 32 (.int .u8))), (true, (leaves 32 (.int .u8))), (true, (leaves 32 (.int .u8))), (false, [.int .u64]), (true, (leaves 32 (.int .u8)))]) Tryz.underlying111 (.cons (Tryz.plain23.mono (by decide)) rfl (.cons (Tryz.plain23.mono (by decide)) rfl (.cons (Tryz.plain23.mono (by decide)) rfl (.cons (Tryz.plain66.mono (by decide)) rfl (.cons (Tryz.plain23.mono (by decide)) rfl (.nil _)))))) (by kernel_rfl) (by kernel_rfl) (by kernel_rfl) (by decide)
instance Tryz.cmp111 : PlainC Tryz.prog 111 ((leaves 32 (.int .u8)) ++ ((leaves 32 (.int .u8)) ++ ((leaves 32 (.int .u8)) ++ (.int .u64 :: ((leaves 32 (.int .u8)) ++ []))))) := ⟨⟨3, by decide, Tryz.plain111⟩, by kernel_rfl⟩
theorem Tryz.plain112 : PlainT Tryz.prog 3 112 true ((leaves 32 (.int .u8)) ++ ((leaves 32 (.int .u8)) ++ ((leaves 32 (.int .u8)) ++ (.int .u64 :: ((leaves 32 (.int .u8)) ++ []))))) := plain_struct' (ts := [(true, (leaves 32 (.int .u8))), (true, (leaves 32 (.int .u8))), (true, (leaves 32 (.int .u8))), (false, [.int .u64]), (true, (leaves 32 (.int .u8)))]) Tryz.underlying112 (.cons (Tryz.plain23.mono (by decide)) rfl (.cons (Tryz.plain23.mono (by decide)) rfl (.cons (Tryz.plain23.mono (by decide)) rfl (.cons (Tryz.plain66.mono (by decide)) rfl (.cons (Tryz.plain23.mono (by decide)) rfl (.nil _)))))) (by kernel_rfl) (by kernel_rfl) (by kernel_rfl) (by decide)
instance Tryz.cmp112 : PlainC Tryz.prog 112 ((leaves 32 (.int .u8)) ++ ((leaves 32 (.int .u8)) ++ ((leaves 32 (.int .u8)) ++ (.int .u64 :: ((leaves 32 (.int .u8)) ++ []))))) := ⟨⟨3, by decide, Tryz.plain112⟩, by kernel_rfl⟩
theorem Tryz.plain119 : PlainT Tryz.prog 1 119 false [.int .u32] := plain_int Tryz.underlying119 (by kernel_rfl) .u32
theorem Tryz.plain120 : PlainT Tryz.prog 2 120 true (leaves 32 (.int .i64)) := plain_array Tryz.plain3 Tryz.underlying120 (by kernel_rfl)
instance Tryz.cmp120 : PlainC Tryz.prog 120 (leaves 32 (.int .i64)) := ⟨⟨2, by decide, Tryz.plain120⟩, by kernel_rfl⟩
theorem Tryz.plain134 : PlainT Tryz.prog 1 134 false [.int .u64] := plain_int Tryz.underlying134 (by kernel_rfl) .u64
theorem Tryz.plain135 : PlainT Tryz.prog 2 135 true (leaves 64 (.int .u32)) := plain_array Tryz.plain119 Tryz.underlying135 (by kernel_rfl)
instance Tryz.cmp135 : PlainC Tryz.prog 135 (leaves 64 (.int .u32)) := ⟨⟨2, by decide, Tryz.plain135⟩, by kernel_rfl⟩
theorem Tryz.plain137 : PlainT Tryz.prog 2 137 true (leaves 8 (.int .u32)) := plain_array Tryz.plain119 Tryz.underlying137 (by kernel_rfl)
instance Tryz.cmp137 : PlainC Tryz.prog 137 (leaves 8 (.int .u32)) := ⟨⟨2, by decide, Tryz.plain137⟩, by kernel_rfl⟩
theorem Tryz.plain143 : PlainT Tryz.prog 2 143 true (leaves 16 (.int .i64)) := plain_array Tryz.plain2 Tryz.underlying143 (by kernel_rfl)
instance Tryz.cmp143 : PlainC Tryz.prog 143 (leaves 16 (.int .i64)) := ⟨⟨2, by decide, Tryz.plain143⟩, by kernel_rfl⟩
theorem Tryz.plain144 : PlainT Tryz.prog 2 144 true (leaves 16 (.int .i64)) := plain_array Tryz.plain2 Tryz.underlying144 (by kernel_rfl)
instance Tryz.cmp144 : PlainC Tryz.prog 144 (leaves 16 (.int .i64)) := ⟨⟨2, by decide, Tryz.plain144⟩, by kernel_rfl⟩
theorem Tryz.plain146 : PlainT Tryz.prog 3 146 true ((leaves 16 (.int .i64)) ++ ((leaves 16 (.int .i64)) ++ [])) := plain_struct' (ts := [(true, (leaves 16 (.int .i64))), (true, (leaves 16 (.int .i64)))]) Tryz.underlying146 (.cons (Tryz.plain144.mono (by decide)) rfl (.cons (Tryz.plain144.mono (by decide)) rfl (.nil _))) (by kernel_rfl) (by kernel_rfl) (by kernel_rfl) (by decide)
instance Tryz.cmp146 : PlainC Tryz.prog 146 ((leaves 16 (.int .i64)) ++ ((leaves 16 (.int .i64)) ++ [])) := ⟨⟨3, by decide, Tryz.plain146⟩, by kernel_rfl⟩
theorem Tryz.plain147 : PlainT Tryz.prog 3 147 true ((leaves 16 (.int .i64)) ++ ((leaves 16 (.int .i64)) ++ [])) := plain_struct' (ts := [(true, (leaves 16 (.int .i64))), (true, (leaves 16 (.int .i64)))]) Tryz.underlying147 (.cons (Tryz.plain144.mono (by decide)) rfl (.cons (Tryz.plain144.mono (by decide)) rfl (.nil _))) (by kernel_rfl) (by kernel_rfl) (by kernel_rfl) (by decide)
instance Tryz.cmp147 : PlainC Tryz.prog 147 ((leaves 16 (.int .i64)) ++ ((leaves 16 (.int .i64)) ++ [])) := ⟨⟨3, by decide, Tryz.plain147⟩, by kernel_rfl⟩
theorem Tryz.plain156 : PlainT Tryz.prog 2 156 true (leaves 16 (.int .u8)) := plain_array Tryz.plain5 Tryz.underlying156 (by kernel_rfl)
instance Tryz.cmp156 : PlainC Tryz.prog 156 (leaves 16 (.int .u8)) := ⟨⟨2, by decide, Tryz.plain156⟩, by kernel_rfl⟩
theorem Tryz.plain159 : PlainT Tryz.prog 2 159 true (leaves 64 (.int .u8)) := plain_array Tryz.plain5 Tryz.underlying159 (by kernel_rfl)
instance Tryz.cmp159 : PlainC Tryz.prog 159 (leaves 64 (.int .u8)) := ⟨⟨2, by decide, Tryz.plain159⟩, by kernel_rfl⟩
theorem Tryz.plain171 : PlainT Tryz.prog 2 171 true (leaves 31 (.int .i64)) := plain_array Tryz.plain2 Tryz.underlying171 (by kernel_rfl)
instance Tryz.cmp171 : PlainC Tryz.prog 171 (leaves 31 (.int .i64)) := ⟨⟨2, by decide, Tryz.plain171⟩, by kernel_rfl⟩
theorem Tryz.plain176 : PlainT Tryz.prog 2 176 true (leaves 16 (.int .u32)) := plain_array Tryz.plain119 Tryz.underlying176 (by kernel_rfl)
instance Tryz.cmp176 : PlainC Tryz.prog 176 (leaves 16 (.int .u32)) := ⟨⟨2, by decide, Tryz.plain176⟩, by kernel_rfl⟩
theorem Tryz.plain181 : PlainT Tryz.prog 2 181 true (leaves 16 (.int .u32)) := plain_array Tryz.plain119 Tryz.underlying181 (by kernel_rfl)
instance Tryz.cmp181 : PlainC Tryz.prog 181 (leaves 16 (.int .u32)) := ⟨⟨2, by decide, Tryz.plain181⟩, by kernel_rfl⟩
theorem Tryz.plain184 : PlainT Tryz.prog 2 184 true (leaves 2 (.int .u64)) := plain_array Tryz.plain66 Tryz.underlying184 (by kernel_rfl)
instance Tryz.cmp184 : PlainC Tryz.prog 184 (leaves 2 (.int .u64)) := ⟨⟨2, by decide, Tryz.plain184⟩, by kernel_rfl⟩
theorem Tryz.plain185 : PlainT Tryz.prog 2 185 true (leaves 3 (.int .u64)) := plain_array Tryz.plain66 Tryz.underlying185 (by kernel_rfl)
instance Tryz.cmp185 : PlainC Tryz.prog 185 (leaves 3 (.int .u64)) := ⟨⟨2, by decide, Tryz.plain185⟩, by kernel_rfl⟩
theorem Tryz.plain186 : PlainT Tryz.prog 2 186 true (leaves 3 (.int .u64)) := plain_array Tryz.plain66 Tryz.underlying186 (by kernel_rfl)
instance Tryz.cmp186 : PlainC Tryz.prog 186 (leaves 3 (.int .u64)) := ⟨⟨2, by decide, Tryz.plain186⟩, by kernel_rfl⟩
theorem Tryz.plain213 : PlainT Tryz.prog 2 213 true (leaves 4 (.int .u64)) := plain_array Tryz.plain66 Tryz.underlying213 (by kernel_rfl)
instance Tryz.cmp213 : PlainC Tryz.prog 213 (leaves 4 (.int .u64)) := ⟨⟨2, by decide, Tryz.plain213⟩, by kernel_rfl⟩
theorem Tryz.plain228 : PlainT Tryz.prog 1 228 false [.int .u8] := plain_int Tryz.underlying228 (by kernel_rfl) .u8
theorem Tryz.plain229 : PlainT Tryz.prog 1 229 false [.int .u8] := plain_int Tryz.underlying229 (by kernel_rfl) .u8
theorem Tryz.plain231 : PlainT Tryz.prog 1 231 false [.int .i32] := plain_int Tryz.underlying231 (by kernel_rfl) .i32
theorem Tryz.plain232 : PlainT Tryz.prog 1 232 false [.int .i32] := plain_int Tryz.underlying232 (by kernel_rfl) .i32
end Go.Proofs.YtakkicppgkmokaaGreat
