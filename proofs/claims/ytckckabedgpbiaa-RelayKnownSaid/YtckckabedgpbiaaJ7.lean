/- Texts of this proof, merged: Cmp, Frame. -/
import Derived.Test.YtckckabedgpbiaaAggJ
import Derived.Test.YtckckabedgpbiaaEqlJ
import Derived.ProofKit
import Derived.OpenShut
import Derived.ChangeOld
import Derived.Below
import Derived.Carry
set_option linter.unusedSimpArgs false
set_option linter.unusedVariables false
namespace Go.Proofs.Ytckckabedgpbiaa
section
theorem Try.plain3 : PlainT Try.prog 1 3 false [.int .i64] := plain_int Try.underlying3 (by kernel_rfl) .i64
theorem Try.plain4 : PlainT Try.prog 1 4 false [.bool] := plain_bool Try.underlying4 (by kernel_rfl)
theorem Try.plain5 : PlainT Try.prog 1 5 false [.int .u8] := plain_int Try.underlying5 (by kernel_rfl) .u8
theorem Try.plain9 : PlainT Try.prog 1 9 false [.str] := plain_str Try.underlying9 (by kernel_rfl)
theorem Try.plain29 : PlainT Try.prog 2 29 true (leaves 6 (.int .u8)) := plain_array Try.plain5 Try.underlying29 (by kernel_rfl)
instance Try.cmp29 : PlainC Try.prog 29 (leaves 6 (.int .u8)) := ⟨⟨2, by decide, Try.plain29⟩, by kernel_rfl⟩
theorem Try.plain30 : PlainT Try.prog 2 30 true (leaves 6 (.int .u8)) := plain_array Try.plain5 Try.underlying30 (by kernel_rfl)
instance Try.cmp30 : PlainC Try.prog 30 (leaves 6 (.int .u8)) := ⟨⟨2, by decide, Try.plain30⟩, by kernel_rfl⟩
theorem Try.plain31 : PlainT Try.prog 3 31 true ((leaves 6 (.int .u8)) ++ ((leaves 6 (.int .u8)) ++ (.int .i64 :: (.str :: [])))) := plain_struct' (ts := [(true, (leaves 6 (.int .u8))), (true, (leaves 6 (.int .u8))), (false, [.int .i64]), (false, [.str])]) Try.underlying31 (.cons (Try.plain30.mono (by decide)) rfl (.cons (Try.plain30.mono (by decide)) rfl (.cons (Try.plain3.mono (by decide)) rfl (.cons (Try.plain9.mono (by decide)) rfl (.nil _))))) (by kernel_rfl) (by kernel_rfl) (by kernel_rfl) (by decide)
instance Try.cmp31 : PlainC Try.prog 31 ((leaves 6 (.int .u8)) ++ ((leaves 6 (.int .u8)) ++ (.int .i64 :: (.str :: [])))) := ⟨⟨3, by decide, Try.plain31⟩, by kernel_rfl⟩
theorem Try.plain32 : PlainT Try.prog 3 32 true ((leaves 6 (.int .u8)) ++ ((leaves 6 (.int .u8)) ++ (.int .i64 :: (.str :: [])))) := plain_struct' (ts := [(true, (leaves 6 (.int .u8))), (true, (leaves 6 (.int .u8))), (false, [.int .i64]), (false, [.str])]) Try.underlying32 (.cons (Try.plain30.mono (by decide)) rfl (.cons (Try.plain30.mono (by decide)) rfl (.cons (Try.plain3.mono (by decide)) rfl (.cons (Try.plain9.mono (by decide)) rfl (.nil _))))) (by kernel_rfl) (by kernel_rfl) (by kernel_rfl) (by decide)
instance Try.cmp32 : PlainC Try.prog 32 ((leaves 6 (.int .u8)) ++ ((leaves 6 (.int .u8)) ++ (.int .i64 :: (.str :: [])))) := ⟨⟨3, by decide, Try.plain32⟩, by kernel_rfl⟩
theorem Try.plain35 : PlainT Try.prog 4 35 true (.int .u8 :: (.int .i64 :: (((leaves 6 (.int .u8)) ++ ((leaves 6 (.int .u8)) ++ (.int .i64 :: (.str :: [])))) ++ []))) := plain_struct' (ts := [(false, [.int .u8]), (false, [.int .i64]), (true, ((leaves 6 (.int .u8)) ++ ((leaves 6 (.int .u8)) ++ (.int .i64 :: (.str :: [])))))]) Try.underlying35 (.cons (Try.plain5.mono (by decide)) rfl (.cons (Try.plain3.mono (by decide)) rfl (.cons (Try.plain32.mono (by decide)) rfl (.nil _)))) (by kernel_rfl) (by kernel_rfl) (by kernel_rfl) (by decide)
instance Try.cmp35 : PlainC Try.prog 35 (.int .u8 :: (.int .i64 :: (((leaves 6 (.int .u8)) ++ ((leaves 6 (.int .u8)) ++ (.int .i64 :: (.str :: [])))) ++ []))) := ⟨⟨4, by decide, Try.plain35⟩, by kernel_rfl⟩
theorem Try.plain36 : PlainT Try.prog 4 36 true (.int .u8 :: (.int .i64 :: (((leaves 6 (.int .u8)) ++ ((leaves 6 (.int .u8)) ++ (.int .i64 :: (.str :: [])))) ++ []))) := plain_struct' (ts := [(false, [.int .u8]), (false, [.int .i64]), (true, ((leaves 6 (.int .u8)) ++ ((leaves 6 (.int .u8)) ++ (.int .i64 :: (.str :: [])))))]) Try.underlying36 (.cons (Try.plain5.mono (by decide)) rfl (.cons (Try.plain3.mono (by decide)) rfl (.cons (Try.plain32.mono (by decide)) rfl (.nil _)))) (by kernel_rfl) (by kernel_rfl) (by kernel_rfl) (by decide)
instance Try.cmp36 : PlainC Try.prog 36 (.int .u8 :: (.int .i64 :: (((leaves 6 (.int .u8)) ++ ((leaves 6 (.int .u8)) ++ (.int .i64 :: (.str :: [])))) ++ []))) := ⟨⟨4, by decide, Try.plain36⟩, by kernel_rfl⟩
theorem Try.plain37 : PlainT Try.prog 3 37 true (.str :: ((leaves 6 (.int .u8)) ++ [])) := plain_struct' (ts := [(false, [.str]), (true, (leaves 6 (.int .u8)))]) Try.underlying37 (.cons (Try.plain9.mono (by decide)) rfl (.cons (Try.plain30.mono (by decide)) rfl (.nil _))) (by kernel_rfl) (by kernel_rfl) (by kernel_rfl) (by decide)
instance Try.cmp37 : PlainC Try.prog 37 (.str :: ((leaves 6 (.int .u8)) ++ [])) := ⟨⟨3, by decide, Try.plain37⟩, by kernel_rfl⟩
theorem Try.plain38 : PlainT Try.prog 3 38 true (.str :: ((leaves 6 (.int .u8)) ++ [])) := plain_struct' (ts := [(false, [.str]), (true, (leaves 6 (.int .u8)))]) Try.underlying38 (.cons (Try.plain9.mono (by decide)) rfl (.cons (Try.plain30.mono (by decide)) rfl (.nil _))) (by kernel_rfl) (by kernel_rfl) (by kernel_rfl) (by decide)
instance Try.cmp38 : PlainC Try.prog 38 (.str :: ((leaves 6 (.int .u8)) ++ [])) := ⟨⟨3, by decide, Try.plain38⟩, by kernel_rfl⟩
theorem Try.plain46 : PlainT Try.prog 2 46 true (leaves 4 (.int .u8)) := plain_array Try.plain5 Try.underlying46 (by kernel_rfl)
instance Try.cmp46 : PlainC Try.prog 46 (leaves 4 (.int .u8)) := ⟨⟨2, by decide, Try.plain46⟩, by kernel_rfl⟩
theorem Try.plain56 : PlainT Try.prog 3 56 true (.int .i64 :: (.str :: ((leaves 6 (.int .u8)) ++ (.int .i64 :: [])))) := plain_struct' (ts := [(false, [.int .i64]), (false, [.str]), (true, (leaves 6 (.int .u8))), (false, [.int .i64])]) Try.underlying56 (.cons (Try.plain3.mono (by decide)) rfl (.cons (Try.plain9.mono (by decide)) rfl (.cons (Try.plain30.mono (by decide)) rfl (.cons (Try.plain3.mono (by decide)) rfl (.nil _))))) (by kernel_rfl) (by kernel_rfl) (by kernel_rfl) (by decide)
instance Try.cmp56 : PlainC Try.prog 56 (.int .i64 :: (.str :: ((leaves 6 (.int .u8)) ++ (.int .i64 :: [])))) := ⟨⟨3, by decide, Try.plain56⟩, by kernel_rfl⟩
theorem Try.plain57 : PlainT Try.prog 3 57 true (.int .i64 :: (.str :: ((leaves 6 (.int .u8)) ++ (.int .i64 :: [])))) := plain_struct' (ts := [(false, [.int .i64]), (false, [.str]), (true, (leaves 6 (.int .u8))), (false, [.int .i64])]) Try.underlying57 (.cons (Try.plain3.mono (by decide)) rfl (.cons (Try.plain9.mono (by decide)) rfl (.cons (Try.plain30.mono (by decide)) rfl (.cons (Try.plain3.mono (by decide)) rfl (.nil _))))) (by kernel_rfl) (by kernel_rfl) (by kernel_rfl) (by decide)
instance Try.cmp57 : PlainC Try.prog 57 (.int .i64 :: (.str :: ((leaves 6 (.int .u8)) ++ (.int .i64 :: [])))) := ⟨⟨3, by decide, Try.plain57⟩, by kernel_rfl⟩
theorem Try.plain77 : PlainT Try.prog 4 77 true (((leaves 6 (.int .u8)) ++ ((leaves 6 (.int .u8)) ++ (.int .i64 :: (.str :: [])))) ++ (.int .i64 :: (.int .i64 :: []))) := plain_struct' (ts := [(true, ((leaves 6 (.int .u8)) ++ ((leaves 6 (.int .u8)) ++ (.int .i64 :: (.str :: []))))), (false, [.int .i64]), (false, [.int .i64])]) Try.underlying77 (.cons (Try.plain32.mono (by decide)) rfl (.cons (Try.plain3.mono (by decide)) rfl (.cons (Try.plain3.mono (by decide)) rfl (.nil _)))) (by kernel_rfl) (by kernel_rfl) (by kernel_rfl) (by decide)
instance Try.cmp77 : PlainC Try.prog 77 (((leaves 6 (.int .u8)) ++ ((leaves 6 (.int .u8)) ++ (.int .i64 :: (.str :: [])))) ++ (.int .i64 :: (.int .i64 :: []))) := ⟨⟨4, by decide, Try.plain77⟩, by kernel_rfl⟩
theorem Try.plain78 : PlainT Try.prog 4 78 true (((leaves 6 (.int .u8)) ++ ((leaves 6 (.int .u8)) ++ (.int .i64 :: (.str :: [])))) ++ (.int .i64 :: (.int .i64 :: []))) := plain_struct' (ts := [(true, ((leaves 6 (.int .u8)) ++ ((leaves 6 (.int .u8)) ++ (.int .i64 :: (.str :: []))))), (false, [.int .i64]), (false, [.int .i64])]) Try.underlying78 (.cons (Try.plain32.mono (by decide)) rfl (.cons (Try.plain3.mono (by decide)) rfl (.cons (Try.plain3.mono (by decide)) rfl (.nil _)))) (by kernel_rfl) (by kernel_rfl) (by kernel_rfl) (by decide)
instance Try.cmp78 : PlainC Try.prog 78 (((leaves 6 (.int .u8)) ++ ((leaves 6 (.int .u8)) ++ (.int .i64 :: (.str :: [])))) ++ (.int .i64 :: (.int .i64 :: []))) := ⟨⟨4, by decide, Try.plain78⟩, by kernel_rfl⟩
theorem Try.plain83 : PlainT Try.prog 2 83 true (.int .i64 :: (.str :: [])) := plain_struct' (ts := [(false, [.int .i64]), (false, [.str])]) Try.underlying83 (.cons (Try.plain3.mono (by decide)) rfl (.cons (Try.plain9.mono (by decide)) rfl (.nil _))) (by kernel_rfl) (by kernel_rfl) (by kernel_rfl) (by decide)
instance Try.cmp83 : PlainC Try.prog 83 (.int .i64 :: (.str :: [])) := ⟨⟨2, by decide, Try.plain83⟩, by kernel_rfl⟩
theorem Try.plain84 : PlainT Try.prog 2 84 true (.int .i64 :: (.str :: [])) := plain_struct' (ts := [(false, [.int .i64]), (false, [.str])]) Try.underlying84 (.cons (Try.plain3.mono (by decide)) rfl (.cons (Try.plain9.mono (by decide)) rfl (.nil _))) (by kernel_rfl) (by kernel_rfl) (by kernel_rfl) (by decide)
instance Try.cmp84 : PlainC Try.prog 84 (.int .i64 :: (.str :: [])) := ⟨⟨2, by decide, Try.plain84⟩, by kernel_rfl⟩
theorem Try.plain89 : PlainT Try.prog 2 89 true (.int .i64 :: (.int .i64 :: (.int .i64 :: (.int .i64 :: (.int .i64 :: []))))) := plain_struct' (ts := [(false, [.int .i64]), (false, [.int .i64]), (false, [.int .i64]), (false, [.int .i64]), (false, [.int .i64])]) Try.underlying89 (.cons (Try.plain3.mono (by decide)) rfl (.cons (Try.plain3.mono (by decide)) rfl (.cons (Try.plain3.mono (by decide)) rfl (.cons (Try.plain3.mono (by decide)) rfl (.cons (Try.plain3.mono (by decide)) rfl (.nil _)))))) (by kernel_rfl) (by kernel_rfl) (by kernel_rfl) (by decide)
instance Try.cmp89 : PlainC Try.prog 89 (.int .i64 :: (.int .i64 :: (.int .i64 :: (.int .i64 :: (.int .i64 :: []))))) := ⟨⟨2, by decide, Try.plain89⟩, by kernel_rfl⟩
theorem Try.plain90 : PlainT Try.prog 2 90 true (.int .i64 :: (.int .i64 :: (.int .i64 :: (.int .i64 :: (.int .i64 :: []))))) := plain_struct' (ts := [(false, [.int .i64]), (false, [.int .i64]), (false, [.int .i64]), (false, [.int .i64]), (false, [.int .i64])]) Try.underlying90 (.cons (Try.plain3.mono (by decide)) rfl (.cons (Try.plain3.mono (by decide)) rfl (.cons (Try.plain3.mono (by decide)) rfl (.cons (Try.plain3.mono (by decide)) rfl (.cons (Try.plain3.mono (by decide)) rfl (.nil _)))))) (by kernel_rfl) (by kernel_rfl) (by kernel_rfl) (by decide)
instance Try.cmp90 : PlainC Try.prog 90 (.int .i64 :: (.int .i64 :: (.int .i64 :: (.int .i64 :: (.int .i64 :: []))))) := ⟨⟨2, by decide, Try.plain90⟩, by kernel_rfl⟩
theorem Try.plain99 : PlainT Try.prog 2 99 true (.int .u8 :: (.int .i64 :: (.int .i64 :: (.str :: [])))) := plain_struct' (ts := [(false, [.int .u8]), (false, [.int .i64]), (false, [.int .i64]), (false, [.str])]) Try.underlying99 (.cons (Try.plain5.mono (by decide)) rfl (.cons (Try.plain3.mono (by decide)) rfl (.cons (Try.plain3.mono (by decide)) rfl (.cons (Try.plain9.mono (by decide)) rfl (.nil _))))) (by kernel_rfl) (by kernel_rfl) (by kernel_rfl) (by decide)
instance Try.cmp99 : PlainC Try.prog 99 (.int .u8 :: (.int .i64 :: (.int .i64 :: (.str :: [])))) := ⟨⟨2, by decide, Try.plain99⟩, by kernel_rfl⟩
theorem Try.plain100 : PlainT Try.prog 2 100 true (.int .u8 :: (.int .i64 :: (.int .i64 :: (.str :: [])))) := plain_struct' (ts := [(false, [.int .u8]), (false, [.int .i64]), (false, [.int .i64]), (false, [.str])]) Try.underlying100 (.cons (Try.plain5.mono (by decide)) rfl (.cons (Try.plain3.mono (by decide)) rfl (.cons (Try.plain3.mono (by decide)) rfl (.cons (Try.plain9.mono (by decide)) rfl (.nil _))))) (by kernel_rfl) (by kernel_rfl) (by kernel_rfl) (by decide)
instance Try.cmp100 : PlainC Try.prog 100 (.int .u8 :: (.int .i64 :: (.int .i64 :: (.str :: [])))) := ⟨⟨2, by decide, Try.plain100⟩, by kernel_rfl⟩
theorem Try.plain111 : PlainT Try.prog 3 111 true (.int .i64 :: ((leaves 6 (.int .u8)) ++ ((leaves 6 (.int .u8)) ++ ((leaves 4 (.int .u8)) ++ ((leaves 4 (.int .u8)) ++ []))))) := plain_struct' (ts := [(false, [.int .i64]), (true, (leaves 6 (.int .u8))), (true, (leaves 6 (.int .u8))), (true, (leaves 4 (.int .u8))), (true, (leaves 4 (.int .u8)))]) Try.underlying111 (.cons (Try.plain3.mono (by decide)) rfl (.cons (Try.plain30.mono (by decide)) rfl (.cons (Try.plain30.mono (by decide)) rfl (.cons (Try.plain46.mono (by decide)) rfl (.cons (Try.plain46.mono (by decide)) rfl (.nil _)))))) (by kernel_rfl) (by kernel_rfl) (by kernel_rfl) (by decide)
instance Try.cmp111 : PlainC Try.prog 111 (.int .i64 :: ((leaves 6 (.int .u8)) ++ ((leaves 6 (.int .u8)) ++ ((leaves 4 (.int .u8)) ++ ((leaves 4 (.int .u8)) ++ []))))) := ⟨⟨3, by decide, Try.plain111⟩, by kernel_rfl⟩
theorem Try.plain112 : PlainT Try.prog 3 112 true (.int .i64 :: ((leaves 6 (.int .u8)) ++ ((leaves 6 (.int .u8)) ++ ((leaves 4 (.int .u8)) ++ ((leaves 4 (.int .u8)) ++ []))))) := plain_struct' (ts := [(false, [.int .i64]), (true, (leaves 6 (.int .u8))), (true, (leaves 6 (.int .u8))), (true, (leaves 4 (.int .u8))), (true, (leaves 4 (.int .u8)))]) Try.underlying112 (.cons (Try.plain3.mono (by decide)) rfl (.cons (Try.plain30.mono (by decide)) rfl (.cons (Try.plain30.mono (by decide)) rfl (.cons (Try.plain46.mono (by decide)) rfl (.cons (Try.plain46.mono (by decide)) rfl (.nil _)))))) (by kernel_rfl) (by kernel_rfl) (by kernel_rfl) (by decide)
instance Try.cmp112 : PlainC Try.prog 112 (.int .i64 :: ((leaves 6 (.int .u8)) ++ ((leaves 6 (.int .u8)) ++ ((leaves 4 (.int .u8)) ++ ((leaves 4 (.int .u8)) ++ []))))) := ⟨⟨3, by decide, Try.plain112⟩, by kernel_rfl⟩
theorem Try.plain118 : PlainT Try.prog 2 118 true (leaves 16 (.int .u8)) := plain_array Try.plain5 Try.underlying118 (by kernel_rfl)
instance Try.cmp118 : PlainC Try.prog 118 (leaves 16 (.int .u8)) := ⟨⟨2, by decide, Try.plain118⟩, by kernel_rfl⟩
theorem Try.plain119 : PlainT Try.prog 3 119 true (.int .i64 :: ((leaves 16 (.int .u8)) ++ ((leaves 16 (.int .u8)) ++ ((leaves 16 (.int .u8)) ++ ((leaves 6 (.int .u8)) ++ (.bool :: ((leaves 4 (.int .u8)) ++ []))))))) := plain_struct' (ts := [(false, [.int .i64]), (true, (leaves 16 (.int .u8))), (true, (leaves 16 (.int .u8))), (true, (leaves 16 (.int .u8))), (true, (leaves 6 (.int .u8))), (false, [.bool]), (true, (leaves 4 (.int .u8)))]) Try.underlying119 (.cons (Try.plain3.mono (by decide)) rfl (.cons (Try.plain118.mono (by decide)) rfl (.cons (Try.plain118.mono (by decide)) rfl (.cons (Try.plain118.mono (by decide)) rfl (.cons (Try.plain30.mono (by decide)) rfl (.cons (Try.plain4.mono (by decide)) rfl (.cons (Try.plain46.mono (by decide)) rfl (.nil _)))))))) (by kernel_rfl) (by kernel_rfl) (by kernel_rfl) (by decide)
instance Try.cmp119 : PlainC Try.prog 119 (.int .i64 :: ((leaves 16 (.int .u8)) ++ ((leaves 16 (.int .u8)) ++ ((leaves 16 (.int .u8)) ++ ((leaves 6 (.int .u8)) ++ (.bool :: ((leaves 4 (.int .u8)) ++ []))))))) := ⟨⟨3, by decide, Try.plain119⟩, by kernel_rfl⟩
theorem Try.plain120 : PlainT Try.prog 3 120 true (.int .i64 :: ((leaves 16 (.int .u8)) ++ ((leaves 16 (.int .u8)) ++ ((leaves 16 (.int .u8)) ++ ((leaves 6 (.int .u8)) ++ (.bool :: ((leaves 4 (.int .u8)) ++ []))))))) := plain_struct' (ts := [(false, [.int .i64]), (true, (leaves 16 (.int .u8))), (true, (leaves 16 (.int .u8))), (true, (leaves 16 (.int .u8))), (true, (leaves 6 (.int .u8))), (false, [.bool]), (true, (leaves 4 (.int .u8)))]) Try.underlying120 (.cons (Try.plain3.mono (by decide)) rfl (.cons (Try.plain118.mono (by decide)) rfl (.cons (Try.plain118.mono (by decide)) rfl (.cons (Try.plain118.mono (by decide)) rfl (.cons (Try.plain30.mono (by decide)) rfl (.cons (Try.plain4.mono (by decide)) rfl (.cons (Try.plain46.mono (by decide)) rfl (.nil _)))))))) (by kernel_rfl) (by kernel_rfl) (by kernel_rfl) (by decide)
instance Try.cmp120 : PlainC Try.prog 120 (.int .i64 :: ((leaves 16 (.int .u8)) ++ ((leaves 16 (.int .u8)) ++ ((leaves 16 (.int .u8)) ++ ((leaves 6 (.int .u8)) ++ (.bool :: ((leaves 4 (.int .u8)) ++ []))))))) := ⟨⟨3, by decide, Try.plain120⟩, by kernel_rfl⟩
theorem Try.plain127 : PlainT Try.prog 3 127 true (.int .i64 :: ((leaves 6 (.int .u8)) ++ ((leaves 6 (.int .u8)) ++ ((leaves 4 (.int .u8)) ++ ((leaves 4 (.int .u8)) ++ []))))) := plain_struct' (ts := [(false, [.int .i64]), (true, (leaves 6 (.int .u8))), (true, (leaves 6 (.int .u8))), (true, (leaves 4 (.int .u8))), (true, (leaves 4 (.int .u8)))]) Try.underlying127 (.cons (Try.plain3.mono (by decide)) rfl (.cons (Try.plain30.mono (by decide)) rfl (.cons (Try.plain30.mono (by decide)) rfl (.cons (Try.plain46.mono (by decide)) rfl (.cons (Try.plain46.mono (by decide)) rfl (.nil _)))))) (by kernel_rfl) (by kernel_rfl) (by kernel_rfl) (by decide)
instance Try.cmp127 : PlainC Try.prog 127 (.int .i64 :: ((leaves 6 (.int .u8)) ++ ((leaves 6 (.int .u8)) ++ ((leaves 4 (.int .u8)) ++ ((leaves 4 (.int .u8)) ++ []))))) := ⟨⟨3, by decide, Try.plain127⟩, by kernel_rfl⟩
theorem Try.plain130 : PlainT Try.prog 3 130 true (.int .i64 :: ((leaves 16 (.int .u8)) ++ ((leaves 16 (.int .u8)) ++ ((leaves 16 (.int .u8)) ++ ((leaves 6 (.int .u8)) ++ (.bool :: ((leaves 4 (.int .u8)) ++ []))))))) := plain_struct' (ts := [(false, [.int .i64]), (true, (leaves 16 (.int .u8))), (true, (leaves 16 (.int .u8))), (true, (leaves 16 (.int .u8))), (true, (leaves 6 (.int .u8))), (false, [.bool]), (true, (leaves 4 (.int .u8)))]) Try.underlying130 (.cons (Try.plain3.mono (by decide)) rfl (.cons (Try.plain118.mono (by decide)) rfl (.cons (Try.plain118.mono (by decide)) rfl (.cons (Try.plain118.mono (by decide)) rfl (.cons (Try.plain30.mono (by decide)) rfl (.cons (Try.plain4.mono (by decide)) rfl (.cons (Try.plain46.mono (by decide)) rfl (.nil _)))))))) (by kernel_rfl) (by kernel_rfl) (by kernel_rfl) (by decide)
instance Try.cmp130 : PlainC Try.prog 130 (.int .i64 :: ((leaves 16 (.int .u8)) ++ ((leaves 16 (.int .u8)) ++ ((leaves 16 (.int .u8)) ++ ((leaves 6 (.int .u8)) ++ (.bool :: ((leaves 4 (.int .u8)) ++ []))))))) := ⟨⟨3, by decide, Try.plain130⟩, by kernel_rfl⟩
theorem Try.plain133 : PlainT Try.prog 2 133 true (.int .i64 :: (.str :: [])) := plain_struct' (ts := [(false, [.int .i64]), (false, [.str])]) Try.underlying133 (.cons (Try.plain3.mono (by decide)) rfl (.cons (Try.plain9.mono (by decide)) rfl (.nil _))) (by kernel_rfl) (by kernel_rfl) (by kernel_rfl) (by decide)
instance Try.cmp133 : PlainC Try.prog 133 (.int .i64 :: (.str :: [])) := ⟨⟨2, by decide, Try.plain133⟩, by kernel_rfl⟩
theorem Try.plain134 : PlainT Try.prog 2 134 true (.int .i64 :: (.str :: [])) := plain_struct' (ts := [(false, [.int .i64]), (false, [.str])]) Try.underlying134 (.cons (Try.plain3.mono (by decide)) rfl (.cons (Try.plain9.mono (by decide)) rfl (.nil _))) (by kernel_rfl) (by kernel_rfl) (by kernel_rfl) (by decide)
instance Try.cmp134 : PlainC Try.prog 134 (.int .i64 :: (.str :: [])) := ⟨⟨2, by decide, Try.plain134⟩, by kernel_rfl⟩
theorem Try.plain135 : PlainT Try.prog 3 135 true ((leaves 6 (.int .u8)) ++ (.int .i64 :: [])) := plain_struct' (ts := [(true, (leaves 6 (.int .u8))), (false, [.int .i64])]) Try.underlying135 (.cons (Try.plain30.mono (by decide)) rfl (.cons (Try.plain3.mono (by decide)) rfl (.nil _))) (by kernel_rfl) (by kernel_rfl) (by kernel_rfl) (by decide)
instance Try.cmp135 : PlainC Try.prog 135 ((leaves 6 (.int .u8)) ++ (.int .i64 :: [])) := ⟨⟨3, by decide, Try.plain135⟩, by kernel_rfl⟩
theorem Try.plain136 : PlainT Try.prog 3 136 true ((leaves 6 (.int .u8)) ++ (.int .i64 :: [])) := plain_struct' (ts := [(true, (leaves 6 (.int .u8))), (false, [.int .i64])]) Try.underlying136 (.cons (Try.plain30.mono (by decide)) rfl (.cons (Try.plain3.mono (by decide)) rfl (.nil _))) (by kernel_rfl) (by kernel_rfl) (by kernel_rfl) (by decide)
instance Try.cmp136 : PlainC Try.prog 136 ((leaves 6 (.int .u8)) ++ (.int .i64 :: [])) := ⟨⟨3, by decide, Try.plain136⟩, by kernel_rfl⟩
theorem Try.plain157 : PlainT Try.prog 2 157 true (.str :: []) := plain_struct' (ts := [(false, [.str])]) Try.underlying157 (.cons (Try.plain9.mono (by decide)) rfl (.nil _)) (by kernel_rfl) (by kernel_rfl) (by kernel_rfl) (by decide)
instance Try.cmp157 : PlainC Try.prog 157 (.str :: []) := ⟨⟨2, by decide, Try.plain157⟩, by kernel_rfl⟩
theorem Try.plain158 : PlainT Try.prog 2 158 true (.str :: []) := plain_struct' (ts := [(false, [.str])]) Try.underlying158 (.cons (Try.plain9.mono (by decide)) rfl (.nil _)) (by kernel_rfl) (by kernel_rfl) (by kernel_rfl) (by decide)
instance Try.cmp158 : PlainC Try.prog 158 (.str :: []) := ⟨⟨2, by decide, Try.plain158⟩, by kernel_rfl⟩
theorem Try.plain176 : PlainT Try.prog 2 176 true (.int .i64 :: (.int .i64 :: (.bool :: []))) := plain_struct' (ts := [(false, [.int .i64]), (false, [.int .i64]), (false, [.bool])]) Try.underlying176 (.cons (Try.plain3.mono (by decide)) rfl (.cons (Try.plain3.mono (by decide)) rfl (.cons (Try.plain4.mono (by decide)) rfl (.nil _)))) (by kernel_rfl) (by kernel_rfl) (by kernel_rfl) (by decide)
instance Try.cmp176 : PlainC Try.prog 176 (.int .i64 :: (.int .i64 :: (.bool :: []))) := ⟨⟨2, by decide, Try.plain176⟩, by kernel_rfl⟩
theorem Try.plain177 : PlainT Try.prog 2 177 true (.int .i64 :: (.int .i64 :: (.bool :: []))) := plain_struct' (ts := [(false, [.int .i64]), (false, [.int .i64]), (false, [.bool])]) Try.underlying177 (.cons (Try.plain3.mono (by decide)) rfl (.cons (Try.plain3.mono (by decide)) rfl (.cons (Try.plain4.mono (by decide)) rfl (.nil _)))) (by kernel_rfl) (by kernel_rfl) (by kernel_rfl) (by decide)
instance Try.cmp177 : PlainC Try.prog 177 (.int .i64 :: (.int .i64 :: (.bool :: []))) := ⟨⟨2, by decide, Try.plain177⟩, by kernel_rfl⟩
theorem Try.plain179 : PlainT Try.prog 3 179 true (.int .i64 :: ((leaves 6 (.int .u8)) ++ [])) := plain_struct' (ts := [(false, [.int .i64]), (true, (leaves 6 (.int .u8)))]) Try.underlying179 (.cons (Try.plain3.mono (by decide)) rfl (.cons (Try.plain30.mono (by decide)) rfl (.nil _))) (by kernel_rfl) (by kernel_rfl) (by kernel_rfl) (by decide)
instance Try.cmp179 : PlainC Try.prog 179 (.int .i64 :: ((leaves 6 (.int .u8)) ++ [])) := ⟨⟨3, by decide, Try.plain179⟩, by kernel_rfl⟩
theorem Try.plain180 : PlainT Try.prog 3 180 true (.int .i64 :: ((leaves 6 (.int .u8)) ++ [])) := plain_struct' (ts := [(false, [.int .i64]), (true, (leaves 6 (.int .u8)))]) Try.underlying180 (.cons (Try.plain3.mono (by decide)) rfl (.cons (Try.plain30.mono (by decide)) rfl (.nil _))) (by kernel_rfl) (by kernel_rfl) (by kernel_rfl) (by decide)
instance Try.cmp180 : PlainC Try.prog 180 (.int .i64 :: ((leaves 6 (.int .u8)) ++ [])) := ⟨⟨3, by decide, Try.plain180⟩, by kernel_rfl⟩
end
section
open Go.ChangeShapes Go.WideShapes Go.ChangeAt Go.RowKit
theorem own : ownKnob Try.prog.godebug = none := by kernel_rfl
theorem laidOut : laidOutB Try.prog = true := by kernel_rfl
section
variable {H : Type} {enc : TypeId × Value → H} {P : Program}
theorem trodAll_below (hl : laidOutB P = true) {W W' : World} (hb : Below W.heap.size W W') : ∀ (ts : List TypeId) (vs : List Value) (ds : List (DataW H)) (ps : List MemPlace),
  ts.all (fun t => P.readableRec t && decide (t < P.types.size)) = true → DataW.TrodAll enc P W 0 (fun _ => true) true ts vs ds ps → (∀ x ∈ ps, x.block < W.heap.size) →
  DataW.TrodAll enc P W' 0 (fun b => decide (b < W.heap.size)) true ts vs ds ps
 | [], [], [], ps, _, h, _ => h
 | t :: ts, v :: vs, d :: ds, ps, hp, h, hlt => by
  obtain ⟨p, q, h1, h2, rfl⟩ := h
  simp only [List.all_cons, Bool.and_eq_true, decide_eq_true_eq] at hp
  exact ⟨p, q, Below.trod hl hp.1.1 hp.1.2 h1 hb (fun x hx => hlt x (by simp [hx])), trodAll_below hl hb ts vs ds q hp.2 h2 (fun x hx => hlt x (by simp [hx])), rfl⟩
 | [], [], _ :: _, _, _, h, _ => by simp [DataW.TrodAll] at h
 | [], _ :: _, _, _, _, h, _ => by simp [DataW.TrodAll] at h
 | _ :: _, [], _, _, _, h, _ => by simp [DataW.TrodAll] at h
 | _ :: _, _ :: _, [], _, _, h, _ => by simp [DataW.TrodAll] at h
theorem trodAll_len {W : World} {base : Nat} {sp : Nat → Bool} {hd : Bool} : ∀ (ts : List TypeId) (vs : List Value) (ds : List (DataW H)) (ps : List MemPlace), DataW.TrodAll enc P W base sp hd ts vs ds ps → vs.length = ts.length ∧ ds.length = ts.length
 | [], [], [], _, _ => ⟨rfl, rfl⟩
 | _ :: ts, _ :: vs, _ :: ds, _, h => by
  obtain ⟨p, q, _, h2, _⟩ := h
  have := trodAll_len ts vs ds q h2
  simp [this]
 | [], [], _ :: _, _, h => by simp [DataW.TrodAll] at h
 | [], _ :: _, _, _, h => by simp [DataW.TrodAll] at h
 | _ :: _, [], _, _, h => by simp [DataW.TrodAll] at h
 | _ :: _, _ :: _, [], _, h => by simp [DataW.TrodAll] at h
theorem law_post {f : Func} {s : ChangeSpec} {tb : TypeId} (hl : laidOutB P = true) (hr : f.resultTypes = #[tb]) (hb : P.underlying tb = some .bool)
  (hp : f.params.toList.all (fun t => P.readableRec t && decide (t < P.types.size)) = true) (hv : s.vars = [])
  (hs : ∀ ds : List (DataW H), ds.length = f.params.toList.length → (s.fn H ds).results = [.lit (.bool true)] ∧ (s.fn H ds).args = ds ∧ (s.fn H ds).vars = [])
  {W W' : World} {args : Array Value} {ds gs : List (DataW H)} {before : List MemPlace} (hW : DataW.Whole enc P f.params.toList s.vars false W args.toList ds gs before) (hbel : Below W.heap.size W W') :
  s.post enc P f false true false false W args (.bool true) W' := by
 have hlt : ∀ x ∈ before, x.block < W.heap.size := fun x hx => hW.lt x hx
 have hW' := hW
 obtain ⟨p, q, hA, hV, rfl, _, _⟩ := hW
 rw [hv] at hV
 obtain ⟨rfl, rfl⟩ := trodVars_none hV
 have hlen := trodAll_len _ _ _ _ hA
 obtain ⟨h1, h2, h3⟩ := hs (ds ++ []) (by simp [hlen.2])
 refine ⟨ds, [], p ++ [], [], p, [], hW', ?_, ?_, ?_, hbel.frame _, fun h => by cases h⟩
 ·
  rw [h1, hr]
  exact trodAll_mk1 (shut_bool hb true)
 ·
  rw [h2, List.append_nil]
  exact trodAll_below hl hbel _ _ _ _ hp hA (fun x hx => hlt x (by simp [hx]))
 ·
  rw [h3, hv]
  rfl
def Leaf.good : Leaf → Value → Prop
 | .int k, .int k' n => k' = k ∧ k.has n
 | .bool, .bool _ => True
 | .str, .string s => s.size ≤ maxLen
 | _, _ => False
end
end
end Go.Proofs.Ytckckabedgpbiaa
