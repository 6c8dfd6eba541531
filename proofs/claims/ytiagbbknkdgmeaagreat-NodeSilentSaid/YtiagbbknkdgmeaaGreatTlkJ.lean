/- What any frame says, and asks, by the program alone. -/
import Derived.Test.YtiagbbknkdgmeaaGreatJ21
import Derived.Test.YtiagbbknkdgmeaaGreatJ48
set_option linter.unusedSimpArgs false
set_option linter.unusedVariables false
set_option maxHeartbeats 8000000
set_option maxRecDepth 20000
namespace Go.Proofs.YtiagbbknkdgmeaaGreat
open Go.RowKit Go.Shelf
theorem aHP (dst src:Vector UInt8 6) (ty:Int) (body:List UInt8) (hb:body.length<=10000):∃t,TalkC dst src ty body t:=by
 obtain⟨ip,mac,ok,hA⟩:=aJv dst src ty body hb
 rcases aHO dst src ty body hb with hno | ⟨ipq,ans,hs⟩
 ·exact⟨⟨ip,mac,ok,none⟩,⟨hA.prog,fun _=>hno,fun _ _ h=>by cases h⟩⟩
 ·exact⟨⟨ip,mac,ok,some (ipq,ans)⟩,⟨hA.prog,(fun h=>by cases h),fun a b h=>by cases h;exact hs⟩⟩
end Go.Proofs.YtiagbbknkdgmeaaGreat
