/- Texts of this proof, merged: Edw, EdwG, EdwL, Fer, Nsf. -/
import Derived.Test.YtiagbbknkdgmeaaGreatPlainJ
import Derived.Test.YtiagbbknkdgmeaaGreatRows
import Derived.JoinedOf
set_option maxHeartbeats 8000000
set_option maxRecDepth 20000
set_option maxRecDepth 100000
namespace Go.Proofs.YtiagbbknkdgmeaaGreat
section
theorem pK:joinedFacts Tryz.pinned.checked.prog 3 Tryz.f3 Rows.nodeSilentSpec Rows.nodeSilentRow=true:=by kernel_rfl
theorem sM:Tryz.pinned.checked.prog.funcNamed Rows.nodeSilentRow.func=some 3:=by kernel_rfl
theorem uX:Tryz.f3.isInstance Tryz.pinned.checked.prog Rows.nodeSilentRow.origin Rows.nodeSilentRow.targs:=of_decide_eq_true (by kernel_rfl)
theorem uY:Tryz.f3.isWrapper Tryz.pinned.checked.prog Rows.nodeSilentRow.wrapper Rows.nodeSilentRow.mainSum:=by
 unfold Func.isWrapper
 first | (rw[if_pos (by decide+kernel)];kernel_rfl) | (rw[if_neg (by decide+kernel)];exact⟨rfl,rfl⟩)
end
end Go.Proofs.YtiagbbknkdgmeaaGreat
