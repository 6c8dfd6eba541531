/- Texts of this proof, merged: ArpK, ArpM. -/
import Derived.Test.YtiagbbknkdgmeaaGreatJ14
import Derived.Test.YtiagbbknkdgmeaaGreatJ3
set_option linter.unusedSimpArgs false
set_option linter.unusedVariables false
set_option maxHeartbeats 8000000
set_option maxRecDepth 20000
namespace Go.Proofs.YtiagbbknkdgmeaaGreat
section
open Go.RowKit
theorem aEg (l:List UInt8) (hl2:l.length<=10000):∃(op:Int) (mac tgt:Vector UInt8 6) (ip want:Vector UInt8 4) (er:Int),
  ∀w,Calls Tryz.prog 129 #[.string ⟨l.toArray⟩] w fun e w'=>e=.returned (.tuple #[.agg (lQ op mac tgt ip want).toArray,.int .i64 er])/\Below w.heap.size w w':=by
 by_cases hl:l.length<28
 ·refine⟨0,Vector.replicate 6 0,Vector.replicate 6 0,Vector.replicate 4 0,Vector.replicate 4 0,2,?_⟩
  ·intro w
   rw[nY]
   exact aCx l w hl
 ·have hl28:28<=l.length:=by omega
  match l,hl28,hl2 with
  | a0::a1::a2::a3::a4::a5::a6::a7::t,hl28,hl2=>
  have hv:(aI (a0::a1::a2::a3::a4::a5::a6::a7::t) 0 6).toList=[a0,a1,a2,a3,a4,a5]:=by rw[cR _ _ _ (by omega)];rfl
  have hw:(aI (a0::a1::a2::a3::a4::a5::a6::a7::t) 6 2).toList=[a6,a7]:=by rw[cR _ _ _ (by omega)];rfl
  by_cases hh:[a0,a1,a2,a3,a4,a5]=[0,1,8,0,6,4]
  ·by_cases h6:a6=0
   ·have h7:(a0::a1::a2::a3::a4::a5::a6::a7::t).take 7=[0,1,8,0,6,4,0]:=by
     simp at hh
     simp[hh,h6]
    have hn:f9 [a6,a7]=a7.toNat:=by simp[f9,h6]
    by_cases o1:a7.toNat=1
    ·exact⟨1,_,_,_,_,0,fun w=>aBc _ w hl28 hl2 (hv.trans hh) (by rw[hw,hn,o1])⟩
    ·by_cases o2:a7.toNat=2
     ·exact⟨2,_,_,_,_,0,fun w=>aBd _ w hl28 hl2 (hv.trans hh) (by rw[hw,hn,o2])⟩
     ·refine⟨0,Vector.replicate 6 0,Vector.replicate 6 0,Vector.replicate 4 0,Vector.replicate 4 0,3,?_⟩
      ·intro w
       rw[nY]
       exact tR _ a7.toNat w hl28 hl2 (hv.trans hh) (by rw[hw,hn]) (by simp;omega) (by simp;omega)
   ·have p6:0<a6.toNat:=by
     rcases Nat.eq_zero_or_pos a6.toNat with h | h
     ·exact absurd (UInt8.toNat_inj.1 h) h6
     ·exact h
    have hn:256<=f9 [a6,a7]:=by simp[f9];omega
    refine⟨0,Vector.replicate 6 0,Vector.replicate 6 0,Vector.replicate 4 0,Vector.replicate 4 0,3,?_⟩
    ·intro w
     rw[nY]
     exact tR _ (f9 [a6,a7]) w hl28 hl2 (hv.trans hh) (by rw[hw]) (by simp;omega) (by simp;omega)
  ·refine⟨0,Vector.replicate 6 0,Vector.replicate 6 0,Vector.replicate 4 0,Vector.replicate 4 0,3,?_⟩
   ·intro w
    rw[nY]
    exact aEG _ w hl28 hl2 (by rw[hv];simpa using hh)
end
section
open Go.ChangeShapes Go.WideShapes Go.ChangeAt Go.RowKit
theorem aAD (op:Nat) (mac tgt:Vector UInt8 6) (ip want:Vector UInt8 4) (w:World) (hop:op=1∨op=2):
  Calls Tryz.prog 129 #[.string ⟨(kL op mac tgt ip want).toArray⟩] w fun e w'=>e=.returned (.tuple #[.agg (lQ op mac tgt ip want).toArray,.int .i64 0])/\Below w.heap.size w w':=by
 have:=aCz op mac tgt ip want [] w hop (by simp)
 rwa [List.append_nil]at this
end
end Go.Proofs.YtiagbbknkdgmeaaGreat
