/- Texts of this proof, merged: Tun, Lnk, TunP. -/
import Derived.Test.YtiagbbknkdgmeaaGreatOctJ
import Derived.Test.YtiagbbknkdgmeaaGreatJ2
import Derived.Test.YtiagbbknkdgmeaaGreatRegJ
import Derived.Test.YtiagbbknkdgmeaaGreatBytJ
import Derived.Handy
set_option maxHeartbeats 8000000
set_option maxRecDepth 20000
set_option linter.unusedSimpArgs false
set_option linter.unusedVariables false
namespace Go.Proofs.YtiagbbknkdgmeaaGreat
section
open Go.RowKit
structure LinkT where
 psk:List UInt8
 greets:Bool
 r:Int
 k:Int
 p:Int
 d:Int
 now:Int
 a:Option Addr
 b:Option Addr
 c:Option Addr
 talk:Option Addr
 asked:Int
 made:Int
 last:Int
def LinkT.cells (l:LinkT):List Value:=u8s l.psk++(.bool l.greets::.int .i64 l.r::.int .i64 l.k::.int .i64 l.p::.int .i64 l.d::.int .i64 l.now::.pointer l.a::.pointer l.b::.pointer l.c::.pointer l.talk::.int .i64 l.asked::.int .i64 l.made::[.int .i64 l.last])
def aCd (psk:List UInt8) (greets:Bool) (r k p d:Int):LinkT:=⟨psk,greets,r,k,p,d,0,none,none,none,none,0,0,0⟩
def jD (t:Int):Prop:=1<=t/\t<=65535
instance (t:Int):Decidable (jD t):=inferInstanceAs (Decidable (_/\_))
def nB (r k p d:Int):Prop:=jD r/\jD k/\jD p/\jD d
instance (r k p d:Int):Decidable (nB r k p d):=inferInstanceAs (Decidable (_/\_))
theorem oO {t:Int} (h:¬jD t):t<1∨(¬t<1/\65535<t):=by unfold jD at h;omega
theorem pN {t:Int} (h:jD t):¬t<1/\¬65535<t:=by unfold jD at h;omega
section
variable (psk:List UInt8) (greets:Bool) (r k p d:Int) (w:World)
theorem yD (hp:psk.length=32) (h:nB r k p d):
  Calls Tryz.prog 16 #[.agg (u8s psk).toArray,.bool greets,.agg #[.int .i64 r,.int .i64 k,.int .i64 p,.int .i64 d]] w fun e w'=>∃L,e=.returned (.tuple #[.pointer (some ⟨L,0,none⟩),.int .i64 0])/\w.heap.size<=L/\L<w'.heap.size/\row w' L=(aCd psk greets r k p d).cells.toArray/\Below w.heap.size w w':=by
 obtain⟨⟨r1,r2⟩,⟨k1,k2⟩,⟨p1,p2⟩,⟨d1,d2⟩⟩:=h
 have r3:¬r<1:=by omega
 have r4:¬65535<r:=by omega
 have k3:¬k<1:=by omega
 have k4:¬65535<k:=by omega
 have p3:¬p<1:=by omega
 have p4:¬65535<p:=by omega
 have d3:¬d<1:=by omega
 have d4:¬65535<d:=by omega
 go_enter Tryz.func16,Tryz.ntmps16
 obtain⟨W,hW⟩:∃x,((w.alloc (.cells (u8s psk).toArray 28)).alloc (.cells #[.int .i64 r,.int .i64 k,.int .i64 p,.int .i64 d] 44)).alloc (.cells #[.int .i64 r,.int .i64 k,.int .i64 p,.int .i64 d] 3)=x:=⟨_,rfl⟩
 have rP:row W w.heap.size=(u8s psk).toArray:=by rw[<-hW];simp[go_sem]
 have rT:row W (w.heap.size+1)=#[.int .i64 r,.int .i64 k,.int .i64 p,.int .i64 d]:=by rw[<-hW];simp[go_sem]
 have rI:row W (w.heap.size+2)=#[.int .i64 r,.int .i64 k,.int .i64 p,.int .i64 d]:=by rw[<-hW];simp[go_sem]
 have zW:W.heap.size=w.heap.size+3:=by rw[<-hW];simp
 have bW:Below w.heap.size w W:=by
  rw[<-hW]
  (repeat (first | exact Below.refl _ _ | refine Below.al ?_ _ | refine Below.drew ?_ | refine Below.sr ?_ _ | refine Below.sc ?_ _))
 go_wp2_with fail
 refine wp_loop_rounds 5 ?_
 rw[rounds_succ]
 go_wp2_with fail
 rw[rounds_succ]
 go_wp2_with fail
 rw[rounds_succ]
 go_wp2_with fail
 rw[rounds_succ]
 go_wp2_with fail
 rw[rounds_succ]
 go_wp2_with fail
 go_ret2
 exact⟨w.heap.size+3,rfl,by omega,by simp only[aF];omega,(aE _ _ _ zW.symm).trans rfl,Below.alloc bW (by omega) _⟩
theorem aDi (hp:psk.length=32) (h:¬nB r k p d):
  Calls Tryz.prog 16 #[.agg (u8s psk).toArray,.bool greets,.agg #[.int .i64 r,.int .i64 k,.int .i64 p,.int .i64 d]] w fun e w'=>e=.returned (.tuple #[.pointer none,.int .i64 1])/\Below w.heap.size w w':=by
 go_enter Tryz.func16,Tryz.ntmps16
 obtain⟨W,hW⟩:∃x,((w.alloc (.cells (u8s psk).toArray 28)).alloc (.cells #[.int .i64 r,.int .i64 k,.int .i64 p,.int .i64 d] 44)).alloc (.cells #[.int .i64 r,.int .i64 k,.int .i64 p,.int .i64 d] 3)=x:=⟨_,rfl⟩
 have rI:row W (w.heap.size+2)=#[.int .i64 r,.int .i64 k,.int .i64 p,.int .i64 d]:=by rw[<-hW];simp[go_sem]
 have zW:W.heap.size=w.heap.size+3:=by rw[<-hW];simp
 have bW:Below w.heap.size w W:=by
  rw[<-hW]
  (repeat (first | exact Below.refl _ _ | refine Below.al ?_ _ | refine Below.drew ?_ | refine Below.sr ?_ _ | refine Below.sc ?_ _))
 go_wp2_with fail
 clear hW
 have HH:=h_ h
 clear h
 refine wp_loop_rounds 5 ?_
 rw[rounds_succ]
 by_cases hr:jD r
 ·obtain⟨r1,r2⟩:=pN hr
  have HR:=h_ hr
  clear hr
  go_wp2_with fail
  rw[rounds_succ]
  by_cases hk:jD k
  ·obtain⟨k1,k2⟩:=pN hk
   have HK:=h_ hk
   clear hk
   go_wp2_with fail
   rw[rounds_succ]
   by_cases hp2:jD p
   ·obtain⟨p1,p2⟩:=pN hp2
    have HP:=h_ hp2
    clear hp2
    go_wp2_with fail
    rw[rounds_succ]
    have hd:¬jD d:=fun hd=>HH.out ⟨HR.out,HK.out,HP.out,hd⟩
    rcases oO hd with d1 | ⟨d1,d2⟩
    ·go_wp2_with fail
     go_ret2
     exact⟨rfl,bW⟩
    ·go_wp2_with fail
     go_ret2
     exact⟨rfl,bW⟩
   ·rcases oO hp2 with d1 | ⟨d1,d2⟩
    ·go_wp2_with fail
     go_ret2
     exact⟨rfl,bW⟩
    ·go_wp2_with fail
     go_ret2
     exact⟨rfl,bW⟩
  ·rcases oO hk with d1 | ⟨d1,d2⟩
   ·go_wp2_with fail
    go_ret2
    exact⟨rfl,bW⟩
   ·go_wp2_with fail
    go_ret2
    exact⟨rfl,bW⟩
 ·rcases oO hr with d1 | ⟨d1,d2⟩
  ·go_wp2_with fail
   go_ret2
   exact⟨rfl,bW⟩
  ·go_wp2_with fail
   go_ret2
   exact⟨rfl,bW⟩
end
/-! ### what nil answers -/
section
variable (w:World)
end
end
section
open Go.RowKit
section
variable (w:World)
theorem aFm (k:Int) (hk:k=1∨k=2) (l:List UInt8) (hl:l.length=48):Calls Tryz.prog 78 #[.agg #[.int .i64 k,.int .u64 0,.string ⟨l.toArray⟩]] w fun e w'=>e=.returned (.tuple #[.string ⟨(iR k::l).toArray⟩,.int .i64 0])/\Below w.heap.size w w':=by
 have hlI:(l.length:Int)=48:=by omega
 have hl3:¬9223372036854775807<1+l.length:=by omega
 rcases hk with rfl | rfl
 ·go_enter Tryz.func78,Tryz.ntmps78
  go_wp2_with fail
  go_ret2
  exact⟨rfl,eD⟩
 ·go_enter Tryz.func78,Tryz.ntmps78
  go_wp2_with fail
  go_ret2
  exact⟨rfl,eD⟩
end
end
end Go.Proofs.YtiagbbknkdgmeaaGreat
