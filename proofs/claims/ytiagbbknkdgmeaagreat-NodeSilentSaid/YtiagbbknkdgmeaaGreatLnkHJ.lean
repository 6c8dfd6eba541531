/- Package link: a tick of an end without a session: a greeting, or nothing. -/
import Derived.Test.YtiagbbknkdgmeaaGreatJ38
import Derived.Test.YtiagbbknkdgmeaaGreatJ6
import Derived.Test.YtiagbbknkdgmeaaGreatJ24
import Derived.BigQuiet
import Derived.WalkSmall
set_option linter.unusedSimpArgs false
set_option linter.unusedVariables false
set_option maxHeartbeats 8000000
set_option maxRecDepth 20000
namespace Go.Proofs.YtiagbbknkdgmeaaGreat
open Go.RowKit
theorem pP {W:World} {b:Nat} {pre l post:List Value} (h:row W b=(pre++(l++post)).toArray):W.rangeAt b pre.length l:=fun j v hj=>by
 have hjl:=(List.getElem?_eq_some_iff.1 hj).1
 have hs:pre.length+j<(row W b).size:=by rw[h];simp;omega
 rw[aQ hs,h,List.getElem?_toArray,List.getElem?_append_right (by omega),Nat.add_sub_cancel_left,List.getElem?_append_left hjl]
 exact hj
theorem aFz (psk sec:List UInt8) (w:World) (hp:psk.length=32) (hs:sec.length=32):Calls Tryz.prog 77 #[.agg (u8s psk).toArray,.agg (u8s sec).toArray] w fun e w'=>(∃(T:Nat) (s:List UInt8),e=.returned (.tuple #[.pointer (some ⟨T,0,none⟩),.string ⟨s.toArray⟩])/\s.length=48)/\Below w.heap.size w w':=
 (aHB psk sec w hp hs).mono fun e w' ⟨T,e1,_,_,_,hb⟩=>⟨⟨T,aBT psk sec,e1,aAy psk sec⟩,hb⟩
def aMg (n0 S:Nat) (t:LinkT) (e:Ending) (w':World):Prop:=(e=.returned (.slice none 0 0)/\row w' S=t.cells.toArray)∨(t.greets=true/\∃(gb:Nat) (s:List UInt8) (T:Nat),e=.returned (.slice (some ⟨gb,0,none⟩) 1 1)/\row w' gb=#[.string ⟨(1::s).toArray⟩]/\s.length=48/\n0<=gb/\gb<w'.heap.size/\row w' S=({t with talk:=some ⟨T,0,none⟩,asked:=t.now}:LinkT).cells.toArray)
section
variable (psk sec:List UInt8) (g:Bool) (r k p d now asked made last:Int) (b c talk:Option Addr) (S:Nat) (w:World) (hp:psk.length=32) (hs:sec.length=32) (hn:0<=now/\now<=100000000) (ha:0<=asked/\asked<=100000000) (hS:row w S=(⟨psk,g,r,k,p,d,now,none,b,c,talk,asked,made,last⟩:LinkT).cells.toArray)
include hp hs hn ha hS
theorem aDn:
  Calls Tryz.prog 45 #[.pointer (some ⟨S,0,none⟩),.agg (u8s sec).toArray] w fun e w'=>aMg w.heap.size S ⟨psk,g,r,k,p,d,now,none,b,c,talk,asked,made,last⟩ e w'/\BelowBut w.heap.size S w w':=by
 have zS:S<w.heap.size:=aM (i:=0) (by rw[hS];simp[LinkT.cells,hp])
 have HG:=h_ (fun w=>aFz psk sec w hp hs)
 have hw1:wrap64 (now - asked)=now - asked:=by unfold wrap64;omega
 have hw2:IntKind.i64.wrap (now - asked)=now - asked:=by rw[IntKind.wrap_i64];omega
 have HS0:=h_ hS
 unfold LinkT.cells at hS
 simp only at hS
 go_enter Tryz.func45,Tryz.ntmps45
 obtain⟨W,hW⟩:∃v,w.alloc (.cells (u8s sec).toArray 28)=v:=⟨_,rfl⟩
 have rK:row W w.heap.size=(u8s sec).toArray:=by rw[<-hW];simp[go_sem]
 have zW:w.heap.size<W.heap.size:=by rw[<-hW];simp
 have bW:Below w.heap.size w W:=by
  rw[<-hW]
  exact ba_
 have rS:=(aA bW zS).trans hS
 have HW:=h_ bW
 clear hS bW
 go_wp2_with fail
 (try rw[hW])
 clear hW
 cases g with
 | false=>
  go_quiet (fail)
  have b1:=below_drewN (Below.refl W.heap.size W) nq
  obtain⟨W1,hW1⟩:∃x,W.drewN nq=x:=⟨_,rfl⟩
  rw[hW1]at b1 ⊢
  clear hW1
  have rS1:=(aA b1 (Nat.lt_of_lt_of_le zS HW.out.size)).trans rS
  have rK1:=(aA b1 zW).trans rK
  go_wp2_with fail
  go_quiet (fail)
  have b2:=below_drewN (Below.refl W1.heap.size W1) nq
  obtain⟨W2,hW2⟩:∃x,W1.drewN nq=x:=⟨_,rfl⟩
  rw[hW2]at b2 ⊢
  clear hW2
  have b02:Below w.heap.size w W2:=HW.out.trans ((b1.trans (b2.mono b1.size)).mono HW.out.size)
  have rS2:=(aA b2 (Nat.lt_of_lt_of_le zS (Nat.le_trans HW.out.size b1.size))).trans rS1
  have rK2:=(aA b2 (Nat.lt_of_lt_of_le zW b1.size)).trans rK1
  have zK2:w.heap.size<W2.heap.size:=Nat.lt_of_lt_of_le zW (Nat.le_trans b1.size b2.size)
  clear rS1 rK1 b1 b2 rS rK
  go_wp2_with fail
  go_ret
  exact⟨.inl ⟨rfl,(aA b02 zS).trans HS0.out⟩,BelowBut.of b02⟩
 | true=>
  have hcase:(∃T0,talk=some T0/\now - asked<r)∨(talk=none∨∃T0,talk=some T0/\¬now - asked<r):=by
   cases talk with
   | none=>exact .inr (.inl rfl)
   | some T0=>
    by_cases h:now - asked<r
    ·exact .inl ⟨T0,rfl,h⟩
    ·exact .inr (.inr ⟨T0,rfl,h⟩)
  rcases hcase with ⟨T0,rfl,hlt⟩ | hcase
  ·have d5:=decide_eq_true hlt
   go_quiet (fail)
   have b1:=below_drewN (Below.refl W.heap.size W) nq
   obtain⟨W1,hW1⟩:∃x,W.drewN nq=x:=⟨_,rfl⟩
   rw[hW1]at b1 ⊢
   clear hW1
   have rS1:=(aA b1 (Nat.lt_of_lt_of_le zS HW.out.size)).trans rS
   have rK1:=(aA b1 zW).trans rK
   go_wp2_with fail
   go_quiet (fail)
   have b2:=below_drewN (Below.refl W1.heap.size W1) nq
   obtain⟨W2,hW2⟩:∃x,W1.drewN nq=x:=⟨_,rfl⟩
   rw[hW2]at b2 ⊢
   clear hW2
   have b02:Below w.heap.size w W2:=HW.out.trans ((b1.trans (b2.mono b1.size)).mono HW.out.size)
   have rS2:=(aA b2 (Nat.lt_of_lt_of_le zS (Nat.le_trans HW.out.size b1.size))).trans rS1
   have rK2:=(aA b2 (Nat.lt_of_lt_of_le zW b1.size)).trans rK1
   have zK2:w.heap.size<W2.heap.size:=Nat.lt_of_lt_of_le zW (Nat.le_trans b1.size b2.size)
   clear rS1 rK1 b1 b2 rS rK
   go_wp2_with fail
   go_ret
   exact⟨.inl ⟨rfl,(aA b02 zS).trans HS0.out⟩,BelowBut.of b02⟩
  ·rcases hcase with rfl | ⟨T0,rfl,hge⟩
   all_goals
    (try have d5:=decide_eq_false hge)
    go_quiet (fail)
    have b1:=below_drewN (Below.refl W.heap.size W) nq
    obtain⟨W1,hW1⟩:∃x,W.drewN nq=x:=⟨_,rfl⟩
    rw[hW1]at b1 ⊢
    clear hW1
    have rS1:=(aA b1 (Nat.lt_of_lt_of_le zS HW.out.size)).trans rS
    have rK1:=(aA b1 zW).trans rK
    go_wp2_with fail
    go_quiet (fail)
    have b2:=below_drewN (Below.refl W1.heap.size W1) nq
    obtain⟨W2,hW2⟩:∃x,W1.drewN nq=x:=⟨_,rfl⟩
    rw[hW2]at b2 ⊢
    clear hW2
    have b02:Below w.heap.size w W2:=HW.out.trans ((b1.trans (b2.mono b1.size)).mono HW.out.size)
    have rS2:=(aA b2 (Nat.lt_of_lt_of_le zS (Nat.le_trans HW.out.size b1.size))).trans rS1
    have rK2:=(aA b2 (Nat.lt_of_lt_of_le zW b1.size)).trans rK1
    have zK2:w.heap.size<W2.heap.size:=Nat.lt_of_lt_of_le zW (Nat.le_trans b1.size b2.size)
    clear rS1 rK1 b1 b2 rS rK
    go_wp2_with fail
    have zS2:S<W2.heap.size:=Nat.lt_of_lt_of_le zS b02.size
    have hl0:∀X,Below W2.heap.size W2 X->(mC 28 (.pointer (some ⟨S,0,none⟩))).run Tryz.prog X=.ok (.agg (u8s psk).toArray) X:=fun X hX=>cI (l:=u8s psk) (pP (pre:=[]) ((aA hX zS2).trans rS2)) (by simp[hp])
    have hG:GrowP fun X=>Below W2.heap.size W2 X:=d6 W2
    refine nV [(w.heap.size,(u8s sec).toArray)] (fun X=>Below W2.heap.size W2 X) hG (Below.refl _ _) (fun hS=>?_)
    refine sp 0 hG hS ?_
    refine sp 1 hG hS ?_
    refine sp 2 hG hS ?_
    refine sp 3 hG hS ?_
    refine sp 4 hG hS ?_
    refine fM 5 kr_ (fun u hu=>?_)
    refine wpOp_step rfl (fun K hK=>?_)
    go_simp
    have hu2:Below W2.heap.size W2 u:=aL (Below.drew (Below.refl _ _)) hu
    (with_reducible refine(HG.out u).mono ?_)
    rintro e u3 ⟨⟨T,s,rfl,hs48⟩,b3⟩
    have b23:Below W2.heap.size W2 u3:=hu2.trans (b3.mono hu2.size)
    have hS:XS [(w.heap.size,(u8s sec).toArray)] (fun X=>Below W2.heap.size W2 X) u3:=⟨⟨(aA b23 zK2).trans rK2,Nat.lt_of_lt_of_le zK2 b23.size,trivial⟩,b23⟩
    refine hK _ _ ⟨hS,?_⟩
    clear hK K
    (try simp only[Act.put,List.setIfInBounds_toArray,List.set_cons_zero,List.set_cons_succ])
    refine sp 6 hG hS ?_
    refine sp 7 hG hS ?_
    refine sp 8 hG hS ?_
    refine sp 9 hG hS ?_
    refine sp 10 hG hS ?_
    refine aG kr_ (fun u4 bu4=>?_) _
    have b24:Below W2.heap.size W2 u4:=b23.trans (bu4.mono b23.size)
    have rS4:=(aA b24 zS2).trans rS2
    have b04:Below w.heap.size w u4:=b02.trans (b24.mono b02.size)
    clear hS bu4 b23 b3 hu2 hu hl0 hG b24 rS2 rK2
    obtain⟨W5,hW5⟩:∃v,u4.setRow S (u8s psk++[Value.bool true,Value.int .i64 r,Value.int .i64 k,Value.int .i64 p,Value.int .i64 d,Value.int .i64 now,Value.pointer none,Value.pointer b,Value.pointer c,Value.pointer (some ⟨T,0,none⟩),Value.int .i64 now,Value.int .i64 made,Value.int .i64 last]).toArray=v:=⟨_,rfl⟩
    have r5:row W5 S=(u8s psk++[Value.bool true,Value.int .i64 r,Value.int .i64 k,Value.int .i64 p,Value.int .i64 d,Value.int .i64 now,Value.pointer none,Value.pointer b,Value.pointer c,Value.pointer (some ⟨T,0,none⟩),Value.int .i64 now,Value.int .i64 made,Value.int .i64 last]).toArray:=by rw[<-hW5];exact aB (by rw[rS4];simp) (by rw[rS4];simp)
    have b5:BelowBut w.heap.size S w W5:=by rw[<-hW5];exact(BelowBut.of b04).trans (BelowBut.set _ _)
    go_wp2_with fail
    (try rw[hW5])
    clear hW5 rS4 b04
    have hP:=aFm W5 1 (.inl rfl) s hs48
    rw[show iR 1=1 from rfl]at hP
    (with_reducible refine hP.mono ?_)
    rintro e w6 ⟨rfl,b6⟩
    have z5:=b5.size
    have z6:=b6.size
    have r6:=(aA b6 (by omega)).trans r5
    have c6:=b5.trans ((BelowBut.of b6).mono z5)
    clear hP b6 r5
    go_wp2_with fail
    go_ret
    refine⟨.inr ⟨rfl,w6.heap.size,s,T,rfl,aE _ _ _ rfl,hs48,by omega,by rw[aF];omega,(aD _ _ (by omega)).trans (r6.trans rfl)⟩,c6.trans (BelowBut.of (Below.alloc (Below.refl _ _) (by omega) _))⟩
theorem aFA (hn1:now+1<=100000000):
  Calls Tryz.prog 22 #[.pointer (some ⟨S,0,none⟩),.agg (u8s sec).toArray] w fun e w'=>aMg w.heap.size S ⟨psk,g,r,k,p,d,now+1,none,b,c,talk,asked,made,last⟩ e w'/\BelowBut w.heap.size S w w':=by
 have zS:S<w.heap.size:=aM (i:=0) (by rw[hS];simp[LinkT.cells,hp])
 have HG:=h_ (fun w h=>aDn psk sec g r k p d (now+1) asked made last b c talk S w hp hs ⟨by omega,hn1⟩ ha h)
 have hw1:wrap64 (now+1)=now+1:=by unfold wrap64;omega
 have hw2:IntKind.i64.wrap (now+1)=now+1:=by rw[IntKind.wrap_i64];omega
 unfold LinkT.cells at hS
 simp only at hS
 go_enter Tryz.func22,Tryz.ntmps22
 obtain⟨W,hW⟩:∃v,w.alloc (.cells (u8s sec).toArray 28)=v:=⟨_,rfl⟩
 have rK:row W w.heap.size=(u8s sec).toArray:=by rw[<-hW];simp[go_sem]
 have zW:w.heap.size<W.heap.size:=by rw[<-hW];simp
 have bW:Below w.heap.size w W:=by
  rw[<-hW]
  exact ba_
 have rS:=(aA bW zS).trans hS
 obtain⟨W1,hW1⟩:∃v,W.setRow S (u8s psk++(Value.bool g::Value.int .i64 r::Value.int .i64 k::Value.int .i64 p::Value.int .i64 d::Value.int .i64 (now+1)::Value.pointer none::Value.pointer b::Value.pointer c::Value.pointer talk::Value.int .i64 asked::Value.int .i64 made::[Value.int .i64 last])).toArray=v:=⟨_,rfl⟩
 have r1:row W1 S=(u8s psk++(Value.bool g::Value.int .i64 r::Value.int .i64 k::Value.int .i64 p::Value.int .i64 d::Value.int .i64 (now+1)::Value.pointer none::Value.pointer b::Value.pointer c::Value.pointer talk::Value.int .i64 asked::Value.int .i64 made::[Value.int .i64 last])).toArray:=by rw[<-hW1];exact aB (by rw[rS];simp) (by rw[rS];simp)
 have rK1:row W1 w.heap.size=(u8s sec).toArray:=by rw[<-hW1,aC _ _ _ (by omega)];exact rK
 have z1:W1.heap.size=W.heap.size:=by rw[<-hW1];simp
 have b1:BelowBut w.heap.size S w W1:=by rw[<-hW1];exact(BelowBut.of bW).trans (BelowBut.set _ _)
 go_wp2_with fail
 (try rw[hW1])
 clear hW1 rK hW bW rS hS
 go_quiet (fail)
 have b2:=below_drewN (Below.refl W1.heap.size W1) nq
 obtain⟨W2,hW2⟩:∃x,W1.drewN nq=x:=⟨_,rfl⟩
 rw[hW2]at b2 ⊢
 clear hW2
 have hSW1:S<W1.heap.size:=by omega
 have hKW1:w.heap.size<W1.heap.size:=by omega
 have r2:=(aA b2 hSW1).trans r1
 have rK2:=(aA b2 hKW1).trans rK1
 have zW1:w.heap.size<=W1.heap.size:=by omega
 have c2:BelowBut w.heap.size S w W2:=b1.trans ((BelowBut.of b2).mono zW1)
 have hSW2:S<W2.heap.size:=Nat.lt_of_lt_of_le hSW1 b2.size
 have zW2:w.heap.size<=W2.heap.size:=c2.size
 have hG2:=HG.out W2 r2
 clear b1 b2 r1 rK1
 go_wp2_with fail
 (with_reducible refine hG2.mono ?_)
 rintro e w3 ⟨hL,b3⟩
 have c3:BelowBut w.heap.size S w w3:=c2.trans (b3.mono zW2)
 have z3:=b3.size
 clear hG2 rK2
 rcases hL with ⟨rfl,r3⟩ | ⟨hg,gb,s,T,rfl,rg,hs48,gg,zg,r3⟩
 ·have HR3:=h_ r3
  have hr3:=r3
  unfold LinkT.cells at hr3
  dsimp only at hr3
  clear r3 r2
  go_wp2_with fail
  go_quiet (fail)
  have b4:=below_drewN (Below.refl w3.heap.size w3) nq
  go_wp2_with fail
  go_ret
  exact⟨.inl ⟨rfl,(aA b4 (by omega)).trans HR3.out⟩,c3.trans ((BelowBut.of b4).mono c3.size)⟩
 ·have HR3:=h_ r3
  have HRG:=h_ rg
  have hr3:=r3
  unfold LinkT.cells at hr3
  dsimp only at hr3
  clear r3 r2 rg
  go_wp2_with fail
  go_quiet (fail)
  have b4:=below_drewN (Below.refl w3.heap.size w3) nq
  go_wp2_with fail
  go_ret
  exact⟨.inr ⟨hg,gb,s,T,rfl,(aA b4 zg).trans HRG.out,hs48,by omega,Nat.lt_of_lt_of_le zg b4.size,(aA b4 (by omega)).trans HR3.out⟩,c3.trans ((BelowBut.of b4).mono c3.size)⟩
end
end Go.Proofs.YtiagbbknkdgmeaaGreat
