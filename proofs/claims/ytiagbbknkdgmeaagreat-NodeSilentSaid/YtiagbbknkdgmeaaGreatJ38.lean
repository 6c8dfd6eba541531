/- Texts of this proof, merged: NoiP, NoiQ, NoiR, NoiF, NoiV, LnkG, LnkT, LnkK, LnkW, LnkS. -/
import Derived.Test.YtiagbbknkdgmeaaGreatJ34
import Derived.Test.YtiagbbknkdgmeaaGreatJ31
import Derived.Test.YtiagbbknkdgmeaaGreatJ37
import Derived.Test.YtiagbbknkdgmeaaGreatJ27
import Derived.Test.YtiagbbknkdgmeaaGreatJ3
import Derived.Test.YtiagbbknkdgmeaaGreatJ33
set_option maxHeartbeats 8000000
set_option maxRecDepth 20000
set_option linter.unusedSimpArgs false
set_option linter.unusedVariables false
namespace Go.Proofs.YtiagbbknkdgmeaaGreat
section
open Go.RowKit
attribute [local irreducible] l8 iX jU iY uW j0 aHs kV iC aJb aC9 aJQ oL aFg
def aFU (a:List UInt8):List UInt8:=iC a (9::List.replicate 31 0)
theorem vC (a:List UInt8):(aFU a).length=32:=wH _ _
def fY (psk a:List UInt8):TalkT:=aJb (oL psk a) (aFU a)
theorem aHz (psk a:List UInt8) (h:a.length=32):(fY psk a).ok:=aKG (aBO psk a h) _
def aFn (psk a:List UInt8):TalkT:=aC9 (fY psk a) (aFg (fY psk a))
theorem aMe (t:TalkT) (s:List UInt8):(aJb t s).n=0:=by unfold aJb;rfl
attribute [local irreducible] aFU fY
theorem aFo (t:TalkT) (S:Nat) (w:World) (ht:t.ok) (hn:t.n<=50) (hS:row w S=t.cells.toArray):
  Calls Tryz.prog 113 #[.pointer (some ⟨S,0,none⟩)] w fun e w'=>e=.returned (.string ⟨(aFg t).toArray⟩)/\row w' S=(aC9 t (aFg t)).cells.toArray/\BelowBut w.heap.size S w w':=by
 have h:=aHt t S w ht hn (by rw[yA,m6]) hS
 rw[yA]at h
 exact h
theorem aHA (psk a:List UInt8) (w:World) (hp:psk.length=32) (ha:a.length=32):
  Calls Tryz.prog 77 #[.agg (u8s psk).toArray,.agg (u8s a).toArray] w fun e w'=>∃S,e=.returned (.tuple #[.pointer (some ⟨S,0,none⟩),.string ⟨(aFU a++aFg (fY psk a)).toArray⟩])/\w.heap.size<=S/\S<w'.heap.size/\row w' S=(aFn psk a).cells.toArray/\Below w.heap.size w w':=by
 have HB:=h_ (fun w=>aHo psk a w hp ha)
 have HP:=h_ (fun w=>aFl a w ha)
 have hpl:(aFU a).length=32:=vC a
 rw[show iC a (9::List.replicate 31 0)=aFU a by unfold aFU;rfl]at HP
 have hg:aJb (oL psk a) (aFU a)=fY psk a:=by unfold fY;rfl
 have hh:aC9 (fY psk a) (aFg (fY psk a))=aFn psk a:=rfl
 have gok:=aHz psk a ha
 have gn:(fY psk a).n=0:=by unfold fY;exact aMe _ _
 have bok:=aBO psk a ha
 have HM:=h_ (fun S w hr=>aKH (oL psk a) (aFU a) S w bok (by omega) hr)
 have HL:=h_ (fun S w hr=>aFo (fY psk a) S w gok (by omega) hr)
 have htl:(aFg (fY psk a)).length=16:=m6 _
 rw[hg]at HM
 rw[hh]at HL
 obtain⟨p,hpu⟩:∃p,aFU a=p:=⟨_,rfl⟩
 rw[hpu]at HP HM hpl ⊢
 have HT:=h_ (fun w=>mA p w hpl)
 obtain⟨G,hG⟩:∃G,fY psk a=G:=⟨_,rfl⟩
 rw[hG]at HM HL htl gok gn ⊢
 obtain⟨x,hx⟩:∃x,aFg G=x:=⟨_,rfl⟩
 rw[hx]at HL htl ⊢
 obtain⟨H,hH⟩:∃H,aFn psk a=H:=⟨_,rfl⟩
 rw[hH]at HL ⊢
 obtain⟨B,hBB⟩:∃B,oL psk a=B:=⟨_,rfl⟩
 rw[hBB]at HB HM
 clear hpu hg hh hG hx hH hBB gok gn bok
 go_enter Tryz.func77,Tryz.ntmps77
 go_wp2_with fail
 refine(HB.out _).mono ?_
 rintro e w1 ⟨S,rfl,gS,zS,rS,b1⟩
 have rP1:row w1 (w.heap.size+1)=(u8s a).toArray:=by rw[aA b1 (by simp only[aF];omega)];simp[go_sem]
 have z1:=b1.size
 simp only[aF]at gS z1
 have bb1:Below w.heap.size w w1:=Below.trans eD (b1.mono (by simp only[aF];omega))
 clear b1
 go_wp2_with fail
 refine(HP.out _).mono ?_
 rintro e w2 ⟨rfl,b2⟩
 have z2:=b2.size
 have rS2:=(aA b2 zS).trans rS
 have bb2:=bb1.trans (b2.mono (by omega))
 go_wp2_with fail
 refine(HT.out _).mono ?_
 rintro e w3 ⟨rfl,b3⟩
 have z3:=b3.size
 have rS3:=(aA b3 (by omega)).trans rS2
 have bb3:=bb2.trans (b3.mono (by omega))
 go_wp2_with fail
 refine(HM.out _ _ rS3).mono ?_
 rintro e w4 ⟨rfl,rS4,b4⟩
 have z4:=b4.size
 have bb4:=bb3.trans ((b4.mono (by omega)).below (by omega))
 go_wp2_with fail
 refine(HL.out _ _ rS4).mono ?_
 rintro e w5 ⟨rfl,rS5,b5⟩
 have z5:=b5.size
 have bb5:=bb4.trans ((b5.mono (by omega)).below (by omega))
 clear b2 b3 b4 b5 bb1 bb2 bb3 bb4 rS rS2 rS3 rS4 rP1
 go_wp2_with fail
 go_ret2
 refine⟨S,by simp,by omega,by omega,rS5,bb5⟩
end
section
open Go.RowKit
structure Like (t u:TalkT):Prop where
 h:t.h=u.h
 c:t.c=u.c
 k:t.k=u.k
 n:t.n=u.n
def aBT (psk a:List UInt8):List UInt8:=aFU a++aFg (fY psk a)
theorem aAy (psk a:List UInt8):(aBT psk a).length=48:=by rw[aBT,List.length_append,vC,m6]
section
attribute [local irreducible] l8 iX jU iY uW j0 aHs kV iC aJb aC9 aJQ oL aFg aFU fY aFn
theorem aHB (psk a:List UInt8) (w:World) (hp:psk.length=32) (ha:a.length=32):
  Calls Tryz.prog 77 #[.agg (u8s psk).toArray,.agg (u8s a).toArray] w fun e w'=>∃S,e=.returned (.tuple #[.pointer (some ⟨S,0,none⟩),.string ⟨(aBT psk a).toArray⟩])/\w.heap.size<=S/\S<w'.heap.size/\row w' S=(aFn psk a).cells.toArray/\Below w.heap.size w w':=aHA psk a w hp ha
end
attribute [local irreducible] aBT aFn
end
section
open Go.RowKit
structure SessT where
 k1:List UInt8
 k2:List UInt8
 id:Int
 count:Nat
 top:Nat
 bits:Nat
 some:Bool
 born:Int
 sent:Int
 taken:Int
structure SessT.ok (s:SessT):Prop where
 k1:s.k1.length=32
 k2:s.k2.length=32
section
attribute [local irreducible] uW j0 aHs kV
variable (psk:List UInt8) (g:Bool) (r k p d now asked made last:Int) (A:Nat) (b c talk:Option Addr) (S:Nat) (w:World) (hp:psk.length=32)
include hp
theorem aNb (hS:row w S=(⟨psk,g,r,k,p,d,now,none,b,c,talk,asked,made,last⟩:LinkT).cells.toArray):
  Calls Tryz.prog 31 #[.pointer (some ⟨S,0,none⟩)] w fun e w'=>e=.returned (.bool false)/\w'=w:=by
 unfold LinkT.cells at hS
 simp only at hS
 go_enter Tryz.func31,Tryz.ntmps31
 go_wp2_with fail
 go_ret
 exact⟨rfl,rfl⟩
end
end
end Go.Proofs.YtiagbbknkdgmeaaGreat
