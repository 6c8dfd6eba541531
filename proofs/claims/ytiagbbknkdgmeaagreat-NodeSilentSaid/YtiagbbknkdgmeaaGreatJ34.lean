/- Texts of this proof, merged: NoiL, NoiO. -/
import Derived.Test.YtiagbbknkdgmeaaGreatJ31
import Derived.Test.YtiagbbknkdgmeaaGreatJ33
set_option linter.unusedSimpArgs false
set_option linter.unusedVariables false
set_option maxHeartbeats 8000000
set_option maxRecDepth 20000
namespace Go.Proofs.YtiagbbknkdgmeaaGreat
section
open Go.RowKit
attribute [local irreducible] l8 iX jU iY uW j0
@[simp, go_sem] theorem aMR : u8s [] = [] := rfl
def aFf (t:TalkT):List UInt8:=uW t.k (j0 t.n) t.h []
def aC9 (t:TalkT) (s:List UInt8):TalkT:={t with h:=l8 (t.h++s),n:=t.n+1}
theorem aHt (t:TalkT) (S:Nat) (w:World) (ht:t.ok) (hn:t.n<=50) (hl:(aFf t).length=16) (hS:row w S=t.cells.toArray):
  Calls Tryz.prog 113 #[.pointer (some ⟨S,0,none⟩)] w fun e w'=>e=.returned (.string ⟨(aFf t).toArray⟩)/\row w' S=(aC9 t (aFf t)).cells.toArray/\BelowBut w.heap.size S w w':=by
 have zS:S<w.heap.size:=aM (i:=0) (by rw[hS];simp[TalkT.cells_length ht])
 obtain⟨th,tc,tk,tn,ts⟩:=t
 have h1:=ht.h
 have h2:=ht.c
 have h3:=ht.k
 have h4:=ht.s
 simp only at h1 h2 h3 h4 hn
 unfold aC9 aFf at *
 simp only at hl ⊢
 have HN:=h_ (fun w=>aG3 tn w)
 have HT:=h_ (fun w=>mA th w h1)
 have HA:=h_ (fun w=>aJj tk (j0 tn) th [] w h3 (aAi tn) (by omega) (by simp))
 obtain⟨c,hc⟩:∃c,j0 tn=c:=⟨_,rfl⟩
 rw[hc]at HN HA hl ⊢
 obtain⟨x,hx⟩:∃x,uW tk c th []=x:=⟨_,rfl⟩
 rw[hx]at HA hl ⊢
 clear hc hx
 have hw1:IntKind.u64.wrap ((tn:Int)+1)=((tn+1:Nat):Int):=by rw[IntKind.wrap_u64];omega
 have hC:(⟨th,tc,tk,tn,ts⟩:TalkT).cells=u8s th++(u8s tc++(u8s tk++(.int .u64 (tn:Int)::u8s ts))):=rfl
 rw[hC]at hS
 have hRow:=hS
 go_enter Tryz.func113,Tryz.ntmps113
 go_wp2_with fail
 refine jY [(S,(u8s th++(u8s tc++(u8s tk++(.int .u64 (tn:Int)::u8s ts)))).toArray)] (fun hS=>?_)
 refine qp 0 hS ?_
 refine qp 1 hS ?_
 refine qp 2 hS ?_
 refine qp 3 hS ?_
 refine qp 4 hS ?_
 refine qp 5 hS ?_
 refine qp 6 hS ?_
 refine qp 7 hS ?_
 refine qp 9 hS ?_
 refine qp 10 hS ?_
 refine qp 11 hS ?_
 refine qp 12 hS ?_
 refine qc 8 (v:=?_) hS ?_ ?_
 rotate_left
 ·intro w' hS'
  simp only[Rws]at hS'
  go_simp
  with_reducible refine(HN.out _).mono ?_
  rintro e w'' ⟨rfl,hb⟩
  exact⟨_,rfl,by rfl,hb⟩
 refine qc 13 (v:=?_) hS ?_ ?_
 rotate_left
 ·intro w' hS'
  simp only[Rws]at hS'
  go_simp
  with_reducible refine(HT.out _).mono ?_
  rintro e w'' ⟨rfl,hb⟩
  exact⟨_,rfl,by rfl,hb⟩
 refine qc 14 (v:=?_) hS ?_ ?_
 rotate_left
 ·intro w' hS'
  simp only[Rws]at hS'
  go_simp
  with_reducible refine(HA.out _).mono ?_
  rintro e w'' ⟨rfl,hb⟩
  exact⟨_,rfl,by rfl,hb⟩
 refine qp 15 hS ?_
 refine qp 16 hS ?_
 refine qp 17 hS ?_
 refine qp 18 hS ?_
 refine qp 19 hS ?_
 refine aG kr_ (fun w1 b1=>?_) _
 replace b1:Below (w).heap.size (w) w1:=aL (Below.drew (Below.refl _ _)) b1
 have z1:=b1.size
 have r1:=(aA b1 zS).trans hRow
 have zS1:S<w1.heap.size:=by omega
 clear hS HN HT HA
 go_wp2_with fail
 have b2:BelowBut w.heap.size S w (w1.setRow S (u8s th++(u8s tc++(u8s tk++(.int .u64 ((tn+1:Nat):Int)::u8s ts)))).toArray):=(BelowBut.of b1).trans (BelowBut.set _ _)
 have r2:row (w1.setRow S (u8s th++(u8s tc++(u8s tk++(.int .u64 ((tn+1:Nat):Int)::u8s ts)))).toArray) S=(⟨th,tc,tk,tn+1,ts⟩:TalkT).cells.toArray:=aB (by rw[r1];simp;omega) (by rw[r1];simp)
 refine(sZ ⟨th,tc,tk,tn+1,ts⟩ x S _ ⟨h1,h2,h3,h4,by simp only;omega⟩ (by omega) r2).mono ?_
 rintro e w3 ⟨rfl,r3,b3⟩
 go_wp2_with fail
 go_ret
 exact⟨rfl,r3,b2.trans (b3.mono (by rw[setRow_size];omega))⟩
end
section
open Go.RowKit
attribute [local irreducible] l8 iX jU iY uW j0 aHs kV
def aFg (t:TalkT):List UInt8:=aHs t.k (j0 t.n) t.h []
theorem m6 (t:TalkT):(aFg t).length=16:=uV _ _ _ _
theorem yA (t:TalkT):aFf t=aFg t:=by
 have h:∀(k n:List UInt8),kV k 1 n []=[]:=fun k n=>List.eq_nil_of_length_eq_zero (qV k 1 n [])
 rw[aFf,aFg,uW,h,List.nil_append]
def aJQ (t:TalkT) (s:List UInt8):TalkT:=⟨t.h,iY (iX t.c s) [] 1,iY (iX t.c s) [] 2,0,t.s⟩
end
end Go.Proofs.YtiagbbknkdgmeaaGreat
