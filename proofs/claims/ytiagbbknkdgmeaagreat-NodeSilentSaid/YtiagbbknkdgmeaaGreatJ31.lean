/- Texts of this proof, merged: Sha, ShaW, ShaM, ShaK, ShaR, ShaQ, ShaC, ShaF, ShaS, Mac, MacS, MacK, MacL, Noi, NoiT, NoiC, NoiB, NoiM, NoiS, NoiG. -/
import Derived.Test.YtiagbbknkdgmeaaGreatJ2
import Derived.Test.YtiagbbknkdgmeaaGreatBytJ
import Derived.Test.YtiagbbknkdgmeaaGreatRegJ
import Derived.Test.YtiagbbknkdgmeaaGreatJ28
import Derived.Lib.Hide
import Derived.Test.YtiagbbknkdgmeaaGreatJ23
import Derived.Laws.IdiomCopy
import Derived.Test.YtiagbbknkdgmeaaGreatJ30
import Derived.Test.YtiagbbknkdgmeaaGreatShelfJ
import Derived.Laws.BitsLemmas
import Derived.Conc.WgArith
set_option linter.unusedSimpArgs false
set_option linter.unusedVariables false
set_option maxHeartbeats 8000000
set_option maxRecDepth 20000
namespace Go.Proofs.YtiagbbknkdgmeaaGreat
section
open Go.RowKit
theorem aG4 (x:Int) (w:World):
  Calls Tryz.prog 219 #[.int .u32 x,.int .i64 (-6)] w fun e w'=>e=.returned (.int .u32 (pG x 26))/\w=w':=by
 have hb:bits .and .u64 (IntKind.u64.wrap (-6)) 31=26:=by decide+kernel
 go_enter Tryz.func219,Tryz.ntmps219
 go_wp2_with fail
 go_ret
 exact⟨rfl,rfl⟩
theorem aE0 (x:Int) (w:World):
  Calls Tryz.prog 219 #[.int .u32 x,.int .i64 (-11)] w fun e w'=>e=.returned (.int .u32 (pG x 21))/\w=w':=by
 have hb:bits .and .u64 (IntKind.u64.wrap (-11)) 31=21:=by decide+kernel
 go_enter Tryz.func219,Tryz.ntmps219
 go_wp2_with fail
 go_ret
 exact⟨rfl,rfl⟩
theorem aE1 (x:Int) (w:World):
  Calls Tryz.prog 219 #[.int .u32 x,.int .i64 (-25)] w fun e w'=>e=.returned (.int .u32 (pG x 7))/\w=w':=by
 have hb:bits .and .u64 (IntKind.u64.wrap (-25)) 31=7:=by decide+kernel
 go_enter Tryz.func219,Tryz.ntmps219
 go_wp2_with fail
 go_ret
 exact⟨rfl,rfl⟩
theorem aG5 (x:Int) (w:World):
  Calls Tryz.prog 219 #[.int .u32 x,.int .i64 (-2)] w fun e w'=>e=.returned (.int .u32 (pG x 30))/\w=w':=by
 have hb:bits .and .u64 (IntKind.u64.wrap (-2)) 31=30:=by decide+kernel
 go_enter Tryz.func219,Tryz.ntmps219
 go_wp2_with fail
 go_ret
 exact⟨rfl,rfl⟩
theorem aE2 (x:Int) (w:World):
  Calls Tryz.prog 219 #[.int .u32 x,.int .i64 (-13)] w fun e w'=>e=.returned (.int .u32 (pG x 19))/\w=w':=by
 have hb:bits .and .u64 (IntKind.u64.wrap (-13)) 31=19:=by decide+kernel
 go_enter Tryz.func219,Tryz.ntmps219
 go_wp2_with fail
 go_ret
 exact⟨rfl,rfl⟩
theorem aE3 (x:Int) (w:World):
  Calls Tryz.prog 219 #[.int .u32 x,.int .i64 (-22)] w fun e w'=>e=.returned (.int .u32 (pG x 10))/\w=w':=by
 have hb:bits .and .u64 (IntKind.u64.wrap (-22)) 31=10:=by decide+kernel
 go_enter Tryz.func219,Tryz.ntmps219
 go_wp2_with fail
 go_ret
 exact⟨rfl,rfl⟩
theorem aG6 (x:Int) (w:World):
  Calls Tryz.prog 219 #[.int .u32 x,.int .i64 (-7)] w fun e w'=>e=.returned (.int .u32 (pG x 25))/\w=w':=by
 have hb:bits .and .u64 (IntKind.u64.wrap (-7)) 31=25:=by decide+kernel
 go_enter Tryz.func219,Tryz.ntmps219
 go_wp2_with fail
 go_ret
 exact⟨rfl,rfl⟩
theorem aE4 (x:Int) (w:World):
  Calls Tryz.prog 219 #[.int .u32 x,.int .i64 (-18)] w fun e w'=>e=.returned (.int .u32 (pG x 14))/\w=w':=by
 have hb:bits .and .u64 (IntKind.u64.wrap (-18)) 31=14:=by decide+kernel
 go_enter Tryz.func219,Tryz.ntmps219
 go_wp2_with fail
 go_ret
 exact⟨rfl,rfl⟩
theorem aE5 (x:Int) (w:World):
  Calls Tryz.prog 219 #[.int .u32 x,.int .i64 (-17)] w fun e w'=>e=.returned (.int .u32 (pG x 15))/\w=w':=by
 have hb:bits .and .u64 (IntKind.u64.wrap (-17)) 31=15:=by decide+kernel
 go_enter Tryz.func219,Tryz.ntmps219
 go_wp2_with fail
 go_ret
 exact⟨rfl,rfl⟩
theorem aE6 (x:Int) (w:World):
  Calls Tryz.prog 219 #[.int .u32 x,.int .i64 (-19)] w fun e w'=>e=.returned (.int .u32 (pG x 13))/\w=w':=by
 have hb:bits .and .u64 (IntKind.u64.wrap (-19)) 31=13:=by decide+kernel
 go_enter Tryz.func219,Tryz.ntmps219
 go_wp2_with fail
 go_ret
 exact⟨rfl,rfl⟩
theorem jB {f:FuncId} {args:Array Value} {w:World} {P:Program} {v:Value} (h:Calls P f args w fun e w'=>e=.returned v/\w=w'):Calls P f args w fun e w'=>e=.returned v/\Below w.heap.size w w':=
 h.mono fun e w' ⟨h1,h2⟩=>⟨h1,by rw[<-h2];exact Below.refl _ _⟩
theorem aKx (x:Int) (w:World):Calls Tryz.prog 219 #[.int .u32 x,.int .i64 (IntKind.i64.wrap (-7))] w fun e w'=>e=.returned (.int .u32 (pG x 25))/\Below w.heap.size w w':=by
 rw[show IntKind.i64.wrap (-7)= -7 by decide]
 exact jB (aG6 x w)
theorem aIU (x:Int) (w:World):Calls Tryz.prog 219 #[.int .u32 x,.int .i64 (IntKind.i64.wrap (-18))] w fun e w'=>e=.returned (.int .u32 (pG x 14))/\Below w.heap.size w w':=by
 rw[show IntKind.i64.wrap (-18)= -18 by decide]
 exact jB (aE4 x w)
theorem aIV (x:Int) (w:World):Calls Tryz.prog 219 #[.int .u32 x,.int .i64 (IntKind.i64.wrap (-17))] w fun e w'=>e=.returned (.int .u32 (pG x 15))/\Below w.heap.size w w':=by
 rw[show IntKind.i64.wrap (-17)= -17 by decide]
 exact jB (aE5 x w)
theorem aIW (x:Int) (w:World):Calls Tryz.prog 219 #[.int .u32 x,.int .i64 (IntKind.i64.wrap (-19))] w fun e w'=>e=.returned (.int .u32 (pG x 13))/\Below w.heap.size w w':=by
 rw[show IntKind.i64.wrap (-19)= -19 by decide]
 exact jB (aE6 x w)
def oJ (x:Int) (a b c:Nat):Int:=bits .xor .u32 (bits .xor .u32 (pG x a) (pG x b)) (pG x c)
def aKy (x:Int) (a b c:Nat):Int:=bits .xor .u32 (bits .xor .u32 (pG x a) (pG x b)) (x / 2^c)
theorem aE7 (x:Int) (w:World):
  Calls Tryz.prog 194 #[.int .u32 x,.int .i64 6,.int .i64 11,.int .i64 25] w fun e w'=>e=.returned (.int .u32 (oJ x 26 21 7))/\w=w':=by
 go_enter Tryz.func194,Tryz.ntmps194
 go_wp2_with fail
 refine(aG4 _ _).mono ?_
 rintro e w1 ⟨rfl,rfl⟩
 go_wp2_with fail
 refine(aE0 _ _).mono ?_
 rintro e w1 ⟨rfl,rfl⟩
 go_wp2_with fail
 refine(aE1 _ _).mono ?_
 rintro e w1 ⟨rfl,rfl⟩
 go_wp2_with fail
 go_ret
 exact⟨rfl,rfl⟩
theorem aE8 (x:Int) (w:World):
  Calls Tryz.prog 194 #[.int .u32 x,.int .i64 2,.int .i64 13,.int .i64 22] w fun e w'=>e=.returned (.int .u32 (oJ x 30 19 10))/\w=w':=by
 go_enter Tryz.func194,Tryz.ntmps194
 go_wp2_with fail
 refine(aG5 _ _).mono ?_
 rintro e w1 ⟨rfl,rfl⟩
 go_wp2_with fail
 refine(aE2 _ _).mono ?_
 rintro e w1 ⟨rfl,rfl⟩
 go_wp2_with fail
 refine(aE3 _ _).mono ?_
 rintro e w1 ⟨rfl,rfl⟩
 go_wp2_with fail
 go_ret
 exact⟨rfl,rfl⟩
theorem aIX (x:Int) (w:World):
  Calls Tryz.prog 195 #[.int .u32 x,.int .i64 7,.int .i64 18,.int .i64 3] w fun e w'=>e=.returned (.int .u32 (aKy x 25 14 3))/\Below w.heap.size w w':=by
 have H1:=h_ (fun w=>aKx x w)
 have H2:=h_ (fun w=>aIU x w)
 go_enter Tryz.func195,Tryz.ntmps195
 go_wp2_with fail
 refine jY [] (fun hS=>?_)
 refine qp 0 hS ?_
 refine qp 1 hS ?_
 refine qp 2 hS ?_
 refine qc 3 (v:=?_) hS ?_ ?_
 rotate_left
 ·intro w' hS'
  simp only[Rws]at hS'
  go_simp
  with_reducible refine(H1.out _).mono ?_
  rintro e w'' ⟨rfl,hb⟩
  exact⟨_,rfl,by rfl,hb⟩
 refine qp 4 hS ?_
 refine qp 5 hS ?_
 refine qp 6 hS ?_
 refine qc 7 (v:=?_) hS ?_ ?_
 rotate_left
 ·intro w' hS'
  simp only[Rws]at hS'
  go_simp
  with_reducible refine(H2.out _).mono ?_
  rintro e w'' ⟨rfl,hb⟩
  exact⟨_,rfl,by rfl,hb⟩
 refine qp 8 hS ?_
 refine qp 9 hS ?_
 refine qp 10 hS ?_
 refine qp 11 hS ?_
 refine qp 12 hS ?_
 refine qp 13 hS ?_
 refine aG kr_ (fun w1 b1=>?_) _
 replace b1:Below (w).heap.size (w) w1:=aL (Below.drew (Below.refl _ _)) b1
 go_wp2_with fail
 go_ret
 exact⟨rfl,b1⟩
theorem aG7 (x:Int) (w:World):
  Calls Tryz.prog 195 #[.int .u32 x,.int .i64 17,.int .i64 19,.int .i64 10] w fun e w'=>e=.returned (.int .u32 (aKy x 15 13 10))/\Below w.heap.size w w':=by
 have H1:=h_ (fun w=>aIV x w)
 have H2:=h_ (fun w=>aIW x w)
 go_enter Tryz.func195,Tryz.ntmps195
 go_wp2_with fail
 refine jY [] (fun hS=>?_)
 refine qp 0 hS ?_
 refine qp 1 hS ?_
 refine qp 2 hS ?_
 refine qc 3 (v:=?_) hS ?_ ?_
 rotate_left
 ·intro w' hS'
  simp only[Rws]at hS'
  go_simp
  with_reducible refine(H1.out _).mono ?_
  rintro e w'' ⟨rfl,hb⟩
  exact⟨_,rfl,by rfl,hb⟩
 refine qp 4 hS ?_
 refine qp 5 hS ?_
 refine qp 6 hS ?_
 refine qc 7 (v:=?_) hS ?_ ?_
 rotate_left
 ·intro w' hS'
  simp only[Rws]at hS'
  go_simp
  with_reducible refine(H2.out _).mono ?_
  rintro e w'' ⟨rfl,hb⟩
  exact⟨_,rfl,by rfl,hb⟩
 refine qp 8 hS ?_
 refine qp 9 hS ?_
 refine qp 10 hS ?_
 refine qp 11 hS ?_
 refine qp 12 hS ?_
 refine qp 13 hS ?_
 refine aG kr_ (fun w1 b1=>?_) _
 replace b1:Below (w).heap.size (w) w1:=aL (Below.drew (Below.refl _ _)) b1
 go_wp2_with fail
 go_ret
 exact⟨rfl,b1⟩
end
section
open Go.RowKit
def aNn (a b c d:UInt8):Int:=bits .or .u32 (bits .or .u32 (bits .or .u32 (IntKind.u32.wrap (IntKind.u32.wrap (a.toNat:Int)*16777216)) (IntKind.u32.wrap (IntKind.u32.wrap (b.toNat:Int)*65536))) (IntKind.u32.wrap (IntKind.u32.wrap (c.toNat:Int)*256))) (IntKind.u32.wrap (d.toNat:Int))
def wdA (s:List UInt8) (i:Nat):Int:=aNn (s.getD (4*i) 0) (s.getD (4*i+1) 0) (s.getD (4*i+2) 0) (s.getD (4*i+3) 0)
def wdB (l:List Int) (i:Nat):Int:=IntKind.u32.wrap (IntKind.u32.wrap (IntKind.u32.wrap (l.getD (i - 16) 0+aKy (l.getD (i - 15) 0) 25 14 3)+l.getD (i - 7) 0)+aKy (l.getD (i - 2) 0) 15 13 10)
def wdF (s:List UInt8) (i:Nat) (l:List Int):List Int:=l.set i (if i<16 then wdA s i else wdB l i)
def wdL (s:List UInt8):List Int:=aU (wdF s) 64 (List.replicate 64 0)
theorem xW (s:List UInt8) (i:Nat) (l:List Int):(wdF s i l).length=l.length:=by simp[wdF]
theorem xX (s:List UInt8):(wdL s).length=64:=by rw[wdL,dD (xW s)];simp
attribute [local irreducible] aKy aU
theorem aG8 (s:List UInt8) (w:World) (hs:s.length=64):
  Calls Tryz.prog 172 #[.string ⟨s.toArray⟩] w fun e w'=>e=.returned (.agg (dE (wdL s)).toArray)/\Below w.heap.size w w':=by
 go_enter Tryz.func172,Tryz.ntmps172
 go_wp2_with fail
 go_loopw [5] (fun i wr=>∃m:Nat,m<=64/\i=.int .i64 m/\row wr (w.heap.size+1)=(dE (aU (wdF s) m (List.replicate 64 0))).toArray/\row wr w.heap.size=(aH 64 (.int .u32 0)).toArray/\w.heap.size+1<wr.heap.size/\Below w.heap.size w wr) (fun i _=>64 - (intOf i).toNat)
 case atStart=>
  refine⟨0,by omega,rfl,?_,by simp[go_sem],by simp,eD⟩
  rw[aU,lX]
  simp[go_sem]
 case round=>
  obtain⟨m,hm,rfl,hV,hR,hz,hbel⟩:=hrel
  obtain⟨L,hL⟩:∃L,aU (wdF s) m (List.replicate 64 0)=L:=⟨_,rfl⟩
  have hLl:L.length=64:=by rw[<-hL,dD (xW _)];simp
  rw[hL]at hV
  have HL:=h_ hL
  clear hL
  by_cases hlt:m<64
  ·have h1:(m:Int)<64:=by omega
   have h3:m<L.length:=by omega
   by_cases h16:m<16
   ·have j1:(m:Int)<16:=by omega
    obtain⟨x,hx⟩:∃x,wdA s m=x:=⟨_,rfl⟩
    obtain⟨p,hp⟩:∃p,4*m=p:=⟨_,rfl⟩
    obtain⟨p1,hp1⟩:∃q,p+1=q:=⟨_,rfl⟩
    obtain⟨p2,hp2⟩:∃q,p+2=q:=⟨_,rfl⟩
    obtain⟨p3,hp3⟩:∃q,p+3=q:=⟨_,rfl⟩
    have e0:(4:Int)*m=p:=by omega
    have e1:(p:Int)+1=p1:=by omega
    have e2:(p:Int)+2=p2:=by omega
    have e3:(p:Int)+3=p3:=by omega
    have k0:p<s.length:=by omega
    have k1:p1<s.length:=by omega
    have k2:p2<s.length:=by omega
    have k3:p3<s.length:=by omega
    have b0:(p:Int)<64:=by omega
    have b1:(p1:Int)<64:=by omega
    have b2:(p2:Int)<64:=by omega
    have b3:(p3:Int)<64:=by omega
    have q0:IntKind.i64.wrap (p:Int)=p:=aAc _ _ rfl (by omega)
    have q1:IntKind.i64.wrap (p1:Int)=p1:=aAc _ _ rfl (by omega)
    have q2:IntKind.i64.wrap (p2:Int)=p2:=aAc _ _ rfl (by omega)
    have q3:IntKind.i64.wrap (p3:Int)=p3:=aAc _ _ rfl (by omega)
    have hX:x=bits .or .u32 (bits .or .u32 (bits .or .u32 (IntKind.u32.wrap (IntKind.u32.wrap (s[p].toNat:Int)*16777216)) (IntKind.u32.wrap (IntKind.u32.wrap (s[p1].toNat:Int)*65536))) (IntKind.u32.wrap (IntKind.u32.wrap (s[p2].toNat:Int)*256))) (IntKind.u32.wrap (s[p3].toNat:Int)):=by
     rw[<-hx,wdA,hp,hp1,hp2,hp3,cC _ _ _ k0,cC _ _ _ k1,cC _ _ _ k2,cC _ _ _ k3,aNn]
    have HX:=h_ hX
    have HW:=h_ hx
    clear hX hx hp hp1 hp2 hp3
    go_wp2_with fail
    have hVd:row wr.drew (w.heap.size+1)=(dE L).toArray:=hV
    refine jY [] (fun hS=>?_)
    refine qp 0 hS ?_
    refine qp 1 hS ?_
    refine qp 2 hS ?_
    refine qp 3 hS ?_
    refine qp 4 hS ?_
    refine qp 5 hS ?_
    refine qp 6 hS ?_
    refine qp 7 hS ?_
    refine qp 8 hS ?_
    refine qp 9 hS ?_
    refine qp 10 hS ?_
    refine qp 11 hS ?_
    refine qp 12 hS ?_
    refine qp 13 hS ?_
    refine qp 14 hS ?_
    refine qp 15 hS ?_
    refine qp 16 hS ?_
    refine qp 17 hS ?_
    refine qp 18 hS ?_
    refine qp 19 hS ?_
    refine qp 20 hS ?_
    refine qp 21 hS ?_
    refine qp 22 hS ?_
    refine qp 23 hS ?_
    refine qp 24 hS ?_
    refine qp 25 hS ?_
    refine qp 26 hS ?_
    refine qp 27 hS ?_
    refine qp 28 hS ?_
    refine qp 29 hS ?_
    refine qp 30 hS ?_
    rw[<-HX.out]
    refine bI (i:=31) (b:=w.heap.size+1) (c:=(dE (L.set m x)).toArray) cD rfl rfl kr_ (by simp;(try omega)) hS (by rw[hVd];simp;(try omega)) (fun w1 hr=>by rw[hVd]at hr;go_simp;(try rfl)) (fun u1 hu1 ru1 hS=>?_)
    refine aG kr_ (fun wN hN=>?_) _
    have z1:=hu1.size
    have zN:=hN.size
    have hz':w.heap.size+1<u1.heap.size:=by have:wr.drew.heap.size=wr.heap.size:=rfl;omega
    rw[setRow_size]at zN
    have hVN:row wN (w.heap.size+1)=(dE (L.set m x)).toArray:=by
     rw[aA hN (by rw[setRow_size];omega)]
     exact aB (by rw[ru1,hVd];simp;omega) (by rw[ru1,hVd];simp)
    have hRN:row wN w.heap.size=(aH 64 (.int .u32 0)).toArray:=by
     rw[aA hN (by rw[setRow_size];omega),aC _ _ _ (by omega),aA hu1 (by have:wr.drew.heap.size=wr.heap.size:=rfl;omega)]
     exact hR
    have bN:Below w.heap.size w wN:=Below.trans (Below.setRow (Below.trans (Below.drew hbel) (hu1.mono (by have:wr.drew.heap.size=wr.heap.size:=rfl;omega))) (by omega) _) (hN.mono (by rw[setRow_size];omega))
    clear hu1 ru1 hS hN
    go_wp2_with fail
    go_roundw
    case rel=>
     refine⟨m+1,by omega,rfl,?_,hRN,by omega,bN⟩
     rw[hVN,aU,HL.out,wdF,if_pos h16,HW.out]
    case measure=>simp[intOf];omega
   ·have j1:¬(m:Int)<16:=by omega
    have hml:16<=m:=by omega
    obtain⟨y,hy⟩:∃y,wdB L m=y:=⟨_,rfl⟩
    obtain⟨a16,ha16⟩:∃q,m - 16=q:=⟨_,rfl⟩
    have e16:(m:Int) - 16=a16:=by omega
    have l16:a16<L.length:=by omega
    have b16:(a16:Int)<64:=by omega
    have c16:a16<64:=by omega
    have w16:IntKind.i64.wrap (a16:Int)=a16:=aAc _ _ rfl (by omega)
    obtain⟨a15,ha15⟩:∃q,m - 15=q:=⟨_,rfl⟩
    have e15:(m:Int) - 15=a15:=by omega
    have l15:a15<L.length:=by omega
    have b15:(a15:Int)<64:=by omega
    have c15:a15<64:=by omega
    have w15:IntKind.i64.wrap (a15:Int)=a15:=aAc _ _ rfl (by omega)
    obtain⟨a7,ha7⟩:∃q,m - 7=q:=⟨_,rfl⟩
    have e7:(m:Int) - 7=a7:=by omega
    have l7:a7<L.length:=by omega
    have b7:(a7:Int)<64:=by omega
    have c7:a7<64:=by omega
    have w7:IntKind.i64.wrap (a7:Int)=a7:=aAc _ _ rfl (by omega)
    obtain⟨a2,ha2⟩:∃q,m - 2=q:=⟨_,rfl⟩
    have e2:(m:Int) - 2=a2:=by omega
    have l2:a2<L.length:=by omega
    have b2:(a2:Int)<64:=by omega
    have c2:a2<64:=by omega
    have w2:IntKind.i64.wrap (a2:Int)=a2:=aAc _ _ rfl (by omega)
    have hY:IntKind.u32.wrap (IntKind.u32.wrap (IntKind.u32.wrap (L[a16]+aKy L[a15] 25 14 3)+L[a7])+aKy L[a2] 15 13 10)=y:=by
     rw[<-hy,wdB,ha16,ha15,ha7,ha2,cC _ _ _ l16,cC _ _ _ l15,cC _ _ _ l7,cC _ _ _ l2]
    have HY:=h_ hY
    have HW:=h_ hy
    have T1:=h_ (fun w=>aIX L[a15] w)
    have T2:=h_ (fun w=>aG7 L[a2] w)
    clear hY hy ha16 ha15 ha7 ha2
    go_wp2_with fail
    have hVd:row wr.drew (w.heap.size+1)=(dE L).toArray:=hV
    refine aF6 23 [(w.heap.size+1,(dE L).toArray)] [] (fun hS=>?_)
    refine kp 0 hS ?_
    refine kp 1 hS ?_
    refine kp 2 hS ?_
    refine kp 3 hS ?_
    refine kp 4 hS ?_
    refine kp 5 hS ?_
    refine kp 6 hS ?_
    refine kp 7 hS ?_
    refine kp 8 hS ?_
    refine kp 11 hS ?_
    refine kp 12 hS ?_
    refine kp 13 hS ?_
    refine kp 14 hS ?_
    refine kp 16 hS ?_
    refine kp 17 hS ?_
    refine kp 18 hS ?_
    refine kp 19 hS ?_
    refine cH (i:=9) (v:=?_) cD kr_ kr_ kr_ kr_ (by first | exact fun _ _ _ h=>h | exact fun _ _ _ h=>by cases h.1) (Rws.grow _) (Or.inl ⟨by rfl,?_⟩) hS ?_
    rotate_left
    ·intro w' hS'
     simp only[Rws]at hS'
     go_simp
     with_reducible refine(T1.out _).mono ?_
     rintro e w'' ⟨rfl,hb⟩
     refine⟨_,rfl,?_,hb⟩
     rfl
    (try simp only[Act.put,List.setIfInBounds_toArray,List.set_cons_zero,List.set_cons_succ])
    refine kp 10 hS ?_
    refine kp 15 hS ?_
    refine cH (i:=20) (v:=?_) cD kr_ kr_ kr_ kr_ (by first | exact fun _ _ _ h=>h | exact fun _ _ _ h=>by cases h.1) (Rws.grow _) (Or.inl ⟨by rfl,?_⟩) hS ?_
    rotate_left
    ·intro w' hS'
     simp only[Rws]at hS'
     go_simp
     with_reducible refine(T2.out _).mono ?_
     rintro e w'' ⟨rfl,hb⟩
     refine⟨_,rfl,?_,hb⟩
     rfl
    (try simp only[Act.put,List.setIfInBounds_toArray,List.set_cons_zero,List.set_cons_succ])
    refine kp 21 hS ?_
    refine kp 22 hS ?_
    refine bE (k:=23) cD rfl rfl kr_ (fun u1 hu1=>?_)
    have ru1:row u1 (w.heap.size+1)=(dE L).toArray:=by rw[aA hu1 (by have:wr.drew.heap.size=wr.heap.size:=rfl;omega)];exact hV
    have z1:=hu1.size
    refine⟨u1.setRow (w.heap.size+1) (dE (L.set m y)).toArray,by go_simp;rw[HY.out],trivial,fun hS=>?_⟩
    refine aG kr_ (fun wN hN=>?_) _
    have zN:=hN.size
    have hz':w.heap.size+1<u1.heap.size:=by have:wr.drew.heap.size=wr.heap.size:=rfl;omega
    rw[setRow_size]at zN
    have hVN:row wN (w.heap.size+1)=(dE (L.set m y)).toArray:=by
     rw[aA hN (by rw[setRow_size];omega)]
     exact aB (by rw[ru1];simp;omega) (by rw[ru1];simp)
    have hRN:row wN w.heap.size=(aH 64 (.int .u32 0)).toArray:=by
     rw[aA hN (by rw[setRow_size];omega),aC _ _ _ (by omega),aA hu1 (by have:wr.drew.heap.size=wr.heap.size:=rfl;omega)]
     exact hR
    have bN:Below w.heap.size w wN:=Below.trans (Below.setRow (Below.trans (Below.drew hbel) (hu1.mono (by have:wr.drew.heap.size=wr.heap.size:=rfl;omega))) (by omega) _) (hN.mono (by rw[setRow_size];omega))
    clear hu1 ru1 hS hN
    go_wp2_with fail
    go_roundw
    case rel=>
     refine⟨m+1,by omega,rfl,?_,hRN,by omega,bN⟩
     rw[hVN,aU,HL.out,wdF,if_neg h16,HW.out]
    case measure=>simp[intOf];omega
  ·obtain rfl:m=64:=by omega
   rw[show((64:Nat):Int)=64 from rfl]
   have e:L=wdL s:=HL.out.symm
   rw[e]at hLl hV
   go_wp2_with fail
   have hfin:=aB (w:=wr) (g:=w.heap.size) (c:=(dE (wdL s)).toArray) (by rw[hR];simp) (by rw[hR];simp[hLl])
   (try simp only[Exit.inBlock,Exit.then])
   refine bodyPost_ret (aV rfl (aK rfl ?_)) rfl ?_
   ·rw[hfin]
    simp[hLl]
   refine⟨by rw[hfin],?_⟩
   exact Below.setRow hbel (by omega) _
end
section
open Go.RowKit
theorem aIY {P:Program} (w:World) (dT sT ty elem:TypeId) (b o dLen dCap g p sLen sCap:Nat) (cs:List Value)
  (hu:P.underlying dT=some (.slice elem)) (hs:(P.info? elem).map (·.size)=some 1) (hn:cs.length=Nat.min sLen dLen)
  (hsrc:∀j v,cs[j]? =some v->(row w g)[p+j]? =some v) (hfit:o+cs.length<=(row w b).size) (h0:0<cs.length) (h1:∀v∈cs,v.oneCell'=true):
  (Builtin.copy_ #[dT,sT] ty #[.slice (some ⟨b,o,none⟩) dLen dCap,.slice (some ⟨g,p,none⟩) sLen sCap]).run P w=.ok (goInt cs.length) (w.setRow b (eO (row w b) o cs.toArray)):=by
 rw[<-fB cs w o hfit h0]
 refine run_copy_cells w dT sT ty elem b o dLen dCap ⟨g,p,none⟩ sLen sCap cs hu hs hn (fun j v hj=>?_) (fun j hj=>?_) (fun j hj=>?_) h1
 ·have h:=hsrc j v hj
  have hadd:(⟨g,p,none⟩:Addr).add j=⟨g,p+j,none⟩:=by unfold Addr.add;split<;>simp_all
  have hlt:p+j<(row w g).size:=by
   rcases Nat.lt_or_ge (p+j) (row w g).size with h2 | h2
   ·exact h2
   ·rw[Array.getElem?_eq_none h2]at h;cases h
  rw[hadd,aQ hlt]
  exact h
 ·rw[aQ (by omega)]
  simp
  omega
 ·exact iN (by omega)
section
variable {P:Program} {md:Region.Mode} {ops:Array Oper} {Q:Exit->Act->World->Prop} {S:World->Prop}
theorem aCW {i b off dLen dCap p sLen sCap:Nat} {o:Oper} {fuel:Nat} {listed:Array Bool} {a:Act} {w:World} (ho:ops[i]? =some o) (g:o.guard=none) {d s:Operand} {dT sT elem:TypeId}
  (hop:o.op=.call {callee:=.builtin .copy,args:=#[d,s],argTypes:=#[dT,sT]}) (hr:Region.ready md ops listed=[i])
  (hu:P.underlying dT=some (.slice elem)) (hs:(P.info? elem).map (·.size)=some 1)
  (hd:a.eval d=.slice (some ⟨b,off,none⟩) dLen dCap) (hsv:a.eval s=.slice (some ⟨b,p,none⟩) sLen sCap) {cur:Array Value} (cs:List Value) (hc:row w b=cur)
  (hn:cs.length=Nat.min sLen dLen) (hsrc:∀j v,cs[j]? =some v->cur[p+j]? =some v) (hfit:off+cs.length<=cur.size) (h0:0<cs.length) (h1:∀v∈cs,v.oneCell'=true)
  (h:∀w1,Below w.heap.size w w1->row w1 b=cur->bR P md ops Q (Rws []) fuel (listed.setIfInBounds i true) (a.put o.dst (goInt cs.length)) (w1.setRow b (eO cur off cs.toArray))):
  bR P md ops Q (Rws []) (fuel+1) listed a w:=by
 refine cL ho g hr fun w1 b1=>?_
 have hc1:row w1 b=cur:=by rw[aA b1 (aM (i:=0) (by rw[hc];omega)),hc]
 have hrun:=aIY (P:=P) w1 dT sT o.type elem b off dLen dCap b p sLen sCap cs hu hs hn (by rw[hc1];exact hsrc) (by rw[hc1];exact hfit) h0 h1
 rw[hc1]at hrun
 refine⟨.value (goInt cs.length),goInt cs.length,w1.setRow b (eO cur off cs.toArray),?_,rfl,trivial,h w1 b1 hc1⟩
 simp[execOp,hop,resolve,invoke,builtin,hd,hsv,hrun,Result.andThen]
end
theorem aIZ (x:Int) (w:World):Calls Tryz.prog 194 #[.int .u32 x,.int .i64 6,.int .i64 11,.int .i64 25] w fun e w'=>e=.returned (.int .u32 (oJ x 26 21 7))/\Below w.heap.size w w':=jB (aE7 x w)
theorem aI0 (x:Int) (w:World):Calls Tryz.prog 194 #[.int .u32 x,.int .i64 2,.int .i64 13,.int .i64 22] w fun e w'=>e=.returned (.int .u32 (oJ x 30 19 10))/\Below w.heap.size w w':=jB (aE8 x w)
def tI (e f g h k x:Int):Int:=IntKind.u32.wrap (IntKind.u32.wrap (IntKind.u32.wrap (IntKind.u32.wrap (h+oJ e 26 21 7)+bits .xor .u32 (bits .and .u32 e f) (bits .and .u32 (bits .xor .u32 (if IntKind.u32.signed=true then -1 else IntKind.u32.max) e) g))+k)+x)
def uI (a b c:Int):Int:=IntKind.u32.wrap (oJ a 30 19 10+bits .xor .u32 (bits .xor .u32 (bits .and .u32 a b) (bits .and .u32 a c)) (bits .and .u32 b c))
def aLr (k x:List Int) (i:Nat):List Int->List Int
 | [a,b,c,d,e,f,g,h]=>[(tI e f g h (k.getD i 0) (x.getD i 0)+uI a b c)%4294967296,a,b,c,(d+tI e f g h (k.getD i 0) (x.getD i 0))%4294967296,e,f,g]
 | l=>l
theorem aL0 {l:List Int} (h:l.length=8):∃a b c d e f g k,l=[a,b,c,d,e,f,g,k]:=by
 rcases l with _ | ⟨a,_ | ⟨b,_ | ⟨c,_ | ⟨d,_ | ⟨e,_ | ⟨f,_ | ⟨g,_ | ⟨k,_ | ⟨m,l⟩⟩⟩⟩⟩⟩⟩⟩⟩<;>simp at h
 exact⟨_,_,_,_,_,_,_,_,rfl⟩
theorem uK (k x:List Int) (i:Nat) (l:List Int):(aLr k x i l).length=l.length:=by
 unfold aLr
 split<;>simp
def aI1 (h x k:List Int):List Int:=aU (aFR h) 8 (aU (aLr k x) 64 h)
theorem uL (h x k:List Int):(aI1 h x k).length=h.length:=by rw[aI1,dD (mX h),dD (uK k x)]
attribute [local irreducible] oJ aU
theorem aG9 (z x k:List Int) (w:World) (hh:z.length=8) (hx:x.length=64) (hk:k.length=64):
  Calls Tryz.prog 171 #[.agg (dE z).toArray,.agg (dE x).toArray,.agg (dE k).toArray] w fun e w'=>e=.returned (.agg (dE (aI1 z x k)).toArray)/\Below w.heap.size w w':=by
 go_enter Tryz.func171,Tryz.ntmps171
 go_wp2_with fail
 go_loopw [13] (fun i wr=>∃m:Nat,m<=64/\i=.int .i64 m/\row wr (w.heap.size+1+1+1+1)=(dE (aU (aLr k x) m z)).toArray/\row wr (w.heap.size+1+1+1)=(aH 8 (.int .u32 0)).toArray/\row wr (w.heap.size+1+1)=(dE k).toArray/\row wr (w.heap.size+1)=(dE x).toArray/\row wr w.heap.size=(dE z).toArray/\w.heap.size+1+1+1+1<wr.heap.size/\Below w.heap.size w wr) (fun i _=>64 - (intOf i).toNat)
 case atStart=>
  refine⟨0,by omega,rfl,?_,?_,?_,?_,?_,by simp,eD⟩
  ·rw[aU]
   simp[go_sem]
   obtain⟨a,b,c,d,e,f,g,k,rfl⟩:=aL0 hh
   simp[dE]
  ·simp[go_sem]
  ·simp[go_sem]
  ·simp[go_sem]
  ·simp[go_sem]
 case round=>
  obtain⟨m,hm,rfl,hV,hR,hK,hX,hH,hz,hbel⟩:=hrel
  obtain⟨L,hL⟩:∃L,aU (aLr k x) m z=L:=⟨_,rfl⟩
  have hLl:L.length=8:=by rw[<-hL,dD (uK k x),hh]
  rw[hL]at hV
  have HL:=h_ hL
  clear hL
  by_cases hlt:m<64
  ·have h1:(m:Int)<64:=by omega
   obtain⟨va,vb,vc,vd,ve,vf,vg,vh,hv⟩:=aL0 hLl
   rw[hv]at hV
   have HV:=h_ hv
   clear hv hLl
   have hV':row wr (w.heap.size+1+1+1+1)=#[.int .u32 va,.int .u32 vb,.int .u32 vc,.int .u32 vd,.int .u32 ve,.int .u32 vf,.int .u32 vg,.int .u32 vh]:=by rw[hV];simp[dE]
   clear hV
   have kx:m<x.length:=by omega
   have kk:m<k.length:=by omega
   have T1:=h_ (fun w=>aIZ ve w)
   have T2:=h_ (fun w=>aI0 va w)
   go_wp2_with fail
   refine jY [(w.heap.size+1+1+1+1,#[.int .u32 va,.int .u32 vb,.int .u32 vc,.int .u32 vd,.int .u32 ve,.int .u32 vf,.int .u32 vg,.int .u32 vh]),(w.heap.size+1+1,(dE k).toArray),(w.heap.size+1,(dE x).toArray)] (fun hS=>?_)
   refine qp 0 hS ?_
   refine qp 1 hS ?_
   refine qp 2 hS ?_
   refine qp 3 hS ?_
   refine qc 4 (v:=?_) hS ?_ ?_
   rotate_left
   ·intro w' hS'
    simp only[Rws]at hS'
    go_simp
    with_reducible refine(T1.out _).mono ?_
    rintro e w'' ⟨rfl,hb⟩
    exact⟨_,rfl,by rfl,hb⟩
   refine qp 5 hS ?_
   refine qp 6 hS ?_
   refine qp 7 hS ?_
   refine qp 8 hS ?_
   refine qp 9 hS ?_
   refine qp 10 hS ?_
   refine qp 11 hS ?_
   refine qp 12 hS ?_
   refine qp 13 hS ?_
   refine qp 14 hS ?_
   refine qp 15 hS ?_
   refine qp 16 hS ?_
   refine qp 17 hS ?_
   refine qp 18 hS ?_
   refine qp 19 hS ?_
   refine qp 20 hS ?_
   refine qp 21 hS ?_
   refine qp 22 hS ?_
   refine qp 23 hS ?_
   refine qp 24 hS ?_
   refine qp 25 hS ?_
   refine qp 26 hS ?_
   refine qp 27 hS ?_
   refine aG kr_ (fun w2 b2=>?_) _
   replace b2:Below (wr).heap.size (wr) w2:=aL (Below.drew (Below.refl _ _)) b2
   have z2:=b2.size
   have hV2:=(aA b2 (by omega)).trans hV'
   have hR2:=(aA b2 (by omega)).trans hR
   have hK2:=(aA b2 (by omega)).trans hK
   have hX2:=(aA b2 (by omega)).trans hX
   have hH2:=(aA b2 (by omega)).trans hH
   have hb2:Below w.heap.size w w2:=Below.trans hbel (b2.mono (by omega))
   have hz2:w.heap.size+1+1+1+1<w2.heap.size:=by omega
   obtain⟨T,hT⟩:∃T,tI ve vf vg vh k[m] x[m]=T:=⟨_,rfl⟩
   rw[show IntKind.u32.wrap (IntKind.u32.wrap (IntKind.u32.wrap (IntKind.u32.wrap (vh+oJ ve 26 21 7)+bits .xor .u32 (bits .and .u32 ve vf) (bits .and .u32 (bits .xor .u32 (if IntKind.u32.signed=true then -1 else IntKind.u32.max) ve) vg))+k[m])+x[m])=T from hT]
   have HT:=h_ hT
   clear hT b2 z2 hV' hR hK hX hH hbel T1 hz
   go_wp2_with fail
   refine jY [(w.heap.size+1+1+1+1,#[.int .u32 va,.int .u32 vb,.int .u32 vc,.int .u32 vd,.int .u32 ve,.int .u32 vf,.int .u32 vg,.int .u32 vh])] (fun hS=>?_)
   refine qp 0 hS ?_
   refine qp 1 hS ?_
   refine qc 2 (v:=?_) hS ?_ ?_
   rotate_left
   ·intro w' hS'
    simp only[Rws]at hS'
    go_simp
    with_reducible refine(T2.out _).mono ?_
    rintro e w'' ⟨rfl,hb⟩
    exact⟨_,rfl,by rfl,hb⟩
   refine qp 3 hS ?_
   refine qp 4 hS ?_
   refine qp 5 hS ?_
   refine qp 6 hS ?_
   refine qp 7 hS ?_
   refine qp 8 hS ?_
   refine qp 9 hS ?_
   refine qp 10 hS ?_
   refine qp 11 hS ?_
   refine qp 12 hS ?_
   refine qp 13 hS ?_
   refine qp 14 hS ?_
   refine qp 15 hS ?_
   refine qp 16 hS ?_
   refine qp 17 hS ?_
   refine qp 18 hS ?_
   refine qp 19 hS ?_
   refine qp 20 hS ?_
   refine qp 21 hS ?_
   refine aG kr_ (fun w3 b3=>?_) _
   replace b3:Below (w2).heap.size (w2) w3:=aL (Below.drew (Below.refl _ _)) b3
   have z3:=b3.size
   have hV3:=(aA b3 (by omega)).trans hV2
   have hR3:=(aA b3 (by omega)).trans hR2
   have hK3:=(aA b3 (by omega)).trans hK2
   have hX3:=(aA b3 (by omega)).trans hX2
   have hH3:=(aA b3 (by omega)).trans hH2
   have hb3:Below w.heap.size w w3:=Below.trans hb2 (b3.mono (by omega))
   have hz3:w.heap.size+1+1+1+1<w3.heap.size:=by omega
   obtain⟨U,hU⟩:∃U,uI va vb vc=U:=⟨_,rfl⟩
   rw[show IntKind.u32.wrap (oJ va 30 19 10+bits .xor .u32 (bits .xor .u32 (bits .and .u32 va vb) (bits .and .u32 va vc)) (bits .and .u32 vb vc))=U from hU]
   have HU:=h_ hU
   clear hU b3 z3 hV2 hR2 hK2 hX2 hH2 hb2 T2 hz2
   go_wp2_with fail
   refine jY [] (fun hS=>?_)
   refine qp 0 hS ?_
   refine qp 1 hS ?_
   refine aCW (i:=2) (elem:=81) (cur:=#[.int .u32 va,.int .u32 vb,.int .u32 vc,.int .u32 vd,.int .u32 ve,.int .u32 vf,.int .u32 vg,.int .u32 vh]) (b:=w.heap.size+1+1+1+1) cD rfl rfl kr_ rfl rfl rfl rfl [.int .u32 va,.int .u32 vb,.int .u32 vc,.int .u32 vd,.int .u32 ve,.int .u32 vf,.int .u32 vg] hV3 ?_ ?_ ?_ ?_ ?_ ?_
   ·rfl
   ·intro j v hj
    have hj7:j<7:=by
     rcases Nat.lt_or_ge j 7 with q | q
     ·exact q
     ·rw[List.getElem?_eq_none (by simpa using q)]at hj;cases hj
    rcases j with _ | _ | _ | _ | _ | _ | _ | j
    ·exact hj
    ·exact hj
    ·exact hj
    ·exact hj
    ·exact hj
    ·exact hj
    ·exact hj
    ·omega
   ·simp
   ·simp
   ·simp[Value.oneCell']
   intro w4 b4 r4
   rw[show eO #[Value.int .u32 va,.int .u32 vb,.int .u32 vc,.int .u32 vd,.int .u32 ve,.int .u32 vf,.int .u32 vg,.int .u32 vh] 1 [Value.int .u32 va,.int .u32 vb,.int .u32 vc,.int .u32 vd,.int .u32 ve,.int .u32 vf,.int .u32 vg].toArray=#[Value.int .u32 va,.int .u32 va,.int .u32 vb,.int .u32 vc,.int .u32 vd,.int .u32 ve,.int .u32 vf,.int .u32 vg]from rfl]
   (try simp only[Act.put,List.setIfInBounds_toArray,List.set_cons_zero,List.set_cons_succ])
   refine aG kr_ (fun w5 b5=>?_) _
   have z4:=b4.size
   have z5:=b5.size
   rw[setRow_size]at z5
   have zd:w3.drew.heap.size=w3.heap.size:=rfl
   have hV5:row w5 (w.heap.size+1+1+1+1)=#[.int .u32 va,.int .u32 va,.int .u32 vb,.int .u32 vc,.int .u32 vd,.int .u32 ve,.int .u32 vf,.int .u32 vg]:=by
    rw[aA b5 (by rw[setRow_size];omega)]
    exact aB (by rw[r4];simp) (by rw[r4];rfl)
   have keep:∀g,g<w.heap.size+1+1+1+1->row w5 g=row w3 g:=fun g hg=>by
    rw[aA b5 (by rw[setRow_size];omega),aC _ _ _ (by omega),aA b4 (by omega)]
    rfl
   have hR5:=(keep _ (by omega)).trans hR3
   have hK5:=(keep _ (by omega)).trans hK3
   have hX5:=(keep _ (by omega)).trans hX3
   have hH5:=(keep _ (by omega)).trans hH3
   have hb5:Below w.heap.size w w5:=Below.trans (Below.setRow (Below.trans (Below.drew hb3) (b4.mono (by omega))) (by omega) _) (b5.mono (by rw[setRow_size];omega))
   have hz5:w.heap.size+1+1+1+1<w5.heap.size:=by omega
   clear keep b5 b4 r4 hV3 hR3 hK3 hX3 hH3 hb3 hz3 z4 z5 zd hS
   go_wp2_with fail
   go_roundw
   case rel=>
    refine⟨m+1,by omega,rfl,?_,by(try show row (World.setRow _ _ _) _=_);rw[aC _ _ _ (by omega)];exact hR5,by(try show row (World.setRow _ _ _) _=_);rw[aC _ _ _ (by omega)];exact hK5,by(try show row (World.setRow _ _ _) _=_);rw[aC _ _ _ (by omega)];exact hX5,by(try show row (World.setRow _ _ _) _=_);rw[aC _ _ _ (by omega)];exact hH5,by simp;omega,Below.setRow hb5 (by omega) _⟩
    rw[aU,HL.out,HV.out,aLr,cC _ _ _ kk,cC _ _ _ kx,HT.out,HU.out]
    rw[aB (by rw[hV5];simp) (by rw[hV5];simp)]
    simp[dE]
   case measure=>simp[intOf];omega
  ·obtain rfl:m=64:=by omega
   rw[show((64:Nat):Int)=64 from rfl]
   have H1:=HL
   have l1:=hLl
   clear HL hLl hlt hm
   go_wp2_with fail
   go_loopw [77] (fun i wq=>∃m:Nat,m<=8/\i=.int .i64 m/\row wq (w.heap.size+1+1+1+1)=(dE (aU (aFR z) m L)).toArray/\row wq (w.heap.size+1+1+1)=(aH 8 (.int .u32 0)).toArray/\row wq w.heap.size=(dE z).toArray/\w.heap.size+1+1+1+1<wq.heap.size/\Below w.heap.size w wq) (fun i _=>8 - (intOf i).toNat)
   case atStart=>
    refine⟨0,by omega,rfl,?_,hR,hH,hz,hbel⟩
    rw[aU];exact hV
   case round=>
    clear hR hK hX hH hz hbel hV
    obtain⟨m,hm,rfl,hV,hR,hH,hz,hbel⟩:=hrel
    obtain⟨M,hM⟩:∃M,aU (aFR z) m L=M:=⟨_,rfl⟩
    have hMl:M.length=8:=by rw[<-hM,dD (mX z),l1]
    rw[hM]at hV
    have HM:=h_ hM
    clear hM
    by_cases hlt:m<8
    ·have h1:(m:Int)<8:=by omega
     have k1:m<M.length:=by omega
     have k2:m<z.length:=by omega
     go_wp2_with fail
     go_region
     go_wp2_with fail
     go_roundw
     case rel=>
      have e:aU (aFR z) (m+1) L=M.set m ((M[m]+z[m])%4294967296):=by
       rw[aU,HM.out,aFR,cC _ _ _ k1,cC _ _ _ k2]
      refine⟨m+1,by omega,rfl,?_,by(try show row (World.setRow _ _ _) _=_);rw[aC _ _ _ (by omega)];exact hR,by(try show row (World.setRow _ _ _) _=_);rw[aC _ _ _ (by omega)];exact hH,by simp;omega,Below.drew (Below.setRow hbel (by omega) _)⟩
      rw[e]
      exact aB (by rw[hV];simp;omega) (by rw[hV];simp)
     case measure=>simp[intOf];omega
    ·obtain rfl:m=8:=by omega
     rw[show((8:Nat):Int)=8 from rfl]
     have e:M=aI1 z x k:=by rw[aI1,H1.out];exact HM.out.symm
     rw[e]at hV hMl
     go_wp2_with fail
     have hfin:=aB (w:=wr) (g:=w.heap.size+1+1+1) (c:=(dE (aI1 z x k)).toArray) (by rw[hR];simp) (by rw[hR];simp[hMl])
     (try simp only[Exit.inBlock,Exit.then])
     refine bodyPost_ret (aV rfl (aK rfl ?_)) rfl ?_
     ·rw[hfin]
      simp[hMl]
     refine⟨by rw[hfin],?_⟩
     exact Below.setRow hbel (by omega) _
end
section
open Go.RowKit
theorem Own.form {w:World} {B e:Nat} {v:Value} {l:List Value} (h:Own w B e v l):
  ∃p c,v=.slice p l.length c/\(0<l.length->∃g s,p=some ⟨g,0,none⟩/\B<=g/\g<w.heap.size/\row w g=(l++s).toArray):=by
 by_cases h0:l=[]
 ·obtain⟨hl,⟨rfl,h1⟩ | ⟨g,cap,cur,rfl,h2⟩⟩:=h
  ·exact⟨none,0,by rw[h0];rfl,fun h=>by rw[h0]at h;simp at h⟩
  ·exact⟨_,_,rfl,fun h=>by rw[h0]at h;simp at h⟩
 ·obtain⟨g,sp,hv,h1,h2,s,_,h3⟩:=h.cells h0
  exact⟨_,_,hv,fun _=>⟨g,s,rfl,h1,h2,h3⟩⟩
def pT (x:Nat) (l:List Nat):Bool:=l.all fun p=>x%p !=0
def pF (i:Nat) (l:List Nat):List Nat:=if pT (i+2) l then l++[i+2]else l
def pL (m:Nat):List Nat:=aU pF m []
theorem aKz:pL 0=[]:=rfl
theorem aAl (m:Nat):pL (m+1)=if pT (m+2) (pL m)then pL m++[m+2]else pL m:=rfl
theorem aHa (m:Nat):∀p∈pL m,2<=p/\p<m+2:=by
 induction m with
 | zero=>intro p hp;cases hp
 | succ m ih=>
  intro p hp
  rw[aAl]at hp
  split at hp
  ·rcases List.mem_append.1 hp with h | h
   ·have:=ih p h;omega
   ·simp at h;omega
  ·have:=ih p hp;omega
theorem aKA (m:Nat):(pL m).length<=(pL (m+1)).length:=by
 rw[aAl]
 split
 ·simp
 ·exact Nat.le_refl _
theorem aD4 (m k:Nat):(pL m).length<=(pL (m+k)).length:=by
 induction k with
 | zero=>exact Nat.le_refl _
 | succ k ih=>exact Nat.le_trans ih (aKA _)
theorem aL1 (m:Nat):(pL m).length<=m:=by
 induction m with
 | zero=>exact Nat.le_refl _
 | succ m ih=>
  rw[aAl]
  split
  ·simp;omega
  ·omega
theorem aI2 (X q:Nat):((X:Int)%(q:Int) !=0)=(X%q !=0):=by
 rw[Bool.eq_iff_iff]
 simp only[bne_iff_ne,ne_eq]
 rw[<-Int.natCast_emod]
 omega
theorem aKB (x:Nat) (l:List Nat) (j:Nat) (h:j<l.length):pT x (l.take (j+1))=(pT x (l.take j)&&(x%l[j] !=0)):=by
 unfold pT
 rw[List.take_succ_eq_append_getElem h,List.all_append]
 simp
attribute [local irreducible] pL pT aU
theorem xY (N E:Nat) (w:World) (hN:N<=100) (hE:E<=1000) (h0:∀m,m<E->(pL m).length<N) (h1:(pL E).length=N):
  Calls Tryz.prog 191 #[.int .i64 N] w fun e w'=>∃v,e=.returned v/\Own w' w.heap.size 3 v (t8 (pL E))/\Below w.heap.size w w':=by
 have H0:=h_ h0
 have H1:=h_ h1
 have jN:(N:Int)<=100:=by omega
 have jN0:¬(N:Int)<0:=by omega
 have jN1:¬(100:Int)<(N:Int):=by omega
 clear h0 h1
 go_enter Tryz.func191,Tryz.ntmps191
 go_wp2_with fail
 go_loopw [3,4] (fun v x wr=>∃m:Nat,m<=E/\x=.int .i64 ((m+2:Nat):Int)/\Own wr w.heap.size 3 v (t8 (pL m))/\Below w.heap.size w wr) (fun _ x _=>E+2 - (intOf x).toNat)
 case atStart=>exact⟨0,by omega,rfl,by rw[aKz];exact Own.nil,Below.refl _ _⟩
 case round=>
  obtain⟨m,hm,rfl,hown,hbel⟩:=hrel
  have hsz:=hbel.size
  have hlen:=aL1 m
  have hmem:=aHa m
  have hN2:(pL m).length=N∨m<E:=by
   rcases Nat.lt_or_ge m E with h | h
   ·exact .inr h
   ·obtain rfl:m=E:=by omega
    exact .inl H1.out
  have hsucc:=h_ (aAl m)
  have hT0:pT (m+2) ((pL m).take 0)=true:=by unfold pT;rfl
  have hTs:=aKB (m+2) (pL m)
  have hTn:pT (m+2) ((pL m).take (pL m).length)=pT (m+2) (pL m):=by rw[List.take_length]
  have hE1:=h_ (show m=E∨m<E by omega)
  have H0m:=h_ (fun h=>H0.out m h)
  obtain⟨l,hl⟩:∃l,pL m=l:=⟨_,rfl⟩
  rw[hl]at hown hlen hmem hN2 hsucc hTs hTn H0m
  rw[hl]at hT0
  have HL:=h_ hl
  clear hl
  obtain⟨X,hX⟩:∃X,m+2=X:=⟨_,rfl⟩
  rw[hX]at hmem hsucc hT0 hTs hTn ⊢
  have HX:=h_ hX
  obtain⟨p,c,rfl,hp⟩:=hown.form
  rw[jS]at hp hown ⊢
  have hmI:(X:Int)<=1002:=by omega
  have hlI:(l.length:Int)<=1000:=by omega
  have HN2:=h_ hN2
  have HTs:=h_ hTs
  have HTn:=h_ hTn
  have Hm:=h_ hmem
  clear hN2 hTs hTn hmem hX
  by_cases hlt:l.length<N
  ·have j1:(l.length:Int)<N:=by omega
   have hme:m<E:=by
    rcases HN2.out with h | h
    ·omega
    ·exact h
   go_wp2_with fail
   go_loopw [5,22] (fun b i wq=>∃j:Nat,j<=l.length/\b=.bool (pT X (l.take j))/\i=.int .i64 j/\wq=wr) (fun _ i _=>l.length - (intOf i).toNat)
   case atStart=>exact⟨0,by omega,by rw[hT0],rfl,rfl⟩
   case round=>
    obtain⟨j,hj,rfl,rfl,rfl⟩:=hrel
    obtain⟨b,hb⟩:∃b,pT X (l.take j)=b:=⟨_,rfl⟩
    rw[hb]
    have HB:=h_ hb
    clear hb
    by_cases hjl:j<l.length
    ·have j2:(j:Int)<l.length:=by omega
     obtain⟨g,s,rfl,hg1,hg2,hr⟩:=hp (by omega)
     obtain⟨q,hq⟩:∃q,l[j]=q:=⟨_,rfl⟩
     have hq2:=Hm.out q (by rw[<-hq];exact List.getElem_mem _)
     have ux:j<l.length+s.length:=by omega
     have tx:(t8 l++s)[j]'(by simp;omega)=.int .i64 (q:Int):=by rw[List.getElem_append_left (by simpa using hjl),aAb,hq]
     have hq0:¬(q:Int)=0:=by omega
     have HQ:=h_ hq
     have hTj:=HTs.out j hjl
     rw[HB.out]at hTj
     have e3:((X:Int)%(q:Int) !=0)=(X%l[j] !=0):=by rw[hq];exact aI2 X q
     have HTj:=h_ hTj
     have E3:=h_ e3
     clear hq hTj e3
     cases b
     ·go_wp2_with fail
      go_roundw
      case rel=>exact⟨j+1,by omega,by rw[HTj.out];rfl,by push_cast;rfl,trivial⟩
      case measure=>simp[intOf];omega
     ·go_wp2_with fail
      go_roundw
      case rel=>exact⟨j+1,by omega,by rw[HTj.out,E3.out];rfl,by push_cast;rfl,trivial⟩
      case measure=>simp[intOf];omega
    ·have hjl2:j=l.length:=by omega
     have hbb:pT X l=b:=by rw[<-HTn.out,<-hjl2];exact HB.out
     have j2:¬(j:Int)<l.length:=by omega
     have hX1:IntKind.i64.wrap ((X:Int)+1)=((X+1:Nat):Int):=aAc _ _ (by omega) (by omega)
     have hnx:pL (m+1)=if b then l++[X]else l:=by rw[hsucc.out,hbb]
     have HNX:=h_ hnx
     clear hnx hbb
     cases b
     ·go_wp2_with fail
      go_roundw
      case rel=>exact⟨m+1,by omega,by have:=HX.out;subst this;push_cast;rfl,by rw[HNX.out,if_neg (by decide)];exact hown,hbel⟩
      case measure=>have:=HX.out;simp[intOf];omega
     ·have hl1:(t8 l).length+1<=1000000:=by rw[jS];omega
      go_wp2_with (at_builtin;refine vZ rfl rfl inferInstance w.heap.size _ (t8 l) rfl hown _ rfl rfl hl1 hsz ?_)
      intro v' w2 o2 b2
      go_wp2_with fail
      go_roundw
      case rel=>exact⟨m+1,by omega,by have:=HX.out;subst this;push_cast;rfl,by rw[HNX.out];simp only[if_true,aCL];exact o2,hbel.trans b2⟩
      case measure=>have:=HX.out;simp[intOf];omega
  ·have j1:¬(l.length:Int)<N:=by omega
   have hmE:m=E:=by
    rcases hE1.out with h | h
    ·exact h
    ·exact absurd (H0m.out h) hlt
   go_wp2_with fail
   go_ret
   exact⟨_,rfl,by rw[<-hmE,HL.out];exact hown,hbel⟩
end
section
open Go.RowKit
theorem aCX (x y:Nat):((x:Int)==(y:Int))=(x==y):=by
 rw[Bool.eq_iff_iff]
 simp only[beq_iff_eq]
 omega
theorem aD5 (x:Nat):((x:Int)==0)=(x==0):=aCX x 0
def pI (n x:Nat):Bool:=decide (x*x / 18446744073709551616<n)||(x*x / 18446744073709551616==n&&x*x%18446744073709551616==0)
theorem aL2 (a n:Nat) (b:Bool):(a<n/\((a:Int)<n)/\(decide (a<n)||(a==n&&b))=true)∨(¬a<n/\¬((a:Int)<n)/\((a:Int)==(n:Int))=true/\a=n/\(decide (a<n)||(a==n&&b))=b)∨(¬a<n/\¬((a:Int)<n)/\((a:Int)==(n:Int))=false/\(decide (a<n)||(a==n&&b))=false):=by
 rcases Nat.lt_trichotomy a n with h | h | h
 ·exact .inl ⟨h,by omega,by simp[h]⟩
 ·refine .inr (.inl ⟨by omega,by omega,?_,h,?_⟩)
  ·rw[aCX];simp[h]
  ·simp[h]
 ·refine .inr (.inr ⟨by omega,by omega,?_,?_⟩)
  ·rw[aCX];simp;omega
  ·have h1:¬a<n:=by omega
   have h2:(a==n)=false:=by simp;omega
   simp[h1,h2]
theorem aHb (n x A B:Nat) (w:World) (hx:x<274877906944) (hn:n<=1000) (hA:row w A=#[.int .i64 2]) (hB:row w B=#[.int .i64 n]):
  Calls Tryz.prog 230 #[.int .u64 x,.pointer (some ⟨A,0,none⟩),.pointer (some ⟨B,0,none⟩)] w fun e w'=>e=.returned (.bool (pI n x))/\w'=w:=by
 have hmul:=fun w=>Tryz.bits_Mul64 x x (by omega) (by omega) w
 have jn:(n:Int)<=1000:=by omega
 unfold pI
 obtain⟨hi,hhi⟩:∃p,x*x / 18446744073709551616=p:=⟨_,rfl⟩
 obtain⟨lo,hlo⟩:∃p,x*x%18446744073709551616=p:=⟨_,rfl⟩
 simp only[hhi,hlo]at hmul ⊢
 have HM:=h_ hmul
 clear hmul hhi hlo
 obtain⟨b,hb⟩:∃b,(lo==0)=b:=⟨_,rfl⟩
 have hb':((lo:Int)==0)=b:=by rw[aD5];exact hb
 rw[hb]
 clear hb
 have hc:=aL2 hi n b
 obtain⟨R,hR⟩:∃R,(decide (hi<n)||(hi==n&&b))=R:=⟨_,rfl⟩
 rw[hR]at hc ⊢
 have HC:=h_ hc
 clear hR hc
 go_enter Tryz.func230,Tryz.ntmps230
 go_wp2_with fail
 (with_reducible refine(HM.out _).mono ?_)
 rintro e w1 ⟨rfl,rfl⟩
 clear HM
 rcases HC.out with ⟨c1,c2,rfl⟩ | ⟨c1,c2,c3,c4,rfl⟩ | ⟨c1,c2,c3,rfl⟩
 ·clear HC
  go_wp2_with fail
  go_ret
  exact⟨rfl,rfl⟩
 ·clear HC c4
  cases R
  ·go_wp2_with fail
   go_ret
   exact⟨rfl,rfl⟩
  ·go_wp2_with fail
   go_ret
   exact⟨rfl,rfl⟩
 ·clear HC
  go_wp2_with fail
  go_ret
  exact⟨rfl,rfl⟩
theorem aNq (c d t:Nat) (h:(c+d)%18446744073709551616=t):((c:Int)+(d:Int))%18446744073709551616=(t:Int):=by omega
theorem aKC (a n:Int) (b:Bool):(a<n/\(decide (a<n)||(a==n&&b))=true)∨(¬a<n/\a=n/\(a==n)=true/\(decide (a<n)||(a==n&&b))=b)∨(¬a<n/\(a==n)=false/\(decide (a<n)||(a==n&&b))=false):=by
 rcases Int.lt_trichotomy a n with h | h | h
 ·exact .inl ⟨h,by simp[h]⟩
 ·exact .inr (.inl ⟨by omega,h,by simp[h],by simp[h]⟩)
 ·refine .inr (.inr ⟨by omega,by simp;omega,?_⟩)
  have h1:¬a<n:=by omega
  have h2:(a==n)=false:=by simp;omega
  simp[h1,h2]
def aHc (top mid:Nat):Int:=bits .or .u64 (IntKind.u64.wrap ((top:Int)*4294967296)) ((mid:Int) / 4294967296)
def pJ (n x:Nat):Bool:=
 let hi:=x*x / 18446744073709551616
 let lo:=x*x%18446744073709551616
 let s:=lo*x / 18446744073709551616+hi*x%18446744073709551616
 let top:=(hi*x / 18446744073709551616+s / 18446744073709551616)%18446744073709551616
 let mid:=s%18446744073709551616
 decide (aHc top mid<(n:Int))||(aHc top mid==(n:Int)&&((IntKind.u64.wrap ((mid:Int)*4294967296)==0)&&(lo*x%18446744073709551616==0)))
theorem aHd (n x A B:Nat) (w:World) (hx:x<274877906944) (hn:n<=1000) (hA:row w A=#[.int .i64 3]) (hB:row w B=#[.int .i64 n]):
  Calls Tryz.prog 230 #[.int .u64 x,.pointer (some ⟨A,0,none⟩),.pointer (some ⟨B,0,none⟩)] w fun e w'=>e=.returned (.bool (pJ n x))/\w'=w:=by
 have jn:(n:Int)<=1000:=by omega
 have m1:=fun w=>Tryz.bits_Mul64 x x (by omega) (by omega) w
 obtain⟨hi,hhi⟩:∃p,x*x / 18446744073709551616=p:=⟨_,rfl⟩
 obtain⟨lo,hlo⟩:∃p,x*x%18446744073709551616=p:=⟨_,rfl⟩
 have lhi:hi<18446744073709551616:=by
  rw[<-hhi]
  have:=Nat.mul_lt_mul'' hx hx
  omega
 have llo:lo<18446744073709551616:=by rw[<-hlo];exact Nat.mod_lt _ (by decide)
 have m2:=fun w=>Tryz.bits_Mul64 lo x llo (by omega) w
 have m3:=fun w=>Tryz.bits_Mul64 hi x lhi (by omega) w
 unfold pJ
 simp only[hhi,hlo]at m1 ⊢
 obtain⟨a,ha⟩:∃p,lo*x / 18446744073709551616=p:=⟨_,rfl⟩
 obtain⟨b,hb⟩:∃p,lo*x%18446744073709551616=p:=⟨_,rfl⟩
 obtain⟨c,hc⟩:∃p,hi*x / 18446744073709551616=p:=⟨_,rfl⟩
 obtain⟨d,hd⟩:∃p,hi*x%18446744073709551616=p:=⟨_,rfl⟩
 simp only[ha,hb]at m2 ⊢
 simp only[hc,hd]at m3 ⊢
 have m4:=fun w=>pH a d w
 obtain⟨mid,hmid⟩:∃p,(a+d)%18446744073709551616=p:=⟨_,rfl⟩
 obtain⟨car,hcar⟩:∃p,(a+d) / 18446744073709551616=p:=⟨_,rfl⟩
 simp only[hmid,hcar]at m4 ⊢
 obtain⟨top,htop⟩:∃p,(c+car)%18446744073709551616=p:=⟨_,rfl⟩
 simp only[htop]at ⊢
 have hT:IntKind.u64.wrap ((c:Int)+(car:Int))=(top:Int):=by rw[IntKind.wrap_u64];exact aNq _ _ _ htop
 have M1:=h_ m1
 have M2:=h_ m2
 have M3:=h_ m3
 clear m1 m2 m3 hhi hlo ha hb hc hd hmid hcar htop lhi llo
 unfold aHc
 obtain⟨b0,hb0⟩:∃q,(b==0)=q:=⟨_,rfl⟩
 have hb0':((b:Int)==0)=b0:=by rw[aD5];exact hb0
 obtain⟨b1,hb1⟩:∃q,(IntKind.u64.wrap ((mid:Int)*4294967296)==0)=q:=⟨_,rfl⟩
 rw[hb0,hb1]
 clear hb0
 obtain⟨W,hW⟩:∃W,bits .or .u64 (IntKind.u64.wrap ((top:Int)*4294967296)) ((mid:Int) / 4294967296)=W:=⟨_,rfl⟩
 rw[hW]
 have hcs:=aKC W n (b1&&b0)
 obtain⟨R,hR⟩:∃R,(decide (W<(n:Int))||(W==(n:Int)&&(b1&&b0)))=R:=⟨_,rfl⟩
 rw[hR]at hcs ⊢
 have HC:=h_ hcs
 clear hR hcs
 go_enter Tryz.func230,Tryz.ntmps230
 go_wp2_with fail
 (with_reducible refine(M1.out _).mono ?_)
 rintro e w1 ⟨rfl,rfl⟩
 clear M1
 go_wp2_with fail
 (with_reducible refine(M2.out _).mono ?_)
 rintro e w1 ⟨rfl,rfl⟩
 clear M2
 go_wp2_with fail
 (with_reducible refine(M3.out _).mono ?_)
 rintro e w1 ⟨rfl,rfl⟩
 clear M3
 rcases HC.out with ⟨c1,rfl⟩ | ⟨c1,c4,c3,rfl⟩ | ⟨c1,c3,rfl⟩
 ·clear HC
  go_wp2_with fail
  go_ret
  exact⟨rfl,rfl⟩
 ·clear HC c4
  have c5:decide (W<(n:Int))=false:=decide_eq_false (Int.not_lt.2 c1)
  cases b1
  ·go_wp2_with fail
   go_ret
   exact⟨rfl,rfl⟩
  ·cases b0
   ·go_wp2_with fail
    go_ret
    exact⟨rfl,rfl⟩
   ·go_wp2_with fail
    go_ret
    exact⟨rfl,rfl⟩
 ·clear HC
  have c5:decide (W<(n:Int))=false:=decide_eq_false (Int.not_lt.2 c1)
  go_wp2_with fail
  go_ret
  exact⟨rfl,rfl⟩
end
section
open Go.RowKit
theorem uM (power n:Int) (w:World):
  Calls Tryz.prog 215 #[.int .i64 power,.int .i64 n] w fun e w'=>e=.returned (.func (.func 230) #[] #[.pointer (some ⟨w.heap.size,0,none⟩),.pointer (some ⟨w.heap.size+1,0,none⟩)])/\row w' w.heap.size=#[.int .i64 power]/\row w' (w.heap.size+1)=#[.int .i64 n]/\w.heap.size+1<w'.heap.size/\Below w.heap.size w w':=by
 go_enter Tryz.func215,Tryz.ntmps215
 go_wp2_with fail
 go_ret
 exact⟨rfl,by simp[go_sem],by simp[go_sem],by simp,eD⟩
def rS (f:Nat->Bool) (i x:Nat):Nat:=if f (x+2^(37 - i))then x+2^(37 - i)else x
def rX (f:Nat->Bool) (i:Nat):Nat:=aU (rS f) i 0
theorem aCY (f:Nat->Bool):rX f 0=0:=rfl
theorem aCZ (f:Nat->Bool) (i:Nat):rX f (i+1)=if f (rX f i+2^(37 - i))then rX f i+2^(37 - i)else rX f i:=rfl
theorem aL3 (f:Nat->Bool) (i:Nat) (h:i<=38):rX f i+2^(38 - i)<=274877906944/\rX f i%2^(38 - i)=0:=by
 induction i with
 | zero=>rw[aCY];exact⟨by decide,by decide⟩
 | succ i ih=>
  obtain⟨h1,h2⟩:=ih (by omega)
  have e:38 - i=(37 - i)+1:=by omega
  rw[e,Nat.pow_succ]at h1 h2
  have e2:38 - (i+1)=37 - i:=by omega
  rw[aCZ,e2]
  obtain⟨p,hp⟩:∃p,2^(37 - i)=p:=⟨_,rfl⟩
  rw[hp]at h1 h2 ⊢
  have h3:rX f i%p=0:=by
   have hd:p ∣ rX f i:=Nat.dvd_trans (Nat.dvd_mul_right p 2) (Nat.dvd_of_mod_eq_zero h2)
   exact Nat.mod_eq_zero_of_dvd hd
  split
  ·exact⟨by omega,by rw[Nat.add_mod,h3];simp⟩
  ·exact⟨by omega,h3⟩
theorem aBJ (n:Int) (h₀:0<=n) (h₁:n<2^63):IntKind.u64.wrap n=n:=by rw[IntKind.wrap_u64];omega
theorem aD6 (x:Nat):IntKind.u32.wrap (x:Int)=((x%4294967296:Nat):Int):=by rw[IntKind.wrap_u32];omega
theorem aJO (x c:Nat) (h1:x+2^c*2<=274877906944) (h2:x%(2^c*2)=0):bits .or .u64 (x:Int) (IntKind.u64.wrap (2^c))=((x+2^c:Nat):Int):=by
 obtain⟨p,hp2⟩:∃p,2^c=p:=⟨_,rfl⟩
 have hpos:0<p:=by rw[<-hp2];exact Nat.two_pow_pos c
 have hp:(2:Int)^c=(p:Int):=by rw[<-hp2];push_cast;rfl
 have e2:(2:Int)^(c+1)=((p*2:Nat):Int):=by rw[Int.pow_succ,hp];push_cast;rfl
 rw[hp2]at h1 h2 ⊢
 have h3:(x:Int)%2^(c+1)=0:=by rw[e2];exact_mod_cast h2
 have h4:(p:Int)<2^(c+1):=by rw[e2];push_cast;omega
 clear h2 e2
 have hw:IntKind.u64.wrap (p:Int)=(p:Int):=aBJ _ (by omega) (by omega)
 rw[hp,hw,bits_join .u64 63 (by decide) aBJ (c+1) (x:Int) (p:Int) (by omega) h3 (by omega) (by omega) h4 (by omega)]
 push_cast
 rfl
def oK (f:Nat->Bool):Int:=((rX f 38%4294967296:Nat):Int)
theorem aHe (n:Nat) (w:World) (hn:n<=1000):
  Calls Tryz.prog 192 #[.int .i64 n,.int .i64 2] w fun e w'=>e=.returned (.int .u32 (oK (pI n)))/\Below w.heap.size w w':=by
 have jn:(n:Int)<=1000:=by omega
 have jn0:¬(n:Int)<0:=by omega
 have jn1:¬(1000:Int)<(n:Int):=by omega
 go_enter Tryz.func192,Tryz.ntmps192
 go_wp2_with fail
 refine(uM _ _ _).mono ?_
 rintro e w1 ⟨rfl,rA,rB,z1,b1⟩
 go_wp2_with fail
 go_loopw [6,7] (fun x b wr=>∃i:Nat,i<=38/\x=.int .u64 (rX (pI n) i)/\b=.int .i64 (37 - (i:Int))/\wr=w1) (fun _ b _=>(intOf b+1).toNat)
 case atStart=>exact⟨0,by omega,by rw[aCY];rfl,rfl,rfl⟩
 case round=>
  obtain⟨i,hi,rfl,rfl,rfl⟩:=hrel
  obtain⟨h1,h2⟩:=aL3 (pI n) i hi
  have hs:=h_ (aCZ (pI n) i)
  obtain⟨x,hx⟩:∃x,rX (pI n) i=x:=⟨_,rfl⟩
  rw[hx]at h1 h2 hs ⊢
  have HX:=h_ hx
  clear hx
  by_cases hlt:i<38
  ·obtain⟨c,hc⟩:∃c,37 - i=c:=⟨_,rfl⟩
   have e1:(37:Int) - (i:Int)=(c:Int):=by omega
   rw[hc]at hs
   rw[show 38 - i=c+1 by omega,Nat.pow_succ]at h1 h2
   have hc1:(c:Int)<38:=by omega
   have e2:=aJO x c h1 h2
   obtain⟨y,hy⟩:∃y,x+2^c=y:=⟨_,rfl⟩
   rw[hy]at e2 hs
   have hyb:y<274877906944:=by have:=Nat.two_pow_pos c;omega
   have hL:=h_ (aHb n y w.heap.size (w.heap.size+1) wr hyb hn rA rB)
   obtain⟨b,hb⟩:∃b,pI n y=b:=⟨_,rfl⟩
   rw[hb]at hL hs
   have HB:=h_ hb
   have hdec:IntKind.i64.wrap ((c:Int) - 1)=37 - ((i+1:Nat):Int):=by rw[IntKind.wrap_i64];omega
   have HD:=h_ hdec
   have hcI:(37:Int) - ((i+1:Nat):Int)=(c:Int) - 1:=by omega
   have HS:=h_ hs
   have HCI:=h_ hcI
   rw[e1]
   clear hb hs h1 h2 hy hdec hcI hc
   go_wp2_with fail
   (with_reducible refine(hL.out).mono ?_)
   rintro e w2 ⟨rfl,rfl⟩
   clear hL
   cases b
   ·go_wp2_with fail
    go_roundw
    case rel=>exact⟨i+1,by omega,by rw[HS.out];rfl,by rw[HCI.out],trivial⟩
    case measure=>simp[intOf]
   ·go_wp2_with fail
    go_roundw
    case rel=>exact⟨i+1,by omega,by rw[HS.out];rfl,by rw[HCI.out],trivial⟩
    case measure=>simp[intOf]
  ·obtain rfl:i=38:=by omega
   rw[show(37:Int) - ((38:Nat):Int)= -1 by decide]
   have HR:oK (pI n)=((x%4294967296:Nat):Int):=by rw[oK,HX.out]
   have HR2:IntKind.u32.wrap (x:Int)=oK (pI n):=by rw[HR];exact aD6 x
   clear HR h1 h2 hs
   go_wp2_with fail
   go_ret
   exact⟨rfl,b1⟩
theorem aHf (n:Nat) (w:World) (hn:n<=1000):
  Calls Tryz.prog 192 #[.int .i64 n,.int .i64 3] w fun e w'=>e=.returned (.int .u32 (oK (pJ n)))/\Below w.heap.size w w':=by
 have jn:(n:Int)<=1000:=by omega
 have jn0:¬(n:Int)<0:=by omega
 have jn1:¬(1000:Int)<(n:Int):=by omega
 go_enter Tryz.func192,Tryz.ntmps192
 go_wp2_with fail
 refine(uM _ _ _).mono ?_
 rintro e w1 ⟨rfl,rA,rB,z1,b1⟩
 go_wp2_with fail
 go_loopw [6,7] (fun x b wr=>∃i:Nat,i<=38/\x=.int .u64 (rX (pJ n) i)/\b=.int .i64 (37 - (i:Int))/\wr=w1) (fun _ b _=>(intOf b+1).toNat)
 case atStart=>exact⟨0,by omega,by rw[aCY];rfl,rfl,rfl⟩
 case round=>
  obtain⟨i,hi,rfl,rfl,rfl⟩:=hrel
  obtain⟨h1,h2⟩:=aL3 (pJ n) i hi
  have hs:=h_ (aCZ (pJ n) i)
  obtain⟨x,hx⟩:∃x,rX (pJ n) i=x:=⟨_,rfl⟩
  rw[hx]at h1 h2 hs ⊢
  have HX:=h_ hx
  clear hx
  by_cases hlt:i<38
  ·obtain⟨c,hc⟩:∃c,37 - i=c:=⟨_,rfl⟩
   have e1:(37:Int) - (i:Int)=(c:Int):=by omega
   rw[hc]at hs
   rw[show 38 - i=c+1 by omega,Nat.pow_succ]at h1 h2
   have hc1:(c:Int)<38:=by omega
   have e2:=aJO x c h1 h2
   obtain⟨y,hy⟩:∃y,x+2^c=y:=⟨_,rfl⟩
   rw[hy]at e2 hs
   have hyb:y<274877906944:=by have:=Nat.two_pow_pos c;omega
   have hL:=h_ (aHd n y w.heap.size (w.heap.size+1) wr hyb hn rA rB)
   obtain⟨b,hb⟩:∃b,pJ n y=b:=⟨_,rfl⟩
   rw[hb]at hL hs
   have HB:=h_ hb
   have hdec:IntKind.i64.wrap ((c:Int) - 1)=37 - ((i+1:Nat):Int):=by rw[IntKind.wrap_i64];omega
   have HD:=h_ hdec
   have hcI:(37:Int) - ((i+1:Nat):Int)=(c:Int) - 1:=by omega
   have HS:=h_ hs
   have HCI:=h_ hcI
   rw[e1]
   clear hb hs h1 h2 hy hdec hcI hc
   go_wp2_with fail
   (with_reducible refine(hL.out).mono ?_)
   rintro e w2 ⟨rfl,rfl⟩
   clear hL
   cases b
   ·go_wp2_with fail
    go_roundw
    case rel=>exact⟨i+1,by omega,by rw[HS.out];rfl,by rw[HCI.out],trivial⟩
    case measure=>simp[intOf]
   ·go_wp2_with fail
    go_roundw
    case rel=>exact⟨i+1,by omega,by rw[HS.out];rfl,by rw[HCI.out],trivial⟩
    case measure=>simp[intOf]
  ·obtain rfl:i=38:=by omega
   rw[show(37:Int) - ((38:Nat):Int)= -1 by decide]
   have HR:oK (pJ n)=((x%4294967296:Nat):Int):=by rw[oK,HX.out]
   have HR2:IntKind.u32.wrap (x:Int)=oK (pJ n):=by rw[HR];exact aD6 x
   clear HR h1 h2 hs
   go_wp2_with fail
   go_ret
   exact⟨rfl,b1⟩
end
section
open Go.RowKit
def rtF (r:Nat->Int) (ps:List Nat) (i:Nat) (l:List Int):List Int:=l.set i (r (ps.getD i 0))
theorem lZ (r:Nat->Int) (ps:List Nat) (i:Nat) (l:List Int):(rtF r ps i l).length=l.length:=by simp[rtF]
theorem lA:(pL 310).length=64:=by decide+kernel
theorem uN (m:Nat) (h:m<310):(pL m).length<64:=by
 have h1:=aD4 m (309 - m)
 rw[show m+(309 - m)=309 by omega]at h1
 have h2:(pL 309).length<64:=by decide+kernel
 omega
def shconstantsL:List Int:=aU (rtF (fun p=>oK (pJ p)) (pL 310)) 64 (List.replicate 64 0)
theorem iA:shconstantsL.length=64:=by rw[shconstantsL,dD (lZ _ _)];simp
theorem uO (w:World):
  Calls Tryz.prog 168 #[] w fun e w'=>e=.returned (.agg (dE shconstantsL).toArray)/\Below w.heap.size w w':=by
 have HP:=h_ (fun w=>xY 64 310 w (by omega) (by omega) uN lA)
 have hlen:=lA
 have hmem:=aHa 310
 have hkl:=iA
 obtain⟨K,hK⟩:∃K,shconstantsL=K:=⟨_,rfl⟩
 have hK2:aU (rtF (fun p=>oK (pJ p)) (pL 310)) 64 (List.replicate 64 0)=K:=by rw[<-hK];rfl
 rw[hK]at hkl ⊢
 obtain⟨ps,hps⟩:∃ps,pL 310=ps:=⟨_,rfl⟩
 rw[hps]at HP hlen hmem hK2
 obtain⟨r,hr⟩:∃r:Nat->Int,(fun p=>oK (pJ p))=r:=⟨_,rfl⟩
 have hroot:∀(p:Nat) (w:World),p<=1000->Calls Tryz.prog 192 #[.int .i64 p,.int .i64 3] w fun e w'=>e=.returned (.int .u32 (r p))/\Below w.heap.size w w':=fun p w hp=>by
  rw[<-hr]
  exact aHf p w hp
 rw[hr]at hK2
 have HK:=h_ hK2
 have HR:=h_ hroot
 have HM:=h_ hmem
 clear hr hps hK hK2 hroot hmem
 go_enter Tryz.func168,Tryz.ntmps168
 go_wp2_with fail
 refine(HP.out _).mono ?_
 rintro e w1 ⟨v,rfl,own,b1⟩
 have rV1:row w1 (w.heap.size+1)=(aH 64 (.int .u32 0)).toArray:=by rw[aA b1 (by simp)];simp[go_sem]
 have rR1:row w1 w.heap.size=(aH 64 (.int .u32 0)).toArray:=by rw[aA b1 (by simp;omega)];simp[go_sem]
 have hz1:w.heap.size+1<w1.heap.size:=by have:=b1.size;simp at this;omega
 replace b1:=cJ b1 (show Below (w).heap.size w _ from by(repeat (first | exact Below.refl _ _ | refine Below.al ?_ _ | refine Below.drew ?_ | refine Below.sr ?_ _ | refine Below.sc ?_ _))) (by first | (simp;done) | (simp;omega) | omega)
 obtain⟨q,c,rfl,hq⟩:=own.form
 rw[jS,hlen]at hq ⊢
 obtain⟨g,s,rfl,hg1,hg2,hr⟩:=hq (by omega)
 have hgne:w.heap.size+1<g:=by simp at hg1;omega
 clear hq own HP
 go_wp2_with fail
 go_loopw [6] (fun i wr=>∃m:Nat,m<=64/\i=.int .i64 m/\row wr (w.heap.size+1)=(dE (aU (rtF r ps) m (List.replicate 64 0))).toArray/\row wr w.heap.size=(aH 64 (.int .u32 0)).toArray/\row wr g=(t8 ps++s).toArray/\w1.heap.size<=wr.heap.size/\Below w.heap.size w wr) (fun i _=>64 - (intOf i).toNat)
 case atStart=>
  refine⟨0,by omega,rfl,?_,rR1,hr,Nat.le_refl _,b1⟩
  rw[aU,lX]
  exact rV1
 case round=>
  clear rV1 rR1 hr b1
  obtain⟨m,hm,rfl,hV,hR,hr,hz,hbel⟩:=hrel
  obtain⟨L,hL⟩:∃L,aU (rtF r ps) m (List.replicate 64 0)=L:=⟨_,rfl⟩
  have hLl:L.length=64:=by rw[<-hL,dD (lZ _ _)];simp
  rw[hL]at hV
  have HL:=h_ hL
  clear hL
  by_cases hlt:m<64
  ·have h1:(m:Int)<64:=by omega
   have h3:m<L.length:=by omega
   have h4:m<ps.length:=by omega
   obtain⟨x,hx⟩:∃x,ps[m]=x:=⟨_,rfl⟩
   have ux:m<ps.length+s.length:=by omega
   have ux2:m<64+s.length:=by omega
   have tx:(t8 ps++s)[m]'(by simp;omega)=.int .i64 (x:Int):=by rw[List.getElem_append_left (by simpa using h4),aAb,hx]
   have hx2:=HM.out x (by rw[<-hx];exact List.getElem_mem _)
   have HX:=h_ (show ps.getD m 0=x by rw[aGJ _ _ h4];exact hx)
   have hC:=h_ (fun w=>HR.out x w (by omega))
   clear hx hx2
   go_wp2_with fail
   refine(hC.out _).mono ?_
   rintro e w2 ⟨rfl,b2⟩
   have z2:=b2.size
   have hV2:=(aA b2 (by omega)).trans hV
   have hR2:=(aA b2 (by omega)).trans hR
   have hr2:=(aA b2 (by omega)).trans hr
   have hb2:Below w.heap.size w w2:=Below.trans hbel (b2.mono (by omega))
   clear b2 hC
   go_wp2_with fail
   go_roundw
   case rel=>
    refine⟨m+1,by omega,rfl,?_,by(try show row (World.setRow _ _ _) _=_);rw[aC _ _ _ (by omega)];exact hR2,by(try show row (World.setRow _ _ _) _=_);rw[aC _ _ _ (by omega)];exact hr2,by simp;omega,Below.setRow hb2 (by omega) _⟩
    rw[aU,HL.out,rtF,HX.out]
    exact aB (by rw[hV2];simp;omega) (by rw[hV2];simp)
   case measure=>simp[intOf];omega
  ·obtain rfl:m=64:=by omega
   rw[show((64:Nat):Int)=64 from rfl]
   have e:L=K:=by rw[<-HL.out];exact HK.out
   rw[e]at hLl hV
   go_wp2_with fail
   have hfin:=aB (w:=wr) (g:=w.heap.size) (c:=(dE K).toArray) (by rw[hR];simp) (by rw[hR];simp[hLl])
   (try simp only[Exit.inBlock,Exit.then])
   refine bodyPost_ret (aV rfl (aK rfl ?_)) rfl ?_
   ·rw[hfin]
    simp[hLl]
   refine⟨by rw[hfin],?_⟩
   exact Below.setRow hbel (by omega) _
theorem uP:(pL 18).length=8:=by decide+kernel
theorem aC0 (m:Nat) (h:m<18):(pL m).length<8:=by
 have h1:=aD4 m (17 - m)
 rw[show m+(17 - m)=17 by omega]at h1
 have h2:(pL 17).length<8:=by decide+kernel
 omega
def shfirstL:List Int:=aU (rtF (fun p=>oK (pI p)) (pL 18)) 8 (List.replicate 8 0)
theorem lB:shfirstL.length=8:=by rw[shfirstL,dD (lZ _ _)];simp
theorem aC1 (w:World):
  Calls Tryz.prog 169 #[] w fun e w'=>e=.returned (.agg (dE shfirstL).toArray)/\Below w.heap.size w w':=by
 have HP:=h_ (fun w=>xY 8 18 w (by omega) (by omega) aC0 uP)
 have hlen:=uP
 have hmem:=aHa 18
 have hkl:=lB
 obtain⟨K,hK⟩:∃K,shfirstL=K:=⟨_,rfl⟩
 have hK2:aU (rtF (fun p=>oK (pI p)) (pL 18)) 8 (List.replicate 8 0)=K:=by rw[<-hK];rfl
 rw[hK]at hkl ⊢
 obtain⟨ps,hps⟩:∃ps,pL 18=ps:=⟨_,rfl⟩
 rw[hps]at HP hlen hmem hK2
 obtain⟨r,hr⟩:∃r:Nat->Int,(fun p=>oK (pI p))=r:=⟨_,rfl⟩
 have hroot:∀(p:Nat) (w:World),p<=1000->Calls Tryz.prog 192 #[.int .i64 p,.int .i64 2] w fun e w'=>e=.returned (.int .u32 (r p))/\Below w.heap.size w w':=fun p w hp=>by
  rw[<-hr]
  exact aHe p w hp
 rw[hr]at hK2
 have HK:=h_ hK2
 have HR:=h_ hroot
 have HM:=h_ hmem
 clear hr hps hK hK2 hroot hmem
 go_enter Tryz.func169,Tryz.ntmps169
 go_wp2_with fail
 refine(HP.out _).mono ?_
 rintro e w1 ⟨v,rfl,own,b1⟩
 have rV1:row w1 (w.heap.size+1)=(aH 8 (.int .u32 0)).toArray:=by rw[aA b1 (by simp)];simp[go_sem]
 have rR1:row w1 w.heap.size=(aH 8 (.int .u32 0)).toArray:=by rw[aA b1 (by simp;omega)];simp[go_sem]
 have hz1:w.heap.size+1<w1.heap.size:=by have:=b1.size;simp at this;omega
 replace b1:=cJ b1 (show Below (w).heap.size w _ from by(repeat (first | exact Below.refl _ _ | refine Below.al ?_ _ | refine Below.drew ?_ | refine Below.sr ?_ _ | refine Below.sc ?_ _))) (by first | (simp;done) | (simp;omega) | omega)
 obtain⟨q,c,rfl,hq⟩:=own.form
 rw[jS,hlen]at hq ⊢
 obtain⟨g,s,rfl,hg1,hg2,hr⟩:=hq (by omega)
 have hgne:w.heap.size+1<g:=by simp at hg1;omega
 clear hq own HP
 go_wp2_with fail
 go_loopw [6] (fun i wr=>∃m:Nat,m<=8/\i=.int .i64 m/\row wr (w.heap.size+1)=(dE (aU (rtF r ps) m (List.replicate 8 0))).toArray/\row wr w.heap.size=(aH 8 (.int .u32 0)).toArray/\row wr g=(t8 ps++s).toArray/\w1.heap.size<=wr.heap.size/\Below w.heap.size w wr) (fun i _=>8 - (intOf i).toNat)
 case atStart=>
  refine⟨0,by omega,rfl,?_,rR1,hr,Nat.le_refl _,b1⟩
  rw[aU,lX]
  exact rV1
 case round=>
  clear rV1 rR1 hr b1
  obtain⟨m,hm,rfl,hV,hR,hr,hz,hbel⟩:=hrel
  obtain⟨L,hL⟩:∃L,aU (rtF r ps) m (List.replicate 8 0)=L:=⟨_,rfl⟩
  have hLl:L.length=8:=by rw[<-hL,dD (lZ _ _)];simp
  rw[hL]at hV
  have HL:=h_ hL
  clear hL
  by_cases hlt:m<8
  ·have h1:(m:Int)<8:=by omega
   have h3:m<L.length:=by omega
   have h4:m<ps.length:=by omega
   obtain⟨x,hx⟩:∃x,ps[m]=x:=⟨_,rfl⟩
   have ux:m<ps.length+s.length:=by omega
   have ux2:m<8+s.length:=by omega
   have tx:(t8 ps++s)[m]'(by simp;omega)=.int .i64 (x:Int):=by rw[List.getElem_append_left (by simpa using h4),aAb,hx]
   have hx2:=HM.out x (by rw[<-hx];exact List.getElem_mem _)
   have HX:=h_ (show ps.getD m 0=x by rw[aGJ _ _ h4];exact hx)
   have hC:=h_ (fun w=>HR.out x w (by omega))
   clear hx hx2
   go_wp2_with fail
   refine(hC.out _).mono ?_
   rintro e w2 ⟨rfl,b2⟩
   have z2:=b2.size
   have hV2:=(aA b2 (by omega)).trans hV
   have hR2:=(aA b2 (by omega)).trans hR
   have hr2:=(aA b2 (by omega)).trans hr
   have hb2:Below w.heap.size w w2:=Below.trans hbel (b2.mono (by omega))
   clear b2 hC
   go_wp2_with fail
   go_roundw
   case rel=>
    refine⟨m+1,by omega,rfl,?_,by(try show row (World.setRow _ _ _) _=_);rw[aC _ _ _ (by omega)];exact hR2,by(try show row (World.setRow _ _ _) _=_);rw[aC _ _ _ (by omega)];exact hr2,by simp;omega,Below.setRow hb2 (by omega) _⟩
    rw[aU,HL.out,rtF,HX.out]
    exact aB (by rw[hV2];simp;omega) (by rw[hV2];simp)
   case measure=>simp[intOf];omega
  ·obtain rfl:m=8:=by omega
   rw[show((8:Nat):Int)=8 from rfl]
   have e:L=K:=by rw[<-HL.out];exact HK.out
   rw[e]at hLl hV
   go_wp2_with fail
   have hfin:=aB (w:=wr) (g:=w.heap.size) (c:=(dE K).toArray) (by rw[hR];simp) (by rw[hR];simp[hLl])
   (try simp only[Exit.inBlock,Exit.then])
   refine bodyPost_ret (aV rfl (aK rfl ?_)) rfl ?_
   ·rw[hfin]
    simp[hLl]
   refine⟨by rw[hfin],?_⟩
   exact Below.setRow hbel (by omega) _
end
section
open Go.RowKit
def aC2 (n:Nat):Nat:=(120 - (n+1)%64)%64
def aAm (n:Nat) (i:Nat) (l:List UInt8):List UInt8:=l++[iR ((n:Int) / 2^(8*(7 - i)))]
def uQ (s:List UInt8):List UInt8:=aU (aAm (8*s.length)) 8 (s++([128]++List.replicate (aC2 s.length) 0))
theorem aBK (n i:Nat) (l:List UInt8):(aAm n i l).length=l.length+1:=by simp[aAm]
theorem aBL (n:Nat) (l:List UInt8) (i:Nat):(aU (aAm n) i l).length=l.length+i:=by
 induction i with
 | zero=>rfl
 | succ i ih=>rw[aU,aBK,ih];omega
theorem qR (s:List UInt8):(uQ s).length=s.length+9+aC2 s.length:=by
 rw[uQ,aBL]
 simp
 omega
theorem aHg (s:List UInt8):(uQ s).length%64=0:=by
 rw[qR,aC2]
 omega
theorem aI3 (q:Nat) (w:World) (hq:q<64):
  Calls Tryz.prog 193 #[.string ⟨#[0]⟩,.int .i64 q] w fun e w'=>e=.returned (.string ⟨(List.replicate q (0:UInt8)).toArray⟩)/\Below w.heap.size w w':=by
 refine(Tryz.strings_Repeat ⟨#[0]⟩ q w (by omega) (by show 1*q<=_;omega)).mono ?_
 rintro e w' ⟨rfl,h⟩
 refine⟨?_,h⟩
 rw[show(ByteArray.mk #[(0:UInt8)]).data.toList=[0]from rfl,aCT]
attribute [local irreducible] aU
theorem aI4 (s:List UInt8) (w:World) (hs:s.length<=1000000):
  Calls Tryz.prog 170 #[.string ⟨s.toArray⟩] w fun e w'=>e=.returned (.string ⟨(uQ s).toArray⟩)/\Below w.heap.size w w':=by
 have hsI:(s.length:Int)<=1000000:=by omega
 go_enter Tryz.func170,Tryz.ntmps170
 obtain⟨q1,hq1⟩:∃q,(s.length+1)%64=q:=⟨_,rfl⟩
 obtain⟨q,hq⟩:∃q,(120 - q1)%64=q:=⟨_,rfl⟩
 have e1:((s.length:Int)+1)%64=(q1:Int):=by omega
 have e2:(120 - (q1:Int))%64=(q:Int):=by omega
 have e3:(120 - ((s.length:Int)+1))%64=(q:Int):=by omega
 have hpad:aC2 s.length=q:=by rw[aC2,hq1,hq]
 have hq1b:(q1:Int)<64:=by omega
 have hqb:q<64:=by omega
 have HP:=h_ hpad
 clear hpad hq hq1
 go_wp2_with fail
 refine(aI3 q _ (by omega)).mono ?_
 rintro e w1 ⟨rfl,b1⟩
 replace b1:=cJ b1 (show Below (w).heap.size w _ from by(repeat (first | exact Below.refl _ _ | refine Below.al ?_ _ | refine Below.drew ?_ | refine Below.sr ?_ _ | refine Below.sc ?_ _))) (by first | (simp;done) | (simp;omega) | omega)
 obtain⟨n,hn⟩:∃n,8*s.length=n:=⟨_,rfl⟩
 have hnI:(8:Int)*s.length=(n:Int):=by omega
 have hnb:n<=8000000:=by omega
 have HN:=h_ hn
 clear hn
 go_wp2_with fail
 obtain⟨l0,hl0⟩:∃l0,s++([128]++List.replicate q 0)=l0:=⟨_,rfl⟩
 have hl0b:l0.length<=1000065:=by rw[<-hl0];simp;omega
 have hl0':s++128::List.replicate q 0=l0:=hl0
 have hL0:=h_ hl0
 try rw[hl0']
 go_loopw [4,5] (fun v b wr=>∃i:Nat,i<=8/\v=.string ⟨(aU (aAm n) i l0).toArray⟩/\b=.int .i64 (7 - (i:Int))/\Below w.heap.size w wr) (fun _ b _=>(intOf b+1).toNat)
 case atStart=>exact⟨0,by omega,by rw[aU,<-hL0.out];congr 1;apply ByteArray.ext;simp,rfl,b1⟩
 case round=>
  obtain⟨i,hi,rfl,rfl,hbel⟩:=hrel
  have hlen:=aBL n l0 i
  have hsucc:=h_ (show aU (aAm n) (i+1) l0=aU (aAm n) i l0++[iR ((n:Int) / 2^(8*(7 - i)))] by rw[aU,aAm])
  obtain⟨t,ht⟩:∃t,aU (aAm n) i l0=t:=⟨_,rfl⟩
  rw[ht]at hlen hsucc ⊢
  have HT:=h_ ht
  clear ht
  by_cases hlt:i<8
  ·obtain⟨c,hc⟩:∃c,7 - i=c:=⟨_,rfl⟩
   have f1:(7:Int) - (i:Int)=(c:Int):=by omega
   obtain⟨d,hd⟩:∃d,8*c=d:=⟨_,rfl⟩
   have f2:(8:Int)*(c:Int)=(d:Int):=by omega
   have f3:d<64:=by omega
   rw[f1]
   rw[hc,hd]at hsucc
   have tlI:(t.length:Int)<=1000073:=by omega
   have hcI:(7:Int) - ((i+1:Nat):Int)=(c:Int) - 1:=by omega
   have HCI:=h_ hcI
   have HS:=h_ hsucc.out
   clear hlen hc hd hcI hsucc
   go_wp2_with fail
   go_roundw
   case rel=>exact⟨i+1,by omega,by rw[HS.out];rfl,by rw[HCI.out],Below.alloc hbel (by have:=hbel.size;omega) _⟩
   case measure=>simp[intOf]
  ·obtain rfl:i=8:=by omega
   rw[show(7:Int) - ((8:Nat):Int)= -1 by decide]
   have e:t=uQ s:=by rw[uQ,HN.out,HP.out,hL0.out];exact HT.out.symm
   go_wp2_with fail
   go_ret
   exact⟨by rw[<-e];rfl,hbel⟩
end
section
open Go.RowKit
def aH3 (k:List Int) (t:List UInt8) (j:Nat) (h:List Int):List Int:=aI1 h (wdL ((t.drop (64*j)).take 64)) k
def aM7 (t:List UInt8):List Int:=aU (aH3 shconstantsL t) (t.length / 64) shfirstL
def aKD (h:List Int) (i:Nat) (b:List UInt8):List UInt8:=b.set i (iR (h.getD (i / 4) 0 / 2^(24 - 8*(i%4))))
def aI5 (h:List Int):List UInt8:=aU (aKD h) 32 (List.replicate 32 0)
def l8 (s:List UInt8):List UInt8:=aI5 (aM7 (uQ s))
theorem uR (h:List Int) (i:Nat) (b:List UInt8):(aKD h i b).length=b.length:=by simp[aKD]
theorem uS (h:List Int):(aI5 h).length=32:=by rw[aI5,dV (uR h)];simp
theorem cW (s:List UInt8):(l8 s).length=32:=uS _
theorem aC3 (k:List Int) (t:List UInt8) (j:Nat) (h:List Int):(aH3 k t j h).length=h.length:=uL _ _ _
attribute [local irreducible] aU aI1 wdL shconstantsL shfirstL uQ
theorem aAn (s:List UInt8) (w:World) (hs:s.length<=1000000):
  Calls Tryz.prog 145 #[.string ⟨s.toArray⟩] w fun e w'=>e=.returned (.agg (u8s (l8 s)).toArray)/\Below w.heap.size w w':=by
 have HFill:=h_ (fun w=>aI4 s w hs)
 have htl:=qR s
 have htm:=aHg s
 have hshp:aC2 s.length<64:=by rw[aC2];omega
 have hkl:=iA
 have hfl:=lB
 have HC:=h_ (fun w=>uO w)
 have HF:=h_ (fun w=>aC1 w)
 have hsha:l8 s=aI5 (aU (aH3 shconstantsL (uQ s)) ((uQ s).length / 64) shfirstL):=rfl
 rw[hsha]
 clear hsha
 obtain⟨k,hk⟩:∃k,shconstantsL=k:=⟨_,rfl⟩
 obtain⟨f,hf⟩:∃f,shfirstL=f:=⟨_,rfl⟩
 obtain⟨t,ht⟩:∃t,uQ s=t:=⟨_,rfl⟩
 rw[hk]at HC hkl ⊢
 rw[hf]at HF hfl ⊢
 rw[ht]at HFill htl htm ⊢
 clear hk hf ht
 obtain⟨N,hN⟩:∃N,t.length / 64=N:=⟨_,rfl⟩
 have htN:t.length=64*N:=by omega
 have hNb:N<=16000:=by omega
 rw[hN]
 clear hN htm htl hshp hs
 go_enter Tryz.func145,Tryz.ntmps145
 go_wp2_with fail
 refine(HC.out _).mono ?_
 rintro e w1 ⟨rfl,b1⟩
 have rR1:row w1 w.heap.size=(aH 32 (.int .u8 0)).toArray:=by rw[aA b1 (by simp)];simp[go_sem]
 have z1:w.heap.size<w1.heap.size:=by have:=b1.size;simp at this;omega
 replace b1:=cJ b1 (show Below (w).heap.size w _ from by(repeat (first | exact Below.refl _ _ | refine Below.al ?_ _ | refine Below.drew ?_ | refine Below.sr ?_ _ | refine Below.sc ?_ _))) (by first | (simp;done) | (simp;omega) | omega)
 go_wp2_with fail
 refine(HF.out _).mono ?_
 rintro e w2 ⟨rfl,b2⟩
 have rR2:=(aA b2 (by omega)).trans rR1
 have z2:w.heap.size<w2.heap.size:=by have:=b2.size;omega
 have bb2:Below w.heap.size w w2:=Below.trans b1 (b2.mono (by omega))
 clear HC HF b2 rR1 b1 z1
 go_wp2_with fail
 refine(HFill.out _).mono ?_
 rintro e w3 ⟨rfl,b3⟩
 have z3:=b3.size
 simp only[aF]at z3
 have rK3:row w3 w2.heap.size=(dE k).toArray:=by
  rw[aA b3 (by simp only[aF];omega),aD _ _ (by simp only[aF];omega),aE _ _ _ rfl]
 have rH3:row w3 (w2.heap.size+1)=(dE f).toArray:=by
  rw[aA b3 (by simp only[aF];omega),aE _ _ _ (by simp only[aF])]
 have rR3:row w3 w.heap.size=(aH 32 (.int .u8 0)).toArray:=by
  rw[aA b3 (by simp only[aF];omega),aD _ _ (by simp only[aF];omega),aD _ _ (by omega)]
  exact rR2
 have bb3:Below w.heap.size w w3:=Below.trans (Below.alloc (Below.alloc bb2 (by omega) _) (by simp only[aF];omega) _) (b3.mono (by simp only[aF];omega))
 clear b3 HFill rR2 bb2
 go_wp2_with fail
 go_loopw [5] (fun v wr=>∃j:Nat,j<=N/\v=.string ⟨(t.drop (64*j)).toArray⟩/\row wr (w2.heap.size+1)=(dE (aU (aH3 k t) j f)).toArray/\row wr w2.heap.size=(dE k).toArray/\row wr w.heap.size=(aH 32 (.int .u8 0)).toArray/\w2.heap.size+1<wr.heap.size/\Below w.heap.size w wr) (fun v _=>match v with | .string b=>b.size | _=>0)
 case atStart=>exact⟨0,by omega,by simp,by rw[aU];exact rH3,rK3,rR3,by omega,bb3⟩
 case round=>
  clear rH3 rK3 rR3 bb3 z3
  obtain⟨j,hj,rfl,hH,hK,hR,hz,hbel⟩:=hrel
  obtain⟨L,hL⟩:∃L,aU (aH3 k t) j f=L:=⟨_,rfl⟩
  have hLl:L.length=8:=by rw[<-hL,dD (aC3 k t),hfl]
  rw[hL]at hH
  have HL:=h_ hL
  clear hL
  obtain⟨T,hT⟩:∃T,t.drop (64*j)=T:=⟨_,rfl⟩
  have hTl:T.length=64*(N - j):=by rw[<-hT,List.length_drop,htN];omega
  have hTd:t.drop (64*(j+1))=T.drop 64:=by rw[<-hT,List.drop_drop];congr 1
  rw[hT]
  have HT:=h_ hT
  have HTD:=h_ hTd
  clear hT hTd
  by_cases hlt:j<N
  ·have hT64:64<=T.length:=by omega
   have hTI:(64:Int)<=T.length:=by omega
   have hTn:T.isEmpty=false:=by
    cases T with
    | nil=>simp at hT64
    | cons a T=>rfl
   have HW:=h_ (fun w=>aG8 (T.take 64) w (by simp;omega))
   have HX:=h_ (fun w=>aG9 L (wdL (T.take 64)) k w hLl (xX _) hkl)
   have hwl:=xX (T.take 64)
   have hml:=uL L (wdL (T.take 64)) k
   obtain⟨x,hx⟩:∃x,wdL (T.take 64)=x:=⟨_,rfl⟩
   rw[hx]at HW HX hwl hml
   obtain⟨M,hM⟩:∃M,aI1 L x k=M:=⟨_,rfl⟩
   rw[hM]at HX hml
   rw[hLl]at hml
   have HB:=h_ (show aH3 k t j L=M by rw[aH3,HT.out,hx,hM])
   have HTl:=h_ hTl
   clear hx hM hTl
   go_wp2_with fail
   refine aF6 6 [(w2.heap.size,(dE k).toArray),(w2.heap.size+1,(dE L).toArray)] [(w2.heap.size,(dE k).toArray)] (fun hS=>?_)
   refine kp 0 hS ?_
   refine kp 1 hS ?_
   refine kp 2 hS ?_
   refine kp 4 hS ?_
   refine cH (i:=3) (v:=?_) cD kr_ kr_ kr_ kr_ (by first | exact fun _ _ _ h=>h | exact fun _ _ _ h=>by cases h.1) (Rws.grow _) (Or.inl ⟨by rfl,?_⟩) hS ?_
   rotate_left
   ·intro w' hS'
    simp only[Rws]at hS'
    go_simp
    with_reducible refine(HW.out _).mono ?_
    rintro e w'' ⟨rfl,hb⟩
    refine⟨_,rfl,?_,hb⟩
    rfl
   (try simp only[Act.put,List.setIfInBounds_toArray,List.set_cons_zero,List.set_cons_succ])
   refine cH (i:=5) (v:=?_) cD kr_ kr_ kr_ kr_ (by first | exact fun _ _ _ h=>h | exact fun _ _ _ h=>by cases h.1) (Rws.grow _) (Or.inl ⟨by rfl,?_⟩) hS ?_
   rotate_left
   ·intro w' hS'
    simp only[Rws]at hS'
    go_simp
    with_reducible refine(HX.out _).mono ?_
    rintro e w'' ⟨rfl,hb⟩
    refine⟨_,rfl,?_,hb⟩
    rfl
   (try simp only[Act.put,List.setIfInBounds_toArray,List.set_cons_zero,List.set_cons_succ])
   refine bE (k:=6) cD rfl rfl kr_ (fun u1 hu1=>?_)
   have zu:wr.heap.size<=u1.heap.size:=by have:=hu1.size;exact this
   have ru1:row u1 (w2.heap.size+1)=(dE L).toArray:=by rw[aA hu1 (by show _<wr.heap.size;omega)];exact hH
   have rk1:row u1 w2.heap.size=(dE k).toArray:=by rw[aA hu1 (by show _<wr.heap.size;omega)];exact hK
   have rr1:row u1 w.heap.size=(aH 32 (.int .u8 0)).toArray:=by rw[aA hu1 (by show _<wr.heap.size;omega)];exact hR
   have bu1:Below w.heap.size w u1:=Below.trans (Below.drew hbel) (hu1.mono (by show _<=wr.heap.size;omega))
   refine⟨u1.setRow (w2.heap.size+1) (dE M).toArray,by go_simp,⟨by rw[aC _ _ _ (by omega)];exact rk1,by simp;omega,trivial⟩,fun hS=>?_⟩
   refine aG kr_ (fun wN hN=>?_) _
   have zN:=hN.size
   rw[setRow_size]at zN
   have hHN:row wN (w2.heap.size+1)=(dE M).toArray:=by
    rw[aA hN (by rw[setRow_size];omega)]
    exact aB (by rw[ru1];simp;omega) (by rw[ru1];simp;omega)
   have hKN:row wN w2.heap.size=(dE k).toArray:=by
    rw[aA hN (by rw[setRow_size];omega),aC _ _ _ (by omega)]
    exact rk1
   have hRN:row wN w.heap.size=(aH 32 (.int .u8 0)).toArray:=by
    rw[aA hN (by rw[setRow_size];omega),aC _ _ _ (by omega)]
    exact rr1
   have bN:Below w.heap.size w wN:=Below.trans (Below.setRow bu1 (by omega) _) (hN.mono (by rw[setRow_size];omega))
   clear hN bu1 rr1 rk1 ru1 hS hu1 hH hK hR hbel
   go_wp2_with fail
   go_roundw
   case rel=>exact⟨j+1,by omega,by rw[HTD.out],by rw[aU,HL.out,HB.out];exact hHN,hKN,hRN,by omega,bN⟩
   case measure=>
    show(T.drop 64).toArray.size<T.toArray.size
    simp
    omega
  ·obtain rfl:j=N:=by omega
   have hTn:T.isEmpty=true:=by
    cases T with
    | nil=>rfl
    | cons a T=>simp at hTl
   clear hTl
   have hzz:w2.heap.size+1<wr.heap.size:=hz
   have bL:aI5 L=aI5 (aU (aH3 k t) j f):=by rw[HL.out]
   have HBL:=h_ bL
   have hol:=uS L
   clear hlt hj bL
   go_wp2_with fail
   obtain⟨V,hVe⟩:∃V,wr.heap.size=V:=⟨_,rfl⟩
   have hH1:row (wr.alloc (.cells (aH 32 (.int .u8 0)).toArray 5)) (w2.heap.size+1)=(dE L).toArray:=by rw[aD _ _ (by omega)];exact hH
   have hH0:=h_ hH
   go_loopw [22] (fun i wq=>∃m:Nat,m<=32/\i=.int .i64 m/\row wq V=(u8s (aU (aKD L) m (List.replicate 32 0))).toArray/\row wq w.heap.size=(aH 32 (.int .u8 0)).toArray/\row wq (w2.heap.size+1)=(dE L).toArray/\V<wq.heap.size/\Below w.heap.size w wq) (fun i _=>32 - (intOf i).toNat)
   case atStart=>
    refine⟨0,by omega,rfl,?_,?_,?_,by simp;omega,Below.alloc hbel (by omega) _⟩
    ·rw[aU,uF,<-hVe]
     exact aE _ _ _ rfl
    ·rw[aD _ _ (by omega)]
     exact hR
    ·rw[aD _ _ (by omega)]
     exact hH
   case round=>
    clear hH1 hR hbel hH
    obtain⟨m,hm,rfl,hV,hR,hS,hz,hbel⟩:=hrel
    obtain⟨B,hB⟩:∃B,aU (aKD L) m (List.replicate 32 0)=B:=⟨_,rfl⟩
    have hBl:B.length=32:=by rw[<-hB,dV (uR _)];simp
    rw[hB]at hV
    have HB:=h_ hB
    clear hB
    by_cases hlt:m<32
    ·have h1:(m:Int)<32:=by omega
     have h3:m<B.length:=by omega
     obtain⟨q,hq⟩:∃q,m / 4=q:=⟨_,rfl⟩
     obtain⟨r,hr⟩:∃r,m%4=r:=⟨_,rfl⟩
     have e1:(m:Int) / 4=(q:Int):=by omega
     have e2:(m:Int)%4=(r:Int):=by omega
     obtain⟨p,hp⟩:∃p,24 - 8*r=p:=⟨_,rfl⟩
     obtain⟨p0,hp0⟩:∃p,8*r=p:=⟨_,rfl⟩
     have e3:(8:Int)*(r:Int)=(p0:Int):=by omega
     have e4:(24:Int) - (p0:Int)=(p:Int):=by omega
     have h11:p<32:=by omega
     have HP:=h_ hp
     have h8:q<L.length:=by omega
     have h9:(q:Int)<8:=by omega
     have h9':q<8:=by omega
     have h10:r<4:=by omega
     have hp0b:p0<25:=by omega
     have HQ:=h_ hq
     have HR:=h_ hr
     clear hq hr hp hp0
     go_wp2_with fail
     go_roundw
     case rel=>
      have e:u8s (aU (aKD L) (m+1) (List.replicate 32 0))=(u8s B).set m (.int .u8 (L[q] / 2^p%256)):=by
       rw[aU,HB.out,mV]
       unfold aKD
       rw[HQ.out,HR.out,HP.out,cC _ _ _ h8]
      refine⟨m+1,by omega,rfl,?_,by(try show row (World.setRow _ _ _) _=_);rw[aC _ _ _ (by omega)];exact hR,by(try show row (World.setRow _ _ _) _=_);rw[aC _ _ _ (by omega)];exact hS,by simp;omega,Below.setRow hbel (by omega) _⟩
      rw[e]
      exact aB (by rw[hV];simp;omega) (by rw[hV];simp)
     case measure=>simp[intOf];omega
    ·obtain rfl:m=32:=by omega
     rw[show((32:Nat):Int)=32 from rfl]
     have e:B=aI5 (aU (aH3 k t) j f):=by rw[<-HBL.out,aI5];exact HB.out.symm
     rw[e]at hBl hV
     go_wp2_with fail
     have hfin:=aB (w:=wr) (g:=w.heap.size) (c:=(u8s (aI5 (aU (aH3 k t) j f))).toArray) (by rw[hR];simp) (by rw[hR];simp[hBl])
     (try simp only[Exit.inBlock,Exit.then])
     refine bodyPost_ret (aV rfl (aK rfl ?_)) rfl ?_
     ·rw[hfin]
      simp[hBl]
     refine⟨by rw[hfin],?_⟩
     exact Below.setRow hbel (by omega) _
end
section
open Go.RowKit
def iV (key:List UInt8):List UInt8:=key++List.replicate (64 - key.length) 0
theorem aHh (q:Nat) (w:World) (hq:q<=64):
  Calls Tryz.prog 193 #[.string ⟨#[0]⟩,.int .i64 q] w fun e w'=>e=.returned (.string ⟨(List.replicate q (0:UInt8)).toArray⟩)/\Below w.heap.size w w':=by
 refine(Tryz.strings_Repeat ⟨#[0]⟩ q w (by omega) (by show 1*q<=_;omega)).mono ?_
 rintro e w' ⟨rfl,h⟩
 refine⟨?_,h⟩
 rw[show(ByteArray.mk #[(0:UInt8)]).data.toList=[0]from rfl,aCT]
theorem aE9 (key:List UInt8) (w:World) (hk:key.length<=64):
  Calls Tryz.prog 233 #[.string ⟨key.toArray⟩] w fun e w'=>e=.returned (.string ⟨(iV key).toArray⟩)/\Below w.heap.size w w':=by
 have hkI:(key.length:Int)<=64:=by omega
 have hkI2:¬(64:Int)<(key.length:Int):=by omega
 unfold iV
 obtain⟨q,hq⟩:∃q,64 - key.length=q:=⟨_,rfl⟩
 have e1:(64:Int) - (key.length:Int)=(q:Int):=by omega
 have hqb:q<=64:=by omega
 rw[hq]
 clear hq
 go_enter Tryz.func233,Tryz.ntmps233
 go_wp2_with fail
 refine(aHh q _ hqb).mono ?_
 rintro e w1 ⟨rfl,b1⟩
 go_wp2_with fail
 go_ret
 refine⟨?_,b1⟩
 show Ending.returned (.string _)=Ending.returned (.string _)
 congr 2
def xF (b:UInt8) (i:Nat) (l:List UInt8):List UInt8:=l.set i (l.getD i 0^^^b)
def sL (s:List UInt8) (b:UInt8):List UInt8:=aU (xF b) s.length s
theorem aBM (b:UInt8) (i:Nat) (l:List UInt8):(xF b i l).length=l.length:=by simp[xF]
theorem lC (s:List UInt8) (b:UInt8):(sL s b).length=s.length:=dV (aBM b) _ _
attribute [local irreducible] aU
theorem aHi (s:List UInt8) (b:UInt8) (w:World) (hs:s.length<=1000):
  Calls Tryz.prog 234 #[.string ⟨s.toArray⟩,.int .u8 b.toNat] w fun e w'=>e=.returned (.string ⟨(sL s b).toArray⟩)/\Below w.heap.size w w':=by
 have hsI:(s.length:Int)<=1000:=by omega
 go_enter Tryz.func234,Tryz.ntmps234
 go_wp2_with fail
 obtain⟨sp,hsp⟩:∃x,eE w ⟨s.toArray⟩ 5=x:=⟨_,rfl⟩
 rw[hsp]
 go_loopw [11] (fun i wr=>∃m:Nat,i=.int .i64 m/\m<=s.length/\row wr w.heap.size=(u8s (aU (xF b) m s)++aH sp (.int .u8 0)).toArray/\w.heap.size<wr.heap.size/\Below w.heap.size w wr) (fun i _=>s.length - (intOf i).toNat)
 case atStart=>
  refine⟨0,rfl,by omega,?_,by simp,eD⟩
  rw[aU,dI,bF _ _ _ _ _ (by simp) (by simp)]
 case round=>
  clear hsp
  obtain⟨m,rfl,hm,hV,hz,hbel⟩:=hrel
  obtain⟨L,hL⟩:∃L,aU (xF b) m s=L:=⟨_,rfl⟩
  have hLl:L.length=s.length:=by rw[<-hL,dV (aBM b)]
  rw[hL]at hV
  have HL:=h_ hL
  clear hL
  by_cases hlt:m<s.length
  ·have h1:(m:Int)<s.length:=by omega
   have h3:m<L.length:=by omega
   have h4:m<s.length+sp:=by omega
   obtain⟨v,hv⟩:∃v,L[m]^^^b=v:=⟨_,rfl⟩
   have hxor:=aGI L[m] b
   rw[hv]at hxor
   have hset:=jR L m v
   have HX:=h_ (show xF b m L=L.set m v by rw[xF,cC _ _ _ h3,hv])
   clear hv
   go_wp2_with fail
   go_roundw
   case rel=>
    rw[eQ _ (by rw[hV];simp;omega),hV]
    refine⟨m+1,rfl,by omega,?_,by simp;omega,Below.setRow hbel (by omega) _⟩
    rw[aB (by rw[hV];simp;omega) (by rw[hV];simp),aU,HL.out,HX.out,<-hset]
    rw[List.setIfInBounds_toArray,aIF _ _ _ _ (by simpa using h3)]
   case measure=>simp[intOf];omega
  ·have h1:¬(m:Int)<s.length:=by omega
   have hms:m=s.length:=by omega
   have e:L=sL s b:=by rw[sL,<-hms];exact HL.out.symm
   have hol:=lC s b
   rw[e]at hV
   clear hLl HL e
   subst hms
   go_wp2_with fail
   go_ret
   exact⟨rfl,hbel⟩
end
section
open Go.RowKit
def iX (key s:List UInt8):List UInt8:=l8 (sL (iV key) 92++l8 (sL (iV key) 54++s))
theorem mZ (key s:List UInt8):(iX key s).length=32:=cW _
theorem wE (key:List UInt8) (h:key.length<=64):(iV key).length=64:=by simp[iV];omega
attribute [local irreducible] l8 sL iV
theorem aHj (key s:List UInt8) (w:World) (hk:key.length<=64) (hs:s.length<=10000):
  Calls Tryz.prog 221 #[.string ⟨key.toArray⟩,.string ⟨s.toArray⟩] w fun e w'=>e=.returned (.agg (u8s (iX key s)).toArray)/\Below w.heap.size w w':=by
 have HF:=h_ (fun w=>aE9 key w hk)
 have hfl:=wE key hk
 have hm:iX key s=l8 (sL (iV key) 92++l8 (sL (iV key) 54++s)):=rfl
 rw[hm]
 obtain⟨k,hkk⟩:∃k,iV key=k:=⟨_,rfl⟩
 rw[hkk]at HF hfl ⊢
 clear hkk hm
 have HA:=h_ (fun w=>aHi k 54 w (by omega))
 have hB92:∀w:World,Calls Tryz.prog 234 #[.string ⟨k.toArray⟩,.int .u8 92] w fun e w'=>e=.returned (.string ⟨(sL k 92).toArray⟩)/\Below w.heap.size w w':=fun w=>aHi k 92 w (by omega)
 have HB:=h_ hB92
 have hal:=lC k 54
 have hbl:=lC k 92
 obtain⟨a,ha⟩:∃a,sL k 54=a:=⟨_,rfl⟩
 obtain⟨b,hb⟩:∃b,sL k 92=b:=⟨_,rfl⟩
 rw[ha]at HA hal ⊢
 rw[hb]at HB hbl ⊢
 rw[hfl]at hal hbl
 clear ha hb hB92
 have HS:=h_ (fun w=>aAn (a++s) w (by simp;omega))
 have hxl:=cW (a++s)
 obtain⟨x,hx⟩:∃x,l8 (a++s)=x:=⟨_,rfl⟩
 rw[hx]at HS hxl ⊢
 clear hx
 have HT:=h_ (fun w=>aAn (b++x) w (by simp;omega))
 have hyl:=cW (b++x)
 obtain⟨y,hy⟩:∃y,l8 (b++x)=y:=⟨_,rfl⟩
 rw[hy]at HT hyl ⊢
 clear hy
 have hsI:(s.length:Int)<=10000:=by omega
 go_enter Tryz.func221,Tryz.ntmps221
 go_wp2_with fail
 refine(HF.out _).mono ?_
 rintro e w1 ⟨rfl,b1⟩
 have rR1:row w1 w.heap.size=(aH 32 (.int .u8 0)).toArray:=by rw[aA b1 (by simp only[aF];omega)];simp[go_sem]
 have z1:w.heap.size<w1.heap.size:=by have:=b1.size;simp only[aF]at this;omega
 replace b1:=cJ b1 (show Below (w).heap.size w _ from by(repeat (first | exact Below.refl _ _ | refine Below.al ?_ _ | refine Below.drew ?_ | refine Below.sr ?_ _ | refine Below.sc ?_ _))) (by first | (simp;done) | (simp;omega) | omega)
 go_wp2_with fail
 refine(HA.out _).mono ?_
 rintro e w2 ⟨rfl,b2⟩
 have rR2:=(aA b2 (by omega)).trans rR1
 have z2:w.heap.size<w2.heap.size:=by have:=b2.size;omega
 have bb2:Below w.heap.size w w2:=Below.trans b1 (b2.mono (by omega))
 clear HF HA b2 rR1 b1 z1
 go_wp2_with fail
 refine(HS.out _).mono ?_
 rintro e w3 ⟨rfl,b3⟩
 have rR3:=(aA b3 (by omega)).trans rR2
 have z3:w.heap.size<w3.heap.size:=by have:=b3.size;omega
 have bb3:Below w.heap.size w w3:=Below.trans bb2 (b3.mono (by omega))
 clear HS b3 rR2 bb2 z2
 go_wp2_with fail
 obtain⟨w4,hw4⟩:∃v,w3.alloc (.cells (u8s x).toArray 28)=v:=⟨_,rfl⟩
 have rX4:row w4 w3.heap.size=(u8s x).toArray:=by rw[<-hw4];exact aE _ _ _ rfl
 have rR4:row w4 w.heap.size=(aH 32 (.int .u8 0)).toArray:=by rw[<-hw4,aD _ _ (by omega)];exact rR3
 have z4:w3.heap.size<w4.heap.size:=by rw[<-hw4,aF];omega
 have bb4:Below w.heap.size w w4:=by rw[<-hw4];exact Below.alloc bb3 (by omega) _
 rw[hw4]
 clear hw4 rR3 bb3
 have rR4d:row w4.drew w.heap.size=(aH 32 (.int .u8 0)).toArray:=rR4
 refine jY [(w3.heap.size,(u8s x).toArray)] (fun hS=>?_)
 refine qp 0 hS ?_
 refine qc 1 (v:=?_) hS ?_ ?_
 rotate_left
 ·intro w' hS'
  simp only[Rws]at hS'
  go_simp
  with_reducible refine(HB.out _).mono ?_
  rintro e w'' ⟨rfl,hb⟩
  exact⟨_,rfl,by rfl,hb⟩
 refine qp 2 hS ?_
 refine qp 3 hS ?_
 refine qp 4 hS ?_
 refine qc 5 (v:=?_) hS ?_ ?_
 rotate_left
 ·intro w' hS'
  simp only[Rws]at hS'
  go_simp
  with_reducible refine(HT.out _).mono ?_
  rintro e w'' ⟨rfl,hb⟩
  exact⟨_,rfl,by rfl,hb⟩
 refine bI (i:=6) (b:=w.heap.size) (c:=(u8s y).toArray) cD rfl rfl kr_ (by simp;(try omega)) hS (by rw[rR4d];simp;(try omega)) (fun w1 hr=>by rw[rR4d]at hr;go_simp;(try rfl)) (fun u1 hu1 ru1 hS=>?_)
 refine aG kr_ (fun wN hN=>?_) _
 have zd:w4.drew.heap.size=w4.heap.size:=rfl
 have zu:=hu1.size
 have rN:row wN w.heap.size=(u8s y).toArray:=by
  rw[aA hN (by rw[setRow_size];omega)]
  exact aB (by rw[ru1,rR4d];simp) (by rw[ru1,rR4d];simp;omega)
 have bN:Below w.heap.size w wN:=Below.trans (Below.setRow (Below.trans (Below.drew bb4) (hu1.mono (by omega))) (by omega) _) (hN.mono (by rw[setRow_size];omega))
 clear hN hu1 ru1 hS zu zd
 go_wp2_with fail
 refine bodyPost_ret (aV rfl (aK rfl ?_)) rfl ?_
 ·rw[rN]
  simp[hyl]
 ·exact⟨by rw[rN],bN⟩
attribute [local irreducible] iX
theorem aC4 (key s:List UInt8) (w:World) (hk:key.length<=64) (hs:s.length<=10000):
  Calls Tryz.prog 197 #[.string ⟨key.toArray⟩,.string ⟨s.toArray⟩] w fun e w'=>e=.returned (.agg (u8s (iX key s)).toArray)/\Below w.heap.size w w':=by
 have HM:=h_ (fun w=>aHj key s w hk hs)
 have hyl:=mZ key s
 obtain⟨y,hy⟩:∃y,iX key s=y:=⟨_,rfl⟩
 rw[hy]at HM hyl ⊢
 clear hy
 go_enter Tryz.func197,Tryz.ntmps197
 go_wp2_with fail
 refine(HM.out _).mono ?_
 rintro e w1 ⟨rfl,b1⟩
 have rR1:row w1 w.heap.size=(aH 32 (.int .u8 0)).toArray:=by rw[aA b1 (by simp only[aF];omega)];simp[go_sem]
 have z1:w.heap.size<w1.heap.size:=by have:=b1.size;simp only[aF]at this;omega
 replace b1:=cJ b1 (show Below (w).heap.size w _ from by(repeat (first | exact Below.refl _ _ | refine Below.al ?_ _ | refine Below.drew ?_ | refine Below.sr ?_ _ | refine Below.sc ?_ _))) (by first | (simp;done) | (simp;omega) | omega)
 clear HM
 go_wp2_with fail
 have hfin:=aB (w:=w1) (g:=w.heap.size) (c:=(u8s y).toArray) (by rw[rR1];simp) (by rw[rR1];simp[hyl])
 (try simp only[Exit.inBlock,Exit.then])
 refine bodyPost_ret (aV rfl (aK rfl ?_)) rfl ?_
 ·rw[hfin]
  simp[hyl]
 refine⟨by rw[hfin],?_⟩
 exact Below.setRow b1 (by omega) _
end
section
open Go.RowKit
def aC5 (root ahead info:List UInt8) (count:Nat):List UInt8:=iX root (ahead++(info++[iR count]))
theorem qS (root ahead info:List UInt8) (count:Nat):(aC5 root ahead info count).length=32:=mZ _ _
attribute [local irreducible] iX
theorem aI6 (root ahead info:List UInt8) (count R A I:Nat) (w:World) (hroot:root.length=32) (hah:ahead.length<=32) (hin:info.length<=1000) (hc:count<=255) (hR:row w R=(u8s root).toArray) (hA:row w A=#[.string ⟨ahead.toArray⟩]) (hI:row w I=#[.string ⟨info.toArray⟩]) (hRA:R≠A) (hIA:I≠A):
  Calls Tryz.prog 220 #[.int .i64 count,.pointer (some ⟨R,0,none⟩),.pointer (some ⟨A,0,none⟩),.pointer (some ⟨I,0,none⟩)] w fun e w'=>e=.returned (.agg (u8s (aC5 root ahead info count)).toArray)/\row w' A=#[.string ⟨(aC5 root ahead info count).toArray⟩]/\BelowBut w.heap.size A w w':=by
 have zR:R<w.heap.size:=aM (i:=0) (by rw[hR];simp;omega)
 have zA:A<w.heap.size:=aM (i:=0) (by rw[hA];simp)
 have zI:I<w.heap.size:=aM (i:=0) (by rw[hI];simp)
 have hcI:(count:Int)<=255:=by omega
 have hM:=h_ (fun w=>aHj root (ahead++(info++[iR count])) w (by omega) (by simp;omega))
 have hyl:=qS root ahead info count
 unfold aC5 at hyl ⊢
 obtain⟨y,hy⟩:∃y,iX root (ahead++(info++[iR count]))=y:=⟨_,rfl⟩
 rw[hy]at hM hyl ⊢
 clear hy
 have hl1:(ahead.length:Int)<=32:=by omega
 have hl2:(info.length:Int)<=1000:=by omega
 have hwc:IntKind.u8.wrap (count:Int)=(count:Int):=by rw[IntKind.wrap_u8];omega
 have hbyte:UInt8.ofNat count=iR count:=by rw[iR];congr 1;omega
 have hl3:¬9223372036854775807<ahead.length+info.length:=by omega
 have hl4:¬9223372036854775807<ahead.length+info.length+1:=by omega
 have hl5:¬9223372036854775807<ahead.length+(info.length+1):=by omega
 go_enter Tryz.func220,Tryz.ntmps220
 go_wp2_with fail
 obtain⟨w1,hw1⟩:∃v,w.alloc (.cells (aH 32 (.int .u8 0)).toArray 28)=v:=⟨_,rfl⟩
 have rV1:row w1 w.heap.size=(aH 32 (.int .u8 0)).toArray:=by rw[<-hw1];exact aE _ _ _ rfl
 have rR1:row w1 R=(u8s root).toArray:=by rw[<-hw1,aD _ _ (by omega)];exact hR
 have rA1:row w1 A=#[.string ⟨ahead.toArray⟩]:=by rw[<-hw1,aD _ _ (by omega)];exact hA
 have rI1:row w1 I=#[.string ⟨info.toArray⟩]:=by rw[<-hw1,aD _ _ (by omega)];exact hI
 have z1:w1.heap.size=w.heap.size+1:=by rw[<-hw1,aF]
 have b1:Below w.heap.size w w1:=by rw[<-hw1];exact Below.alloc (Below.refl _ _) (by omega) _
 try rw[hw1]
 clear hw1
 have zd:w1.drew.heap.size=w1.heap.size:=rfl
 refine jY [(R,(u8s root).toArray),(A,#[.string ⟨ahead.toArray⟩]),(I,#[.string ⟨info.toArray⟩])] (fun hS=>?_)
 refine qp 0 hS ?_
 refine qp 1 hS ?_
 refine qp 2 hS ?_
 refine qp 3 hS ?_
 refine qp 4 hS ?_
 refine qp 5 hS ?_
 refine qp 6 hS ?_
 refine aY (rs:=[7,11]) kr_ (by simp) (Rws.grow _) hS (fun u1 hu1 hSW=>?_)
 intro i hi
 simp only[List.mem_cons,List.not_mem_nil,or_false]at hi
 rcases hi with rfl | rfl
 ·refine wpOp_step rfl (fun K hK2=>?_)
  clear hS
  go_simp
  refine hK2 _ _ ⟨hSW.alloc _,?_⟩
  clear hK2 K
  (try simp only[Act.put,List.setIfInBounds_toArray,List.set_cons_zero,List.set_cons_succ])
  have zu1:=hu1.size
  obtain⟨G,hG⟩:∃G,u1.heap.size=G:=⟨_,rfl⟩
  obtain⟨u2,hu2⟩:∃v,u1.alloc (.cells #[.int .u8 (count:Int)] 5)=v:=⟨_,rfl⟩
  have rG:row u2 G=#[.int .u8 (count:Int)]:=by rw[<-hu2,<-hG];exact aE _ _ _ rfl
  have zG:u2.heap.size=G+1:=by rw[<-hu2,aF,hG]
  have bG:Below w1.heap.size w1 u2:=by rw[<-hu2];exact Below.alloc (Below.trans (Below.drew (Below.refl _ _)) hu1) (by omega) _
  have hSW2:=hSW.alloc (.cells #[.int .u8 (count:Int)] 5)
  rw[hG,hu2]
  rw[hu2]at hSW2
  refine eH (S2:=Rws [(G,#[.int .u8 (count:Int)]),(R,(u8s root).toArray),(A,#[.string ⟨ahead.toArray⟩]),(I,#[.string ⟨info.toArray⟩])]) (fun w h=>h.2.2) _ _ _ _ ?_
  have hS:Rws [(G,#[.int .u8 (count:Int)]),(R,(u8s root).toArray),(A,#[.string ⟨ahead.toArray⟩]),(I,#[.string ⟨info.toArray⟩])] u2:=⟨rG,by omega,hSW2⟩
  clear hSW hSW2 hu2
  refine qp 8 hS ?_
  refine qp 9 hS ?_
  refine qc 10 (v:=?_) hS ?_ ?_
  rotate_left
  ·intro w' hS'
   simp only[Rws]at hS'
   go_simp
   with_reducible refine(hM.out _).mono ?_
   rintro e w'' ⟨rfl,hb⟩
   exact⟨_,rfl,by rfl,hb⟩
  refine nR (i:=11) (k:=12) (zi:=(aH 32 (.int .u8 0)).toArray) (cA:=(u8s y).toArray) cD cD ⟨rfl,rfl,fun a w=>by go_simp;(refine⟨?_,?_⟩<;>rfl)⟩ kr_ kr_ kr_ rfl rfl (by simp[hyl]) (by simp) (by simp;omega) (fun A w1 hr=>by
   simp only[Act.put,List.setIfInBounds_toArray,List.set_cons_zero,List.set_cons_succ,ptr]
   go_simp
   try rfl) hS (fun X w3 gX zX b3 rX=>?_)
  (try simp only[Act.put,List.setIfInBounds_toArray,List.set_cons_zero,List.set_cons_succ])
  simp only[ptr]
  have z3:=b3.size
  have b13:Below w1.heap.size w1 w3:=Below.trans bG (b3.mono (by omega))
  clear hS b3 bG rG hM hu1
  have rV3:=(aA b13 (by omega)).trans rV1
  have rA3:=(aA b13 (by omega)).trans rA1
  have b03:Below w.heap.size w w3:=Below.trans b1 (b13.mono (by omega))
  clear b13 rV1 rA1 rR1 rI1 b1 hR hA hI
  have rX4:row (w3.setRow A #[.string ⟨y.toArray⟩]) X=(u8s y).toArray:=by rw[aC _ _ _ (by omega)];exact rX
  have rV4:row (w3.setRow A #[.string ⟨y.toArray⟩]) w.heap.size=(aH 32 (.int .u8 0)).toArray:=by rw[aC _ _ _ (by omega)];exact rV3
  have rA4:row (w3.setRow A #[.string ⟨y.toArray⟩]) A=#[.string ⟨y.toArray⟩]:=aB (by rw[rA3];simp) (by rw[rA3];simp)
  have z4:w.heap.size<(w3.setRow A #[.string ⟨y.toArray⟩]).heap.size:=by rw[setRow_size];omega
  have z5:X<(w3.setRow A #[.string ⟨y.toArray⟩]).heap.size:=by rw[setRow_size];omega
  have b4:BelowBut w.heap.size A w (w3.setRow A #[.string ⟨y.toArray⟩]):=(BelowBut.of b03).trans (BelowBut.set _ _)
  go_wp2_with fail
  have hfin:=aB (w:=w3.setRow A #[.string ⟨y.toArray⟩]) (g:=w.heap.size) (c:=(u8s y).toArray) (by rw[rV4];simp) (by rw[rV4];simp[hyl])
  (try simp only[Exit.inBlock,Exit.then])
  refine bodyPost_ret (aV rfl (aK rfl ?_)) rfl ?_
  ·rw[hfin]
   simp[hyl]
  refine⟨by rw[hfin],?_,b4.trans (BelowBut.of (Below.setRow (Below.refl _ _) (Nat.le_refl _) _))⟩
  rw[aC _ _ _ (by omega)]
  exact rA4
 ·refine wpOp_step rfl (fun K hK2=>?_)
  clear hS
  go_simp
  refine hK2 _ _ ⟨hSW.alloc _,?_⟩
  clear hK2 K
  (try simp only[Act.put,List.setIfInBounds_toArray,List.set_cons_zero,List.set_cons_succ])
  have zu1:=hu1.size
  obtain⟨X,hX⟩:∃G,u1.heap.size=G:=⟨_,rfl⟩
  obtain⟨u2,hu2⟩:∃v,u1.alloc (.cells (aH 32 (.int .u8 0)).toArray 28)=v:=⟨_,rfl⟩
  have rX2:row u2 X=(aH 32 (.int .u8 0)).toArray:=by rw[<-hu2,<-hX];exact aE _ _ _ rfl
  have zX2:u2.heap.size=X+1:=by rw[<-hu2,aF,hX]
  have bX:Below w1.heap.size w1 u2:=by rw[<-hu2];exact Below.alloc (Below.trans (Below.drew (Below.refl _ _)) hu1) (by omega) _
  have hS:=hSW.alloc (.cells (aH 32 (.int .u8 0)).toArray 28)
  rw[hX,hu2]
  rw[hu2]at hS
  clear hSW hu2 hu1
  refine aY (rs:=[7]) kr_ (by simp) (Rws.grow _) hS (fun u3 hu3 hSW=>?_)
  intro i hi
  obtain rfl:=List.mem_singleton.1 hi
  refine wpOp_step rfl (fun K hK2=>?_)
  clear hS hi
  go_simp
  refine hK2 _ _ ⟨hSW.alloc _,?_⟩
  clear hK2 K
  (try simp only[Act.put,List.setIfInBounds_toArray,List.set_cons_zero,List.set_cons_succ])
  have zu3:=hu3.size
  obtain⟨G,hG⟩:∃G,u3.heap.size=G:=⟨_,rfl⟩
  obtain⟨u4,hu4⟩:∃v,u3.alloc (.cells #[.int .u8 (count:Int)] 5)=v:=⟨_,rfl⟩
  have rG:row u4 G=#[.int .u8 (count:Int)]:=by rw[<-hu4,<-hG];exact aE _ _ _ rfl
  have zG:u4.heap.size=G+1:=by rw[<-hu4,aF,hG]
  have bG:Below u2.heap.size u2 u4:=by rw[<-hu4];exact Below.alloc hu3 (by omega) _
  have hSW2:=hSW.alloc (.cells #[.int .u8 (count:Int)] 5)
  rw[hG,hu4]
  rw[hu4]at hSW2
  have rX4:row u4 X=(aH 32 (.int .u8 0)).toArray:=(aA bG (by omega)).trans rX2
  refine eH (S2:=Rws [(G,#[.int .u8 (count:Int)]),(R,(u8s root).toArray),(A,#[.string ⟨ahead.toArray⟩]),(I,#[.string ⟨info.toArray⟩])]) (fun w h=>h.2.2) _ _ _ _ ?_
  have hS:Rws [(G,#[.int .u8 (count:Int)]),(R,(u8s root).toArray),(A,#[.string ⟨ahead.toArray⟩]),(I,#[.string ⟨info.toArray⟩])] u4:=⟨rG,by omega,hSW2⟩
  clear hSW hSW2 hu4
  refine qp 8 hS ?_
  refine qp 9 hS ?_
  refine qc 10 (v:=?_) hS ?_ ?_
  rotate_left
  ·intro w' hS'
   simp only[Rws]at hS'
   go_simp
   with_reducible refine(hM.out _).mono ?_
   rintro e w'' ⟨rfl,hb⟩
   exact⟨_,rfl,by rfl,hb⟩
  refine bI (i:=12) (b:=X) (c:=(u8s y).toArray) cD rfl rfl kr_ (by simp;(try omega)) hS (by rw[rX4];simp;(try omega)) (fun w1 hr=>by rw[rX4]at hr;go_simp;(try rfl)) (fun u5 hu5 ru5 hS=>?_)
  refine aG kr_ (fun w3 h3=>?_) _
  have zu5:=hu5.size
  have z3:=h3.size
  rw[setRow_size]at z3
  have rX:row w3 X=(u8s y).toArray:=by
   rw[aA h3 (by rw[setRow_size];omega)]
   exact aB (by rw[ru5,rX4];simp) (by rw[ru5,rX4];simp[hyl])
  have zX:X<w3.heap.size:=by omega
  have b13:Below w1.heap.size w1 w3:=Below.trans (Below.setRow (Below.trans (Below.trans bX (bG.mono (by omega))) (hu5.mono (by omega))) (by omega) _) (h3.mono (by rw[setRow_size];omega))
  clear hS h3 hu5 ru5 bG bX rG rX4 rX2 hM
  have rV3:=(aA b13 (by omega)).trans rV1
  have rA3:=(aA b13 (by omega)).trans rA1
  have b03:Below w.heap.size w w3:=Below.trans b1 (b13.mono (by omega))
  clear b13 rV1 rA1 rR1 rI1 b1 hR hA hI
  have rX4:row (w3.setRow A #[.string ⟨y.toArray⟩]) X=(u8s y).toArray:=by rw[aC _ _ _ (by omega)];exact rX
  have rV4:row (w3.setRow A #[.string ⟨y.toArray⟩]) w.heap.size=(aH 32 (.int .u8 0)).toArray:=by rw[aC _ _ _ (by omega)];exact rV3
  have rA4:row (w3.setRow A #[.string ⟨y.toArray⟩]) A=#[.string ⟨y.toArray⟩]:=aB (by rw[rA3];simp) (by rw[rA3];simp)
  have z4:w.heap.size<(w3.setRow A #[.string ⟨y.toArray⟩]).heap.size:=by rw[setRow_size];omega
  have z5:X<(w3.setRow A #[.string ⟨y.toArray⟩]).heap.size:=by rw[setRow_size];omega
  have b4:BelowBut w.heap.size A w (w3.setRow A #[.string ⟨y.toArray⟩]):=(BelowBut.of b03).trans (BelowBut.set _ _)
  go_wp2_with fail
  have hfin:=aB (w:=w3.setRow A #[.string ⟨y.toArray⟩]) (g:=w.heap.size) (c:=(u8s y).toArray) (by rw[rV4];simp) (by rw[rV4];simp[hyl])
  (try simp only[Exit.inBlock,Exit.then])
  refine bodyPost_ret (aV rfl (aK rfl ?_)) rfl ?_
  ·rw[hfin]
   simp[hyl]
  refine⟨by rw[hfin],?_,b4.trans (BelowBut.of (Below.setRow (Below.refl _ _) (Nat.le_refl _) _))⟩
  rw[aC _ _ _ (by omega)]
  exact rA4
end
section
open Go.RowKit
def iY (root info:List UInt8):Nat->List UInt8
 | 0=>[]
 | i+1=>aC5 root (iY root info i) info (i+1)
def jU (root info:List UInt8):Nat->List UInt8
 | 0=>[]
 | i+1=>jU root info i++iY root info (i+1)
theorem dG (root info:List UInt8) (i:Nat):(iY root info (i+1)).length=32:=qS _ _ _ _
theorem aKE (root info:List UInt8) (i:Nat):(iY root info i).length<=32:=by
 cases i with
 | zero=>simp[iY]
 | succ i=>rw[dG];omega
def OwnK (w:World) (B:Nat) (v:Value) (n:Nat) (l:List UInt8):Prop:=w.ownsRow B 28 32 v n (u8s l)
theorem OwnK.but {w w':World} {B S n:Nat} {v:Value} {l:List UInt8} (h:OwnK w B v n l) (hb:BelowBut w.heap.size S w w') (hS:S<B):OwnK w' B v n l:=by
 obtain⟨hl,⟨rfl,h0⟩ | ⟨g,cap,cur,rfl,hg0,hg,hr⟩⟩:=h
 ·exact⟨hl,.inl ⟨rfl,h0⟩⟩
 ·refine⟨hl,.inr ⟨g,cap,cur,rfl,hg0,?_,hr⟩⟩
  rw[hb.block g ?_ (by omega)]
  ·exact hg
  ·rcases Nat.lt_or_ge g w.heap.size with h1 | h1
   ·exact h1
   ·rw[Array.getElem?_eq_none h1]at hg
    cases hg
theorem aKF:(Tryz.prog.info? 28).map (fun i=>(i.zero.map (·.cells.size),i.size,i.bytes))=some (some 32,32,32):=by kernel_rfl
theorem aI7:∃i z,Tryz.prog.info? 28=some i/\i.zero=some z/\i.size=32/\i.bytes=32/\z.cells.size=32:=by
 have h:=aKF
 cases hi:Tryz.prog.info? 28 with
 | none=>rw[hi]at h;simp at h
 | some i=>
  rw[hi]at h
  simp at h
  obtain⟨⟨z,h1,h2⟩,h3,h4⟩:=h
  exact⟨i,z,rfl,h1,h3,h4,h2⟩
theorem aHk (l:List Value) (c:Array Value) (h:c.size=l.length):List.foldl (fun cs x=>cs.setIfInBounds x.snd x.fst) c l.zipIdx=l.toArray:=by
 have h1:=p9 0 l c 0 (by omega)
 simp only[Nat.zero_add]at h1
 rw[h1,eO]
 apply Array.ext'
 simp
 omega
theorem wF {w:World} {ops:Array Oper} {rest:List Oper} {o:Oper} {a:Act} {Q:Exit->Act->World->Prop} (hgd:o.guard=none) {s x:Operand}
  (ho:o.op=.call {callee:=.builtin .append,args:=#[s,x],argTypes:=#[50,50]})
  (base:Nat) (v:Value) (n:Nat) (l:List UInt8) (hs:a.eval s=v) (hown:OwnK w base v n l)
  (u:List UInt8) (hx:a.eval x=.slice (some ⟨w.heap.size,0,none⟩) 1 1) (hu:u.length=32) (hn:n<=10000) (hbase:base<=w.heap.size)
  (h:∀v' w',OwnK w' base v' (n+1) (l++u)->Below base w w'->wpList Tryz.prog ops Q rest (a.put o.dst v') w'):
  wpList Tryz.prog ops Q (o::rest) a (w.alloc (.cells (u8s u).toArray 28)):=by
 obtain⟨i0,z,hi,hz,h32,hb32,hzs⟩:=aI7
 refine wpList_append_own _ hgd s x _ ho base 28 i0 z 32 32 Tryz.underlying50 hi hz h32 hb32 hzs (by decide) v n (u8s l) hs (World.ownsRow.alloc hown _) ⟨w.heap.size,0,none⟩ 1 1 (u8s u) hx (by simp[hu]) ?_ (aCg u) ?_ ?_ ?_ ?_
 ·intro j y hj
  have hlt:j<(u8s u).length:=by
   rcases Nat.lt_or_ge j (u8s u).length with h1 | h1
   ·exact h1
   ·rw[List.getElem?_eq_none h1]at hj;cases hj
  have:(⟨w.heap.size,0,none⟩:Addr).add j=⟨w.heap.size,j,none⟩:=by
   simp[Addr.add]
   try exact fun h=>h.symm
  have hr:row (w.alloc (.cells (u8s u).toArray 28)) w.heap.size=(u8s u).toArray:=aE _ _ _ rfl
  rw[this,aQ (by rw[hr];simpa using hlt),hr,List.getElem?_toArray]
  exact hj
 ·unfold maxLen;omega
 ·omega
 ·simp;omega
 ·intro v' w' h1 h2 _
  refine h v' w' ?_ (((Below.refl base w).alloc hbase _).grown h2 (by simp;omega) fun k hk=>(World.ownsRow.lt hown k hk).1)
  unfold OwnK
  rw[gC]
  exact h1
attribute [local irreducible] aC5
theorem aI8 (root info:List UInt8) (n:Nat) (w:World) (hroot:root.length=32) (hin:info.length<=1000) (hn:n<=255):
  Calls Tryz.prog 196 #[.agg (u8s root).toArray,.string ⟨info.toArray⟩,.int .i64 n] w fun e w'=>∃v,e=.returned v/\OwnK w' (w.heap.size+1+1+1) v n (jU root info n)/\Below w.heap.size w w':=by
 have hnI:(n:Int)<=255:=by omega
 have hn0:¬(n:Int)<0:=by omega
 have hn1:¬(255:Int)<(n:Int):=by omega
 go_enter Tryz.func196,Tryz.ntmps196
 go_wp2_with fail
 go_loopw [9,19] (fun v i wr=>∃m:Nat,m<=n/\i=.int .i64 m/\OwnK wr (w.heap.size+1+1+1) v m (jU root info m)/\row wr (w.heap.size+1+1)=#[.string ⟨(iY root info m).toArray⟩]/\row wr (w.heap.size+1)=#[.string ⟨info.toArray⟩]/\row wr w.heap.size=(u8s root).toArray/\w.heap.size+1+1<wr.heap.size/\Below w.heap.size w wr) (fun _ i _=>n - (intOf i).toNat)
 case atStart=>
  refine⟨0,by omega,rfl,World.ownsRow_nil _ _ _ _,?_,?_,?_,by simp,eD⟩
  ·simp[go_sem,iY]
  ·simp[go_sem]
  ·simp[go_sem]
 case round=>
  obtain⟨m,hm,rfl,hown,hA,hI,hR,hz,hbel⟩:=hrel
  by_cases hlt:m<n
  ·have h1:(m:Int)<n:=by omega
   have hw1:IntKind.i64.wrap ((m:Int)+1)=((m+1:Nat):Int):=by rw[IntKind.wrap_i64];omega
   have hN:=h_ (aI6 root (iY root info m) info (m+1) w.heap.size (w.heap.size+1+1) (w.heap.size+1) wr hroot (aKE _ _ _) hin (by omega) hR hA hI (by omega) (by omega))
   rw[show((m+1:Nat):Int)=(m:Int)+1 by push_cast;rfl]at hN
   have hkl:=dG root info m
   have HKF:=h_ (show jU root info (m+1)=jU root info m++iY root info (m+1)from rfl)
   rw[show aC5 root (iY root info m) info (m+1)=iY root info (m+1)from rfl]at hN
   obtain⟨y,hy⟩:∃y,iY root info (m+1)=y:=⟨_,rfl⟩
   have HY:=h_ hy
   rw[hy]at hN hkl HKF
   have hfold:=aHk (u8s y) (aH 32 (.int .u8 0)).toArray (by simp[hkl])
   simp only[aH,List.replicate]at hfold
   clear hy
   go_wp2_with fail
   (with_reducible refine(hN.out).mono ?_)
   rintro e w2 ⟨rfl,rA,bB⟩
   have z2:=bB.size
   have own2:=hown.but bB (by omega)
   have hI2:=(bB.row (show w.heap.size+1<wr.heap.size by omega) (by omega)).trans hI
   have hR2:=(bB.row (show w.heap.size<wr.heap.size by omega) (by omega)).trans hR
   have hb2:Below w.heap.size w w2:=Below.trans hbel ((bB.mono (by omega)).below (by omega))
   clear hN bB hown hI hR hA hbel
   go_wp2_with (at_builtin;refine wF rfl rfl (w.heap.size+1+1+1) _ m _ rfl own2 y rfl hkl (by omega) (by omega) ?_)
   intro v' w3 o3 b3
   go_wp2_with fail
   go_roundw
   case rel=>
    exact⟨m+1,by omega,rfl,by rw[HKF.out];exact o3,by rw[aA b3 (by omega),HY.out];exact rA,(aA b3 (by omega)).trans hI2,(aA b3 (by omega)).trans hR2,by have:=b3.size;omega,hb2.trans (b3.mono (by omega))⟩
   case measure=>simp[intOf];omega
  ·obtain rfl:m=n:=by omega
   have h1:¬(m:Int)<(m:Int):=by omega
   go_wp2_with fail
   go_ret
   exact⟨_,rfl,hown,hbel⟩
end
section
open Go.RowKit
theorem mA (k:List UInt8) (w:World) (hk:k.length=32):
  Calls Tryz.prog 110 #[.agg (u8s k).toArray] w fun e w'=>e=.returned (.string ⟨k.toArray⟩)/\Below w.heap.size w w':=by
 go_enter Tryz.func110,Tryz.ntmps110
 go_wp2_with fail
 go_ret
 exact⟨rfl,eD⟩
attribute [local irreducible] l8
theorem aI9 (a b:List UInt8) (w:World) (ha:a.length<=400000) (hb:b.length<=400000):
  Calls Tryz.prog 173 #[.string ⟨a.toArray⟩,.string ⟨b.toArray⟩] w fun e w'=>e=.returned (.agg (u8s (l8 (a++b))).toArray)/\Below w.heap.size w w':=by
 have HS:=h_ (fun w=>aAn (a++b) w (by simp;omega))
 have hyl:=cW (a++b)
 obtain⟨y,hy⟩:∃y,l8 (a++b)=y:=⟨_,rfl⟩
 rw[hy]at HS hyl ⊢
 clear hy
 have haI:(a.length:Int)<=400000:=by omega
 have hbI:(b.length:Int)<=400000:=by omega
 have hl3:¬9223372036854775807<a.length+b.length:=by omega
 go_enter Tryz.func173,Tryz.ntmps173
 go_wp2_with fail
 refine(HS.out _).mono ?_
 rintro e w1 ⟨rfl,b1⟩
 have rR1:row w1 w.heap.size=(aH 32 (.int .u8 0)).toArray:=by rw[aA b1 (by simp only[aF];omega)];simp[go_sem]
 have z1:w.heap.size<w1.heap.size:=by have:=b1.size;simp only[aF]at this;omega
 replace b1:=cJ b1 (show Below (w).heap.size w _ from by(repeat (first | exact Below.refl _ _ | refine Below.al ?_ _ | refine Below.drew ?_ | refine Below.sr ?_ _ | refine Below.sc ?_ _))) (by first | (simp;done) | (simp;omega) | omega)
 clear HS
 go_wp2_with fail
 have hfin:=aB (w:=w1) (g:=w.heap.size) (c:=(u8s y).toArray) (by rw[rR1];simp) (by rw[rR1];simp[hyl])
 (try simp only[Exit.inBlock,Exit.then])
 refine bodyPost_ret (aV rfl (aK rfl ?_)) rfl ?_
 ·rw[hfin]
  simp[hyl]
 refine⟨by rw[hfin],?_⟩
 exact Below.setRow b1 (by omega) _
structure TalkT where
 h:List UInt8
 c:List UInt8
 k:List UInt8
 n:Nat
 s:List UInt8
structure TalkT.ok (t:TalkT):Prop where
 h:t.h.length=32
 c:t.c.length=32
 k:t.k.length=32
 s:t.s.length=32
 n:t.n<=100
def TalkT.cells (t:TalkT):List Value:=u8s t.h++(u8s t.c++(u8s t.k++(.int .u64 (t.n:Int)::u8s t.s)))
theorem TalkT.cells_length {t:TalkT} (h:t.ok):t.cells.length=129:=by simp[TalkT.cells,h.h,h.c,h.k,h.s]
end
section
open Go.RowKit
attribute [local irreducible] l8 iX jU
theorem aBN (t:TalkT) (s:List UInt8) (n S:Nat) (w:World) (ht:t.ok) (hs:s.length<=1000) (hn:n<=255) (hS:row w S=t.cells.toArray):
  Calls Tryz.prog 174 #[.pointer (some ⟨S,0,none⟩),.string ⟨s.toArray⟩,.int .i64 n] w fun e w'=>∃v B,e=.returned v/\w.heap.size<=B/\OwnK w' B v n (jU (iX t.c s) [] n)/\Below w.heap.size w w':=by
 have zS:S<w.heap.size:=aM (i:=0) (by rw[hS];simp[TalkT.cells_length ht])
 obtain⟨th,tc,tk,tn,ts⟩:=t
 have h1:=ht.h
 have h2:=ht.c
 have h3:=ht.k
 have h4:=ht.s
 simp only at h1 h2 h3 h4
 unfold TalkT.cells at hS
 simp only at hS ⊢
 have HT:=h_ (fun w=>mA tc w h2)
 have HM:=h_ (fun w=>aC4 tc s w (by omega) (by omega))
 have hyl:=mZ tc s
 obtain⟨y,hy⟩:∃y,iX tc s=y:=⟨_,rfl⟩
 rw[hy]at HM hyl ⊢
 have HK:=h_ (fun w=>aI8 y [] n w hyl (by simp) hn)
 clear hy ht
 go_enter Tryz.func174,Tryz.ntmps174
 go_wp2_with fail
 refine(HT.out _).mono ?_
 rintro e w1 ⟨rfl,b1⟩
 have z1:=b1.size
 clear hS
 go_wp2_with fail
 refine(HM.out _).mono ?_
 rintro e w2 ⟨rfl,b2⟩
 have z2:=b2.size
 go_wp2_with fail
 refine(HK.out _).mono ?_
 rintro e w3 ⟨v,rfl,o3,b3⟩
 have bb:Below w.heap.size w w3:=b1.trans ((b2.mono (by omega)).trans (b3.mono (by omega)))
 go_wp2_with fail
 go_ret
 exact⟨v,w2.heap.size+1+1+1,rfl,by omega,o3,bb⟩
theorem sZ (t:TalkT) (s:List UInt8) (S:Nat) (w:World) (ht:t.ok) (hs:s.length<=400000) (hS:row w S=t.cells.toArray):
  Calls Tryz.prog 146 #[.pointer (some ⟨S,0,none⟩),.string ⟨s.toArray⟩] w fun e w'=>e=.returned (.tuple #[])/\row w' S=({t with h:=l8 (t.h++s)}:TalkT).cells.toArray/\BelowBut w.heap.size S w w':=by
 have zS:S<w.heap.size:=aM (i:=0) (by rw[hS];simp[TalkT.cells_length ht])
 obtain⟨th,tc,tk,tn,ts⟩:=t
 have h1:=ht.h
 have h2:=ht.c
 have h3:=ht.k
 have h4:=ht.s
 simp only at h1 h2 h3 h4
 unfold TalkT.cells at hS ⊢
 simp only at hS ⊢
 have HT:=h_ (fun w=>mA th w h1)
 have HM:=h_ (fun w=>aI9 th s w (by omega) hs)
 have hyl:=cW (th++s)
 obtain⟨y,hy⟩:∃y,l8 (th++s)=y:=⟨_,rfl⟩
 rw[hy]at HM hyl ⊢
 clear hy ht
 go_enter Tryz.func146,Tryz.ntmps146
 go_wp2_with fail
 refine(HT.out _).mono ?_
 rintro e w1 ⟨rfl,b1⟩
 have z1:=b1.size
 have hS1:=(aA b1 zS).trans hS
 go_wp2_with fail
 refine(HM.out _).mono ?_
 rintro e w2 ⟨rfl,b2⟩
 have z2:=b2.size
 have hS2:=(aA b2 (by omega)).trans hS1
 have zS2:S<w2.heap.size:=by omega
 have bb:Below w.heap.size w w2:=b1.trans (b2.mono (by omega))
 clear hS hS1 HT HM b1 b2
 go_wp2_with fail
 go_end0
 exact⟨rfl,aB (by rw[hS2];simp;omega) (by rw[hS2];simp[hyl,h1]),(BelowBut.of bb).trans (BelowBut.set _ _)⟩
end
section
open Go.RowKit
theorem OwnK.form {w:World} {B n:Nat} {v:Value} {l:List UInt8} (h:OwnK w B v n l) (hn:0<n):
  ∃g c s,v=.slice (some ⟨g,0,none⟩) n c/\B<=g/\g<w.heap.size/\row w g=(u8s l++s).toArray:=by
 obtain⟨hl,⟨rfl,h0⟩ | ⟨g,cap,cur,rfl,hg0,hg,hnc,hm,hc,ht⟩⟩:=h
 ·omega
 ·refine⟨g,cap,cur.toList.drop (n*32),rfl,hg0,?_,?_⟩
  ·rcases Nat.lt_or_ge g w.heap.size with h1 | h1
   ·exact h1
   ·rw[Array.getElem?_eq_none h1]at hg
    cases hg
  ·unfold row
   rw[hg]
   apply Array.ext'
   simp only[if_true,true_or]
   conv=>lhs;rw[<-List.take_append_drop (n*32) cur.toList,ht]
theorem aHl (y:List UInt8):jU y [] 2=iY y [] 1++iY y [] 2:=by simp[jU]
attribute [local irreducible] l8 iX jU iY
theorem aHm (t:TalkT) (s:List UInt8) (S:Nat) (w:World) (ht:t.ok) (hs:s.length<=1000) (hS:row w S=t.cells.toArray):
  Calls Tryz.prog 149 #[.pointer (some ⟨S,0,none⟩),.string ⟨s.toArray⟩] w fun e w'=>e=.returned (.tuple #[])/\row w' S=({t with c:=iY (iX t.c s) [] 1,k:=iY (iX t.c s) [] 2,n:=0}:TalkT).cells.toArray/\BelowBut w.heap.size S w w':=by
 have zS:S<w.heap.size:=aM (i:=0) (by rw[hS];simp[TalkT.cells_length ht])
 have HK:=h_ (aBN t s 2 S w ht hs (by omega) hS)
 obtain⟨th,tc,tk,tn,ts⟩:=t
 have h1:=ht.h
 have h2:=ht.c
 have h3:=ht.k
 have h4:=ht.s
 simp only at h1 h2 h3 h4 HK
 rw[aHl]at HK
 unfold TalkT.cells at hS ⊢
 simp only at hS ⊢
 have l1:=dG (iX tc s) [] 0
 have l2:=dG (iX tc s) [] 1
 simp only[Nat.zero_add,Nat.reduceAdd]at l1 l2
 obtain⟨a,ha⟩:∃a,iY (iX tc s) [] 1=a:=⟨_,rfl⟩
 obtain⟨b,hb⟩:∃b,iY (iX tc s) [] 2=b:=⟨_,rfl⟩
 rw[ha]at HK l1 ⊢
 rw[hb]at HK l2 ⊢
 clear ha hb ht
 go_enter Tryz.func149,Tryz.ntmps149
 go_wp2_with fail
 refine(HK.out).mono ?_
 rintro e w1 ⟨v,B,rfl,hB,own,b1⟩
 obtain⟨g,c,sp,rfl,hg,zg,rg⟩:=own.form (by omega)
 rw[gC,List.append_assoc]at rg
 have z1:=b1.size
 have hS1:=(aA b1 zS).trans hS
 clear HK hS own
 go_wp2_with fail
 have hSd:row w1.drew S=(u8s th++(u8s tc++(u8s tk++(.int .u64 (tn:Int)::u8s ts)))).toArray:=hS1
 have hgS:S<g:=by omega
 have q1:64<=32+(32+sp.length):=by omega
 have q2:32+32<=32+(32+sp.length):=by omega
 have q3:64<=a.length+(b.length+sp.length):=by omega
 have q4:32+32<=a.length+(b.length+sp.length):=by omega
 refine jY [(g,(u8s a++(u8s b++sp)).toArray)] (fun hS=>?_)
 refine qp 0 hS ?_
 refine qp 1 hS ?_
 refine qp 2 hS ?_
 refine qp 3 hS ?_
 refine qp 4 hS ?_
 refine qp 5 hS ?_
 refine qp 6 hS ?_
 refine qp 7 hS ?_
 refine qp 8 hS ?_
 refine qp 9 hS ?_
 refine qp 10 hS ?_
 refine bI (i:=11) (b:=S) (c:=(u8s th++(u8s a++(u8s tk++(.int .u64 (tn:Int)::u8s ts)))).toArray) cD rfl rfl kr_ (by simp;(try omega)) hS (by rw[hSd];simp;(try omega)) (fun w1 hr=>by rw[hSd]at hr;go_simp;(try rfl)) (fun u1 hu1 ru1 hS=>?_)
 have c0:BelowBut w.heap.size S w w1.drew:=BelowBut.of (Below.drew b1)
 have zd:w1.drew.heap.size=w1.heap.size:=rfl
 have z1:=hu1.size
 have c1:BelowBut w.heap.size S w (u1.setRow S (u8s th++(u8s a++(u8s tk++(.int .u64 (tn:Int)::u8s ts)))).toArray):=(c0.trans (BelowBut.of (hu1.mono (by first | omega | (show w.heap.size<=w1.heap.size;omega))))).trans (BelowBut.set _ _)
 obtain⟨w2,hw2⟩:∃v,u1.setRow S (u8s th++(u8s a++(u8s tk++(.int .u64 (tn:Int)::u8s ts)))).toArray=v:=⟨_,rfl⟩
 have rw2:row w2 S=(u8s th++(u8s a++(u8s tk++(.int .u64 (tn:Int)::u8s ts)))).toArray:=by
  rw[<-hw2]
  exact aB (by rw[ru1,hSd];simp;omega) (by rw[ru1,hSd];simp;(try omega))
 have zw2:w.heap.size<=w2.heap.size:=by rw[<-hw2,setRow_size];omega
 rw[hw2]at hS c1 ⊢
 clear hw2 hu1 ru1
 refine qp 12 hS ?_
 refine qp 13 hS ?_
 refine bI (i:=14) (b:=S) (c:=(u8s th++(u8s a++(u8s b++(.int .u64 (tn:Int)::u8s ts)))).toArray) cD rfl rfl kr_ (by simp;(try omega)) hS (by rw[rw2];simp;(try omega)) (fun w1 hr=>by rw[rw2]at hr;go_simp;(try rfl)) (fun u2 hu2 ru2 hS=>?_)
 have z2:=hu2.size
 have c2:BelowBut w.heap.size S w (u2.setRow S (u8s th++(u8s a++(u8s b++(.int .u64 (tn:Int)::u8s ts)))).toArray):=(c1.trans (BelowBut.of (hu2.mono (by first | omega | (show w.heap.size<=w1.heap.size;omega))))).trans (BelowBut.set _ _)
 obtain⟨w3,hw3⟩:∃v,u2.setRow S (u8s th++(u8s a++(u8s b++(.int .u64 (tn:Int)::u8s ts)))).toArray=v:=⟨_,rfl⟩
 have rw3:row w3 S=(u8s th++(u8s a++(u8s b++(.int .u64 (tn:Int)::u8s ts)))).toArray:=by
  rw[<-hw3]
  exact aB (by rw[ru2,rw2];simp;omega) (by rw[ru2,rw2];simp;(try omega))
 have zw3:w.heap.size<=w3.heap.size:=by rw[<-hw3,setRow_size];omega
 rw[hw3]at hS c2 ⊢
 clear hw3 hu2 ru2
 refine qp 15 hS ?_
 refine qp 16 hS ?_
 refine bI (i:=17) (b:=S) (c:=(u8s th++(u8s a++(u8s b++(.int .u64 0::u8s ts)))).toArray) cD rfl rfl kr_ (by simp;(try omega)) hS (by rw[rw3];simp;(try omega)) (fun w1 hr=>by rw[rw3]at hr;go_simp;(try rfl)) (fun u3 hu3 ru3 hS=>?_)
 have z3:=hu3.size
 have c3:BelowBut w.heap.size S w (u3.setRow S (u8s th++(u8s a++(u8s b++(.int .u64 0::u8s ts)))).toArray):=(c2.trans (BelowBut.of (hu3.mono (by first | omega | (show w.heap.size<=w1.heap.size;omega))))).trans (BelowBut.set _ _)
 obtain⟨w4,hw4⟩:∃v,u3.setRow S (u8s th++(u8s a++(u8s b++(.int .u64 0::u8s ts)))).toArray=v:=⟨_,rfl⟩
 have rw4:row w4 S=(u8s th++(u8s a++(u8s b++(.int .u64 0::u8s ts)))).toArray:=by
  rw[<-hw4]
  exact aB (by rw[ru3,rw3];simp;omega) (by rw[ru3,rw3];simp;(try omega))
 have zw4:w.heap.size<=w4.heap.size:=by rw[<-hw4,setRow_size];omega
 rw[hw4]at hS c3 ⊢
 clear hw4 hu3 ru3
 refine aG kr_ (fun wN hN=>?_) _
 have rN:row wN S=(u8s th++(u8s a++(u8s b++(.int .u64 0::u8s ts)))).toArray:=by rw[aA hN (by omega)];exact rw4
 have cN:BelowBut w.heap.size S w wN:=c3.trans (BelowBut.of (hN.mono (by omega)))
 go_wp2_with fail
 go_end0
 exact⟨rfl,rN,cN⟩
end
section
open Go.RowKit
theorem aC6 (y:List UInt8):jU y [] 3=iY y [] 1++(iY y [] 2++iY y [] 3):=by simp[jU]
attribute [local irreducible] l8 iX jU iY
theorem aJa (t:TalkT) (s:List UInt8) (S:Nat) (w:World) (ht:t.ok) (hs:s.length<=1000) (hS:row w S=t.cells.toArray):
  Calls Tryz.prog 147 #[.pointer (some ⟨S,0,none⟩),.string ⟨s.toArray⟩] w fun e w'=>e=.returned (.tuple #[])/\row w' S=({t with h:=l8 (t.h++iY (iX t.c s) [] 2),c:=iY (iX t.c s) [] 1,k:=iY (iX t.c s) [] 3,n:=0}:TalkT).cells.toArray/\BelowBut w.heap.size S w w':=by
 have zS:S<w.heap.size:=aM (i:=0) (by rw[hS];simp[TalkT.cells_length ht])
 have HK:=h_ (aBN t s 3 S w ht hs (by omega) hS)
 obtain⟨th,tc,tk,tn,ts⟩:=t
 have h1:=ht.h
 have h2:=ht.c
 have h3:=ht.k
 have h4:=ht.s
 simp only at h1 h2 h3 h4 HK
 rw[aC6]at HK
 unfold TalkT.cells at hS ⊢
 simp only at hS ⊢
 have l1:=dG (iX tc s) [] 0
 have lm:=dG (iX tc s) [] 1
 have l2:=dG (iX tc s) [] 2
 simp only[Nat.zero_add,Nat.reduceAdd]at l1 lm l2
 obtain⟨a,ha⟩:∃a,iY (iX tc s) [] 1=a:=⟨_,rfl⟩
 obtain⟨m,hmm⟩:∃b,iY (iX tc s) [] 2=b:=⟨_,rfl⟩
 obtain⟨b,hb⟩:∃b,iY (iX tc s) [] 3=b:=⟨_,rfl⟩
 rw[ha]at HK l1 ⊢
 rw[hmm]at HK lm ⊢
 rw[hb]at HK l2 ⊢
 clear ha hb hmm ht
 go_enter Tryz.func147,Tryz.ntmps147
 go_wp2_with fail
 refine(HK.out).mono ?_
 rintro e w1 ⟨v,B,rfl,hB,own,b1⟩
 obtain⟨g,c,sp,rfl,hg,zg,rg⟩:=own.form (by omega)
 rw[gC,gC,List.append_assoc,List.append_assoc]at rg
 have z1:=b1.size
 have hS1:=(aA b1 zS).trans hS
 clear HK hS own
 go_wp2_with fail
 have hSd:row w1.drew S=(u8s th++(u8s tc++(u8s tk++(.int .u64 (tn:Int)::u8s ts)))).toArray:=hS1
 have hgS:S<g:=by omega
 have q1:96<=32+(32+(32+sp.length)):=by omega
 have q2:64+32<=32+(32+(32+sp.length)):=by omega
 have q3:32<=32+(32+(32+sp.length)):=by omega
 have q4:64<=32+(32+(32+sp.length)):=by omega
 have q5:32+32<=32+(32+(32+sp.length)):=by omega
 refine jY [(g,(u8s a++(u8s m++(u8s b++sp))).toArray)] (fun hS=>?_)
 refine qp 0 hS ?_
 refine qp 1 hS ?_
 refine qp 2 hS ?_
 refine qp 3 hS ?_
 refine qp 4 hS ?_
 refine qp 5 hS ?_
 refine qp 6 hS ?_
 refine qp 7 hS ?_
 refine qp 8 hS ?_
 refine qp 9 hS ?_
 refine qp 10 hS ?_
 refine bI (i:=11) (b:=S) (c:=(u8s th++(u8s a++(u8s tk++(.int .u64 (tn:Int)::u8s ts)))).toArray) cD rfl rfl kr_ (by simp;(try omega)) hS (by rw[hSd];simp;(try omega)) (fun w1 hr=>by rw[hSd]at hr;go_simp;(try rfl)) (fun u1 hu1 ru1 hS=>?_)
 have c0:BelowBut w.heap.size S w w1.drew:=BelowBut.of (Below.drew b1)
 have zd:w1.drew.heap.size=w1.heap.size:=rfl
 have z1:=hu1.size
 have c1:BelowBut w.heap.size S w (u1.setRow S (u8s th++(u8s a++(u8s tk++(.int .u64 (tn:Int)::u8s ts)))).toArray):=(c0.trans (BelowBut.of (hu1.mono (by first | omega | (show w.heap.size<=w1.heap.size;omega))))).trans (BelowBut.set _ _)
 obtain⟨w2,hw2⟩:∃v,u1.setRow S (u8s th++(u8s a++(u8s tk++(.int .u64 (tn:Int)::u8s ts)))).toArray=v:=⟨_,rfl⟩
 have rw2:row w2 S=(u8s th++(u8s a++(u8s tk++(.int .u64 (tn:Int)::u8s ts)))).toArray:=by
  rw[<-hw2]
  exact aB (by rw[ru1,hSd];simp;omega) (by rw[ru1,hSd];simp;(try omega))
 have zw2:w.heap.size<=w2.heap.size:=by rw[<-hw2,setRow_size];omega
 rw[hw2]at hS c1 ⊢
 clear hw2 hu1 ru1
 refine qp 12 hS ?_
 refine qp 13 hS ?_
 refine bI (i:=14) (b:=S) (c:=(u8s th++(u8s a++(u8s b++(.int .u64 (tn:Int)::u8s ts)))).toArray) cD rfl rfl kr_ (by simp;(try omega)) hS (by rw[rw2];simp;(try omega)) (fun w1 hr=>by rw[rw2]at hr;go_simp;(try rfl)) (fun u2 hu2 ru2 hS=>?_)
 have z2:=hu2.size
 have c2:BelowBut w.heap.size S w (u2.setRow S (u8s th++(u8s a++(u8s b++(.int .u64 (tn:Int)::u8s ts)))).toArray):=(c1.trans (BelowBut.of (hu2.mono (by first | omega | (show w.heap.size<=w1.heap.size;omega))))).trans (BelowBut.set _ _)
 obtain⟨w3,hw3⟩:∃v,u2.setRow S (u8s th++(u8s a++(u8s b++(.int .u64 (tn:Int)::u8s ts)))).toArray=v:=⟨_,rfl⟩
 have rw3:row w3 S=(u8s th++(u8s a++(u8s b++(.int .u64 (tn:Int)::u8s ts)))).toArray:=by
  rw[<-hw3]
  exact aB (by rw[ru2,rw2];simp;omega) (by rw[ru2,rw2];simp;(try omega))
 have zw3:w.heap.size<=w3.heap.size:=by rw[<-hw3,setRow_size];omega
 rw[hw3]at hS c2 ⊢
 clear hw3 hu2 ru2
 refine qp 15 hS ?_
 refine qp 16 hS ?_
 refine bI (i:=17) (b:=S) (c:=(u8s th++(u8s a++(u8s b++(.int .u64 0::u8s ts)))).toArray) cD rfl rfl kr_ (by simp;(try omega)) hS (by rw[rw3];simp;(try omega)) (fun w1 hr=>by rw[rw3]at hr;go_simp;(try rfl)) (fun u3 hu3 ru3 hS=>?_)
 have z3:=hu3.size
 have c3:BelowBut w.heap.size S w (u3.setRow S (u8s th++(u8s a++(u8s b++(.int .u64 0::u8s ts)))).toArray):=(c2.trans (BelowBut.of (hu3.mono (by first | omega | (show w.heap.size<=w1.heap.size;omega))))).trans (BelowBut.set _ _)
 obtain⟨w4,hw4⟩:∃v,u3.setRow S (u8s th++(u8s a++(u8s b++(.int .u64 0::u8s ts)))).toArray=v:=⟨_,rfl⟩
 have rw4:row w4 S=(u8s th++(u8s a++(u8s b++(.int .u64 0::u8s ts)))).toArray:=by
  rw[<-hw4]
  exact aB (by rw[ru3,rw3];simp;omega) (by rw[ru3,rw3];simp;(try omega))
 have zw4:w.heap.size<=w4.heap.size:=by rw[<-hw4,setRow_size];omega
 rw[hw4]at hS c3 ⊢
 clear hw4 hu3 ru3
 refine aG kr_ (fun wN hN=>?_) _
 have rN:row wN S=(u8s th++(u8s a++(u8s b++(.int .u64 0::u8s ts)))).toArray:=by rw[aA hN (by omega)];exact rw4
 have cN:BelowBut w.heap.size S w wN:=c3.trans (BelowBut.of (hN.mono (by omega)))
 have rgN:row wN g=(u8s a++(u8s m++(u8s b++sp))).toArray:=by rw[aA hN hS.2.1];exact hS.1
 have zgN:g<wN.heap.size:=by have:=hS.2.1;have:=hN.size;omega
 have zSN:S<wN.heap.size:=by omega
 clear hN hS
 go_wp2_with fail
 refine(mA m _ lm).mono ?_
 rintro e w5 ⟨rfl,b5⟩
 have r5:=(aA b5 zSN).trans rN
 have z5:=b5.size
 go_wp2_with fail
 refine(sZ ⟨th,a,b,0,ts⟩ m S _ ⟨h1,l1,l2,h4,by simp⟩ (by omega) r5).mono ?_
 rintro e w6 ⟨rfl,r6,b6⟩
 have zw:=cN.size
 go_wp2_with fail
 go_end0
 exact⟨rfl,r6,(cN.trans ((BelowBut.of b5).mono (by omega))).trans (b6.mono (by omega))⟩
end
section
open Go.RowKit
attribute [local irreducible] l8 iX jU iY
def aJb (t:TalkT) (s:List UInt8):TalkT:=⟨l8 (t.h++s),iY (iX t.c s) [] 1,iY (iX t.c s) [] 2,0,t.s⟩
theorem aKG {t:TalkT} (h:t.ok) (s:List UInt8):(aJb t s).ok:=⟨cW _,dG _ _ 0,dG _ _ 1,h.s,by simp[aJb]⟩
theorem aKH (t:TalkT) (s:List UInt8) (S:Nat) (w:World) (ht:t.ok) (hs:s.length<=1000) (hS:row w S=t.cells.toArray):
  Calls Tryz.prog 112 #[.pointer (some ⟨S,0,none⟩),.string ⟨s.toArray⟩] w fun e w'=>e=.returned (.tuple #[])/\row w' S=(aJb t s).cells.toArray/\BelowBut w.heap.size S w w':=by
 have h1:=cW (t.h++s)
 have HA:=h_ (sZ t s S w ht (by omega) hS)
 go_enter Tryz.func112,Tryz.ntmps112
 go_wp2_with fail
 refine(HA.out).mono ?_
 rintro e w1 ⟨rfl,r1,b1⟩
 have z1:=b1.size
 have HB:=h_ (aHm {t with h:=l8 (t.h++s)} s S w1 ⟨h1,ht.c,ht.k,ht.s,ht.n⟩ hs r1)
 clear HA
 go_wp2_with fail
 refine(HB.out).mono ?_
 rintro e w2 ⟨rfl,r2,b2⟩
 go_wp2_with fail
 go_end0
 exact⟨rfl,r2,b1.trans (b2.mono (by omega))⟩
end
section
open Go.RowKit
def aHn:List UInt8:=[78,111,105,115,101,95,78,78,112,115,107,48,95,50,53,53,49,57,95,67,104,97,67,104,97,80,111,108,121,95,83,72,65,50,53,54]
attribute [local irreducible] l8 iX jU iY
def aJc (t:TalkT) (s:List UInt8):TalkT:=⟨l8 (t.h++iY (iX t.c s) [] 2),iY (iX t.c s) [] 1,iY (iX t.c s) [] 3,0,t.s⟩
theorem aJd {t:TalkT} (h:t.ok) (s:List UInt8):(aJc t s).ok:=⟨cW _,dG _ _ 0,dG _ _ 2,h.s,by simp[aJc]⟩
def uT (secret:List UInt8):TalkT:=⟨l8 (l8 aHn++[]),l8 aHn,List.replicate 32 0,0,secret⟩
theorem aFa (secret:List UInt8) (h:secret.length=32):(uT secret).ok:=⟨cW _,cW _,by simp[uT],h,by simp[uT]⟩
def oL (psk secret:List UInt8):TalkT:=aJc (uT secret) psk
theorem aBO (psk secret:List UInt8) (h:secret.length=32):(oL psk secret).ok:=aJd (aFa secret h) psk
theorem aHo (psk secret:List UInt8) (w:World) (hp:psk.length=32) (hs:secret.length=32):
  Calls Tryz.prog 109 #[.agg (u8s psk).toArray,.agg (u8s secret).toArray] w fun e w'=>∃S,e=.returned (.pointer (some ⟨S,0,none⟩))/\w.heap.size<=S/\S<w'.heap.size/\row w' S=(oL psk secret).cells.toArray/\Below w.heap.size w w':=by
 have hyl:=cW aHn
 obtain⟨y,hy⟩:∃y,l8 aHn=y:=⟨_,rfl⟩
 rw[hy]at hyl
 go_enter Tryz.func109,Tryz.ntmps109
 go_wp2_with fail
 refine(aAn aHn _ (by decide)).mono ?_
 rintro e w1 ⟨rfl,b1⟩
 have rP1:row w1 w.heap.size=(u8s psk).toArray:=by rw[aA b1 (by simp only[aF];omega)];simp[go_sem]
 have rS1:row w1 (w.heap.size+1)=(u8s secret).toArray:=by rw[aA b1 (by simp only[aF];omega)];simp[go_sem]
 have z1:w.heap.size+1<w1.heap.size:=by have:=b1.size;simp only[aF]at this;omega
 replace b1:=cJ b1 (show Below (w).heap.size w _ from by(repeat (first | exact Below.refl _ _ | refine Below.al ?_ _ | refine Below.drew ?_ | refine Below.sr ?_ _ | refine Below.sc ?_ _))) (by first | (simp;done) | (simp;omega) | omega)
 rw[hy]
 go_wp2_with fail
 obtain⟨c0,hc0⟩:∃c,(u8s y++(u8s y++(u8s []++(aH 32 (.int .u8 0)++.int .u64 0::u8s secret)))).toArray=c:=⟨_,rfl⟩
 have hcell:c0=(⟨y,y,List.replicate 32 0,0,secret⟩:TalkT).cells.toArray:=by
  rw[<-hc0,TalkT.cells,uF]
  rfl
 rw[hc0]
 obtain⟨w2,hw2⟩:∃v,(w1.alloc (.cells (u8s y).toArray 28)).alloc (.cells c0 278)=v:=⟨_,rfl⟩
 have z2:w2.heap.size=w1.heap.size+1+1:=by rw[<-hw2,aF,aF]
 have r2:row w2 (w1.heap.size+1)=(⟨y,y,List.replicate 32 0,0,secret⟩:TalkT).cells.toArray:=by
  rw[<-hw2,aE _ _ _ (by rw[aF]),hcell]
 have p2:row w2 w.heap.size=(u8s psk).toArray:=by
  rw[<-hw2,aD _ _ (by rw[aF];omega),aD _ _ (by omega)]
  exact rP1
 have b2:Below w.heap.size w w2:=by rw[<-hw2];exact Below.alloc (Below.alloc b1 (by omega) _) (by rw[aF];omega) _
 rw[hw2]
 clear hw2
 refine(sZ ⟨y,y,List.replicate 32 0,0,secret⟩ [] (w1.heap.size+1) w2 ⟨hyl,hyl,by simp,hs,by simp⟩ (by simp) r2).mono ?_
 rintro e w3 ⟨rfl,r3,b3⟩
 have z3:=b3.size
 have p3:=(b3.row (show w.heap.size<w2.heap.size by omega) (by omega)).trans p2
 have bb3:Below w.heap.size w w3:=b2.trans ((b3.mono (by omega)).below (by omega))
 clear r2 p2 b2 b3
 go_wp2_with fail
 refine(mA psk _ hp).mono ?_
 rintro e w4 ⟨rfl,b4⟩
 have z4:=b4.size
 have r4:=(aA b4 (by omega)).trans r3
 have bb4:Below w.heap.size w w4:=bb3.trans (b4.mono (by omega))
 go_wp2_with fail
 refine(aJa ⟨l8 (y++[]),y,List.replicate 32 0,0,secret⟩ psk (w1.heap.size+1) w4 ⟨cW _,hyl,by simp,hs,by simp⟩ (by omega) r4).mono ?_
 rintro e w5 ⟨rfl,r5,b5⟩
 have z5:=b5.size
 go_wp2_with fail
 go_ret
 refine⟨w1.heap.size+1,rfl,by omega,by omega,?_,bb4.trans ((b5.mono (by omega)).below (by omega))⟩
 rw[r5,oL,aJc,uT,hy]
end
end Go.Proofs.YtiagbbknkdgmeaaGreat
