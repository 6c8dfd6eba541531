/- Texts of this proof, merged: Cur, CurT, CurI, CurK, CurO, CurM, CurP, CurQ, CurV, CurE, CurF. -/
import Derived.Test.YtiagbbknkdgmeaaGreatJ2
import Derived.Test.YtiagbbknkdgmeaaGreatBytJ
import Derived.Deep.RegionHeld3
import Derived.WalkKit
import Derived.Test.YtiagbbknkdgmeaaGreatJ35
set_option linter.unusedSimpArgs false
set_option linter.unusedVariables false
set_option maxHeartbeats 8000000
set_option maxRecDepth 20000
namespace Go.Proofs.YtiagbbknkdgmeaaGreat
section
open Go.RowKit
def bO (l:List Int):List Value:=l.map (Value.int .i64)
@[simp] theorem aKR (l : List Int) : (bO l).length = l.length := by simp [bO]
@[simp] theorem aL8 (l : List Int) : eC (bO l) = true := by simp [eC, bO, Value.oneCell']
@[simp] theorem aMS (l : List Int) (i : Nat) (h : i < (bO l).length) : (bO l)[i] = .int .i64 (l[i]'(by simpa using h)) := by simp [bO]
@[simp] theorem aMT (l : List Int) (i : Nat) (v : Int) : (bO l).set i (.int .i64 v) = bO (l.set i v) := by simp [bO, List.map_set]
def aDa (ys:List Int) (i:Nat) (l:List Int):List Int:=l.set i (wrap64 (l.getD i 0+ys.getD i 0))
def fU (xs ys:List Int):List Int:=aU (aDa ys) 16 xs
theorem qW (ys:List Int) (i:Nat) (l:List Int):(aDa ys i l).length=l.length:=by simp[aDa]
theorem s8 (xs ys:List Int) (w:World) (hx:xs.length=16) (hy:ys.length=16):
  Calls Tryz.prog 198 #[.agg (bO xs).toArray,.agg (bO ys).toArray] w fun e w'=>e=.returned (.agg (bO (fU xs ys)).toArray)/\Below w.heap.size w w':=by
 go_enter Tryz.func198,Tryz.ntmps198
 go_wp2_with fail
 go_loopw [6] (fun i wr=>∃k:Nat,k<=16/\i=.int .i64 k/\row wr w.heap.size=(bO (aU (aDa ys) k xs)).toArray/\row wr (w.heap.size+1)=(bO ys).toArray/\row wr (w.heap.size+1+1)=(aH 16 (Value.int .i64 0)).toArray/\Below w.heap.size w wr) (fun i _=>16 - (intOf i).toNat)
 case atStart=>
  refine⟨0,by omega,rfl,by simp[go_sem,aU],by simp[go_sem],by simp[go_sem],?_⟩
  (repeat (first | exact Below.refl _ _ | refine Below.al ?_ _ | refine Below.drew ?_ | refine Below.sr ?_ _ | refine Below.sc ?_ _))
 case round=>
  obtain⟨k,hk,rfl,hX,hY,hR,hbel⟩:=hrel
  obtain⟨L,hL⟩:∃L,aU (aDa ys) k xs=L:=⟨_,rfl⟩
  have hLl:L.length=16:=by rw[<-hL,bZ (qW ys),hx]
  rw[hL]at hX
  have HL:=h_ hL
  clear hL
  by_cases hlt:k<16
  ·have h1:(k:Int)<16:=by omega
   have hk1:k<L.length:=by omega
   have hk2:k<ys.length:=by omega
   go_wp2_with fail
   go_region
   go_wp2_with fail
   go_roundw
   case rel=>
    have e:aU (aDa ys) (k+1) xs=L.set k (wrap64 (L[k]+ys[k])):=by
     rw[aU,HL.out]
     simp[aDa,List.getD_eq_getElem?_getD,hk1,hk2]
    refine⟨k+1,by omega,rfl,?_,by(try show row (World.setRow _ _ _) _=_);rw[aC _ _ _ (by omega)];exact hY,by(try show row (World.setRow _ _ _) _=_);rw[aC _ _ _ (by omega)];exact hR,?_⟩
    ·rw[e]
     exact aB (by rw[hX];simp;omega) (by rw[hX];simp)
    ·refine Below.drew (Below.setRow hbel (Nat.le_refl _) _)
   case measure=>simp[intOf];omega
  ·obtain rfl:k=16:=by omega
   rw[show((16:Nat):Int)=16 from rfl]
   go_wp2_with fail
   have e:L=fU xs ys:=HL.out.symm
   rw[e]at hX hLl ⊢
   have hfin:=aB (w:=wr) (g:=w.heap.size+1+1) (c:=(bO (fU xs ys)).toArray) (by rw[hR];simp) (by rw[hR];simp[hLl])
   (try simp only[Exit.inBlock,Exit.then])
   refine bodyPost_ret (aV rfl (aK rfl ?_)) rfl ?_
   ·rw[hfin]
    simp[hLl]
   refine⟨by rw[hfin],?_⟩
   exact Below.setRow hbel (by omega) _
def aDb (ys:List Int) (i:Nat) (l:List Int):List Int:=l.set i (wrap64 (l.getD i 0 - ys.getD i 0))
def j9 (xs ys:List Int):List Int:=aU (aDb ys) 16 xs
theorem qX (ys:List Int) (i:Nat) (l:List Int):(aDb ys i l).length=l.length:=by simp[aDb]
theorem s9 (xs ys:List Int) (w:World) (hx:xs.length=16) (hy:ys.length=16):
  Calls Tryz.prog 199 #[.agg (bO xs).toArray,.agg (bO ys).toArray] w fun e w'=>e=.returned (.agg (bO (j9 xs ys)).toArray)/\Below w.heap.size w w':=by
 go_enter Tryz.func199,Tryz.ntmps199
 go_wp2_with fail
 go_loopw [6] (fun i wr=>∃k:Nat,k<=16/\i=.int .i64 k/\row wr w.heap.size=(bO (aU (aDb ys) k xs)).toArray/\row wr (w.heap.size+1)=(bO ys).toArray/\row wr (w.heap.size+1+1)=(aH 16 (Value.int .i64 0)).toArray/\Below w.heap.size w wr) (fun i _=>16 - (intOf i).toNat)
 case atStart=>
  refine⟨0,by omega,rfl,by simp[go_sem,aU],by simp[go_sem],by simp[go_sem],?_⟩
  (repeat (first | exact Below.refl _ _ | refine Below.al ?_ _ | refine Below.drew ?_ | refine Below.sr ?_ _ | refine Below.sc ?_ _))
 case round=>
  obtain⟨k,hk,rfl,hX,hY,hR,hbel⟩:=hrel
  obtain⟨L,hL⟩:∃L,aU (aDb ys) k xs=L:=⟨_,rfl⟩
  have hLl:L.length=16:=by rw[<-hL,bZ (qX ys),hx]
  rw[hL]at hX
  have HL:=h_ hL
  clear hL
  by_cases hlt:k<16
  ·have h1:(k:Int)<16:=by omega
   have hk1:k<L.length:=by omega
   have hk2:k<ys.length:=by omega
   go_wp2_with fail
   go_region
   go_wp2_with fail
   go_roundw
   case rel=>
    have e:aU (aDb ys) (k+1) xs=L.set k (wrap64 (L[k] - ys[k])):=by
     rw[aU,HL.out]
     simp[aDb,List.getD_eq_getElem?_getD,hk1,hk2]
    refine⟨k+1,by omega,rfl,?_,by(try show row (World.setRow _ _ _) _=_);rw[aC _ _ _ (by omega)];exact hY,by(try show row (World.setRow _ _ _) _=_);rw[aC _ _ _ (by omega)];exact hR,?_⟩
    ·rw[e]
     exact aB (by rw[hX];simp;omega) (by rw[hX];simp)
    ·refine Below.drew (Below.setRow hbel (Nat.le_refl _) _)
   case measure=>simp[intOf];omega
  ·obtain rfl:k=16:=by omega
   rw[show((16:Nat):Int)=16 from rfl]
   go_wp2_with fail
   have e:L=j9 xs ys:=HL.out.symm
   rw[e]at hX hLl ⊢
   have hfin:=aB (w:=wr) (g:=w.heap.size+1+1) (c:=(bO (j9 xs ys)).toArray) (by rw[hR];simp) (by rw[hR];simp[hLl])
   (try simp only[Exit.inBlock,Exit.then])
   refine bodyPost_ret (aV rfl (aK rfl ?_)) rfl ?_
   ·rw[hfin]
    simp[hLl]
   refine⟨by rw[hfin],?_⟩
   exact Below.setRow hbel (by omega) _
def uZ (i:Nat) (l:List Int):List Int:=(l.set i (wrap64 (l.getD i 0 - wrap64 (l.getD i 0 / 65536*65536)))).set (i+1) (wrap64 (l.getD (i+1) 0+l.getD i 0 / 65536))
def iJ (xs:List Int):List Int:=aU uZ 15 xs
theorem oM (i:Nat) (l:List Int):(uZ i l).length=l.length:=by simp[uZ]
theorem fE (l:List Int):(iJ l).length=l.length:=bZ oM _ _
theorem u0 (xs:List Int) (w:World) (hx:xs.length=16):
  Calls Tryz.prog 201 #[.agg (bO xs).toArray] w fun e w'=>e=.returned (.agg (bO (iJ xs)).toArray)/\Below w.heap.size w w':=by
 go_enter Tryz.func201,Tryz.ntmps201
 go_wp2_with fail
 go_loopw [5] (fun i wr=>∃k:Nat,k<=15/\i=.int .i64 k/\row wr w.heap.size=(bO (aU uZ k xs)).toArray/\row wr (w.heap.size+1)=(aH 16 (Value.int .i64 0)).toArray/\Below w.heap.size w wr) (fun i _=>15 - (intOf i).toNat)
 case atStart=>
  refine⟨0,by omega,rfl,by simp[go_sem,aU],by simp[go_sem],?_⟩
  (repeat (first | exact Below.refl _ _ | refine Below.al ?_ _ | refine Below.drew ?_ | refine Below.sr ?_ _ | refine Below.sc ?_ _))
 case round=>
  obtain⟨k,hk,rfl,hX,hR,hbel⟩:=hrel
  obtain⟨L,hL⟩:∃L,aU uZ k xs=L:=⟨_,rfl⟩
  have hLl:L.length=16:=by rw[<-hL,bZ oM,hx]
  rw[hL]at hX
  have HL:=h_ hL
  clear hL
  by_cases hlt:k<15
  ·have h1:(k:Int)<15:=by omega
   have hk1:k<L.length:=by omega
   have hk2:k+1<L.length:=by omega
   have hk3:k<16:=by omega
   have hk4:k+1<16:=by omega
   have hX1:=aB (w:=wr) (g:=w.heap.size) (c:=(bO (L.set k (wrap64 (L[k] - wrap64 (L[k] / 65536*65536))))).toArray) (by rw[hX];simp;omega) (by rw[hX];simp)
   go_wp2_with fail
   go_roundw
   case rel=>
    have e:aU uZ (k+1) xs=(L.set k (wrap64 (L[k] - wrap64 (L[k] / 65536*65536)))).set (k+1) (wrap64 (L[k+1]+L[k] / 65536)):=by
     rw[aU,HL.out]
     simp[uZ,List.getD_eq_getElem?_getD,hk1,hk2]
    refine⟨k+1,by omega,rfl,?_,by(try show row (World.setRow _ _ _) _=_);rw[aC _ _ _ (by omega)];exact hR,?_⟩
    ·rw[e]
     exact aB (by rw[hX];simp;omega) (by rw[hX];simp)
    ·refine Below.setRow hbel (Nat.le_refl _) _
   case measure=>simp[intOf];omega
  ·obtain rfl:k=15:=by omega
   rw[show((15:Nat):Int)=15 from rfl]
   go_wp2_with fail
   have e:L=iJ xs:=HL.out.symm
   rw[e]at hX hLl ⊢
   have hfin:=aB (w:=wr) (g:=w.heap.size+1) (c:=(bO (iJ xs)).toArray) (by rw[hR];simp) (by rw[hR];simp[hLl])
   (try simp only[Exit.inBlock,Exit.then])
   refine bodyPost_ret (aV rfl (aK rfl ?_)) rfl ?_
   ·rw[hfin]
    simp[hLl]
   refine⟨by rw[hfin],?_⟩
   exact Below.setRow hbel (by omega) _
def fZ (i:Nat) (l:List Int):List Int:=if i+1<16 then (l.set i (wrap64 (l.getD i 0 - wrap64 (l.getD i 0 / 65536*65536)))).set (i+1) (wrap64 (l.getD (i+1) 0+l.getD i 0 / 65536))else (l.set i (wrap64 (l.getD i 0 - wrap64 (l.getD i 0 / 65536*65536)))).set 0 (wrap64 (l.getD 0 0+wrap64 (38*(l.getD i 0 / 65536))))
def cK (xs:List Int):List Int:=aU fZ 16 xs
theorem lE (i:Nat) (l:List Int):(fZ i l).length=l.length:=by unfold fZ;split<;>simp
theorem dH (l:List Int):(cK l).length=l.length:=bZ lE _ _
theorem iB (xs:List Int) (w:World) (hx:xs.length=16):
  Calls Tryz.prog 200 #[.agg (bO xs).toArray] w fun e w'=>e=.returned (.agg (bO (cK xs)).toArray)/\Below w.heap.size w w':=by
 go_enter Tryz.func200,Tryz.ntmps200
 go_wp2_with fail
 go_loopw [5] (fun i wr=>∃k:Nat,k<=16/\i=.int .i64 k/\row wr w.heap.size=(bO (aU fZ k xs)).toArray/\row wr (w.heap.size+1)=(aH 16 (Value.int .i64 0)).toArray/\Below w.heap.size w wr) (fun i _=>16 - (intOf i).toNat)
 case atStart=>
  refine⟨0,by omega,rfl,by simp[go_sem,aU],by simp[go_sem],?_⟩
  (repeat (first | exact Below.refl _ _ | refine Below.al ?_ _ | refine Below.drew ?_ | refine Below.sr ?_ _ | refine Below.sc ?_ _))
 case round=>
  obtain⟨k,hk,rfl,hX,hR,hbel⟩:=hrel
  obtain⟨L,hL⟩:∃L,aU fZ k xs=L:=⟨_,rfl⟩
  have hLl:L.length=16:=by rw[<-hL,bZ lE,hx]
  rw[hL]at hX
  have HL:=h_ hL
  clear hL
  by_cases hlt:k<16
  ·have h1:(k:Int)<16:=by omega
   have hk1:k<L.length:=by omega
   have hk3:k<16:=by omega
   have hX1:=aB (w:=wr) (g:=w.heap.size) (c:=(bO (L.set k (wrap64 (L[k] - wrap64 (L[k] / 65536*65536))))).toArray) (by rw[hX];simp;omega) (by rw[hX];simp)
   by_cases hk15:k+1<16
   ·have hk2:k+1<L.length:=by omega
    have hk5:(k:Int)+1<16:=by omega
    go_wp2_with fail
    go_roundw
    case rel=>
     have e:aU fZ (k+1) xs=(L.set k (wrap64 (L[k] - wrap64 (L[k] / 65536*65536)))).set (k+1) (wrap64 (L[k+1]+L[k] / 65536)):=by
      rw[aU,HL.out]
      simp[fZ,List.getD_eq_getElem?_getD,hk1,hk2,hk15]
     refine⟨k+1,by omega,rfl,?_,by(try show row (World.setRow _ _ _) _=_);rw[aC _ _ _ (by omega)];exact hR,?_⟩
     ·rw[e]
      exact aB (by rw[hX];simp;omega) (by rw[hX];simp)
     ·refine Below.setRow hbel (Nat.le_refl _) _
    case measure=>simp[intOf];omega
   ·obtain rfl:k=15:=by omega
    have hk0:0<L.length:=by omega
    rw[show((15:Nat):Int)=15 from rfl]
    go_wp2_with fail
    go_roundw
    case rel=>
     have e:aU fZ 16 xs=(L.set 15 (wrap64 (L[15] - wrap64 (L[15] / 65536*65536)))).set 0 (wrap64 (L[0]+wrap64 (38*(L[15] / 65536)))):=by
      rw[aU,HL.out]
      simp[fZ,List.getD_eq_getElem?_getD,hk1,hk0]
     refine⟨16,by omega,rfl,?_,by(try show row (World.setRow _ _ _) _=_);rw[aC _ _ _ (by omega)];exact hR,?_⟩
     ·rw[e]
      exact aB (by rw[hX];simp;omega) (by rw[hX];simp)
     ·refine Below.setRow hbel (Nat.le_refl _) _
    case measure=>simp[intOf]
  ·obtain rfl:k=16:=by omega
   rw[show((16:Nat):Int)=16 from rfl]
   go_wp2_with fail
   have e:L=cK xs:=HL.out.symm
   rw[e]at hX hLl ⊢
   have hfin:=aB (w:=wr) (g:=w.heap.size+1) (c:=(bO (cK xs)).toArray) (by rw[hR];simp) (by rw[hR];simp[hLl])
   (try simp only[Exit.inBlock,Exit.then])
   refine bodyPost_ret (aV rfl (aK rfl ?_)) rfl ?_
   ·rw[hfin]
    simp[hLl]
   refine⟨by rw[hfin],?_⟩
   exact Below.setRow hbel (by omega) _
end
section
open Go.RowKit
def aKS (xs ys:List Int) (i j:Nat) (t:List Int):List Int:=t.set (i+j) (wrap64 (t.getD (i+j) 0+wrap64 (xs.getD i 0*ys.getD j 0)))
def aMU (xs ys:List Int) (i:Nat) (t:List Int):List Int:=aU (aKS xs ys i) 16 t
def aKT (xs ys:List Int):List Int:=aU (aMU xs ys) 16 (List.replicate 31 0)
def aAp (t:List Int) (i:Nat) (o:List Int):List Int:=if i+16<31 then o.set i (wrap64 (t.getD i 0+wrap64 (38*t.getD (i+16) 0)))else o.set i (t.getD i 0)
def aJk (t:List Int):List Int:=aU (aAp t) 16 (List.replicate 16 0)
def aX (xs ys:List Int):List Int:=cK (cK (aJk (aKT xs ys)))
theorem vA (xs ys:List Int) (i j:Nat) (t:List Int):(aKS xs ys i j t).length=t.length:=by simp[aKS]
theorem aDc (xs ys:List Int) (i:Nat) (t:List Int):(aMU xs ys i t).length=t.length:=bZ (vA xs ys i) _ _
theorem qY (t:List Int) (i:Nat) (o:List Int):(aAp t i o).length=o.length:=by unfold aAp;split<;>simp
theorem aBR (t:List Int):(aJk t).length=16:=by simp[aJk,bZ (qY t)]
theorem bH (xs ys:List Int):(aX xs ys).length=16:=by simp[aX,dH,aBR]
theorem dX (xs ys:List Int) (w:World) (hx:xs.length=16) (hy:ys.length=16):
  Calls Tryz.prog 178 #[.agg (bO xs).toArray,.agg (bO ys).toArray] w fun e w'=>e=.returned (.agg (bO (aX xs ys)).toArray)/\Below w.heap.size w w':=by
 go_enter Tryz.func178,Tryz.ntmps178
 go_wp2_with fail
 go_loopw [10] (fun i wr=>∃k:Nat,k<=16/\i=.int .i64 k/\row wr w.heap.size=(bO xs).toArray/\row wr (w.heap.size+1)=(bO ys).toArray/\row wr (w.heap.size+1+1)=(aH 16 (Value.int .i64 0)).toArray/\row wr (w.heap.size+1+1+1)=(bO (aU (aMU xs ys) k (List.replicate 31 0))).toArray/\w.heap.size+1+1+1<wr.heap.size/\Below w.heap.size w wr) (fun i _=>16 - (intOf i).toNat)
 case atStart=>
  refine⟨0,by omega,rfl,by simp[go_sem],by simp[go_sem],by simp[go_sem],by simp[go_sem,aU];rfl,by simp,?_⟩
  (repeat (first | exact Below.refl _ _ | refine Below.al ?_ _ | refine Below.drew ?_ | refine Below.sr ?_ _ | refine Below.sc ?_ _))
 case round=>
  obtain⟨k,hk,rfl,hX,hY,hR,hT,hsz,hbel⟩:=hrel
  obtain⟨L,hL⟩:∃L,aU (aMU xs ys) k (List.replicate 31 0)=L:=⟨_,rfl⟩
  have hLl:L.length=31:=by rw[<-hL,bZ (aDc xs ys)];simp
  rw[hL]at hT
  have HL:=h_ hL
  clear hL
  by_cases hlt:k<16
  ·have h1:(k:Int)<16:=by omega
   go_wp2_with fail
   go_loopw [13] (fun j wq=>∃m:Nat,m<=16/\j=.int .i64 m/\row wq w.heap.size=(bO xs).toArray/\row wq (w.heap.size+1)=(bO ys).toArray/\row wq (w.heap.size+1+1)=(aH 16 (Value.int .i64 0)).toArray/\row wq (w.heap.size+1+1+1)=(bO (aU (aKS xs ys k) m L)).toArray/\w.heap.size+1+1+1<wq.heap.size/\Below w.heap.size w wq) (fun j _=>16 - (intOf j).toNat)
   case atStart=>exact⟨0,by omega,rfl,hX,hY,hR,hT,hsz,hbel⟩
   case round=>
    clear hX hY hR hT hsz hbel
    obtain⟨m,hm,rfl,hX,hY,hR,hT,hsz,hbel⟩:=hrel
    obtain⟨M,hM⟩:∃M,aU (aKS xs ys k) m L=M:=⟨_,rfl⟩
    have hMl:M.length=31:=by rw[<-hM,bZ (vA xs ys k),hLl]
    rw[hM]at hT
    have HM:=h_ hM
    clear hM
    by_cases hlt2:m<16
    ·have h2:(m:Int)<16:=by omega
     have hk1:k<xs.length:=by omega
     have hk2:m<ys.length:=by omega
     have hk3:k+m<M.length:=by omega
     have hk4:k+m<31:=by omega
     go_wp2_with fail
     go_region
     go_wp2_with fail
     go_roundw
     case rel=>
      have e:aU (aKS xs ys k) (m+1) L=M.set (k+m) (wrap64 (M[k+m]+wrap64 (xs[k]*ys[m]))):=by
       rw[aU,HM.out]
       simp[aKS,List.getD_eq_getElem?_getD,hk1,hk2,hk3]
      refine⟨m+1,by omega,rfl,by(try show row (World.setRow _ _ _) _=_);rw[aC _ _ _ (by omega)];exact hX,by(try show row (World.setRow _ _ _) _=_);rw[aC _ _ _ (by omega)];exact hY,by(try show row (World.setRow _ _ _) _=_);rw[aC _ _ _ (by omega)];exact hR,?_,by simpa using hsz,?_⟩
      ·rw[e]
       exact aB (by rw[hT];simp;omega) (by rw[hT];simp)
      ·refine Below.drew (Below.setRow hbel (by omega) _)
     case measure=>simp[intOf];omega
    ·obtain rfl:m=16:=by omega
     rw[show((16:Nat):Int)=16 from rfl]
     go_wp2_with fail
     go_roundw
     case rel=>exact⟨k+1,by omega,rfl,hX,hY,hR,by rw[hT,aU,HL.out];exact congrArg (fun q=>(bO q).toArray) HM.out.symm,hsz,hbel⟩
     case measure=>simp[intOf];omega
  ·obtain rfl:k=16:=by omega
   rw[show((16:Nat):Int)=16 from rfl]
   go_wp2_with fail
   have q1:w.heap.size+1+1<wr.heap.size:=by omega
   have q0:w.heap.size<wr.heap.size:=by omega
   have q2:w.heap.size+1<wr.heap.size:=by omega
   obtain⟨O,hOO⟩:∃O,wr.heap.size=O:=⟨_,rfl⟩
   rw[hOO]
   go_loopw [32] (fun i wq=>∃k:Nat,k<=16/\i=.int .i64 k/\row wq (w.heap.size+1+1)=(aH 16 (Value.int .i64 0)).toArray/\row wq (w.heap.size+1+1+1)=(bO L).toArray/\row wq O=(bO (aU (aAp L) k (List.replicate 16 0))).toArray/\O<wq.heap.size/\w.heap.size+1+1+1<O/\Below w.heap.size w wq) (fun i _=>16 - (intOf i).toNat)
   case atStart=>
    refine⟨0,by omega,rfl,by simp[go_sem,hR,q1],by simp[go_sem,hT,hsz],by rw[aE _ _ _ hOO.symm];rfl,by simp[hOO],by omega,?_⟩
    exact Below.alloc hbel (by omega) _
   case round=>
    have HT:=h_ hT
    clear hX hY hR hT hsz q0 q1 q2 hOO hbel
    obtain⟨k,hk,rfl,hR,hT,hO,hsz2,hsz,hbel2⟩:=hrel
    obtain⟨M,hM⟩:∃M,aU (aAp L) k (List.replicate 16 0)=M:=⟨_,rfl⟩
    have hMl:M.length=16:=by rw[<-hM,bZ (qY L)];simp
    rw[hM]at hO
    have HM:=h_ hM
    clear hM
    by_cases hlt:k<16
    ·have h1:(k:Int)<16:=by omega
     have hk1:k<L.length:=by omega
     have hk2:k<M.length:=by omega
     have hk3:k<31:=by omega
     have hT1:=aC (w:=wr) O (w.heap.size+1+1+1) (bO (M.set k L[k])).toArray (by omega)
     rw[hT]at hT1
     have hX1:=aB (w:=wr) (g:=O) (c:=(bO (M.set k L[k])).toArray) (by rw[hO];simp;omega) (by rw[hO];simp)
     by_cases hk15:k+16<31
     ·have hk5:(k:Int)+16<31:=by omega
      have hk6:k+16<L.length:=by omega
      go_wp2_with fail
      go_region
      go_wp2_with fail
      go_roundw
      case rel=>
       have e:aU (aAp L) (k+1) (List.replicate 16 0)=M.set k (wrap64 (L[k]+wrap64 (38*L[k+16]))):=by
        rw[aU,HM.out,aAp,if_pos hk15]
        simp[List.getD_eq_getElem?_getD,hk1,hk6]
       refine⟨k+1,by omega,rfl,by(try show row (World.setRow _ _ _) _=_);rw[aC _ _ _ (by omega)];exact hR,by(try show row (World.setRow _ _ _) _=_);rw[aC _ _ _ (by omega)];exact hT,?_,by simpa using hsz2,hsz,?_⟩
       ·rw[e]
        exact aB (by rw[hO];simp;omega) (by rw[hO];simp)
       ·refine Below.drew (Below.setRow hbel2 (by omega) _)
      case measure=>simp[intOf];omega
     ·have hk5:¬(k:Int)+16<31:=by omega
      go_wp2_with fail
      go_roundw
      case rel=>
       have e:aU (aAp L) (k+1) (List.replicate 16 0)=M.set k L[k]:=by
        rw[aU,HM.out,aAp,if_neg hk15]
        simp[List.getD_eq_getElem?_getD,hk1]
       refine⟨k+1,by omega,rfl,by(try show row (World.setRow _ _ _) _=_);rw[aC _ _ _ (by omega)];exact hR,hT1,?_,by simpa using hsz2,hsz,?_⟩
       ·rw[e]
        exact hX1
       ·refine Below.setRow hbel2 (by omega) _
      case measure=>simp[intOf];omega
    ·obtain rfl:k=16:=by omega
     rw[show((16:Nat):Int)=16 from rfl]
     go_wp2_with fail
     refine(iB M _ hMl).mono ?_
     rintro e w2 ⟨rfl,hb2⟩
     have z2:=(hb2).size
     try simp at z2
     replace hR:=(aA hb2 (by omega)).trans hR
     go_wp2_with fail
     refine(iB (cK M) _ (by rw[dH];exact hMl)).mono ?_
     rintro e w3 ⟨rfl,hb3⟩
     have z3:=(hb3).size
     try simp at z3
     replace hR:=(aA hb3 (by omega)).trans hR
     have hlast:(cK (cK M)).length=16:=by rw[dH,dH];exact hMl
     go_wp2_with fail
     have hfin:=aB (w:=w3) (g:=w.heap.size+1+1) (c:=(bO (cK (cK M))).toArray) (by rw[hR];simp) (by rw[hR];simp[hlast])
     (try simp only[Exit.inBlock,Exit.then])
     refine bodyPost_ret (aV rfl (aK rfl ?_)) rfl ?_
     ·rw[hfin]
      simp[hlast]
     have e1:aKT xs ys=L:=HL.out
     have e2:aJk (aKT xs ys)=M:=by rw[e1];exact HM.out
     refine⟨by rw[hfin,aX,e2],?_⟩
     refine Below.setRow ?_ (by omega) _
     refine Below.trans ?_ (Below.mono hb3 (by first | (simp;done) | (simp;omega) | omega))
     refine Below.trans ?_ (Below.mono hb2 (by first | (simp;done) | (simp;omega) | omega))
     exact hbel2
end
section
open Go.RowKit
def aH6 (xs:List Int) (k:Nat) (o:List Int):List Int:=if k=251∨k=249 then aX o o else aX (aX o o) xs
def aFh (xs:List Int):List Int:=aU (aH6 xs) 254 xs
theorem aDd (xs:List Int) (k:Nat) (o:List Int):(aH6 xs k o).length=16:=by unfold aH6;split<;>exact bH _ _
theorem j3 (xs:List Int) (hx:xs.length=16) (k:Nat):(aU (aH6 xs) k xs).length=16:=by
 cases k with
 | zero=>exact hx
 | succ k=>exact aDd _ _ _
attribute [local irreducible] aU aX
theorem aDe (xs:List Int) (w:World) (hx:xs.length=16):
  Calls Tryz.prog 179 #[.agg (bO xs).toArray] w fun e w'=>e=.returned (.agg (bO (aFh xs)).toArray)/\Below w.heap.size w w':=by
 go_enter Tryz.func179,Tryz.ntmps179
 go_wp2_with fail
 go_loopw [4] (fun i wr=>∃k:Nat,k<=254/\i=.int .i64 (253 - (k:Int))/\row wr w.heap.size=(bO xs).toArray/\row wr (w.heap.size+1)=(aH 16 (Value.int .i64 0)).toArray/\row wr (w.heap.size+1+1)=(bO (aU (aH6 xs) k xs)).toArray/\w.heap.size+1+1<wr.heap.size/\Below w.heap.size w wr) (fun i _=>(intOf i+1).toNat)
 case atStart=>
  refine⟨0,by omega,rfl,by simp[go_sem],by simp[go_sem],by simp[go_sem,aU],by simp,?_⟩
  (repeat (first | exact Below.refl _ _ | refine Below.al ?_ _ | refine Below.drew ?_ | refine Below.sr ?_ _ | refine Below.sc ?_ _))
 case round=>
  obtain⟨k,hk,rfl,hX,hR,hO,hsz,hbel⟩:=hrel
  obtain⟨L,hL⟩:∃L,aU (aH6 xs) k xs=L:=⟨_,rfl⟩
  have hLl:L.length=16:=by rw[<-hL];exact j3 xs hx k
  rw[hL]at hO
  have HL:=h_ hL
  clear hL
  by_cases hlt:k<254
  ·obtain⟨j,hj⟩:∃j:Nat,253 - (k:Int)=j:=⟨253 - k,by omega⟩
   rw[hj]
   have HJ:=h_ hj
   have hj253:j=253 - k:=by omega
   clear hj
   go_wp2_with fail
   refine(dX L L _ hLl hLl).mono ?_
   rintro e w2 ⟨rfl,hb2⟩
   have z2:=(hb2).size
   try simp at z2
   replace hX:=(aA hb2 (by omega)).trans hX
   replace hR:=(aA hb2 (by omega)).trans hR
   replace hO:=(aA hb2 (by omega)).trans hO
   have htl:=bH L L
   have hX2:=aC (w:=w2) (w.heap.size+1+1) w.heap.size (bO (aX L L)).toArray (by omega)
   rw[hX]at hX2
   have hR2:=aC (w:=w2) (w.heap.size+1+1) (w.heap.size+1) (bO (aX L L)).toArray (by omega)
   rw[hR]at hR2
   have hO2:=aB (w:=w2) (g:=w.heap.size+1+1) (c:=(bO (aX L L)).toArray) (by rw[hO];simp;omega) (by rw[hO];simp;omega)
   have hbw2:Below w.heap.size w (w2.setRow (w.heap.size+1+1) (bO (aX L L)).toArray):=by
    refine Below.setRow ?_ (by omega) _
    refine Below.trans ?_ (Below.mono hb2 (by first | (simp;done) | (simp;omega) | omega))
    exact hbel
   by_cases hs:k=251∨k=249
   ·have e:aU (aH6 xs) (k+1) xs=aX L L:=by rw[aU,HL.out,aH6,if_pos hs]
    rcases hs with rfl | rfl
    ·obtain rfl:j=2:=by omega
     go_wp2_with fail
     go_roundw
     case rel=>exact⟨251+1,by omega,by simp,hX2,hR2,by rw[e];exact hO2,by simp;omega,hbw2⟩
     case measure=>simp[intOf]
    ·obtain rfl:j=4:=by omega
     go_wp2_with fail
     go_roundw
     case rel=>exact⟨249+1,by omega,by simp,hX2,hR2,by rw[e];exact hO2,by simp;omega,hbw2⟩
     case measure=>simp[intOf]
   ·have e:aU (aH6 xs) (k+1) xs=aX (aX L L) xs:=by rw[aU,HL.out,aH6,if_neg hs]
    have hj2:((j:Int) !=2)=true:=by simp;omega
    have hj4:((j:Int) !=4)=true:=by simp;omega
    have hjb:j<=253:=by omega
    have hjw:wrap64 ((j:Int) - 1)=(j:Int) - 1:=by unfold wrap64;omega
    clear hj253
    go_wp2_with fail
    refine(dX (aX L L) xs _ htl hx).mono ?_
    rintro e w3 ⟨rfl,hb3⟩
    have z3:=(hb3).size
    try simp at z3
    have htl2:=bH (aX L L) xs
    replace hX2:=(aA hb3 (by simp;omega)).trans hX2
    replace hR2:=(aA hb3 (by simp;omega)).trans hR2
    replace hO2:=(aA hb3 (by simp;omega)).trans hO2
    go_wp2_with fail
    go_roundw
    case rel=>
     refine⟨k+1,by omega,?_,by(try show row (World.setRow _ _ _) _=_);rw[aC _ _ _ (by omega)];exact hX2,by(try show row (World.setRow _ _ _) _=_);rw[aC _ _ _ (by omega)];exact hR2,?_,by simp;omega,?_⟩
     ·have:=HJ.out
      simp
      omega
     ·rw[e]
      exact aB (by rw[hO2];simp;omega) (by rw[hO2];simp;omega)
     ·refine Below.setRow ?_ (by omega) _
      refine Below.trans hbw2 (Below.mono hb3 (by simp;omega))
    case measure=>first | (simp[intOf];done) | (simp[intOf];omega)
  ·obtain rfl:k=254:=by omega
   rw[show(253:Int) - ((254:Nat):Int)= -1 from rfl]
   go_wp2_with fail
   have e:L=aFh xs:=HL.out.symm
   rw[e]at hO hLl ⊢
   have hfin:=aB (w:=wr) (g:=w.heap.size+1) (c:=(bO (aFh xs)).toArray) (by rw[hR];simp) (by rw[hR];simp[hLl])
   (try simp only[Exit.inBlock,Exit.then])
   refine bodyPost_ret (aV rfl (aK rfl ?_)) rfl ?_
   ·rw[hfin]
    simp[hLl]
   refine⟨by rw[hfin],?_⟩
   exact Below.setRow hbel (by omega) _
def oN (xs:List Int):List Int:=iJ (xs.set 0 (wrap64 (xs.getD 0 0+19)))
def fF (xs:List Int):List Int:=if (oN xs).getD 15 0 / 32768=0 then oN xs else (oN xs).set 15 (wrap64 ((oN xs).getD 15 0 - 32768))
def aBS (xs:List Int):Bool:= !((oN xs).getD 15 0 / 32768==0)
theorem aAq (xs:List Int) (hx:xs.length=16):(oN xs).length=16:=by rw[oN,fE];simpa using hx
theorem aAr (xs:List Int) (hx:xs.length=16):(fF xs).length=16:=by unfold fF;split<;>simp[aAq xs hx]
attribute [local irreducible] iJ
theorem aHu (xs:List Int) (w:World) (hx:xs.length=16):
  Calls Tryz.prog 202 #[.agg (bO xs).toArray] w fun e w'=>e=.returned (.tuple #[.agg (bO (fF xs)).toArray,.bool (aBS xs)])/\Below w.heap.size w w':=by
 have h0:0<xs.length:=by omega
 obtain⟨ys,hys⟩:∃ys,xs.set 0 (wrap64 (xs[0]+19))=ys:=⟨_,rfl⟩
 have hyl:ys.length=16:=by rw[<-hys];simpa using hx
 have hP:oN xs=iJ ys:=by rw[oN,<-hys];simp[List.getD_eq_getElem?_getD,h0]
 obtain⟨zs,hzs⟩:∃zs,iJ ys=zs:=⟨_,rfl⟩
 have hzl:zs.length=16:=by rw[<-hzs,fE];exact hyl
 have h15:15<zs.length:=by omega
 have hg:zs.getD 15 0=zs[15]:=by simp[List.getD_eq_getElem?_getD,h15]
 have hL:fF xs=if zs[15] / 32768=0 then zs else zs.set 15 (wrap64 (zs[15] - 32768)):=by rw[fF,hP,hzs,hg]
 have hB:aBS xs= !(zs[15] / 32768==0):=by rw[aBS,hP,hzs,hg]
 rw[hL,hB]
 have HW:=u0 ys
 rw[hzs]at HW
 have HW2:=h_ HW
 have HY:=h_ hys
 clear HW hys hL hB hP hzs hg
 go_enter Tryz.func202,Tryz.ntmps202
 go_wp2_with fail
 rw[HY.out]
 refine(HW2.out _ hyl).mono ?_
 rintro e w1 ⟨rfl,hb1⟩
 have z1:=(hb1).size
 try simp at z1
 have hX:row w1 (w.heap.size)=(bO ys).toArray:=by rw[aA hb1 (by first | (simp;done) | (simp;omega) | omega)];simp[go_sem];(try rfl)
 have hR:row w1 (w.heap.size+1)=(aH 16 (Value.int .i64 0)).toArray:=by rw[aA hb1 (by first | (simp;done) | (simp;omega) | omega)];simp[go_sem];(try rfl)
 replace hb1:=cJ hb1 (show Below (w).heap.size w _ from by(repeat (first | exact Below.refl _ _ | refine Below.al ?_ _ | refine Below.drew ?_ | refine Below.sr ?_ _ | refine Below.sc ?_ _))) (by first | (simp;done) | (simp;omega) | omega)
 have hX2:=aB (w:=w1) (g:=w.heap.size) (c:=(bO zs).toArray) (by rw[hX];simp;omega) (by rw[hX];simp;omega)
 have hR2:=aC (w:=w1) w.heap.size (w.heap.size+1) (bO zs).toArray (by omega)
 rw[hR]at hR2
 by_cases hc:zs[15] / 32768=0
 ·have hc2:(zs[15] / 32768==0)=true:=by simp[hc]
  go_wp2_with fail
  have hfin:=aB (w:=w1.setRow w.heap.size (bO zs).toArray) (g:=w.heap.size+1) (c:=(bO zs).toArray) (by rw[hR2];simp) (by rw[hR2];simp[hzl])
  refine bodyPost_ret (aS (r:=.cell 2 306) (s:=.tmp 3) rfl (aK rfl ?_) aP) rfl ?_
  ·rw[hfin]
   simp[hzl]
  refine⟨by rw[hfin];rfl,?_⟩
  exact Below.setRow (Below.setRow hb1 (by omega) _) (by omega) _
 ·have hc2:(zs[15] / 32768==0)=false:=by simp[hc]
  have hX3:=aB (w:=w1) (g:=w.heap.size) (c:=(bO (zs.set 15 (wrap64 (zs[15] - 32768)))).toArray) (by rw[hX];simp;omega) (by rw[hX];simp;omega)
  have hR3:=aC (w:=w1) w.heap.size (w.heap.size+1) (bO (zs.set 15 (wrap64 (zs[15] - 32768)))).toArray (by omega)
  rw[hR]at hR3
  go_wp2_with fail
  have hfin:=aB (w:=w1.setRow w.heap.size (bO (zs.set 15 (wrap64 (zs[15] - 32768)))).toArray) (g:=w.heap.size+1) (c:=(bO (zs.set 15 (wrap64 (zs[15] - 32768)))).toArray) (by rw[hR3];simp) (by rw[hR3];simp[hzl])
  refine bodyPost_ret (aS (r:=.cell 2 306) (s:=.tmp 3) rfl (aK rfl ?_) aP) rfl ?_
  ·rw[hfin]
   simp[hzl]
  refine⟨by rw[hfin];rfl,?_⟩
  exact Below.setRow (Below.setRow hb1 (by omega) _) (by omega) _
end
section
open Go.RowKit
def aKU (k:Nat) (l:List Int):List Int:=iJ (let h:=l.getD 15 0 / 32768;let m:=l.set 15 (wrap64 (l.getD 15 0 - wrap64 (h*32768)));m.set 0 (wrap64 (m.getD 0 0+wrap64 (19*h))))
def aL9 (xs:List Int):List Int:=aU aKU 2 (iJ (cK (cK (cK xs))))
def aMa (xs:List Int):List Int:=if aBS (aL9 xs)then fF (aL9 xs)else aL9 xs
def aHv (ys:List Int) (i:Nat) (b:List UInt8):List UInt8:=(b.set (2*i) (iR (ys.getD i 0))).set (2*i+1) (iR (ys.getD i 0 / 256))
def aDf (xs:List Int):List UInt8:=aU (aHv (aMa xs)) 16 (List.replicate 32 0)
theorem aDg (k:Nat) (l:List Int):(aKU k l).length=l.length:=by simp[aKU,fE]
theorem m7 (ys:List Int) (i:Nat) (b:List UInt8):(aHv ys i b).length=b.length:=by simp[aHv]
theorem m8 (xs:List Int):(aDf xs).length=32:=by rw[aDf,dV (m7 _)];simp
theorem qZ (L:List Int) (k:Nat) (hL:L.length=16) (hk:k<L.length) (w:World):
  (Instr.index 306 (.agg (bO L).toArray) (.int .i64 k)).run Tryz.prog w=.ok (.int .i64 L[k]) w:=by
 have hk2:k<16:=by omega
 have hinfo:(Tryz.prog.info? 2).map (fun i=>i.size)=some 1:=by kernel_rfl
 obtain⟨inf,hi,hsz⟩:=Option.map_eq_some_iff.1 hinfo
 have hg:(bO L)[k]? =some (.int .i64 L[k]):=by simp[bO,hk]
 simp[Instr.index,run_underlying Tryz.underlying306,run_underlying Tryz.underlying2,asIntOf,isAgg,hk2,sizeOf,typeInfo,hi,hsz,part,hg,go_sem]
attribute [local irreducible] iJ cK aU fF
theorem aKV (xs:List Int) (w:World) (hx:xs.length=16):
  Calls Tryz.prog 180 #[.agg (bO xs).toArray] w fun e w'=>e=.returned (.agg (u8s (aDf xs)).toArray)/\Below w.heap.size w w':=by
 go_enter Tryz.func180,Tryz.ntmps180
 go_wp2_with fail
 have c1:(cK xs).length=16:=by rw[dH];exact hx
 have c2:(cK (cK xs)).length=16:=by rw[dH];exact c1
 have c3:(cK (cK (cK xs))).length=16:=by rw[dH];exact c2
 refine(iB xs _ hx).mono ?_
 rintro e w1 ⟨rfl,hb1⟩
 have z1:=(hb1).size
 try simp at z1
 have hX:row w1 (w.heap.size)=(bO xs).toArray:=by rw[aA hb1 (by first | (simp;done) | (simp;omega) | omega)];simp[go_sem];(try rfl)
 have hR:row w1 (w.heap.size+1)=(aH 32 (Value.int .u8 0)).toArray:=by rw[aA hb1 (by first | (simp;done) | (simp;omega) | omega)];simp[go_sem];(try rfl)
 replace hb1:=cJ hb1 (show Below (w).heap.size w _ from by(repeat (first | exact Below.refl _ _ | refine Below.al ?_ _ | refine Below.drew ?_ | refine Below.sr ?_ _ | refine Below.sc ?_ _))) (by first | (simp;done) | (simp;omega) | omega)
 go_wp2_with fail
 refine(iB _ _ c1).mono ?_
 rintro e w2 ⟨rfl,hb2⟩
 have z2:=(hb2).size
 try simp at z2
 replace hX:=(aA hb2 (by omega)).trans hX
 replace hR:=(aA hb2 (by omega)).trans hR
 go_wp2_with fail
 refine(iB _ _ c2).mono ?_
 rintro e w3 ⟨rfl,hb3⟩
 have z3:=(hb3).size
 try simp at z3
 replace hX:=(aA hb3 (by omega)).trans hX
 replace hR:=(aA hb3 (by omega)).trans hR
 go_wp2_with fail
 refine(u0 _ _ c3).mono ?_
 rintro e w4 ⟨rfl,hb4⟩
 have z4:=(hb4).size
 try simp at z4
 replace hX:=(aA hb4 (by omega)).trans hX
 replace hR:=(aA hb4 (by omega)).trans hR
 have hbel:Below w.heap.size w w4:=by
  refine Below.trans ?_ (Below.mono hb4 (by first | (simp;done) | (simp;omega) | omega))
  refine Below.trans ?_ (Below.mono hb3 (by first | (simp;done) | (simp;omega) | omega))
  refine Below.trans ?_ (Below.mono hb2 (by first | (simp;done) | (simp;omega) | omega))
  exact hb1
 obtain⟨A,hA⟩:∃A,iJ (cK (cK (cK xs)))=A:=⟨_,rfl⟩
 have hAl:A.length=16:=by rw[<-hA,fE];exact c3
 rw[hA]
 have HA:=h_ hA
 clear hb1 hb2 hb3 hb4 c1 c2 c3 hA
 have hX0:=aB (w:=w4) (g:=w.heap.size) (c:=(bO A).toArray) (by rw[hX];simp;omega) (by rw[hX];simp;omega)
 have hR0:=aC (w:=w4) w.heap.size (w.heap.size+1) (bO A).toArray (by omega)
 rw[hR]at hR0
 go_wp2_with fail
 go_loopw [14] (fun i wr=>∃k:Nat,k<=2/\i=.int .i64 k/\row wr w.heap.size=(bO (aU aKU k A)).toArray/\row wr (w.heap.size+1)=(aH 32 (Value.int .u8 0)).toArray/\w.heap.size+1<wr.heap.size/\Below w.heap.size w wr) (fun i _=>2 - (intOf i).toNat)
 case atStart=>
  refine⟨0,by omega,rfl,?_,hR0,by simp;omega,Below.setRow hbel (Nat.le_refl _) _⟩
  rw[aU]
  exact hX0
 case round=>
  clear hX hR hX0 hR0 hbel
  obtain⟨k,hk,rfl,hX,hR,hsz,hbel⟩:=hrel
  obtain⟨L,hL⟩:∃L,aU aKU k A=L:=⟨_,rfl⟩
  have hLl:L.length=16:=by rw[<-hL,bZ aDg];exact hAl
  rw[hL]at hX
  have HL:=h_ hL
  clear hL
  by_cases hlt:k<2
  ·have h1:(k:Int)<2:=by omega
   have h15:15<L.length:=by omega
   have h0:0<L.length:=by omega
   have hX1:=aB (w:=wr) (g:=w.heap.size) (c:=(bO (L.set 15 (wrap64 (L[15] - wrap64 (L[15] / 32768*32768))))).toArray) (by rw[hX];simp;omega) (by rw[hX];simp)
   obtain⟨M,hM⟩:∃M,(L.set 15 (wrap64 (L[15] - wrap64 (L[15] / 32768*32768)))).set 0 (wrap64 (L[0]+wrap64 ((19:Int)*(L[15] / 32768))))=M:=⟨_,rfl⟩
   have hMl:M.length=16:=by rw[<-hM];simpa using hLl
   have e:aU aKU (k+1) A=iJ M:=by
    rw[aU,HL.out,<-hM]
    simp[aKU,List.getD_eq_getElem?_getD,h0,h15]
   have hwl:(iJ M).length=16:=by rw[fE];exact hMl
   go_wp2_with fail
   have hX2:=aB (w:=wr) (g:=w.heap.size) (c:=(bO M).toArray) (by rw[hX];simp;omega) (by rw[hX];simp;omega)
   have hR2:=aC (w:=wr) w.heap.size (w.heap.size+1) (bO M).toArray (by omega)
   rw[hR]at hR2
   clear hM hX1
   refine(u0 M _ hMl).mono ?_
   rintro e w5 ⟨rfl,hb5⟩
   have z5:=(hb5).size
   try simp at z5
   replace hX2:=(aA hb5 (by simp;omega)).trans hX2
   replace hR2:=(aA hb5 (by simp;omega)).trans hR2
   go_wp2_with fail
   go_roundw
   case rel=>
    refine⟨k+1,by omega,rfl,?_,by(try show row (World.setRow _ _ _) _=_);rw[aC _ _ _ (by omega)];exact hR2,by simp;omega,?_⟩
    ·rw[e]
     exact aB (by rw[hX2];simp;omega) (by rw[hX2];simp;omega)
    ·refine Below.setRow ?_ (by omega) _
     refine Below.trans (Below.setRow hbel (Nat.le_refl _) _) (Below.mono hb5 (by simp;omega))
   case measure=>simp[intOf];omega
  ·obtain rfl:k=2:=by omega
   rw[show((2:Nat):Int)=2 from rfl]
   have hT:aL9 xs=L:=by rw[aL9,HA.out];exact HL.out
   go_wp2_with fail
   refine(aHu L _ hLl).mono ?_
   rintro e w5 ⟨rfl,hb5⟩
   have z5:=(hb5).size
   try simp at z5
   replace hX:=(aA hb5 (by omega)).trans hX
   replace hR:=(aA hb5 (by omega)).trans hR
   have hpl:=aAr L hLl
   have q0:w.heap.size<w5.heap.size:=by omega
   have q1:w.heap.size+1<w5.heap.size:=by omega
   have q0b:w.heap.size<w5.heap.size+1:=by omega
   have q1b:w.heap.size+1<w5.heap.size+1:=by omega
   replace hbel:Below w.heap.size w w5:=Below.trans hbel (Below.mono hb5 (by omega))
   cases hB:aBS L with
   | false=>
    have hE:aMa xs=L:=by rw[aMa,hT,hB];rfl
    go_wp2_with fail
    go_loopw [42] (fun i wq=>∃k:Nat,k<=16/\i=.int .i64 k/\row wq (w.heap.size+1)=(aH 32 (Value.int .u8 0)).toArray/\row wq (w5.heap.size+1)=(u8s (aU (aHv L) k (List.replicate 32 0))).toArray/\w5.heap.size+1<wq.heap.size/\Below w.heap.size w wq) (fun i _=>16 - (intOf i).toNat)
    case atStart=>
     refine⟨0,by omega,rfl,?_,?_,by simp,?_⟩
     ·simp[go_sem,hR,q1,q1b]
     ·simp[go_sem,aU]
      rfl
     ·(repeat (first | refine Below.al ?_ _ | refine Below.drew ?_ | refine Below.sr ?_ _ | refine Below.sc ?_ _))
      exact hbel
    case round=>
     clear hR
     obtain⟨k,hk,rfl,hR,hO,hsz,hbel3⟩:=hrel
     obtain⟨M,hM⟩:∃M,aU (aHv L) k (List.replicate 32 0)=M:=⟨_,rfl⟩
     have hMl:M.length=32:=by rw[<-hM,dV (m7 _)];simp
     rw[hM]at hO
     have HM:=h_ hM
     clear hM
     by_cases hlt:k<16
     ·have h1:(k:Int)<16:=by omega
      have hk1:k<(L).length:=by omega
      have hix:=qZ L k hLl hk1
      have hk2:2*k<M.length:=by omega
      have hk3:2*k+1<M.length:=by omega
      have hk4:2*k<32:=by omega
      have hk5:2*k+1<32:=by omega
      have hk6:k<16:=hlt
      have hO1:=aB (w:=wr) (g:=w5.heap.size+1) (c:=((u8s M).set (2*k) (.int .u8 ((L)[k]%256))).toArray) (by rw[hO];simp;omega) (by rw[hO];simp)
      go_wp2_with fail
      go_roundw
      case rel=>
       have e:u8s (aU (aHv L) (k+1) (List.replicate 32 0))=((u8s M).set (2*k) (.int .u8 ((L)[k]%256))).set (2*k+1) (.int .u8 ((L)[k] / 256%256)):=by
        rw[aU,HM.out,mV,mV]
        simp[aHv,List.getD_eq_getElem?_getD,hk1]
       refine⟨k+1,by omega,rfl,by(try show row (World.setRow _ _ _) _=_);rw[aC _ _ _ (by omega)];exact hR,?_,by simp;omega,?_⟩
       ·rw[e]
        exact aB (by rw[hO];simp;omega) (by rw[hO];simp)
       ·refine Below.setRow hbel3 (by omega) _
      case measure=>simp[intOf];omega
     ·obtain rfl:k=16:=by omega
      rw[show((16:Nat):Int)=16 from rfl]
      go_wp2_with fail
      have e:M=aDf xs:=by rw[aDf,hE];exact HM.out.symm
      rw[e]at hO hMl ⊢
      have hfin:=aB (w:=wr) (g:=w.heap.size+1) (c:=(u8s (aDf xs)).toArray) (by rw[hR];simp) (by rw[hR];simp[hMl])
      (try simp only[Exit.inBlock,Exit.then])
      refine bodyPost_ret (aV rfl (aK rfl ?_)) rfl ?_
      ·rw[hfin]
       simp[hMl]
      refine⟨by rw[hfin],?_⟩
      exact Below.setRow hbel3 (by omega) _
   | true=>
    have hE:aMa xs=fF L:=by rw[aMa,hT,hB];rfl
    have hX3:row ((w5.alloc (.cells (bO (fF L)).toArray 306)).setRow w.heap.size (bO (fF L)).toArray) w.heap.size=(bO (fF L)).toArray:=aB (by simp[go_sem,q0,hX];omega) (by simp[go_sem,q0,hX];omega)
    go_wp2_with fail
    go_loopw [42] (fun i wq=>∃k:Nat,k<=16/\i=.int .i64 k/\row wq (w.heap.size+1)=(aH 32 (Value.int .u8 0)).toArray/\row wq (w5.heap.size+1)=(u8s (aU (aHv (fF L)) k (List.replicate 32 0))).toArray/\w5.heap.size+1<wq.heap.size/\Below w.heap.size w wq) (fun i _=>16 - (intOf i).toNat)
    case atStart=>
     refine⟨0,by omega,rfl,?_,?_,by simp,?_⟩
     ·simp[go_sem,hR,q1,q1b]
     ·simp[go_sem,aU]
      rfl
     ·(repeat (first | refine Below.al ?_ _ | refine Below.drew ?_ | refine Below.sr ?_ _ | refine Below.sc ?_ _))
      exact hbel
    case round=>
     clear hR
     obtain⟨k,hk,rfl,hR,hO,hsz,hbel3⟩:=hrel
     obtain⟨M,hM⟩:∃M,aU (aHv (fF L)) k (List.replicate 32 0)=M:=⟨_,rfl⟩
     have hMl:M.length=32:=by rw[<-hM,dV (m7 _)];simp
     rw[hM]at hO
     have HM:=h_ hM
     clear hM
     by_cases hlt:k<16
     ·have h1:(k:Int)<16:=by omega
      have hk1:k<((fF L)).length:=by omega
      have hix:=qZ (fF L) k hpl hk1
      have hk2:2*k<M.length:=by omega
      have hk3:2*k+1<M.length:=by omega
      have hk4:2*k<32:=by omega
      have hk5:2*k+1<32:=by omega
      have hk6:k<16:=hlt
      have hO1:=aB (w:=wr) (g:=w5.heap.size+1) (c:=((u8s M).set (2*k) (.int .u8 (((fF L))[k]%256))).toArray) (by rw[hO];simp;omega) (by rw[hO];simp)
      go_wp2_with fail
      go_roundw
      case rel=>
       have e:u8s (aU (aHv (fF L)) (k+1) (List.replicate 32 0))=((u8s M).set (2*k) (.int .u8 (((fF L))[k]%256))).set (2*k+1) (.int .u8 (((fF L))[k] / 256%256)):=by
        rw[aU,HM.out,mV,mV]
        simp[aHv,List.getD_eq_getElem?_getD,hk1]
       refine⟨k+1,by omega,rfl,by(try show row (World.setRow _ _ _) _=_);rw[aC _ _ _ (by omega)];exact hR,?_,by simp;omega,?_⟩
       ·rw[e]
        exact aB (by rw[hO];simp;omega) (by rw[hO];simp)
       ·refine Below.setRow hbel3 (by omega) _
      case measure=>simp[intOf];omega
     ·obtain rfl:k=16:=by omega
      rw[show((16:Nat):Int)=16 from rfl]
      go_wp2_with fail
      have e:M=aDf xs:=by rw[aDf,hE];exact HM.out.symm
      rw[e]at hO hMl ⊢
      have hfin:=aB (w:=wr) (g:=w.heap.size+1) (c:=(u8s (aDf xs)).toArray) (by rw[hR];simp) (by rw[hR];simp[hMl])
      (try simp only[Exit.inBlock,Exit.then])
      refine bodyPost_ret (aV rfl (aK rfl ?_)) rfl ?_
      ·rw[hfin]
       simp[hMl]
      refine⟨by rw[hfin],?_⟩
      exact Below.setRow hbel3 (by omega) _
end
section
open Go.RowKit
def q8 (l:List UInt8):List UInt8:=(l.set 0 (l.getD 0 0&&& 248)).set 31 ((l.getD 31 0&&& 127)||| 64)
theorem aAs (l:List UInt8):(q8 l).length=l.length:=by simp[q8]
def yB (l:List UInt8) (i:Nat):Int:=((l.getD i 0).toNat:Int)
def ofF (l:List UInt8) (i:Nat) (x:List Int):List Int:=x.set i (yB l (2*i)+yB l (2*i+1)*256)
def ofL (l:List UInt8):List Int:=let y:=aU (ofF l) 16 (List.replicate 16 0);y.set 15 (y.getD 15 0%32768)
theorem pM (l:List UInt8) (i:Nat) (x:List Int):(ofF l i x).length=x.length:=by simp[ofF]
theorem yC (l:List UInt8):(ofL l).length=16:=by simp[ofL,bZ (pM l)]
theorem aJl (a b:Nat) (ha:a<256) (hb:b<256):bits .or .i64 (a:Int) ((b:Int)*256)=(a:Int)+(b:Int)*256:=by
 have h:=bits_join .i64 63 (by decide) dR 8 ((b:Int)*256) a (by omega) (by omega) (by omega) (by omega) (by omega) (by omega)
 have hc:bits .or .i64 (a:Int) ((b:Int)*256)=bits .or .i64 ((b:Int)*256) (a:Int):=by
  unfold bits
  simp[BitVec.or_comm]
 rw[hc,h]
 omega
theorem aMb (n:Int) (h0:0<=n) (h1:n<65536):bits .and .i64 n 32767=n%32768:=by
 have:=bits_mask .i64 63 (by decide) dR 15 (by decide) n h0 (by omega)
 simpa using this
attribute [local irreducible] aU
theorem aMc (l:List UInt8) (w:World) (hl:l.length=32):
  Calls Tryz.prog 176 #[.agg (u8s l).toArray] w fun e w'=>e=.returned (.agg (bO (ofL l)).toArray)/\Below w.heap.size w w':=by
 go_enter Tryz.func176,Tryz.ntmps176
 go_wp2_with fail
 go_loopw [5] (fun i wr=>∃k:Nat,k<=16/\i=.int .i64 k/\row wr w.heap.size=(u8s l).toArray/\row wr (w.heap.size+1)=(aH 16 (Value.int .i64 0)).toArray/\row wr (w.heap.size+1+1)=(bO (aU (ofF l) k (List.replicate 16 0))).toArray/\Below w.heap.size w wr) (fun i _=>16 - (intOf i).toNat)
 case atStart=>
  refine⟨0,by omega,rfl,by simp[go_sem],by simp[go_sem],by simp[go_sem,aU];rfl,?_⟩
  (repeat (first | exact Below.refl _ _ | refine Below.al ?_ _ | refine Below.drew ?_ | refine Below.sr ?_ _ | refine Below.sc ?_ _))
 case round=>
  obtain⟨k,hk,rfl,hX,hR,hO,hbel⟩:=hrel
  obtain⟨L,hL⟩:∃L,aU (ofF l) k (List.replicate 16 0)=L:=⟨_,rfl⟩
  have hLl:L.length=16:=by rw[<-hL,bZ (pM l)];simp
  rw[hL]at hO
  have HL:=h_ hL
  clear hL
  by_cases hlt:k<16
  ·have h1:(k:Int)<16:=by omega
   have hk1:k<L.length:=by omega
   have hk2:2*k<l.length:=by omega
   have hk3:2*k+1<l.length:=by omega
   have hk4:2*k<32:=by omega
   have hk5:2*k+1<32:=by omega
   have hb0:=(l[2*k]).toNat_lt
   have hb1:=(l[2*k+1]).toNat_lt
   have hj:=aJl _ _ hb0 hb1
   go_wp2_with fail
   go_region
   go_wp2_with fail
   go_roundw
   case rel=>
    have e:aU (ofF l) (k+1) (List.replicate 16 0)=L.set k ((l[2*k].toNat:Int)+(l[2*k+1].toNat:Int)*256):=by
     rw[aU,HL.out]
     simp[ofF,yB,List.getD_eq_getElem?_getD,hk2,hk3]
    refine⟨k+1,by omega,rfl,by(try show row (World.setRow _ _ _) _=_);rw[aC _ _ _ (by omega)];exact hX,by(try show row (World.setRow _ _ _) _=_);rw[aC _ _ _ (by omega)];exact hR,?_,?_⟩
    ·rw[e]
     exact aB (by rw[hO];simp;omega) (by rw[hO];simp)
    ·refine Below.drew (Below.setRow hbel (by omega) _)
   case measure=>simp[intOf];omega
  ·obtain rfl:k=16:=by omega
   rw[show((16:Nat):Int)=16 from rfl]
   have h15:15<L.length:=by omega
   have e15:L.getD 15 0=yB l 30+yB l 31*256:=by
    rw[<-HL.out,aU,ofF]
    simp[List.getD_eq_getElem?_getD,bZ (pM l)]
   have hg:L.getD 15 0=L[15]:=by simp[List.getD_eq_getElem?_getD,h15]
   have hb0:=(l.getD 30 0).toNat_lt
   have hb1:=(l.getD 31 0).toNat_lt
   have hm:bits .and .i64 L[15] 32767=L[15]%32768:=by
    rw[<-hg,e15]
    unfold yB
    exact aMb _ (by omega) (by omega)
   have e:L.set 15 (L[15]%32768)=ofL l:=by
    simp only[ofL,HL.out]
    rw[hg]
   have hol:=yC l
   have hO1:=aB (w:=wr) (g:=w.heap.size+1+1) (c:=(bO (L.set 15 (L[15]%32768))).toArray) (by rw[hO];simp;omega) (by rw[hO];simp)
   have hR1:=aC (w:=wr) (w.heap.size+1+1) (w.heap.size+1) (bO (L.set 15 (L[15]%32768))).toArray (by omega)
   rw[hR]at hR1
   clear hg e15
   go_wp2_with fail
   rw[e]at hO1 hR1
   (try rw[e])
   have hfin:=aB (w:=wr.setRow (w.heap.size+1+1) (bO (ofL l)).toArray) (g:=w.heap.size+1) (c:=(bO (ofL l)).toArray) (by rw[hR1];simp) (by rw[hR1];simp[hol])
   (try simp only[Exit.inBlock,Exit.then])
   refine bodyPost_ret (aV rfl (aK rfl ?_)) rfl ?_
   ·rw[hfin]
    simp[hol]
   refine⟨by rw[hfin],?_⟩
   exact Below.setRow (Below.setRow hbel (by omega) _) (by omega) _
theorem aHw (l:List UInt8) (w:World) (hl:l.length=32):
  Calls Tryz.prog 175 #[.agg (u8s l).toArray] w fun e w'=>e=.returned (.agg (u8s (q8 l)).toArray)/\Below w.heap.size w w':=by
 have h0:0<l.length:=by omega
 have h31:31<l.length:=by omega
 obtain⟨c0,hc0⟩:∃c:UInt8,l[0]&&& 248=c:=⟨_,rfl⟩
 obtain⟨c1,hc1⟩:∃c:UInt8,l[31]&&& 127=c:=⟨_,rfl⟩
 obtain⟨c2,hc2⟩:∃c:UInt8,c1||| 64=c:=⟨_,rfl⟩
 have e0:bits .and .u8 (l[0].toNat:Int) 248=(c0.toNat:Int):=by rw[<-hc0];exact aDZ l[0] 248
 have e31:bits .and .u8 (l[31].toNat:Int) 127=(c1.toNat:Int):=by rw[<-hc1];exact aDZ l[31] 127
 have e32:bits .or .u8 (c1.toNat:Int) 64=(c2.toNat:Int):=by rw[<-hc2];exact aM5 c1 64
 have es:=jR l 0 c0
 have es2:=jR (l.set 0 c0) 31 c2
 have hc:q8 l=(l.set 0 c0).set 31 c2:=by simp[q8,List.getD_eq_getElem?_getD,h0,h31,hc0,hc1,hc2]
 rw[hc]
 clear hc hc0 hc1 hc2
 go_enter Tryz.func175,Tryz.ntmps175
 go_wp2_with fail
 ((try simp only[Exit.inBlock,Exit.then]);refine bodyPost_ret (aV rfl (aK rfl ?_)) rfl ?_;(simp[go_sem]))
 ·exact hl
 refine⟨by simp[go_sem,hl],?_⟩
 (repeat (first | exact Below.refl _ _ | refine Below.al ?_ _ | refine Below.drew ?_ | refine Below.sr ?_ _ | refine Below.sc ?_ _))
end
section
open Go.RowKit
def k1:List UInt8:=1::List.replicate 31 0
theorem aDh (xs:List Int) (hx:xs.length=16):(aFh xs).length=16:=j3 xs hx 254
attribute [local irreducible] aDf aX ofL aFh aU
end
end Go.Proofs.YtiagbbknkdgmeaaGreat
