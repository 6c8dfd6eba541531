/- Texts of this proof, merged: Eth0, Eth. -/
import Derived.Test.YtiagbbknkdgmeaaGreatOctJ
import Derived.Test.YtiagbbknkdgmeaaGreatJ2
import Derived.Deep.RegionHeld3
set_option linter.unusedSimpArgs false
set_option linter.unusedVariables false
set_option maxHeartbeats 8000000
set_option maxRecDepth 20000
namespace Go.Proofs.YtiagbbknkdgmeaaGreat
section
open Go.RowKit
def xB (dst src:Vector UInt8 6) (ty:Int) (body:List UInt8) (vlan prio:Int):List Value:=u8v dst++(u8v src++[.int .i64 ty,.string ⟨body.toArray⟩,.int .i64 vlan,.int .i64 prio])
def eA (ty vlan prio size:Int):Bool:=(ty==0||(decide (1536<=ty)&&decide (ty<=65535)&&ty !=33024))&&((vlan== -1&&prio==0)||(decide (0<=vlan)&&decide (vlan<=4094)&&decide (0<=prio)&&decide (prio<=7)))&&decide (size<=1500)
theorem aEF (l t:List Value) (h:l.length=4):l[0]::l[1]::l[2]::l[3]::t=l++t:=by
 match l,h with
 | [a,b,c,d],_=>rfl
theorem aGk (l t:List Value) (h:l.length=6):l[0]::l[1]::l[2]::l[3]::l[4]::l[5]::t=l++t:=by
 match l,h with
 | [a,b,c,d,e,f],_=>rfl
@[simp] theorem aGl (v : Vector UInt8 6) (t : List Value) : (u8v v)[0]'(by simp) :: (u8v v)[1]'(by simp) :: (u8v v)[2]'(by simp) :: (u8v v)[3]'(by simp) :: (u8v v)[4]'(by simp) :: (u8v v)[5]'(by simp) :: t = u8v v ++ t := aGk _ _ (by simp)
@[simp] theorem aDR (v : Vector UInt8 4) (t : List Value) : (u8v v)[0]'(by simp) :: (u8v v)[1]'(by simp) :: (u8v v)[2]'(by simp) :: (u8v v)[3]'(by simp) :: t = u8v v ++ t := aEF _ _ (by simp)
theorem aA9 (dst src:Vector UInt8 6) (ty:Int) (body:List UInt8) (vlan prio:Int) (w:World):
  Calls Tryz.prog 86 #[.agg (xB dst src ty body vlan prio).toArray] w fun e w'=>e=.returned (.bool (eA ty vlan prio body.length))/\Below w.heap.size w w':=by
 unfold xB
 go_enter Tryz.func86,Tryz.ntmps86
 go_wp2_with fail
 all_goals
  go_ret
  refine⟨?_,by(repeat (first | exact Below.refl _ _ | refine Below.al ?_ _ | refine Below.drew ?_ | refine Below.sr ?_ _ | refine Below.sc ?_ _))⟩
  simp only[eA]
  first
   | (simp[*];done)
   | (simp[*];omega)
   | (by_cases h33:ty=33024<;>by_cases h00:ty=0<;>(first | (simp[*];done) | (simp[*];omega) | omega))
end
section
open Go.RowKit
def aGm (vlan prio:Int):List UInt8:=if vlan= -1 then []else [129,0]++bJ (prio*8192+vlan).toNat 2
def oW (dst src:Vector UInt8 6) (ty:Int) (body:List UInt8) (vlan prio:Int):List UInt8:=
 dst.toList++(src.toList++(aGm vlan prio++(bJ (if ty=0 then (body.length:Int)else ty).toNat 2++body)))
theorem tQ:bJ 33024 2=[129,0]:=by decide+kernel
theorem aLO (p v:Int) (h0:0<=p) (h1:p<=7) (h2:0<=v) (h3:v<=4095):bits .or .i64 (IntKind.i64.wrap (p*8192)) v=p*8192+v:=by
 rw[dR _ (by omega) (by omega)]
 exact bits_join .i64 63 (by decide) dR 13 _ _ (by omega) (by omega) (by omega) h2 (by omega) (by omega)
theorem aBa (dst src:Vector UInt8 6) (ty:Int) (body:List UInt8) (vlan prio:Int) (w:World) (hr:eA ty vlan prio body.length=false):
  Calls Tryz.prog 50 #[.agg (xB dst src ty body vlan prio).toArray] w fun e w'=>e=.returned (.tuple #[.string ⟨#[]⟩,.int .i64 3])/\Below w.heap.size w w':=by
 unfold xB
 go_enter Tryz.func50,Tryz.ntmps50
 go_wp2_with fail
 refine(aA9 dst src ty body vlan prio _).mono ?_
 rintro e w1 ⟨rfl,hb1⟩
 rw[hr]
 go_wp2_with fail
 go_ret2
 refine⟨by simp,?_⟩
 refine Below.trans ?_ (Below.mono hb1 (by first | (simp;done) | (simp;omega) | omega))
 (repeat (first | exact Below.refl _ _ | refine Below.al ?_ _ | refine Below.drew ?_ | refine Below.sr ?_ _ | refine Below.sc ?_ _))
theorem aBb (dst src:Vector UInt8 6) (ty:Int) (body:List UInt8) (vlan prio:Int) (w:World) (hr:eA ty vlan prio body.length=true):
  Calls Tryz.prog 50 #[.agg (xB dst src ty body vlan prio).toArray] w fun e w'=>e=.returned (.tuple #[.string ⟨(oW dst src ty body vlan prio).toArray⟩,.int .i64 0])/\Below w.heap.size w w':=by
 have hr0:=hr
 simp[eA]at hr0
 obtain⟨⟨hty,hvl⟩,hsz⟩:=hr0
 have hsz1:(body.length:Int)<=1500:=by omega
 unfold xB
 go_enter Tryz.func50,Tryz.ntmps50
 go_wp2_with fail
 refine(aA9 dst src ty body vlan prio _).mono ?_
 rintro e w1 ⟨rfl,hb1⟩
 rw[hr]
 have ra:row w1 w.heap.size=(u8v dst++(u8v src++[Value.int .i64 ty,.string ⟨body.toArray⟩,.int .i64 vlan,.int .i64 prio])).toArray:=by rw[aA hb1 (by simp)];simp[go_sem]
 have z1:=(hb1).size
 try simp at z1
 replace hb1:=cJ hb1 (show Below (w).heap.size w _ from by(repeat (first | exact Below.refl _ _ | refine Below.al ?_ _ | refine Below.drew ?_ | refine Below.sr ?_ _ | refine Below.sc ?_ _))) (by first | (simp;done) | (simp;omega) | omega)
 go_wp2_with fail
 refine a8 (S:=cQ (fun w'=>row w' w.heap.size=(u8v dst++(u8v src++[Value.int .i64 ty,.string ⟨body.toArray⟩,.int .i64 vlan,.int .i64 prio])).toArray)) rfl ?_ (fun hS=>?_)
 ·unfold cQ
  simp[go_sem, *]
 refine rp 0 hS ?_
 refine rp 1 hS ?_
 refine rp 2 hS ?_
 refine rp 3 hS ?_
 refine rp 4 hS ?_
 refine rp 5 hS ?_
 refine rp 6 hS ?_
 refine rp 7 hS ?_
 refine rp 8 hS ?_
 refine rp 9 hS ?_
 refine wpAnyH_done kr_ ?_ _
 rcases hvl with ⟨rfl,rfl⟩ | ⟨⟨⟨hv0,hv1⟩,hp0⟩,hp1⟩
 ·by_cases ht0:ty=0
  ·subst ht0
   go_wp2_with fail
   refine a8 (S:=cQ (fun w'=>row w' w.heap.size=(u8v dst++(u8v src++[Value.int .i64 0,.string ⟨body.toArray⟩,.int .i64 (-1),.int .i64 0])).toArray)) rfl ?_ (fun hS=>?_)
   ·unfold cQ
    simp[go_sem, *]
   refine rp 0 hS ?_
   refine rp 1 hS ?_
   refine rp 4 hS ?_
   refine rp 5 hS ?_
   refine rp 6 hS ?_
   refine wpAnyH_all (rs:=[2]) kr_ (by simp) ?_
   intro i hi
   obtain rfl:=List.mem_singleton.1 hi
   refine wpOp_step rfl (fun K hK=>?_)
   clear hi hS
   go_simp
   refine(fW _ _ (by omega) (by omega)).mono ?_
   rintro e w9 ⟨rfl,hb9⟩
   refine hK _ _ (bC ?_ (fun hS=>?_))
   ·unfold cQ
    show row _ _=_
    rw[aA hb9 (by first | (simp;done) | (simp;omega) | omega)]
    (first | done | simp[go_sem, *])
   clear hK K
   refine rp 3 hS ?_
   refine wpAnyH_take (i:=7) (v:=?_) cD kr_ kr_ kr_ (by exact fun _ _ _ h=>h) (Or.inl ⟨by rfl,?_⟩) hS ?_
   rotate_left
   ·intro w' hS'
    unfold cQ at hS'
    go_simp
    rw[if_neg (by omega)]
    (first | done | rfl)
   (try simp only[Act.put,List.setIfInBounds_toArray,List.set_cons_zero,List.set_cons_succ])
   refine rp 8 hS ?_
   refine rp 9 hS ?_
   refine wpAnyH_done kr_ ?_ _
   go_wp2_with fail
   go_ret2
   refine⟨by simp[oW,aGm],?_⟩
   refine Below.trans ?_ (Below.mono hb9 (by first | (simp;done) | (simp;omega) | omega))
   (repeat (first | refine Below.al ?_ _ | refine Below.drew ?_ | refine Below.sr ?_ _ | refine Below.sc ?_ _))
   exact hb1
  ·have ht1:0<=ty:=by omega
   have ht2:ty<=65535:=by omega
   go_wp2_with fail
   refine a8 (S:=cQ (fun w'=>row w' w.heap.size=(u8v dst++(u8v src++[Value.int .i64 ty,.string ⟨body.toArray⟩,.int .i64 (-1),.int .i64 0])).toArray)) rfl ?_ (fun hS=>?_)
   ·unfold cQ
    simp[go_sem, *]
   refine rp 0 hS ?_
   refine rp 1 hS ?_
   refine rp 4 hS ?_
   refine rp 5 hS ?_
   refine rp 6 hS ?_
   refine wpAnyH_all (rs:=[2]) kr_ (by simp) ?_
   intro i hi
   obtain rfl:=List.mem_singleton.1 hi
   refine wpOp_step rfl (fun K hK=>?_)
   clear hi hS
   go_simp
   refine(fW _ _ (by omega) (by omega)).mono ?_
   rintro e w9 ⟨rfl,hb9⟩
   refine hK _ _ (bC ?_ (fun hS=>?_))
   ·unfold cQ
    show row _ _=_
    rw[aA hb9 (by first | (simp;done) | (simp;omega) | omega)]
    (first | done | simp[go_sem, *])
   clear hK K
   refine rp 3 hS ?_
   refine wpAnyH_take (i:=7) (v:=?_) cD kr_ kr_ kr_ (by exact fun _ _ _ h=>h) (Or.inl ⟨by rfl,?_⟩) hS ?_
   rotate_left
   ·intro w' hS'
    unfold cQ at hS'
    go_simp
    rw[if_neg (by omega)]
    (first | done | rfl)
   (try simp only[Act.put,List.setIfInBounds_toArray,List.set_cons_zero,List.set_cons_succ])
   refine rp 8 hS ?_
   refine rp 9 hS ?_
   refine wpAnyH_done kr_ ?_ _
   go_wp2_with fail
   go_ret2
   refine⟨by simp[oW,aGm,ht0],?_⟩
   refine Below.trans ?_ (Below.mono hb9 (by first | (simp;done) | (simp;omega) | omega))
   (repeat (first | refine Below.al ?_ _ | refine Below.drew ?_ | refine Below.sr ?_ _ | refine Below.sc ?_ _))
   exact hb1
 ·have hv2:¬vlan= -1:=by omega
  have hv3:(vlan != -1)=true:=by simp[hv2]
  go_wp2_with fail
  refine a8 (S:=cQ (fun w'=>row w' w.heap.size=(u8v dst++(u8v src++[Value.int .i64 ty,.string ⟨body.toArray⟩,.int .i64 vlan,.int .i64 prio])).toArray)) rfl ?_ (fun hS=>?_)
  ·unfold cQ
   simp[go_sem, *]
  refine rp 0 hS ?_
  refine rp 2 hS ?_
  refine rp 3 hS ?_
  refine rp 4 hS ?_
  refine rp 5 hS ?_
  refine rp 6 hS ?_
  refine rp 7 hS ?_
  rw[aLO prio vlan hp0 hp1 hv0 (by omega)]
  refine wpAnyH_all (rs:=[1]) kr_ (by simp) ?_
  intro i hi
  obtain rfl:=List.mem_singleton.1 hi
  refine wpOp_step rfl (fun K hK=>?_)
  clear hi hS
  go_simp
  refine(fW _ _ (by omega) (by omega)).mono ?_
  rintro e w2 ⟨rfl,hb2⟩
  have z2:=(hb2).size
  try simp at z2
  refine hK _ _ (bC ?_ (fun hS=>?_))
  ·unfold cQ
   show row _ _=_
   rw[aA hb2 (by first | (simp;done) | (simp;omega) | omega)]
   (first | done | simp[go_sem, *])
  clear hK K
  have ra2:=hS
  unfold cQ at ra2
  refine wpAnyH_all (rs:=[8]) kr_ (by simp) ?_
  intro i hi
  obtain rfl:=List.mem_singleton.1 hi
  refine wpOp_step rfl (fun K hK=>?_)
  clear hi hS
  go_simp
  refine(fW _ _ (by omega) (by omega)).mono ?_
  rintro e w3 ⟨rfl,hb3⟩
  have z3:=(hb3).size
  try simp at z3
  refine hK _ _ (bC ?_ (fun hS=>?_))
  ·unfold cQ
   show row _ _=_
   rw[aA hb3 (by first | (simp;done) | (simp;omega) | omega)]
   (first | done | simp[go_sem, *])
  clear hK K
  refine rp 9 hS ?_
  refine rp 10 hS ?_
  refine rp 11 hS ?_
  refine wpAnyH_done kr_ ?_ _
  have ra3:=hS
  unfold cQ at ra3
  by_cases ht0:ty=0
  ·subst ht0
   go_wp2_with fail
   refine a8 (S:=cQ (fun w'=>row w' w.heap.size=(u8v dst++(u8v src++[Value.int .i64 0,.string ⟨body.toArray⟩,.int .i64 vlan,.int .i64 prio])).toArray)) rfl ?_ (fun hS=>?_)
   ·unfold cQ
    simp[go_sem, *]
   refine rp 0 hS ?_
   refine rp 1 hS ?_
   refine rp 4 hS ?_
   refine rp 5 hS ?_
   refine rp 6 hS ?_
   refine wpAnyH_all (rs:=[2]) kr_ (by simp) ?_
   intro i hi
   obtain rfl:=List.mem_singleton.1 hi
   refine wpOp_step rfl (fun K hK=>?_)
   clear hi hS
   go_simp
   refine(fW _ _ (by omega) (by omega)).mono ?_
   rintro e w9 ⟨rfl,hb9⟩
   refine hK _ _ (bC ?_ (fun hS=>?_))
   ·unfold cQ
    show row _ _=_
    rw[aA hb9 (by first | (simp;done) | (simp;omega) | omega)]
    (first | done | simp[go_sem, *])
   clear hK K
   refine rp 3 hS ?_
   refine wpAnyH_take (i:=7) (v:=?_) cD kr_ kr_ kr_ (by exact fun _ _ _ h=>h) (Or.inl ⟨by rfl,?_⟩) hS ?_
   rotate_left
   ·intro w' hS'
    unfold cQ at hS'
    go_simp
    rw[if_neg (by omega)]
    (first | done | rfl)
   (try simp only[Act.put,List.setIfInBounds_toArray,List.set_cons_zero,List.set_cons_succ])
   refine rp 8 hS ?_
   refine rp 9 hS ?_
   refine wpAnyH_done kr_ ?_ _
   go_wp2_with fail
   go_ret2
   refine⟨by simp[oW,aGm,hv2,tQ],?_⟩
   refine Below.trans ?_ (Below.mono hb9 (by first | (simp;done) | (simp;omega) | omega))
   (repeat (first | refine Below.al ?_ _ | refine Below.drew ?_ | refine Below.sr ?_ _ | refine Below.sc ?_ _))
   refine Below.trans ?_ (Below.mono hb3 (by first | (simp;done) | (simp;omega) | omega))
   (repeat (first | refine Below.al ?_ _ | refine Below.drew ?_ | refine Below.sr ?_ _ | refine Below.sc ?_ _))
   refine Below.trans ?_ (Below.mono hb2 (by first | (simp;done) | (simp;omega) | omega))
   (repeat (first | refine Below.al ?_ _ | refine Below.drew ?_ | refine Below.sr ?_ _ | refine Below.sc ?_ _))
   exact hb1
  ·have ht1:0<=ty:=by omega
   have ht2:ty<=65535:=by omega
   go_wp2_with fail
   refine a8 (S:=cQ (fun w'=>row w' w.heap.size=(u8v dst++(u8v src++[Value.int .i64 ty,.string ⟨body.toArray⟩,.int .i64 vlan,.int .i64 prio])).toArray)) rfl ?_ (fun hS=>?_)
   ·unfold cQ
    simp[go_sem, *]
   refine rp 0 hS ?_
   refine rp 1 hS ?_
   refine rp 4 hS ?_
   refine rp 5 hS ?_
   refine rp 6 hS ?_
   refine wpAnyH_all (rs:=[2]) kr_ (by simp) ?_
   intro i hi
   obtain rfl:=List.mem_singleton.1 hi
   refine wpOp_step rfl (fun K hK=>?_)
   clear hi hS
   go_simp
   refine(fW _ _ (by omega) (by omega)).mono ?_
   rintro e w9 ⟨rfl,hb9⟩
   refine hK _ _ (bC ?_ (fun hS=>?_))
   ·unfold cQ
    show row _ _=_
    rw[aA hb9 (by first | (simp;done) | (simp;omega) | omega)]
    (first | done | simp[go_sem, *])
   clear hK K
   refine rp 3 hS ?_
   refine wpAnyH_take (i:=7) (v:=?_) cD kr_ kr_ kr_ (by exact fun _ _ _ h=>h) (Or.inl ⟨by rfl,?_⟩) hS ?_
   rotate_left
   ·intro w' hS'
    unfold cQ at hS'
    go_simp
    rw[if_neg (by omega)]
    (first | done | rfl)
   (try simp only[Act.put,List.setIfInBounds_toArray,List.set_cons_zero,List.set_cons_succ])
   refine rp 8 hS ?_
   refine rp 9 hS ?_
   refine wpAnyH_done kr_ ?_ _
   go_wp2_with fail
   go_ret2
   refine⟨by simp[oW,aGm,ht0,hv2,tQ],?_⟩
   refine Below.trans ?_ (Below.mono hb9 (by first | (simp;done) | (simp;omega) | omega))
   (repeat (first | refine Below.al ?_ _ | refine Below.drew ?_ | refine Below.sr ?_ _ | refine Below.sc ?_ _))
   refine Below.trans ?_ (Below.mono hb3 (by first | (simp;done) | (simp;omega) | omega))
   (repeat (first | refine Below.al ?_ _ | refine Below.drew ?_ | refine Below.sr ?_ _ | refine Below.sc ?_ _))
   refine Below.trans ?_ (Below.mono hb2 (by first | (simp;done) | (simp;omega) | omega))
   (repeat (first | refine Below.al ?_ _ | refine Below.drew ?_ | refine Below.sr ?_ _ | refine Below.sc ?_ _))
   exact hb1
end
end Go.Proofs.YtiagbbknkdgmeaaGreat
