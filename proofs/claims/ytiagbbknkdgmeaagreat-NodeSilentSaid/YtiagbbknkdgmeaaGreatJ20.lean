/- Texts of this proof, merged: Vln, RpA. -/
import Derived.Test.YtiagbbknkdgmeaaGreatJ7
import Derived.Test.YtiagbbknkdgmeaaGreatJ16
import Derived.Test.YtiagbbknkdgmeaaGreatJ14
import Derived.Shelf.Abstract
import Derived.BigQuiet
import Derived.WalkSmall
set_option linter.unusedSimpArgs false
set_option linter.unusedVariables false
set_option maxHeartbeats 8000000
set_option maxRecDepth 20000
namespace Go.Proofs.YtiagbbknkdgmeaaGreat
section
open Go.RowKit Go.Shelf
def okR (native:Int):Int->List Int->Bool
 | _,[]=>true
 | last,v::l=> !(decide (v<=last)||decide (4094<v)||v==native)&&okR native v l
def iH (native:Int) (l:List Int):Bool:=decide (0<=native)&&decide (native<=4094)&&decide (l.length<=64)&&okR native 0 l
def cV (native:Int) (l:List Int) (v:Int):Bool:=iH native l&&v !=0&&(v==native||l.contains v)
def kU (l:List Int) (k:Nat):Int:=(0::l).getD k 0
theorem aIA {native:Int} {l:List Int} {k:Nat} (hk:k<l.length):okR native (kU l k) (l.drop k)=(!(decide (l[k]<=kU l k)||decide (4094<l[k])||l[k]==native)&&okR native (kU l (k+1)) (l.drop (k+1))):=by
 rw[List.drop_eq_getElem_cons hk,okR]
 have:kU l (k+1)=l[k]:=by unfold kU;simp[List.getD_eq_getElem?_getD,hk]
 rw[this]
theorem aCI (x last native:Int) (tv:Value) (Lb Pb:Nat) (w:World) (hL:row w Lb=#[.int .i64 last]) (hP:row w Pb=#[.int .i64 native,tv]):
  Calls Tryz.prog 70 #[.int .i64 x,.pointer (some ⟨Lb,0,none⟩),.pointer (some ⟨Pb,0,none⟩)] w fun e w'=>
   e=.returned (.bool (decide (x<=last)||decide (4094<x)||x==native))/\w'=w.setRow Lb #[.int .i64 x]:=by
 go_enter Tryz.func70,Tryz.ntmps70
 by_cases h1:x<=last
 ·go_wp2_with fail
  go_ret
  exact⟨by simp[h1],rfl⟩
 ·by_cases h2:4094<x
  ·go_wp2_with fail
   go_ret
   exact⟨by simp[h2],rfl⟩
  ·by_cases h3:x=native
   ·subst h3
    go_wp2_with fail
    go_ret
    exact⟨by simp,rfl⟩
   ·have h4:(x==native)=false:=by simpa using h3
    go_wp2_with fail
    go_ret
    exact⟨by simp[h3];omega,rfl⟩
theorem xO (native:Int) (a:Option Addr) (cap:Nat) (l:List Int) (w:World) (h:IntsAt w a l):
  Calls Tryz.prog 35 #[.agg #[.int .i64 native,.slice a l.length cap]] w fun e w'=>e=.returned (.bool (iH native l))/\Below w.heap.size w w':=by
 have hl:=h.len
 have hl2:(l.length:Int)<=9223372036854775807:=by unfold maxLen at hl;omega
 obtain⟨r,hr⟩:∃x,iH native l=x:=⟨_,rfl⟩
 rw[hr]
 have HR:=h_ hr
 clear hr
 go_enter Tryz.func35,Tryz.ntmps35
 by_cases h1:native<0
 ·go_wp2_with fail
  go_ret
  exact⟨by rw[<-HR.out,iH,decide_eq_false (by omega:¬0<=native)];rfl,by(repeat (first | exact Below.refl _ _ | refine Below.al ?_ _ | refine Below.drew ?_ | refine Below.sr ?_ _ | refine Below.sc ?_ _))⟩
 by_cases h2:4094<native
 ·go_wp2_with fail
  go_ret
  exact⟨by rw[<-HR.out,iH,decide_eq_false (by omega:¬native<=4094)];simp,by(repeat (first | exact Below.refl _ _ | refine Below.al ?_ _ | refine Below.drew ?_ | refine Below.sr ?_ _ | refine Below.sc ?_ _))⟩
 by_cases h3:64<l.length
 ·have h3I:(64:Int)<(l.length:Int):=by omega
  go_wp2_with fail
  go_ret
  exact⟨by rw[<-HR.out,iH,decide_eq_false (by omega:¬l.length<=64)];simp,by(repeat (first | exact Below.refl _ _ | refine Below.al ?_ _ | refine Below.drew ?_ | refine Below.sr ?_ _ | refine Below.sc ?_ _))⟩
 have h3I:¬(64:Int)<(l.length:Int):=by omega
 go_wp2_with fail
 obtain⟨W,hW⟩:∃W,(w.alloc (.cells #[.int .i64 native,.slice a l.length cap] 62)).alloc (.cells #[.int .i64 0] 3)=W:=⟨_,rfl⟩
 have bW:Below w.heap.size w W:=by rw[<-hW];exact Below.alloc (ba_) (by simp) _
 have rP:row W w.heap.size=#[.int .i64 native,.slice a l.length cap]:=by rw[<-hW];simp[go_sem]
 have rL:row W (w.heap.size+1)=#[.int .i64 0]:=by rw[<-hW];simp[go_sem]
 have zW:W.heap.size=w.heap.size+2:=by rw[<-hW];simp
 (try rw[hW])
 clear hW
 refine(iP 70 #[.pointer (some ⟨w.heap.size+1,0,none⟩),.pointer (some ⟨w.heap.size,0,none⟩)] (enters_of Tryz.func70 kr_ rfl) a cap l
  (fun k W'=>okR native 0 l=okR native (kU l k) (l.drop k)/\Below w.heap.size w W'/\row W' w.heap.size=#[.int .i64 native,.slice a l.length cap]/\row W' (w.heap.size+1)=#[.int .i64 (kU l k)])
  (fun W'=>okR native 0 l=false/\Below w.heap.size w W') (fun k W' hI=>h.below hI.2.1) ?_ W ⟨rfl,bW,rP,rL⟩ hl).mono ?_
 ·rintro k hk W' ⟨i1,i2,i3,i4⟩
  refine(aCI l[k] (kU l k) native _ _ _ W' i4 i3).mono ?_
  rintro e W2 ⟨rfl,rfl⟩
  rw[aIA hk]at i1
  have hlast:kU l (k+1)=l[k]:=by unfold kU;simp[List.getD_eq_getElem?_getD,hk]
  have hb2:Below w.heap.size w (W'.setRow (w.heap.size+1) #[.int .i64 l[k]]):=Below.setRow i2 (by omega) _
  cases hb:(decide (l[k]<=kU l k)||decide (4094<l[k])||l[k]==native)with
  | true=>
   rw[hb]at i1
   exact .inr ⟨rfl,by simpa using i1,hb2⟩
  | false=>
   rw[hb]at i1
   refine .inl ⟨rfl,by simpa using i1,hb2,by rw[aC _ _ _ (by omega)];exact i3,?_⟩
   rw[aB (by rw[i4];simp) (by rw[i4];simp),hlast]
 ·rintro e W2 (⟨rfl,i1,i2,_,_⟩ | ⟨rfl,i1,i2⟩)
  ·go_wp2_with fail
   go_ret
   exact⟨by rw[<-HR.out,iH,decide_eq_true (by omega:0<=native),decide_eq_true (by omega:native<=4094),decide_eq_true (by omega:l.length<=64),i1,List.drop_of_length_le (Nat.le_refl _)];rfl,i2⟩
  ·go_wp2_with fail
   go_ret
   exact⟨by rw[<-HR.out,iH,i1];simp,i2⟩
theorem mU (native:Int) (a:Option Addr) (cap:Nat) (l:List Int) (v:Int) (w:World) (h:IntsAt w a l):
  Calls Tryz.prog 125 #[.agg #[.int .i64 native,.slice a l.length cap],.int .i64 v] w fun e w'=>e=.returned (.bool (cV native l v))/\Below w.heap.size w w':=by
 have HRt:=h_ (fun w (h:IntsAt w a l)=>xO native a cap l w h)
 have HCt:=h_ (fun w (h:IntsAt w a l)=>yQ a cap l v w h)
 obtain⟨r,hr⟩:∃x,cV native l v=x:=⟨_,rfl⟩
 obtain⟨rt,hrt⟩:∃x,iH native l=x:=⟨_,rfl⟩
 obtain⟨ct,hct⟩:∃x,l.contains v=x:=⟨_,rfl⟩
 rw[hrt]at HRt
 rw[hct]at HCt
 rw[cV,hrt,hct]at hr
 rw[cV,hrt,hct,hr]
 have HR:=h_ hr
 clear hr hrt hct
 go_enter Tryz.func125,Tryz.ntmps125
 obtain⟨W,hW⟩:∃W,w.alloc (.cells #[.int .i64 native,.slice a l.length cap] 62)=W:=⟨_,rfl⟩
 have bW:Below w.heap.size w W:=by rw[<-hW];exact ba_
 have rP:row W w.heap.size=#[.int .i64 native,.slice a l.length cap]:=by rw[<-hW];simp[go_sem]
 have zW:W.heap.size=w.heap.size+1:=by rw[<-hW];simp
 cases rt with
 | false=>
  go_wp2_with fail
  clear hW
  (with_reducible refine(HRt.out _ (h.below bW)).mono ?_)
  rintro e w1 ⟨rfl,b1⟩
  go_wp2_with fail
  go_ret
  exact⟨by rw[<-HR.out];simp,bW.trans (b1.mono (by omega))⟩
 | true=>
  by_cases h0:v=0
  ·subst h0
   go_wp2_with fail
   clear hW
   (with_reducible refine(HRt.out _ (h.below bW)).mono ?_)
   rintro e w1 ⟨rfl,b1⟩
   go_wp2_with fail
   go_ret
   exact⟨by rw[<-HR.out];simp,bW.trans (b1.mono (by omega))⟩
  ·have h01:(v==0)=false:=by simpa using h0
   have h02:(v !=0)=true:=by simpa using h0
   by_cases h1:v=native
   ·subst h1
    go_wp2_with fail
    clear hW
    (with_reducible refine(HRt.out _ (h.below bW)).mono ?_)
    rintro e w1 ⟨rfl,b1⟩
    have rP1:=(aA b1 (by omega)).trans rP
    go_wp2_with fail
    go_ret
    exact⟨by rw[<-HR.out,h02];simp,bW.trans (b1.mono (by omega))⟩
   ·have h11:(v==native)=false:=by simpa using h1
    go_wp2_with fail
    clear hW
    (with_reducible refine(HRt.out _ (h.below bW)).mono ?_)
    rintro e w1 ⟨rfl,b1⟩
    have rP1:=(aA b1 (by omega)).trans rP
    have hi:=(h.below bW).below b1
    go_wp2_with fail
    (with_reducible refine(HCt.out _ hi).mono ?_)
    rintro e w2 ⟨rfl,rfl⟩
    go_wp2_with fail
    go_ret
    exact⟨by rw[<-HR.out,h02,h11];simp,bW.trans (b1.mono (by omega))⟩
def inP (native:Int) (l:List Int) (vlan:Int):Int×Int:=
 let v:=if vlan= -1∨vlan=0 then native else vlan
 if cV native l v then (v,0)else (0,12)
theorem aKo (native:Int) (a:Option Addr) (cap:Nat) (l:List Int) (dst src:Vector UInt8 6) (ty:Int) (body:List UInt8) (vlan prio:Int) (w:World) (h:IntsAt w a l):
  Calls Tryz.prog 94 #[.agg #[.int .i64 native,.slice a l.length cap],.agg (u8v dst++(u8v src++[Value.int .i64 ty,.string ⟨body.toArray⟩,.int .i64 vlan,.int .i64 prio])).toArray] w fun e w'=>
   e=.returned (.tuple #[.int .i64 (inP native l vlan).1,.int .i64 (inP native l vlan).2])/\Below w.heap.size w w':=by
 have HM:=h_ (fun v w (h:IntsAt w a l)=>mU native a cap l v w h)
 obtain⟨r,hr⟩:∃x,inP native l vlan=x:=⟨_,rfl⟩
 rw[hr]
 have HR:=h_ hr
 clear hr
 go_enter Tryz.func94,Tryz.ntmps94
 obtain⟨W,hW⟩:∃W,(w.alloc (.cells #[.int .i64 native,.slice a l.length cap] 62)).alloc (.cells (u8v dst++(u8v src++[Value.int .i64 ty,.string ⟨body.toArray⟩,.int .i64 vlan,.int .i64 prio])).toArray 160)=W:=⟨_,rfl⟩
 have bW:Below w.heap.size w W:=by rw[<-hW];exact Below.alloc (ba_) (by simp) _
 have rP:row W w.heap.size=#[.int .i64 native,.slice a l.length cap]:=by rw[<-hW];simp[go_sem]
 have rX:row W (w.heap.size+1)=(u8v dst++(u8v src++[Value.int .i64 ty,.string ⟨body.toArray⟩,.int .i64 vlan,.int .i64 prio])).toArray:=by rw[<-hW];simp[go_sem]
 have zW:W.heap.size=w.heap.size+2:=by rw[<-hW];simp
 have hi:=h.below bW
 by_cases h1:vlan= -1
 ·have e1:inP native l vlan=if cV native l native then (native,0)else (0,12):=by rw[inP,if_pos (Or.inl h1)]
  have HE:=h_ e1
  subst h1
  clear e1
  obtain⟨m,hm⟩:∃x,cV native l native=x:=⟨_,rfl⟩
  have HMM:=h_ hm
  have HM1:=h_ (fun w h=>HM.out native w h)
  rw[hm]at HM1
  clear hm HM
  cases m
  all_goals
   go_wp2_with fail
   try clear hW
   (with_reducible refine(HM1.out _ hi).mono ?_)
   rintro e w1 ⟨rfl,b1⟩
   go_wp2_with fail
   go_ret2
   refine⟨by rw[<-HR.out,HE.out,HMM.out];rfl,bW.trans (b1.mono (by omega))⟩
 ·have h1f:(vlan== -1)=false:=by simpa using h1
  by_cases h2:vlan=0
  ·have e1:inP native l vlan=if cV native l native then (native,0)else (0,12):=by rw[inP,if_pos (Or.inr h2)]
   have HE:=h_ e1
   subst h2
   clear e1
   obtain⟨m,hm⟩:∃x,cV native l native=x:=⟨_,rfl⟩
   have HMM:=h_ hm
   have HM1:=h_ (fun w h=>HM.out native w h)
   rw[hm]at HM1
   clear hm HM
   cases m
   all_goals
    go_wp2_with fail
    try clear hW
    (with_reducible refine(HM1.out _ hi).mono ?_)
    rintro e w1 ⟨rfl,b1⟩
    go_wp2_with fail
    go_ret2
    refine⟨by rw[<-HR.out,HE.out,HMM.out];rfl,bW.trans (b1.mono (by omega))⟩
  ·have h2f:(vlan==0)=false:=by simpa using h2
   have e1:inP native l vlan=if cV native l vlan then (vlan,0)else (0,12):=by rw[inP,if_neg (not_or.2 ⟨h1,h2⟩)]
   have HE:=h_ e1
   clear e1
   obtain⟨m,hm⟩:∃x,cV native l vlan=x:=⟨_,rfl⟩
   have HMM:=h_ hm
   have HM1:=h_ (fun w h=>HM.out vlan w h)
   rw[hm]at HM1
   clear hm HM
   cases m
   all_goals
    go_wp2_with fail
    try clear hW
    (with_reducible refine(HM1.out _ hi).mono ?_)
    rintro e w1 ⟨rfl,b1⟩
    go_wp2_with fail
    go_ret2
    refine⟨by rw[<-HR.out,HE.out,HMM.out];rfl,bW.trans (b1.mono (by omega))⟩
def aGA (native v prio:Int):Int×Int:=if v=native then (-1,0)else (v,prio)
theorem aIB (native:Int) (a:Option Addr) (cap:Nat) (l:List Int) (v:Int) (dst src:Vector UInt8 6) (ty:Int) (body:List UInt8) (prio:Int) (w:World) (h:IntsAt w a l) (hm:cV native l v=true) (hp0:0<=prio) (hp7:prio<=7):
  Calls Tryz.prog 134 #[.agg #[.int .i64 native,.slice a l.length cap],.int .i64 v,.agg (bV dst src ty body).toArray,.int .i64 prio] w fun e w'=>
   e=.returned (.tuple #[.agg (xB dst src ty body (aGA native v prio).1 (aGA native v prio).2).toArray,.bool true])/\Below w.heap.size w w':=by
 have HM:=h_ (fun w (h:IntsAt w a l)=>mU native a cap l v w h)
 rw[hm]at HM
 clear hm
 unfold bV xB
 go_enter Tryz.func134,Tryz.ntmps134
 obtain⟨W,hW⟩:∃W,((w.alloc (.cells #[.int .i64 native,.slice a l.length cap] 62)).alloc (.cells (u8v dst++(u8v src++[Value.int .i64 ty,.string ⟨body.toArray⟩])).toArray 158)).alloc (.cells (u8v cF++(u8v cF++[Value.int .i64 0,.string ⟨#[]⟩,.int .i64 0,.int .i64 0])).toArray 160)=W:=⟨_,rfl⟩
 have bW:Below w.heap.size w W:=by rw[<-hW];exact Below.alloc (Below.alloc (ba_) (by simp) _) (by simp;omega) _
 have rP:row W w.heap.size=#[.int .i64 native,.slice a l.length cap]:=by rw[<-hW];simp[go_sem]
 have rX:row W (w.heap.size+1)=(u8v dst++(u8v src++[Value.int .i64 ty,.string ⟨body.toArray⟩])).toArray:=by rw[<-hW];simp[go_sem]
 have rY:row W (w.heap.size+2)=(u8v cF++(u8v cF++[Value.int .i64 0,.string ⟨#[]⟩,.int .i64 0,.int .i64 0])).toArray:=by rw[<-hW];simp[go_sem]
 have zW:W.heap.size=w.heap.size+3:=by rw[<-hW];simp
 have hi:=h.below bW
 by_cases h1:v=native
 ·have HO:=h_ (show aGA native v prio=(-1,0) by rw[aGA,if_pos h1])
  subst h1
  go_wp2_with fail
  (try rw[hW])
  try clear hW
  (with_reducible refine(HM.out _ hi).mono ?_)
  rintro e w1 ⟨rfl,b1⟩
  have rP1:=(aA b1 (by omega)).trans rP
  have rX1:=(aA b1 (by omega)).trans rX
  have rY1:=(aA b1 (by omega)).trans rY
  have bb1:=bW.trans (b1.mono (by omega))
  go_wp2_with fail
  have hfin:=aB (w:=w1) (g:=w.heap.size+2) (c:=(u8v dst++(u8v src++[Value.int .i64 ty,.string ⟨body.toArray⟩,.int .i64 (-1),.int .i64 0])).toArray) (by rw[rY1];simp) (by rw[rY1];simp)
  (try simp only[Exit.inBlock,Exit.then])
  refine bodyPost_ret (aS rfl (aK rfl ?_) aP) rfl ?_
  ·first | (rw[hfin];simp;done) | skip
  ·exact⟨by rw[HO.out,hfin];rfl,Below.setRow bb1 (by omega) _⟩
 ·have h11:(v==native)=false:=by simpa using h1
  have HO:=h_ (show aGA native v prio=(v,prio) by rw[aGA,if_neg h1])
  have e1:prio.tmod 8=prio:=Int.tmod_eq_of_lt hp0 (by omega)
  have e2:(prio+8).tmod 8=prio:=by
   rw[Int.tmod_eq_emod_of_nonneg (by omega)]
   omega
  go_wp2_with fail
  (try rw[hW])
  try clear hW
  (with_reducible refine(HM.out _ hi).mono ?_)
  rintro e w1 ⟨rfl,b1⟩
  have rP1:=(aA b1 (by omega)).trans rP
  have rX1:=(aA b1 (by omega)).trans rX
  have rY1:=(aA b1 (by omega)).trans rY
  have bb1:=bW.trans (b1.mono (by omega))
  go_wp2_with fail
  have hfin:=aB (w:=w1) (g:=w.heap.size+2) (c:=(u8v dst++(u8v src++[Value.int .i64 ty,.string ⟨body.toArray⟩,.int .i64 v,.int .i64 prio])).toArray) (by rw[rY1];simp) (by rw[rY1];simp)
  (try simp only[Exit.inBlock,Exit.then])
  refine bodyPost_ret (aS rfl (aK rfl ?_) aP) rfl ?_
  ·first | (rw[hfin];simp;done) | skip
  ·exact⟨by rw[HO.out,hfin];rfl,Below.setRow bb1 (by omega) _⟩
def bpduTo:Vector UInt8 6:= #v[1,128,194,0,0,0]
theorem aGB (w:World):Calls Tryz.prog 51 #[] w fun e w'=>e=.returned (.agg (u8v bpduTo).toArray)/\Below w.heap.size w w':=by
 have hz:(aH 4 (Value.int .u8 0)).tail=[.int .u8 0,.int .u8 0,.int .u8 0]:=rfl
 have hz6:aH 6 (Value.int .u8 0)=[.int .u8 0,.int .u8 0,.int .u8 0,.int .u8 0,.int .u8 0,.int .u8 0]:=rfl
 go_enter Tryz.func51,Tryz.ntmps51
 go_wp2_with fail
 ((try simp only[Exit.inBlock,Exit.then]);refine bodyPost_ret (aV rfl (aK rfl ?_)) rfl ?_;(simp[go_sem]))
 exact⟨by rw[aE _ _ _ rfl];rfl,ba_⟩
end
end Go.Proofs.YtiagbbknkdgmeaaGreat
