/- Texts of this proof, merged: MapG, Ler, LerC, LerV, LerO, LerT. -/
import Derived.Test.YtiagbbknkdgmeaaGreatJ5
import Derived.Test.YtiagbbknkdgmeaaGreatJ10
import Derived.Test.YtiagbbknkdgmeaaGreatJ2
import Derived.Test.YtiagbbknkdgmeaaGreatJ3
import Derived.Test.YtiagbbknkdgmeaaGreatJ6
import Derived.Shelf.Abstract
import Derived.RangeFuncNested
import Derived.RangeFuncLeaves
import Derived.OwnWalkIn
import Derived.TacticsInMore
import Derived.LoopNIn
import Derived.LoopIn
import Derived.Sort.MapsRangeIn
set_option linter.unusedSimpArgs false
set_option linter.unusedVariables false
set_option maxHeartbeats 8000000
set_option maxRecDepth 20000
namespace Go.Proofs.YtiagbbknkdgmeaaGreat
section
open Go.RowKit
theorem o8 {α β:Type} {f g:α->Option β}:∀{l:List α},(∀x∈l,f x=g x)->l.filterMap f=l.filterMap g
 | [],_=>rfl
 | x::l,h=>by
  rw[List.filterMap_cons,List.filterMap_cons,h x (by simp),o8 fun y hy=>h y (by simp[hy])]
abbrev KV:=Value×Value
def qJ (f:KV->Option KV):Prop:=∀p q,f p=some q->q.1=p.1
def cZ (f:KV->Option KV) (left:Value->Bool) (L:List KV):List KV:=L.filterMap fun p=>if left p.1=true then some p else f p
theorem jP (f:KV->Option KV):∀L:List KV,cZ f (fun _=>true) L=L
 | []=>rfl
 | p::L=>by
  have:cZ f (fun _=>true) (p::L)=p::cZ f (fun _=>true) L:=rfl
  rw[this,jP f L]
section
variable {f:KV->Option KV} {left:Value->Bool} {L:List KV}
theorem kI (hf:qJ f) {p q:KV} (h:(if left p.1=true then some p else f p)=some q):q.1=p.1:=by
 split at h
 ·cases h;rfl
 ·exact hf p q h
theorem aA0 (hf:qJ f) {p:KV} (hp:p∈cZ f left L) (hl:left p.1=true):p∈L:=by
 obtain⟨c,hc,h⟩:=List.mem_filterMap.1 hp
 have hk:=kI hf h
 rw[hk]at hl
 rw[if_pos hl]at h
 cases h
 exact hc
theorem aA1 {p:KV} (hp:p∈L) (hl:left p.1=true):p∈cZ f left L:=List.mem_filterMap.2 ⟨p,hp,by rw[if_pos hl]⟩
theorem aA2 (h:∀p∈cZ f left L,left p.1=false):cZ f left L=L.filterMap f:=by
 refine o8 fun p hp=>?_
 split
 ·rename_i hl
  have:=h p (aA1 hp hl)
  rw[hl]at this
  cases this
 ·rfl
theorem mQ (hf:qJ f) (h:(L.map (·.1)).Nodup):((cZ f left L).map (·.1)).Nodup:=by
 rw[List.Nodup,List.pairwise_map]at h ⊢
 unfold cZ
 rw[List.pairwise_filterMap]
 refine List.Pairwise.imp ?_ h
 intro a b hab c hc d hd
 rw[kI hf hc,kI hf hd]
 exact hab
theorem kJ {ok:Value->Prop} (hf:qJ f) (h:∀p∈L,ok p.1):∀p∈cZ f left L,ok p.1:=by
 intro p hp
 obtain⟨c,hc,e⟩:=List.mem_filterMap.1 hp
 rw[kI hf e]
 exact h c hc
variable {P:Program} {kt:TypeId} {ok:Value->Prop} {same:Value->Value->Bool}
theorem aDM (K:KeyTy P kt ok same) {a b:Value} (ha:ok a) (hb:ok b):same a b=true↔a=b:=
 ⟨K.eq a b ha hb,fun h=>by subst h;exact K.refl a ha⟩
theorem aCt (K:KeyTy P kt ok same) {p:KV} (hp:ok p.1):∀{L:List KV},(∀q∈L,ok q.1)->(∀q∈L,q.1≠p.1)->cZ f (fun z=>left z&& !same p.1 z) L=cZ f left L:=by
 intro L ha hn
 refine o8 fun q hq=>?_
 have:same p.1 q.1=false:=Bool.eq_false_iff.2 fun h=>hn q hq (K.eq _ _ hp (ha q hq) h).symm
 simp[this]
theorem lP (K:KeyTy P kt ok same) (hf:qJ f):∀{L:List KV},(L.map (·.1)).Nodup->(∀q∈L,ok q.1)->∀{p:KV},p∈L->left p.1=true->
  (∀q,f p=some q->sQ same p.1 q.2 (cZ f left L)=cZ f (fun z=>left z&& !same p.1 z) L)/\(f p=none->yP same p.1 (cZ f left L)=cZ f (fun z=>left z&& !same p.1 z) L)
 | [],_,_,p,h,_=>by cases h
 | c::L,hd,ha,p,h,hl=>by
  rw[List.map_cons,List.nodup_cons]at hd
  have hpk:ok p.1:=ha p h
  by_cases hc:c.1=p.1
  ·have hcp:c=p:=by
    rcases List.mem_cons.1 h with e | e
    ·exact e.symm
    ·exact absurd (show c.1∈L.map (·.1) by rw[hc];exact List.mem_map.2 ⟨p,e,rfl⟩) hd.1
   subst hcp
   have ho:=aCt (f:=f) (left:=left) K hpk (fun q hq=>ha q (by simp[hq])) (fun q hq e=>hd.1 (List.mem_map.2 ⟨q,hq,e⟩))
   have hr:=K.refl c.1 hpk
   have e1:cZ f left (c::L)=c::cZ f left L:=by unfold cZ;rw[List.filterMap_cons,if_pos hl]
   have hl2:¬((left c.1&& !same c.1 c.1)=true):=by simp[hr]
   refine⟨fun q hq=>?_,fun hn=>?_⟩
   ·have e2:cZ f (fun z=>left z&& !same c.1 z) (c::L)=q::cZ f (fun z=>left z&& !same c.1 z) L:=by
     unfold cZ
     rw[List.filterMap_cons,if_neg hl2,hq]
    rw[e1,e2,ho,sQ,if_pos hr]
    congr 1
    exact Prod.ext (hf c q hq).symm rfl
   ·have e2:cZ f (fun z=>left z&& !same c.1 z) (c::L)=cZ f (fun z=>left z&& !same c.1 z) L:=by
     unfold cZ
     rw[List.filterMap_cons,if_neg hl2,hn]
    rw[e1,e2,ho,yP,if_pos hr]
  ·have hpl:p∈L:=by
    rcases List.mem_cons.1 h with e | e
    ·exact absurd (by rw[e]) hc
    ·exact e
   have hck:ok c.1:=ha c (by simp)
   have hsc:same p.1 c.1=false:=Bool.eq_false_iff.2 fun h=>hc (K.eq _ _ hpk hck h).symm
   have ih:=lP K hf hd.2 (fun q hq=>ha q (by simp[hq])) hpl hl
   have e2:cZ f (fun z=>left z&& !same p.1 z) (c::L)=(match (if left c.1=true then some c else f c)with | some d=>d::cZ f (fun z=>left z&& !same p.1 z) L | none=>cZ f (fun z=>left z&& !same p.1 z) L):=by
    have:(if (left c.1&& !same p.1 c.1)=true then some c else f c)=(if left c.1=true then some c else f c):=by rw[hsc];simp
    unfold cZ
    rw[List.filterMap_cons,this]
    cases (if left c.1=true then some c else f c)<;>rfl
   have e1:cZ f left (c::L)=(match (if left c.1=true then some c else f c)with | some d=>d::cZ f left L | none=>cZ f left L):=by
    unfold cZ
    rw[List.filterMap_cons]
    cases (if left c.1=true then some c else f c)<;>rfl
   rw[e1,e2]
   cases hd2:(if left c.1=true then some c else f c)with
   | none=>exact ih
   | some d=>
    have hk:=kI hf hd2
    have hsd:¬same p.1 d.1=true:=by rw[hk,hsc];simp
    refine⟨fun q hq=>?_,fun hn=>?_⟩
    ·simp only[sQ]
     rw[if_neg hsd,ih.1 q hq]
    ·simp only[yP]
     rw[if_neg hsd,ih.2 hn]
theorem aDN (K:KeyTy P kt ok same) {k v:Value} (hk:ok k):∀{L:List KV},(L.map (·.1)).Nodup->(∀q∈L,ok q.1)->(k,v)∈L->sQ same k v L=L
 | [],_,_,h=>by cases h
 | c::L,hd,ha,h=>by
  rw[List.map_cons,List.nodup_cons]at hd
  by_cases hs:same k c.1=true
  ·have e:=K.eq k c.1 hk (ha c (by simp)) hs
   rcases List.mem_cons.1 h with e2 | e2
   ·subst e2;simp only[sQ];rw[if_pos hs]
   ·exact absurd (List.mem_map.2 ⟨(k,v),e2,e⟩) hd.1
  ·have hm:(k,v)∈L:=by
    rcases List.mem_cons.1 h with e2 | e2
    ·subst e2;exact absurd (K.refl k hk) hs
    ·exact e2
   simp only[sQ]
   rw[if_neg hs,aDN K hk hd.2 (fun q hq=>ha q (by simp[hq])) hm]
theorem aEz (K:KeyTy P kt ok same) (hf:qJ f) (hd:(L.map (·.1)).Nodup) (ha:∀q∈L,ok q.1) {p:KV} (hp:p∈L) (hl:left p.1=true) (hs:f p=some p):
  cZ f left L=cZ f (fun z=>left z&& !same p.1 z) L:=by
 rw[<-(lP K hf hd ha hp hl).1 p hs,aDN K (ha p hp) (mQ hf hd) (kJ hf ha) (aA1 hp hl)]
end
theorem mR {P:Program} {kt:TypeId} {ok:Value->Prop} {same:Value->Value->Bool} (K:KeyTy P kt ok same) {k:Value} (hk:ok k):∀{L:List KV},(∃p∈L,p.1=k)->(yP same k L).length+1=L.length
 | [],h=>by obtain⟨p,hp,_⟩:=h;cases hp
 | c::L,h=>by
  simp only[yP]
  by_cases hs:same k c.1=true
  ·rw[if_pos hs]
   rfl
  ·rw[if_neg hs,List.length_cons,List.length_cons]
   have:∃p∈L,p.1=k:=by
    obtain⟨p,hp,e⟩:=h
    rcases List.mem_cons.1 hp with h1 | h1
    ·subst h1
     rw[e]at hs
     exact absurd (K.refl k hk) hs
    ·exact⟨p,h1,e⟩
   rw[mR K hk this]
def aIm (v:Value) (i:Nat):Int:=match v with | .agg cs=>(match cs[i]? with | some (.int _ n)=>n | _=>0) | _=>0
end
section
open Go.RowKit
structure LB where
 v:Int
 mac:Vector UInt8 6
 port:Int
 age:Int
def lkV (v:Int) (mac:Vector UInt8 6):Value:=.agg (Value.int .i64 v::u8v mac).toArray
def lvV (port age:Int):Value:=.agg #[Value.int .i64 port,Value.int .i64 age,Value.bool false]
def LB.ent (b:LB):KV:=(lkV b.v b.mac,lvV b.port b.age)
def fQ (m:List LB):List KV:=m.map LB.ent
def LB.is (b:LB) (v:Int) (mac:Vector UInt8 6):Bool:=v==b.v&&mac==b.mac
def j5 (v:Int) (mac:Vector UInt8 6) (m:List LB):Option LB:=m.find? fun b=>b.is v mac
def aAE (b:LB):List LB->List LB
 | []=>[b]
 | c::l=>if c.is b.v b.mac then b::l else c::aAE b l
abbrev lsL:List Leaf:=.int .i64::(cS 6 (.int .u8)++[])
theorem okL (v:Int) (mac:Vector UInt8 6):okA lsL (lkV v mac):=⟨_,rfl,by
 simp only[eG,Leaf.ok,Bool.and_eq_true]
 exact⟨by simp,by have h:=yM mac [] [];rw[List.append_nil (u8v mac)]at h;rw[h];rfl⟩⟩
theorem kK (m:List LB):∀p∈fQ m,okA lsL p.1:=by
 intro p hp
 obtain⟨b,_,rfl⟩:=List.mem_map.1 hp
 exact okL _ _
theorem aKh {n:Nat} {a b:Vector UInt8 n} (h:u8v a=u8v b):a=b:=by
 have h2:=congrArg fH h
 rw[tF,tF]at h2
 exact Vector.toList_inj.1 h2
theorem aLK {v v':Int} {a b:Vector UInt8 6} (h:lkV v a=lkV v' b):v=v'/\a=b:=by
 have h2:Value.int .i64 v::u8v a=Value.int .i64 v'::u8v b:=by
  have:=congrArg (fun x:Value=>match x with | .agg c=>c.toList | _=>[]) h
  exact this
 rw[List.cons.injEq]at h2
 refine⟨?_,aKh h2.2⟩
 have:=h2.1
 injection this
theorem aA3:∀{n:Nat} {xs:List Value},eG (cS n (.int .u8)) xs=true->∃is:List Int,is.length=n/\xs=is.map (Value.int .u8)
 | 0,xs,h=>by
  obtain rfl:=aDJ h
  exact⟨[],rfl,rfl⟩
 | n+1,xs,h=>by
  rw[i7,List.replicate_succ,<-i7]at h
  obtain⟨x,r,rfl,h1,h2⟩:=nW h
  obtain⟨v,rfl⟩:=o6 h1
  obtain⟨is,hl,rfl⟩:=aA3 h2
  exact⟨v::is,by simp[hl],rfl⟩
theorem aCu (v a b c d e f:Int) (x:Bool) (w:World):(Instr.checkKey x 10000 198 (.agg #[.int .i64 v,.int .u8 a,.int .u8 b,.int .u8 c,.int .u8 d,.int .u8 e,.int .u8 f])).run Tryz.prog w=.ok () w:=by
 kernel_rfl
theorem key_learn:KeyTy Tryz.prog 198 (okA lsL) dZ:=by
 refine qI Tryz.underlying198 ?_
 rintro k ⟨xs,rfl,hx⟩ e w
 obtain⟨x,r,rfl,h1,h2⟩:=nW hx
 obtain⟨v,rfl⟩:=o6 h1
 rw[List.append_nil]at h2
 obtain⟨is,hl,rfl⟩:=aA3 h2
 match is,hl with
 | [a,b,c,d,g,f],_=>exact aCu v a b c d g f e w
theorem eP:Tryz.prog.underlying 179=some (.map 198 188):=Tryz.underlying179
theorem xA (w:World):(zeroValue 188).run Tryz.prog w=.ok (lvV 0 0) w:=by
 kernel_rfl
theorem aEA (v:Int) (mac:Vector UInt8 6) (b:LB):dZ (lkV v mac) (lkV b.v b.mac)=b.is v mac:=by
 rw[Bool.eq_iff_iff,aDM key_learn (okL _ _) (okL _ _)]
 constructor
 ·intro h
  obtain⟨h1,h2⟩:=aLK h
  simp[LB.is,h1,h2]
 ·intro h
  simp only[LB.is,Bool.and_eq_true,beq_iff_eq]at h
  rw[h.1,h.2]
theorem aNm (v:Int) (mac:Vector UInt8 6):∀(m:List LB) (i:Nat),(wV dZ (lkV v mac) (fQ m) i).map (·.2)=(j5 v mac m).map fun b=>lvV b.port b.age
 | [],_=>rfl
 | b::m,i=>by
  simp only[fQ,List.map_cons,wV,j5,LB.ent,aEA,List.find?_cons]
  by_cases h:b.is v mac=true
  ·rw[if_pos h,h]
   rfl
  ·rw[if_neg h,Bool.eq_false_iff.2 h]
   exact aNm v mac m (i+1)
theorem aLL (v:Int) (mac:Vector UInt8 6) (m:List LB):tL dZ (lkV v mac) (fQ m)=(j5 v mac m).map fun b=>lvV b.port b.age:=aNm v mac m 0
theorem sV (b:LB):∀m:List LB,sQ dZ (lkV b.v b.mac) (lvV b.port b.age) (fQ m)=fQ (aAE b m)
 | []=>rfl
 | c::m=>by
  simp only[fQ,List.map_cons,sQ,aAE,LB.ent,aEA]
  by_cases h:c.is b.v b.mac=true
  ·rw[if_pos h,if_pos h]
   rfl
  ·rw[if_neg h,if_neg h,List.map_cons]
   congr 1
   exact sV b m
theorem o9 (m:List LB):((fQ m).map (·.1)).Nodup↔m.Pairwise fun a b=>a.is b.v b.mac=false:=by
 unfold fQ
 rw[List.map_map,List.Nodup,List.pairwise_map]
 have h:∀a b:LB,((fun p:KV=>p.1)∘LB.ent) a≠((fun p:KV=>p.1)∘LB.ent) b↔a.is b.v b.mac=false:=by
  intro a b
  rw[<-aEA,Bool.eq_false_iff,Ne,Ne,aDM key_learn (okL _ _) (okL _ _)]
  exact⟨fun h e=>h e.symm,fun h e=>h e.symm⟩
 constructor<;>exact fun hp=>hp.imp fun {a b} hab=>by first | exact(h a b).1 hab | exact(h a b).2 hab
structure LerT (w:World) (T M:Nat) (ageing:Int) (lv:Value) (m:List LB):Prop where
 row:row w T=#[.int .i64 ageing,lv,.map (some M)]
 ok:mapOk w M
 map:eB w M=fQ m
theorem LerT.lt {w:World} {T M:Nat} {ageing:Int} {lv:Value} {m:List LB} (h:LerT w T M ageing lv m):T<w.heap.size:=aM (i:=0) (by rw[h.row];simp)
theorem LerT.below {B:Nat} {w w':World} {T M:Nat} {ageing:Int} {lv:Value} {m:List LB} (h:LerT w T M ageing lv m) (hb:Below B w w') (hT:T<B) (hM:M<B):LerT w' T M ageing lv m:=
 ⟨by rw[aA hb hT,h.row],aR hb hM h.ok,by rw[aT hb hM,h.map]⟩
def fJ (m:List LB):Prop:=m.Pairwise fun a b=>a.is b.v b.mac=false
def aIn (ageing:Int) (b:LB):Option LB:=if ageing<=b.age+1 then none else some {b with age:=b.age+1}
def yS (ageing:Int) (m:List LB):List LB:=m.filterMap (aIn ageing)
def aLM (port:Int) (m:List LB):List LB:=m.filter fun b=> !(b.port==port)
def onL (port:Int) (m:List LB):Nat:=(m.filter fun b=>b.port==port).length
def j6 (lim:Int) (v:Int) (mac:Vector UInt8 6) (port:Int) (m:List LB):List LB:=
 if (match j5 v mac m with | some b=>b.port==port | none=>false)||decide ((onL port m:Int)<lim)then aAE ⟨v,mac,port,0⟩ m else m
end
section
open Go.RowKit Go.Shelf
def pC (wh:Int->Int->Bool) (p:KV):Option KV:=if wh (aIm p.2 0) (aIm p.2 1)=true then none else some p
theorem fK (wh:Int->Int->Bool):qJ (pC wh):=by
 intro p q h
 unfold pC at h
 split at h
 ·cases h
 ·cases h;rfl
theorem aA4 (wh:Int->Int->Bool) (b:LB):pC wh b.ent=if wh b.port b.age=true then none else some b.ent:=rfl
theorem aA5 (wh:Int->Int->Bool):∀m:List LB,(fQ m).filterMap (pC wh)=fQ (m.filter fun b=> !wh b.port b.age)
 | []=>rfl
 | b::m=>by
  have ih:=aA5 wh m
  unfold fQ at ih ⊢
  rw[List.map_cons,List.filterMap_cons,aA4,List.filter_cons]
  cases h:wh b.port b.age with
  | true=>simpa[h]using ih
  | false=>simp[h,ih]
theorem yT {m:List LB} {p:KV} (h:p∈fQ m):∃b∈m,p=b.ent:=by
 obtain⟨b,hb,e⟩:=List.mem_map.1 h
 exact⟨b,hb,e.symm⟩
theorem aA6 (g:Nat) (lb:Array Value) (eg:∀args w,(callFunc g args).run Tryz.prog w=.ok (.enter g args) w) (wh:Int->Int->Bool) (w:World) {T M:Nat} {ageing:Int} {lv:Value} {m:List LB} (h:LerT w T M ageing lv m) (hTM:T≠M) (hd:fJ m) (hml:m.length<=1000000)
  (hc:∀(port age:Int) (W:World),BelowBut w.heap.size M w W->Calls Tryz.prog g (#[.agg #[Value.int .i64 port,Value.int .i64 age,Value.bool false]]++lb) W fun e W'=>e=.returned (.bool (wh port age))/\Below W.heap.size W W'):
  Calls Tryz.prog 75 #[.pointer (some ⟨T,0,none⟩),.func (.func g) #[] lb] w fun e w'=>(∃n:Nat,e=.returned (.int .i64 n)/\n+(m.filter fun b=> !wh b.port b.age).length=m.length)/\BelowBut w.heap.size M w w'/\LerT w' T M ageing lv (m.filter fun b=> !wh b.port b.age):=by
 have hr:=h.row
 have hlt:=h.lt
 have hMlt:=h.ok.lt
 have hnd0:=(o9 m).2 hd
 have hok0:=kK m
 obtain⟨o,hrun,hit⟩:=nT eP h.ok
 obtain⟨w0,hw0⟩:∃x,w.alloc o=x:=⟨_,rfl⟩
 rw[hw0]at hrun hit
 have B0:Below w.heap.size w w0:=by rw[<-hw0];exact ba_
 have z0:w0.heap.size=w.heap.size+1:=by rw[<-hw0];simp
 have hM0:=aR B0 hMlt h.ok
 have hL0:eB w0 M=cZ (pC wh) (fun _=>true) (fQ m):=by rw[aT B0 hMlt,h.map,jP]
 have hn0:0+(cZ (pC wh) (fun _=>true) (fQ m)).length=m.length:=by rw[jP,fQ,List.length_map,Nat.zero_add]
 have hr0:=(aA B0 hlt).trans hr
 have HL0:=h_ hL0
 have HN0:=h_ hn0
 have HND:=h_ hnd0
 have HC:=h_ hc
 clear hw0 h hL0 hn0 hnd0 hc
 go_enter Tryz.func75,Tryz.ntmps75
 go_wp2_with fail
 go_loopw [5] (fun sn wr=>∃(left:Value->Bool) (n:Nat),sn=.int .i64 n/\n+(cZ (pC wh) left (fQ m)).length=m.length/\iterOk wr w.heap.size M left/\mapOk wr M/\eB wr M=cZ (pC wh) left (fQ m)/\row wr T=#[.int .i64 ageing,lv,.map (some M)]/\BelowBut w.heap.size M w wr/\w.heap.size<wr.heap.size) (fun _ wr=>dL wr w.heap.size M)
 case atStart=>exact⟨fun _=>true,0,rfl,HN0.out,hit,hM0,HL0.out,hr0,BelowBut.of B0,by omega⟩
 case round=>
  clear hrun hit hM0 HL0 HN0 hr0
  obtain⟨left,n,rfl,hnn,hit,hM,hL,hra,hbb,hz⟩:=hrel
  have hn1:(n:Int)<=1000000:=by omega
  have hnd:=mQ (left:=left) (fK wh) HND.out
  have hka:=kJ (left:=left) (ok:=okA lsL) (fK wh) hok0
  rw[<-hL]at hnd hka
  have HNN:=h_ hnn
  clear hnn
  rcases nU key_learn hit hka hnd with ⟨hall,hrun⟩ | ⟨p,hp,hlp,w1,hrun,hT,hit1,hent⟩
  ·rw[hL]at hall
   have hend:=aA2 (f:=pC wh) (left:=left) (L:=fQ m) hall
   rw[aA5]at hend
   rw[hend]at hL
   have HL:=h_ hL
   have HE:=h_ hend
   clear hL hall hnd hka hend
   go_wp2_with fail
   go_ret
   refine⟨⟨n,rfl,?_⟩,hbb,hra,hM,HL.out⟩
   have:=HNN.out
   rw[HE.out,fQ,List.length_map]at this
   exact this
  ·rw[hL]at hp
   have hpm:=aA0 (fK wh) hp hlp
   obtain⟨b,hb,rfl⟩:=yT hpm
   have hstep:=lP (f:=pC wh) (left:=left) key_learn (fK wh) HND.out hok0 hpm hlp
   have hstay:=aEz (f:=pC wh) (left:=left) key_learn (fK wh) HND.out hok0 hpm hlp
   rw[aA4]at hstep hstay
   obtain⟨v,mac,port,age⟩:=b
   unfold LB.ent at hrun hent hlp hit1 hstep hstay hp hpm
   dsimp only at hlp hrun hit1 hent hstep hstay hp hpm
   have hL1:eB w1 M=cZ (pC wh) left (fQ m):=(bQ (hT.block M (Ne.symm hit.ne))).trans hL
   have hM1:=(bD (hT.block M (Ne.symm hit.ne))).2 hM
   have hra1:=(hT.row (Nat.ne_of_lt hlt)).trans hra
   have z1:=hT.size
   have hlq:dL w1 w.heap.size M<dL wr w.heap.size M:=by
    rw[hit1.left_eq,hit.left_eq,hL1,hL]
    refine kG (f:=fun q:Value×Value=>left q.1) (g:=fun q=> !dZ (lkV v mac) q.1) (x:=(lkV v mac,lvV port age)) hp hlp ?_
    dsimp only
    rw[key_learn.refl _ (okL _ _)]
    rfl
   have hdl:=mR key_learn (okL v mac) (L:=cZ (pC wh) left (fQ m)) ⟨_,hp,rfl⟩
   have hbb1:BelowBut w.heap.size M w w1:=hbb.trans ⟨hT.os,hT.tape,hT.output,by omega,fun k hk hn=>hT.block k (by omega)⟩
   unfold lkV lvV at hrun hent
   have HL1:=h_ hL1
   have HLQ:=h_ hlq
   have HST:=h_ hstep
   have HSY:=h_ hstay
   have HDL:=h_ hdl
   clear hL1 hlq hb hlp hp hpm hnd hka hL hbb hstep hstay hdl
   have HIT:=h_ hit1
   have hne:=hit1.ne
   have hrl:=hit1.lt
   clear hit1
   obtain⟨w2,hw2⟩:∃x,(w1.alloc (.cells (Value.int .i64 v::u8v mac).toArray 198)).alloc (.cells #[Value.int .i64 port,Value.int .i64 age,Value.bool false] 188)=x:=⟨_,rfl⟩
   have rX:row w2 wr.heap.size=(Value.int .i64 v::u8v mac).toArray:=by rw[<-hw2];simp[go_sem,z1]
   have rY:row w2 (wr.heap.size+1)=#[Value.int .i64 port,Value.int .i64 age,Value.bool false]:=by rw[<-hw2];simp[go_sem,z1]
   have z2:w2.heap.size=wr.heap.size+2:=by rw[<-hw2];simp;omega
   have b12:Below w1.heap.size w1 w2:=by rw[<-hw2];exact Below.alloc (Below.alloc (Below.refl _ _) (by omega) _) (by simp) _
   have rA2:=(aA b12 (by omega)).trans hra1
   have hbb2:BelowBut w.heap.size M w w2:=hbb1.trans (BelowBut.of (b12.mono (by omega)))
   have hcall:=HC.out port age w2 hbb2
   have HCL:=h_ hcall
   clear hcall hbb1
   go_wp2_with fail
   clear hw2
   refine HCL.out.mono ?_
   rintro e w3 ⟨rfl,b23⟩
   have z3:=b23.size
   have hbb3:BelowBut w.heap.size M w w3:=hbb2.trans (BelowBut.of (b23.mono (by omega)))
   have b13:=b12.trans (b23.mono (by omega))
   have rA3:=(aA b23 (by omega)).trans rA2
   have rX3:=(aA b23 (by omega)).trans rX
   have hM3:=aR b13 (by omega) hM1
   have hL3:=(aT b13 (by omega)).trans HL1.out
   have hit3:=HIT.out.kept (b13.block M (by omega)) (b13.block w.heap.size (by omega))
   have hl3:dL w3 w.heap.size M<dL wr w.heap.size M:=by
    rw[dU (b13.block M (by omega)) (b13.block _ (by omega))]
    exact HLQ.out
   have HL3:=h_ hL3
   have HIT3:=h_ hit3
   have HLQ3:=h_ hl3
   clear HCL hL3 hit3 hl3 b12 b23 b13 hbb2 rX rY rA2 hrun hent
   cases hw:wh port age with
   | false=>
    rw[hw]at HSY
    have HW:=h_ hw
    clear hw
    go_wp2_with fail
    go_roundw
    case rel=>exact⟨_,n,rfl,by rw[<-HSY.out rfl];exact HNN.out,HIT3.out,hM3,by rw[HL3.out];exact HSY.out rfl,rA3,hbb3,by omega⟩
    case measure=>exact HLQ3.out
   | true=>
    rw[hw]at HST
    have HW:=h_ hw
    clear hw
    go_wp2_with fail
    refine jY [(T,#[Value.int .i64 ageing,lv,Value.map (some M)]),(wr.heap.size,(Value.int .i64 v::u8v mac).toArray)] (fun hS=>?_)
    refine qp 0 hS ?_
    refine qp 1 hS ?_
    refine qp 2 hS ?_
    refine qp 3 hS ?_
    refine qp 4 hS ?_
    refine cL (i:=5) cD rfl kr_ (fun w7 b7=>?_)
    replace b7:=aL (Below.drew (Below.refl _ _)) b7
    have z7:=b7.size
    have hM7:=aR b7 (by omega) hM3
    have hL7:=(aT b7 (by omega)).trans HL3.out
    obtain⟨w8,hrun8,hT8,hM8,hL8,hold8⟩:=aF7 (ty:=0) key_learn eP hM7 (okL v mac) (by rw[hL7];exact kJ (fK wh) hok0)
    obtain⟨hit8,hl8⟩:=(HIT3.out.kept (b7.block M (by omega)) (b7.block _ (by omega))).del hT8 hold8
    rw[hL7,HST.out.2 rfl]at hL8
    have HL8:=h_ hL8
    have HIT8:=h_ hit8
    have hl8':dL w8 w.heap.size M<dL wr w.heap.size M:=by
     refine Nat.lt_of_le_of_lt hl8 ?_
     rw[dU (b7.block M (by omega)) (b7.block _ (by omega))]
     exact HLQ3.out
    have HLQ8:=h_ hl8'
    clear hL7 hL8 hit8 hl8 hold8 hl8'
    unfold lkV at hrun8
    have z8:=hT8.size
    have rA8:row w8 T=#[Value.int .i64 ageing,lv,Value.map (some M)]:=by rw[hT8.row hTM,aA b7 (by omega),rA3]
    have rX8:row w8 wr.heap.size=(Value.int .i64 v::u8v mac).toArray:=by rw[hT8.row (by omega),aA b7 (by omega),rX3]
    refine⟨.value (.tuple #[]),.tuple #[],w8,?_,rfl,⟨rA8,by omega,rX8,by omega,trivial⟩,?_⟩
    ·go_simp
     try rfl
    ·refine aG kr_ (fun w9 b9=>?_) _
     have z9:=b9.size
     have rA9:row w9 T=#[Value.int .i64 ageing,lv,Value.map (some M)]:=by rw[aA b9 (by omega),rA8]
     have hM9:=aR b9 (by omega) hM8
     have hL9:=(aT b9 (by omega)).trans HL8.out
     have HL9:=h_ hL9
     have hbb9:BelowBut w.heap.size M w w9:=hbb3.trans ⟨by rw[b9.os,hT8.os,b7.os],by rw[b9.tape,hT8.tape,b7.tape],by rw[b9.output,hT8.output,b7.output],by omega,fun k hk hn=>by rw[b9.block k (by omega),hT8.block k hn,b7.block k (by omega)]⟩
     have hit9:=HIT8.out.kept (b9.block M (by omega)) (b9.block w.heap.size (by omega))
     have hl9:dL w9 w.heap.size M<dL wr w.heap.size M:=by
      rw[dU (b9.block M (by omega)) (b9.block _ (by omega))]
      exact HLQ8.out
     have HIT9:=h_ hit9
     have HLQ9:=h_ hl9
     clear hL9 hrun8 hit9 hl9 b9 hS
     go_wp2_with fail
     go_roundw
     case rel=>exact⟨_,n+1,by simp,by have h1:=HNN.out;have h2:=HDL.out;rw[<-HST.out.2 rfl];omega,HIT9.out,hM9,HL9.out,rA9,hbb9,by omega⟩
     case measure=>exact HLQ9.out
end
section
open Go.RowKit Go.Shelf
attribute [local go_sem] Oper.semAt_some
def LB.pa (b:LB):Int×Int:=(b.port,b.age)
def paV (x:Int×Int):Value:=.agg #[Value.int .i64 x.1,Value.int .i64 x.2,Value.bool false]
def jQ (left:Value->Bool) (m:List LB):List LB:=m.filter fun b=> !left (lkV b.v b.mac)
theorem aA7 (left:Value->Bool) (b:LB) (hl:left (lkV b.v b.mac)=true):∀{m:List LB},fJ m->b∈m->(jQ (fun z=>left z&& !dZ (lkV b.v b.mac) z) m).Perm (b::jQ left m)
 | [],_,h=>by cases h
 | c::m,hd,h=>by
  rw[fJ,List.pairwise_cons]at hd
  by_cases hc:c.is b.v b.mac=true
  ·have hcb:c=b:=by
    rcases List.mem_cons.1 h with e | e
    ·exact e.symm
    ·have:=hd.1 b e
     rw[this]at hc
     cases hc
   subst hcb
   have e1:jQ (fun z=>left z&& !dZ (lkV c.v c.mac) z) (c::m)=c::jQ (fun z=>left z&& !dZ (lkV c.v c.mac) z) m:=by
    unfold jQ
    rw[List.filter_cons_of_pos (by simp[aEA,hc])]
   have e2:jQ left (c::m)=jQ left m:=by
    unfold jQ
    rw[List.filter_cons,hl]
    simp
   have e3:jQ (fun z=>left z&& !dZ (lkV c.v c.mac) z) m=jQ left m:=by
    unfold jQ
    refine List.filter_congr fun d hd2=>?_
    dsimp only
    rw[aEA]
    have:=hd.1 d hd2
    have h2:d.is c.v c.mac=false:=by
     simp only[LB.is,Bool.and_eq_false_iff,beq_eq_false_iff_ne,ne_eq]at this ⊢
     rcases this with h | h
     ·exact .inl fun e=>h e.symm
     ·exact .inr fun e=>h e.symm
    rw[h2]
    simp
   rw[e1,e2,e3]
  ·have hbm:b∈m:=by
    rcases List.mem_cons.1 h with e | e
    ·subst e
     exact absurd (by simp[LB.is]) hc
    ·exact e
   have ih:=aA7 left b hl hd.2 hbm
   have hc2:c.is b.v b.mac=false:=by simpa using hc
   unfold jQ at ih ⊢
   cases hlc:left (lkV c.v c.mac)with
   | true=>
    rw[List.filter_cons_of_neg (by simp[aEA,hc2,hlc]),List.filter_cons_of_neg (by simp[hlc])]
    exact ih
   | false=>
    rw[List.filter_cons_of_pos (by simp[hlc]),List.filter_cons_of_pos (by simp[hlc])]
    exact(List.Perm.cons c ih).trans (List.Perm.swap b c _)
set_option maxRecDepth 100000 in
theorem aIo (F:Fence) (n:Nat) (h8:F.fn 186) (hro:F.round=none) (hn:1<=n) (l Bm M:Nat) (m:List LB) (J Jx:List (Int×Int)->World->Prop)
  (hY:∀pre x W,J pre W->pre.length<m.length->YieldAt F (n - 1) Tryz.prog l #[paV x] W fun e W'=>
   (e=.returned (.bool true)/\J (pre++[x]) W'/\KeepsWalks W W')∨(e=.returned (.bool false)/\Jx (pre++[x]) W'))
  (W:World) (hJ:AbidesFrom W.heap.size J) (hm:W.cell? ⟨Bm,0,none⟩=some (.map (some M))) (hok:mapOk W M) (hL0:eB W M=fQ m) (hd:fJ m) (h0:J [] W):
  CallsIn F n Tryz.prog 186 #[.func (.yield l) #[] #[],.pointer (some ⟨Bm,0,none⟩)] W fun e W'=>(∃v,e=.returned v)/\
   ((∃xs,xs.Perm (m.map LB.pa)/\J xs W')∨(∃pre,True/\Jx pre W')):=by
 have hnd:=(o9 m).2 hd
 obtain⟨o,hrun,hit⟩:=nT eP hok
 have hMlt:=hok.lt
 obtain⟨w0,hw0⟩:∃x,W.alloc o=x:=⟨_,rfl⟩
 have hJ0:J [] w0:=by rw[<-hw0];exact hJ [] W _ none h0 (World.grownBy_alloc W o none) (fun r e=>by cases e)
 have B0:Below W.heap.size W w0:=by rw[<-hw0];exact ba_
 have hok0:=aR B0 hMlt hok
 have hL1:eB w0 M=fQ m:=by rw[aT B0 hMlt,hL0]
 rw[hw0]at hrun hit
 clear hok hL0 h0 hw0
 refine callsIn_of_wp Tryz.func186 rfl h8 ?_ hro
 simp only[Tryz.ntmps186,List.size_toArray,List.length_cons,List.length_nil,Nat.reduceAdd,Nat.reduceSub,Array.replicate_succ,Array.replicate_zero,List.push_toArray,List.append_toArray,List.nil_append,List.cons_append]
 gi_wp2
 gi_loopw [4] (fun _ wr=>∃(left:Value->Bool) (pre:List (Int×Int)),iterOk wr W.heap.size M left/\mapOk wr M/\eB wr M=fQ m/\pre.Perm ((jQ left m).map LB.pa)/\J pre wr) (fun _ wr=>dL wr W.heap.size M)
 case atStart=>
  refine⟨fun _=>true,[],hit,hok0,hL1,?_,hJ0⟩
  have:jQ (fun _=>true) m=[]:=by unfold jQ;simp
  rw[this]
  exact List.Perm.refl _
 case round=>
  clear hrun hit hok0 hL1 hJ0
  obtain⟨left,pre,hit,hok,hL,hP,hJs⟩:=hrel
  rcases nU key_learn hit (by rw[hL];exact kK m) (by rw[hL];exact hnd)with ⟨hall,hrun⟩ | ⟨p,hp,hlp,w1,hrun,hT,hit1,hent⟩
  ·have hP2:pre.Perm (m.map LB.pa):=by
    have:jQ left m=m:=by
     unfold jQ
     rw[List.filter_eq_self]
     intro b hb
     have h1:=hall b.ent (by rw[hL];exact List.mem_map_of_mem hb)
     have h2:left (lkV b.v b.mac)=false:=h1
     rw[h2]
     rfl
    rwa [this]at hP
   have HP:=h_ hP2
   have HJ:=h_ hJs
   clear hall hL hP hP2 hJs hit hok hJ hY
   gi_wp2
   go_end0
   exact⟨⟨_,rfl⟩,.inl ⟨pre,HP.out,HJ.out⟩⟩
  ·rw[hL]at hp
   obtain⟨b,hb,rfl⟩:=yT hp
   have hs:=aA7 left b hlp hd hb
   have hP2:(pre++[b.pa]).Perm ((jQ (fun z=>left z&& !dZ (lkV b.v b.mac) z) m).map LB.pa):=by
    refine List.Perm.trans ?_ (hs.map LB.pa).symm
    rw[List.map_cons]
    exact(List.perm_append_comm (l₁:=pre) (l₂:=[b.pa])).trans (List.Perm.cons _ hP)
   have hlen:pre.length<m.length:=by
    have h1:=hP2.length_eq
    rw[List.length_append,List.length_map,List.length_singleton]at h1
    have h2:(jQ (fun z=>left z&& !dZ (lkV b.v b.mac) z) m).length<=m.length:=List.length_filter_le _ _
    omega
   have hgr:wr.grownBy w1 (some W.heap.size):=⟨hT.os,hT.tape,hT.output,Nat.le_of_eq hT.size.symm,fun k _ hn=>hT.block k fun e=>hn (by rw[e])⟩
   have hwalk:∃o:Obj,wr.heap[W.heap.size]? =some o/\o.isWalk=true:=by
    obtain⟨es,cl,si,se,c0,_,h2,_⟩:=hit
    exact⟨_,h2,rfl⟩
   have hJ1:J pre w1:=hJ pre wr w1 _ hJs hgr (fun r e=>by cases e;exact⟨Nat.le_refl _,hwalk⟩)
   have hne:=hit1.ne
   have hL1:eB w1 M=fQ m:=(bQ (hT.block M (Ne.symm hne))).trans hL
   have hok1:=(bD (hT.block M (Ne.symm hne))).2 hok
   obtain⟨w2,hw2⟩:∃x,w1.alloc (.cells #[Value.int .i64 b.port,Value.int .i64 b.age,Value.bool false] 188)=x:=⟨_,rfl⟩
   have hJ2:J pre w2:=by rw[<-hw2];exact hJ pre w1 _ none hJ1 (World.grownBy_alloc w1 _ none) (fun r e=>by cases e)
   have rP:row w2 w1.heap.size=#[Value.int .i64 b.port,Value.int .i64 b.age,Value.bool false]:=by rw[<-hw2];exact aE _ _ _ rfl
   have b12:Below w1.heap.size w1 w2:=by rw[<-hw2];exact ba_
   have hml:M<w1.heap.size:=hok1.lt
   have hrl:=hit1.lt
   have hlq:dL w1 W.heap.size M<dL wr W.heap.size M:=by
    rw[hit1.left_eq,hit.left_eq,hL1,hL]
    refine kG (f:=fun q:Value×Value=>left q.1) (g:=fun q=> !dZ b.ent.1 q.1) (x:=b.ent) hp hlp ?_
    have:dZ b.ent.1 b.ent.1=true:=key_learn.refl _ (okL _ _)
    rw[this]
    rfl
   obtain⟨fn,tmps,assign,body,hy,hR⟩:=hY pre b.pa w2 hJ2 hlen
   unfold paV LB.pa at hy
   unfold LB.ent lkV lvV at hrun hent
   dsimp only at hrun hent hy
   have HP:=h_ hP2
   have HLQ:=h_ hlq
   have HIT:=h_ hit1
   have HOK:=h_ hok1
   have HL1:=h_ hL1
   have HR:=h_ hR
   clear hP hP2 hlq hit1 hok1 hL1 hR hL hok hit hp hlp hs hJs hJ1 hJ2 hY hgr hwalk
   gi_wp2
   clear hw2
   refine HR.out.mono ?_
   rintro e W3 (⟨rfl,hJ3,hk3⟩ | ⟨rfl,hJx3⟩)
   ·obtain⟨es,cl,g1,g2,g3⟩:=HOK.out
    obtain⟨es',cl',si,se,c0,q1,q2,q3⟩:=HIT.out
    have e2M:w2.heap[M]? =w1.heap[M]? :=b12.block M hml
    have e2r:w2.heap[W.heap.size]? =w1.heap[W.heap.size]? :=b12.block _ hrl
    have e3M:W3.heap[M]? =w1.heap[M]? :=by rw[g1];exact hk3.same M _ (e2M.trans g1) rfl
    have e3r:W3.heap[W.heap.size]? =w1.heap[W.heap.size]? :=by rw[q2];exact hk3.same _ _ (e2r.trans q2) rfl
    have hit3:=HIT.out.kept e3M e3r
    have hok3:=(bD e3M).2 HOK.out
    have hL3:=(bQ e3M).trans HL1.out
    have hl3:dL W3 W.heap.size M<dL wr W.heap.size M:=by rw[dU e3M e3r];exact HLQ.out
    have HIT3:=h_ hit3
    have HOK3:=h_ hok3
    have HL3:=h_ hL3
    have HLQ3:=h_ hl3
    have HJ3:=h_ hJ3
    clear hit3 hok3 hL3 hl3 hJ3 g1 g2 g3 q1 q2 q3 e2M e2r e3M e3r hrun hent
    gi_wp2
    go_roundw
    case rel=>exact⟨_,_,HIT3.out,HOK3.out,HL3.out,HP.out,HJ3.out⟩
    case measure=>exact HLQ3.out
   ·have HJX:=h_ hJx3
    clear hJx3 hrun hent
    gi_wp2
    refine bodyPost_ret (results_none rfl _ _ _) rfl ?_
    exact⟨⟨_,rfl⟩,.inr ⟨_,trivial,HJX.out⟩⟩
theorem aKi (F:Fence) (n:Nat) (h8:F.fn 156) (hro:F.round=none) (mb:Option Nat) (w:World):
  CallsIn F n Tryz.prog 156 #[.map mb] w fun e w'=>e=.returned (.func (.func 186) #[] #[.pointer (some ⟨w.heap.size,0,none⟩)])/\w'=w.alloc (.cells #[.map mb] 179):=by
 refine callsIn_of_wp Tryz.func156 rfl h8 ?_ hro
 simp only[Tryz.ntmps156,List.size_toArray,List.length_cons,List.length_nil,Nat.reduceAdd,Nat.reduceSub,Array.replicate_succ,Array.replicate_zero,List.push_toArray,List.append_toArray,List.nil_append,List.cons_append]
 gi_wp2
 go_ret
 exact⟨rfl,rfl⟩
theorem aEB (F:Fence) (n:Nat) (h8:F.fn 186) (hro:F.round=none) (hn:1<=n) (Bm M:Nat) (m:List LB) (w:World) (hBm:Bm<w.heap.size)
  (hm:w.cell? ⟨Bm,0,none⟩=some (.map (some M))) (hok:mapOk w M) (hL:eB w M=fQ m) (hd:fJ m):
  SeqStopsK F n Tryz.prog 186 #[.pointer (some ⟨Bm,0,none⟩)] (fun x:Int×Int=>#[paV x]) KeepsWalks (fun xs=>xs.Perm (m.map LB.pa)) (fun _=>True) m.length w:=fun l J Jx W hW hJ _ hY h0=>
 aIo F n h8 hro hn l Bm M m J Jx hY W hJ ((hW.cell (p:=⟨Bm,0,none⟩) hBm).trans hm) (aR hW hok.lt hok) ((aT hW hok.lt).trans hL) hd h0
end
section
open Go.RowKit Go.Shelf
attribute [local go_sem] Oper.semAt_some
theorem aGg {W:World} {b:Nat} (h:0<(row W b).size) {o:Obj} (ho:W.heap[b]? =some o):o.isCells=true:=by
 obtain⟨t,fr,hb⟩:=aAG h
 rw[hb]at ho
 cases ho
 rfl
theorem aCv {W W':World} {b:Nat} {c:Array Value} {r:Option Nat} (h:row W b=c) (h0:0<c.size) (hg:W.grownBy W' r) (hr:∀j,r=some j->∃o:Obj,W.heap[j]? =some o/\o.isCells=false):row W' b=c:=by
 rw[<-h]
 refine aJ (hg.block b (aM (i:=0) (by rw[h];exact h0)) fun e=>?_)
 obtain⟨o,ho,hc⟩:=hr b e.symm
 rw[aGg (by rw[h];exact h0) ho]at hc
 cases hc
theorem KeepsOthers.setRow (W:World) (b:Nat) (c:Array Value):KeepsOthers W (W.setRow b c):=by
 refine⟨by simp,fun k o hk ho=>?_⟩
 by_cases h:k=b
 ·subst h
  simp only[World.setRow,Array.getElem?_modify,if_pos rfl,hk,Option.map_some]
  cases o<;>first | rfl | (simp[Obj.isCells]at ho)
 ·rw[setRow_other _ _ _ _ h]
  exact hk
def onP (port:Int) (pre:List (Int×Int)):Nat:=(pre.filter fun x=>x.1==port).length
theorem aDO (port:Int) (pre:List (Int×Int)) (x:Int×Int):onP port (pre++[x])=onP port pre+(if x.1==port then 1 else 0):=by
 unfold onP
 rw[List.filter_append,List.length_append]
 congr 1
 cases h:x.1==port<;>simp[List.filter_cons,h]
theorem aLN (port:Int) (pre:List (Int×Int)):onP port pre<=pre.length:=List.length_filter_le _ _
theorem aIp {port:Int} {xs:List (Int×Int)} {m:List LB} (h:xs.Perm (m.map LB.pa)):onP port xs=onL port m:=by
 unfold onP onL
 rw[(h.filter _).length_eq,List.filter_map,List.length_map]
 rfl
set_option maxRecDepth 100000 in
theorem aKj (w:World) {T M:Nat} {ageing:Int} {lv:Value} {m:List LB} (h:LerT w T M ageing lv m) (hd:fJ m) (hml:m.length<=1000000) (port:Int):
  Calls Tryz.prog 127 #[.pointer (some ⟨T,0,none⟩),.int .i64 port] w fun e w'=>e=.returned (.int .i64 (onL port m:Int))/\Below w.heap.size w w':=by
 have hr:=h.row
 have hlt:=h.lt
 have hMlt:=h.ok.lt
 refine(callsIn_wide (n:=6)).1 ?_
 have h1:Fence.wide.fn 156:=trivial
 have h2:Fence.wide.fn 186:=trivial
 have hro:Fence.wide.round=none:=rfl
 refine callsIn_of_wp_marks Tryz.func127 rfl trivial ?_ hro
 simp only[Tryz.ntmps127,List.size_toArray,List.length_cons,List.length_nil,Nat.reduceAdd,Nat.reduceSub,Array.replicate_succ,Array.replicate_zero,List.push_toArray,List.append_toArray,List.nil_append,List.cons_append]
 obtain⟨W0,hW0⟩:∃W0,((w.alloc (.cells #[.int .i64 port] 3)).alloc (.cells #[.int .i64 0] 3)).alloc (.cells #[.map (some M)] 179)=W0:=⟨_,rfl⟩
 have rP:row W0 w.heap.size=#[.int .i64 port]:=by rw[<-hW0];simp[go_sem]
 have rN:row W0 (w.heap.size+1)=#[.int .i64 0]:=by rw[<-hW0];simp[go_sem]
 have rM:row W0 (w.heap.size+1+1)=#[.map (some M)]:=by rw[<-hW0];simp[go_sem]
 have zW:W0.heap.size=w.heap.size+3:=by rw[<-hW0];simp
 have bW:Below w.heap.size w W0:=by rw[<-hW0];exact Below.alloc (Below.alloc (ba_) (by simp) _) (by simp;omega) _
 have hT:=h.below bW hlt hMlt
 gi_wp2_with (gi_at_call 156;refine(aKi Fence.wide _ h1 hro _ _).mono ?_;rintro e w' ⟨rfl,rfl⟩)
 (try rw[hW0])
 clear hW0
 have hcm:W0.cell? ⟨w.heap.size+1+1,0,none⟩=some (.map (some M)):=by rw[aQ (by rw[rM];simp),rM];rfl
 refine wpIn_rangeFunc_ownH (α:=Int×Int) hro (by omega) (gf:=186) (lb:=#[.pointer (some ⟨w.heap.size+1+1,0,none⟩)]) rfl h2 (enters_of Tryz.func186 kr_ rfl)
  (aEB Fence.wide _ h2 hro (by omega) (w.heap.size+1+1) M m W0 (by omega) hcm hT.ok hT.map hd) walksK_t walksK_b (Below.refl _ _) (fun _=>rfl)
  (fun pre W=>(row W w.heap.size=#[.int .i64 port]/\row W (w.heap.size+1)=#[.int .i64 (onP port pre:Int)])/\Below w.heap.size w W)
  (fun _ _ _=>False)
  (OwnFrom.and (fun s A B r hs hg hr=>⟨aCv hs.1 (by simp) hg fun j e=>(hr j e).2,aCv hs.2 (by simp) hg fun j e=>(hr j e).2⟩) (ownFrom_below (Nat.le_refl _) (by omega)))
  (fun _ _ _ _ _ hs _ _=>hs)
  ⟨⟨rP,rN⟩,bW⟩
  (fun x a' W=>∃Bx,w.heap.size+1<Bx/\row W Bx=#[Value.int .i64 x.1,Value.int .i64 x.2,Value.bool false]/\a'={tmps:=#[.pointer (some ⟨T,0,none⟩),.int .i64 port,undef,.pointer (some ⟨w.heap.size,0,none⟩),.int .i64 0,.pointer (some ⟨w.heap.size+1,0,none⟩),.pointer (some ⟨Bx,0,none⟩),.pointer (some ⟨T,0,none⟩),.pointer (some ⟨T,0,none⟩),.pointer (some ⟨T,2,none⟩),.map (some M),.func (.func 186) #[] #[.pointer (some ⟨w.heap.size+1+1,0,none⟩)],paV x,undef,undef,undef,undef,undef,undef,undef,undef,undef,undef,undef,undef],defers:=[]})
  (fun x a' _ X Y r hs hg hr=>by obtain⟨Bx,g1,g2,g3⟩:=hs;exact⟨Bx,g1,aCv g2 (by simp) hg fun j e=>(hr j e).2,g3⟩)
  ?assign ?body ?done ?stop
 case assign=>
  rintro l pre x W K ⟨⟨i1,i2⟩,hB1⟩ hK
  obtain⟨x1,x2⟩:=x
  unfold paV at *
  dsimp only at hK ⊢
  have hs1:w.heap.size+1<W.heap.size:=aM (i:=0) (by rw[i2];simp)
  have hfin:=hK _ (W.alloc (.cells #[Value.int .i64 x1,Value.int .i64 x2,Value.bool false] 188)) ((KeepsOthers.alloc _ _).from _) (KeepsOthers.alloc _ _).walks ⟨⟨by rw[aD _ _ (by omega)];exact i1,by rw[aD _ _ hs1];exact i2⟩,hB1.alloc hB1.size _⟩ ⟨W.heap.size,hs1,aE _ _ _ rfl,rfl⟩
  have HF:=h_ hfin
  clear hfin hK
  gi_wp2
  exact HF.out
 case body=>
  rintro l pre x a' W hl ⟨r,hr⟩ ⟨⟨i1,i2⟩,hB1⟩ ⟨Bx,hBx,bX,rfl⟩ hlt
  obtain⟨x1,x2⟩:=x
  unfold paV
  dsimp only at bX ⊢
  have hs1:w.heap.size+1<W.heap.size:=aM (i:=0) (by rw[i2];simp)
  have hbl:Bx<W.heap.size:=aM (i:=0) (by rw[bX];simp)
  have hle:=aLN port pre
  obtain⟨c,hc⟩:∃c,onP port pre=c:=⟨_,rfl⟩
  rw[hc]at i2 hle
  have HC:=h_ hc
  clear hc
  have hcI:(c:Int)<=1000000:=by omega
  by_cases hp:x1=port
  ·subst hp
   have hn:onP x1 (pre++[(x1,x2)])=c+1:=by rw[aDO,HC.out];simp
   have HN:=h_ hn
   clear hn
   gi_wp2
   exact⟨(KeepsOthers.setRow _ _ _).from _,(KeepsOthers.setRow _ _ _).walks,⟨by rw[aC _ _ _ (by omega)];exact i1,by rw[HN.out,aB (by rw[i2];simp) (by rw[i2];rfl)];rfl⟩,Below.setRow hB1 (by omega) _⟩
  ·have hp2:(x1==port)=false:=by simpa using hp
   have hn:onP port (pre++[(x1,x2)])=c:=by rw[aDO,HC.out];simp[hp]
   have HN:=h_ hn
   clear hn
   gi_wp2
   exact⟨(KeepsOthers.refl _).from _,(KeepsOthers.refl _).walks,⟨i1,by rw[HN.out];exact i2⟩,hB1⟩
 case done=>
  rintro D xs W hD hperm ⟨⟨i1,i2⟩,hB1⟩ hK
  rw[aIp hperm]at i2
  gi_wp2
  refine⟨by simp,.inl ⟨_,_,rfl,run_takeDeferred hK,?_⟩⟩
  exact⟨_,results_tmp rfl _ _ _,rfl,hB1.trans (belowK_b (w:=w) (Nat.le_refl _) W D _ _ (by omega) hK rfl rfl)⟩
 case stop=>
  rintro D c pre W _ _ h _
  exact h.elim
end
section
open Go.RowKit Go.Shelf
theorem aEC (x port age:Int) (b:Nat) (w:World) (hb:row w b=#[.int .i64 x]):
  Calls Tryz.prog 76 #[.agg #[Value.int .i64 port,Value.int .i64 age,Value.bool false],.pointer (some ⟨b,0,none⟩)] w fun e w'=>e=.returned (.bool (port==x))/\Below w.heap.size w w':=by
 have hlt:b<w.heap.size:=aM (i:=0) (by rw[hb];simp)
 go_enter Tryz.func76,Tryz.ntmps76
 go_wp2_with fail
 go_ret
 exact⟨rfl,ba_⟩
theorem aED (ageing port age:Int) (lv mv:Value) (b T:Nat) (w:World) (hb:row w b=#[.pointer (some ⟨T,0,none⟩)]) (hT:row w T=#[.int .i64 ageing,lv,mv]):
  Calls Tryz.prog 81 #[.agg #[Value.int .i64 port,Value.int .i64 age,Value.bool false],.pointer (some ⟨b,0,none⟩)] w fun e w'=>e=.returned (.bool (decide (ageing<=age)))/\Below w.heap.size w w':=by
 have hlt:b<w.heap.size:=aM (i:=0) (by rw[hb];simp)
 have hlT:T<w.heap.size:=aM (i:=0) (by rw[hT];simp)
 go_enter Tryz.func81,Tryz.ntmps81
 go_wp2_with fail
 refine jY [(b,#[.pointer (some ⟨T,0,none⟩)]),(T,#[.int .i64 ageing,lv,mv]),(w.heap.size,#[Value.int .i64 port,Value.int .i64 age,Value.bool false])] (fun hS=>?_)
 refine qp 0 hS ?_
 refine qp 1 hS ?_
 refine qp 2 hS ?_
 refine qp 3 hS ?_
 refine qp 4 hS ?_
 refine qp 5 hS ?_
 refine qp 6 hS ?_
 refine qp 7 hS ?_
 refine aG kr_ (fun w2 b2=>?_) _
 replace b2:Below (w.alloc (.cells #[Value.int .i64 port,Value.int .i64 age,Value.bool false] 188)).heap.size (w.alloc (.cells #[Value.int .i64 port,Value.int .i64 age,Value.bool false] 188)) w2:=aL (Below.drew (Below.refl _ _)) b2
 go_wp2_with fail
 go_ret
 exact⟨rfl,Below.trans (ba_) (b2.mono (by simp))⟩
section
variable (w:World) {T M:Nat} {ageing:Int} {lv:Value} {m:List LB}
theorem aCw {B M b:Nat} {w W:World} (h:BelowBut B M w W) (hb:b<B) (hn:b≠M) {c:Array Value} (hr:row w b=c):row W b=c:=(aJ (h.block b hb hn)).trans hr
theorem aGh (h:LerT w T M ageing lv m) (hTM:T≠M) (hd:fJ m) (hml:m.length<=1000000) (port:Int):
  Calls Tryz.prog 44 #[.pointer (some ⟨T,0,none⟩),.int .i64 port] w fun e w'=>(∃n:Nat,e=.returned (.int .i64 n))/\BelowBut w.heap.size M w w'/\LerT w' T M ageing lv (aLM port m):=by
 have hlt:=h.lt
 have hMlt:=h.ok.lt
 go_enter Tryz.func44,Tryz.ntmps44
 obtain⟨W,hW⟩:∃W,w.alloc (.cells #[.int .i64 port] 3)=W:=⟨_,rfl⟩
 have bW:Below w.heap.size w W:=by rw[<-hW];exact ba_
 have rP:row W w.heap.size=#[.int .i64 port]:=by rw[<-hW];simp[go_sem]
 have zW:W.heap.size=w.heap.size+1:=by rw[<-hW];simp
 have hT:=h.below bW hlt hMlt
 have H:=h_ (aA6 76 #[.pointer (some ⟨w.heap.size,0,none⟩)] (enters_of Tryz.func76 kr_ rfl) (fun p _=>p==port) W hT hTM hd hml
  fun p a W2 hb=>aEC port p a w.heap.size W2 (aCw hb (by omega) (by omega) rP))
 clear h hT
 go_wp2_with fail
 (try rw[hW])
 try clear hW
 (with_reducible refine H.out.mono ?_)
 rintro e w2 ⟨⟨n,rfl,hn⟩,b2,h2⟩
 clear H hn
 go_wp2_with fail
 go_ret
 exact⟨⟨n,rfl⟩,(BelowBut.of bW).trans (b2.mono (by omega)),h2⟩
end
def aFP (p:KV):Option KV:=some (p.1,lvV (aIm p.2 0) (aIm p.2 1+1))
theorem i9:qJ aFP:=by
 intro p q h
 cases h
 rfl
def qK (m:List LB):List LB:=m.map fun b=>⟨b.v,b.mac,b.port,b.age+1⟩
theorem aDP:∀m:List LB,(fQ m).filterMap aFP=fQ (qK m)
 | []=>rfl
 | b::m=>by
  have ih:=aDP m
  unfold fQ qK at ih ⊢
  rw[List.map_cons,List.filterMap_cons,List.map_cons,List.map_cons]
  show LB.ent ⟨b.v,b.mac,b.port,b.age+1⟩::_=_
  rw[ih]
theorem aGi (ageing:Int):∀m:List LB,(qK m).filter (fun b=> !decide (ageing<=b.age))=yS ageing m
 | []=>rfl
 | b::m=>by
  have ih:=aGi ageing m
  unfold qK yS at ih ⊢
  rw[List.map_cons,List.filter_cons,List.filterMap_cons,aIn]
  by_cases h:ageing<=b.age+1
  ·rw[if_pos h]
   simp only[decide_eq_true h,Bool.not_true,Bool.false_eq_true,if_false]
   exact ih
  ·rw[if_neg h]
   simp only[decide_eq_false h,Bool.not_false,if_true]
   rw[ih]
theorem aEE {m:List LB} (h:fJ m):fJ (qK m):=by
 unfold fJ qK at *
 rw[List.pairwise_map]
 exact h.imp fun {a b} hab=>hab
theorem aGj (w:World) {T M:Nat} {ageing:Int} {lv:Value} {m:List LB} (h:LerT w T M ageing lv m) (hTM:T≠M) (hd:fJ m) (hml:m.length<=1000000) (hage:∀b∈m,0<=b.age/\b.age<=1000000):
  Calls Tryz.prog 47 #[.pointer (some ⟨T,0,none⟩)] w fun e w'=>e=.returned (.tuple #[])/\BelowBut w.heap.size M w w'/\LerT w' T M ageing lv (yS ageing m):=by
 have hr:=h.row
 have hlt:=h.lt
 have hMlt:=h.ok.lt
 have hnd0:=(o9 m).2 hd
 have hok0:=kK m
 go_enter Tryz.func47,Tryz.ntmps47
 obtain⟨W,hW⟩:∃W,w.alloc (.cells #[.pointer (some ⟨T,0,none⟩)] 118)=W:=⟨_,rfl⟩
 have bW:Below w.heap.size w W:=by rw[<-hW];exact ba_
 have rP:row W w.heap.size=#[.pointer (some ⟨T,0,none⟩)]:=by rw[<-hW];simp[go_sem]
 have zW:W.heap.size=w.heap.size+1:=by rw[<-hW];simp
 have hTW:=h.below bW hlt hMlt
 have hrW:=hTW.row
 obtain⟨o,hrun,hit⟩:=nT eP hTW.ok
 obtain⟨w0,hw0⟩:∃x,W.alloc o=x:=⟨_,rfl⟩
 rw[hw0]at hrun hit
 have B0:Below W.heap.size W w0:=by rw[<-hw0];exact ba_
 have z0:w0.heap.size=W.heap.size+1:=by rw[<-hw0];simp
 have hM0:=aR B0 (by omega) hTW.ok
 have hL0:eB w0 M=cZ aFP (fun _=>true) (fQ m):=by rw[aT B0 (by omega),hTW.map,jP]
 have hr0:=(aA B0 (by omega)).trans hrW
 have rP0:=(aA B0 (by omega)).trans rP
 have BB0:BelowBut w.heap.size M w w0:=BelowBut.of (bW.trans (B0.mono (by omega)))
 have HL0:=h_ hL0
 have HND:=h_ hnd0
 clear hw0 h hL0 hnd0 hTW bW B0
 rw[zW]at hrun hit
 go_wp2_with fail
 clear hW
 go_loopw [2] (fun _ wr=>∃(left:Value->Bool),iterOk wr (w.heap.size+1) M left/\mapOk wr M/\eB wr M=cZ aFP left (fQ m)/\row wr T=#[.int .i64 ageing,lv,.map (some M)]/\row wr w.heap.size=#[.pointer (some ⟨T,0,none⟩)]/\BelowBut w.heap.size M w wr/\w.heap.size+1<wr.heap.size) (fun _ wr=>dL wr (w.heap.size+1) M)
 case atStart=>exact⟨fun _=>true,hit,hM0,HL0.out,hr0,rP0,BB0,by omega⟩
 case round=>
  clear hrun hit hM0 HL0 hr0 rP0 rP hrW
  obtain⟨left,hit,hM,hL,hra,hrp,hbb,hz⟩:=hrel
  have hnd:=mQ (left:=left) i9 HND.out
  have hka:=kJ (left:=left) (ok:=okA lsL) i9 hok0
  rw[<-hL]at hnd hka
  rcases nU key_learn hit hka hnd with ⟨hall,hrun⟩ | ⟨p,hp,hlp,w1,hrun,hT,hit1,hent⟩
  ·rw[hL]at hall
   have hend:=aA2 (f:=aFP) (left:=left) (L:=fQ m) hall
   rw[aDP]at hend
   rw[hend]at hL
   have HLT:LerT wr T M ageing lv (qK m):=⟨hra,hM,hL⟩
   have H:=h_ (aA6 81 #[.pointer (some ⟨w.heap.size,0,none⟩)] (enters_of Tryz.func81 kr_ rfl) (fun _ a=>decide (ageing<=a)) wr HLT hTM (aEE hd) (by unfold qK;rw[List.length_map];exact hml)
    fun p a W2 hb=>aED ageing p a lv _ w.heap.size T W2 (aCw hb (by omega) (by omega) hrp) (aCw hb (by omega) hTM hra))
   clear hL hall hnd hka hend HLT
   go_wp2_with fail
   (with_reducible refine H.out.mono ?_)
   rintro e w2 ⟨⟨n,rfl,hn⟩,b2,h2⟩
   have h3:LerT w2 T M ageing lv (yS ageing m):=by rw[<-aGi];exact h2
   clear H hn h2
   go_wp2_with fail
   go_end0
   exact⟨rfl,hbb.trans (b2.mono (by omega)),h3⟩
  ·rw[hL]at hp
   have hpm:=aA0 i9 hp hlp
   obtain⟨b,hb,rfl⟩:=yT hpm
   have hab:=hage b hb
   have hstep:=(lP (f:=aFP) (left:=left) key_learn i9 HND.out hok0 hpm hlp).1 _ rfl
   obtain⟨v,mac,port,age⟩:=b
   have hstep2:sQ dZ (lkV v mac) (lvV port (age+1)) (cZ aFP left (fQ m))=cZ aFP (fun z=>left z&& !dZ (lkV v mac) z) (fQ m):=hstep
   unfold LB.ent at hrun hent hlp hit1 hp hpm
   dsimp only at hlp hrun hit1 hent hp hpm hab
   have hL1:eB w1 M=cZ aFP left (fQ m):=(bQ (hT.block M (Ne.symm hit.ne))).trans hL
   have hM1:=(bD (hT.block M (Ne.symm hit.ne))).2 hM
   have hra1:=(hT.row (by omega)).trans hra
   have hrp1:=(hT.row (by omega)).trans hrp
   have z1:=hT.size
   have hlq:dL w1 (w.heap.size+1) M<dL wr (w.heap.size+1) M:=by
    rw[hit1.left_eq,hit.left_eq,hL1,hL]
    refine kG (f:=fun q:Value×Value=>left q.1) (g:=fun q=> !dZ (lkV v mac) q.1) (x:=(lkV v mac,lvV port age)) hp hlp ?_
    dsimp only
    rw[key_learn.refl _ (okL _ _)]
    rfl
   have hbb1:BelowBut w.heap.size M w w1:=hbb.trans ⟨hT.os,hT.tape,hT.output,by omega,fun k hk hn=>hT.block k (by omega)⟩
   have hin0:tL dZ (lkV v mac) (cZ aFP left (fQ m))≠none:=by
    intro e
    unfold tL at e
    rw[Option.map_eq_none_iff]at e
    have h1:=(sR (same:=dZ) (lkV v mac) (lvV 0 0) _ 0 e).2
    have h2:=mR key_learn (okL v mac) (L:=cZ aFP left (fQ m)) ⟨_,hp,rfl⟩
    rw[h1]at h2
    omega
   unfold lkV lvV at hrun hent
   have HL1:=h_ hL1
   have HLQ:=h_ hlq
   have HST:=h_ hstep2
   have HIN:=h_ hin0
   clear hL1 hlq hb hlp hp hpm hnd hka hL hbb hstep hstep2 hin0
   have HIT:=h_ hit1
   have hne:=hit1.ne
   have hrl:=hit1.lt
   clear hit1
   obtain⟨w2,hw2⟩:∃x,(w1.alloc (.cells (Value.int .i64 v::u8v mac).toArray 198)).alloc (.cells #[Value.int .i64 port,Value.int .i64 (age+1),Value.bool false] 188)=x:=⟨_,rfl⟩
   have rX:row w2 wr.heap.size=(Value.int .i64 v::u8v mac).toArray:=by rw[<-hw2];simp[go_sem,z1]
   have rY:row w2 (wr.heap.size+1)=#[Value.int .i64 port,Value.int .i64 (age+1),Value.bool false]:=by rw[<-hw2];simp[go_sem,z1]
   have z2:w2.heap.size=wr.heap.size+2:=by rw[<-hw2];simp;omega
   have b12:Below w1.heap.size w1 w2:=by rw[<-hw2];exact Below.alloc (Below.alloc (Below.refl _ _) (by omega) _) (by simp) _
   have rA2:=(aA b12 (by omega)).trans hra1
   have rP2:=(aA b12 (by omega)).trans hrp1
   go_wp2_with fail
   clear hw2
   refine aCm 6 [(w.heap.size,#[.pointer (some ⟨T,0,none⟩)]),(T,#[Value.int .i64 ageing,lv,Value.map (some M)]),(wr.heap.size,(Value.int .i64 v::u8v mac).toArray),(wr.heap.size+1,#[Value.int .i64 port,Value.int .i64 (age+1),Value.bool false])] M (cZ aFP left (fQ m)) (aR b12 (by omega) hM1) ((aT b12 (by omega)).trans HL1.out) (fun hS=>?_)
   refine kmp 0 hS ?_
   refine kmp 1 hS ?_
   refine kmp 2 hS ?_
   refine kmp 3 hS ?_
   refine kmp 4 hS ?_
   refine kmp 5 hS ?_
   refine bE (k:=6) cD rfl rfl kr_ (fun w3 b3=>?_)
   replace b3:=aL (Below.drew (Below.refl _ _)) b3
   have b13:=aL b12 b3
   have z3:=b13.size
   have z23:=b3.size
   have hM3:=aR b13 (by omega) hM1
   have hL3:=(aT b13 (by omega)).trans HL1.out
   obtain⟨w4,hrun4,hT4,hM4,hL4,hold4⟩:=mP key_learn eP hM3 (okL v mac) (by rw[hL3];exact kJ i9 hok0) (lvV port (age+1))
   obtain⟨hit4,hl4⟩:=(HIT.out.kept (b13.block M (by omega)) (b13.block _ (by omega))).put hT4 (hold4 (by rw[hL3];exact HIN.out))
   rw[hL3,HST.out]at hL4
   have HL4:=h_ hL4
   have HIT4:=h_ hit4
   have hl4':dL w4 (w.heap.size+1) M<dL wr (w.heap.size+1) M:=by
    rw[hl4,dU (b13.block M (by omega)) (b13.block _ (by omega))]
    exact HLQ.out
   have HLQ4:=h_ hl4'
   clear hL3 hL4 hit4 hl4 hold4 hl4'
   unfold lkV lvV at hrun4
   refine⟨w4,?_,trivial,fun hS=>?_⟩
   ·go_simp
    try exact⟨_,_,rfl,rfl⟩
   ·refine aG kr_ (fun w5 b5=>?_) _
    have z5:=b5.size
    have z4:=hT4.size
    have rA5:row w5 T=#[Value.int .i64 ageing,lv,Value.map (some M)]:=by rw[aA b5 (by omega),hT4.row hTM,aA b13 (by omega),hra1]
    have rP5:row w5 w.heap.size=#[.pointer (some ⟨T,0,none⟩)]:=by rw[aA b5 (by omega),hT4.row (by omega),aA b13 (by omega),hrp1]
    have hM5:=aR b5 (by omega) hM4
    have hL5:=(aT b5 (by omega)).trans HL4.out
    have hbb5:BelowBut w.heap.size M w w5:=hbb1.trans ⟨by rw[b5.os,hT4.os,b13.os],by rw[b5.tape,hT4.tape,b13.tape],by rw[b5.output,hT4.output,b13.output],by omega,fun k hk hn=>by rw[b5.block k (by omega),hT4.block k hn,b13.block k (by omega)]⟩
    have hit5:=HIT4.out.kept (b5.block M (by omega)) (b5.block (w.heap.size+1) (by omega))
    have hl5:dL w5 (w.heap.size+1) M<dL wr (w.heap.size+1) M:=by
     rw[dU (b5.block M (by omega)) (b5.block _ (by omega))]
     exact HLQ4.out
    have HL5:=h_ hL5
    have HIT5:=h_ hit5
    have HLQ5:=h_ hl5
    clear hL5 hrun4 hit5 hl5 b5 hS rX rY rA2 rP2 b12 b13 b3 hrun hent
    go_wp2_with fail
    go_roundw
    case rel=>exact⟨_,HIT5.out,hM5,HL5.out,rA5,rP5,hbb5,by omega⟩
    case measure=>exact HLQ5.out
end
end Go.Proofs.YtiagbbknkdgmeaaGreat
