/- Texts of this proof, merged: NodZ, NodB, SilW. -/
import Derived.Test.YtiagbbknkdgmeaaGreatJ44
import Derived.Test.YtiagbbknkdgmeaaGreatTlkJ
import Derived.Test.YtiagbbknkdgmeaaGreatJ17
import Derived.Test.YtiagbbknkdgmeaaGreatJ9
import Derived.Test.YtiagbbknkdgmeaaGreatJ50
import Derived.Deep.CutRange
set_option linter.unusedSimpArgs false
set_option linter.unusedVariables false
set_option maxHeartbeats 8000000
set_option maxRecDepth 20000
namespace Go.Proofs.YtiagbbknkdgmeaaGreat
section
open Go.RowKit Go.Shelf
def aNf (x:Nat×Bool×List UInt8):List Value:=[.int .i64 (x.1:Int),.bool x.2.1,.string ⟨x.2.2.toArray⟩]
def aMr (ps:List PortX) (tick:Bool) (x:Nat×Bool×List UInt8):Prop:=∃px,ps[x.1]? =some px/\px.link=x.2.1/\(x.2.1=true->tick=true/\px.greets=true/\∃s:List UInt8,x.2.2=1::s/\s.length=48)
def aMs (w:World) (n0:Nat) (ps:List PortX) (tick:Bool) (e:Ending):Prop:=∃(v:Value) (l:List (Nat×Bool×List UInt8)),e=.returned v/\OwnL w n0 54 3 v (l.map aNf)/\l.length<=32/\∀x∈l,aMr ps tick x
section
variable {B0 E:Nat} {w:World} {N:Nat} {ps:List PortX} {p:NdP} {A:BrA} {s:BrS} {K:Nat}
theorem tB (h:NodeG B0 E w N ps p A s K):B0<=E/\∀b∈p.Q::A.muts,B0<=b:=⟨by have:=h.lo6 A.B (by simp);have:=h.lo A.B (by simp[BrA.muts]);omega,h.lo⟩
theorem yI (h:NodeG B0 E w N ps p A s K):∀b∈A.muts,b<E:=fun b hb=>h.lo6 b (dJ hb)
theorem aDv (h:NodeG B0 E w N ps p A s K) (hK:K<=90000) {room:Int} (hI:IdleQ w p.Q E room) (sec:List UInt8) (hsec:sec.length=32) (kb:Nat) (hkb:E<=kb) (hk:row w kb=(u8s sec++u8s sec).toArray):
  Calls Tryz.prog 10 #[.pointer (some ⟨N,0,none⟩),.slice (some ⟨kb,0,none⟩) 2 2] w fun e w'=>aMs w' w.heap.size ps true e/\(∃s',NodeG B0 E w' N ps p A s' (K+33))/\IdleQ w' p.Q E room/\Below B0 w w':=by
 have hl:=tB h
 have hle:=h.le
 refine(aFD h hK sec hsec kb hkb hk).mono ?_
 rintro e w' ⟨⟨v,l,h1,h2,h3,h4⟩,h5,h6⟩
 refine⟨⟨v,l.map fun x=>(x.1,true,1::x.2),h1,?_,by simpa using h3,fun x hx=>?_⟩,⟨_,h5⟩,hI.kept fun k hk hq=>h6.block k hk (by omega),⟨h6.os,h6.tape,h6.output,h6.size,fun k hk=>h6.block k (by omega) (.inl hk)⟩⟩
 ·rw[List.map_map]
  exact h2
 ·obtain⟨y,hy,rfl⟩:=List.mem_map.1 hx
  obtain⟨px,g1,g2,g3,g4⟩:=h4 y hy
  exact⟨px,g1,g2,fun _=>⟨rfl,g3,y.2,rfl,g4⟩⟩
theorem aCc (h:NodeG B0 E w N ps p A s K) {room:Int} (hr:1<=room) (hI:IdleQ w p.Q E room) (hN:N<E) (port:Int) (l:List UInt8):
  Calls Tryz.prog 11 #[.pointer (some ⟨N,0,none⟩),.int .i64 port,.string ⟨l.toArray⟩] w fun e w'=>(∃v,e=.returned v)/\NodeG B0 E w' N ps p A s K/\(IdleQ w' p.Q E room∨∃(q:Nat) (hq:q<p.es.length) (b:Bool),p.es[q]=none/\WaitQ w' p.Q E room (q:Int) l b)/\Below B0 w w':=by
 obtain⟨hBE,hlo⟩:=tB h
 have hle:=h.le
 have hq:=h.q
 have hno:∀a b,(a=false∨b=true)->(Calls Tryz.prog 27 #[.pointer (some ⟨N,0,none⟩),.int .i64 port] w fun e w'=>e=.returned (.tuple #[.bool a,.bool b])/\Below w.heap.size w w')->Calls Tryz.prog 11 #[.pointer (some ⟨N,0,none⟩),.int .i64 port,.string ⟨l.toArray⟩] w fun e w'=>(∃v,e=.returned v)/\NodeG B0 E w' N ps p A s K/\(IdleQ w' p.Q E room∨∃(q:Nat) (hq:q<p.es.length) (b:Bool),p.es[q]=none/\WaitQ w' p.Q E room (q:Int) l b)/\Below B0 w w':=by
  intro a b hab hH
  refine(aFw (some ⟨N,0,none⟩) port l w a b hab hH).mono ?_
  rintro e w' ⟨rfl,hb⟩
  exact⟨⟨_,rfl⟩,h.below (hb.mono hle),.inl (hI.kept fun k hk _=>hb.block k hk),hb.mono (by omega)⟩
 by_cases hp:port<0∨(p.es.length:Int)<=port
 ·exact hno _ _ (.inl rfl) (hq.hasNo port hp)
 ·obtain⟨q,rfl⟩:∃q:Nat,port=(q:Int):=⟨port.toNat,by omega⟩
  have hqe:q<p.es.length:=by omega
  cases hx:p.es[q]with
  | some b=>
   have:=hq.has q hqe
   rw[hx]at this
   exact hno _ _ (.inr rfl) this
  | none=>
   have hH:=hq.has q hqe
   rw[hx]at hH
   refine(aEe hq.nd room hr hN hle hI (q:Int) l hH).mono ?_
   rintro e w' ⟨rfl,h1,h2⟩
   refine⟨⟨_,rfl⟩,h.put h2,.inr ⟨q,hqe,_,hx,h1⟩,⟨h2.os,h2.tape,h2.output,h2.size,fun k hk=>h2.block k (by omega) fun hm=>?_⟩⟩
   have:=hlo p.Q List.mem_cons_self
   have:=List.mem_singleton.1 hm
   omega
theorem aFJ (h:NodeG B0 E w N ps p A s K) (hK:K<=90000) {room:Int} (l:List UInt8) (hl:l.length<=10000) (hI:IdleQ w p.Q E room∨∃(q:Nat) (hq:q<p.es.length) (b:Bool),p.es[q]=none/\WaitQ w p.Q E room (q:Int) l b) (t:TalkD) (ht:∀d,bM l=.ok d->TalkC d.dst d.src d.ty d.body t):
  Calls Tryz.prog 12 #[.pointer (some ⟨N,0,none⟩)] w fun e w'=>aMs w' w.heap.size ps false e/\(∃s',NodeG B0 E w' N ps p A s' (K+33))/\IdleQ w' p.Q E room/\Below B0 w w':=by
 obtain⟨hBE,hlo⟩:=tB h
 have hle:=h.le
 have hq0:=h.q
 rcases hI with hI | ⟨q,hq,b,htap,hW⟩
 ·refine(aNc hq0 hI).mono ?_
  rintro e w' ⟨rfl,hb⟩
  exact⟨⟨_,[],rfl,OwnL.nil _ _ _ _,by simp,by simp⟩,⟨_,(h.below (hb.mono hle)).more (by omega)⟩,hI.kept fun k hk _=>hb.block k hk,hb.mono (by omega)⟩
 ·have hqs:q<s.ports.length:=by rw[h.len];exact hq
  obtain⟨ho1,ho2⟩:=pO s hqs l t
  have h32:=h.g.n32
  refine(aMj hq0 h.pB h.ex h.nQ h.br (by omega) h.g h.len hq htap l (by omega) t ht room b (yI h) hW).mono ?_
  rintro e w' ⟨⟨v,rfl,hown⟩,hb,hbr,hid⟩
  have hE:BelowS E (p.Q::A.muts) w w':=hb.mono hle
  refine⟨⟨v,(mE p.es (e9 s q l t).2.1).map fun x=>(x.1,false,x.2),rfl,?_,?_,fun x hx=>?_⟩,⟨_,h.turn hE hbr ((aFt h.g hqs l t).more (by omega)) (aDk s q l t).1 (by omega)⟩,hid,⟨hb.os,hb.tape,hb.output,hb.size,fun k hk=>hb.block k (by omega) fun hm=>by have:=hlo k hm;omega⟩⟩
  ·rw[List.map_map]
   exact hown
  ·rw[List.length_map]
   exact Nat.le_trans (List.length_filter_le _ _) (by omega)
  ·obtain⟨y,hy,rfl⟩:=List.mem_map.1 hx
   unfold mE at hy
   obtain⟨hy1,hy2⟩:=List.mem_filter.1 hy
   have hyl:y.1<ps.length:=by have:=ho1 y hy1;have:=h.len;have:=h.pe;omega
   obtain⟨e,he1,he2⟩:=h.ends y.1 ps[y.1] (List.getElem?_eq_getElem hyl)
   rcases he2 with ⟨g1,rfl⟩ | ⟨g1,b2,_,_,_,_,rfl,_⟩
   ·exact⟨ps[y.1],List.getElem?_eq_getElem hyl,g1,fun h=>by cases h⟩
   ·rw[List.getD_eq_getElem?_getD,he1]at hy2
    cases hy2
end
end
section
open Go.RowKit Go.Shelf
theorem sE {W:World} {b:Nat} {pre l post:List Value} (h:row W b=(pre++(l++post)).toArray):W.rangeAt b pre.length l:=fun j v hj=>by
 have hjl:=(List.getElem?_eq_some_iff.1 hj).1
 have hs:pre.length+j<(row W b).size:=by rw[h];simp;omega
 rw[aQ hs,h,List.getElem?_toArray,List.getElem?_append_right (by omega),Nat.add_sub_cancel_left,List.getElem?_append_left hjl]
 exact hj
theorem aFK (dst src:Vector UInt8 6) (body:List UInt8):TalkC dst src 2048 body ⟨[],cF,false,none⟩:=
 ⟨xI _ _ _ 2048 rfl rfl,fun _ w T v=>xJ _ _ _ w v T 2048 rfl rfl,fun _ _ h=>by cases h⟩
def xN:PortX:=⟨⟨1,[],0,5⟩,false,0,false,Vector.replicate 32 0⟩
def dN:Vector UInt8 6:= #v[2,0,0,0,0,9]
def sN:Vector UInt8 6:= #v[2,0,0,0,0,1]
def lineN:List UInt8:=oW dN sN 2048 [120] (-1) 0
theorem aEh:lineN=[2,0,0,0,0,9,2,0,0,0,0,1,8,0,120]:=by rfl
theorem aHR:(⟨lineN.toArray⟩:ByteArray)=⟨#[2,0,0,0,0,9,2,0,0,0,0,1,8,0,120]⟩:=by rw[aEh]
theorem vN:bM lineN=.ok ⟨dN,sN,2048,[120], -1,0⟩:=vV dN sN 2048 [120] (-1) 0 (by decide)
def brN:BrS:=sJ 9 ([xN,xN].map (·.p)) (aFu [xN,xN]) 2
theorem aNg:(e9 brN 0 lineN ⟨[],cF,false,none⟩).2=([(1,lineN)],0):=by
 unfold e9
 rw[vN]
 rfl
theorem pxN {W:World} {g:Nat} (h:row W g=(dW none 0 xN++dW none 0 xN).toArray):PXOff [] W (some ⟨g,0,none⟩) [xN,xN]:=by
 have hg:g<W.heap.size:=aM (i:=0) (by rw[h];simp[dW])
 refine⟨by simp[maxLen],fun i p hp=>?_⟩
 have hi:i<2:=(List.getElem?_eq_some_iff.1 hp).1
 have hpA:p=xN:=by
  match i,hp with
  | 0,hp=>exact(Option.some.inj hp).symm
  | 1,hp=>exact(Option.some.inj hp).symm
  | n+2,hp=>simp at hp
 subst hpA
 refine⟨g,0,none,0,rfl,hg,List.not_mem_nil,fun W' hW=>?_,ElemsOff.nil _ _ _ _⟩
 have hr:=(aJ hW).trans h
 match i,hi with
 | 0,_=>exact sE (pre:=[]) (post:=dW none 0 xN) hr
 | 1,_=>exact sE (pre:=dW none 0 xN) (post:=[]) (by rw[List.append_nil];exact hr)
theorem sF (w:World):Calls Tryz.prog 9 #[] w fun e w'=>e=.returned (.agg #[.int .i64 2,.int .i64 100,.int .i64 3,.int .i64 8])/\Below w.heap.size w w':=by
 go_enter Tryz.func9,Tryz.ntmps9
 go_wp2_with fail
 ((try simp only[Exit.inBlock,Exit.then]);refine bodyPost_ret (aV rfl (aK rfl ?_)) rfl ?_;(simp[go_sem]))
 exact⟨by rw[aE _ _ _ rfl],ba_⟩
theorem nG (w:World):Calls Tryz.prog 4 #[] w fun e w'=>e=.returned (.bool true)/\Below w.heap.size w w':=by
 go_enter Tryz.func4,Tryz.ntmps4
 have hz1:(aH 1 (Value.int .i64 0)).tail=[]:=rfl
 go_wp2_with fail
 obtain⟨w1,hw1⟩:∃x,w.alloc (.cells (Value.int .i64 1::Value.slice none 0 0::(aH 1 (Value.int .i64 0)++Value.int .i64 5::Value.bool false::Value.int .i64 0::Value.bool false::aH 32 (Value.int .u8 0))).toArray 66)=x:=⟨_,rfl⟩
 have b1:Below w.heap.size w w1:=by rw[<-hw1];exact ba_
 have r1:row w1 w.heap.size=#[Value.int .i64 1,Value.slice none 0 0,Value.int .i64 0,Value.int .i64 5,Value.bool false,Value.int .i64 0,Value.bool false,Value.int .u8 0,Value.int .u8 0,Value.int .u8 0,Value.int .u8 0,Value.int .u8 0,Value.int .u8 0,Value.int .u8 0,Value.int .u8 0,Value.int .u8 0,Value.int .u8 0,Value.int .u8 0,Value.int .u8 0,Value.int .u8 0,Value.int .u8 0,Value.int .u8 0,Value.int .u8 0,Value.int .u8 0,Value.int .u8 0,Value.int .u8 0,Value.int .u8 0,Value.int .u8 0,Value.int .u8 0,Value.int .u8 0,Value.int .u8 0,Value.int .u8 0,Value.int .u8 0,Value.int .u8 0,Value.int .u8 0,Value.int .u8 0,Value.int .u8 0,Value.int .u8 0,Value.int .u8 0]:=by rw[<-hw1];exact(aE _ _ _ rfl).trans rfl
 have k1:w.heap.size<w1.heap.size:=by rw[<-hw1,aF];omega
 rw[hw1]
 obtain⟨P,hP⟩:∃P,w.heap.size=P:=⟨_,rfl⟩
 have HP:=h_ hP
 rw[hP]at r1 k1 ⊢
 clear hw1 hP
 have hG:GrowP fun W=>Below w1.heap.size w1 W:=d6 w1
 refine nV [(P,#[Value.int .i64 1,Value.slice none 0 0,Value.int .i64 0,Value.int .i64 5,Value.bool false,Value.int .i64 0,Value.bool false,Value.int .u8 0,Value.int .u8 0,Value.int .u8 0,Value.int .u8 0,Value.int .u8 0,Value.int .u8 0,Value.int .u8 0,Value.int .u8 0,Value.int .u8 0,Value.int .u8 0,Value.int .u8 0,Value.int .u8 0,Value.int .u8 0,Value.int .u8 0,Value.int .u8 0,Value.int .u8 0,Value.int .u8 0,Value.int .u8 0,Value.int .u8 0,Value.int .u8 0,Value.int .u8 0,Value.int .u8 0,Value.int .u8 0,Value.int .u8 0,Value.int .u8 0,Value.int .u8 0,Value.int .u8 0,Value.int .u8 0,Value.int .u8 0,Value.int .u8 0,Value.int .u8 0,Value.int .u8 0])] (fun W=>Below w1.heap.size w1 W) hG (Below.refl _ _) (fun hS=>?_)
 refine sp 0 hG hS ?_
 refine sp 1 hG hS ?_
 refine sp 2 hG hS ?_
 refine sc 5 (v:=?_) hG hS ?_ ?_
 rotate_left
 ·intro w' hS'
  obtain⟨hS',hX'⟩:=hS'
  simp only[Rws]at hS'
  go_simp
  with_reducible refine(sF _).mono ?_
  rintro e w'' ⟨rfl,hb⟩
  exact⟨_,rfl,by rfl,hb⟩
 refine fM 3 kr_ (fun u hu=>?_)
 refine wpOp_step rfl (fun K hK=>?_)
 go_simp
 have hu2:Below w1.heap.size w1 u:=aL (Below.drew (Below.refl _ _)) hu
 have zu:=hu2.size
 obtain⟨u2,hu3⟩:∃x,u.alloc (.cells #[Value.int .i64 1,Value.slice none 0 0,Value.int .i64 0,Value.int .i64 5,Value.bool false,Value.int .i64 0,Value.bool false,Value.int .u8 0,Value.int .u8 0,Value.int .u8 0,Value.int .u8 0,Value.int .u8 0,Value.int .u8 0,Value.int .u8 0,Value.int .u8 0,Value.int .u8 0,Value.int .u8 0,Value.int .u8 0,Value.int .u8 0,Value.int .u8 0,Value.int .u8 0,Value.int .u8 0,Value.int .u8 0,Value.int .u8 0,Value.int .u8 0,Value.int .u8 0,Value.int .u8 0,Value.int .u8 0,Value.int .u8 0,Value.int .u8 0,Value.int .u8 0,Value.int .u8 0,Value.int .u8 0,Value.int .u8 0,Value.int .u8 0,Value.int .u8 0,Value.int .u8 0,Value.int .u8 0,Value.int .u8 0,Value.int .i64 1,Value.slice none 0 0,Value.int .i64 0,Value.int .i64 5,Value.bool false,Value.int .i64 0,Value.bool false,Value.int .u8 0,Value.int .u8 0,Value.int .u8 0,Value.int .u8 0,Value.int .u8 0,Value.int .u8 0,Value.int .u8 0,Value.int .u8 0,Value.int .u8 0,Value.int .u8 0,Value.int .u8 0,Value.int .u8 0,Value.int .u8 0,Value.int .u8 0,Value.int .u8 0,Value.int .u8 0,Value.int .u8 0,Value.int .u8 0,Value.int .u8 0,Value.int .u8 0,Value.int .u8 0,Value.int .u8 0,Value.int .u8 0,Value.int .u8 0,Value.int .u8 0,Value.int .u8 0,Value.int .u8 0,Value.int .u8 0,Value.int .u8 0,Value.int .u8 0,Value.int .u8 0,Value.int .u8 0] 66)=x:=⟨_,rfl⟩
 have bu:Below u.heap.size u u2:=by rw[<-hu3];exact ba_
 have ru:row u2 u.heap.size=(dW none 0 xN++dW none 0 xN).toArray:=by rw[<-hu3];exact(aE _ _ _ rfl).trans rfl
 have ku:u.heap.size<u2.heap.size:=by rw[<-hu3,aF];omega
 rw[hu3]
 have b12:Below w1.heap.size w1 u2:=hu2.trans (bu.mono zu)
 have hS:XS [(P,#[Value.int .i64 1,Value.slice none 0 0,Value.int .i64 0,Value.int .i64 5,Value.bool false,Value.int .i64 0,Value.bool false,Value.int .u8 0,Value.int .u8 0,Value.int .u8 0,Value.int .u8 0,Value.int .u8 0,Value.int .u8 0,Value.int .u8 0,Value.int .u8 0,Value.int .u8 0,Value.int .u8 0,Value.int .u8 0,Value.int .u8 0,Value.int .u8 0,Value.int .u8 0,Value.int .u8 0,Value.int .u8 0,Value.int .u8 0,Value.int .u8 0,Value.int .u8 0,Value.int .u8 0,Value.int .u8 0,Value.int .u8 0,Value.int .u8 0,Value.int .u8 0,Value.int .u8 0,Value.int .u8 0,Value.int .u8 0,Value.int .u8 0,Value.int .u8 0,Value.int .u8 0,Value.int .u8 0,Value.int .u8 0])] (fun W=>Below w1.heap.size w1 W) u2:=⟨⟨(aA b12 k1).trans r1,by omega,trivial⟩,b12⟩
 refine hK _ _ ⟨hS,?_⟩
 clear hK K hu3
 (try simp only[Act.put,List.setIfInBounds_toArray,List.set_cons_zero,List.set_cons_succ])
 refine sp 4 hG hS ?_
 refine fM 6 kr_ (fun y hy=>?_)
 refine wpOp_step rfl (fun K hK=>?_)
 go_simp
 have ry:=(aA hy ku).trans ru
 have zy:=hy.size
 have hN:=vD (Vector.replicate 8 0) 20 2 15 9 (some ⟨u.heap.size,0,none⟩) 2 [xN,xN] 2 100 3 8 10 y (pxN ry) (by decide)
 have hz8:u8v (Vector.replicate 8 (0:UInt8))=aH 8 (Value.int .u8 0):=by kernel_rfl
 unfold hZ at hN
 rw[hz8,show [xN,xN].length=2 from rfl]at hN
 have HN:=h_ hN
 clear hN hz8
 (with_reducible refine HN.out.mono ?_)
 rintro e y2 (⟨h0,_⟩ | ⟨hok,N,rfl,Q,mac,A,spx,ea,ec,es,hT⟩)
 ·exact absurd h0 (by decide)
 have bN:=hT.low
 have zN:=bN.size
 have b1y:Below w1.heap.size w1 y:=b12.trans (hy.mono b12.size)
 have zy1:=b1y.size
 have b1y2:Below w1.heap.size w1 y2:=b1y.trans (bN.mono zy1)
 have hS:XS [(P,#[Value.int .i64 1,Value.slice none 0 0,Value.int .i64 0,Value.int .i64 5,Value.bool false,Value.int .i64 0,Value.bool false,Value.int .u8 0,Value.int .u8 0,Value.int .u8 0,Value.int .u8 0,Value.int .u8 0,Value.int .u8 0,Value.int .u8 0,Value.int .u8 0,Value.int .u8 0,Value.int .u8 0,Value.int .u8 0,Value.int .u8 0,Value.int .u8 0,Value.int .u8 0,Value.int .u8 0,Value.int .u8 0,Value.int .u8 0,Value.int .u8 0,Value.int .u8 0,Value.int .u8 0,Value.int .u8 0,Value.int .u8 0,Value.int .u8 0,Value.int .u8 0,Value.int .u8 0,Value.int .u8 0,Value.int .u8 0,Value.int .u8 0,Value.int .u8 0,Value.int .u8 0,Value.int .u8 0,Value.int .u8 0])] (fun W=>Below w1.heap.size w1 W) y2:=⟨⟨(aA b1y2 k1).trans r1,by omega,trivial⟩,b1y2⟩
 refine hK _ _ ⟨hS,?_⟩
 clear hK K
 (try simp only[Act.put,List.setIfInBounds_toArray,List.set_cons_zero,List.set_cons_succ])
 refine sp 7 hG hS ?_
 refine sp 8 hG hS ?_
 refine sp 9 hG hS ?_
 refine sp 10 hG hS ?_
 refine sp 11 hG hS ?_
 refine aG kr_ (fun y3 by3=>?_) _
 have zNE:=hT.ltN
 obtain⟨p,hGa,hIa⟩:=hT.nodeG
 have hGb:=hGa.below (by3.mono (Nat.le_refl _))
 have hIb:=hIa.kept fun k hk _=>by3.block k hk
 have hes:p.es=[none,none]:=by
  obtain⟨e0,g0,g1⟩:=hGa.ends 0 xN rfl
  obtain⟨e1,g2,g3⟩:=hGa.ends 1 xN rfl
  rcases g1 with ⟨_,rfl⟩ | ⟨g1,_⟩
  ·rcases g3 with ⟨_,rfl⟩ | ⟨g3,_⟩
   ·have hp:=hGa.pe
    match p.es,hp,g0,g2 with
    | [a,b],_,g0,g2=>
     simp only[List.getElem?_cons_zero,List.getElem?_cons_succ,Option.some.injEq]at g0 g2
     rw[g0,g2]
   ·cases g3
  ·cases g1
 have bwy:Below w.heap.size w y:=b1.trans (b1y.mono b1.size)
 have bwy3:Below w.heap.size w y3:=bwy.trans ((bN.trans (by3.mono zN)).mono bwy.size)
 have zwy:=bwy.size
 have hle:=hGb.le
 have hH:Calls Tryz.prog 27 #[.pointer (some ⟨N,0,none⟩),.int .i64 0] y3 fun e w'=>e=.returned (.tuple #[.bool true,.bool false])/\Below y3.heap.size y3 w':=by
  have:=hGb.q.has 0 (by rw[hes];decide)
  simp only[hes]at this
  exact this
 have hI:=aEe hGb.q.nd 10 (by decide) zNE hle hIb 0 lineN hH
 have hlit:(⟨lineN.toArray⟩:ByteArray)=⟨#[2,0,0,0,0,9,2,0,0,0,0,1,8,0,120]⟩:=by rw[aEh]
 rw[hlit]at hI
 obtain⟨hBE,hlo⟩:=tB hGb
 have HI:=h_ hI
 have HG:=h_ hGb
 have HES:=h_ hes
 have HLO:=h_ hlo
 clear hS by3 hT hGa hGb hIa hIb hes hI hlit HN b12 bu b1y b1y2 bN hy hu hu2 r1 ru ry hH hlo
 go_wp2_with fail
 (with_reducible refine HI.out.mono ?_)
 rintro e y4 ⟨rfl,hW,b4⟩
 have h4:=HG.out.put b4
 have hRun:=aMj h4.q h4.pB h4.ex h4.nQ h4.br (by omega) h4.g h4.len (q:=0) (by rw[HES.out];decide) (by simp only[HES.out];rfl) lineN (by decide) ⟨[],cF,false,none⟩ (fun d hd=>by rw[vN]at hd;cases hd;exact aFK _ _ _) 10 _ (yI h4) hW
 have hout:mE p.es (e9 brN 0 lineN ⟨[],cF,false,none⟩).2.1=[(1,lineN)]:=by rw[HES.out,aNg];rfl
 rw[show sJ 9 ([xN,xN].map (·.p)) (aFu [xN,xN]) [xN,xN].length=brN from rfl,hout]at hRun
 have HRun:=h_ hRun
 have B4:Below w.heap.size w y4:=bwy3.trans ⟨b4.os,b4.tape,b4.output,b4.size,fun k hk=>b4.block k (by omega) fun hm=>by have:=HLO.out p.Q List.mem_cons_self;have:=List.mem_singleton.1 hm;omega⟩
 clear hRun hout h4 hW HI
 go_wp2_with fail
 (with_reducible refine HRun.out.mono ?_)
 rintro e y5 ⟨⟨v,rfl,hown⟩,b5,_⟩
 obtain⟨a,c,rfl,hel⟩:=hown.elems
 obtain⟨ob,oo,rfl,hob,hra⟩:=hel.2 0 _ rfl
 have c0:y5.cell? ⟨ob,oo,none⟩=some (.int .i64 1):=hra y5 rfl 0 _ rfl
 have c1:y5.cell? ⟨ob,oo+1,none⟩=some (.bool false):=hra y5 rfl 1 _ rfl
 have c2:y5.cell? ⟨ob,oo+2,none⟩=some (.string ⟨#[2,0,0,0,0,9,2,0,0,0,0,1,8,0,120]⟩):=by rw[<-aHR];exact hra y5 rfl 2 _ rfl
 have hB5:Below w.heap.size w y5:=B4.trans ((b5.mono (by have:=B4.size;omega)).below (by have:=B4.size;omega) fun x hx=>by have:=HLO.out x hx;omega)
 clear hown hel hra hob HRun
 go_wp2_with fail
 go_ret
 exact⟨rfl,hB5⟩
end
section
open Go.RowKit Go.Shelf
theorem aHS (l:List UInt8) (hl:l.length<=10000):∃t:TalkD,∀d,bM l=.ok d->TalkC d.dst d.src d.ty d.body t:=by
 cases hp:bM l with
 | error n=>exact⟨⟨[],cF,false,none⟩,fun d hd=>by cases hd⟩
 | ok d=>
  obtain⟨t,ht⟩:=aHP d.dst d.src d.ty d.body (by have:=(oD hp).2.2;omega)
  exact⟨t,fun d' hd'=>by cases hd';exact ht⟩
def aNh (B0 E N:Nat) (ps:List PortX) (p:NdP) (A:BrA) (room:Int) (w4:World) (j:Nat) (w:World):Prop:=
 (∃s K,K<=33*j/\NodeG B0 E w N ps p A s K)/\IdleQ w p.Q E room/\Below B0 w4 w
theorem aHT (v:Vector UInt8 32):∃c0 c1 c2 c3 c4 c5 c6 c7 c8 c9 c10 c11 c12 c13 c14 c15 c16 c17 c18 c19 c20 c21 c22 c23 c24 c25 c26 c27 c28 c29 c30 c31:Value,u8v v=[c0,c1,c2,c3,c4,c5,c6,c7,c8,c9,c10,c11,c12,c13,c14,c15,c16,c17,c18,c19,c20,c21,c22,c23,c24,c25,c26,c27,c28,c29,c30,c31]:=by
 have hl:(u8v v).length=32:=by simp
 match u8v v,hl with
 | [c0,c1,c2,c3,c4,c5,c6,c7,c8,c9,c10,c11,c12,c13,c14,c15,c16,c17,c18,c19,c20,c21,c22,c23,c24,c25,c26,c27,c28,c29,c30,c31],_=>exact⟨_,_,_,_,_,_,_,_,_,_,_,_,_,_,_,_,_,_,_,_,_,_,_,_,_,_,_,_,_,_,_,_,rfl⟩
def aNv (B0 E N:Nat) (ps:List PortX) (p:NdP) (A:BrA) (room:Int) (w4:World) (j:Nat) (tk:Bool) (u:Value) (w:World):Prop:=
 ∃(l:List (Nat×Bool×List UInt8)) (oa:Option Addr) (oc:Nat),u=.slice oa l.length oc/\ElemsAt w oa 3 (l.map aNf)/\l.length<=32/\(∀x∈l,aMr ps tk x)/\aNh B0 E N ps p A room w4 j w
theorem aK9 (n:Nat):((n:Int)).tmod 4=((n%4:Nat):Int):=by
 rw[Int.tmod_eq_emod_of_nonneg (by omega)]
 omega
section
variable (id:Vector UInt8 8) (ma he de ageing:Int) (pa:Option Addr) (cap:Nat) (ps:List PortX) (aa:Option Addr) (acap:Nat) (acts:List Act25) (sec:Vector UInt8 32) (w:World) (h:PXOff [] w pa ps) (ha:Acts25 w aa acts) (hs:∀a∈acts,a.s.length<=maxLen) (hd:∀a∈acts,a.d<256)
include h ha hs hd
theorem wR:
  Calls Tryz.prog 3 #[.agg (hZ id ma he de ageing pa ps.length cap).toArray,.slice aa acts.length acap,.agg (u8v sec).toArray] w fun e w'=>e=.returned (.bool true)/\Below w.heap.size w w':=by
 have am:=ha.1
 rw[List.length_map]at am
 have am2:(acts.length:Int)<=9223372036854775807:=by unfold maxLen at am;omega
 clear am
 have HFW:=h_ (fun(W:World) (hW:Below w.heap.size w W)=>aJy id ma he de ageing pa cap ps W (h.below hW))
 unfold hZ at HFW ⊢
 go_enter Tryz.func3,Tryz.ntmps3
 obtain⟨w1,hw1⟩:∃x,(w.alloc (.cells (u8v id++[Value.int .i64 ma,Value.int .i64 he,Value.int .i64 de,Value.int .i64 ageing,Value.slice pa ps.length cap]).toArray 25)).alloc (.cells (u8v sec).toArray 28)=x:=⟨_,rfl⟩
 have b1:Below w.heap.size w w1:=by rw[<-hw1];exact Below.alloc (ba_) (by simp) _
 have z1:w1.heap.size=w.heap.size+2:=by rw[<-hw1,aF,aF]
 have rC1:row w1 w.heap.size=(u8v id++[Value.int .i64 ma,Value.int .i64 he,Value.int .i64 de,Value.int .i64 ageing,Value.slice pa ps.length cap]).toArray:=by rw[<-hw1];simp[go_sem]
 have rT1:row w1 (w.heap.size+1)=(u8v sec).toArray:=by rw[<-hw1];simp[go_sem]
 have kC:w.heap.size<w1.heap.size:=by omega
 have kT:w.heap.size+1<w1.heap.size:=by omega
 clear z1
 go_wp2_with fail
 (try rw[hw1])
 (try clear hw1)
 (with_reducible refine(nG _).mono ?_)
 rintro e w2 ⟨rfl,b2⟩
 have z2:=b2.size
 have B2:Below w.heap.size w w2:=b1.trans (b2.mono (by omega))
 have rC2:=(aA b2 kC).trans rC1
 have rT2:=(aA b2 kT).trans rT1
 clear rC1 rT1 b1 b2
 go_wp2_with fail
 (with_reducible refine(aHH aa acap acts _ (ha.below B2) hs).mono ?_)
 rintro e w2' hfew
 obtain⟨⟨fb,rfl,hfb⟩,rfl⟩:=hfew
 cases fb with
 | false=>
  go_wp2_with fail
  (with_reducible refine(nG _).mono ?_)
  rintro e w4 ⟨rfl,b4⟩
  go_wp2_with fail
  go_ret
  exact⟨rfl,B2.trans (b4.mono B2.size)⟩
 | true=>
 obtain⟨h40,h2k⟩:=hfb rfl
 clear hfb
 go_wp2_with fail
 (with_reducible refine(HFW.out _ B2).mono ?_)
 rintro e w3 ⟨rfl,b3⟩
 have z3:=b3.size
 have B3:Below w.heap.size w w3:=B2.trans (b3.mono (by omega))
 have rC3:=(aA b3 (show w.heap.size<w2'.heap.size by omega)).trans rC2
 have rT3:=(aA b3 (show w.heap.size+1<w2'.heap.size by omega)).trans rT2
 have kC3:w.heap.size<w3.heap.size:=by omega
 have kT3:w.heap.size+1<w3.heap.size:=by omega
 clear rC2 rT2 b3 B2 HFW
 cases hf:aK7 ps with
 | false=>
  simp only[Bool.false_eq_true,if_false]
  go_wp2_with fail
  (with_reducible refine(nG _).mono ?_)
  rintro e w4 ⟨rfl,b4⟩
  go_wp2_with fail
  go_ret
  exact⟨rfl,B3.trans (b4.mono (by omega))⟩
 | true=>
 have hn50:ps.length<=50:=by unfold aK7 at hf;simp only[Bool.and_eq_true,decide_eq_true_eq]at hf;exact hf.1
 have hnI:(ps.length:Int)<=50:=by omega
 simp only[if_true]
 clear hf
 have HOF:=h_ (aK8 id ma he de ageing pa cap ps w3 (h.below B3) (by omega))
 unfold hZ at HOF
 go_wp2_with fail
 (with_reducible refine HOF.out.mono ?_)
 rintro e u2 ⟨⟨pa',⟨cap',rfl⟩,hpx⟩,bu⟩
 have zu:=bu.size
 go_wp2_with fail
 (with_reducible refine(sF _).mono ?_)
 rintro e u3 ⟨rfl,bt⟩
 have zt:=bt.size
 have hN:=vD id ma he de ageing pa' cap' ps 2 100 3 8 20 u3 (hpx.below bt) (by omega)
 unfold hZ at hN
 have HN:=h_ hN
 have rCu:=(aA bt (show w.heap.size<u2.heap.size by omega)).trans ((aA bu kC3).trans rC3)
 have rTu:=(aA bt (show w.heap.size+1<u2.heap.size by omega)).trans ((aA bu kT3).trans rT3)
 have Bu:Below w.heap.size w u3:=B3.trans ((bu.mono (by omega)).trans (bt.mono (by omega)))
 clear hN HOF rC3 rT3
 go_wp2_with fail
 (with_reducible refine HN.out.mono ?_)
 rintro e u4 (⟨hnb,rfl,bN⟩ | ⟨hnb,N,rfl,Q,mac,A,spx,ea,ec,es,hT⟩)
 ·go_wp2_with fail
  go_ret
  exact⟨rfl,Bu.trans (bN.mono (by omega))⟩
 have hlow:=hT.low
 have zlow:=hlow.size
 have lN:=hT.ltN
 obtain⟨p,hG0,hI0⟩:=hT.nodeG
 obtain⟨s0,hs0⟩:∃x,sJ ageing (ps.map (·.p)) (aFu ps) ps.length=x:=⟨_,rfl⟩
 rw[hs0]at hG0
 have rC4:=(aA hlow (show w.heap.size<u3.heap.size by omega)).trans rCu
 have rT4:=(aA hlow (show w.heap.size+1<u3.heap.size by omega)).trans rTu
 have B4:Below w.heap.size w u4:=Bu.trans (hlow.mono (by omega))
 have zC:w.heap.size+1<u3.heap.size:=by omega
 obtain⟨C,hC⟩:∃C,w.heap.size=C:=⟨_,rfl⟩
 obtain⟨B0,hB0⟩:∃x,u3.heap.size=x:=⟨_,rfl⟩
 obtain⟨E,hE⟩:∃x,u4.heap.size=x:=⟨_,rfl⟩
 rw[hC]at rC4 rT4 zC
 rw[hB0]at hG0 zC
 rw[hE]at hG0 hI0 lN
 have h0:aNh B0 E N ps p A 20 u4 0 u4:=⟨⟨s0,0,by omega,hG0⟩,hI0,Below.refl _ _⟩
 have HR:∀W,Below B0 u4 W->row W C=(u8v id++[Value.int .i64 ma,Value.int .i64 he,Value.int .i64 de,Value.int .i64 ageing,Value.slice pa ps.length cap]).toArray/\row W (C+1)=(u8v sec).toArray/\Below w.heap.size w W:=fun W hW=>⟨(aA hW (by omega)).trans rC4,(aA hW (by omega)).trans rT4,B4.trans (hW.mono (by omega))⟩
 have HRR:=h_ HR
 have HCC:=h_ hC
 have H2K:=h_ h2k
 have HHD:=h_ hd
 have HAA:=h_ ha
 have HPX:=h_ h
 have hB0E:B0<=u4.heap.size:=by omega
 (try rw[hC])
 clear HR rC4 rT4 rCu rTu hT hI0 hG0 hs0 hC hB0 hE bu bt hpx HN kC3 kT3 kC kT B4 Bu B3 h2k hd ha h hlow zlow z3 z2 zu zt hs
 go_wp2_with fail
 go_loopw [9] (fun i wr=>∃j:Nat,j<=acts.length/\i=.int .i64 j/\aNh B0 E N ps p A 20 u4 j wr) (fun i _=>acts.length - (intOf i).toNat)
 case atStart=>exact⟨0,by omega,rfl,h0⟩
 case round=>
  clear h0
  obtain⟨j,hj,rfl,⟨s,K,hK,hG⟩,hI,cb⟩:=hrel
  obtain⟨rC,rT,C0⟩:=HRR.out wr cb
  by_cases hlt:j<acts.length
  ·have hltI:(j:Int)<(acts.length:Int):=by omega
   obtain⟨ab,ao,rfl,hal,hrd⟩:=HAA.out.get hlt
   obtain⟨a,hax⟩:∃x,acts[j]=x:=⟨_,rfl⟩
   have ha2k:a.s.length<=2000:=by rw[<-hax];exact H2K.out _ (List.getElem_mem hlt)
   have had:a.d<256:=by rw[<-hax];exact HHD.out _ (List.getElem_mem hlt)
   rw[hax]at hrd
   obtain⟨o,ho⟩:∃o,ao+j*3=o:=⟨_,rfl⟩
   rw[ho]at hrd
   have HRD:=h_ hrd
   have c0:wr.cell? ⟨ab,o,none⟩=some (.int .u8 (a.d:Int)):=hrd wr C0 0 _ rfl
   have hmo:=aK9 a.d
   obtain⟨m,hm_⟩:∃x,a.d%4=x:=⟨_,rfl⟩
   have hml:m<4:=by rw[<-hm_];exact Nat.mod_lt _ (by decide)
   rw[hm_]at hmo
   have hmo4:(a.d:Int).tmod 4=(m:Int):=hmo
   have zab:ab<C:=by have:=HCC.out;omega
   have hKK:K+33<=33*(j+1):=by omega
   have hK9:K<=90000:=by omega
   clear hrd hax hmo hm_ hal hK
   have hle:=hG.le
   have HG:=h_ hG
   have HI:=h_ hI
   clear hG hI
   go_upto_if 48 with fail
   go_cut [10]from 36 to 174 (fun u wx=>aNv B0 E N ps p A 20 u4 (j+1) (decide (m=0)) u wx)
   case first=>
    by_cases hm0:m=0
    ·subst hm0
     rw[show((0:Nat):Int)=0 from rfl]at hmo4
     obtain⟨c0,c1,c2,c3,c4,c5,c6,c7,c8,c9,c10,c11,c12,c13,c14,c15,c16,c17,c18,c19,c20,c21,c22,c23,c24,c25,c26,c27,c28,c29,c30,c31,hsec⟩:=aHT sec
     rw[hsec]at rT
     have HSEC:=h_ hsec
     clear hsec
     obtain⟨w6,hw6⟩:∃x,wr.alloc (.cells #[c0,c1,c2,c3,c4,c5,c6,c7,c8,c9,c10,c11,c12,c13,c14,c15,c16,c17,c18,c19,c20,c21,c22,c23,c24,c25,c26,c27,c28,c29,c30,c31,c0,c1,c2,c3,c4,c5,c6,c7,c8,c9,c10,c11,c12,c13,c14,c15,c16,c17,c18,c19,c20,c21,c22,c23,c24,c25,c26,c27,c28,c29,c30,c31] 28)=x:=⟨_,rfl⟩
     have b6:Below wr.heap.size wr w6:=by rw[<-hw6];exact ba_
     have r6:row w6 wr.heap.size=(u8s sec.toList++u8s sec.toList).toArray:=by
      rw[<-hw6]
      refine(aE _ _ _ rfl).trans ?_
      show _=(u8v sec++u8v sec).toArray
      rw[HSEC.out]
      rfl
     have z6:=b6.size
     have HT:=h_ (aDv (HG.out.below (b6.mono hle)) hK9 (HI.out.kept fun k hk _=>b6.block k hk) sec.toList (by simp) wr.heap.size hle r6)
     clear r6
     go_wp2_with fail
     (try rw[hw6])
     (try clear hw6)
     (with_reducible refine HT.out.mono ?_)
     rintro e w7 ⟨⟨v,l,rfl,hown,h32,hgood⟩,hG7,hI7,d7⟩
     go_wp2_with fail
     go_meet
     obtain⟨oa,oc,rfl,hel⟩:=hown.elems
     rw[List.length_map]
     exact⟨l,oa,oc,rfl,hel,h32,by simpa using hgood,⟨hG7.choose,_,hKK,hG7.choose_spec⟩,hI7,cb.trans ((b6.mono (by have:=cb.size;omega)).trans d7)⟩
    ·have hm0I:((m:Int)==0)=false:=beq_eq_false_iff_ne.2 (by omega)
     obtain⟨t,ht⟩:=aHS a.s (by omega)
     have HTL:=h_ ht
     clear ht
     have hG:GrowP fun W=>B0<=W.heap.size/\(W.cell? ⟨ab,o+1,none⟩=some (.int .i64 a.port)/\ab<W.heap.size)/\(W.cell? ⟨ab,o+2,none⟩=some (.string ⟨a.s.toArray⟩)/\ab<W.heap.size):=GrowP.and (fun w w' h hb=>Nat.le_trans h hb.size) (GrowP.and (bK _ _ _) (bK _ _ _))
     have hX:∀W,Below B0 u4 W->B0<=W.heap.size/\(W.cell? ⟨ab,o+1,none⟩=some (.int .i64 a.port)/\ab<W.heap.size)/\(W.cell? ⟨ab,o+2,none⟩=some (.string ⟨a.s.toArray⟩)/\ab<W.heap.size):=fun W hW=>by
      have hC:=(HRR.out W hW).2.2
      have:=hW.size
      have:=hC.size
      have:=HCC.out
      exact⟨by omega,⟨HRD.out W hC 1 _ rfl,by omega⟩,HRD.out W hC 2 _ rfl,by omega⟩
     have HX:=h_ hX
     clear hX
     go_wp2_with fail
     refine nV [] (fun W=>B0<=W.heap.size/\(W.cell? ⟨ab,o+1,none⟩=some (.int .i64 a.port)/\ab<W.heap.size)/\(W.cell? ⟨ab,o+2,none⟩=some (.string ⟨a.s.toArray⟩)/\ab<W.heap.size)) hG (HX.out wr cb) (fun hS=>?_)
     refine sp 0 hG hS ?_
     refine sp 1 hG hS ?_
     refine sp 2 hG hS ?_
     refine sp 3 hG hS ?_
     refine sp 4 hG hS ?_
     refine sp 5 hG hS ?_
     refine sp 6 hG hS ?_
     refine sp 7 hG hS ?_
     refine sp 8 hG hS ?_
     refine sp 9 hG hS ?_
     refine sp 10 hG hS ?_
     refine fM 11 kr_ (fun u hu=>?_)
     refine wpOp_step rfl (fun K hK=>?_)
     go_simp
     have hu2:Below wr.heap.size wr u:=aL (Below.drew (Below.refl _ _)) hu
     have zu:=hu2.size
     (with_reducible refine(aCc (HG.out.below (hu2.mono hle)) (by omega) (HI.out.kept fun k hk _=>hu2.block k hk) lN a.port a.s).mono ?_)
     rintro e u2 ⟨⟨vf,rfl⟩,hGi,hIi,di⟩
     have cbi:Below B0 u4 u2:=cb.trans ((hu2.mono (by have:=cb.size;omega)).trans di)
     have hS:XS [] (fun W=>B0<=W.heap.size/\(W.cell? ⟨ab,o+1,none⟩=some (.int .i64 a.port)/\ab<W.heap.size)/\(W.cell? ⟨ab,o+2,none⟩=some (.string ⟨a.s.toArray⟩)/\ab<W.heap.size)) u2:=⟨trivial,HX.out u2 cbi⟩
     refine hK _ _ ⟨hS,?_⟩
     clear hK K
     (try simp only[Act.put,List.setIfInBounds_toArray,List.set_cons_zero,List.set_cons_succ])
     refine aG kr_ (fun y3 by3=>?_) _
     have zy3:=by3.size
     have hle3:E<=u2.heap.size:=hGi.le
     have HTR:=h_ (aFJ (hGi.below (by3.mono hle3)) hK9 a.s (by omega) (by
      rcases hIi with h1 | ⟨q,hq,b,h1,h2⟩
      ·exact .inl (h1.kept fun k hk _=>by3.block k hk)
      ·exact .inr ⟨q,hq,b,h1,h2.kept fun k hk _=>by3.block k hk⟩) t HTL.out)
     clear hS hGi hIi hu hu2 HX
     go_wp2_with fail
     (with_reducible refine HTR.out.mono ?_)
     rintro e w7 ⟨⟨v,l,rfl,hown,h32,hgood⟩,hG7,hI7,d7⟩
     go_wp2_with fail
     go_meet
     obtain⟨oa,oc,rfl,hel⟩:=hown.elems
     rw[List.length_map]
     exact⟨l,oa,oc,rfl,hel,h32,by simpa[hm0]using hgood,⟨hG7.choose,_,hKK,hG7.choose_spec⟩,hI7,(cbi.trans (by3.mono (by have:=cbi.size;omega))).trans d7⟩
   case rest=>
    obtain⟨l,oa,oc,rfl,hel,h32,hgood,hSI⟩:=hcut
    have hll:l.length<=32:=h32
    have hllI:(l.length:Int)<=32:=by omega
    obtain⟨⟨s7,K7,hK7,hG7⟩,hI7,cb7⟩:=hSI
    obtain⟨rC7,rT7,C7⟩:=HRR.out wc cb7
    have HG7:=h_ hG7
    have HI7:=h_ hI7
    have HGD:=h_ hgood
    have HEL:=h_ hel
    clear hG7 hI7 hgood hel h32
    go_wp2_with fail
    go_loopw [11] (fun i wq=>∃q:Nat,q<=l.length/\i=.int .i64 q/\Below wc.heap.size wc wq) (fun i _=>l.length - (intOf i).toNat)
    case atStart=>exact⟨0,by omega,rfl,Below.refl _ _⟩
    case round=>
     obtain⟨q,hq,rfl,c9⟩:=hrel
     have z9:=c9.size
     have cb9:Below B0 u4 wr:=cb7.trans (c9.mono (by have:=cb7.size;omega))
     obtain⟨rC9,rT9,C9⟩:=HRR.out wr cb9
     by_cases hql:q<l.length
     ·have hqI:(q:Int)<(l.length:Int):=by omega
      obtain⟨x,hx⟩:∃x,l[q]=x:=⟨_,rfl⟩
      obtain⟨px,g1,g2,g3⟩:=HGD.out x (hx▸List.getElem_mem hql)
      obtain⟨ob,oo,rfl,hob,hor⟩:=HEL.out.2 q (aNf x) (by rw[List.getElem?_map,List.getElem?_eq_getElem hql,hx];rfl)
      obtain⟨z,hz⟩:∃z,oo+q*3=z:=⟨_,rfl⟩
      rw[hz]at hor
      have e0:wr.cell? ⟨ob,z,none⟩=some (.int .i64 (x.1:Int)):=hor wr (gV c9 hob) 0 _ rfl
      have e1:wr.cell? ⟨ob,z+1,none⟩=some (.bool x.2.1):=hor wr (gV c9 hob) 1 _ rfl
      have e2:wr.cell? ⟨ob,z+2,none⟩=some (.string ⟨x.2.2.toArray⟩):=hor wr (gV c9 hob) 2 _ rfl
      have hxl:x.1<ps.length:=(List.getElem?_eq_some_iff.1 g1).1
      have hxp:ps[x.1]=px:=(List.getElem?_eq_some_iff.1 g1).2
      obtain⟨pb,po,ta,tc,rfl,hpb,hrp⟩:=HPX.out.get hxl
      obtain⟨y,hy⟩:∃y,po+x.1*39=y:=⟨_,rfl⟩
      have f4:wr.cell? ⟨pb,y+4,none⟩=some (.bool px.link):=by rw[<-hy,<-hxp];exact(hrp wr (BelowS.of C9)).1 4 _ rfl
      have f6:wr.cell? ⟨pb,y+6,none⟩=some (.bool px.greets):=by rw[<-hy,<-hxp];exact(hrp wr (BelowS.of C9)).1 6 _ rfl
      have hx0:((x.1:Int)<0)=False:=eq_false (by omega)
      have hx1:((ps.length:Int)<=(x.1:Int))=False:=eq_false (by omega)
      have hx3:(ps.length<=x.1)=False:=eq_false (by omega)
      have hx2:(x.1:Int)<(ps.length:Int):=by omega
      clear hor hrp hx hxp g1
      obtain⟨x1,lk,xs⟩:=x
      dsimp only at e0 e1 e2 hx0 hx1 hx2 hx3 g2 g3 hy hxl
      rw[g2]at f4
      have hob9:ob<wr.heap.size:=Nat.lt_of_lt_of_le hob z9
      have hpb9:pb<wr.heap.size:=Nat.lt_of_lt_of_le hpb C9.size
      have hab9:ab<wr.heap.size:=by have:=C9.size;have:=HCC.out;omega
      have hC9:C<wr.heap.size:=by have:=C9.size;have:=cb9.size;omega
      have ca9:wr.cell? ⟨ab,o,none⟩=some (.int .u8 (a.d:Int)):=HRD.out wr C9 0 _ rfl
      have hB:GrowP fun W=>Below wr.heap.size wr W:=d6 wr
      cases lk with
      | false=>
       as_aux_lemma=>
       have hG:GrowP fun W=>Below wr.heap.size wr W/\(W.cell? ⟨ob,z+1,none⟩=some (.bool false)/\ob<W.heap.size)/\(W.cell? ⟨pb,y+4,none⟩=some (.bool false)/\pb<W.heap.size):=GrowP.and hB (GrowP.and (bK _ _ _) (bK _ _ _))
       clear g3 e2 hB
       go_wp2_with fail
       refine nV [(C,(u8v id++[Value.int .i64 ma,Value.int .i64 he,Value.int .i64 de,Value.int .i64 ageing,Value.slice (some ⟨pb,po,none⟩) ps.length cap]).toArray)] (_) hG (⟨Below.refl _ _,⟨e1,hob9⟩,f4,hpb9⟩) (fun hS=>?_)
       refine sp 0 hG hS ?_
       refine sp 1 hG hS ?_
       refine sp 2 hG hS ?_
       refine sp 3 hG hS ?_
       refine sp 4 hG hS ?_
       refine sp 5 hG hS ?_
       refine sp 6 hG hS ?_
       refine sp 7 hG hS ?_
       refine sp 8 hG hS ?_
       refine sp 9 hG hS ?_
       refine sp 10 hG hS ?_
       refine sp 11 hG hS ?_
       refine sp 12 hG hS ?_
       refine sp 13 hG hS ?_
       refine sp 14 hG hS ?_
       refine sp 15 hG hS ?_
       refine sp 16 hG hS ?_
       refine sp 17 hG hS ?_
       refine sp 18 hG hS ?_
       refine sp 19 hG hS ?_
       refine sp 20 hG hS ?_
       refine sp 21 hG hS ?_
       refine sp 22 hG hS ?_
       refine sp 23 hG hS ?_
       refine sp 24 hG hS ?_
       refine sp 25 hG hS ?_
       refine sp 26 hG hS ?_
       refine sp 27 hG hS ?_
       refine sp 28 hG hS ?_
       refine sp 29 hG hS ?_
       refine sn 30 hG hS ?_
       refine sn 31 hG hS ?_
       refine sn 32 hG hS ?_
       refine sn 33 hG hS ?_
       refine sn 34 hG hS ?_
       refine sn 35 hG hS ?_
       refine sn 36 hG hS ?_
       refine sn 37 hG hS ?_
       refine sn 38 hG hS ?_
       refine sn 39 hG hS ?_
       refine sn 40 hG hS ?_
       refine sn 41 hG hS ?_
       refine sn 42 hG hS ?_
       refine sn 43 hG hS ?_
       refine sn 44 hG hS ?_
       refine sn 45 hG hS ?_
       refine sn 46 hG hS ?_
       refine sn 47 hG hS ?_
       refine sn 48 hG hS ?_
       refine sn 49 hG hS ?_
       refine sn 50 hG hS ?_
       refine sn 51 hG hS ?_
       refine sn 52 hG hS ?_
       refine sn 53 hG hS ?_
       refine sn 54 hG hS ?_
       refine sn 55 hG hS ?_
       refine sn 56 hG hS ?_
       refine sn 57 hG hS ?_
       refine sn 58 hG hS ?_
       refine sn 59 hG hS ?_
       refine sn 60 hG hS ?_
       refine sn 61 hG hS ?_
       refine sn 62 hG hS ?_
       refine sn 63 hG hS ?_
       refine sp 64 hG hS ?_
       refine sp 65 hG hS ?_
       refine aG kr_ (fun y2 by2=>?_) _
       have B2:=(hG _ _ hS.2 by2).1
       go_wp2_with fail
       go_roundw
       case rel=>exact⟨q+1,by omega,by simp,c9.trans (B2.mono z9)⟩
       case measure=>simp[intOf];omega
      | true=>
       as_aux_lemma=>
       obtain⟨gm,g4,sx,rfl,g6⟩:=g3 rfl
       rw[show m=0 from of_decide_eq_true gm,show((0:Nat):Int)=0 from rfl]at hmo4
       rw[g4]at f6
       clear g3
       have hG:GrowP fun W=>Below wr.heap.size wr W/\(W.cell? ⟨ob,z+1,none⟩=some (.bool true)/\ob<W.heap.size)/\(W.cell? ⟨ob,z+2,none⟩=some (.string ⟨(1::sx).toArray⟩)/\ob<W.heap.size)/\(W.cell? ⟨pb,y+4,none⟩=some (.bool true)/\pb<W.heap.size)/\(W.cell? ⟨pb,y+6,none⟩=some (.bool true)/\pb<W.heap.size)/\(W.cell? ⟨ab,o,none⟩=some (.int .u8 (a.d:Int))/\ab<W.heap.size):=GrowP.and hB (GrowP.and (bK _ _ _) (GrowP.and (bK _ _ _) (GrowP.and (bK _ _ _) (GrowP.and (bK _ _ _) (bK _ _ _)))))
       clear hB
       go_wp2_with fail
       refine nV [(C,(u8v id++[Value.int .i64 ma,Value.int .i64 he,Value.int .i64 de,Value.int .i64 ageing,Value.slice (some ⟨pb,po,none⟩) ps.length cap]).toArray)] (_) hG (⟨Below.refl _ _,⟨e1,hob9⟩,⟨e2,hob9⟩,⟨f4,hpb9⟩,⟨f6,hpb9⟩,ca9,hab9⟩) (fun hS=>?_)
       refine sp 0 hG hS ?_
       refine sp 1 hG hS ?_
       refine sp 2 hG hS ?_
       refine sp 3 hG hS ?_
       refine sp 4 hG hS ?_
       refine sp 5 hG hS ?_
       refine sp 6 hG hS ?_
       refine sp 7 hG hS ?_
       refine sp 8 hG hS ?_
       refine sp 9 hG hS ?_
       refine sp 10 hG hS ?_
       refine sp 11 hG hS ?_
       refine sp 12 hG hS ?_
       refine sp 13 hG hS ?_
       refine sp 14 hG hS ?_
       refine sp 15 hG hS ?_
       refine sp 16 hG hS ?_
       refine sp 17 hG hS ?_
       refine sp 18 hG hS ?_
       refine sp 19 hG hS ?_
       refine sp 20 hG hS ?_
       refine sp 21 hG hS ?_
       refine sp 22 hG hS ?_
       refine sp 23 hG hS ?_
       refine sp 24 hG hS ?_
       refine sp 25 hG hS ?_
       refine sp 26 hG hS ?_
       refine sp 27 hG hS ?_
       refine sp 28 hG hS ?_
       refine sp 29 hG hS ?_
       refine sp 30 hG hS ?_
       refine sp 31 hG hS ?_
       refine sp 32 hG hS ?_
       refine sp 33 hG hS ?_
       refine sp 34 hG hS ?_
       refine sp 35 hG hS ?_
       refine sp 36 hG hS ?_
       refine sp 37 hG hS ?_
       refine sp 38 hG hS ?_
       refine sp 39 hG hS ?_
       refine sp 40 hG hS ?_
       refine sp 41 hG hS ?_
       refine sp 42 hG hS ?_
       refine sp 43 hG hS ?_
       refine sp 44 hG hS ?_
       refine sp 45 hG hS ?_
       refine sp 46 hG hS ?_
       refine sp 47 hG hS ?_
       refine sp 48 hG hS ?_
       refine sp 49 hG hS ?_
       refine sp 50 hG hS ?_
       refine sp 51 hG hS ?_
       refine sp 52 hG hS ?_
       refine sp 53 hG hS ?_
       refine sp 54 hG hS ?_
       refine sp 55 hG hS ?_
       refine sp 56 hG hS ?_
       refine sp 57 hG hS ?_
       refine sp 58 hG hS ?_
       refine sp 59 hG hS ?_
       refine sp 60 hG hS ?_
       refine sp 61 hG hS ?_
       refine sp 62 hG hS ?_
       refine sp 63 hG hS ?_
       refine sp 64 hG hS ?_
       refine sp 65 hG hS ?_
       refine aG kr_ (fun y2 by2=>?_) _
       have B2:=(hG _ _ hS.2 by2).1
       go_wp2_with fail
       go_roundw
       case rel=>exact⟨q+1,by omega,by simp,c9.trans (B2.mono z9)⟩
       case measure=>simp[intOf];omega
     ·obtain rfl:q=l.length:=by omega
      have hqI:¬(l.length:Int)<(l.length:Int):=by omega
      go_wp2_with fail
      go_loopw [13] (fun i wq=>∃q:Nat,q<=ps.length/\i=.int .i64 q/\Below wc.heap.size wc wq) (fun i _=>ps.length - (intOf i).toNat)
      case atStart=>exact⟨0,by omega,rfl,c9⟩
      case round=>
       obtain⟨q,hq,rfl,c8⟩:=hrel
       have z8:=c8.size
       have cb8:Below B0 u4 wr:=cb7.trans (c8.mono (by have:=cb7.size;omega))
       obtain⟨rC8,rT8,C8⟩:=HRR.out wr cb8
       by_cases hql:q<ps.length
       ·have hqI:(q:Int)<(ps.length:Int):=by omega
        obtain⟨e,he1,he2⟩:=HG7.out.ends q ps[q] (List.getElem?_eq_getElem hql)
        have hqe:q<p.es.length:=by have:=HG7.out.pe;omega
        have hq8:=(HG7.out.below (c8.mono HG7.out.le)).q
        have hUp:=fun(W:World) (hW:Below wr.heap.size wr W)=>(hq8.below hW).up q hqe
        have hSt:=fun(W:World) (hW:Below wr.heap.size wr W)=>(hq8.below hW).state q hqe
        rw[List.getElem?_eq_getElem hqe,Option.some.injEq]at he1
        obtain⟨lk,hlk⟩:∃b,ps[q].link=b:=⟨_,rfl⟩
        have he:e.isSome=lk:=by
         rcases he2 with ⟨h1,rfl⟩ | ⟨h1,b,_,_,_,_,rfl,_⟩
         ·rw[h1]at hlk;exact hlk
         ·rw[h1]at hlk;exact hlk
        simp only[he1,he]at hUp hSt
        obtain⟨pb,po,ta,tc,rfl,hpb,hrp⟩:=HPX.out.get hql
        obtain⟨y,hy⟩:∃y,po+q*39=y:=⟨_,rfl⟩
        have f4:wr.cell? ⟨pb,y+4,none⟩=some (.bool lk):=by rw[<-hy,<-hlk];exact(hrp wr (BelowS.of C8)).1 4 _ rfl
        have hpb8:pb<wr.heap.size:=Nat.lt_of_lt_of_le hpb C8.size
        have hC8:C<wr.heap.size:=by have:=C8.size;have:=cb8.size;omega
        have hG:GrowP fun W=>Below wr.heap.size wr W/\(W.cell? ⟨pb,y+4,none⟩=some (.bool lk)/\pb<W.heap.size):=GrowP.and (d6 wr) (bK _ _ _)
        have HUP:=h_ hUp
        have HST:=h_ hSt
        clear hUp hSt hrp he he2 he1 hq8 hlk
        cases lk with
        | false=>
         as_aux_lemma=>
         simp only[Bool.not_true,Bool.not_false,Bool.false_eq_true,if_false,if_true]at HUP HST
         go_wp2_with fail
         refine nV [(C,(u8v id++[Value.int .i64 ma,Value.int .i64 he,Value.int .i64 de,Value.int .i64 ageing,Value.slice (some ⟨pb,po,none⟩) ps.length cap]).toArray)] (_) hG (⟨Below.refl _ _,f4,hpb8⟩) (fun hS=>?_)
         refine sp 0 hG hS ?_
         refine sp 1 hG hS ?_
         refine sp 3 hG hS ?_
         refine sp 4 hG hS ?_
         refine sp 5 hG hS ?_
         refine sp 6 hG hS ?_
         refine sp 7 hG hS ?_
         refine sp 8 hG hS ?_
         refine sc 2 (v:=?_) hG hS ?_ ?_
         rotate_left
         ·intro w' hS'
          obtain⟨hS',hX'⟩:=hS'
          simp only[Rws]at hS'
          go_simp
          with_reducible refine(HUP.out _ hX'.1).mono ?_
          rintro e w'' ⟨rfl,hb⟩
          exact⟨_,rfl,by rfl,hb⟩
         refine sp 9 hG hS ?_
         refine sp 10 hG hS ?_
         refine sp 11 hG hS ?_
         refine sp 12 hG hS ?_
         refine sp 15 hG hS ?_
         refine sp 16 hG hS ?_
         refine sp 17 hG hS ?_
         refine sp 18 hG hS ?_
         refine sp 19 hG hS ?_
         refine sp 20 hG hS ?_
         refine sc 13 (v:=?_) hG hS ?_ ?_
         rotate_left
         ·intro w' hS'
          obtain⟨hS',hX'⟩:=hS'
          simp only[Rws]at hS'
          go_simp
          with_reducible refine(HST.out _ hX'.1).mono ?_
          rintro e w'' ⟨rfl,hb⟩
          exact⟨_,rfl,by rfl,hb⟩
         refine sp 14 hG hS ?_
         refine sp 21 hG hS ?_
         refine sp 22 hG hS ?_
         refine aG kr_ (fun y2 by2=>?_) _
         have B2:=(hG _ _ hS.2 by2).1
         go_wp2_with fail
         go_roundw
         case rel=>exact⟨q+1,by omega,by simp,c8.trans (B2.mono z8)⟩
         case measure=>simp[intOf];omega
        | true=>
         as_aux_lemma=>
         simp only[Bool.not_true,Bool.not_false,Bool.false_eq_true,if_false,if_true]at HUP HST
         go_wp2_with fail
         refine nV [(C,(u8v id++[Value.int .i64 ma,Value.int .i64 he,Value.int .i64 de,Value.int .i64 ageing,Value.slice (some ⟨pb,po,none⟩) ps.length cap]).toArray)] (_) hG (⟨Below.refl _ _,f4,hpb8⟩) (fun hS=>?_)
         refine sp 0 hG hS ?_
         refine sp 1 hG hS ?_
         refine sp 3 hG hS ?_
         refine sp 4 hG hS ?_
         refine sp 5 hG hS ?_
         refine sp 6 hG hS ?_
         refine sp 7 hG hS ?_
         refine sp 8 hG hS ?_
         refine sc 2 (v:=?_) hG hS ?_ ?_
         rotate_left
         ·intro w' hS'
          obtain⟨hS',hX'⟩:=hS'
          simp only[Rws]at hS'
          go_simp
          with_reducible refine(HUP.out _ hX'.1).mono ?_
          rintro e w'' ⟨rfl,hb⟩
          exact⟨_,rfl,by rfl,hb⟩
         refine sp 9 hG hS ?_
         refine sp 10 hG hS ?_
         refine sp 11 hG hS ?_
         refine sp 12 hG hS ?_
         refine sp 15 hG hS ?_
         refine sp 16 hG hS ?_
         refine sp 17 hG hS ?_
         refine sp 18 hG hS ?_
         refine sp 19 hG hS ?_
         refine sp 20 hG hS ?_
         refine sc 13 (v:=?_) hG hS ?_ ?_
         rotate_left
         ·intro w' hS'
          obtain⟨hS',hX'⟩:=hS'
          simp only[Rws]at hS'
          go_simp
          with_reducible refine(HST.out _ hX'.1).mono ?_
          rintro e w'' ⟨rfl,hb⟩
          exact⟨_,rfl,by rfl,hb⟩
         refine sp 14 hG hS ?_
         refine sp 21 hG hS ?_
         refine sp 22 hG hS ?_
         refine aG kr_ (fun y2 by2=>?_) _
         have B2:=(hG _ _ hS.2 by2).1
         go_wp2_with fail
         go_roundw
         case rel=>exact⟨q+1,by omega,by simp,c8.trans (B2.mono z8)⟩
         case measure=>simp[intOf];omega
       ·obtain rfl:q=ps.length:=by omega
        have hqI:¬(ps.length:Int)<(ps.length:Int):=by omega
        go_wp2_with fail
        go_roundw
        case rel=>exact⟨j+1,by omega,by simp,⟨s7,K7,hK7,HG7.out.below (c8.mono HG7.out.le)⟩,HI7.out.kept fun k hk _=>c8.block k hk,cb8⟩
        case measure=>simp[intOf];omega
  ·obtain rfl:j=acts.length:=by omega
   have hltI:¬(acts.length:Int)<(acts.length:Int):=by omega
   go_wp2_with fail
   go_ret
   exact⟨rfl,C0⟩
end
end
end Go.Proofs.YtiagbbknkdgmeaaGreat
