/- Texts of this proof, merged: OfC, RefC. -/
import Derived.Test.YtiagbbknkdgmeaaGreatJ25
import Derived.Test.YtiagbbknkdgmeaaGreatJ39
import Derived.Test.YtiagbbknkdgmeaaGreatJ24
import Derived.Test.YtiagbbknkdgmeaaGreatJ7
set_option linter.unusedSimpArgs false
set_option linter.unusedVariables false
set_option maxHeartbeats 8000000
set_option maxRecDepth 20000
namespace Go.Proofs.YtiagbbknkdgmeaaGreat
section
open Go.RowKit Go.Shelf
theorem aHQ:(Tryz.prog.info? 66).map (fun i=>(i.zero.map (·.cells.size),i.size,i.bytes))=some (some 39,39,104):=by kernel_rfl
theorem aJw {W:World} {b o:Nat} {ta:Option Addr} {cap:Nat} {x:PortX} (h:W.rangeAt b o (dW ta cap x)):(mC 57 (.pointer (some ⟨b,o,none⟩))).run Tryz.prog W=.ok (.agg (dW ta cap x).toArray) W:=cI h (by simp[dW])
def aK7 (ps:List PortX):Bool:=decide (ps.length<=50)&&ps.all fun x=>decide (x.p.tagged.length<=100)
def PXOwn (w0 w:World) (B:Nat) (pa:Option Addr) (cap:Nat) (ps:List PortX):Prop:=
 ∃prow:List (List Value),OwnL w B 66 39 (.slice pa ps.length cap) prow/\∀(q:Nat) (x:PortX),ps[q]? =some x->∃ta tc,prow[q]? =some (dW ta tc x)/\ElemsOff [] w0 ta 1 (x.p.tagged.map fun v=>[Value.int .i64 v])
theorem PXOwn.px {w0 w:World} {B:Nat} {pa:Option Addr} {cap:Nat} {ps:List PortX} (h:PXOwn w0 w B pa cap ps) (hb:Below w0.heap.size w0 w) (hn:ps.length<=1000):PXOff [] w pa ps:=by
 obtain⟨prow,ho,hr⟩:=h
 obtain⟨a',c',e,he⟩:=ho.off [] (fun s hs=>by cases hs)
 simp only[Value.slice.injEq]at e
 obtain⟨rfl,_,rfl⟩:=e
 refine⟨by unfold maxLen;omega,fun q r hq=>?_⟩
 obtain⟨ta,tc,e1,e2⟩:=hr q r hq
 obtain⟨b,off,e3,hb2,hn2,hra⟩:=he.2 q _ e1
 exact⟨b,off,ta,tc,e3,hb2,hn2,hra,e2.below hb⟩
theorem aJx (id:Vector UInt8 8) (ma he de ageing:Int) (pa:Option Addr) (cap:Nat) (ps:List PortX) (wA w:World) (hA:Below wA.heap.size wA w) (h:PXOff [] wA pa ps) (hn:ps.length<=1000):
  Calls Tryz.prog 8 #[.agg (hZ id ma he de ageing pa ps.length cap).toArray] w fun e w'=>(∃pa' cap',e=.returned (.agg (hZ id ma he de ageing pa' ps.length cap').toArray)/\PXOwn wA w' w.heap.size pa' cap' ps)/\Below w.heap.size w w':=by
 have hnI:(ps.length:Int)<=1000:=by omega
 unfold hZ
 go_enter Tryz.func8,Tryz.ntmps8
 obtain⟨w1,hw1⟩:∃x,w.alloc (.cells (u8v id++[Value.int .i64 ma,Value.int .i64 he,Value.int .i64 de,Value.int .i64 ageing,Value.slice pa ps.length cap]).toArray 25)=x:=⟨_,rfl⟩
 have b1:Below w.heap.size w w1:=by rw[<-hw1];exact ba_
 have z1:w1.heap.size=w.heap.size+1:=by rw[<-hw1,aF]
 have rC1:row w1 w.heap.size=(u8v id++[Value.int .i64 ma,Value.int .i64 he,Value.int .i64 de,Value.int .i64 ageing,Value.slice pa ps.length cap]).toArray:=by rw[<-hw1];exact aE _ _ _ rfl
 have hz:(aH 1 (Value.int .i64 0)).tail=[]:=rfl
 have hz2:(aH 1 (Value.int .i64 0)++[Value.slice none 0 0]).tail=[Value.slice none 0 0]:=rfl
 go_wp2_with fail
 obtain⟨w3,hw3⟩:∃x,(w1.alloc (.cells (aH 8 (Value.int .u8 0)++(aH 4 (Value.int .i64 0)++[Value.slice none 0 0])).toArray 41)).alloc (.cells (u8v id++[Value.int .i64 ma,Value.int .i64 he,Value.int .i64 de,Value.int .i64 ageing,Value.slice none 0 0]).toArray 41)=x:=⟨_,rfl⟩
 have b3:Below w1.heap.size w1 w3:=by rw[<-hw3];exact Below.alloc (ba_) (by simp) _
 have z3:w3.heap.size=w.heap.size+3:=by rw[<-hw3,aF,aF,z1]
 have rR3:row w3 (w.heap.size+1)=(aH 8 (Value.int .u8 0)++(aH 4 (Value.int .i64 0)++[Value.slice none 0 0])).toArray:=by rw[<-hw3];simp[go_sem,z1]
 have rX3:row w3 (w.heap.size+1+1)=(u8v id++[Value.int .i64 ma,Value.int .i64 he,Value.int .i64 de,Value.int .i64 ageing,Value.slice none 0 0]).toArray:=by rw[<-hw3];simp[go_sem,z1]
 have rC3:=(aA b3 (by omega)).trans rC1
 have B3:Below w.heap.size w w3:=b1.trans (b3.mono (by omega))
 rw[hw3]
 (try clear hw1)
 have q0:w.heap.size+1+1<w3.heap.size:=by omega
 clear hw3 rC1 b1 b3 hz hz2 z1 z3
 go_loopw [4] (fun i wr=>∃(k:Nat) (ppa:Option Addr) (ppc:Nat) (rows:List (List Value)),k<=ps.length/\i=.int .i64 k/\rows.length=k/\OwnL wr w3.heap.size 66 39 (.slice ppa k ppc) rows/\
  (∀(q:Nat) (r:PortX),q<k->ps[q]? =some r->∃ta tc,rows[q]? =some (dW ta tc r)/\ElemsOff [] wA ta 1 (r.p.tagged.map fun v=>[Value.int .i64 v]))/\row wr (w.heap.size+1+1)=(u8v id++[Value.int .i64 ma,Value.int .i64 he,Value.int .i64 de,Value.int .i64 ageing,Value.slice ppa k ppc]).toArray/\BelowBut w3.heap.size (w.heap.size+1+1) w3 wr) (fun i _=>ps.length - (intOf i).toNat)
 case atStart=>exact⟨0,none,0,[],by omega,rfl,rfl,OwnL.nil _ _ _ _,(fun q r hq _=>by omega),rX3,BelowBut.of (Below.refl _ _)⟩
 case round=>
  obtain⟨k,ppa,ppc,rows,hk,rfl,hrl,hown,hrows,rX,cb⟩:=hrel
  have zb:=cb.size
  have rC:=(cb.row (show w.heap.size<w3.heap.size by omega) (by omega)).trans rC3
  have rR:=(cb.row (show w.heap.size+1<w3.heap.size by omega) (by omega)).trans rR3
  have cbw:Below w.heap.size w wr:=B3.trans ((cb.mono (show w.heap.size<=w3.heap.size by omega)).below (by omega))
  by_cases hlt:k<ps.length
  ·have hltI:(k:Int)<(ps.length:Int):=by omega
   obtain⟨pb,po,ta,tc,rfl,hpb,hrd⟩:=h.get hlt
   obtain⟨x,hx⟩:∃x,ps[k]=x:=⟨_,rfl⟩
   rw[hx]at hrd
   have hld:=aJw (hrd wr (BelowS.of (hA.trans (cbw.mono hA.size)))).1
   have hit:=(hrd wA (BelowS.of (Below.refl _ _))).2
   obtain⟨o,ho⟩:∃o,po+k*39=o:=⟨_,rfl⟩
   rw[ho]at hld
   have HIT:=h_ hit
   have HX:=h_ hx
   have HRW:=h_ hrows
   have HOW:=h_ hown
   clear hrd hit hx hrows hown
   unfold dW at hld
   obtain⟨w4,hw4⟩:∃y,wr.alloc (.cells (Value.int .i64 x.p.native::Value.slice ta x.p.tagged.length tc::Value.int .i64 x.p.hor::Value.int .i64 x.p.lim::Value.bool x.link::Value.int .i64 x.rate::Value.bool x.greets::u8v x.psk).toArray 57)=y:=⟨_,rfl⟩
   have b4:Below wr.heap.size wr w4:=by rw[<-hw4];exact ba_
   have z4:w4.heap.size=wr.heap.size+1:=by rw[<-hw4,aF]
   have r4:row w4 wr.heap.size=(Value.int .i64 x.p.native::Value.slice ta x.p.tagged.length tc::Value.int .i64 x.p.hor::Value.int .i64 x.p.lim::Value.bool x.link::Value.int .i64 x.rate::Value.bool x.greets::u8v x.psk).toArray:=by rw[<-hw4];exact aE _ _ _ rfl
   have rX4:=(aA b4 (show w.heap.size+1+1<wr.heap.size by omega)).trans rX
   have own4:=HOW.out.below b4
   have HO4:=h_ own4
   have hle10:rows.length<=10000:=by omega
   have HL:=h_ hle10
   have k34:w3.heap.size<=w4.heap.size:=by omega
   have HZ4:=h_ z4
   clear own4 hle10 z4
   have hf:List.foldl (fun(cs:Array Value) (y:Value×Nat)=>cs.setIfInBounds y.2 y.1) #[Value.int .i64 x.p.native,Value.slice ta x.p.tagged.length tc,Value.int .i64 x.p.hor,Value.int .i64 x.p.lim,Value.bool x.link,Value.int .i64 x.rate,Value.bool x.greets,Value.int .u8 0,Value.int .u8 0,Value.int .u8 0,Value.int .u8 0,Value.int .u8 0,Value.int .u8 0,Value.int .u8 0,Value.int .u8 0,Value.int .u8 0,Value.int .u8 0,Value.int .u8 0,Value.int .u8 0,Value.int .u8 0,Value.int .u8 0,Value.int .u8 0,Value.int .u8 0,Value.int .u8 0,Value.int .u8 0,Value.int .u8 0,Value.int .u8 0,Value.int .u8 0,Value.int .u8 0,Value.int .u8 0,Value.int .u8 0,Value.int .u8 0,Value.int .u8 0,Value.int .u8 0,Value.int .u8 0,Value.int .u8 0,Value.int .u8 0,Value.int .u8 0,Value.int .u8 0] ((u8v x.psk).zipIdx 7)=(Value.int .i64 x.p.native::Value.slice ta x.p.tagged.length tc::Value.int .i64 x.p.hor::Value.int .i64 x.p.lim::Value.bool x.link::Value.int .i64 x.rate::Value.bool x.greets::u8v x.psk).toArray:=aGa (u8v x.psk) [Value.int .i64 x.p.native,Value.slice ta x.p.tagged.length tc,Value.int .i64 x.p.hor,Value.int .i64 x.p.lim,Value.bool x.link,Value.int .i64 x.rate,Value.bool x.greets] [Value.int .u8 0,Value.int .u8 0,Value.int .u8 0,Value.int .u8 0,Value.int .u8 0,Value.int .u8 0,Value.int .u8 0,Value.int .u8 0,Value.int .u8 0,Value.int .u8 0,Value.int .u8 0,Value.int .u8 0,Value.int .u8 0,Value.int .u8 0,Value.int .u8 0,Value.int .u8 0,Value.int .u8 0,Value.int .u8 0,Value.int .u8 0,Value.int .u8 0,Value.int .u8 0,Value.int .u8 0,Value.int .u8 0,Value.int .u8 0,Value.int .u8 0,Value.int .u8 0,Value.int .u8 0,Value.int .u8 0,Value.int .u8 0,Value.int .u8 0,Value.int .u8 0,Value.int .u8 0] (by simp)
   have hx39:(Value.int .i64 x.p.native::Value.slice ta x.p.tagged.length tc::Value.int .i64 x.p.hor::Value.int .i64 x.p.lim::Value.bool x.link::Value.int .i64 x.rate::Value.bool x.greets::u8v x.psk).length=39:=by simp
   have hx1:eC (Value.int .i64 x.p.native::Value.slice ta x.p.tagged.length tc::Value.int .i64 x.p.hor::Value.int .i64 x.p.lim::Value.bool x.link::Value.int .i64 x.rate::Value.bool x.greets::u8v x.psk)=true:=by simp
   have HX39:=h_ hx39
   have HX1:=h_ hx1
   clear hx39 hx1
   go_wp2_with (at_builtin;(refine dM rfl rfl Tryz.underlying39 aHQ (by decide) (by decide) w3.heap.size _ _ rfl HO4.out (Value.int .i64 x.p.native::Value.slice ta x.p.tagged.length tc::Value.int .i64 x.p.hor::Value.int .i64 x.p.lim::Value.bool x.link::Value.int .i64 x.rate::Value.bool x.greets::u8v x.psk) rfl HX39.out HX1.out HL.out k34 ?_))
   intro v5 w5 hown5 b5 hk5
   obtain⟨ppa5,ppc5,hv5,_⟩:=hown5.elems
   simp only[List.length_append,List.length_singleton,hrl]at hv5
   subst hv5
   have z5:w4.heap.size<=w5.heap.size:=b5.size
   have rX5:=(jE HO4.out (show w.heap.size+1+1<w4.heap.size by omega) (show w.heap.size+1+1<w3.heap.size by omega) hk5).trans rX4
   obtain⟨w6,hw6⟩:∃y,w5.setRow (w.heap.size+1+1) (u8v id++[Value.int .i64 ma,Value.int .i64 he,Value.int .i64 de,Value.int .i64 ageing,Value.slice ppa5 (k+1) ppc5]).toArray=y:=⟨_,rfl⟩
   have rX6:row w6 (w.heap.size+1+1)=(u8v id++[Value.int .i64 ma,Value.int .i64 he,Value.int .i64 de,Value.int .i64 ageing,Value.slice ppa5 (k+1) ppc5]).toArray:=by rw[<-hw6];exact aB (by rw[rX5];simp) (by rw[rX5];simp)
   have hk6:∀X,w3.heap.size<=X->w6.heap[X]? =w5.heap[X]? :=fun X hX=>by rw[<-hw6];exact aO _ _ _ (by omega)
   have cb6:BelowBut w3.heap.size (w.heap.size+1+1) w3 w6:=by rw[<-hw6];exact((cb.trans ((BelowBut.of b4).mono (by omega))).trans (BelowBut.of b5)).trans (BelowBut.set _ _)
   have HO6:=h_ (hown5.keep fun X hX=>hk6 X (hown5.blk hX).1)
   have hrows6:∀(q:Nat) (r:PortX),q<k+1->ps[q]? =some r->∃ta' tc',(rows++[(Value.int .i64 x.p.native::Value.slice ta x.p.tagged.length tc::Value.int .i64 x.p.hor::Value.int .i64 x.p.lim::Value.bool x.link::Value.int .i64 x.rate::Value.bool x.greets::u8v x.psk)])[q]? =some (dW ta' tc' r)/\ElemsOff [] wA ta' 1 (r.p.tagged.map fun v=>[Value.int .i64 v]):=by
    intro q r hq hr
    by_cases hqk:q<k
    ·obtain⟨ta',tc',e1,e2⟩:=HRW.out q r hqk hr
     exact⟨ta',tc',by rw[List.getElem?_append_left (by omega)];exact e1,e2⟩
    ·have hqe:q=k:=by omega
     subst hqe
     rw[List.getElem?_eq_getElem hlt,HX.out]at hr
     cases hr
     exact⟨ta,tc,by rw[List.getElem?_append_right (by omega),hrl,Nat.sub_self];rfl,HIT.out⟩
   have HRW6:=h_ hrows6
   clear hrows6 hown5 hk5 hk6 HRW HO4 HOW b4 b5 rX4 rX r4 hld
   go_wp2_with fail
   (try rw[hw6])
   (try clear hw6)
   go_roundw
   case rel=>exact⟨k+1,ppa5,ppc5,_,by omega,by simp,by simp[hrl],HO6.out,HRW6.out,rX6,cb6⟩
   case measure=>simp[intOf];omega
  ·obtain rfl:k=ps.length:=by omega
   have hltI:¬(ps.length:Int)<(ps.length:Int):=by omega
   have HOW:=h_ hown
   have HRW:=h_ hrows
   have hC1:eC (u8v id++[Value.int .i64 ma,Value.int .i64 he,Value.int .i64 de,Value.int .i64 ageing,Value.slice ppa ps.length ppc])=true:=by simp
   clear hown hrows
   obtain⟨w7,hw7⟩:∃y,wr.setRow (w.heap.size+1) (u8v id++[Value.int .i64 ma,Value.int .i64 he,Value.int .i64 de,Value.int .i64 ageing,Value.slice ppa ps.length ppc]).toArray=y:=⟨_,rfl⟩
   have rR7:row w7 (w.heap.size+1)=(u8v id++[Value.int .i64 ma,Value.int .i64 he,Value.int .i64 de,Value.int .i64 ageing,Value.slice ppa ps.length ppc]).toArray:=by rw[<-hw7];exact aB (by rw[rR];simp) (by rw[rR];simp)
   have B7:Below w.heap.size w w7:=by rw[<-hw7];exact Below.setRow cbw (by omega) _
   have hk7:∀X,w3.heap.size<=X->w7.heap[X]? =wr.heap[X]? :=fun X hX=>by rw[<-hw7];exact aO _ _ _ (by omega)
   have HO7:=h_ (HOW.out.keep fun X hX=>hk7 X (HOW.out.blk hX).1)
   clear hk7
   go_wp2_with fail
   (try rw[hw7])
   (try clear hw7)
   (try simp only[Exit.inBlock,Exit.then])
   refine bodyPost_ret (aV rfl (aK rfl ?_)) rfl ?_
   ·rw[rR7];simp
   exact⟨⟨ppa,ppc,by rw[rR7],_,HO7.out.lower (by omega),fun q r hr=>HRW.out q r (List.getElem?_eq_some_iff.1 hr).1 hr⟩,B7⟩
theorem aK8 (id:Vector UInt8 8) (ma he de ageing:Int) (pa:Option Addr) (cap:Nat) (ps:List PortX) (w:World) (h:PXOff [] w pa ps) (hn:ps.length<=1000):
  Calls Tryz.prog 8 #[.agg (hZ id ma he de ageing pa ps.length cap).toArray] w fun e w'=>(∃pa',(∃cap',e=.returned (.agg (hZ id ma he de ageing pa' ps.length cap').toArray))/\PXOff [] w' pa' ps)/\Below w.heap.size w w':=
 (aJx id ma he de ageing pa cap ps w w (Below.refl _ _) h hn).mono fun e w' ⟨⟨pa',cap',e1,h1⟩,hb⟩=>⟨⟨pa',⟨cap',e1⟩,h1.px hb hn⟩,hb⟩
end
section
open Go.RowKit Go.Shelf
theorem aJy (id:Vector UInt8 8) (ma he de ageing:Int) (pa:Option Addr) (cap:Nat) (ps:List PortX) (w:World) (h:PXOff [] w pa ps):
  Calls Tryz.prog 6 #[.agg (hZ id ma he de ageing pa ps.length cap).toArray] w fun e w'=>e=.returned (.int .i64 (if aK7 ps then 1 else 0))/\Below w.heap.size w w':=by
 obtain⟨q,hq⟩:∃q,aK7 ps=q:=⟨_,rfl⟩
 rw[hq]
 have HQ:=h_ hq
 clear hq
 unfold hZ
 go_enter Tryz.func6,Tryz.ntmps6
 obtain⟨w1,hw1⟩:∃x,w.alloc (.cells (u8v id++[Value.int .i64 ma,Value.int .i64 he,Value.int .i64 de,Value.int .i64 ageing,Value.slice pa ps.length cap]).toArray 25)=x:=⟨_,rfl⟩
 have b1:Below w.heap.size w w1:=by rw[<-hw1];exact ba_
 have z1:w1.heap.size=w.heap.size+1:=by rw[<-hw1,aF]
 have r1:row w1 w.heap.size=(u8v id++[Value.int .i64 ma,Value.int .i64 he,Value.int .i64 de,Value.int .i64 ageing,Value.slice pa ps.length cap]).toArray:=by rw[<-hw1];exact aE _ _ _ rfl
 by_cases h50:50<ps.length
 ·have h50I:(50:Int)<(ps.length:Int):=by omega
  have hqf:q=false:=by rw[<-HQ.out];unfold aK7;rw[decide_eq_false (by omega)];rfl
  subst hqf
  go_wp2_with fail
  go_ret
  exact⟨rfl,b1⟩
 ·have h50I:¬(50:Int)<(ps.length:Int):=by omega
  have hnI:(ps.length:Int)<=50:=by omega
  go_wp2_with fail
  (try rw[hw1])
  (try clear hw1)
  have HZ1:=h_ z1
  clear z1
  go_loopw [3] (fun i wr=>∃k:Nat,k<=ps.length/\i=.int .i64 k/\(∀(i:Nat) (hi:i<ps.length),i<k->ps[i].p.tagged.length<=100)/\wr=w1) (fun i _=>ps.length - (intOf i).toNat)
  case atStart=>exact⟨0,by omega,rfl,fun i hi h=>by omega,rfl⟩
  case round=>
   obtain⟨k,hk,rfl,hall,rfl⟩:=hrel
   have HA:=h_ hall
   clear hall
   by_cases hlt:k<ps.length
   ·have hltI:(k:Int)<(ps.length:Int):=by omega
    obtain⟨pb,po,ta,tc,rfl,hpb,hrd⟩:=h.get hlt
    obtain⟨r,hr⟩:∃x,ps[k]=x:=⟨_,rfl⟩
    have hrd2:=hrd wr (BelowS.of b1)
    rw[hr]at hrd2
    have htm:=hrd2.2.1
    rw[List.length_map]at htm
    have g1:wr.cell? ⟨pb,po+k*39+1,none⟩=some (.slice ta r.p.tagged.length tc):=hrd2.1 1 _ rfl
    obtain⟨o,ho⟩:∃o,po+k*39=o:=⟨_,rfl⟩
    rw[ho]at g1
    have HR:=h_ hr
    clear hrd hr hrd2
    by_cases hbig:100<r.p.tagged.length
    ·have hbigI:(100:Int)<(r.p.tagged.length:Int):=by omega
     have hqf:q=false:=by
      rw[<-HQ.out]
      unfold aK7
      rw[show(ps.all fun x=>decide (x.p.tagged.length<=100))=false from List.all_eq_false.2 ⟨r,HR.out▸List.getElem_mem hlt,by simp;omega⟩,Bool.and_false]
     subst hqf
     go_wp2_with fail
     go_ret
     exact⟨rfl,b1⟩
    ·have hbigI:¬(100:Int)<(r.p.tagged.length:Int):=by omega
     have HS:=h_ (show ∀(i:Nat) (hi:i<ps.length),i<k+1->ps[i].p.tagged.length<=100 from fun i hi hik=>by
      rcases Nat.lt_or_ge i k with h0 | h0
      ·exact HA.out i hi h0
      ·obtain rfl:i=k:=by omega
       rw[HR.out];omega)
     go_wp2_with fail
     go_roundw
     case rel=>exact⟨k+1,by omega,by simp,HS.out,by first | rfl | trivial⟩
     case measure=>simp[intOf];omega
   ·obtain rfl:k=ps.length:=by omega
    have hltI:¬(ps.length:Int)<(ps.length:Int):=by omega
    have hqt:q=true:=by
     rw[<-HQ.out]
     unfold aK7
     rw[decide_eq_true (by omega),Bool.true_and]
     exact List.all_eq_true.2 fun x hx=>by
      obtain⟨i,hi,rfl⟩:=List.getElem_of_mem hx
      exact decide_eq_true (HA.out i hi hi)
    subst hqt
    go_wp2_with fail
    go_ret
    exact⟨rfl,b1⟩
end
end Go.Proofs.YtiagbbknkdgmeaaGreat
