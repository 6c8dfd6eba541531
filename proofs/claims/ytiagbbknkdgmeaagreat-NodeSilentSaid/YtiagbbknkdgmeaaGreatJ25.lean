/- Texts of this proof, merged: Cnf, CnfR. -/
import Derived.Test.YtiagbbknkdgmeaaGreatJ19
import Derived.Test.YtiagbbknkdgmeaaGreatJ24
set_option linter.unusedSimpArgs false
set_option linter.unusedVariables false
set_option maxHeartbeats 8000000
set_option maxRecDepth 20000
namespace Go.Proofs.YtiagbbknkdgmeaaGreat
section
open Go.RowKit Go.Shelf
structure PortX where
 p:PortD
 link:Bool
 rate:Int
 greets:Bool
 psk:Vector UInt8 32
def dW (ta:Option Addr) (cap:Nat) (x:PortX):List Value:=Value.int .i64 x.p.native::Value.slice ta x.p.tagged.length cap::Value.int .i64 x.p.hor::Value.int .i64 x.p.lim::Value.bool x.link::Value.int .i64 x.rate::Value.bool x.greets::u8v x.psk
def oF (x:PortX):Bool:=if x.link then decide (1<=x.rate)&&decide (x.rate<=1000000000)else decide (x.rate=0)&& !x.greets&&(x.psk==Vector.replicate 32 0)
theorem aES (ta:Option Addr) (cap:Nat) (x:PortX) (w:World):
  Calls Tryz.prog 33 #[.agg (dW ta cap x).toArray] w fun e w'=>e=.returned (.bool (oF x))/\Below w.heap.size w w':=by
 obtain⟨q,hq⟩:∃q,oF x=q:=⟨_,rfl⟩
 rw[hq]
 obtain⟨pd,link,rate,greets,psk⟩:=x
 unfold oF at hq
 unfold dW
 dsimp only at hq ⊢
 have HB:=h_ hq
 clear hq
 go_enter Tryz.func33,Tryz.ntmps33
 cases link with
 | true=>
  by_cases h1:1<=rate
  ·by_cases h2:rate<=1000000000
   ·go_wp2_with fail
    go_ret
    exact⟨by rw[show q=true by rw[<-HB.out];simp;omega];rfl,eD⟩
   ·go_wp2_with fail
    go_ret
    exact⟨by rw[show q=false by rw[<-HB.out];simp;omega];rfl,eD⟩
  ·go_wp2_with fail
   go_ret
   exact⟨by rw[show q=false by rw[<-HB.out];simp;omega];rfl,eD⟩
 | false=>
  by_cases h1:rate=0
  ·subst h1
   cases greets with
   | true=>
    go_wp2_with fail
    go_ret
    exact⟨by rw[show q=false by rw[<-HB.out];rfl];rfl,eD⟩
   | false=>
    go_wp2_with fail
    go_ret
    exact⟨by rw[<-HB.out];simp,eD⟩
  ·have h1':(rate==0)=false:=by simpa using h1
   go_wp2_with fail
   go_ret
   exact⟨by rw[show q=false by rw[<-HB.out];simp;omega];rfl,eD⟩
end
section
open Go.RowKit Go.Shelf
def PXOff (S:List Nat) (w:World) (pa:Option Addr) (ps:List PortX):Prop:=
 ps.length<=maxLen/\∀(i:Nat) (p:PortX),ps[i]? =some p->∃b off ta cap,pa=some ⟨b,off,none⟩/\b<w.heap.size/\b∉S/\
  (∀W,blk W b=blk w b->W.rangeAt b (off+i*39) (dW ta cap p))/\ElemsOff S w ta 1 (p.p.tagged.map fun v=>[Value.int .i64 v])
theorem PXOff.kept {S:List Nat} {w w':World} {pa:Option Addr} {ps:List PortX} (h:PXOff S w pa ps) (hb:BelowS w.heap.size S w w'):PXOff S w' pa ps:=by
 refine⟨h.1,fun i p hp=>?_⟩
 obtain⟨b,off,ta,cap,e,hl,hn,hr,ht⟩:=h.2 i p hp
 exact⟨b,off,ta,cap,e,Nat.lt_of_lt_of_le hl hb.size,hn,fun W hW=>hr W (hW.trans (hb.block b hl hn)),ht.kept hb⟩
theorem PXOff.below {S:List Nat} {w w':World} {pa:Option Addr} {ps:List PortX} (h:PXOff S w pa ps) (hb:Below w.heap.size w w'):PXOff S w' pa ps:=h.kept (BelowS.of hb)
theorem PXOff.get {S:List Nat} {w:World} {pa:Option Addr} {ps:List PortX} (h:PXOff S w pa ps) {k:Nat} (hk:k<ps.length):∃b off ta cap,pa=some ⟨b,off,none⟩/\b<w.heap.size/\
  (∀W,BelowS w.heap.size S w W->W.rangeAt b (off+k*39) (dW ta cap ps[k])/\ElemsOff S W ta 1 (ps[k].p.tagged.map fun v=>[Value.int .i64 v])):=by
 obtain⟨b,off,ta,cap,e,hl,hn,hr,ht⟩:=h.2 k ps[k] (List.getElem?_eq_getElem hk)
 exact⟨b,off,ta,cap,e,hl,fun W hW=>⟨hr W (hW.block b hl hn),ht.kept hW⟩⟩
theorem aGN {W:World} {b o:Nat} {ta:Option Addr} {cap:Nat} {x:PortX} (h:W.rangeAt b o (dW ta cap x)):(mC 66 (.pointer (some ⟨b,o,none⟩))).run Tryz.prog W=.ok (.agg (dW ta cap x).toArray) W:=cI h (by simp[dW])
def hZ (id:Vector UInt8 8) (ma he de ageing:Int) (pa:Option Addr) (n cap:Nat):List Value:=u8v id++[Value.int .i64 ma,Value.int .i64 he,Value.int .i64 de,Value.int .i64 ageing,Value.slice pa n cap]
def mI (ma he de ageing:Int) (ps:List PortX):Bool:=ps.all oF&&eY ageing (ps.map (·.p))&&fT ma he de
theorem sX (ma he de:Int):aJJ [1] ma he de=fT ma he de:=by
 unfold aJJ
 simp[fX]
theorem fD (id:Vector UInt8 8) (ma he de ageing:Int) (pa:Option Addr) (cap:Nat) (ps:List PortX) (w:World) (h:PXOff [] w pa ps) (hn:ps.length<=1000):
  Calls Tryz.prog 17 #[.agg (hZ id ma he de ageing pa ps.length cap).toArray] w fun e w'=>e=.returned (.bool (mI ma he de ageing ps))/\Below w.heap.size w w':=by
 obtain⟨q,hq⟩:∃q,mI ma he de ageing ps=q:=⟨_,rfl⟩
 rw[hq]
 have HQ:=h_ hq
 clear hq
 have hnI:(ps.length:Int)<=1000:=by omega
 unfold hZ
 go_enter Tryz.func17,Tryz.ntmps17
 obtain⟨w1,hw1⟩:∃x,w.alloc (.cells (u8v id++[Value.int .i64 ma,Value.int .i64 he,Value.int .i64 de,Value.int .i64 ageing,Value.slice pa ps.length cap]).toArray 41)=x:=⟨_,rfl⟩
 have b1:Below w.heap.size w w1:=by rw[<-hw1];exact ba_
 have z1:w1.heap.size=w.heap.size+1:=by rw[<-hw1,aF]
 have r1:row w1 w.heap.size=(u8v id++[Value.int .i64 ma,Value.int .i64 he,Value.int .i64 de,Value.int .i64 ageing,Value.slice pa ps.length cap]).toArray:=by rw[<-hw1];exact aE _ _ _ rfl
 go_wp2_with fail
 (try clear hw1)
 have k01:w.heap.size<w1.heap.size:=by omega
 clear z1
 go_loopw [3,13] (fun u i wr=>∃(k:Nat) (ppa:Option Addr) (ppc:Nat) (rows:List (List Value)),k<=ps.length/\i=.int .i64 k/\u=.slice ppa k ppc/\rows.length=k/\OwnL wr w1.heap.size 64 4 (.slice ppa k ppc) rows/\
  (∀(q:Nat) (r:PortX),q<k->ps[q]? =some r->oF r=true/\∃ta tc,rows[q]? =some (j7 ta tc r.p)/\ElemsOff [] w ta 1 (r.p.tagged.map fun v=>[Value.int .i64 v]))/\Below w1.heap.size w1 wr) (fun _ i _=>ps.length - (intOf i).toNat)
 case atStart=>exact⟨0,none,0,[],by omega,rfl,rfl,rfl,OwnL.nil _ _ _ _,(fun q r hq _=>by omega),Below.refl _ _⟩
 case round=>
  obtain⟨k,ppa,ppc,rows,hk,rfl,rfl,hrl,hown,hrows,cb⟩:=hrel
  have zb:=cb.size
  have cbw:Below w.heap.size w wr:=b1.trans (cb.mono (by omega))
  by_cases hlt:k<ps.length
  ·have hltI:(k:Int)<(ps.length:Int):=by omega
   obtain⟨pb,po,ta,tc,rfl,hpb,hrd⟩:=h.get hlt
   obtain⟨r,hr⟩:∃x,ps[k]=x:=⟨_,rfl⟩
   rw[hr]at hrd
   have hld:=aGN (hrd wr (BelowS.of cbw)).1
   have hit:=(hrd w (BelowS.of (Below.refl _ _))).2
   obtain⟨o,ho⟩:∃o,po+k*39=o:=⟨_,rfl⟩
   rw[ho]at hld
   have HIT:=h_ hit
   have HR:=h_ hr
   have HRW:=h_ hrows
   have HOW:=h_ hown
   have HCR:=h_ (fun w=>aES ta tc r w)
   clear hrd hit hr hrows hown
   unfold dW at hld HCR
   obtain⟨w2,hw2⟩:∃x,wr.alloc (.cells (Value.int .i64 r.p.native::Value.slice ta r.p.tagged.length tc::Value.int .i64 r.p.hor::Value.int .i64 r.p.lim::Value.bool r.link::Value.int .i64 r.rate::Value.bool r.greets::u8v r.psk).toArray 66)=x:=⟨_,rfl⟩
   have b2:Below wr.heap.size wr w2:=by rw[<-hw2];exact ba_
   have z2:w2.heap.size=wr.heap.size+1:=by rw[<-hw2,aF]
   have r2:row w2 wr.heap.size=(Value.int .i64 r.p.native::Value.slice ta r.p.tagged.length tc::Value.int .i64 r.p.hor::Value.int .i64 r.p.lim::Value.bool r.link::Value.int .i64 r.rate::Value.bool r.greets::u8v r.psk).toArray:=by rw[<-hw2];exact aE _ _ _ rfl
   have k2:wr.heap.size<w2.heap.size:=by omega
   clear z2
   go_wp2_with fail
   (try clear hw2)
   (with_reducible refine(HCR.out _).mono ?_)
   rintro e w3 ⟨rfl,b3⟩
   have z3:=b3.size
   have r3:=(aA b3 k2).trans r2
   have b23:Below wr.heap.size wr w3:=b2.trans (b3.mono (by omega))
   have cb3:=cb.trans (b23.mono zb)
   have k3:wr.heap.size<w3.heap.size:=by omega
   have k13:w1.heap.size<=w3.heap.size:=by omega
   have HO3:=h_ (HOW.out.below b23)
   have B3:Below w.heap.size w w3:=b1.trans (cb3.mono (by omega))
   clear HCR hld b2 b3 r2
   cases hrx:oF r with
   | false=>
    have hqf:q=false:=by
     rw[<-HQ.out]
     unfold mI
     rw[show ps.all oF=false from List.all_eq_false.2 ⟨r,HR.out▸List.getElem_mem hlt,by rw[hrx];decide⟩]
     rfl
    go_wp2_with fail
    go_ret
    exact⟨by rw[hqf];rfl,B3⟩
   | true=>
    have hle10:rows.length<=10000:=by omega
    have HL:=h_ hle10
    clear hle10
    go_wp2_with (at_builtin;refine iO rfl rfl Tryz.underlying84 aAd (by decide) (by decide) w1.heap.size _ _ rfl HO3.out [Value.int .i64 r.p.native,Value.slice ta r.p.tagged.length tc,Value.int .i64 r.p.hor,Value.int .i64 r.p.lim] rfl rfl rfl HL.out k13 ?_)
    intro v4 w4 hown4 b4 hk4
    obtain⟨ppa4,ppc4,hv4,_⟩:=hown4.elems
    simp only[List.length_append,List.length_singleton,hrl]at hv4
    subst hv4
    have hrows4:∀(q:Nat) (r':PortX),q<k+1->ps[q]? =some r'->oF r'=true/\∃ta' tc',(rows++[[Value.int .i64 r.p.native,Value.slice ta r.p.tagged.length tc,Value.int .i64 r.p.hor,Value.int .i64 r.p.lim]])[q]? =some (j7 ta' tc' r'.p)/\ElemsOff [] w ta' 1 (r'.p.tagged.map fun v=>[Value.int .i64 v]):=by
     intro q r' hq hr'
     by_cases hqk:q<k
     ·obtain⟨e0,ta',tc',e1,e2⟩:=HRW.out q r' hqk hr'
      exact⟨e0,ta',tc',by rw[List.getElem?_append_left (by omega)];exact e1,e2⟩
     ·have hqe:q=k:=by omega
      subst hqe
      rw[List.getElem?_eq_getElem hlt,HR.out]at hr'
      cases hr'
      exact⟨hrx,ta,tc,by rw[List.getElem?_append_right (by omega),hrl,Nat.sub_self];rfl,HIT.out⟩
    have cb4:=cb3.trans b4
    have H1:=h_ hrows4
    have H2:=h_ hown4
    clear hrows4 hown4 hk4 HO3 HOW HRW
    go_wp2_with fail
    go_roundw
    case rel=>exact⟨k+1,ppa4,ppc4,_,by omega,by simp,rfl,by simp[hrl],H2.out,H1.out,cb4⟩
    case measure=>simp[intOf];omega
  ·obtain rfl:k=ps.length:=by omega
   have hltI:¬(ps.length:Int)<(ps.length:Int):=by omega
   have hall:ps.all oF=true:=List.all_eq_true.2 fun r hr=>by
    obtain⟨i,hi,e⟩:=List.getElem_of_mem hr
    exact(hrows i r hi (by rw[List.getElem?_eq_getElem hi,e])).1
   have hpo:PortsOff [] wr ppa (ps.map (·.p)):=aGL hown (by rw[List.length_map];exact hn) (fun x hx=>by cases hx) (by
    intro q p hq
    rw[List.getElem?_map]at hq
    cases hr:ps[q]? with
    | none=>rw[hr]at hq;cases hq
    | some r=>
     rw[hr]at hq
     simp only[Option.map_some,Option.some.injEq]at hq
     subst hq
     obtain⟨_,ta,tc,e1,e2⟩:=hrows q r (List.getElem?_eq_some_iff.1 hr).1 hr
     exact⟨ta,tc,e1,e2.below cbw⟩)
   have hN:=aIG ageing ppa ppc (ps.map (·.p)) wr hpo (by rw[List.length_map];exact hn)
   rw[List.length_map]at hN
   have rC:=(aA cb k01).trans r1
   have HN:=h_ hN
   have kC:w.heap.size<wr.heap.size:=by omega
   clear hN hpo hown hrows
   go_wp2_with fail
   (with_reducible refine HN.out.mono ?_)
   have hqv:∀b,eY ageing (ps.map (·.p))=b->q=(b&&fT ma he de):=fun b hb=>by
    rw[<-HQ.out]
    unfold mI
    rw[hall,hb,Bool.true_and]
   have HV:=h_ hqv
   clear hqv hall
   rintro e w4 (⟨hno,rfl,b4⟩ | ⟨hno,A,rfl,hnb⟩)
   ·have hq2:=HV.out _ hno
    have z4:=(b4).size
    have rC4:=(aA b4 kC).trans rC
    have B4:Below w.heap.size w w4:=cbw.trans ((b4).mono (by omega))
    obtain⟨w5,hw5⟩:∃x,w4.alloc (.cells #[Value.int .i64 1] 3)=x:=⟨_,rfl⟩
    have b5:Below w4.heap.size w4 w5:=by rw[<-hw5];exact ba_
    have r5:row w5 w4.heap.size=#[Value.int .i64 1]:=by rw[<-hw5];exact aE _ _ _ rfl
    have hI5:IntsAt w5 (some ⟨w4.heap.size,0,none⟩) [1]:=aAW (x:=[Value.int .i64 1]) r5 (by decide)
    have B5:Below w.heap.size w w5:=B4.trans (b5.mono (by omega))
    have kC4:w.heap.size<w4.heap.size:=by omega
    have rC5:=(aA b5 kC4).trans rC4
    clear b4 b5 r5 B4 rC z4
    cases hrt:fT ma he de with
    | true=>
     have hs0:=zO id (some ⟨w4.heap.size,0,none⟩) 1 [1] ma he de w5 hI5 (by rw[sX];exact hrt)
     rw[List.length_singleton]at hs0
     have HS:=h_ hs0
     clear hs0
     rw[hrt]at hq2
     go_wp2_with fail
     (try rw[hw5])
     (try clear hw5)
     (with_reducible refine HS.out.mono ?_)
     rintro e w6 ⟨S,s,rfl,_,_,_,_,_,_,b6⟩
     have B6:=B5.trans (b6.mono B5.size)
     go_wp2_with fail
     go_ret
     exact⟨by rw[hq2];rfl,B6⟩
    | false=>
     have hs0:=tY id (some ⟨w4.heap.size,0,none⟩) 1 [1] ma he de w5 hI5 (by rw[sX];exact hrt)
     rw[List.length_singleton]at hs0
     have HS:=h_ hs0
     clear hs0
     rw[hrt]at hq2
     go_wp2_with fail
     (try rw[hw5])
     (try clear hw5)
     (with_reducible refine HS.out.mono ?_)
     rintro e w6 ⟨rfl,b6⟩
     have B6:=B5.trans (b6.mono B5.size)
     go_wp2_with fail
     go_ret
     exact⟨by rw[hq2];rfl,B6⟩
   ·have b4:=hnb.below
    clear hnb
    have hq2:=HV.out _ hno
    have z4:=(b4).size
    have rC4:=(aA b4 kC).trans rC
    have B4:Below w.heap.size w w4:=cbw.trans ((b4).mono (by omega))
    obtain⟨w5,hw5⟩:∃x,w4.alloc (.cells #[Value.int .i64 1] 3)=x:=⟨_,rfl⟩
    have b5:Below w4.heap.size w4 w5:=by rw[<-hw5];exact ba_
    have r5:row w5 w4.heap.size=#[Value.int .i64 1]:=by rw[<-hw5];exact aE _ _ _ rfl
    have hI5:IntsAt w5 (some ⟨w4.heap.size,0,none⟩) [1]:=aAW (x:=[Value.int .i64 1]) r5 (by decide)
    have B5:Below w.heap.size w w5:=B4.trans (b5.mono (by omega))
    have kC4:w.heap.size<w4.heap.size:=by omega
    have rC5:=(aA b5 kC4).trans rC4
    clear b4 b5 r5 B4 rC z4
    cases hrt:fT ma he de with
    | true=>
     have hs0:=zO id (some ⟨w4.heap.size,0,none⟩) 1 [1] ma he de w5 hI5 (by rw[sX];exact hrt)
     rw[List.length_singleton]at hs0
     have HS:=h_ hs0
     clear hs0
     rw[hrt]at hq2
     go_wp2_with fail
     (try rw[hw5])
     (try clear hw5)
     (with_reducible refine HS.out.mono ?_)
     rintro e w6 ⟨S,s,rfl,_,_,_,_,_,_,b6⟩
     have B6:=B5.trans (b6.mono B5.size)
     go_wp2_with fail
     go_ret
     exact⟨by rw[hq2];rfl,B6⟩
    | false=>
     have hs0:=tY id (some ⟨w4.heap.size,0,none⟩) 1 [1] ma he de w5 hI5 (by rw[sX];exact hrt)
     rw[List.length_singleton]at hs0
     have HS:=h_ hs0
     clear hs0
     rw[hrt]at hq2
     go_wp2_with fail
     (try rw[hw5])
     (try clear hw5)
     (with_reducible refine HS.out.mono ?_)
     rintro e w6 ⟨rfl,b6⟩
     have B6:=B5.trans (b6.mono B5.size)
     go_wp2_with fail
     go_ret
     exact⟨by rw[hq2];rfl,B6⟩
end
end Go.Proofs.YtiagbbknkdgmeaaGreat
