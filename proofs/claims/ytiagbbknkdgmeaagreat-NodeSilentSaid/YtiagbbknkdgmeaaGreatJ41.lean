/- Texts of this proof, merged: NodN, NodH, NodQ, NodI, NodS, NodO, NodR. -/
import Derived.Test.YtiagbbknkdgmeaaGreatJ39
import Derived.Test.YtiagbbknkdgmeaaGreatJ24
import Derived.Test.YtiagbbknkdgmeaaGreatJ40
import Derived.Test.YtiagbbknkdgmeaaGreatJ38
import Derived.Test.YtiagbbknkdgmeaaGreatShelfJ
import Derived.Test.YtiagbbknkdgmeaaGreatJ20
import Derived.Test.YtiagbbknkdgmeaaGreatJ21
set_option linter.unusedSimpArgs false
set_option linter.unusedVariables false
set_option maxHeartbeats 8000000
set_option maxRecDepth 20000
namespace Go.Proofs.YtiagbbknkdgmeaaGreat
section
open Go.RowKit Go.Shelf
def oQ (room r k p d ma he de ageing:Int) (ps:List PortX):Bool:=decide (1<=room/\room<=65536)&&decide (nB r k p d)&&mI ma he de ageing ps
def aFu (ps:List PortX) (i:Nat):Int:=match ps[i]? with
 | some x=>if x.link then 0 else 3
 | none=>0
structure NodeT (w0 w:World) (N Q:Nat) (id:Vector UInt8 8) (ma he de ageing:Int) (pa:Option Addr) (cap:Nat) (ps:List PortX) (mac:Vector UInt8 6) (r k p d room:Int) (A:BrA) (sp ea:Option Addr) (ec:Nat) (es:List (Option Nat)) (j:Nat):Prop where
 rN:row w N=(cY id ma he de ageing pa ps.length cap mac (some ⟨A.B,0,none⟩) sp ea ps.length ec (some ⟨Q,0,none⟩) 0 0).toArray
 rQ:row w Q=#[.int .i64 room,.slice none 0 0,.slice none 0 0,.int .i64 0]
 gN:w0.heap.size<=N
 gQ:w0.heap.size<=Q
 ne:N≠Q
 ex:N∈A.ex/\Q∈A.ex
 lo:∀b∈[A.B,A.SB,A.LT,A.LM,A.HT,A.HM],N<b/\Q<b
 br:BrT w A (sJ ageing (ps.map (·.p)) (aFu ps) j)
 ok:eY ageing (ps.map (·.p))=true
 own:∃B wC,N<B/\Q<B/\OwnL wC B 91 1 (.slice ea ps.length ec) (es.map fun e=>[tA e])/\EndsT wC B ps r k p d es/\wC.heap.size<=w.heap.size/\(∀X,B<=X->X<wC.heap.size->w.heap[X]? =wC.heap[X]?)/\(∀b∈A.muts,wC.heap.size<=b)/\∀x,x<wC.heap.size->x∈A.ex
 span:sp=none∨∃D S s,sp=some ⟨S,0,none⟩/\SpT w D S s/\(s.ps.length<=32/\s.now=0/\1<=s.he/\s.he<=1000)/\N<D/\Q<D/\(∀b∈A.muts,b<D)/\BrL D w A (ps.map (·.p))
 low:Below w0.heap.size w0 w
 exl:∀x,x<w0.heap.size->x∈A.ex
theorem BrT.otherB {w w':World} {A:BrA} {s:BrS} (h:BrT w A s) {x:Nat} (hx:x∈A.ex) (hn:∀b∈[A.B,A.SB,A.LT,A.LM,A.HT,A.HM],b≠x) (hb:BelowBut w.heap.size x w w'):BrT w' A s:=by
 have hbs:BelowS w.heap.size A.offs w w':=BelowS.one hb (List.mem_append_right _ hx)
 obtain⟨l1,l2,l3,l4,l5,l6⟩:=h.lts
 have e:∀b∈[A.B,A.SB,A.LT,A.LM,A.HT,A.HM],w'.heap[b]? =w.heap[b]? :=fun b hb2=>hb.block b (by
  simp only[List.mem_cons,List.not_mem_nil,or_false]at hb2
  rcases hb2 with rfl | rfl | rfl | rfl | rfl | rfl<;>assumption) (hn b hb2)
 exact⟨(aJ (e A.B (by simp))).trans h.rB,(aJ (e A.SB (by simp))).trans h.rS,
  ⟨(aJ (e A.LT (by simp))).trans h.ler.row,(bD (e A.LM (by simp))).2 h.ler.ok,(bQ (e A.LM (by simp))).trans h.ler.map⟩,
  ⟨(aJ (e A.HT (by simp))).trans h.hush.row,(bD (e A.HM (by simp))).2 h.hush.ok,(bQ (e A.HM (by simp))).trans h.hush.map⟩,h.lims.kept hbs,h.ports.kept hbs,h.dist,h.lenS,h.pos⟩
theorem dJ {A:BrA} {x:Nat} (h:x∈A.muts):x∈[A.B,A.SB,A.LT,A.LM,A.HT,A.HM]:=by
 simp only[BrA.muts,List.mem_cons,List.not_mem_nil,or_false]at h ⊢
 omega
section
variable {w0 w:World} {N Q:Nat} {id:Vector UInt8 8} {ma he de ageing:Int} {pa:Option Addr} {cap:Nat} {ps:List PortX} {mac:Vector UInt8 6} {r k p d room:Int} {A:BrA} {sp ea:Option Addr} {ec:Nat} {es:List (Option Nat)} {j:Nat}
theorem NodeT.ltN (h:NodeT w0 w N Q id ma he de ageing pa cap ps mac r k p d room A sp ea ec es j):N<w.heap.size:=aM (i:=0) (by rw[h.rN];simp[cY])
theorem NodeT.ltQ (h:NodeT w0 w N Q id ma he de ageing pa cap ps mac r k p d room A sp ea ec es j):Q<w.heap.size:=aM (i:=0) (by rw[h.rQ];simp)
theorem NodeT.next {j':Nat} {w':World} (h:NodeT w0 w N Q id ma he de ageing pa cap ps mac r k p d room A sp ea ec es j) (hb:BelowS w.heap.size A.muts w w') (hbr:BrT w' A (sJ ageing (ps.map (·.p)) (aFu ps) j')):NodeT w0 w' N Q id ma he de ageing pa cap ps mac r k p d room A sp ea ec es j':=by
 have nN:N∉A.muts:=fun hm=>by have:=(h.lo N (dJ hm)).1;omega
 have nQ:Q∉A.muts:=fun hm=>by have:=(h.lo Q (dJ hm)).2;omega
 refine⟨(hb.row h.ltN nN).trans h.rN,(hb.row h.ltQ nQ).trans h.rQ,h.gN,h.gQ,h.ne,h.ex,h.lo,hbr,h.ok,?_,?_,h.low.trans ((hb.below (B':=w0.heap.size) h.low.size fun x hx=>?_)),h.exl⟩
 ·obtain⟨B,wC,h1,h2,h3,h4,h5,h6,h7,h8⟩:=h.own
  exact⟨B,wC,h1,h2,h3,h4,Nat.le_trans h5 hb.size,fun X hX hl=>(hb.block X (by omega) fun hm=>by have:=h7 X hm;omega).trans (h6 X hX hl),h7,h8⟩
 ·rcases h.span with h1 | ⟨D,S,s,h1,h2,h3,h4,h5,h6,h7⟩
  ·exact .inl h1
  ·exact .inr ⟨D,S,s,h1,h2.kept fun X hX hl=>hb.block X hl fun hm=>by have:=h6 X hm;omega,h3,h4,h5,h6,h7.kept hb.size fun k hk hn=>hb.block k (by have:=h7.le;omega) fun hm=>hn (List.mem_append_left _ hm)⟩
 ·have:=(h.lo x (dJ hx)).1
  have:=h.gN
  omega
theorem aK0 (ageing:Int) (ps:List PortD) (f:Nat->Int) (j:Nat) (h:f j=0):sJ ageing ps f j=sJ ageing ps f (j+1):=by
 have e:(List.range ps.length).map (fun i=>if i<j then f i else 0)=(List.range ps.length).map (fun i=>if i<j+1 then f i else 0):=by
  apply List.map_congr_left
  intro i _
  by_cases h1:i<j
  ·rw[if_pos h1,if_pos (by omega)]
  ·by_cases h2:i=j
   ·subst h2
    rw[if_neg h1,if_pos (by omega),h]
   ·rw[if_neg h1,if_neg (by omega)]
 unfold sJ
 rw[e]
theorem NodeT.skip (h:NodeT w0 w N Q id ma he de ageing pa cap ps mac r k p d room A sp ea ec es j) (h0:aFu ps j=0):NodeT w0 w N Q id ma he de ageing pa cap ps mac r k p d room A sp ea ec es (j+1):=
 ⟨h.rN,h.rQ,h.gN,h.gQ,h.ne,h.ex,h.lo,by have:=h.br;rwa [aK0 _ _ _ _ h0]at this,h.ok,h.own,h.span,h.low,h.exl⟩
theorem NodeT.state (h:NodeT w0 w N Q id ma he de ageing pa cap ps mac r k p d room A sp ea ec es j) (hj:j<ps.length) (hl:ps[j].link=false):Calls Tryz.prog 21 #[.pointer (some ⟨A.B,0,none⟩),.int .i64 (j:Int),.int .i64 3] w fun e w'=>e=.returned (.int .i64 0)/\NodeT w0 w' N Q id ma he de ageing pa cap ps mac r k p d room A sp ea ec es (j+1):=by
 have e3:aFu ps j=3:=by unfold aFu;rw[List.getElem?_eq_getElem hj];simp[hl]
 have hS:=aCN (f:=aFu ps) w h.ok (j:=j) (by rw[List.length_map];exact hj) (by rw[e3];decide) (by rw[e3];decide) h.br
 rw[e3]at hS
 exact hS.mono fun e w' h1=>⟨h1.1,h.next h1.2.1 h1.2.2⟩
theorem NodeT.get (h:NodeT w0 w N Q id ma he de ageing pa cap ps mac r k p d room A sp ea ec es j) {q:Nat} (hq:q<ps.length):∃b off,ea=some ⟨b,off,none⟩/\b<w.heap.size/\((ps[q].link=false/\w.cell? ⟨b,off+q,none⟩=some (.pointer none))∨(ps[q].link=true/\∃x,w.cell? ⟨b,off+q,none⟩=some (.pointer (some ⟨x,0,none⟩))/\∃L M pl,w.heap[x]? =some (.cells (aAF L M pl) 95 (0,0))/\row w L=(aCd ps[q].psk.toList ps[q].greets r k p d).cells.toArray/\L≠N/\L≠Q)):=by
 obtain⟨B,wC,h1,h2,h3,h4,h5,h6,h7⟩:=h.own
 have h3':=h3.keep (w':=w) fun X hX=>h6 X (h3.blk hX).1 (h3.blk hX).2.1
 obtain⟨a,cap',e,he⟩:=h3'.elems
 have hl:es.length=ps.length:=h4.1
 simp only[List.length_map,Value.slice.injEq,true_and]at e
 obtain⟨rfl,e1,rfl⟩:ea=a/\ps.length=es.length/\ec=cap':=by first | exact e | exact⟨e.1,hl.symm,e.2⟩ | exact⟨e.1,e.2.1,e.2.2⟩
 have hqe:q<es.length:=by omega
 obtain⟨b,off,e2,hb,hr⟩:=he.2 q [tA es[q]] (by rw[List.getElem?_map,List.getElem?_eq_getElem hqe];rfl)
 have hc:=hr w rfl 0 _ rfl
 rw[Nat.mul_one,Nat.add_zero]at hc
 refine⟨b,off,e2,hb,?_⟩
 rcases h4.2 q ps[q] (List.getElem?_eq_getElem hq)with ⟨g1,g2⟩ | ⟨g1,x,g2,g3,L,M,pl,g4,g5,g6⟩
 ·rw[List.getElem?_eq_getElem hqe,Option.some.injEq]at g2
  rw[g2]at hc
  exact .inl ⟨g1,hc⟩
 ·rw[List.getElem?_eq_getElem hqe,Option.some.injEq]at g2
  rw[g2]at hc
  refine .inr ⟨g1,x,hc,L,M,pl,(h6 x g3 (Array.getElem?_eq_some_iff.1 g4).1).trans g4,(aJ (h6 L g5 (aM (i:=0) (by rw[g6];simp[aCd,LinkT.cells])))).trans g6,by omega,by omega⟩
end
theorem PXOff.moreN {w:World} {pa:Option Addr} {ps:List PortX} (h:PXOff [] w pa ps) {x:Nat} (hx:w.heap.size<=x):PXOff [x] w pa ps:=by
 refine⟨h.1,fun i p hp=>?_⟩
 obtain⟨b,off,ta,cap,e,hl,hn,hr,ht⟩:=h.2 i p hp
 exact⟨b,off,ta,cap,e,hl,fun hm=>by have:=List.mem_singleton.1 hm;omega,hr,ht.more fun y hy=>.inr (by have:=List.mem_singleton.1 hy;omega)⟩
theorem vD (id:Vector UInt8 8) (ma he de ageing:Int) (pa:Option Addr) (cap:Nat) (ps:List PortX) (r k p d room:Int) (w:World) (h:PXOff [] w pa ps) (hn:ps.length<=1000):
  Calls Tryz.prog 7 #[.agg (hZ id ma he de ageing pa ps.length cap).toArray,.agg #[.int .i64 r,.int .i64 k,.int .i64 p,.int .i64 d],.int .i64 room] w fun e w'=>
   (oQ room r k p d ma he de ageing ps=false/\e=.returned (.tuple #[.pointer none,.int .i64 1])/\Below w.heap.size w w')∨
   (oQ room r k p d ma he de ageing ps=true/\∃N,e=.returned (.tuple #[.pointer (some ⟨N,0,none⟩),.int .i64 0])/\∃Q mac A sp ea ec es,NodeT w w' N Q id ma he de ageing pa cap ps mac r k p d room A sp ea ec es ps.length):=by
 have HLO:=h_ (fun ht w=>yD (List.replicate 32 0) true r k p d w (by simp) ht)
 have HLB:=h_ (fun ht w=>aDi (List.replicate 32 0) true r k p d w (by simp) ht)
 rw[show(u8s (List.replicate 32 0)).toArray=(aH 32 (.int .u8 0)).toArray from by kernel_rfl]at HLO HLB
 unfold hZ
 go_enter Tryz.func7,Tryz.ntmps7
 obtain⟨w2,hw2⟩:∃x,(w.alloc (.cells (u8v id++[Value.int .i64 ma,Value.int .i64 he,Value.int .i64 de,Value.int .i64 ageing,Value.slice pa ps.length cap]).toArray 41)).alloc (.cells #[Value.int .i64 r,.int .i64 k,.int .i64 p,.int .i64 d] 44)=x:=⟨_,rfl⟩
 have b2:Below w.heap.size w w2:=by rw[<-hw2];exact Below.alloc (ba_) (by simp) _
 have z2:w2.heap.size=w.heap.size+2:=by rw[<-hw2,aF,aF]
 have r1:row w2 w.heap.size=(u8v id++[Value.int .i64 ma,Value.int .i64 he,Value.int .i64 de,Value.int .i64 ageing,Value.slice pa ps.length cap]).toArray:=by rw[<-hw2];simp[go_sem]
 have r2:row w2 (w.heap.size+1)=#[Value.int .i64 r,.int .i64 k,.int .i64 p,.int .i64 d]:=by rw[<-hw2];simp[go_sem]
 have k1:w.heap.size<w2.heap.size:=by omega
 have k2:w.heap.size+1<w2.heap.size:=by omega
 go_wp2_with fail
 (try clear hw2)
 clear z2
 by_cases hq:1<=room/\room<=65536
 ·by_cases ht:nB r k p d
  ·cases hr:mI ma he de ageing ps with
   | false=>
    go_wp2_with fail
    (with_reducible refine(aCO room hq _).mono ?_)
    rintro e w3 ⟨Q,rfl,gQ,zQ,rQ,b3⟩
    have z3:=b3.size
    have r13:=(aA b3 k1).trans r1
    have r23:=(aA b3 k2).trans r2
    go_wp2_with fail
    (with_reducible refine(HLO.out ht _).mono ?_)
    rintro e w4 ⟨L,rfl,gL,zL,rL,b4⟩
    clear rL
    have z4:=b4.size
    have r14:=(aA b4 (show w.heap.size<w3.heap.size by omega)).trans r13
    have r24:=(aA b4 (show w.heap.size+1<w3.heap.size by omega)).trans r23
    have B4:Below w.heap.size w w4:=b2.trans ((b3.mono (by omega)).trans (b4.mono (by omega)))
    have HC:=h_ (fD id ma he de ageing pa cap ps w4 (h.below (B4.mono (Nat.le_refl _))) (by omega))
    unfold hZ at HC
    go_wp2_with fail
    (with_reducible refine HC.out.mono ?_)
    rintro e w5 ⟨rfl,b5⟩
    have z5:=b5.size
    have r15:=(aA b5 (show w.heap.size<w4.heap.size by omega)).trans r14
    have r25:=(aA b5 (show w.heap.size+1<w4.heap.size by omega)).trans r24
    have B5:Below w.heap.size w w5:=B4.trans (b5.mono (by omega))
    rw[hr]
    go_wp2_with fail
    go_ret2
    exact .inl ⟨by unfold oQ;rw[decide_eq_true hq,decide_eq_true ht,hr];simp,rfl,B5⟩
   | true=>
    go_wp2_with fail
    (with_reducible refine(aCO room hq _).mono ?_)
    rintro e w3 ⟨Q,rfl,gQ,zQ,rQ,b3⟩
    have z3:=b3.size
    have r13:=(aA b3 k1).trans r1
    have r23:=(aA b3 k2).trans r2
    go_wp2_with fail
    (with_reducible refine(HLO.out ht _).mono ?_)
    rintro e w4 ⟨L,rfl,gL,zL,rL,b4⟩
    clear rL
    have z4:=b4.size
    have r14:=(aA b4 (show w.heap.size<w3.heap.size by omega)).trans r13
    have r24:=(aA b4 (show w.heap.size+1<w3.heap.size by omega)).trans r23
    have B4:Below w.heap.size w w4:=b2.trans ((b3.mono (by omega)).trans (b4.mono (by omega)))
    have HC:=h_ (fD id ma he de ageing pa cap ps w4 (h.below (B4.mono (Nat.le_refl _))) (by omega))
    unfold hZ at HC
    go_wp2_with fail
    (with_reducible refine HC.out.mono ?_)
    rintro e w5 ⟨rfl,b5⟩
    have z5:=b5.size
    have r15:=(aA b5 (show w.heap.size<w4.heap.size by omega)).trans r14
    have r25:=(aA b5 (show w.heap.size+1<w4.heap.size by omega)).trans r24
    have B5:Below w.heap.size w w5:=B4.trans (b5.mono (by omega))
    rw[hr]
    have hr2:=hr
    unfold mI at hr2
    simp only[Bool.and_eq_true]at hr2
    obtain⟨⟨hrp,hrn⟩,hrt⟩:=hr2
    have hn32:ps.length<=32:=by have:=(aMI ageing _ hrn).1.n32;simpa[aCM]using this
    obtain⟨x3,e3⟩:∃x:Int,(u8v id)[3]'(by simp)=.int .u8 x/\Value.int .u8 x=.int .u8 (id[3].toNat):=⟨(id[3].toNat:Int),by simp[u8v,u8s],rfl⟩
    obtain⟨x4,e4⟩:∃x:Int,(u8v id)[4]'(by simp)=.int .u8 x/\Value.int .u8 x=.int .u8 (id[4].toNat):=⟨(id[4].toNat:Int),by simp[u8v,u8s],rfl⟩
    obtain⟨x5,e5⟩:∃x:Int,(u8v id)[5]'(by simp)=.int .u8 x/\Value.int .u8 x=.int .u8 (id[5].toNat):=⟨(id[5].toNat:Int),by simp[u8v,u8s],rfl⟩
    obtain⟨x6,e6⟩:∃x:Int,(u8v id)[6]'(by simp)=.int .u8 x/\Value.int .u8 x=.int .u8 (id[6].toNat):=⟨(id[6].toNat:Int),by simp[u8v,u8s],rfl⟩
    obtain⟨x7,e7⟩:∃x:Int,(u8v id)[7]'(by simp)=.int .u8 x/\Value.int .u8 x=.int .u8 (id[7].toNat):=⟨(id[7].toNat:Int),by simp[u8v,u8s],rfl⟩
    have hmac:[Value.int .u8 2,.int .u8 x3,.int .u8 x4,.int .u8 x5,.int .u8 x6,.int .u8 x7]=u8v (#v[2,id[3],id[4],id[5],id[6],id[7]]:Vector UInt8 6):=by
     rw[e3.2,e4.2,e5.2,e6.2,e7.2]
     rfl
    obtain⟨mac,hmc⟩:∃mac:Vector UInt8 6,(#v[2,id[3],id[4],id[5],id[6],id[7]]:Vector UInt8 6)=mac:=⟨_,rfl⟩
    rw[hmc]at hmac
    have hb96:(aAH 77 [(0,Value.int .u8 2),(1,(u8v id)[3]'(by simp)),(2,(u8v id)[4]'(by simp)),(3,(u8v id)[5]'(by simp)),(4,(u8v id)[6]'(by simp)),(5,(u8v id)[7]'(by simp))]).run Tryz.prog w5=.ok (.agg (u8v mac).toArray) w5:=by
     rw[e3.1,e4.1,e5.1,e6.1,e7.1,<-hmac]
     exact(vQ (by rfl)).trans (by rfl)
    clear hmc hmac e3 e4 e5 e6 e7
    obtain⟨w6,hw6⟩:∃x,w5.alloc (.cells (u8v id++(Value.int .i64 ma::Value.int .i64 he::Value.int .i64 de::Value.int .i64 ageing::Value.slice pa ps.length cap::(u8v mac++(aH 2 (Value.pointer none)++[Value.slice none 0 0,Value.pointer (some ⟨Q,0,none⟩),Value.int .u32 0,Value.int .i64 0])))).toArray 83)=x:=⟨_,rfl⟩
    have b6:Below w5.heap.size w5 w6:=by rw[<-hw6];exact ba_
    have z6:w6.heap.size=w5.heap.size+1:=by rw[<-hw6,aF]
    obtain⟨N,hN⟩:∃N,w5.heap.size=N:=⟨_,rfl⟩
    have rN6:row w6 N=(u8v id++(Value.int .i64 ma::Value.int .i64 he::Value.int .i64 de::Value.int .i64 ageing::Value.slice pa ps.length cap::(u8v mac++(aH 2 (Value.pointer none)++[Value.slice none 0 0,Value.pointer (some ⟨Q,0,none⟩),Value.int .u32 0,Value.int .i64 0])))).toArray:=by rw[<-hw6,<-hN];exact aE _ _ _ rfl
    have r16:=(aA b6 (show w.heap.size<w5.heap.size by omega)).trans r15
    have r26:=(aA b6 (show w.heap.size+1<w5.heap.size by omega)).trans r25
    have rQ6:=(aA b6 (show Q<w5.heap.size by omega)).trans ((aA b5 (show Q<w4.heap.size by omega)).trans ((aA b4 zQ).trans rQ))
    have B6:Below w.heap.size w w6:=B5.trans (b6.mono (by omega))
    have hPX:PXOff [N] w6 pa ps:=(h.moreN (x:=N) (by omega)).below B6
    have HP:=h_ (aHE id ma he de ageing pa cap ps mac (some ⟨Q,0,none⟩) N r k p d w6 (by rw[rN6];unfold cY;rfl) hPX hn32 ht)
    go_wp2_with fail
    (try rw[hN])
    (try rw[hw6])
    (try clear hw6)
    (with_reducible refine HP.out.mono ?_)
    rintro e w7 ⟨ppa,ppc,ca,cc,cs,rfl,rows,ea,ec,es,PI⟩
    have z7:=PI.low.size
    have r17:=(PI.low.row (show w.heap.size<w6.heap.size by omega) (show w.heap.size≠N by omega)).trans r16
    have rQ7:=(PI.low.row (show Q<w6.heap.size by omega) (show Q≠N by omega)).trans rQ6
    have rN7:=PI.rN
    unfold cY at rN7
    have kN7:N<w7.heap.size:=by omega
    have kQ7:Q<w7.heap.size:=by omega
    have hpo:PortsOff [] w7 ppa (ps.map (·.p)):=aGL PI.own1 (by rw[List.length_map];exact hn) (fun x hx=>by cases hx) (by
     intro q p hq
     rw[List.getElem?_map]at hq
     cases hr:ps[q]? with
     | none=>rw[hr]at hq;cases hq
     | some x=>
      rw[hr]at hq
      simp only[Option.map_some,Option.some.injEq]at hq
      subst hq
      obtain⟨ta,tc,e1,e2⟩:=PI.rows q x (List.getElem?_eq_some_iff.1 hr).1 hr
      exact⟨ta,tc,e1,(e2.kept (BelowS.one PI.low (by simp))).more fun y hy=>by cases hy⟩)
    have hNW:=aER ageing ppa ppc (ps.map (·.p)) w7 (List.range w7.heap.size) (by
     intro x hx
     simpa using hx) hpo (by rw[List.length_map];exact hn)
    rw[List.length_map]at hNW
    have HNW:=h_ hNW
    have HPI:=h_ PI
    have HZ6:=h_ z6
    have HRN:=h_ hrn
    have BW7:Below w.heap.size w w7:=B6.trans ((PI.low.mono (by omega)).below (by omega))
    clear hNW hpo PI z6 hrn r16 r26 rN6 rQ6 hrp hrt
    go_wp2_with fail
    (with_reducible refine HNW.out.mono ?_)
    rintro e w8 (⟨hno,_⟩ | ⟨_,A,rfl,hnb,hex,hlt⟩)
    ·rw[HRN.out]at hno;cases hno
    have b8:=hnb.below
    have z8:=b8.size
    have r18:=(aA b8 (show w.heap.size<w7.heap.size by omega)).trans r17
    have rQ8:=(aA b8 kQ7).trans rQ7
    have rN8:=(aA b8 kN7).trans rN7
    obtain⟨AB,hAB⟩:∃x,A.B=x:=⟨_,rfl⟩
    rw[hAB]
    have HAB:=h_ hAB
    have HNB:=h_ hnb
    have HEX:=h_ hex
    have HLT:=h_ hlt
    obtain⟨w9,hw9⟩:∃x,w8.setRow N (u8v id++(Value.int .i64 ma::Value.int .i64 he::Value.int .i64 de::Value.int .i64 ageing::Value.slice pa ps.length cap::(u8v mac++[Value.pointer (some ⟨AB,0,none⟩),Value.pointer none,Value.slice ea ps.length ec,Value.pointer (some ⟨Q,0,none⟩),Value.int .u32 0,Value.int .i64 0]))).toArray=x:=⟨_,rfl⟩
    have rN9:row w9 N=(u8v id++(Value.int .i64 ma::Value.int .i64 he::Value.int .i64 de::Value.int .i64 ageing::Value.slice pa ps.length cap::(u8v mac++[Value.pointer (some ⟨AB,0,none⟩),Value.pointer none,Value.slice ea ps.length ec,Value.pointer (some ⟨Q,0,none⟩),Value.int .u32 0,Value.int .i64 0]))).toArray:=by rw[<-hw9];exact aB (by rw[rN8];simp) (by rw[rN8];simp)
    have kk9:∀X,X≠N->w9.heap[X]? =w8.heap[X]? :=fun X hX=>by rw[<-hw9];exact aO _ _ _ hX
    have z9:w9.heap.size=w8.heap.size:=by rw[<-hw9,setRow_size]
    have b9:BelowBut w8.heap.size N w8 w9:=by rw[<-hw9];exact BelowBut.set _ _
    have r19:=(b9.row (show w.heap.size<w8.heap.size by omega) (show w.heap.size≠N by omega)).trans r18
    have rQ9:=(b9.row (show Q<w8.heap.size by omega) (show Q≠N by omega)).trans rQ8
    have HZ9:=h_ z9
    have HK9:=h_ kk9
    clear hnb hex hlt hAB z9 kk9 rN7 r17 rQ7 b8
    have NT0:∀(W:World) (sp:Option Addr),BelowBut w9.heap.size N w9 W->row W N=(cY id ma he de ageing pa ps.length cap mac (some ⟨A.B,0,none⟩) sp ea ps.length ec (some ⟨Q,0,none⟩) 0 0).toArray->(sp=none∨∃S s,sp=some ⟨S,0,none⟩/\SpT W w9.heap.size S s/\s.ps.length<=32/\s.now=0/\1<=s.he/\s.he<=1000)->NodeT w W N Q id ma he de ageing pa cap ps mac r k p d room A sp ea ec es 0:=by
     intro W sp hW hrow hsp
     have hbn:=HNB.out
     have zz9:=HZ9.out
     have hexU:∀x,x<w7.heap.size->x∈A.ex:=fun x hx=>by rw[HEX.out];simp[hx]
     have hexN:N∈A.ex/\Q∈A.ex:=⟨hexU N (by omega),hexU Q (by omega)⟩
     have hlo:∀b∈[A.B,A.SB,A.LT,A.LM,A.HT,A.HM],N<b/\Q<b:=fun b hb=>by have:=hbn.lo b hb;omega
     have hbr0:BrT w9 A (aCM ageing (ps.map (·.p))):=by rw[<-hw9];exact hbn.br.other hexN.1 (fun b hb=>by have:=hlo b hb;omega) _
     have hbr9:BrT W A (aCM ageing (ps.map (·.p))):=hbr0.otherB hexN.1 (fun b hb=>by have:=hlo b hb;omega) hW
     have hWs:=hW.size
     have hB9:BelowBut w7.heap.size N w7 W:=(BelowBut.of hbn.below).trans ((b9.mono z8).trans (hW.mono (by omega)))
     have hmuts:∀b∈A.muts,w7.heap.size<=b:=fun b hb=>hbn.lo b (dJ hb)
     have hPE:=HPI.out.ends
     rw[List.take_length]at hPE
     refine⟨hrow,(hW.row (show Q<w9.heap.size by omega) (by omega)).trans rQ9,by omega,by omega,by omega,hexN,hlo,by rw[aKr];exact hbr9,HRN.out,⟨w6.heap.size,w7,by have:=HZ6.out;omega,by have:=HZ6.out;omega,HPI.out.own3,hPE,by omega,fun X hX hl=>hB9.block X hl (by have:=HZ6.out;omega),hmuts,hexU⟩,?_,BW7.trans ((hB9.mono (by omega)).below (by omega)),fun x hx=>hexU x (by have:=BW7.size;omega)⟩
     rcases hsp with h1 | ⟨S,s,h1,h2,h3⟩
     ·exact .inl h1
     ·exact .inr ⟨w9.heap.size,S,s,h1,h2,h3,by omega,by omega,fun b hb=>by have:=HLT.out b (dJ hb);omega,BrL.kept hbr0.brL hWs fun k hk hn=>hW.block k hk fun e=>hn (e▸List.mem_append_right _ hexN.1)⟩
    have HNT0:=h_ NT0
    clear NT0 b9
    by_cases hcs:cs=[]
    ·subst hcs
     have NT:=HNT0.out w9 none (BelowBut.of (Below.refl _ _)) (by rw[rN9,HAB.out];unfold cY;rfl) (.inl rfl)
     have HNT:=h_ NT
     clear NT HNT0
     go_wp2_with fail
     (try rw[hw9])
     (try clear hw9)
     clear rN9 rQ9 r19
     go_loopw [99] (fun i wr=>∃j:Nat,j<=ps.length/\i=.int .i64 j/\NodeT w wr N Q id ma he de ageing pa cap ps mac r k p d room A none ea ec es j) (fun i _=>ps.length - (intOf i).toNat)
     case atStart=>exact⟨0,by omega,rfl,HNT.out⟩
     case round=>
      obtain⟨j,hj,rfl,hT⟩:=hrel
      clear HNT
      have rN:=hT.rN
      unfold cY at rN
      have HT:=h_ hT
      by_cases hlt:j<ps.length
      ·have hltI:(j:Int)<(ps.length:Int):=by omega
       obtain⟨eb,eo,rfl,hebl,hcase⟩:=hT.get hlt
       clear hT
       rcases hcase with ⟨hl,hc⟩ | ⟨hl,x,hc,_⟩
       ·have HS:=h_ (HT.out.state hlt hl)
        go_wp2_with fail
        (with_reducible refine HS.out.mono ?_)
        rintro e w20 ⟨rfl,hT2⟩
        have HT2:=h_ hT2
        clear hT2 hc HS HT rN
        go_wp2_with fail
        go_roundw
        case rel=>exact⟨j+1,by omega,by simp,HT2.out⟩
        case measure=>simp[intOf];omega
       ·have hT2:=HT.out.skip (by unfold aFu;rw[List.getElem?_eq_getElem hlt];simp[hl])
        have HT2:=h_ hT2
        clear hT2 HT
        go_wp2_with fail
        go_roundw
        case rel=>exact⟨j+1,by omega,by simp,HT2.out⟩
        case measure=>simp[intOf];omega
      ·obtain rfl:j=ps.length:=by omega
       have hltI:¬(ps.length:Int)<(ps.length:Int):=by omega
       clear hT
       go_wp2_with fail
       go_ret2
       exact .inr ⟨by unfold oQ;rw[decide_eq_true hq,decide_eq_true ht,hr];rfl,N,rfl,Q,mac,A,none,_,ec,es,HT.out⟩
    ·have hcl:0<cs.length:=List.length_pos_iff.2 hcs
     have hclI:(0:Int)<(cs.length:Int):=by omega
     have hcs9:=(HPI.out.own2.below HNB.out.below).keep (w':=w9) fun X hX=>HK9.out X (by have:=((HPI.out.own2.below HNB.out.below).blk hX).1;have:=HZ6.out;omega)
     have hIA:IntsAt w9 ca cs:=by
      obtain⟨a,c,e,he⟩:=hcs9.elems
      simp only[List.length_map,Value.slice.injEq,true_and]at e
      obtain⟨rfl,_⟩:=e
      exact he
     have HIA:=h_ hIA
     clear hIA hcs9
     cases hsp:aJJ cs ma he de with
     | false=>
      go_wp2_with fail
      (try rw[hw9])
      (try clear hw9)
      (with_reducible refine(tY id ca cc cs ma he de w9 HIA.out hsp).mono ?_)
      rintro e w10 ⟨rfl,b10⟩
      have z10:=b10.size
      have rN10:=(aA b10 (show N<w9.heap.size by have:=HZ9.out;omega)).trans rN9
      obtain⟨w11,hw11⟩:∃x,w10.setRow N (u8v id++(Value.int .i64 ma::Value.int .i64 he::Value.int .i64 de::Value.int .i64 ageing::Value.slice pa ps.length cap::(u8v mac++[Value.pointer (some ⟨AB,0,none⟩),Value.pointer none,Value.slice ea ps.length ec,Value.pointer (some ⟨Q,0,none⟩),Value.int .u32 0,Value.int .i64 0]))).toArray=x:=⟨_,rfl⟩
      have rN11:row w11 N=(u8v id++(Value.int .i64 ma::Value.int .i64 he::Value.int .i64 de::Value.int .i64 ageing::Value.slice pa ps.length cap::(u8v mac++[Value.pointer (some ⟨AB,0,none⟩),Value.pointer none,Value.slice ea ps.length ec,Value.pointer (some ⟨Q,0,none⟩),Value.int .u32 0,Value.int .i64 0]))).toArray:=by rw[<-hw11];exact aB (by rw[rN10]<;>simp) (by rw[rN10]<;>simp)
      have b11:BelowBut w9.heap.size N w9 w11:=by rw[<-hw11];exact(BelowBut.of b10).trans ((BelowBut.set _ _).mono z10)
      have NT:=HNT0.out w11 (none) b11 (by rw[rN11,HAB.out];unfold cY;rfl) (.inl rfl)
      have HNT:=h_ NT
      clear NT HNT0 b11 b10 rN9 rQ9 r19
      go_wp2_with fail
      (try rw[hw11])
      (try clear hw11)
      clear rN10 rN11
      go_loopw [99] (fun i wr=>∃j:Nat,j<=ps.length/\i=.int .i64 j/\NodeT w wr N Q id ma he de ageing pa cap ps mac r k p d room A none ea ec es j) (fun i _=>ps.length - (intOf i).toNat)
      case atStart=>exact⟨0,by omega,rfl,HNT.out⟩
      case round=>
       obtain⟨j,hj,rfl,hT⟩:=hrel
       clear HNT
       have rN:=hT.rN
       unfold cY at rN
       have HT:=h_ hT
       by_cases hlt:j<ps.length
       ·have hltI:(j:Int)<(ps.length:Int):=by omega
        obtain⟨eb,eo,rfl,hebl,hcase⟩:=hT.get hlt
        clear hT
        rcases hcase with ⟨hl,hc⟩ | ⟨hl,x,hc,_⟩
        ·have HS:=h_ (HT.out.state hlt hl)
         go_wp2_with fail
         (with_reducible refine HS.out.mono ?_)
         rintro e w20 ⟨rfl,hT2⟩
         have HT2:=h_ hT2
         clear hT2 hc HS HT rN
         go_wp2_with fail
         go_roundw
         case rel=>exact⟨j+1,by omega,by simp,HT2.out⟩
         case measure=>simp[intOf];omega
        ·have hT2:=HT.out.skip (by unfold aFu;rw[List.getElem?_eq_getElem hlt];simp[hl])
         have HT2:=h_ hT2
         clear hT2 HT
         go_wp2_with fail
         go_roundw
         case rel=>exact⟨j+1,by omega,by simp,HT2.out⟩
         case measure=>simp[intOf];omega
       ·obtain rfl:j=ps.length:=by omega
        have hltI:¬(ps.length:Int)<(ps.length:Int):=by omega
        clear hT
        go_wp2_with fail
        go_ret2
        exact .inr ⟨by unfold oQ;rw[decide_eq_true hq,decide_eq_true ht,hr];rfl,N,rfl,Q,mac,A,none,_,ec,es,HT.out⟩
     | true=>
      go_wp2_with fail
      (try rw[hw9])
      (try clear hw9)
      (with_reducible refine(zO id ca cc cs ma he de w9 HIA.out hsp).mono ?_)
      rintro e w10 ⟨S,sd,rfl,hST,hsl,_,hsh,_,hsn,b10⟩
      have z10:=b10.size
      have rN10:=(aA b10 (show N<w9.heap.size by have:=HZ9.out;omega)).trans rN9
      obtain⟨w11,hw11⟩:∃x,w10.setRow N (u8v id++(Value.int .i64 ma::Value.int .i64 he::Value.int .i64 de::Value.int .i64 ageing::Value.slice pa ps.length cap::(u8v mac++[Value.pointer (some ⟨AB,0,none⟩),Value.pointer (some ⟨S,0,none⟩),Value.slice ea ps.length ec,Value.pointer (some ⟨Q,0,none⟩),Value.int .u32 0,Value.int .i64 0]))).toArray=x:=⟨_,rfl⟩
      have rN11:row w11 N=(u8v id++(Value.int .i64 ma::Value.int .i64 he::Value.int .i64 de::Value.int .i64 ageing::Value.slice pa ps.length cap::(u8v mac++[Value.pointer (some ⟨AB,0,none⟩),Value.pointer (some ⟨S,0,none⟩),Value.slice ea ps.length ec,Value.pointer (some ⟨Q,0,none⟩),Value.int .u32 0,Value.int .i64 0]))).toArray:=by rw[<-hw11];exact aB (by rw[rN10]<;>simp) (by rw[rN10]<;>simp)
      have b11:BelowBut w9.heap.size N w9 w11:=by rw[<-hw11];exact(BelowBut.of b10).trans ((BelowBut.set _ _).mono z10)
      have NT:=HNT0.out w11 (some ⟨S,0,none⟩) b11 (by rw[rN11,HAB.out];unfold cY;rfl) (.inr ⟨S,sd,rfl,hST.kept (fun X hX _=>by rw[<-hw11];exact aO _ _ _ (by have:=HZ9.out;omega)),by unfold aJJ fT at hsp;simp only[Bool.and_eq_true,decide_eq_true_eq]at hsp;exact⟨by rw[hsl];exact hsp.1.2,hsn,by omega,by omega⟩⟩)
      have HNT:=h_ NT
      clear NT HNT0 b11 b10 rN9 rQ9 r19 hST hsl
      go_wp2_with fail
      (try rw[hw11])
      (try clear hw11)
      clear rN10 rN11
      go_loopw [99] (fun i wr=>∃j:Nat,j<=ps.length/\i=.int .i64 j/\NodeT w wr N Q id ma he de ageing pa cap ps mac r k p d room A (some ⟨S,0,none⟩) ea ec es j) (fun i _=>ps.length - (intOf i).toNat)
      case atStart=>exact⟨0,by omega,rfl,HNT.out⟩
      case round=>
       obtain⟨j,hj,rfl,hT⟩:=hrel
       clear HNT
       have rN:=hT.rN
       unfold cY at rN
       have HT:=h_ hT
       by_cases hlt:j<ps.length
       ·have hltI:(j:Int)<(ps.length:Int):=by omega
        obtain⟨eb,eo,rfl,hebl,hcase⟩:=hT.get hlt
        clear hT
        rcases hcase with ⟨hl,hc⟩ | ⟨hl,x,hc,_⟩
        ·have HS:=h_ (HT.out.state hlt hl)
         go_wp2_with fail
         (with_reducible refine HS.out.mono ?_)
         rintro e w20 ⟨rfl,hT2⟩
         have HT2:=h_ hT2
         clear hT2 hc HS HT rN
         go_wp2_with fail
         go_roundw
         case rel=>exact⟨j+1,by omega,by simp,HT2.out⟩
         case measure=>simp[intOf];omega
        ·have hT2:=HT.out.skip (by unfold aFu;rw[List.getElem?_eq_getElem hlt];simp[hl])
         have HT2:=h_ hT2
         clear hT2 HT
         go_wp2_with fail
         go_roundw
         case rel=>exact⟨j+1,by omega,by simp,HT2.out⟩
         case measure=>simp[intOf];omega
       ·obtain rfl:j=ps.length:=by omega
        have hltI:¬(ps.length:Int)<(ps.length:Int):=by omega
        clear hT
        go_wp2_with fail
        go_ret2
        exact .inr ⟨by unfold oQ;rw[decide_eq_true hq,decide_eq_true ht,hr];rfl,N,rfl,Q,mac,A,some ⟨S,0,none⟩,_,ec,es,HT.out⟩
  ·cases hr:mI ma he de ageing ps
   all_goals
    go_wp2_with fail
    (with_reducible refine(aCO room hq _).mono ?_)
    rintro e w3 ⟨Q,rfl,gQ,zQ,rQ,b3⟩
    have z3:=b3.size
    have r13:=(aA b3 k1).trans r1
    have r23:=(aA b3 k2).trans r2
    go_wp2_with fail
    (with_reducible refine(HLB.out ht _).mono ?_)
    rintro e w4 ⟨rfl,b4⟩
    have z4:=b4.size
    have r14:=(aA b4 (show w.heap.size<w3.heap.size by omega)).trans r13
    have r24:=(aA b4 (show w.heap.size+1<w3.heap.size by omega)).trans r23
    have B4:Below w.heap.size w w4:=b2.trans ((b3.mono (by omega)).trans (b4.mono (by omega)))
    have HC:=h_ (fD id ma he de ageing pa cap ps w4 (h.below (B4.mono (Nat.le_refl _))) (by omega))
    unfold hZ at HC
    go_wp2_with fail
    (with_reducible refine HC.out.mono ?_)
    rintro e w5 ⟨rfl,b5⟩
    have z5:=b5.size
    have r15:=(aA b5 (show w.heap.size<w4.heap.size by omega)).trans r14
    have r25:=(aA b5 (show w.heap.size+1<w4.heap.size by omega)).trans r24
    have B5:Below w.heap.size w w5:=B4.trans (b5.mono (by omega))
    rw[hr]
    go_wp2_with fail
    go_ret2
    exact .inl ⟨by unfold oQ;rw[decide_eq_true hq,decide_eq_false ht,hr];simp,rfl,B5⟩
 ·by_cases ht:nB r k p d
  ·cases hr:mI ma he de ageing ps
   all_goals
    go_wp2_with fail
    (with_reducible refine(aD0 room hq _).mono ?_)
    rintro e w3 ⟨rfl,b3⟩
    have z3:=b3.size
    have r13:=(aA b3 k1).trans r1
    have r23:=(aA b3 k2).trans r2
    go_wp2_with fail
    (with_reducible refine(HLO.out ht _).mono ?_)
    rintro e w4 ⟨L,rfl,gL,zL,rL,b4⟩
    clear rL
    have z4:=b4.size
    have r14:=(aA b4 (show w.heap.size<w3.heap.size by omega)).trans r13
    have r24:=(aA b4 (show w.heap.size+1<w3.heap.size by omega)).trans r23
    have B4:Below w.heap.size w w4:=b2.trans ((b3.mono (by omega)).trans (b4.mono (by omega)))
    have HC:=h_ (fD id ma he de ageing pa cap ps w4 (h.below (B4.mono (Nat.le_refl _))) (by omega))
    unfold hZ at HC
    go_wp2_with fail
    (with_reducible refine HC.out.mono ?_)
    rintro e w5 ⟨rfl,b5⟩
    have z5:=b5.size
    have r15:=(aA b5 (show w.heap.size<w4.heap.size by omega)).trans r14
    have r25:=(aA b5 (show w.heap.size+1<w4.heap.size by omega)).trans r24
    have B5:Below w.heap.size w w5:=B4.trans (b5.mono (by omega))
    rw[hr]
    go_wp2_with fail
    go_ret2
    exact .inl ⟨by unfold oQ;rw[decide_eq_false hq,decide_eq_true ht,hr];simp,rfl,B5⟩
  ·cases hr:mI ma he de ageing ps
   all_goals
    go_wp2_with fail
    (with_reducible refine(aD0 room hq _).mono ?_)
    rintro e w3 ⟨rfl,b3⟩
    have z3:=b3.size
    have r13:=(aA b3 k1).trans r1
    have r23:=(aA b3 k2).trans r2
    go_wp2_with fail
    (with_reducible refine(HLB.out ht _).mono ?_)
    rintro e w4 ⟨rfl,b4⟩
    have z4:=b4.size
    have r14:=(aA b4 (show w.heap.size<w3.heap.size by omega)).trans r13
    have r24:=(aA b4 (show w.heap.size+1<w3.heap.size by omega)).trans r23
    have B4:Below w.heap.size w w4:=b2.trans ((b3.mono (by omega)).trans (b4.mono (by omega)))
    have HC:=h_ (fD id ma he de ageing pa cap ps w4 (h.below (B4.mono (Nat.le_refl _))) (by omega))
    unfold hZ at HC
    go_wp2_with fail
    (with_reducible refine HC.out.mono ?_)
    rintro e w5 ⟨rfl,b5⟩
    have z5:=b5.size
    have r15:=(aA b5 (show w.heap.size<w4.heap.size by omega)).trans r14
    have r25:=(aA b5 (show w.heap.size+1<w4.heap.size by omega)).trans r24
    have B5:Below w.heap.size w w5:=B4.trans (b5.mono (by omega))
    rw[hr]
    go_wp2_with fail
    go_ret2
    exact .inl ⟨by unfold oQ;rw[decide_eq_false hq,decide_eq_false ht,hr];simp,rfl,B5⟩
end
section
open Go.RowKit Go.Shelf
section
variable {id:Vector UInt8 8} {ma he de ageing:Int} {pa:Option Addr} {n cap:Nat} {mac:Vector UInt8 6} {br spn ea:Option Addr} {ne ec:Nat} {q:Option Addr} {sent ch:Int} {w:World} {N:Nat}
theorem aK1 (hN:row w N=(cY id ma he de ageing pa n cap mac br spn ea ne ec q sent ch).toArray) (port:Int) (h:port<0∨(ne:Int)<=port):Calls Tryz.prog 27 #[.pointer (some ⟨N,0,none⟩),.int .i64 port] w fun e w'=>e=.returned (.tuple #[.bool false,.bool false])/\w'=w:=by
 unfold cY at hN
 go_enter Tryz.func27,Tryz.ntmps27
 rcases h with h | h
 ·go_wp2_with fail
  go_ret2
  exact⟨rfl,rfl⟩
 ·have h0:¬port<0:=by omega
  go_wp2_with fail
  go_ret2
  exact⟨rfl,rfl⟩
theorem vE {b off j:Nat} {x:Option Nat} (hN:row w N=(cY id ma he de ageing pa n cap mac br spn (some ⟨b,off,none⟩) ne ec q sent ch).toArray) (hj:j<ne) (hc:w.cell? ⟨b,off+j,none⟩=some (tA x)):Calls Tryz.prog 27 #[.pointer (some ⟨N,0,none⟩),.int .i64 (j:Int)] w fun e w'=>e=.returned (.tuple #[.bool true,.bool x.isSome])/\Below w.heap.size w w':=by
 unfold cY at hN
 have h0:¬(j:Int)<0:=by omega
 have h1:¬(ne:Int)<=(j:Int):=by omega
 have h2:(j:Int)<(ne:Int):=by omega
 have h3:(0:Int)<=(j:Int):=by omega
 unfold tA at hc
 cases x with
 | none=>
  simp only[Option.map_none]at hc
  go_enter Tryz.func27,Tryz.ntmps27
  go_wp2_with fail
  go_quiet (fail)
  go_wp2_with fail
  go_ret2
  exact⟨rfl,below_drewN (Below.refl _ _) _⟩
 | some y=>
  simp only[Option.map_some]at hc
  go_enter Tryz.func27,Tryz.ntmps27
  go_wp2_with fail
  go_quiet (fail)
  go_wp2_with fail
  go_ret2
  exact⟨rfl,below_drewN (Below.refl _ _) _⟩
theorem fN {w w':World} {b o:Nat} {v:Value} (h:w.cell? ⟨b,o,none⟩=some v) (hl:b<w.heap.size) (hb:Below w.heap.size w w'):w'.cell? ⟨b,o,none⟩=some v:=(bK b o v w w' ⟨h,hl⟩ hb).1
theorem aFv {b off j:Nat} (hN:row w N=(cY id ma he de ageing pa n cap mac br spn (some ⟨b,off,none⟩) ne ec q sent ch).toArray) (hj:j<ne) (hc:w.cell? ⟨b,off+j,none⟩=some (.pointer none)):Calls Tryz.prog 14 #[.pointer (some ⟨N,0,none⟩),.int .i64 (j:Int)] w fun e w'=>e=.returned (.int .i64 3)/\Below w.heap.size w w':=by
 have HH:=h_ (vE (x:=none) hN hj hc)
 go_enter Tryz.func14,Tryz.ntmps14
 go_wp2_with fail
 (with_reducible refine HH.out.mono ?_)
 rintro e w' ⟨rfl,b1⟩
 simp only[Option.isSome_none]
 go_wp2_with fail
 go_ret
 exact⟨rfl,b1⟩
theorem aK2 {b off j:Nat} (hN:row w N=(cY id ma he de ageing pa n cap mac br spn (some ⟨b,off,none⟩) ne ec q sent ch).toArray) (hj:j<ne) (hc:w.cell? ⟨b,off+j,none⟩=some (.pointer none)):Calls Tryz.prog 13 #[.pointer (some ⟨N,0,none⟩),.int .i64 (j:Int)] w fun e w'=>e=.returned (.bool true)/\Below w.heap.size w w':=by
 have HH:=h_ (vE (x:=none) hN hj hc)
 go_enter Tryz.func13,Tryz.ntmps13
 go_wp2_with fail
 (with_reducible refine HH.out.mono ?_)
 rintro e w' ⟨rfl,b1⟩
 simp only[Option.isSome_none]
 go_wp2_with fail
 go_ret
 exact⟨rfl,b1⟩
theorem aDl {b off j x L M:Nat} {pl:Int} (hN:row w N=(cY id ma he de ageing pa n cap mac br spn (some ⟨b,off,none⟩) ne ec q sent ch).toArray) (hj:j<ne) (hb:b<w.heap.size) (hc:w.cell? ⟨b,off+j,none⟩=some (.pointer (some ⟨x,0,none⟩))) (hx:row w x=aAF L M pl)
  (hS:∀W,Below w.heap.size w W->Calls Tryz.prog 32 #[.pointer spn,.int .i64 pl] W fun e w'=>e=.returned (.int .i64 0)/\Below W.heap.size W w'):Calls Tryz.prog 14 #[.pointer (some ⟨N,0,none⟩),.int .i64 (j:Int)] w fun e w'=>e=.returned (.int .i64 0)/\Below w.heap.size w w':=by
 have zN:N<w.heap.size:=aM (i:=0) (by rw[hN];simp[cY])
 have zx:x<w.heap.size:=aM (i:=0) (by rw[hx];simp[aAF])
 have HH:=h_ (vE (x:=some x) hN hj hc)
 have HS:=h_ hS
 have HB:=h_ hb
 clear hS hb
 have hjI:(j:Int)<(ne:Int):=by omega
 go_enter Tryz.func14,Tryz.ntmps14
 go_wp2_with fail
 (with_reducible refine HH.out.mono ?_)
 rintro e w1 ⟨rfl,b1⟩
 have rN1:=(aA b1 zN).trans hN
 have rx1:=(aA b1 zx).trans hx
 have hc1:=fN hc HB.out b1
 unfold cY at rN1
 unfold aAF at rx1
 clear hN hx hc
 simp only[Option.isSome_some]
 have cN3:w1.cell? ⟨N,20,none⟩=some (.pointer spn):=by rw[aQ (by rw[rN1];simp),rN1];simp
 have cN4:w1.cell? ⟨N,21,none⟩=some (.slice (some ⟨b,off,none⟩) ne ec):=by rw[aQ (by rw[rN1];simp),rN1];simp
 have cx:w1.cell? ⟨x,2,none⟩=some (.int .i64 pl):=by rw[aQ (by rw[rx1];simp),rx1];rfl
 have zs1:=b1.size
 have kb:=HB.out
 have hG:GrowP fun W=>(W.cell? ⟨N,20,none⟩=some (.pointer spn)/\N<W.heap.size)/\(W.cell? ⟨N,21,none⟩=some (.slice (some ⟨b,off,none⟩) ne ec)/\N<W.heap.size)/\(W.cell? ⟨b,off+j,none⟩=some (.pointer (some ⟨x,0,none⟩))/\b<W.heap.size)/\(W.cell? ⟨x,2,none⟩=some (.int .i64 pl)/\x<W.heap.size):=GrowP.and (bK _ _ _) (GrowP.and (bK _ _ _) (GrowP.and (bK _ _ _) (bK _ _ _)))
 have hX:(w1.cell? ⟨N,20,none⟩=some (.pointer spn)/\N<w1.heap.size)/\(w1.cell? ⟨N,21,none⟩=some (.slice (some ⟨b,off,none⟩) ne ec)/\N<w1.heap.size)/\(w1.cell? ⟨b,off+j,none⟩=some (.pointer (some ⟨x,0,none⟩))/\b<w1.heap.size)/\(w1.cell? ⟨x,2,none⟩=some (.int .i64 pl)/\x<w1.heap.size):=⟨⟨cN3,by omega⟩,⟨cN4,by omega⟩,⟨hc1,by omega⟩,cx,by omega⟩
 have HX:=h_ hX
 clear hX cN3 cN4 cx hc1 rN1 rx1
 go_wp2_with fail
 have hG2:GrowP (fun W=>Below w1.heap.size w1 W/\(W.cell? ⟨N,20,none⟩=some (.pointer spn)/\N<W.heap.size)/\(W.cell? ⟨N,21,none⟩=some (.slice (some ⟨b,off,none⟩) ne ec)/\N<W.heap.size)/\(W.cell? ⟨b,off+j,none⟩=some (.pointer (some ⟨x,0,none⟩))/\b<W.heap.size)/\(W.cell? ⟨x,2,none⟩=some (.int .i64 pl)/\x<W.heap.size)):=GrowP.and (fun w w' h hb=>h.trans (hb.mono h.size)) hG
 clear hG
 have hG:=hG2
 clear hG2
 refine nV [] (fun W=>Below w1.heap.size w1 W/\(W.cell? ⟨N,20,none⟩=some (.pointer spn)/\N<W.heap.size)/\(W.cell? ⟨N,21,none⟩=some (.slice (some ⟨b,off,none⟩) ne ec)/\N<W.heap.size)/\(W.cell? ⟨b,off+j,none⟩=some (.pointer (some ⟨x,0,none⟩))/\b<W.heap.size)/\(W.cell? ⟨x,2,none⟩=some (.int .i64 pl)/\x<W.heap.size)) hG (⟨Below.refl _ _,HX.out⟩) (fun hS=>?_)
 refine sp 0 hG hS ?_
 refine sp 1 hG hS ?_
 refine sp 2 hG hS ?_
 refine sp 3 hG hS ?_
 refine sp 4 hG hS ?_
 refine sp 5 hG hS ?_
 refine sp 6 hG hS ?_
 refine sp 7 hG hS ?_
 refine sp 8 hG hS ?_
 refine sp 9 hG hS ?_
 refine sp 10 hG hS ?_
 refine sp 11 hG hS ?_
 refine sp 12 hG hS ?_
 refine sp 13 hG hS ?_
 refine sc 14 (v:=?_) hG hS ?_ ?_
 rotate_left
 ·intro w' hS'
  obtain⟨hS',hX'⟩:=hS'
  simp only[Rws]at hS'
  go_simp
  with_reducible refine(HS.out _ (b1.trans (hX'.1.mono zs1))).mono ?_
  rintro e w'' ⟨rfl,hb⟩
  exact⟨_,rfl,by rfl,hb⟩
 refine sp 15 hG hS ?_
 refine aG kr_ (fun y2 by2=>?_) _
 have B2:=(hG _ _ hS.2 by2).1
 go_wp2_with fail
 go_ret
 exact⟨rfl,b1.trans (B2.mono zs1)⟩
theorem aJo {b off j x L M:Nat} {pl:Int} (hN:row w N=(cY id ma he de ageing pa n cap mac br spn (some ⟨b,off,none⟩) ne ec q sent ch).toArray) (hj:j<ne) (hb:b<w.heap.size) (hc:w.cell? ⟨b,off+j,none⟩=some (.pointer (some ⟨x,0,none⟩))) (hx:row w x=aAF L M pl)
  (hS:∀W,Below w.heap.size w W->Calls Tryz.prog 31 #[.pointer (some ⟨L,0,none⟩)] W fun e w'=>e=.returned (.bool false)/\Below W.heap.size W w'):Calls Tryz.prog 13 #[.pointer (some ⟨N,0,none⟩),.int .i64 (j:Int)] w fun e w'=>e=.returned (.bool false)/\Below w.heap.size w w':=by
 have zN:N<w.heap.size:=aM (i:=0) (by rw[hN];simp[cY])
 have zx:x<w.heap.size:=aM (i:=0) (by rw[hx];simp[aAF])
 have HH:=h_ (vE (x:=some x) hN hj hc)
 have HS:=h_ hS
 have HB:=h_ hb
 clear hS hb
 have hjI:(j:Int)<(ne:Int):=by omega
 go_enter Tryz.func13,Tryz.ntmps13
 go_wp2_with fail
 (with_reducible refine HH.out.mono ?_)
 rintro e w1 ⟨rfl,b1⟩
 have rN1:=(aA b1 zN).trans hN
 have rx1:=(aA b1 zx).trans hx
 have hc1:=fN hc HB.out b1
 unfold cY at rN1
 unfold aAF at rx1
 clear hN hx hc
 simp only[Option.isSome_some]
 have zs1:=b1.size
 go_wp2_with fail
 (with_reducible refine(HS.out _ b1).mono ?_)
 rintro e w2 ⟨rfl,b2⟩
 go_wp2_with fail
 go_ret
 exact⟨rfl,b1.trans (b2.mono zs1)⟩
end
end
section
open Go.RowKit Go.Shelf
structure NdP where
 id:Vector UInt8 8
 ma:Int
 he:Int
 de:Int
 ageing:Int
 pa:Option Addr
 pn:Nat
 cap:Nat
 mac:Vector UInt8 6
 B:Nat
 spn:Option Addr
 eb:Nat
 ec:Nat
 Q:Nat
 es:List (Option Nat)
 D:Nat
def NdP.cells (p:NdP):List Value:=cY p.id p.ma p.he p.de p.ageing p.pa p.pn p.cap p.mac (some ⟨p.B,0,none⟩) p.spn (some ⟨p.eb,0,none⟩) p.es.length p.ec (some ⟨p.Q,0,none⟩) 0 0
structure DownAt (S:List Nat) (D:Nat) (w:World) (x L M:Nat) (pl:Int) (t:LinkT):Prop where
 xS:x∉S
 rx:row w x=aAF L M pl
 LS:L∉S
 LD:L<D
 psk:t.psk.length=32
 dn:t.a=none
 rL:row w L=t.cells.toArray
structure Quiet (S:List Nat) (w:World) (N:Nat) (p:NdP):Prop where
 nS:N∉S
 nd:row w N=p.cells.toArray
 eS:p.eb∉S
 pos:0<p.es.length
 n32:p.es.length<=32
 ends:∃rest,row w p.eb=(p.es.map tA++rest).toArray
 down:∀x,some x∈p.es->∃L M pl t,DownAt S p.D w x L M pl t
 SD:∀b∈S,b<p.D
 span:p.spn=none∨∃sb s,p.spn=some ⟨sb,0,none⟩/\SpT w p.D sb s/\s.ps.length<=32
theorem LinkT.len {t:LinkT} (h:t.psk.length=32):t.cells.length=45:=by
 simp[LinkT.cells,h]
theorem DownAt.ltx {S:List Nat} {D:Nat} {w:World} {x L M:Nat} {pl:Int} {t:LinkT} (h:DownAt S D w x L M pl t):x<w.heap.size:=aM (i:=0) (by rw[h.rx];simp[aAF])
theorem DownAt.ltL {S:List Nat} {D:Nat} {w:World} {x L M:Nat} {pl:Int} {t:LinkT} (h:DownAt S D w x L M pl t):L<w.heap.size:=aM (i:=0) (by rw[h.rL];simp[LinkT.cells])
theorem Quiet.ltN {S:List Nat} {w:World} {N:Nat} {p:NdP} (h:Quiet S w N p):N<w.heap.size:=aM (i:=0) (by rw[h.nd];simp[NdP.cells,cY])
theorem Quiet.lte {S:List Nat} {w:World} {N:Nat} {p:NdP} (h:Quiet S w N p):p.eb<w.heap.size:=by
 obtain⟨rest,hr⟩:=h.ends
 exact aM (i:=0) (by rw[hr];have:=h.pos;simp;omega)
theorem Quiet.kept {S:List Nat} {w w':World} {N:Nat} {p:NdP} (h:Quiet S w N p) (hb:BelowS w.heap.size S w w'):Quiet S w' N p:=by
 refine⟨h.nS,(hb.row h.ltN h.nS).trans h.nd,h.eS,h.pos,h.n32,?_,fun x hx=>?_,h.SD,?_⟩
 ·obtain⟨rest,hr⟩:=h.ends
  exact⟨rest,(hb.row h.lte h.eS).trans hr⟩
 ·obtain⟨L,M,pl,t,d⟩:=h.down x hx
  exact⟨L,M,pl,t,d.xS,(hb.row d.ltx d.xS).trans d.rx,d.LS,d.LD,d.psk,d.dn,(hb.row d.ltL d.LS).trans d.rL⟩
 ·rcases h.span with h1 | ⟨sb,s,h1,h2,h3⟩
  ·exact .inl h1
  ·exact .inr ⟨sb,s,h1,h2.kept fun k hk hl=>hb.block k hl fun hm=>by have:=h.SD k hm;omega,h3⟩
theorem Quiet.below {S:List Nat} {w w':World} {N:Nat} {p:NdP} (h:Quiet S w N p) (hb:Below w.heap.size w w'):Quiet S w' N p:=h.kept (BelowS.of hb)
theorem aHG {es:List (Option Nat)} {rest:List Value} {w:World} {b q:Nat} (h:row w b=(es.map tA++rest).toArray) (hq:q<es.length):w.cell? ⟨b,q,none⟩=some (tA es[q]):=by
 have hs:q<(row w b).size:=by rw[h];simp;omega
 rw[aQ hs]
 rw[h,List.getElem?_toArray,List.getElem?_append_left (by simpa using hq),List.getElem?_map,List.getElem?_eq_getElem hq]
 rfl
theorem Quiet.link {S:List Nat} {w w':World} {N:Nat} {p:NdP} (h:Quiet S w N p) {x L M:Nat} {pl:Int} {t t':LinkT} (d:DownAt S p.D w x L M pl t) (hb:BelowBut w.heap.size L w w') (hp:t'.psk.length=32) (hd:t'.a=none) (hL:row w' L=t'.cells.toArray):Quiet S w' N p:=by
 have hbr:∀b,b<w.heap.size->b≠L->row w' b=row w b:=fun b hb1 hb2=>aJ (hb.block b hb1 hb2)
 have zL:(row w L).size=45:=by rw[d.rL];simpa using LinkT.len d.psk
 have fL:∃c:Int,(row w L)[0]? =some (.int .u8 c):=by
  rw[d.rL]
  have hp1:=d.psk
  unfold LinkT.cells
  cases hps:t.psk with
  | nil=>rw[hps]at hp1;simp at hp1
  | cons c l=>exact⟨(c.toNat:Int),by simp[u8s]⟩
 have nN:N≠L:=fun e=>by
  have:=h.nd
  rw[e]at this
  rw[this]at zL
  simp[NdP.cells,cY]at zL
 have ne:p.eb≠L:=fun e=>by
  obtain⟨rest,hr⟩:=h.ends
  obtain⟨c,hc⟩:=fL
  rw[<-e,hr]at hc
  cases hes:p.es with
  | nil=>have:=h.pos;rw[hes]at this;simp at this
  | cons y ys=>rw[hes]at hc;simp[tA]at hc
 refine⟨h.nS,(hbr N h.ltN nN).trans h.nd,h.eS,h.pos,h.n32,?_,fun y hy=>?_,h.SD,?_⟩
 ·obtain⟨rest,hr⟩:=h.ends
  exact⟨rest,(hbr _ h.lte ne).trans hr⟩
 ·obtain⟨L2,M2,pl2,t2,d2⟩:=h.down y hy
  have ny:y≠L:=fun e=>by
   have:=d2.rx
   rw[e]at this
   rw[this]at zL
   simp[aAF]at zL
  by_cases e:L2=L
  ·subst e
   exact⟨L2,M2,pl2,t',d2.xS,(hbr y d2.ltx ny).trans d2.rx,d2.LS,d2.LD,hp,hd,hL⟩
  ·exact⟨L2,M2,pl2,t2,d2.xS,(hbr y d2.ltx ny).trans d2.rx,d2.LS,d2.LD,d2.psk,d2.dn,(hbr L2 d2.ltL e).trans d2.rL⟩
 ·rcases h.span with h1 | ⟨sb,s,h1,h2,h3⟩
  ·exact .inl h1
  ·exact .inr ⟨sb,s,h1,h2.kept fun k hk hl=>hb.block k hl fun e=>by have:=d.LD;omega,h3⟩
theorem NodeT.quietL {w0 w:World} {N Q:Nat} {id:Vector UInt8 8} {ma he de ageing:Int} {pa:Option Addr} {cap:Nat} {ps:List PortX} {mac:Vector UInt8 6} {r k p d room:Int} {A:BrA} {sp ea:Option Addr} {ec:Nat} {es:List (Option Nat)} {j:Nat}
  (h:NodeT w0 w N Q id ma he de ageing pa cap ps mac r k p d room A sp ea ec es j):∃eb D,ea=some ⟨eb,0,none⟩/\es.length=ps.length/\(∀(i:Nat) (x:PortX),ps[i]? =some x->∃e:Option Nat,es[i]? =some e/\e.isSome=x.link)/\Quiet (Q::A.muts) w N ⟨id,ma,he,de,ageing,pa,ps.length,cap,mac,A.B,sp,eb,ec,Q,es,D⟩/\
   (∃D',D'<=w.heap.size/\(∀sb,sp=some ⟨sb,0,none⟩->D'<=sb)/\BrL D' w A (ps.map (·.p)))/\(∀(i:Nat) (x:PortX),ps[i]? =some x->x.link=true->∃b L M,∃pl:Nat,es[i]? =some (some b)/\DownAt (Q::A.muts) D w b L M pl (aCd x.psk.toList x.greets r k p d)/\L∈A.ex/\w0.heap.size<=L):=by
 have g:=aMI _ _ h.ok
 have hn32:ps.length<=32:=by have:=g.1.n32;simpa[aCM]using this
 have hpos:0<ps.length:=by have:=g.2.1;simpa using this
 have nN:N∉A.muts:=fun hm=>by have:=(h.lo N (dJ hm)).1;omega
 have nQ:Q∉A.muts:=fun hm=>by have:=(h.lo Q (dJ hm)).2;omega
 obtain⟨B,wC,h1,h2,h3,h4,h5,h6,h7,h8⟩:=h.own
 have hl:es.length=ps.length:=h4.1
 have h3':=h3.keep (w':=w) fun X hX=>h6 X (h3.blk hX).1 (h3.blk hX).2.1
 have hne:es.map (fun e=>[tA e])≠[]:=by
  intro e
  have:=congrArg List.length e
  simp at this
  rw[this]at hl
  simp at hl
  omega
 obtain⟨g0,cap0,rest,e0,hr0,hB0,hg0⟩:=aAf h3' hne
 obtain⟨g1,cap1,rest1,e1,_,_,hg1⟩:=aAf h3 hne
 rw[e0]at e1
 have hg01:g0=g1:=by simp at e1;exact e1.1
 have hea:ea=some ⟨g0,0,none⟩/\ec=cap0:=by
  simp only[Value.slice.injEq]at e0
  exact⟨e0.1,e0.2.2⟩
 have hec:ps.length=es.length:=hl.symm
 have hm:∀b∈A.muts,wC.heap.size<=b:=h7
 have hSin:∀X,B<=X->X<wC.heap.size->X∉Q::A.muts:=fun X hX hX2 hm2=>by
  rcases List.mem_cons.1 hm2 with e | e
  ·omega
  ·have:=h7 X e;omega
 obtain⟨D,hD,hspan⟩:∃D,(∀b∈Q::A.muts,b<D)/\(sp=none∨∃sb s,sp=some ⟨sb,0,none⟩/\SpT w D sb s/\s.ps.length<=32):=by
  rcases h.span with e | ⟨D,sb,s,e1,e2,e3,e4,e5,e6,_⟩
  ·obtain⟨l1,l2,l3,l4,l5,l6⟩:=h.br.lts
   refine⟨w.heap.size,fun b hb=>?_,.inl e⟩
   rcases List.mem_cons.1 hb with rfl | hb
   ·exact h.ltQ
   ·have:=dJ hb
    simp only[List.mem_cons,List.not_mem_nil,or_false]at this
    rcases this with rfl | rfl | rfl | rfl | rfl | rfl<;>assumption
  ·exact⟨D,fun b hb=>by
    rcases List.mem_cons.1 hb with rfl | hb
    ·exact e5
    ·exact e6 b hb,.inr ⟨sb,s,e1,e2,e3.1⟩⟩
 have hmu:A.B∈A.muts:=by simp[BrA.muts]
 have hCD:wC.heap.size<D:=Nat.lt_of_le_of_lt (h7 _ hmu) (hD _ (List.mem_cons_of_mem _ hmu))
 have hdn:∀(i:Nat) (x:PortX),ps[i]? =some x->x.link=true->∃b L M,∃pl:Nat,es[i]? =some (some b)/\DownAt (Q::A.muts) D w b L M pl (aCd x.psk.toList x.greets r k p d)/\L∈A.ex/\w0.heap.size<=L:=by
  intro i x hx hxl
  rcases h4.2 i x hx with ⟨f1,f2⟩ | ⟨f1,b,f2,f3,L,M,pl,f4,f5,f6⟩
  ·rw[hxl]at f1;cases f1
  ·have zx:=(Array.getElem?_eq_some_iff.1 f4).1
   have zL:L<wC.heap.size:=aM (i:=0) (by rw[f6];simp[aCd,LinkT.cells])
   exact⟨b,L,M,pl,f2,⟨hSin b f3 zx,aBU ((h6 b f3 zx).trans f4),hSin L f5 zL,(show L<D from by omega),by simp[aCd],rfl,(aJ (h6 L f5 zL)).trans f6⟩,h8 L zL,by have:=h.gN;omega⟩
 have hbl:∃D',D'<=w.heap.size/\(∀sb,sp=some ⟨sb,0,none⟩->D'<=sb)/\BrL D' w A (ps.map (·.p)):=by
  rcases h.span with e | ⟨D,sb,s,e1,e2,e3,e4,e5,e6,e7⟩
  ·exact⟨w.heap.size,Nat.le_refl _,fun sb hs=>(by rw[e]at hs;cases hs),h.br.brL⟩
  ·exact⟨D,e7.le,fun sb' hs=>(by rw[e1]at hs;cases hs;exact e2.lo),e7⟩
 refine⟨g0,D,hea.1,hl,fun i x hx=>?_,⟨fun hm2=>?_,?_,hSin g0 hB0 (by rw[hg01];exact hg1),by rw[hl];exact hpos,by rw[hl];exact hn32,⟨rest,?_⟩,fun x hx=>?_,hD,hspan⟩,hbl,hdn⟩
 ·rcases h4.2 i x hx with ⟨f1,f2⟩ | ⟨f1,b,f2,_⟩
  ·exact⟨none,f2,by rw[f1];rfl⟩
  ·exact⟨some b,f2,by rw[f1];rfl⟩
 ·rcases List.mem_cons.1 hm2 with e | e
  ·exact h.ne e
  ·exact nN e
 ·rw[h.rN]
  unfold NdP.cells
  rw[hea.1]
  simp[hec]
 ·rw[hr0]
  have:∀l:List (Option Nat),(l.map fun e=>[tA e]).flatten=l.map tA:=fun l=>by
   induction l with
   | nil=>rfl
   | cons a l ih=>simp[ih]
  rw[this]
 ·replace hx:some x∈es:=hx
  obtain⟨i,hi,e⟩:=List.getElem_of_mem hx
  have hip:i<ps.length:=by omega
  cases hlk:ps[i].link with
  | false=>
   obtain⟨f1,f2⟩ | ⟨f1,_⟩:=h4.2 i ps[i] (List.getElem?_eq_getElem hip)
   ·rw[List.getElem?_eq_getElem hi,e]at f2
    cases f2
   ·rw[hlk]at f1;cases f1
  | true=>
   obtain⟨b,L,M,pl,f2,hd,_⟩:=hdn i ps[i] (List.getElem?_eq_getElem hip) hlk
   rw[List.getElem?_eq_getElem hi,e]at f2
   simp only[Option.some.injEq]at f2
   subst f2
   exact⟨L,M,pl,_,hd⟩
theorem Quiet.spState {S:List Nat} {w:World} {N:Nat} {p:NdP} (h:Quiet S w N p) (pl:Int):Calls Tryz.prog 32 #[.pointer p.spn,.int .i64 pl] w fun e w'=>e=.returned (.int .i64 0)/\Below w.heap.size w w':=by
 rcases h.span with h1 | ⟨sb,s,h1,h2,h3⟩
 ·rw[h1]
  exact(aCr w pl).mono fun e w' h=>⟨h.1,by rw[h.2];exact Below.refl _ _⟩
 ·rw[h1]
  exact(aAY w h2 pl h3).mono fun e w' h=>⟨h.1,by rw[h.2];exact Below.refl _ _⟩
theorem Quiet.spChanges {S:List Nat} {w:World} {N:Nat} {p:NdP} (h:Quiet S w N p):Calls Tryz.prog 59 #[.pointer p.spn] w fun e w'=>e=.returned (.int .i64 0)/\Below w.heap.size w w':=by
 rcases h.span with h1 | ⟨sb,s,h1,h2,h3⟩
 ·rw[h1]
  exact(yR w).mono fun e w' h=>⟨h.1,by rw[h.2];exact Below.refl _ _⟩
 ·rw[h1]
  exact(vT w h2).mono fun e w' h=>⟨h.1,by rw[h.2];exact Below.refl _ _⟩
theorem DownAt.up {S:List Nat} {D:Nat} {w:World} {x L M:Nat} {pl:Int} {t:LinkT} (d:DownAt S D w x L M pl t):Calls Tryz.prog 31 #[.pointer (some ⟨L,0,none⟩)] w fun e w'=>e=.returned (.bool false)/\Below w.heap.size w w':=by
 have hL:=d.rL
 have hp:=d.psk
 have ha:=d.dn
 obtain⟨psk,g,r,k,p,d2,now,a,b,c,talk,asked,made,last⟩:=t
 dsimp only at hp ha
 subst ha
 exact(aNb psk g r k p d2 now asked made last b c talk L w hp hL).mono fun e w' h=>⟨h.1,by rw[h.2];exact Below.refl _ _⟩
section
variable {S:List Nat} {w:World} {N:Nat} {p:NdP}
theorem Quiet.cell (h:Quiet S w N p) {q:Nat} (hq:q<p.es.length):w.cell? ⟨p.eb,0+q,none⟩=some (tA p.es[q]):=by
 obtain⟨rest,hr⟩:=h.ends
 rw[Nat.zero_add]
 exact aHG hr hq
theorem Quiet.has (h:Quiet S w N p) (q:Nat) (hq:q<p.es.length):Calls Tryz.prog 27 #[.pointer (some ⟨N,0,none⟩),.int .i64 (q:Int)] w fun e w'=>e=.returned (.tuple #[.bool true,.bool p.es[q].isSome])/\Below w.heap.size w w':=
 vE (x:=p.es[q]) h.nd hq (h.cell hq)
theorem Quiet.hasNo (h:Quiet S w N p) (port:Int) (hp:port<0∨(p.es.length:Int)<=port):Calls Tryz.prog 27 #[.pointer (some ⟨N,0,none⟩),.int .i64 port] w fun e w'=>e=.returned (.tuple #[.bool false,.bool false])/\Below w.heap.size w w':=
 (aK1 h.nd port hp).mono fun e w' h=>⟨h.1,by rw[h.2];exact Below.refl _ _⟩
theorem Quiet.up (h:Quiet S w N p) (q:Nat) (hq:q<p.es.length):Calls Tryz.prog 13 #[.pointer (some ⟨N,0,none⟩),.int .i64 (q:Int)] w fun e w'=>e=.returned (.bool (!p.es[q].isSome))/\Below w.heap.size w w':=by
 have hc:=h.cell hq
 cases he:p.es[q]with
 | none=>
  rw[he]at hc
  exact aK2 h.nd hq hc
 | some x=>
  rw[he]at hc
  obtain⟨L,M,pl,t,d⟩:=h.down x (he▸List.getElem_mem hq)
  exact aJo h.nd hq h.lte hc d.rx fun W hW=>by
   obtain⟨rx,d2⟩:row W x=aAF L M pl/\DownAt S p.D W x L M pl t:=⟨(aA hW d.ltx).trans d.rx,d.xS,(aA hW d.ltx).trans d.rx,d.LS,d.LD,d.psk,d.dn,(aA hW d.ltL).trans d.rL⟩
   exact d2.up
theorem Quiet.state (h:Quiet S w N p) (q:Nat) (hq:q<p.es.length):Calls Tryz.prog 14 #[.pointer (some ⟨N,0,none⟩),.int .i64 (q:Int)] w fun e w'=>e=.returned (.int .i64 (if p.es[q].isSome then 0 else 3))/\Below w.heap.size w w':=by
 have hc:=h.cell hq
 cases he:p.es[q]with
 | none=>
  rw[he]at hc
  exact aFv h.nd hq hc
 | some x=>
  rw[he]at hc
  obtain⟨L,M,pl,t,d⟩:=h.down x (he▸List.getElem_mem hq)
  exact aDl h.nd hq h.lte hc d.rx fun W hW=>(h.below hW).spState pl
end
end
section
open Go.RowKit Go.Shelf
section
variable {id:Vector UInt8 8} {ma he de ageing:Int} {pa:Option Addr} {n cap:Nat} {mac:Vector UInt8 6} {br spn ea:Option Addr} {ne ec:Nat} {Q:Nat} {sent ch:Int} {w:World} {N:Nat}
theorem aFw (N:Option Addr) (port:Int) (s:List UInt8) (w:World) (a b:Bool) (hab:a=false∨b=true) (hH:Calls Tryz.prog 27 #[.pointer N,.int .i64 port] w fun e w'=>e=.returned (.tuple #[.bool a,.bool b])/\Below w.heap.size w w'):Calls Tryz.prog 11 #[.pointer N,.int .i64 port,.string ⟨s.toArray⟩] w fun e w'=>e=.returned (.int .i64 1)/\Below w.heap.size w w':=by
 have HH:=h_ hH
 clear hH
 go_enter Tryz.func11,Tryz.ntmps11
 go_wp2_with fail
 (with_reducible refine HH.out.mono ?_)
 rintro e w' ⟨rfl,b1⟩
 cases a with
 | false=>
  go_wp2_with fail
  go_ret
  exact⟨rfl,b1⟩
 | true=>
  obtain rfl:b=true:=by simpa using hab
  go_wp2_with fail
  go_ret
  exact⟨rfl,b1⟩
end
end
section
open Go.RowKit Go.Shelf
theorem vF {S:List Nat} {w:World} {N:Nat} {p:NdP} (h:Quiet S w N p):Calls Tryz.prog 26 #[.pointer (some ⟨N,0,none⟩)] w fun e w'=>e=.returned (.slice none 0 0)/\Below w.heap.size w w':=by
 have hnd:=h.nd
 have n32:=h.n32
 have zN:=h.ltN
 unfold NdP.cells cY at hnd
 have HSC:=h_ (fun(W:World) (hW:Below w.heap.size w W) (pl:Int)=>(h.below hW).spState pl)
 have HCH:=h_ (fun(W:World) (hW:Below w.heap.size w W)=>(h.below hW).spChanges)
 have hcell:=fun(q:Nat) (hq:q<p.es.length) (W:World) (hW:Below w.heap.size w W)=>(h.below hW).cell hq
 have hdn:=fun(x:Nat) (hx:some x∈p.es)=>h.down x hx
 obtain⟨n,hn⟩:∃n,p.es.length=n:=⟨_,rfl⟩
 rw[hn]at hnd n32
 have HN:=h_ hn
 have HND:=h_ hnd
 have HC:=h_ hcell
 have HD:=h_ hdn
 clear h hn hcell hdn
 obtain⟨id,ma,he,de,ageing,pa,pn,cap,mac,B,spn,eb,ec,qq,es,D⟩:=p
 dsimp only at *
 have hnI:(n:Int)<=32:=by omega
 go_enter Tryz.func26,Tryz.ntmps26
 go_wp2_with fail
 go_loopw [3,14] (fun u i wr=>∃j:Nat,j<=n/\u=.slice none 0 0/\i=.int .i64 j/\Below w.heap.size w wr) (fun _ i _=>n - (intOf i).toNat)
 case atStart=>exact⟨0,by omega,rfl,rfl,Below.refl _ _⟩
 case round=>
  obtain⟨j,hj,rfl,rfl,cb⟩:=hrel
  have zb:=cb.size
  have rN:=(aA cb zN).trans hnd
  by_cases hlt:j<n
  ·have hltI:(j:Int)<(n:Int):=by omega
   have hq:j<es.length:=by have:=HN.out;omega
   have hc:=HC.out j hq wr cb
   rw[Nat.zero_add]at hc
   obtain⟨o,ho⟩:∃o,es[j]=o:=⟨_,rfl⟩
   rw[ho]at hc
   cases o with
   | none=>
    simp only[tA,Option.map_none]at hc
    clear hnd ho
    go_wp2_with fail
    have hG:GrowP fun W=>Below wr.heap.size wr W:=d6 wr
    refine nV [] (fun W=>Below wr.heap.size wr W) hG (Below.refl _ _) (fun hS=>?_)
    refine sp 0 hG hS ?_
    refine sp 1 hG hS ?_
    refine sp 2 hG hS ?_
    refine sn 3 hG hS ?_
    refine sn 4 hG hS ?_
    refine sn 5 hG hS ?_
    refine sn 6 hG hS ?_
    refine sn 7 hG hS ?_
    refine sn 8 hG hS ?_
    refine sn 9 hG hS ?_
    refine sn 10 hG hS ?_
    refine sn 11 hG hS ?_
    refine sn 12 hG hS ?_
    refine sp 13 hG hS ?_
    refine aG kr_ (fun w2 bw2=>?_) _
    have cb2:=cb.trans (((aL hS.2 bw2)).mono zb)
    clear hS bw2 rN hc
    go_wp2_with fail
    go_roundw
    case rel=>exact⟨j+1,by omega,rfl,by simp,cb2⟩
    case measure=>simp[intOf];omega
   | some x=>
    simp only[tA,Option.map_some]at hc
    obtain⟨L,M,pl,t,d0⟩:=HD.out x (ho▸List.getElem_mem hq)
    have d:DownAt S D wr x L M pl t:=⟨d0.xS,(aA cb d0.ltx).trans d0.rx,d0.LS,d0.LD,d0.psk,d0.dn,(aA cb d0.ltL).trans d0.rL⟩
    have rx:=d.rx
    have zx:=d.ltx
    unfold aAF at rx
    have HU:=h_ (fun(W:World) (hW:Below wr.heap.size wr W)=>(show DownAt S D W x L M pl t from ⟨d.xS,(aA hW d.ltx).trans d.rx,d.LS,d.LD,d.psk,d.dn,(aA hW d.ltL).trans d.rL⟩).up)
    clear hnd ho d0 d
    go_wp2_with fail
    have hG:GrowP fun W=>Below wr.heap.size wr W:=d6 wr
    refine nV [(x,#[Value.pointer (some ⟨L,0,none⟩),Value.map (some M),Value.int .i64 pl,Value.bool false,Value.int .i64 0])] (fun W=>Below wr.heap.size wr W) hG (Below.refl _ _) (fun hS=>?_)
    refine sp 0 hG hS ?_
    refine sp 1 hG hS ?_
    refine sp 2 hG hS ?_
    refine sp 3 hG hS ?_
    refine sp 4 hG hS ?_
    refine sp 5 hG hS ?_
    refine sp 6 hG hS ?_
    refine sp 7 hG hS ?_
    refine sp 8 hG hS ?_
    refine sp 9 hG hS ?_
    refine sp 10 hG hS ?_
    refine sc 11 (v:=?_) hG hS ?_ ?_
    rotate_left
    ·intro w' hS'
     obtain⟨hS',hX'⟩:=hS'
     simp only[Rws]at hS'
     go_simp
     with_reducible refine(HU.out _ hX').mono ?_
     rintro e w'' ⟨rfl,hb⟩
     exact⟨_,rfl,by rfl,hb⟩
    refine sp 12 hG hS ?_
    refine sp 13 hG hS ?_
    refine aG kr_ (fun w2 bw2=>?_) _
    have cb2:=cb.trans (((aL hS.2 bw2)).mono zb)
    clear hS bw2 rN hc rx HU
    go_wp2_with fail
    go_roundw
    case rel=>exact⟨j+1,by omega,rfl,by simp,cb2⟩
    case measure=>simp[intOf];omega
  ·obtain rfl:j=n:=by omega
   have hltI:¬(j:Int)<(j:Int):=by omega
   clear hnd
   go_wp2_with fail
   go_loopw [63] (fun i wr=>∃k:Nat,k<=j/\i=.int .i64 k/\Below w.heap.size w wr) (fun i _=>j - (intOf i).toNat)
   case atStart=>exact⟨0,by omega,rfl,cb⟩
   case round=>
    clear cb zb rN
    obtain⟨k,hk,rfl,cb⟩:=hrel
    have zb:=cb.size
    have rN:=(aA cb zN).trans HND.out
    by_cases hlt:k<j
    ·have hltI:(k:Int)<(j:Int):=by omega
     have hq:k<es.length:=by have:=HN.out;omega
     have hc:=HC.out k hq wr cb
     rw[Nat.zero_add]at hc
     obtain⟨o,ho⟩:∃o,es[k]=o:=⟨_,rfl⟩
     rw[ho]at hc
     cases o with
     | none=>
      simp only[tA,Option.map_none]at hc
      clear ho
      go_wp2_with fail
      have hG:GrowP fun W=>Below wr.heap.size wr W:=d6 wr
      refine nV [] (fun W=>Below wr.heap.size wr W) hG (Below.refl _ _) (fun hS=>?_)
      refine sp 0 hG hS ?_
      refine sp 1 hG hS ?_
      refine sp 2 hG hS ?_
      refine sn 3 hG hS ?_
      refine sn 4 hG hS ?_
      refine sn 5 hG hS ?_
      refine sn 6 hG hS ?_
      refine sn 7 hG hS ?_
      refine sn 8 hG hS ?_
      refine sn 9 hG hS ?_
      refine sn 10 hG hS ?_
      refine sn 11 hG hS ?_
      refine sn 12 hG hS ?_
      refine sn 13 hG hS ?_
      refine sn 14 hG hS ?_
      refine sn 15 hG hS ?_
      refine sn 16 hG hS ?_
      refine sp 17 hG hS ?_
      refine aG kr_ (fun w2 bw2=>?_) _
      have cb2:=cb.trans (((aL hS.2 bw2)).mono zb)
      clear hS bw2 rN hc
      go_wp2_with fail
      go_roundw
      case rel=>exact⟨k+1,by omega,by simp,cb2⟩
      case measure=>simp[intOf];omega
     | some x=>
      simp only[tA,Option.map_some]at hc
      obtain⟨L,M,pl,t,d0⟩:=HD.out x (ho▸List.getElem_mem hq)
      have rx:=(aA cb d0.ltx).trans d0.rx
      have zx:x<wr.heap.size:=Nat.lt_of_lt_of_le d0.ltx zb
      have zN2:N<wr.heap.size:=Nat.lt_of_lt_of_le zN zb
      unfold aAF at rx
      have HS:=h_ (fun(W:World) (hW:Below wr.heap.size wr W)=>HSC.out W (cb.trans (hW.mono zb)) pl)
      have cN3:wr.cell? ⟨N,20,none⟩=some (.pointer spn):=by rw[aQ (by rw[rN];simp),rN];simp
      clear ho d0
      go_wp2_with fail
      have hG:GrowP fun W=>Below wr.heap.size wr W/\(W.cell? ⟨N,20,none⟩=some (.pointer spn)/\N<W.heap.size):=GrowP.and (d6 wr) (bK _ _ _)
      refine nV [(x,#[Value.pointer (some ⟨L,0,none⟩),Value.map (some M),Value.int .i64 pl,Value.bool false,Value.int .i64 0])] (fun W=>Below wr.heap.size wr W/\(W.cell? ⟨N,20,none⟩=some (.pointer spn)/\N<W.heap.size)) hG (⟨Below.refl _ _,cN3,zN2⟩) (fun hS=>?_)
      refine sp 0 hG hS ?_
      refine sp 1 hG hS ?_
      refine sp 2 hG hS ?_
      refine sp 3 hG hS ?_
      refine sp 4 hG hS ?_
      refine sp 5 hG hS ?_
      refine sp 6 hG hS ?_
      refine sp 7 hG hS ?_
      refine sp 8 hG hS ?_
      refine sp 9 hG hS ?_
      refine sp 10 hG hS ?_
      refine sp 11 hG hS ?_
      refine sp 12 hG hS ?_
      refine sp 13 hG hS ?_
      refine sp 14 hG hS ?_
      refine sc 15 (v:=?_) hG hS ?_ ?_
      rotate_left
      ·intro w' hS'
       obtain⟨hS',hX'⟩:=hS'
       simp only[Rws]at hS'
       go_simp
       with_reducible refine(HS.out _ hX'.1).mono ?_
       rintro e w'' ⟨rfl,hb⟩
       exact⟨_,rfl,by rfl,hb⟩
      refine sp 16 hG hS ?_
      refine sp 17 hG hS ?_
      refine aG kr_ (fun w2 bw2=>?_) _
      have cb2:=cb.trans (((aL hS.2.1 bw2)).mono zb)
      clear hS bw2 rN hc rx HS cN3
      go_wp2_with fail
      go_roundw
      case rel=>exact⟨k+1,by omega,by simp,cb2⟩
      case measure=>simp[intOf];omega
    ·obtain rfl:k=j:=by omega
     have hltI:¬(k:Int)<(k:Int):=by omega
     have HH:=h_ (HCH.out wr cb)
     go_wp2_with fail
     (with_reducible refine HH.out.mono ?_)
     rintro e w3 ⟨rfl,b3⟩
     have rN3:=(aA b3 (Nat.lt_of_lt_of_le zN zb)).trans rN
     clear rN
     go_wp2_with fail
     go_ret
     exact⟨rfl,cb.trans (b3.mono zb)⟩
end
section
open Go.RowKit Go.Shelf
theorem iD:(Tryz.prog.info? 54).map (fun i=>(i.zero.map (·.cells.size),i.size,i.bytes))=some (some 3,3,32):=by kernel_rfl
def aJS (x:Nat×List UInt8):List Value:=[.int .i64 (x.1:Int),.bool false,.string ⟨x.2.toArray⟩]
def mE (es:List (Option Nat)) (l:List (Nat×List UInt8)):List (Nat×List UInt8):=l.filter fun x=>(es.getD x.1 none).isNone
theorem rZ {p:PortD} {k:Nat} {v:Int} {dst src:Vector UInt8 6} {ty:Int} {body:List UInt8} {prio:Int} {x:Nat×List UInt8} (h:x∈fC p k v dst src ty body prio):x.1=k:=by
 unfold fC at h
 split at h
 ·rw[List.mem_singleton.1 h]
 ·cases h
theorem aBW {s:BrS} {st:List LB} {fr:Nat} {v:Int} {dst src:Vector UInt8 6} {ty:Int} {body:List UInt8} {prio:Int} {x:Nat×List UInt8} (h:x∈lW s st fr v dst src ty body prio):x.1<s.ports.length:=by
 unfold lW at h
 obtain⟨i,hi,hx⟩:=List.mem_flatMap.1 h
 unfold zP at hx
 split at hx
 ·rw[rZ hx];exact List.mem_range.1 hi
 ·cases hx
theorem pO (s:BrS) {k:Nat} (hk:k<s.ports.length) (l:List UInt8) (t:TalkD):(∀x∈(e9 s k l t).2.1,x.1<s.ports.length)/\(e9 s k l t).2.1.length<=s.ports.length:=by
 unfold e9
 split
 ·exact⟨fun x h=>(by cases h),Nat.zero_le _⟩
 ·rename_i d _
  unfold vY
  split
  ·exact⟨fun x h=>(by cases h),Nat.zero_le _⟩
  split
  ·exact⟨fun x h=>(by cases h),Nat.zero_le _⟩
  split
  ·exact⟨fun x h=>(by cases h),Nat.zero_le _⟩
  dsimp only
  split
  ·exact⟨fun x h=>(by cases h),Nat.zero_le _⟩
  split
  ·exact⟨fun x h=>by rw[rZ h];exact hk,Nat.le_trans (iI _ _ _ _ _ _ _ _) (by omega)⟩
  ·exact⟨fun x h=>aBW h,fR (fun i=>zZ _ _ _ _ _ _ _ _ _ i) _⟩
theorem aFx {S:List Nat} {w:World} {N:Nat} {p:NdP} (h:Quiet S w N p) {q:Nat} (hq:q<p.es.length) (hx:p.es[q].isSome=true) (s:List UInt8):
  Calls Tryz.prog 52 #[.pointer (some ⟨N,0,none⟩),.int .i64 (q:Int),.string ⟨s.toArray⟩] w fun e w'=>e=.returned (.slice none 0 0)/\Below w.heap.size w w':=by
 have hU:=h.up q hq
 rw[hx]at hU
 have HU:=h_ hU
 clear hU h
 go_enter Tryz.func52,Tryz.ntmps52
 go_wp2_with fail
 (with_reducible refine HU.out.mono ?_)
 rintro e w1 ⟨rfl,b1⟩
 go_wp2_with fail
 go_ret
 exact⟨rfl,b1⟩
section
variable {w:World} {N:Nat} {p:NdP} {A:BrA} {s:BrS}
theorem aJp (h:Quiet (p.Q::A.muts) w N p) (hA:p.B=A.B) (hb:BrT w A s) {K:Nat} (hK:K<=900000) (hg:BrG s K) (hlen:s.ports.length=p.es.length) {q:Nat} (hq:q<p.es.length) (htap:p.es[q]=none) (l:List UInt8) (hl:l.length<=1000000) (t:TalkD) (ht:∀d,bM l=.ok d->TalkC d.dst d.src d.ty d.body t):
  Calls Tryz.prog 30 #[.pointer (some ⟨N,0,none⟩),.agg #[.int .i64 (q:Int),.string ⟨l.toArray⟩]] w fun e w'=>(∃v,e=.returned v/\OwnL w' w.heap.size 54 3 v ((mE p.es (e9 s q l t).2.1).map aJS))/\BelowS w.heap.size A.muts w w'/\BrT w' A (e9 s q l t).1:=by
 have hnd:=h.nd
 have n32:=h.n32
 have zN:=h.ltN
 have HNS:=h_ h.nS
 have hqs:q<s.ports.length:=by omega
 obtain⟨houts,hol⟩:=pO s hqs l t
 have hsub:∀W,BelowS w.heap.size A.muts w W->Quiet (p.Q::A.muts) W N p:=fun W hW=>h.kept ⟨hW.os,hW.tape,hW.output,hW.size,fun k hk hn=>hW.block k hk fun hm=>hn (List.mem_cons_of_mem _ hm)⟩
 have HCO:=h_ (fun(W:World) (hW:BrT W A s)=>aCK W hW)
 have HCM:=h_ (fun(W:World) (hW:BrT W A s)=>aGH W hW hK hg q hqs l hl t ht)
 have HHA:=h_ (fun(W:World) (hW:BelowS w.heap.size A.muts w W) (j:Nat) (hj:j<p.es.length)=>(hsub W hW).has j hj)
 have HSE:=h_ (fun(W:World) (hW:BelowS w.heap.size A.muts w W) (j:Nat) (hj:j<p.es.length) (hx:p.es[j].isSome=true) (x:List UInt8)=>aFx (hsub W hW) hj hx x)
 have HST:=h_ (fun(W:World) (hW:BelowS w.heap.size A.muts w W)=>vF (hsub W hW))
 have HCE:=h_ (fun(W:World) (hW:BelowS w.heap.size A.muts w W)=>(hsub W hW).cell hq)
 have HND:=h_ (fun(W:World) (hW:BelowS w.heap.size A.muts w W)=>(hsub W hW).nd)
 unfold NdP.cells cY at hnd HND
 rw[htap]at HCE
 simp only[tA,Option.map_none]at HCE
 obtain⟨outs,houtsE⟩:∃o,(e9 s q l t).2.1=o:=⟨_,rfl⟩
 obtain⟨s',hs'⟩:∃o,(e9 s q l t).1=o:=⟨_,rfl⟩
 obtain⟨er,her⟩:∃o,(e9 s q l t).2.2=o:=⟨_,rfl⟩
 rw[houtsE]at houts hol
 rw[houtsE,hs',her]at HCM
 rw[houtsE,hs']
 have HB:=h_ hb
 obtain⟨n,hn⟩:∃n,p.es.length=n:=⟨_,rfl⟩
 rw[hn]at hnd n32 HND
 have HN:=h_ hn
 have HO:=h_ houts
 have HLN:=h_ hlen
 have hol32:outs.length<=32:=by omega
 have hqI:(q:Int)<(n:Int):=by omega
 clear h hb hg ht houtsE hs' her hn houts hlen hsub htap hol hl hK
 obtain⟨id,ma,he,de,ageing,pa,pn,cap,mac,B,spn,eb,ec,qq,es,D⟩:=p
 dsimp only at *
 subst hA
 have hnW:=hnd
 go_enter Tryz.func30,Tryz.ntmps30
 obtain⟨w1,hw1⟩:∃x,w.alloc (.cells #[Value.int .i64 (q:Int),.string ⟨l.toArray⟩] 71)=x:=⟨_,rfl⟩
 have b1:Below w.heap.size w w1:=by rw[<-hw1];exact ba_
 have rV1:row w1 w.heap.size=#[Value.int .i64 (q:Int),.string ⟨l.toArray⟩]:=by rw[<-hw1];exact aE _ _ _ rfl
 have z1:w1.heap.size=w.heap.size+1:=by rw[<-hw1,aF]
 have hB1:=HB.out.below b1
 have rN1:=HND.out w1 (BelowS.of b1)
 have HC1:=h_ (HCO.out w1 hB1)
 clear hnW hnd
 go_wp2_with fail
 (try rw[hw1])
 (try clear hw1)
 (with_reducible refine HC1.out.mono ?_)
 rintro e w2 ⟨rfl,b2⟩
 have z2:=b2.size
 have B2:Below w.heap.size w w2:=b1.trans (b2.mono (by omega))
 have rV2:=(aA b2 (show w.heap.size<w1.heap.size by omega)).trans rV1
 have hB2:=hB1.below b2
 have hfd:∀w:World,(Instr.field 125 (.agg #[.int .i64 s.c0,.int .i64 s.c1,.int .i64 s.c2,.int .i64 s.c3,.int .i64 s.c4]) 1).run Tryz.prog w=.ok (.int .i64 s.c1) w:=fun _=>by kernel_rfl
 have cN2:w2.cell? ⟨N,19,none⟩=some (.pointer (some ⟨A.B,0,none⟩)):=by
  have:=HND.out w2 (BelowS.of B2)
  rw[aQ (by rw[this];simp),this];simp
 have zN2:N<w2.heap.size:=by omega
 have zV2:w.heap.size<w2.heap.size:=by omega
 have nVm:w.heap.size∉A.muts:=fun hm=>by
  obtain⟨l1,l2,l3,l4,l5,l6⟩:=HB.out.lts
  have:=dJ hm
  simp only[List.mem_cons,List.not_mem_nil,or_false]at this
  omega
 have nNm:N∉A.muts:=fun hm=>HNS.out (List.mem_cons_of_mem _ hm)
 have HB2:=h_ hB2
 have HZB:=h_ (show w.heap.size<=w2.heap.size by omega)
 clear b1 b2 z1 z2 rV1 rN1 hB1 hB2 HC1
 obtain⟨V,hV⟩:∃V,w.heap.size=V:=⟨_,rfl⟩
 rw[hV]at rV2 zV2 nVm
 go_wp2_with fail
 (try rw[hV])
 have hG:GrowP fun W=>BelowS w2.heap.size A.muts w2 W/\(W.cell? ⟨N,19,none⟩=some (.pointer (some ⟨A.B,0,none⟩))/\N<W.heap.size):=GrowP.and (fun w w' h hb=>h.trans ((BelowS.of hb).mono h.size)) (bK _ _ _)
 refine nV [(V,#[Value.int .i64 (q:Int),.string ⟨l.toArray⟩])] (fun W=>BelowS w2.heap.size A.muts w2 W/\(W.cell? ⟨N,19,none⟩=some (.pointer (some ⟨A.B,0,none⟩))/\N<W.heap.size)) hG (⟨BelowS.of (Below.refl _ _),cN2,zN2⟩) (fun hS=>?_)
 refine sp 0 hG hS ?_
 refine sp 1 hG hS ?_
 refine sp 2 hG hS ?_
 refine sp 3 hG hS ?_
 refine sp 4 hG hS ?_
 refine sp 5 hG hS ?_
 refine sp 6 hG hS ?_
 refine sp 7 hG hS ?_
 refine fM 8 kr_ (fun u hu=>?_)
 refine wpOp_step rfl (fun K hK=>?_)
 go_simp
 have hu2:Below w2.heap.size w2 u:=aL (Below.drew (Below.refl _ _)) hu
 have zu:=hu2.size
 (with_reducible refine(HCM.out _ (HB2.out.below hu2)).mono ?_)
 rintro e u3 ⟨⟨v3,rfl,own3⟩,b3,hB3⟩
 have z3:=b3.size
 have hS:XS [(V,#[Value.int .i64 (q:Int),.string ⟨l.toArray⟩])] (fun W=>BelowS w2.heap.size A.muts w2 W/\(W.cell? ⟨N,19,none⟩=some (.pointer (some ⟨A.B,0,none⟩))/\N<W.heap.size)) u3:=by
  refine⟨⟨((b3.row (by omega) nVm).trans (aA hu2 (by omega))).trans rV2,by omega,trivial⟩,(BelowS.of hu2).trans (b3.mono zu),?_,by omega⟩
  have:=fN cN2 zN2 hu2
  unfold World.cell? at this ⊢
  rw[b3.block N (by omega) nNm]
  exact this
 refine hK _ _ ⟨hS,?_⟩
 clear hK K
 (try simp only[Act.put,List.setIfInBounds_toArray,List.set_cons_zero,List.set_cons_succ])
 refine sp 9 hG hS ?_
 refine sp 10 hG hS ?_
 refine sp 11 hG hS ?_
 refine sp 12 hG hS ?_
 refine sp 13 hG hS ?_
 refine aG kr_ (fun w9 bw9=>?_) _
 have B29:BelowS w2.heap.size A.muts w2 w9:=hS.2.1.trans ((BelowS.of bw9).mono hS.2.1.size)
 have own9:=own3.below bw9
 have hB9:=hB3.below bw9
 have rV9:=(aA bw9 (show V<u3.heap.size by omega)).trans hS.1.1
 have BB9:BelowS w.heap.size A.muts w w9:=(BelowS.of B2).trans (B29.mono HZB.out)
 have z29:=B29.size
 obtain⟨pa3,pc3,hv3,hel3⟩:=own9.elems
 subst hv3
 have hel:=hel3.2
 have HEL:=h_ hel
 have HB9:=h_ hB9
 have HBB:=h_ BB9
 rw[List.length_map]
 have zV9:V<w9.heap.size:=by omega
 have zN9:N<w9.heap.size:=by omega
 have kw9:w.heap.size<=w9.heap.size:=by omega
 have HVW:=h_ hV
 clear hS bw9 hu hu2 b3 hB3 own3 own9 hB9 hel3 hel B29 BB9 rV2 cN2 HB2 HCM HCO z29 zu z3 HZB hV
 go_wp2_with fail
 go_loopw [8,34] (fun u i wr=>∃j:Nat,j<=outs.length/\i=.int .i64 j/\OwnL wr w9.heap.size 54 3 u ((mE es (outs.take j)).map aJS)/\Below w9.heap.size w9 wr) (fun _ i _=>outs.length - (intOf i).toNat)
 case atStart=>exact⟨0,by omega,rfl,OwnL.nil _ _ _ _,Below.refl _ _⟩
 case round=>
  obtain⟨j,hj,rfl,hown,cb⟩:=hrel
  have zb:=cb.size
  have rVr:=(aA cb zV9).trans rV9
  have hBr:BelowS w.heap.size A.muts w wr:=HBB.out.trans ((BelowS.of cb).mono kw9)
  have hlt0:(mE es (outs.take j)).length<=j:=Nat.le_trans (List.length_filter_le _ _) (by simp;omega)
  have HOW:=h_ hown
  clear hown
  by_cases hlt:j<outs.length
  ·have hltI:(j:Int)<(outs.length:Int):=by omega
   obtain⟨⟨po,so⟩,hx⟩:∃x,outs[j]=x:=⟨_,rfl⟩
   have hpo:po<es.length:=by have:=HO.out outs[j] (List.getElem_mem hlt);rw[hx]at this;have:=HLN.out;have:=HN.out;dsimp only at *;omega
   obtain⟨ob,oo,rfl,hob,hra⟩:=HEL.out j (aID outs[j]) (by rw[List.getElem?_map,List.getElem?_eq_getElem hlt];rfl)
   rw[hx]at hra
   have hld:(mC 174 (.pointer (some ⟨ob,oo+j*2,none⟩))).run Tryz.prog wr=.ok (.agg #[Value.int .i64 (po:Int),.string ⟨so.toArray⟩]) wr:=cI (hra wr (gV cb hob)) rfl
   obtain⟨o,ho⟩:∃o,oo+j*2=o:=⟨_,rfl⟩
   rw[ho]at hld
   have htk:mE es (outs.take (j+1))=mE es (outs.take j)++(if (es.getD po none).isNone then [(po,so)]else []):=by
    rw[List.take_succ_eq_append_getElem hlt,hx]
    unfold mE
    rw[List.filter_append,List.filter_cons]
    rfl
   have hgd:es.getD po none=es[po]:=by rw[List.getD_eq_getElem?_getD,List.getElem?_eq_getElem hpo];rfl
   rw[hgd]at htk
   obtain⟨w10,hw10⟩:∃y,wr.alloc (.cells #[Value.int .i64 (po:Int),.string ⟨so.toArray⟩] 174)=y:=⟨_,rfl⟩
   have b10:Below wr.heap.size wr w10:=by rw[<-hw10];exact ba_
   have k10:wr.heap.size<w10.heap.size:=by rw[<-hw10,aF];omega
   have r10:row w10 wr.heap.size=#[Value.int .i64 (po:Int),.string ⟨so.toArray⟩]:=by rw[<-hw10];exact aE _ _ _ rfl
   have hB10:=hBr.trans ((BelowS.of b10).mono (show w.heap.size<=wr.heap.size by omega))
   have HH:=h_ (HHA.out w10 hB10 po hpo)
   have HTK:=h_ htk
   clear hra hx hgd htk
   cases hes:es[po]with
   | some y=>
    rw[hes]at HH HTK
    go_wp2_with fail
    (try rw[hw10])
    (try clear hw10)
    (with_reducible refine HH.out.mono ?_)
    rintro e w11 ⟨rfl,b11⟩
    have z11:=b11.size
    have r11:=(aA b11 k10).trans r10
    have hB11:=hB10.trans ((BelowS.of b11).mono (by omega))
    have HSN:=h_ (HSE.out w11 hB11 po hpo (by rw[hes];rfl) so)
    have b1011:Below wr.heap.size wr w11:=b10.trans (b11.mono (by omega))
    have HO11:=h_ (HOW.out.below b1011)
    simp only[Option.isSome_some]
    go_wp2_with fail
    (with_reducible refine HSN.out.mono ?_)
    rintro e w12 ⟨rfl,b12⟩
    have z12:=b12.size
    have HO12:=h_ (HO11.out.below b12)
    have k912:w9.heap.size<=w12.heap.size:=by omega
    have hlen12:((mE es (outs.take j)).map aJS).length+0<=10000:=by rw[List.length_map];omega
    have HL12:=h_ hlen12
    have honN:∀y∈([]:List (List Value)),eC y=true:=fun y hy=>by cases hy
    clear hlen12
    go_wp2_with (at_builtin;(refine dF rfl rfl Tryz.underlying46 iD (by decide) (by decide) w9.heap.size _ _ rfl HO12.out w12.heap.size _ _ rfl (OwnL.nil _ _ _ _) honN HL12.out k912 ?_))
    intro v13 w13 hown13 b13
    try rw[List.append_nil]at hown13
    have cb13:=((cb.trans (b1011.mono zb)).trans (b12.mono (by omega))).trans b13
    have HO13:=h_ hown13
    clear hown13
    go_wp2_with fail
    go_roundw
    case rel=>exact⟨j+1,by omega,by simp,by rw[HTK.out];simpa using HO13.out,cb13⟩
    case measure=>simp[intOf];omega
   | none=>
    rw[hes]at HH HTK
    go_wp2_with fail
    (try rw[hw10])
    (try clear hw10)
    (with_reducible refine HH.out.mono ?_)
    rintro e w11 ⟨rfl,b11⟩
    have z11:=b11.size
    have r11:=(aA b11 k10).trans r10
    have b1011:Below wr.heap.size wr w11:=b10.trans (b11.mono (by omega))
    have HO11:=h_ (HOW.out.below b1011)
    simp only[Option.isSome_none]
    have k911:w9.heap.size<=w11.heap.size:=by omega
    have hlen12:((mE es (outs.take j)).map aJS).length<=10000:=by rw[List.length_map];omega
    have HL12:=h_ hlen12
    clear hlen12
    go_wp2_with (at_builtin;(refine dM rfl rfl Tryz.underlying46 iD (by decide) (by decide) w9.heap.size _ _ rfl HO11.out [Value.int .i64 (po:Int),.bool false,.string ⟨so.toArray⟩] rfl rfl rfl HL12.out k911 ?_))
    intro v13 w13 hown13 b13 _
    have cb13:=(cb.trans (b1011.mono zb)).trans b13
    have HO13:=h_ hown13
    clear hown13
    go_wp2_with fail
    go_roundw
    case rel=>exact⟨j+1,by omega,by simp,by rw[HTK.out,List.map_append];exact HO13.out,cb13⟩
    case measure=>simp[intOf];omega
  ·obtain rfl:j=outs.length:=by omega
   have hltI:¬(outs.length:Int)<(outs.length:Int):=by omega
   rw[List.take_length]at HOW
   have hNr:=HND.out wr hBr
   have cN21:wr.cell? ⟨N,21,none⟩=some (.slice (some ⟨eb,0,none⟩) n ec):=by rw[aQ (by rw[hNr];simp),hNr];simp
   have cE:=HCE.out wr hBr
   rw[Nat.zero_add]at cE
   have zEb:eb<wr.heap.size:=by
    rcases Nat.lt_or_ge eb wr.heap.size with h1 | h1
    ·exact h1
    ·simp[World.cell?,Array.getElem?_eq_none h1]at cE
   have zNr:N<wr.heap.size:=by omega
   have zVr:V<wr.heap.size:=by omega
   clear hNr
   go_wp2_with fail
   have hG:GrowP fun W=>Below wr.heap.size wr W/\(W.cell? ⟨N,21,none⟩=some (.slice (some ⟨eb,0,none⟩) n ec)/\N<W.heap.size)/\(W.cell? ⟨eb,q,none⟩=some (.pointer none)/\eb<W.heap.size):=GrowP.and (d6 wr) (GrowP.and (bK _ _ _) (bK _ _ _))
   refine nV [(V,#[Value.int .i64 (q:Int),.string ⟨l.toArray⟩])] (fun W=>Below wr.heap.size wr W/\(W.cell? ⟨N,21,none⟩=some (.slice (some ⟨eb,0,none⟩) n ec)/\N<W.heap.size)/\(W.cell? ⟨eb,q,none⟩=some (.pointer none)/\eb<W.heap.size)) hG (⟨Below.refl _ _,⟨cN21,zNr⟩,cE,zEb⟩) (fun hS=>?_)
   refine sp 0 hG hS ?_
   refine sp 1 hG hS ?_
   refine sp 2 hG hS ?_
   refine sp 3 hG hS ?_
   refine sp 4 hG hS ?_
   refine sp 5 hG hS ?_
   refine sp 6 hG hS ?_
   refine sp 7 hG hS ?_
   refine sp 8 hG hS ?_
   refine aG kr_ (fun w14 bw14=>?_) _
   have b14:Below wr.heap.size wr w14:=aL hS.2.1 bw14
   have z14:=b14.size
   have cb14:=cb.trans (b14.mono zb)
   have hB14:=hBr.trans ((BelowS.of b14).mono (show w.heap.size<=wr.heap.size by omega))
   have HS14:=h_ (HST.out w14 hB14)
   have HO14:=h_ (HOW.out.below b14)
   clear hS bw14 cN21 cE HOW b14
   go_wp2_with fail
   (with_reducible refine HS14.out.mono ?_)
   rintro e w15 ⟨rfl,b15⟩
   have z15:=b15.size
   have cb15:=cb14.trans (b15.mono (by omega))
   have HO15:=h_ (HO14.out.below b15)
   have k915:w9.heap.size<=w15.heap.size:=by omega
   have hlen15:((mE es outs).map aJS).length+0<=10000:=by rw[List.length_map];have:(mE es outs).length<=outs.length:=List.length_filter_le _ _;omega
   have HL15:=h_ hlen15
   have honN:∀y∈([]:List (List Value)),eC y=true:=fun y hy=>by cases hy
   clear hlen15
   go_wp2_with (at_builtin;(refine dF rfl rfl Tryz.underlying46 iD (by decide) (by decide) w9.heap.size _ _ rfl HO15.out w15.heap.size _ _ rfl (OwnL.nil _ _ _ _) honN HL15.out k915 ?_))
   intro v16 w16 hown16 b16
   try rw[List.append_nil]at hown16
   have cb16:=cb15.trans b16
   have HO16:=h_ hown16
   have HBR:=h_ (HB9.out.below cb16)
   clear hown16
   go_wp2_with fail
   go_ret
   exact⟨⟨_,rfl,HO16.out.lower (by omega)⟩,HBB.out.trans ((BelowS.of cb16).mono kw9),HBR.out⟩
end
end
end Go.Proofs.YtiagbbknkdgmeaaGreat
