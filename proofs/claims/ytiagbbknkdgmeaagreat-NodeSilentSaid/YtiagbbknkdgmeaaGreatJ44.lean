/- Texts of this proof, merged: NodJ, NodK, NodG, NodL, NodY. -/
import Derived.Test.YtiagbbknkdgmeaaGreatJ41
import Derived.Test.YtiagbbknkdgmeaaGreatJ42
import Derived.Test.YtiagbbknkdgmeaaGreatJ40
import Derived.Test.YtiagbbknkdgmeaaGreatJ9
import Derived.Test.YtiagbbknkdgmeaaGreatLnkHJ
import Derived.Test.YtiagbbknkdgmeaaGreatJ21
set_option linter.unusedSimpArgs false
set_option linter.unusedVariables false
set_option maxHeartbeats 8000000
set_option maxRecDepth 20000
namespace Go.Proofs.YtiagbbknkdgmeaaGreat
section
open Go.RowKit Go.Shelf
theorem EvQ.lt {w:World} {Q E:Nat} {ao:Option Addr} {c g off:Nat} (h:EvQ w Q E ao c) (e:ao=some ⟨g,off,none⟩) (hc:c≠0):g<w.heap.size:=by
 rcases h with h | ⟨b,o2,cs,h1,h2,_⟩
 ·exact absurd h hc
 ·rw[h1]at e
  cases e
  exact(Array.getElem?_eq_some_iff.1 h2).1
def IdleQ (w:World) (Q E:Nat) (room:Int):Prop:=∃a0 c0 a1 c1,row w Q=#[.int .i64 room,.slice a0 0 c0,.slice a1 0 c1,.int .i64 0]/\EvQ w Q E a0 c0/\EvQ w Q E a1 c1
def WaitQ (w:World) (Q E:Nat) (room port:Int) (s:List UInt8) (b:Bool):Prop:=∃g off cap a c,row w Q=(if b then #[.int .i64 room,.slice (some ⟨g,off,none⟩) 1 cap,.slice a 0 c,.int .i64 0]else #[.int .i64 room,.slice a 0 c,.slice (some ⟨g,off,none⟩) 1 cap,.int .i64 0])/\EvAt w Q E port s g off cap/\EvQ w Q E a c
theorem IdleQ.ltQ {w:World} {Q E:Nat} {room:Int} (h:IdleQ w Q E room):Q<w.heap.size:=by
 obtain⟨a0,c0,a1,c1,h1,_⟩:=h
 exact aM (i:=0) (by rw[h1];simp)
theorem IdleQ.kept {w w':World} {Q E:Nat} {room:Int} (h:IdleQ w Q E room) (hb:∀k,k<w.heap.size->(k=Q∨E<=k)->w'.heap[k]? =w.heap[k]?):IdleQ w' Q E room:=by
 have hl:=h.ltQ
 obtain⟨a0,c0,a1,c1,h1,h2,h3⟩:=h
 exact⟨a0,c0,a1,c1,(aJ (hb Q hl (.inl rfl))).trans h1,h2.kept fun k hk he _=>hb k hk (.inr he),h3.kept fun k hk he _=>hb k hk (.inr he)⟩
theorem WaitQ.ltQ {w:World} {Q E:Nat} {room port:Int} {s:List UInt8} {b:Bool} (h:WaitQ w Q E room port s b):Q<w.heap.size:=by
 obtain⟨g,off,cap,a,c,h1,_⟩:=h
 exact aM (i:=0) (by rw[h1];split<;>simp)
theorem WaitQ.kept {w w':World} {Q E:Nat} {room port:Int} {s:List UInt8} {b:Bool} (h:WaitQ w Q E room port s b) (hb:∀k,k<w.heap.size->(k=Q∨E<=k)->w'.heap[k]? =w.heap[k]?):WaitQ w' Q E room port s b:=by
 have hl:=h.ltQ
 obtain⟨g,off,cap,a,c,h1,h2,h3⟩:=h
 have hg:w'.heap[g]? =w.heap[g]? :=by
  obtain⟨_,h5,_,_,cs,h6,_⟩:=h2
  exact hb g (Array.getElem?_eq_some_iff.1 h6).1 (.inr h5)
 exact⟨g,off,cap,a,c,(aJ (hb Q hl (.inl rfl))).trans h1,h2.kept hg,h3.kept fun k hk he _=>hb k hk (.inr he)⟩
theorem aMh {w:World} {Q E:Nat} {room port:Int} {s:List UInt8} {b:Bool} (h:WaitQ w Q E room port s b):
  Calls Tryz.prog 29 #[.pointer (some ⟨Q,0,none⟩)] w fun e w'=>IdleQ w' Q E room/\e=.returned (.tuple #[.agg #[.int .i64 port,.string ⟨s.toArray⟩],.bool b,.bool true])/\BelowBut w.heap.size Q w w':=by
 obtain⟨g,off,cap,a,c,h1,h2,h3⟩:=h
 cases b with
 | true=>
  refine(aJq Q E g off cap room 0 port _ s w h1 h2).mono ?_
  rintro e w' ⟨a',c',k1,k2,k3,k4⟩
  exact⟨⟨_,_,_,_,k3,k1,h3.kept fun k hk _ hn=>k4.block k hk hn⟩,k2,k4⟩
 | false=>
  refine(aJr Q E g off cap room 0 port _ _ s w h1 h2).mono ?_
  rintro e w' ⟨a',c',k1,k2,k3,k4⟩
  exact⟨⟨_,_,_,_,k3,h3.kept fun k hk _ hn=>k4.block k hk hn,k1⟩,k2,k4⟩
section
variable {id:Vector UInt8 8} {ma he de ageing:Int} {pa:Option Addr} {n cap:Nat} {mac:Vector UInt8 6} {br spn ea:Option Addr} {ne ec:Nat} {Q:Nat} {sent ch:Int} {w:World} {N:Nat}
theorem aMi (hN:row w N=(cY id ma he de ageing pa n cap mac br spn ea ne ec (some ⟨Q,0,none⟩) sent ch).toArray) (room:Int) (hr:1<=room) {E:Nat} (hNE:N<E) (hEw:E<=w.heap.size) (hQ:IdleQ w Q E room) (port:Int) (s:List UInt8):
  Calls Tryz.prog 28 #[.pointer (some ⟨N,0,none⟩),.int .i64 port,.string ⟨s.toArray⟩] w fun e w'=>e=.returned (.int .i64 0)/\WaitQ w' Q E room port s (Lib.hasPrefix s bpduTo.toList)/\BelowS E [Q] w w':=by
 have zN:N<w.heap.size:=aM (i:=0) (by rw[hN];simp[cY])
 obtain⟨a0,c0,a1,c1,hQ,he0,he1⟩:=hQ
 have zQ:Q<w.heap.size:=aM (i:=0) (by rw[hQ];simp)
 have cN:w.cell? ⟨N,22,none⟩=some (.pointer (some ⟨Q,0,none⟩)):=by rw[aQ (by rw[hN];simp[cY]),hN];simp[cY]
 have nNQ:N≠Q:=fun e=>by
  rw[e,hQ]at hN
  have:=congrArg Array.size hN
  simp[cY]at this
 have HP:=h_ (fun w=>Tryz.strings_HasPrefix ⟨s.toArray⟩ ⟨bpduTo.toList.toArray⟩ w)
 obtain⟨b,hb⟩:∃b,Lib.hasPrefix s bpduTo.toList=b:=⟨_,rfl⟩
 have HP2:=h_ (fun w=>(HP.out w).mono fun e w' (h:e=_/\w'=w)=>(show e=.returned (.bool b)/\Below w.heap.size w w' from ⟨by rw[h.1];rw[<-hb],by rw[h.2];exact Below.refl _ _⟩))
 rw[hb]
 have hPut:∀W,Below w.heap.size w W->Calls Tryz.prog 61 #[.pointer (some ⟨Q,0,none⟩),.bool b,.agg #[.int .i64 port,.string ⟨s.toArray⟩]] W fun e w'=>e=.returned (.int .i64 0)/\WaitQ w' Q E room port s b/\∃g,E<=g/\(g<w.heap.size∨W.heap.size<=g)/\BelowS W.heap.size [Q,g] W w':=by
  intro W hW
  have rQ:=(aA hW zQ).trans hQ
  have k0:=he0.kept fun k hk _ _=>hW.block k hk
  have k1:=he1.kept fun k hk _ _=>hW.block k hk
  have zW:=hW.size
  cases b with
  | true=>
   refine(aK3 Q E room 0 port hr _ a0 c0 s W rQ k0 (by omega)).mono ?_
   rintro e w' ⟨g,off,cap,h1,h2,h3,h4,h5,h6⟩
   exact⟨h1,⟨g,off,cap,a1,c1,h2,h3,h4 _ _ k1⟩,g,h3.2.1,h5.imp (fun h=>he0.lt h.2 h.1) (fun h=>h),h6⟩
  | false=>
   refine(aK4 Q E room 0 port hr _ a1 c1 s W rQ k1 (by omega)).mono ?_
   rintro e w' ⟨g,off,cap,h1,h2,h3,h4,h5,h6⟩
   exact⟨h1,⟨g,off,cap,a0,c0,h2,h3,h4 _ _ k0⟩,g,h3.2.1,h5.imp (fun h=>he1.lt h.2 h.1) (fun h=>h),h6⟩
 have HPut:=h_ hPut
 clear hb HP hPut hN he0 he1
 go_enter Tryz.func28,Tryz.ntmps28
 go_wp2_with fail
 refine(aGB _).mono ?_
 rintro e w1 ⟨rfl,b1⟩
 have z1:=b1.size
 obtain⟨w2,hw2⟩:∃x,w1.alloc (.cells (u8v bpduTo).toArray 77)=x:=⟨_,rfl⟩
 have b2:Below w1.heap.size w1 w2:=by rw[<-hw2];exact ba_
 have z2:w2.heap.size=w1.heap.size+1:=by rw[<-hw2,aF]
 have rT:row w2 w1.heap.size=(u8v bpduTo).toArray:=by rw[<-hw2];exact aE _ _ _ rfl
 have B2:Below w.heap.size w w2:=b1.trans (b2.mono z1)
 have hEw2:E<=w2.heap.size:=Nat.le_trans hEw B2.size
 have cN2:=fN cN zN B2
 have zN2:N<w2.heap.size:=by omega
 have zT2:w1.heap.size<w2.heap.size:=by omega
 have nTQ:w1.heap.size≠Q:=by omega
 clear z2 cN hQ b2
 obtain⟨T,hT⟩:∃T,w1.heap.size=T:=⟨_,rfl⟩
 rw[hT]at rT zT2 nTQ
 go_wp2_with fail
 (try rw[hw2])
 (try clear hw2)
 (try rw[hT])
 have hG:GrowP fun W=>BelowS E [Q] w2 W/\(W.cell? ⟨N,22,none⟩=some (.pointer (some ⟨Q,0,none⟩))/\N<W.heap.size):=GrowP.and (fun w w' h hb=>h.trans ((BelowS.of hb).mono (Nat.le_trans hEw2 h.size))) (bK _ _ _)
 refine nV [(T,(u8v bpduTo).toArray)] (fun W=>BelowS E [Q] w2 W/\(W.cell? ⟨N,22,none⟩=some (.pointer (some ⟨Q,0,none⟩))/\N<W.heap.size)) hG (⟨BelowS.of (Below.refl _ _),cN2,zN2⟩) (fun hS=>?_)
 refine sp 0 hG hS ?_
 refine sp 1 hG hS ?_
 refine sp 2 hG hS ?_
 refine sp 3 hG hS ?_
 refine sp 4 hG hS ?_
 refine sp 5 hG hS ?_
 refine sp 6 hG hS ?_
 refine sc 7 (v:=?_) hG hS ?_ ?_
 rotate_left
 ·intro w' hS'
  obtain⟨hS',hX'⟩:=hS'
  simp only[Rws]at hS'
  go_simp
  with_reducible refine(HP2.out _).mono ?_
  rintro e w'' ⟨rfl,hb⟩
  exact⟨_,rfl,by rfl,hb⟩
 refine sp 8 hG hS ?_
 refine sp 9 hG hS ?_
 refine sp 10 hG hS ?_
 refine fM 11 kr_ (fun u hu=>?_)
 refine wpOp_step rfl (fun K hK=>?_)
 go_simp
 have hu2:Below w2.heap.size w2 u:=aL (Below.drew (Below.refl _ _)) hu
 have zu:=hu2.size
 (with_reducible refine(HPut.out _ (B2.trans (hu2.mono B2.size))).mono ?_)
 rintro e u3 ⟨rfl,hW3,g,hEg,hgw,b3⟩
 have nTg:T≠g:=by have:=b1.size;omega
 have b3E:BelowS E [Q] u u3:=⟨b3.os,b3.tape,b3.output,b3.size,fun k hk hn=>b3.block k (by omega) (by simp only[List.mem_cons,List.not_mem_nil,or_false,not_or]at hn ⊢;exact⟨hn,by omega⟩)⟩
 have z3:=b3.size
 have hS:XS [(T,(u8v bpduTo).toArray)] (fun W=>BelowS E [Q] w2 W/\(W.cell? ⟨N,22,none⟩=some (.pointer (some ⟨Q,0,none⟩))/\N<W.heap.size)) u3:=by
  refine⟨⟨((aJ (b3.block T (by omega) (by simp[nTQ,nTg]))).trans (aA hu2 (by omega))).trans rT,by omega,trivial⟩,((BelowS.of hu2).mono hEw2).trans b3E,?_,by omega⟩
  have:=fN cN2 zN2 hu2
  unfold World.cell? at this ⊢
  rw[b3.block N (by omega) (by simp only[List.mem_cons,List.not_mem_nil,or_false,not_or];exact⟨nNQ,by omega⟩)]
  exact this
 refine hK _ _ ⟨hS,?_⟩
 clear hK K
 (try simp only[Act.put,List.setIfInBounds_toArray,List.set_cons_zero,List.set_cons_succ])
 refine sp 12 hG hS ?_
 refine aG kr_ (fun w9 bw9=>?_) _
 have B3:BelowS E [Q] w2 w9:=(((BelowS.of hu2).mono hEw2).trans b3E).trans ((BelowS.of bw9).mono (by omega))
 have hW9:=hW3.kept fun k hk _=>bw9.block k hk
 have BB:BelowS E [Q] w w9:=((BelowS.of B2).mono hEw).trans B3
 clear hS hu bw9 b3 hu2 rT cN2 b3E hW3
 go_wp2_with fail
 go_ret
 exact⟨rfl,hW9,BB⟩
theorem aEe (hN:row w N=(cY id ma he de ageing pa n cap mac br spn ea ne ec (some ⟨Q,0,none⟩) sent ch).toArray) (room:Int) (hr:1<=room) {E:Nat} (hNE:N<E) (hEw:E<=w.heap.size) (hQ:IdleQ w Q E room) (port:Int) (s:List UInt8)
  (hH:Calls Tryz.prog 27 #[.pointer (some ⟨N,0,none⟩),.int .i64 port] w fun e w'=>e=.returned (.tuple #[.bool true,.bool false])/\Below w.heap.size w w'):
  Calls Tryz.prog 11 #[.pointer (some ⟨N,0,none⟩),.int .i64 port,.string ⟨s.toArray⟩] w fun e w'=>e=.returned (.int .i64 0)/\WaitQ w' Q E room port s (Lib.hasPrefix s bpduTo.toList)/\BelowS E [Q] w w':=by
 have zN:N<w.heap.size:=aM (i:=0) (by rw[hN];simp[cY])
 have HH:=h_ hH
 have HW:=h_ (fun(W:World) (hW:Below w.heap.size w W)=>aMi ((aA hW zN).trans hN) room hr hNE (Nat.le_trans hEw hW.size) (hQ.kept fun k hk _=>hW.block k hk) port s)
 clear hH
 go_enter Tryz.func11,Tryz.ntmps11
 go_wp2_with fail
 (with_reducible refine HH.out.mono ?_)
 rintro e w1 ⟨rfl,b1⟩
 go_wp2_with fail
 (with_reducible refine(HW.out _ b1).mono ?_)
 rintro e w2 ⟨rfl,hW2,b2⟩
 go_wp2_with fail
 go_ret
 exact⟨rfl,hW2,((BelowS.of b1).mono hEw).trans b2⟩
end
end
section
open Go.RowKit Go.Shelf
theorem aJT {w:World} {Q E:Nat} {room:Int} (h:IdleQ w Q E room):
  Calls Tryz.prog 29 #[.pointer (some ⟨Q,0,none⟩)] w fun e w'=>e=.returned (.tuple #[.agg #[.int .i64 0,.string ⟨#[]⟩],.bool false,.bool false])/\Below w.heap.size w w':=by
 obtain⟨a0,c0,a1,c1,h1,_⟩:=h
 exact aET Q room 0 a0 a1 c0 c1 w h1
section
variable {w:World} {N:Nat} {p:NdP} {A:BrA} {s:BrS}
theorem aMj (h:Quiet (p.Q::A.muts) w N p) (hA:p.B=A.B) (hex:p.Q∈A.ex) (hnb:∀b∈[A.B,A.SB,A.LT,A.LM,A.HT,A.HM],b≠p.Q) (hb:BrT w A s) {K:Nat} (hK:K<=900000) (hg:BrG s K) (hlen:s.ports.length=p.es.length) {q:Nat} (hq:q<p.es.length) (htap:p.es[q]=none) (l:List UInt8) (hl:l.length<=1000000) (t:TalkD) (ht:∀d,bM l=.ok d->TalkC d.dst d.src d.ty d.body t)
  (room:Int) (c:Bool) {E:Nat} (hmE:∀b∈A.muts,b<E) (hW:WaitQ w p.Q E room (q:Int) l c):
  Calls Tryz.prog 12 #[.pointer (some ⟨N,0,none⟩)] w fun e w'=>(∃v,e=.returned v/\OwnL w' w.heap.size 54 3 v ((mE p.es (e9 s q l t).2.1).map aJS))/\BelowS w.heap.size (p.Q::A.muts) w w'/\BrT w' A (e9 s q l t).1/\IdleQ w' p.Q E room:=by
 have zN:=h.ltN
 have zQ:p.Q<w.heap.size:=hW.ltQ
 have HME:=h_ hmE
 have nQm:p.Q∉A.muts:=fun hm=>hnb _ (dJ hm) rfl
 have HTK:=h_ (aMh hW)
 have HKP:=h_ (fun(W:World) (hW:BelowS w.heap.size (p.Q::A.muts) w W)=>h.kept hW)
 have HOB:=h_ (fun(W:World) (hW:BelowBut w.heap.size p.Q w W)=>hb.otherB hex hnb hW)
 have HON:=h_ (fun(W:World) (hW:Quiet (p.Q::A.muts) W N p) (hB:BrT W A s)=>aJp hW hA hB hK hg hlen hq htap l hl t ht)
 have hol:(mE p.es (e9 s q l t).2.1).length<=32:=Nat.le_trans (List.length_filter_le _ _) (Nat.le_trans (pO s (by omega) l t).2 (by rw[hlen];exact h.n32))
 have hnd:=h.nd
 unfold NdP.cells cY at hnd
 obtain⟨outs,houts⟩:∃o,mE p.es (e9 s q l t).2.1=o:=⟨_,rfl⟩
 obtain⟨s',hs'⟩:∃o,(e9 s q l t).1=o:=⟨_,rfl⟩
 rw[houts]at hol HON
 rw[hs']at HON
 rw[houts,hs']
 have HOL:=h_ hol
 clear h hb hg ht houts hs' hlen htap hl hK hA hex hnb hW hmE hol
 obtain⟨id,ma,he,de,ageing,pa,pn,pcap,mac,B,spn,eb,ec,qq,es,D⟩:=p
 dsimp only at *
 go_enter Tryz.func12,Tryz.ntmps12
 go_wp2_with fail
 refine wp_loop_rounds 2 ?_
 rw[rounds_succ]
 go_wp2_with fail
 (with_reducible refine HTK.out.mono ?_)
 rintro e w1 ⟨hQ1,rfl,b1⟩
 have z1:=b1.size
 have hS1:BelowS w.heap.size (qq::A.muts) w w1:=BelowS.one b1 (by simp)
 have hB1:=HOB.out w1 b1
 obtain⟨w2,hw2⟩:∃x,w1.alloc (.cells #[Value.int .i64 (q:Int),.string ⟨l.toArray⟩] 71)=x:=⟨_,rfl⟩
 have b2:Below w1.heap.size w1 w2:=by rw[<-hw2];exact ba_
 have rV2:row w2 w1.heap.size=#[Value.int .i64 (q:Int),.string ⟨l.toArray⟩]:=by rw[<-hw2];exact aE _ _ _ rfl
 have zV2:w1.heap.size<w2.heap.size:=by rw[<-hw2,aF];omega
 have hS2:BelowS w.heap.size (qq::A.muts) w w2:=hS1.trans ((BelowS.of b2).mono z1)
 have hQu2:=HKP.out w2 hS2
 have hB2:=hB1.below b2
 have zQ1:qq<w1.heap.size:=by omega
 have rQ2:=hQ1.kept fun k hk _=>b2.block k hk
 have HO2:=h_ (HON.out w2 hQu2 hB2)
 have HS2:=h_ hS2
 have zQ2:qq<w2.heap.size:=by omega
 clear hQ1 hB1 hS1 hS2 hQu2 hB2 b2
 go_wp2_with fail
 (try rw[hw2])
 (try clear hw2)
 (with_reducible refine HO2.out.mono ?_)
 rintro e w3 ⟨⟨v3,rfl,own3⟩,b3,hB3⟩
 have z3:=b3.size
 have rQ3:=rQ2.kept fun k hk he=>b3.block k hk (fun hm=>by
  rcases he with rfl | he
  ·exact nQm hm
  ·have:=HME.out k hm;omega)
 have kw3:w.heap.size<=w3.heap.size:=by omega
 have HO3:=h_ own3
 have hS3:BelowS w.heap.size (qq::A.muts) w w3:=HS2.out.trans (BelowS.mono ⟨b3.os,b3.tape,b3.output,b3.size,fun k hk hn=>b3.block k hk fun hm=>hn (List.mem_cons_of_mem _ hm)⟩ (by omega))
 have HS3:=h_ hS3
 have HB3:=h_ hB3
 have honN:∀y∈outs.map aJS,eC y=true:=by
  intro y hy
  obtain⟨x,_,rfl⟩:=List.mem_map.1 hy
  rfl
 have HL3:=h_ (show([]:List (List Value)).length+(outs.map aJS).length<=10000 by simp;have:=HOL.out;omega)
 clear own3 b3 hS3 hB3 HO2 rV2 rQ2
 go_wp2_with (at_builtin;(refine dF rfl rfl Tryz.underlying46 iD (by decide) (by decide) w3.heap.size _ _ rfl (OwnL.nil _ _ _ _) w2.heap.size _ _ rfl HO3.out honN HL3.out (Nat.le_refl _) ?_))
 intro v4 w4 own4 b4
 try rw[List.nil_append]at own4
 have z4:=b4.size
 have own4':=own4.lower kw3
 have hS4:=HS3.out.trans ((BelowS.of b4).mono kw3)
 have hB4:=HB3.out.below b4
 have rQ4:=rQ3.kept fun k hk _=>b4.block k hk
 have rN4:=(HKP.out w4 hS4).nd
 unfold NdP.cells cY at rN4
 dsimp only at rN4
 have HO4:=h_ own4'
 have HS4:=h_ hS4
 have HB4:=h_ hB4
 have HTN:=h_ (fun W (hQ:IdleQ W qq E room)=>aJT hQ)
 clear own4 own4' hS4 hB4 b4 rQ3 hnd
 go_wp2_with fail
 rw[rounds_succ]
 go_wp2_with fail
 (with_reducible refine(HTN.out _ rQ4).mono ?_)
 rintro e w5 ⟨rfl,b5⟩
 have HO5:=h_ (HO4.out.below b5)
 have HB5:=h_ (HB4.out.below b5)
 have rQ5:=rQ4.kept fun k hk _=>b5.block k hk
 obtain⟨w6,hw6⟩:∃x,w5.alloc (.cells #[Value.int .i64 0,.string ⟨#[]⟩] 71)=x:=⟨_,rfl⟩
 have b6:Below w5.heap.size w5 w6:=by rw[<-hw6];exact ba_
 have r6:row w6 w5.heap.size=#[Value.int .i64 0,.string ⟨#[]⟩]:=by rw[<-hw6];exact aE _ _ _ rfl
 have hs6:=fA r6 (by simp)
 have rQ6:=rQ5.kept fun k hk _=>b6.block k hk
 have HO6:=h_ (HO5.out.below b6)
 have HB6:=h_ (HB5.out.below b6)
 have HS6:=h_ (HS4.out.trans ((BelowS.of (b5.trans (b6.mono b5.size))).mono (show w.heap.size<=w4.heap.size by omega)))
 clear rQ5 rQ4 b5 b6 HO5 HB5 HO4 HB4
 go_wp2_with fail
 (try rw[hw6])
 (try clear hw6)
 go_ret
 exact⟨⟨_,rfl,HO6.out⟩,HS6.out,HB6.out,rQ6⟩
theorem aNc {S:List Nat} (h:Quiet S w N p) {room:Int} {E:Nat} (hQ:IdleQ w p.Q E room):
  Calls Tryz.prog 12 #[.pointer (some ⟨N,0,none⟩)] w fun e w'=>e=.returned (.slice none 0 0)/\Below w.heap.size w w':=by
 have zN:=h.ltN
 have HTN:=h_ (aJT hQ)
 have hnd:=h.nd
 unfold NdP.cells cY at hnd
 clear h hQ
 obtain⟨id,ma,he,de,ageing,pa,pn,pcap,mac,B,spn,eb,ec,qq,es,D⟩:=p
 dsimp only at *
 go_enter Tryz.func12,Tryz.ntmps12
 go_wp2_with fail
 refine wp_loop_rounds 2 ?_
 rw[rounds_succ]
 go_wp2_with fail
 (with_reducible refine HTN.out.mono ?_)
 rintro e w1 ⟨rfl,b1⟩
 have z1:=b1.size
 obtain⟨w6,hw6⟩:∃x,w1.alloc (.cells #[Value.int .i64 0,.string ⟨#[]⟩] 71)=x:=⟨_,rfl⟩
 have b6:Below w1.heap.size w1 w6:=by rw[<-hw6];exact ba_
 have r6:row w6 w1.heap.size=#[Value.int .i64 0,.string ⟨#[]⟩]:=by rw[<-hw6];exact aE _ _ _ rfl
 have hs6:=fA r6 (by simp)
 have B6:=b1.trans (b6.mono z1)
 clear b1 b6
 go_wp2_with fail
 (try rw[hw6])
 (try clear hw6)
 go_ret
 exact⟨rfl,B6⟩
end
end
section
open Go.RowKit Go.Shelf
def EndG (B0 E:Nat) (w:World) (p:NdP) (A:BrA) (K:Nat) (x:PortX) (e:Option Nat):Prop:=
 (x.link=false/\e=none)∨(x.link=true/\∃b L M,∃pl:Nat,∃t,e=some b/\DownAt (p.Q::A.muts) p.D (nC E w) b L M pl t/\(L∈A.ex/\B0<=L)/\t.greets=x.greets/\(0<=t.now/\t.now<=K)/\0<=t.asked/\t.asked<=K)
structure NodeG (B0 E:Nat) (w:World) (N:Nat) (ps:List PortX) (p:NdP) (A:BrA) (s:BrS) (K:Nat):Prop where
 le:E<=w.heap.size
 qE:Quiet (p.Q::A.muts) (nC E w) N p
 pB:p.B=A.B
 ex:p.Q∈A.ex
 nQ:∀b∈[A.B,A.SB,A.LT,A.LM,A.HT,A.HM],b≠p.Q
 br:BrT w A s
 g:BrG s K
 len:s.ports.length=p.es.length
 lo6:∀b∈[A.B,A.SB,A.LT,A.LM,A.HT,A.HM],b<E
 brl:∃D',D'<=E/\(∀sb,p.spn=some ⟨sb,0,none⟩->D'<=sb)/\BrL D' w A s.ports
 pe:p.es.length=ps.length
 ends:∀(i:Nat) (x:PortX),ps[i]? =some x->∃e,p.es[i]? =some e/\EndG B0 E w p A K x e
 lo:∀b∈p.Q::A.muts,B0<=b
 sp:p.spn=none∨∃sb s,p.spn=some ⟨sb,0,none⟩/\SpT (nC E w) p.D sb s/\s.ps.length<=32/\(0<=s.now/\s.now<=K/\1<=s.he/\s.he<=1000)
theorem DownAt.kept {S:List Nat} {D:Nat} {w w':World} {x L M:Nat} {pl:Int} {t:LinkT} (d:DownAt S D w x L M pl t) (hb:BelowS w.heap.size S w w'):DownAt S D w' x L M pl t:=
 ⟨d.xS,(hb.row d.ltx d.xS).trans d.rx,d.LS,d.LD,d.psk,d.dn,(hb.row d.ltL d.LS).trans d.rL⟩
section
variable {B0 E:Nat} {w w':World} {N:Nat} {ps:List PortX} {p:NdP} {A:BrA} {s:BrS} {K:Nat}
theorem NodeG.q (h:NodeG B0 E w N ps p A s K):Quiet (p.Q::A.muts) w N p:=h.qE.kept (BelowS.uncut h.le)
theorem EndG.kept {x:PortX} {e:Option Nat} (h:EndG B0 E w p A K x e) (hE:E<=w.heap.size) (hb:BelowS E (p.Q::A.muts) w w') {K':Nat} (hK:K<=K'):EndG B0 E w' p A K' x e:=by
 rcases h with h | ⟨h1,b,L,M,pl,t,h2,h3,h4,h5,h6,h7,h8⟩
 ·exact .inl h
 ·exact .inr ⟨h1,b,L,M,pl,t,h2,h3.kept (hb.cut hE),h4,h5,⟨h6.1,by omega⟩,h7,by omega⟩
theorem NodeG.turn (h:NodeG B0 E w N ps p A s K) {s':BrS} {K':Nat} (hb:BelowS E (p.Q::A.muts) w w') (hbr:BrT w' A s') (hg:BrG s' K') (hp:s'.ports=s.ports) (hK:K<=K'):NodeG B0 E w' N ps p A s' K':=by
 have hoff:∀x∈p.Q::A.muts,x∈A.offs:=fun x hx=>by
  rcases List.mem_cons.1 hx with rfl | hx
  ·exact List.mem_append_right _ h.ex
  ·exact List.mem_append_left _ hx
 refine⟨Nat.le_trans h.le hb.size,h.qE.kept (hb.cut h.le),h.pB,h.ex,h.nQ,hbr,hg,by rw[hp];exact h.len,h.lo6,?_,h.pe,fun i x hx=>?_,h.lo,?_⟩
 ·obtain⟨D',h1,h2,h3⟩:=h.brl
  exact⟨D',h1,h2,by rw[hp];exact h3.kept hb.size fun k hk hn=>hb.block k (by omega) fun hm=>hn (hoff k hm)⟩
 ·obtain⟨e,h1,h2⟩:=h.ends i x hx
  exact⟨e,h1,h2.kept h.le hb hK⟩
 ·rcases h.sp with h1 | ⟨sb,sd,h1,h2,h3,h4⟩
  ·exact .inl h1
  ·exact .inr ⟨sb,sd,h1,h2.kept fun k hk hl=>(hb.cut h.le).block k hl fun hm=>by have:=h.qE.SD k hm;omega,h3,h4.1,by omega,h4.2.2⟩
theorem NodeG.put (h:NodeG B0 E w N ps p A s K) (hb:BelowS E [p.Q] w w'):NodeG B0 E w' N ps p A s K:=by
 have hb2:BelowS E (p.Q::A.muts) w w':=⟨hb.os,hb.tape,hb.output,hb.size,fun k hk hn=>hb.block k hk fun hm=>hn (by rw[List.mem_singleton.1 hm];exact List.mem_cons_self)⟩
 refine h.turn hb2 ?_ h.g rfl (Nat.le_refl _)
 obtain⟨D',h1,h2,h3⟩:=h.brl
 refine h.br.swap (h3.kept hb.size fun k hk hn=>hb.block k (by omega) fun hm=>hn ?_) fun b hb6=>hb.block b (h.lo6 b hb6) fun hm=>h.nQ b hb6 (List.mem_singleton.1 hm)
 rw[List.mem_singleton.1 hm]
 exact List.mem_append_right _ h.ex
theorem NodeG.below (h:NodeG B0 E w N ps p A s K) (hb:Below E w w'):NodeG B0 E w' N ps p A s K:=h.put (BelowS.of hb)
theorem NodeG.more (h:NodeG B0 E w N ps p A s K) {K':Nat} (hK:K<=K'):NodeG B0 E w N ps p A s K':=h.turn (BelowS.of (Below.refl _ _)) h.br (h.g.more hK) rfl hK
theorem NodeG.six (h:NodeG B0 E w N ps p A s K) {L:Nat} (hm:L∉p.Q::A.muts) (hs:4<(row w L).size):∀b∈[A.B,A.SB,A.LT,A.LM,A.HT,A.HM],b≠L:=by
 intro b hb e
 subst e
 simp only[BrA.muts,List.mem_cons,List.not_mem_nil,or_false,not_or]at hm hb
 rcases hb with rfl | rfl | rfl | rfl | rfl | rfl
 ·exact hm.2.1 rfl
 ·exact hm.2.2.1 rfl
 ·rw[h.br.ler.row]at hs;simp at hs
 ·exact hm.2.2.2.1 rfl
 ·rw[h.br.hush.row]at hs;simp at hs
 ·exact hm.2.2.2.2 rfl
theorem BelowBut.cut {E L:Nat} {w w':World} (h:BelowBut w.heap.size L w w') (hE:E<=w.heap.size):BelowBut (nC E w).heap.size L (nC E w) (nC E w'):=by
 have:=h.size
 refine⟨h.os,h.tape,h.output,by rw[cP hE,cP (by omega)];exact Nat.le_refl _,fun k hk hn=>?_⟩
 rw[cP hE]at hk
 rw[f8 hk,f8 hk]
 exact h.block k (by omega) hn
theorem pQ {E k:Nat} {w:World} (hk:k<E):row (nC E w) k=row w k:=aJ (f8 hk)
theorem aHJ {t t2:LinkT} (h:t.psk.length=32) (h2:t2.psk.length=32) (e:t.cells.toArray=t2.cells.toArray):t.greets=t2.greets:=by
 have e2:t.cells=t2.cells:=by simpa using congrArg Array.toList e
 unfold LinkT.cells at e2
 have:=(List.append_inj e2 (by simp[u8s,h,h2])).2
 simp only[List.cons.injEq,Value.bool.injEq]at this
 exact this.1
theorem NodeG.link (h:NodeG B0 E w N ps p A s K) {b L M:Nat} {pl:Int} {t t':LinkT} (d:DownAt (p.Q::A.muts) p.D (nC E w) b L M pl t) (hL:L∈A.ex) (hb:BelowBut w.heap.size L w w') (hrow:row w' L=t'.cells.toArray) (hp:t'.psk.length=32) (hg:t'.greets=t.greets) (ha:t'.a=none) (hn:0<=t'.now/\t'.now<=((K+1:Nat):Int)) (hk:0<=t'.asked/\t'.asked<=((K+1:Nat):Int)):NodeG B0 E w' N ps p A s (K+1):=by
 have hle:=h.le
 have zL:L<E:=by have:=d.ltL;rwa [cP hle]at this
 have hbc:=hb.cut hle
 have hrc:row (nC E w') L=t'.cells.toArray:=(pQ zL).trans hrow
 have s45:(row (nC E w) L).size=45:=by rw[d.rL];simpa using LinkT.len d.psk
 refine⟨Nat.le_trans hle hb.size,h.qE.link d hbc hp ha hrc,h.pB,h.ex,h.nQ,?_,h.g.more (by omega),h.len,h.lo6,?_,h.pe,fun i x hx=>?_,h.lo,?_⟩
 ·obtain⟨D',h1,h2,h3⟩:=h.brl
  exact h.br.swap (h3.kept hb.size fun k hk hn=>hb.block k (by omega) fun e=>hn (e▸List.mem_append_right _ hL)) fun b hb6=>hb.block b (by have:=h.lo6 b hb6;omega) (h.six d.LS (by rw[pQ zL]at s45;omega) b hb6)
 ·obtain⟨D',h1,h2,h3⟩:=h.brl
  exact⟨D',h1,h2,h3.kept hb.size fun k hk hn=>hb.block k (by omega) fun e=>hn (e▸List.mem_append_right _ hL)⟩
 ·obtain⟨e,h1,h2⟩:=h.ends i x hx
  refine⟨e,h1,?_⟩
  rcases h2 with h2 | ⟨g1,b2,L2,M2,pl2,t2,g2,g3,g4,g5,g6,g7,g8⟩
  ·exact .inl h2
  ·have nb:b2≠L:=fun e=>by
    have:=g3.rx
    rw[e]at this
    rw[this]at s45
    simp[aAF]at s45
   have rx:=(hbc.row g3.ltx nb).trans g3.rx
   by_cases e:L2=L
   ·subst e
    have hgg:=aHJ d.psk g3.psk (d.rL.symm.trans g3.rL)
    exact .inr ⟨g1,b2,L2,M2,pl2,t',g2,⟨g3.xS,rx,g3.LS,g3.LD,hp,ha,hrc⟩,g4,by rw[hg,hgg,g5],hn,hk⟩
   ·exact .inr ⟨g1,b2,L2,M2,pl2,t2,g2,⟨g3.xS,rx,g3.LS,g3.LD,g3.psk,g3.dn,(hbc.row g3.ltL e).trans g3.rL⟩,g4,g5,⟨g6.1,by omega⟩,g7,by omega⟩
 ·rcases h.sp with h1 | ⟨sb,sd,h1,h2,h3,h4⟩
  ·exact .inl h1
  ·exact .inr ⟨sb,sd,h1,h2.kept fun k hk hl=>hbc.block k hl fun e=>by have:=d.LD;omega,h3,h4.1,by omega,h4.2.2⟩
theorem NodeG.span (h:NodeG B0 E w N ps p A s K) {sb:Nat} {sd sd':SpD} (hs:p.spn=some ⟨sb,0,none⟩) (h2:SpT (nC E w) p.D sb sd) (h3:sd.ps.length<=32) (hb:BelowBut w.heap.size sb w w') (hrow:row w' sb=sd'.cells.toArray) (hp:sd'.pa=sd.pa) (hc:sd'.cap=sd.cap) (hps:sd'.ps=sd.ps) (hn:0<=sd'.now/\sd'.now<=((K+1:Nat):Int)/\1<=sd'.he/\sd'.he<=1000):NodeG B0 E w' N ps p A s (K+1):=by
 have hle:=h.le
 have zs:sb<E:=by have:=h2.lt;rwa [cP hle]at this
 have hbc:=hb.cut hle
 have hrc:row (nC E w') sb=sd'.cells.toArray:=(pQ zs).trans hrow
 have h2':SpT (nC E w') p.D sb sd':=h2.set hbc hrc hp hc hps
 have s33:(row (nC E w) sb).size=33:=by rw[h2.rS];simp[SpD.cells]
 have f0:∃v:Int,(row (nC E w) sb)[0]? =some (.int .u8 v):=by
  rw[h2.rS]
  exact⟨(sd.id[0].toNat:Int),by simp[SpD.cells,u8v,u8s]⟩
 have nS:sb∉p.Q::A.muts:=fun hm=>by have:=h.qE.SD sb hm;have:=h2.lo;omega
 have q:=h.qE
 have nN:N≠sb:=fun e=>by
  have:=q.nd
  rw[e]at this
  rw[this]at s33
  simp[NdP.cells,cY]at s33
 have ne:p.eb≠sb:=fun e=>by
  obtain⟨rest,hr⟩:=q.ends
  obtain⟨v,hv⟩:=f0
  rw[<-e,hr]at hv
  cases hes:p.es with
  | nil=>have:=q.pos;rw[hes]at this;simp at this
  | cons y ys=>rw[hes]at hv;simp[tA]at hv
 have hD:∀{b L M:Nat} {pl:Int} {t:LinkT},DownAt (p.Q::A.muts) p.D (nC E w) b L M pl t->DownAt (p.Q::A.muts) p.D (nC E w') b L M pl t:=by
  intro b L M pl t d
  have nb:b≠sb:=fun e=>by
   have:=d.rx
   rw[e]at this
   rw[this]at s33
   simp[aAF]at s33
  exact⟨d.xS,(hbc.row d.ltx nb).trans d.rx,d.LS,d.LD,d.psk,d.dn,(hbc.row d.ltL (by have:=d.LD;have:=h2.lo;omega)).trans d.rL⟩
 obtain⟨D',k1,k2,k3⟩:=h.brl
 have k3':=k3.kept hb.size fun k hk hn=>hb.block k (by omega) (by have:=k2 sb hs;omega)
 refine⟨Nat.le_trans hle hb.size,⟨q.nS,(hbc.row q.ltN nN).trans q.nd,q.eS,q.pos,q.n32,?_,fun x hx=>?_,q.SD,.inr ⟨sb,sd',hs,h2',by rw[hps];exact h3⟩⟩,h.pB,h.ex,h.nQ,?_,h.g.more (by omega),h.len,h.lo6,⟨D',k1,k2,k3'⟩,h.pe,fun i x hx=>?_,h.lo,.inr ⟨sb,sd',hs,h2',by rw[hps];exact h3,hn⟩⟩
 ·obtain⟨rest,hr⟩:=q.ends
  exact⟨rest,(hbc.row q.lte ne).trans hr⟩
 ·obtain⟨L,M,pl,t,d⟩:=q.down x hx
  exact⟨L,M,pl,t,hD d⟩
 ·exact h.br.swap k3' fun b hb6=>hb.block b (by have:=h.lo6 b hb6;omega) (h.six nS (by rw[pQ zs]at s33;omega) b hb6)
 ·obtain⟨e,h1,h2⟩:=h.ends i x hx
  refine⟨e,h1,?_⟩
  rcases h2 with h2 | ⟨g1,b2,L2,M2,pl2,t2,g2,g3,g4,g5,g6,g7,g8⟩
  ·exact .inl h2
  ·exact .inr ⟨g1,b2,L2,M2,pl2,t2,g2,hD g3,g4,g5,⟨g6.1,by omega⟩,g7,by omega⟩
end
theorem NodeT.nodeG {w0 w:World} {N Q:Nat} {id:Vector UInt8 8} {ma he de ageing:Int} {pa:Option Addr} {cap:Nat} {ps:List PortX} {mac:Vector UInt8 6} {r k p d room:Int} {A:BrA} {sp ea:Option Addr} {ec:Nat} {es:List (Option Nat)}
  (h:NodeT w0 w N Q id ma he de ageing pa cap ps mac r k p d room A sp ea ec es ps.length):∃pp,NodeG w0.heap.size w.heap.size w N ps pp A (sJ ageing (ps.map (·.p)) (aFu ps) ps.length) 0/\IdleQ w pp.Q w.heap.size room:=by
 obtain⟨eb,D,rfl,hel,hes,hQ,⟨D',e1,e2,e3⟩,hdn⟩:=h.quietL
 refine⟨⟨id,ma,he,de,ageing,pa,ps.length,cap,mac,A.B,sp,eb,ec,Q,es,D⟩,⟨Nat.le_refl _,by rw[oP];exact hQ,rfl,h.ex.2,fun b hb e=>?_,h.br,aGM _ _ _ _ h.ok,?_,?_,⟨D',e1,e2,e3⟩,hel,fun i x hx=>?_,fun b hb=>?_,?_⟩,?_⟩
 ·replace e:b=Q:=e
  have:=(h.lo b hb).2;omega
 ·simp[sJ,aCM,hel]
 ·obtain⟨l1,l2,l3,l4,l5,l6⟩:=h.br.lts
  intro b hb
  simp only[List.mem_cons,List.not_mem_nil,or_false]at hb
  rcases hb with rfl | rfl | rfl | rfl | rfl | rfl<;>assumption
 ·obtain⟨e,k1,k2⟩:=hes i x hx
  refine⟨e,k1,?_⟩
  cases hl:x.link with
  | false=>
   rw[hl]at k2
   cases e with
   | none=>exact .inl ⟨hl,rfl⟩
   | some b=>cases k2
  | true=>
   obtain⟨b,L,M,pl,f1,f2,f3⟩:=hdn i x hx hl
   rw[k1]at f1
   simp only[Option.some.injEq]at f1
   subst f1
   exact .inr ⟨hl,b,L,M,pl,_,rfl,by rw[oP];exact f2,f3,rfl,by simp[aCd],by simp[aCd]⟩
 ·rcases List.mem_cons.1 hb with rfl | hb
  ·exact h.gQ
  ·have:=(h.lo b (dJ hb)).2;have:=h.gQ;omega
 ·rcases hQ.span with h1 | ⟨sb,s,h1,h2,h3⟩
  ·exact .inl h1
  ·rcases h.span with g1 | ⟨D2,sb2,s2,g1,g2,g3,_⟩
   ·exact .inl g1
   ·replace h1:sp=some ⟨sb,0,none⟩:=h1
    rw[g1]at h1
    simp only[Option.some.injEq,Addr.mk.injEq,and_true]at h1
    subst h1
    refine .inr ⟨sb2,s,g1,by rw[oP];exact h2,h3,?_⟩
    have e:=h2.rS.symm.trans g2.rS
    have e4:s.now=s2.now/\s.he=s2.he:=by
     have e5:s.cells=s2.cells:=by simpa using congrArg Array.toList e
     unfold SpD.cells at e5
     have e6:=(List.append_inj e5 (by simp)).2
     simp only[List.cons.injEq,Value.int.injEq,true_and]at e6
     have e7:=(List.append_inj e6.2.2.2.2 (by simp)).2
     simp only[List.cons.injEq,Value.int.injEq,true_and]at e7
     have e8:=(List.append_inj e7.2 (by simp)).2
     simp only[List.cons.injEq,Value.int.injEq,true_and]at e8
     exact⟨e8.2.1,e6.2.1⟩
    rw[e4.1,e4.2]
    obtain⟨_,g4,g5⟩:=g3
    rw[g4]
    exact⟨by omega,by omega,g5⟩
 ·exact⟨_,_,_,_,h.rQ,.inl rfl,.inl rfl⟩
end
section
open Go.RowKit Go.Shelf
theorem aFB (w:World):Calls Tryz.prog 25 #[.pointer none] w fun e w'=>e=.returned (.slice none 0 0)/\Below w.heap.size w w':=by
 go_enter Tryz.func25,Tryz.ntmps25
 go_wp2_with fail
 go_ret
 exact⟨rfl,Below.refl _ _⟩
theorem aFC (N:Nat) (w:World):Calls Tryz.prog 24 #[.pointer (some ⟨N,0,none⟩),.slice none 0 0] w fun e w'=>e=.returned (.slice none 0 0)/\Below w.heap.size w w':=by
 go_enter Tryz.func24,Tryz.ntmps24
 go_wp2_with fail
 refine wp_loop_rounds 1 ?_
 rw[rounds_succ]
 go_wp2_with fail
 go_ret
 exact⟨rfl,Below.refl _ _⟩
structure BelowG (B0 E Q:Nat) (w w':World):Prop where
 os:w'.os=w.os
 tape:w'.tape=w.tape
 output:w'.output=w.output
 size:w.heap.size<=w'.heap.size
 block:∀k,k<w.heap.size->(k<B0∨E<=k∨k=Q)->w'.heap[k]? =w.heap[k]?
theorem BelowG.of {B0 E Q:Nat} {w w':World} (h:Below w.heap.size w w'):BelowG B0 E Q w w':=⟨h.os,h.tape,h.output,h.size,fun k hk _=>h.block k hk⟩
theorem BelowG.but {B0 E Q L:Nat} {w w':World} (h:BelowBut w.heap.size L w w') (h1:B0<=L) (h2:L<E) (h3:L≠Q):BelowG B0 E Q w w':=⟨h.os,h.tape,h.output,h.size,fun k hk hh=>h.block k hk (by omega)⟩
theorem BelowG.trans {B0 E Q:Nat} {a b c:World} (h:BelowG B0 E Q a b) (k:BelowG B0 E Q b c):BelowG B0 E Q a c:=
 ⟨k.os.trans h.os,k.tape.trans h.tape,k.output.trans h.output,Nat.le_trans h.size k.size,fun i hi hn=>(k.block i (Nat.lt_of_lt_of_le hi h.size) hn).trans (h.block i hi hn)⟩
section
variable {B0 E:Nat} {w:World} {N:Nat} {ps:List PortX} {p:NdP} {A:BrA} {s:BrS} {K:Nat}
theorem NodeG.spTick (h:NodeG B0 E w N ps p A s K) (hK:K<=100000):Calls Tryz.prog 25 #[.pointer p.spn] w fun e w'=>e=.returned (.slice none 0 0)/\NodeG B0 E w' N ps p A s (K+1)/\BelowG B0 E p.Q w w':=by
 have hle:=h.le
 rcases h.sp with h1 | ⟨sb,sd,h1,h2,h3,h4⟩
 ·rw[h1]
  refine(aFB w).mono ?_
  rintro e w' ⟨rfl,hb⟩
  exact⟨rfl,(h.below (hb.mono hle)).more (by omega),BelowG.of hb⟩
 ·rw[h1]
  have h5:SpT w p.D sb sd:=h2.kept fun k _ hk=>(BelowS.uncut (S:=[]) hle).block k hk (by simp)
  refine(aDm w h5 h3 ⟨h4.1,by omega⟩ h4.2.2).mono ?_
  rintro e w' ⟨rfl,k1,k2⟩
  have hsb:B0<=sb:=by have:=h.lo p.Q List.mem_cons_self;have:=h.qE.SD p.Q List.mem_cons_self;have:=h2.lo;omega
  have zs:sb<E:=by have:=h2.lt;rwa [cP hle]at this
  exact⟨rfl,h.span h1 h2 h3 k2 k1.rS rfl rfl rfl ⟨by show 0<=sd.now+1;omega,by show sd.now+1<=_;omega,h4.2.2⟩,BelowG.but k2 hsb zs (by have:=h.qE.SD p.Q List.mem_cons_self;have:=h2.lo;omega)⟩
def aMk (g:Bool) (n0:Nat) (e:Ending) (w':World):Prop:=e=.returned (.slice none 0 0)∨(g=true/\∃(gb:Nat) (s:List UInt8),e=.returned (.slice (some ⟨gb,0,none⟩) 1 1)/\row w' gb=#[.string ⟨(1::s).toArray⟩]/\s.length=48/\n0<=gb/\gb<w'.heap.size)
theorem NodeG.lTick (h:NodeG B0 E w N ps p A s K) (hK:K<=100000) {x:PortX} {b L M pl:Nat} {t:LinkT} (d:DownAt (p.Q::A.muts) p.D (nC E w) b L M pl t) (hL:L∈A.ex/\B0<=L) (hg:t.greets=x.greets) (hn:0<=t.now/\t.now<=K) (ha:0<=t.asked/\t.asked<=K) (sec:List UInt8) (hsec:sec.length=32):
  Calls Tryz.prog 22 #[.pointer (some ⟨L,0,none⟩),.agg (u8s sec).toArray] w fun e w'=>aMk x.greets w.heap.size e w'/\NodeG B0 E w' N ps p A s (K+1)/\BelowBut w.heap.size L w w':=by
 have hle:=h.le
 have zL:L<E:=by have:=d.ltL;rwa [cP hle]at this
 have hrow:row w L=t.cells.toArray:=(pQ zL).symm.trans d.rL
 have hpsk:=d.psk
 have hdn:=d.dn
 obtain⟨psk,g,r,k,pp,dd,now,a,bb,cc,talk,asked,made,last⟩:=t
 dsimp only at *
 subst hdn
 refine(aFA psk sec g r k pp dd now asked made last bb cc talk L w hpsk hsec ⟨hn.1,by omega⟩ ⟨ha.1,by omega⟩ hrow (by omega)).mono ?_
 rintro e w' ⟨h1,h2⟩
 rcases h1 with ⟨rfl,h1⟩ | ⟨g1,gb,s1,T,rfl,g2,g3,g4,g5,g6⟩
 ·exact⟨.inl rfl,h.link d hL.1 h2 h1 hpsk rfl rfl ⟨by show 0<=now+1;omega,by show now+1<=_;omega⟩ ⟨ha.1,by show asked<=_;omega⟩,h2⟩
 ·exact⟨.inr ⟨hg▸g1,gb,s1,rfl,g2,g3,g4,g5⟩,h.link d hL.1 h2 g6 hpsk rfl rfl ⟨by show 0<=now+1;omega,by show now+1<=_;omega⟩ ⟨by show 0<=now+1;omega,by show now+1<=_;omega⟩,h2⟩
theorem NodeG.rTick (h:NodeG B0 E w N ps p A s K) (hK:K<=100000):Calls Tryz.prog 23 #[.pointer (some ⟨A.B,0,none⟩)] w fun e w'=>e=.returned (.tuple #[])/\NodeG B0 E w' N ps p A (aKZ s) K/\BelowG B0 E p.Q w w':=by
 have hle:=h.le
 have g:=h.g
 refine(aGC w h.br g.std (Nat.le_trans g.stn (by omega)) g.sta g.bid g.bia).mono ?_
 rintro e w' ⟨rfl,h1,h2⟩
 have hE:BelowS E (p.Q::A.muts) w w':=⟨h1.os,h1.tape,h1.output,h1.size,fun k hk hn=>h1.block k (by omega) fun hm=>hn (List.mem_cons_of_mem _ hm)⟩
 exact⟨rfl,h.turn hE h2 (aFr g) rfl (Nat.le_refl _),⟨h1.os,h1.tape,h1.output,h1.size,fun k hk hh=>h1.block k hk fun hm=>by have:=h.lo k (List.mem_cons_of_mem _ hm);have:=h.lo6 k (dJ hm);have:=h.nQ k (dJ hm);omega⟩⟩
end
end
section
open Go.RowKit Go.Shelf
def aMV (x:Nat×List UInt8):List Value:=[.int .i64 (x.1:Int),.bool true,.string ⟨(1::x.2).toArray⟩]
def aMl (ps:List PortX) (x:Nat×List UInt8):Prop:=∃px,ps[x.1]? =some px/\px.link=true/\px.greets=true/\x.2.length=48
section
variable {B0 E:Nat} {w:World} {N:Nat} {ps:List PortX} {p:NdP} {A:BrA} {s:BrS} {K:Nat}
theorem aFD (h:NodeG B0 E w N ps p A s K) (hK:K<=90000) (sec:List UInt8) (hsec:sec.length=32) (kb:Nat) (hkb:E<=kb) (hk:row w kb=(u8s sec++u8s sec).toArray):
  Calls Tryz.prog 10 #[.pointer (some ⟨N,0,none⟩),.slice (some ⟨kb,0,none⟩) 2 2] w fun e w'=>(∃(v:Value) (l:List (Nat×List UInt8)),e=.returned v/\OwnL w' w.heap.size 54 3 v (l.map aMV)/\l.length<=32/\∀x∈l,aMl ps x)/\NodeG B0 E w' N ps p A (aKZ s) (K+33)/\BelowG B0 E p.Q w w':=by
 have hle:=h.le
 have hnd:=h.q.nd
 have n32:=h.q.n32
 have zN:=h.q.ltN
 have hpB:=h.pB
 unfold NdP.cells cY at hnd
 obtain⟨n,hn⟩:∃n,p.es.length=n:=⟨_,rfl⟩
 rw[hn]at hnd n32
 have HN:=h_ hn
 have H:=h_ h
 have HKB:=h_ hk
 have zkb:kb<w.heap.size:=aM (i:=0) (by rw[hk];simp[u8s,hsec])
 clear h hn hk
 have hnI:(n:Int)<=32:=by omega
 go_enter Tryz.func10,Tryz.ntmps10
 go_wp2_with fail
 go_loopw [5,18] (fun u i wr=>∃(j:Nat) (l:List (Nat×List UInt8)),j<=n/\i=.int .i64 j/\OwnL wr w.heap.size 54 3 u (l.map aMV)/\l.length<=j/\(∀x∈l,aMl ps x)/\NodeG B0 E wr N ps p A s (K+j)/\BelowG B0 E p.Q w wr) (fun _ i _=>n - (intOf i).toNat)
 case atStart=>exact⟨0,[],by omega,rfl,OwnL.nil _ _ _ _,by simp,by simp,H.out,BelowG.of (Below.refl _ _)⟩
 case round=>
  obtain⟨j,l,hj,rfl,hown,hll,hgl,hT,cb⟩:=hrel
  have zb:=cb.size
  have rkb:=(aJ (cb.block kb zkb (.inr (.inl hkb)))).trans HKB.out
  have HOW:=h_ hown
  have HGL:=h_ hgl
  have HT:=h_ hT
  have HCB:=h_ cb
  have hwr:E<=wr.heap.size:=by omega
  by_cases hlt:j<n
  ·have hltI:(j:Int)<(n:Int):=by omega
   have hq:j<p.es.length:=by have:=HN.out;omega
   have hc:=hT.q.cell hq
   rw[Nat.zero_add]at hc
   have hjp:j<ps.length:=by rw[<-hT.pe];exact hq
   obtain⟨e,he1,he2⟩:=hT.ends j ps[j] (List.getElem?_eq_getElem hjp)
   rw[List.getElem?_eq_getElem hq,Option.some.injEq]at he1
   rw[he1]at hc
   clear hown hgl hT cb hnd
   rcases he2 with ⟨_,rfl⟩ | ⟨hlk,b,L,M,pl,t,rfl,hD,hLx,hg,hnow,hask⟩
   ·simp only[tA,Option.map_none]at hc
    go_wp2_with fail
    go_roundw
    case rel=>exact⟨j+1,l,by omega,by simp,HOW.out,by omega,HGL.out,HT.out.more (by omega),HCB.out⟩
    case measure=>simp[intOf];omega
   ·simp only[tA,Option.map_some]at hc
    have zbE:b<E:=by have:=hD.ltx;rwa [cP hwr]at this
    have rb:row wr b=#[.pointer (some ⟨L,0,none⟩),.map (some M),.int .i64 (pl:Int),.bool false,.int .i64 0]:=(pQ zbE).symm.trans hD.rx
    obtain⟨wA,hwA⟩:∃x,wr.alloc (.cells (aH 32 (Value.int .u8 0)).toArray 28)=x:=⟨_,rfl⟩
    have bA:Below wr.heap.size wr wA:=by rw[<-hwA];exact ba_
    have zA:wA.heap.size=wr.heap.size+1:=by rw[<-hwA,aF]
    have rK:row wA wr.heap.size=(aH 32 (Value.int .u8 0)).toArray:=by rw[<-hwA];exact aE _ _ _ rfl
    have rbA:=(aA bA (show b<wr.heap.size by omega)).trans rb
    have rkA:=(aA bA (show kb<wr.heap.size by omega)).trans rkb
    obtain⟨V,hV⟩:∃V,wr.heap.size=V:=⟨_,rfl⟩
    rw[hV]at rK zA
    have hpl:pl=0∨pl=1∨2<=pl:=by omega
    have HD:=h_ hD
    clear hD
    have hbE:b<wr.heap.size:=by omega
    rcases hpl with rfl | rfl | hpl
    have hld:(mC 28 (.pointer (some ⟨kb,0,none⟩))).run Tryz.prog wA=.ok (.agg (u8s sec).toArray) wA:=cI (l:=u8s sec) (pP (pre:=[]) (post:=u8s sec) rkA) (by simp[u8s,hsec])
    obtain⟨wX,hwX⟩:∃x,wA.setRow V (u8s sec).toArray=x:=⟨_,rfl⟩
    have bX:Below wr.heap.size wr wX:=by rw[<-hwX];exact Below.setRow bA (by omega) _
    have rX:row wX V=(u8s sec).toArray:=by rw[<-hwX];exact aB (by rw[rK];simp[u8s,hsec]) (by rw[rK];simp[u8s,hsec])
    have zX:V<wX.heap.size:=by rw[<-hwX,setRow_size];omega
    have hsk:=hsec
    go_wp2_with fail
    (try rw[hwX])
    clear hwX hld rK rbA rkA bA hwA
    obtain⟨sk,hske⟩:∃sk,sec=sk:=⟨_,rfl⟩
    rw[hske]at rX hsk
    rotate_left
    have hld:(mC 28 (.pointer (some ⟨kb,32,none⟩))).run Tryz.prog wA=.ok (.agg (u8s sec).toArray) wA:=cI (l:=u8s sec) (by have:=pP (pre:=u8s sec) (l:=u8s sec) (post:=[]) (by rw[List.append_nil];exact rkA);simpa[u8s,hsec]using this) (by simp[u8s,hsec])
    obtain⟨wX,hwX⟩:∃x,wA.setRow V (u8s sec).toArray=x:=⟨_,rfl⟩
    have bX:Below wr.heap.size wr wX:=by rw[<-hwX];exact Below.setRow bA (by omega) _
    have rX:row wX V=(u8s sec).toArray:=by rw[<-hwX];exact aB (by rw[rK];simp[u8s,hsec]) (by rw[rK];simp[u8s,hsec])
    have zX:V<wX.heap.size:=by rw[<-hwX,setRow_size];omega
    have hsk:=hsec
    go_wp2_with fail
    (try rw[hwX])
    clear hwX hld rK rbA rkA bA hwA
    obtain⟨sk,hske⟩:∃sk,sec=sk:=⟨_,rfl⟩
    rw[hske]at rX hsk
    rotate_left
    have hplI:¬(pl:Int)<2:=by omega
    go_wp2_with fail
    obtain⟨wX,hwX⟩:∃x,wA=x:=⟨_,rfl⟩
    obtain⟨sk,hske⟩:∃sk:List UInt8,List.replicate 32 0=sk:=⟨_,rfl⟩
    have rX:row wX V=(u8s sk).toArray:=by rw[<-hwX,rK,<-hske];kernel_rfl
    have hsk:sk.length=32:=by rw[<-hske];simp
    have zX:V<wX.heap.size:=by rw[<-hwX];omega
    have bX:Below wr.heap.size wr wX:=by rw[<-hwX];exact bA
    (try rw[hwX])
    clear hwX rK rbA rkA bA hwA
    rotate_left
    all_goals
     have rbX:=(aA bX hbE).trans rb
     have cbX:wX.cell? ⟨b,0,none⟩=some (.pointer (some ⟨L,0,none⟩)):=by rw[aQ (by rw[rbX];simp),rbX];rfl
     have zbX:b<wX.heap.size:=by have:=bX.size;omega
     have nbL:b≠L:=fun e=>by
      have h1:=HD.out.rx
      rw[e,HD.out.rL]at h1
      have:=congrArg Array.size h1
      rw[show t.cells.toArray.size=45 by simpa using LinkT.len HD.out.psk]at this
      simp[aAF]at this
     have nVL:V≠L:=fun e=>by have:=HD.out.ltL;rw[cP hwr]at this;omega
     have HLT:=h_ (fun(u:World) (hu:Below wr.heap.size wr u)=>(HT.out.below (hu.mono hwr)).lTick (by omega) (x:=ps[j]) (HD.out.kept ((BelowS.of (hu.mono hwr)).cut hwr)) hLx hg ⟨hnow.1,by omega⟩ ⟨hask.1,by omega⟩ sk hsk)
     have HBX:=h_ bX
     have zLE:L<E:=by have:=HD.out.ltL;rwa [cP hwr]at this
     clear rb rkb hc hnow hask
     have hG:GrowP fun W=>W.cell? ⟨b,0,none⟩=some (.pointer (some ⟨L,0,none⟩))/\b<W.heap.size:=bK _ _ _
     refine nV [(V,(u8s sk).toArray)] (fun W=>W.cell? ⟨b,0,none⟩=some (.pointer (some ⟨L,0,none⟩))/\b<W.heap.size) hG (⟨cbX,zbX⟩) (fun hS=>?_)
     refine sp 0 hG hS ?_
     refine sp 1 hG hS ?_
     refine sp 2 hG hS ?_
     refine sp 3 hG hS ?_
     refine sp 4 hG hS ?_
     refine sp 7 hG hS ?_
     refine fM 5 kr_ (fun u hu=>?_)
     refine wpOp_step rfl (fun K1 hK1=>?_)
     go_simp
     have hu2:Below wX.heap.size wX u:=aL (Below.drew (Below.refl _ _)) hu
     have zu:=hu2.size
     have bU:Below wr.heap.size wr u:=HBX.out.trans (hu2.mono HBX.out.size)
     (with_reducible refine(HLT.out u bU).mono ?_)
     rintro e u3 ⟨hgr,hT3,b3⟩
     have z3:=b3.size
     have hS:XS [(V,(u8s sk).toArray)] (fun W=>W.cell? ⟨b,0,none⟩=some (.pointer (some ⟨L,0,none⟩))/\b<W.heap.size) u3:=⟨⟨((aJ (b3.block V (by omega) nVL)).trans (aA hu2 zX)).trans rX,by omega,trivial⟩,by
      have h1:=fN cbX zbX hu2
      unfold World.cell? at h1 ⊢
      rw[b3.block b (by omega) nbL]
      exact h1,by omega⟩
     have HT3:=h_ hT3
     have HB3:=h_ ((BelowG.of (B0:=B0) (E:=E) (Q:=p.Q) bU).trans (BelowG.but b3 hLx.2 zLE (fun e=>HD.out.LS (e▸List.mem_cons_self))))
     clear hT3 b3 hu2 hu
     rcases hgr with rfl | ⟨hgt,gb,s1,rfl,rgb,hs48,hgb,hgbl⟩
     ·refine hK1 _ _ ⟨hS,?_⟩
      clear hK1 K1
      (try simp only[Act.put,List.setIfInBounds_toArray,List.set_cons_zero,List.set_cons_succ])
      refine sp 6 hG hS ?_
      refine aG kr_ (fun w9 bw9=>?_) _
      have B9:=HB3.out.trans (BelowG.of bw9)
      have HO9:=h_ (HOW.out.keep (w':=w9) fun X hX=>B9.block X (HOW.out.blk hX).2.1 (.inr (by have:=(HOW.out.blk hX).1;omega)))
      have HT9:=h_ (HT3.out.below (bw9.mono HT3.out.le))
      have HB9:=h_ B9
      clear hS bw9 B9 rX cbX
      go_wp2_with fail
      refine wp_loop_rounds 1 ?_
      rw[rounds_succ]
      go_wp2_with fail
      go_roundw
      case rel=>exact⟨j+1,l,by omega,by simp,HO9.out,by omega,HGL.out,HT9.out,HCB.out.trans HB9.out⟩
      case measure=>simp[intOf];omega
     ·refine hK1 _ _ ⟨hS,?_⟩
      clear hK1 K1
      (try simp only[Act.put,List.setIfInBounds_toArray,List.set_cons_zero,List.set_cons_succ])
      refine sp 6 hG hS ?_
      refine aG kr_ (fun w9 bw9=>?_) _
      have z9:=bw9.size
      have B9:=HB3.out.trans (BelowG.of bw9)
      have HO9:=h_ (HOW.out.keep (w':=w9) fun X hX=>B9.block X (HOW.out.blk hX).2.1 (.inr (by have:=(HOW.out.blk hX).1;omega)))
      have HT9:=h_ (HT3.out.below (bw9.mono HT3.out.le))
      have HB9:=h_ B9
      have zB9:=B9.size
      have rg9:=(aA bw9 hgbl).trans rgb
      have HL9:=h_ (show(l.map aMV).length<=10000 by rw[List.length_map];omega)
      have k99:w.heap.size<=w9.heap.size:=by omega
      clear hS bw9 B9 rX cbX rgb
      go_wp2_with fail
      refine wp_loop_rounds 2 ?_
      rw[rounds_succ]
      go_wp2_with (at_builtin;(refine dM rfl rfl Tryz.underlying46 iD (by decide) (by decide) w.heap.size _ _ rfl HO9.out [Value.int .i64 (j:Int),.bool true,.string ⟨(1::s1).toArray⟩] rfl rfl rfl HL9.out k99 ?_))
      intro v10 w10 hown10 b10 hk10
      have HO10:=h_ hown10
      have z10:=b10.size
      have HW9:=HCB.out.trans HB9.out
      have HB10:=h_ (show BelowG B0 E p.Q w w10 from ⟨b10.os.trans HW9.os,b10.tape.trans HW9.tape,b10.output.trans HW9.output,by omega,fun k hk hh=>(b10.block k hk).trans (HW9.block k hk hh)⟩)
      clear HW9
      clear hown10
      go_wp2_with fail
      rw[rounds_succ]
      go_wp2_with fail
      go_roundw
      case rel=>exact⟨j+1,l++[(j,s1)],by omega,by simp,by rw[List.map_append];exact HO10.out,by simp;omega,by
       intro x hx
       rcases List.mem_append.1 hx with hx | hx
       ·exact HGL.out x hx
       ·rw[List.mem_singleton.1 hx]
        exact⟨ps[j],List.getElem?_eq_getElem hjp,hlk,hgt,hs48⟩,HT9.out.below (b10.mono (by omega)),HB10.out⟩
      case measure=>simp[intOf];omega
  ·obtain rfl:j=n:=by omega
   have hltI:¬(j:Int)<(j:Int):=by omega
   have rN:=hT.q.nd
   unfold NdP.cells cY at rN
   rw[HN.out,hpB]at rN
   have HR:=h_ (hT.rTick (by omega))
   have hz2:wr.heap.size<=wr.heap.size:=Nat.le_refl _
   clear hown hgl hT cb hnd
   go_wp2_with fail
   (with_reducible refine HR.out.mono ?_)
   rintro e w1 ⟨rfl,hT1,hb1⟩
   have rN1:=hT1.q.nd
   unfold NdP.cells cY at rN1
   rw[HN.out,hpB]at rN1
   have HS1:=h_ (fun(u:World) (hu:Below w1.heap.size w1 u)=>(hT1.below (hu.mono hT1.le)).spTick (by omega))
   have HT1:=h_ hT1
   have HB1:=h_ (HCB.out.trans hb1)
   have HO1:=h_ (HOW.out.keep (w':=w1) fun X hX=>hb1.block X (HOW.out.blk hX).2.1 (.inr (by have:=(HOW.out.blk hX).1;omega)))
   clear rN hT1 hb1
   go_wp2_with fail
   (with_reducible refine(HS1.out _ (Below.refl _ _)).mono ?_)
   rintro e w2 ⟨rfl,hT2,hb2⟩
   have HT2:=h_ hT2
   have HB2:=h_ (HB1.out.trans hb2)
   have HO2:=h_ (HO1.out.keep (w':=w2) fun X hX=>hb2.block X (HO1.out.blk hX).2.1 (.inr (by have:=(HO1.out.blk hX).1;omega)))
   clear rN1 hT2 hb2
   go_wp2_with fail
   (with_reducible refine(aFC N w2).mono ?_)
   rintro e w3 ⟨rfl,b3⟩
   have HT3:=h_ (HT2.out.below (b3.mono HT2.out.le))
   have HB3:=h_ (HB2.out.trans (BelowG.of b3))
   have HO3:=h_ (HO2.out.below b3)
   have honN:∀y∈([]:List (List Value)),eC y=true:=fun y hy=>by simp at hy
   have HL3:=h_ (show(l.map aMV).length+([]:List (List Value)).length<=10000 by simp;omega)
   have k3:w.heap.size<=w3.heap.size:=HB3.out.size
   clear b3
   go_wp2_with (at_builtin;(refine dF rfl rfl Tryz.underlying46 iD (by decide) (by decide) w.heap.size _ _ rfl HO3.out w3.heap.size _ _ rfl (OwnL.nil _ _ _ _) honN HL3.out k3 ?_))
   intro v4 w4 own4 b4
   try rw[List.append_nil]at own4
   have z4:=b4.size
   have HT4:=h_ (HT3.out.below (b4.mono hle))
   have HB4:=h_ (show BelowG B0 E p.Q w w4 from ⟨b4.os.trans HB3.out.os,b4.tape.trans HB3.out.tape,b4.output.trans HB3.out.output,by omega,fun k hk hh=>(b4.block k hk).trans (HB3.out.block k hk hh)⟩)
   have HO4:=h_ own4
   clear own4 b4
   go_wp2_with fail
   (with_reducible refine(vF HT4.out.q).mono ?_)
   rintro e w5 ⟨rfl,b5⟩
   have z5:=b5.size
   have HT5:=h_ (HT4.out.below (b5.mono HT4.out.le))
   have HB5:=h_ (HB4.out.trans (BelowG.of b5))
   have HO5:=h_ (HO4.out.below b5)
   have k5:w.heap.size<=w5.heap.size:=by omega
   clear b5
   go_wp2_with (at_builtin;(refine dF rfl rfl Tryz.underlying46 iD (by decide) (by decide) w.heap.size _ _ rfl HO5.out w5.heap.size _ _ rfl (OwnL.nil _ _ _ _) honN HL3.out k5 ?_))
   intro v6 w6 own6 b6
   try rw[List.append_nil]at own6
   have z6:=b6.size
   have HT6:=h_ (HT5.out.below (b6.mono hle))
   have HB6:=h_ (show BelowG B0 E p.Q w w6 from ⟨b6.os.trans HB5.out.os,b6.tape.trans HB5.out.tape,b6.output.trans HB5.out.output,by omega,fun k hk hh=>(b6.block k hk).trans (HB5.out.block k hk hh)⟩)
   have HO6:=h_ own6
   clear own6 b6
   go_wp2_with fail
   go_ret
   exact⟨⟨_,l,rfl,HO6.out,by omega,HGL.out⟩,HT6.out.more (by omega),HB6.out⟩
end
end
end Go.Proofs.YtiagbbknkdgmeaaGreat
