/- Texts of this proof, merged: QueB, QueC. -/
import Derived.Test.YtiagbbknkdgmeaaGreatJ26
import Derived.Test.YtiagbbknkdgmeaaGreatJ24
import Derived.ArgAppend
set_option linter.unusedSimpArgs false
set_option linter.unusedVariables false
set_option maxHeartbeats 8000000
set_option maxRecDepth 20000
namespace Go.Proofs.YtiagbbknkdgmeaaGreat
section
open Go.RowKit
theorem yE {w:World} {b off sz:Nat} {cs:Array Value} {e:TypeId} {u:List Value} (hb:w.heap[b]? =some (.cells cs e (0,0))) (h:(cs.toList.drop off).take sz=u):w.rangeAt b off u:=fun j v hj=>by
 have hrow:row w b=cs:=by unfold row;rw[hb];simp
 rw[<-h,List.getElem?_take]at hj
 split at hj
 ·rw[List.getElem?_drop,Array.getElem?_toList]at hj
  rw[aQ (by rw[hrow];exact(Array.getElem?_eq_some_iff.1 hj).1),hrow]
  exact hj
 ·cases hj
section
variable {P:Program}
theorem yF {w:World} {o:Oper} {a:Act} {K:Act->World->Prop} {Q:Exit->Act->World->Prop} {s x:Operand} {t e:TypeId} {sz bytes:Nat}
  (ho:o.op=.call {callee:=.builtin .append,args:=#[s,x],argTypes:=#[t,t]}) (ht:P.underlying t=some (.slice e))
  (hinfo:(P.info? e).map (fun i=>(i.zero.map (·.cells.size),i.size,i.bytes))=some (some sz,sz,bytes)) (hsz:0<sz) (hby:bytes<=1000)
  (ao:Option Addr) (c:Nat) (hs:a.eval s=.slice ao 0 c) (hE:c=0∨∃b off cs,ao=some ⟨b,off,none⟩/\w.heap[b]? =some (.cells cs e (0,0))/\off+c*sz<=cs.size)
  (g c2:Nat) (u:List Value) (hx:a.eval x=.slice (some ⟨g,0,none⟩) 1 c2) (hr:row w g=u.toArray) (hu:u.length=sz) (hone:eC u=true)
  (h:∀b off cap cs w',1<=cap->(c≠0/\ao=some ⟨b,off,none⟩∨w.heap.size<=b)->w'.heap[b]? =some (.cells cs e (0,0))->off+cap*sz<=cs.size->w'.rangeAt b off u->BelowBut w.heap.size b w w'->(∀cs0 e0,w.heap[b]? =some (.cells cs0 e0 (0,0))->e0=e/\cs0.size=cs.size)->K (a.put o.dst (.slice (some ⟨b,off,none⟩) 1 cap)) w'):o.wp P a w K Q:=by
 have hi:∃i z,P.info? e=some i/\i.zero=some z/\i.size=sz/\i.bytes=bytes/\z.cells.size=sz:=by
  cases hi:P.info? e with
  | none=>rw[hi]at hinfo;simp at hinfo
  | some i=>
   rw[hi]at hinfo
   simp at hinfo
   obtain⟨⟨z,h1,h2⟩,h3,h4⟩:=hinfo
   exact⟨i,z,rfl,h1,h3,h4,h2⟩
 obtain⟨i,z,hi,hz,h3,h4,h5⟩:=hi
 have hn:u.length=1*i.size:=by rw[h3,Nat.one_mul];exact hu
 have hnw:∀j y,u[j]? =some y->w.cell? ((⟨g,0,none⟩:Addr).add j)=some y:=by
  intro j y hj
  have hlt:=(List.getElem?_eq_some_iff.1 hj).1
  have:(⟨g,0,none⟩:Addr).add j=⟨g,j,none⟩:=by
   simp[Addr.add]
   try exact fun h=>h.symm
  rw[this,aQ (by rw[hr];simpa using hlt),hr,List.getElem?_toArray]
  exact hj
 have hm:0+1<=maxLen:=by unfold maxLen;omega
 have hb:(0+1)*bytes<=140737488355328:=by omega
 have h1c:∀y∈u,y.oneCell'=true:=by unfold eC at hone;simpa using hone
 have hgrow:∀v' w',w'.ownsRow w.heap.size e sz v' (0+1) ([]++u)->w.grownBy w' none->K (a.put o.dst v') w':=by
  intro v' w' h1 h2
  have hbw:Below w.heap.size w w':=(Below.refl w.heap.size w).grown h2 (Nat.le_refl _) (fun k hk=>by cases hk)
  obtain⟨hlen,⟨_,h0⟩ | ⟨g',cap,cur,rfl,hg0,hg,hnc,hmm,hcs,htk⟩⟩:=h1
  ·omega
  ·refine h g' 0 cap cur w' (by omega) (.inr hg0) hg (by rw[hcs];omega) (yE (sz:=sz) hg ?_) (BelowBut.of hbw) fun cs0 e0 h0=>?_
   ·rw[List.drop_zero]
    simpa using htk
   ·have:=(Array.getElem?_eq_some_iff.1 h0).1
    omega
 by_cases hc:c=0
 ·subst hc
  cases ao with
  | some b=>
   obtain⟨v',w',hrun,r1,r2⟩:=run_append_arg_grows (P:=P) w t o.type e i z sz bytes ht hi hz h3 h4 h5 hsz b 0 0 [] (by simp) (fun j y hj=>by simp at hj) ⟨g,0,none⟩ 1 c2 u (by rw[Nat.one_mul];exact hu) hnw (by omega) hm hb
   unfold Oper.wp
   simp[execOp,ho,resolve,invoke,builtin,hs,hx,hrun,Result.andThen]
   exact hgrow _ _ r1 r2
  | none=>
   obtain⟨v',w',hrun,r1,r2,_⟩:=run_append_own (P:=P) w w.heap.size t o.type e i z sz bytes ht hi hz h3 h4 h5 hsz (.slice none 0 0) 0 [] (World.ownsRow_nil w _ e sz) ⟨g,0,none⟩ 1 c2 u (by rw[Nat.one_mul];exact hu) hnw h1c hm hb (Nat.le_refl _)
   unfold Oper.wp
   simp[execOp,ho,resolve,invoke,builtin,hs,hx,hrun,Result.andThen]
   exact hgrow _ _ r1 r2
 ·obtain h0 | ⟨b,off,cs,rfl,hbk,hfit⟩:=hE
  ·exact absurd h0 hc
  have hrow:row w b=cs:=by unfold row;rw[hbk];simp
  have hfit1:off+sz<=cs.size:=Nat.le_trans (Nat.add_le_add_left (by have:=Nat.mul_le_mul_right sz (show 1<=c by omega);omega) _) hfit
  have hrun:=run_append_room_cells (P:=P) w t o.type e i ht hi b off 0 c ⟨g,0,none⟩ 1 c2 u hn hnw h1c (by omega)
   (fun j hj=>by rw[Nat.zero_mul,Nat.add_zero,aQ (by rw[hrow];omega),hrow,Array.getElem?_eq_getElem (by omega)];rfl)
   (fun j hj=>by unfold World.frozen?;rw[hbk];simp)
  rw[show off+0*i.size=off by simp,fB u w off (by rw[hrow];omega) (by omega),hrow]at hrun
  have hzs:(eO cs off u.toArray).size=cs.size:=by unfold eO;simp;omega
  unfold Oper.wp
  simp[execOp,ho,resolve,invoke,builtin,hs,hx,hrun,Result.andThen]
  refine h b off c (eO cs off u.toArray) _ (by omega) (.inl ⟨hc,rfl⟩) (setRow_heap w b cs _ e _ hbk) ?_ (yE (sz:=sz) (setRow_heap w b cs _ e _ hbk) ?_) ?_ ?_
  ·rw[hzs]
   exact hfit
  ·unfold eO
   simp[List.drop_append,List.take_append,hu]
   rw[show min off cs.size=off by omega]
   simp[List.take_of_length_le (Nat.le_of_eq hu)]
  ·exact⟨rfl,rfl,rfl,by simp,fun k hk hne=>aO _ _ _ hne⟩
  ·intro cs0 e0 h0
   rw[hbk]at h0
   cases h0
   exact⟨rfl,hzs.symm⟩
end
def EvQ (w:World) (Q E:Nat) (ao:Option Addr) (c:Nat):Prop:=c=0∨∃b off cs,ao=some ⟨b,off,none⟩/\w.heap[b]? =some (.cells cs 71 (0,0))/\off+c*2<=cs.size/\b≠Q/\E<=b
theorem EvQ.kept {w w':World} {Q E:Nat} {ao:Option Addr} {c:Nat} (h:EvQ w Q E ao c) (hb:∀k,k<w.heap.size->E<=k->k≠Q->w'.heap[k]? =w.heap[k]?):EvQ w' Q E ao c:=by
 rcases h with h | ⟨b,off,cs,h1,h2,h3,h4,h5⟩
 ·exact .inl h
 ·exact .inr ⟨b,off,cs,h1,(hb b (Array.getElem?_eq_some_iff.1 h2).1 h5 h4).trans h2,h3,h4,h5⟩
def EvAt (w:World) (Q E:Nat) (port:Int) (s:List UInt8) (g off cap:Nat):Prop:=1<=cap/\E<=g/\g≠Q/\w.rangeAt g off [.int .i64 port,.string ⟨s.toArray⟩]/\∃cs,w.heap[g]? =some (.cells cs 71 (0,0))/\off+cap*2<=cs.size
theorem EvAt.kept {w w':World} {Q E:Nat} {port:Int} {s:List UInt8} {g off cap:Nat} (h:EvAt w Q E port s g off cap) (hb:w'.heap[g]? =w.heap[g]?):EvAt w' Q E port s g off cap:=by
 obtain⟨h1,h2,h3,h4,cs,h5,h6⟩:=h
 refine⟨h1,h2,h3,fun j v hj=>?_,cs,hb.trans h5,h6⟩
 have:=h4 j v hj
 unfold World.cell? at this ⊢
 rw[hb]
 exact this
theorem aK3 (Q E:Nat) (limit d port:Int) (hl:1<=limit) (v1:Value) (ao:Option Addr) (c:Nat) (s:List UInt8) (w:World) (hQ:row w Q=#[.int .i64 limit,.slice ao 0 c,v1,.int .i64 d]) (he:EvQ w Q E ao c) (hE:E<=w.heap.size):
  Calls Tryz.prog 61 #[.pointer (some ⟨Q,0,none⟩),.bool true,.agg #[.int .i64 port,.string ⟨s.toArray⟩]] w fun e w'=>∃g off cap,e=.returned (.int .i64 0)/\row w' Q=#[.int .i64 limit,.slice (some ⟨g,off,none⟩) 1 cap,v1,.int .i64 d]/\EvAt w' Q E port s g off cap/\(∀a1 c1,EvQ w Q E a1 c1->EvQ w' Q E a1 c1)/\(c≠0/\ao=some ⟨g,off,none⟩∨w.heap.size<=g)/\BelowS w.heap.size [Q,g] w w':=by
 have zQ:Q<w.heap.size:=aM (i:=0) (by rw[hQ];simp)
 go_enter Tryz.func61,Tryz.ntmps61
 obtain⟨w1,hw1⟩:∃x,w.alloc (.cells #[Value.int .i64 port,.string ⟨s.toArray⟩] 71)=x:=⟨_,rfl⟩
 have b1:Below w.heap.size w w1:=by rw[<-hw1];exact ba_
 have z1:w1.heap.size=w.heap.size+1:=by rw[<-hw1,aF]
 obtain⟨E0,hE0⟩:∃E,w.heap.size=E:=⟨_,rfl⟩
 have rE1:row w1 E0=#[Value.int .i64 port,.string ⟨s.toArray⟩]:=by rw[<-hw1,<-hE0];exact aE _ _ _ rfl
 have rQ1:=(aA b1 zQ).trans hQ
 have hl0:¬limit<=0:=by omega
 have kQ:Q<w1.heap.size:=by omega
 have kE:E0<w1.heap.size:=by omega
 have HE:=h_ he
 clear he
 go_wp2_with fail
 (try rw[hE0])
 (try clear hw1)
 clear z1
 refine(aBG true w1).mono ?_
 rintro e w2 ⟨rfl,rfl⟩
 go_wp2_with fail
 go_quiet (fail)
 go_wp2_with fail
 have b3:Below w2.heap.size w2 (w2.drewN nq):=below_drewN (Below.refl _ _) _
 obtain⟨w3,hw3⟩:∃w3,w2.drewN nq=w3:=⟨_,rfl⟩
 rw[hw3]at b3 ⊢
 have z3:=b3.size
 have rQ3:=(aA b3 kQ).trans rQ1
 have rE3:=(aA b3 kE).trans rE1
 have cQ3:w3.cell? ⟨Q,1,none⟩=some (.slice ao 0 c):=by rw[aQ (by rw[rQ3];simp),rQ3];rfl
 have B3:=b1.trans (b3.mono (by omega))
 have hG:GrowP fun W=>(W.cell? ⟨Q,1,none⟩=some (.slice ao 0 c)/\Q<W.heap.size)/\(row W E0=#[.int .i64 port,.string ⟨s.toArray⟩]/\E0<W.heap.size):=GrowP.and (bK _ _ _) (aBE _ _)
 clear hw3 b3 rQ1 rE1 b1
 refine eL 14 _ hG rfl ⟨⟨cQ3,by omega⟩,rE3,by omega⟩ (fun hS=>?_)
 refine kg 0 hG hS ?_
 refine kg 1 hG hS ?_
 refine kg 2 hG hS ?_
 refine kg 3 hG hS ?_
 refine kg 4 hG hS ?_
 refine kg 5 hG hS ?_
 refine kg 6 hG hS ?_
 refine kg 7 hG hS ?_
 refine kg 8 hG hS ?_
 refine kf 11 hG hS ?_
 refine kf 12 hG hS ?_
 refine gI 9 kr_ (by decide) (fun u4 hu4=>?_)
 replace hu4:Below w3.heap.size w3 u4:=aL (Below.drew (Below.refl _ _)) hu4
 have zu4:=hu4.size
 refine wpOp_step rfl (fun K hK=>?_)
 clear hS
 go_simp
 obtain⟨u5,hu5⟩:∃x,u4.alloc (.cells #[Value.int .i64 port,.string ⟨s.toArray⟩] 71)=x:=⟨_,rfl⟩
 have b5:Below u4.heap.size u4 u5:=by rw[<-hu5];exact ba_
 have r5:row u5 u4.heap.size=#[Value.int .i64 port,.string ⟨s.toArray⟩]:=by rw[<-hu5];exact aE _ _ _ rfl
 have z5:u5.heap.size=u4.heap.size+1:=by rw[<-hu5,aF]
 have b35:Below w3.heap.size w3 u5:=hu4.trans (b5.mono zu4)
 rw[hu5]
 have hS:XS [] (fun W=>(W.cell? ⟨Q,1,none⟩=some (.slice ao 0 c)/\Q<W.heap.size)/\(row W E0=#[.int .i64 port,.string ⟨s.toArray⟩]/\E0<W.heap.size)) u5:=XS.grow hG _ _ ⟨trivial,⟨cQ3,by omega⟩,rE3,by omega⟩ b35
 refine hK _ _ ⟨hS,?_⟩
 clear hK K hu5
 (try simp only[Act.put,List.setIfInBounds_toArray,List.set_cons_zero,List.set_cons_succ])
 refine gI 10 kr_ (by decide) (fun u6 hu6=>?_)
 have zu6:=hu6.size
 have r6:=(aA hu6 (by omega)).trans r5
 have b36:Below w3.heap.size w3 u6:=b35.trans (hu6.mono (by omega))
 have B6:=B3.trans (b36.mono (by omega))
 have he6:=HE.out.kept fun k hk _ _=>B6.block k hk
 refine aCq cD rfl ?_
 refine yF (t:=106) rfl Tryz.underlying106 aBF (by decide) (by decide) ao c rfl (he6.imp id fun⟨b,off,cs,h1,h2,h3,_⟩=>⟨b,off,cs,h1,h2,h3⟩) u4.heap.size 1 [Value.int .i64 port,.string ⟨s.toArray⟩] rfl r6 rfl rfl ?_
 intro g off cap cs u7 hcap hgl hcs hfit hval b7 hsz
 have zu7:=b7.size
 have hgl2:E<=g/\g≠Q/\(g<w.heap.size∨u6.heap.size<=g):=by
  rcases hgl with ⟨hc,e1⟩ | hg
  ·rcases HE.out with h0 | ⟨b,o2,cs2,e2,h2,_,h4,h5⟩
   ·exact absurd h0 hc
   ·rw[e2]at e1
    simp only[Option.some.injEq,Addr.mk.injEq]at e1
    obtain⟨rfl,_,_⟩:=e1
    exact⟨h5,h4,.inl (Array.getElem?_eq_some_iff.1 h2).1⟩
  ·exact⟨by omega,by omega,.inr hg⟩
 obtain⟨hEg,hgQ,hgw⟩:=hgl2
 have zg:g<u7.heap.size:=(Array.getElem?_eq_some_iff.1 hcs).1
 have rQ7:=(aJ (b7.block Q (by omega) (Ne.symm hgQ))).trans ((aA b36 (by omega)).trans rQ3)
 have rE7:=(aJ (b7.block E0 (by omega) (by omega))).trans ((aA b36 (by omega)).trans rE3)
 have hS:XS [] (fun W=>(W.cell? ⟨Q,1,none⟩=some (.slice ao 0 c)/\Q<W.heap.size)/\(row W E0=#[.int .i64 port,.string ⟨s.toArray⟩]/\E0<W.heap.size)) u7:=⟨trivial,⟨by rw[aQ (by rw[rQ7];simp),rQ7];rfl,by omega⟩,rE7,by omega⟩
 refine⟨hS,?_⟩
 (try simp only[Act.put,List.setIfInBounds_toArray,List.set_cons_zero,List.set_cons_succ])
 refine kg 13 hG hS ?_
 refine bE (k:=14) cD rfl rfl kr_ (fun y hy=>?_)
 have zy:=hy.size
 have rQy:=(aA hy (by omega)).trans rQ7
 obtain⟨y2,hy2⟩:∃x,y.setRow Q #[.int .i64 limit,.slice (some ⟨g,off,none⟩) 1 cap,v1,.int .i64 d]=x:=⟨_,rfl⟩
 refine⟨y2,?_,⟨trivial,trivial⟩,fun hS=>?_⟩
 ·rw[<-hy2]
  go_simp
  try exact⟨_,_,rfl,rfl⟩
 refine aG kr_ (fun w8 b8=>?_) _
 have zy2:y2.heap.size=y.heap.size:=by rw[<-hy2];simp
 have z8:=b8.size
 have rQ8:row w8 Q=#[.int .i64 limit,.slice (some ⟨g,off,none⟩) 1 cap,v1,.int .i64 d]:=by
  rw[aA b8 (by omega),<-hy2]
  exact aB (by rw[rQy];simp) (by rw[rQy];simp)
 have h78:∀k,k<u7.heap.size->k≠Q->w8.heap[k]? =u7.heap[k]? :=fun k hk hne=>by
  rw[b8.block k (by omega),<-hy2,aO _ _ _ hne,hy.block k hk]
 have hEv:EvAt u7 Q E port s g off cap:=⟨hcap,hEg,hgQ,hval,cs,hcs,hfit⟩
 have hEv8:=hEv.kept (h78 g zg hgQ)
 have hEk:∀a1 c1,EvQ w Q E a1 c1->EvQ w8 Q E a1 c1:=by
  intro a1 c1 h
  rcases h with h | ⟨b,o2,cs2,e2,h2,h3,h4,h5⟩
  ·exact .inl h
  ·have hbw:=(Array.getElem?_eq_some_iff.1 h2).1
   have h6:=(B6.block b hbw).trans h2
   by_cases hbg:b=g
   ·subst hbg
    obtain⟨_,hs2⟩:=hsz _ _ h6
    exact .inr ⟨b,o2,cs,e2,(h78 b zg h4).trans hcs,by omega,h4,h5⟩
   ·exact .inr ⟨b,o2,cs2,e2,((h78 b (by omega) h4).trans (b7.block b (by omega) hbg)).trans h6,h3,h4,h5⟩
 have B8:BelowS w.heap.size [Q,g] w w8:=⟨by rw[b8.os,<-hy2];exact hy.os.trans (b7.os.trans B6.os),by rw[b8.tape,<-hy2];exact hy.tape.trans (b7.tape.trans B6.tape),by rw[b8.output,<-hy2];exact hy.output.trans (b7.output.trans B6.output),by omega,fun k hk hne=>by
  simp only[List.mem_cons,List.not_mem_nil,or_false,not_or]at hne
  rw[h78 k (by omega) hne.1,b7.block k (by omega) hne.2,B6.block k hk]⟩
 clear hS hy2 rQy hy b8 hEv h78
 go_wp2_with fail
 go_ret
 exact⟨g,off,cap,rfl,rQ8,hEv8,hEk,hgl.imp id fun h=>by omega,B8⟩
theorem aK4 (Q E:Nat) (limit d port:Int) (hl:1<=limit) (v1:Value) (ao:Option Addr) (c:Nat) (s:List UInt8) (w:World) (hQ:row w Q=#[.int .i64 limit,v1,.slice ao 0 c,.int .i64 d]) (he:EvQ w Q E ao c) (hE:E<=w.heap.size):
  Calls Tryz.prog 61 #[.pointer (some ⟨Q,0,none⟩),.bool false,.agg #[.int .i64 port,.string ⟨s.toArray⟩]] w fun e w'=>∃g off cap,e=.returned (.int .i64 0)/\row w' Q=#[.int .i64 limit,v1,.slice (some ⟨g,off,none⟩) 1 cap,.int .i64 d]/\EvAt w' Q E port s g off cap/\(∀a1 c1,EvQ w Q E a1 c1->EvQ w' Q E a1 c1)/\(c≠0/\ao=some ⟨g,off,none⟩∨w.heap.size<=g)/\BelowS w.heap.size [Q,g] w w':=by
 have zQ:Q<w.heap.size:=aM (i:=0) (by rw[hQ];simp)
 go_enter Tryz.func61,Tryz.ntmps61
 obtain⟨w1,hw1⟩:∃x,w.alloc (.cells #[Value.int .i64 port,.string ⟨s.toArray⟩] 71)=x:=⟨_,rfl⟩
 have b1:Below w.heap.size w w1:=by rw[<-hw1];exact ba_
 have z1:w1.heap.size=w.heap.size+1:=by rw[<-hw1,aF]
 obtain⟨E0,hE0⟩:∃E,w.heap.size=E:=⟨_,rfl⟩
 have rE1:row w1 E0=#[Value.int .i64 port,.string ⟨s.toArray⟩]:=by rw[<-hw1,<-hE0];exact aE _ _ _ rfl
 have rQ1:=(aA b1 zQ).trans hQ
 have hl0:¬limit<=0:=by omega
 have kQ:Q<w1.heap.size:=by omega
 have kE:E0<w1.heap.size:=by omega
 have HE:=h_ he
 clear he
 go_wp2_with fail
 (try rw[hE0])
 (try clear hw1)
 clear z1
 refine(aBG false w1).mono ?_
 rintro e w2 ⟨rfl,rfl⟩
 go_wp2_with fail
 go_quiet (fail)
 go_wp2_with fail
 have b3:Below w2.heap.size w2 (w2.drewN nq):=below_drewN (Below.refl _ _) _
 obtain⟨w3,hw3⟩:∃w3,w2.drewN nq=w3:=⟨_,rfl⟩
 rw[hw3]at b3 ⊢
 have z3:=b3.size
 have rQ3:=(aA b3 kQ).trans rQ1
 have rE3:=(aA b3 kE).trans rE1
 have cQ3:w3.cell? ⟨Q,2,none⟩=some (.slice ao 0 c):=by rw[aQ (by rw[rQ3];simp),rQ3];rfl
 have B3:=b1.trans (b3.mono (by omega))
 have hG:GrowP fun W=>(W.cell? ⟨Q,2,none⟩=some (.slice ao 0 c)/\Q<W.heap.size)/\(row W E0=#[.int .i64 port,.string ⟨s.toArray⟩]/\E0<W.heap.size):=GrowP.and (bK _ _ _) (aBE _ _)
 clear hw3 b3 rQ1 rE1 b1
 refine eL 14 _ hG rfl ⟨⟨cQ3,by omega⟩,rE3,by omega⟩ (fun hS=>?_)
 refine kg 0 hG hS ?_
 refine kg 1 hG hS ?_
 refine kg 2 hG hS ?_
 refine kg 3 hG hS ?_
 refine kg 4 hG hS ?_
 refine kg 5 hG hS ?_
 refine kg 6 hG hS ?_
 refine kg 7 hG hS ?_
 refine kg 8 hG hS ?_
 refine kf 11 hG hS ?_
 refine kf 12 hG hS ?_
 refine gI 9 kr_ (by decide) (fun u4 hu4=>?_)
 replace hu4:Below w3.heap.size w3 u4:=aL (Below.drew (Below.refl _ _)) hu4
 have zu4:=hu4.size
 refine wpOp_step rfl (fun K hK=>?_)
 clear hS
 go_simp
 obtain⟨u5,hu5⟩:∃x,u4.alloc (.cells #[Value.int .i64 port,.string ⟨s.toArray⟩] 71)=x:=⟨_,rfl⟩
 have b5:Below u4.heap.size u4 u5:=by rw[<-hu5];exact ba_
 have r5:row u5 u4.heap.size=#[Value.int .i64 port,.string ⟨s.toArray⟩]:=by rw[<-hu5];exact aE _ _ _ rfl
 have z5:u5.heap.size=u4.heap.size+1:=by rw[<-hu5,aF]
 have b35:Below w3.heap.size w3 u5:=hu4.trans (b5.mono zu4)
 rw[hu5]
 have hS:XS [] (fun W=>(W.cell? ⟨Q,2,none⟩=some (.slice ao 0 c)/\Q<W.heap.size)/\(row W E0=#[.int .i64 port,.string ⟨s.toArray⟩]/\E0<W.heap.size)) u5:=XS.grow hG _ _ ⟨trivial,⟨cQ3,by omega⟩,rE3,by omega⟩ b35
 refine hK _ _ ⟨hS,?_⟩
 clear hK K hu5
 (try simp only[Act.put,List.setIfInBounds_toArray,List.set_cons_zero,List.set_cons_succ])
 refine gI 10 kr_ (by decide) (fun u6 hu6=>?_)
 have zu6:=hu6.size
 have r6:=(aA hu6 (by omega)).trans r5
 have b36:Below w3.heap.size w3 u6:=b35.trans (hu6.mono (by omega))
 have B6:=B3.trans (b36.mono (by omega))
 have he6:=HE.out.kept fun k hk _ _=>B6.block k hk
 refine aCq cD rfl ?_
 refine yF (t:=106) rfl Tryz.underlying106 aBF (by decide) (by decide) ao c rfl (he6.imp id fun⟨b,off,cs,h1,h2,h3,_⟩=>⟨b,off,cs,h1,h2,h3⟩) u4.heap.size 1 [Value.int .i64 port,.string ⟨s.toArray⟩] rfl r6 rfl rfl ?_
 intro g off cap cs u7 hcap hgl hcs hfit hval b7 hsz
 have zu7:=b7.size
 have hgl2:E<=g/\g≠Q/\(g<w.heap.size∨u6.heap.size<=g):=by
  rcases hgl with ⟨hc,e1⟩ | hg
  ·rcases HE.out with h0 | ⟨b,o2,cs2,e2,h2,_,h4,h5⟩
   ·exact absurd h0 hc
   ·rw[e2]at e1
    simp only[Option.some.injEq,Addr.mk.injEq]at e1
    obtain⟨rfl,_,_⟩:=e1
    exact⟨h5,h4,.inl (Array.getElem?_eq_some_iff.1 h2).1⟩
  ·exact⟨by omega,by omega,.inr hg⟩
 obtain⟨hEg,hgQ,hgw⟩:=hgl2
 have zg:g<u7.heap.size:=(Array.getElem?_eq_some_iff.1 hcs).1
 have rQ7:=(aJ (b7.block Q (by omega) (Ne.symm hgQ))).trans ((aA b36 (by omega)).trans rQ3)
 have rE7:=(aJ (b7.block E0 (by omega) (by omega))).trans ((aA b36 (by omega)).trans rE3)
 have hS:XS [] (fun W=>(W.cell? ⟨Q,2,none⟩=some (.slice ao 0 c)/\Q<W.heap.size)/\(row W E0=#[.int .i64 port,.string ⟨s.toArray⟩]/\E0<W.heap.size)) u7:=⟨trivial,⟨by rw[aQ (by rw[rQ7];simp),rQ7];rfl,by omega⟩,rE7,by omega⟩
 refine⟨hS,?_⟩
 (try simp only[Act.put,List.setIfInBounds_toArray,List.set_cons_zero,List.set_cons_succ])
 refine kg 13 hG hS ?_
 refine bE (k:=14) cD rfl rfl kr_ (fun y hy=>?_)
 have zy:=hy.size
 have rQy:=(aA hy (by omega)).trans rQ7
 obtain⟨y2,hy2⟩:∃x,y.setRow Q #[.int .i64 limit,v1,.slice (some ⟨g,off,none⟩) 1 cap,.int .i64 d]=x:=⟨_,rfl⟩
 refine⟨y2,?_,⟨trivial,trivial⟩,fun hS=>?_⟩
 ·rw[<-hy2]
  go_simp
  try exact⟨_,_,rfl,rfl⟩
 refine aG kr_ (fun w8 b8=>?_) _
 have zy2:y2.heap.size=y.heap.size:=by rw[<-hy2];simp
 have z8:=b8.size
 have rQ8:row w8 Q=#[.int .i64 limit,v1,.slice (some ⟨g,off,none⟩) 1 cap,.int .i64 d]:=by
  rw[aA b8 (by omega),<-hy2]
  exact aB (by rw[rQy];simp) (by rw[rQy];simp)
 have h78:∀k,k<u7.heap.size->k≠Q->w8.heap[k]? =u7.heap[k]? :=fun k hk hne=>by
  rw[b8.block k (by omega),<-hy2,aO _ _ _ hne,hy.block k hk]
 have hEv:EvAt u7 Q E port s g off cap:=⟨hcap,hEg,hgQ,hval,cs,hcs,hfit⟩
 have hEv8:=hEv.kept (h78 g zg hgQ)
 have hEk:∀a1 c1,EvQ w Q E a1 c1->EvQ w8 Q E a1 c1:=by
  intro a1 c1 h
  rcases h with h | ⟨b,o2,cs2,e2,h2,h3,h4,h5⟩
  ·exact .inl h
  ·have hbw:=(Array.getElem?_eq_some_iff.1 h2).1
   have h6:=(B6.block b hbw).trans h2
   by_cases hbg:b=g
   ·subst hbg
    obtain⟨_,hs2⟩:=hsz _ _ h6
    exact .inr ⟨b,o2,cs,e2,(h78 b zg h4).trans hcs,by omega,h4,h5⟩
   ·exact .inr ⟨b,o2,cs2,e2,((h78 b (by omega) h4).trans (b7.block b (by omega) hbg)).trans h6,h3,h4,h5⟩
 have B8:BelowS w.heap.size [Q,g] w w8:=⟨by rw[b8.os,<-hy2];exact hy.os.trans (b7.os.trans B6.os),by rw[b8.tape,<-hy2];exact hy.tape.trans (b7.tape.trans B6.tape),by rw[b8.output,<-hy2];exact hy.output.trans (b7.output.trans B6.output),by omega,fun k hk hne=>by
  simp only[List.mem_cons,List.not_mem_nil,or_false,not_or]at hne
  rw[h78 k (by omega) hne.1,b7.block k (by omega) hne.2,B6.block k hk]⟩
 clear hS hy2 rQy hy b8 hEv h78
 go_wp2_with fail
 go_ret
 exact⟨g,off,cap,rfl,rQ8,hEv8,hEk,hgl.imp id fun h=>by omega,B8⟩
end
section
open Go.RowKit
theorem aJq (Q E g off cap:Nat) (limit d port:Int) (v1:Value) (s:List UInt8) (w:World) (hQ:row w Q=#[.int .i64 limit,.slice (some ⟨g,off,none⟩) 1 cap,v1,.int .i64 d]) (he:EvAt w Q E port s g off cap):
  Calls Tryz.prog 29 #[.pointer (some ⟨Q,0,none⟩)] w fun e w'=>∃a c,EvQ w' Q E a c/\e=.returned (.tuple #[.agg #[.int .i64 port,.string ⟨s.toArray⟩],.bool true,.bool true])/\row w' Q=#[.int .i64 limit,.slice a 0 c,v1,.int .i64 d]/\BelowBut w.heap.size Q w w':=by
 have zQ:Q<w.heap.size:=aM (i:=0) (by rw[hQ];simp)
 obtain⟨hcap,hEg,hgQ,hra,cs,hcs,hfit⟩:=he
 have zg:g<w.heap.size:=(Array.getElem?_eq_some_iff.1 hcs).1
 have HC:=h_ (show EvAt w Q E port s g off cap from ⟨hcap,hEg,hgQ,hra,cs,hcs,hfit⟩)
 clear hcs hfit hEg
 go_enter Tryz.func29,Tryz.ntmps29
 obtain⟨w1,hw1⟩:∃x,w.alloc (.cells #[Value.int .i64 0,.string ⟨#[]⟩] 71)=x:=⟨_,rfl⟩
 have b1:Below w.heap.size w w1:=by rw[<-hw1];exact ba_
 have z1:w1.heap.size=w.heap.size+1:=by rw[<-hw1,aF]
 have r1:row w1 w.heap.size=#[Value.int .i64 0,.string ⟨#[]⟩]:=by rw[<-hw1];exact aE _ _ _ rfl
 obtain⟨w2,hw2⟩:∃x,w1.alloc (.cells #[Value.int .i64 0,.string ⟨#[]⟩] 71)=x:=⟨_,rfl⟩
 have b2:Below w.heap.size w w2:=by rw[<-hw2];exact Below.alloc b1 (by omega) _
 have z2:w2.heap.size=w.heap.size+2:=by rw[<-hw2,aF,z1]
 have r2:row w2 w.heap.size=#[Value.int .i64 0,.string ⟨#[]⟩]:=by rw[<-hw2,aD _ _ (by omega)];exact r1
 have rQ2:=(aA b2 zQ).trans hQ
 have hld:(mC 71 (.pointer (some ⟨g,off,none⟩))).run Tryz.prog w2=.ok (.agg #[Value.int .i64 port,.string ⟨s.toArray⟩]) w2:=cI (l:=[.int .i64 port,.string ⟨s.toArray⟩]) (fun j v hj=>by have:=hra j v hj;unfold World.cell? at this ⊢;rw[b2.block g zg];exact this) rfl
 have k1:w.heap.size<w2.heap.size:=by omega
 have k2:Q<w2.heap.size:=by omega
 have k3:g<w2.heap.size:=by omega
 clear hQ hra r1
 go_wp2_with fail
 (try clear hw1)
 (try clear hw2)
 clear z1
 obtain⟨w3,hw3⟩:∃x,w2.alloc (.cells #[Value.int .i64 port,.string ⟨s.toArray⟩] 71)=x:=⟨_,rfl⟩
 have b3:Below w2.heap.size w2 w3:=by rw[<-hw3];exact ba_
 have z3:w3.heap.size=w2.heap.size+1:=by rw[<-hw3,aF]
 have rX3:row w3 w2.heap.size=#[Value.int .i64 port,.string ⟨s.toArray⟩]:=by rw[<-hw3];exact aE _ _ _ rfl
 have rQ3:=(aA b3 k2).trans rQ2
 have r3:=(aA b3 k1).trans r2
 have B3:Below w.heap.size w w3:=b2.trans (b3.mono (by omega))
 have j1:w.heap.size<w3.heap.size:=by omega
 have j2:w2.heap.size<w3.heap.size:=by omega
 have hkk:w2.heap.size≠Q:=by omega
 have hkq:w.heap.size≠Q:=by omega
 clear z2 z3 b2
 refine wp_loop_rounds 3 ?_
 rw[rounds_succ]
 go_wp2_with fail
 (try clear hw3)
 have cQ3:w3.cell? ⟨Q,1,none⟩=some (.slice (some ⟨g,off,none⟩) 1 cap):=by rw[aQ (by rw[rQ3];simp),rQ3];rfl
 have hG:GrowP fun W=>W.cell? ⟨Q,1,none⟩=some (.slice (some ⟨g,off,none⟩) 1 cap)/\Q<W.heap.size:=bK _ _ _
 refine eL 12 _ hG rfl ⟨cQ3,by omega⟩ (fun hS=>?_)
 refine kg 0 hG hS ?_
 refine kg 1 hG hS ?_
 refine kg 2 hG hS ?_
 refine kg 3 hG hS ?_
 refine kg 4 hG hS ?_
 refine kg 5 hG hS ?_
 refine kg 6 hG hS ?_
 refine kg 7 hG hS ?_
 refine kg 8 hG hS ?_
 refine kf 9 hG hS ?_
 refine kf 10 hG hS ?_
 refine kg 11 hG hS ?_
 obtain⟨a,ha⟩:∃a,(if cap=1 then some (⟨g,off,none⟩:Addr)else some ⟨g,off+2,none⟩)=a:=⟨_,rfl⟩
 rw[ha]
 refine bE (k:=12) cD rfl rfl kr_ (fun y hy=>?_)
 replace hy:Below w3.heap.size w3 y:=aL (Below.drew (Below.refl _ _)) hy
 have zy:=hy.size
 have rQy:=(aA hy (by omega)).trans rQ3
 obtain⟨y2,hy2⟩:∃x,y.setRow Q #[.int .i64 limit,.slice a 0 (cap - 1),v1,.int .i64 d]=x:=⟨_,rfl⟩
 refine⟨y2,?_,⟨trivial,trivial⟩,fun hS=>?_⟩
 ·rw[<-hy2]
  go_simp
  try exact⟨_,_,rfl,rfl⟩
 refine aG kr_ (fun w8 b8=>?_) _
 have zy2:y2.heap.size=y.heap.size:=by rw[<-hy2];simp
 have z8:=b8.size
 have rQ8:row w8 Q=#[.int .i64 limit,.slice a 0 (cap - 1),v1,.int .i64 d]:=by
  rw[aA b8 (by omega),<-hy2]
  exact aB (by rw[rQy];simp) (by rw[rQy];simp)
 have rX8:row w8 w2.heap.size=#[Value.int .i64 port,.string ⟨s.toArray⟩]:=by
  rw[aA b8 (by omega),<-hy2,aC _ _ _ hkk,aA hy (by omega)]
  exact rX3
 have rR8:row w8 w.heap.size=#[Value.int .i64 0,.string ⟨#[]⟩]:=by
  rw[aA b8 (by omega),<-hy2,aC _ _ _ hkq,aA hy (by omega)]
  exact r3
 have B8:BelowBut w.heap.size Q w w8:=(BelowBut.of (B3.trans (hy.mono (by omega)))).trans ⟨by rw[b8.os,<-hy2];rfl,by rw[b8.tape,<-hy2];rfl,by rw[b8.output,<-hy2];rfl,by omega,fun k hk hne=>by rw[b8.block k (by omega),<-hy2,aO _ _ _ hne]⟩
 have HB8:=h_ B8
 have HQ8:=h_ rQ8
 clear hS hy2 rQy hy b8 B3 rQ3 B8 rQ8 rX3 r3
 obtain⟨w9,hw9⟩:∃x,w8.setRow w.heap.size #[Value.int .i64 port,.string ⟨s.toArray⟩]=x:=⟨_,rfl⟩
 have r9:row w9 w.heap.size=#[Value.int .i64 port,.string ⟨s.toArray⟩]:=by rw[<-hw9];exact aB (by rw[rR8];simp) (by rw[rR8];simp)
 have q9:row w9 Q=#[.int .i64 limit,.slice a 0 (cap - 1),v1,.int .i64 d]:=by rw[<-hw9,aC _ _ _ (Ne.symm hkq)];exact HQ8.out
 have B9:BelowBut w.heap.size Q w w9:=by rw[<-hw9];exact HB8.out.trans (BelowBut.of (Below.setRow (Below.refl _ _) (Nat.le_refl _) _))
 have HQ9:=h_ q9
 have HB9:=h_ B9
 clear q9 B9 HQ8
 go_wp2_with fail
 (try rw[hw9])
 (try clear hw9)
 (try simp only[Exit.inBlock,Exit.then])
 refine bodyPost_ret (tE rfl (aK rfl ?_) aP aP) rfl ?_
 ·rw[r9];simp
 refine⟨a,cap - 1,?_,by rw[r9];rfl,HQ9.out,HB9.out⟩
 obtain⟨hcap,hEg,hgQ,_,cs,hcs,hfit⟩:=HC.out
 by_cases h1:cap=1
 ·exact .inl (by omega)
 ·rw[if_neg h1]at ha
  exact .inr ⟨g,off+2,cs,ha.symm,(HB9.out.block g zg hgQ).trans hcs,by omega,hgQ,hEg⟩
theorem aJr (Q E g off cap:Nat) (limit d port:Int) (a0:Option Addr) (c0:Nat) (s:List UInt8) (w:World) (hQ:row w Q=#[.int .i64 limit,.slice a0 0 c0,.slice (some ⟨g,off,none⟩) 1 cap,.int .i64 d]) (he:EvAt w Q E port s g off cap):
  Calls Tryz.prog 29 #[.pointer (some ⟨Q,0,none⟩)] w fun e w'=>∃a c,EvQ w' Q E a c/\e=.returned (.tuple #[.agg #[.int .i64 port,.string ⟨s.toArray⟩],.bool false,.bool true])/\row w' Q=#[.int .i64 limit,.slice a0 0 c0,.slice a 0 c,.int .i64 d]/\BelowBut w.heap.size Q w w':=by
 have zQ:Q<w.heap.size:=aM (i:=0) (by rw[hQ];simp)
 obtain⟨hcap,hEg,hgQ,hra,cs,hcs,hfit⟩:=he
 have zg:g<w.heap.size:=(Array.getElem?_eq_some_iff.1 hcs).1
 have HC:=h_ (show EvAt w Q E port s g off cap from ⟨hcap,hEg,hgQ,hra,cs,hcs,hfit⟩)
 clear hcs hfit hEg
 go_enter Tryz.func29,Tryz.ntmps29
 obtain⟨w1,hw1⟩:∃x,w.alloc (.cells #[Value.int .i64 0,.string ⟨#[]⟩] 71)=x:=⟨_,rfl⟩
 have b1:Below w.heap.size w w1:=by rw[<-hw1];exact ba_
 have z1:w1.heap.size=w.heap.size+1:=by rw[<-hw1,aF]
 have r1:row w1 w.heap.size=#[Value.int .i64 0,.string ⟨#[]⟩]:=by rw[<-hw1];exact aE _ _ _ rfl
 obtain⟨w2,hw2⟩:∃x,w1.alloc (.cells #[Value.int .i64 0,.string ⟨#[]⟩] 71)=x:=⟨_,rfl⟩
 have b2:Below w.heap.size w w2:=by rw[<-hw2];exact Below.alloc b1 (by omega) _
 have z2:w2.heap.size=w.heap.size+2:=by rw[<-hw2,aF,z1]
 have r2:row w2 w.heap.size=#[Value.int .i64 0,.string ⟨#[]⟩]:=by rw[<-hw2,aD _ _ (by omega)];exact r1
 have rQ2:=(aA b2 zQ).trans hQ
 have hld:(mC 71 (.pointer (some ⟨g,off,none⟩))).run Tryz.prog w2=.ok (.agg #[Value.int .i64 port,.string ⟨s.toArray⟩]) w2:=cI (l:=[.int .i64 port,.string ⟨s.toArray⟩]) (fun j v hj=>by have:=hra j v hj;unfold World.cell? at this ⊢;rw[b2.block g zg];exact this) rfl
 have k1:w.heap.size<w2.heap.size:=by omega
 have k2:Q<w2.heap.size:=by omega
 have k3:g<w2.heap.size:=by omega
 clear hQ hra r1
 go_wp2_with fail
 (try clear hw1)
 (try clear hw2)
 clear z1
 obtain⟨w3,hw3⟩:∃x,w2.alloc (.cells #[Value.int .i64 port,.string ⟨s.toArray⟩] 71)=x:=⟨_,rfl⟩
 have b3:Below w2.heap.size w2 w3:=by rw[<-hw3];exact ba_
 have z3:w3.heap.size=w2.heap.size+1:=by rw[<-hw3,aF]
 have rX3:row w3 w2.heap.size=#[Value.int .i64 port,.string ⟨s.toArray⟩]:=by rw[<-hw3];exact aE _ _ _ rfl
 have rQ3:=(aA b3 k2).trans rQ2
 have r3:=(aA b3 k1).trans r2
 have B3:Below w.heap.size w w3:=b2.trans (b3.mono (by omega))
 have j1:w.heap.size<w3.heap.size:=by omega
 have j2:w2.heap.size<w3.heap.size:=by omega
 have hkk:w2.heap.size≠Q:=by omega
 have hkq:w.heap.size≠Q:=by omega
 clear z2 z3 b2
 refine wp_loop_rounds 3 ?_
 rw[rounds_succ]
 go_wp2_with fail
 rw[rounds_succ]
 go_wp2_with fail
 (try clear hw3)
 have cQ3:w3.cell? ⟨Q,2,none⟩=some (.slice (some ⟨g,off,none⟩) 1 cap):=by rw[aQ (by rw[rQ3];simp),rQ3];rfl
 have hG:GrowP fun W=>W.cell? ⟨Q,2,none⟩=some (.slice (some ⟨g,off,none⟩) 1 cap)/\Q<W.heap.size:=bK _ _ _
 refine eL 12 _ hG rfl ⟨cQ3,by omega⟩ (fun hS=>?_)
 refine kg 0 hG hS ?_
 refine kg 1 hG hS ?_
 refine kg 2 hG hS ?_
 refine kg 3 hG hS ?_
 refine kg 4 hG hS ?_
 refine kg 5 hG hS ?_
 refine kg 6 hG hS ?_
 refine kg 7 hG hS ?_
 refine kg 8 hG hS ?_
 refine kf 9 hG hS ?_
 refine kf 10 hG hS ?_
 refine kg 11 hG hS ?_
 obtain⟨a,ha⟩:∃a,(if cap=1 then some (⟨g,off,none⟩:Addr)else some ⟨g,off+2,none⟩)=a:=⟨_,rfl⟩
 rw[ha]
 refine bE (k:=12) cD rfl rfl kr_ (fun y hy=>?_)
 replace hy:Below w3.heap.size w3 y:=aL (Below.drew (Below.refl _ _)) hy
 have zy:=hy.size
 have rQy:=(aA hy (by omega)).trans rQ3
 obtain⟨y2,hy2⟩:∃x,y.setRow Q #[.int .i64 limit,.slice a0 0 c0,.slice a 0 (cap - 1),.int .i64 d]=x:=⟨_,rfl⟩
 refine⟨y2,?_,⟨trivial,trivial⟩,fun hS=>?_⟩
 ·rw[<-hy2]
  go_simp
  try exact⟨_,_,rfl,rfl⟩
 refine aG kr_ (fun w8 b8=>?_) _
 have zy2:y2.heap.size=y.heap.size:=by rw[<-hy2];simp
 have z8:=b8.size
 have rQ8:row w8 Q=#[.int .i64 limit,.slice a0 0 c0,.slice a 0 (cap - 1),.int .i64 d]:=by
  rw[aA b8 (by omega),<-hy2]
  exact aB (by rw[rQy];simp) (by rw[rQy];simp)
 have rX8:row w8 w2.heap.size=#[Value.int .i64 port,.string ⟨s.toArray⟩]:=by
  rw[aA b8 (by omega),<-hy2,aC _ _ _ hkk,aA hy (by omega)]
  exact rX3
 have rR8:row w8 w.heap.size=#[Value.int .i64 0,.string ⟨#[]⟩]:=by
  rw[aA b8 (by omega),<-hy2,aC _ _ _ hkq,aA hy (by omega)]
  exact r3
 have B8:BelowBut w.heap.size Q w w8:=(BelowBut.of (B3.trans (hy.mono (by omega)))).trans ⟨by rw[b8.os,<-hy2];rfl,by rw[b8.tape,<-hy2];rfl,by rw[b8.output,<-hy2];rfl,by omega,fun k hk hne=>by rw[b8.block k (by omega),<-hy2,aO _ _ _ hne]⟩
 have HB8:=h_ B8
 have HQ8:=h_ rQ8
 clear hS hy2 rQy hy b8 B3 rQ3 B8 rQ8 rX3 r3
 obtain⟨w9,hw9⟩:∃x,w8.setRow w.heap.size #[Value.int .i64 port,.string ⟨s.toArray⟩]=x:=⟨_,rfl⟩
 have r9:row w9 w.heap.size=#[Value.int .i64 port,.string ⟨s.toArray⟩]:=by rw[<-hw9];exact aB (by rw[rR8];simp) (by rw[rR8];simp)
 have q9:row w9 Q=#[.int .i64 limit,.slice a0 0 c0,.slice a 0 (cap - 1),.int .i64 d]:=by rw[<-hw9,aC _ _ _ (Ne.symm hkq)];exact HQ8.out
 have B9:BelowBut w.heap.size Q w w9:=by rw[<-hw9];exact HB8.out.trans (BelowBut.of (Below.setRow (Below.refl _ _) (Nat.le_refl _) _))
 have HQ9:=h_ q9
 have HB9:=h_ B9
 clear q9 B9 HQ8
 go_wp2_with fail
 (try rw[hw9])
 (try clear hw9)
 (try simp only[Exit.inBlock,Exit.then])
 refine bodyPost_ret (tE rfl (aK rfl ?_) aP aP) rfl ?_
 ·rw[r9];simp
 refine⟨a,cap - 1,?_,by rw[r9];rfl,HQ9.out,HB9.out⟩
 obtain⟨hcap,hEg,hgQ,_,cs,hcs,hfit⟩:=HC.out
 by_cases h1:cap=1
 ·exact .inl (by omega)
 ·rw[if_neg h1]at ha
  exact .inr ⟨g,off+2,cs,ha.symm,(HB9.out.block g zg hgQ).trans hcs,by omega,hgQ,hEg⟩
end
end Go.Proofs.YtiagbbknkdgmeaaGreat
