/- Texts of this proof, merged: AeadT, AeadS, AeadO. -/
import Derived.Test.YtiagbbknkdgmeaaGreatJ30
import Derived.Test.YtiagbbknkdgmeaaGreatJ32
import Derived.Test.YtiagbbknkdgmeaaGreatJ28
set_option linter.unusedSimpArgs false
set_option linter.unusedVariables false
set_option maxHeartbeats 8000000
set_option maxRecDepth 20000
namespace Go.Proofs.YtiagbbknkdgmeaaGreat
section
open Go.RowKit
def aHs (k nonce beside masked:List UInt8):List UInt8:=aC8 ((iS k 0 nonce).take 32) (aBI [beside,masked])
theorem uV (k nonce beside masked:List UInt8):(aHs k nonce beside masked).length=16:=qU _ _
theorem aBQ (a b:List UInt8) (ha:a.length<=20000) (hb:b.length<=20000):(aBI [a,b]).length<=100000:=by
 have h1:=k8 [a,b] 20000 (by simp[ha,hb]) 2
 have h2:=qQ [a,b] 2
 show(iU [a,b] 2++j8 [a,b] 2).length<=100000
 rw[List.length_append]
 omega
theorem lD (a b:List UInt8) (g:Nat) (w:World) (hg:g<w.heap.size) (hr:row w g=#[.string ⟨a.toArray⟩,.string ⟨b.toArray⟩]) (ha:a.length<=20000) (hb:b.length<=20000):
  Calls Tryz.prog 184 #[.slice (some ⟨g,0,none⟩) 2 2] w fun e w'=>e=.returned (.string ⟨(aBI [a,b]).toArray⟩)/\Below w.heap.size w w':=
 aIT [a,b] g w hg (by rw[hr];rfl) (by simp) (by simp;omega)
theorem aKQ (k nonce beside masked:List UInt8) (w:World) (hk:k.length=32) (hn:nonce.length=12) (hb:beside.length<=20000) (hm:masked.length<=20000):
  Calls Tryz.prog 151 #[.agg (u8s k).toArray,.string ⟨nonce.toArray⟩,.string ⟨beside.toArray⟩,.string ⟨masked.toArray⟩] w fun e w'=>e=.returned (.tuple #[.string ⟨(aHs k nonce beside masked).toArray⟩,.int .i64 0])/\Below w.heap.size w w':=by
 have HS:=h_ (fun w=>aGX k 0 nonce w hk hn)
 obtain⟨s,hs⟩:∃s,iS k 0 nonce=s:=⟨_,rfl⟩
 have hsl:s.length=64:=by rw[<-hs];exact iT _ _ _
 rw[hs]at HS
 have htl:(s.take 32).length=32:=by rw[List.length_take];omega
 have hll:(aBI [beside,masked]).length<=100000:=aBQ beside masked hb hm
 have HPS:=h_ (fun w=>aJi (s.take 32) (aBI [beside,masked]) w htl hll)
 obtain⟨P,hP⟩:∃P,aC8 (s.take 32) (aBI [beside,masked])=P:=⟨_,rfl⟩
 have hPl:P.length=16:=by rw[<-hP];exact qU _ _
 have ht:aHs k nonce beside masked=P:=by rw[aHs,hs,hP]
 have HT:=h_ ht
 rw[hP]at HPS
 clear hs hP htl hll ht
 go_enter Tryz.func151,Tryz.ntmps151
 go_wp2_with fail
 (with_reducible refine(HS.out _).mono ?_)
 rintro e w1 ⟨rfl,b1⟩
 go_wp2_with fail
 have B1:Below w.heap.size w w1.drew:=Below.drew <| Below.trans eD (b1.mono (by simp))
 refine fV [] rfl trivial (fun hS=>?_)
 refine qp 0 hS ?_
 refine qp 1 hS ?_
 refine qp 5 hS ?_
 refine qp 6 hS ?_
 refine aY (rs:=[2,7,10]) kr_ (by simp) (Rws.grow _) hS (fun u1 hu1 hSW=>?_)
 intro i hi
 simp only[List.mem_cons,List.not_mem_nil,or_false]at hi
 have Bu1:Below w.heap.size w u1:=B1.trans (hu1.mono B1.size)
 have Zu1:=hu1.size
 have ZB1:=Bu1.size
 rcases hi with rfl | rfl | rfl
 ·skip
  refine wpOp_step rfl (fun K hK=>?_)
  simp only[Rws]at hSW
  clear hS
  go_simp
  obtain⟨sp,hsp⟩:∃q,eE u1 ⟨(s.take 32).toArray⟩ 5=q:=⟨_,rfl⟩
  rw[hsp]
  clear hsp
  obtain⟨v1,ev1⟩:∃v,((u1.alloc (.cells (u8s (s.take 32)++aH sp (Value.int .u8 0)).toArray 5 (32+sp,32+sp+1))).drew)=v:=⟨_,rfl⟩
  rw[ev1]
  have hv1:Below u1.heap.size u1 v1:=by rw[<-ev1];exact eD
  have zv1:v1.heap.size=u1.heap.size+1:=by rw[<-ev1];simp
  have rv1:row v1 u1.heap.size=(u8s (s.take 32)++aH sp (Value.int .u8 0)).toArray:=by rw[<-ev1];first | (rw[dI,bF _ _ _ _ _ (by simp) (by first | (simp;done) | (simp;omega))];done) | (rw[aE _ _ _ rfl];done)
  have Bv1:Below w.heap.size w v1:=Bu1.trans (hv1.mono Bu1.size)
  have Zv1:=Bv1.size
  clear ev1
  refine hK _ _ (bS (S2:=Rws [(u1.heap.size,(u8s (s.take 32)++aH sp (Value.int .u8 0)).toArray)]) ⟨rv1,by omega,Rws.grow _ _ _ (by first | (simp only[Rws];done) | (simpa only[Rws]using hSW)) hv1⟩ (fun _ h=>h.tail) (fun hS=>?_))
  clear hK K hSW
  (try simp only[Act.put,List.setIfInBounds_toArray,List.set_cons_zero,List.set_cons_succ])
  refine qp 3 hS ?_
  refine qp 4 hS ?_
  refine aY (rs:=[7,10]) kr_ (by simp) (Rws.grow _) hS (fun u2 hu2 hSW=>?_)
  intro i hi
  simp only[List.mem_cons,List.not_mem_nil,or_false]at hi
  have Bu2:Below w.heap.size w u2:=Bv1.trans (hu2.mono Bv1.size)
  have Zu2:=hu2.size
  have ZB2:=Bu2.size
  rcases hi with rfl | rfl
  ·skip
   refine wpOp_step rfl (fun K hK=>?_)
   simp only[Rws]at hSW
   clear hS
   go_simp
   obtain⟨v2,ev2⟩:∃v,(u2.alloc (.cells ([.string ⟨beside.toArray⟩,.string ⟨masked.toArray⟩]).toArray 9))=v:=⟨_,rfl⟩
   rw[ev2]
   have hv2:Below u2.heap.size u2 v2:=by rw[<-ev2];exact eD
   have zv2:v2.heap.size=u2.heap.size+1:=by rw[<-ev2];simp
   have rv2:row v2 u2.heap.size=([.string ⟨beside.toArray⟩,.string ⟨masked.toArray⟩]).toArray:=by rw[<-ev2];first | (rw[dI,bF _ _ _ _ _ (by simp) (by first | (simp;done) | (simp;omega))];done) | (rw[aE _ _ _ rfl];done)
   have Bv2:Below w.heap.size w v2:=Bu2.trans (hv2.mono Bu2.size)
   have Zv2:=Bv2.size
   clear ev2
   refine hK _ _ (bS (S2:=Rws [(u2.heap.size,([.string ⟨beside.toArray⟩,.string ⟨masked.toArray⟩]).toArray),(u1.heap.size,(u8s (s.take 32)++aH sp (Value.int .u8 0)).toArray)]) ⟨rv2,by omega,Rws.grow _ _ _ (by first | (simp only[Rws];done) | (simpa only[Rws]using hSW)) hv2⟩ (fun _ h=>h.tail) (fun hS=>?_))
   clear hK K hSW
   (try simp only[Act.put,List.setIfInBounds_toArray,List.set_cons_zero,List.set_cons_succ])
   refine qc 8 (v:=?_) hS ?_ ?_
   rotate_left
   ·intro w' hS'
    simp only[Rws]at hS'
    go_simp
    with_reducible refine(lD beside masked u2.heap.size w' (by omega) (by first | exact hS'.1 | exact hS'.2.2.1) hb hm).mono ?_
    rintro e w'' ⟨rfl,hb⟩
    exact⟨_,rfl,by rfl,hb⟩
   refine qc 9 (v:=?_) hS ?_ ?_
   rotate_left
   ·intro w' hS'
    simp only[Rws]at hS'
    go_simp
    with_reducible refine(HPS.out _).mono ?_
    rintro e w'' ⟨rfl,hb⟩
    exact⟨_,rfl,by rfl,hb⟩
   refine aY (rs:=[10]) kr_ (by simp) (Rws.grow _) hS (fun u3 hu3 hSW=>?_)
   intro i hi
   simp only[List.mem_cons,List.not_mem_nil,or_false]at hi
   have Bu3:Below w.heap.size w u3:=Bv2.trans (hu3.mono Bv2.size)
   have Zu3:=hu3.size
   have ZB3:=Bu3.size
   obtain rfl:=hi
   refine wpOp_step rfl (fun K hK=>?_)
   simp only[Rws]at hSW
   clear hS
   go_simp
   obtain⟨v3,ev3⟩:∃v,(u3.alloc (.cells (aH 16 (Value.int .u8 0)).toArray 261))=v:=⟨_,rfl⟩
   rw[ev3]
   have hv3:Below u3.heap.size u3 v3:=by rw[<-ev3];exact eD
   have zv3:v3.heap.size=u3.heap.size+1:=by rw[<-ev3];simp
   have rv3:row v3 u3.heap.size=(aH 16 (Value.int .u8 0)).toArray:=by rw[<-ev3];first | (rw[dI,bF _ _ _ _ _ (by simp) (by first | (simp;done) | (simp;omega))];done) | (rw[aE _ _ _ rfl];done)
   have Bv3:Below w.heap.size w v3:=Bu3.trans (hv3.mono Bu3.size)
   have Zv3:=Bv3.size
   clear ev3
   refine hK _ _ ⟨Rws.grow _ _ _ (by first | (simp only[Rws];done) | (simpa only[Rws]using hSW)) hv3,?_⟩
   have hS:=Rws.grow _ _ _ (show Rws [(u2.heap.size,([.string ⟨beside.toArray⟩,.string ⟨masked.toArray⟩]).toArray),(u1.heap.size,(u8s (s.take 32)++aH sp (Value.int .u8 0)).toArray)] u3 from by first | (simp only[Rws];done) | (simpa only[Rws]using hSW)) hv3
   clear hK K hSW
   (try simp only[Act.put,List.setIfInBounds_toArray,List.set_cons_zero,List.set_cons_succ])
   refine aY (rs:=[11]) kr_ (by simp) (Rws.grow _) hS (fun u4 hu4 hSW=>?_)
   intro i hi
   obtain rfl:=List.mem_singleton.1 hi
   have rC4:row u4 (u3.heap.size)=(aH 16 (Value.int .u8 0)).toArray:=(aA hu4 (by omega)).trans rv3
   have Zu4:=hu4.size
   have Bu4:Below w.heap.size w u4:=Bv3.trans (hu4.mono Bv3.size)
   refine wpOp_step rfl (fun K hK=>?_)
   clear hS
   go_simp
   refine hK _ _ ⟨Rws.setRow_ne _ _ hSW (by simp;(try omega)),?_⟩
   clear hK K hSW
   (try simp only[Act.put,List.setIfInBounds_toArray,List.set_cons_zero,List.set_cons_succ])
   refine aG kr_ (fun u5 hu5=>?_) _
   have rC5:row u5 (u3.heap.size)=(u8s P).toArray:=by rw[aA hu5 (by simp;omega)];simp[go_sem,rC4,hPl]
   have Zu5:=hu5.size
   have Bu5:Below w.heap.size w u5:=(Below.setRow Bu4 (show w.heap.size<=u3.heap.size by omega) _).trans (hu5.mono (by simp;omega))
   clear rC4 hu5
   go_wp2_with fail
   go_ret2
   exact⟨by rw[HT.out];rfl,Bu5⟩
  ·skip
   refine wpOp_step rfl (fun K hK=>?_)
   simp only[Rws]at hSW
   clear hS
   go_simp
   obtain⟨v2,ev2⟩:∃v,(u2.alloc (.cells (aH 16 (Value.int .u8 0)).toArray 261))=v:=⟨_,rfl⟩
   rw[ev2]
   have hv2:Below u2.heap.size u2 v2:=by rw[<-ev2];exact eD
   have zv2:v2.heap.size=u2.heap.size+1:=by rw[<-ev2];simp
   have rv2:row v2 u2.heap.size=(aH 16 (Value.int .u8 0)).toArray:=by rw[<-ev2];first | (rw[dI,bF _ _ _ _ _ (by simp) (by first | (simp;done) | (simp;omega))];done) | (rw[aE _ _ _ rfl];done)
   have Bv2:Below w.heap.size w v2:=Bu2.trans (hv2.mono Bu2.size)
   have Zv2:=Bv2.size
   clear ev2
   refine hK _ _ ⟨Rws.grow _ _ _ (by first | (simp only[Rws];done) | (simpa only[Rws]using hSW)) hv2,?_⟩
   have hS:=Rws.grow _ _ _ (show Rws [(u1.heap.size,(u8s (s.take 32)++aH sp (Value.int .u8 0)).toArray)] u2 from by first | (simp only[Rws];done) | (simpa only[Rws]using hSW)) hv2
   clear hK K hSW
   (try simp only[Act.put,List.setIfInBounds_toArray,List.set_cons_zero,List.set_cons_succ])
   refine aY (rs:=[7]) kr_ (by simp) (Rws.grow _) hS (fun u3 hu3 hSW=>?_)
   intro i hi
   simp only[List.mem_cons,List.not_mem_nil,or_false]at hi
   have Bu3:Below w.heap.size w u3:=Bv2.trans (hu3.mono Bv2.size)
   have Zu3:=hu3.size
   have ZB3:=Bu3.size
   have rC3:row u3 u2.heap.size=(aH 16 (Value.int .u8 0)).toArray:=(aA hu3 (by omega)).trans rv2
   obtain rfl:=hi
   refine wpOp_step rfl (fun K hK=>?_)
   simp only[Rws]at hSW
   clear hS
   go_simp
   obtain⟨v3,ev3⟩:∃v,(u3.alloc (.cells ([.string ⟨beside.toArray⟩,.string ⟨masked.toArray⟩]).toArray 9))=v:=⟨_,rfl⟩
   rw[ev3]
   have hv3:Below u3.heap.size u3 v3:=by rw[<-ev3];exact eD
   have zv3:v3.heap.size=u3.heap.size+1:=by rw[<-ev3];simp
   have rv3:row v3 u3.heap.size=([.string ⟨beside.toArray⟩,.string ⟨masked.toArray⟩]).toArray:=by rw[<-ev3];first | (rw[dI,bF _ _ _ _ _ (by simp) (by first | (simp;done) | (simp;omega))];done) | (rw[aE _ _ _ rfl];done)
   have Bv3:Below w.heap.size w v3:=Bu3.trans (hv3.mono Bu3.size)
   have Zv3:=Bv3.size
   clear ev3
   have rCv3:row v3 u2.heap.size=(aH 16 (Value.int .u8 0)).toArray:=(aA hv3 (by omega)).trans rC3
   refine hK _ _ (bS (S2:=Rws [(u3.heap.size,([.string ⟨beside.toArray⟩,.string ⟨masked.toArray⟩]).toArray),(u1.heap.size,(u8s (s.take 32)++aH sp (Value.int .u8 0)).toArray)]) ⟨rv3,by omega,Rws.grow _ _ _ (by first | (simp only[Rws];done) | (simpa only[Rws]using hSW)) hv3⟩ (fun _ h=>h.tail) (fun hS=>?_))
   clear hK K hSW
   (try simp only[Act.put,List.setIfInBounds_toArray,List.set_cons_zero,List.set_cons_succ])
   refine qc 8 (v:=?_) hS ?_ ?_
   rotate_left
   ·intro w' hS'
    simp only[Rws]at hS'
    go_simp
    with_reducible refine(lD beside masked u3.heap.size w' (by omega) (by first | exact hS'.1 | exact hS'.2.2.1) hb hm).mono ?_
    rintro e w'' ⟨rfl,hb⟩
    exact⟨_,rfl,by rfl,hb⟩
   refine qc 9 (v:=?_) hS ?_ ?_
   rotate_left
   ·intro w' hS'
    simp only[Rws]at hS'
    go_simp
    with_reducible refine(HPS.out _).mono ?_
    rintro e w'' ⟨rfl,hb⟩
    exact⟨_,rfl,by rfl,hb⟩
   refine aY (rs:=[11]) kr_ (by simp) (Rws.grow _) hS (fun u4 hu4 hSW=>?_)
   intro i hi
   obtain rfl:=List.mem_singleton.1 hi
   have rC4:row u4 (u2.heap.size)=(aH 16 (Value.int .u8 0)).toArray:=(aA hu4 (by omega)).trans rCv3
   have Zu4:=hu4.size
   have Bu4:Below w.heap.size w u4:=Bv3.trans (hu4.mono Bv3.size)
   refine wpOp_step rfl (fun K hK=>?_)
   clear hS
   go_simp
   refine hK _ _ ⟨Rws.setRow_ne _ _ hSW (by simp;(try omega)),?_⟩
   clear hK K hSW
   (try simp only[Act.put,List.setIfInBounds_toArray,List.set_cons_zero,List.set_cons_succ])
   refine aG kr_ (fun u5 hu5=>?_) _
   have rC5:row u5 (u2.heap.size)=(u8s P).toArray:=by rw[aA hu5 (by simp;omega)];simp[go_sem,rC4,hPl]
   have Zu5:=hu5.size
   have Bu5:Below w.heap.size w u5:=(Below.setRow Bu4 (show w.heap.size<=u2.heap.size by omega) _).trans (hu5.mono (by simp;omega))
   clear rC4 hu5
   go_wp2_with fail
   go_ret2
   exact⟨by rw[HT.out];rfl,Bu5⟩
 ·skip
  refine wpOp_step rfl (fun K hK=>?_)
  simp only[Rws]at hSW
  clear hS
  go_simp
  obtain⟨v1,ev1⟩:∃v,(u1.alloc (.cells ([.string ⟨beside.toArray⟩,.string ⟨masked.toArray⟩]).toArray 9))=v:=⟨_,rfl⟩
  rw[ev1]
  have hv1:Below u1.heap.size u1 v1:=by rw[<-ev1];exact eD
  have zv1:v1.heap.size=u1.heap.size+1:=by rw[<-ev1];simp
  have rv1:row v1 u1.heap.size=([.string ⟨beside.toArray⟩,.string ⟨masked.toArray⟩]).toArray:=by rw[<-ev1];first | (rw[dI,bF _ _ _ _ _ (by simp) (by first | (simp;done) | (simp;omega))];done) | (rw[aE _ _ _ rfl];done)
  have Bv1:Below w.heap.size w v1:=Bu1.trans (hv1.mono Bu1.size)
  have Zv1:=Bv1.size
  clear ev1
  refine hK _ _ (bS (S2:=Rws [(u1.heap.size,([.string ⟨beside.toArray⟩,.string ⟨masked.toArray⟩]).toArray)]) ⟨rv1,by omega,Rws.grow _ _ _ (by first | (simp only[Rws];done) | (simpa only[Rws]using hSW)) hv1⟩ (fun _ h=>h.tail) (fun hS=>?_))
  clear hK K hSW
  (try simp only[Act.put,List.setIfInBounds_toArray,List.set_cons_zero,List.set_cons_succ])
  refine qc 8 (v:=?_) hS ?_ ?_
  rotate_left
  ·intro w' hS'
   simp only[Rws]at hS'
   go_simp
   with_reducible refine(lD beside masked u1.heap.size w' (by omega) (by first | exact hS'.1 | exact hS'.2.2.1) hb hm).mono ?_
   rintro e w'' ⟨rfl,hb⟩
   exact⟨_,rfl,by rfl,hb⟩
  refine aY (rs:=[2,10]) kr_ (by simp) (Rws.grow _) hS (fun u2 hu2 hSW=>?_)
  intro i hi
  simp only[List.mem_cons,List.not_mem_nil,or_false]at hi
  have Bu2:Below w.heap.size w u2:=Bv1.trans (hu2.mono Bv1.size)
  have Zu2:=hu2.size
  have ZB2:=Bu2.size
  rcases hi with rfl | rfl
  ·skip
   refine wpOp_step rfl (fun K hK=>?_)
   simp only[Rws]at hSW
   clear hS
   go_simp
   obtain⟨sp,hsp⟩:∃q,eE u2 ⟨(s.take 32).toArray⟩ 5=q:=⟨_,rfl⟩
   rw[hsp]
   clear hsp
   obtain⟨v2,ev2⟩:∃v,((u2.alloc (.cells (u8s (s.take 32)++aH sp (Value.int .u8 0)).toArray 5 (32+sp,32+sp+1))).drew)=v:=⟨_,rfl⟩
   rw[ev2]
   have hv2:Below u2.heap.size u2 v2:=by rw[<-ev2];exact eD
   have zv2:v2.heap.size=u2.heap.size+1:=by rw[<-ev2];simp
   have rv2:row v2 u2.heap.size=(u8s (s.take 32)++aH sp (Value.int .u8 0)).toArray:=by rw[<-ev2];first | (rw[dI,bF _ _ _ _ _ (by simp) (by first | (simp;done) | (simp;omega))];done) | (rw[aE _ _ _ rfl];done)
   have Bv2:Below w.heap.size w v2:=Bu2.trans (hv2.mono Bu2.size)
   have Zv2:=Bv2.size
   clear ev2
   refine hK _ _ (bS (S2:=Rws [(u2.heap.size,(u8s (s.take 32)++aH sp (Value.int .u8 0)).toArray),(u1.heap.size,([.string ⟨beside.toArray⟩,.string ⟨masked.toArray⟩]).toArray)]) ⟨rv2,by omega,Rws.grow _ _ _ (by first | (simp only[Rws];done) | (simpa only[Rws]using hSW)) hv2⟩ (fun _ h=>h.tail) (fun hS=>?_))
   clear hK K hSW
   (try simp only[Act.put,List.setIfInBounds_toArray,List.set_cons_zero,List.set_cons_succ])
   refine qp 3 hS ?_
   refine qp 4 hS ?_
   refine qc 9 (v:=?_) hS ?_ ?_
   rotate_left
   ·intro w' hS'
    simp only[Rws]at hS'
    go_simp
    with_reducible refine(HPS.out _).mono ?_
    rintro e w'' ⟨rfl,hb⟩
    exact⟨_,rfl,by rfl,hb⟩
   refine aY (rs:=[10]) kr_ (by simp) (Rws.grow _) hS (fun u3 hu3 hSW=>?_)
   intro i hi
   simp only[List.mem_cons,List.not_mem_nil,or_false]at hi
   have Bu3:Below w.heap.size w u3:=Bv2.trans (hu3.mono Bv2.size)
   have Zu3:=hu3.size
   have ZB3:=Bu3.size
   obtain rfl:=hi
   refine wpOp_step rfl (fun K hK=>?_)
   simp only[Rws]at hSW
   clear hS
   go_simp
   obtain⟨v3,ev3⟩:∃v,(u3.alloc (.cells (aH 16 (Value.int .u8 0)).toArray 261))=v:=⟨_,rfl⟩
   rw[ev3]
   have hv3:Below u3.heap.size u3 v3:=by rw[<-ev3];exact eD
   have zv3:v3.heap.size=u3.heap.size+1:=by rw[<-ev3];simp
   have rv3:row v3 u3.heap.size=(aH 16 (Value.int .u8 0)).toArray:=by rw[<-ev3];first | (rw[dI,bF _ _ _ _ _ (by simp) (by first | (simp;done) | (simp;omega))];done) | (rw[aE _ _ _ rfl];done)
   have Bv3:Below w.heap.size w v3:=Bu3.trans (hv3.mono Bu3.size)
   have Zv3:=Bv3.size
   clear ev3
   refine hK _ _ ⟨Rws.grow _ _ _ (by first | (simp only[Rws];done) | (simpa only[Rws]using hSW)) hv3,?_⟩
   have hS:=Rws.grow _ _ _ (show Rws [(u2.heap.size,(u8s (s.take 32)++aH sp (Value.int .u8 0)).toArray),(u1.heap.size,([.string ⟨beside.toArray⟩,.string ⟨masked.toArray⟩]).toArray)] u3 from by first | (simp only[Rws];done) | (simpa only[Rws]using hSW)) hv3
   clear hK K hSW
   (try simp only[Act.put,List.setIfInBounds_toArray,List.set_cons_zero,List.set_cons_succ])
   refine aY (rs:=[11]) kr_ (by simp) (Rws.grow _) hS (fun u4 hu4 hSW=>?_)
   intro i hi
   obtain rfl:=List.mem_singleton.1 hi
   have rC4:row u4 (u3.heap.size)=(aH 16 (Value.int .u8 0)).toArray:=(aA hu4 (by omega)).trans rv3
   have Zu4:=hu4.size
   have Bu4:Below w.heap.size w u4:=Bv3.trans (hu4.mono Bv3.size)
   refine wpOp_step rfl (fun K hK=>?_)
   clear hS
   go_simp
   refine hK _ _ ⟨Rws.setRow_ne _ _ hSW (by simp;(try omega)),?_⟩
   clear hK K hSW
   (try simp only[Act.put,List.setIfInBounds_toArray,List.set_cons_zero,List.set_cons_succ])
   refine aG kr_ (fun u5 hu5=>?_) _
   have rC5:row u5 (u3.heap.size)=(u8s P).toArray:=by rw[aA hu5 (by simp;omega)];simp[go_sem,rC4,hPl]
   have Zu5:=hu5.size
   have Bu5:Below w.heap.size w u5:=(Below.setRow Bu4 (show w.heap.size<=u3.heap.size by omega) _).trans (hu5.mono (by simp;omega))
   clear rC4 hu5
   go_wp2_with fail
   go_ret2
   exact⟨by rw[HT.out];rfl,Bu5⟩
  ·skip
   refine wpOp_step rfl (fun K hK=>?_)
   simp only[Rws]at hSW
   clear hS
   go_simp
   obtain⟨v2,ev2⟩:∃v,(u2.alloc (.cells (aH 16 (Value.int .u8 0)).toArray 261))=v:=⟨_,rfl⟩
   rw[ev2]
   have hv2:Below u2.heap.size u2 v2:=by rw[<-ev2];exact eD
   have zv2:v2.heap.size=u2.heap.size+1:=by rw[<-ev2];simp
   have rv2:row v2 u2.heap.size=(aH 16 (Value.int .u8 0)).toArray:=by rw[<-ev2];first | (rw[dI,bF _ _ _ _ _ (by simp) (by first | (simp;done) | (simp;omega))];done) | (rw[aE _ _ _ rfl];done)
   have Bv2:Below w.heap.size w v2:=Bu2.trans (hv2.mono Bu2.size)
   have Zv2:=Bv2.size
   clear ev2
   refine hK _ _ ⟨Rws.grow _ _ _ (by first | (simp only[Rws];done) | (simpa only[Rws]using hSW)) hv2,?_⟩
   have hS:=Rws.grow _ _ _ (show Rws [(u1.heap.size,([.string ⟨beside.toArray⟩,.string ⟨masked.toArray⟩]).toArray)] u2 from by first | (simp only[Rws];done) | (simpa only[Rws]using hSW)) hv2
   clear hK K hSW
   (try simp only[Act.put,List.setIfInBounds_toArray,List.set_cons_zero,List.set_cons_succ])
   refine aY (rs:=[2]) kr_ (by simp) (Rws.grow _) hS (fun u3 hu3 hSW=>?_)
   intro i hi
   simp only[List.mem_cons,List.not_mem_nil,or_false]at hi
   have Bu3:Below w.heap.size w u3:=Bv2.trans (hu3.mono Bv2.size)
   have Zu3:=hu3.size
   have ZB3:=Bu3.size
   have rC3:row u3 u2.heap.size=(aH 16 (Value.int .u8 0)).toArray:=(aA hu3 (by omega)).trans rv2
   obtain rfl:=hi
   refine wpOp_step rfl (fun K hK=>?_)
   simp only[Rws]at hSW
   clear hS
   go_simp
   obtain⟨sp,hsp⟩:∃q,eE u3 ⟨(s.take 32).toArray⟩ 5=q:=⟨_,rfl⟩
   rw[hsp]
   clear hsp
   obtain⟨v3,ev3⟩:∃v,((u3.alloc (.cells (u8s (s.take 32)++aH sp (Value.int .u8 0)).toArray 5 (32+sp,32+sp+1))).drew)=v:=⟨_,rfl⟩
   rw[ev3]
   have hv3:Below u3.heap.size u3 v3:=by rw[<-ev3];exact eD
   have zv3:v3.heap.size=u3.heap.size+1:=by rw[<-ev3];simp
   have rv3:row v3 u3.heap.size=(u8s (s.take 32)++aH sp (Value.int .u8 0)).toArray:=by rw[<-ev3];first | (rw[dI,bF _ _ _ _ _ (by simp) (by first | (simp;done) | (simp;omega))];done) | (rw[aE _ _ _ rfl];done)
   have Bv3:Below w.heap.size w v3:=Bu3.trans (hv3.mono Bu3.size)
   have Zv3:=Bv3.size
   clear ev3
   have rCv3:row v3 u2.heap.size=(aH 16 (Value.int .u8 0)).toArray:=(aA hv3 (by omega)).trans rC3
   refine hK _ _ (bS (S2:=Rws [(u3.heap.size,(u8s (s.take 32)++aH sp (Value.int .u8 0)).toArray),(u1.heap.size,([.string ⟨beside.toArray⟩,.string ⟨masked.toArray⟩]).toArray)]) ⟨rv3,by omega,Rws.grow _ _ _ (by first | (simp only[Rws];done) | (simpa only[Rws]using hSW)) hv3⟩ (fun _ h=>h.tail) (fun hS=>?_))
   clear hK K hSW
   (try simp only[Act.put,List.setIfInBounds_toArray,List.set_cons_zero,List.set_cons_succ])
   refine qp 3 hS ?_
   refine qp 4 hS ?_
   refine qc 9 (v:=?_) hS ?_ ?_
   rotate_left
   ·intro w' hS'
    simp only[Rws]at hS'
    go_simp
    with_reducible refine(HPS.out _).mono ?_
    rintro e w'' ⟨rfl,hb⟩
    exact⟨_,rfl,by rfl,hb⟩
   refine aY (rs:=[11]) kr_ (by simp) (Rws.grow _) hS (fun u4 hu4 hSW=>?_)
   intro i hi
   obtain rfl:=List.mem_singleton.1 hi
   have rC4:row u4 (u2.heap.size)=(aH 16 (Value.int .u8 0)).toArray:=(aA hu4 (by omega)).trans rCv3
   have Zu4:=hu4.size
   have Bu4:Below w.heap.size w u4:=Bv3.trans (hu4.mono Bv3.size)
   refine wpOp_step rfl (fun K hK=>?_)
   clear hS
   go_simp
   refine hK _ _ ⟨Rws.setRow_ne _ _ hSW (by simp;(try omega)),?_⟩
   clear hK K hSW
   (try simp only[Act.put,List.setIfInBounds_toArray,List.set_cons_zero,List.set_cons_succ])
   refine aG kr_ (fun u5 hu5=>?_) _
   have rC5:row u5 (u2.heap.size)=(u8s P).toArray:=by rw[aA hu5 (by simp;omega)];simp[go_sem,rC4,hPl]
   have Zu5:=hu5.size
   have Bu5:Below w.heap.size w u5:=(Below.setRow Bu4 (show w.heap.size<=u2.heap.size by omega) _).trans (hu5.mono (by simp;omega))
   clear rC4 hu5
   go_wp2_with fail
   go_ret2
   exact⟨by rw[HT.out];rfl,Bu5⟩
 ·skip
  refine wpOp_step rfl (fun K hK=>?_)
  simp only[Rws]at hSW
  clear hS
  go_simp
  obtain⟨v1,ev1⟩:∃v,(u1.alloc (.cells (aH 16 (Value.int .u8 0)).toArray 261))=v:=⟨_,rfl⟩
  rw[ev1]
  have hv1:Below u1.heap.size u1 v1:=by rw[<-ev1];exact eD
  have zv1:v1.heap.size=u1.heap.size+1:=by rw[<-ev1];simp
  have rv1:row v1 u1.heap.size=(aH 16 (Value.int .u8 0)).toArray:=by rw[<-ev1];first | (rw[dI,bF _ _ _ _ _ (by simp) (by first | (simp;done) | (simp;omega))];done) | (rw[aE _ _ _ rfl];done)
  have Bv1:Below w.heap.size w v1:=Bu1.trans (hv1.mono Bu1.size)
  have Zv1:=Bv1.size
  clear ev1
  refine hK _ _ ⟨Rws.grow _ _ _ (by first | (simp only[Rws];done) | (simpa only[Rws]using hSW)) hv1,?_⟩
  have hS:=Rws.grow _ _ _ (show Rws [] u1 from by first | (simp only[Rws];done) | (simpa only[Rws]using hSW)) hv1
  clear hK K hSW
  (try simp only[Act.put,List.setIfInBounds_toArray,List.set_cons_zero,List.set_cons_succ])
  refine aY (rs:=[2,7]) kr_ (by simp) (Rws.grow _) hS (fun u2 hu2 hSW=>?_)
  intro i hi
  simp only[List.mem_cons,List.not_mem_nil,or_false]at hi
  have Bu2:Below w.heap.size w u2:=Bv1.trans (hu2.mono Bv1.size)
  have Zu2:=hu2.size
  have ZB2:=Bu2.size
  have rC2:row u2 u1.heap.size=(aH 16 (Value.int .u8 0)).toArray:=(aA hu2 (by omega)).trans rv1
  rcases hi with rfl | rfl
  ·skip
   refine wpOp_step rfl (fun K hK=>?_)
   simp only[Rws]at hSW
   clear hS
   go_simp
   obtain⟨sp,hsp⟩:∃q,eE u2 ⟨(s.take 32).toArray⟩ 5=q:=⟨_,rfl⟩
   rw[hsp]
   clear hsp
   obtain⟨v2,ev2⟩:∃v,((u2.alloc (.cells (u8s (s.take 32)++aH sp (Value.int .u8 0)).toArray 5 (32+sp,32+sp+1))).drew)=v:=⟨_,rfl⟩
   rw[ev2]
   have hv2:Below u2.heap.size u2 v2:=by rw[<-ev2];exact eD
   have zv2:v2.heap.size=u2.heap.size+1:=by rw[<-ev2];simp
   have rv2:row v2 u2.heap.size=(u8s (s.take 32)++aH sp (Value.int .u8 0)).toArray:=by rw[<-ev2];first | (rw[dI,bF _ _ _ _ _ (by simp) (by first | (simp;done) | (simp;omega))];done) | (rw[aE _ _ _ rfl];done)
   have Bv2:Below w.heap.size w v2:=Bu2.trans (hv2.mono Bu2.size)
   have Zv2:=Bv2.size
   clear ev2
   have rCv2:row v2 u1.heap.size=(aH 16 (Value.int .u8 0)).toArray:=(aA hv2 (by omega)).trans rC2
   refine hK _ _ (bS (S2:=Rws [(u2.heap.size,(u8s (s.take 32)++aH sp (Value.int .u8 0)).toArray)]) ⟨rv2,by omega,Rws.grow _ _ _ (by first | (simp only[Rws];done) | (simpa only[Rws]using hSW)) hv2⟩ (fun _ h=>h.tail) (fun hS=>?_))
   clear hK K hSW
   (try simp only[Act.put,List.setIfInBounds_toArray,List.set_cons_zero,List.set_cons_succ])
   refine qp 3 hS ?_
   refine qp 4 hS ?_
   refine aY (rs:=[7]) kr_ (by simp) (Rws.grow _) hS (fun u3 hu3 hSW=>?_)
   intro i hi
   simp only[List.mem_cons,List.not_mem_nil,or_false]at hi
   have Bu3:Below w.heap.size w u3:=Bv2.trans (hu3.mono Bv2.size)
   have Zu3:=hu3.size
   have ZB3:=Bu3.size
   have rC3:row u3 u1.heap.size=(aH 16 (Value.int .u8 0)).toArray:=(aA hu3 (by omega)).trans rCv2
   obtain rfl:=hi
   refine wpOp_step rfl (fun K hK=>?_)
   simp only[Rws]at hSW
   clear hS
   go_simp
   obtain⟨v3,ev3⟩:∃v,(u3.alloc (.cells ([.string ⟨beside.toArray⟩,.string ⟨masked.toArray⟩]).toArray 9))=v:=⟨_,rfl⟩
   rw[ev3]
   have hv3:Below u3.heap.size u3 v3:=by rw[<-ev3];exact eD
   have zv3:v3.heap.size=u3.heap.size+1:=by rw[<-ev3];simp
   have rv3:row v3 u3.heap.size=([.string ⟨beside.toArray⟩,.string ⟨masked.toArray⟩]).toArray:=by rw[<-ev3];first | (rw[dI,bF _ _ _ _ _ (by simp) (by first | (simp;done) | (simp;omega))];done) | (rw[aE _ _ _ rfl];done)
   have Bv3:Below w.heap.size w v3:=Bu3.trans (hv3.mono Bu3.size)
   have Zv3:=Bv3.size
   clear ev3
   have rCv3:row v3 u1.heap.size=(aH 16 (Value.int .u8 0)).toArray:=(aA hv3 (by omega)).trans rC3
   refine hK _ _ (bS (S2:=Rws [(u3.heap.size,([.string ⟨beside.toArray⟩,.string ⟨masked.toArray⟩]).toArray),(u2.heap.size,(u8s (s.take 32)++aH sp (Value.int .u8 0)).toArray)]) ⟨rv3,by omega,Rws.grow _ _ _ (by first | (simp only[Rws];done) | (simpa only[Rws]using hSW)) hv3⟩ (fun _ h=>h.tail) (fun hS=>?_))
   clear hK K hSW
   (try simp only[Act.put,List.setIfInBounds_toArray,List.set_cons_zero,List.set_cons_succ])
   refine qc 8 (v:=?_) hS ?_ ?_
   rotate_left
   ·intro w' hS'
    simp only[Rws]at hS'
    go_simp
    with_reducible refine(lD beside masked u3.heap.size w' (by omega) (by first | exact hS'.1 | exact hS'.2.2.1) hb hm).mono ?_
    rintro e w'' ⟨rfl,hb⟩
    exact⟨_,rfl,by rfl,hb⟩
   refine qc 9 (v:=?_) hS ?_ ?_
   rotate_left
   ·intro w' hS'
    simp only[Rws]at hS'
    go_simp
    with_reducible refine(HPS.out _).mono ?_
    rintro e w'' ⟨rfl,hb⟩
    exact⟨_,rfl,by rfl,hb⟩
   refine aY (rs:=[11]) kr_ (by simp) (Rws.grow _) hS (fun u4 hu4 hSW=>?_)
   intro i hi
   obtain rfl:=List.mem_singleton.1 hi
   have rC4:row u4 (u1.heap.size)=(aH 16 (Value.int .u8 0)).toArray:=(aA hu4 (by omega)).trans rCv3
   have Zu4:=hu4.size
   have Bu4:Below w.heap.size w u4:=Bv3.trans (hu4.mono Bv3.size)
   refine wpOp_step rfl (fun K hK=>?_)
   clear hS
   go_simp
   refine hK _ _ ⟨Rws.setRow_ne _ _ hSW (by simp;(try omega)),?_⟩
   clear hK K hSW
   (try simp only[Act.put,List.setIfInBounds_toArray,List.set_cons_zero,List.set_cons_succ])
   refine aG kr_ (fun u5 hu5=>?_) _
   have rC5:row u5 (u1.heap.size)=(u8s P).toArray:=by rw[aA hu5 (by simp;omega)];simp[go_sem,rC4,hPl]
   have Zu5:=hu5.size
   have Bu5:Below w.heap.size w u5:=(Below.setRow Bu4 (show w.heap.size<=u1.heap.size by omega) _).trans (hu5.mono (by simp;omega))
   clear rC4 hu5
   go_wp2_with fail
   go_ret2
   exact⟨by rw[HT.out];rfl,Bu5⟩
  ·skip
   refine wpOp_step rfl (fun K hK=>?_)
   simp only[Rws]at hSW
   clear hS
   go_simp
   obtain⟨v2,ev2⟩:∃v,(u2.alloc (.cells ([.string ⟨beside.toArray⟩,.string ⟨masked.toArray⟩]).toArray 9))=v:=⟨_,rfl⟩
   rw[ev2]
   have hv2:Below u2.heap.size u2 v2:=by rw[<-ev2];exact eD
   have zv2:v2.heap.size=u2.heap.size+1:=by rw[<-ev2];simp
   have rv2:row v2 u2.heap.size=([.string ⟨beside.toArray⟩,.string ⟨masked.toArray⟩]).toArray:=by rw[<-ev2];first | (rw[dI,bF _ _ _ _ _ (by simp) (by first | (simp;done) | (simp;omega))];done) | (rw[aE _ _ _ rfl];done)
   have Bv2:Below w.heap.size w v2:=Bu2.trans (hv2.mono Bu2.size)
   have Zv2:=Bv2.size
   clear ev2
   have rCv2:row v2 u1.heap.size=(aH 16 (Value.int .u8 0)).toArray:=(aA hv2 (by omega)).trans rC2
   refine hK _ _ (bS (S2:=Rws [(u2.heap.size,([.string ⟨beside.toArray⟩,.string ⟨masked.toArray⟩]).toArray)]) ⟨rv2,by omega,Rws.grow _ _ _ (by first | (simp only[Rws];done) | (simpa only[Rws]using hSW)) hv2⟩ (fun _ h=>h.tail) (fun hS=>?_))
   clear hK K hSW
   (try simp only[Act.put,List.setIfInBounds_toArray,List.set_cons_zero,List.set_cons_succ])
   refine qc 8 (v:=?_) hS ?_ ?_
   rotate_left
   ·intro w' hS'
    simp only[Rws]at hS'
    go_simp
    with_reducible refine(lD beside masked u2.heap.size w' (by omega) (by first | exact hS'.1 | exact hS'.2.2.1) hb hm).mono ?_
    rintro e w'' ⟨rfl,hb⟩
    exact⟨_,rfl,by rfl,hb⟩
   refine aY (rs:=[2]) kr_ (by simp) (Rws.grow _) hS (fun u3 hu3 hSW=>?_)
   intro i hi
   simp only[List.mem_cons,List.not_mem_nil,or_false]at hi
   have Bu3:Below w.heap.size w u3:=Bv2.trans (hu3.mono Bv2.size)
   have Zu3:=hu3.size
   have ZB3:=Bu3.size
   have rC3:row u3 u1.heap.size=(aH 16 (Value.int .u8 0)).toArray:=(aA hu3 (by omega)).trans rCv2
   obtain rfl:=hi
   refine wpOp_step rfl (fun K hK=>?_)
   simp only[Rws]at hSW
   clear hS
   go_simp
   obtain⟨sp,hsp⟩:∃q,eE u3 ⟨(s.take 32).toArray⟩ 5=q:=⟨_,rfl⟩
   rw[hsp]
   clear hsp
   obtain⟨v3,ev3⟩:∃v,((u3.alloc (.cells (u8s (s.take 32)++aH sp (Value.int .u8 0)).toArray 5 (32+sp,32+sp+1))).drew)=v:=⟨_,rfl⟩
   rw[ev3]
   have hv3:Below u3.heap.size u3 v3:=by rw[<-ev3];exact eD
   have zv3:v3.heap.size=u3.heap.size+1:=by rw[<-ev3];simp
   have rv3:row v3 u3.heap.size=(u8s (s.take 32)++aH sp (Value.int .u8 0)).toArray:=by rw[<-ev3];first | (rw[dI,bF _ _ _ _ _ (by simp) (by first | (simp;done) | (simp;omega))];done) | (rw[aE _ _ _ rfl];done)
   have Bv3:Below w.heap.size w v3:=Bu3.trans (hv3.mono Bu3.size)
   have Zv3:=Bv3.size
   clear ev3
   have rCv3:row v3 u1.heap.size=(aH 16 (Value.int .u8 0)).toArray:=(aA hv3 (by omega)).trans rC3
   refine hK _ _ (bS (S2:=Rws [(u3.heap.size,(u8s (s.take 32)++aH sp (Value.int .u8 0)).toArray),(u2.heap.size,([.string ⟨beside.toArray⟩,.string ⟨masked.toArray⟩]).toArray)]) ⟨rv3,by omega,Rws.grow _ _ _ (by first | (simp only[Rws];done) | (simpa only[Rws]using hSW)) hv3⟩ (fun _ h=>h.tail) (fun hS=>?_))
   clear hK K hSW
   (try simp only[Act.put,List.setIfInBounds_toArray,List.set_cons_zero,List.set_cons_succ])
   refine qp 3 hS ?_
   refine qp 4 hS ?_
   refine qc 9 (v:=?_) hS ?_ ?_
   rotate_left
   ·intro w' hS'
    simp only[Rws]at hS'
    go_simp
    with_reducible refine(HPS.out _).mono ?_
    rintro e w'' ⟨rfl,hb⟩
    exact⟨_,rfl,by rfl,hb⟩
   refine aY (rs:=[11]) kr_ (by simp) (Rws.grow _) hS (fun u4 hu4 hSW=>?_)
   intro i hi
   obtain rfl:=List.mem_singleton.1 hi
   have rC4:row u4 (u1.heap.size)=(aH 16 (Value.int .u8 0)).toArray:=(aA hu4 (by omega)).trans rCv3
   have Zu4:=hu4.size
   have Bu4:Below w.heap.size w u4:=Bv3.trans (hu4.mono Bv3.size)
   refine wpOp_step rfl (fun K hK=>?_)
   clear hS
   go_simp
   refine hK _ _ ⟨Rws.setRow_ne _ _ hSW (by simp;(try omega)),?_⟩
   clear hK K hSW
   (try simp only[Act.put,List.setIfInBounds_toArray,List.set_cons_zero,List.set_cons_succ])
   refine aG kr_ (fun u5 hu5=>?_) _
   have rC5:row u5 (u1.heap.size)=(u8s P).toArray:=by rw[aA hu5 (by simp;omega)];simp[go_sem,rC4,hPl]
   have Zu5:=hu5.size
   have Bu5:Below w.heap.size w u5:=(Below.setRow Bu4 (show w.heap.size<=u1.heap.size by omega) _).trans (hu5.mono (by simp;omega))
   clear rC4 hu5
   go_wp2_with fail
   go_ret2
   exact⟨by rw[HT.out];rfl,Bu5⟩
end
section
open Go.RowKit
theorem qV (k:List UInt8) (count:Int) (nonce l:List UInt8):(kV k count nonce l).length=l.length:=lY ..
def uW (k nonce beside s:List UInt8):List UInt8:=kV k 1 nonce s++aHs k nonce beside (kV k 1 nonce s)
theorem aJj (k nonce beside s:List UInt8) (w:World) (hk:k.length=32) (hn:nonce.length=12) (hb:beside.length<=20000) (hs:s.length<=20000):
  Calls Tryz.prog 115 #[.agg (u8s k).toArray,.string ⟨nonce.toArray⟩,.string ⟨beside.toArray⟩,.string ⟨s.toArray⟩] w fun e w'=>e=.returned (.tuple #[.string ⟨(uW k nonce beside s).toArray⟩,.int .i64 0])/\Below w.heap.size w w':=by
 have hml:(kV k 1 nonce s).length<=20000:=by rw[qV];exact hs
 have HS:=h_ (fun w=>aIO k 1 nonce s w hk hn (by omega))
 have HT:=h_ (fun w=>aKQ k nonce beside (kV k 1 nonce s) w hk hn hb hml)
 obtain⟨m,em⟩:∃m,kV k 1 nonce s=m:=⟨_,rfl⟩
 obtain⟨t,et⟩:∃t,aHs k nonce beside (kV k 1 nonce s)=t:=⟨_,rfl⟩
 have e:uW k nonce beside s=m++t:=by rw[uW,et,em]
 rw[e]
 rw[et]at HT
 have htl:t.length=16:=by rw[<-et];exact uV _ _ _ _
 rw[em]at HS HT hml
 have hml2:(m.length:Int)<=20000:=by omega
 have hsum:m.length+t.length<=20016:=by omega
 clear e et em
 go_enter Tryz.func115,Tryz.ntmps115
 go_wp2_with fail
 (with_reducible refine(HS.out _).mono ?_)
 rintro e w1 ⟨rfl,b1⟩
 have r1:row w1 w.heap.size=(u8s k).toArray:=by rw[aA b1 (by simp)];simp[go_sem]
 go_wp2_with fail
 (with_reducible refine(HT.out _).mono ?_)
 rintro e w2 ⟨rfl,b2⟩
 go_wp2_with fail
 go_ret2
 exact⟨rfl,Below.trans eD (Below.trans (b1.mono (by simp)) (b2.mono (by have:=b1.size;simp at this;omega)))⟩
end
end Go.Proofs.YtiagbbknkdgmeaaGreat
