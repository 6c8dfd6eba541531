/- Texts of this proof, merged: NdO, NdF, NdM, NdX3, NdX4, NdX2, NdX5, NdZ, NdK. -/
import Derived.Test.YtiagbbknkdgmeaaGreatJ45
import Derived.Test.YtiagbbknkdgmeaaGreatRegJ
import Derived.Test.YtiagbbknkdgmeaaGreatJ3
set_option linter.unusedSimpArgs false
set_option linter.unusedVariables false
set_option maxHeartbeats 8000000
set_option maxRecDepth 20000
namespace Go.Proofs.YtiagbbknkdgmeaaGreat
section
open Go.RowKit
def sC (fr to:Vector UInt8 16) (m:List UInt8) (sm:Nat):List UInt8:=[96,0,0,0]++(bJ m.length 2++([58,255]++(fr.toList++(to.toList++(m.take 2++(bJ sm 2++m.drop 4))))))
def ndS (op:Nat) (fr to ab:Vector UInt8 16) (mac:Vector UInt8 6) (has:Bool) (fl:Vector UInt8 4):List UInt8:=
 sC fr to (kB op [0,0] ab mac has fl) (iF op fr to ab mac has fl)
@[simp, go_sem] theorem aNo : aH 6 (Value.int .u8 0) = u8v cF := rfl
theorem aK6 (fr to ab:Vector UInt8 16) (mac:Vector UInt8 6) (fl:Vector UInt8 4) (w:World):
  Calls Tryz.prog 164 #[.agg (ndV 1 fr to ab mac true fl).toArray] w fun e w'=>e=.returned (.tuple #[.string ⟨(ndS 1 fr to ab mac true fl).toArray⟩,.int .i64 0])/\Below w.heap.size w w':=by
 have Hm:=vH fr to ab mac true fl
 have Hs:=lF fr to ab mac true fl
 obtain⟨m,hm⟩:∃m,kB 1 [0,0] ab mac true fl=m:=⟨_,rfl⟩
 have hml:m.length=32:=by rw[<-hm,iE];rfl
 have hS:ndS 1 fr to ab mac true fl=sC fr to m (iF 1 fr to ab mac true fl):=by rw[ndS,hm]
 have hsm:iF 1 fr to ab mac true fl<=65535:=by unfold iF aB1;omega
 obtain⟨sm,hsm2⟩:∃s,iF 1 fr to ab mac true fl=s:=⟨_,rfl⟩
 rw[hm]at Hm
 rw[hsm2]at hS Hs hsm
 have HPS:=h_ hS
 have HL2:=h_ (fun w=>fW (m.length:Int) w (by omega) (by omega))
 have HX2:=h_ (fun w=>fW (sm:Int) w (by omega) (by omega))
 rw[Int.toNat_natCast]at HL2 HX2
 unfold ndV at Hm Hs
 have HM:=h_ Hm
 have HS:=h_ Hs
 have hmI:(m.length:Int)<=32:=by omega
 have hmI4:(4:Int)<=(m.length:Int):=by omega
 have hmI2:(2:Int)<=(m.length:Int):=by omega
 have hm2:min 2 m.length=2:=by omega
 have hm7:¬9223372036854775807<44+(m.length - 4):=by omega
 have HML:=h_ hml
 clear Hm Hs hm hsm2 hS hml
 unfold ndV
 go_enter Tryz.func164,Tryz.ntmps164
 go_wp2_with fail
 refine(HM.out _).mono ?_
 rintro e w1 ⟨rfl,hb1⟩
 have z1:=(hb1).size
 try simp at z1
 have ra:row w1 (w.heap.size)=(.int .i64 1::(u8v fr++(u8v to++(u8v ab++(u8v mac++(.bool true::u8v fl)))))).toArray:=by rw[aA hb1 (by first | (simp;done) | (simp;omega) | omega)];simp[go_sem];(try rfl)
 replace hb1:=cJ hb1 (show Below (w).heap.size w _ from by(repeat (first | exact Below.refl _ _ | refine Below.al ?_ _ | refine Below.drew ?_ | refine Below.sr ?_ _ | refine Below.sc ?_ _))) (by first | (simp;done) | (simp;omega) | omega)
 have bb1:=hb1
 clear hb1
 go_wp2_with fail
 refine jY [(w.heap.size,(.int .i64 1::(u8v fr++(u8v to++(u8v ab++(u8v mac++(.bool true::u8v fl)))))).toArray)] (fun hS=>?_)
 refine qp 2 hS ?_
 refine qp 3 hS ?_
 refine qp 9 hS ?_
 refine qp 10 hS ?_
 refine qp 11 hS ?_
 refine qp 13 hS ?_
 refine qp 14 hS ?_
 refine qp 15 hS ?_
 refine qp 17 hS ?_
 refine qp 18 hS ?_
 refine qp 20 hS ?_
 refine qp 24 hS ?_
 refine qp 25 hS ?_
 refine qc 4 (v:=?_) hS ?_ ?_
 rotate_left
 ·intro w' hS'
  simp only[Rws]at hS'
  go_simp
  with_reducible refine(HL2.out _).mono ?_
  rintro e w'' ⟨rfl,hb⟩
  exact⟨_,rfl,by rfl,hb⟩
 refine qc 21 (v:=?_) hS ?_ ?_
 rotate_left
 ·intro w' hS'
  simp only[Rws]at hS'
  go_simp
  with_reducible refine(HS.out _).mono ?_
  rintro e w'' ⟨rfl,hb⟩
  exact⟨_,rfl,by rfl,hb⟩
 refine qc 22 (v:=?_) hS ?_ ?_
 rotate_left
 ·intro w' hS'
  simp only[Rws]at hS'
  go_simp
  with_reducible refine(HX2.out _).mono ?_
  rintro e w'' ⟨rfl,hb⟩
  exact⟨_,rfl,by rfl,hb⟩
 have zd:w1.drew.heap.size=w1.heap.size:=rfl
 refine aY (rs:=[0,6]) kr_ (by simp) (Rws.grow _) hS (fun u1 hu1 hSW=>?_)
 intro i hi
 have zu1:=hu1.size
 simp only[List.mem_cons,List.not_mem_nil,or_false]at hi
 rcases hi with rfl | rfl
 ·skip
  refine wpOp_step rfl (fun K hK=>?_)
  clear hS
  go_simp
  obtain⟨u2,ev⟩:∃x,(u1).alloc (.cells (u8s [96,0,0,0]).toArray 5)=x:=⟨_,rfl⟩
  have hu2:Below (u1).heap.size u1 u2:=by rw[<-ev];exact ba_
  have zu2:(u2).heap.size=(u1).heap.size+1:=by rw[<-ev];exact aF _ _
  have ru2:row u2 (u1).heap.size=(u8s [96,0,0,0]).toArray:=by rw[<-ev];exact aE _ _ _ rfl
  try rw[show(#[Value.int .u8 96,Value.int .u8 0,Value.int .u8 0,Value.int .u8 0]:Array Value)=(u8s [96,0,0,0]).toArray from rfl]
  rw[ev]
  have hSn:=Rws.grow _ _ _ hSW hu2
  clear ev
  refine hK _ _ (bS (S2:=Rws [((u1).heap.size,(u8s [96,0,0,0]).toArray),(w.heap.size,(.int .i64 1::(u8v fr++(u8v to++(u8v ab++(u8v mac++(.bool true::u8v fl)))))).toArray)]) ⟨ru2,by omega,hSn⟩ (fun _ h=>h.tail) (fun hS=>?_))
  clear hK K hSW hSn
  (try simp only[Act.put,List.setIfInBounds_toArray,List.set_cons_zero,List.set_cons_succ])
  refine qp 1 hS ?_
  refine qp 5 hS ?_
  refine aY (rs:=[6]) kr_ (by simp) (Rws.grow _) hS (fun u3 hu3 hSW=>?_)
  intro i hi
  have zu3:=hu3.size
  obtain rfl:=List.mem_singleton.1 hi
  refine wpOp_step rfl (fun K hK=>?_)
  clear hS
  go_simp
  obtain⟨u4,ev⟩:∃x,(u3).alloc (.cells (u8s [58,255]).toArray 5)=x:=⟨_,rfl⟩
  have hu4:Below (u3).heap.size u3 u4:=by rw[<-ev];exact ba_
  have zu4:(u4).heap.size=(u3).heap.size+1:=by rw[<-ev];exact aF _ _
  have ru4:row u4 (u3).heap.size=(u8s [58,255]).toArray:=by rw[<-ev];exact aE _ _ _ rfl
  try rw[show(#[Value.int .u8 58,Value.int .u8 255]:Array Value)=(u8s [58,255]).toArray from rfl]
  rw[ev]
  have hSn:=Rws.grow _ _ _ hSW hu4
  clear ev
  refine hK _ _ (bS (S2:=Rws [((u3).heap.size,(u8s [58,255]).toArray),(u1.heap.size,(u8s [96,0,0,0]).toArray),(w.heap.size,(.int .i64 1::(u8v fr++(u8v to++(u8v ab++(u8v mac++(.bool true::u8v fl)))))).toArray)]) ⟨ru4,by omega,hSn⟩ (fun _ h=>h.tail) (fun hS=>?_))
  clear hK K hSW hSn
  (try simp only[Act.put,List.setIfInBounds_toArray,List.set_cons_zero,List.set_cons_succ])
  refine qp 7 hS ?_
  refine qp 8 hS ?_
  refine qp 12 hS ?_
  refine qp 16 hS ?_
  refine qp 19 hS ?_
  refine qp 23 hS ?_
  refine qp 26 hS ?_
  refine qp 27 hS ?_
  refine qp 28 hS ?_
  refine aG kr_ (fun w9 h9=>?_) _
  have b9:Below w.heap.size w w9:=bb1.trans ((Below.trans (Below.drew (Below.refl _ _)) hu1).trans (hu2.trans (hu3.trans (hu4.trans (h9.mono (by omega)) |>.mono (by omega)) |>.mono (by omega)) |>.mono (by omega)) |>.mono (by omega))
  clear hS
  go_wp2_with fail
  refine bodyPost_ret (aS rfl aP aP) rfl ?_
  exact⟨by rw[HPS.out,sC];simp,b9⟩
 ·skip
  refine wpOp_step rfl (fun K hK=>?_)
  clear hS
  go_simp
  obtain⟨u2,ev⟩:∃x,(u1).alloc (.cells (u8s [58,255]).toArray 5)=x:=⟨_,rfl⟩
  have hu2:Below (u1).heap.size u1 u2:=by rw[<-ev];exact ba_
  have zu2:(u2).heap.size=(u1).heap.size+1:=by rw[<-ev];exact aF _ _
  have ru2:row u2 (u1).heap.size=(u8s [58,255]).toArray:=by rw[<-ev];exact aE _ _ _ rfl
  try rw[show(#[Value.int .u8 58,Value.int .u8 255]:Array Value)=(u8s [58,255]).toArray from rfl]
  rw[ev]
  have hSn:=Rws.grow _ _ _ hSW hu2
  clear ev
  refine hK _ _ (bS (S2:=Rws [((u1).heap.size,(u8s [58,255]).toArray),(w.heap.size,(.int .i64 1::(u8v fr++(u8v to++(u8v ab++(u8v mac++(.bool true::u8v fl)))))).toArray)]) ⟨ru2,by omega,hSn⟩ (fun _ h=>h.tail) (fun hS=>?_))
  clear hK K hSW hSn
  (try simp only[Act.put,List.setIfInBounds_toArray,List.set_cons_zero,List.set_cons_succ])
  refine qp 7 hS ?_
  refine aY (rs:=[0]) kr_ (by simp) (Rws.grow _) hS (fun u3 hu3 hSW=>?_)
  intro i hi
  have zu3:=hu3.size
  obtain rfl:=List.mem_singleton.1 hi
  refine wpOp_step rfl (fun K hK=>?_)
  clear hS
  go_simp
  obtain⟨u4,ev⟩:∃x,(u3).alloc (.cells (u8s [96,0,0,0]).toArray 5)=x:=⟨_,rfl⟩
  have hu4:Below (u3).heap.size u3 u4:=by rw[<-ev];exact ba_
  have zu4:(u4).heap.size=(u3).heap.size+1:=by rw[<-ev];exact aF _ _
  have ru4:row u4 (u3).heap.size=(u8s [96,0,0,0]).toArray:=by rw[<-ev];exact aE _ _ _ rfl
  try rw[show(#[Value.int .u8 96,Value.int .u8 0,Value.int .u8 0,Value.int .u8 0]:Array Value)=(u8s [96,0,0,0]).toArray from rfl]
  rw[ev]
  have hSn:=Rws.grow _ _ _ hSW hu4
  clear ev
  refine hK _ _ (bS (S2:=Rws [((u3).heap.size,(u8s [96,0,0,0]).toArray),(u1.heap.size,(u8s [58,255]).toArray),(w.heap.size,(.int .i64 1::(u8v fr++(u8v to++(u8v ab++(u8v mac++(.bool true::u8v fl)))))).toArray)]) ⟨ru4,by omega,hSn⟩ (fun _ h=>h.tail) (fun hS=>?_))
  clear hK K hSW hSn
  (try simp only[Act.put,List.setIfInBounds_toArray,List.set_cons_zero,List.set_cons_succ])
  refine qp 1 hS ?_
  refine qp 5 hS ?_
  refine qp 8 hS ?_
  refine qp 12 hS ?_
  refine qp 16 hS ?_
  refine qp 19 hS ?_
  refine qp 23 hS ?_
  refine qp 26 hS ?_
  refine qp 27 hS ?_
  refine qp 28 hS ?_
  refine aG kr_ (fun w9 h9=>?_) _
  have b9:Below w.heap.size w w9:=bb1.trans ((Below.trans (Below.drew (Below.refl _ _)) hu1).trans (hu2.trans (hu3.trans (hu4.trans (h9.mono (by omega)) |>.mono (by omega)) |>.mono (by omega)) |>.mono (by omega)) |>.mono (by omega))
  clear hS
  go_wp2_with fail
  refine bodyPost_ret (aS rfl aP aP) rfl ?_
  exact⟨by rw[HPS.out,sC];simp,b9⟩
theorem aDo (fr to ab:Vector UInt8 16) (mac:Vector UInt8 6) (fl:Vector UInt8 4) (w:World):
  Calls Tryz.prog 164 #[.agg (ndV 2 fr to ab mac true fl).toArray] w fun e w'=>e=.returned (.tuple #[.string ⟨(ndS 2 fr to ab mac true fl).toArray⟩,.int .i64 0])/\Below w.heap.size w w':=by
 have Hm:=vI fr to ab mac true fl
 have Hs:=lG fr to ab mac true fl
 obtain⟨m,hm⟩:∃m,kB 2 [0,0] ab mac true fl=m:=⟨_,rfl⟩
 have hml:m.length=32:=by rw[<-hm,iE];rfl
 have hS:ndS 2 fr to ab mac true fl=sC fr to m (iF 2 fr to ab mac true fl):=by rw[ndS,hm]
 have hsm:iF 2 fr to ab mac true fl<=65535:=by unfold iF aB1;omega
 obtain⟨sm,hsm2⟩:∃s,iF 2 fr to ab mac true fl=s:=⟨_,rfl⟩
 rw[hm]at Hm
 rw[hsm2]at hS Hs hsm
 have HPS:=h_ hS
 have HL2:=h_ (fun w=>fW (m.length:Int) w (by omega) (by omega))
 have HX2:=h_ (fun w=>fW (sm:Int) w (by omega) (by omega))
 rw[Int.toNat_natCast]at HL2 HX2
 unfold ndV at Hm Hs
 have HM:=h_ Hm
 have HS:=h_ Hs
 have hmI:(m.length:Int)<=32:=by omega
 have hmI4:(4:Int)<=(m.length:Int):=by omega
 have hmI2:(2:Int)<=(m.length:Int):=by omega
 have hm2:min 2 m.length=2:=by omega
 have hm7:¬9223372036854775807<44+(m.length - 4):=by omega
 have HML:=h_ hml
 clear Hm Hs hm hsm2 hS hml
 unfold ndV
 go_enter Tryz.func164,Tryz.ntmps164
 go_wp2_with fail
 refine(HM.out _).mono ?_
 rintro e w1 ⟨rfl,hb1⟩
 have z1:=(hb1).size
 try simp at z1
 have ra:row w1 (w.heap.size)=(.int .i64 2::(u8v fr++(u8v to++(u8v ab++(u8v mac++(.bool true::u8v fl)))))).toArray:=by rw[aA hb1 (by first | (simp;done) | (simp;omega) | omega)];simp[go_sem];(try rfl)
 replace hb1:=cJ hb1 (show Below (w).heap.size w _ from by(repeat (first | exact Below.refl _ _ | refine Below.al ?_ _ | refine Below.drew ?_ | refine Below.sr ?_ _ | refine Below.sc ?_ _))) (by first | (simp;done) | (simp;omega) | omega)
 have bb1:=hb1
 clear hb1
 go_wp2_with fail
 refine jY [(w.heap.size,(.int .i64 2::(u8v fr++(u8v to++(u8v ab++(u8v mac++(.bool true::u8v fl)))))).toArray)] (fun hS=>?_)
 refine qp 2 hS ?_
 refine qp 3 hS ?_
 refine qp 9 hS ?_
 refine qp 10 hS ?_
 refine qp 11 hS ?_
 refine qp 13 hS ?_
 refine qp 14 hS ?_
 refine qp 15 hS ?_
 refine qp 17 hS ?_
 refine qp 18 hS ?_
 refine qp 20 hS ?_
 refine qp 24 hS ?_
 refine qp 25 hS ?_
 refine qc 4 (v:=?_) hS ?_ ?_
 rotate_left
 ·intro w' hS'
  simp only[Rws]at hS'
  go_simp
  with_reducible refine(HL2.out _).mono ?_
  rintro e w'' ⟨rfl,hb⟩
  exact⟨_,rfl,by rfl,hb⟩
 refine qc 21 (v:=?_) hS ?_ ?_
 rotate_left
 ·intro w' hS'
  simp only[Rws]at hS'
  go_simp
  with_reducible refine(HS.out _).mono ?_
  rintro e w'' ⟨rfl,hb⟩
  exact⟨_,rfl,by rfl,hb⟩
 refine qc 22 (v:=?_) hS ?_ ?_
 rotate_left
 ·intro w' hS'
  simp only[Rws]at hS'
  go_simp
  with_reducible refine(HX2.out _).mono ?_
  rintro e w'' ⟨rfl,hb⟩
  exact⟨_,rfl,by rfl,hb⟩
 have zd:w1.drew.heap.size=w1.heap.size:=rfl
 refine aY (rs:=[0,6]) kr_ (by simp) (Rws.grow _) hS (fun u1 hu1 hSW=>?_)
 intro i hi
 have zu1:=hu1.size
 simp only[List.mem_cons,List.not_mem_nil,or_false]at hi
 rcases hi with rfl | rfl
 ·skip
  refine wpOp_step rfl (fun K hK=>?_)
  clear hS
  go_simp
  obtain⟨u2,ev⟩:∃x,(u1).alloc (.cells (u8s [96,0,0,0]).toArray 5)=x:=⟨_,rfl⟩
  have hu2:Below (u1).heap.size u1 u2:=by rw[<-ev];exact ba_
  have zu2:(u2).heap.size=(u1).heap.size+1:=by rw[<-ev];exact aF _ _
  have ru2:row u2 (u1).heap.size=(u8s [96,0,0,0]).toArray:=by rw[<-ev];exact aE _ _ _ rfl
  try rw[show(#[Value.int .u8 96,Value.int .u8 0,Value.int .u8 0,Value.int .u8 0]:Array Value)=(u8s [96,0,0,0]).toArray from rfl]
  rw[ev]
  have hSn:=Rws.grow _ _ _ hSW hu2
  clear ev
  refine hK _ _ (bS (S2:=Rws [((u1).heap.size,(u8s [96,0,0,0]).toArray),(w.heap.size,(.int .i64 2::(u8v fr++(u8v to++(u8v ab++(u8v mac++(.bool true::u8v fl)))))).toArray)]) ⟨ru2,by omega,hSn⟩ (fun _ h=>h.tail) (fun hS=>?_))
  clear hK K hSW hSn
  (try simp only[Act.put,List.setIfInBounds_toArray,List.set_cons_zero,List.set_cons_succ])
  refine qp 1 hS ?_
  refine qp 5 hS ?_
  refine aY (rs:=[6]) kr_ (by simp) (Rws.grow _) hS (fun u3 hu3 hSW=>?_)
  intro i hi
  have zu3:=hu3.size
  obtain rfl:=List.mem_singleton.1 hi
  refine wpOp_step rfl (fun K hK=>?_)
  clear hS
  go_simp
  obtain⟨u4,ev⟩:∃x,(u3).alloc (.cells (u8s [58,255]).toArray 5)=x:=⟨_,rfl⟩
  have hu4:Below (u3).heap.size u3 u4:=by rw[<-ev];exact ba_
  have zu4:(u4).heap.size=(u3).heap.size+1:=by rw[<-ev];exact aF _ _
  have ru4:row u4 (u3).heap.size=(u8s [58,255]).toArray:=by rw[<-ev];exact aE _ _ _ rfl
  try rw[show(#[Value.int .u8 58,Value.int .u8 255]:Array Value)=(u8s [58,255]).toArray from rfl]
  rw[ev]
  have hSn:=Rws.grow _ _ _ hSW hu4
  clear ev
  refine hK _ _ (bS (S2:=Rws [((u3).heap.size,(u8s [58,255]).toArray),(u1.heap.size,(u8s [96,0,0,0]).toArray),(w.heap.size,(.int .i64 2::(u8v fr++(u8v to++(u8v ab++(u8v mac++(.bool true::u8v fl)))))).toArray)]) ⟨ru4,by omega,hSn⟩ (fun _ h=>h.tail) (fun hS=>?_))
  clear hK K hSW hSn
  (try simp only[Act.put,List.setIfInBounds_toArray,List.set_cons_zero,List.set_cons_succ])
  refine qp 7 hS ?_
  refine qp 8 hS ?_
  refine qp 12 hS ?_
  refine qp 16 hS ?_
  refine qp 19 hS ?_
  refine qp 23 hS ?_
  refine qp 26 hS ?_
  refine qp 27 hS ?_
  refine qp 28 hS ?_
  refine aG kr_ (fun w9 h9=>?_) _
  have b9:Below w.heap.size w w9:=bb1.trans ((Below.trans (Below.drew (Below.refl _ _)) hu1).trans (hu2.trans (hu3.trans (hu4.trans (h9.mono (by omega)) |>.mono (by omega)) |>.mono (by omega)) |>.mono (by omega)) |>.mono (by omega))
  clear hS
  go_wp2_with fail
  refine bodyPost_ret (aS rfl aP aP) rfl ?_
  exact⟨by rw[HPS.out,sC];simp,b9⟩
 ·skip
  refine wpOp_step rfl (fun K hK=>?_)
  clear hS
  go_simp
  obtain⟨u2,ev⟩:∃x,(u1).alloc (.cells (u8s [58,255]).toArray 5)=x:=⟨_,rfl⟩
  have hu2:Below (u1).heap.size u1 u2:=by rw[<-ev];exact ba_
  have zu2:(u2).heap.size=(u1).heap.size+1:=by rw[<-ev];exact aF _ _
  have ru2:row u2 (u1).heap.size=(u8s [58,255]).toArray:=by rw[<-ev];exact aE _ _ _ rfl
  try rw[show(#[Value.int .u8 58,Value.int .u8 255]:Array Value)=(u8s [58,255]).toArray from rfl]
  rw[ev]
  have hSn:=Rws.grow _ _ _ hSW hu2
  clear ev
  refine hK _ _ (bS (S2:=Rws [((u1).heap.size,(u8s [58,255]).toArray),(w.heap.size,(.int .i64 2::(u8v fr++(u8v to++(u8v ab++(u8v mac++(.bool true::u8v fl)))))).toArray)]) ⟨ru2,by omega,hSn⟩ (fun _ h=>h.tail) (fun hS=>?_))
  clear hK K hSW hSn
  (try simp only[Act.put,List.setIfInBounds_toArray,List.set_cons_zero,List.set_cons_succ])
  refine qp 7 hS ?_
  refine aY (rs:=[0]) kr_ (by simp) (Rws.grow _) hS (fun u3 hu3 hSW=>?_)
  intro i hi
  have zu3:=hu3.size
  obtain rfl:=List.mem_singleton.1 hi
  refine wpOp_step rfl (fun K hK=>?_)
  clear hS
  go_simp
  obtain⟨u4,ev⟩:∃x,(u3).alloc (.cells (u8s [96,0,0,0]).toArray 5)=x:=⟨_,rfl⟩
  have hu4:Below (u3).heap.size u3 u4:=by rw[<-ev];exact ba_
  have zu4:(u4).heap.size=(u3).heap.size+1:=by rw[<-ev];exact aF _ _
  have ru4:row u4 (u3).heap.size=(u8s [96,0,0,0]).toArray:=by rw[<-ev];exact aE _ _ _ rfl
  try rw[show(#[Value.int .u8 96,Value.int .u8 0,Value.int .u8 0,Value.int .u8 0]:Array Value)=(u8s [96,0,0,0]).toArray from rfl]
  rw[ev]
  have hSn:=Rws.grow _ _ _ hSW hu4
  clear ev
  refine hK _ _ (bS (S2:=Rws [((u3).heap.size,(u8s [96,0,0,0]).toArray),(u1.heap.size,(u8s [58,255]).toArray),(w.heap.size,(.int .i64 2::(u8v fr++(u8v to++(u8v ab++(u8v mac++(.bool true::u8v fl)))))).toArray)]) ⟨ru4,by omega,hSn⟩ (fun _ h=>h.tail) (fun hS=>?_))
  clear hK K hSW hSn
  (try simp only[Act.put,List.setIfInBounds_toArray,List.set_cons_zero,List.set_cons_succ])
  refine qp 1 hS ?_
  refine qp 5 hS ?_
  refine qp 8 hS ?_
  refine qp 12 hS ?_
  refine qp 16 hS ?_
  refine qp 19 hS ?_
  refine qp 23 hS ?_
  refine qp 26 hS ?_
  refine qp 27 hS ?_
  refine qp 28 hS ?_
  refine aG kr_ (fun w9 h9=>?_) _
  have b9:Below w.heap.size w w9:=bb1.trans ((Below.trans (Below.drew (Below.refl _ _)) hu1).trans (hu2.trans (hu3.trans (hu4.trans (h9.mono (by omega)) |>.mono (by omega)) |>.mono (by omega)) |>.mono (by omega)) |>.mono (by omega))
  clear hS
  go_wp2_with fail
  refine bodyPost_ret (aS rfl aP aP) rfl ?_
  exact⟨by rw[HPS.out,sC];simp,b9⟩
end
section
open Go.RowKit
section
variable (op:Nat) (fr to ab:Vector UInt8 16) (mac:Vector UInt8 6) (has:Bool) (fl:Vector UInt8 4) (s:List UInt8) (hs:s.length=2)
def szN (has:Bool):Nat:=if has then 32 else 24
theorem oR (hs:s.length=2):(kB op s ab mac has fl).length=szN has:=by
 rw[iE,hs,szN]
 cases has<;>rfl
theorem sD:ndS op fr to ab mac has fl=[96,0,0,0]++(bJ (szN has) 2++([58,255]++(fr.toList++(to.toList++kB op (bJ (iF op fr to ab mac has fl) 2) ab mac has fl)))):=by
 rw[ndS,sC,oR op ab mac has fl [0,0] rfl]
 simp[kB]
theorem yG:(ndS op fr to ab mac has fl).length=40+szN has:=by
 rw[sD]
 simp[oR]
 omega
theorem aHK (hs:s.length=2):aI (kB op s ab mac has fl) 4 4=fl:=by
 have:=gW ([UInt8.ofNat (134+op),0]++s) (ab.toList++(if has then [UInt8.ofNat op,1]++mac.toList else [])) fl 4 (by simp[hs])
 rwa [List.append_assoc]at this
theorem aHL (hs:s.length=2):aI (kB op s ab mac has fl) 8 16=ab:=by
 have:=gW ([UInt8.ofNat (134+op),0]++(s++fl.toList)) (if has then [UInt8.ofNat op,1]++mac.toList else []) ab 8 (by simp[hs])
 rwa [List.append_assoc,List.append_assoc]at this
theorem aEf (hs:s.length=2):aI (kB op s ab mac true fl) 26 6=mac:=by
 have:=gW ([UInt8.ofNat (134+op),0]++(s++(fl.toList++(ab.toList++[UInt8.ofNat op,1])))) [] mac 26 (by simp[hs])
 simpa[kB]using this
theorem aJu (n:Nat) (hn:n<=65535):aW (kB op (bJ n 2) ab mac has fl) 2=n:=by
 have:=jA [UInt8.ofNat (134+op),0] (bJ n 2) (fl.toList++(ab.toList++(if has then [UInt8.ofNat op,1]++mac.toList else []))) 2 rfl (by simp)
 rw[dY]at this
 rw[kB,this]
 omega
theorem vK:iF op fr to ab mac has fl<=65535:=by unfold iF aB1;omega
variable (more:List UInt8)
theorem aMm:aI (ndS op fr to ab mac has fl++more) 8 16=fr:=by
 have:=gW ([96,0,0,0]++(bJ (szN has) 2++[58,255])) (to.toList++(kB op (bJ (iF op fr to ab mac has fl) 2) ab mac has fl++more)) fr 8 (by simp)
 rw[sD]
 simpa using this
theorem aMn:aI (ndS op fr to ab mac has fl++more) 24 16=to:=by
 have:=gW ([96,0,0,0]++(bJ (szN has) 2++([58,255]++fr.toList))) (kB op (bJ (iF op fr to ab mac has fl) 2) ab mac has fl++more) to 24 (by simp)
 rw[sD]
 simpa using this
theorem aNe:aW (ndS op fr to ab mac has fl++more) 4=szN has:=by
 have:=jA [96,0,0,0] (bJ (szN has) 2) ([58,255]++(fr.toList++(to.toList++(kB op (bJ (iF op fr to ab mac has fl) 2) ab mac has fl++more)))) 4 rfl (by simp)
 rw[dY]at this
 rw[sD]
 simp only[List.append_assoc]at this ⊢
 rw[this]
 cases has<;>rfl
theorem aMo:((ndS op fr to ab mac has fl++more).drop 40).take (szN has)=kB op (bJ (iF op fr to ab mac has fl) 2) ab mac has fl:=by
 have h:ndS op fr to ab mac has fl++more=([96,0,0,0]++(bJ (szN has) 2++([58,255]++(fr.toList++to.toList))))++(kB op (bJ (iF op fr to ab mac has fl) 2) ab mac has fl++more):=by
  rw[sD]
  simp
 rw[h,List.drop_left' (by simp),List.take_left' (oR op ab mac has fl _ (by simp))]
theorem aNs (h:0<(ndS op fr to ab mac has fl++more).length):(ndS op fr to ab mac has fl++more)[0]=96:=by
 simp[sD]
theorem aNt (h:6<(ndS op fr to ab mac has fl++more).length):(ndS op fr to ab mac has fl++more)[6]=58:=by
 have e:(ndS op fr to ab mac has fl++more)[6]? =some 58:=by
  rw[sD]
  simp[List.getElem?_append]
 simpa[List.getElem?_eq_getElem h]using e
theorem aNu (h:7<(ndS op fr to ab mac has fl++more).length):(ndS op fr to ab mac has fl++more)[7]=255:=by
 have e:(ndS op fr to ab mac has fl++more)[7]? =some 255:=by
  rw[sD]
  simp[List.getElem?_append]
 simpa[List.getElem?_eq_getElem h]using e
theorem aMp (hs:s.length=2) (h:24<(kB op s ab mac true fl).length):(kB op s ab mac true fl)[24]=UInt8.ofNat op:=by
 have e:(kB op s ab mac true fl)[24]? =some (UInt8.ofNat op):=by
  simp[kB,List.getElem?_append,hs]
 simpa[List.getElem?_eq_getElem h]using e
theorem aMq (hs:s.length=2) (h:25<(kB op s ab mac true fl).length):(kB op s ab mac true fl)[25]=1:=by
 have e:(kB op s ab mac true fl)[25]? =some 1:=by
  simp[kB,List.getElem?_append,hs]
 simpa[List.getElem?_eq_getElem h]using e
end
theorem pV (fr to ab:Vector UInt8 16) (mac:Vector UInt8 6) (fl:Vector UInt8 4) (more:List UInt8) (w:World) (hm:more.length<=2000):
  Calls Tryz.prog 132 #[.string ⟨(ndS 2 fr to ab mac true fl++more).toArray⟩] w fun e w'=>e=.returned (.tuple #[.agg (ndV 2 fr to ab mac true fl).toArray,.int .i64 0])/\Below w.heap.size w w':=by
 have hl:(ndS 2 fr to ab mac true fl++more).length=72+more.length:=by rw[List.length_append,yG];rfl
 have hb:(bJ (iF 2 fr to ab mac true fl) 2).length=2:=by simp
 have hml:=oR 2 ab mac true fl _ hb
 have:=jG (ndS 2 fr to ab mac true fl++more) _ w (by omega) (by omega) (aNe 2 fr to ab mac true fl more) (by omega) (aNs _ _ _ _ _ _ _ _ _) (aNt _ _ _ _ _ _ _ _ _) (aNu _ _ _ _ _ _ _ _ _)
  (aMo 2 fr to ab mac true fl more) hml rfl rfl (aMp _ _ _ _ _ hb _) (aMq _ _ _ _ _ hb _) (by rw[aMm,aMn,aHL _ _ _ _ _ _ hb,aEf _ _ _ _ _ hb,aHK _ _ _ _ _ _ hb,aJu _ _ _ _ _ _ (vK _ _ _ _ _ _ _)])
 rwa [aMm,aMn,aHL _ _ _ _ _ _ hb,aEf _ _ _ _ _ hb,aHK _ _ _ _ _ _ hb]at this
end
section
open Go.RowKit
section
variable (m:List UInt8) (fr to ab:Vector UInt8 16) (mac:Vector UInt8 6) (fl:Vector UInt8 4) (op0:Int)
theorem wM (hl:m.length=32) (h0:m[0]=135) (h1:m[1]=0) (h24:m[24]≠1):fO m 3 fr to ab mac fl op0:=by
 intro X w hX hXw
 have hXw2:X<w.heap.size+1:=by omega
 have hset:∀(W:World) (c:Array Value),(row W X).size=60->c.size=60->row (W.setRow X c) X=c:=fun W c h1 h2=>aB (by omega) (by omega)
 have g0:m[0].toNat=135:=by rw[h0];rfl
 have g1:m[1].toNat=0:=by rw[h1];rfl
 have hm4:min 4 (m.length - 4)=4:=by omega
 have hm8:min 16 (m.length - 8)=16:=by omega
 have e4:u8s (List.take 4 (List.drop 4 m))=u8v (aI m 4 4):=(aZ _ _ _ (by omega)).symm
 have e8:u8s (List.take 16 (List.drop 8 m))=u8v (aI m 8 16):=(aZ _ _ _ (by omega)).symm
 have n24:m[24].toNat≠1:=fun h=>h24 (UInt8.toNat_inj.1 h)
 have q24:m[24].toNat<256:=m[24].toNat_lt
 obtain⟨c,hc⟩:∃c,m[24].toNat=c:=⟨_,rfl⟩
 rw[hc]at n24 q24
 have w1:wrap64 (c:Int)=c:=by unfold wrap64;omega
 have w1b:IntKind.i64.wrap (c:Int)=c:=by rw[IntWalk.i64_left];exact w1
 have c1:((c:Int)==1)=false:=by simp;omega
 clear n24 q24
 have hXw3:X<w.heap.size+1+1:=by omega
 have hm26:min 6 (m.length - 26)=6:=by omega
 have e26:u8s (List.drop 26 m)=u8v (aI m 26 6):=by rw[aZ _ _ _ (by omega),List.take_of_length_le (by simp;omega)]
 clear h0 h1 h24
 go_enter Tryz.func162,Tryz.ntmps162
 go_wp2_with fail
 refine(bY _ _).mono ?_
 rintro e w1 ⟨rfl,rfl⟩
 go_wp2_with fail
 go_region
 all_goals
  go_wp2_with fail
  refine jY [(X,(.int .i64 1::(u8v fr++(u8v to++(u8v (aI m 8 16)++(u8v mac++(.bool false::u8v (aI m 4 4))))))).toArray)] (fun hS=>?_)
  refine qp 0 hS ?_
  refine qp 1 hS ?_
  refine qp 2 hS ?_
  refine qp 3 hS ?_
  refine qp 4 hS ?_
  refine qp 5 hS ?_
  refine qp 6 hS ?_
  refine qp 7 hS ?_
  refine qp 8 hS ?_
  refine qn 9 hS ?_
  refine qn 10 hS ?_
  refine qn 11 hS ?_
  refine qp 12 hS ?_
  refine aY (rs:=[13]) kr_ (by simp) (Rws.grow _) hS (fun u1 hu1 hSW=>?_)
  intro i hi
  obtain rfl:=List.mem_singleton.1 hi
  refine wpOp_step rfl (fun K hK=>?_)
  simp only[Rws]at hSW
  clear hi hS
  go_simp
  refine(dK _ _).mono ?_
  rintro e w1 ⟨rfl,rfl⟩
  refine⟨rfl,rfl,.int .i64 1::(u8v fr++(u8v to++(u8v (aI m 8 16)++(u8v mac++(.bool false::u8v (aI m 4 4)))))),by simp,?_⟩
  refine Below.trans ?_ (Below.mono hu1 (by first | (simp;done) | (simp;omega) | omega))
  (repeat (first | exact Below.refl _ _ | refine Below.al ?_ _ | refine Below.drew ?_ | refine Below.sr ?_ _ | refine Below.sc ?_ _))
theorem wO (hl:m.length=32) (h0:m[0]=136) (h1:m[1]=0) (h24:m[24]≠2):fO m 3 fr to ab mac fl op0:=by
 intro X w hX hXw
 have hXw2:X<w.heap.size+1:=by omega
 have hset:∀(W:World) (c:Array Value),(row W X).size=60->c.size=60->row (W.setRow X c) X=c:=fun W c h1 h2=>aB (by omega) (by omega)
 have g0:m[0].toNat=136:=by rw[h0];rfl
 have g1:m[1].toNat=0:=by rw[h1];rfl
 have hm4:min 4 (m.length - 4)=4:=by omega
 have hm8:min 16 (m.length - 8)=16:=by omega
 have e4:u8s (List.take 4 (List.drop 4 m))=u8v (aI m 4 4):=(aZ _ _ _ (by omega)).symm
 have e8:u8s (List.take 16 (List.drop 8 m))=u8v (aI m 8 16):=(aZ _ _ _ (by omega)).symm
 have n24:m[24].toNat≠2:=fun h=>h24 (UInt8.toNat_inj.1 h)
 have q24:m[24].toNat<256:=m[24].toNat_lt
 obtain⟨c,hc⟩:∃c,m[24].toNat=c:=⟨_,rfl⟩
 rw[hc]at n24 q24
 have w1:wrap64 (c:Int)=c:=by unfold wrap64;omega
 have w1b:IntKind.i64.wrap (c:Int)=c:=by rw[IntWalk.i64_left];exact w1
 have c1:((c:Int)==2)=false:=by simp;omega
 clear n24 q24
 have hXw3:X<w.heap.size+1+1:=by omega
 have hm26:min 6 (m.length - 26)=6:=by omega
 have e26:u8s (List.drop 26 m)=u8v (aI m 26 6):=by rw[aZ _ _ _ (by omega),List.take_of_length_le (by simp;omega)]
 clear h0 h1 h24
 go_enter Tryz.func162,Tryz.ntmps162
 go_wp2_with fail
 refine(bY _ _).mono ?_
 rintro e w1 ⟨rfl,rfl⟩
 go_wp2_with fail
 go_region
 all_goals
  go_wp2_with fail
  refine jY [(X,(.int .i64 2::(u8v fr++(u8v to++(u8v (aI m 8 16)++(u8v mac++(.bool false::u8v (aI m 4 4))))))).toArray)] (fun hS=>?_)
  refine qp 0 hS ?_
  refine qp 1 hS ?_
  refine qp 2 hS ?_
  refine qp 3 hS ?_
  refine qp 4 hS ?_
  refine qp 5 hS ?_
  refine qp 6 hS ?_
  refine qp 7 hS ?_
  refine qp 8 hS ?_
  refine qn 9 hS ?_
  refine qn 10 hS ?_
  refine qn 11 hS ?_
  refine qp 12 hS ?_
  refine aY (rs:=[13]) kr_ (by simp) (Rws.grow _) hS (fun u1 hu1 hSW=>?_)
  intro i hi
  obtain rfl:=List.mem_singleton.1 hi
  refine wpOp_step rfl (fun K hK=>?_)
  simp only[Rws]at hSW
  clear hi hS
  go_simp
  refine(dK _ _).mono ?_
  rintro e w1 ⟨rfl,rfl⟩
  refine⟨rfl,rfl,.int .i64 2::(u8v fr++(u8v to++(u8v (aI m 8 16)++(u8v mac++(.bool false::u8v (aI m 4 4)))))),by simp,?_⟩
  refine Below.trans ?_ (Below.mono hu1 (by first | (simp;done) | (simp;omega) | omega))
  (repeat (first | exact Below.refl _ _ | refine Below.al ?_ _ | refine Below.drew ?_ | refine Below.sr ?_ _ | refine Below.sc ?_ _))
theorem wP (hl:m.length=32) (h0:m[0]=135) (h1:m[1]=0) (h24:m[24]=1) (h25:m[25]≠1):fO m 3 fr to ab mac fl op0:=by
 intro X w hX hXw
 have hXw2:X<w.heap.size+1:=by omega
 have hset:∀(W:World) (c:Array Value),(row W X).size=60->c.size=60->row (W.setRow X c) X=c:=fun W c h1 h2=>aB (by omega) (by omega)
 have g0:m[0].toNat=135:=by rw[h0];rfl
 have g1:m[1].toNat=0:=by rw[h1];rfl
 have hm4:min 4 (m.length - 4)=4:=by omega
 have hm8:min 16 (m.length - 8)=16:=by omega
 have e4:u8s (List.take 4 (List.drop 4 m))=u8v (aI m 4 4):=(aZ _ _ _ (by omega)).symm
 have e8:u8s (List.take 16 (List.drop 8 m))=u8v (aI m 8 16):=(aZ _ _ _ (by omega)).symm
 have g24:m[24].toNat=1:=by rw[h24];rfl
 have n25:m[25].toNat≠1:=fun h=>h25 (UInt8.toNat_inj.1 h)
 obtain⟨c,hc⟩:∃c,m[25].toNat=c:=⟨_,rfl⟩
 rw[hc]at n25
 have c1:((c:Int)==1)=false:=by simp;omega
 clear n25
 have hXw3:X<w.heap.size+1+1:=by omega
 have hm26:min 6 (m.length - 26)=6:=by omega
 have e26:u8s (List.drop 26 m)=u8v (aI m 26 6):=by rw[aZ _ _ _ (by omega),List.take_of_length_le (by simp;omega)]
 clear h0 h1 h24 h25
 go_enter Tryz.func162,Tryz.ntmps162
 go_wp2_with fail
 refine(bY _ _).mono ?_
 rintro e w1 ⟨rfl,rfl⟩
 go_wp2_with fail
 go_region
 all_goals
  go_wp2_with fail
  refine jY [(X,(.int .i64 1::(u8v fr++(u8v to++(u8v (aI m 8 16)++(u8v mac++(.bool false::u8v (aI m 4 4))))))).toArray)] (fun hS=>?_)
  refine qp 0 hS ?_
  refine qp 1 hS ?_
  refine qp 2 hS ?_
  refine qp 3 hS ?_
  refine qp 4 hS ?_
  refine qp 5 hS ?_
  refine qp 6 hS ?_
  refine qp 7 hS ?_
  refine qp 8 hS ?_
  refine qp 9 hS ?_
  refine qp 10 hS ?_
  refine qp 11 hS ?_
  refine qp 12 hS ?_
  refine aY (rs:=[13]) kr_ (by simp) (Rws.grow _) hS (fun u1 hu1 hSW=>?_)
  intro i hi
  obtain rfl:=List.mem_singleton.1 hi
  refine wpOp_step rfl (fun K hK=>?_)
  simp only[Rws]at hSW
  clear hi hS
  go_simp
  refine(dK _ _).mono ?_
  rintro e w1 ⟨rfl,rfl⟩
  refine⟨rfl,rfl,.int .i64 1::(u8v fr++(u8v to++(u8v (aI m 8 16)++(u8v mac++(.bool false::u8v (aI m 4 4)))))),by simp,?_⟩
  refine Below.trans ?_ (Below.mono hu1 (by first | (simp;done) | (simp;omega) | omega))
  (repeat (first | exact Below.refl _ _ | refine Below.al ?_ _ | refine Below.drew ?_ | refine Below.sr ?_ _ | refine Below.sc ?_ _))
theorem wQ (hl:m.length=32) (h0:m[0]=136) (h1:m[1]=0) (h24:m[24]=2) (h25:m[25]≠1):fO m 3 fr to ab mac fl op0:=by
 intro X w hX hXw
 have hXw2:X<w.heap.size+1:=by omega
 have hset:∀(W:World) (c:Array Value),(row W X).size=60->c.size=60->row (W.setRow X c) X=c:=fun W c h1 h2=>aB (by omega) (by omega)
 have g0:m[0].toNat=136:=by rw[h0];rfl
 have g1:m[1].toNat=0:=by rw[h1];rfl
 have hm4:min 4 (m.length - 4)=4:=by omega
 have hm8:min 16 (m.length - 8)=16:=by omega
 have e4:u8s (List.take 4 (List.drop 4 m))=u8v (aI m 4 4):=(aZ _ _ _ (by omega)).symm
 have e8:u8s (List.take 16 (List.drop 8 m))=u8v (aI m 8 16):=(aZ _ _ _ (by omega)).symm
 have g24:m[24].toNat=2:=by rw[h24];rfl
 have n25:m[25].toNat≠1:=fun h=>h25 (UInt8.toNat_inj.1 h)
 obtain⟨c,hc⟩:∃c,m[25].toNat=c:=⟨_,rfl⟩
 rw[hc]at n25
 have c1:((c:Int)==1)=false:=by simp;omega
 clear n25
 have hXw3:X<w.heap.size+1+1:=by omega
 have hm26:min 6 (m.length - 26)=6:=by omega
 have e26:u8s (List.drop 26 m)=u8v (aI m 26 6):=by rw[aZ _ _ _ (by omega),List.take_of_length_le (by simp;omega)]
 clear h0 h1 h24 h25
 go_enter Tryz.func162,Tryz.ntmps162
 go_wp2_with fail
 refine(bY _ _).mono ?_
 rintro e w1 ⟨rfl,rfl⟩
 go_wp2_with fail
 go_region
 all_goals
  go_wp2_with fail
  refine jY [(X,(.int .i64 2::(u8v fr++(u8v to++(u8v (aI m 8 16)++(u8v mac++(.bool false::u8v (aI m 4 4))))))).toArray)] (fun hS=>?_)
  refine qp 0 hS ?_
  refine qp 1 hS ?_
  refine qp 2 hS ?_
  refine qp 3 hS ?_
  refine qp 4 hS ?_
  refine qp 5 hS ?_
  refine qp 6 hS ?_
  refine qp 7 hS ?_
  refine qp 8 hS ?_
  refine qp 9 hS ?_
  refine qp 10 hS ?_
  refine qp 11 hS ?_
  refine qp 12 hS ?_
  refine aY (rs:=[13]) kr_ (by simp) (Rws.grow _) hS (fun u1 hu1 hSW=>?_)
  intro i hi
  obtain rfl:=List.mem_singleton.1 hi
  refine wpOp_step rfl (fun K hK=>?_)
  simp only[Rws]at hSW
  clear hi hS
  go_simp
  refine(dK _ _).mono ?_
  rintro e w1 ⟨rfl,rfl⟩
  refine⟨rfl,rfl,.int .i64 2::(u8v fr++(u8v to++(u8v (aI m 8 16)++(u8v mac++(.bool false::u8v (aI m 4 4)))))),by simp,?_⟩
  refine Below.trans ?_ (Below.mono hu1 (by first | (simp;done) | (simp;omega) | omega))
  (repeat (first | exact Below.refl _ _ | refine Below.al ?_ _ | refine Below.drew ?_ | refine Below.sr ?_ _ | refine Below.sc ?_ _))
end
end
section
open Go.RowKit
section
variable (m:List UInt8) (fr to ab:Vector UInt8 16) (mac:Vector UInt8 6) (fl:Vector UInt8 4) (op0:Int)
theorem oS (hl:m.length=24) (h0:m[0]=135) (h1:m[1]=0)
  (hs:aW m 2≠iF 1 fr to (aI m 8 16) mac false (aI m 4 4)):fO m 4 fr to ab mac fl op0:=by
 intro X w hX hXw
 have hXw2:X<w.heap.size+1:=by omega
 have hset:∀(W:World) (c:Array Value),(row W X).size=60->c.size=60->row (W.setRow X c) X=c:=fun W c h1 h2=>aB (by omega) (by omega)
 have g0:m[0].toNat=135:=by rw[h0];rfl
 have g1:m[1].toNat=0:=by rw[h1];rfl
 have hm4:min 4 (m.length - 4)=4:=by omega
 have hm8:min 16 (m.length - 8)=16:=by omega
 have e4:u8s (List.take 4 (List.drop 4 m))=u8v (aI m 4 4):=(aZ _ _ _ (by omega)).symm
 have e8:u8s (List.take 16 (List.drop 8 m))=u8v (aI m 8 16):=(aZ _ _ _ (by omega)).symm
 have e8b:u8s (List.drop 8 m)=u8v (aI m 8 16):=by rw[<-e8,List.take_of_length_le (by simp;omega)]
 have Hs:=lF fr to (aI m 8 16) mac false (aI m 4 4)
 obtain⟨su,hsu⟩:∃s,iF 1 fr to (aI m 8 16) mac false (aI m 4 4)=s:=⟨_,rfl⟩
 rw[hsu]at Hs
 unfold ndV at Hs
 have HS:=h_ Hs
 have H01:=h_ (And.intro h0 (And.intro h1 hs))
 obtain⟨sm,hsm⟩:∃s,aW m 2=s:=⟨_,rfl⟩
 have hne:((sm:Int)==(su:Int))=false:=by
  rw[hsm,hsu]at hs
  simp
  omega
 clear Hs h0 h1 hs hsu
 go_enter Tryz.func162,Tryz.ntmps162
 go_wp2_with fail
 refine(bY _ _).mono ?_
 rintro e w1 ⟨rfl,rfl⟩
 go_wp2_with fail
 go_region
 all_goals
  go_wp2_with fail
  refine(cM _ _ (by simp[ByteArray.size];omega)).mono ?_
  rintro e w1 ⟨rfl,rfl⟩
  rw[show f9 (ByteArray.mk (List.take 2 (List.drop 2 m)).toArray).data.toList=sm from hsm]
  go_wp2_with fail
  refine(HS.out _).mono ?_
  rintro e w2 ⟨rfl,hb2⟩
  have z2:=(hb2).size
  try simp at z2
  go_wp2_with fail
  refine(dK _ _).mono ?_
  rintro e w1 ⟨rfl,rfl⟩
  refine⟨rfl,rfl,.int .i64 1::(u8v fr++(u8v to++(u8v (aI m 8 16)++(u8v mac++(.bool false::u8v (aI m 4 4)))))),by simp,?_⟩
  refine Below.trans ?_ (Below.mono hb2 (by first | (simp;done) | (simp;omega) | omega))
  (repeat (first | exact Below.refl _ _ | refine Below.al ?_ _ | refine Below.drew ?_ | refine Below.sr ?_ _ | refine Below.sc ?_ _))
theorem oT (hl:m.length=24) (h0:m[0]=136) (h1:m[1]=0)
  (hs:aW m 2≠iF 2 fr to (aI m 8 16) mac false (aI m 4 4)):fO m 4 fr to ab mac fl op0:=by
 intro X w hX hXw
 have hXw2:X<w.heap.size+1:=by omega
 have hset:∀(W:World) (c:Array Value),(row W X).size=60->c.size=60->row (W.setRow X c) X=c:=fun W c h1 h2=>aB (by omega) (by omega)
 have g0:m[0].toNat=136:=by rw[h0];rfl
 have g1:m[1].toNat=0:=by rw[h1];rfl
 have hm4:min 4 (m.length - 4)=4:=by omega
 have hm8:min 16 (m.length - 8)=16:=by omega
 have e4:u8s (List.take 4 (List.drop 4 m))=u8v (aI m 4 4):=(aZ _ _ _ (by omega)).symm
 have e8:u8s (List.take 16 (List.drop 8 m))=u8v (aI m 8 16):=(aZ _ _ _ (by omega)).symm
 have e8b:u8s (List.drop 8 m)=u8v (aI m 8 16):=by rw[<-e8,List.take_of_length_le (by simp;omega)]
 have Hs:=lG fr to (aI m 8 16) mac false (aI m 4 4)
 obtain⟨su,hsu⟩:∃s,iF 2 fr to (aI m 8 16) mac false (aI m 4 4)=s:=⟨_,rfl⟩
 rw[hsu]at Hs
 unfold ndV at Hs
 have HS:=h_ Hs
 have H01:=h_ (And.intro h0 (And.intro h1 hs))
 obtain⟨sm,hsm⟩:∃s,aW m 2=s:=⟨_,rfl⟩
 have hne:((sm:Int)==(su:Int))=false:=by
  rw[hsm,hsu]at hs
  simp
  omega
 clear Hs h0 h1 hs hsu
 go_enter Tryz.func162,Tryz.ntmps162
 go_wp2_with fail
 refine(bY _ _).mono ?_
 rintro e w1 ⟨rfl,rfl⟩
 go_wp2_with fail
 go_region
 all_goals
  go_wp2_with fail
  refine(cM _ _ (by simp[ByteArray.size];omega)).mono ?_
  rintro e w1 ⟨rfl,rfl⟩
  rw[show f9 (ByteArray.mk (List.take 2 (List.drop 2 m)).toArray).data.toList=sm from hsm]
  go_wp2_with fail
  refine(HS.out _).mono ?_
  rintro e w2 ⟨rfl,hb2⟩
  have z2:=(hb2).size
  try simp at z2
  go_wp2_with fail
  refine(dK _ _).mono ?_
  rintro e w1 ⟨rfl,rfl⟩
  refine⟨rfl,rfl,.int .i64 2::(u8v fr++(u8v to++(u8v (aI m 8 16)++(u8v mac++(.bool false::u8v (aI m 4 4)))))),by simp,?_⟩
  refine Below.trans ?_ (Below.mono hb2 (by first | (simp;done) | (simp;omega) | omega))
  (repeat (first | exact Below.refl _ _ | refine Below.al ?_ _ | refine Below.drew ?_ | refine Below.sr ?_ _ | refine Below.sc ?_ _))
theorem oU (hl:m.length=32) (h0:m[0]=135) (h1:m[1]=0) (h24:m[24]=1) (h25:m[25]=1)
  (hs:aW m 2≠iF 1 fr to (aI m 8 16) (aI m 26 6) true (aI m 4 4)):fO m 4 fr to ab mac fl op0:=by
 intro X w hX hXw
 have hXw2:X<w.heap.size+1:=by omega
 have hset:∀(W:World) (c:Array Value),(row W X).size=60->c.size=60->row (W.setRow X c) X=c:=fun W c h1 h2=>aB (by omega) (by omega)
 have g0:m[0].toNat=135:=by rw[h0];rfl
 have g1:m[1].toNat=0:=by rw[h1];rfl
 have hm4:min 4 (m.length - 4)=4:=by omega
 have hm8:min 16 (m.length - 8)=16:=by omega
 have e4:u8s (List.take 4 (List.drop 4 m))=u8v (aI m 4 4):=(aZ _ _ _ (by omega)).symm
 have e8:u8s (List.take 16 (List.drop 8 m))=u8v (aI m 8 16):=(aZ _ _ _ (by omega)).symm
 have g24:m[24].toNat=1:=by rw[h24];rfl
 have g25:m[25].toNat=1:=by rw[h25];rfl
 have hXw3:X<w.heap.size+1+1:=by omega
 have hm26:min 6 (m.length - 26)=6:=by omega
 have e26:u8s (List.drop 26 m)=u8v (aI m 26 6):=by rw[aZ _ _ _ (by omega),List.take_of_length_le (by simp;omega)]
 have Hs:=lF fr to (aI m 8 16) (aI m 26 6) true (aI m 4 4)
 obtain⟨su,hsu⟩:∃s,iF 1 fr to (aI m 8 16) (aI m 26 6) true (aI m 4 4)=s:=⟨_,rfl⟩
 rw[hsu]at Hs
 unfold ndV at Hs
 have HS:=h_ Hs
 have H01:=h_ (And.intro h0 (And.intro h1 (And.intro h24 (And.intro h25 hs))))
 obtain⟨sm,hsm⟩:∃s,aW m 2=s:=⟨_,rfl⟩
 have hne:((sm:Int)==(su:Int))=false:=by
  rw[hsm,hsu]at hs
  simp
  omega
 clear Hs h0 h1 hs h24 h25 hsu
 go_enter Tryz.func162,Tryz.ntmps162
 go_wp2_with fail
 refine(bY _ _).mono ?_
 rintro e w1 ⟨rfl,rfl⟩
 go_wp2_with fail
 go_region
 all_goals
  go_wp2_with fail
  refine a8 (S:=cQ (fun w'=>row w' X=(.int .i64 1::(u8v fr++(u8v to++(u8v (aI m 8 16)++(u8v mac++(.bool false::u8v (aI m 4 4))))))).toArray)) rfl ?_ (fun hS=>?_)
  ·unfold cQ
   simp[go_sem,hXw,hXw2,hXw3,hset,hX]
  refine rp 0 hS ?_
  refine rp 1 hS ?_
  refine rp 2 hS ?_
  refine rp 3 hS ?_
  refine rp 4 hS ?_
  refine rp 5 hS ?_
  refine rp 6 hS ?_
  refine rp 7 hS ?_
  refine rp 8 hS ?_
  refine rp 9 hS ?_
  refine rp 10 hS ?_
  refine rp 11 hS ?_
  refine rp 12 hS ?_
  have hS2:=hS
  unfold cQ at hS2
  refine wpAnyH_all (rs:=[13]) kr_ (by simp) ?_
  intro i hi
  obtain rfl:=List.mem_singleton.1 hi
  refine wpOp_step rfl (fun K hK=>?_)
  clear hi hS
  go_simp
  refine(bY _ _).mono ?_
  rintro e w1 ⟨rfl,rfl⟩
  refine hK _ _ (bC hS2 (fun hS=>?_))
  clear hK K
  refine wpAnyH_done kr_ ?_ _
  go_wp2_with fail
  refine(cM _ _ (by simp[ByteArray.size];omega)).mono ?_
  rintro e w1 ⟨rfl,rfl⟩
  rw[show f9 (ByteArray.mk (List.take 2 (List.drop 2 m)).toArray).data.toList=sm from hsm]
  go_wp2_with fail
  refine(HS.out _).mono ?_
  rintro e w2 ⟨rfl,hb2⟩
  have z2:=(hb2).size
  try simp at z2
  go_wp2_with fail
  refine(dK _ _).mono ?_
  rintro e w1 ⟨rfl,rfl⟩
  refine⟨rfl,rfl,.int .i64 1::(u8v fr++(u8v to++(u8v (aI m 8 16)++(u8v (aI m 26 6)++(.bool true::u8v (aI m 4 4)))))),by simp,?_⟩
  refine Below.trans ?_ (Below.mono hb2 (by first | (simp;done) | (simp;omega) | omega))
  (repeat (first | exact Below.refl _ _ | refine Below.al ?_ _ | refine Below.drew ?_ | refine Below.sr ?_ _ | refine Below.sc ?_ _))
theorem oV (hl:m.length=32) (h0:m[0]=136) (h1:m[1]=0) (h24:m[24]=2) (h25:m[25]=1)
  (hs:aW m 2≠iF 2 fr to (aI m 8 16) (aI m 26 6) true (aI m 4 4)):fO m 4 fr to ab mac fl op0:=by
 intro X w hX hXw
 have hXw2:X<w.heap.size+1:=by omega
 have hset:∀(W:World) (c:Array Value),(row W X).size=60->c.size=60->row (W.setRow X c) X=c:=fun W c h1 h2=>aB (by omega) (by omega)
 have g0:m[0].toNat=136:=by rw[h0];rfl
 have g1:m[1].toNat=0:=by rw[h1];rfl
 have hm4:min 4 (m.length - 4)=4:=by omega
 have hm8:min 16 (m.length - 8)=16:=by omega
 have e4:u8s (List.take 4 (List.drop 4 m))=u8v (aI m 4 4):=(aZ _ _ _ (by omega)).symm
 have e8:u8s (List.take 16 (List.drop 8 m))=u8v (aI m 8 16):=(aZ _ _ _ (by omega)).symm
 have g24:m[24].toNat=2:=by rw[h24];rfl
 have g25:m[25].toNat=1:=by rw[h25];rfl
 have hXw3:X<w.heap.size+1+1:=by omega
 have hm26:min 6 (m.length - 26)=6:=by omega
 have e26:u8s (List.drop 26 m)=u8v (aI m 26 6):=by rw[aZ _ _ _ (by omega),List.take_of_length_le (by simp;omega)]
 have Hs:=lG fr to (aI m 8 16) (aI m 26 6) true (aI m 4 4)
 obtain⟨su,hsu⟩:∃s,iF 2 fr to (aI m 8 16) (aI m 26 6) true (aI m 4 4)=s:=⟨_,rfl⟩
 rw[hsu]at Hs
 unfold ndV at Hs
 have HS:=h_ Hs
 have H01:=h_ (And.intro h0 (And.intro h1 (And.intro h24 (And.intro h25 hs))))
 obtain⟨sm,hsm⟩:∃s,aW m 2=s:=⟨_,rfl⟩
 have hne:((sm:Int)==(su:Int))=false:=by
  rw[hsm,hsu]at hs
  simp
  omega
 clear Hs h0 h1 hs h24 h25 hsu
 go_enter Tryz.func162,Tryz.ntmps162
 go_wp2_with fail
 refine(bY _ _).mono ?_
 rintro e w1 ⟨rfl,rfl⟩
 go_wp2_with fail
 go_region
 all_goals
  go_wp2_with fail
  refine a8 (S:=cQ (fun w'=>row w' X=(.int .i64 2::(u8v fr++(u8v to++(u8v (aI m 8 16)++(u8v mac++(.bool false::u8v (aI m 4 4))))))).toArray)) rfl ?_ (fun hS=>?_)
  ·unfold cQ
   simp[go_sem,hXw,hXw2,hXw3,hset,hX]
  refine rp 0 hS ?_
  refine rp 1 hS ?_
  refine rp 2 hS ?_
  refine rp 3 hS ?_
  refine rp 4 hS ?_
  refine rp 5 hS ?_
  refine rp 6 hS ?_
  refine rp 7 hS ?_
  refine rp 8 hS ?_
  refine rp 9 hS ?_
  refine rp 10 hS ?_
  refine rp 11 hS ?_
  refine rp 12 hS ?_
  have hS2:=hS
  unfold cQ at hS2
  refine wpAnyH_all (rs:=[13]) kr_ (by simp) ?_
  intro i hi
  obtain rfl:=List.mem_singleton.1 hi
  refine wpOp_step rfl (fun K hK=>?_)
  clear hi hS
  go_simp
  refine(bY _ _).mono ?_
  rintro e w1 ⟨rfl,rfl⟩
  refine hK _ _ (bC hS2 (fun hS=>?_))
  clear hK K
  refine wpAnyH_done kr_ ?_ _
  go_wp2_with fail
  refine(cM _ _ (by simp[ByteArray.size];omega)).mono ?_
  rintro e w1 ⟨rfl,rfl⟩
  rw[show f9 (ByteArray.mk (List.take 2 (List.drop 2 m)).toArray).data.toList=sm from hsm]
  go_wp2_with fail
  refine(HS.out _).mono ?_
  rintro e w2 ⟨rfl,hb2⟩
  have z2:=(hb2).size
  try simp at z2
  go_wp2_with fail
  refine(dK _ _).mono ?_
  rintro e w1 ⟨rfl,rfl⟩
  refine⟨rfl,rfl,.int .i64 2::(u8v fr++(u8v to++(u8v (aI m 8 16)++(u8v (aI m 26 6)++(.bool true::u8v (aI m 4 4)))))),by simp,?_⟩
  refine Below.trans ?_ (Below.mono hb2 (by first | (simp;done) | (simp;omega) | omega))
  (repeat (first | exact Below.refl _ _ | refine Below.al ?_ _ | refine Below.drew ?_ | refine Below.sr ?_ _ | refine Below.sc ?_ _))
end
end
section
open Go.RowKit
theorem vL (l m:List UInt8) (n:Int) (w:World) (hl:64<=l.length) (hl2:l.length<=10000) (sz:Nat) (hsz:aW l 4=sz) (hs2:sz=24∨sz=32) (hls:40+sz<=l.length) (h0:l[0]=96) (h6:l[6]=58) (h7:l[7]=255)
  (hm:(l.drop 40).take sz=m) (H:fO m n (aI l 8 16) (aI l 24 16) ip0 cF jF 0):
  Calls Tryz.prog 132 #[.string ⟨l.toArray⟩] w fun e w'=>e=.returned (.tuple #[.agg (ndV 0 ip0 ip0 ip0 cF false jF).toArray,.int .i64 n])/\Below w.heap.size w w':=by
 have hmf:∀(fn:Fn) (first cap:Array Value) (w:World),(Instr.makeFunc fn first cap).run Tryz.prog w=.ok (.func fn first cap) w:=fun _ _ _ _=>rfl
 go_enter_defers Tryz.func132,Tryz.ntmps132
 go_wp2_with fail
 have st0:=gM w
 refine(lH l w.heap.size 0 ip0 ip0 ip0 cF false jF _ hl hl2 sz hsz hs2 h0 h6 h7 hls st0.rX (by have:=st0.hs;omega)).mono ?_
 rintro e w1 ⟨rfl,hb1⟩
 have st1:=(st0.setX (ndV 0 (aI l 8 16) (aI l 24 16) ip0 cF false jF) (by simp[ndV])).below (by simpa[ndV]using hb1)
 rw[hm]
 go_wp2_with fail
 refine(H w.heap.size _ st1.rX (by have:=st1.hs;omega)).mono ?_
 rintro e w2 ⟨rfl,xs,hxs,hb2⟩
 have st2:=(st1.setX xs hxs).below (by simpa using hb2)
 exact st2.fail _ _ n rfl rfl rfl
end
section
open Go.RowKit
def aB6 (l:List UInt8):Bool:=(((l.getD 0 0).toNat:Int)==96)&&(((l.getD 6 0).toNat:Int)==58)&&(((l.getD 7 0).toNat:Int)==255)&&(aW l 4==24||aW l 4==32)
theorem aDp (l:List UInt8) (X:Nat) (w:World) (hl:64<=l.length) (hl2:l.length<=10000) (h:aB6 l=false):
  Calls Tryz.prog 163 #[.string ⟨l.toArray⟩,.pointer (some ⟨X,0,none⟩)] w fun e w'=>e=.panicked (sW 3)/\w=w':=by
 have h1:(64:Int)<=l.length:=by omega
 have h2:(l.length:Int)<=10000:=by omega
 obtain⟨sz,hsz⟩:∃s,aW l 4=s:=⟨_,rfl⟩
 unfold aB6 at h
 rw[hsz]at h
 have g0:l.getD 0 0=l[0]:=by simp[List.getD_eq_getElem?_getD,show 0<l.length by omega]
 have g6:l.getD 6 0=l[6]:=by simp[List.getD_eq_getElem?_getD,show 6<l.length by omega]
 have g7:l.getD 7 0=l[7]:=by simp[List.getD_eq_getElem?_getD,show 7<l.length by omega]
 rw[g0,g6,g7]at h
 clear g0 g6 g7
 have HSZ:=h_ hsz
 clear hsz
 go_enter Tryz.func163,Tryz.ntmps163
 go_wp2_with fail
 refine(bY _ _).mono ?_
 rintro e w1 ⟨rfl,rfl⟩
 go_wp2_with fail
 refine(cM _ _ (by simp[ByteArray.size];omega)).mono ?_
 rintro e w1 ⟨rfl,rfl⟩
 rw[show f9 (ByteArray.mk (List.take 2 (List.drop 4 l)).toArray).data.toList=sz from HSZ.out]
 have szI:((sz:Int)==24)=(sz==24):=by rw[Bool.eq_iff_iff];simp only[beq_iff_eq];omega
 have szJ:((sz:Int)==32)=(sz==32):=by rw[Bool.eq_iff_iff];simp only[beq_iff_eq];omega
 rw[<-szI,<-szJ]at h
 clear szI szJ
 by_cases c0:((l[0].toNat:Int)==96)=true
 ·by_cases c6:((l[6].toNat:Int)==58)=true
  ·by_cases c7:((l[7].toNat:Int)==255)=true
   ·rw[c0,c6,c7]at h
    simp only[Bool.true_and,Bool.or_eq_false_iff]at h
    obtain⟨h24,h32⟩:=h
    go_wp2_with fail
    refine(dK _ _).mono ?_
    rintro e w1 ⟨rfl,rfl⟩
    exact⟨rfl,rfl,rfl⟩
   ·have c7':((l[7].toNat:Int)==255)=false:=by simpa using c7
    clear h c7
    go_wp2_with fail
    refine(dK _ _).mono ?_
    rintro e w1 ⟨rfl,rfl⟩
    exact⟨rfl,rfl,rfl⟩
  ·have c6':((l[6].toNat:Int)==58)=false:=by simpa using c6
   clear h c6
   go_wp2_with fail
   refine(dK _ _).mono ?_
   rintro e w1 ⟨rfl,rfl⟩
   exact⟨rfl,rfl,rfl⟩
 ·have c0':((l[0].toNat:Int)==96)=false:=by simpa using c0
  clear h c0
  go_wp2_with fail
  refine(dK _ _).mono ?_
  rintro e w1 ⟨rfl,rfl⟩
  exact⟨rfl,rfl,rfl⟩
theorem aFG (l:List UInt8) (X:Nat) (w:World) (hl:64<=l.length) (sz:Nat) (hsz:aW l 4=sz) (hs:sz=24∨sz=32) (h0:l[0]=96) (h6:l[6]=58) (h7:l[7]=255) (hls:l.length<40+sz):
  Calls Tryz.prog 163 #[.string ⟨l.toArray⟩,.pointer (some ⟨X,0,none⟩)] w fun e w'=>e=.panicked (sW 2)/\w=w':=by
 obtain rfl:sz=32:=by omega
 have h1:(64:Int)<=l.length:=by omega
 have h2:(l.length:Int)<72:=by omega
 have c0:((l[0].toNat:Int)==96)=true:=by rw[h0];rfl
 have c6:((l[6].toNat:Int)==58)=true:=by rw[h6];rfl
 have c7:((l[7].toNat:Int)==255)=true:=by rw[h7];rfl
 have g0:l[0].toNat=96:=by rw[h0];rfl
 have g6:l[6].toNat=58:=by rw[h6];rfl
 have g7:l[7].toNat=255:=by rw[h7];rfl
 have HH:=h_ (And.intro hsz (And.intro h0 (And.intro h6 h7)))
 clear hsz h0 h6 h7 hs
 go_enter Tryz.func163,Tryz.ntmps163
 go_wp2_with fail
 refine(bY _ _).mono ?_
 rintro e w1 ⟨rfl,rfl⟩
 go_wp2_with fail
 refine(cM _ _ (by simp[ByteArray.size];omega)).mono ?_
 rintro e w1 ⟨rfl,rfl⟩
 rw[show f9 (ByteArray.mk (List.take 2 (List.drop 4 l)).toArray).data.toList=32 from HH.out.1]
 go_wp2_with fail
 refine(bY _ _).mono ?_
 rintro e w1 ⟨rfl,rfl⟩
 go_wp2_with fail
 (try rw[decide_eq_false (show ¬(72:Int)<=l.length by omega)])
 refine(dK _ _).mono ?_
 rintro e w1 ⟨rfl,rfl⟩
 exact⟨rfl,rfl,rfl⟩
def cX (l:List UInt8) (cs:List Value) (n:Int):Prop:=∀w,Calls Tryz.prog 132 #[.string ⟨l.toArray⟩] w fun e w'=>e=.returned (.tuple #[.agg cs.toArray,.int .i64 n])/\Below w.heap.size w w'
theorem lI (l:List UInt8) (n:Int) (H:∀X w,Calls Tryz.prog 163 #[.string ⟨l.toArray⟩,.pointer (some ⟨X,0,none⟩)] w fun e w'=>e=.panicked (sW n)/\w=w'):cX l zeroNd n:=by
 intro w
 have hmf:∀(fn:Fn) (first cap:Array Value) (w:World),(Instr.makeFunc fn first cap).run Tryz.prog w=.ok (.func fn first cap) w:=fun _ _ _ _=>rfl
 go_enter_defers Tryz.func132,Tryz.ntmps132
 go_wp2_with fail
 have st0:=gM w
 refine(H _ _).mono ?_
 rintro e w1 ⟨rfl,rfl⟩
 exact st0.fail _ _ n rfl rfl rfl
end
section
open Go.RowKit
theorem aHM (l:List UInt8) (k:Nat) (d:UInt8) (h:k<l.length):l.getD k d=l[k]:=by simp[List.getD_eq_getElem?_getD,h]
def iW (op:Nat) (l:List UInt8) (sz:Nat):List Value×Int:=
 if l.getD 41 0≠0 then (zeroNd,3)else
 if sz=24 then
  (if bJ (iF op (aI l 8 16) (aI l 24 16) (aI l 48 16) cF false (aI l 44 4)) 2=List.take 2 (List.drop 42 l)then (ndV op (aI l 8 16) (aI l 24 16) (aI l 48 16) cF false (aI l 44 4),0)else (zeroNd,4))
 else if l.getD 64 0≠UInt8.ofNat op then (zeroNd,3)else if l.getD 65 0≠1 then (zeroNd,3)else
  (if bJ (iF op (aI l 8 16) (aI l 24 16) (aI l 48 16) (aI l 66 6) true (aI l 44 4)) 2=List.take 2 (List.drop 42 l)then (ndV op (aI l 8 16) (aI l 24 16) (aI l 48 16) (aI l 66 6) true (aI l 44 4),0)else (zeroNd,4))
def mK (l:List UInt8) (sz:Nat):List Value×Int:=if l.getD 40 0=135 then iW 1 l sz else if l.getD 40 0=136 then iW 2 l sz else (zeroNd,3)
theorem pW (l:List UInt8) (sz:Nat) (h:l.getD 40 0=135):mK l sz=iW 1 l sz:=by rw[mK,if_pos h]
theorem pX (l:List UInt8) (sz:Nat) (h:l.getD 40 0=136):mK l sz=iW 2 l sz:=by rw[mK,if_neg (by rw[h];decide),if_pos h]
theorem aB7 (l:List UInt8) (sz:Nat) (h1:l.getD 40 0≠135) (h2:l.getD 40 0≠136):mK l sz=(zeroNd,3):=by rw[mK,if_neg h1,if_neg h2]
theorem nD (l:List UInt8) (sz k n:Nat) (h:k+n<=sz) (hl:40+sz<=l.length):aI ((l.drop 40).take sz) k n=aI l (40+k) n:=by
 apply Vector.ext
 intro i hi
 simp only[aI,Vector.getElem_ofFn]
 rw[List.getD_eq_getElem?_getD,List.getD_eq_getElem?_getD,List.getElem?_take_of_lt (by omega),List.getElem?_drop,show 40+(k+i)=40+k+i by omega]
theorem mB (l:List UInt8) (sz k:Nat) (h:k<sz) (hl:40+sz<=l.length) (h2:k<((l.drop 40).take sz).length):((l.drop 40).take sz)[k]=l.getD (40+k) 0:=by
 rw[List.getElem_take,List.getElem_drop,List.getD_eq_getElem?_getD,List.getElem?_eq_getElem (by omega)]
 rfl
theorem aDq (l:List UInt8) (sz:Nat) (h:4<=sz):aW ((l.drop 40).take sz) 2=aW l 42:=by
 rw[aW,aW,List.drop_take,List.take_take,List.drop_drop,Nat.min_eq_left (by omega)]
theorem aAC (l:List UInt8) (h:64<=l.length) (n:Nat) (hn:n<=65535):bJ n 2=List.take 2 (List.drop 42 l)↔aW l 42=n:=by
 rw[<-kN l 42 (by omega)]
 constructor
 ·intro h2
  have h3:=congrArg f9 h2
  rw[dY,dY]at h3
  have:=lT l 42
  omega
 ·intro h2
  rw[h2]
theorem aDr (l:List UInt8) (hl:64<=l.length) (hl2:l.length<=10000) (sz:Nat) (hsz:aW l 4=sz) (hs:sz=24∨sz=32) (h0:l[0]=96) (h6:l[6]=58) (h7:l[7]=255) (hls:40+sz<=l.length):cX l (mK l sz).1 (mK l sz).2:=by
 obtain⟨m,hm⟩:∃m,(l.drop 40).take sz=m:=⟨_,rfl⟩
 have hml:m.length=sz:=by rw[<-hm,List.length_take,List.length_drop];omega
 have REF:∀n,fO m n (aI l 8 16) (aI l 24 16) ip0 cF jF 0->cX l zeroNd n:=fun n H w=>vL l m n w hl hl2 sz hsz hs hls h0 h6 h7 hm H
 have g0:m[0]=l.getD 40 0:=by subst hm;exact mB l sz 0 (by omega) hls _
 have g1:m[1]=l.getD 41 0:=by subst hm;exact mB l sz 1 (by omega) hls _
 have v8:aI m 8 16=aI l 48 16:=by subst hm;exact nD l sz 8 16 (by omega) hls
 have v4:aI m 4 4=aI l 44 4:=by subst hm;exact nD l sz 4 4 (by omega) hls
 have n2:aW m 2=aW l 42:=by subst hm;exact aDq l sz (by omega)
 have opcase:∀(op:Nat),(op=1∨op=2)->l.getD 40 0=UInt8.ofNat (134+op)->mK l sz=iW op l sz->cX l (iW op l sz).1 (iW op l sz).2:=by
  intro op hop a e
  unfold iW
  by_cases b:l.getD 41 0=0
  ·rw[if_neg (by rw[b];simp)]
   rcases hs with rfl | rfl
   ·rw[if_pos rfl]
    by_cases c:bJ (iF op (aI l 8 16) (aI l 24 16) (aI l 48 16) cF false (aI l 44 4)) 2=List.take 2 (List.drop 42 l)
    ·rw[if_pos c]
     have c2:=(aAC l hl _ (vK _ _ _ _ _ _ _)).1 c
     intro w
     rcases hop with rfl | rfl
     ·have:=pR l m w hl hl2 hsz hls h0 h6 h7 hm hml (by rw[g0];exact a) (by rw[g1];exact b) (by rw[v8,v4,n2];exact c2)
      rw[v8,v4]at this
      exact this
     ·have:=pS l m w hl hl2 hsz hls h0 h6 h7 hm hml (by rw[g0];exact a) (by rw[g1];exact b) (by rw[v8,v4,n2];exact c2)
      rw[v8,v4]at this
      exact this
    ·rw[if_neg c]
     have c2:=fun h=>c ((aAC l hl _ (vK _ _ _ _ _ _ _)).2 h)
     rcases hop with rfl | rfl
     ·exact REF 4 (oS m _ _ _ _ _ _ hml (by rw[g0];exact a) (by rw[g1];exact b) (by rw[v8,v4,n2];exact c2))
     ·exact REF 4 (oT m _ _ _ _ _ _ hml (by rw[g0];exact a) (by rw[g1];exact b) (by rw[v8,v4,n2];exact c2))
   ·rw[if_neg (by decide)]
    have g24:m[24]=l.getD 64 0:=by subst hm;exact mB l 32 24 (by omega) hls _
    have g25:m[25]=l.getD 65 0:=by subst hm;exact mB l 32 25 (by omega) hls _
    have v26:aI m 26 6=aI l 66 6:=by subst hm;exact nD l 32 26 6 (by omega) hls
    by_cases d:l.getD 64 0=UInt8.ofNat op
    ·rw[if_neg (by rw[d];simp)]
     by_cases f:l.getD 65 0=1
     ·rw[if_neg (by rw[f];simp)]
      by_cases c:bJ (iF op (aI l 8 16) (aI l 24 16) (aI l 48 16) (aI l 66 6) true (aI l 44 4)) 2=List.take 2 (List.drop 42 l)
      ·rw[if_pos c]
       have c2:=(aAC l hl _ (vK _ _ _ _ _ _ _)).1 c
       intro w
       rcases hop with rfl | rfl
       ·have:=pU l m w hl hl2 hsz hls h0 h6 h7 hm hml (by rw[g0];exact a) (by rw[g1];exact b) (by rw[g24];exact d) (by rw[g25];exact f) (by rw[v8,v4,v26,n2];exact c2)
        rw[v8,v4,v26]at this
        exact this
       ·have:=jG l m w hl hl2 hsz hls h0 h6 h7 hm hml (by rw[g0];exact a) (by rw[g1];exact b) (by rw[g24];exact d) (by rw[g25];exact f) (by rw[v8,v4,v26,n2];exact c2)
        rw[v8,v4,v26]at this
        exact this
      ·rw[if_neg c]
       have c2:=fun h=>c ((aAC l hl _ (vK _ _ _ _ _ _ _)).2 h)
       rcases hop with rfl | rfl
       ·exact REF 4 (oU m _ _ _ _ _ _ hml (by rw[g0];exact a) (by rw[g1];exact b) (by rw[g24];exact d) (by rw[g25];exact f) (by rw[v8,v4,v26,n2];exact c2))
       ·exact REF 4 (oV m _ _ _ _ _ _ hml (by rw[g0];exact a) (by rw[g1];exact b) (by rw[g24];exact d) (by rw[g25];exact f) (by rw[v8,v4,v26,n2];exact c2))
     ·rw[if_pos f]
      rcases hop with rfl | rfl
      ·exact REF 3 (wP m _ _ _ _ _ _ hml (by rw[g0];exact a) (by rw[g1];exact b) (by rw[g24];exact d) (by rw[g25];exact f))
      ·exact REF 3 (wQ m _ _ _ _ _ _ hml (by rw[g0];exact a) (by rw[g1];exact b) (by rw[g24];exact d) (by rw[g25];exact f))
    ·rw[if_pos d]
     rcases hop with rfl | rfl
     ·exact REF 3 (wM m _ _ _ _ _ _ hml (by rw[g0];exact a) (by rw[g1];exact b) (by rw[g24];exact d))
     ·exact REF 3 (wO m _ _ _ _ _ _ hml (by rw[g0];exact a) (by rw[g1];exact b) (by rw[g24];exact d))
  ·rw[if_pos b]
   rcases hop with rfl | rfl
   ·exact REF 3 (aAA m _ _ _ _ _ _ (by omega) (by rw[g0];exact a) (by rw[g1];exact b))
   ·exact REF 3 (aAB m _ _ _ _ _ _ (by omega) (by rw[g0];exact a) (by rw[g1];exact b))
 by_cases a1:l.getD 40 0=135
 ·rw[pW l sz a1]
  exact opcase 1 (.inl rfl) a1 (pW l sz a1)
 by_cases a2:l.getD 40 0=136
 ·rw[pX l sz a2]
  exact opcase 2 (.inr rfl) a2 (pX l sz a2)
 rw[aB7 l sz a1 a2]
 exact REF 3 (aFF m _ _ _ _ _ _ (by omega) (by rw[g0];exact a1) (by rw[g0];exact a2))
structure NdProg (l:List UInt8) (op:Nat) (fr to ab:Vector UInt8 16) (mac:Vector UInt8 6) (has:Bool) (fl:Vector UInt8 4) (n:Int):Prop where
 prog:cX l (ndV op fr to ab mac has fl) n
 good:n=0->(op=1∨op=2)/\(has=false->mac=cF)
theorem aHN (l:List UInt8) (hl2:l.length<=10000):∃op fr to ab mac has fl n,NdProg l op fr to ab mac has fl n:=by
 have bad:∀n:Int,n≠0->cX l zeroNd n->∃op fr to ab mac has fl n,NdProg l op fr to ab mac has fl n:=fun n hn h1=>⟨0,ip0,ip0,ip0,cF,false,jF,n,h1,fun h=>absurd h hn⟩
 by_cases hl:l.length<64
 ·exact bad 2 (by decide) (lI l 2 fun X w=>aB3 l X w hl)
 by_cases hh:aB6 l=false
 ·exact bad 3 (by decide) (lI l 3 fun X w=>aDp l X w (by omega) hl2 hh)
 have hh2:aB6 l=true:=by simpa using hh
 unfold aB6 at hh2
 simp only[Bool.and_eq_true,Bool.or_eq_true,beq_iff_eq]at hh2
 obtain⟨⟨⟨q0,q6⟩,q7⟩,hs⟩:=hh2
 rw[aHM _ _ _ (by omega)]at q0 q6 q7
 have h0:l[0]=96:=UInt8.toNat_inj.1 (by show l[0].toNat=96;omega)
 have h6:l[6]=58:=UInt8.toNat_inj.1 (by show l[6].toNat=58;omega)
 have h7:l[7]=255:=UInt8.toNat_inj.1 (by show l[7].toNat=255;omega)
 by_cases hc:l.length<40+aW l 4
 ·rcases hs with hs | hs
  ·omega
  ·exact bad 2 (by decide) (lI l 2 fun X w=>aFG l X w (by omega) 32 hs (.inr rfl) h0 h6 h7 (by omega))
 have hp:=aDr l (by omega) hl2 _ rfl hs h0 h6 h7 (by omega)
 have one:∀op,(op=1∨op=2)->mK l (aW l 4)=iW op l (aW l 4)->∃op fr to ab mac has fl n,NdProg l op fr to ab mac has fl n:=by
  intro op hop e
  rw[e]at hp
  unfold iW at hp
  by_cases b:l.getD 41 0≠0
  ·rw[if_pos b]at hp
   exact bad 3 (by decide) hp
  rw[if_neg b]at hp
  by_cases c:aW l 4=24
  ·rw[if_pos c]at hp
   by_cases d:bJ (iF op (aI l 8 16) (aI l 24 16) (aI l 48 16) cF false (aI l 44 4)) 2=List.take 2 (List.drop 42 l)
   ·rw[if_pos d]at hp
    exact⟨op,_,_,_,_,_,_,0,hp,fun _=>⟨hop,fun _=>rfl⟩⟩
   ·rw[if_neg d]at hp
    exact bad 4 (by decide) hp
  rw[if_neg c]at hp
  by_cases f:l.getD 64 0≠UInt8.ofNat op
  ·rw[if_pos f]at hp
   exact bad 3 (by decide) hp
  rw[if_neg f]at hp
  by_cases g:l.getD 65 0≠1
  ·rw[if_pos g]at hp
   exact bad 3 (by decide) hp
  rw[if_neg g]at hp
  by_cases d:bJ (iF op (aI l 8 16) (aI l 24 16) (aI l 48 16) (aI l 66 6) true (aI l 44 4)) 2=List.take 2 (List.drop 42 l)
  ·rw[if_pos d]at hp
   exact⟨op,_,_,_,_,_,_,0,hp,fun _=>⟨hop,fun h=>by cases h⟩⟩
  ·rw[if_neg d]at hp
   exact bad 4 (by decide) hp
 by_cases a1:l.getD 40 0=135
 ·exact one 1 (.inl rfl) (pW l _ a1)
 by_cases a2:l.getD 40 0=136
 ·exact one 2 (.inr rfl) (pX l _ a2)
 rw[aB7 l _ a1 a2]at hp
 exact bad 3 (by decide) hp
end
end Go.Proofs.YtiagbbknkdgmeaaGreat
