/- Texts of this proof, merged: HusN, HusG, NdA, HusF. -/
import Derived.Test.YtiagbbknkdgmeaaGreatJ17
import Derived.Test.YtiagbbknkdgmeaaGreatJ46
import Derived.Test.YtiagbbknkdgmeaaGreatJ47
import Derived.Test.YtiagbbknkdgmeaaGreatRegJ
set_option linter.unusedSimpArgs false
set_option linter.unusedVariables false
set_option maxHeartbeats 8000000
set_option maxRecDepth 20000
namespace Go.Proofs.YtiagbbknkdgmeaaGreat
section
open Go.RowKit
theorem yH (fr to ab:Vector UInt8 16) (mac:Vector UInt8 6) (fl:Vector UInt8 4) (w:World):
  Calls Tryz.prog 158 #[.agg (ndV 1 fr to ab mac true fl).toArray] w fun e w'=>e=.returned (.tuple #[.agg (Value.string ⟨fr.toList.toArray⟩::u8v mac).toArray,.bool (fr !=Vector.replicate 16 0)])/\Below w.heap.size w w':=by
 unfold ndV
 go_enter Tryz.func158,Tryz.ntmps158
 obtain⟨W,hW⟩:∃x,(w.alloc (.cells (Value.int .i64 1::(u8v fr++(u8v to++(u8v ab++(u8v mac++(Value.bool true::u8v fl)))))).toArray 263)).alloc (.cells (Value.string ⟨#[]⟩::u8v cF).toArray 249)=x:=⟨_,rfl⟩
 have rA:row W w.heap.size=(Value.int .i64 1::(u8v fr++(u8v to++(u8v ab++(u8v mac++(Value.bool true::u8v fl)))))).toArray:=by rw[<-hW];simp[go_sem]
 have rB:row W (w.heap.size+1)=(Value.string ⟨#[]⟩::u8v cF).toArray:=by rw[<-hW];simp[go_sem]
 have zW:W.heap.size=w.heap.size+2:=by rw[<-hW];simp
 have bW:Below w.heap.size w W:=by
  rw[<-hW]
  (repeat (first | exact Below.refl _ _ | refine Below.al ?_ _ | refine Below.drew ?_ | refine Below.sr ?_ _ | refine Below.sc ?_ _))
 go_wp2_with fail
 clear hW
 refine jY [(w.heap.size,(Value.int .i64 1::(u8v fr++(u8v to++(u8v ab++(u8v mac++(Value.bool true::u8v fl)))))).toArray)] (fun hS=>?_)
 refine qp 0 hS ?_
 refine qp 1 hS ?_
 refine qp 2 hS ?_
 refine qp 3 hS ?_
 refine qp 4 hS ?_
 refine qp 5 hS ?_
 refine qp 6 hS ?_
 refine qp 7 hS ?_
 refine qp 8 hS ?_
 refine qp 9 hS ?_
 refine qp 10 hS ?_
 refine qp 11 hS ?_
 refine qp 12 hS ?_
 refine qp 13 hS ?_
 have rd:row W.drew (w.heap.size+1)=(Value.string ⟨#[]⟩::u8v cF).toArray:=rB
 refine bI (i:=14) (b:=(w.heap.size+1)) (c:=(Value.string ⟨fr.toList.toArray⟩::u8v mac).toArray) cD rfl rfl kr_ (by simp;(try omega)) hS (by rw[rd];simp;(try omega)) (fun w1 hr=>by rw[rd]at hr;go_simp;(try rfl)) (fun u1 hu1 ru1 hS=>?_)
 refine qp 15 hS ?_
 refine aG kr_ (fun w2 b2=>?_) _
 have z1:W.heap.size<=u1.heap.size:=hu1.size
 have z2:=b2.size
 rw[setRow_size]at z2
 have r2:row w2 (w.heap.size+1)=(Value.string ⟨fr.toList.toArray⟩::u8v mac).toArray:=by rw[aA b2 (by rw[setRow_size];omega)];exact aB (by rw[ru1,rd];simp) (by rw[ru1,rd];simp)
 have b3:Below w.heap.size w w2:=Below.trans (Below.setRow (Below.trans bW ((aL (Below.drew (Below.refl _ _)) hu1).mono (by omega))) (by omega) _) (b2.mono (by rw[setRow_size];omega))
 clear b2 hu1 ru1 rd hS
 go_wp2_with fail
 refine bodyPost_ret (aS rfl (aK rfl ?_) aP) rfl ?_
 ·rw[r2];simp
 ·exact⟨by rw[r2];simp[bne],b3⟩
theorem aDs (fr to ab:Vector UInt8 16) (mac:Vector UInt8 6) (fl:Vector UInt8 4) (w:World):
  Calls Tryz.prog 158 #[.agg (ndV 1 fr to ab mac false fl).toArray] w fun e w'=>e=.returned (.tuple #[.agg (Value.string ⟨fr.toList.toArray⟩::u8v mac).toArray,.bool (false)])/\Below w.heap.size w w':=by
 unfold ndV
 go_enter Tryz.func158,Tryz.ntmps158
 obtain⟨W,hW⟩:∃x,(w.alloc (.cells (Value.int .i64 1::(u8v fr++(u8v to++(u8v ab++(u8v mac++(Value.bool false::u8v fl)))))).toArray 263)).alloc (.cells (Value.string ⟨#[]⟩::u8v cF).toArray 249)=x:=⟨_,rfl⟩
 have rA:row W w.heap.size=(Value.int .i64 1::(u8v fr++(u8v to++(u8v ab++(u8v mac++(Value.bool false::u8v fl)))))).toArray:=by rw[<-hW];simp[go_sem]
 have rB:row W (w.heap.size+1)=(Value.string ⟨#[]⟩::u8v cF).toArray:=by rw[<-hW];simp[go_sem]
 have zW:W.heap.size=w.heap.size+2:=by rw[<-hW];simp
 have bW:Below w.heap.size w W:=by
  rw[<-hW]
  (repeat (first | exact Below.refl _ _ | refine Below.al ?_ _ | refine Below.drew ?_ | refine Below.sr ?_ _ | refine Below.sc ?_ _))
 go_wp2_with fail
 clear hW
 refine jY [(w.heap.size,(Value.int .i64 1::(u8v fr++(u8v to++(u8v ab++(u8v mac++(Value.bool false::u8v fl)))))).toArray)] (fun hS=>?_)
 refine qp 0 hS ?_
 refine qp 1 hS ?_
 refine qp 2 hS ?_
 refine qp 3 hS ?_
 refine qp 4 hS ?_
 refine qp 5 hS ?_
 refine qp 6 hS ?_
 refine qp 7 hS ?_
 refine qp 8 hS ?_
 refine qn 9 hS ?_
 refine qn 10 hS ?_
 refine qn 11 hS ?_
 refine qn 12 hS ?_
 refine qp 13 hS ?_
 have rd:row W.drew (w.heap.size+1)=(Value.string ⟨#[]⟩::u8v cF).toArray:=rB
 refine bI (i:=14) (b:=(w.heap.size+1)) (c:=(Value.string ⟨fr.toList.toArray⟩::u8v mac).toArray) cD rfl rfl kr_ (by simp;(try omega)) hS (by rw[rd];simp;(try omega)) (fun w1 hr=>by rw[rd]at hr;go_simp;(try rfl)) (fun u1 hu1 ru1 hS=>?_)
 refine qp 15 hS ?_
 refine aG kr_ (fun w2 b2=>?_) _
 have z1:W.heap.size<=u1.heap.size:=hu1.size
 have z2:=b2.size
 rw[setRow_size]at z2
 have r2:row w2 (w.heap.size+1)=(Value.string ⟨fr.toList.toArray⟩::u8v mac).toArray:=by rw[aA b2 (by rw[setRow_size];omega)];exact aB (by rw[ru1,rd];simp) (by rw[ru1,rd];simp)
 have b3:Below w.heap.size w w2:=Below.trans (Below.setRow (Below.trans bW ((aL (Below.drew (Below.refl _ _)) hu1).mono (by omega))) (by omega) _) (b2.mono (by rw[setRow_size];omega))
 clear b2 hu1 ru1 rd hS
 go_wp2_with fail
 refine bodyPost_ret (aS rfl (aK rfl ?_) aP) rfl ?_
 ·rw[r2];simp
 ·exact⟨by rw[r2];simp[bne],b3⟩
theorem pY (op:Int) (fr to ab:Vector UInt8 16) (mac:Vector UInt8 6) (has:Bool) (fl:Vector UInt8 4) (w:World) (h:(op==1)=false):
  Calls Tryz.prog 158 #[.agg (ndV op fr to ab mac has fl).toArray] w fun e w'=>e=.returned (.tuple #[.agg (Value.string ⟨ab.toList.toArray⟩::u8v mac).toArray,.bool (has)])/\Below w.heap.size w w':=by
 unfold ndV
 go_enter Tryz.func158,Tryz.ntmps158
 obtain⟨W,hW⟩:∃x,(w.alloc (.cells (Value.int .i64 op::(u8v fr++(u8v to++(u8v ab++(u8v mac++(Value.bool has::u8v fl)))))).toArray 263)).alloc (.cells (Value.string ⟨#[]⟩::u8v cF).toArray 249)=x:=⟨_,rfl⟩
 have rA:row W w.heap.size=(Value.int .i64 op::(u8v fr++(u8v to++(u8v ab++(u8v mac++(Value.bool has::u8v fl)))))).toArray:=by rw[<-hW];simp[go_sem]
 have rB:row W (w.heap.size+1)=(Value.string ⟨#[]⟩::u8v cF).toArray:=by rw[<-hW];simp[go_sem]
 have zW:W.heap.size=w.heap.size+2:=by rw[<-hW];simp
 have bW:Below w.heap.size w W:=by
  rw[<-hW]
  (repeat (first | exact Below.refl _ _ | refine Below.al ?_ _ | refine Below.drew ?_ | refine Below.sr ?_ _ | refine Below.sc ?_ _))
 go_wp2_with fail
 clear hW
 refine jY [(w.heap.size,(Value.int .i64 op::(u8v fr++(u8v to++(u8v ab++(u8v mac++(Value.bool has::u8v fl)))))).toArray)] (fun hS=>?_)
 refine qp 0 hS ?_
 refine qp 1 hS ?_
 refine qp 2 hS ?_
 refine qp 3 hS ?_
 refine qp 4 hS ?_
 refine qp 5 hS ?_
 refine qp 6 hS ?_
 refine qp 7 hS ?_
 have rd:row W.drew (w.heap.size+1)=(Value.string ⟨#[]⟩::u8v cF).toArray:=rB
 refine bI (i:=8) (b:=(w.heap.size+1)) (c:=(Value.string ⟨ab.toList.toArray⟩::u8v mac).toArray) cD rfl rfl kr_ (by simp;(try omega)) hS (by rw[rd];simp;(try omega)) (fun w1 hr=>by rw[rd]at hr;go_simp;(try rfl)) (fun u1 hu1 ru1 hS=>?_)
 refine qp 9 hS ?_
 refine aG kr_ (fun w2 b2=>?_) _
 have z1:W.heap.size<=u1.heap.size:=hu1.size
 have z2:=b2.size
 rw[setRow_size]at z2
 have r2:row w2 (w.heap.size+1)=(Value.string ⟨ab.toList.toArray⟩::u8v mac).toArray:=by rw[aA b2 (by rw[setRow_size];omega)];exact aB (by rw[ru1,rd];simp) (by rw[ru1,rd];simp)
 have b3:Below w.heap.size w w2:=Below.trans (Below.setRow (Below.trans bW ((aL (Below.drew (Below.refl _ _)) hu1).mono (by omega))) (by omega) _) (b2.mono (by rw[setRow_size];omega))
 clear b2 hu1 ru1 rd hS
 go_wp2_with fail
 refine bodyPost_ret (aS rfl (aK rfl ?_) aP) rfl ?_
 ·rw[r2];simp
 ·exact⟨by rw[r2];simp[bne],b3⟩
end
section
open Go.RowKit
section
variable (dst src:Vector UInt8 6) (body:List UInt8)
variable (op:Int) (fr to ab:Vector UInt8 16) (mac:Vector UInt8 6) (has:Bool) (fl:Vector UInt8 4) (ipl:List UInt8)
theorem aDt (er:Int) (he:(er==0)=false) (HP:cX body (ndV op fr to ab mac has fl) er):
  xC dst src 34525 body [] cF false:=by
 intro w
 unfold bV
 unfold cX ndV at HP
 have K:=h_ HP
 clear HP
 go_enter Tryz.func128,Tryz.ntmps128
 go_wp2_with fail
 (with_reducible refine(K.out _).mono ?_)
 rintro e w1 ⟨rfl,b1⟩
 have z1:=b1.size
 simp at z1
 have rR:row w1 (w.heap.size+1)=(Value.string ⟨#[]⟩::u8v cF).toArray:=by rw[aA b1 (by simp)];simp[go_sem]
 have rB:row w1 (w.heap.size+1+1)=(Value.string ⟨#[]⟩::u8v cF).toArray:=by rw[aA b1 (by simp)];simp[go_sem]
 have B1:Below w.heap.size w w1:=Below.trans eD (b1.mono (by simp;omega))
 clear b1
 have q1:w.heap.size<w1.heap.size:=by omega
 have q2:w.heap.size+1<w1.heap.size:=by omega
 have q3:w.heap.size+1+1<w1.heap.size:=by omega
 go_wp2_with fail
 have hfin:row ((w1).setRow (w.heap.size+1) (Value.string ⟨#[]⟩::u8v cF).toArray) (w.heap.size+1)=(Value.string ⟨#[]⟩::u8v cF).toArray:=aB (by simp[rR]) (by simp[rR])
 (try simp only[Exit.inBlock,Exit.then])
 refine bodyPost_ret (aS rfl (aK rfl ?_) aP) rfl ?_
 ·(try rw[aD _ _ (by simp;omega)])
  rw[hfin]
  try simp
 ·refine⟨by(try rw[aD _ _ (by simp;omega)]);rw[hfin];try simp,?_⟩
  first | exact Below.setRow B1 (by omega) _ | exact Below.alloc (Below.setRow B1 (by omega) _) (by simp;omega) _
theorem pZ (HP:cX body (ndV op fr to ab mac has fl) 0) (HF0:∀w,Calls Tryz.prog 158 #[.agg (ndV op fr to ab mac has fl).toArray] w fun e w'=>e=.returned (.tuple #[.agg (Value.string ⟨ipl.toArray⟩::u8v mac).toArray,.bool false])/\Below w.heap.size w w'):xC dst src 34525 body [] cF false:=by
 intro w
 unfold ndV at HF0
 have HF:=h_ HF0
 clear HF0
 unfold bV
 unfold cX ndV at HP
 have K:=h_ HP
 clear HP
 go_enter Tryz.func128,Tryz.ntmps128
 go_wp2_with fail
 (with_reducible refine(K.out _).mono ?_)
 rintro e w1 ⟨rfl,b1⟩
 have z1:=b1.size
 simp at z1
 have rR:row w1 (w.heap.size+1)=(Value.string ⟨#[]⟩::u8v cF).toArray:=by rw[aA b1 (by simp)];simp[go_sem]
 have rB:row w1 (w.heap.size+1+1)=(Value.string ⟨#[]⟩::u8v cF).toArray:=by rw[aA b1 (by simp)];simp[go_sem]
 have B1:Below w.heap.size w w1:=Below.trans eD (b1.mono (by simp;omega))
 clear b1
 have q1:w.heap.size<w1.heap.size:=by omega
 have q2:w.heap.size+1<w1.heap.size:=by omega
 have q3:w.heap.size+1+1<w1.heap.size:=by omega
 go_wp2_with fail
 (with_reducible refine(HF.out _).mono ?_)
 rintro e w2 ⟨rfl,b2⟩
 have z2:=b2.size
 simp at z2
 have B2:Below w.heap.size w w2:=B1.trans (Below.trans (Below.alloc (Below.refl _ _) (by omega) _) (b2.mono (by simp;omega)))
 replace rR:row w2 (w.heap.size+1)=(Value.string ⟨#[]⟩::u8v cF).toArray:=by rw[aA b2 (by simp;omega),aD _ _ q2,rR]
 replace rB:row w2 (w.heap.size+1+1)=(Value.string ⟨#[]⟩::u8v cF).toArray:=by rw[aA b2 (by simp;omega),aD _ _ q3,rB]
 have p1:w.heap.size<w2.heap.size:=by omega
 have p2:w.heap.size+1<w2.heap.size:=by omega
 have p3:w.heap.size+1+1<w2.heap.size:=by omega
 clear b2
 obtain⟨w3,hw3⟩:∃x,w2.setRow (w.heap.size+1+1) (Value.string ⟨ipl.toArray⟩::u8v mac).toArray=x:=⟨_,rfl⟩
 have z3:w3.heap.size=w2.heap.size:=by rw[<-hw3,setRow_size]
 have B3:Below w.heap.size w w3:=by rw[<-hw3];exact Below.setRow B2 (by omega) _
 have rB3:row w3 (w.heap.size+1+1)=(Value.string ⟨ipl.toArray⟩::u8v mac).toArray:=by rw[<-hw3];exact aB (by rw[rB];simp) (by rw[rB];simp)
 have rR3:row w3 (w.heap.size+1)=(Value.string ⟨#[]⟩::u8v cF).toArray:=by rw[<-hw3,aC _ _ _ (by omega),rR]
 clear rR
 have rR:=rR3
 go_wp2_with fail
 clear hw3
 have hfin:row ((w3).setRow (w.heap.size+1) (Value.string ⟨#[]⟩::u8v cF).toArray) (w.heap.size+1)=(Value.string ⟨#[]⟩::u8v cF).toArray:=aB (by simp[rR]) (by simp[rR])
 (try simp only[Exit.inBlock,Exit.then])
 refine bodyPost_ret (aS rfl (aK rfl ?_) aP) rfl ?_
 ·(try rw[aD _ _ (by simp;omega)])
  rw[hfin]
  try simp
 ·refine⟨by(try rw[aD _ _ (by simp;omega)]);rw[hfin];try simp,?_⟩
  first | exact Below.setRow B3 (by omega) _ | exact Below.alloc (Below.setRow B3 (by omega) _) (by simp;omega) _
theorem vM (HP:cX body (ndV op fr to ab mac has fl) 0) (HF0:∀w,Calls Tryz.prog 158 #[.agg (ndV op fr to ab mac has fl).toArray] w fun e w'=>e=.returned (.tuple #[.agg (Value.string ⟨ipl.toArray⟩::u8v mac).toArray,.bool true])/\Below w.heap.size w w') (hg:grp mac=true):xC dst src 34525 body [] cF false:=by
 have HG:=h_ (fun w=>gZ mac w)
 rw[hg]at HG
 intro w
 unfold ndV at HF0
 have HF:=h_ HF0
 clear HF0
 unfold bV
 unfold cX ndV at HP
 have K:=h_ HP
 clear HP
 go_enter Tryz.func128,Tryz.ntmps128
 go_wp2_with fail
 (with_reducible refine(K.out _).mono ?_)
 rintro e w1 ⟨rfl,b1⟩
 have z1:=b1.size
 simp at z1
 have rR:row w1 (w.heap.size+1)=(Value.string ⟨#[]⟩::u8v cF).toArray:=by rw[aA b1 (by simp)];simp[go_sem]
 have rB:row w1 (w.heap.size+1+1)=(Value.string ⟨#[]⟩::u8v cF).toArray:=by rw[aA b1 (by simp)];simp[go_sem]
 have B1:Below w.heap.size w w1:=Below.trans eD (b1.mono (by simp;omega))
 clear b1
 have q1:w.heap.size<w1.heap.size:=by omega
 have q2:w.heap.size+1<w1.heap.size:=by omega
 have q3:w.heap.size+1+1<w1.heap.size:=by omega
 go_wp2_with fail
 (with_reducible refine(HF.out _).mono ?_)
 rintro e w2 ⟨rfl,b2⟩
 have z2:=b2.size
 simp at z2
 have B2:Below w.heap.size w w2:=B1.trans (Below.trans (Below.alloc (Below.refl _ _) (by omega) _) (b2.mono (by simp;omega)))
 replace rR:row w2 (w.heap.size+1)=(Value.string ⟨#[]⟩::u8v cF).toArray:=by rw[aA b2 (by simp;omega),aD _ _ q2,rR]
 replace rB:row w2 (w.heap.size+1+1)=(Value.string ⟨#[]⟩::u8v cF).toArray:=by rw[aA b2 (by simp;omega),aD _ _ q3,rB]
 have p1:w.heap.size<w2.heap.size:=by omega
 have p2:w.heap.size+1<w2.heap.size:=by omega
 have p3:w.heap.size+1+1<w2.heap.size:=by omega
 clear b2
 obtain⟨w3,hw3⟩:∃x,w2.setRow (w.heap.size+1+1) (Value.string ⟨ipl.toArray⟩::u8v mac).toArray=x:=⟨_,rfl⟩
 have z3:w3.heap.size=w2.heap.size:=by rw[<-hw3,setRow_size]
 have B3:Below w.heap.size w w3:=by rw[<-hw3];exact Below.setRow B2 (by omega) _
 have rB3:row w3 (w.heap.size+1+1)=(Value.string ⟨ipl.toArray⟩::u8v mac).toArray:=by rw[<-hw3];exact aB (by rw[rB];simp) (by rw[rB];simp)
 have rR3:row w3 (w.heap.size+1)=(Value.string ⟨#[]⟩::u8v cF).toArray:=by rw[<-hw3,aC _ _ _ (by omega),rR]
 clear rR
 have rR:=rR3
 go_wp2_with fail
 clear hw3
 (with_reducible refine(HG.out _).mono ?_)
 rintro e w4 ⟨rfl,b4⟩
 have z4:=b4.size
 have B4:Below w.heap.size w w4:=B3.trans (b4.mono (by omega))
 replace rR:row w4 (w.heap.size+1)=(Value.string ⟨#[]⟩::u8v cF).toArray:=by rw[aA b4 (by omega),rR]
 have p4:w.heap.size+1<w4.heap.size:=by omega
 clear b4
 go_wp2_with fail
 have hfin:row ((w4).setRow (w.heap.size+1) (Value.string ⟨#[]⟩::u8v cF).toArray) (w.heap.size+1)=(Value.string ⟨#[]⟩::u8v cF).toArray:=aB (by simp[rR]) (by simp[rR])
 (try simp only[Exit.inBlock,Exit.then])
 refine bodyPost_ret (aS rfl (aK rfl ?_) aP) rfl ?_
 ·(try rw[aD _ _ (by simp;omega)])
  rw[hfin]
  try simp
 ·refine⟨by(try rw[aD _ _ (by simp;omega)]);rw[hfin];try simp,?_⟩
  first | exact Below.setRow B4 (by omega) _ | exact Below.alloc (Below.setRow B4 (by omega) _) (by simp;omega) _
theorem p7 (HP:cX body (ndV op fr to ab mac has fl) 0) (HF0:∀w,Calls Tryz.prog 158 #[.agg (ndV op fr to ab mac has fl).toArray] w fun e w'=>e=.returned (.tuple #[.agg (Value.string ⟨ipl.toArray⟩::u8v mac).toArray,.bool true])/\Below w.heap.size w w') (hg:grp mac=false):xC dst src 34525 body ipl mac true:=by
 have HG:=h_ (fun w=>gZ mac w)
 rw[hg]at HG
 intro w
 unfold ndV at HF0
 have HF:=h_ HF0
 clear HF0
 unfold bV
 unfold cX ndV at HP
 have K:=h_ HP
 clear HP
 go_enter Tryz.func128,Tryz.ntmps128
 go_wp2_with fail
 (with_reducible refine(K.out _).mono ?_)
 rintro e w1 ⟨rfl,b1⟩
 have z1:=b1.size
 simp at z1
 have rR:row w1 (w.heap.size+1)=(Value.string ⟨#[]⟩::u8v cF).toArray:=by rw[aA b1 (by simp)];simp[go_sem]
 have rB:row w1 (w.heap.size+1+1)=(Value.string ⟨#[]⟩::u8v cF).toArray:=by rw[aA b1 (by simp)];simp[go_sem]
 have B1:Below w.heap.size w w1:=Below.trans eD (b1.mono (by simp;omega))
 clear b1
 have q1:w.heap.size<w1.heap.size:=by omega
 have q2:w.heap.size+1<w1.heap.size:=by omega
 have q3:w.heap.size+1+1<w1.heap.size:=by omega
 go_wp2_with fail
 (with_reducible refine(HF.out _).mono ?_)
 rintro e w2 ⟨rfl,b2⟩
 have z2:=b2.size
 simp at z2
 have B2:Below w.heap.size w w2:=B1.trans (Below.trans (Below.alloc (Below.refl _ _) (by omega) _) (b2.mono (by simp;omega)))
 replace rR:row w2 (w.heap.size+1)=(Value.string ⟨#[]⟩::u8v cF).toArray:=by rw[aA b2 (by simp;omega),aD _ _ q2,rR]
 replace rB:row w2 (w.heap.size+1+1)=(Value.string ⟨#[]⟩::u8v cF).toArray:=by rw[aA b2 (by simp;omega),aD _ _ q3,rB]
 have p1:w.heap.size<w2.heap.size:=by omega
 have p2:w.heap.size+1<w2.heap.size:=by omega
 have p3:w.heap.size+1+1<w2.heap.size:=by omega
 clear b2
 obtain⟨w3,hw3⟩:∃x,w2.setRow (w.heap.size+1+1) (Value.string ⟨ipl.toArray⟩::u8v mac).toArray=x:=⟨_,rfl⟩
 have z3:w3.heap.size=w2.heap.size:=by rw[<-hw3,setRow_size]
 have B3:Below w.heap.size w w3:=by rw[<-hw3];exact Below.setRow B2 (by omega) _
 have rB3:row w3 (w.heap.size+1+1)=(Value.string ⟨ipl.toArray⟩::u8v mac).toArray:=by rw[<-hw3];exact aB (by rw[rB];simp) (by rw[rB];simp)
 have rR3:row w3 (w.heap.size+1)=(Value.string ⟨#[]⟩::u8v cF).toArray:=by rw[<-hw3,aC _ _ _ (by omega),rR]
 clear rR
 have rR:=rR3
 go_wp2_with fail
 clear hw3
 (with_reducible refine(HG.out _).mono ?_)
 rintro e w4 ⟨rfl,b4⟩
 have z4:=b4.size
 have B4:Below w.heap.size w w4:=B3.trans (b4.mono (by omega))
 replace rR:row w4 (w.heap.size+1)=(Value.string ⟨#[]⟩::u8v cF).toArray:=by rw[aA b4 (by omega),rR]
 have rB4:row w4 (w.heap.size+1+1)=(Value.string ⟨ipl.toArray⟩::u8v mac).toArray:=by rw[aA b4 (by omega),rB3]
 have p4:w.heap.size+1<w4.heap.size:=by omega
 have p5:w.heap.size+1+1<w4.heap.size:=by omega
 clear b4
 go_wp2_with fail
 have hfin:row ((w4).setRow (w.heap.size+1) (Value.string ⟨ipl.toArray⟩::u8v mac).toArray) (w.heap.size+1)=(Value.string ⟨ipl.toArray⟩::u8v mac).toArray:=aB (by simp[rR]) (by simp[rR])
 (try simp only[Exit.inBlock,Exit.then])
 refine bodyPost_ret (aS rfl (aK rfl ?_) aP) rfl ?_
 ·(try rw[aD _ _ (by simp;omega)])
  rw[hfin]
  try simp
 ·refine⟨by(try rw[aD _ _ (by simp;omega)]);rw[hfin];try simp,?_⟩
  first | exact Below.setRow B4 (by omega) _ | exact Below.alloc (Below.setRow B4 (by omega) _) (by simp;omega) _
end
structure AnnProg (dst src:Vector UInt8 6) (ty:Int) (body:List UInt8) (ip:List UInt8) (mac:Vector UInt8 6) (ok:Bool):Prop where
 prog:xC dst src ty body ip mac ok
 no:ok=false->ip=[]/\mac=cF
 len:ok=true->ip≠[]/\ip.length<=16/\grp mac=false/\(ip.length=4->ip≠List.replicate 4 0)
theorem aJv (dst src:Vector UInt8 6) (ty:Int) (body:List UInt8) (hb:body.length<=10000):∃ip mac ok,AnnProg dst src ty body ip mac ok:=by
 have no:xC dst src ty body [] cF false->∃ip mac ok,AnnProg dst src ty body ip mac ok:=fun h1=>⟨[],cF,false,h1,fun _=>⟨rfl,rfl⟩,fun h=>by cases h⟩
 have ne:∀{n:Nat} (v:Vector UInt8 (n+1)),v.toList≠[]:=fun v h=>by have:=congrArg List.length h;simp at this
 by_cases h1:(ty==2054)=true
 ·have e:ty=2054:=by simpa using h1
  subst e
  obtain⟨o,m,t,i,x,er,hP⟩:=aEg body hb
  by_cases he:(er==0)=true
  ·have e0:er=0:=by simpa using he
   subst e0
   by_cases hz:(i !=Vector.replicate 4 0)=true
   ·by_cases hg:grp m=true
    ·exact no (aBs _ _ _ o m t i x hP hz hg)
    ·have hg':grp m=false:=by simpa using hg
     exact⟨_,_,true,tW _ _ _ o m t i x hP hz hg',fun h=>(by cases h),fun _=>⟨ne _,by simp,hg',fun _ h=>by
      have e:i=Vector.replicate 4 0:=by
       apply Vector.toList_inj.1
       rw[h]
       rfl
      rw[e]at hz
      exact absurd hz (by simp)⟩⟩
   ·have hz':=Bool.eq_false_iff.2 hz
    exact no (yZ _ _ _ o m t i x hP hz')
  ·have he':=Bool.eq_false_iff.2 he
   exact no (aBr _ _ _ o m t i x er he' hP)
 have h1':=Bool.eq_false_iff.2 h1
 by_cases h2:(ty==34525)=true
 ·have e:ty=34525:=by simpa using h2
  subst e
  obtain⟨o,fr,to,ab,m,hs,fl,er,hB⟩:=aHN body hb
  by_cases he:(er==0)=true
  ·have e0:er=0:=by simpa using he
   subst e0
   obtain⟨ho,hm⟩:=hB.good rfl
   have hP:=hB.prog
   rcases ho with rfl | rfl
   ·cases hs with
    | false=>exact no (pZ _ _ _ _ _ _ _ _ _ _ _ hP (fun w=>aDs fr to ab m fl w))
    | true=>
     by_cases hz:(fr !=Vector.replicate 16 0)=true
     ·have HS:∀w,Calls Tryz.prog 158 #[.agg (ndV 1 fr to ab m true fl).toArray] w fun e w'=>e=.returned (.tuple #[.agg (Value.string ⟨fr.toList.toArray⟩::u8v m).toArray,.bool true])/\Below w.heap.size w w':=fun w=>by
       have:=yH fr to ab m fl w
       rw[hz]at this
       exact this
      by_cases hg:grp m=true
      ·exact no (vM _ _ _ _ _ _ _ _ _ _ _ hP HS hg)
      ·have hg':grp m=false:=by simpa using hg
       exact⟨_,_,true,p7 _ _ _ _ _ _ _ _ _ _ _ hP HS hg',fun h=>(by cases h),fun _=>⟨ne _,by simp,hg',fun h=>by simp at h⟩⟩
     ·have hz':=Bool.eq_false_iff.2 hz
      have HS:∀w,Calls Tryz.prog 158 #[.agg (ndV 1 fr to ab m true fl).toArray] w fun e w'=>e=.returned (.tuple #[.agg (Value.string ⟨fr.toList.toArray⟩::u8v m).toArray,.bool false])/\Below w.heap.size w w':=fun w=>by
       have:=yH fr to ab m fl w
       rw[hz']at this
       exact this
      exact no (pZ _ _ _ _ _ _ _ _ _ _ _ hP HS)
   ·cases hs with
    | false=>exact no (pZ _ _ _ _ _ _ _ _ _ _ _ hP (fun w=>pY 2 fr to ab m false fl w rfl))
    | true=>
     have HS:=fun w=>pY 2 fr to ab m true fl w rfl
     by_cases hg:grp m=true
     ·exact no (vM _ _ _ _ _ _ _ _ _ _ _ hP HS hg)
     ·have hg':grp m=false:=by simpa using hg
      exact⟨_,_,true,p7 _ _ _ _ _ _ _ _ _ _ _ hP HS hg',fun h=>(by cases h),fun _=>⟨ne _,by simp,hg',fun h=>by simp at h⟩⟩
  ·have he':=Bool.eq_false_iff.2 he
   exact no (aDt _ _ _ _ _ _ _ _ _ _ er he' hB.prog)
 have h2':=Bool.eq_false_iff.2 h2
 exact no (xI _ _ _ ty h1' h2')
end
section
open Go.ChangeShapes Go.WideShapes Go.ChangeAt Go.RowKit
def aFH:Vector UInt8 4:= #v[96,0,0,0]
@[go_sem] theorem aNp : (Value.int .u8 96 :: (aH 4 (Value.int .u8 0)).tail) = u8v aFH := rfl
theorem aB8 (op:Int) (fr t0 ab:Vector UInt8 16) (qm mac to:Vector UInt8 6) (has:Bool) (fl:Vector UInt8 4) (w:World):
  Calls Tryz.prog 133 #[.agg (.int .i64 op::(u8v fr++(u8v t0++(u8v ab++(u8v qm++(.bool has::u8v fl)))))).toArray,.agg (u8v mac).toArray,.agg (u8v to).toArray] w fun e w'=>e=.returned (.agg (bV to mac 34525 (ndS 2 ab fr ab mac true aFH)).toArray)/\Below w.heap.size w w':=by
 have Hp:∀w,Calls Tryz.prog 164 #[.agg (ndV 2 ab fr ab mac true aFH).toArray] w _:=fun w=>aDo ab fr ab mac aFH w
 unfold ndV at Hp
 obtain⟨b,hb⟩:∃b,ndS 2 ab fr ab mac true aFH=b:=⟨_,rfl⟩
 simp only[hb]at Hp ⊢
 have HP:=h_ Hp
 clear Hp hb
 have ra0:row ((((w.alloc (.cells (.int .i64 op::(u8v fr++(u8v t0++(u8v ab++(u8v qm++(.bool has::u8v fl)))))).toArray 263)).alloc (.cells (u8v mac).toArray 77)).alloc (.cells (u8v to).toArray 77)).alloc (.cells (aH 12 (Value.int .u8 0)++[Value.int .i64 0,.string ⟨#[]⟩]).toArray 158)) w.heap.size=(.int .i64 op::(u8v fr++(u8v t0++(u8v ab++(u8v qm++(.bool has::u8v fl)))))).toArray:=by simp[go_sem]
 have rb0:row ((((w.alloc (.cells (.int .i64 op::(u8v fr++(u8v t0++(u8v ab++(u8v qm++(.bool has::u8v fl)))))).toArray 263)).alloc (.cells (u8v mac).toArray 77)).alloc (.cells (u8v to).toArray 77)).alloc (.cells (aH 12 (Value.int .u8 0)++[Value.int .i64 0,.string ⟨#[]⟩]).toArray 158)) (w.heap.size+1)=(u8v mac).toArray:=by simp[go_sem]
 go_enter Tryz.func133,Tryz.ntmps133
 go_wp2_with fail
 (with_reducible refine(HP.out _).mono ?_)
 clear ra0 rb0
 rintro e w1 ⟨rfl,hb1⟩
 have z1:=(hb1).size
 try simp at z1
 have ra:row w1 (w.heap.size+1)=(u8v mac).toArray:=by rw[aA hb1 (by first | (simp;done) | (simp;omega) | omega)];simp[go_sem];(try rfl)
 have rb:row w1 (w.heap.size+1+1)=(u8v to).toArray:=by rw[aA hb1 (by first | (simp;done) | (simp;omega) | omega)];simp[go_sem];(try rfl)
 have rc:row w1 (w.heap.size+1+1+1)=(aH 12 (Value.int .u8 0)++[Value.int .i64 0,.string ⟨#[]⟩]).toArray:=by rw[aA hb1 (by first | (simp;done) | (simp;omega) | omega)];simp[go_sem];(try rfl)
 replace hb1:=cJ hb1 (show Below (w).heap.size w _ from by(repeat (first | exact Below.refl _ _ | refine Below.al ?_ _ | refine Below.drew ?_ | refine Below.sr ?_ _ | refine Below.sc ?_ _))) (by first | (simp;done) | (simp;omega) | omega)
 go_wp2_with fail
 have hfin:=aB (w:=w1) (g:=w.heap.size+1+1+1) (c:=(u8v to++(u8v mac++[Value.int .i64 34525,.string ⟨b.toArray⟩])).toArray) (by rw[rc];simp) (by rw[rc];simp)
 (try simp only[Exit.inBlock,Exit.then])
 refine bodyPost_ret (aV rfl (aK rfl ?_)) rfl ?_
 ·rw[hfin]
  simp
 refine⟨by rw[hfin];simp[bV],?_⟩
 refine Below.setRow hb1 (by first | (simp;done) | (simp;omega) | omega) _
end
section
open Go.RowKit
section
variable (dst src:Vector UInt8 6) (body:List UInt8) (w:World) (v:Int)
variable (op:Int) (fr to ab:Vector UInt8 16) (mac:Vector UInt8 6) (has:Bool) (fl:Vector UInt8 4) (er:Int)
theorem aDu (T:Addr) (HP:cX body (ndV op fr to ab mac has fl) er) (he:(er==0)=false):nH (some T) v dst src 34525 body w dP false:=by
 have he2:(er !=0)=true:=by rw[bne,he];rfl
 unfold nH
 try unfold dP
 unfold bV
 unfold cX ndV at HP
 have K:=h_ HP
 clear HP
 go_enter Tryz.func98,Tryz.ntmps98
 go_wp2_with fail
 (with_reducible refine(K.out _).mono ?_)
 rintro e w1 ⟨rfl,b1⟩
 have z1:=b1.size
 simp at z1
 have rF:row w1 w.heap.size=(u8v dst++(u8v src++[Value.int .i64 34525,Value.string ⟨body.toArray⟩])).toArray:=by rw[aA b1 (by simp;try omega)];simp[go_sem]
 have rR:row w1 (w.heap.size+1)=(aH 12 (Value.int .u8 0)++[Value.int .i64 0,Value.string ⟨#[]⟩]).toArray:=by rw[aA b1 (by simp;try omega)];simp[go_sem]
 have B1:Below w.heap.size w w1:=Below.trans eD (b1.mono (by simp;try omega))
 have q1:w.heap.size<w1.heap.size:=by omega
 have q2:w.heap.size+1<w1.heap.size:=by omega
 clear b1
 go_wp2_with fail
 have hfin:row ((w1).setRow (w.heap.size+1) (aH 12 (Value.int .u8 0)++[Value.int .i64 0,Value.string ⟨#[]⟩]).toArray) (w.heap.size+1)=(aH 12 (Value.int .u8 0)++[Value.int .i64 0,Value.string ⟨#[]⟩]).toArray:=aB (by simp[rR]) (by simp[rR])
 (try simp only[Exit.inBlock,Exit.then])
 refine bodyPost_ret (aS rfl (aK rfl ?_) aP) rfl ?_
 ·(try rw[aD _ _ (by simp;omega)])
  rw[hfin]
  try simp
 ·refine⟨by(try rw[aD _ _ (by simp;omega)]);rw[hfin];try simp,?_⟩
  first | exact Below.setRow B1 (by omega) _ | exact Below.alloc (Below.setRow B1 (by omega) _) (by simp;omega) _
theorem aFI (T:Addr) (HP:cX body (ndV op fr to ab mac has fl) 0) (h1:(op==1)=false):nH (some T) v dst src 34525 body w dP false:=by
 have he2:(op !=1)=true:=by rw[bne,h1];rfl
 unfold nH
 try unfold dP
 unfold bV
 unfold cX ndV at HP
 have K:=h_ HP
 clear HP
 go_enter Tryz.func98,Tryz.ntmps98
 go_wp2_with fail
 (with_reducible refine(K.out _).mono ?_)
 rintro e w1 ⟨rfl,b1⟩
 have z1:=b1.size
 simp at z1
 have rF:row w1 w.heap.size=(u8v dst++(u8v src++[Value.int .i64 34525,Value.string ⟨body.toArray⟩])).toArray:=by rw[aA b1 (by simp;try omega)];simp[go_sem]
 have rR:row w1 (w.heap.size+1)=(aH 12 (Value.int .u8 0)++[Value.int .i64 0,Value.string ⟨#[]⟩]).toArray:=by rw[aA b1 (by simp;try omega)];simp[go_sem]
 have B1:Below w.heap.size w w1:=Below.trans eD (b1.mono (by simp;try omega))
 have q1:w.heap.size<w1.heap.size:=by omega
 have q2:w.heap.size+1<w1.heap.size:=by omega
 clear b1
 go_wp2_with fail
 have hfin:row ((w1).setRow (w.heap.size+1) (aH 12 (Value.int .u8 0)++[Value.int .i64 0,Value.string ⟨#[]⟩]).toArray) (w.heap.size+1)=(aH 12 (Value.int .u8 0)++[Value.int .i64 0,Value.string ⟨#[]⟩]).toArray:=aB (by simp[rR]) (by simp[rR])
 (try simp only[Exit.inBlock,Exit.then])
 refine bodyPost_ret (aS rfl (aK rfl ?_) aP) rfl ?_
 ·(try rw[aD _ _ (by simp;omega)])
  rw[hfin]
  try simp
 ·refine⟨by(try rw[aD _ _ (by simp;omega)]);rw[hfin];try simp,?_⟩
  first | exact Below.setRow B1 (by omega) _ | exact Below.alloc (Below.setRow B1 (by omega) _) (by simp;omega) _
theorem aB9 (T:Addr) (HP:cX body (ndV 1 fr to ab mac has fl) 0) (h1:(fr==Vector.replicate 16 0)=true):nH (some T) v dst src 34525 body w dP false:=by
 unfold nH
 try unfold dP
 unfold bV
 unfold cX ndV at HP
 have K:=h_ HP
 clear HP
 go_enter Tryz.func98,Tryz.ntmps98
 go_wp2_with fail
 (with_reducible refine(K.out _).mono ?_)
 rintro e w1 ⟨rfl,b1⟩
 have z1:=b1.size
 simp at z1
 have rF:row w1 w.heap.size=(u8v dst++(u8v src++[Value.int .i64 34525,Value.string ⟨body.toArray⟩])).toArray:=by rw[aA b1 (by simp;try omega)];simp[go_sem]
 have rR:row w1 (w.heap.size+1)=(aH 12 (Value.int .u8 0)++[Value.int .i64 0,Value.string ⟨#[]⟩]).toArray:=by rw[aA b1 (by simp;try omega)];simp[go_sem]
 have B1:Below w.heap.size w w1:=Below.trans eD (b1.mono (by simp;try omega))
 have q1:w.heap.size<w1.heap.size:=by omega
 have q2:w.heap.size+1<w1.heap.size:=by omega
 clear b1
 go_wp2_with fail
 have hfin:row ((w1).setRow (w.heap.size+1) (aH 12 (Value.int .u8 0)++[Value.int .i64 0,Value.string ⟨#[]⟩]).toArray) (w.heap.size+1)=(aH 12 (Value.int .u8 0)++[Value.int .i64 0,Value.string ⟨#[]⟩]).toArray:=aB (by simp[rR]) (by simp[rR])
 (try simp only[Exit.inBlock,Exit.then])
 refine bodyPost_ret (aS rfl (aK rfl ?_) aP) rfl ?_
 ·(try rw[aD _ _ (by simp;omega)])
  rw[hfin]
  try simp
 ·refine⟨by(try rw[aD _ _ (by simp;omega)]);rw[hfin];try simp,?_⟩
  first | exact Below.setRow B1 (by omega) _ | exact Below.alloc (Below.setRow B1 (by omega) _) (by simp;omega) _
theorem aCa {A M:Nat} {time:Int} {m:List HB} (h:HushT w A M time m) (HP:cX body (ndV 1 fr to ab mac has fl) 0) (h1:(fr==Vector.replicate 16 0)=false) (hf:eT v ab.toList m=(cF,false)):nH (some ⟨A,0,none⟩) v dst src 34525 body w dP false:=by
 have HF:=h_ (fun(w:World) (h:HushT w A M time m)=>nX v ab.toList w h)
 have hA:=h.lt
 have hM:=h.ok.lt
 unfold nH
 try unfold dP
 unfold bV
 unfold cX ndV at HP
 have K:=h_ HP
 clear HP
 go_enter Tryz.func98,Tryz.ntmps98
 go_wp2_with fail
 (with_reducible refine(K.out _).mono ?_)
 rintro e w1 ⟨rfl,b1⟩
 have z1:=b1.size
 simp at z1
 have rF:row w1 w.heap.size=(u8v dst++(u8v src++[Value.int .i64 34525,Value.string ⟨body.toArray⟩])).toArray:=by rw[aA b1 (by simp;try omega)];simp[go_sem]
 have rR:row w1 (w.heap.size+1)=(aH 12 (Value.int .u8 0)++[Value.int .i64 0,Value.string ⟨#[]⟩]).toArray:=by rw[aA b1 (by simp;try omega)];simp[go_sem]
 have B1:Below w.heap.size w w1:=Below.trans eD (b1.mono (by simp;try omega))
 have q1:w.heap.size<w1.heap.size:=by omega
 have q2:w.heap.size+1<w1.heap.size:=by omega
 clear b1
 have h1T:=h.below B1 hA hM
 obtain⟨w2,hw2⟩:∃x,w1.alloc (.cells (Value.int .i64 1::(u8v fr++(u8v to++(u8v ab++(u8v mac++(Value.bool has::u8v fl)))))).toArray 263)=x:=⟨_,rfl⟩
 have z2:w2.heap.size=w1.heap.size+1:=by rw[<-hw2];simp
 have b12:Below w1.heap.size w1 w2:=by rw[<-hw2];exact Below.alloc (Below.refl _ _) (by omega) _
 have rA2:row w2 w1.heap.size=(Value.int .i64 1::(u8v fr++(u8v to++(u8v ab++(u8v mac++(Value.bool has::u8v fl)))))).toArray:=by rw[<-hw2];simp[go_sem]
 have B2:Below w.heap.size w w2:=B1.trans (b12.mono (by omega))
 have h2T:=h.below B2 hA hM
 replace rF:=(aA b12 (by omega)).trans rF
 replace rR:=(aA b12 (by omega)).trans rR
 have q3:w1.heap.size<w2.heap.size:=by omega
 clear b12 h h1T
 go_wp2_with fail
 clear hw2
 (with_reducible refine(HF.out _ h2T).mono ?_)
 rintro e w3 ⟨rfl,b3⟩
 rw[hf]
 have z3:=b3.size
 replace rF:=(aA b3 (by omega)).trans rF
 replace rR:=(aA b3 (by omega)).trans rR
 replace rA2:=(aA b3 (by omega)).trans rA2
 have B3:Below w.heap.size w w3:=B2.trans (b3.mono (by omega))
 have p1:w.heap.size<w3.heap.size:=by omega
 have p2:w.heap.size+1<w3.heap.size:=by omega
 have p3:w1.heap.size<w3.heap.size:=by omega
 clear b3 q1 q2 q3
 go_wp2_with fail
 have hfin:row ((w3).setRow (w.heap.size+1) (aH 12 (Value.int .u8 0)++[Value.int .i64 0,Value.string ⟨#[]⟩]).toArray) (w.heap.size+1)=(aH 12 (Value.int .u8 0)++[Value.int .i64 0,Value.string ⟨#[]⟩]).toArray:=aB (by simp[rR]) (by simp[rR])
 (try simp only[Exit.inBlock,Exit.then])
 refine bodyPost_ret (aS rfl (aK rfl ?_) aP) rfl ?_
 ·(try rw[aD _ _ (by simp;omega)])
  rw[hfin]
  try simp
 ·refine⟨by(try rw[aD _ _ (by simp;omega)]);rw[hfin];try simp,?_⟩
  first | exact Below.setRow B3 (by omega) _ | exact Below.alloc (Below.setRow B3 (by omega) _) (by simp;omega) _
theorem aCb {A M:Nat} {time:Int} {m:List HB} (h:HushT w A M time m) (HP:cX body (ndV 1 fr to ab mac has fl) 0) (h1:(fr==Vector.replicate 16 0)=false) (who:Vector UInt8 6) (hf:eT v ab.toList m=(who,true)):nH (some ⟨A,0,none⟩) v dst src 34525 body w (bV src who 34525 (ndS 2 ab fr ab who true aFH)) true:=by
 have HN0:=fun w=>aB8 1 fr to ab mac who src has fl w
 unfold bV at HN0
 obtain⟨S,hS⟩:∃x,ndS 2 ab fr ab who true aFH=x:=⟨_,rfl⟩
 rw[hS]
 simp only[hS]at HN0
 clear hS
 have HN:=h_ HN0
 clear HN0
 have HF:=h_ (fun(w:World) (h:HushT w A M time m)=>nX v ab.toList w h)
 have hA:=h.lt
 have hM:=h.ok.lt
 unfold nH
 try unfold dP
 unfold bV
 unfold cX ndV at HP
 have K:=h_ HP
 clear HP
 go_enter Tryz.func98,Tryz.ntmps98
 go_wp2_with fail
 (with_reducible refine(K.out _).mono ?_)
 rintro e w1 ⟨rfl,b1⟩
 have z1:=b1.size
 simp at z1
 have rF:row w1 w.heap.size=(u8v dst++(u8v src++[Value.int .i64 34525,Value.string ⟨body.toArray⟩])).toArray:=by rw[aA b1 (by simp;try omega)];simp[go_sem]
 have rR:row w1 (w.heap.size+1)=(aH 12 (Value.int .u8 0)++[Value.int .i64 0,Value.string ⟨#[]⟩]).toArray:=by rw[aA b1 (by simp;try omega)];simp[go_sem]
 have B1:Below w.heap.size w w1:=Below.trans eD (b1.mono (by simp;try omega))
 have q1:w.heap.size<w1.heap.size:=by omega
 have q2:w.heap.size+1<w1.heap.size:=by omega
 clear b1
 have h1T:=h.below B1 hA hM
 obtain⟨w2,hw2⟩:∃x,w1.alloc (.cells (Value.int .i64 1::(u8v fr++(u8v to++(u8v ab++(u8v mac++(Value.bool has::u8v fl)))))).toArray 263)=x:=⟨_,rfl⟩
 have z2:w2.heap.size=w1.heap.size+1:=by rw[<-hw2];simp
 have b12:Below w1.heap.size w1 w2:=by rw[<-hw2];exact Below.alloc (Below.refl _ _) (by omega) _
 have rA2:row w2 w1.heap.size=(Value.int .i64 1::(u8v fr++(u8v to++(u8v ab++(u8v mac++(Value.bool has::u8v fl)))))).toArray:=by rw[<-hw2];simp[go_sem]
 have B2:Below w.heap.size w w2:=B1.trans (b12.mono (by omega))
 have h2T:=h.below B2 hA hM
 replace rF:=(aA b12 (by omega)).trans rF
 replace rR:=(aA b12 (by omega)).trans rR
 have q3:w1.heap.size<w2.heap.size:=by omega
 clear b12 h h1T
 go_wp2_with fail
 clear hw2
 (with_reducible refine(HF.out _ h2T).mono ?_)
 rintro e w3 ⟨rfl,b3⟩
 rw[hf]
 have z3:=b3.size
 replace rF:=(aA b3 (by omega)).trans rF
 replace rR:=(aA b3 (by omega)).trans rR
 replace rA2:=(aA b3 (by omega)).trans rA2
 have B3:Below w.heap.size w w3:=B2.trans (b3.mono (by omega))
 have p1:w.heap.size<w3.heap.size:=by omega
 have p2:w.heap.size+1<w3.heap.size:=by omega
 have p3:w1.heap.size<w3.heap.size:=by omega
 clear b3 q1 q2 q3
 go_wp2_with fail
 (with_reducible refine(HN.out _).mono ?_)
 rintro e w4 ⟨rfl,b4⟩
 have z4:=b4.size
 simp at z4
 replace rF:=((aA b4 (by simp;omega)).trans (aD _ _ p1)).trans rF
 replace rR:=((aA b4 (by simp;omega)).trans (aD _ _ p2)).trans rR
 have B4:Below w.heap.size w w4:=B3.trans (Below.trans (Below.alloc (Below.refl _ _) (by omega) _) (b4.mono (by simp;omega)))
 have q1:w.heap.size<w4.heap.size:=by omega
 have q2:w.heap.size+1<w4.heap.size:=by omega
 clear b4 p1 p2 p3 rA2
 go_wp2_with fail
 have hfin:row ((w4).setRow (w.heap.size+1) (u8v src++(u8v who++[Value.int .i64 34525,Value.string ⟨S.toArray⟩])).toArray) (w.heap.size+1)=(u8v src++(u8v who++[Value.int .i64 34525,Value.string ⟨S.toArray⟩])).toArray:=aB (by simp[rR]) (by simp[rR])
 (try simp only[Exit.inBlock,Exit.then])
 refine bodyPost_ret (aS rfl (aK rfl ?_) aP) rfl ?_
 ·(try rw[aD _ _ (by simp;omega)])
  rw[hfin]
  try simp
 ·refine⟨by(try rw[aD _ _ (by simp;omega)]);rw[hfin];try simp,?_⟩
  first | exact Below.setRow B4 (by omega) _ | exact Below.alloc (Below.setRow B4 (by omega) _) (by simp;omega) _
end
theorem aHO (dst src:Vector UInt8 6) (ty:Int) (body:List UInt8) (hb:body.length<=10000):
  (∀(w:World) (T:Addr) (v:Int),nH (some T) v dst src ty body w dP false)∨∃ip ans,Asks dst src ty body ip ans:=by
 by_cases h1:(ty==2054)=true
 ·have e:ty=2054:=by simpa using h1
  subst e
  obtain⟨o,m,t,i,x,er,hP⟩:=aEg body hb
  by_cases he:(er==0)=true
  ·have e0:er=0:=by simpa using he
   subst e0
   by_cases ho:(o==1)=true
   ·have e1:o=1:=by simpa using ho
    subst e1
    by_cases hx:(x==i)=true
    ·exact .inl fun w T v=>aBu _ _ _ w v m t i x T hP hx
    ·have hx':=Bool.eq_false_iff.2 hx
     refine .inr ⟨x.toList,fun who=>kL 2 who m x i,?_⟩
     refine⟨fun v h hf=>y6 _ _ _ _ v m t i x h hP hx' hf,fun v who h hf=>y7 _ _ _ _ v m t i x h hP hx' who hf,?_,fun who=>by simp[kL],.inl rfl,.inl (by simp)⟩
     intro who hg hz
     have hz2:(x !=Vector.replicate 4 0)=true:=by
      rw[bne_iff_ne]
      intro h
      subst h
      exact hz (by simp) rfl
     exact tW src who (kL 2 who m x i) 2 who m x i (fun w=>aAD 2 who m x i w (.inr rfl)) hz2 hg
   ·have ho':=Bool.eq_false_iff.2 ho
    exact .inl fun w T v=>aCH _ _ _ w v o m t i x T hP ho'
  ·have he':=Bool.eq_false_iff.2 he
   exact .inl fun w T v=>aBt _ _ _ w v o m t i x er T hP he'
 have h1':=Bool.eq_false_iff.2 h1
 by_cases h2:(ty==34525)=true
 ·have e:ty=34525:=by simpa using h2
  subst e
  obtain⟨o,fr,to,ab,m,hs,fl,er,hB⟩:=aHN body hb
  have hP:=hB.prog
  by_cases he:(er==0)=true
  ·have e0:er=0:=by simpa using he
   subst e0
   by_cases ho:((o:Int)==1)=true
   ·have e1:o=1:=by simp at ho;omega
    subst e1
    by_cases hx:(fr==Vector.replicate 16 0)=true
    ·exact .inl fun w T v=>aB9 _ _ _ w v _ _ _ _ _ _ T hP hx
    ·have hx':=Bool.eq_false_iff.2 hx
     refine .inr ⟨ab.toList,fun who=>ndS 2 ab fr ab who true aFH,?_⟩
     refine⟨fun v h hf=>aCa _ _ _ _ v _ _ _ _ _ _ h hP hx' hf,fun v who h hf=>aCb _ _ _ _ v _ _ _ _ _ _ h hP hx' who hf,?_,fun who=>by rw[yG];simp[szN],.inr rfl,.inr (by simp)⟩
     intro who hg hz
     have hp:cX (ndS 2 ab fr ab who true aFH) (ndV 2 ab fr ab who true aFH) 0:=fun w=>by
      have:=pV ab fr ab who aFH [] w (by simp)
      rw[List.append_nil]at this
      exact this
     exact p7 src who _ 2 ab fr ab who true aFH ab.toList hp (fun w=>pY 2 ab fr ab who true aFH w rfl) hg
   ·have ho':=Bool.eq_false_iff.2 ho
    exact .inl fun w T v=>aFI _ _ _ w v o _ _ _ _ _ _ T hP ho'
  ·have he':=Bool.eq_false_iff.2 he
   exact .inl fun w T v=>aDu _ _ _ w v o _ _ _ _ _ _ er T hP he'
 have h2':=Bool.eq_false_iff.2 h2
 exact .inl fun w T v=>xJ _ _ _ w v T ty h1' h2'
end
end Go.Proofs.YtiagbbknkdgmeaaGreat
