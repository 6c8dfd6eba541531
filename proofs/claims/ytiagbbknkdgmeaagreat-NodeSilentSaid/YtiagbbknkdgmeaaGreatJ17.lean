/- Texts of this proof, merged: HusA, HusB, HusQ, HusX. -/
import Derived.Test.YtiagbbknkdgmeaaGreatJ15
import Derived.Test.YtiagbbknkdgmeaaGreatJ14
import Derived.Test.YtiagbbknkdgmeaaGreatJ16
set_option linter.unusedSimpArgs false
set_option linter.unusedVariables false
set_option maxHeartbeats 8000000
set_option maxRecDepth 20000
namespace Go.Proofs.YtiagbbknkdgmeaaGreat
section
open Go.RowKit
@[simp, go_sem] theorem aM0 : aH 6 (Value.int .u8 0) = u8v cF := rfl
def grp (mac:Vector UInt8 6):Bool:=mac[0].toNat%2==1
theorem aM1 (b:UInt8):bits .and .u8 (b.toNat:Int) 1=((b.toNat%2:Nat):Int):=by
 have h:∀n:Fin 256,bits .and .u8 (n.val:Int) 1=((n.val%2:Nat):Int):=by decide+kernel
 exact h ⟨b.toNat,b.toNat_lt⟩
theorem gZ (mac:Vector UInt8 6) (w:World):Calls Tryz.prog 95 #[.agg (u8v mac).toArray] w fun e w'=>e=.returned (.bool (grp mac))/\Below w.heap.size w w':=by
 have h1:=aM1 mac[0]
 obtain⟨n,hn⟩:∃n,mac[0].toNat%2=n:=⟨_,rfl⟩
 have hn2:n<2:=by rw[<-hn];exact Nat.mod_lt _ (by decide)
 rw[hn]at h1
 have hg:grp mac=(((n:Int))==1):=by
  rw[grp,hn]
  by_cases e:n=1
  ·subst e;rfl
  ·have:¬(n:Int)=1:=by omega
   rw[beq_eq_false_iff_ne.2 e,beq_eq_false_iff_ne.2 this]
 rw[hg]
 have e0:(u8v mac)[0]'(by simp)=Value.int .u8 (mac[0].toNat:Int):=by simp[u8v,u8s]
 clear hg hn
 go_enter Tryz.func95,Tryz.ntmps95
 go_wp2_with fail
 go_ret
 refine⟨by simp,?_⟩
 (repeat (first | exact Below.refl _ _ | refine Below.al ?_ _ | refine Below.drew ?_ | refine Below.sr ?_ _ | refine Below.sc ?_ _))
theorem tV (op:Int) (mac tgt:Vector UInt8 6) (ip want:Vector UInt8 4) (w:World):
  Calls Tryz.prog 157 #[.agg (lQ op mac tgt ip want).toArray] w fun e w'=>e=.returned (.tuple #[.agg (Value.string ⟨ip.toList.toArray⟩::u8v mac).toArray,.bool (ip !=Vector.replicate 4 0)])/\Below w.heap.size w w':=by
 unfold lQ
 go_enter Tryz.func157,Tryz.ntmps157
 go_wp2_with fail
 obtain⟨W,hW⟩:∃x,(w.alloc (.cells (Value.int .i64 op::(u8v mac++(u8v tgt++(u8v ip++u8v want)))).toArray 255)).alloc (.cells (Value.string ⟨#[]⟩::u8v cF).toArray 249)=x:=⟨_,rfl⟩
 have rA:row W w.heap.size=(Value.int .i64 op::(u8v mac++(u8v tgt++(u8v ip++u8v want)))).toArray:=by rw[<-hW];simp[go_sem]
 have rB:row W (w.heap.size+1)=(Value.string ⟨#[]⟩::u8v cF).toArray:=by rw[<-hW];simp[go_sem]
 have zW:W.heap.size=w.heap.size+2:=by rw[<-hW];simp
 have bW:Below w.heap.size w W:=by
  rw[<-hW]
  (repeat (first | exact Below.refl _ _ | refine Below.al ?_ _ | refine Below.drew ?_ | refine Below.sr ?_ _ | refine Below.sc ?_ _))
 rw[hW]
 clear hW
 refine jY [(w.heap.size,(Value.int .i64 op::(u8v mac++(u8v tgt++(u8v ip++u8v want)))).toArray)] (fun hS=>?_)
 refine qp 0 hS ?_
 refine qp 1 hS ?_
 refine qp 2 hS ?_
 refine qp 3 hS ?_
 refine qp 4 hS ?_
 refine qp 5 hS ?_
 refine qp 6 hS ?_
 refine qp 7 hS ?_
 refine qp 8 hS ?_
 refine qp 9 hS ?_
 have rd:row W.drew (w.heap.size+1)=(Value.string ⟨#[]⟩::u8v cF).toArray:=rB
 refine bI (i:=10) (b:=(w.heap.size+1)) (c:=(Value.string ⟨ip.toList.toArray⟩::u8v mac).toArray) cD rfl rfl kr_ (by simp;(try omega)) hS (by rw[rd];simp;(try omega)) (fun w1 hr=>by rw[rd]at hr;go_simp;(try rfl)) (fun u1 hu1 ru1 hS=>?_)
 refine qp 11 hS ?_
 refine aG kr_ (fun w2 b2=>?_) _
 have z1:W.heap.size<=u1.heap.size:=hu1.size
 have z2:=b2.size
 rw[setRow_size]at z2
 have r2:row w2 (w.heap.size+1)=(Value.string ⟨ip.toList.toArray⟩::u8v mac).toArray:=by rw[aA b2 (by rw[setRow_size];omega)];exact aB (by rw[ru1,rd];simp) (by rw[ru1,rd];simp)
 have b3:Below w.heap.size w w2:=Below.trans (Below.setRow (Below.trans bW ((aL (Below.drew (Below.refl _ _)) hu1).mono (by omega))) (by omega) _) (b2.mono (by rw[setRow_size];omega))
 clear b2 hu1 ru1 rd hS
 go_wp2_with fail
 refine bodyPost_ret (aS rfl (aK rfl ?_) aP) rfl ?_
 ·rw[r2];simp
 ·exact⟨by rw[r2];simp[bne],b3⟩
end
section
open Go.RowKit
section
variable (dst src:Vector UInt8 6) (body:List UInt8)
theorem xI (ty:Int) (h1:(ty==2054)=false) (h2:(ty==34525)=false):xC dst src ty body [] cF false:=by
 intro w
 unfold bV
 go_enter Tryz.func128,Tryz.ntmps128
 go_wp2_with fail
 ((try simp only[Exit.inBlock,Exit.then]);refine bodyPost_ret (aS rfl (aK rfl ?_) aP) rfl ?_;(simp[go_sem]))
 refine⟨by simp[go_sem],?_⟩
 (repeat (first | exact Below.refl _ _ | refine Below.al ?_ _ | refine Below.drew ?_ | refine Below.sr ?_ _ | refine Below.sc ?_ _))
variable (op:Int) (mac tgt:Vector UInt8 6) (ip want:Vector UInt8 4)
theorem aBr (er:Int) (he:(er==0)=false) (HP:∀w,Calls Tryz.prog 129 #[.string ⟨body.toArray⟩] w fun e w'=>e=.returned (.tuple #[.agg (lQ op mac tgt ip want).toArray,.int .i64 er])/\Below w.heap.size w w'):
  xC dst src 2054 body [] cF false:=by
 intro w
 unfold bV
 unfold lQ at HP
 have K:=h_ HP
 clear HP
 go_enter Tryz.func128,Tryz.ntmps128
 go_wp2_with fail
 (with_reducible refine(K.out _).mono ?_)
 rintro e w1 ⟨rfl,b1⟩
 have z1:=b1.size
 simp at z1
 have rR:row w1 (w.heap.size+1)=(Value.string ⟨#[]⟩::u8v cF).toArray:=by rw[aA b1 (by simp)];simp[go_sem]
 have rB:row w1 (w.heap.size+1+1)=(Value.string ⟨#[]⟩::u8v cF).toArray:=by rw[aA b1 (by simp)];simp[go_sem]
 have B1:Below w.heap.size w w1:=Below.trans eD (b1.mono (by simp;omega))
 clear b1
 have q1:w.heap.size<w1.heap.size:=by omega
 have q2:w.heap.size+1<w1.heap.size:=by omega
 have q3:w.heap.size+1+1<w1.heap.size:=by omega
 go_wp2_with fail
 have hfin:row ((w1).setRow (w.heap.size+1) (Value.string ⟨#[]⟩::u8v cF).toArray) (w.heap.size+1)=(Value.string ⟨#[]⟩::u8v cF).toArray:=aB (by simp[rR]) (by simp[rR])
 (try simp only[Exit.inBlock,Exit.then])
 refine bodyPost_ret (aS rfl (aK rfl ?_) aP) rfl ?_
 ·(try rw[aD _ _ (by simp;omega)])
  rw[hfin]
  try simp
 ·refine⟨by(try rw[aD _ _ (by simp;omega)]);rw[hfin];try simp,?_⟩
  first | exact Below.setRow B1 (by omega) _ | exact Below.alloc (Below.setRow B1 (by omega) _) (by simp;omega) _
theorem yZ (HP:∀w,Calls Tryz.prog 129 #[.string ⟨body.toArray⟩] w fun e w'=>e=.returned (.tuple #[.agg (lQ op mac tgt ip want).toArray,.int .i64 0])/\Below w.heap.size w w') (hz:(ip !=Vector.replicate 4 0)=false):xC dst src 2054 body [] cF false:=by
 intro w
 have HF:=h_ (fun w=>tV op mac tgt ip want w)
 unfold bV
 unfold lQ at HP HF
 have K:=h_ HP
 clear HP
 go_enter Tryz.func128,Tryz.ntmps128
 go_wp2_with fail
 (with_reducible refine(K.out _).mono ?_)
 rintro e w1 ⟨rfl,b1⟩
 have z1:=b1.size
 simp at z1
 have rR:row w1 (w.heap.size+1)=(Value.string ⟨#[]⟩::u8v cF).toArray:=by rw[aA b1 (by simp)];simp[go_sem]
 have rB:row w1 (w.heap.size+1+1)=(Value.string ⟨#[]⟩::u8v cF).toArray:=by rw[aA b1 (by simp)];simp[go_sem]
 have B1:Below w.heap.size w w1:=Below.trans eD (b1.mono (by simp;omega))
 clear b1
 have q1:w.heap.size<w1.heap.size:=by omega
 have q2:w.heap.size+1<w1.heap.size:=by omega
 have q3:w.heap.size+1+1<w1.heap.size:=by omega
 go_wp2_with fail
 (with_reducible refine(HF.out _).mono ?_)
 rintro e w2 ⟨rfl,b2⟩
 have z2:=b2.size
 simp at z2
 have B2:Below w.heap.size w w2:=B1.trans (Below.trans (Below.alloc (Below.refl _ _) (by omega) _) (b2.mono (by simp;omega)))
 replace rR:row w2 (w.heap.size+1)=(Value.string ⟨#[]⟩::u8v cF).toArray:=by rw[aA b2 (by simp;omega),aD _ _ q2,rR]
 replace rB:row w2 (w.heap.size+1+1)=(Value.string ⟨#[]⟩::u8v cF).toArray:=by rw[aA b2 (by simp;omega),aD _ _ q3,rB]
 have p1:w.heap.size<w2.heap.size:=by omega
 have p2:w.heap.size+1<w2.heap.size:=by omega
 have p3:w.heap.size+1+1<w2.heap.size:=by omega
 clear b2
 obtain⟨w3,hw3⟩:∃x,w2.setRow (w.heap.size+1+1) (Value.string ⟨ip.toList.toArray⟩::u8v mac).toArray=x:=⟨_,rfl⟩
 have z3:w3.heap.size=w2.heap.size:=by rw[<-hw3,setRow_size]
 have B3:Below w.heap.size w w3:=by rw[<-hw3];exact Below.setRow B2 (by omega) _
 have rB3:row w3 (w.heap.size+1+1)=(Value.string ⟨ip.toList.toArray⟩::u8v mac).toArray:=by rw[<-hw3];exact aB (by rw[rB];simp) (by rw[rB];simp)
 have rR3:row w3 (w.heap.size+1)=(Value.string ⟨#[]⟩::u8v cF).toArray:=by rw[<-hw3,aC _ _ _ (by omega),rR]
 rw[hz]
 clear rR
 have rR:=rR3
 go_wp2_with fail
 clear hw3
 have hfin:row ((w3).setRow (w.heap.size+1) (Value.string ⟨#[]⟩::u8v cF).toArray) (w.heap.size+1)=(Value.string ⟨#[]⟩::u8v cF).toArray:=aB (by simp[rR]) (by simp[rR])
 (try simp only[Exit.inBlock,Exit.then])
 refine bodyPost_ret (aS rfl (aK rfl ?_) aP) rfl ?_
 ·(try rw[aD _ _ (by simp;omega)])
  rw[hfin]
  try simp
 ·refine⟨by(try rw[aD _ _ (by simp;omega)]);rw[hfin];try simp,?_⟩
  first | exact Below.setRow B3 (by omega) _ | exact Below.alloc (Below.setRow B3 (by omega) _) (by simp;omega) _
theorem aBs (HP:∀w,Calls Tryz.prog 129 #[.string ⟨body.toArray⟩] w fun e w'=>e=.returned (.tuple #[.agg (lQ op mac tgt ip want).toArray,.int .i64 0])/\Below w.heap.size w w') (hz:(ip !=Vector.replicate 4 0)=true) (hg:grp mac=true):xC dst src 2054 body [] cF false:=by
 have HG:=h_ (fun w=>gZ mac w)
 rw[hg]at HG
 intro w
 have HF:=h_ (fun w=>tV op mac tgt ip want w)
 unfold bV
 unfold lQ at HP HF
 have K:=h_ HP
 clear HP
 go_enter Tryz.func128,Tryz.ntmps128
 go_wp2_with fail
 (with_reducible refine(K.out _).mono ?_)
 rintro e w1 ⟨rfl,b1⟩
 have z1:=b1.size
 simp at z1
 have rR:row w1 (w.heap.size+1)=(Value.string ⟨#[]⟩::u8v cF).toArray:=by rw[aA b1 (by simp)];simp[go_sem]
 have rB:row w1 (w.heap.size+1+1)=(Value.string ⟨#[]⟩::u8v cF).toArray:=by rw[aA b1 (by simp)];simp[go_sem]
 have B1:Below w.heap.size w w1:=Below.trans eD (b1.mono (by simp;omega))
 clear b1
 have q1:w.heap.size<w1.heap.size:=by omega
 have q2:w.heap.size+1<w1.heap.size:=by omega
 have q3:w.heap.size+1+1<w1.heap.size:=by omega
 go_wp2_with fail
 (with_reducible refine(HF.out _).mono ?_)
 rintro e w2 ⟨rfl,b2⟩
 have z2:=b2.size
 simp at z2
 have B2:Below w.heap.size w w2:=B1.trans (Below.trans (Below.alloc (Below.refl _ _) (by omega) _) (b2.mono (by simp;omega)))
 replace rR:row w2 (w.heap.size+1)=(Value.string ⟨#[]⟩::u8v cF).toArray:=by rw[aA b2 (by simp;omega),aD _ _ q2,rR]
 replace rB:row w2 (w.heap.size+1+1)=(Value.string ⟨#[]⟩::u8v cF).toArray:=by rw[aA b2 (by simp;omega),aD _ _ q3,rB]
 have p1:w.heap.size<w2.heap.size:=by omega
 have p2:w.heap.size+1<w2.heap.size:=by omega
 have p3:w.heap.size+1+1<w2.heap.size:=by omega
 clear b2
 obtain⟨w3,hw3⟩:∃x,w2.setRow (w.heap.size+1+1) (Value.string ⟨ip.toList.toArray⟩::u8v mac).toArray=x:=⟨_,rfl⟩
 have z3:w3.heap.size=w2.heap.size:=by rw[<-hw3,setRow_size]
 have B3:Below w.heap.size w w3:=by rw[<-hw3];exact Below.setRow B2 (by omega) _
 have rB3:row w3 (w.heap.size+1+1)=(Value.string ⟨ip.toList.toArray⟩::u8v mac).toArray:=by rw[<-hw3];exact aB (by rw[rB];simp) (by rw[rB];simp)
 have rR3:row w3 (w.heap.size+1)=(Value.string ⟨#[]⟩::u8v cF).toArray:=by rw[<-hw3,aC _ _ _ (by omega),rR]
 rw[hz]
 clear rR
 have rR:=rR3
 go_wp2_with fail
 clear hw3
 (with_reducible refine(HG.out _).mono ?_)
 rintro e w4 ⟨rfl,b4⟩
 have z4:=b4.size
 have B4:Below w.heap.size w w4:=B3.trans (b4.mono (by omega))
 replace rR:row w4 (w.heap.size+1)=(Value.string ⟨#[]⟩::u8v cF).toArray:=by rw[aA b4 (by omega),rR]
 have p4:w.heap.size+1<w4.heap.size:=by omega
 clear b4
 go_wp2_with fail
 have hfin:row ((w4).setRow (w.heap.size+1) (Value.string ⟨#[]⟩::u8v cF).toArray) (w.heap.size+1)=(Value.string ⟨#[]⟩::u8v cF).toArray:=aB (by simp[rR]) (by simp[rR])
 (try simp only[Exit.inBlock,Exit.then])
 refine bodyPost_ret (aS rfl (aK rfl ?_) aP) rfl ?_
 ·(try rw[aD _ _ (by simp;omega)])
  rw[hfin]
  try simp
 ·refine⟨by(try rw[aD _ _ (by simp;omega)]);rw[hfin];try simp,?_⟩
  first | exact Below.setRow B4 (by omega) _ | exact Below.alloc (Below.setRow B4 (by omega) _) (by simp;omega) _
theorem tW (HP:∀w,Calls Tryz.prog 129 #[.string ⟨body.toArray⟩] w fun e w'=>e=.returned (.tuple #[.agg (lQ op mac tgt ip want).toArray,.int .i64 0])/\Below w.heap.size w w') (hz:(ip !=Vector.replicate 4 0)=true) (hg:grp mac=false):xC dst src 2054 body ip.toList mac true:=by
 have HG:=h_ (fun w=>gZ mac w)
 rw[hg]at HG
 intro w
 have HF:=h_ (fun w=>tV op mac tgt ip want w)
 unfold bV
 unfold lQ at HP HF
 have K:=h_ HP
 clear HP
 go_enter Tryz.func128,Tryz.ntmps128
 go_wp2_with fail
 (with_reducible refine(K.out _).mono ?_)
 rintro e w1 ⟨rfl,b1⟩
 have z1:=b1.size
 simp at z1
 have rR:row w1 (w.heap.size+1)=(Value.string ⟨#[]⟩::u8v cF).toArray:=by rw[aA b1 (by simp)];simp[go_sem]
 have rB:row w1 (w.heap.size+1+1)=(Value.string ⟨#[]⟩::u8v cF).toArray:=by rw[aA b1 (by simp)];simp[go_sem]
 have B1:Below w.heap.size w w1:=Below.trans eD (b1.mono (by simp;omega))
 clear b1
 have q1:w.heap.size<w1.heap.size:=by omega
 have q2:w.heap.size+1<w1.heap.size:=by omega
 have q3:w.heap.size+1+1<w1.heap.size:=by omega
 go_wp2_with fail
 (with_reducible refine(HF.out _).mono ?_)
 rintro e w2 ⟨rfl,b2⟩
 have z2:=b2.size
 simp at z2
 have B2:Below w.heap.size w w2:=B1.trans (Below.trans (Below.alloc (Below.refl _ _) (by omega) _) (b2.mono (by simp;omega)))
 replace rR:row w2 (w.heap.size+1)=(Value.string ⟨#[]⟩::u8v cF).toArray:=by rw[aA b2 (by simp;omega),aD _ _ q2,rR]
 replace rB:row w2 (w.heap.size+1+1)=(Value.string ⟨#[]⟩::u8v cF).toArray:=by rw[aA b2 (by simp;omega),aD _ _ q3,rB]
 have p1:w.heap.size<w2.heap.size:=by omega
 have p2:w.heap.size+1<w2.heap.size:=by omega
 have p3:w.heap.size+1+1<w2.heap.size:=by omega
 clear b2
 obtain⟨w3,hw3⟩:∃x,w2.setRow (w.heap.size+1+1) (Value.string ⟨ip.toList.toArray⟩::u8v mac).toArray=x:=⟨_,rfl⟩
 have z3:w3.heap.size=w2.heap.size:=by rw[<-hw3,setRow_size]
 have B3:Below w.heap.size w w3:=by rw[<-hw3];exact Below.setRow B2 (by omega) _
 have rB3:row w3 (w.heap.size+1+1)=(Value.string ⟨ip.toList.toArray⟩::u8v mac).toArray:=by rw[<-hw3];exact aB (by rw[rB];simp) (by rw[rB];simp)
 have rR3:row w3 (w.heap.size+1)=(Value.string ⟨#[]⟩::u8v cF).toArray:=by rw[<-hw3,aC _ _ _ (by omega),rR]
 rw[hz]
 clear rR
 have rR:=rR3
 go_wp2_with fail
 clear hw3
 (with_reducible refine(HG.out _).mono ?_)
 rintro e w4 ⟨rfl,b4⟩
 have z4:=b4.size
 have B4:Below w.heap.size w w4:=B3.trans (b4.mono (by omega))
 replace rR:row w4 (w.heap.size+1)=(Value.string ⟨#[]⟩::u8v cF).toArray:=by rw[aA b4 (by omega),rR]
 have rB4:row w4 (w.heap.size+1+1)=(Value.string ⟨ip.toList.toArray⟩::u8v mac).toArray:=by rw[aA b4 (by omega),rB3]
 have p4:w.heap.size+1<w4.heap.size:=by omega
 have p5:w.heap.size+1+1<w4.heap.size:=by omega
 clear b4
 go_wp2_with fail
 have hfin:row ((w4).setRow (w.heap.size+1) (Value.string ⟨ip.toList.toArray⟩::u8v mac).toArray) (w.heap.size+1)=(Value.string ⟨ip.toList.toArray⟩::u8v mac).toArray:=aB (by simp[rR]) (by simp[rR])
 (try simp only[Exit.inBlock,Exit.then])
 refine bodyPost_ret (aS rfl (aK rfl ?_) aP) rfl ?_
 ·(try rw[aD _ _ (by simp;omega)])
  rw[hfin]
  try simp
 ·refine⟨by(try rw[aD _ _ (by simp;omega)]);rw[hfin];try simp,?_⟩
  first | exact Below.setRow B4 (by omega) _ | exact Below.alloc (Below.setRow B4 (by omega) _) (by simp;omega) _
end
end
section
open Go.RowKit
def nH (T:Option Addr) (v:Int) (dst src:Vector UInt8 6) (ty:Int) (body:List UInt8) (w:World) (fr:List Value) (ok:Bool):Prop:=
 Calls Tryz.prog 98 #[.pointer T,.int .i64 v,.agg (bV dst src ty body).toArray] w fun e w'=>e=.returned (.tuple #[.agg fr.toArray,.bool ok])/\Below w.heap.size w w'
def dP:List Value:=aH 12 (Value.int .u8 0)++[Value.int .i64 0,Value.string ⟨#[]⟩]
section
variable (dst src:Vector UInt8 6) (body:List UInt8) (w:World) (v:Int)
theorem xJ (T:Addr) (ty:Int) (h1:(ty==2054)=false) (h2:(ty==34525)=false):nH (some T) v dst src ty body w dP false:=by
 unfold nH dP bV
 go_enter Tryz.func98,Tryz.ntmps98
 go_wp2_with fail
 ((try simp only[Exit.inBlock,Exit.then]);refine bodyPost_ret (aS rfl (aK rfl ?_) aP) rfl ?_;(simp[go_sem]))
 refine⟨by simp[go_sem],?_⟩
 (repeat (first | exact Below.refl _ _ | refine Below.al ?_ _ | refine Below.drew ?_ | refine Below.sr ?_ _ | refine Below.sc ?_ _))
variable (op:Int) (mac tgt:Vector UInt8 6) (ip want:Vector UInt8 4) (er:Int)
theorem aBt (T:Addr) (HP:∀w,Calls Tryz.prog 129 #[.string ⟨body.toArray⟩] w fun e w'=>e=.returned (.tuple #[.agg (lQ op mac tgt ip want).toArray,.int .i64 er])/\Below w.heap.size w w') (he:(er==0)=false):nH (some T) v dst src 2054 body w dP false:=by
 have he2:(er !=0)=true:=by rw[bne,he];rfl
 unfold nH
 try unfold dP
 unfold bV
 unfold lQ at HP
 have K:=h_ HP
 clear HP
 go_enter Tryz.func98,Tryz.ntmps98
 go_wp2_with fail
 (with_reducible refine(K.out _).mono ?_)
 rintro e w1 ⟨rfl,b1⟩
 have z1:=b1.size
 simp at z1
 have rF:row w1 w.heap.size=(u8v dst++(u8v src++[Value.int .i64 2054,Value.string ⟨body.toArray⟩])).toArray:=by rw[aA b1 (by simp;try omega)];simp[go_sem]
 have rR:row w1 (w.heap.size+1)=(aH 12 (Value.int .u8 0)++[Value.int .i64 0,Value.string ⟨#[]⟩]).toArray:=by rw[aA b1 (by simp;try omega)];simp[go_sem]
 have B1:Below w.heap.size w w1:=Below.trans eD (b1.mono (by simp;try omega))
 have q1:w.heap.size<w1.heap.size:=by omega
 have q2:w.heap.size+1<w1.heap.size:=by omega
 clear b1
 go_wp2_with fail
 have hfin:row ((w1).setRow (w.heap.size+1) (aH 12 (Value.int .u8 0)++[Value.int .i64 0,Value.string ⟨#[]⟩]).toArray) (w.heap.size+1)=(aH 12 (Value.int .u8 0)++[Value.int .i64 0,Value.string ⟨#[]⟩]).toArray:=aB (by simp[rR]) (by simp[rR])
 (try simp only[Exit.inBlock,Exit.then])
 refine bodyPost_ret (aS rfl (aK rfl ?_) aP) rfl ?_
 ·(try rw[aD _ _ (by simp;omega)])
  rw[hfin]
  try simp
 ·refine⟨by(try rw[aD _ _ (by simp;omega)]);rw[hfin];try simp,?_⟩
  first | exact Below.setRow B1 (by omega) _ | exact Below.alloc (Below.setRow B1 (by omega) _) (by simp;omega) _
theorem aCH (T:Addr) (HP:∀w,Calls Tryz.prog 129 #[.string ⟨body.toArray⟩] w fun e w'=>e=.returned (.tuple #[.agg (lQ op mac tgt ip want).toArray,.int .i64 0])/\Below w.heap.size w w') (h1:(op==1)=false):nH (some T) v dst src 2054 body w dP false:=by
 have he2:(op !=1)=true:=by rw[bne,h1];rfl
 unfold nH
 try unfold dP
 unfold bV
 unfold lQ at HP
 have K:=h_ HP
 clear HP
 go_enter Tryz.func98,Tryz.ntmps98
 go_wp2_with fail
 (with_reducible refine(K.out _).mono ?_)
 rintro e w1 ⟨rfl,b1⟩
 have z1:=b1.size
 simp at z1
 have rF:row w1 w.heap.size=(u8v dst++(u8v src++[Value.int .i64 2054,Value.string ⟨body.toArray⟩])).toArray:=by rw[aA b1 (by simp;try omega)];simp[go_sem]
 have rR:row w1 (w.heap.size+1)=(aH 12 (Value.int .u8 0)++[Value.int .i64 0,Value.string ⟨#[]⟩]).toArray:=by rw[aA b1 (by simp;try omega)];simp[go_sem]
 have B1:Below w.heap.size w w1:=Below.trans eD (b1.mono (by simp;try omega))
 have q1:w.heap.size<w1.heap.size:=by omega
 have q2:w.heap.size+1<w1.heap.size:=by omega
 clear b1
 go_wp2_with fail
 have hfin:row ((w1).setRow (w.heap.size+1) (aH 12 (Value.int .u8 0)++[Value.int .i64 0,Value.string ⟨#[]⟩]).toArray) (w.heap.size+1)=(aH 12 (Value.int .u8 0)++[Value.int .i64 0,Value.string ⟨#[]⟩]).toArray:=aB (by simp[rR]) (by simp[rR])
 (try simp only[Exit.inBlock,Exit.then])
 refine bodyPost_ret (aS rfl (aK rfl ?_) aP) rfl ?_
 ·(try rw[aD _ _ (by simp;omega)])
  rw[hfin]
  try simp
 ·refine⟨by(try rw[aD _ _ (by simp;omega)]);rw[hfin];try simp,?_⟩
  first | exact Below.setRow B1 (by omega) _ | exact Below.alloc (Below.setRow B1 (by omega) _) (by simp;omega) _
theorem aBu (T:Addr) (HP:∀w,Calls Tryz.prog 129 #[.string ⟨body.toArray⟩] w fun e w'=>e=.returned (.tuple #[.agg (lQ 1 mac tgt ip want).toArray,.int .i64 0])/\Below w.heap.size w w') (h1:(want==ip)=true):nH (some T) v dst src 2054 body w dP false:=by
 unfold nH
 try unfold dP
 unfold bV
 unfold lQ at HP
 have K:=h_ HP
 clear HP
 go_enter Tryz.func98,Tryz.ntmps98
 go_wp2_with fail
 (with_reducible refine(K.out _).mono ?_)
 rintro e w1 ⟨rfl,b1⟩
 have z1:=b1.size
 simp at z1
 have rF:row w1 w.heap.size=(u8v dst++(u8v src++[Value.int .i64 2054,Value.string ⟨body.toArray⟩])).toArray:=by rw[aA b1 (by simp;try omega)];simp[go_sem]
 have rR:row w1 (w.heap.size+1)=(aH 12 (Value.int .u8 0)++[Value.int .i64 0,Value.string ⟨#[]⟩]).toArray:=by rw[aA b1 (by simp;try omega)];simp[go_sem]
 have B1:Below w.heap.size w w1:=Below.trans eD (b1.mono (by simp;try omega))
 have q1:w.heap.size<w1.heap.size:=by omega
 have q2:w.heap.size+1<w1.heap.size:=by omega
 clear b1
 go_wp2_with fail
 have hfin:row ((w1).setRow (w.heap.size+1) (aH 12 (Value.int .u8 0)++[Value.int .i64 0,Value.string ⟨#[]⟩]).toArray) (w.heap.size+1)=(aH 12 (Value.int .u8 0)++[Value.int .i64 0,Value.string ⟨#[]⟩]).toArray:=aB (by simp[rR]) (by simp[rR])
 (try simp only[Exit.inBlock,Exit.then])
 refine bodyPost_ret (aS rfl (aK rfl ?_) aP) rfl ?_
 ·(try rw[aD _ _ (by simp;omega)])
  rw[hfin]
  try simp
 ·refine⟨by(try rw[aD _ _ (by simp;omega)]);rw[hfin];try simp,?_⟩
  first | exact Below.setRow B1 (by omega) _ | exact Below.alloc (Below.setRow B1 (by omega) _) (by simp;omega) _
theorem y6 {A M:Nat} {time:Int} {m:List HB} (h:HushT w A M time m) (HP:∀w,Calls Tryz.prog 129 #[.string ⟨body.toArray⟩] w fun e w'=>e=.returned (.tuple #[.agg (lQ 1 mac tgt ip want).toArray,.int .i64 0])/\Below w.heap.size w w') (h1:(want==ip)=false) (hf:eT v want.toList m=(cF,false)):nH (some ⟨A,0,none⟩) v dst src 2054 body w dP false:=by
 have HF:=h_ (fun(w:World) (h:HushT w A M time m)=>nX v want.toList w h)
 have hA:=h.lt
 have hM:=h.ok.lt
 unfold nH
 try unfold dP
 unfold bV
 unfold lQ at HP
 have K:=h_ HP
 clear HP
 go_enter Tryz.func98,Tryz.ntmps98
 go_wp2_with fail
 (with_reducible refine(K.out _).mono ?_)
 rintro e w1 ⟨rfl,b1⟩
 have z1:=b1.size
 simp at z1
 have rF:row w1 w.heap.size=(u8v dst++(u8v src++[Value.int .i64 2054,Value.string ⟨body.toArray⟩])).toArray:=by rw[aA b1 (by simp;try omega)];simp[go_sem]
 have rR:row w1 (w.heap.size+1)=(aH 12 (Value.int .u8 0)++[Value.int .i64 0,Value.string ⟨#[]⟩]).toArray:=by rw[aA b1 (by simp;try omega)];simp[go_sem]
 have B1:Below w.heap.size w w1:=Below.trans eD (b1.mono (by simp;try omega))
 have q1:w.heap.size<w1.heap.size:=by omega
 have q2:w.heap.size+1<w1.heap.size:=by omega
 clear b1
 have h1T:=h.below B1 hA hM
 obtain⟨w2,hw2⟩:∃x,w1.alloc (.cells (Value.int .i64 1::(u8v mac++(u8v tgt++(u8v ip++u8v want)))).toArray 255)=x:=⟨_,rfl⟩
 have z2:w2.heap.size=w1.heap.size+1:=by rw[<-hw2];simp
 have b12:Below w1.heap.size w1 w2:=by rw[<-hw2];exact Below.alloc (Below.refl _ _) (by omega) _
 have rA2:row w2 w1.heap.size=(Value.int .i64 1::(u8v mac++(u8v tgt++(u8v ip++u8v want)))).toArray:=by rw[<-hw2];simp[go_sem]
 have B2:Below w.heap.size w w2:=B1.trans (b12.mono (by omega))
 have h2T:=h.below B2 hA hM
 replace rF:=(aA b12 (by omega)).trans rF
 replace rR:=(aA b12 (by omega)).trans rR
 have q3:w1.heap.size<w2.heap.size:=by omega
 clear b12 h h1T
 go_wp2_with fail
 clear hw2
 (with_reducible refine(HF.out _ h2T).mono ?_)
 rintro e w3 ⟨rfl,b3⟩
 rw[hf]
 have z3:=b3.size
 replace rF:=(aA b3 (by omega)).trans rF
 replace rR:=(aA b3 (by omega)).trans rR
 replace rA2:=(aA b3 (by omega)).trans rA2
 have B3:Below w.heap.size w w3:=B2.trans (b3.mono (by omega))
 have p1:w.heap.size<w3.heap.size:=by omega
 have p2:w.heap.size+1<w3.heap.size:=by omega
 have p3:w1.heap.size<w3.heap.size:=by omega
 clear b3 q1 q2 q3
 go_wp2_with fail
 have hfin:row ((w3).setRow (w.heap.size+1) (aH 12 (Value.int .u8 0)++[Value.int .i64 0,Value.string ⟨#[]⟩]).toArray) (w.heap.size+1)=(aH 12 (Value.int .u8 0)++[Value.int .i64 0,Value.string ⟨#[]⟩]).toArray:=aB (by simp[rR]) (by simp[rR])
 (try simp only[Exit.inBlock,Exit.then])
 refine bodyPost_ret (aS rfl (aK rfl ?_) aP) rfl ?_
 ·(try rw[aD _ _ (by simp;omega)])
  rw[hfin]
  try simp
 ·refine⟨by(try rw[aD _ _ (by simp;omega)]);rw[hfin];try simp,?_⟩
  first | exact Below.setRow B3 (by omega) _ | exact Below.alloc (Below.setRow B3 (by omega) _) (by simp;omega) _
theorem y7 {A M:Nat} {time:Int} {m:List HB} (h:HushT w A M time m) (HP:∀w,Calls Tryz.prog 129 #[.string ⟨body.toArray⟩] w fun e w'=>e=.returned (.tuple #[.agg (lQ 1 mac tgt ip want).toArray,.int .i64 0])/\Below w.heap.size w w') (h1:(want==ip)=false) (who:Vector UInt8 6) (hf:eT v want.toList m=(who,true)):nH (some ⟨A,0,none⟩) v dst src 2054 body w (bV src who 2054 (kL 2 who mac want ip)) true:=by
 have HN:=h_ (fun w=>aEH 1 mac tgt who ip want w)
 have HF:=h_ (fun(w:World) (h:HushT w A M time m)=>nX v want.toList w h)
 have hA:=h.lt
 have hM:=h.ok.lt
 unfold nH
 try unfold dP
 unfold bV
 unfold lQ at HP HN
 unfold bV at HN
 have K:=h_ HP
 clear HP
 go_enter Tryz.func98,Tryz.ntmps98
 go_wp2_with fail
 (with_reducible refine(K.out _).mono ?_)
 rintro e w1 ⟨rfl,b1⟩
 have z1:=b1.size
 simp at z1
 have rF:row w1 w.heap.size=(u8v dst++(u8v src++[Value.int .i64 2054,Value.string ⟨body.toArray⟩])).toArray:=by rw[aA b1 (by simp;try omega)];simp[go_sem]
 have rR:row w1 (w.heap.size+1)=(aH 12 (Value.int .u8 0)++[Value.int .i64 0,Value.string ⟨#[]⟩]).toArray:=by rw[aA b1 (by simp;try omega)];simp[go_sem]
 have B1:Below w.heap.size w w1:=Below.trans eD (b1.mono (by simp;try omega))
 have q1:w.heap.size<w1.heap.size:=by omega
 have q2:w.heap.size+1<w1.heap.size:=by omega
 clear b1
 have h1T:=h.below B1 hA hM
 obtain⟨w2,hw2⟩:∃x,w1.alloc (.cells (Value.int .i64 1::(u8v mac++(u8v tgt++(u8v ip++u8v want)))).toArray 255)=x:=⟨_,rfl⟩
 have z2:w2.heap.size=w1.heap.size+1:=by rw[<-hw2];simp
 have b12:Below w1.heap.size w1 w2:=by rw[<-hw2];exact Below.alloc (Below.refl _ _) (by omega) _
 have rA2:row w2 w1.heap.size=(Value.int .i64 1::(u8v mac++(u8v tgt++(u8v ip++u8v want)))).toArray:=by rw[<-hw2];simp[go_sem]
 have B2:Below w.heap.size w w2:=B1.trans (b12.mono (by omega))
 have h2T:=h.below B2 hA hM
 replace rF:=(aA b12 (by omega)).trans rF
 replace rR:=(aA b12 (by omega)).trans rR
 have q3:w1.heap.size<w2.heap.size:=by omega
 clear b12 h h1T
 go_wp2_with fail
 clear hw2
 (with_reducible refine(HF.out _ h2T).mono ?_)
 rintro e w3 ⟨rfl,b3⟩
 rw[hf]
 have z3:=b3.size
 replace rF:=(aA b3 (by omega)).trans rF
 replace rR:=(aA b3 (by omega)).trans rR
 replace rA2:=(aA b3 (by omega)).trans rA2
 have B3:Below w.heap.size w w3:=B2.trans (b3.mono (by omega))
 have p1:w.heap.size<w3.heap.size:=by omega
 have p2:w.heap.size+1<w3.heap.size:=by omega
 have p3:w1.heap.size<w3.heap.size:=by omega
 clear b3 q1 q2 q3
 go_wp2_with fail
 (with_reducible refine(HN.out _).mono ?_)
 rintro e w4 ⟨rfl,b4⟩
 have z4:=b4.size
 simp at z4
 replace rF:=((aA b4 (by simp;omega)).trans (aD _ _ p1)).trans rF
 replace rR:=((aA b4 (by simp;omega)).trans (aD _ _ p2)).trans rR
 have B4:Below w.heap.size w w4:=B3.trans (Below.trans (Below.alloc (Below.refl _ _) (by omega) _) (b4.mono (by simp;omega)))
 have q1:w.heap.size<w4.heap.size:=by omega
 have q2:w.heap.size+1<w4.heap.size:=by omega
 clear b4 p1 p2 p3 rA2
 go_wp2_with fail
 have hfin:row ((w4).setRow (w.heap.size+1) (u8v src++(u8v who++[Value.int .i64 2054,Value.string ⟨(kL 2 who mac want ip).toArray⟩])).toArray) (w.heap.size+1)=(u8v src++(u8v who++[Value.int .i64 2054,Value.string ⟨(kL 2 who mac want ip).toArray⟩])).toArray:=aB (by simp[rR]) (by simp[rR])
 (try simp only[Exit.inBlock,Exit.then])
 refine bodyPost_ret (aS rfl (aK rfl ?_) aP) rfl ?_
 ·(try rw[aD _ _ (by simp;omega)])
  rw[hfin]
  try simp
 ·refine⟨by(try rw[aD _ _ (by simp;omega)]);rw[hfin];try simp,?_⟩
  first | exact Below.setRow B4 (by omega) _ | exact Below.alloc (Below.setRow B4 (by omega) _) (by simp;omega) _
end
end
section
open Go.RowKit
def aFQ (v:Int) (ip:List UInt8) (m:List HB):Bool:=m.any fun c=>c.is v ip
def kR (v:Int) (ip:List UInt8) (mac:Vector UInt8 6) (ok:Bool) (m:List HB):List HB:=if ok&&(aFQ v ip m||decide (m.length<1024))then tP ⟨v,ip,mac,0⟩ m else m
theorem y8 (v:Int) (ip:List UInt8):∀m:List HB,(aFQ v ip m=true↔jO v ip m≠none)
 | []=>by simp[aFQ,jO]
 | c::m=>by
  have ih:=y8 v ip m
  rw[jO]
  by_cases h:c.is v ip=true
  ·rw[if_pos h]
   simp[aFQ,h]
  ·rw[if_neg h,<-ih]
   simp[aFQ,h]
theorem y9 {c:HB}:∀{m:List HB} {b:HB},b∈tP c m->b=c∨b∈m
 | [],b,h=>.inl (by simpa[tP]using h)
 | d::m,b,h=>by
  unfold tP at h
  split at h
  ·rcases List.mem_cons.1 h with h | h
   ·exact .inl h
   ·exact .inr (List.mem_cons_of_mem _ h)
  ·rcases List.mem_cons.1 h with h | h
   ·exact .inr (by rw[h];exact List.mem_cons_self)
   ·rcases y9 h with h | h
    ·exact .inl h
    ·exact .inr (List.mem_cons_of_mem _ h)
theorem aM2 {c:HB} {v:Int} {ip:List UInt8} (h:c.is v ip=true):v=c.v/\ip=c.ip:=by
 unfold HB.is at h
 simpa[Bool.and_eq_true,beq_iff_eq]using h
theorem aDW (c:HB):∀{m:List HB},DistH m->DistH (tP c m)
 | [],_=>by unfold tP DistH;simp
 | d::m,h=>by
  rw[DistH,List.pairwise_cons]at h
  rw[tP]
  by_cases hc:d.is c.v c.ip=true
  ·rw[if_pos hc,DistH,List.pairwise_cons]
   refine⟨fun b hb=>?_,h.2⟩
   have h1:=h.1 b hb
   obtain⟨e1,e2⟩:=aM2 hc
   unfold HB.is at h1 ⊢
   rw[e1,e2]
   exact h1
  ·rw[if_neg hc,DistH,List.pairwise_cons]
   refine⟨fun b hb=>?_,aDW c h.2⟩
   rcases y9 hb with rfl | hb
   ·exact Bool.eq_false_iff.2 hc
   ·exact h.1 b hb
theorem xK {v:Int} {ip:List UInt8} {mac:Vector UInt8 6} {ok:Bool} {m:List HB} (h:DistH m):DistH (kR v ip mac ok m):=by
 unfold kR
 split
 ·exact aDW _ h
 ·exact h
theorem zM {time:Int} {a x:HB} (h:aBf time a=some x):x.v=a.v/\x.ip=a.ip/\x.age=a.age+1/\a.age+1<time:=by
 unfold aBf at h
 split at h
 ·cases h
 ·cases h
  exact⟨rfl,rfl,rfl,by omega⟩
theorem aGw (time:Int) {m:List HB} (h:DistH m):DistH (aBg time m):=by
 unfold DistH aBg at *
 rw[List.pairwise_filterMap]
 refine h.imp fun {a b} hab x hx y hy=>?_
 obtain⟨h1,h2,_⟩:=zM hx
 obtain⟨h3,h4,_⟩:=zM hy
 unfold HB.is at *
 rw[h1,h2,h3,h4]
 exact hab
theorem aIy {time:Int} {m:List HB} (ht:time<=1000000) (h:∀c∈m,0<=c.age/\c.age<=1000000):∀c∈aBg time m,0<=c.age/\c.age<=1000000:=by
 intro c hc
 unfold aBg at hc
 obtain⟨b,hb,hbc⟩:=List.mem_filterMap.1 hc
 obtain⟨_,_,e,hlt⟩:=zM hbc
 have:=h b hb
 omega
theorem aBv {v:Int} {ip:List UInt8} {mac:Vector UInt8 6} {ok:Bool} {m:List HB} (h:∀c∈m,0<=c.age/\c.age<=1000000):∀c∈kR v ip mac ok m,0<=c.age/\c.age<=1000000:=by
 intro c hc
 unfold kR at hc
 split at hc
 ·rcases y9 hc with rfl | hc
  ·exact⟨by simp,by simp⟩
  ·exact h c hc
 ·exact h c hc
theorem xL (c:HB):∀m:List HB,(tP c m).length<=m.length+1/\(aFQ c.v c.ip m=true->(tP c m).length=m.length)
 | []=>by simp[tP,aFQ]
 | d::m=>by
  obtain⟨h1,h2⟩:=xL c m
  rw[tP]
  by_cases hc:d.is c.v c.ip=true
  ·rw[if_pos hc];simp
  ·rw[if_neg hc]
   refine⟨by simp;omega,fun h=>?_⟩
   have:aFQ c.v c.ip m=true:=by
    unfold aFQ at *
    rw[List.any_cons]at h
    simpa[hc]using h
   simp[h2 this]
theorem aBw {v:Int} {ip:List UInt8} {mac:Vector UInt8 6} {ok:Bool} {m:List HB} (h:m.length<=1024):(kR v ip mac ok m).length<=1024:=by
 unfold kR
 obtain⟨h1,h2⟩:=xL ⟨v,ip,mac,0⟩ m
 split
 ·rename_i hc
  simp only[Bool.and_eq_true,Bool.or_eq_true,decide_eq_true_eq]at hc
  rcases hc.2 with hc | hc
  ·rw[h2 hc];exact h
  ·omega
 ·exact h
theorem aEL (dst src:Vector UInt8 6) (ty:Int) (body:List UInt8) (ip:List UInt8) (mac:Vector UInt8 6) (ok:Bool) (vl:Int) (w:World) {T M:Nat} {time:Int} {m:List HB} (h:HushT w T M time m) (hTM:T≠M) (HA:xC dst src ty body ip mac ok):
  Calls Tryz.prog 97 #[.pointer (some ⟨T,0,none⟩),.int .i64 vl,.agg (bV dst src ty body).toArray] w fun e w'=>e=.returned (.bool (ok&&(aFQ vl ip m||decide (m.length<1024))))/\BelowBut w.heap.size M w w'/\HushT w' T M time (kR vl ip mac ok m):=by
 have hT:=h.lt
 have hM:=h.ok.lt
 cases ok with
 | false=>
  refine(aGq dst src ty body ip mac w (some ⟨T,0,none⟩) vl HA).mono ?_
  rintro e w' ⟨rfl,b⟩
  exact⟨rfl,BelowBut.of b,h.below b hT hM⟩
 | true=>
  by_cases h1:jO vl ip m≠none∨m.length<1024
  ·have hb:(aFQ vl ip m||decide (m.length<1024))=true:=by
    rcases h1 with h1 | h1
    ·rw[(y8 vl ip m).2 h1,Bool.true_or]
    ·rw[decide_eq_true h1,Bool.or_true]
   refine(aCB dst src ty body ip mac w vl h hTM HA h1).mono ?_
   rintro e w' ⟨rfl,b,h'⟩
   unfold kR
   rw[hb]
   exact⟨rfl,b,h'⟩
  ·have h2:jO vl ip m=none/\1024<=m.length:=
    ⟨Classical.byContradiction fun hc=>h1 (.inl hc),Classical.byContradiction fun hc=>h1 (.inr (by omega))⟩
   have hb:(aFQ vl ip m||decide (m.length<1024))=false:=by
    rw[decide_eq_false (by omega),Bool.or_false]
    exact Bool.eq_false_iff.2 fun hc=>(y8 vl ip m).1 hc h2.1
   refine(aCA dst src ty body ip mac w vl h HA h2.1 h2.2).mono ?_
   rintro e w' ⟨rfl,b⟩
   unfold kR
   rw[hb]
   exact⟨rfl,BelowBut.of b,h.below b hT hM⟩
structure Asks (dst src:Vector UInt8 6) (ty:Int) (body:List UInt8) (ip:List UInt8) (ans:Vector UInt8 6->List UInt8):Prop where
 none:∀{w:World} {A M:Nat} {time:Int} {m:List HB} (v:Int),HushT w A M time m->eT v ip m=(cF,false)->nH (some ⟨A,0,.none⟩) v dst src ty body w dP false
 some:∀{w:World} {A M:Nat} {time:Int} {m:List HB} (v:Int) (who:Vector UInt8 6),HushT w A M time m->eT v ip m=(who,true)->nH (some ⟨A,0,.none⟩) v dst src ty body w (bV src who ty (ans who)) true
 said:∀who,grp who=false->(ip.length=4->ip≠List.replicate 4 0)->xC src who ty (ans who) ip who true
 big:∀who,(ans who).length<=100
 typ:ty=2054∨ty=34525
 len:ip.length=4∨ip.length=16
end
end Go.Proofs.YtiagbbknkdgmeaaGreat
