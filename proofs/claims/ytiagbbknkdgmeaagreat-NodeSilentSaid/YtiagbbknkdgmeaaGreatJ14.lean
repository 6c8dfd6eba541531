/- Texts of this proof, merged: Arp, ArpB, ArpL, ArpF. -/
import Derived.Test.YtiagbbknkdgmeaaGreatOctJ
import Derived.Test.YtiagbbknkdgmeaaGreatJ2
import Derived.Deep.RegionHeld3
import Derived.Test.YtiagbbknkdgmeaaGreatJ3
import Derived.Test.YtiagbbknkdgmeaaGreatJ13
set_option linter.unusedSimpArgs false
set_option linter.unusedVariables false
set_option maxHeartbeats 8000000
set_option maxRecDepth 20000
namespace Go.Proofs.YtiagbbknkdgmeaaGreat
section
open Go.RowKit
def lQ (op:Int) (mac tgt:Vector UInt8 6) (ip want:Vector UInt8 4):List Value:=.int .i64 op::(u8v mac++(u8v tgt++(u8v ip++u8v want)))
def kL (op:Nat) (mac tgt:Vector UInt8 6) (ip want:Vector UInt8 4):List UInt8:=[0,1,8,0,6,4]++(bJ op 2++(mac.toList++(ip.toList++(tgt.toList++want.toList))))
theorem nY:lQ 0 (Vector.replicate 6 0) (Vector.replicate 6 0) (Vector.replicate 4 0) (Vector.replicate 4 0)=.int .i64 0::aH 20 (.int .u8 0):=by
 simp only[lQ,nO]
 rfl
theorem dQ (n k:Nat) (N:Int) (A S:Nat) (l:List UInt8) (w:World) (hN:N=n) (hA:row w A=#[.int .i64 k]) (hS:row w S=#[.string ⟨l.toArray⟩]) (hAS:S≠A) (hn:n<=100) (hk:k<=100) (h:k+n<=l.length):
  Calls Tryz.prog 159 #[.int .i64 N,.pointer (some ⟨A,0,none⟩),.pointer (some ⟨S,0,none⟩)] w fun e w'=>
   ∃sp,e=.returned (.slice (some ⟨w.heap.size,0,none⟩) n (n+sp))/\w'=((w.setRow A #[.int .i64 ((k:Int)+n)]).alloc (.cells (u8v (aI l k n)++aH sp (.int .u8 0)).toArray 5 (n+sp,n+sp+1))).drew:=by
 subst hN
 have hSA:=aC (w:=w) A S #[.int .i64 ((k:Int)+n)] hAS
 rw[hS]at hSA
 have hAA:=aB (w:=w) (g:=A) (c:=#[.int .i64 ((k:Int)+n)]) (by rw[hA];simp) (by rw[hA];rfl)
 have hl1:(k:Int)+n<=l.length:=by omega
 have hmin:min n (l.length - k)=n:=by omega
 rw[aZ _ _ _ h]
 go_enter Tryz.func159,Tryz.ntmps159
 go_wp2
 go_ret
 exact⟨_,rfl,rfl⟩
theorem aBc (l:List UInt8) (w:World) (hl:28<=l.length) (hl2:l.length<=10000) (hh:(aI l 0 6).toList=[0,1,8,0,6,4]) (hop:f9 (aI l 6 2).toList=1):
  Calls Tryz.prog 129 #[.string ⟨l.toArray⟩] w fun e w'=>
   e=.returned (.tuple #[.agg (lQ 1 (aI l 8 6) (aI l 18 6) (aI l 14 4) (aI l 24 4)).toArray,.int .i64 0])/\Below w.heap.size w w':=by
 go_enter Tryz.func129,Tryz.ntmps129
 go_wp2_with fail
 refine(dQ 6 0 _ _ _ l _ (by rfl) ?_ ?_ (by omega) (by omega) (by omega) (by omega)).mono ?_
 ·simp[go_sem]
 ·simp[go_sem]
 rintro e w1 ⟨sp1,rfl,rfl⟩
 go_wp2_with fail
 refine(dQ 2 6 _ _ _ l _ (by rfl) ?_ ?_ (by omega) (by omega) (by omega) (by omega)).mono ?_
 ·simp[go_sem]
 ·simp[go_sem]
 rintro e w2 ⟨sp2,rfl,rfl⟩
 go_wp2_with fail
 refine(cM _ _ ?_).mono ?_
 ·simp[go_sem]
 rintro e w3 ⟨rfl,rfl⟩
 go_wp2_with fail
 refine dS rfl (fun hS=>?_)
 refine rp 0 hS ?_
 refine rp 4 hS ?_
 refine wpAnyH_all (rs:=[1]) kr_ (by simp) ?_
 intro i hi
 obtain rfl:=List.mem_singleton.1 hi
 refine wpOp_step rfl (fun K hK=>?_)
 clear hi hS
 go_simp
 refine(dQ 6 8 _ _ _ l _ (by rfl) ?_ ?_ (by omega) (by omega) (by omega) (by omega)).mono ?_
 ·simp[go_sem]
 ·simp[go_sem]
 rintro e w4 ⟨sp3,rfl,rfl⟩
 refine hK _ _ (cT (S2:=cQ (fun w'=>row w' (w.heap.size+1+1+1+1+1+1)=(u8v (aI l 8 6)++aH sp3 (Value.int .u8 0)).toArray)) ?_ ?_ (fun hS=>?_))
 ·unfold cQ
  simp[go_sem]
 ·intro w' hS'
  unfold cQ at *
  simp at hS'
  simp[hS']
 clear hK K
 refine rp 2 hS ?_
 refine rp 3 hS ?_
 refine rp 8 hS ?_
 refine wpAnyH_all (rs:=[5]) kr_ (by simp) ?_
 intro i hi
 obtain rfl:=List.mem_singleton.1 hi
 refine wpOp_step rfl (fun K hK=>?_)
 clear hi hS
 go_simp
 refine(dQ 4 14 _ _ _ l _ (by rfl) ?_ ?_ (by omega) (by omega) (by omega) (by omega)).mono ?_
 ·simp[go_sem]
 ·simp[go_sem]
 rintro e w5 ⟨sp4,rfl,rfl⟩
 refine hK _ _ (cT (S2:=cQ (fun w'=>row w' (w.heap.size+1+1+1+1+1+1)=(u8v (aI l 8 6)++aH sp3 (Value.int .u8 0)).toArray/\row w' (w.heap.size+1+1+1+1+1+1+1)=(u8v (aI l 14 4)++aH sp4 (Value.int .u8 0)).toArray)) ?_ ?_ (fun hS=>?_))
 ·unfold cQ
  simp[go_sem]
 ·intro w' hS'
  unfold cQ at *
  simp at hS'
  simp[hS']
 clear hK K
 refine rp 6 hS ?_
 refine rp 7 hS ?_
 refine wpAnyH_all (rs:=[9]) kr_ (by simp) ?_
 intro i hi
 obtain rfl:=List.mem_singleton.1 hi
 refine wpOp_step rfl (fun K hK=>?_)
 clear hi hS
 go_simp
 refine hK _ _ (bC ?_ (fun hS=>?_))
 ·unfold cQ
  simp[go_sem]
 clear hK K
 refine rp 10 hS ?_
 refine wpAnyH_all (rs:=[11]) kr_ (by simp) ?_
 intro i hi
 obtain rfl:=List.mem_singleton.1 hi
 refine wpOp_step rfl (fun K hK=>?_)
 clear hi hS
 go_simp
 refine hK _ _ (bC ?_ (fun hS=>?_))
 ·unfold cQ
  simp[go_sem]
 clear hK K
 refine wpAnyH_done kr_ ?_ _
 go_wp2_with fail
 refine dS rfl (fun hS=>?_)
 refine rp 0 hS ?_
 refine rp 4 hS ?_
 refine wpAnyH_all (rs:=[1]) kr_ (by simp) ?_
 intro i hi
 obtain rfl:=List.mem_singleton.1 hi
 refine wpOp_step rfl (fun K hK=>?_)
 clear hi hS
 go_simp
 refine(dQ 6 18 _ _ _ l _ (by rfl) ?_ ?_ (by omega) (by omega) (by omega) (by omega)).mono ?_
 ·simp[go_sem]
 ·simp[go_sem]
 rintro e w6 ⟨sp5,rfl,rfl⟩
 refine hK _ _ (cT (S2:=cQ (fun w'=>row w' (w.heap.size+1+1+1+1+1+1+1+1)=(u8v (aI l 18 6)++aH sp5 (Value.int .u8 0)).toArray)) ?_ ?_ (fun hS=>?_))
 ·unfold cQ
  simp[go_sem]
 ·intro w' hS'
  unfold cQ at *
  simp at hS'
  simp[hS']
 clear hK K
 refine rp 2 hS ?_
 refine rp 3 hS ?_
 refine rp 8 hS ?_
 refine wpAnyH_all (rs:=[5]) kr_ (by simp) ?_
 intro i hi
 obtain rfl:=List.mem_singleton.1 hi
 refine wpOp_step rfl (fun K hK=>?_)
 clear hi hS
 go_simp
 refine(dQ 4 24 _ _ _ l _ (by rfl) ?_ ?_ (by omega) (by omega) (by omega) (by omega)).mono ?_
 ·simp[go_sem]
 ·simp[go_sem]
 rintro e w7 ⟨sp6,rfl,rfl⟩
 refine hK _ _ (cT (S2:=cQ (fun w'=>row w' (w.heap.size+1+1+1+1+1+1+1+1)=(u8v (aI l 18 6)++aH sp5 (Value.int .u8 0)).toArray/\row w' (w.heap.size+1+1+1+1+1+1+1+1+1)=(u8v (aI l 24 4)++aH sp6 (Value.int .u8 0)).toArray)) ?_ ?_ (fun hS=>?_))
 ·unfold cQ
  simp[go_sem]
 ·intro w' hS'
  unfold cQ at *
  simp at hS'
  simp[hS']
 clear hK K
 refine rp 6 hS ?_
 refine rp 7 hS ?_
 refine wpAnyH_all (rs:=[9]) kr_ (by simp) ?_
 intro i hi
 obtain rfl:=List.mem_singleton.1 hi
 refine wpOp_step rfl (fun K hK=>?_)
 clear hi hS
 go_simp
 refine hK _ _ (bC ?_ (fun hS=>?_))
 ·unfold cQ
  simp[go_sem]
 clear hK K
 refine rp 10 hS ?_
 refine wpAnyH_all (rs:=[11]) kr_ (by simp) ?_
 intro i hi
 obtain rfl:=List.mem_singleton.1 hi
 refine wpOp_step rfl (fun K hK=>?_)
 clear hi hS
 go_simp
 refine hK _ _ (bC ?_ (fun hS=>?_))
 ·unfold cQ
  simp[go_sem]
 clear hK K
 refine wpAnyH_done kr_ ?_ _
 go_wp2_with fail
 ((try simp only[Exit.inBlock,Exit.then]);refine bodyPost_ret (aS rfl (aK rfl ?_) aP) rfl ?_;(simp[go_sem]))
 refine⟨by simp[go_sem,lQ],?_⟩
 (repeat (first | exact Below.refl _ _ | refine Below.al ?_ _ | refine Below.drew ?_ | refine Below.sr ?_ _ | refine Below.sc ?_ _))
theorem aBd (l:List UInt8) (w:World) (hl:28<=l.length) (hl2:l.length<=10000) (hh:(aI l 0 6).toList=[0,1,8,0,6,4]) (hop:f9 (aI l 6 2).toList=2):
  Calls Tryz.prog 129 #[.string ⟨l.toArray⟩] w fun e w'=>
   e=.returned (.tuple #[.agg (lQ 2 (aI l 8 6) (aI l 18 6) (aI l 14 4) (aI l 24 4)).toArray,.int .i64 0])/\Below w.heap.size w w':=by
 go_enter Tryz.func129,Tryz.ntmps129
 go_wp2_with fail
 refine(dQ 6 0 _ _ _ l _ (by rfl) ?_ ?_ (by omega) (by omega) (by omega) (by omega)).mono ?_
 ·simp[go_sem]
 ·simp[go_sem]
 rintro e w1 ⟨sp1,rfl,rfl⟩
 go_wp2_with fail
 refine(dQ 2 6 _ _ _ l _ (by rfl) ?_ ?_ (by omega) (by omega) (by omega) (by omega)).mono ?_
 ·simp[go_sem]
 ·simp[go_sem]
 rintro e w2 ⟨sp2,rfl,rfl⟩
 go_wp2_with fail
 refine(cM _ _ ?_).mono ?_
 ·simp[go_sem]
 rintro e w3 ⟨rfl,rfl⟩
 go_wp2_with fail
 refine dS rfl (fun hS=>?_)
 refine rp 0 hS ?_
 refine rp 4 hS ?_
 refine wpAnyH_all (rs:=[1]) kr_ (by simp) ?_
 intro i hi
 obtain rfl:=List.mem_singleton.1 hi
 refine wpOp_step rfl (fun K hK=>?_)
 clear hi hS
 go_simp
 refine(dQ 6 8 _ _ _ l _ (by rfl) ?_ ?_ (by omega) (by omega) (by omega) (by omega)).mono ?_
 ·simp[go_sem]
 ·simp[go_sem]
 rintro e w4 ⟨sp3,rfl,rfl⟩
 refine hK _ _ (cT (S2:=cQ (fun w'=>row w' (w.heap.size+1+1+1+1+1+1)=(u8v (aI l 8 6)++aH sp3 (Value.int .u8 0)).toArray)) ?_ ?_ (fun hS=>?_))
 ·unfold cQ
  simp[go_sem]
 ·intro w' hS'
  unfold cQ at *
  simp at hS'
  simp[hS']
 clear hK K
 refine rp 2 hS ?_
 refine rp 3 hS ?_
 refine rp 8 hS ?_
 refine wpAnyH_all (rs:=[5]) kr_ (by simp) ?_
 intro i hi
 obtain rfl:=List.mem_singleton.1 hi
 refine wpOp_step rfl (fun K hK=>?_)
 clear hi hS
 go_simp
 refine(dQ 4 14 _ _ _ l _ (by rfl) ?_ ?_ (by omega) (by omega) (by omega) (by omega)).mono ?_
 ·simp[go_sem]
 ·simp[go_sem]
 rintro e w5 ⟨sp4,rfl,rfl⟩
 refine hK _ _ (cT (S2:=cQ (fun w'=>row w' (w.heap.size+1+1+1+1+1+1)=(u8v (aI l 8 6)++aH sp3 (Value.int .u8 0)).toArray/\row w' (w.heap.size+1+1+1+1+1+1+1)=(u8v (aI l 14 4)++aH sp4 (Value.int .u8 0)).toArray)) ?_ ?_ (fun hS=>?_))
 ·unfold cQ
  simp[go_sem]
 ·intro w' hS'
  unfold cQ at *
  simp at hS'
  simp[hS']
 clear hK K
 refine rp 6 hS ?_
 refine rp 7 hS ?_
 refine wpAnyH_all (rs:=[9]) kr_ (by simp) ?_
 intro i hi
 obtain rfl:=List.mem_singleton.1 hi
 refine wpOp_step rfl (fun K hK=>?_)
 clear hi hS
 go_simp
 refine hK _ _ (bC ?_ (fun hS=>?_))
 ·unfold cQ
  simp[go_sem]
 clear hK K
 refine rp 10 hS ?_
 refine wpAnyH_all (rs:=[11]) kr_ (by simp) ?_
 intro i hi
 obtain rfl:=List.mem_singleton.1 hi
 refine wpOp_step rfl (fun K hK=>?_)
 clear hi hS
 go_simp
 refine hK _ _ (bC ?_ (fun hS=>?_))
 ·unfold cQ
  simp[go_sem]
 clear hK K
 refine wpAnyH_done kr_ ?_ _
 go_wp2_with fail
 refine dS rfl (fun hS=>?_)
 refine rp 0 hS ?_
 refine rp 4 hS ?_
 refine wpAnyH_all (rs:=[1]) kr_ (by simp) ?_
 intro i hi
 obtain rfl:=List.mem_singleton.1 hi
 refine wpOp_step rfl (fun K hK=>?_)
 clear hi hS
 go_simp
 refine(dQ 6 18 _ _ _ l _ (by rfl) ?_ ?_ (by omega) (by omega) (by omega) (by omega)).mono ?_
 ·simp[go_sem]
 ·simp[go_sem]
 rintro e w6 ⟨sp5,rfl,rfl⟩
 refine hK _ _ (cT (S2:=cQ (fun w'=>row w' (w.heap.size+1+1+1+1+1+1+1+1)=(u8v (aI l 18 6)++aH sp5 (Value.int .u8 0)).toArray)) ?_ ?_ (fun hS=>?_))
 ·unfold cQ
  simp[go_sem]
 ·intro w' hS'
  unfold cQ at *
  simp at hS'
  simp[hS']
 clear hK K
 refine rp 2 hS ?_
 refine rp 3 hS ?_
 refine rp 8 hS ?_
 refine wpAnyH_all (rs:=[5]) kr_ (by simp) ?_
 intro i hi
 obtain rfl:=List.mem_singleton.1 hi
 refine wpOp_step rfl (fun K hK=>?_)
 clear hi hS
 go_simp
 refine(dQ 4 24 _ _ _ l _ (by rfl) ?_ ?_ (by omega) (by omega) (by omega) (by omega)).mono ?_
 ·simp[go_sem]
 ·simp[go_sem]
 rintro e w7 ⟨sp6,rfl,rfl⟩
 refine hK _ _ (cT (S2:=cQ (fun w'=>row w' (w.heap.size+1+1+1+1+1+1+1+1)=(u8v (aI l 18 6)++aH sp5 (Value.int .u8 0)).toArray/\row w' (w.heap.size+1+1+1+1+1+1+1+1+1)=(u8v (aI l 24 4)++aH sp6 (Value.int .u8 0)).toArray)) ?_ ?_ (fun hS=>?_))
 ·unfold cQ
  simp[go_sem]
 ·intro w' hS'
  unfold cQ at *
  simp at hS'
  simp[hS']
 clear hK K
 refine rp 6 hS ?_
 refine rp 7 hS ?_
 refine wpAnyH_all (rs:=[9]) kr_ (by simp) ?_
 intro i hi
 obtain rfl:=List.mem_singleton.1 hi
 refine wpOp_step rfl (fun K hK=>?_)
 clear hi hS
 go_simp
 refine hK _ _ (bC ?_ (fun hS=>?_))
 ·unfold cQ
  simp[go_sem]
 clear hK K
 refine rp 10 hS ?_
 refine wpAnyH_all (rs:=[11]) kr_ (by simp) ?_
 intro i hi
 obtain rfl:=List.mem_singleton.1 hi
 refine wpOp_step rfl (fun K hK=>?_)
 clear hi hS
 go_simp
 refine hK _ _ (bC ?_ (fun hS=>?_))
 ·unfold cQ
  simp[go_sem]
 clear hK K
 refine wpAnyH_done kr_ ?_ _
 go_wp2_with fail
 ((try simp only[Exit.inBlock,Exit.then]);refine bodyPost_ret (aS rfl (aK rfl ?_) aP) rfl ?_;(simp[go_sem]))
 refine⟨by simp[go_sem,lQ],?_⟩
 (repeat (first | exact Below.refl _ _ | refine Below.al ?_ _ | refine Below.drew ?_ | refine Below.sr ?_ _ | refine Below.sc ?_ _))
end
section
open Go.RowKit
theorem aCx (l:List UInt8) (w:World) (hl:l.length<28):
  Calls Tryz.prog 129 #[.string ⟨l.toArray⟩] w fun e w'=>e=.returned (.tuple #[.agg (Value.int .i64 0::aH 20 (.int .u8 0)).toArray,.int .i64 2])/\Below w.heap.size w w':=by
 go_enter Tryz.func129,Tryz.ntmps129
 go_wp2_with fail
 ((try simp only[Exit.inBlock,Exit.then]);refine bodyPost_ret (aS rfl (aK rfl ?_) aP) rfl ?_;(simp[go_sem]))
 refine⟨by simp[go_sem],?_⟩
 (repeat (first | exact Below.refl _ _ | refine Below.al ?_ _ | refine Below.drew ?_ | refine Below.sr ?_ _ | refine Below.sc ?_ _))
theorem aEG (l:List UInt8) (w:World) (hl:28<=l.length) (hl2:l.length<=10000) (hh:((aI l 0 6).toList==[0,1,8,0,6,4])=false):
  Calls Tryz.prog 129 #[.string ⟨l.toArray⟩] w fun e w'=>e=.returned (.tuple #[.agg (Value.int .i64 0::aH 20 (.int .u8 0)).toArray,.int .i64 3])/\Below w.heap.size w w':=by
 go_enter Tryz.func129,Tryz.ntmps129
 go_wp2_with fail
 refine(dQ 6 0 _ _ _ l _ (by rfl) ?_ ?_ (by omega) (by omega) (by omega) (by omega)).mono ?_
 ·simp[go_sem]
 ·simp[go_sem]
 rintro e w1 ⟨sp1,rfl,rfl⟩
 go_wp2_with fail
 refine(dQ 2 6 _ _ _ l _ (by rfl) ?_ ?_ (by omega) (by omega) (by omega) (by omega)).mono ?_
 ·simp[go_sem]
 ·simp[go_sem]
 rintro e w2 ⟨sp2,rfl,rfl⟩
 go_wp2_with fail
 refine(cM _ _ ?_).mono ?_
 ·simp[go_sem]
 rintro e w3 ⟨rfl,rfl⟩
 go_wp2_with fail
 ((try simp only[Exit.inBlock,Exit.then]);refine bodyPost_ret (aS rfl (aK rfl ?_) aP) rfl ?_;(simp[go_sem]))
 refine⟨by simp[go_sem],?_⟩
 (repeat (first | exact Below.refl _ _ | refine Below.al ?_ _ | refine Below.drew ?_ | refine Below.sr ?_ _ | refine Below.sc ?_ _))
theorem tR (l:List UInt8) (n:Nat) (w:World) (hl:28<=l.length) (hl2:l.length<=10000) (hh:(aI l 0 6).toList=[0,1,8,0,6,4]) (hn:f9 (aI l 6 2).toList=n) (h1:((n:Int) !=1)=true) (h2:((n:Int) !=2)=true):
  Calls Tryz.prog 129 #[.string ⟨l.toArray⟩] w fun e w'=>e=.returned (.tuple #[.agg (Value.int .i64 0::aH 20 (.int .u8 0)).toArray,.int .i64 3])/\Below w.heap.size w w':=by
 go_enter Tryz.func129,Tryz.ntmps129
 go_wp2_with fail
 refine(dQ 6 0 _ _ _ l _ (by rfl) ?_ ?_ (by omega) (by omega) (by omega) (by omega)).mono ?_
 ·simp[go_sem]
 ·simp[go_sem]
 rintro e w1 ⟨sp1,rfl,rfl⟩
 go_wp2_with fail
 refine(dQ 2 6 _ _ _ l _ (by rfl) ?_ ?_ (by omega) (by omega) (by omega) (by omega)).mono ?_
 ·simp[go_sem]
 ·simp[go_sem]
 rintro e w2 ⟨sp2,rfl,rfl⟩
 go_wp2_with fail
 refine(cM _ _ ?_).mono ?_
 ·simp[go_sem]
 rintro e w3 ⟨rfl,rfl⟩
 go_wp2_with fail
 ((try simp only[Exit.inBlock,Exit.then]);refine bodyPost_ret (aS rfl (aK rfl ?_) aP) rfl ?_;(simp[go_sem]))
 refine⟨by simp[go_sem],?_⟩
 (repeat (first | exact Below.refl _ _ | refine Below.al ?_ _ | refine Below.drew ?_ | refine Below.sr ?_ _ | refine Below.sc ?_ _))
theorem aGn (op:Nat) (mac tgt:Vector UInt8 6) (ip want:Vector UInt8 4) (w:World) (hop:op=1∨op=2):
  Calls Tryz.prog 160 #[.agg (lQ op mac tgt ip want).toArray] w fun e w'=>e=.returned (.tuple #[.string ⟨(kL op mac tgt ip want).toArray⟩,.int .i64 0])/\Below w.heap.size w w':=by
 rcases hop with rfl | rfl
 ·unfold lQ
  show Calls Tryz.prog 160 #[.agg (Value.int IntKind.i64 1::(u8v mac++(u8v tgt++(u8v ip++u8v want)))).toArray] w _
  go_enter Tryz.func160,Tryz.ntmps160
  go_wp2_with fail
  go_region_held3 (fun w'=>row w' w.heap.size=(Value.int IntKind.i64 1::(u8v mac++(u8v tgt++(u8v ip++u8v want)))).toArray/\w.heap.size<w'.heap.size/\Below w.heap.size w w') (first | (refine⟨by simp[go_sem],by simp,?_⟩;(repeat (first | exact Below.refl _ _ | refine Below.al ?_ _ | refine Below.drew ?_ | refine Below.sr ?_ _ | refine Below.sc ?_ _));done) | (refine⟨by rw[aA hb1 (by simp)];simp[go_sem],by have:=(hb1).size;simp at this;omega,?_⟩;refine Below.trans ?_ (Below.mono hb1 (by simp));(repeat (first | exact Below.refl _ _ | refine Below.al ?_ _ | refine Below.drew ?_ | refine Below.sr ?_ _ | refine Below.sc ?_ _));done)) (first | (go_at_call 85;refine(fW _ _ (by omega) (by omega)).mono ?_;rintro e w1 ⟨rfl,hb1⟩) | fail)
  go_wp2
  go_ret2
  refine⟨by simp[kL],?_⟩
  refine Below.trans ?_ (Below.mono hb1 (by simp));(repeat (first | exact Below.refl _ _ | refine Below.al ?_ _ | refine Below.drew ?_ | refine Below.sr ?_ _ | refine Below.sc ?_ _))
 ·unfold lQ
  show Calls Tryz.prog 160 #[.agg (Value.int IntKind.i64 2::(u8v mac++(u8v tgt++(u8v ip++u8v want)))).toArray] w _
  go_enter Tryz.func160,Tryz.ntmps160
  go_wp2_with fail
  go_region_held3 (fun w'=>row w' w.heap.size=(Value.int IntKind.i64 2::(u8v mac++(u8v tgt++(u8v ip++u8v want)))).toArray/\w.heap.size<w'.heap.size/\Below w.heap.size w w') (first | (refine⟨by simp[go_sem],by simp,?_⟩;(repeat (first | exact Below.refl _ _ | refine Below.al ?_ _ | refine Below.drew ?_ | refine Below.sr ?_ _ | refine Below.sc ?_ _));done) | (refine⟨by rw[aA hb1 (by simp)];simp[go_sem],by have:=(hb1).size;simp at this;omega,?_⟩;refine Below.trans ?_ (Below.mono hb1 (by simp));(repeat (first | exact Below.refl _ _ | refine Below.al ?_ _ | refine Below.drew ?_ | refine Below.sr ?_ _ | refine Below.sc ?_ _));done)) (first | (go_at_call 85;refine(fW _ _ (by omega) (by omega)).mono ?_;rintro e w1 ⟨rfl,hb1⟩) | fail)
  go_wp2
  go_ret2
  refine⟨by simp[kL],?_⟩
  refine Below.trans ?_ (Below.mono hb1 (by simp));(repeat (first | exact Below.refl _ _ | refine Below.al ?_ _ | refine Below.drew ?_ | refine Below.sr ?_ _ | refine Below.sc ?_ _))
end
section
open Go.ChangeShapes Go.WideShapes Go.ChangeAt Go.RowKit
theorem nZ {n:Nat} (a c:List UInt8) (v:Vector UInt8 n) (k:Nat) (h:a.length=k):aI (a++(v.toList++c)) k n=v:=by
 apply Vector.toList_inj.1
 rw[cR _ _ _ (by simp;omega)]
 subst h
 rw[List.drop_left,List.take_left' (by simp)]
theorem aCy (op:Nat) (mac tgt:Vector UInt8 6) (ip want:Vector UInt8 4):(kL op mac tgt ip want).length=28:=by simp[kL]
section
variable (op:Nat) (mac tgt:Vector UInt8 6) (ip want:Vector UInt8 4) (more:List UInt8)
theorem aGo:(aI (kL op mac tgt ip want++more) 0 6).toList=[0,1,8,0,6,4]:=by
 rw[cR _ _ _ (by simp[kL])]
 simp[kL]
theorem aKk:(aI (kL op mac tgt ip want++more) 6 2).toList=bJ op 2:=by
 rw[cR _ _ _ (by simp[kL])]
 simp[kL,List.drop_append,List.take_append,List.drop_of_length_le,List.take_of_length_le]
theorem aDS:aI (kL op mac tgt ip want++more) 8 6=mac:=by
 have:kL op mac tgt ip want++more=([0,1,8,0,6,4]++bJ op 2)++(mac.toList++(ip.toList++(tgt.toList++(want.toList++more)))):=by simp[kL]
 rw[this,nZ _ _ _ _ (by simp)]
theorem aGp:aI (kL op mac tgt ip want++more) 14 4=ip:=by
 have:kL op mac tgt ip want++more=([0,1,8,0,6,4]++(bJ op 2++mac.toList))++(ip.toList++(tgt.toList++(want.toList++more))):=by simp[kL]
 rw[this,nZ _ _ _ _ (by simp)]
theorem aDT:aI (kL op mac tgt ip want++more) 18 6=tgt:=by
 have:kL op mac tgt ip want++more=([0,1,8,0,6,4]++(bJ op 2++(mac.toList++ip.toList)))++(tgt.toList++(want.toList++more)):=by simp[kL]
 rw[this,nZ _ _ _ _ (by simp)]
theorem aBe:aI (kL op mac tgt ip want++more) 24 4=want:=by
 have:kL op mac tgt ip want++more=([0,1,8,0,6,4]++(bJ op 2++(mac.toList++(ip.toList++tgt.toList))))++(want.toList++more):=by simp[kL]
 rw[this,nZ _ _ _ _ (by simp)]
end
theorem aCz (op:Nat) (mac tgt:Vector UInt8 6) (ip want:Vector UInt8 4) (more:List UInt8) (w:World) (hop:op=1∨op=2) (hm:more.length<=1000):
  Calls Tryz.prog 129 #[.string ⟨(kL op mac tgt ip want++more).toArray⟩] w fun e w'=>e=.returned (.tuple #[.agg (lQ op mac tgt ip want).toArray,.int .i64 0])/\Below w.heap.size w w':=by
 have hl:(kL op mac tgt ip want++more).length=28+more.length:=by rw[List.length_append,aCy]
 have hh:=aGo op mac tgt ip want more
 have ho:f9 (aI (kL op mac tgt ip want++more) 6 2).toList=op:=by
  rw[aKk,dY]
  rcases hop with rfl | rfl<;>rfl
 rcases hop with rfl | rfl
 ·have:=aBc _ w (by omega) (by omega) hh ho
  rwa [aDS,aGp,aDT,aBe]at this
 ·have:=aBd _ w (by omega) (by omega) hh ho
  rwa [aDS,aGp,aDT,aBe]at this
end
section
open Go.RowKit
@[simp] theorem aLn (n : Nat) (v : Value) : (aH n v).toArray.size = n := by simp [aH]
def bV (dst src:Vector UInt8 6) (ty:Int) (body:List UInt8):List Value:=u8v dst++(u8v src++[.int .i64 ty,.string ⟨body.toArray⟩])
def aKl:Vector UInt8 6:=Vector.replicate 6 255
@[simp, go_sem] theorem aLP (t : List Value) : Value.int .u8 255 :: Value.int .u8 255 :: Value.int .u8 255 :: Value.int .u8 255 :: Value.int .u8 255 :: Value.int .u8 255 :: t = u8v aKl ++ t := rfl
theorem aEH (op:Int) (mac tgt other:Vector UInt8 6) (ip want:Vector UInt8 4) (w:World):
  Calls Tryz.prog 131 #[.agg (lQ op mac tgt ip want).toArray,.agg (u8v other).toArray] w fun e w'=>e=.returned (.agg (bV mac other 2054 (kL 2 other mac want ip)).toArray)/\Below w.heap.size w w':=by
 have Hp:∀w,Calls Tryz.prog 160 #[.agg (Value.int .i64 2::(u8v other++(u8v mac++(u8v want++u8v ip)))).toArray] w _:=fun w=>aGn 2 other mac want ip w (Or.inr rfl)
 have HP:=h_ Hp
 clear Hp
 unfold lQ
 go_enter Tryz.func131,Tryz.ntmps131
 go_wp2_with fail
 (try simp only[aGl,aDR,List.append_nil,aLP])
 refine(HP.out _).mono ?_
 rintro e w1 ⟨rfl,hb1⟩
 have z1:=(hb1).size
 try simp at z1
 have ra:row w1 (w.heap.size)=(Value.int .i64 op::(u8v mac++(u8v tgt++(u8v ip++u8v want)))).toArray:=by rw[aA hb1 (by first | (simp;done) | (simp;omega) | omega)];simp[go_sem];(try rfl)
 have rb:row w1 (w.heap.size+1)=(u8v other).toArray:=by rw[aA hb1 (by first | (simp;done) | (simp;omega) | omega)];simp[go_sem];(try rfl)
 have rc:row w1 (w.heap.size+2)=(aH 12 (Value.int .u8 0)++[Value.int .i64 0,.string ⟨#[]⟩]).toArray:=by rw[aA hb1 (by first | (simp;done) | (simp;omega) | omega)];simp[go_sem];(try rfl)
 replace hb1:=cJ hb1 (show Below (w).heap.size w _ from by(repeat (first | exact Below.refl _ _ | refine Below.al ?_ _ | refine Below.drew ?_ | refine Below.sr ?_ _ | refine Below.sc ?_ _))) (by first | (simp;done) | (simp;omega) | omega)
 go_wp2_with fail
 (try simp only[aGl,aDR,List.append_nil,aLP])
 have hfin:=aB (w:=w1) (g:=w.heap.size+1+1) (c:=(u8v mac++(u8v other++[Value.int .i64 2054,.string ⟨(kL 2 other mac want ip).toArray⟩])).toArray) (by rw[rc];simp) (by rw[rc];simp)
 (try simp only[Exit.inBlock,Exit.then])
 refine bodyPost_ret (aV rfl (aK rfl ?_)) rfl ?_
 ·rw[hfin]
  simp
 refine⟨by rw[hfin];simp[bV],?_⟩
 refine Below.setRow hb1 (by first | (simp;done) | (simp;omega) | omega) _
end
end Go.Proofs.YtiagbbknkdgmeaaGreat
