/- Texts of this proof, merged: Nd, NdQ, NdT, NdR, NdV, NdX. -/
import Derived.Test.YtiagbbknkdgmeaaGreatJ16
import Derived.WalkKit
set_option linter.unusedSimpArgs false
set_option linter.unusedVariables false
set_option maxHeartbeats 8000000
set_option maxRecDepth 20000
namespace Go.Proofs.YtiagbbknkdgmeaaGreat
section
open Go.RowKit
def vG (n b i:Nat):Nat:=(n+b*(if i%2=0 then 256 else 1))%65536+(n+b*(if i%2=0 then 256 else 1)) / 65536
def aB0 (l:List UInt8):Nat->Nat
 | 0=>0
 | k+1=>vG (aB0 l k) (l.getD k 0).toNat k
def aB1 (l:List UInt8):Nat:=65535 - aB0 l l.length
theorem aFE (n b i:Nat) (hn:n<=65535) (hb:b<256):vG n b i<=65535:=by
 unfold vG
 split<;>omega
theorem aJt (l:List UInt8) (k:Nat):aB0 l k<=65535:=by
 induction k with
 | zero=>simp[aB0]
 | succ k ih=>exact aFE _ _ _ ih (l.getD k 0).toNat_lt
theorem aJU (n:Int) (h0:0<=n) (h1:n<4294967296):bits .and .i64 n 65535=n%65536:=by
 have:=bits_mask .i64 63 (by decide) dR 16 (by decide) n h0 (by omega)
 simpa using this
theorem aB2 (l:List UInt8) (w:World) (hl:l.length<=100000):
  Calls Tryz.prog 214 #[.string ⟨l.toArray⟩] w fun e w'=>e=.returned (.int .i64 (aB1 l))/\w=w':=by
 go_enter Tryz.func214,Tryz.ntmps214
 go_wp2
 go_loop [3,7] (fun n i=>∃k:Nat,k<=l.length/\i=.int .i64 k/\n=.int .i64 (aB0 l k)) (fun _ i=>l.length - (intOf i).toNat)
 case atStart=>exact⟨0,Nat.zero_le _,rfl,rfl⟩
 case round=>
  obtain⟨k,hk,rfl,rfl⟩:=hrel
  have hle:=aJt l k
  obtain⟨n,hn⟩:∃n,aB0 l k=n:=⟨_,rfl⟩
  rw[hn]at hle ⊢
  have HN:=h_ hn
  clear hn
  by_cases hlt:k<l.length
  ·have h1:(k:Int)<l.length:=by omega
   have hb:=(l[k]).toNat_lt
   have hg:l.getD k 0=l[k]:=by simp[List.getD_eq_getElem?_getD,hlt]
   by_cases hp:k%2=0
   ·have hp1:(k:Int)%2=0:=by omega
    have hm:=aJU ((n:Int)+(l[k].toNat:Int)*256) (by omega) (by omega)
    go_wp2
    go_round
    case rel=>exact⟨k+1,by omega,by simp,congrArg (Value.int .i64) (by rw[aB0,HN.out,hg,vG,if_pos hp];omega)⟩
    case measure=>simp[intOf];omega
   ·have hp1:(k:Int)%2=1:=by omega
    have hm:=aJU ((n:Int)+(l[k].toNat:Int)) (by omega) (by omega)
    go_wp2
    go_round
    case rel=>exact⟨k+1,by omega,by simp,congrArg (Value.int .i64) (by rw[aB0,HN.out,hg,vG,if_neg hp];omega)⟩
    case measure=>simp[intOf];omega
  ·obtain rfl:k=l.length:=by omega
   go_wp2
   go_ret
   exact⟨aJW (by rw[aB1,HN.out];omega),rfl⟩
def ndV (op:Int) (fr to ab:Vector UInt8 16) (mac:Vector UInt8 6) (has:Bool) (fl:Vector UInt8 4):List Value:=
 .int .i64 op::(u8v fr++(u8v to++(u8v ab++(u8v mac++(.bool has::u8v fl)))))
def kB (op:Nat) (s:List UInt8) (ab:Vector UInt8 16) (mac:Vector UInt8 6) (has:Bool) (fl:Vector UInt8 4):List UInt8:=
 [UInt8.ofNat (134+op),0]++(s++(fl.toList++(ab.toList++(if has then [UInt8.ofNat op,1]++mac.toList else []))))
theorem iE (op:Nat) (s:List UInt8) (ab:Vector UInt8 16) (mac:Vector UInt8 6) (has:Bool) (fl:Vector UInt8 4):(kB op s ab mac has fl).length=s.length+(if has then 30 else 22):=by
 unfold kB
 cases has<;>simp<;>omega
def aNd (op:Nat) (fr to ab:Vector UInt8 16) (mac:Vector UInt8 6) (has:Bool) (fl:Vector UInt8 4):List UInt8:=
 fr.toList++(to.toList++(bJ (if has then 32 else 24) 4++([0,0,0,58]++kB op [0,0] ab mac has fl)))
def iF (op:Nat) (fr to ab:Vector UInt8 16) (mac:Vector UInt8 6) (has:Bool) (fl:Vector UInt8 4):Nat:=aB1 (aNd op fr to ab mac has fl)
theorem vH (fr to ab:Vector UInt8 16) (mac:Vector UInt8 6) (has:Bool) (fl:Vector UInt8 4) (w:World):
  Calls Tryz.prog 189 #[.agg (ndV 1 fr to ab mac has fl).toArray] w fun e w'=>e=.returned (.string ⟨(kB 1 [0,0] ab mac has fl).toArray⟩)/\Below w.heap.size w w':=by
 unfold ndV
 go_enter Tryz.func189,Tryz.ntmps189
 go_wp2_with fail
 refine a8 (S:=cQ (fun w'=>row w' w.heap.size=(.int .i64 1::(u8v fr++(u8v to++(u8v ab++(u8v mac++(.bool has::u8v fl)))))).toArray)) rfl ?_ (fun hS=>?_)
 ·unfold cQ
  simp[go_sem, *]
 refine rp 0 hS ?_
 refine rp 1 hS ?_
 refine rp 2 hS ?_
 refine rp 3 hS ?_
 refine rp 6 hS ?_
 refine rp 7 hS ?_
 refine rp 8 hS ?_
 refine rp 10 hS ?_
 refine rp 11 hS ?_
 refine rp 12 hS ?_
 refine wpAnyH_all (rs:=[4]) kr_ (by simp) ?_
 intro i hi
 obtain rfl:=List.mem_singleton.1 hi
 refine wpOp_step rfl (fun K hK=>?_)
 clear hi hS
 go_simp
 rw[show IntKind.u8.wrap (IntKind.i64.wrap 135)=135 by decide]
 rw[show(#[Value.int .u8 135,Value.int .u8 0,Value.int .u8 0,Value.int .u8 0]:Array Value)=(u8s [135,0,0,0]).toArray from rfl]
 refine hK _ _ (cT (S2:=cQ (fun w'=>row w' w.heap.size=(.int .i64 1::(u8v fr++(u8v to++(u8v ab++(u8v mac++(.bool has::u8v fl)))))).toArray/\row w' (w.heap.size+1)=(u8s [135,0,0,0]).toArray)) ?_ ?_ (fun hS=>?_))
 ·unfold cQ
  simp[go_sem]
 ·intro w' hS'
  unfold cQ at *
  simp at hS'
  simp[hS']
 clear hK K
 refine rp 5 hS ?_
 refine rp 9 hS ?_
 refine rp 13 hS ?_
 refine rp 14 hS ?_
 refine wpAnyH_done kr_ ?_ _
 cases has with
 | false=>
  go_wp2_with fail
  go_ret
  refine⟨by simp[kB],?_⟩
  (repeat (first | exact Below.refl _ _ | refine Below.al ?_ _ | refine Below.drew ?_ | refine Below.sr ?_ _ | refine Below.sc ?_ _))
 | true=>
  go_wp2_with fail
  refine a8 (S:=cQ (fun w'=>row w' w.heap.size=(.int .i64 1::(u8v fr++(u8v to++(u8v ab++(u8v mac++(.bool true::u8v fl)))))).toArray)) rfl ?_ (fun hS=>?_)
  ·unfold cQ
   simp[go_sem, *]
  refine rp 0 hS ?_
  refine rp 1 hS ?_
  refine rp 2 hS ?_
  refine rp 3 hS ?_
  refine rp 6 hS ?_
  refine rp 7 hS ?_
  refine rp 8 hS ?_
  refine wpAnyH_all (rs:=[4]) kr_ (by simp) ?_
  intro i hi
  obtain rfl:=List.mem_singleton.1 hi
  refine wpOp_step rfl (fun K hK=>?_)
  clear hi hS
  go_simp
  rw[show IntKind.u8.wrap 1=1 by decide]
  rw[show(#[Value.int .u8 1,Value.int .u8 1]:Array Value)=(u8s [1,1]).toArray from rfl]
  refine hK _ _ (cT (S2:=cQ (fun w'=>row w' w.heap.size=(.int .i64 1::(u8v fr++(u8v to++(u8v ab++(u8v mac++(.bool true::u8v fl)))))).toArray/\row w' (w.heap.size+1+1)=(u8s [1,1]).toArray)) ?_ ?_ (fun hS=>?_))
  ·unfold cQ
   simp[go_sem]
  ·intro w' hS'
   unfold cQ at *
   simp at hS'
   simp[hS']
  clear hK K
  refine rp 5 hS ?_
  refine rp 9 hS ?_
  refine rp 10 hS ?_
  refine rp 11 hS ?_
  refine wpAnyH_done kr_ ?_ _
  go_wp2_with fail
  go_ret
  refine⟨by simp[kB],?_⟩
  (repeat (first | exact Below.refl _ _ | refine Below.al ?_ _ | refine Below.drew ?_ | refine Below.sr ?_ _ | refine Below.sc ?_ _))
theorem vI (fr to ab:Vector UInt8 16) (mac:Vector UInt8 6) (has:Bool) (fl:Vector UInt8 4) (w:World):
  Calls Tryz.prog 189 #[.agg (ndV 2 fr to ab mac has fl).toArray] w fun e w'=>e=.returned (.string ⟨(kB 2 [0,0] ab mac has fl).toArray⟩)/\Below w.heap.size w w':=by
 unfold ndV
 go_enter Tryz.func189,Tryz.ntmps189
 go_wp2_with fail
 refine a8 (S:=cQ (fun w'=>row w' w.heap.size=(.int .i64 2::(u8v fr++(u8v to++(u8v ab++(u8v mac++(.bool has::u8v fl)))))).toArray)) rfl ?_ (fun hS=>?_)
 ·unfold cQ
  simp[go_sem, *]
 refine rp 0 hS ?_
 refine rp 1 hS ?_
 refine rp 2 hS ?_
 refine rp 3 hS ?_
 refine rp 6 hS ?_
 refine rp 7 hS ?_
 refine rp 8 hS ?_
 refine rp 10 hS ?_
 refine rp 11 hS ?_
 refine rp 12 hS ?_
 refine wpAnyH_all (rs:=[4]) kr_ (by simp) ?_
 intro i hi
 obtain rfl:=List.mem_singleton.1 hi
 refine wpOp_step rfl (fun K hK=>?_)
 clear hi hS
 go_simp
 rw[show IntKind.u8.wrap (IntKind.i64.wrap 136)=136 by decide]
 rw[show(#[Value.int .u8 136,Value.int .u8 0,Value.int .u8 0,Value.int .u8 0]:Array Value)=(u8s [136,0,0,0]).toArray from rfl]
 refine hK _ _ (cT (S2:=cQ (fun w'=>row w' w.heap.size=(.int .i64 2::(u8v fr++(u8v to++(u8v ab++(u8v mac++(.bool has::u8v fl)))))).toArray/\row w' (w.heap.size+1)=(u8s [136,0,0,0]).toArray)) ?_ ?_ (fun hS=>?_))
 ·unfold cQ
  simp[go_sem]
 ·intro w' hS'
  unfold cQ at *
  simp at hS'
  simp[hS']
 clear hK K
 refine rp 5 hS ?_
 refine rp 9 hS ?_
 refine rp 13 hS ?_
 refine rp 14 hS ?_
 refine wpAnyH_done kr_ ?_ _
 cases has with
 | false=>
  go_wp2_with fail
  go_ret
  refine⟨by simp[kB],?_⟩
  (repeat (first | exact Below.refl _ _ | refine Below.al ?_ _ | refine Below.drew ?_ | refine Below.sr ?_ _ | refine Below.sc ?_ _))
 | true=>
  go_wp2_with fail
  refine a8 (S:=cQ (fun w'=>row w' w.heap.size=(.int .i64 2::(u8v fr++(u8v to++(u8v ab++(u8v mac++(.bool true::u8v fl)))))).toArray)) rfl ?_ (fun hS=>?_)
  ·unfold cQ
   simp[go_sem, *]
  refine rp 0 hS ?_
  refine rp 1 hS ?_
  refine rp 2 hS ?_
  refine rp 3 hS ?_
  refine rp 6 hS ?_
  refine rp 7 hS ?_
  refine rp 8 hS ?_
  refine wpAnyH_all (rs:=[4]) kr_ (by simp) ?_
  intro i hi
  obtain rfl:=List.mem_singleton.1 hi
  refine wpOp_step rfl (fun K hK=>?_)
  clear hi hS
  go_simp
  rw[show IntKind.u8.wrap 2=2 by decide]
  rw[show(#[Value.int .u8 2,Value.int .u8 1]:Array Value)=(u8s [2,1]).toArray from rfl]
  refine hK _ _ (cT (S2:=cQ (fun w'=>row w' w.heap.size=(.int .i64 2::(u8v fr++(u8v to++(u8v ab++(u8v mac++(.bool true::u8v fl)))))).toArray/\row w' (w.heap.size+1+1)=(u8s [2,1]).toArray)) ?_ ?_ (fun hS=>?_))
  ·unfold cQ
   simp[go_sem]
  ·intro w' hS'
   unfold cQ at *
   simp at hS'
   simp[hS']
  clear hK K
  refine rp 5 hS ?_
  refine rp 9 hS ?_
  refine rp 10 hS ?_
  refine rp 11 hS ?_
  refine wpAnyH_done kr_ ?_ _
  go_wp2_with fail
  go_ret
  refine⟨by simp[kB],?_⟩
  (repeat (first | exact Below.refl _ _ | refine Below.al ?_ _ | refine Below.drew ?_ | refine Below.sr ?_ _ | refine Below.sc ?_ _))
theorem lF (fr to ab:Vector UInt8 16) (mac:Vector UInt8 6) (has:Bool) (fl:Vector UInt8 4) (w:World):
  Calls Tryz.prog 188 #[.agg (ndV 1 fr to ab mac has fl).toArray] w fun e w'=>e=.returned (.int .i64 (iF 1 fr to ab mac has fl))/\Below w.heap.size w w':=by
 have Hm:=vH fr to ab mac has fl
 obtain⟨m,hm⟩:∃m,kB 1 [0,0] ab mac has fl=m:=⟨_,rfl⟩
 have hml:m.length=if has then 32 else 24:=by rw[<-hm,iE];cases has<;>rfl
 have hS:iF 1 fr to ab mac has fl=aB1 (fr.toList++(to.toList++(bJ m.length 4++([0,0,0,58]++m)))):=by rw[iF,aNd,hm,hml]
 rw[hm]at Hm
 have HM:=h_ Hm
 have hml1:m.length<=32:=by rw[hml];cases has<;>decide
 have hml2:(m.length:Int)<=32:=by omega
 rw[hS]
 clear hm Hm hml hS
 unfold ndV at HM
 unfold ndV
 go_enter Tryz.func188,Tryz.ntmps188
 go_wp2_with fail
 refine(HM.out _).mono ?_
 rintro e w1 ⟨rfl,hb1⟩
 have z1:=(hb1).size
 try simp at z1
 have ra:row w1 (w.heap.size)=(.int .i64 1::(u8v fr++(u8v to++(u8v ab++(u8v mac++(.bool has::u8v fl)))))).toArray:=by rw[aA hb1 (by first | (simp;done) | (simp;omega) | omega)];simp[go_sem];(try rfl)
 replace hb1:=cJ hb1 (show Below (w).heap.size w _ from by(repeat (first | exact Below.refl _ _ | refine Below.al ?_ _ | refine Below.drew ?_ | refine Below.sr ?_ _ | refine Below.sc ?_ _))) (by first | (simp;done) | (simp;omega) | omega)
 go_wp2_with fail
 refine a8 (S:=cQ (fun w'=>row w' w.heap.size=(.int .i64 1::(u8v fr++(u8v to++(u8v ab++(u8v mac++(.bool has::u8v fl)))))).toArray)) rfl ?_ (fun hS=>?_)
 ·unfold cQ
  simp[go_sem, *]
 refine rp 0 hS ?_
 refine rp 1 hS ?_
 refine rp 2 hS ?_
 refine rp 3 hS ?_
 refine rp 4 hS ?_
 refine rp 5 hS ?_
 refine rp 6 hS ?_
 refine rp 7 hS ?_
 refine rp 8 hS ?_
 refine rp 12 hS ?_
 refine wpAnyH_all (rs:=[9]) kr_ (by simp) ?_
 intro i hi
 obtain rfl:=List.mem_singleton.1 hi
 refine wpOp_step rfl (fun K hK=>?_)
 clear hi hS
 go_simp
 refine(aDQ _ _ (by omega) (by omega)).mono ?_
 rintro e w2 ⟨rfl,hb2⟩
 have z2:=(hb2).size
 try simp at z2
 refine hK _ _ (bC ?_ (fun hS=>?_))
 ·unfold cQ
  show row _ _=_
  rw[aA hb2 (by first | (simp;done) | (simp;omega) | omega)]
  (first | done | simp[go_sem, *])
 clear hK K
 have ra2:=hS
 unfold cQ at ra2
 refine rp 10 hS ?_
 refine rp 11 hS ?_
 refine wpAnyH_take (i:=13) (v:=?_) cD kr_ kr_ kr_ (by exact fun _ _ _ h=>h) (Or.inl ⟨by rfl,?_⟩) hS ?_
 rotate_left
 ·intro w' hS'
  unfold cQ at hS'
  go_simp
  rw[if_neg (by omega)]
  (first | done | rfl)
 (try simp only[Act.put,List.setIfInBounds_toArray,List.set_cons_zero,List.set_cons_succ])
 refine wpAnyH_all (rs:=[14]) kr_ (by simp) ?_
 intro i hi
 obtain rfl:=List.mem_singleton.1 hi
 refine wpOp_step rfl (fun K hK=>?_)
 clear hi hS
 go_simp
 refine(aB2 _ _ (by simp;omega)).mono ?_
 rintro e w3 ⟨rfl,rfl⟩
 refine hK _ _ (bC ?_ (fun hS=>?_))
 ·unfold cQ
  exact ra2
 clear hK K
 refine rp 15 hS ?_
 refine wpAnyH_done kr_ ?_ _
 go_wp2_with fail
 go_ret
 refine⟨by simp,?_⟩
 refine Below.trans ?_ (Below.mono hb2 (by first | (simp;done) | (simp;omega) | omega))
 (repeat (first | refine Below.al ?_ _ | refine Below.drew ?_ | refine Below.sr ?_ _ | refine Below.sc ?_ _))
 exact hb1
theorem lG (fr to ab:Vector UInt8 16) (mac:Vector UInt8 6) (has:Bool) (fl:Vector UInt8 4) (w:World):
  Calls Tryz.prog 188 #[.agg (ndV 2 fr to ab mac has fl).toArray] w fun e w'=>e=.returned (.int .i64 (iF 2 fr to ab mac has fl))/\Below w.heap.size w w':=by
 have Hm:=vI fr to ab mac has fl
 obtain⟨m,hm⟩:∃m,kB 2 [0,0] ab mac has fl=m:=⟨_,rfl⟩
 have hml:m.length=if has then 32 else 24:=by rw[<-hm,iE];cases has<;>rfl
 have hS:iF 2 fr to ab mac has fl=aB1 (fr.toList++(to.toList++(bJ m.length 4++([0,0,0,58]++m)))):=by rw[iF,aNd,hm,hml]
 rw[hm]at Hm
 have HM:=h_ Hm
 have hml1:m.length<=32:=by rw[hml];cases has<;>decide
 have hml2:(m.length:Int)<=32:=by omega
 rw[hS]
 clear hm Hm hml hS
 unfold ndV at HM
 unfold ndV
 go_enter Tryz.func188,Tryz.ntmps188
 go_wp2_with fail
 refine(HM.out _).mono ?_
 rintro e w1 ⟨rfl,hb1⟩
 have z1:=(hb1).size
 try simp at z1
 have ra:row w1 (w.heap.size)=(.int .i64 2::(u8v fr++(u8v to++(u8v ab++(u8v mac++(.bool has::u8v fl)))))).toArray:=by rw[aA hb1 (by first | (simp;done) | (simp;omega) | omega)];simp[go_sem];(try rfl)
 replace hb1:=cJ hb1 (show Below (w).heap.size w _ from by(repeat (first | exact Below.refl _ _ | refine Below.al ?_ _ | refine Below.drew ?_ | refine Below.sr ?_ _ | refine Below.sc ?_ _))) (by first | (simp;done) | (simp;omega) | omega)
 go_wp2_with fail
 refine a8 (S:=cQ (fun w'=>row w' w.heap.size=(.int .i64 2::(u8v fr++(u8v to++(u8v ab++(u8v mac++(.bool has::u8v fl)))))).toArray)) rfl ?_ (fun hS=>?_)
 ·unfold cQ
  simp[go_sem, *]
 refine rp 0 hS ?_
 refine rp 1 hS ?_
 refine rp 2 hS ?_
 refine rp 3 hS ?_
 refine rp 4 hS ?_
 refine rp 5 hS ?_
 refine rp 6 hS ?_
 refine rp 7 hS ?_
 refine rp 8 hS ?_
 refine rp 12 hS ?_
 refine wpAnyH_all (rs:=[9]) kr_ (by simp) ?_
 intro i hi
 obtain rfl:=List.mem_singleton.1 hi
 refine wpOp_step rfl (fun K hK=>?_)
 clear hi hS
 go_simp
 refine(aDQ _ _ (by omega) (by omega)).mono ?_
 rintro e w2 ⟨rfl,hb2⟩
 have z2:=(hb2).size
 try simp at z2
 refine hK _ _ (bC ?_ (fun hS=>?_))
 ·unfold cQ
  show row _ _=_
  rw[aA hb2 (by first | (simp;done) | (simp;omega) | omega)]
  (first | done | simp[go_sem, *])
 clear hK K
 have ra2:=hS
 unfold cQ at ra2
 refine rp 10 hS ?_
 refine rp 11 hS ?_
 refine wpAnyH_take (i:=13) (v:=?_) cD kr_ kr_ kr_ (by exact fun _ _ _ h=>h) (Or.inl ⟨by rfl,?_⟩) hS ?_
 rotate_left
 ·intro w' hS'
  unfold cQ at hS'
  go_simp
  rw[if_neg (by omega)]
  (first | done | rfl)
 (try simp only[Act.put,List.setIfInBounds_toArray,List.set_cons_zero,List.set_cons_succ])
 refine wpAnyH_all (rs:=[14]) kr_ (by simp) ?_
 intro i hi
 obtain rfl:=List.mem_singleton.1 hi
 refine wpOp_step rfl (fun K hK=>?_)
 clear hi hS
 go_simp
 refine(aB2 _ _ (by simp;omega)).mono ?_
 rintro e w3 ⟨rfl,rfl⟩
 refine hK _ _ (bC ?_ (fun hS=>?_))
 ·unfold cQ
  exact ra2
 clear hK K
 refine rp 15 hS ?_
 refine wpAnyH_done kr_ ?_ _
 go_wp2_with fail
 go_ret
 refine⟨by simp,?_⟩
 refine Below.trans ?_ (Below.mono hb2 (by first | (simp;done) | (simp;omega) | omega))
 (repeat (first | refine Below.al ?_ _ | refine Below.drew ?_ | refine Below.sr ?_ _ | refine Below.sc ?_ _))
 exact hb1
end
section
open Go.RowKit
def ip0:Vector UInt8 16:=Vector.replicate 16 0
def jF:Vector UInt8 4:=Vector.replicate 4 0
section
theorem bY (n:Int) (w:World):Calls Tryz.prog 187 #[.bool true,.int .i64 n] w fun e w'=>e=.returned (.tuple #[])/\w=w':=by
 go_enter Tryz.func187,Tryz.ntmps187
 go_wp2
 go_end0
 exact⟨rfl,rfl⟩
theorem dK (n:Int) (w:World):Calls Tryz.prog 187 #[.bool false,.int .i64 n] w fun e w'=>e=.panicked (sW n)/\w=w':=by
 go_enter Tryz.func187,Tryz.ntmps187
 go_wp2
 exact⟨rfl,rfl,rfl⟩
end
theorem aB3 (l:List UInt8) (X:Nat) (w:World) (hl:l.length<64):
  Calls Tryz.prog 163 #[.string ⟨l.toArray⟩,.pointer (some ⟨X,0,none⟩)] w fun e w'=>e=.panicked (sW 2)/\w=w':=by
 have h1:(l.length:Int)<64:=by omega
 go_enter Tryz.func163,Tryz.ntmps163
 go_wp2_with fail
 (try rw[decide_eq_false (show ¬(64:Int)<=l.length by omega)])
 refine(dK _ _).mono ?_
 rintro e w1 ⟨rfl,rfl⟩
 exact⟨rfl,rfl,rfl⟩
theorem lH (l:List UInt8) (X:Nat) (op:Int) (fr to ab:Vector UInt8 16) (mac:Vector UInt8 6) (has:Bool) (fl:Vector UInt8 4) (w:World) (hl:64<=l.length) (hl2:l.length<=10000) (sz:Nat) (hsz:aW l 4=sz) (hs:sz=24∨sz=32) (h0:l[0]=96) (h6:l[6]=58) (h7:l[7]=255) (hls:40+sz<=l.length)
  (hX:row w X=(.int .i64 op::(u8v fr++(u8v to++(u8v ab++(u8v mac++(.bool has::u8v fl)))))).toArray) (hXw:X<w.heap.size):
  Calls Tryz.prog 163 #[.string ⟨l.toArray⟩,.pointer (some ⟨X,0,none⟩)] w fun e w'=>e=.returned (.string ⟨((l.drop 40).take sz).toArray⟩)/\
   Below w.heap.size (w.setRow X (.int .i64 op::(u8v (aI l 8 16)++(u8v (aI l 24 16)++(u8v ab++(u8v mac++(.bool has::u8v fl)))))).toArray) w':=by
 have h1:(64:Int)<=l.length:=by omega
 have h2:(l.length:Int)<=10000:=by omega
 have hls1:(40:Int)+sz<=l.length:=by omega
 go_enter Tryz.func163,Tryz.ntmps163
 go_wp2_with fail
 refine(bY _ _).mono ?_
 rintro e w1 ⟨rfl,rfl⟩
 go_wp2_with fail
 refine(cM _ _ (by simp[ByteArray.size];omega)).mono ?_
 rintro e w1 ⟨rfl,rfl⟩
 rw[show f9 (ByteArray.mk (List.take 2 (List.drop 4 l)).toArray).data.toList=sz from hsz]
 have c0:((l[0].toNat:Int)==96)=true:=by rw[h0];rfl
 have c6:((l[6].toNat:Int)==58)=true:=by rw[h6];rfl
 have c7:((l[7].toNat:Int)==255)=true:=by rw[h7];rfl
 have g0:l[0].toNat=96:=by rw[h0];rfl
 have g6:l[6].toNat=58:=by rw[h6];rfl
 have g7:l[7].toNat=255:=by rw[h7];rfl
 have HH:=h_ (And.intro hsz (And.intro h0 (And.intro h6 h7)))
 clear hsz h0 h6 h7
 have hXw2:X<w.heap.size+1:=by omega
 have hset:∀(W:World) (c:Array Value),(row W X).size=60->c.size=60->row (W.setRow X c) X=c:=fun W c h1 h2=>aB (by omega) (by omega)
 have hm8:min 16 (l.length - 8)=16:=by omega
 have hm24:min 16 (l.length - 24)=16:=by omega
 have e8:u8s (List.take 16 (List.drop 8 l))=u8v (aI l 8 16):=(aZ _ _ _ (by omega)).symm
 have e24:u8s (List.take 16 (List.drop 24 l))=u8v (aI l 24 16):=(aZ _ _ _ (by omega)).symm
 rcases hs with rfl | rfl
 ·skip
  go_wp2_with fail
  refine(bY _ _).mono ?_
  rintro e w1 ⟨rfl,rfl⟩
  go_wp2_with fail
  refine(bY _ _).mono ?_
  rintro e w1 ⟨rfl,rfl⟩
  go_wp2_with fail
  go_region
  all_goals
   go_wp2_with fail
   go_ret
   refine⟨by simp,?_⟩
   (repeat (first | exact Below.refl _ _ | refine Below.al ?_ _ | refine Below.drew ?_ | refine Below.sr ?_ _ | refine Below.sc ?_ _))
 ·have h72:(72:Int)<=l.length:=by omega
  go_wp2_with fail
  refine(bY _ _).mono ?_
  rintro e w1 ⟨rfl,rfl⟩
  go_wp2_with fail
  refine(bY _ _).mono ?_
  rintro e w1 ⟨rfl,rfl⟩
  go_wp2_with fail
  go_region
  all_goals
   go_wp2_with fail
   go_ret
   refine⟨by simp,?_⟩
   (repeat (first | exact Below.refl _ _ | refine Below.al ?_ _ | refine Below.drew ?_ | refine Below.sr ?_ _ | refine Below.sc ?_ _))
end
section
open Go.RowKit
theorem wI (m:List UInt8) (X:Nat) (op0:Int) (fr to ab:Vector UInt8 16) (mac:Vector UInt8 6) (fl:Vector UInt8 4) (w:World) (hl:m.length=24) (h0:m[0]=135) (h1:m[1]=0)
  (hs:aW m 2=iF 1 fr to (aI m 8 16) mac false (aI m 4 4)) (hX:row w X=(.int .i64 op0::(u8v fr++(u8v to++(u8v ab++(u8v mac++(.bool false::u8v fl)))))).toArray) (hXw:X<w.heap.size):
  Calls Tryz.prog 162 #[.string ⟨m.toArray⟩,.pointer (some ⟨X,0,none⟩)] w fun e w'=>e=.returned (.tuple #[])/\
   Below w.heap.size (w.setRow X (.int .i64 1::(u8v fr++(u8v to++(u8v (aI m 8 16)++(u8v mac++(.bool false::u8v (aI m 4 4))))))).toArray) w':=by
 have hXw2:X<w.heap.size+1:=by omega
 have hset:∀(W:World) (c:Array Value),(row W X).size=60->c.size=60->row (W.setRow X c) X=c:=fun W c h1 h2=>aB (by omega) (by omega)
 have g0:m[0].toNat=135:=by rw[h0];rfl
 have g1:m[1].toNat=0:=by rw[h1];rfl
 have hm4:min 4 (m.length - 4)=4:=by omega
 have hm8:min 16 (m.length - 8)=16:=by omega
 have e4:u8s (List.take 4 (List.drop 4 m))=u8v (aI m 4 4):=(aZ _ _ _ (by omega)).symm
 have e8:u8s (List.take 16 (List.drop 8 m))=u8v (aI m 8 16):=(aZ _ _ _ (by omega)).symm
 have e8b:u8s (List.drop 8 m)=u8v (aI m 8 16):=by rw[<-e8,List.take_of_length_le (by simp;omega)]
 have Hs:=lF fr to (aI m 8 16) mac false (aI m 4 4)
 rw[<-hs]at Hs
 unfold ndV at Hs
 have HS:=h_ Hs
 have H01:=h_ (And.intro h0 (And.intro h1 hs))
 obtain⟨sm,hsm⟩:∃s,aW m 2=s:=⟨_,rfl⟩
 rw[hsm]at HS
 clear Hs h0 h1 hs
 go_enter Tryz.func162,Tryz.ntmps162
 go_wp2_with fail
 refine(bY _ _).mono ?_
 rintro e w1 ⟨rfl,rfl⟩
 go_wp2_with fail
 go_region
 all_goals
  go_wp2_with fail
  refine(cM _ _ (by simp[ByteArray.size];omega)).mono ?_
  rintro e w1 ⟨rfl,rfl⟩
  rw[show f9 (ByteArray.mk (List.take 2 (List.drop 2 m)).toArray).data.toList=sm from hsm]
  go_wp2_with fail
  refine(HS.out _).mono ?_
  rintro e w2 ⟨rfl,hb2⟩
  have z2:=(hb2).size
  try simp at z2
  go_wp2_with fail
  refine(bY _ _).mono ?_
  rintro e w1 ⟨rfl,rfl⟩
  go_wp2_with fail
  go_end0
  refine⟨rfl,?_⟩
  refine Below.trans ?_ (Below.mono hb2 (by first | (simp;done) | (simp;omega) | omega))
  (repeat (first | exact Below.refl _ _ | refine Below.al ?_ _ | refine Below.drew ?_ | refine Below.sr ?_ _ | refine Below.sc ?_ _))
theorem wJ (m:List UInt8) (X:Nat) (op0:Int) (fr to ab:Vector UInt8 16) (mac:Vector UInt8 6) (fl:Vector UInt8 4) (w:World) (hl:m.length=24) (h0:m[0]=136) (h1:m[1]=0)
  (hs:aW m 2=iF 2 fr to (aI m 8 16) mac false (aI m 4 4)) (hX:row w X=(.int .i64 op0::(u8v fr++(u8v to++(u8v ab++(u8v mac++(.bool false::u8v fl)))))).toArray) (hXw:X<w.heap.size):
  Calls Tryz.prog 162 #[.string ⟨m.toArray⟩,.pointer (some ⟨X,0,none⟩)] w fun e w'=>e=.returned (.tuple #[])/\
   Below w.heap.size (w.setRow X (.int .i64 2::(u8v fr++(u8v to++(u8v (aI m 8 16)++(u8v mac++(.bool false::u8v (aI m 4 4))))))).toArray) w':=by
 have hXw2:X<w.heap.size+1:=by omega
 have hset:∀(W:World) (c:Array Value),(row W X).size=60->c.size=60->row (W.setRow X c) X=c:=fun W c h1 h2=>aB (by omega) (by omega)
 have g0:m[0].toNat=136:=by rw[h0];rfl
 have g1:m[1].toNat=0:=by rw[h1];rfl
 have hm4:min 4 (m.length - 4)=4:=by omega
 have hm8:min 16 (m.length - 8)=16:=by omega
 have e4:u8s (List.take 4 (List.drop 4 m))=u8v (aI m 4 4):=(aZ _ _ _ (by omega)).symm
 have e8:u8s (List.take 16 (List.drop 8 m))=u8v (aI m 8 16):=(aZ _ _ _ (by omega)).symm
 have e8b:u8s (List.drop 8 m)=u8v (aI m 8 16):=by rw[<-e8,List.take_of_length_le (by simp;omega)]
 have Hs:=lG fr to (aI m 8 16) mac false (aI m 4 4)
 rw[<-hs]at Hs
 unfold ndV at Hs
 have HS:=h_ Hs
 have H01:=h_ (And.intro h0 (And.intro h1 hs))
 obtain⟨sm,hsm⟩:∃s,aW m 2=s:=⟨_,rfl⟩
 rw[hsm]at HS
 clear Hs h0 h1 hs
 go_enter Tryz.func162,Tryz.ntmps162
 go_wp2_with fail
 refine(bY _ _).mono ?_
 rintro e w1 ⟨rfl,rfl⟩
 go_wp2_with fail
 go_region
 all_goals
  go_wp2_with fail
  refine(cM _ _ (by simp[ByteArray.size];omega)).mono ?_
  rintro e w1 ⟨rfl,rfl⟩
  rw[show f9 (ByteArray.mk (List.take 2 (List.drop 2 m)).toArray).data.toList=sm from hsm]
  go_wp2_with fail
  refine(HS.out _).mono ?_
  rintro e w2 ⟨rfl,hb2⟩
  have z2:=(hb2).size
  try simp at z2
  go_wp2_with fail
  refine(bY _ _).mono ?_
  rintro e w1 ⟨rfl,rfl⟩
  go_wp2_with fail
  go_end0
  refine⟨rfl,?_⟩
  refine Below.trans ?_ (Below.mono hb2 (by first | (simp;done) | (simp;omega) | omega))
  (repeat (first | exact Below.refl _ _ | refine Below.al ?_ _ | refine Below.drew ?_ | refine Below.sr ?_ _ | refine Below.sc ?_ _))
theorem wK (m:List UInt8) (X:Nat) (op0:Int) (fr to ab:Vector UInt8 16) (mac:Vector UInt8 6) (fl:Vector UInt8 4) (w:World) (hl:m.length=32) (h0:m[0]=135) (h1:m[1]=0) (h24:m[24]=1) (h25:m[25]=1)
  (hs:aW m 2=iF 1 fr to (aI m 8 16) (aI m 26 6) true (aI m 4 4)) (hX:row w X=(.int .i64 op0::(u8v fr++(u8v to++(u8v ab++(u8v mac++(.bool false::u8v fl)))))).toArray) (hXw:X<w.heap.size):
  Calls Tryz.prog 162 #[.string ⟨m.toArray⟩,.pointer (some ⟨X,0,none⟩)] w fun e w'=>e=.returned (.tuple #[])/\
   Below w.heap.size (w.setRow X (.int .i64 1::(u8v fr++(u8v to++(u8v (aI m 8 16)++(u8v (aI m 26 6)++(.bool true::u8v (aI m 4 4))))))).toArray) w':=by
 have hXw2:X<w.heap.size+1:=by omega
 have hset:∀(W:World) (c:Array Value),(row W X).size=60->c.size=60->row (W.setRow X c) X=c:=fun W c h1 h2=>aB (by omega) (by omega)
 have g0:m[0].toNat=135:=by rw[h0];rfl
 have g1:m[1].toNat=0:=by rw[h1];rfl
 have hm4:min 4 (m.length - 4)=4:=by omega
 have hm8:min 16 (m.length - 8)=16:=by omega
 have e4:u8s (List.take 4 (List.drop 4 m))=u8v (aI m 4 4):=(aZ _ _ _ (by omega)).symm
 have e8:u8s (List.take 16 (List.drop 8 m))=u8v (aI m 8 16):=(aZ _ _ _ (by omega)).symm
 have g24:m[24].toNat=1:=by rw[h24];rfl
 have g25:m[25].toNat=1:=by rw[h25];rfl
 have hXw3:X<w.heap.size+1+1:=by omega
 have hm26:min 6 (m.length - 26)=6:=by omega
 have e26:u8s (List.drop 26 m)=u8v (aI m 26 6):=by rw[aZ _ _ _ (by omega),List.take_of_length_le (by simp;omega)]
 have Hs:=lF fr to (aI m 8 16) (aI m 26 6) true (aI m 4 4)
 rw[<-hs]at Hs
 unfold ndV at Hs
 have HS:=h_ Hs
 have H01:=h_ (And.intro h0 (And.intro h1 (And.intro h24 (And.intro h25 hs))))
 obtain⟨sm,hsm⟩:∃s,aW m 2=s:=⟨_,rfl⟩
 rw[hsm]at HS
 clear Hs h0 h1 hs h24 h25
 go_enter Tryz.func162,Tryz.ntmps162
 go_wp2_with fail
 refine(bY _ _).mono ?_
 rintro e w1 ⟨rfl,rfl⟩
 go_wp2_with fail
 go_region
 all_goals
  go_wp2_with fail
  refine a8 (S:=cQ (fun w'=>row w' X=(.int .i64 1::(u8v fr++(u8v to++(u8v (aI m 8 16)++(u8v mac++(.bool false::u8v (aI m 4 4))))))).toArray)) rfl ?_ (fun hS=>?_)
  ·unfold cQ
   simp[go_sem,hXw,hXw2,hXw3,hset,hX]
  refine rp 0 hS ?_
  refine rp 1 hS ?_
  refine rp 2 hS ?_
  refine rp 3 hS ?_
  refine rp 4 hS ?_
  refine rp 5 hS ?_
  refine rp 6 hS ?_
  refine rp 7 hS ?_
  refine rp 8 hS ?_
  refine rp 9 hS ?_
  refine rp 10 hS ?_
  refine rp 11 hS ?_
  refine rp 12 hS ?_
  have hS2:=hS
  unfold cQ at hS2
  refine wpAnyH_all (rs:=[13]) kr_ (by simp) ?_
  intro i hi
  obtain rfl:=List.mem_singleton.1 hi
  refine wpOp_step rfl (fun K hK=>?_)
  clear hi hS
  go_simp
  refine(bY _ _).mono ?_
  rintro e w1 ⟨rfl,rfl⟩
  refine hK _ _ (bC hS2 (fun hS=>?_))
  clear hK K
  refine wpAnyH_done kr_ ?_ _
  go_wp2_with fail
  refine(cM _ _ (by simp[ByteArray.size];omega)).mono ?_
  rintro e w1 ⟨rfl,rfl⟩
  rw[show f9 (ByteArray.mk (List.take 2 (List.drop 2 m)).toArray).data.toList=sm from hsm]
  go_wp2_with fail
  refine(HS.out _).mono ?_
  rintro e w2 ⟨rfl,hb2⟩
  have z2:=(hb2).size
  try simp at z2
  go_wp2_with fail
  refine(bY _ _).mono ?_
  rintro e w1 ⟨rfl,rfl⟩
  go_wp2_with fail
  go_end0
  refine⟨rfl,?_⟩
  refine Below.trans ?_ (Below.mono hb2 (by first | (simp;done) | (simp;omega) | omega))
  (repeat (first | exact Below.refl _ _ | refine Below.al ?_ _ | refine Below.drew ?_ | refine Below.sr ?_ _ | refine Below.sc ?_ _))
theorem wL (m:List UInt8) (X:Nat) (op0:Int) (fr to ab:Vector UInt8 16) (mac:Vector UInt8 6) (fl:Vector UInt8 4) (w:World) (hl:m.length=32) (h0:m[0]=136) (h1:m[1]=0) (h24:m[24]=2) (h25:m[25]=1)
  (hs:aW m 2=iF 2 fr to (aI m 8 16) (aI m 26 6) true (aI m 4 4)) (hX:row w X=(.int .i64 op0::(u8v fr++(u8v to++(u8v ab++(u8v mac++(.bool false::u8v fl)))))).toArray) (hXw:X<w.heap.size):
  Calls Tryz.prog 162 #[.string ⟨m.toArray⟩,.pointer (some ⟨X,0,none⟩)] w fun e w'=>e=.returned (.tuple #[])/\
   Below w.heap.size (w.setRow X (.int .i64 2::(u8v fr++(u8v to++(u8v (aI m 8 16)++(u8v (aI m 26 6)++(.bool true::u8v (aI m 4 4))))))).toArray) w':=by
 have hXw2:X<w.heap.size+1:=by omega
 have hset:∀(W:World) (c:Array Value),(row W X).size=60->c.size=60->row (W.setRow X c) X=c:=fun W c h1 h2=>aB (by omega) (by omega)
 have g0:m[0].toNat=136:=by rw[h0];rfl
 have g1:m[1].toNat=0:=by rw[h1];rfl
 have hm4:min 4 (m.length - 4)=4:=by omega
 have hm8:min 16 (m.length - 8)=16:=by omega
 have e4:u8s (List.take 4 (List.drop 4 m))=u8v (aI m 4 4):=(aZ _ _ _ (by omega)).symm
 have e8:u8s (List.take 16 (List.drop 8 m))=u8v (aI m 8 16):=(aZ _ _ _ (by omega)).symm
 have g24:m[24].toNat=2:=by rw[h24];rfl
 have g25:m[25].toNat=1:=by rw[h25];rfl
 have hXw3:X<w.heap.size+1+1:=by omega
 have hm26:min 6 (m.length - 26)=6:=by omega
 have e26:u8s (List.drop 26 m)=u8v (aI m 26 6):=by rw[aZ _ _ _ (by omega),List.take_of_length_le (by simp;omega)]
 have Hs:=lG fr to (aI m 8 16) (aI m 26 6) true (aI m 4 4)
 rw[<-hs]at Hs
 unfold ndV at Hs
 have HS:=h_ Hs
 have H01:=h_ (And.intro h0 (And.intro h1 (And.intro h24 (And.intro h25 hs))))
 obtain⟨sm,hsm⟩:∃s,aW m 2=s:=⟨_,rfl⟩
 rw[hsm]at HS
 clear Hs h0 h1 hs h24 h25
 go_enter Tryz.func162,Tryz.ntmps162
 go_wp2_with fail
 refine(bY _ _).mono ?_
 rintro e w1 ⟨rfl,rfl⟩
 go_wp2_with fail
 go_region
 all_goals
  go_wp2_with fail
  refine a8 (S:=cQ (fun w'=>row w' X=(.int .i64 2::(u8v fr++(u8v to++(u8v (aI m 8 16)++(u8v mac++(.bool false::u8v (aI m 4 4))))))).toArray)) rfl ?_ (fun hS=>?_)
  ·unfold cQ
   simp[go_sem,hXw,hXw2,hXw3,hset,hX]
  refine rp 0 hS ?_
  refine rp 1 hS ?_
  refine rp 2 hS ?_
  refine rp 3 hS ?_
  refine rp 4 hS ?_
  refine rp 5 hS ?_
  refine rp 6 hS ?_
  refine rp 7 hS ?_
  refine rp 8 hS ?_
  refine rp 9 hS ?_
  refine rp 10 hS ?_
  refine rp 11 hS ?_
  refine rp 12 hS ?_
  have hS2:=hS
  unfold cQ at hS2
  refine wpAnyH_all (rs:=[13]) kr_ (by simp) ?_
  intro i hi
  obtain rfl:=List.mem_singleton.1 hi
  refine wpOp_step rfl (fun K hK=>?_)
  clear hi hS
  go_simp
  refine(bY _ _).mono ?_
  rintro e w1 ⟨rfl,rfl⟩
  refine hK _ _ (bC hS2 (fun hS=>?_))
  clear hK K
  refine wpAnyH_done kr_ ?_ _
  go_wp2_with fail
  refine(cM _ _ (by simp[ByteArray.size];omega)).mono ?_
  rintro e w1 ⟨rfl,rfl⟩
  rw[show f9 (ByteArray.mk (List.take 2 (List.drop 2 m)).toArray).data.toList=sm from hsm]
  go_wp2_with fail
  refine(HS.out _).mono ?_
  rintro e w2 ⟨rfl,hb2⟩
  have z2:=(hb2).size
  try simp at z2
  go_wp2_with fail
  refine(bY _ _).mono ?_
  rintro e w1 ⟨rfl,rfl⟩
  go_wp2_with fail
  go_end0
  refine⟨rfl,?_⟩
  refine Below.trans ?_ (Below.mono hb2 (by first | (simp;done) | (simp;omega) | omega))
  (repeat (first | exact Below.refl _ _ | refine Below.al ?_ _ | refine Below.drew ?_ | refine Below.sr ?_ _ | refine Below.sc ?_ _))
end
section
open Go.RowKit
def zeroNd:List Value:=ndV 0 ip0 ip0 ip0 cF false jF
theorem aAz (X E:Nat) (n m:Int) (w:World) (B:Nat) (hX:(row w X).size=60) (hE:row w E=#[.int .i64 m]) (hXE:X≠E) (hBX:B<=X) (hBE:B<=E):
  CallsD Tryz.prog 161 #[.pointer (some ⟨X,0,none⟩),.pointer (some ⟨E,0,none⟩)] (.panicking (sW n)) w fun e u' w'=>
   e=.returned (.tuple #[])/\u'=.panicking [{v:=.iface 33 (.int .i64 n),recovered:=true}]/\row w' X=zeroNd.toArray/\row w' E=#[.int .i64 n]/\Below B w w':=by
 have hE2:=aC (w:=w) X E (Value.int .i64 0::(aH 54 (.int .u8 0)++.bool false::aH 4 (.int .u8 0))).toArray (Ne.symm hXE)
 rw[hE]at hE2
 refine callsD_of_wpS Tryz.func161 rfl fun c₀ cs hu=>?_
 apply wpS_seq
 apply wpS_region
 simp[wpOpsS,go_sem,recoverD,hu,sW,Tryz.ntmps161,Exit.thenS]
 apply wpS_seq
 apply wpS_region
 simp[wpOpsS,go_sem,Exit.thenS]
 refine wpS_cond (t:=true) (by simp[Act.eval,Array.replicate]) ?_
 simp only[if_true]
 refine wpS_of_wp ?_
 rw[show(Array.replicate 7 undef:Array Value)=#[undef,undef,undef,undef,undef,undef,undef]from rfl]
 simp only[List.setIfInBounds_toArray,List.set_cons_zero,List.set_cons_succ,List.append_toArray,List.cons_append,List.nil_append]
 refine dS rfl (fun hS=>?_)
 refine rp 0 hS ?_
 refine rp 1 hS ?_
 refine rp 2 hS ?_
 refine wpAnyH_all (rs:=[3]) kr_ (by simp) ?_
 intro i hi
 obtain rfl:=List.mem_singleton.1 hi
 refine wpOp_step rfl (fun K hK=>?_)
 clear hi hS
 go_simp
 refine hK _ _ (bC ?_ (fun hS=>?_))
 ·unfold cQ
  simp[go_sem]
 clear hK K
 refine wpAnyH_all (rs:=[4]) kr_ (by simp) ?_
 intro i hi
 obtain rfl:=List.mem_singleton.1 hi
 refine wpOp_step rfl (fun K hK=>?_)
 clear hi hS
 go_simp
 refine hK _ _ (bC ?_ (fun hS=>?_))
 ·unfold cQ
  simp[go_sem]
 clear hK K
 refine wpAnyH_done kr_ ?_ _
 have r1:row (w.setRow X zeroNd.toArray) X=zeroNd.toArray:=aB (by omega) (by simp[hX,zeroNd,ndV])
 have r2:=aC (w:=w.setRow X zeroNd.toArray) E X #[.int .i64 n] hXE
 have r3:=aB (w:=w.setRow X zeroNd.toArray) (g:=E) (c:=#[.int .i64 n]) (by rw[show row (w.setRow X zeroNd.toArray) E=_ from hE2];simp) (by rw[show row (w.setRow X zeroNd.toArray) E=_ from hE2];simp)
 refine⟨rfl,_,rfl,.tuple #[],by simp[results,Tryz.results161],rfl,rfl,r2.trans r1,r3,?_⟩
 (repeat (first | exact Below.refl _ _ | refine Below.al ?_ _ | refine Below.drew ?_ | refine Below.sr ?_ _ | refine Below.sc ?_ _))
theorem aB4 (X E:Nat) (w:World):
  CallsD Tryz.prog 161 #[.pointer (some ⟨X,0,none⟩),.pointer (some ⟨E,0,none⟩)] .returning w fun e u' w'=>
   e=.returned (.tuple #[])/\u'=.returning/\w'=w:=by
 refine callsD_of_wpS Tryz.func161 rfl fun c₀ cs hu=>?_
 apply wpS_seq
 apply wpS_region
 simp[wpOpsS,go_sem,recoverD,hu,sW,Tryz.ntmps161,Exit.thenS]
 apply wpS_seq
 apply wpS_region
 simp[wpOpsS,go_sem,Exit.thenS]
 refine wpS_cond (t:=false) (by simp[Act.eval,Array.replicate]) ?_
 simp only[Bool.false_eq_true,if_false]
 refine wpS_of_wp (wp_skip ?_)
 cases c₀
 simp_all[bodyPostS,results,Tryz.results161]
theorem vJ (tmps:Array Value) (X E:Nat) (n m:Int) (w w1:World) (v:Value) (h2:tmps.getD 2 undef=.pointer (some ⟨X,0,none⟩)) (h3:tmps.getD 3 undef=.pointer (some ⟨E,0,none⟩))
  (hX:(row w1 X).size=60) (hE:row w1 E=#[.int .i64 m]) (hXE:X≠E) (hBX:w.heap.size<=X) (hBE:w.heap.size<=E) (hb:Below w.heap.size w w1) (hv:v=.tuple #[.agg zeroNd.toArray,.int .i64 n]):
  Leaves Tryz.prog Tryz.f132 tmps (fun e w'=>e=.returned v/\Below w.heap.size w w') [{target:=.fn (.func 161) #[.pointer (some ⟨X,0,none⟩),.pointer (some ⟨E,0,none⟩)],args:=#[]}] (.panicking (sW n)) w1:=by
 refine leaves_cons (f:=161) (args:=#[.pointer (some ⟨X,0,none⟩),.pointer (some ⟨E,0,none⟩)]) (by simp) (by simp[go_sem]) ?_
 refine(aAz X E n m w1 w.heap.size hX hE hXE hBX hBE).mono ?_
 rintro e u' w'' ⟨rfl,rfl,rX,rE,hb2⟩
 refine⟨_,aS (r:=.cell 2 263) (s:=.cell 3 33) rfl (aK h2 ?_) (nM (d:=.int .i64) (v:=.int .i64 n) Tryz.underlying33 rfl h3 ?_),?_,hb.trans hb2⟩
 ·rw[rX]
  rfl
 ·simp[go_sem,rE]
 ·rw[rX,hv]
theorem aB5 (tmps:Array Value) (X E:Nat) (cs:List Value) (w w1:World) (v:Value) (h2:tmps.getD 2 undef=.pointer (some ⟨X,0,none⟩)) (h3:tmps.getD 3 undef=.pointer (some ⟨E,0,none⟩))
  (hX:row w1 X=cs.toArray) (hc:cs.length=60) (hE:row w1 E=#[.int .i64 0]) (hb:Below w.heap.size w w1) (hv:v=.tuple #[.agg cs.toArray,.int .i64 0]):
  Leaves Tryz.prog Tryz.f132 tmps (fun e w'=>e=.returned v/\Below w.heap.size w w') [{target:=.fn (.func 161) #[.pointer (some ⟨X,0,none⟩),.pointer (some ⟨E,0,none⟩)],args:=#[]}] .returning w1:=by
 refine leaves_cons (f:=161) (args:=#[.pointer (some ⟨X,0,none⟩),.pointer (some ⟨E,0,none⟩)]) (by simp) (by simp[go_sem]) ?_
 refine(aB4 X E w1).mono ?_
 rintro e u' w'' ⟨rfl,rfl,rfl⟩
 refine⟨_,aS (r:=.cell 2 263) (s:=.cell 3 33) rfl (aK h2 ?_) (nM (d:=.int .i64) (v:=.int .i64 0) Tryz.underlying33 rfl h3 ?_),?_,hb⟩
 ·rw[hX]
  simpa using hc
 ·simp[go_sem,hE]
 ·rw[hX,hv]
end
section
open Go.RowKit
structure NdSt (w w':World) (xs:List Value):Prop where
 rX:row w' w.heap.size=xs.toArray
 rE:row w' (w.heap.size+1)=#[.int .i64 0]
 hc:xs.length=60
 hb:Below w.heap.size w w'
 hs:w.heap.size+1<w'.heap.size
section
variable {w w1 w2:World} {xs:List Value}
theorem NdSt.setX (h:NdSt w w1 xs) (xs':List Value) (hc':xs'.length=60):NdSt w (w1.setRow w.heap.size xs'.toArray) xs':=
 ⟨aB (by rw[h.rX];simp[h.hc]) (by rw[h.rX];simp[h.hc,hc']),by rw[aC _ _ _ (by omega)];exact h.rE,hc',Below.setRow h.hb (Nat.le_refl _) _,by simpa using h.hs⟩
theorem NdSt.setE (h:NdSt w w1 xs):NdSt w (w1.setRow (w.heap.size+1) #[.int .i64 0]) xs:=
 ⟨by rw[aC _ _ _ (by omega)];exact h.rX,aB (by rw[h.rE];simp) (by rw[h.rE]),h.hc,Below.setRow h.hb (by omega) _,by simpa using h.hs⟩
theorem NdSt.below (h:NdSt w w1 xs) (hb:Below w1.heap.size w1 w2):NdSt w w2 xs:=by
 have h1:=h.hs
 have h2:=hb.size
 exact⟨by rw[aA hb (by omega)];exact h.rX,by rw[aA hb (by omega)];exact h.rE,h.hc,Below.trans h.hb (Below.mono hb (by omega)),by omega⟩
theorem NdSt.fail (h:NdSt w w1 xs) (tmps:Array Value) (v:Value) (n:Int) (h2:tmps.getD 2 undef=.pointer (some ⟨w.heap.size,0,none⟩)) (h3:tmps.getD 3 undef=.pointer (some ⟨w.heap.size+1,0,none⟩)) (hv:v=.tuple #[.agg zeroNd.toArray,.int .i64 n]):
  Leaves Tryz.prog Tryz.f132 tmps (fun e w'=>e=.returned v/\Below w.heap.size w w') [{target:=.fn (.func 161) #[.pointer (some ⟨w.heap.size,0,none⟩),.pointer (some ⟨w.heap.size+1,0,none⟩)],args:=#[]}] (.panicking (sW n)) w1:=
 vJ tmps _ _ n 0 w w1 v h2 h3 (by rw[h.rX];simp[h.hc]) h.rE (by omega) (by omega) (by omega) h.hb hv
theorem NdSt.good (h:NdSt w w1 xs) (tmps:Array Value) (v:Value) (h2:tmps.getD 2 undef=.pointer (some ⟨w.heap.size,0,none⟩)) (h3:tmps.getD 3 undef=.pointer (some ⟨w.heap.size+1,0,none⟩)) (hv:v=.tuple #[.agg xs.toArray,.int .i64 0]):
  Leaves Tryz.prog Tryz.f132 tmps (fun e w'=>e=.returned v/\Below w.heap.size w w') [{target:=.fn (.func 161) #[.pointer (some ⟨w.heap.size,0,none⟩),.pointer (some ⟨w.heap.size+1,0,none⟩)],args:=#[]}] .returning w1:=
 aB5 tmps _ _ xs w w1 v h2 h3 h.rX h.hc h.rE h.hb hv
theorem gM (w:World):NdSt w ((w.alloc (.cells (Value.int .i64 0::(aH 54 (Value.int .u8 0)++[Value.bool false,.int .u8 0,.int .u8 0,.int .u8 0,.int .u8 0])).toArray 263)).alloc (.cells #[.int .i64 0] 33)) (ndV 0 ip0 ip0 ip0 cF false jF):=by
 refine⟨?_,?_,by simp[ndV],by(repeat (first | exact Below.refl _ _ | refine Below.al ?_ _ | refine Below.drew ?_ | refine Below.sr ?_ _ | refine Below.sc ?_ _)),by simp⟩
 ·simp[go_sem]
  rfl
 ·simp[go_sem]
end
theorem pR (l m:List UInt8) (w:World) (hl:64<=l.length) (hl2:l.length<=10000) (hsz:aW l 4=24) (hls:40+24<=l.length) (h0:l[0]=96) (h6:l[6]=58) (h7:l[7]=255)
  (hm:(l.drop 40).take 24=m) (hml:m.length=24) (m0:m[0]=135) (m1:m[1]=0)
  (hs:aW m 2=iF 1 (aI l 8 16) (aI l 24 16) (aI m 8 16) (cF) false (aI m 4 4)):
  Calls Tryz.prog 132 #[.string ⟨l.toArray⟩] w fun e w'=>e=.returned (.tuple #[.agg (ndV 1 (aI l 8 16) (aI l 24 16) (aI m 8 16) (cF) false (aI m 4 4)).toArray,.int .i64 0])/\Below w.heap.size w w':=by
 have hmf:∀(fn:Fn) (first cap:Array Value) (w:World),(Instr.makeFunc fn first cap).run Tryz.prog w=.ok (.func fn first cap) w:=fun _ _ _ _=>rfl
 go_enter_defers Tryz.func132,Tryz.ntmps132
 go_wp2_with fail
 have st0:=gM w
 refine(lH l w.heap.size 0 ip0 ip0 ip0 cF false jF _ hl hl2 24 hsz (by omega) h0 h6 h7 hls st0.rX (by have:=st0.hs;omega)).mono ?_
 rintro e w1 ⟨rfl,hb1⟩
 have st1:=(st0.setX (ndV 0 (aI l 8 16) (aI l 24 16) ip0 cF false jF) (by simp[ndV])).below (by simpa[ndV]using hb1)
 rw[hm]
 go_wp2_with fail
 refine(wI m w.heap.size 0 (aI l 8 16) (aI l 24 16) ip0 cF jF _ hml m0 m1 hs st1.rX (by have:=st1.hs;omega)).mono ?_
 rintro e w2 ⟨rfl,hb2⟩
 have st2:=(st1.setX (ndV 1 (aI l 8 16) (aI l 24 16) (aI m 8 16) (cF) false (aI m 4 4)) (by simp[ndV])).below (by simpa[ndV]using hb2)
 have rX:=st2.rX
 have rE:=st2.rE
 have hz:=st2.hs
 unfold ndV at rX
 have rXE:=(st2.setX _ st2.hc).rE
 unfold ndV at rXE
 go_wp2_with fail
 exact NdSt.good ((st2.setX _ st2.hc).setE) _ _ rfl rfl rfl
theorem pS (l m:List UInt8) (w:World) (hl:64<=l.length) (hl2:l.length<=10000) (hsz:aW l 4=24) (hls:40+24<=l.length) (h0:l[0]=96) (h6:l[6]=58) (h7:l[7]=255)
  (hm:(l.drop 40).take 24=m) (hml:m.length=24) (m0:m[0]=136) (m1:m[1]=0)
  (hs:aW m 2=iF 2 (aI l 8 16) (aI l 24 16) (aI m 8 16) (cF) false (aI m 4 4)):
  Calls Tryz.prog 132 #[.string ⟨l.toArray⟩] w fun e w'=>e=.returned (.tuple #[.agg (ndV 2 (aI l 8 16) (aI l 24 16) (aI m 8 16) (cF) false (aI m 4 4)).toArray,.int .i64 0])/\Below w.heap.size w w':=by
 have hmf:∀(fn:Fn) (first cap:Array Value) (w:World),(Instr.makeFunc fn first cap).run Tryz.prog w=.ok (.func fn first cap) w:=fun _ _ _ _=>rfl
 go_enter_defers Tryz.func132,Tryz.ntmps132
 go_wp2_with fail
 have st0:=gM w
 refine(lH l w.heap.size 0 ip0 ip0 ip0 cF false jF _ hl hl2 24 hsz (by omega) h0 h6 h7 hls st0.rX (by have:=st0.hs;omega)).mono ?_
 rintro e w1 ⟨rfl,hb1⟩
 have st1:=(st0.setX (ndV 0 (aI l 8 16) (aI l 24 16) ip0 cF false jF) (by simp[ndV])).below (by simpa[ndV]using hb1)
 rw[hm]
 go_wp2_with fail
 refine(wJ m w.heap.size 0 (aI l 8 16) (aI l 24 16) ip0 cF jF _ hml m0 m1 hs st1.rX (by have:=st1.hs;omega)).mono ?_
 rintro e w2 ⟨rfl,hb2⟩
 have st2:=(st1.setX (ndV 2 (aI l 8 16) (aI l 24 16) (aI m 8 16) (cF) false (aI m 4 4)) (by simp[ndV])).below (by simpa[ndV]using hb2)
 have rX:=st2.rX
 have rE:=st2.rE
 have hz:=st2.hs
 unfold ndV at rX
 have rXE:=(st2.setX _ st2.hc).rE
 unfold ndV at rXE
 go_wp2_with fail
 exact NdSt.good ((st2.setX _ st2.hc).setE) _ _ rfl rfl rfl
theorem pU (l m:List UInt8) (w:World) (hl:64<=l.length) (hl2:l.length<=10000) (hsz:aW l 4=32) (hls:40+32<=l.length) (h0:l[0]=96) (h6:l[6]=58) (h7:l[7]=255)
  (hm:(l.drop 40).take 32=m) (hml:m.length=32) (m0:m[0]=135) (m1:m[1]=0) (m24:m[24]=1) (m25:m[25]=1)
  (hs:aW m 2=iF 1 (aI l 8 16) (aI l 24 16) (aI m 8 16) (aI m 26 6) true (aI m 4 4)):
  Calls Tryz.prog 132 #[.string ⟨l.toArray⟩] w fun e w'=>e=.returned (.tuple #[.agg (ndV 1 (aI l 8 16) (aI l 24 16) (aI m 8 16) (aI m 26 6) true (aI m 4 4)).toArray,.int .i64 0])/\Below w.heap.size w w':=by
 have hmf:∀(fn:Fn) (first cap:Array Value) (w:World),(Instr.makeFunc fn first cap).run Tryz.prog w=.ok (.func fn first cap) w:=fun _ _ _ _=>rfl
 go_enter_defers Tryz.func132,Tryz.ntmps132
 go_wp2_with fail
 have st0:=gM w
 refine(lH l w.heap.size 0 ip0 ip0 ip0 cF false jF _ hl hl2 32 hsz (by omega) h0 h6 h7 hls st0.rX (by have:=st0.hs;omega)).mono ?_
 rintro e w1 ⟨rfl,hb1⟩
 have st1:=(st0.setX (ndV 0 (aI l 8 16) (aI l 24 16) ip0 cF false jF) (by simp[ndV])).below (by simpa[ndV]using hb1)
 rw[hm]
 go_wp2_with fail
 refine(wK m w.heap.size 0 (aI l 8 16) (aI l 24 16) ip0 cF jF _ hml m0 m1 m24 m25 hs st1.rX (by have:=st1.hs;omega)).mono ?_
 rintro e w2 ⟨rfl,hb2⟩
 have st2:=(st1.setX (ndV 1 (aI l 8 16) (aI l 24 16) (aI m 8 16) (aI m 26 6) true (aI m 4 4)) (by simp[ndV])).below (by simpa[ndV]using hb2)
 have rX:=st2.rX
 have rE:=st2.rE
 have hz:=st2.hs
 unfold ndV at rX
 have rXE:=(st2.setX _ st2.hc).rE
 unfold ndV at rXE
 go_wp2_with fail
 exact NdSt.good ((st2.setX _ st2.hc).setE) _ _ rfl rfl rfl
theorem jG (l m:List UInt8) (w:World) (hl:64<=l.length) (hl2:l.length<=10000) (hsz:aW l 4=32) (hls:40+32<=l.length) (h0:l[0]=96) (h6:l[6]=58) (h7:l[7]=255)
  (hm:(l.drop 40).take 32=m) (hml:m.length=32) (m0:m[0]=136) (m1:m[1]=0) (m24:m[24]=2) (m25:m[25]=1)
  (hs:aW m 2=iF 2 (aI l 8 16) (aI l 24 16) (aI m 8 16) (aI m 26 6) true (aI m 4 4)):
  Calls Tryz.prog 132 #[.string ⟨l.toArray⟩] w fun e w'=>e=.returned (.tuple #[.agg (ndV 2 (aI l 8 16) (aI l 24 16) (aI m 8 16) (aI m 26 6) true (aI m 4 4)).toArray,.int .i64 0])/\Below w.heap.size w w':=by
 have hmf:∀(fn:Fn) (first cap:Array Value) (w:World),(Instr.makeFunc fn first cap).run Tryz.prog w=.ok (.func fn first cap) w:=fun _ _ _ _=>rfl
 go_enter_defers Tryz.func132,Tryz.ntmps132
 go_wp2_with fail
 have st0:=gM w
 refine(lH l w.heap.size 0 ip0 ip0 ip0 cF false jF _ hl hl2 32 hsz (by omega) h0 h6 h7 hls st0.rX (by have:=st0.hs;omega)).mono ?_
 rintro e w1 ⟨rfl,hb1⟩
 have st1:=(st0.setX (ndV 0 (aI l 8 16) (aI l 24 16) ip0 cF false jF) (by simp[ndV])).below (by simpa[ndV]using hb1)
 rw[hm]
 go_wp2_with fail
 refine(wL m w.heap.size 0 (aI l 8 16) (aI l 24 16) ip0 cF jF _ hml m0 m1 m24 m25 hs st1.rX (by have:=st1.hs;omega)).mono ?_
 rintro e w2 ⟨rfl,hb2⟩
 have st2:=(st1.setX (ndV 2 (aI l 8 16) (aI l 24 16) (aI m 8 16) (aI m 26 6) true (aI m 4 4)) (by simp[ndV])).below (by simpa[ndV]using hb2)
 have rX:=st2.rX
 have rE:=st2.rE
 have hz:=st2.hs
 unfold ndV at rX
 have rXE:=(st2.setX _ st2.hc).rE
 unfold ndV at rXE
 go_wp2_with fail
 exact NdSt.good ((st2.setX _ st2.hc).setE) _ _ rfl rfl rfl
end
section
open Go.RowKit
def fO (m:List UInt8) (n:Int) (fr to ab:Vector UInt8 16) (mac:Vector UInt8 6) (fl:Vector UInt8 4) (op0:Int):Prop:=
 ∀(X:Nat) (w:World),row w X=(.int .i64 op0::(u8v fr++(u8v to++(u8v ab++(u8v mac++(.bool false::u8v fl)))))).toArray->X<w.heap.size->
  Calls Tryz.prog 162 #[.string ⟨m.toArray⟩,.pointer (some ⟨X,0,none⟩)] w fun e w'=>e=.panicked (sW n)/\∃xs:List Value,xs.length=60/\Below w.heap.size (w.setRow X xs.toArray) w'
section
variable (m:List UInt8) (fr to ab:Vector UInt8 16) (mac:Vector UInt8 6) (fl:Vector UInt8 4) (op0:Int)
theorem aFF (hl:24<=m.length) (h1:m[0]≠135) (h2:m[0]≠136):fO m 3 fr to ab mac fl op0:=by
 intro X w hX hXw
 have hXw2:X<w.heap.size+1:=by omega
 have b0:m[0].toNat<256:=m[0].toNat_lt
 have n1:m[0].toNat≠135:=fun h=>h1 (UInt8.toNat_inj.1 h)
 have n2:m[0].toNat≠136:=fun h=>h2 (UInt8.toNat_inj.1 h)
 obtain⟨c,hc⟩:∃c,m[0].toNat=c:=⟨_,rfl⟩
 rw[hc]at b0 n1 n2
 obtain⟨o,ho⟩:∃o,(c:Int) - 134=o:=⟨_,rfl⟩
 have o1:(o==1)=false:=by simp;omega
 have o2:(o==2)=false:=by simp;omega
 have w1:wrap64 (c:Int)=c:=by unfold wrap64;omega
 have w2:wrap64 o=o:=by unfold wrap64;omega
 clear h1 h2 n1 n2 b0
 go_enter Tryz.func162,Tryz.ntmps162
 go_wp2_with fail
 refine(dK _ _).mono ?_
 rintro e w1 ⟨rfl,rfl⟩
 exact⟨rfl,rfl,.int .i64 o::(u8v fr++(u8v to++(u8v ab++(u8v mac++(.bool false::u8v fl))))),by simp,Below.refl _ _⟩
theorem aAA (hl:24<=m.length) (h0:m[0]=135) (h1:m[1]≠0):fO m 3 fr to ab mac fl op0:=by
 intro X w hX hXw
 have hXw2:X<w.heap.size+1:=by omega
 have g0:m[0].toNat=135:=by rw[h0];rfl
 have n1:m[1].toNat≠0:=fun h=>h1 (UInt8.toNat_inj.1 h)
 obtain⟨c,hc⟩:∃c,m[1].toNat=c:=⟨_,rfl⟩
 rw[hc]at n1
 have c1:((c:Int)==0)=false:=by simp;omega
 clear h0 h1 n1
 go_enter Tryz.func162,Tryz.ntmps162
 go_wp2_with fail
 refine(dK _ _).mono ?_
 rintro e w1 ⟨rfl,rfl⟩
 exact⟨rfl,rfl,.int .i64 1::(u8v fr++(u8v to++(u8v ab++(u8v mac++(.bool false::u8v fl))))),by simp,Below.refl _ _⟩
theorem aAB (hl:24<=m.length) (h0:m[0]=136) (h1:m[1]≠0):fO m 3 fr to ab mac fl op0:=by
 intro X w hX hXw
 have hXw2:X<w.heap.size+1:=by omega
 have g0:m[0].toNat=136:=by rw[h0];rfl
 have n1:m[1].toNat≠0:=fun h=>h1 (UInt8.toNat_inj.1 h)
 obtain⟨c,hc⟩:∃c,m[1].toNat=c:=⟨_,rfl⟩
 rw[hc]at n1
 have c1:((c:Int)==0)=false:=by simp;omega
 clear h0 h1 n1
 go_enter Tryz.func162,Tryz.ntmps162
 go_wp2_with fail
 refine(dK _ _).mono ?_
 rintro e w1 ⟨rfl,rfl⟩
 exact⟨rfl,rfl,.int .i64 2::(u8v fr++(u8v to++(u8v ab++(u8v mac++(.bool false::u8v fl))))),by simp,Below.refl _ _⟩
end
end
end Go.Proofs.YtiagbbknkdgmeaaGreat
