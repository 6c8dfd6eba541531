/- Texts of this proof, merged: HusL, HusT, HusK. -/
import Derived.Test.YtiagbbknkdgmeaaGreatJ10
import Derived.Test.YtiagbbknkdgmeaaGreatJ5
import Derived.Test.YtiagbbknkdgmeaaGreatJ14
set_option linter.unusedSimpArgs false
set_option linter.unusedVariables false
set_option maxHeartbeats 8000000
set_option maxRecDepth 20000
namespace Go.Proofs.YtiagbbknkdgmeaaGreat
section
open Go.RowKit
section
variable (dst src:Vector UInt8 6) (ty:Int) (body:List UInt8) (ip:List UInt8) (mac:Vector UInt8 6)
def xC (ok:Bool):Prop:=∀w,Calls Tryz.prog 128 #[.agg (bV dst src ty body).toArray] w fun e w'=>e=.returned (.tuple #[.agg (Value.string ⟨ip.toArray⟩::u8v mac).toArray,.bool ok])/\Below w.heap.size w w'
variable (w:World) (T:Option Addr) (v:Int)
theorem aGq (HA:xC dst src ty body ip mac false):
  Calls Tryz.prog 97 #[.pointer T,.int .i64 v,.agg (bV dst src ty body).toArray] w fun e w'=>e=.returned (.bool false)/\Below w.heap.size w w':=by
 unfold xC at HA
 unfold bV at *
 have K:=h_ HA
 clear HA
 go_enter Tryz.func97,Tryz.ntmps97
 go_wp2_with fail
 (with_reducible refine(K.out _).mono ?_)
 rintro e w1 ⟨rfl,b1⟩
 have z1:=b1.size
 simp at z1
 have B1:Below w.heap.size w w1:=Below.trans eD (b1.mono (by simp))
 clear b1
 cases T<;>
 ·go_wp2_with fail
  go_ret
  exact⟨rfl,Below.alloc B1 (by omega) _⟩
theorem aCA {A M:Nat} {time:Int} {m:List HB} (h:HushT w A M time m) (HA:xC dst src ty body ip mac true) (h1:jO v ip m=none) (h2:1024<=m.length):
  Calls Tryz.prog 97 #[.pointer (some ⟨A,0,none⟩),.int .i64 v,.agg (bV dst src ty body).toArray] w fun e w'=>e=.returned (.bool false)/\Below w.heap.size w w':=by
 unfold xC at HA
 unfold bV at *
 have K:=h_ HA
 clear HA
 have hr:=h.row
 have hlt:=h.lt
 have hMlt:=h.ok.lt
 obtain⟨age,hl⟩:=aKg v ip m
 have e1:eT v ip m=(Vector.replicate 6 0,false):=by unfold eT;rw[h1]
 rw[e1]at hl
 have HL:=h_ hl
 clear hl e1 h1
 go_enter Tryz.func97,Tryz.ntmps97
 go_wp2_with fail
 (with_reducible refine(K.out _).mono ?_)
 rintro e w1 ⟨rfl,b1⟩
 have z1:=b1.size
 simp at z1
 have B1:Below w.heap.size w w1:=Below.trans eD (b1.mono (by simp))
 have hM:mapOk w1 M:=aR B1 hMlt h.ok
 have hLL:eB w1 M=lM m:=by rw[aT B1 hMlt,h.map]
 replace hr:=(aA B1 hlt).trans hr
 clear b1 h
 obtain⟨w2,hw2⟩:∃x,(w1.alloc (.cells (Value.string ⟨ip.toArray⟩::u8v mac).toArray 249)).alloc (.cells #[Value.int .i64 v,Value.string ⟨ip.toArray⟩] 200)=x:=⟨_,rfl⟩
 have rB:row w2 w1.heap.size=(Value.string ⟨ip.toArray⟩::u8v mac).toArray:=by rw[<-hw2];simp[go_sem]
 have rK:row w2 (w1.heap.size+1)=#[Value.int .i64 v,Value.string ⟨ip.toArray⟩]:=by rw[<-hw2];simp[go_sem]
 have z2:w2.heap.size=w1.heap.size+2:=by rw[<-hw2];simp
 have B2:Below w.heap.size w w2:=by rw[<-hw2];exact Below.alloc (Below.alloc B1 (by omega) _) (by simp;omega) _
 have b12:Below w1.heap.size w1 w2:=by rw[<-hw2];exact Below.alloc (Below.alloc (Below.refl _ _) (by omega) _) (by simp) _
 replace hM:=aR b12 (by omega) hM
 replace hLL:=(aT b12 (by omega)).trans hLL
 replace hr:=(aA b12 (by omega)).trans hr
 clear b12
 go_wp2_with fail
 refine aLH [(A,#[Value.int .i64 time,Value.map (some M)]),(w1.heap.size,(Value.string ⟨ip.toArray⟩::u8v mac).toArray),(w1.heap.size+1,#[Value.int .i64 v,Value.string ⟨ip.toArray⟩])] M (lM m) (hM) (hLL) (fun hS=>?_)
 refine mp 0 hS ?_
 refine mp 1 hS ?_
 refine mp 2 hS ?_
 refine mp 3 hS ?_
 refine mp 4 hS ?_
 refine cU (i:=5) (v:=?_) cD kr_ kr_ kr_ (by first | exact fun _ _ _ h=>h | exact fun _ _ _ h=>by cases h.1) (MapS.grow _ _ _) (Or.inl ⟨by rfl,?_⟩) hS ?_
 rotate_left
 ·intro w' hS'
  obtain⟨hS',hM',hL'⟩:=hS'
  have hrun:=HL.out _ _ hM' hL'
  simp only[Rws]at hS'
  go_simp
  refine⟨?_,Below.refl _ _⟩
  rfl
 (try simp only[Act.put,List.setIfInBounds_toArray,List.set_cons_zero,List.set_cons_succ])
 refine mp 6 hS ?_
 refine mp 7 hS ?_
 refine mp 8 hS ?_
 refine lL (i:=9) (k:=10) (zi:=(aH 6 (Value.int .u8 0)++[Value.int .i64 0]).toArray) (cA:=(u8v (Vector.replicate 6 0)++[Value.int .i64 age]).toArray) cD cD ⟨rfl,rfl,fun a w=>by go_simp;(refine⟨?_,?_⟩<;>rfl)⟩ kr_ kr_ rfl rfl (by simp[*]) (by simp) (by simp;(try omega)) (fun A w1 hr=>by
  simp only[Act.put,List.setIfInBounds_toArray,List.set_cons_zero,List.set_cons_succ,ptr]
  go_simp
  try rfl) hS (fun X w3 gX zX b3 rX hS=>?_)
 (try simp only[Act.put,List.setIfInBounds_toArray,List.set_cons_zero,List.set_cons_succ])
 replace gX:(w2).heap.size<=X:=gX
 replace b3:Below (w2).heap.size w2 w3:=Below.trans (Below.drew (Below.refl _ _)) b3
 have zw3:=(b3).size
 simp only[ptr]
 refine mp 11 hS ?_
 refine aG kr_ (fun w4 b4=>?_) _
 have z4:=b4.size
 have b24:=b3.trans (b4.mono (by omega))
 have hM4:=aR b24 (by omega) hM
 have hL4:=(aT b24 (by omega)).trans hLL
 have hr4:=(aA b24 (by omega)).trans hr
 have B4:=B2.trans (b24.mono (by omega))
 have hlen:=aF8 (ty:=3) iG hM4
 rw[hL4,lM,List.length_map]at hlen
 have h2':(1024:Int)<=(m.length:Int):=by omega
 clear hL4 hLL hM hr b24 b3 b4 hS
 go_wp2_with fail
 go_ret
 exact⟨rfl,B4⟩
theorem aCB {A M:Nat} {time:Int} {m:List HB} (h:HushT w A M time m) (hAM:A≠M) (HA:xC dst src ty body ip mac true) (h1:jO v ip m≠none∨m.length<1024):
  Calls Tryz.prog 97 #[.pointer (some ⟨A,0,none⟩),.int .i64 v,.agg (bV dst src ty body).toArray] w fun e w'=>e=.returned (.bool true)/\BelowBut w.heap.size M w w'/\HushT w' A M time (tP ⟨v,ip,mac,0⟩ m):=by
 unfold xC at HA
 unfold bV at *
 have K:=h_ HA
 clear HA
 have hr:=h.row
 have hlt:=h.lt
 have hMlt:=h.ok.lt
 obtain⟨age,hl⟩:=aKg v ip m
 obtain⟨fm,hfm⟩:∃x,(eT v ip m).1=x:=⟨_,rfl⟩
 obtain⟨fh,hfh⟩:∃x,(eT v ip m).2=x:=⟨_,rfl⟩
 have h1':fh=true∨(fh=false/\m.length<1024):=by
  rw[<-hfh]
  unfold eT
  cases hf:jO v ip m with
  | some b=>simp
  | none=>rw[hf]at h1;simpa using h1
 rw[hfm,hfh]at hl
 have HL:=h_ hl
 clear hl h1 hfm hfh
 go_enter Tryz.func97,Tryz.ntmps97
 go_wp2_with fail
 (with_reducible refine(K.out _).mono ?_)
 rintro e w1 ⟨rfl,b1⟩
 have z1:=b1.size
 simp at z1
 have B1:Below w.heap.size w w1:=Below.trans eD (b1.mono (by simp))
 have hM:mapOk w1 M:=aR B1 hMlt h.ok
 have hLL:eB w1 M=lM m:=by rw[aT B1 hMlt,h.map]
 replace hr:=(aA B1 hlt).trans hr
 clear b1 h
 obtain⟨w2,hw2⟩:∃x,(w1.alloc (.cells (Value.string ⟨ip.toArray⟩::u8v mac).toArray 249)).alloc (.cells #[Value.int .i64 v,Value.string ⟨ip.toArray⟩] 200)=x:=⟨_,rfl⟩
 have rB:row w2 w1.heap.size=(Value.string ⟨ip.toArray⟩::u8v mac).toArray:=by rw[<-hw2];simp[go_sem]
 have rK:row w2 (w1.heap.size+1)=#[Value.int .i64 v,Value.string ⟨ip.toArray⟩]:=by rw[<-hw2];simp[go_sem]
 have z2:w2.heap.size=w1.heap.size+2:=by rw[<-hw2];simp
 have B2:Below w.heap.size w w2:=by rw[<-hw2];exact Below.alloc (Below.alloc B1 (by omega) _) (by simp;omega) _
 have b12:Below w1.heap.size w1 w2:=by rw[<-hw2];exact Below.alloc (Below.alloc (Below.refl _ _) (by omega) _) (by simp) _
 replace hM:=aR b12 (by omega) hM
 replace hLL:=(aT b12 (by omega)).trans hLL
 replace hr:=(aA b12 (by omega)).trans hr
 clear b12
 go_wp2_with fail
 refine aLH [(A,#[Value.int .i64 time,Value.map (some M)]),(w1.heap.size,(Value.string ⟨ip.toArray⟩::u8v mac).toArray),(w1.heap.size+1,#[Value.int .i64 v,Value.string ⟨ip.toArray⟩])] M (lM m) (hM) (hLL) (fun hS=>?_)
 refine mp 0 hS ?_
 refine mp 1 hS ?_
 refine mp 2 hS ?_
 refine mp 3 hS ?_
 refine mp 4 hS ?_
 refine cU (i:=5) (v:=?_) cD kr_ kr_ kr_ (by first | exact fun _ _ _ h=>h | exact fun _ _ _ h=>by cases h.1) (MapS.grow _ _ _) (Or.inl ⟨by rfl,?_⟩) hS ?_
 rotate_left
 ·intro w' hS'
  obtain⟨hS',hM',hL'⟩:=hS'
  have hrun:=HL.out _ _ hM' hL'
  simp only[Rws]at hS'
  go_simp
  refine⟨?_,Below.refl _ _⟩
  rfl
 (try simp only[Act.put,List.setIfInBounds_toArray,List.set_cons_zero,List.set_cons_succ])
 refine mp 6 hS ?_
 refine mp 7 hS ?_
 refine mp 8 hS ?_
 refine lL (i:=9) (k:=10) (zi:=(aH 6 (Value.int .u8 0)++[Value.int .i64 0]).toArray) (cA:=(u8v fm++[Value.int .i64 age]).toArray) cD cD ⟨rfl,rfl,fun a w=>by go_simp;(refine⟨?_,?_⟩<;>rfl)⟩ kr_ kr_ rfl rfl (by simp[*]) (by simp) (by simp;(try omega)) (fun A w1 hr=>by
  simp only[Act.put,List.setIfInBounds_toArray,List.set_cons_zero,List.set_cons_succ,ptr]
  go_simp
  try rfl) hS (fun X w3 gX zX b3 rX hS=>?_)
 (try simp only[Act.put,List.setIfInBounds_toArray,List.set_cons_zero,List.set_cons_succ])
 replace gX:(w2).heap.size<=X:=gX
 replace b3:Below (w2).heap.size w2 w3:=Below.trans (Below.drew (Below.refl _ _)) b3
 have zw3:=(b3).size
 simp only[ptr]
 refine mp 11 hS ?_
 refine aG kr_ (fun w4 b4=>?_) _
 have z4:=b4.size
 have b24:=b3.trans (b4.mono (by omega))
 have hM4:=aR b24 (by omega) hM
 have hL4:=(aT b24 (by omega)).trans hLL
 have hr4:=(aA b24 (by omega)).trans hr
 have rB4:=(aA b24 (by omega)).trans rB
 have rK4:=(aA b24 (by omega)).trans rK
 have B4:=B2.trans (b24.mono (by omega))
 have hlen:=aF8 (ty:=3) iG hM4
 rw[hL4,lM,List.length_map]at hlen
 have HL4:=h_ hL4
 clear hL4 hLL hM hr b24 b3 b4 hS hw2
 rcases h1' with rfl | ⟨rfl,h2⟩
 ·go_wp2_with fail
  refine aCm 8 [(A,#[Value.int .i64 time,Value.map (some M)]),(w1.heap.size,(Value.string ⟨ip.toArray⟩::u8v mac).toArray),(w1.heap.size+1,#[Value.int .i64 v,Value.string ⟨ip.toArray⟩])] M (lM m) (hM4) (HL4.out) (fun hS=>?_)
  refine kmp 0 hS ?_
  refine kmp 1 hS ?_
  refine kmp 2 hS ?_
  refine kmp 3 hS ?_
  refine kmp 4 hS ?_
  refine kmp 5 hS ?_
  refine kmp 6 hS ?_
  refine kmp 7 hS ?_
  refine bE (k:=8) cD rfl rfl kr_ (fun w5 b5=>?_)
  replace b5:=aL (Below.drew (Below.refl _ _)) b5
  have z5:=b5.size
  have hM5:=aR b5 (by omega) hM4
  have hL5:=(aT b5 (by omega)).trans HL4.out
  obtain⟨w6,hrun,hT,hM6,hL6,_⟩:=mP lO iG hM5 (okH v ip) (by rw[hL5];exact o7 m) (hvV mac 0)
  rw[hL5,show sQ dZ (hkV v ip) (hvV mac 0) (lM m)=lM (tP ⟨v,ip,mac,0⟩ m)from sU ⟨v,ip,mac,0⟩ m]at hL6
  have HL6:=h_ hL6
  clear hL5 hL6
  unfold hkV hvV at hrun
  refine⟨w6,?_,trivial,fun hS=>?_⟩
  ·go_simp
   try exact⟨_,_,rfl,rfl⟩
  ·refine aG kr_ (fun w7 b7=>?_) _
   have z7:=b7.size
   have z6:=hT.size
   have b45:=BelowBut.of (S:=M) (B4.trans (b5.mono (by omega)))
   have hbb:BelowBut w.heap.size M w w7:=⟨by rw[b7.os,hT.os,b45.os],by rw[b7.tape,hT.tape,b45.tape],by rw[b7.output,hT.output,b45.output],by have:=b45.size;omega,fun k hk hn=>by rw[b7.block k (by omega),hT.block k hn,b45.block k hk hn]⟩
   have hr7:row w7 A=#[Value.int .i64 time,Value.map (some M)]:=by rw[aA b7 (by omega),hT.row hAM,aA b5 (by omega),hr4]
   have hM7:=aR b7 (by omega) hM6
   have hL7:=(aT b7 (by omega)).trans HL6.out
   have HL7:=h_ hL7
   clear hL7 hrun b7 b5
   go_wp2_with fail
   go_ret
   exact⟨rfl,hbb,hr7,hM7,HL7.out⟩
 ·have h2':¬(1024:Int)<=(m.length:Int):=by omega
  go_wp2_with fail
  refine aCm 8 [(A,#[Value.int .i64 time,Value.map (some M)]),(w1.heap.size,(Value.string ⟨ip.toArray⟩::u8v mac).toArray),(w1.heap.size+1,#[Value.int .i64 v,Value.string ⟨ip.toArray⟩])] M (lM m) (hM4) (HL4.out) (fun hS=>?_)
  refine kmp 0 hS ?_
  refine kmp 1 hS ?_
  refine kmp 2 hS ?_
  refine kmp 3 hS ?_
  refine kmp 4 hS ?_
  refine kmp 5 hS ?_
  refine kmp 6 hS ?_
  refine kmp 7 hS ?_
  refine bE (k:=8) cD rfl rfl kr_ (fun w5 b5=>?_)
  replace b5:=aL (Below.drew (Below.refl _ _)) b5
  have z5:=b5.size
  have hM5:=aR b5 (by omega) hM4
  have hL5:=(aT b5 (by omega)).trans HL4.out
  obtain⟨w6,hrun,hT,hM6,hL6,_⟩:=mP lO iG hM5 (okH v ip) (by rw[hL5];exact o7 m) (hvV mac 0)
  rw[hL5,show sQ dZ (hkV v ip) (hvV mac 0) (lM m)=lM (tP ⟨v,ip,mac,0⟩ m)from sU ⟨v,ip,mac,0⟩ m]at hL6
  have HL6:=h_ hL6
  clear hL5 hL6
  unfold hkV hvV at hrun
  refine⟨w6,?_,trivial,fun hS=>?_⟩
  ·go_simp
   try exact⟨_,_,rfl,rfl⟩
  ·refine aG kr_ (fun w7 b7=>?_) _
   have z7:=b7.size
   have z6:=hT.size
   have b45:=BelowBut.of (S:=M) (B4.trans (b5.mono (by omega)))
   have hbb:BelowBut w.heap.size M w w7:=⟨by rw[b7.os,hT.os,b45.os],by rw[b7.tape,hT.tape,b45.tape],by rw[b7.output,hT.output,b45.output],by have:=b45.size;omega,fun k hk hn=>by rw[b7.block k (by omega),hT.block k hn,b45.block k hk hn]⟩
   have hr7:row w7 A=#[Value.int .i64 time,Value.map (some M)]:=by rw[aA b7 (by omega),hT.row hAM,aA b5 (by omega),hr4]
   have hM7:=aR b7 (by omega) hM6
   have hL7:=(aT b7 (by omega)).trans HL6.out
   have HL7:=h_ hL7
   clear hL7 hrun b7 b5
   go_wp2_with fail
   go_ret
   exact⟨rfl,hbb,hr7,hM7,HL7.out⟩
end
end
section
open Go.RowKit
theorem lR {α β:Type} {f g:α->Option β}:∀{l:List α},(∀x∈l,f x=g x)->l.filterMap f=l.filterMap g
 | [],_=>rfl
 | x::l,h=>by
  rw[List.filterMap_cons,List.filterMap_cons,h x (by simp),lR fun y hy=>h y (by simp[hy])]
def DistH (m:List HB):Prop:=m.Pairwise fun a b=>a.is b.v b.ip=false
def aBf (time:Int) (b:HB):Option HB:=if time<=b.age+1 then none else some ⟨b.v,b.ip,b.mac,b.age+1⟩
def aBg (time:Int) (m:List HB):List HB:=m.filterMap (aBf time)
theorem HB.is_self (b:HB):b.is b.v b.ip=true:=by simp[HB.is]
theorem HB.is_symm (a b:HB):a.is b.v b.ip=b.is a.v a.ip:=by
 simp only[HB.is]
 rw[Bool.beq_comm (a:=b.v),Bool.beq_comm (a:=b.ip)]
theorem DistH.one {m:List HB} (h:DistH m) {a b:HB} (ha:a∈m) (hb:b∈m) (e:a.is b.v b.ip=true):a=b:=by
 induction m with
 | nil=>cases ha
 | cons c l ih=>
  rw[DistH,List.pairwise_cons]at h
  rcases List.mem_cons.1 ha with h1 | h1<;>rcases List.mem_cons.1 hb with h2 | h2
  ·rw[h1,h2]
  ·have:=h.1 b h2
   rw[<-h1,e]at this
   cases this
  ·have:=h.1 a h1
   rw[<-h2,HB.is_symm,e]at this
   cases this
  ·exact ih h.2 h1 h2
def aME (f:HB->Option HB):Prop:=∀c d,f c=some d->d.v=c.v/\d.ip=c.ip
theorem aGr (f:HB->Option HB) (hf:aME f) (b b':HB) (hb:b'.v=b.v/\b'.ip=b.ip) (hfb:f b=some b):∀m:List HB,DistH m->b∈m->
  tP b' (m.filterMap f)=m.filterMap fun c=>if c.is b.v b.ip=true then some b' else f c
 | [],_,h=>by cases h
 | c::l,hd,h=>by
  rw[DistH,List.pairwise_cons]at hd
  by_cases hc:c.is b.v b.ip=true
  ·have hcb:c=b:=by
    rcases List.mem_cons.1 h with e | e
    ·exact e.symm
    ·have:=hd.1 b e
     rw[hc]at this
     cases this
   subst hcb
   have e1:(c::l).filterMap f=c::l.filterMap f:=by rw[List.filterMap_cons,hfb]
   have e2:((c::l).filterMap fun d=>if d.is c.v c.ip=true then some b' else f d)=b'::(l.filterMap fun d=>if d.is c.v c.ip=true then some b' else f d):=by rw[List.filterMap_cons,if_pos hc]
   rw[e1,e2,tP,hb.1,hb.2,if_pos hc]
   congr 1
   refine lR fun d hd'=>?_
   have h3:=hd.1 d hd'
   rw[HB.is_symm]at h3
   rw[h3]
   rfl
  ·have hbl:b∈l:=by
    rcases List.mem_cons.1 h with e | e
    ·subst e
     exact absurd b.is_self hc
    ·exact e
   have ih:=aGr f hf b b' hb hfb l hd.2 hbl
   have e2:((c::l).filterMap fun d=>if d.is b.v b.ip=true then some b' else f d)=(match f c with | some d=>d::(l.filterMap fun d=>if d.is b.v b.ip=true then some b' else f d) | none=>(l.filterMap fun d=>if d.is b.v b.ip=true then some b' else f d)):=by
    rw[List.filterMap_cons,if_neg hc]
    cases f c<;>rfl
   rw[e2,List.filterMap_cons]
   cases hfc:f c with
   | none=>exact ih
   | some d=>
    obtain⟨k1,k2⟩:=hf c d hfc
    have hdn:¬d.is b'.v b'.ip=true:=by
     rw[hb.1,hb.2]
     simp only[HB.is,k1,k2]
     exact hc
    simp only[tP]
    rw[if_neg hdn,ih]
theorem aJI (f:HB->Option HB) (hf:aME f) (b b':HB) (hfb:f b=some b'):∀m:List HB,DistH m->b∈m->
  aKf b.v b.ip (m.filterMap f)=m.filterMap fun c=>if c.is b.v b.ip=true then none else f c
 | [],_,h=>by cases h
 | c::l,hd,h=>by
  rw[DistH,List.pairwise_cons]at hd
  by_cases hc:c.is b.v b.ip=true
  ·have hcb:c=b:=by
    rcases List.mem_cons.1 h with e | e
    ·exact e.symm
    ·have:=hd.1 b e
     rw[hc]at this
     cases this
   subst hcb
   obtain⟨k1,k2⟩:=hf c b' hfb
   have hbc:b'.is c.v c.ip=true:=by
    simp only[HB.is,k1,k2]
    exact hc
   have e1:(c::l).filterMap f=b'::l.filterMap f:=by rw[List.filterMap_cons,hfb]
   have e2:((c::l).filterMap fun d=>if d.is c.v c.ip=true then none else f d)=(l.filterMap fun d=>if d.is c.v c.ip=true then none else f d):=by rw[List.filterMap_cons,if_pos hc]
   rw[e1,e2,aKf,if_pos hbc]
   refine lR fun d hd'=>?_
   have h3:=hd.1 d hd'
   rw[HB.is_symm]at h3
   rw[h3]
   rfl
  ·have hbl:b∈l:=by
    rcases List.mem_cons.1 h with e | e
    ·subst e
     exact absurd b.is_self hc
    ·exact e
   have ih:=aJI f hf b b' hfb l hd.2 hbl
   have e2:((c::l).filterMap fun d=>if d.is b.v b.ip=true then none else f d)=(match f c with | some d=>d::(l.filterMap fun d=>if d.is b.v b.ip=true then none else f d) | none=>(l.filterMap fun d=>if d.is b.v b.ip=true then none else f d)):=by
    rw[List.filterMap_cons,if_neg hc]
    cases f c<;>rfl
   rw[e2,List.filterMap_cons]
   cases hfc:f c with
   | none=>exact ih
   | some d=>
    obtain⟨k1,k2⟩:=hf c d hfc
    have hdn:¬d.is b.v b.ip=true:=by
     simp only[HB.is,k1,k2]
     exact hc
    simp only[aKf]
    rw[if_neg hdn,ih]
def n8 (time:Int) (left:Value->Bool) (b:HB):Option HB:=if left (hkV b.v b.ip)=true then some b else aBf time b
def iQ (time:Int) (left:Value->Bool) (m:List HB):List HB:=m.filterMap (n8 time left)
theorem aBh (time:Int):aME (aBf time):=by
 intro c d h
 unfold aBf at h
 split at h
 ·cases h
 ·cases h;exact⟨rfl,rfl⟩
theorem n9 (time:Int) (left:Value->Bool):aME (n8 time left):=by
 intro c d h
 unfold n8 at h
 split at h
 ·cases h;exact⟨rfl,rfl⟩
 ·exact aBh time c d h
theorem aEI (time:Int) (m:List HB):iQ time (fun _=>true) m=m:=by
 unfold iQ
 have:∀b,n8 time (fun _=>true) b=some b:=fun b=>rfl
 induction m with
 | nil=>rfl
 | cons b m ih=>rw[List.filterMap_cons,this,ih]
theorem aIq (time:Int) (left:Value->Bool) (m:List HB) (h:∀p∈lM (iQ time left m),left p.1=false):iQ time left m=aBg time m:=by
 refine lR fun b hb=>?_
 unfold n8
 split
 ·rename_i hl
  have hm:b∈iQ time left m:=List.mem_filterMap.2 ⟨b,hb,by unfold n8;rw[if_pos hl]⟩
  have:=h _ (List.mem_map_of_mem (f:=fun b:HB=>(hkV b.v b.ip,hvV b.mac b.age)) hm)
  rw[hl]at this
  cases this
 ·rfl
theorem aIr (time:Int) (left:Value->Bool) (m:List HB) (p:Value×Value) (hp:p∈lM (iQ time left m)) (hl:left p.1=true):∃b∈m,p=(hkV b.v b.ip,hvV b.mac b.age):=by
 obtain⟨c,hc,rfl⟩:=List.mem_map.1 hp
 obtain⟨b,hb,hf⟩:=List.mem_filterMap.1 hc
 unfold n8 at hf
 split at hf
 ·cases hf;exact⟨_,hb,rfl⟩
 ·rename_i hn
  obtain⟨k1,k2⟩:=aBh time b c hf
  simp only[k1,k2]at hl
  exact absurd hl hn
theorem aGs (time:Int) (left:Value->Bool) (m:List HB) (h:DistH m):DistH (iQ time left m):=by
 unfold iQ
 rw[DistH,List.pairwise_filterMap]
 refine List.Pairwise.imp ?_ h
 intro a b hab c hc d hd
 obtain⟨k1,k2⟩:=n9 time left a c hc
 obtain⟨k3,k4⟩:=n9 time left b d hd
 simp only[HB.is,k1,k2,k3,k4]
 exact hab
theorem aEJ (m:List HB) (h:DistH m):((lM m).map (·.1)).Nodup:=by
 unfold lM
 rw[List.map_map,List.Nodup,List.pairwise_map]
 refine List.Pairwise.imp ?_ h
 intro a b hab e
 have e1:dZ (hkV a.v a.ip) (hkV b.v b.ip)=dZ (hkV b.v b.ip) (hkV b.v b.ip):=by
  have:hkV a.v a.ip=hkV b.v b.ip:=e
  rw[this]
 rw[aAZ,aAZ,b.is_self,HB.is_symm,hab]at e1
 cases e1
theorem aIs (time:Int) (left:Value->Bool) (m:List HB) (hd:DistH m) (b:HB) (hb:b∈m) (hl:left (hkV b.v b.ip)=true) (ht:¬time<=b.age+1):
  tP ⟨b.v,b.ip,b.mac,b.age+1⟩ (iQ time left m)=iQ time (fun z=>left z&& !dZ (hkV b.v b.ip) z) m:=by
 unfold iQ
 rw[aGr (n8 time left) (n9 time left) b ⟨b.v,b.ip,b.mac,b.age+1⟩ ⟨rfl,rfl⟩ (by unfold n8;rw[if_pos hl]) m hd hb]
 refine lR fun c hc=>?_
 unfold n8
 simp only[aAZ]
 by_cases hcb:c.is b.v b.ip=true
 ·have:c=b:=hd.one hc hb hcb
  subst this
  rw[if_pos hcb,hcb]
  simp only[Bool.not_true,Bool.and_false,Bool.false_eq_true,if_false,aBf,if_neg ht]
 ·have:c.is b.v b.ip=false:=by simpa using hcb
  rw[if_neg hcb,this]
  simp only[Bool.not_false,Bool.and_true]
theorem aIt (time:Int) (left:Value->Bool) (m:List HB) (hd:DistH m) (b:HB) (hb:b∈m) (hl:left (hkV b.v b.ip)=true) (ht:time<=b.age+1):
  aKf b.v b.ip (tP ⟨b.v,b.ip,b.mac,b.age+1⟩ (iQ time left m))=iQ time (fun z=>left z&& !dZ (hkV b.v b.ip) z) m:=by
 unfold iQ
 have hk:=n9 time left
 rw[aGr (n8 time left) hk b ⟨b.v,b.ip,b.mac,b.age+1⟩ ⟨rfl,rfl⟩ (by unfold n8;rw[if_pos hl]) m hd hb]
 rw[aJI _ ?_ b ⟨b.v,b.ip,b.mac,b.age+1⟩ ?_ m hd hb]
 ·refine lR fun c hc=>?_
  unfold n8
  simp only[aAZ]
  by_cases hcb:c.is b.v b.ip=true
  ·have:c=b:=hd.one hc hb hcb
   subst this
   rw[if_pos hcb,hcb]
   simp only[Bool.not_true,Bool.and_false,Bool.false_eq_true,if_false,aBf,if_pos ht]
  ·have:c.is b.v b.ip=false:=by simpa using hcb
   rw[if_neg hcb,if_neg hcb,this]
   simp only[Bool.not_false,Bool.and_true]
 ·intro c d h
  simp only at h
  split at h
  ·rename_i hcb
   cases h
   simp only[HB.is,Bool.and_eq_true,beq_iff_eq]at hcb
   exact⟨hcb.1,hcb.2⟩
  ·exact hk c d h
 ·rw[if_pos b.is_self]
end
section
open Go.RowKit
theorem aBi (b:HB):∀l:List HB,b∈l->jO b.v b.ip l≠none
 | [],h=>by cases h
 | c::l,h=>by
  unfold jO
  by_cases hc:c.is b.v b.ip=true
  ·rw[if_pos hc];simp
  ·rw[if_neg hc]
   rcases List.mem_cons.1 h with e | e
   ·subst e;exact absurd b.is_self hc
   ·exact aBi b l e
theorem aGt (w:World) {A M:Nat} {time:Int} {m:List HB} (h:HushT w A M time m) (hAM:A≠M) (hd:DistH m) (hage:∀b∈m,0<=b.age/\b.age<=1000000):
  Calls Tryz.prog 48 #[.pointer (some ⟨A,0,none⟩)] w fun e w'=>e=.returned (.tuple #[])/\BelowBut w.heap.size M w w'/\HushT w' A M time (aBg time m):=by
 have hr:=h.row
 have hlt:=h.lt
 have hMlt:=h.ok.lt
 obtain⟨o,hrun,hit⟩:=nT iG h.ok
 obtain⟨w0,hw0⟩:∃x,w.alloc o=x:=⟨_,rfl⟩
 rw[hw0]at hrun hit
 have B0:Below w.heap.size w w0:=by rw[<-hw0];exact ba_
 have z0:w0.heap.size=w.heap.size+1:=by rw[<-hw0];simp
 have hM0:=aR B0 hMlt h.ok
 have hL0:eB w0 M=lM (iQ time (fun _=>true) m):=by rw[aT B0 hMlt,h.map,aEI]
 have hr0:=(aA B0 hlt).trans hr
 clear hw0 h
 go_enter Tryz.func48,Tryz.ntmps48
 go_wp2_with fail
 go_loopw [2] (fun _ wr=>∃left,iterOk wr w.heap.size M left/\mapOk wr M/\eB wr M=lM (iQ time left m)/\row wr A=#[Value.int .i64 time,Value.map (some M)]/\BelowBut w.heap.size M w wr/\w.heap.size<wr.heap.size) (fun _ wr=>dL wr w.heap.size M)
 case atStart=>exact⟨fun _=>true,hit,hM0,hL0,hr0,BelowBut.of B0,by omega⟩
 case round=>
  clear hrun hit hM0 hL0 hr0
  obtain⟨left,hit,hM,hL,hra,hbb,hz⟩:=hrel
  have hnd:=aEJ _ (aGs time left m hd)
  rw[<-hL]at hnd
  rcases nU lO hit (by rw[hL];exact o7 _) hnd with ⟨hall,hrun⟩ | ⟨p,hp,hlp,w1,hrun,hT,hit1,hent⟩
  ·rw[hL]at hall
   rw[aIq time left m hall]at hL
   have HL:=h_ hL
   clear hL hall hnd
   go_wp2_with fail
   go_end0
   exact⟨rfl,hbb,hra,hM,HL.out⟩
  ·rw[hL]at hp
   obtain⟨b,hb,rfl⟩:=aIr time left m p hp hlp
   dsimp only at hlp hrun hit1 hent
   have hab:=hage b hb
   have hL1:eB w1 M=lM (iQ time left m):=(bQ (hT.block M (Ne.symm hit.ne))).trans hL
   have hM1:=(bD (hT.block M (Ne.symm hit.ne))).2 hM
   have hra1:=(hT.row (Nat.ne_of_lt hlt)).trans hra
   have z1:=hT.size
   have hlq:dL w1 w.heap.size M<dL wr w.heap.size M:=by
    rw[hit1.left_eq,hit.left_eq,hL1,hL]
    refine kG (f:=fun q:Value×Value=>left q.1) (g:=fun q=> !dZ (hkV b.v b.ip) q.1) (x:=(hkV b.v b.ip,hvV b.mac b.age)) hp hlp ?_
    dsimp only
    rw[aAZ,b.is_self]
    rfl
   have hbb1:BelowBut w.heap.size M w w1:=hbb.trans ⟨hT.os,hT.tape,hT.output,by omega,fun k hk hn=>hT.block k (by omega)⟩
   obtain⟨v,ip,mac,age⟩:=b
   unfold hkV hvV at hrun hent
   dsimp only at hlp hrun hit1 hent hab
   have HL1:=h_ hL1
   have HLQ:=h_ hlq
   have HB:=h_ hb
   have HLP:=h_ hlp
   clear hL1 hlq hb hlp hp hnd hL hbb
   have HIT:=h_ hit1
   have hne:=hit1.ne
   have hrl:=hit1.lt
   clear hit1
   obtain⟨w2,hw2⟩:∃x,(w1.alloc (.cells #[Value.int .i64 v,Value.string ⟨ip.toArray⟩] 200)).alloc (.cells (u8v mac++[Value.int .i64 (age+1)]).toArray 202)=x:=⟨_,rfl⟩
   have rX:row w2 wr.heap.size=#[Value.int .i64 v,Value.string ⟨ip.toArray⟩]:=by rw[<-hw2];simp[go_sem,z1]
   have rY:row w2 (wr.heap.size+1)=(u8v mac++[Value.int .i64 (age+1)]).toArray:=by rw[<-hw2];simp[go_sem,z1]
   have z2:w2.heap.size=wr.heap.size+2:=by rw[<-hw2];simp;omega
   have b12:Below w1.heap.size w1 w2:=by rw[<-hw2];exact Below.alloc (Below.alloc (Below.refl _ _) (by omega) _) (by simp) _
   have rA2:=(aA b12 (by omega)).trans hra1
   go_wp2_with fail
   clear hw2
   refine aCm 6 [(A,#[Value.int .i64 time,Value.map (some M)]),(wr.heap.size,#[Value.int .i64 v,Value.string ⟨ip.toArray⟩]),(wr.heap.size+1,(u8v mac++[Value.int .i64 (age+1)]).toArray)] M (lM (iQ time left m)) (aR b12 (by omega) hM1) ((aT b12 (by omega)).trans HL1.out) (fun hS=>?_)
   refine kmp 0 hS ?_
   refine kmp 1 hS ?_
   refine kmp 2 hS ?_
   refine kmp 3 hS ?_
   refine kmp 4 hS ?_
   refine kmp 5 hS ?_
   refine bE (k:=6) cD rfl rfl kr_ (fun w3 b3=>?_)
   replace b3:=aL (Below.drew (Below.refl _ _)) b3
   have b13:=aL b12 b3
   have z3:=b13.size
   have z23:=b3.size
   have hM3:=aR b13 (by omega) hM1
   have hL3:=(aT b13 (by omega)).trans HL1.out
   obtain⟨w4,hrun4,hT4,hM4,hL4,hold4⟩:=mP lO iG hM3 (okH v ip) (by rw[hL3];exact o7 _) (hvV mac (age+1))
   have hin:tL dZ (hkV v ip) (eB w3 M)≠none:=by
    rw[hL3,aLJ]
    have:=aBi ⟨v,ip,mac,age⟩ (iQ time left m) (List.mem_filterMap.2 ⟨_,HB.out,by unfold n8;rw[if_pos HLP.out]⟩)
    intro e
    rw[Option.map_eq_none_iff]at e
    exact this e
   obtain⟨hit4,hl4⟩:=(HIT.out.kept (b13.block M (by omega)) (b13.block _ (by omega))).put hT4 (hold4 hin)
   rw[hL3,show sQ dZ (hkV v ip) (hvV mac (age+1)) (lM (iQ time left m))=lM (tP ⟨v,ip,mac,age+1⟩ (iQ time left m))from sU ⟨v,ip,mac,age+1⟩ _]at hL4
   have HL4:=h_ hL4
   have HIT4:=h_ hit4
   have hl4':dL w4 w.heap.size M<dL wr w.heap.size M:=by
    rw[hl4,dU (b13.block M (by omega)) (b13.block _ (by omega))]
    exact HLQ.out
   have HLQ4:=h_ hl4'
   clear hL3 hL4 hit4 hl4 hin hold4 hl4'
   unfold hkV hvV at hrun4
   refine⟨w4,?_,trivial,fun hS=>?_⟩
   ·go_simp
    try exact⟨_,_,rfl,rfl⟩
   ·refine aG kr_ (fun w5 b5=>?_) _
    have z5:=b5.size
    have z4:=hT4.size
    have rA5:row w5 A=#[Value.int .i64 time,Value.map (some M)]:=by rw[aA b5 (by omega),hT4.row hAM,aA b13 (by omega),hra1]
    have rX5:row w5 wr.heap.size=#[Value.int .i64 v,Value.string ⟨ip.toArray⟩]:=by rw[aA b5 (by omega),hT4.row (by omega),aA b3 (by omega),rX]
    have rY5:row w5 (wr.heap.size+1)=(u8v mac++[Value.int .i64 (age+1)]).toArray:=by rw[aA b5 (by omega),hT4.row (by omega),aA b3 (by omega),rY]
    have hM5:=aR b5 (by omega) hM4
    have hL5:=(aT b5 (by omega)).trans HL4.out
    have HL5:=h_ hL5
    have hbb5:BelowBut w.heap.size M w w5:=hbb1.trans ⟨by rw[b5.os,hT4.os,b13.os],by rw[b5.tape,hT4.tape,b13.tape],by rw[b5.output,hT4.output,b13.output],by omega,fun k hk hn=>by rw[b5.block k (by omega),hT4.block k hn,b13.block k (by omega)]⟩
    have hit5:=HIT4.out.kept (b5.block M (by omega)) (b5.block w.heap.size (by omega))
    have hl5:dL w5 w.heap.size M<dL wr w.heap.size M:=by
     rw[dU (b5.block M (by omega)) (b5.block _ (by omega))]
     exact HLQ4.out
    have HIT5:=h_ hit5
    have HLQ5:=h_ hl5
    clear hL5 hrun4 hit5 hl5 b5 hS rX rY rA2 b12 b13 b3 hrun hent
    go_wp2_with fail
    refine jY [(A,#[Value.int .i64 time,Value.map (some M)]),(wr.heap.size+1,(u8v mac++[Value.int .i64 (age+1)]).toArray)] (fun hS=>?_)
    refine qp 0 hS ?_
    refine qp 1 hS ?_
    refine qp 2 hS ?_
    refine qp 3 hS ?_
    refine qp 4 hS ?_
    refine qp 5 hS ?_
    refine qp 6 hS ?_
    refine aG kr_ (fun w6 b6=>?_) _
    replace b6:Below (w5).heap.size (w5) w6:=aL (Below.drew (Below.refl _ _)) b6
    have z6:=b6.size
    have rA6:=(aA b6 (by omega)).trans rA5
    have rX6:=(aA b6 (by omega)).trans rX5
    have hM6:=aR b6 (by omega) hM5
    have hL6:=(aT b6 (by omega)).trans HL5.out
    have HL6:=h_ hL6
    have hit6:=HIT5.out.kept (b6.block M (by omega)) (b6.block w.heap.size (by omega))
    have hl6:dL w6 w.heap.size M<dL wr w.heap.size M:=by
     rw[dU (b6.block M (by omega)) (b6.block _ (by omega))]
     exact HLQ5.out
    have hbb6:BelowBut w.heap.size M w w6:=hbb5.trans (BelowBut.of (b6.mono (by omega)))
    have HIT6:=h_ hit6
    have HLQ6:=h_ hl6
    clear hL6 hit6 hl6
    by_cases ht:time<=age+1
    ·go_wp2_with fail
     refine jY [(A,#[Value.int .i64 time,Value.map (some M)]),(wr.heap.size,#[Value.int .i64 v,Value.string ⟨ip.toArray⟩])] (fun hS=>?_)
     refine qp 0 hS ?_
     refine qp 1 hS ?_
     refine qp 2 hS ?_
     refine qp 3 hS ?_
     refine qp 4 hS ?_
     refine cL (i:=5) cD rfl kr_ (fun w7 b7=>?_)
     replace b7:=aL (Below.drew (Below.refl _ _)) b7
     have z7:=b7.size
     have hM7:=aR b7 (by omega) hM6
     have hL7:=(aT b7 (by omega)).trans HL6.out
     obtain⟨w8,hrun8,hT8,hM8,hL8,hold8⟩:=aF7 (ty:=0) lO iG hM7 (okH v ip) (by rw[hL7];exact o7 _)
     obtain⟨hit8,hl8⟩:=(HIT6.out.kept (b7.block M (by omega)) (b7.block _ (by omega))).del hT8 hold8
     rw[hL7,aDL,aIt time left m hd ⟨v,ip,mac,age⟩ HB.out HLP.out ht]at hL8
     have HL8:=h_ hL8
     have HIT8:=h_ hit8
     have hl8':dL w8 w.heap.size M<dL wr w.heap.size M:=by
      refine Nat.lt_of_le_of_lt hl8 ?_
      rw[dU (b7.block M (by omega)) (b7.block _ (by omega))]
      exact HLQ6.out
     have HLQ8:=h_ hl8'
     clear hL7 hL8 hit8 hl8 hold8 hl8'
     unfold hkV at hrun8
     have z8:=hT8.size
     have rA8:row w8 A=#[Value.int .i64 time,Value.map (some M)]:=by rw[hT8.row hAM,aA b7 (by omega),rA6]
     have rX8:row w8 wr.heap.size=#[Value.int .i64 v,Value.string ⟨ip.toArray⟩]:=by rw[hT8.row (by omega),aA b7 (by omega),rX6]
     refine⟨.value (.tuple #[]),.tuple #[],w8,?_,rfl,⟨rA8,by omega,rX8,by omega,trivial⟩,?_⟩
     ·go_simp
      try rfl
     ·refine aG kr_ (fun w9 b9=>?_) _
      have z9:=b9.size
      have rA9:row w9 A=#[Value.int .i64 time,Value.map (some M)]:=by rw[aA b9 (by omega),hT8.row hAM,aA b7 (by omega),rA6]
      have hM9:=aR b9 (by omega) hM8
      have hL9:=(aT b9 (by omega)).trans HL8.out
      have HL9:=h_ hL9
      have hbb9:BelowBut w.heap.size M w w9:=hbb6.trans ⟨by rw[b9.os,hT8.os,b7.os],by rw[b9.tape,hT8.tape,b7.tape],by rw[b9.output,hT8.output,b7.output],by omega,fun k hk hn=>by rw[b9.block k (by omega),hT8.block k hn,b7.block k (by omega)]⟩
      have hit9:=HIT8.out.kept (b9.block M (by omega)) (b9.block w.heap.size (by omega))
      have hl9:dL w9 w.heap.size M<dL wr w.heap.size M:=by
       rw[dU (b9.block M (by omega)) (b9.block _ (by omega))]
       exact HLQ8.out
      have HIT9:=h_ hit9
      have HLQ9:=h_ hl9
      clear hL9 hrun8 hit9 hl9 b9 hS
      go_wp2_with fail
      go_roundw
      case rel=>exact⟨_,HIT9.out,HL9.out,by omega⟩
      case measure=>exact HLQ9.out
    ·go_wp2_with fail
     go_roundw
     case rel=>exact⟨_,HIT6.out,hM6,by rw[HL6.out,aIs time left m hd ⟨v,ip,mac,age⟩ HB.out HLP.out ht],rA6,hbb6,by omega⟩
     case measure=>exact HLQ6.out
end
end Go.Proofs.YtiagbbknkdgmeaaGreat
