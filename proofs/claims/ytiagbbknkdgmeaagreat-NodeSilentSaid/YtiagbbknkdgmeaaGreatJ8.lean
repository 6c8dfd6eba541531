/- Texts of this proof, merged: Spn, SpnN. -/
import Derived.Test.YtiagbbknkdgmeaaGreatJ7
import Derived.Test.YtiagbbknkdgmeaaGreatJ2
set_option linter.unusedSimpArgs false
set_option linter.unusedVariables false
set_option maxHeartbeats 8000000
set_option maxRecDepth 20000
namespace Go.Proofs.YtiagbbknkdgmeaaGreat
section
open Go.RowKit
def jM (cost:Int):List Value:=.int .i64 cost::.bool false::.bool false::(aH 16 (.int .u8 0)++(aH 6 (.int .i64 0)++[.bool false,.bool false,.int .i64 0,.int .i64 0,.int .i64 0]))
structure SpD where
 id:Vector UInt8 8
 b1:Vector UInt8 8
 b2:Vector UInt8 8
 ma:Int
 he:Int
 de:Int
 bc:Int
 bp:Int
 now:Int
 pa:Option Addr
 cap:Nat
 ps:List Nat
def SpD.cells (s:SpD):List Value:=
 u8v s.id++(.int .i64 s.ma::.int .i64 s.he::.int .i64 s.de::.slice s.pa s.ps.length s.cap::(u8v s.b1++(.int .i64 s.bc::(u8v s.b2++[.int .i64 s.bp,.int .i64 (-1),.int .i64 s.now,.int .i64 0]))))
structure SpT (w:World) (B S:Nat) (s:SpD):Prop where
 lo:B<=S
 rS:row w S=s.cells.toArray
 own:OwnL w B 136 1 (.slice s.pa s.ps.length s.cap) (s.ps.map fun p=>[ptr p])
 sep:(Value.slice s.pa s.ps.length s.cap).ownBlock≠some S
 rows:∀p∈s.ps,B<=p/\p≠S/\∃c,row w p=(jM c).toArray
theorem SpT.lt {w:World} {B S:Nat} {s:SpD} (h:SpT w B S s):S<w.heap.size:=aM (i:=0) (by rw[h.rS];simp[SpD.cells])
theorem SpT.ltp {w:World} {B S:Nat} {s:SpD} (h:SpT w B S s):∀p∈s.ps,p<w.heap.size:=fun p hp=>by
 obtain⟨_,_,c,hc⟩:=h.rows p hp
 exact aM (i:=0) (by rw[hc];simp[jM])
theorem SpT.kept {w w':World} {B S:Nat} {s:SpD} (h:SpT w B S s) (hb:∀k,B<=k->k<w.heap.size->w'.heap[k]? =w.heap[k]?):SpT w' B S s:=
 ⟨h.lo,(aJ (hb S h.lo h.lt)).trans h.rS,h.own.keep fun k hk=>hb k (h.own.blk hk).1 (h.own.blk hk).2.1,h.sep,fun p hp=>by
  obtain⟨h1,h2,c,hc⟩:=h.rows p hp
  exact⟨h1,h2,c,(aJ (hb p h1 (h.ltp p hp))).trans hc⟩⟩
theorem SpT.below {w w':World} {B S:Nat} {s:SpD} (h:SpT w B S s) (hb:Below w.heap.size w w'):SpT w' B S s:=h.kept fun k _ hk=>hb.block k hk
theorem SpT.get {w:World} {B S:Nat} {s:SpD} (h:SpT w B S s) {k:Nat} (hk:k<s.ps.length):∃b off c p,s.pa=some ⟨b,off,none⟩/\b<w.heap.size/\w.cell? ⟨b,off+k,none⟩=some (.pointer (some ⟨p,0,none⟩))/\row w p=(jM c).toArray/\p∈s.ps:=by
 obtain⟨a,cap',e,he⟩:=h.own.elems
 simp only[List.length_map,Value.slice.injEq,true_and]at e
 obtain⟨rfl,rfl⟩:=e
 obtain⟨b,off,e2,hb,hr⟩:=he.2 k [ptr s.ps[k]] (by rw[List.getElem?_map,List.getElem?_eq_getElem hk];rfl)
 have hc:=hr w rfl 0 _ rfl
 rw[Nat.mul_one,Nat.add_zero]at hc
 obtain⟨_,_,c,hc2⟩:=h.rows s.ps[k] (List.getElem_mem hk)
 exact⟨b,off,c,s.ps[k],e2,hb,hc,hc2,List.getElem_mem hk⟩
theorem aEv {w:World} {B:Nat} {e:TypeId} {v:Value} {ps:List Nat} {p:Nat} {c:Int} (h:OwnL w B e 1 v (ps.map fun p=>[ptr p])) (hp:p∈ps) (hr:row w p=(jM c).toArray):v.ownBlock≠some p:=fun hk=>by
 cases ps with
 | nil=>cases hp
 | cons q ps=>
  have:=aGb h hk
  rw[hr]at this
  simp[jM,ptr]at this
section
variable (w:World) {B S:Nat} {s:SpD}
theorem aAX (h:SpT w B S s) (k:Nat) (hk:k<s.ps.length) (hn:s.ps.length<=32):
  Calls Tryz.prog 74 #[.pointer (some ⟨S,0,none⟩),.int .i64 (k:Int)] w fun e w'=>e=.returned (.int .i64 0)/\w'=w:=by
 obtain⟨b,off,c,p,hpa,hb,hc,hr,hpm⟩:=h.get hk
 have hS:=h.rS
 unfold SpD.cells at hS
 rw[hpa]at hS
 obtain⟨n,hne⟩:∃n,s.ps.length=n:=⟨_,rfl⟩
 rw[hne]at hS hk hn
 unfold jM at hr
 have hkI:(k:Int)<(n:Int):=by omega
 clear h hpa hne
 go_enter Tryz.func74,Tryz.ntmps74
 go_wp2_with fail
 go_ret
 exact⟨rfl,rfl⟩
theorem aGd (i:Int):Calls Tryz.prog 66 #[.pointer none,.int .i64 i] w fun e w'=>e=.returned (.bool false)/\w'=w:=by
 go_enter Tryz.func66,Tryz.ntmps66
 go_wp2_with fail
 go_ret
 exact⟨rfl,rfl⟩
theorem aCr (i:Int):Calls Tryz.prog 32 #[.pointer none,.int .i64 i] w fun e w'=>e=.returned (.int .i64 0)/\w'=w:=by
 go_enter Tryz.func32,Tryz.ntmps32
 go_wp2_with fail
 refine(aGd _ i).mono ?_
 rintro e w1 ⟨rfl,rfl⟩
 go_wp2_with fail
 go_ret
 exact⟨rfl,rfl⟩
theorem yR:Calls Tryz.prog 59 #[.pointer none] w fun e w'=>e=.returned (.int .i64 0)/\w'=w:=by
 go_enter Tryz.func59,Tryz.ntmps59
 go_wp2_with fail
 go_ret
 exact⟨rfl,rfl⟩
theorem vT (h:SpT w B S s):Calls Tryz.prog 59 #[.pointer (some ⟨S,0,none⟩)] w fun e w'=>e=.returned (.int .i64 0)/\w'=w:=by
 have hS:=h.rS
 unfold SpD.cells at hS
 clear h
 go_enter Tryz.func59,Tryz.ntmps59
 go_wp2_with fail
 go_ret
 exact⟨rfl,rfl⟩
theorem aEw (h:SpT w B S s) (i:Int) (hn:s.ps.length<=32):Calls Tryz.prog 66 #[.pointer (some ⟨S,0,none⟩),.int .i64 i] w fun e w'=>e=.returned (.bool (decide (0<=i)&&decide (i<s.ps.length)))/\w'=w:=by
 have hS:=h.rS
 unfold SpD.cells at hS
 obtain⟨n,hne⟩:∃n,s.ps.length=n:=⟨_,rfl⟩
 rw[hne]at hS hn ⊢
 obtain⟨q,hq⟩:∃q,(decide (0<=i)&&decide (i<(n:Int)))=q:=⟨_,rfl⟩
 rw[hq]
 have HB:=h_ hq
 clear h hne hq
 go_enter Tryz.func66,Tryz.ntmps66
 by_cases h0:0<=i
 ·by_cases h1:i<(n:Int)
  ·go_wp2_with fail
   go_ret
   exact⟨by rw[show q=true by rw[<-HB.out];simp;omega];rfl,rfl⟩
  ·go_wp2_with fail
   go_ret
   exact⟨by rw[show q=false by rw[<-HB.out];simp;omega];rfl,rfl⟩
 ·go_wp2_with fail
  go_ret
  exact⟨by rw[show q=false by rw[<-HB.out];simp;omega];rfl,rfl⟩
theorem aAY (h:SpT w B S s) (i:Int) (hn:s.ps.length<=32):Calls Tryz.prog 32 #[.pointer (some ⟨S,0,none⟩),.int .i64 i] w fun e w'=>e=.returned (.int .i64 0)/\w'=w:=by
 have HH:=h_ (aEw w h i hn)
 by_cases hi:0<=i/\i<(s.ps.length:Int)
 ·obtain⟨k,rfl⟩:=Int.eq_ofNat_of_zero_le hi.1
  have hk:k<s.ps.length:=by omega
  obtain⟨b,off,c,p,hpa,hb,hc,hr,hpm⟩:=h.get hk
  have hS:=h.rS
  unfold SpD.cells at hS
  rw[hpa]at hS
  obtain⟨n,hne⟩:∃n,s.ps.length=n:=⟨_,rfl⟩
  rw[hne]at hS hk hn HH
  unfold jM at hr
  have hkI:(k:Int)<(n:Int):=by omega
  have q1:decide ((0:Int)<=(k:Int))=true:=by simp
  have q2:decide ((k:Int)<(n:Int))=true:=by simpa using hkI
  clear h hpa hne hi
  go_enter Tryz.func32,Tryz.ntmps32
  go_wp2_with fail
  refine HH.out.mono ?_
  rintro e w1 ⟨rfl,rfl⟩
  rw[q1,q2]
  go_wp2_with fail
  go_ret
  exact⟨rfl,rfl⟩
 ·have q:(decide (0<=i)&&decide (i<(s.ps.length:Int)))=false:=by simp;omega
  rw[q]at HH
  clear h hi q
  go_enter Tryz.func32,Tryz.ntmps32
  go_wp2_with fail
  refine HH.out.mono ?_
  rintro e w1 ⟨rfl,rfl⟩
  go_wp2_with fail
  go_ret
  exact⟨rfl,rfl⟩
end
end
section
open Go.RowKit
def SpD.found (s:SpD):SpD:={s with b1:=s.id,b2:=s.id,bc:=0,bp:=0}
section
variable (w:World) {B S:Nat} {s:SpD}
theorem aCs (h:SpT w B S s) (hn:s.ps.length<=32):
  Calls Tryz.prog 73 #[.pointer (some ⟨S,0,none⟩)] w fun e w'=>e=.returned (.tuple #[])/\SpT w' B S s.found/\BelowBut w.heap.size S w w':=by
 have zS:=h.lt
 have hS0:=h.rS
 unfold SpD.cells at hS0
 obtain⟨n,hne⟩:∃n,s.ps.length=n:=⟨_,rfl⟩
 rw[hne]at hS0 hn
 have HH:=h_ h
 have HN:=h_ hne
 clear h hne
 go_enter Tryz.func73,Tryz.ntmps73
 go_wp2_with fail
 refine aF6 13 [(S,(u8v s.id++(Value.int .i64 s.ma::Value.int .i64 s.he::Value.int .i64 s.de::Value.slice s.pa n s.cap::(u8v s.b1++(Value.int .i64 s.bc::(u8v s.b2++[Value.int .i64 s.bp,Value.int .i64 (-1),Value.int .i64 s.now,Value.int .i64 0]))))).toArray)] [] (fun hS=>?_)
 refine kp 0 hS ?_
 refine bP (i:=1) (v:=?_) cD kr_ kr_ kr_ (by decide) (by first | exact fun _ _ _ h=>h | exact fun _ _ _ h=>by cases h.1) (Rws.grow _) (Rws.grow _) (by intro w h;simp only[Rws]at h ⊢;(try simp only[h,and_self])) (Or.inl ⟨by rfl,?_⟩) hS ?_
 rotate_left
 ·intro w' hS'
  simp only[Rws]at hS'
  go_simp
  refine⟨?_,Below.refl _ _⟩
  rfl
 (try simp only[Act.put,List.setIfInBounds_toArray,List.set_cons_zero,List.set_cons_succ])
 refine kp 2 hS ?_
 refine kp 3 hS ?_
 refine kp 4 hS ?_
 refine kp 5 hS ?_
 refine kp 6 hS ?_
 refine kp 7 hS ?_
 refine kp 8 hS ?_
 refine kp 9 hS ?_
 refine kp 10 hS ?_
 refine bP (i:=11) (v:=?_) cD kr_ kr_ kr_ (by decide) (by first | exact fun _ _ _ h=>h | exact fun _ _ _ h=>by cases h.1) (Rws.grow _) (Rws.grow _) (by intro w h;simp only[Rws]at h ⊢;(try simp only[h,and_self])) (Or.inl ⟨by rfl,?_⟩) hS ?_
 rotate_left
 ·intro w' hS'
  simp only[Rws]at hS'
  go_simp
  refine⟨?_,Below.refl _ _⟩
  rfl
 (try simp only[Act.put,List.setIfInBounds_toArray,List.set_cons_zero,List.set_cons_succ])
 refine kp 12 hS ?_
 refine bE (k:=13) cD rfl rfl kr_ (fun u hu=>?_)
 have zu:=hu.size
 have rSu:=(aA hu (by simpa using zS)).trans hS0
 obtain⟨y2,hy2⟩:∃x,u.setRow S (u8v s.id++(Value.int .i64 s.ma::Value.int .i64 s.he::Value.int .i64 s.de::Value.slice s.pa n s.cap::(u8v s.id++(Value.int .i64 0::(u8v s.id++[Value.int .i64 0,Value.int .i64 (-1),Value.int .i64 s.now,Value.int .i64 0]))))).toArray=x:=⟨_,rfl⟩
 have r2:row y2 S=(u8v s.id++(Value.int .i64 s.ma::Value.int .i64 s.he::Value.int .i64 s.de::Value.slice s.pa n s.cap::(u8v s.id++(Value.int .i64 0::(u8v s.id++[Value.int .i64 0,Value.int .i64 (-1),Value.int .i64 s.now,Value.int .i64 0]))))).toArray:=by rw[<-hy2];exact aB (by rw[rSu];simp) (by rw[rSu];simp)
 have b2:BelowBut w.heap.size S w y2:=by rw[<-hy2];exact(BelowBut.of (aL (Below.drew (Below.refl _ _)) hu)).trans (BelowBut.set _ _)
 refine⟨y2,?_,trivial,fun hS=>?_⟩
 ·rw[<-hy2]
  go_simp
  try exact hy2
 refine qp 14 hS ?_
 refine qp 15 hS ?_
 refine bI (i:=16) (b:=S) (c:=((u8v s.id++(Value.int .i64 s.ma::Value.int .i64 s.he::Value.int .i64 s.de::Value.slice s.pa n s.cap::(u8v s.id++(Value.int .i64 0::(u8v s.id++[Value.int .i64 0,Value.int .i64 (-1),Value.int .i64 s.now,Value.int .i64 0])))))).toArray) cD rfl rfl kr_ (by simp;(try omega)) hS (by rw[r2];simp;(try omega)) (fun w1 hr=>by rw[r2]at hr;go_simp;(try rfl)) (fun u3 hu3 ru3 hS=>?_)
 refine aG kr_ (fun w4 b4=>?_) _
 have z3:=hu3.size
 have z4:=b4.size
 rw[setRow_size]at z4
 obtain⟨y5,hy5⟩:∃x,u3.setRow S (row y2 S)=x:=⟨_,rfl⟩
 have rS4:row w4 S=row y2 S:=by
  rw[aA b4 (by rw[setRow_size];have:=b2.size;omega)]
  exact(aB (by rw[ru3,r2];simp) (by rw[ru3,r2])).trans r2.symm
 have B4:BelowBut w.heap.size S w w4:=b2.trans ⟨by rw[b4.os];exact hu3.os,by rw[b4.tape];exact hu3.tape,by rw[b4.output];exact hu3.output,by omega,fun k hk hne=>by
  have:=b2.size
  rw[b4.block k (by rw[setRow_size];omega),aO _ _ _ hne,hu3.block k (by omega)]⟩
 clear hS hu hu3 b4 b2 hy2 ru3 rSu
 have T4:SpT w4 B S s.found:=⟨HH.out.lo,by rw[rS4,r2,<-HN.out];rfl,HH.out.own.keep fun k hk=>B4.block k (HH.out.own.blk hk).2.1 (fun e=>HH.out.sep (e▸hk)),HH.out.sep,fun p hp=>by
  obtain⟨h1,h2,c,hc⟩:=HH.out.rows p hp
  exact⟨h1,h2,c,(B4.row (HH.out.ltp p hp) h2).trans hc⟩⟩
 have rS5:=rS4.trans r2
 have HT:=h_ T4
 have HB:=h_ B4
 clear T4 rS4 r2 B4 HH hS0
 go_wp2_with fail
 go_loopw [25] (fun i wr=>∃k:Nat,k<=n/\i=.int .i64 k/\wr=w4) (fun i _=>n - (intOf i).toNat)
 case atStart=>exact⟨0,by omega,rfl,rfl⟩
 case round=>
  obtain⟨k,hk,rfl,rfl⟩:=hrel
  by_cases hlt:k<n
  ·have hltI:(k:Int)<(n:Int):=by omega
   obtain⟨b,off,c,p,hpa,hb,hc,hr,_⟩:=HT.out.get (show k<s.found.ps.length by rw[<-HN.out]at hlt;exact hlt)
   have hpa2:s.pa=some ⟨b,off,none⟩:=hpa
   rw[hpa2]at rS5 ⊢
   unfold jM at hr
   clear hpa hpa2
   go_wp2_with fail
   go_roundw
   case rel=>exact⟨k+1,by omega,by simp,by first | rfl | trivial⟩
   case measure=>simp[intOf];omega
  ·obtain rfl:k=n:=by omega
   have hltI:¬(k:Int)<(k:Int):=by omega
   go_wp2_with fail
   go_end0
   exact⟨rfl,HT.out,HB.out⟩
theorem wZ (h:SpT w B S s) (hn:s.ps.length<=32):
  Calls Tryz.prog 42 #[.pointer (some ⟨S,0,none⟩)] w fun e w'=>(∃v,e=.returned v)/\SpT w' B S s.found/\BelowBut w.heap.size S w w':=by
 have zS:=h.lt
 have hS0:=h.rS
 unfold SpD.cells at hS0
 obtain⟨n,hne⟩:∃n,s.ps.length=n:=⟨_,rfl⟩
 rw[hne]at hS0 hn
 have HH:=h_ h
 have HN:=h_ hne
 clear h hne
 have hG:GrowP fun _=>True:=aAU
 go_enter Tryz.func42,Tryz.ntmps42
 go_wp2_with fail
 refine nV [(S,(u8v s.id++(Value.int .i64 s.ma::Value.int .i64 s.he::Value.int .i64 s.de::Value.slice s.pa n s.cap::(u8v s.b1++(Value.int .i64 s.bc::(u8v s.b2++[Value.int .i64 s.bp,Value.int .i64 (-1),Value.int .i64 s.now,Value.int .i64 0]))))).toArray)] (fun _=>True) hG (trivial) (fun hS=>?_)
 refine sp 0 hG hS ?_
 refine sp 1 hG hS ?_
 refine sp 2 hG hS ?_
 refine sp 3 hG hS ?_
 refine sp 4 hG hS ?_
 refine sp 5 hG hS ?_
 refine sp 6 hG hS ?_
 refine sp 7 hG hS ?_
 refine i8 (XS.grow hG) (i:=8) (k:=9) (zi:=((aH 8 (Value.int .u8 0)++(Value.int .i64 0::(aH 8 (Value.int .u8 0)++[Value.int .i64 0])))).toArray) (cA:=((u8v s.b1++(Value.int .i64 s.bc::(u8v s.b2++[Value.int .i64 s.bp])))).toArray) cD cD ⟨rfl,rfl,fun a w=>by go_simp;(refine⟨?_,?_⟩<;>rfl)⟩ kr_ kr_ rfl rfl (by simp[*]) (by simp) (fun A w1 hr=>by
  simp only[Act.put,List.setIfInBounds_toArray,List.set_cons_zero,List.set_cons_succ,ptr]
  go_simp
  try rfl) hS (fun X w2 gX zX bw2 rX hS=>?_)
 (try simp only[Act.put,List.setIfInBounds_toArray,List.set_cons_zero,List.set_cons_succ])
 simp only[ptr]
 refine sp 10 hG hS ?_
 refine aG kr_ (fun w3 bw3=>?_) _
 have z3:=bw3.size
 have z2:=bw2.size
 have b03:Below w.heap.size w w3:=(aL (Below.drew (Below.refl _ _)) bw2).trans (bw3.mono (by have:w.heap.size<=w2.heap.size:=z2;omega))
 have rX3:=(aA bw3 zX).trans rX
 have gX':w.heap.size<=X:=gX
 have T3:=HH.out.below b03
 have hzX:X<w3.heap.size:=by omega
 have HB:=h_ b03
 clear hS bw2 bw3 rX gX zX hS0
 go_wp2_with fail
 refine(aCs _ T3 (by rw[HN.out];exact hn)).mono ?_
 rintro e w4 ⟨rfl,T4,b4⟩
 have z4:=b4.size
 have rX4:=(b4.row hzX (by omega)).trans rX3
 have hS4:=T4.rS
 unfold SpD.cells SpD.found at hS4
 dsimp only at hS4
 rw[HN.out]at hS4
 have B4:=(BelowBut.of (S:=S) HB.out).trans (b4.mono (by have:=HB.out.size;omega))
 have HT:=h_ T4
 have HB4:=h_ B4
 clear HB T3 T4 b4 B4 rX3 HH
 go_wp2_with fail
 refine nV [(S,(u8v s.id++(Value.int .i64 s.ma::Value.int .i64 s.he::Value.int .i64 s.de::Value.slice s.pa n s.cap::(u8v s.id++(Value.int .i64 0::(u8v s.id++[Value.int .i64 0,Value.int .i64 (-1),Value.int .i64 s.now,Value.int .i64 0]))))).toArray),(X,(u8v s.b1++(Value.int .i64 s.bc::(u8v s.b2++[Value.int .i64 s.bp]))).toArray)] (fun _=>True) hG (trivial) (fun hS=>?_)
 refine sp 0 hG hS ?_
 refine sp 1 hG hS ?_
 refine sp 2 hG hS ?_
 refine sp 3 hG hS ?_
 refine sp 4 hG hS ?_
 refine sp 5 hG hS ?_
 refine sp 6 hG hS ?_
 generalize (!s.b1==s.id||(!s.bc==0||(!s.b2==s.id|| !s.bp==0)))=bb
 have hgo:∃q:Bool,True:=⟨true,trivial⟩
 cases bb with
 | true=>
  refine sn 7 hG hS ?_
  refine sn 8 hG hS ?_
  refine sn 9 hG hS ?_
  refine sn 10 hG hS ?_
  refine sn 11 hG hS ?_
  refine sn 12 hG hS ?_
  refine sp 13 hG hS ?_
  refine sp 14 hG hS ?_
  refine aG kr_ (fun w5 bw5=>?_) _
  have b45:=aL (Below.drew (Below.refl _ _)) bw5
  have T5:=HT.out.below b45
  have B5:=HB4.out.trans ((BelowBut.of b45).mono (by have:=HB4.out.size;omega))
  have hS5:=T5.rS
  unfold SpD.cells SpD.found at hS5
  dsimp only at hS5
  rw[HN.out]at hS5
  have HT5:=h_ T5
  have HB5:=h_ B5
  clear hS bw5 b45 T5 B5 HT HB4 hS4 rX4
  go_wp2_with fail
  go_loopw [5,39] (fun b i wr=>∃(k:Nat) (c:Bool),k<=n/\i=.int .i64 k/\b=.bool c/\wr=w5) (fun _ i _=>n - (intOf i).toNat)
  case atStart=>exact⟨0,_,by omega,rfl,rfl,rfl⟩
  case round=>
   obtain⟨k,c,hk,rfl,rfl,rfl⟩:=hrel
   by_cases hlt:k<n
   ·have hltI:(k:Int)<(n:Int):=by omega
    have hkf:k<s.found.ps.length:=by rw[<-HN.out]at hlt;exact hlt
    obtain⟨b,off,co,p,hpa,hb,hc,hr,_⟩:=HT5.out.get hkf
    have HR:=h_ (aAX wr HT5.out k hkf (by show s.ps.length<=32;rw[HN.out];exact hn))
    have hpa2:s.pa=some ⟨b,off,none⟩:=hpa
    rw[hpa2]at hS5 ⊢
    unfold jM at hr
    have hsame:=fA hr (by simp)
    clear hpa hpa2 hkf
    go_wp2_with fail
    refine HR.out.mono ?_
    rintro e w6 ⟨rfl,rfl⟩
    cases c with
    | true=>
     go_wp2_with fail
     go_roundw
     case rel=>exact⟨k+1,_,by omega,by simp,rfl,by first | rfl | trivial⟩
     case measure=>simp[intOf];omega
    | false=>
     go_wp2_with fail
     go_roundw
     case rel=>exact⟨k+1,_,by omega,by simp,rfl,by first | rfl | trivial⟩
     case measure=>simp[intOf];omega
   ·obtain rfl:k=n:=by omega
    have hltI:¬(k:Int)<(k:Int):=by omega
    go_wp2_with fail
    go_ret
    exact⟨⟨_,rfl⟩,HT5.out,HB5.out⟩
 | false=>
  refine sp 7 hG hS ?_
  refine sp 8 hG hS ?_
  refine sp 9 hG hS ?_
  refine sp 10 hG hS ?_
  refine sp 11 hG hS ?_
  refine sp 12 hG hS ?_
  refine sp 13 hG hS ?_
  refine sp 14 hG hS ?_
  refine aG kr_ (fun w5 bw5=>?_) _
  have b45:=aL (Below.drew (Below.refl _ _)) bw5
  have T5:=HT.out.below b45
  have B5:=HB4.out.trans ((BelowBut.of b45).mono (by have:=HB4.out.size;omega))
  have hS5:=T5.rS
  unfold SpD.cells SpD.found at hS5
  dsimp only at hS5
  rw[HN.out]at hS5
  have HT5:=h_ T5
  have HB5:=h_ B5
  clear hS bw5 b45 T5 B5 HT HB4 hS4 rX4
  go_wp2_with fail
  go_loopw [5,39] (fun b i wr=>∃(k:Nat) (c:Bool),k<=n/\i=.int .i64 k/\b=.bool c/\wr=w5) (fun _ i _=>n - (intOf i).toNat)
  case atStart=>exact⟨0,_,by omega,rfl,rfl,rfl⟩
  case round=>
   obtain⟨k,c,hk,rfl,rfl,rfl⟩:=hrel
   by_cases hlt:k<n
   ·have hltI:(k:Int)<(n:Int):=by omega
    have hkf:k<s.found.ps.length:=by rw[<-HN.out]at hlt;exact hlt
    obtain⟨b,off,co,p,hpa,hb,hc,hr,_⟩:=HT5.out.get hkf
    have HR:=h_ (aAX wr HT5.out k hkf (by show s.ps.length<=32;rw[HN.out];exact hn))
    have hpa2:s.pa=some ⟨b,off,none⟩:=hpa
    rw[hpa2]at hS5 ⊢
    unfold jM at hr
    have hsame:=fA hr (by simp)
    clear hpa hpa2 hkf
    go_wp2_with fail
    refine HR.out.mono ?_
    rintro e w6 ⟨rfl,rfl⟩
    cases c with
    | true=>
     go_wp2_with fail
     go_roundw
     case rel=>exact⟨k+1,_,by omega,by simp,rfl,by first | rfl | trivial⟩
     case measure=>simp[intOf];omega
    | false=>
     go_wp2_with fail
     go_roundw
     case rel=>exact⟨k+1,_,by omega,by simp,rfl,by first | rfl | trivial⟩
     case measure=>simp[intOf];omega
   ·obtain rfl:k=n:=by omega
    have hltI:¬(k:Int)<(k:Int):=by omega
    go_wp2_with fail
    go_ret
    exact⟨⟨_,rfl⟩,HT5.out,HB5.out⟩
end
end
end Go.Proofs.YtiagbbknkdgmeaaGreat
