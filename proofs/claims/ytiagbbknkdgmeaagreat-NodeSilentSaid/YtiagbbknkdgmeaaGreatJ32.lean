/- Texts of this proof, merged: PolO, PolA, PolT, PolR, PolS. -/
import Derived.Test.YtiagbbknkdgmeaaGreatJ30
set_option linter.unusedSimpArgs false
set_option linter.unusedVariables false
set_option maxHeartbeats 8000000
set_option maxRecDepth 20000
namespace Go.Proofs.YtiagbbknkdgmeaaGreat
section
open Go.RowKit
def iZ (l:List Nat):List Value:=l.map fun n:Nat=>Value.int .u64 (n:Int)
@[simp] theorem aKI (l : List Nat) : (iZ l).length = l.length := by simp [iZ]
@[simp] theorem aL4 (l : List Nat) : eC (iZ l) = true := by simp [eC, iZ, Value.oneCell']
@[simp] theorem aMO (l : List Nat) (i : Nat) (h : i < (iZ l).length) : (iZ l)[i] = .int .u64 ((l[i]'(by simpa using h) : Nat) : Int) := by simp [iZ]
@[simp] theorem aMP (l : List Nat) (i : Nat) (v : Nat) : (iZ l).set i (.int .u64 (v : Int)) = iZ (l.set i v) := by simp [iZ, List.map_set]
theorem cO (l:List Nat) (i:Nat) (h:i<l.length):l.getD i 0=l[i]:=by simp[List.getD_eq_getElem?_getD,h]
def wG (t:List UInt8) (j:Nat):Nat:=leN ((t.drop (8*j)).take 8)
def ofM (t:List UInt8) (k:Nat):List Nat:=(List.range 3).map fun j=>if j<k then wG t j else 0
theorem xZ (t:List UInt8) (k:Nat):(ofM t k).length=3:=by simp[ofM]
theorem aD7 (t:List UInt8) (k:Nat):ofM t (k+1)=(ofM t k).set k (wG t k):=by
 apply List.ext_getElem (by simp[ofM])
 intro i h1 h2
 rw[List.getElem_set]
 simp only[ofM,List.getElem_map,List.getElem_range]
 by_cases e:k=i
 ·subst e;simp
 ·rw[if_neg e]
  by_cases h:i<k
  ·rw[if_pos (by omega),if_pos h]
  ·rw[if_neg (by omega),if_neg h]
theorem aJe (t:List UInt8) (k:Nat) (h:t.length<=8*k):ofM t (k+1)=ofM t k:=by
 apply List.ext_getElem (by simp[ofM])
 intro i h1 h2
 simp only[ofM,List.getElem_map,List.getElem_range]
 by_cases e:i=k
 ·subst e
  rw[if_pos (by omega),if_neg (by omega),wG,List.drop_of_length_le h]
  rfl
 ·by_cases h:i<k
  ·rw[if_pos (by omega),if_pos h]
  ·rw[if_neg (by omega),if_neg h]
def ofN (s:List UInt8):Num:=⟨wG (s++[1]) 0,wG (s++[1]) 1,wG (s++[1]) 2⟩
theorem aAo (t:List UInt8) (j:Nat):fG (wG t j):=oI _ (by simp;omega)
theorem aL5 (s:List UInt8):(ofN s).lt:=⟨aAo _ _,aAo _ _,aAo _ _⟩
attribute [local irreducible] ofM wG
theorem aKJ (s:List UInt8) (w:World) (hs:s.length<=16):
  Calls Tryz.prog 210 #[.string ⟨s.toArray⟩] w fun e w'=>e=.returned (.agg (ofN s).cells.toArray)/\Below w.heap.size w w':=by
 obtain⟨t,ht⟩:∃t,s++[1]=t:=⟨_,rfl⟩
 have htl:t.length<=17:=by rw[<-ht];simp;omega
 have hres:(ofN s).cells=iZ (ofM t 3):=by rw[<-ht];unfold ofM;rfl
 rw[hres]
 have h3:=xZ t
 go_enter Tryz.func210,Tryz.ntmps210
 have HT:=h_ ht
 clear hres
 go_wp2_with fail
 (try simp only[ht])
 clear ht
 go_loopw [7] (fun i wr=>∃k:Nat,k<=3/\i=.int .i64 k/\row wr (w.heap.size+1)=(iZ (ofM t k)).toArray/\row wr w.heap.size=(aH 3 (Value.int .u64 0)).toArray/\w.heap.size+1<wr.heap.size/\Below w.heap.size w wr) (fun i _=>3 - (intOf i).toNat)
 case atStart=>
  refine⟨0,by omega,rfl,?_,by simp[go_sem],by simp,eD⟩
  rw[aE _ _ _ (by simp)]
  unfold ofM
  rfl
 case round=>
  obtain⟨k,hk,rfl,hV,hR,hz,hbel⟩:=hrel
  obtain⟨L,hL⟩:∃L,ofM t k=L:=⟨_,rfl⟩
  have hLl:L.length=3:=by rw[<-hL];exact xZ _ _
  rw[hL]at hV
  have HL:=h_ hL
  clear hL h3
  by_cases hlt:k<3
  ·have h1:(k:Int)<3:=by omega
   have hk1:k<L.length:=by omega
   by_cases hc:8*k<t.length
   ·have hc1:(8:Int)*(k:Int)<t.length:=by omega
    have hpw:=fun w=>kW ((t.drop (8*k)).take 8) w (by simp;omega)
    obtain⟨x,hx⟩:∃x,leN ((t.drop (8*k)).take 8)=x:=⟨_,rfl⟩
    rw[hx]at hpw
    have HX:=h_ (show wG t k=x by unfold wG;exact hx)
    clear hx
    by_cases hf:8*k+8<=t.length
    ·have hf1:¬(t.length:Int)<8*(k:Int)+8:=by omega
     have hf2:(8:Int)*(k:Int)+8<=t.length:=by omega
     have KP:=h_ hpw
     clear hpw
     go_wp2_with fail
     rw[show List.take ((min (8*(k:Int)+8) (t.length:Int)).toNat - 8*k) (List.drop (8*k) t)=(t.drop (8*k)).take 8 from by rw[List.take_eq_take_iff];simp;omega]
     (with_reducible refine(KP.out _).mono ?_)
     rintro e w1 ⟨rfl,b1⟩
     have z1:=b1.size
     have hV1:=(aA b1 (by omega)).trans hV
     have hR1:=(aA b1 (by omega)).trans hR
     clear KP
     go_wp2_with fail
     go_roundw
     case rel=>
      refine⟨k+1,by omega,rfl,?_,by(try show row (World.setRow _ _ _) _=_);rw[aC _ _ _ (by omega)];exact hR1,by simp;omega,Below.setRow (Below.trans hbel (b1.mono (by omega))) (by omega) _⟩
      rw[aD7,HL.out,HX.out]
      exact aB (by rw[hV1];simp;omega) (by rw[hV1];simp)
     case measure=>simp[intOf];omega
    ·have hf1:(t.length:Int)<8*(k:Int)+8:=by omega
     have KP:=h_ hpw
     clear hpw
     go_wp2_with fail
     rw[show List.take ((min (8*(k:Int)+8) (t.length:Int)).toNat - 8*k) (List.drop (8*k) t)=(t.drop (8*k)).take 8 from by rw[List.take_eq_take_iff];simp;omega]
     (with_reducible refine(KP.out _).mono ?_)
     rintro e w1 ⟨rfl,b1⟩
     have z1:=b1.size
     have hV1:=(aA b1 (by omega)).trans hV
     have hR1:=(aA b1 (by omega)).trans hR
     clear KP
     go_wp2_with fail
     go_roundw
     case rel=>
      refine⟨k+1,by omega,rfl,?_,by(try show row (World.setRow _ _ _) _=_);rw[aC _ _ _ (by omega)];exact hR1,by simp;omega,Below.setRow (Below.trans hbel (b1.mono (by omega))) (by omega) _⟩
      rw[aD7,HL.out,HX.out]
      exact aB (by rw[hV1];simp;omega) (by rw[hV1];simp)
     case measure=>simp[intOf];omega
   ·have hc1:¬(8:Int)*(k:Int)<t.length:=by omega
    go_wp2_with fail
    go_roundw
    case rel=>
     refine⟨k+1,by omega,rfl,?_,hR,hz,hbel⟩
     rw[aJe t k (by omega),HL.out]
     exact hV
    case measure=>simp[intOf];omega
  ·obtain rfl:k=3:=by omega
   rw[show((3:Nat):Int)=3 from rfl]
   have e:L=ofM t 3:=HL.out.symm
   rw[e]at hV hLl
   go_wp2_with fail
   have hfin:=aB (w:=wr) (g:=w.heap.size) (c:=(iZ (ofM t 3)).toArray) (by rw[hR];simp) (by rw[hR];simp[hLl])
   (try simp only[Exit.inBlock,Exit.then])
   refine bodyPost_ret (aV rfl (aK rfl ?_)) rfl ?_
   ·rw[hfin]
    simp[hLl]
   refine⟨by rw[hfin],?_⟩
   exact Below.setRow hbel (by omega) _
end
section
open Go.RowKit
def jV (l:List Nat):Prop:=∀i,fG (l.getD i 0)
theorem aBP {l:List Nat} (h:jV l) (i v:Nat) (hv:fG v):jV (l.set i v):=by
 intro j
 have:=h j
 simp only[List.getD_eq_getElem?_getD,List.getElem?_set]at *
 split
 ·split
  ·exact hv
  ·show fG 0
   unfold fG;decide
 ·exact this
structure AdS where
 t:List Nat
 h:Nat
 c:Nat
def AdS.step (i:Nat) (s:AdS):AdS:=⟨s.t.set i ((s.t.getD i 0+s.h+s.c)%18446744073709551616),0,(s.t.getD i 0+s.h+s.c) / 18446744073709551616⟩
def AdS.ok (s:AdS):Prop:=s.t.length=4/\jV s.t/\fG s.h/\s.c<=1
theorem AdS.step_ok (i:Nat) (s:AdS) (h:s.ok):(s.step i).ok:=by
 obtain⟨h1,h2,h3,h4⟩:=h
 exact⟨by simpa[AdS.step]using h1,aBP h2 _ _ (jT _),by show fG 0;unfold fG;decide,sY _ _ _ (h2 i) h3 h4⟩
def m5 (t:List Nat) (at_ x y:Nat):AdS:=
 ⟨t.set at_ ((t.getD at_ 0+x*y%18446744073709551616)%18446744073709551616),x*y / 18446744073709551616,(t.getD at_ 0+x*y%18446744073709551616) / 18446744073709551616⟩
def aJP (t:List Nat) (at_ x y:Nat):List Nat:=(aU (fun k s=>AdS.step (at_+1+k) s) (3 - at_) (m5 t at_ x y)).t
theorem aNr (x y:Nat) (hx:fG x) (hy:fG y):fG (x*y / 18446744073709551616):=by
 unfold fG at *
 have:=Nat.mul_lt_mul'' hx hy
 rw[Nat.div_lt_iff_lt_mul (by decide)]
 exact this
theorem x8 (t:List Nat) (at_ x y:Nat) (ht:t.length=4) (ha:jV t) (hx:fG x) (hy:fG y):(m5 t at_ x y).ok:=
 ⟨by simpa[m5]using ht,aBP ha _ _ (jT _),aNr x y hx hy,by have:=sY (t.getD at_ 0) (x*y%18446744073709551616) 0 (ha _) (jT _) (by omega);simpa[m5]using this⟩
theorem aHp (at_:Nat) (s:AdS) (h:s.ok) (k:Nat):(aU (fun k s=>AdS.step (at_+1+k) s) k s).ok:=by
 induction k with
 | zero=>exact h
 | succ k ih=>exact AdS.step_ok _ _ ih
theorem aKK (t:List Nat) (at_ x y:Nat) (ht:t.length=4) (ha:jV t) (hx:fG x) (hy:fG y):(aJP t at_ x y).length=4/\jV (aJP t at_ x y):=
 have h:=aHp at_ _ (x8 t at_ x y ht ha hx hy) (3 - at_)
 ⟨h.1,h.2.1⟩
attribute [local irreducible] aU
theorem aKL (t:List Nat) (at_ x y T:Nat) (w:World) (ht:t.length=4) (ha:jV t) (hat:at_<4) (hx:fG x) (hy:fG y) (hT:row w T=(iZ t).toArray):
  Calls Tryz.prog 228 #[.pointer (some ⟨T,0,none⟩),.int .i64 at_,.int .u64 x,.int .u64 y] w fun e w'=>e=.returned (.tuple #[])/\row w' T=(iZ (aJP t at_ x y)).toArray/\BelowBut w.heap.size T w w':=by
 have zT:T<w.heap.size:=aM (i:=0) (by rw[hT];simp;omega)
 have hb0:=x8 t at_ x y ht ha hx hy
 have hres:aJP t at_ x y=(aU (fun k s=>AdS.step (at_+1+k) s) (3 - at_) (m5 t at_ x y)).t:=rfl
 have hmul:=fun w=>Tryz.bits_Mul64 x y (by have:=hx;unfold fG at this;exact this) (by have:=hy;unfold fG at this;exact this) w
 have hadd:=pH (t.getD at_ 0) (x*y%18446744073709551616)
 have kat:at_<t.length:=by omega
 rw[cO _ _ kat]at hadd
 have hbeg:m5 t at_ x y=⟨t.set at_ ((t[at_]+x*y%18446744073709551616)%18446744073709551616),x*y / 18446744073709551616,(t[at_]+x*y%18446744073709551616) / 18446744073709551616⟩:=by
  rw[m5,cO _ _ kat]
 rw[hres]
 rw[hbeg]at hb0 ⊢
 clear hbeg hres
 obtain⟨lo,hlo⟩:∃n,x*y%18446744073709551616=n:=⟨_,rfl⟩
 obtain⟨hi,hhi⟩:∃n,x*y / 18446744073709551616=n:=⟨_,rfl⟩
 simp only[hlo,hhi]at hmul hadd hb0 ⊢
 obtain⟨s,hs⟩:∃n,(t[at_]+lo)%18446744073709551616=n:=⟨_,rfl⟩
 obtain⟨c,hc⟩:∃n,(t[at_]+lo) / 18446744073709551616=n:=⟨_,rfl⟩
 simp only[hs,hc]at hadd hb0 ⊢
 clear hlo hhi hs hc
 have KM:=h_ hmul
 clear hmul
 have hat1:(at_:Int)<4:=by omega
 have hHb:=h_ hb0
 clear hb0
 go_enter Tryz.func228,Tryz.ntmps228
 go_wp2_with fail
 (with_reducible refine(KM.out _).mono ?_)
 rintro e w1 ⟨rfl,hw1⟩
 rw[hw1]
 clear hw1 w1
 go_wp2_with fail
 refine aF6 14 [(T,(iZ t).toArray)] [] (fun hS=>?_)
 refine kp 0 hS ?_
 refine kp 1 hS ?_
 refine kp 2 hS ?_
 refine kp 3 hS ?_
 refine kp 4 hS ?_
 refine kp 5 hS ?_
 refine kp 6 hS ?_
 refine kp 7 hS ?_
 refine kp 8 hS ?_
 refine kp 9 hS ?_
 refine kp 10 hS ?_
 refine bP (i:=11) (v:=?_) cD kr_ kr_ kr_ (by decide) (by first | exact fun _ _ _ h=>h | exact fun _ _ _ h=>by cases h.1) (Rws.grow _) (Rws.grow _) (by intro w h;simp only[Rws]at h ⊢;(try simp only[h,and_self])) (Or.inl ⟨by rfl,?_⟩) hS ?_
 rotate_left
 ·intro w' hS'
  simp only[Rws]at hS'
  go_simp
  refine⟨?_,Below.refl _ _⟩
  rfl
 (try simp only[Act.put,List.setIfInBounds_toArray,List.set_cons_zero,List.set_cons_succ])
 refine bP (i:=12) (v:=?_) cD kr_ kr_ kr_ (by decide) (by first | exact fun _ _ _ h=>h | exact fun _ _ _ h=>by cases h.1) (Rws.grow _) (Rws.grow _) (by intro w h;simp only[Rws]at h ⊢;(try simp only[h,and_self])) (Or.inl ⟨by rfl,?_⟩) hS ?_
 rotate_left
 ·intro w' hS'
  simp only[Rws]at hS'
  go_simp
  refine⟨?_,Below.refl _ _⟩
  rfl
 (try simp only[Act.put,List.setIfInBounds_toArray,List.set_cons_zero,List.set_cons_succ])
 refine kp 13 hS ?_
 refine bE (k:=14) cD rfl rfl kr_ (fun u1 hu1=>?_)
 have r1:row u1 T=(iZ t).toArray:=by rw[aA hu1 zT];exact hT
 have zu:w.heap.size<=u1.heap.size:=hu1.size
 have hb1:Below w.heap.size w u1:=Below.trans (Below.drew (Below.refl _ _)) (hu1.mono (Nat.le_refl _))
 clear hS hu1 hadd
 refine⟨u1.setRow T (iZ (t.set at_ s)).toArray,by go_simp,trivial,fun hS=>?_⟩
 refine qp 15 hS ?_
 refine aG kr_ (fun w2 h2=>?_) _
 have r2:row w2 T=(iZ (t.set at_ s)).toArray:=by
  rw[aA h2 (by simp;omega)]
  exact aB (by rw[r1];simp;omega) (by rw[r1];simp)
 have c2:BelowBut w.heap.size T w w2:=(BelowBut.of hb1).trans ((BelowBut.set _ _).trans (BelowBut.of (h2.mono (by simp;omega))))
 have z2:=c2.size
 clear hS h2 r1 hb1 zu
 go_wp2_with fail
 go_loopw [8,10,11] (fun vh vc i wr=>∃(k:Nat) (q:AdS),k<=3 - at_/\aU (fun k s=>AdS.step (at_+1+k) s) k ⟨t.set at_ s,hi,c⟩=q/\vh=.int .u64 q.h/\vc=.int .u64 q.c/\i=.int .i64 ((at_:Int)+1+(k:Int))/\row wr T=(iZ q.t).toArray/\w.heap.size<=wr.heap.size/\BelowBut w.heap.size T w wr) (fun _ _ i _=>4 - (intOf i).toNat)
 case atStart=>exact⟨0,_,by omega,by rw[aU],rfl,rfl,by simp,r2,z2,c2⟩
 case round=>
  clear r2 c2 z2
  obtain⟨k,q,hk,hq,rfl,rfl,rfl,rT,zr,cr⟩:=hrel
  have hqo:=aHp at_ _ hHb.out k
  rw[hq]at hqo
  have HQ:=h_ hq
  clear hq
  obtain⟨qt,qh,qc⟩:=q
  obtain⟨o1,o2,o3,o4⟩:=hqo
  simp only at o1 o2 o3 o4 rT
  by_cases hlt:k<3 - at_
  ·obtain⟨n,hn⟩:∃n,at_+1+k=n:=⟨_,rfl⟩
   have en:(at_:Int)+1+(k:Int)=(n:Int):=by omega
   have hn1:(n:Int)<4:=by omega
   have hn2:n<4:=by omega
   have kn:n<qt.length:=by omega
   have hadd:=oH (qt.getD n 0) qh qc o4
   rw[cO _ _ kn]at hadd
   have hstep:AdS.step n ⟨qt,qh,qc⟩=⟨qt.set n ((qt[n]+qh+qc)%18446744073709551616),0,(qt[n]+qh+qc) / 18446744073709551616⟩:=by
    rw[AdS.step,cO _ _ kn]
   obtain⟨s',hs⟩:∃m,(qt[n]+qh+qc)%18446744073709551616=m:=⟨_,rfl⟩
   obtain⟨c',hc⟩:∃m,(qt[n]+qh+qc) / 18446744073709551616=m:=⟨_,rfl⟩
   rw[hs,hc]at hstep
   simp only[hs,hc]at hadd
   have HN:=h_ hn
   have HS:=h_ hstep
   clear hs hc hn hstep o2 o3 o4
   have zTr:T<wr.heap.size:=by omega
   go_wp2_with fail
   refine aF6 15 [(T,(iZ qt).toArray)] [] (fun hS=>?_)
   refine kp 0 hS ?_
   refine kp 1 hS ?_
   refine kp 2 hS ?_
   refine kp 3 hS ?_
   refine kp 4 hS ?_
   refine kp 5 hS ?_
   refine kp 6 hS ?_
   refine kp 7 hS ?_
   refine kp 8 hS ?_
   refine kp 9 hS ?_
   refine kp 10 hS ?_
   refine kp 11 hS ?_
   refine bP (i:=12) (v:=?_) cD kr_ kr_ kr_ (by decide) (by first | exact fun _ _ _ h=>h | exact fun _ _ _ h=>by cases h.1) (Rws.grow _) (Rws.grow _) (by intro w h;simp only[Rws]at h ⊢;(try simp only[h,and_self])) (Or.inl ⟨by rfl,?_⟩) hS ?_
   rotate_left
   ·intro w' hS'
    simp only[Rws]at hS'
    go_simp
    refine⟨?_,Below.refl _ _⟩
    rfl
   (try simp only[Act.put,List.setIfInBounds_toArray,List.set_cons_zero,List.set_cons_succ])
   refine bP (i:=13) (v:=?_) cD kr_ kr_ kr_ (by decide) (by first | exact fun _ _ _ h=>h | exact fun _ _ _ h=>by cases h.1) (Rws.grow _) (Rws.grow _) (by intro w h;simp only[Rws]at h ⊢;(try simp only[h,and_self])) (Or.inl ⟨by rfl,?_⟩) hS ?_
   rotate_left
   ·intro w' hS'
    simp only[Rws]at hS'
    go_simp
    refine⟨?_,Below.refl _ _⟩
    rfl
   (try simp only[Act.put,List.setIfInBounds_toArray,List.set_cons_zero,List.set_cons_succ])
   refine kp 14 hS ?_
   refine bE (k:=15) cD rfl rfl kr_ (fun u1 hu1=>?_)
   have r1:row u1 T=(iZ qt).toArray:=by rw[aA hu1 zTr];exact rT
   have zu:wr.heap.size<=u1.heap.size:=hu1.size
   have hb1:Below wr.heap.size wr u1:=Below.trans (Below.drew (Below.refl _ _)) (hu1.mono (Nat.le_refl _))
   clear hS hu1 hadd
   refine⟨u1.setRow T (iZ (qt.set n s')).toArray,by go_simp,trivial,fun hS=>?_⟩
   refine qp 16 hS ?_
   refine aG kr_ (fun w2 h2=>?_) _
   have r2:row w2 T=(iZ (qt.set n s')).toArray:=by
    rw[aA h2 (by simp;omega)]
    exact aB (by rw[r1];simp;omega) (by rw[r1];simp)
   have c2:BelowBut wr.heap.size T wr w2:=(BelowBut.of hb1).trans ((BelowBut.set _ _).trans (BelowBut.of (h2.mono (by simp;omega))))
   have z2:=c2.size
   clear hS h2 r1 hb1 zu
   go_wp2_with fail
   go_roundw
   case rel=>
    refine⟨k+1,⟨qt.set n s',0,c'⟩,by omega,?_,rfl,rfl,?_,r2,by omega,cr.trans (c2.mono zr)⟩
    ·rw[aU,HQ.out,HN.out];exact HS.out
    ·have:=HN.out
     congr 1
     omega
   case measure=>have:=HN.out;simp[intOf];omega
  ·obtain rfl:k=3 - at_:=by omega
   have e4:(at_:Int)+1+((3 - at_:Nat):Int)=4:=by omega
   rw[e4]
   clear e4
   go_wp2_with fail
   go_end0
   exact⟨rfl,by rw[HQ.out];exact rT,cr⟩
end
section
open Go.RowKit
def Num.list (x:Num):List Nat:=[x.a,x.b,x.c]
theorem Num.cells_eq (x:Num):x.cells=iZ x.list:=rfl
def aMQ (x r:List Nat) (i:Nat) (t:List Nat):List Nat:=aU (fun j t=>aJP t (i+j) (x.getD i 0) (r.getD j 0)) 2 t
def aJf (x r:List Nat):List Nat:=aU (aMQ x r) 3 [0,0,0,0]
def aL6 (t:List Nat):Num:=⟨t.getD 0 0,t.getD 1 0,t.getD 2 0%4⟩
def aHq (t:List Nat):Num:=⟨t.getD 2 0 / 4+t.getD 3 0%4*4611686018427387904,t.getD 3 0 / 4,0⟩
def aM8 (t:List Nat):Num:=aU (fun _ o=>Num.plus o (aHq t)) 5 (aL6 t)
def Num.times (x:Num) (r0 r1:Nat):Num:=aM8 (aJf x.list [r0,r1])
def ok4 (t:List Nat):Prop:=t.length=4/\jV t
theorem jC {l:List Nat} (h:∀n∈l,fG n):jV l:=by
 intro i
 rw[List.getD_eq_getElem?_getD]
 cases hi:l[i]? with
 | none=>show fG 0;unfold fG;decide
 | some v=>exact h v (List.mem_of_getElem? hi)
theorem aD8 (x r:List Nat) (hx:jV x) (hr:jV r) (i:Nat) (k:Nat) (t:List Nat) (ht:ok4 t):ok4 (aU (fun j t=>aJP t (i+j) (x.getD i 0) (r.getD j 0)) k t):=by
 induction k with
 | zero=>exact ht
 | succ k ih=>exact aKK _ _ _ _ ih.1 ih.2 (hx _) (hr _)
theorem aD9 (x r:List Nat) (hx:jV x) (hr:jV r) (k:Nat):ok4 (aU (aMQ x r) k [0,0,0,0]):=by
 induction k with
 | zero=>exact⟨rfl,jC (l:=[0,0,0,0]) (by simp[fG])⟩
 | succ k ih=>exact aD8 x r hx hr k 2 _ ih
theorem aHr (t:List Nat) (h:jV t):(aL6 t).lt:=⟨h 0,h 1,by have:=h 2;unfold fG at *;show _%4<_;omega⟩
theorem aJg (t:List Nat) (h:jV t):(aHq t).lt:=⟨by have:=h 2;unfold fG at *;show _ / 4+_%4*4611686018427387904<_;omega,by have:=h 3;unfold fG at *;show _ / 4<_;omega,by show(0:Nat)<18446744073709551616;decide⟩
theorem aEa (h l:Num) (hl:l.lt) (k:Nat):(aU (fun _ o=>Num.plus o h) k l).lt:=by
 cases k with
 | zero=>exact hl
 | succ k=>exact Num.plus_lt _ _
theorem Num.times_lt (x:Num) (r0 r1:Nat) (hx:x.lt) (h0:fG r0) (h1:fG r1):(x.times r0 r1).lt:=by
 have hx':jV x.list:=jC (by intro n hn;simp[Num.list]at hn;rcases hn with rfl | rfl | rfl;exact hx.1;exact hx.2.1;exact hx.2.2)
 have hr:jV [r0,r1]:=jC (by intro n hn;simp at hn;rcases hn with rfl | rfl;exact h0;exact h1)
 exact aEa _ _ (aHr _ (aD9 _ _ hx' hr 3).2) 5
theorem aKM (a b:Nat) (ha:fG a) (hb:fG b):bits .or .u64 ((a:Int) / 4) (IntKind.u64.wrap ((b:Int)*4611686018427387904))=((a / 4+b%4*4611686018427387904:Nat):Int):=by
 unfold fG at ha hb
 have hw:IntKind.u64.wrap ((b:Int)*4611686018427387904)=((b%4*4611686018427387904:Nat):Int):=by rw[IntKind.wrap_u64];omega
 rw[hw]
 have:=bits_join_low .u64 64 (by decide) (fun n h0 h1=>by rw[IntKind.wrap_u64];omega) 62 ((a:Int) / 4) ((b%4*4611686018427387904:Nat):Int) (by omega) (by omega) (by omega) (by omega) (by omega) (by omega)
 rw[this]
 omega
theorem aL7 (n:Nat) (h:fG n):bits .and .u64 (n:Int) 3=((n%4:Nat):Int):=by
 unfold fG at h
 have h1:=bits_and_u64_nat n 3 h (by omega)
 have e:n&&& 3=n%4:=Nat.and_two_pow_sub_one_eq_mod n 2
 rw[e]at h1
 exact h1
attribute [local irreducible] aU aJP
theorem aFb (x:Num) (r0 r1:Nat) (w:World) (hx:x.lt) (h0:fG r0) (h1:fG r1):
  Calls Tryz.prog 211 #[.agg x.cells.toArray,.agg (iZ [r0,r1]).toArray] w fun e w'=>e=.returned (.agg (x.times r0 r1).cells.toArray)/\Below w.heap.size w w':=by
 have hx':jV x.list:=jC (by intro n hn;simp[Num.list]at hn;rcases hn with rfl | rfl | rfl;exact hx.1;exact hx.2.1;exact hx.2.2)
 have hr:jV [r0,r1]:=jC (by intro n hn;simp at hn;rcases hn with rfl | rfl;exact h0;exact h1)
 rw[Num.cells_eq x]
 have hres:x.times r0 r1=aM8 (aJf x.list [r0,r1]):=rfl
 rw[hres]
 obtain⟨X,hX⟩:∃X,x.list=X:=⟨_,rfl⟩
 obtain⟨R,hR⟩:∃R,[r0,r1]=R:=⟨_,rfl⟩
 have hXl:X.length=3:=by rw[<-hX];rfl
 have hRl:R.length=2:=by rw[<-hR];rfl
 rw[hX]at hx' ⊢
 rw[hR]at hr ⊢
 have hXo:=h_ hx'
 have hRo:=h_ hr
 clear hX hR hres hx' hr hx h0 h1 x r0 r1
 go_enter Tryz.func211,Tryz.ntmps211
 go_wp2_with fail
 go_loopw [11] (fun i wr=>∃(k:Nat) (t:List Nat),k<=3/\i=.int .i64 k/\aU (aMQ X R) k [0,0,0,0]=t/\row wr (w.heap.size+1+1+1)=(iZ t).toArray/\row wr w.heap.size=(iZ X).toArray/\row wr (w.heap.size+1)=(iZ R).toArray/\row wr (w.heap.size+1+1)=(aH 3 (Value.int .u64 0)).toArray/\w.heap.size+1+1+1<wr.heap.size/\Below w.heap.size w wr) (fun i _=>3 - (intOf i).toNat)
 case atStart=>
  refine⟨0,_,by omega,rfl,rfl,?_,?_,?_,?_,by simp,eD⟩
  ·rw[aU,aE _ _ _ (by simp)];rfl
  ·simp[go_sem]
  ·simp[go_sem]
  ·simp[go_sem]
 case round=>
  obtain⟨k,t,hk,rfl,ht,rT,rX,rR,rO,hz,hbel⟩:=hrel
  have hto:=aD9 X R hXo.out hRo.out k
  rw[ht]at hto
  have HT:=h_ ht
  clear ht
  obtain⟨htl,hta⟩:=hto
  have HA:=h_ hta
  clear hta
  by_cases hlt:k<3
  ·have g1:(k:Int)<3:=by omega
   go_wp2_with fail
   go_loopw [14] (fun i wq=>∃(j:Nat) (q:List Nat),j<=2/\i=.int .i64 j/\aU (fun j t=>aJP t (k+j) (X.getD k 0) (R.getD j 0)) j t=q/\row wq (w.heap.size+1+1+1)=(iZ q).toArray/\row wq w.heap.size=(iZ X).toArray/\row wq (w.heap.size+1)=(iZ R).toArray/\row wq (w.heap.size+1+1)=(aH 3 (Value.int .u64 0)).toArray/\w.heap.size+1+1+1<wq.heap.size/\Below w.heap.size w wq) (fun i _=>2 - (intOf i).toNat)
   case atStart=>exact⟨0,t,by omega,rfl,by rw[aU],rT,rX,rR,rO,hz,hbel⟩
   case round=>
    clear rT rX rR rO hz hbel
    obtain⟨j,q,hj,rfl,hq,rT,rX,rR,rO,hz,hbel⟩:=hrel
    have hqo:=aD8 X R hXo.out hRo.out k j t ⟨htl,HA.out⟩
    rw[hq]at hqo
    have HQ:=h_ hq
    clear hq
    obtain⟨hql,hqa⟩:=hqo
    have HB:=h_ hqa
    clear hqa
    by_cases hlt2:j<2
    ·have g2:(j:Int)<2:=by omega
     have g3:(k:Int)+j<4:=by omega
     have kx:k<X.length:=by omega
     have kr:j<R.length:=by omega
     have hw1:IntKind.i64.wrap ((k:Int)+(j:Int))=((k+j:Nat):Int):=by rw[dR _ (by omega) (by omega)];omega
     obtain⟨n,hn⟩:∃n,k+j=n:=⟨_,rfl⟩
     have g4:n<4:=by omega
     rw[hn]at hw1
     have HN:=h_ hn
     clear hn
     go_wp2_with fail
     refine jY [(w.heap.size,(iZ X).toArray),(w.heap.size+1,(iZ R).toArray)] (fun hS=>?_)
     refine qp 0 hS ?_
     refine qp 1 hS ?_
     refine qp 2 hS ?_
     refine qp 3 hS ?_
     refine qp 4 hS ?_
     refine qp 5 hS ?_
     refine qp 6 hS ?_
     refine qp 7 hS ?_
     refine qp 8 hS ?_
     refine aY (rs:=[9]) kr_ (by simp) (Rws.grow _) hS (fun u1 hu1 hSW=>?_)
     intro i hi
     obtain rfl:=List.mem_singleton.1 hi
     refine wpOp_step rfl (fun K hK=>?_)
     simp only[Rws]at hSW
     clear hi hS
     go_simp
     have zu:wr.heap.size<=u1.heap.size:=hu1.size
     have rT1:row u1 (w.heap.size+1+1+1)=(iZ q).toArray:=by rw[aA hu1 (show _<wr.heap.size from hz)];exact rT
     refine(aKL q n X[k] R[j] _ u1 hql HB.out g4 (by rw[<-cO _ _ kx];exact hXo.out k) (by rw[<-cO _ _ kr];exact hRo.out j) rT1).mono ?_
     rintro e w2 ⟨rfl,r2,c2⟩
     have zb2:=c2.size
     have rX2:row w2 w.heap.size=(iZ X).toArray:=(c2.row (by omega) (by omega)).trans ((aA hu1 (show _<wr.heap.size by omega)).trans rX)
     have rR2:row w2 (w.heap.size+1)=(iZ R).toArray:=(c2.row (by omega) (by omega)).trans ((aA hu1 (show _<wr.heap.size by omega)).trans rR)
     have rO2:row w2 (w.heap.size+1+1)=(aH 3 (Value.int .u64 0)).toArray:=(c2.row (by omega) (by omega)).trans ((aA hu1 (show _<wr.heap.size by omega)).trans rO)
     have hb2:Below w.heap.size w w2:=Below.trans hbel (Below.trans (Below.trans (Below.drew (Below.refl _ _)) (hu1.mono (by simp;omega))) ((c2.mono (by omega)).below (by omega)))
     refine hK _ _ ⟨⟨rX2,by omega,rR2,by omega,trivial⟩,?_⟩
     clear hK K hSW
     (try simp only[Act.put,List.setIfInBounds_toArray,List.set_cons_zero,List.set_cons_succ])
     refine aG kr_ (fun w3 h3=>?_) _
     have zb3:=h3.size
     go_wp2_with fail
     go_roundw
     case rel=>
      refine⟨j+1,_,by omega,rfl,rfl,?_,(aA h3 (by omega)).trans rX2,(aA h3 (by omega)).trans rR2,(aA h3 (by omega)).trans rO2,by omega,Below.trans hb2 (h3.mono (by omega))⟩
      rw[aU,HQ.out,HN.out,cO _ _ kx,cO _ _ kr,aA h3 (by omega)]
      exact r2
     case measure=>simp[intOf];omega
    ·obtain rfl:j=2:=by omega
     rw[show((2:Nat):Int)=2 from rfl]
     go_wp2_with fail
     go_roundw
     case rel=>
      refine⟨k+1,_,by omega,rfl,rfl,?_,rX,rR,rO,hz,hbel⟩
      rw[aU,HT.out,aMQ,HQ.out]
      exact rT
     case measure=>simp[intOf];omega
  ·obtain rfl:k=3:=by omega
   rw[show((3:Nat):Int)=3 from rfl]
   have hP:aJf X R=t:=HT.out
   have e0:0<t.length:=by omega
   have e1:1<t.length:=by omega
   have e2:2<t.length:=by omega
   have e3:3<t.length:=by omega
   have t2:=HA.out 2
   have t3:=HA.out 3
   have hll:=aHr t HA.out
   have hhl:=aJg t HA.out
   rw[cO _ _ e2]at t2
   rw[cO _ _ e3]at t3
   have hlow:aL6 t=⟨t[0],t[1],t[2]%4⟩:=by rw[aL6,cO _ _ e0,cO _ _ e1,cO _ _ e2]
   have hhigh:aHq t=⟨t[2] / 4+t[3]%4*4611686018427387904,t[3] / 4,0⟩:=by rw[aHq,cO _ _ e2,cO _ _ e3]
   have hsum:aM8 (aJf X R)=aU (fun _ o=>Num.plus o (aHq t)) 5 (aL6 t):=by rw[hP];rfl
   have hm:bits .and .u64 (t[2]:Int) 3=((t[2]%4:Nat):Int):=aL7 _ t2
   have hj:=aKM t[2] t[3] t2 t3
   have hd:∀n:Nat,(n:Int) / 4=((n / 4:Nat):Int):=fun n=>by omega
   replace hd:=hd t[3]
   rw[hlow]at hll hsum
   rw[hhigh]at hhl hsum
   obtain⟨l2,hl2⟩:∃m,t[2]%4=m:=⟨_,rfl⟩
   obtain⟨h0,hh0⟩:∃m,t[2] / 4+t[3]%4*4611686018427387904=m:=⟨_,rfl⟩
   obtain⟨h1,hh1⟩:∃m,t[3] / 4=m:=⟨_,rfl⟩
   simp only[hl2,hh0,hh1]at hm hj hd hll hhl hsum
   obtain⟨a0,ha0⟩:∃m,t[0]=m:=⟨_,rfl⟩
   obtain⟨a1,ha1⟩:∃m,t[1]=m:=⟨_,rfl⟩
   simp only[ha0,ha1]at hll hsum
   have HF:=h_ hsum
   have HH:=h_ hhl
   have HL:=h_ hll
   clear hl2 hh0 hh1 hsum hlow hhigh t2 t3 hP HT hlt hk hll hhl
   go_wp2_with fail
   have q2:w.heap.size+1+1<wr.heap.size:=by omega
   go_loopw [53] (fun i wq=>∃(m:Nat) (o:Num),m<=5/\i=.int .i64 m/\aU (fun _ o=>Num.plus o ⟨h0,h1,0⟩) m ⟨a0,a1,l2⟩=o/\row wq (wr.heap.size+1+1)=#[.int .u64 o.a,.int .u64 o.b,.int .u64 o.c]/\row wq (wr.heap.size+1)=#[.int .u64 h0,.int .u64 h1,.int .u64 0]/\row wq (w.heap.size+1+1)=(aH 3 (Value.int .u64 0)).toArray/\wr.heap.size+1+1<wq.heap.size/\Below w.heap.size w wq) (fun i _=>5 - (intOf i).toNat)
   case atStart=>
    refine⟨0,_,by omega,rfl,rfl,?_,?_,?_,by simp,?_⟩
    ·rw[aU,aE _ _ _ (by simp)]
    ·rw[aD _ _ (by simp),aE _ _ _ (by simp)]
    ·rw[aD _ _ (by simp;omega),aD _ _ (by simp;omega),aD _ _ (by omega)]
     exact rO
    ·exact Below.alloc (Below.alloc (Below.alloc hbel (by omega) _) (by simp;omega) _) (by simp;omega) _
   case round=>
    clear rT rX rR rO hbel hm hj hd
    obtain⟨m,o,hm,rfl,ho,rV,rH,rO,hz3,hbel⟩:=hrel
    have hol:=aEa ⟨h0,h1,0⟩ ⟨a0,a1,l2⟩ HL.out m
    rw[ho]at hol
    have HO:=h_ ho
    clear ho
    by_cases hlt:m<5
    ·have g1:(m:Int)<5:=by omega
     have hadd:=fun w=>kX o ⟨h0,h1,0⟩ w hol HH.out
     obtain⟨z,hz2⟩:∃z,o.plus ⟨h0,h1,0⟩=z:=⟨_,rfl⟩
     rw[hz2]at hadd
     have HZ:=h_ hz2
     clear hz2
     obtain⟨o0,o1,o2⟩:=o
     obtain⟨z0,z1,z2⟩:=z
     unfold Num.cells at hadd
     simp only at hadd rV
     have hadd':∀w,Calls Tryz.prog 209 #[.agg #[.int .u64 o0,.int .u64 o1,.int .u64 o2],.agg #[.int .u64 h0,.int .u64 h1,.int .u64 0]] w fun e w'=>e=.returned (.agg #[.int .u64 z0,.int .u64 z1,.int .u64 z2])/\Below w.heap.size w w':=hadd
     have KA:=h_ hadd'
     clear hadd hadd' hol
     go_wp2_with fail
     (with_reducible refine(KA.out _).mono ?_)
     rintro e w2 ⟨rfl,b2⟩
     have zb2:=b2.size
     have rV2:=(aA b2 (by omega)).trans rV
     have rH2:=(aA b2 (by omega)).trans rH
     have rO2:=(aA b2 (by omega)).trans rO
     go_wp2_with fail
     go_roundw
     case rel=>
      refine⟨m+1,⟨z0,z1,z2⟩,by omega,rfl,?_,?_,by(try show row (World.setRow _ _ _) _=_);rw[aC _ _ _ (by omega)];exact rH2,by(try show row (World.setRow _ _ _) _=_);rw[aC _ _ _ (by omega)];exact rO2,by simp;omega,Below.setRow (Below.trans hbel (b2.mono (by omega))) (by omega) _⟩
      ·rw[aU,HO.out,HZ.out]
      ·exact aB (by rw[rV2];simp) (by rw[rV2];simp)
     case measure=>simp[intOf];omega
    ·obtain rfl:m=5:=by omega
     rw[show((5:Nat):Int)=5 from rfl]
     obtain⟨o0,o1,o2⟩:=o
     simp only at rV
     go_wp2_with fail
     have hfin:=aB (w:=wr) (g:=w.heap.size+1+1) (c:=#[Value.int .u64 o0,.int .u64 o1,.int .u64 o2]) (by rw[rO];simp) (by rw[rO];simp)
     (try simp only[Exit.inBlock,Exit.then])
     refine bodyPost_ret (aV rfl (aK rfl ?_)) rfl ?_
     ·rw[hfin]
      simp
     refine⟨by rw[hfin,HF.out,HO.out];rfl,?_⟩
     exact Below.setRow hbel (by omega) _
end
section
open Go.RowKit
def Num.low (x:Num):Num:=⟨x.a,x.b,x.c%4⟩
def Num.hi5 (x:Num):Num:=⟨x.c / 4*5%18446744073709551616,x.c / 4*5 / 18446744073709551616,0⟩
def Num.fold (x:Num):Num:=x.low.plus x.hi5
def Num.rest (x:Num):Num:=(x.fold.fold).less5
theorem Num.fold_lt (x:Num):x.fold.lt:=Num.plus_lt _ _
theorem Num.rest_lt (x:Num):x.rest.lt:=Num.less5_lt _ (Num.fold_lt _)
theorem Num.low_lt {x:Num} (h:x.lt):x.low.lt:=⟨h.1,h.2.1,by have:=h.2.2;unfold fG at *;show _%4<_;omega⟩
theorem Num.hi5_lt {x:Num} (h:x.lt):x.hi5.lt:=⟨jT _,by have:=h.2.2;unfold fG at *;show _ / 4*5 / _<_;omega,by show(0:Nat)<18446744073709551616;decide⟩
theorem aM9 (n:Nat) (h:fG n):bits .and .u64 (n:Int) 3=((n%4:Nat):Int):=by
 unfold fG at h
 have h1:=bits_and_u64_nat n 3 h (by omega)
 have e:n&&& 3=n%4:=Nat.and_two_pow_sub_one_eq_mod n 2
 rw[e]at h1
 exact h1
theorem aJh (x:Num) (w:World) (hx:x.lt):
  Calls Tryz.prog 208 #[.agg x.cells.toArray] w fun e w'=>e=.returned (.agg x.rest.cells.toArray)/\Below w.heap.size w w':=by
 go_enter Tryz.func208,Tryz.ntmps208
 unfold Num.cells
 go_wp2_with fail
 go_loopw [9] (fun i wr=>∃(k:Nat) (y:Num),k<=2/\i=.int .i64 k/\y.lt/\(k=0->y=x)/\(k=1->y=x.fold)/\(k=2->y=x.fold.fold)/\row wr (w.heap.size+1+1)=#[.int .u64 y.a,.int .u64 y.b,.int .u64 y.c]/\row wr (w.heap.size+1)=(aH 3 (Value.int .u64 0)).toArray/\w.heap.size+1+1<wr.heap.size/\Below w.heap.size w wr) (fun i _=>2 - (intOf i).toNat)
 case atStart=>exact⟨0,x,by omega,rfl,hx,fun _=>rfl,fun h=>by omega,fun h=>by omega,by simp[go_sem],by simp[go_sem],by simp,eD⟩
 case round=>
  obtain⟨k,y,hk,rfl,hy,e0,e1,e2,hV,hR,hz,hbel⟩:=hrel
  have HY:=h_ (show(k=0->y.fold=x.fold)/\(k=1->y.fold=x.fold.fold)/\(k=2->y.less5=x.rest)from ⟨fun h=>by rw[e0 h],fun h=>by rw[e1 h],fun h=>by rw[e2 h];rfl⟩)
  clear e0 e1 e2
  obtain⟨y0,y1,y2⟩:=y
  have hl:=Num.low_lt hy
  have hh:=Num.hi5_lt hy
  have hfl:=Num.fold_lt ⟨y0,y1,y2⟩
  simp only at hV
  by_cases hlt:k<2
  ·have h1:(k:Int)<2:=by omega
   have hm:=aM9 y2 hy.2.2
   have hmul:=fun w=>Tryz.bits_Mul64 (y2 / 4) 5 (by have:=hy.2.2;unfold fG at this;simp only at this;omega) (by omega) w
   have hadd:=fun w=>kX (Num.low ⟨y0,y1,y2⟩) (Num.hi5 ⟨y0,y1,y2⟩) w hl hh
   rw[show(Num.low ⟨y0,y1,y2⟩).plus (Num.hi5 ⟨y0,y1,y2⟩)=Num.fold ⟨y0,y1,y2⟩from rfl]at hadd
   obtain⟨z,hz2⟩:∃z,Num.fold ⟨y0,y1,y2⟩=z:=⟨_,rfl⟩
   rw[hz2]at hadd hfl
   have HZ:=h_ hz2
   clear hz2
   obtain⟨z0,z1,z2⟩:=z
   unfold Num.low Num.hi5 Num.cells at hadd
   simp only at hadd
   have hdiv:(y2:Int) / 4=((y2 / 4:Nat):Int):=by omega
   obtain⟨q,hq⟩:∃q,y2 / 4=q:=⟨_,rfl⟩
   obtain⟨r,hr⟩:∃r,y2%4=r:=⟨_,rfl⟩
   obtain⟨pl,hpl⟩:∃p,q*5%18446744073709551616=p:=⟨_,rfl⟩
   obtain⟨ph,hph⟩:∃p,q*5 / 18446744073709551616=p:=⟨_,rfl⟩
   simp only[hq,hr,hpl,hph]at hm hmul hadd hdiv
   have hmul':∀w,Calls Tryz.prog 225 #[.int .u64 q,.int .u64 5] w fun e w'=>e=.returned (.tuple #[.int .u64 ph,.int .u64 pl])/\w'=w:=hmul
   have hadd':∀w,Calls Tryz.prog 209 #[.agg #[.int .u64 y0,.int .u64 y1,.int .u64 r],.agg #[.int .u64 pl,.int .u64 ph,.int .u64 0]] w fun e w'=>e=.returned (.agg #[.int .u64 z0,.int .u64 z1,.int .u64 z2])/\Below w.heap.size w w':=hadd
   have KM:=h_ hmul'
   have KA:=h_ hadd'
   clear hmul hadd hmul' hadd' hq hr hpl hph hy hl hh
   go_wp2_with fail
   go_region
   go_wp2_with fail
   (with_reducible refine(KM.out _).mono ?_)
   rintro e w1 ⟨rfl,rfl⟩
   go_wp2_with fail
   (with_reducible refine(KA.out _).mono ?_)
   rintro e w2 ⟨rfl,b2⟩
   have zb2:=b2.size
   have hV2:row w2 (w.heap.size+1+1)=#[.int .u64 y0,.int .u64 y1,.int .u64 y2]:=(aA b2 (by simp;omega)).trans hV
   have hR2:row w2 (w.heap.size+1)=(aH 3 (Value.int .u64 0)).toArray:=(aA b2 (by simp;omega)).trans hR
   have hb2:Below w.heap.size w w2:=Below.trans hbel (Below.trans (Below.drew (Below.refl _ _)) (b2.mono (by simp;omega)))
   simp at zb2
   go_wp2_with fail
   go_roundw
   case rel=>
    obtain⟨f0,f1,f2⟩:=HY.out
    refine⟨k+1,⟨z0,z1,z2⟩,by omega,rfl,hfl,fun h=>by omega,fun h=>?_,fun h=>?_,?_,by(try show row (World.setRow _ _ _) _=_);rw[aC _ _ _ (by omega)];exact hR2,by simp;omega,Below.setRow hb2 (by omega) _⟩
    ·rw[<-HZ.out];exact f0 (by omega)
    ·rw[<-HZ.out];exact f1 (by omega)
    ·exact aB (by rw[hV2];simp) (by rw[hV2];simp)
   case measure=>simp[intOf];omega
  ·obtain rfl:k=2:=by omega
   rw[show((2:Nat):Int)=2 from rfl]
   have hls:=fun w=>aG2 ⟨y0,y1,y2⟩ w hy
   have hf:=HY.out.2.2 rfl
   rw[hf]at hls
   obtain⟨z,hz2⟩:∃z,x.rest=z:=⟨_,rfl⟩
   rw[hz2]at hls
   have HZ:=h_ hz2
   clear hz2 hf HY
   obtain⟨z0,z1,z2⟩:=z
   unfold Num.cells at hls
   simp only at hls
   have KL:=h_ hls
   clear hls
   go_wp2_with fail
   (with_reducible refine(KL.out _).mono ?_)
   rintro e w1 ⟨rfl,b1⟩
   have hR2:row w1 (w.heap.size+1)=(aH 3 (Value.int .u64 0)).toArray:=(aA b1 (by omega)).trans hR
   go_wp2_with fail
   have hfin:=aB (w:=w1) (g:=w.heap.size+1) (c:=#[Value.int .u64 z0,.int .u64 z1,.int .u64 z2]) (by rw[hR2];simp) (by rw[hR2];simp)
   (try simp only[Exit.inBlock,Exit.then])
   refine bodyPost_ret (aV rfl (aK rfl ?_)) rfl ?_
   ·rw[hfin]
    simp
   refine⟨by rw[hfin,HZ.out],?_⟩
   exact Below.setRow (Below.trans hbel (b1.mono (by omega))) (by omega) _
end
section
open Go.RowKit
def aH4 (i:Nat) (l:List UInt8):List UInt8:=if i%4=3 then l.set i (l.getD i 0&&& 15)else if i%4=0/\0<i then l.set i (l.getD i 0&&& 252)else l
def aFS (l:List UInt8):List UInt8:=aU aH4 16 l
theorem uU (i:Nat) (l:List UInt8):(aH4 i l).length=l.length:=by unfold aH4;split;simp;split<;>simp
theorem aC7 (l:List UInt8):(aFS l).length=l.length:=dV uU 16 l
theorem x9 (l:List UInt8) (i:Nat) (h:i<l.length):l.getD i 0=l[i]:=by simp[List.getD_eq_getElem?_getD,h]
theorem aFc (k:List UInt8) (w:World) (hk:k.length=32):
  Calls Tryz.prog 206 #[.agg (u8s k).toArray] w fun e w'=>e=.returned (.agg (u8s (aFS k)).toArray)/\Below w.heap.size w w':=by
 go_enter Tryz.func206,Tryz.ntmps206
 go_wp2_with fail
 go_loopw [4] (fun i wr=>∃(m:Nat) (L:List UInt8),m<=16/\i=.int .i64 m/\aU aH4 m k=L/\row wr w.heap.size=(u8s L).toArray/\row wr (w.heap.size+1)=(aH 32 (Value.int .u8 0)).toArray/\w.heap.size+1<wr.heap.size/\Below w.heap.size w wr) (fun i _=>16 - (intOf i).toNat)
 case atStart=>exact⟨0,k,by omega,rfl,rfl,by simp[go_sem],by simp[go_sem],by simp,eD⟩
 case round=>
  obtain⟨m,L,hm,rfl,hL,rV,rR,hz,hbel⟩:=hrel
  have hLl:L.length=32:=by rw[<-hL,dV uU,hk]
  have HL:=h_ hL
  clear hL
  by_cases hlt:m<16
  ·have g1:(m:Int)<16:=by omega
   have km:m<L.length:=by omega
   have km2:m<32:=by omega
   have km3:(m:Int)<32:=by omega
   obtain⟨r,hr⟩:∃r,m%4=r:=⟨_,rfl⟩
   have er:(m:Int)%4=(r:Int):=by omega
   have HR:=h_ hr
   clear hr
   by_cases h3:r=3
   ·have e3:((r:Int)==3)=true:=by simp[h3]
    have e0:((r:Int)==0)=false:=by simp[h3]
    obtain⟨v,hv⟩:∃v,L[m]&&& 15=v:=⟨_,rfl⟩
    have hand:bits .and .u8 (L[m].toNat:Int) 15=(v.toNat:Int):=by rw[<-hv];exact aDZ L[m] 15
    have hset:=jR L m v
    have hF:aH4 m L=L.set m v:=by rw[aH4,HR.out,if_pos h3,x9 _ _ km,hv]
    have HF:=h_ hF
    clear hF hv h3
    go_wp2_with fail
    go_roundw
    case rel=>
     refine⟨m+1,_,by omega,rfl,rfl,?_,by(try show row (World.setRow _ _ _) _=_);rw[aC _ _ _ (by omega)];exact rR,by simp;omega,Below.setRow hbel (by omega) _⟩
     rw[aU,HL.out,HF.out]
     exact aB (by rw[rV];simp;omega) (by rw[rV];simp)
    case measure=>simp[intOf];omega
   ·have e3:((r:Int)==3)=false:=by simp;omega
    by_cases h0:r=0/\0<m
    ·have e0:((r:Int)==0)=true:=by simp[h0.1]
     have g2:(0:Int)<(m:Int):=by omega
     obtain⟨v,hv⟩:∃v,L[m]&&& 252=v:=⟨_,rfl⟩
     have hand:bits .and .u8 (L[m].toNat:Int) 252=(v.toNat:Int):=by rw[<-hv];exact aDZ L[m] 252
     have hset:=jR L m v
     have hF:aH4 m L=L.set m v:=by rw[aH4,HR.out,if_neg h3,if_pos h0,x9 _ _ km,hv]
     have HF:=h_ hF
     clear hF hv h3 h0
     go_wp2_with fail
     go_roundw
     case rel=>
      refine⟨m+1,_,by omega,rfl,rfl,?_,by(try show row (World.setRow _ _ _) _=_);rw[aC _ _ _ (by omega)];exact rR,by simp;omega,Below.setRow hbel (by omega) _⟩
      rw[aU,HL.out,HF.out]
      exact aB (by rw[rV];simp;omega) (by rw[rV];simp)
     case measure=>simp[intOf];omega
    ·have hF:aH4 m L=L:=by rw[aH4,HR.out,if_neg h3,if_neg h0]
     have HF:=h_ hF
     clear hF
     by_cases hr0:r=0
     ·have e0:((r:Int)==0)=true:=by simp[hr0]
      have g2:¬(0:Int)<(m:Int):=by omega
      clear h3 h0 hr0
      go_wp2_with fail
      go_roundw
      case rel=>exact⟨m+1,_,by omega,rfl,rfl,by rw[aU,HL.out,HF.out];exact rV,rR,hz,hbel⟩
      case measure=>simp[intOf];omega
     ·have e0:((r:Int)==0)=false:=by simp;omega
      clear h3 h0 hr0
      go_wp2_with fail
      go_roundw
      case rel=>exact⟨m+1,_,by omega,rfl,rfl,by rw[aU,HL.out,HF.out];exact rV,rR,hz,hbel⟩
      case measure=>simp[intOf];omega
  ·obtain rfl:m=16:=by omega
   rw[show((16:Nat):Int)=16 from rfl]
   go_wp2_with fail
   have e:L=aFS k:=HL.out.symm
   rw[e]at rV hLl ⊢
   have hfin:=aB (w:=wr) (g:=w.heap.size+1) (c:=(u8s (aFS k)).toArray) (by rw[rR];simp) (by rw[rR];simp[hLl])
   (try simp only[Exit.inBlock,Exit.then])
   refine bodyPost_ret (aV rfl (aK rfl ?_)) rfl ?_
   ·rw[hfin]
    simp[hLl]
   refine⟨by rw[hfin],?_⟩
   exact Below.setRow hbel (by omega) _
def pr0 (k:List UInt8):Nat:=leN ((aFS k).take 8)
def pr1 (k:List UInt8):Nat:=leN (((aFS k).drop 8).take 8)
def aH5 (s:List UInt8) (j:Nat):List UInt8:=(s.drop (16*j)).take 16
def psF (k s:List UInt8) (j:Nat) (a:Num):Num:=((a.plus (ofN (aH5 s j))).times (pr0 k) (pr1 k)).rest
def aLs (k:List UInt8):Num:=⟨leN ((k.drop 16).take 8),leN (k.drop 24),0⟩
def aKN (k s:List UInt8):Num:=(aU (psF k s) ((s.length+15) / 16) ⟨0,0,0⟩).plus (aLs k)
def aFd (x:List Nat) (i:Nat) (b:List UInt8):List UInt8:=b.set i (iR ((x.getD (i / 8) 0:Nat) / 2^(8*(i%8))))
def aC8 (k s:List UInt8):List UInt8:=aU (aFd (aKN k s).list) 16 (List.replicate 16 0)
theorem qT (x:List Nat) (i:Nat) (b:List UInt8):(aFd x i b).length=b.length:=by simp[aFd]
theorem qU (k s:List UInt8):(aC8 k s).length=16:=by rw[aC8,dV (qT _)];simp
theorem aKO:(Num.mk 0 0 0).lt:=⟨by show(0:Nat)<18446744073709551616;decide,by show(0:Nat)<18446744073709551616;decide,by show(0:Nat)<18446744073709551616;decide⟩
theorem aKP (k s:List UInt8) (m:Nat):(aU (psF k s) m ⟨0,0,0⟩).lt:=by
 cases m with
 | zero=>exact aKO
 | succ m=>
  rw[aU,psF]
  exact Num.rest_lt _
theorem aFe (n:Nat):u8s (List.replicate n 0)=aH n (.int .u8 0):=by simp[u8s,aH]
attribute [local irreducible] aU aFS
theorem aJi (k s:List UInt8) (w:World) (hk:k.length=32) (hs:s.length<=100000):
  Calls Tryz.prog 183 #[.agg (u8s k).toArray,.string ⟨s.toArray⟩] w fun e w'=>e=.returned (.agg (u8s (aC8 k s)).toArray)/\Below w.heap.size w w':=by
 have hs2:(s.length:Int)<=100000:=by omega
 have hcl:=aC7 k
 have KC:=h_ (fun w=>aFc k w hk)
 have h0:fG (pr0 k):=oI _ (by simp;omega)
 have h1:fG (pr1 k):=oI _ (by simp;omega)
 have hW0:=fun w=>kW ((aFS k).take 8) w (by simp;omega)
 have hW1:=fun w=>kW (((aFS k).drop 8).take 8) w (by simp;omega)
 have hpsF:∀j a,psF k s j a=((a.plus (ofN (aH5 s j))).times (pr0 k) (pr1 k)).rest:=fun _ _=>rfl
 have hpol:aKN k s=(aU (psF k s) ((s.length+15) / 16) ⟨0,0,0⟩).plus (aLs k):=rfl
 obtain⟨c,hc⟩:∃c,aFS k=c:=⟨_,rfl⟩
 rw[show leN ((aFS k).take 8)=pr0 k from rfl]at hW0
 rw[show leN (((aFS k).drop 8).take 8)=pr1 k from rfl]at hW1
 obtain⟨r0,hr0⟩:∃r,pr0 k=r:=⟨_,rfl⟩
 obtain⟨r1,hr1⟩:∃r,pr1 k=r:=⟨_,rfl⟩
 simp only[hr0,hr1,hc]at KC h0 h1 hW0 hW1 hpsF hcl
 have K0:=h_ hW0
 have K1:=h_ hW1
 have KF:=h_ hpsF
 have KP:=h_ hpol
 clear hr0 hr1 hc hW0 hW1 hpsF hpol
 rw[hk]at hcl
 go_enter Tryz.func183,Tryz.ntmps183
 go_wp2_with fail
 (with_reducible refine(KC.out _).mono ?_)
 rintro e w1 ⟨rfl,b1⟩
 have rK:row w1 w.heap.size=(u8s k).toArray:=by rw[aA b1 (by simp;omega)];simp[go_sem]
 have rR:row w1 (w.heap.size+1)=(aH 16 (Value.int .u8 0)).toArray:=by rw[aA b1 (by simp)];simp[go_sem]
 have z1:=(b1).size
 try simp at z1
 replace b1:=cJ b1 (show Below (w).heap.size w _ from by(repeat (first | exact Below.refl _ _ | refine Below.al ?_ _ | refine Below.drew ?_ | refine Below.sr ?_ _ | refine Below.sc ?_ _))) (by first | (simp;done) | (simp;omega) | omega)
 clear KC
 go_wp2_with fail
 obtain⟨w2,hw2⟩:∃W,w1.alloc (.cells (u8s c).toArray 28)=W:=⟨_,rfl⟩
 obtain⟨C,hC⟩:∃n,w1.heap.size=n:=⟨_,rfl⟩
 have rC:row w2 C=(u8s c).toArray:=by rw[<-hw2,<-hC];exact aE _ _ _ rfl
 have z2:w2.heap.size=C+1:=by rw[<-hw2,<-hC];simp
 have b2:Below w1.heap.size w1 w2:=by rw[<-hw2];exact ba_
 rw[hw2,hC]
 clear hw2
 replace rK:=(aA b2 (by omega)).trans rK
 replace rR:=(aA b2 (by omega)).trans rR
 replace b1:=Below.trans b1 (b2.mono (by omega))
 clear b2
 refine jY [(C,(u8s c).toArray)] (fun hS=>?_)
 refine qp 0 hS ?_
 refine qp 1 hS ?_
 refine qp 3 hS ?_
 refine qp 4 hS ?_
 refine qc 2 (v:=?_) hS ?_ ?_
 rotate_left
 ·intro w' hS'
  simp only[Rws]at hS'
  go_simp
  with_reducible refine(K0.out _).mono ?_
  rintro e w'' ⟨rfl,hb⟩
  exact⟨_,rfl,by rfl,hb⟩
 refine qc 5 (v:=?_) hS ?_ ?_
 rotate_left
 ·intro w' hS'
  simp only[Rws]at hS'
  go_simp
  with_reducible refine(K1.out _).mono ?_
  rintro e w'' ⟨rfl,hb⟩
  exact⟨_,rfl,by rfl,hb⟩
 refine qp 6 hS ?_
 refine nR (i:=7) (k:=8) (zi:=(aH 2 (Value.int .u64 0)).toArray) (cA:=(iZ [r0,r1]).toArray) cD cD ⟨rfl,rfl,fun a w=>by go_simp;(refine⟨?_,?_⟩<;>rfl)⟩ kr_ kr_ kr_ rfl rfl (by simp[*]) (by simp) (by simp;(try omega)) (fun A w1 hr=>by
  simp only[Act.put,List.setIfInBounds_toArray,List.set_cons_zero,List.set_cons_succ,ptr]
  go_simp
  try rfl) hS (fun D w3 gD zD b3 rD=>?_)
 (try simp only[Act.put,List.setIfInBounds_toArray,List.set_cons_zero,List.set_cons_succ])
 replace gD:(w2).heap.size<=D:=gD
 replace b3:Below (w2).heap.size w2 w3:=Below.trans (Below.drew (Below.refl _ _)) b3
 have zw3:=(b3).size
 simp only[ptr]
 clear hS
 replace rK:=(aA b3 (by omega)).trans rK
 replace rR:=(aA b3 (by omega)).trans rR
 replace b1:=Below.trans b1 (b3.mono (by omega))
 clear rC b3
 go_wp2_with fail
 have zC:C<w3.heap.size:=by omega
 go_loopw [8] (fun i wr=>∃(m:Nat) (a:Num),i=.int .i64 (16*(m:Int))/\16*m<=s.length+15/\aU (psF k s) m ⟨0,0,0⟩=a/\row wr w3.heap.size=#[.int .u64 a.a,.int .u64 a.b,.int .u64 a.c]/\row wr D=(iZ [r0,r1]).toArray/\row wr w.heap.size=(u8s k).toArray/\row wr (w.heap.size+1)=(aH 16 (Value.int .u8 0)).toArray/\w3.heap.size<wr.heap.size/\Below w.heap.size w wr) (fun i _=>s.length+16 - (intOf i).toNat)
 case atStart=>
  refine⟨0,_,by simp,by omega,rfl,?_,?_,?_,?_,by simp,Below.alloc b1 (by omega) _⟩
  ·rw[aU,aE _ _ _ rfl]
   rfl
  ·rw[aD _ _ zD]
   exact rD
  ·rw[aD _ _ (by omega)]
   exact rK
  ·rw[aD _ _ (by omega)]
   exact rR
 case round=>
  clear rD rK rR b1
  obtain⟨m,a,rfl,hm,ha,rN,rD,rK,rR,hz,hbel⟩:=hrel
  have hal:a.lt:=by rw[<-ha];exact aKP k s m
  have HA:=h_ ha
  clear ha
  by_cases hlt:16*m<s.length
  ·have g1:(16:Int)*(m:Int)<s.length:=by omega
   obtain⟨p,hp⟩:∃p,16*m=p:=⟨_,rfl⟩
   have ep:(16:Int)*(m:Int)=(p:Int):=by omega
   have g2:(p:Int)<s.length:=by omega
   have hw1:IntKind.i64.wrap ((p:Int)+16)=(p:Int)+16:=dR _ (by omega) (by omega)
   have hof:=fun w=>aKJ (aH5 s m) w (by simp[aH5];omega)
   have hplus:=fun w=>kX a (ofN (aH5 s m)) w hal (aL5 _)
   have htimes:=fun w=>aFb (a.plus (ofN (aH5 s m))) r0 r1 w (Num.plus_lt _ _) h0 h1
   have hrest:=fun w=>aJh ((a.plus (ofN (aH5 s m))).times r0 r1) w (Num.times_lt _ _ _ (Num.plus_lt _ _) h0 h1)
   rw[<-KF.out m a]at hrest
   obtain⟨n1,hn1⟩:∃n,ofN (aH5 s m)=n:=⟨_,rfl⟩
   rw[hn1]at hof hplus htimes hrest
   obtain⟨n2,hn2⟩:∃n,a.plus n1=n:=⟨_,rfl⟩
   rw[hn2]at hplus htimes hrest
   obtain⟨n3,hn3⟩:∃n,n2.times r0 r1=n:=⟨_,rfl⟩
   rw[hn3]at htimes hrest
   obtain⟨n4,hn4⟩:∃n,psF k s m a=n:=⟨_,rfl⟩
   rw[hn4]at hrest
   obtain⟨q,hq⟩:∃q,min (p+16) s.length=q:=⟨_,rfl⟩
   have hmin:min ((p:Int)+16) (s.length:Int)=(q:Int):=by omega
   have q1:q<=s.length:=by omega
   have q2:p<=q:=by omega
   have q3:(q:Int)<=s.length:=by omega
   have q4:(p:Int)<=q:=by omega
   have hblk:aH5 s m=(s.drop p).take (q - p):=by rw[aH5,hp,List.take_eq_take_iff];simp;omega
   rw[hblk]at hof
   have H1:=h_ hof
   have H2:=h_ hplus
   have H3:=h_ htimes
   have H4:=h_ hrest
   have H5:=h_ hn4
   clear hof hplus htimes hrest hn1 hn2 hn3 hn4
   unfold Num.cells at H1 H2 H3 H4
   have HP:=h_ hp
   clear hp hq hblk
   go_wp2_with fail
   refine aF6 14 [(w3.heap.size,#[.int .u64 a.a,.int .u64 a.b,.int .u64 a.c]),(D,(iZ [r0,r1]).toArray)] [] (fun hS=>?_)
   refine kp 0 hS ?_
   refine kp 1 hS ?_
   refine kp 2 hS ?_
   refine kp 3 hS ?_
   refine kp 4 hS ?_
   refine kp 5 hS ?_
   refine kp 6 hS ?_
   refine kp 11 hS ?_
   refine kp 7 hS ?_
   refine kp 8 hS ?_
   refine cH (i:=9) (v:=?_) cD kr_ kr_ kr_ kr_ (by first | exact fun _ _ _ h=>h | exact fun _ _ _ h=>by cases h.1) (Rws.grow _) (Or.inl ⟨by rfl,?_⟩) hS ?_
   rotate_left
   ·intro w' hS'
    simp only[Rws]at hS'
    go_simp
    with_reducible refine(H1.out _).mono ?_
    rintro e w'' ⟨rfl,hb⟩
    refine⟨_,rfl,?_,hb⟩
    rfl
   (try simp only[Act.put,List.setIfInBounds_toArray,List.set_cons_zero,List.set_cons_succ])
   refine cH (i:=10) (v:=?_) cD kr_ kr_ kr_ kr_ (by first | exact fun _ _ _ h=>h | exact fun _ _ _ h=>by cases h.1) (Rws.grow _) (Or.inl ⟨by rfl,?_⟩) hS ?_
   rotate_left
   ·intro w' hS'
    simp only[Rws]at hS'
    go_simp
    with_reducible refine(H2.out _).mono ?_
    rintro e w'' ⟨rfl,hb⟩
    refine⟨_,rfl,?_,hb⟩
    rfl
   (try simp only[Act.put,List.setIfInBounds_toArray,List.set_cons_zero,List.set_cons_succ])
   refine cH (i:=12) (v:=?_) cD kr_ kr_ kr_ kr_ (by first | exact fun _ _ _ h=>h | exact fun _ _ _ h=>by cases h.1) (Rws.grow _) (Or.inl ⟨by rfl,?_⟩) hS ?_
   rotate_left
   ·intro w' hS'
    simp only[Rws]at hS'
    go_simp
    with_reducible refine(H3.out _).mono ?_
    rintro e w'' ⟨rfl,hb⟩
    refine⟨_,rfl,?_,hb⟩
    rfl
   (try simp only[Act.put,List.setIfInBounds_toArray,List.set_cons_zero,List.set_cons_succ])
   refine cH (i:=13) (v:=?_) cD kr_ kr_ kr_ kr_ (by first | exact fun _ _ _ h=>h | exact fun _ _ _ h=>by cases h.1) (Rws.grow _) (Or.inl ⟨by rfl,?_⟩) hS ?_
   rotate_left
   ·intro w' hS'
    simp only[Rws]at hS'
    go_simp
    with_reducible refine(H4.out _).mono ?_
    rintro e w'' ⟨rfl,hb⟩
    refine⟨_,rfl,?_,hb⟩
    rfl
   (try simp only[Act.put,List.setIfInBounds_toArray,List.set_cons_zero,List.set_cons_succ])
   refine bE (k:=14) cD rfl rfl kr_ (fun u1 hu1=>?_)
   have zu:wr.heap.size<=u1.heap.size:=hu1.size
   have rN1:=(aA hu1 (show _<wr.heap.size from hz)).trans rN
   have rD1:=(aA hu1 (show D<wr.heap.size by omega)).trans rD
   have rK1:=(aA hu1 (show w.heap.size<wr.heap.size by omega)).trans rK
   have rR1:=(aA hu1 (show w.heap.size+1<wr.heap.size by omega)).trans rR
   have hb1:Below w.heap.size w u1:=Below.trans hbel (Below.trans (Below.drew (Below.refl _ _)) (hu1.mono (by simp;omega)))
   clear hS hu1 H1 H2 H3 H4
   refine⟨u1.setRow w3.heap.size #[.int .u64 n4.a,.int .u64 n4.b,.int .u64 n4.c],by go_simp,trivial,fun hS=>?_⟩
   refine aG kr_ (fun w4 h4=>?_) _
   have zb4:=h4.size
   rw[setRow_size]at zb4
   go_wp2_with fail
   go_roundw
   case rel=>
    refine⟨m+1,n4,?_,by omega,?_,?_,?_,?_,?_,by omega,Below.trans (Below.setRow hb1 (by omega) _) (h4.mono (by simp;omega))⟩
    ·congr 1
     omega
    ·rw[aU,HA.out,H5.out]
    ·rw[aA h4 (by simp;omega)]
     exact aB (by rw[rN1];simp) (by rw[rN1];simp)
    ·rw[aA h4 (by simp;omega),aC _ _ _ (by omega)]
     exact rD1
    ·rw[aA h4 (by simp;omega),aC _ _ _ (by omega)]
     exact rK1
    ·rw[aA h4 (by simp;omega),aC _ _ _ (by omega)]
     exact rR1
   case measure=>have:=HP.out;simp[intOf];omega
  ·have g1:¬(16:Int)*(m:Int)<s.length:=by omega
   have hmd:m=(s.length+15) / 16:=by omega
   have hpe:=fun w=>kX a (aLs k) w hal ⟨oI _ (by simp;omega),oI _ (by simp;omega),by show(0:Nat)<18446744073709551616;decide⟩
   have hpol:aKN k s=a.plus (aLs k):=by rw[KP.out,<-hmd,HA.out]
   obtain⟨n1,hn1⟩:∃n,a.plus (aLs k)=n:=⟨_,rfl⟩
   rw[hn1]at hpe hpol
   have H1:=fun w=>kW ((k.drop 16).take 8) w (by simp;omega)
   have H2:=fun w=>kW (k.drop 24) w (by simp;omega)
   unfold aLs Num.cells at hpe
   simp only at hpe
   obtain⟨e0,he0⟩:∃n,leN ((k.drop 16).take 8)=n:=⟨_,rfl⟩
   obtain⟨e1,he1⟩:∃n,leN (k.drop 24)=n:=⟨_,rfl⟩
   rw[he0,he1]at hpe
   rw[he0]at H1
   rw[he1]at H2
   have hpe':∀w,Calls Tryz.prog 209 #[.agg #[.int .u64 a.a,.int .u64 a.b,.int .u64 a.c],.agg #[.int .u64 e0,.int .u64 e1,.int .u64 0]] w fun e w'=>e=.returned (.agg #[.int .u64 n1.a,.int .u64 n1.b,.int .u64 n1.c])/\Below w.heap.size w w':=hpe
   have G1:=h_ H1
   have G2:=h_ H2
   have G3:=h_ hpe'
   have G4:=h_ hpol
   clear H1 H2 hpe hpe' he0 he1 hn1 hpol hmd
   go_wp2_with fail
   refine aF6 9 [(w3.heap.size,#[.int .u64 a.a,.int .u64 a.b,.int .u64 a.c]),(w.heap.size,(u8s k).toArray)] [] (fun hS=>?_)
   refine kp 0 hS ?_
   refine kp 1 hS ?_
   refine kp 2 hS ?_
   refine kp 4 hS ?_
   refine kp 5 hS ?_
   refine cH (i:=3) (v:=?_) cD kr_ kr_ kr_ kr_ (by first | exact fun _ _ _ h=>h | exact fun _ _ _ h=>by cases h.1) (Rws.grow _) (Or.inl ⟨by rfl,?_⟩) hS ?_
   rotate_left
   ·intro w' hS'
    simp only[Rws]at hS'
    go_simp
    with_reducible refine(G1.out _).mono ?_
    rintro e w'' ⟨rfl,hb⟩
    refine⟨_,rfl,?_,hb⟩
    rfl
   (try simp only[Act.put,List.setIfInBounds_toArray,List.set_cons_zero,List.set_cons_succ])
   refine cH (i:=6) (v:=?_) cD kr_ kr_ kr_ kr_ (by first | exact fun _ _ _ h=>h | exact fun _ _ _ h=>by cases h.1) (Rws.grow _) (Or.inl ⟨by rfl,?_⟩) hS ?_
   rotate_left
   ·intro w' hS'
    simp only[Rws]at hS'
    go_simp
    with_reducible refine(G2.out _).mono ?_
    rintro e w'' ⟨rfl,hb⟩
    refine⟨_,rfl,?_,hb⟩
    rfl
   (try simp only[Act.put,List.setIfInBounds_toArray,List.set_cons_zero,List.set_cons_succ])
   refine kp 7 hS ?_
   refine cH (i:=8) (v:=?_) cD kr_ kr_ kr_ kr_ (by first | exact fun _ _ _ h=>h | exact fun _ _ _ h=>by cases h.1) (Rws.grow _) (Or.inl ⟨by rfl,?_⟩) hS ?_
   rotate_left
   ·intro w' hS'
    simp only[Rws]at hS'
    go_simp
    with_reducible refine(G3.out _).mono ?_
    rintro e w'' ⟨rfl,hb⟩
    refine⟨_,rfl,?_,hb⟩
    rfl
   (try simp only[Act.put,List.setIfInBounds_toArray,List.set_cons_zero,List.set_cons_succ])
   refine bE (k:=9) cD rfl rfl kr_ (fun u1 hu1=>?_)
   have zu:wr.heap.size<=u1.heap.size:=hu1.size
   have rN1:=(aA hu1 (show _<wr.heap.size from hz)).trans rN
   have rR1:=(aA hu1 (show w.heap.size+1<wr.heap.size by omega)).trans rR
   have hb1:Below w.heap.size w u1:=Below.trans hbel (Below.trans (Below.drew (Below.refl _ _)) (hu1.mono (by simp;omega)))
   clear hS hu1 G1 G2 G3
   refine⟨u1.setRow w3.heap.size #[.int .u64 n1.a,.int .u64 n1.b,.int .u64 n1.c],by go_simp,trivial,fun hS=>?_⟩
   refine aG kr_ (fun w4 h4=>?_) _
   have zb4:=h4.size
   rw[setRow_size]at zb4
   have rN4:row w4 w3.heap.size=(iZ n1.list).toArray:=by
    rw[aA h4 (by simp;omega)]
    exact aB (by rw[rN1];simp) (by rw[rN1];simp)
   have rR4:row w4 (w.heap.size+1)=(aH 16 (Value.int .u8 0)).toArray:=by
    rw[aA h4 (by simp;omega),aC _ _ _ (by omega)]
    exact rR1
   have hb4:Below w.heap.size w w4:=Below.trans (Below.setRow hb1 (by omega) _) (h4.mono (by simp;omega))
   clear hS h4 hb1 rN1 rR1 rN rD rK rR hbel
   have hn1l:n1.list.length=3:=rfl
   obtain⟨X,hX⟩:∃X,n1.list=X:=⟨_,rfl⟩
   rw[hX]at rN4 hn1l
   have HX:=h_ hX
   clear hX
   have zN4:w3.heap.size<w4.heap.size:=by omega
   clear zb4 zu
   go_wp2_with fail
   go_loopw [49] (fun i wq=>∃(m:Nat) (B:List UInt8),m<=16/\i=.int .i64 m/\aU (aFd X) m (List.replicate 16 0)=B/\row wq w4.heap.size=(u8s B).toArray/\row wq w3.heap.size=(iZ X).toArray/\row wq (w.heap.size+1)=(aH 16 (Value.int .u8 0)).toArray/\w4.heap.size<wq.heap.size/\Below w.heap.size w wq) (fun i _=>16 - (intOf i).toNat)
   case atStart=>
    refine⟨0,_,by omega,rfl,rfl,?_,?_,?_,by simp,Below.alloc hb4 (by omega) _⟩
    ·rw[aU,aE _ _ _ rfl,aFe]
    ·rw[aD _ _ (by omega)]
     exact rN4
    ·rw[aD _ _ (by omega)]
     exact rR4
   case round=>
    clear rN4 rR4 hb4
    obtain⟨m,B,hm,rfl,hB,rB,rN,rR,hz2,hbel⟩:=hrel
    have hBl:B.length=16:=by rw[<-hB,dV (qT X)];simp
    have HB:=h_ hB
    clear hB
    by_cases hlt:m<16
    ·have f1:(m:Int)<16:=by omega
     have f2:m<B.length:=by omega
     obtain⟨q,hq⟩:∃q,m / 8=q:=⟨_,rfl⟩
     obtain⟨r,hr⟩:∃r,m%8=r:=⟨_,rfl⟩
     have e1':(m:Int) / 8=(q:Int):=by omega
     have e2':(m:Int)%8=(r:Int):=by omega
     obtain⟨p,hp⟩:∃p,8*r=p:=⟨_,rfl⟩
     have e3':(8:Int)*(r:Int)=(p:Int):=by omega
     have f3:q<X.length:=by omega
     have f4:(q:Int)<3:=by omega
     have f5:q<3:=by omega
     have f6:p<64:=by omega
     have HQ:=h_ hq
     have HR:=h_ hr
     have HPP:=h_ hp
     clear hq hr hp
     go_wp2_with fail
     go_roundw
     case rel=>
      have e:u8s (aFd X m B)=(u8s B).set m (.int .u8 ((X[q]:Int) / 2^p%256)):=by
       rw[mV]
       unfold aFd
       rw[HQ.out,HR.out,HPP.out,cO _ _ f3]
      refine⟨m+1,_,by omega,rfl,rfl,?_,by(try show row (World.setRow _ _ _) _=_);rw[aC _ _ _ (by omega)];exact rN,by(try show row (World.setRow _ _ _) _=_);rw[aC _ _ _ (by omega)];exact rR,by simp;omega,Below.setRow hbel (by omega) _⟩
      rw[aU,HB.out,e]
      exact aB (by rw[rB];simp;omega) (by rw[rB];simp)
     case measure=>simp[intOf];omega
    ·obtain rfl:m=16:=by omega
     rw[show((16:Nat):Int)=16 from rfl]
     go_wp2_with fail
     have hfin:=aB (w:=wr) (g:=w.heap.size+1) (c:=(u8s B).toArray) (by rw[rR];simp) (by rw[rR];simp[hBl])
     (try simp only[Exit.inBlock,Exit.then])
     refine bodyPost_ret (aV rfl (aK rfl ?_)) rfl ?_
     ·rw[hfin]
      simp[hBl]
     have hfi:aC8 k s=B:=by rw[aC8,G4.out,HX.out,HB.out]
     refine⟨by rw[hfin,hfi],?_⟩
     exact Below.setRow hbel (by omega) _
end
end Go.Proofs.YtiagbbknkdgmeaaGreat
