/- Texts of this proof, merged: Cha, ChaD, ChaE, ChaS, ChaM. -/
import Derived.Test.YtiagbbknkdgmeaaGreatJ2
import Derived.Test.YtiagbbknkdgmeaaGreatBytJ
import Derived.Lib.Hide
set_option linter.unusedSimpArgs false
set_option linter.unusedVariables false
set_option maxHeartbeats 8000000
set_option maxRecDepth 20000
namespace Go.Proofs.YtiagbbknkdgmeaaGreat
section
open Go.RowKit
def pG (x:Int) (k:Nat):Int:=bits .or .u32 (IntKind.u32.wrap (x*2^k)) (x / 2^(32 - k))
theorem aGR (x:Int) (w:World):
  Calls Tryz.prog 219 #[.int .u32 x,.int .i64 16] w fun e w'=>e=.returned (.int .u32 (pG x 16))/\w=w':=by
 have hb:bits .and .u64 16 31=16:=by decide+kernel
 go_enter Tryz.func219,Tryz.ntmps219
 go_wp2_with fail
 go_ret
 exact⟨rfl,rfl⟩
theorem aGS (x:Int) (w:World):
  Calls Tryz.prog 219 #[.int .u32 x,.int .i64 12] w fun e w'=>e=.returned (.int .u32 (pG x 12))/\w=w':=by
 have hb:bits .and .u64 12 31=12:=by decide+kernel
 go_enter Tryz.func219,Tryz.ntmps219
 go_wp2_with fail
 go_ret
 exact⟨rfl,rfl⟩
theorem aIJ (x:Int) (w:World):
  Calls Tryz.prog 219 #[.int .u32 x,.int .i64 8] w fun e w'=>e=.returned (.int .u32 (pG x 8))/\w=w':=by
 have hb:bits .and .u64 8 31=8:=by decide+kernel
 go_enter Tryz.func219,Tryz.ntmps219
 go_wp2_with fail
 go_ret
 exact⟨rfl,rfl⟩
theorem aIK (x:Int) (w:World):
  Calls Tryz.prog 219 #[.int .u32 x,.int .i64 7] w fun e w'=>e=.returned (.int .u32 (pG x 7))/\w=w':=by
 have hb:bits .and .u64 7 31=7:=by decide+kernel
 go_enter Tryz.func219,Tryz.ntmps219
 go_wp2_with fail
 go_ret
 exact⟨rfl,rfl⟩
theorem aGT {P:Program} {w:World} {fn:Func} {tmps:Array Value} {r s q t:ResultVar} {u v x y:Value} (h:fn.results=#[r,s,q,t]) (h1:jH P w tmps r u) (h2:jH P w tmps s v) (h3:jH P w tmps q x) (h4:jH P w tmps t y):(results fn tmps).run P w=.ok (.tuple #[u,v,x,y]) w:=by
 unfold jH at h1 h2 h3 h4
 rw[lJ]
 simp[h,h1,h2,h3,h4]
def qd (a b d:Int):Int:=pG (bits .xor .u32 d ((a+b)%4294967296)) 16
def qb (a b c d:Int):Int:=pG (bits .xor .u32 b ((c+qd a b d)%4294967296)) 12
def qA (a b c d:Int):Int:=(a+b+qb a b c d)%4294967296
def qD (a b c d:Int):Int:=pG (bits .xor .u32 (qd a b d) (qA a b c d)) 8
def qC (a b c d:Int):Int:=(c+qd a b d+qD a b c d)%4294967296
def qB (a b c d:Int):Int:=pG (bits .xor .u32 (qb a b c d) (qC a b c d)) 7
theorem aCR (a b c d:Int) (w:World):
  Calls Tryz.prog 224 #[.int .u32 a,.int .u32 b,.int .u32 c,.int .u32 d] w fun e w'=>e=.returned (.tuple #[.int .u32 (qA a b c d),.int .u32 (qB a b c d),.int .u32 (qC a b c d),.int .u32 (qD a b c d)])/\Below w.heap.size w w':=by
 go_enter Tryz.func224,Tryz.ntmps224
 go_wp2_with fail
 refine(aGR _ _).mono ?_
 rintro e w1 ⟨rfl,rfl⟩
 go_wp2_with fail
 refine(aGS _ _).mono ?_
 rintro e w1 ⟨rfl,rfl⟩
 go_wp2_with fail
 refine(aIJ _ _).mono ?_
 rintro e w1 ⟨rfl,rfl⟩
 go_wp2_with fail
 refine(aIK _ _).mono ?_
 rintro e w1 ⟨rfl,rfl⟩
 go_wp2_with fail
 exact bodyPost_ret (aGT rfl aP aP aP aP) rfl ⟨rfl,Below.refl _ _⟩
def dE (l:List Int):List Value:=l.map (Value.int .u32)
@[simp] theorem aKt (l : List Int) : (dE l).length = l.length := by simp [dE]
@[simp] theorem aLY (l : List Int) : eC (dE l) = true := by simp [eC, dE, Value.oneCell']
@[simp] theorem aMJ (l : List Int) (i : Nat) (h : i < (dE l).length) : (dE l)[i] = .int .u32 (l[i]'(by simpa using h)) := by simp [dE]
@[simp] theorem aMK (l : List Int) (i : Nat) (v : Int) : (dE l).set i (.int .u32 v) = dE (l.set i v) := by simp [dE, List.map_set]
def aBH (l:List Int) (a b c d:Nat):List Int:=
 (((l.set a (qA (l.getD a 0) (l.getD b 0) (l.getD c 0) (l.getD d 0))).set b (qB (l.getD a 0) (l.getD b 0) (l.getD c 0) (l.getD d 0))).set c (qC (l.getD a 0) (l.getD b 0) (l.getD c 0) (l.getD d 0))).set d (qD (l.getD a 0) (l.getD b 0) (l.getD c 0) (l.getD d 0))
theorem qO (l:List Int) (a b c d:Nat):(aBH l a b c d).length=l.length:=by simp[aBH]
attribute [local irreducible] qA qB qC qD
theorem aD1 (l:List Int) (a b c d V S:Nat) (w:World) (hl:l.length=16) (ha:a<16) (hb:b<16) (hc:c<16) (hd:d<16) (hV:row w V=#[.pointer (some ⟨S,0,none⟩)]) (hS0:row w S=(dE l).toArray):
  Calls Tryz.prog 223 #[.int .i64 a,.int .i64 b,.int .i64 c,.int .i64 d,.pointer (some ⟨V,0,none⟩)] w fun e w'=>e=.returned (.tuple #[])/\row w' S=(dE (aBH l a b c d)).toArray/\BelowBut w.heap.size S w w':=by
 have zV:V<w.heap.size:=aM (i:=0) (by rw[hV];simp)
 have zS:S<w.heap.size:=aM (i:=0) (by rw[hS0];simp;omega)
 have ka:a<l.length:=by omega
 have kb:b<l.length:=by omega
 have kc:c<l.length:=by omega
 have kd:d<l.length:=by omega
 have ia:(a:Int)<16:=by omega
 have ib:(b:Int)<16:=by omega
 have ic:(c:Int)<16:=by omega
 have id:(d:Int)<16:=by omega
 have hQ:=fun w=>aCR l[a] l[b] l[c] l[d] w
 obtain⟨xa,hxa⟩:∃x,qA l[a] l[b] l[c] l[d]=x:=⟨_,rfl⟩
 obtain⟨xb,hxb⟩:∃x,qB l[a] l[b] l[c] l[d]=x:=⟨_,rfl⟩
 obtain⟨xc,hxc⟩:∃x,qC l[a] l[b] l[c] l[d]=x:=⟨_,rfl⟩
 obtain⟨xd,hxd⟩:∃x,qD l[a] l[b] l[c] l[d]=x:=⟨_,rfl⟩
 have ht:aBH l a b c d=(((l.set a xa).set b xb).set c xc).set d xd:=by
  rw[<-hxa,<-hxb,<-hxc,<-hxd]
  simp[aBH,List.getD_eq_getElem?_getD,ka,kb,kc,kd]
 rw[ht]
 rw[hxa,hxb,hxc,hxd]at hQ
 have HQ:=h_ hQ
 clear ht hxa hxb hxc hxd hQ
 go_enter Tryz.func223,Tryz.ntmps223
 go_wp2_with fail
 refine aF6 36 [(V,#[.pointer (some ⟨S,0,none⟩)]),(S,(dE l).toArray)] [(V,#[.pointer (some ⟨S,0,none⟩)])] (fun hS=>?_)
 refine kp 0 hS ?_
 refine kp 1 hS ?_
 refine bP (i:=2) (v:=?_) cD kr_ kr_ kr_ (by decide) (by first | exact fun _ _ _ h=>h | exact fun _ _ _ h=>by cases h.1) (Rws.grow _) (Rws.grow _) (by intro w h;simp only[Rws]at h ⊢;(try simp only[h,and_self])) (Or.inl ⟨by rfl,?_⟩) hS ?_
 rotate_left
 ·intro w' hS'
  simp only[Rws]at hS'
  go_simp
  refine⟨?_,Below.refl _ _⟩
  rfl
 (try simp only[Act.put,List.setIfInBounds_toArray,List.set_cons_zero,List.set_cons_succ])
 refine bP (i:=3) (v:=?_) cD kr_ kr_ kr_ (by decide) (by first | exact fun _ _ _ h=>h | exact fun _ _ _ h=>by cases h.1) (Rws.grow _) (Rws.grow _) (by intro w h;simp only[Rws]at h ⊢;(try simp only[h,and_self])) (Or.inl ⟨by rfl,?_⟩) hS ?_
 rotate_left
 ·intro w' hS'
  simp only[Rws]at hS'
  go_simp
  refine⟨?_,Below.refl _ _⟩
  rfl
 (try simp only[Act.put,List.setIfInBounds_toArray,List.set_cons_zero,List.set_cons_succ])
 refine bP (i:=4) (v:=?_) cD kr_ kr_ kr_ (by decide) (by first | exact fun _ _ _ h=>h | exact fun _ _ _ h=>by cases h.1) (Rws.grow _) (Rws.grow _) (by intro w h;simp only[Rws]at h ⊢;(try simp only[h,and_self])) (Or.inl ⟨by rfl,?_⟩) hS ?_
 rotate_left
 ·intro w' hS'
  simp only[Rws]at hS'
  go_simp
  refine⟨?_,Below.refl _ _⟩
  rfl
 (try simp only[Act.put,List.setIfInBounds_toArray,List.set_cons_zero,List.set_cons_succ])
 refine bP (i:=5) (v:=?_) cD kr_ kr_ kr_ (by decide) (by first | exact fun _ _ _ h=>h | exact fun _ _ _ h=>by cases h.1) (Rws.grow _) (Rws.grow _) (by intro w h;simp only[Rws]at h ⊢;(try simp only[h,and_self])) (Or.inl ⟨by rfl,?_⟩) hS ?_
 rotate_left
 ·intro w' hS'
  simp only[Rws]at hS'
  go_simp
  refine⟨?_,Below.refl _ _⟩
  rfl
 (try simp only[Act.put,List.setIfInBounds_toArray,List.set_cons_zero,List.set_cons_succ])
 refine bP (i:=6) (v:=?_) cD kr_ kr_ kr_ (by decide) (by first | exact fun _ _ _ h=>h | exact fun _ _ _ h=>by cases h.1) (Rws.grow _) (Rws.grow _) (by intro w h;simp only[Rws]at h ⊢;(try simp only[h,and_self])) (Or.inl ⟨by rfl,?_⟩) hS ?_
 rotate_left
 ·intro w' hS'
  simp only[Rws]at hS'
  go_simp
  refine⟨?_,Below.refl _ _⟩
  rfl
 (try simp only[Act.put,List.setIfInBounds_toArray,List.set_cons_zero,List.set_cons_succ])
 refine bP (i:=7) (v:=?_) cD kr_ kr_ kr_ (by decide) (by first | exact fun _ _ _ h=>h | exact fun _ _ _ h=>by cases h.1) (Rws.grow _) (Rws.grow _) (by intro w h;simp only[Rws]at h ⊢;(try simp only[h,and_self])) (Or.inl ⟨by rfl,?_⟩) hS ?_
 rotate_left
 ·intro w' hS'
  simp only[Rws]at hS'
  go_simp
  refine⟨?_,Below.refl _ _⟩
  rfl
 (try simp only[Act.put,List.setIfInBounds_toArray,List.set_cons_zero,List.set_cons_succ])
 refine kp 8 hS ?_
 refine kp 9 hS ?_
 refine kp 10 hS ?_
 refine kp 11 hS ?_
 refine kp 12 hS ?_
 refine kp 13 hS ?_
 refine kp 14 hS ?_
 refine kp 15 hS ?_
 refine kp 16 hS ?_
 refine kp 17 hS ?_
 refine kp 18 hS ?_
 refine kp 19 hS ?_
 refine kp 20 hS ?_
 refine kp 21 hS ?_
 refine kp 22 hS ?_
 refine kp 23 hS ?_
 refine kp 24 hS ?_
 refine kp 25 hS ?_
 refine kp 26 hS ?_
 refine kp 27 hS ?_
 refine cH (i:=28) (v:=?_) cD kr_ kr_ kr_ kr_ (by first | exact fun _ _ _ h=>h | exact fun _ _ _ h=>by cases h.1) (Rws.grow _) (Or.inl ⟨by rfl,?_⟩) hS ?_
 rotate_left
 ·intro w' hS'
  simp only[Rws]at hS'
  go_simp
  with_reducible refine(HQ.out _).mono ?_
  rintro e w'' ⟨rfl,hb⟩
  refine⟨_,rfl,?_,hb⟩
  rfl
 (try simp only[Act.put,List.setIfInBounds_toArray,List.set_cons_zero,List.set_cons_succ])
 refine kp 29 hS ?_
 refine kp 30 hS ?_
 refine bP (i:=31) (v:=?_) cD kr_ kr_ kr_ (by decide) (by first | exact fun _ _ _ h=>h | exact fun _ _ _ h=>by cases h.1) (Rws.grow _) (Rws.grow _) (by intro w h;simp only[Rws]at h ⊢;(try simp only[h,and_self])) (Or.inl ⟨by rfl,?_⟩) hS ?_
 rotate_left
 ·intro w' hS'
  simp only[Rws]at hS'
  go_simp
  refine⟨?_,Below.refl _ _⟩
  rfl
 (try simp only[Act.put,List.setIfInBounds_toArray,List.set_cons_zero,List.set_cons_succ])
 refine bP (i:=32) (v:=?_) cD kr_ kr_ kr_ (by decide) (by first | exact fun _ _ _ h=>h | exact fun _ _ _ h=>by cases h.1) (Rws.grow _) (Rws.grow _) (by intro w h;simp only[Rws]at h ⊢;(try simp only[h,and_self])) (Or.inl ⟨by rfl,?_⟩) hS ?_
 rotate_left
 ·intro w' hS'
  simp only[Rws]at hS'
  go_simp
  refine⟨?_,Below.refl _ _⟩
  rfl
 (try simp only[Act.put,List.setIfInBounds_toArray,List.set_cons_zero,List.set_cons_succ])
 refine bP (i:=33) (v:=?_) cD kr_ kr_ kr_ (by decide) (by first | exact fun _ _ _ h=>h | exact fun _ _ _ h=>by cases h.1) (Rws.grow _) (Rws.grow _) (by intro w h;simp only[Rws]at h ⊢;(try simp only[h,and_self])) (Or.inl ⟨by rfl,?_⟩) hS ?_
 rotate_left
 ·intro w' hS'
  simp only[Rws]at hS'
  go_simp
  refine⟨?_,Below.refl _ _⟩
  rfl
 (try simp only[Act.put,List.setIfInBounds_toArray,List.set_cons_zero,List.set_cons_succ])
 refine bP (i:=34) (v:=?_) cD kr_ kr_ kr_ (by decide) (by first | exact fun _ _ _ h=>h | exact fun _ _ _ h=>by cases h.1) (Rws.grow _) (Rws.grow _) (by intro w h;simp only[Rws]at h ⊢;(try simp only[h,and_self])) (Or.inl ⟨by rfl,?_⟩) hS ?_
 rotate_left
 ·intro w' hS'
  simp only[Rws]at hS'
  go_simp
  refine⟨?_,Below.refl _ _⟩
  rfl
 (try simp only[Act.put,List.setIfInBounds_toArray,List.set_cons_zero,List.set_cons_succ])
 refine kp 35 hS ?_
 refine bP (i:=37) (v:=?_) cD kr_ kr_ kr_ (by decide) (by first | exact fun _ _ _ h=>h | exact fun _ _ _ h=>by cases h.1) (Rws.grow _) (Rws.grow _) (by intro w h;simp only[Rws]at h ⊢;(try simp only[h,and_self])) (Or.inl ⟨by rfl,?_⟩) hS ?_
 rotate_left
 ·intro w' hS'
  simp only[Rws]at hS'
  go_simp
  refine⟨?_,Below.refl _ _⟩
  rfl
 (try simp only[Act.put,List.setIfInBounds_toArray,List.set_cons_zero,List.set_cons_succ])
 refine bP (i:=40) (v:=?_) cD kr_ kr_ kr_ (by decide) (by first | exact fun _ _ _ h=>h | exact fun _ _ _ h=>by cases h.1) (Rws.grow _) (Rws.grow _) (by intro w h;simp only[Rws]at h ⊢;(try simp only[h,and_self])) (Or.inl ⟨by rfl,?_⟩) hS ?_
 rotate_left
 ·intro w' hS'
  simp only[Rws]at hS'
  go_simp
  refine⟨?_,Below.refl _ _⟩
  rfl
 (try simp only[Act.put,List.setIfInBounds_toArray,List.set_cons_zero,List.set_cons_succ])
 refine bP (i:=43) (v:=?_) cD kr_ kr_ kr_ (by decide) (by first | exact fun _ _ _ h=>h | exact fun _ _ _ h=>by cases h.1) (Rws.grow _) (Rws.grow _) (by intro w h;simp only[Rws]at h ⊢;(try simp only[h,and_self])) (Or.inl ⟨by rfl,?_⟩) hS ?_
 rotate_left
 ·intro w' hS'
  simp only[Rws]at hS'
  go_simp
  refine⟨?_,Below.refl _ _⟩
  rfl
 (try simp only[Act.put,List.setIfInBounds_toArray,List.set_cons_zero,List.set_cons_succ])
 refine bE (k:=36) cD rfl rfl kr_ (fun u1 hu1=>?_)
 have zu:w.heap.size<=u1.heap.size:=hu1.size
 have r1:row u1 S=(dE l).toArray:=by rw[aA hu1 zS];exact hS0
 have hV1:row u1 V=#[.pointer (some ⟨S,0,none⟩)]:=by rw[aA hu1 zV];exact hV
 have hb1:Below w.heap.size w u1:=Below.trans (Below.drew (Below.refl _ _)) (hu1.mono (Nat.le_refl _))
 clear hu1 hS
 have nVS:V≠S:=by
  intro e
  subst e
  rw[hV]at hS0
  have:=congrArg Array.size hS0
  simp[hl]at this
 have c1:BelowBut w.heap.size S w (u1.setRow S (dE (l.set a xa)).toArray):=(BelowBut.of hb1).trans (BelowBut.set _ _)
 refine⟨u1.setRow S (dE (l.set a xa)).toArray,by go_simp,⟨by rw[aC _ _ _ nVS];exact hV1,by simp;omega,trivial⟩,fun hS=>?_⟩
 obtain⟨w2,hw2⟩:∃w2,u1.setRow S (dE (l.set a xa)).toArray=w2:=⟨_,rfl⟩
 have r2:row w2 S=(dE (l.set a xa)).toArray:=by rw[<-hw2];exact aB (by rw[r1];simp;omega) (by rw[r1];simp)
 have z2:w.heap.size<=w2.heap.size:=by rw[<-hw2];simp;omega
 rw[hw2]at hS c1 ⊢
 clear hw2
 refine qp 38 hS ?_
 refine bI (i:=39) (b:=S) (c:=(dE ((l.set a xa).set b xb)).toArray) cD rfl rfl kr_ (by simp;(try omega)) hS (by rw[r2];simp;(try omega)) (fun w1 hr=>by rw[r2]at hr;go_simp;(try rfl)) (fun u3 hu3 ru3 hS=>?_)
 have zu3:=hu3.size
 have cu3:BelowBut w.heap.size S w (u3.setRow S (dE ((l.set a xa).set b xb)).toArray):=(c1.trans (BelowBut.of (hu3.mono (by omega)))).trans (BelowBut.set _ _)
 obtain⟨w4,hww4⟩:∃v,u3.setRow S (dE ((l.set a xa).set b xb)).toArray=v:=⟨_,rfl⟩
 have r4:row w4 S=(dE ((l.set a xa).set b xb)).toArray:=by
  rw[<-hww4]
  exact aB (by rw[ru3,r2];simp;omega) (by rw[ru3,r2];simp)
 have zw4:w.heap.size<=w4.heap.size:=by rw[<-hww4];simp;omega
 rw[hww4]at hS cu3 ⊢
 clear hww4 hu3 ru3
 refine qp 41 hS ?_
 refine bI (i:=42) (b:=S) (c:=(dE (((l.set a xa).set b xb).set c xc)).toArray) cD rfl rfl kr_ (by simp;(try omega)) hS (by rw[r4];simp;(try omega)) (fun w1 hr=>by rw[r4]at hr;go_simp;(try rfl)) (fun u5 hu5 ru5 hS=>?_)
 have zu5:=hu5.size
 have cu5:BelowBut w.heap.size S w (u5.setRow S (dE (((l.set a xa).set b xb).set c xc)).toArray):=(cu3.trans (BelowBut.of (hu5.mono (by omega)))).trans (BelowBut.set _ _)
 obtain⟨w6,hww6⟩:∃v,u5.setRow S (dE (((l.set a xa).set b xb).set c xc)).toArray=v:=⟨_,rfl⟩
 have r6:row w6 S=(dE (((l.set a xa).set b xb).set c xc)).toArray:=by
  rw[<-hww6]
  exact aB (by rw[ru5,r4];simp;omega) (by rw[ru5,r4];simp)
 have zw6:w.heap.size<=w6.heap.size:=by rw[<-hww6];simp;omega
 rw[hww6]at hS cu5 ⊢
 clear hww6 hu5 ru5
 refine qp 44 hS ?_
 refine bI (i:=45) (b:=S) (c:=(dE ((((l.set a xa).set b xb).set c xc).set d xd)).toArray) cD rfl rfl kr_ (by simp;(try omega)) hS (by rw[r6];simp;(try omega)) (fun w1 hr=>by rw[r6]at hr;go_simp;(try rfl)) (fun u7 hu7 ru7 hS=>?_)
 have zu7:=hu7.size
 have cu7:BelowBut w.heap.size S w (u7.setRow S (dE ((((l.set a xa).set b xb).set c xc).set d xd)).toArray):=(cu5.trans (BelowBut.of (hu7.mono (by omega)))).trans (BelowBut.set _ _)
 obtain⟨w8,hww8⟩:∃v,u7.setRow S (dE ((((l.set a xa).set b xb).set c xc).set d xd)).toArray=v:=⟨_,rfl⟩
 have r8:row w8 S=(dE ((((l.set a xa).set b xb).set c xc).set d xd)).toArray:=by
  rw[<-hww8]
  exact aB (by rw[ru7,r6];simp;omega) (by rw[ru7,r6];simp)
 have zw8:w.heap.size<=w8.heap.size:=by rw[<-hww8];simp;omega
 rw[hww8]at hS cu7 ⊢
 clear hww8 hu7 ru7
 refine aG kr_ (fun wN hN=>?_) _
 have r9:row wN S=(dE ((((l.set a xa).set b xb).set c xc).set d xd)).toArray:=by rw[aA hN (by omega)];exact r8
 have c9:BelowBut w.heap.size S w wN:=cu7.trans (BelowBut.of (hN.mono (by omega)))
 go_wp2_with fail
 go_end0
 exact⟨rfl,r9,c9⟩
end
section
open Go.RowKit
def aML (k:Nat) (l:List Int):List Int:=aBH l k (4+k) (8+k) (12+k)
def aMM (k:Nat) (l:List Int):List Int:=aBH l k (4+(k+1)%4) (8+(k+2)%4) (12+(k+3)%4)
def aLp (l:List Int):List Int:=aU aMM 4 (aU aML 4 l)
theorem uA (k:Nat) (l:List Int):(aML k l).length=l.length:=qO _ _ _ _ _
theorem uB (k:Nat) (l:List Int):(aMM k l).length=l.length:=qO _ _ _ _ _
theorem aCS (l:List Int):(aLp l).length=l.length:=by rw[aLp,dD uB,dD uA]
attribute [local irreducible] aBH aU
theorem aEV (l:List Int) (S:Nat) (w:World) (hl:l.length=16) (hS0:row w S=(dE l).toArray):
  Calls Tryz.prog 204 #[.pointer (some ⟨S,0,none⟩)] w fun e w'=>e=.returned (.tuple #[])/\row w' S=(dE (aLp l)).toArray/\BelowBut w.heap.size S w w':=by
 have zS:S<w.heap.size:=aM (i:=0) (by rw[hS0];simp;omega)
 go_enter Tryz.func204,Tryz.ntmps204
 go_wp2_with fail
 go_loopw [6] (fun i wr=>∃k:Nat,k<=4/\i=.int .i64 k/\row wr w.heap.size=#[.pointer (some ⟨S,0,none⟩)]/\row wr S=(dE (aU aML k l)).toArray/\w.heap.size<wr.heap.size/\BelowBut w.heap.size S w wr) (fun i _=>4 - (intOf i).toNat)
 case atStart=>
  refine⟨0,by omega,rfl,by simp[go_sem],?_,by simp,BelowBut.of eD⟩
  rw[aU]
  simp[go_sem,zS,hS0]
 case round=>
  obtain⟨k,hk,rfl,hV,hS,hz,hbel⟩:=hrel
  obtain⟨L,hL⟩:∃L,aU aML k l=L:=⟨_,rfl⟩
  have hLl:L.length=16:=by rw[<-hL,dD uA,hl]
  rw[hL]at hS
  have HL:=h_ hL
  clear hL
  by_cases hlt:k<4
  ·have h1:(k:Int)<4:=by omega
   have HT:=aD1 L k (4+k) (8+k) (12+k) w.heap.size S wr hLl (by omega) (by omega) (by omega) (by omega) hV hS
   push_cast at HT
   have HT':=h_ HT
   clear HT
   go_wp2_with fail
   refine(HT'.out).mono ?_
   rintro e w2 ⟨rfl,r2,b2⟩
   have z2:=b2.size
   have hV2:=(b2.row hz (show w.heap.size≠S by omega)).trans hV
   clear HT'
   go_wp2_with fail
   go_roundw
   case rel=>
    refine⟨k+1,by omega,rfl,hV2,?_,by omega,hbel.trans (b2.mono (by omega))⟩
    rw[aU,HL.out]
    exact r2
   case measure=>simp[intOf];omega
  ·obtain rfl:k=4:=by omega
   rw[show((4:Nat):Int)=4 from rfl]
   go_wp2_with fail
   have HF:=HL
   have hL4:=hLl
   clear HL hLl
   go_loopw [19] (fun i wr=>∃k:Nat,k<=4/\i=.int .i64 k/\row wr w.heap.size=#[.pointer (some ⟨S,0,none⟩)]/\row wr S=(dE (aU aMM k L)).toArray/\w.heap.size<wr.heap.size/\BelowBut w.heap.size S w wr) (fun i _=>4 - (intOf i).toNat)
   case atStart=>
    refine⟨0,by omega,rfl,hV,?_,hz,hbel⟩
    rw[aU]
    exact hS
   case round=>
    clear hS hV hz hbel hk hlt
    obtain⟨k,hk,rfl,hV,hS,hz,hbel⟩:=hrel
    obtain⟨M,hL⟩:∃M,aU aMM k L=M:=⟨_,rfl⟩
    have hLl:M.length=16:=by rw[<-hL,dD uB,hL4]
    rw[hL]at hS
    have HL:=h_ hL
    clear hL
    by_cases hlt:k<4
    ·have h1:(k:Int)<4:=by omega
     have HT:=aD1 M k (4+(k+1)%4) (8+(k+2)%4) (12+(k+3)%4) w.heap.size S wr hLl (by omega) (by omega) (by omega) (by omega) hV hS
     push_cast at HT
     have HT':=h_ HT
     clear HT
     go_wp2_with fail
     refine(HT'.out).mono ?_
     rintro e w2 ⟨rfl,r2,b2⟩
     have z2:=b2.size
     have hV2:=(b2.row hz (show w.heap.size≠S by omega)).trans hV
     clear HT'
     go_wp2_with fail
     go_roundw
     case rel=>
      refine⟨k+1,by omega,rfl,hV2,?_,by omega,hbel.trans (b2.mono (by omega))⟩
      rw[aU,HL.out]
      exact r2
     case measure=>simp[intOf];omega
    ·obtain rfl:k=4:=by omega
     rw[show((4:Nat):Int)=4 from rfl]
     go_wp2_with fail
     go_end0
     refine⟨rfl,?_,hbel⟩
     rw[hS,aLp,HF.out,HL.out]
end
section
open Go.RowKit
def aEW (l:List UInt8):Int:=
 bits .or .u32 (bits .or .u32 (bits .or .u32 (IntKind.u32.wrap ((l.getD 0 0).toNat:Int)) (IntKind.u32.wrap (IntKind.u32.wrap ((l.getD 1 0).toNat:Int)*256))) (IntKind.u32.wrap (IntKind.u32.wrap ((l.getD 2 0).toNat:Int)*65536))) (IntKind.u32.wrap (IntKind.u32.wrap ((l.getD 3 0).toNat:Int)*16777216))
theorem cC {α:Type} (l:List α) (i:Nat) (d:α) (h:i<l.length):l.getD i d=l[i]:=by simp[List.getD_eq_getElem?_getD,h]
theorem aIL (l:List UInt8) (w:World) (hl:4<=l.length):
  Calls Tryz.prog 222 #[.string ⟨l.toArray⟩] w fun e w'=>e=.returned (.int .u32 (aEW l))/\Below w.heap.size w w':=by
 have h0:0<l.length:=by omega
 have h1:1<l.length:=by omega
 have h2:2<l.length:=by omega
 have h3:3<l.length:=by omega
 have hw:aEW l=bits .or .u32 (bits .or .u32 (bits .or .u32 (IntKind.u32.wrap (l[0].toNat:Int)) (IntKind.u32.wrap (IntKind.u32.wrap (l[1].toNat:Int)*256))) (IntKind.u32.wrap (IntKind.u32.wrap (l[2].toNat:Int)*65536))) (IntKind.u32.wrap (IntKind.u32.wrap (l[3].toNat:Int)*16777216)):=by
  rw[aEW,cC _ _ _ h0,cC _ _ _ h1,cC _ _ _ h2,cC _ _ _ h3]
 rw[hw]
 clear hw
 have g0:(0:Int)<l.length:=by omega
 have g1:(1:Int)<l.length:=by omega
 have g2:(2:Int)<l.length:=by omega
 have g3:(3:Int)<l.length:=by omega
 go_enter Tryz.func222,Tryz.ntmps222
 go_wp2_with fail
 refine fV [] rfl trivial (fun hS=>?_)
 refine qp 0 hS ?_
 refine qp 1 hS ?_
 refine qp 2 hS ?_
 refine qp 3 hS ?_
 refine qp 4 hS ?_
 refine qp 5 hS ?_
 refine qp 6 hS ?_
 refine qp 7 hS ?_
 refine qp 8 hS ?_
 refine qp 9 hS ?_
 refine qp 10 hS ?_
 refine qp 11 hS ?_
 refine qp 12 hS ?_
 refine qp 13 hS ?_
 refine qp 14 hS ?_
 refine qp 15 hS ?_
 refine qp 16 hS ?_
 refine qp 17 hS ?_
 refine qp 18 hS ?_
 refine aG kr_ (fun wN hN=>?_) _
 replace hN:Below (w).heap.size (w) wN:=aL (Below.drew (Below.refl _ _)) hN
 go_wp2_with fail
 go_ret
 exact⟨rfl,hN⟩
def aJK:List UInt8:=[101,120,112,97,110,100,32,51,50,45,98,121,116,101,32,107]
def aGU (k nonce:List UInt8):List UInt8:=aJK++(k++([48,48,48,48]++nonce))
def uC (t:List UInt8) (i:Nat) (l:List Int):List Int:=l.set i (aEW (t.drop (4*i)))
def mJ (k:List UInt8) (count:Int) (nonce:List UInt8):List Int:=(aU (uC (aGU k nonce)) 16 (List.replicate 16 0)).set 12 count
theorem oG (t:List UInt8) (i:Nat) (l:List Int):(uC t i l).length=l.length:=by simp[uC]
theorem aAg (k:List UInt8) (count:Int) (nonce:List UInt8):(mJ k count nonce).length=16:=by simp[mJ,dD (oG _)]
theorem lX (n:Nat):dE (List.replicate n 0)=aH n (.int .u32 0):=by simp[dE,aH]
attribute [local irreducible] aEW aU
theorem aGV (k:List UInt8) (count:Int) (nonce:List UInt8) (w:World) (hk:k.length=32) (hn:nonce.length=12):
  Calls Tryz.prog 203 #[.agg (u8s k).toArray,.int .u32 count,.string ⟨nonce.toArray⟩] w fun e w'=>e=.returned (.agg (dE (mJ k count nonce)).toArray)/\Below w.heap.size w w':=by
 obtain⟨t,ht⟩:∃t,aGU k nonce=t:=⟨_,rfl⟩
 have htl:t.length=64:=by rw[<-ht];simp[aGU,aJK,hk,hn]
 have HT:=h_ ht
 go_enter Tryz.func203,Tryz.ntmps203
 go_wp2_with fail
 rw[show(101::120::112::97::110::100::32::51::50::45::98::121::116::101::32::107::(k++48::48::48::48::nonce):List UInt8)=t from HT.out]
 go_loopw [16] (fun i wr=>∃m:Nat,m<=16/\i=.int .i64 m/\row wr (w.heap.size+1+1)=(dE (aU (uC t) m (List.replicate 16 0))).toArray/\row wr (w.heap.size+1)=(aH 16 (.int .u32 0)).toArray/\w.heap.size+1+1<wr.heap.size/\Below w.heap.size w wr) (fun i _=>16 - (intOf i).toNat)
 case atStart=>
  refine⟨0,by omega,rfl,?_,by simp[go_sem],by simp,eD⟩
  rw[aU,lX]
  simp[go_sem]
 case round=>
  obtain⟨m,hm,rfl,hV,hR,hz,hbel⟩:=hrel
  obtain⟨L,hL⟩:∃L,aU (uC t) m (List.replicate 16 0)=L:=⟨_,rfl⟩
  have hLl:L.length=16:=by rw[<-hL,dD (oG _)];simp
  rw[hL]at hV
  have HL:=h_ hL
  clear hL
  by_cases hlt:m<16
  ·have h1:(m:Int)<16:=by omega
   have h2:(4:Int)*m<=t.length:=by omega
   have h3:m<L.length:=by omega
   have hwd:=h_ (fun w=>aIL (t.drop (4*m)) w (by simp;omega))
   obtain⟨x,hx⟩:∃x,aEW (t.drop (4*m))=x:=⟨_,rfl⟩
   rw[hx]at hwd
   have HX:=h_ hx
   clear hx
   go_wp2_with fail
   refine(hwd.out _).mono ?_
   rintro e w2 ⟨rfl,b2⟩
   have z2:=b2.size
   have hV2:=(aA b2 (by omega)).trans hV
   have hR2:=(aA b2 (by omega)).trans hR
   go_wp2_with fail
   go_roundw
   case rel=>
    have e:aU (uC t) (m+1) (List.replicate 16 0)=L.set m x:=by rw[aU,HL.out,uC,HX.out]
    refine⟨m+1,by omega,rfl,?_,by(try show row (World.setRow _ _ _) _=_);rw[aC _ _ _ (by omega)];exact hR2,by simp;omega,Below.setRow (Below.trans hbel (b2.mono (by omega))) (by omega) _⟩
    rw[e]
    exact aB (by rw[hV2];simp;omega) (by rw[hV2];simp)
   case measure=>simp[intOf];omega
  ·obtain rfl:m=16:=by omega
   rw[show((16:Nat):Int)=16 from rfl]
   have h12:12<L.length:=by omega
   have e12:=aB (w:=wr) (g:=w.heap.size+1+1) (c:=(dE (L.set 12 count)).toArray) (by rw[hV];simp;omega) (by rw[hV];simp)
   have hR3:row (wr.setRow (w.heap.size+1+1) (dE (L.set 12 count)).toArray) (w.heap.size+1)=(aH 16 (.int .u32 0)).toArray:=by(try show row (World.setRow _ _ _) _=_);rw[aC _ _ _ (by omega)];exact hR
   have hl12:(L.set 12 count).length=16:=by simpa using hLl
   go_wp2_with fail
   have e:L.set 12 count=mJ k count nonce:=by rw[mJ,HT.out,HL.out]
   rw[e]at e12 hl12 hR3 ⊢
   have hfin:=aB (w:=wr.setRow (w.heap.size+1+1) (dE (mJ k count nonce)).toArray) (g:=w.heap.size+1) (c:=(dE (mJ k count nonce)).toArray) (by rw[hR3];simp) (by rw[hR3];simp[hl12])
   (try simp only[Exit.inBlock,Exit.then])
   refine bodyPost_ret (aV rfl (aK rfl ?_)) rfl ?_
   ·rw[hfin]
    simp[hl12]
   refine⟨by rw[hfin],?_⟩
   exact Below.setRow (Below.setRow hbel (by omega) _) (by omega) _
def aKu (l:List Int) (i:Nat) (b:List UInt8):List UInt8:=b.set i (iR (l.getD (i / 4) 0 / 2^(8*(i%4))))
def aIM (l:List Int):List UInt8:=aU (aKu l) 64 (List.replicate 64 0)
theorem uD (l:List Int) (i:Nat) (b:List UInt8):(aKu l i b).length=b.length:=by simp[aKu]
theorem uE (l:List Int):(aIM l).length=64:=by rw[aIM,dV (uD l)];simp
theorem uF (n:Nat):u8s (List.replicate n 0)=aH n (.int .u8 0):=by simp[u8s,aH]
theorem aGW (l:List Int) (S:Nat) (w:World) (hl:l.length=16) (hS0:row w S=(dE l).toArray):
  Calls Tryz.prog 205 #[.pointer (some ⟨S,0,none⟩)] w fun e w'=>e=.returned (.agg (u8s (aIM l)).toArray)/\Below w.heap.size w w':=by
 have zS:S<w.heap.size:=aM (i:=0) (by rw[hS0];simp;omega)
 go_enter Tryz.func205,Tryz.ntmps205
 go_wp2_with fail
 go_loopw [5] (fun i wr=>∃m:Nat,m<=64/\i=.int .i64 m/\row wr (w.heap.size+1)=(u8s (aU (aKu l) m (List.replicate 64 0))).toArray/\row wr w.heap.size=(aH 64 (.int .u8 0)).toArray/\row wr S=(dE l).toArray/\w.heap.size+1<wr.heap.size/\Below w.heap.size w wr) (fun i _=>64 - (intOf i).toNat)
 case atStart=>
  refine⟨0,by omega,rfl,?_,by simp[go_sem],by simp[go_sem,zS,hS0],by simp,eD⟩
  rw[aU,uF]
  simp[go_sem]
 case round=>
  obtain⟨m,hm,rfl,hV,hR,hS,hz,hbel⟩:=hrel
  obtain⟨L,hL⟩:∃L,aU (aKu l) m (List.replicate 64 0)=L:=⟨_,rfl⟩
  have hLl:L.length=64:=by rw[<-hL,dV (uD _)];simp
  rw[hL]at hV
  have HL:=h_ hL
  clear hL
  by_cases hlt:m<64
  ·have h1:(m:Int)<64:=by omega
   have h3:m<L.length:=by omega
   obtain⟨q,hq⟩:∃q,m / 4=q:=⟨_,rfl⟩
   obtain⟨r,hr⟩:∃r,m%4=r:=⟨_,rfl⟩
   have e1:(m:Int) / 4=(q:Int):=by omega
   have e2:(m:Int)%4=(r:Int):=by omega
   obtain⟨p,hp⟩:∃p,8*r=p:=⟨_,rfl⟩
   have e3:(8:Int)*(r:Int)=(p:Int):=by omega
   have h11:p<32:=by omega
   have HP:=h_ hp
   clear hp
   have h8:q<l.length:=by omega
   have h9:(q:Int)<16:=by omega
   have h9':q<16:=by omega
   have h10:r<4:=by omega
   have HQ:=h_ hq
   have HR:=h_ hr
   clear hq hr
   go_wp2_with fail
   go_roundw
   case rel=>
    have e:u8s (aU (aKu l) (m+1) (List.replicate 64 0))=(u8s L).set m (.int .u8 (l[q] / 2^p%256)):=by
     rw[aU,HL.out,mV]
     unfold aKu
     rw[HQ.out,HR.out,HP.out,cC _ _ _ h8]
    refine⟨m+1,by omega,rfl,?_,by(try show row (World.setRow _ _ _) _=_);rw[aC _ _ _ (by omega)];exact hR,by(try show row (World.setRow _ _ _) _=_);rw[aC _ _ _ (by omega)];exact hS,by simp;omega,Below.setRow hbel (by omega) _⟩
    rw[e]
    exact aB (by rw[hV];simp;omega) (by rw[hV];simp)
   case measure=>simp[intOf];omega
  ·obtain rfl:m=64:=by omega
   rw[show((64:Nat):Int)=64 from rfl]
   have e:L=aIM l:=HL.out.symm
   rw[e]at hLl hV
   go_wp2_with fail
   have hfin:=aB (w:=wr) (g:=w.heap.size) (c:=(u8s (aIM l)).toArray) (by rw[hR];simp) (by rw[hR];simp[hLl])
   (try simp only[Exit.inBlock,Exit.then])
   refine bodyPost_ret (aV rfl (aK rfl ?_)) rfl ?_
   ·rw[hfin]
    simp[hLl]
   refine⟨by rw[hfin],?_⟩
   exact Below.setRow hbel (by omega) _
end
section
open Go.RowKit
def aAh (_:Nat) (l:List Int):List Int:=aLp l
def aFR (v:List Int) (i:Nat) (l:List Int):List Int:=l.set i ((l.getD i 0+v.getD i 0)%4294967296)
def mW (v:List Int):List Int:=aU (aFR v) 16 (aU aAh 10 v)
def iS (k:List UInt8) (count:Int) (nonce:List UInt8):List UInt8:=aIM (mW (mJ k count nonce))
theorem wB (i:Nat) (l:List Int):(aAh i l).length=l.length:=aCS l
theorem mX (v:List Int) (i:Nat) (l:List Int):(aFR v i l).length=l.length:=by simp[aFR]
theorem iT (k:List UInt8) (count:Int) (nonce:List UInt8):(iS k count nonce).length=64:=uE _
attribute [local irreducible] mJ aLp aIM aU
theorem xT (k:List UInt8) (count:Int) (nonce:List UInt8) (w:World) (hk:k.length=32) (hn:nonce.length=12):
  Calls Tryz.prog 181 #[.agg (u8s k).toArray,.int .u32 count,.string ⟨nonce.toArray⟩] w fun e w'=>e=.returned (.agg (u8s (iS k count nonce)).toArray)/\Below w.heap.size w w':=by
 have HF:=h_ (fun w=>aGV k count nonce w hk hn)
 have hfl:=aAg k count nonce
 obtain⟨f,hf⟩:∃f,mJ k count nonce=f:=⟨_,rfl⟩
 have hst:iS k count nonce=aIM (mW f):=by rw[iS,hf]
 rw[hst]
 rw[hf]at HF hfl
 clear hf hst
 have hol:=uE (mW f)
 go_enter Tryz.func181,Tryz.ntmps181
 go_wp2_with fail
 refine(HF.out _).mono ?_
 rintro e w1 ⟨rfl,b1⟩
 have hR:row w1 (w.heap.size+1)=(aH 64 (.int .u8 0)).toArray:=by rw[aA b1 (by simp)];simp[go_sem]
 have z1:=(b1).size
 try simp at z1
 replace b1:=cJ b1 (show Below (w).heap.size w _ from by(repeat (first | exact Below.refl _ _ | refine Below.al ?_ _ | refine Below.drew ?_ | refine Below.sr ?_ _ | refine Below.sc ?_ _))) (by first | (simp;done) | (simp;omega) | omega)
 clear HF
 go_wp2_with fail
 go_loopw [15] (fun i wr=>∃m:Nat,m<=10/\i=.int .i64 m/\row wr (w1.heap.size+1)=(dE (aU aAh m f)).toArray/\row wr w1.heap.size=(dE f).toArray/\row wr (w.heap.size+1)=(aH 64 (.int .u8 0)).toArray/\w1.heap.size+1<wr.heap.size/\Below w.heap.size w wr) (fun i _=>10 - (intOf i).toNat)
 case atStart=>
  have q1:w.heap.size+1<w1.heap.size:=by omega
  refine⟨0,by omega,rfl,?_,?_,?_,by simp,?_⟩
  ·rw[aU]
   exact aE _ _ _ (by simp)
  ·rw[aD _ _ (by simp)]
   exact aE _ _ _ rfl
  ·rw[aD _ _ (by simp;omega),aD _ _ (by omega)]
   exact hR
  ·exact Below.alloc (Below.alloc b1 (by omega) _) (by simp;omega) _
 case round=>
  clear hR b1
  obtain⟨m,hm,rfl,hW,hV,hR,hz,hbel⟩:=hrel
  obtain⟨L,hL⟩:∃L,aU aAh m f=L:=⟨_,rfl⟩
  have hLl:L.length=16:=by rw[<-hL,dD wB,hfl]
  rw[hL]at hW
  have HL:=h_ hL
  clear hL
  by_cases hlt:m<10
  ·have h1:(m:Int)<10:=by omega
   go_wp2_with fail
   refine(aEV L _ _ hLl hW).mono ?_
   rintro e w2 ⟨rfl,r2,b2⟩
   have z2:=b2.size
   have hV2:=(b2.row (by omega) (by omega)).trans hV
   have hR2:=(b2.row (by omega) (by omega)).trans hR
   go_wp2_with fail
   go_roundw
   case rel=>
    refine⟨m+1,by omega,rfl,?_,hV2,hR2,by omega,Below.trans hbel ((b2.mono (by omega)).below (by omega))⟩
    rw[aU,HL.out]
    exact r2
   case measure=>simp[intOf];omega
  ·obtain rfl:m=10:=by omega
   rw[show((10:Nat):Int)=10 from rfl]
   have H10:=HL
   have h10:=hLl
   clear HL hLl hlt hm
   go_wp2_with fail
   go_loopw [19] (fun i wq=>∃m:Nat,m<=16/\i=.int .i64 m/\row wq (w1.heap.size+1)=(dE (aU (aFR f) m L)).toArray/\row wq w1.heap.size=(dE f).toArray/\row wq (w.heap.size+1)=(aH 64 (.int .u8 0)).toArray/\w1.heap.size+1<wq.heap.size/\Below w.heap.size w wq) (fun i _=>16 - (intOf i).toNat)
   case atStart=>
    refine⟨0,by omega,rfl,?_,hV,hR,hz,hbel⟩
    rw[aU];exact hW
   case round=>
    clear hR hW hV hz hbel
    obtain⟨m,hm,rfl,hW,hV,hR,hz,hbel⟩:=hrel
    obtain⟨M,hM⟩:∃M,aU (aFR f) m L=M:=⟨_,rfl⟩
    have hMl:M.length=16:=by rw[<-hM,dD (mX f),h10]
    rw[hM]at hW
    have HM:=h_ hM
    clear hM
    by_cases hlt:m<16
    ·have h1:(m:Int)<16:=by omega
     have k1:m<M.length:=by omega
     have k2:m<f.length:=by omega
     go_wp2_with fail
     go_region
     go_wp2_with fail
     go_roundw
     case rel=>
      have e:aU (aFR f) (m+1) L=M.set m ((M[m]+f[m])%4294967296):=by
       rw[aU,HM.out,aFR,cC _ _ _ k1,cC _ _ _ k2]
      refine⟨m+1,by omega,rfl,?_,by(try show row (World.setRow _ _ _) _=_);rw[aC _ _ _ (by omega)];exact hV,by(try show row (World.setRow _ _ _) _=_);rw[aC _ _ _ (by omega)];exact hR,by simp;omega,Below.drew (Below.setRow hbel (by omega) _)⟩
      rw[e]
      exact aB (by rw[hW];simp;omega) (by rw[hW];simp)
     case measure=>simp[intOf];omega
    ·obtain rfl:m=16:=by omega
     rw[show((16:Nat):Int)=16 from rfl]
     have e:M=mW f:=by rw[mW,H10.out];exact HM.out.symm
     have hMl':=hMl
     rw[e]at hW hMl'
     go_wp2_with fail
     refine(aGW (mW f) _ _ hMl' hW).mono ?_
     rintro e w3 ⟨rfl,b3⟩
     have z3:=b3.size
     have hR3:=(aA b3 (by omega)).trans hR
     go_wp2_with fail
     have hfin:=aB (w:=w3) (g:=w.heap.size+1) (c:=(u8s (aIM (mW f))).toArray) (by rw[hR3];simp) (by rw[hR3];simp[hol])
     (try simp only[Exit.inBlock,Exit.then])
     refine bodyPost_ret (aV rfl (aK rfl ?_)) rfl ?_
     ·rw[hfin]
      simp[hol]
     refine⟨by rw[hfin],?_⟩
     exact Below.setRow (Below.trans hbel (b3.mono (by omega))) (by omega) _
theorem aGX (k:List UInt8) (count:Int) (nonce:List UInt8) (w:World) (hk:k.length=32) (hn:nonce.length=12):
  Calls Tryz.prog 182 #[.agg (u8s k).toArray,.int .u32 count,.string ⟨nonce.toArray⟩] w fun e w'=>e=.returned (.tuple #[.string ⟨(iS k count nonce).toArray⟩,.int .i64 0])/\Below w.heap.size w w':=by
 have HS:=h_ (fun w=>xT k count nonce w hk hn)
 obtain⟨t,ht⟩:∃t,iS k count nonce=t:=⟨_,rfl⟩
 have hl:t.length=64:=by rw[<-ht];exact iT _ _ _
 rw[ht]at HS ⊢
 clear ht
 have h:((nonce.length:Int) !=12)=false:=by simp;omega
 go_enter Tryz.func182,Tryz.ntmps182
 go_wp2_with fail
 refine(HS.out _).mono ?_
 rintro e w1 ⟨rfl,b1⟩
 replace b1:=cJ b1 (show Below (w).heap.size w _ from by(repeat (first | exact Below.refl _ _ | refine Below.al ?_ _ | refine Below.drew ?_ | refine Below.sr ?_ _ | refine Below.sc ?_ _))) (by first | (simp;done) | (simp;omega) | omega)
 clear h
 go_wp2_with fail
 go_ret2
 exact⟨rfl,Below.alloc b1 (by have:=b1.size;omega) _⟩
end
section
open Go.RowKit
def ksB (k:List UInt8) (count:Int) (nonce:List UInt8) (j:Nat):UInt8:=(iS k ((count+((j / 64:Nat):Int))%4294967296) nonce).getD (j%64) 0
def mkL (k:List UInt8) (count:Int) (nonce l:List UInt8) (n:Nat):List UInt8:=(List.range l.length).map fun j=>if j<n then l.getD j 0^^^ksB k count nonce j else l.getD j 0
def kV (k:List UInt8) (count:Int) (nonce l:List UInt8):List UInt8:=mkL k count nonce l l.length
theorem lY (k:List UInt8) (count:Int) (nonce l:List UInt8) (n:Nat):(mkL k count nonce l n).length=l.length:=by simp[mkL]
theorem aIN (k:List UInt8) (count:Int) (nonce l:List UInt8):mkL k count nonce l 0=l:=by
 apply List.ext_getElem (by simp[mkL])
 intro i h1 h2
 simp[mkL,List.getD_eq_getElem?_getD,h2]
theorem aGY (k:List UInt8) (count:Int) (nonce l:List UInt8) (n:Nat) (h:l.length<=n):mkL k count nonce l n=kV k count nonce l:=by
 apply List.ext_getElem (by simp[mkL,kV])
 intro i h1 h2
 have:i<l.length:=by simpa[mkL]using h1
 simp[mkL,kV,this,show i<n by omega]
theorem aGZ (k:List UInt8) (count:Int) (nonce l:List UInt8) (n:Nat) (hn:n<l.length) (h:n<(mkL k count nonce l n).length):(mkL k count nonce l n)[n]=l[n]:=by
 simp[mkL,List.getD_eq_getElem?_getD,hn]
theorem aD2 (k:List UInt8) (count:Int) (nonce l:List UInt8) (n:Nat) (hn:n<l.length):mkL k count nonce l (n+1)=(mkL k count nonce l n).set n (l[n]^^^ksB k count nonce n):=by
 apply List.ext_getElem (by simp[mkL])
 intro i h1 h2
 have hi:i<l.length:=by simpa[mkL]using h1
 rw[List.getElem_set]
 by_cases e:n=i
 ·subst e
  simp[mkL,List.getD_eq_getElem?_getD,hn]
 ·rw[if_neg e]
  simp only[mkL,List.getElem_map,List.getElem_range]
  by_cases h3:i<n
  ·rw[if_pos (by omega),if_pos h3]
  ·rw[if_neg (by omega),if_neg h3]
attribute [local irreducible] mkL
theorem aIO (k:List UInt8) (count:Int) (nonce l:List UInt8) (w:World) (hk:k.length=32) (hn:nonce.length=12) (hl:l.length<=100000):
  Calls Tryz.prog 150 #[.agg (u8s k).toArray,.int .u32 count,.string ⟨nonce.toArray⟩,.string ⟨l.toArray⟩] w fun e w'=>e=.returned (.tuple #[.string ⟨(kV k count nonce l).toArray⟩,.int .i64 0])/\Below w.heap.size w w':=by
 have h:((nonce.length:Int) !=12)=false:=by simp;omega
 have hl2:(l.length:Int)<=100000:=by omega
 go_enter Tryz.func150,Tryz.ntmps150
 go_wp2_with fail
 obtain⟨sp,hsp⟩:∃s,eE (w.alloc (.cells (u8s k).toArray 28)) ⟨l.toArray⟩ 5=s:=⟨_,rfl⟩
 rw[hsp]
 clear h
 go_loopw [11] (fun i wr=>∃m:Nat,i=.int .i64 (64*(m:Int))/\64*m<=l.length+63/\row wr (w.heap.size+1)=(u8s (mkL k count nonce l (64*m))++aH sp (.int .u8 0)).toArray/\row wr w.heap.size=(u8s k).toArray/\w.heap.size+1<wr.heap.size/\Below w.heap.size w wr) (fun i _=>l.length+64 - (intOf i).toNat)
 case atStart=>
  refine⟨0,by simp,by omega,?_,by simp[go_sem],by simp,eD⟩
  rw[show 64*0=0 from rfl,aIN,dI,bF _ _ _ _ _ (by simp) (by simp)]
 case round=>
  clear hsp
  obtain⟨m,rfl,hm,hO,hK,hz,hbel⟩:=hrel
  by_cases hlt:64*m<l.length
  ·have h1:(64:Int)*(m:Int)<l.length:=by omega
   have h2:(m:Int)<=100000:=by omega
   have hHS:=h_ (fun w=>xT k ((count+(m:Int))%4294967296) nonce w hk hn)
   obtain⟨t,ht⟩:∃t,iS k ((count+(m:Int))%4294967296) nonce=t:=⟨_,rfl⟩
   have htl:t.length=64:=by rw[<-ht];exact iT _ _ _
   rw[ht]at hHS
   have HT:=h_ ht
   clear ht
   have e1:(64:Int)*(m:Int) / 64=m:=by omega
   go_wp2_with fail
   (with_reducible refine(hHS.out _).mono ?_)
   rintro e w2 ⟨rfl,b2⟩
   have z2:=b2.size
   have hO2:=(aA b2 (by omega)).trans hO
   have hK2:=(aA b2 (by omega)).trans hK
   clear hHS
   by_cases hfull:64*m+64<=l.length
   ·have hc1:¬(l.length:Int) - 64*(m:Int)<64:=by omega
    go_wp2_with fail
    go_loopw [38] (fun i wq=>∃n:Nat,i=.int .i64 (n:Int)/\n<=64/\row wq (w.heap.size+1)=(u8s (mkL k count nonce l (64*m+n))++aH sp (.int .u8 0)).toArray/\row wq w2.heap.size=(u8s t).toArray/\row wq w.heap.size=(u8s k).toArray/\w2.heap.size<wq.heap.size/\Below w.heap.size w wq) (fun i _=>64 - (intOf i).toNat)
    case atStart=>
     refine⟨0,rfl,by omega,?_,by simp[go_sem],?_,by simp,Below.alloc (Below.trans hbel (b2.mono (by omega))) (by omega) _⟩
     ·rw[aD _ _ (by omega)]
      exact hO2
     ·rw[aD _ _ (by omega)]
      exact hK2
    case round=>
     clear hO hK hO2 hK2
     obtain⟨n,rfl,hn2,hO,hT,hK,hz3,hbel3⟩:=hrel
     by_cases hlt2:n<64
     ·have g1:(n:Int)<64:=by omega
      obtain⟨N,hN⟩:∃N,64*m+n=N:=⟨_,rfl⟩
      have eN:(64:Int)*(m:Int)+(n:Int)=(N:Int):=by omega
      have g2:N<l.length:=by omega
      have g3:(N:Int)<l.length:=by omega
      have g4:n<t.length:=by omega
      have g5:n<64:=by omega
      have g6:(n:Int)<64:=by omega
      rw[hN]at hO
      have HN:=h_ hN
      obtain⟨X,hX⟩:∃X,mkL k count nonce l N=X:=⟨_,rfl⟩
      have hXl:X.length=l.length:=by rw[<-hX];exact lY _ _ _ _ _
      have g7:N<X.length:=by omega
      have g9:N<l.length+sp:=by omega
      have hXN:X[N]=l[N]:=by subst hX;exact aGZ _ _ _ _ _ g2 g7
      rw[hX]at hO
      obtain⟨v,hv⟩:∃v,X[N]^^^t[n]=v:=⟨_,rfl⟩
      have hxor:=aGI X[N] t[n]
      rw[hv]at hxor
      have hset:=jR X N v
      have hmk:mkL k count nonce l (64*m+(n+1))=X.set N v:=by
       have hks:ksB k count nonce N=t[n]:=by
        unfold ksB
        rw[show N / 64=m by omega,show N%64=n by omega,HT.out,cC _ _ _ g4]
       rw[show 64*m+(n+1)=N+1 by omega,aD2 _ _ _ _ _ g2,hX,<-hv,hXN,hks]
      have HM:=h_ hmk
      clear hN hX hmk hv hXN hn2
      have hw1:IntKind.i64.wrap (N:Int)=N:=dR _ (by omega) (by omega)
      go_wp2_with fail
      refine aF6 11 [(w.heap.size+1,(u8s X++aH sp (Value.int .u8 0)).toArray),(w2.heap.size,(u8s t).toArray)] [] (fun hS=>?_)
      refine kp 0 hS ?_
      refine kp 1 hS ?_
      refine kp 2 hS ?_
      refine kp 3 hS ?_
      refine kp 4 hS ?_
      refine kp 5 hS ?_
      refine kp 6 hS ?_
      refine kp 7 hS ?_
      refine kp 8 hS ?_
      refine kp 9 hS ?_
      refine kp 10 hS ?_
      refine bE (k:=11) cD rfl rfl kr_ (fun u1 hu1=>?_)
      have zu:=hu1.size
      replace zu:wr.heap.size<=u1.heap.size:=zu
      replace hT:=(aA hu1 (show w2.heap.size<wr.heap.size by omega)).trans hT
      replace hK:=(aA hu1 (show w.heap.size<wr.heap.size by omega)).trans hK
      replace hO:=(aA hu1 (show w.heap.size+1<wr.heap.size by omega)).trans hO
      replace hbel3:Below w.heap.size w u1:=Below.trans hbel3 (Below.trans (Below.drew (Below.refl _ _)) (hu1.mono (by simp;omega)))
      clear hS hu1
      refine⟨u1.setRow (w.heap.size+1) (u8s (X.set N v)++aH sp (.int .u8 0)).toArray,by(go_simp;rw[eQ _ (by rw[hO];simp;omega),hO,List.setIfInBounds_toArray,List.set_append_left _ _ (by simp;omega),hset]),trivial,fun hS=>?_⟩
      refine aG kr_ (fun wN hN=>?_) _
      go_wp2_with fail
      go_roundw
      case rel=>
       have zN:=hN.size
       rw[setRow_size]at zN
       refine⟨n+1,rfl,by omega,?_,?_,?_,by omega,Below.trans (Below.setRow hbel3 (by omega) _) (hN.mono (by simp;omega))⟩
       ·rw[HM.out,aA hN (by simp;omega)]
        exact aB (by rw[hO];simp;omega) (by rw[hO];simp)
       ·rw[aA hN (by simp;omega),aC _ _ _ (by omega)]
        exact hT
       ·rw[aA hN (by simp;omega),aC _ _ _ (by omega)]
        exact hK
      case measure=>simp[intOf];omega
     ·obtain rfl:n=64:=by omega
      (try rw[show((64:Nat):Int)=64 from rfl])
      go_wp2_with fail
      go_roundw
      case rel=>
       refine⟨m+1,by simp;omega,by omega,?_,hK,by omega,hbel3⟩
       rw[hO]
       rfl
      case measure=>simp[intOf];omega
   ·obtain⟨b,hb⟩:∃b,l.length - 64*m=b:=⟨_,rfl⟩
    have hc1:(l.length:Int) - 64*(m:Int)=(b:Int):=by omega
    have hc2:(b:Int)<64:=by omega
    have HB:=h_ hb
    clear hb
    go_wp2_with fail
    go_loopw [38] (fun i wq=>∃n:Nat,i=.int .i64 (n:Int)/\n<=b/\row wq (w.heap.size+1)=(u8s (mkL k count nonce l (64*m+n))++aH sp (.int .u8 0)).toArray/\row wq w2.heap.size=(u8s t).toArray/\row wq w.heap.size=(u8s k).toArray/\w2.heap.size<wq.heap.size/\Below w.heap.size w wq) (fun i _=>b - (intOf i).toNat)
    case atStart=>
     refine⟨0,rfl,by omega,?_,by simp[go_sem],?_,by simp,Below.alloc (Below.trans hbel (b2.mono (by omega))) (by omega) _⟩
     ·rw[aD _ _ (by omega)]
      exact hO2
     ·rw[aD _ _ (by omega)]
      exact hK2
    case round=>
     clear hO hK hO2 hK2
     obtain⟨n,rfl,hn2,hO,hT,hK,hz3,hbel3⟩:=hrel
     by_cases hlt2:n<b
     ·have g1:(n:Int)<b:=by omega
      obtain⟨N,hN⟩:∃N,64*m+n=N:=⟨_,rfl⟩
      have eN:(64:Int)*(m:Int)+(n:Int)=(N:Int):=by omega
      have g2:N<l.length:=by omega
      have g3:(N:Int)<l.length:=by omega
      have g4:n<t.length:=by omega
      have g5:n<64:=by omega
      have g6:(n:Int)<64:=by omega
      rw[hN]at hO
      have HN:=h_ hN
      obtain⟨X,hX⟩:∃X,mkL k count nonce l N=X:=⟨_,rfl⟩
      have hXl:X.length=l.length:=by rw[<-hX];exact lY _ _ _ _ _
      have g7:N<X.length:=by omega
      have g9:N<l.length+sp:=by omega
      have hXN:X[N]=l[N]:=by subst hX;exact aGZ _ _ _ _ _ g2 g7
      rw[hX]at hO
      obtain⟨v,hv⟩:∃v,X[N]^^^t[n]=v:=⟨_,rfl⟩
      have hxor:=aGI X[N] t[n]
      rw[hv]at hxor
      have hset:=jR X N v
      have hmk:mkL k count nonce l (64*m+(n+1))=X.set N v:=by
       have hks:ksB k count nonce N=t[n]:=by
        unfold ksB
        rw[show N / 64=m by omega,show N%64=n by omega,HT.out,cC _ _ _ g4]
       rw[show 64*m+(n+1)=N+1 by omega,aD2 _ _ _ _ _ g2,hX,<-hv,hXN,hks]
      have HM:=h_ hmk
      clear hN hX hmk hv hXN hn2
      have hw1:IntKind.i64.wrap (N:Int)=N:=dR _ (by omega) (by omega)
      go_wp2_with fail
      refine aF6 11 [(w.heap.size+1,(u8s X++aH sp (Value.int .u8 0)).toArray),(w2.heap.size,(u8s t).toArray)] [] (fun hS=>?_)
      refine kp 0 hS ?_
      refine kp 1 hS ?_
      refine kp 2 hS ?_
      refine kp 3 hS ?_
      refine kp 4 hS ?_
      refine kp 5 hS ?_
      refine kp 6 hS ?_
      refine kp 7 hS ?_
      refine kp 8 hS ?_
      refine kp 9 hS ?_
      refine kp 10 hS ?_
      refine bE (k:=11) cD rfl rfl kr_ (fun u1 hu1=>?_)
      have zu:=hu1.size
      replace zu:wr.heap.size<=u1.heap.size:=zu
      replace hT:=(aA hu1 (show w2.heap.size<wr.heap.size by omega)).trans hT
      replace hK:=(aA hu1 (show w.heap.size<wr.heap.size by omega)).trans hK
      replace hO:=(aA hu1 (show w.heap.size+1<wr.heap.size by omega)).trans hO
      replace hbel3:Below w.heap.size w u1:=Below.trans hbel3 (Below.trans (Below.drew (Below.refl _ _)) (hu1.mono (by simp;omega)))
      clear hS hu1
      refine⟨u1.setRow (w.heap.size+1) (u8s (X.set N v)++aH sp (.int .u8 0)).toArray,by(go_simp;rw[eQ _ (by rw[hO];simp;omega),hO,List.setIfInBounds_toArray,List.set_append_left _ _ (by simp;omega),hset]),trivial,fun hS=>?_⟩
      refine aG kr_ (fun wN hN=>?_) _
      go_wp2_with fail
      go_roundw
      case rel=>
       have zN:=hN.size
       rw[setRow_size]at zN
       refine⟨n+1,rfl,by omega,?_,?_,?_,by omega,Below.trans (Below.setRow hbel3 (by omega) _) (hN.mono (by simp;omega))⟩
       ·rw[HM.out,aA hN (by simp;omega)]
        exact aB (by rw[hO];simp;omega) (by rw[hO];simp)
       ·rw[aA hN (by simp;omega),aC _ _ _ (by omega)]
        exact hT
       ·rw[aA hN (by simp;omega),aC _ _ _ (by omega)]
        exact hK
      case measure=>simp[intOf];omega
     ·obtain rfl:n=b:=by omega
      (try rw[show((64:Nat):Int)=64 from rfl])
      go_wp2_with fail
      go_roundw
      case rel=>
       refine⟨m+1,by simp;omega,by omega,?_,hK,by omega,hbel3⟩
       rw[hO]
       rw[aGY _ _ _ _ _ (by have:=HB.out;omega),aGY _ _ _ _ _ (by have:=HB.out;omega)]
      case measure=>simp[intOf];omega
  ·have h1:¬(64:Int)*(m:Int)<l.length:=by omega
   rw[aGY _ _ _ _ _ (by omega)]at hO
   have hml:(kV k count nonce l).length=l.length:=lY _ _ _ _ _
   go_wp2_with fail
   go_ret2
   exact⟨rfl,hbel⟩
end
end Go.Proofs.YtiagbbknkdgmeaaGreat
