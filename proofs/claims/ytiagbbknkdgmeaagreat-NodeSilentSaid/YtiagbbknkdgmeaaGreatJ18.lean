/- Texts of this proof, merged: LerN, LerM. -/
import Derived.Test.YtiagbbknkdgmeaaGreatJ11
import Derived.Test.YtiagbbknkdgmeaaGreatJ7
import Derived.Test.YtiagbbknkdgmeaaGreatJ17
set_option linter.unusedSimpArgs false
set_option linter.unusedVariables false
set_option maxHeartbeats 8000000
set_option maxRecDepth 20000
namespace Go.Proofs.YtiagbbknkdgmeaaGreat
section
open Go.RowKit Go.Shelf
def vX (v:Int) (mac:Vector UInt8 6) (m:List LB):Int:=match j5 v mac m with | some b=>b.port | none=>0
theorem aLT (v:Int) (mac:Vector UInt8 6) (m:List LB):∃age:Int,∀W M,mapOk W M->eB W M=fQ m->
  (Instr.lookup 179 (.map (some M)) (.agg (Value.int .i64 v::u8v mac).toArray) true).run Tryz.prog W=.ok (.tuple #[.agg #[Value.int .i64 (vX v mac m),Value.int .i64 age,Value.bool false],.bool (j5 v mac m).isSome]) W:=by
 refine⟨match j5 v mac m with | some b=>b.age | none=>0,fun W M h1 h2=>?_⟩
 have h:=yO key_learn eP (xA W) h1 (okL v mac) (by rw[h2];exact kK m) true
 rw[h2,aLL]at h
 refine Eq.trans h ?_
 unfold vX
 cases j5 v mac m<;>rfl
theorem aLU (v:Int) (mac:Vector UInt8 6) (m:List LB):∃port age:Int,∀W M,mapOk W M->eB W M=fQ m->
  (Instr.lookup 179 (.map (some M)) (.agg (Value.int .i64 v::u8v mac).toArray) false).run Tryz.prog W=.ok (.agg #[Value.int .i64 port,Value.int .i64 age,Value.bool false]) W:=by
 refine⟨vX v mac m,match j5 v mac m with | some b=>b.age | none=>0,fun W M h1 h2=>?_⟩
 have h:=yO key_learn eP (xA W) h1 (okL v mac) (by rw[h2];exact kK m) false
 rw[h2,aLL]at h
 refine Eq.trans h ?_
 unfold vX
 cases j5 v mac m<;>rfl
theorem aGx (v:Int) (mac:Vector UInt8 6) (w:World) {T M:Nat} {ageing:Int} {lv:Value} {m:List LB} (h:LerT w T M ageing lv m):
  Calls Tryz.prog 136 #[.pointer (some ⟨T,0,none⟩),.int .i64 v,.agg (u8v mac).toArray] w fun e w'=>e=.returned (.tuple #[.int .i64 (vX v mac m),.bool (j5 v mac m).isSome])/\Below w.heap.size w w':=by
 have hr:=h.row
 have hlt:=h.lt
 have hMlt:=h.ok.lt
 obtain⟨age,hl⟩:=aLT v mac m
 obtain⟨fm,hfm⟩:∃x,vX v mac m=x:=⟨_,rfl⟩
 obtain⟨fh,hfh⟩:∃x,(j5 v mac m).isSome=x:=⟨_,rfl⟩
 rw[hfm,hfh]at hl ⊢
 have HL:=h_ hl
 clear hfm hfh hl
 go_enter Tryz.func136,Tryz.ntmps136
 obtain⟨W,hW⟩:∃W,w.alloc (.cells (u8v mac).toArray 77)=W:=⟨_,rfl⟩
 have bW:Below w.heap.size w W:=by rw[<-hW];exact ba_
 have rQ:row W w.heap.size=(u8v mac).toArray:=by rw[<-hW];simp[go_sem]
 have zW:W.heap.size=w.heap.size+1:=by rw[<-hW];simp
 have hT:=h.below bW hlt hMlt
 have hrT:=hT.row
 have hM:=hT.ok
 have hLL:=hT.map
 clear h hT hr
 go_wp2_with fail
 clear hW
 refine aLH [(T,#[Value.int .i64 ageing,lv,Value.map (some M)]),(w.heap.size,(u8v mac).toArray)] M (fQ m) (hM) (hLL) (fun hS=>?_)
 refine mp 0 hS ?_
 refine mp 1 hS ?_
 refine mp 2 hS ?_
 refine mp 3 hS ?_
 refine mp 4 hS ?_
 refine mp 5 hS ?_
 refine mp 6 hS ?_
 refine cU (i:=7) (v:=?_) cD kr_ kr_ kr_ (by first | exact fun _ _ _ h=>h | exact fun _ _ _ h=>by cases h.1) (MapS.grow _ _ _) (Or.inl ⟨by rfl,?_⟩) hS ?_
 rotate_left
 ·intro w' hS'
  obtain⟨hS',hM',hL'⟩:=hS'
  have hrun:=HL.out _ _ hM' hL'
  simp only[Rws]at hS'
  go_simp
  refine⟨?_,Below.refl _ _⟩
  rfl
 (try simp only[Act.put,List.setIfInBounds_toArray,List.set_cons_zero,List.set_cons_succ])
 refine mp 8 hS ?_
 refine mp 9 hS ?_
 refine mp 10 hS ?_
 refine lL (i:=11) (k:=12) (zi:=([Value.int .i64 0,Value.int .i64 0,Value.bool false]).toArray) (cA:=([Value.int .i64 fm,Value.int .i64 age,Value.bool false]).toArray) cD cD ⟨rfl,rfl,fun a w=>by go_simp;(refine⟨?_,?_⟩<;>rfl)⟩ kr_ kr_ rfl rfl (by simp[*]) (by simp) (by simp;(try omega)) (fun A w1 hr=>by
  simp only[Act.put,List.setIfInBounds_toArray,List.set_cons_zero,List.set_cons_succ,ptr]
  go_simp
  try rfl) hS (fun X w3 gX zX b3 rX hS=>?_)
 (try simp only[Act.put,List.setIfInBounds_toArray,List.set_cons_zero,List.set_cons_succ])
 replace gX:(W).heap.size<=X:=gX
 replace b3:Below (W).heap.size W w3:=Below.trans (Below.drew (Below.refl _ _)) b3
 have zw3:=(b3).size
 simp only[ptr]
 refine mp 13 hS ?_
 refine aG kr_ (fun w4 b4=>?_) _
 have z4:=b4.size
 have rX4:=(aA b4 (by omega)).trans rX
 have B4:=bW.trans ((b3.trans (b4.mono (by omega))).mono (by omega))
 clear hS hM hLL b3 b4
 go_wp2_with fail
 go_ret2
 exact⟨rfl,B4⟩
section
variable (w:World) {T M:Nat} {ageing:Int} {la:Option Addr} {cap:Nat} {lims:List Int} {m:List LB} (v:Int) (mac:Vector UInt8 6) (k:Nat)
theorem aKm (h:LerT w T M ageing (.slice la lims.length cap) m) (h1:1<=v) (h2:v<=4094) (hg:grp mac=false) (hk:k<lims.length) (hk2:lims.length<=1000):
  Calls Tryz.prog 126 #[.pointer (some ⟨T,0,none⟩),.int .i64 v,.agg (u8v mac).toArray,.int .i64 (k:Int)] w fun e w'=>e=.returned (.int .i64 0)/\Below w.heap.size w w':=by
 have hr:=h.row
 have hlt:=h.lt
 have hMlt:=h.ok.lt
 obtain⟨port,age,hl⟩:=aLU v mac m
 have HL:=h_ hl
 have HG:=h_ (fun w=>gZ mac w)
 rw[hg]at HG
 clear hl hg
 have hv1:¬v<1:=by omega
 have hv2:¬4094<v:=by omega
 have hp1:¬(k:Int)<0:=by omega
 have hp2:¬(lims.length:Int)<=(k:Int):=by omega
 go_enter Tryz.func126,Tryz.ntmps126
 obtain⟨W,hW⟩:∃W,w.alloc (.cells (u8v mac).toArray 77)=W:=⟨_,rfl⟩
 have bW:Below w.heap.size w W:=by rw[<-hW];exact ba_
 have rQ:row W w.heap.size=(u8v mac).toArray:=by rw[<-hW];simp[go_sem]
 have zW:W.heap.size=w.heap.size+1:=by rw[<-hW];simp
 have hT:=h.below bW hlt hMlt
 clear h hr
 go_wp2_with fail
 try clear hW
 (with_reducible refine(HG.out _).mono ?_)
 rintro e w1 ⟨rfl,b1⟩
 have z1:=b1.size
 have hT1:=hT.below b1 (by omega) (by omega)
 have rQ1:=(aA b1 (by omega)).trans rQ
 have hrT:=hT1.row
 have hM:=hT1.ok
 have hLL:=hT1.map
 have B1:=bW.trans (b1.mono (by omega))
 clear hT hT1 b1 rQ
 go_wp2_with fail
 refine aLH [(T,#[Value.int .i64 ageing,Value.slice la lims.length cap,Value.map (some M)]),(w.heap.size,(u8v mac).toArray)] M (fQ m) (hM) (hLL) (fun hS=>?_)
 refine mp 0 hS ?_
 refine mp 1 hS ?_
 refine mp 2 hS ?_
 refine mp 3 hS ?_
 refine mp 4 hS ?_
 refine mp 5 hS ?_
 refine mp 6 hS ?_
 refine cU (i:=7) (v:=?_) cD kr_ kr_ kr_ (by first | exact fun _ _ _ h=>h | exact fun _ _ _ h=>by cases h.1) (MapS.grow _ _ _) (Or.inl ⟨by rfl,?_⟩) hS ?_
 rotate_left
 ·intro w' hS'
  obtain⟨hS',hM',hL'⟩:=hS'
  have hrun:=HL.out _ _ hM' hL'
  simp only[Rws]at hS'
  go_simp
  refine⟨?_,Below.refl _ _⟩
  rfl
 (try simp only[Act.put,List.setIfInBounds_toArray,List.set_cons_zero,List.set_cons_succ])
 refine mp 8 hS ?_
 refine aG kr_ (fun w4 b4=>?_) _
 have B4:=B1.trans ((aL (Below.drew (Below.refl _ _)) b4).mono (by omega))
 clear hS hM hLL b4
 go_wp2_with fail
 go_ret
 exact⟨rfl,B4⟩
theorem aEM (h:LerT w T M ageing (.slice la lims.length cap) m) (hTM:T≠M) (hI:IntsAt w la lims) (hd:fJ m) (hml:m.length<=1000000) (h1:1<=v) (h2:v<=4094) (hg:grp mac=false) (hk:k<lims.length) (hk2:lims.length<=1000):
  Calls Tryz.prog 96 #[.pointer (some ⟨T,0,none⟩),.int .i64 v,.agg (u8v mac).toArray,.int .i64 (k:Int)] w fun e w'=>(∃n:Int,e=.returned (.int .i64 n))/\BelowBut w.heap.size M w w'/\LerT w' T M ageing (.slice la lims.length cap) (j6 lims[k] v mac k m):=by
 have hr:=h.row
 have hlt:=h.lt
 have hMlt:=h.ok.lt
 obtain⟨lim,hlim⟩:∃x,lims[k]=x:=⟨_,rfl⟩
 rw[hlim]
 obtain⟨age,hl⟩:=aLT v mac m
 obtain⟨fm,hfm⟩:∃x,vX v mac m=x:=⟨_,rfl⟩
 obtain⟨fh,hfh⟩:∃x,(j5 v mac m).isSome=x:=⟨_,rfl⟩
 obtain⟨oc,hoc⟩:∃x,onL (k:Int) m=x:=⟨_,rfl⟩
 have hhear:j6 lim v mac k m=if (fh&&fm==(k:Int))||decide ((oc:Int)<lim)then aAE ⟨v,mac,k,0⟩ m else m:=by
  rw[<-hfm,<-hfh,<-hoc]
  unfold j6 vX
  cases j5 v mac m<;>rfl
 have HH:=h_ hhear
 rw[hfm,hfh]at hl
 have HL:=h_ hl
 have HM:=h_ (fun w (h:LerT w T M ageing (.slice la lims.length cap) m)=>aKm w v mac k h h1 h2 hg hk hk2)
 have HO:=h_ (fun w (h:LerT w T M ageing (.slice la lims.length cap) m)=>aKj w h hd hml (k:Int))
 rw[hoc]at HO
 have hcell:=fun W (hW:IntsAt W la lims)=>hW.get hk
 rw[hlim]at hcell
 obtain⟨lb,lo,rfl,_,_⟩:=hcell w hI
 have HC:=h_ (show ∀W,IntsAt W (some ⟨lb,lo,none⟩) lims->W.cell? ⟨lb,lo+k,none⟩=some (.int .i64 lim)from fun W hW=>by
  obtain⟨b',o',e,_,hc⟩:=hcell W hW
  cases e
  exact hc)
 clear hhear hlim hfm hfh hoc hl h1 h2 hg hd hml hcell
 have hkI:(k:Int)<(lims.length:Int):=by omega
 have hk0:(0:Int)<=(k:Int):=by omega
 have hkm:(lims.length:Int)<=1000:=by omega
 go_enter Tryz.func96,Tryz.ntmps96
 obtain⟨W,hW⟩:∃W,w.alloc (.cells (u8v mac).toArray 77)=W:=⟨_,rfl⟩
 have bW:Below w.heap.size w W:=by rw[<-hW];exact ba_
 have rQ:row W w.heap.size=(u8v mac).toArray:=by rw[<-hW];simp[go_sem]
 have zW:W.heap.size=w.heap.size+1:=by rw[<-hW];simp
 have hT:=h.below bW hlt hMlt
 have hIW:=hI.below bW
 clear h hr hI
 go_wp2_with fail
 try clear hW
 (with_reducible refine(HM.out _ hT).mono ?_)
 rintro e w1 ⟨rfl,b1⟩
 have z1:=b1.size
 have hT1:=hT.below b1 (by omega) (by omega)
 have hI1:=hIW.below b1
 have rQ1:=(aA b1 (by omega)).trans rQ
 have B1:=bW.trans (b1.mono (by omega))
 clear hT b1 rQ hIW HM
 obtain⟨w2,hw2⟩:∃x,w1.alloc (.cells (Value.int .i64 v::u8v mac).toArray 198)=x:=⟨_,rfl⟩
 have rK:row w2 w1.heap.size=(Value.int .i64 v::u8v mac).toArray:=by rw[<-hw2];exact aE _ _ _ rfl
 have z2:w2.heap.size=w1.heap.size+1:=by rw[<-hw2];exact aF _ _
 have b12:Below w1.heap.size w1 w2:=by rw[<-hw2];exact ba_
 have hT2:=hT1.below b12 (by omega) (by omega)
 have hI2:=hI1.below b12
 have B2:=B1.trans (b12.mono (by omega))
 have hrT:=hT2.row
 have hM:=hT2.ok
 have hLL:=hT2.map
 clear b12 hT1 hI1 B1
 go_wp2_with fail
 clear hw2
 refine aLH [(T,#[Value.int .i64 ageing,Value.slice (some ⟨lb,lo,none⟩) lims.length cap,Value.map (some M)]),(w1.heap.size,(Value.int .i64 v::u8v mac).toArray)] M (fQ m) (hM) (hLL) (fun hS=>?_)
 refine mp 0 hS ?_
 refine mp 1 hS ?_
 refine mp 2 hS ?_
 refine mp 3 hS ?_
 refine mp 4 hS ?_
 refine cU (i:=5) (v:=?_) cD kr_ kr_ kr_ (by first | exact fun _ _ _ h=>h | exact fun _ _ _ h=>by cases h.1) (MapS.grow _ _ _) (Or.inl ⟨by rfl,?_⟩) hS ?_
 rotate_left
 ·intro w' hS'
  obtain⟨hS',hM',hL'⟩:=hS'
  have hrun:=HL.out _ _ hM' hL'
  simp only[Rws]at hS'
  go_simp
  refine⟨?_,Below.refl _ _⟩
  rfl
 (try simp only[Act.put,List.setIfInBounds_toArray,List.set_cons_zero,List.set_cons_succ])
 refine mp 6 hS ?_
 refine mp 7 hS ?_
 refine mp 8 hS ?_
 refine lL (i:=9) (k:=10) (zi:=([Value.int .i64 0,Value.int .i64 0,Value.bool false]).toArray) (cA:=([Value.int .i64 fm,Value.int .i64 age,Value.bool false]).toArray) cD cD ⟨rfl,rfl,fun a w=>by go_simp;(refine⟨?_,?_⟩<;>rfl)⟩ kr_ kr_ rfl rfl (by simp[*]) (by simp) (by simp;(try omega)) (fun A w1 hr=>by
  simp only[Act.put,List.setIfInBounds_toArray,List.set_cons_zero,List.set_cons_succ,ptr]
  go_simp
  try rfl) hS (fun X w3 gX zX b3 rX hS=>?_)
 (try simp only[Act.put,List.setIfInBounds_toArray,List.set_cons_zero,List.set_cons_succ])
 replace gX:(w2).heap.size<=X:=gX
 replace b3:Below (w2).heap.size w2 w3:=Below.trans (Below.drew (Below.refl _ _)) b3
 have zw3:=(b3).size
 simp only[ptr]
 refine mp 11 hS ?_
 refine aG kr_ (fun w4 b4=>?_) _
 have z4:=b4.size
 have b24:=b3.trans (b4.mono (by omega))
 have hT4:=hT2.below b24 (by omega) (by omega)
 have hI4:=hI2.below b24
 have rK4:=(aA b24 (by omega)).trans rK
 have rX4:=(aA b4 (by omega)).trans rX
 have B4:=B2.trans (b24.mono (by omega))
 have hrT4:=hT4.row
 clear hLL hM hrT b24 b3 b4 hS rK hT2 hI2 B2 rQ1 HL
 have hG:GrowP fun W=>(LerT W T M ageing (.slice (some ⟨lb,lo,none⟩) lims.length cap) m/\(T<W.heap.size/\M<W.heap.size))/\IntsAt W (some ⟨lb,lo,none⟩) lims:=fun W W' hX hb=>⟨⟨hX.1.1.below hb hX.1.2.1 hX.1.2.2,by have:=hb.size;omega,by have:=hb.size;omega⟩,hX.2.below hb⟩
 have hX4:(LerT w4 T M ageing (.slice (some ⟨lb,lo,none⟩) lims.length cap) m/\(T<w4.heap.size/\M<w4.heap.size))/\IntsAt w4 (some ⟨lb,lo,none⟩) lims:=⟨⟨hT4,by omega,by omega⟩,hI4⟩
 clear hT4 hI4
 have HCC:=HC.out
 cases fh with
 | false=>
  by_cases hfull:lim<=(oc:Int)
  ·skip
   go_wp2_with fail
   refine nV [(T,#[Value.int .i64 ageing,Value.slice (some ⟨lb,lo,none⟩) lims.length cap,Value.map (some M)]),(w1.heap.size,(Value.int .i64 v::u8v mac).toArray),(X,#[Value.int .i64 fm,Value.int .i64 age,Value.bool false])] (fun W=>(LerT W T M ageing (.slice (some ⟨lb,lo,none⟩) lims.length cap) m/\(T<W.heap.size/\M<W.heap.size))/\IntsAt W (some ⟨lb,lo,none⟩) lims) hG (hX4) (fun hS=>?_)
   refine sp 0 hG hS ?_
   refine sp 1 hG hS ?_
   refine sp 2 hG hS ?_
   refine sn 3 hG hS ?_
   refine sn 4 hG hS ?_
   refine sn 5 hG hS ?_
   refine sn 6 hG hS ?_
   refine sp 7 hG hS ?_
   refine sp 8 hG hS ?_
   refine sp 9 hG hS ?_
   refine sp 10 hG hS ?_
   refine sc 11 (v:=?_) hG hS ?_ ?_
   rotate_left
   ·intro w' hS'
    obtain⟨hS',hX'⟩:=hS'
    simp only[Rws]at hS'
    go_simp
    with_reducible refine(HO.out _ hX'.1.1).mono ?_
    rintro e w'' ⟨rfl,hb⟩
    exact⟨_,rfl,by rfl,hb⟩
   refine sp 12 hG hS ?_
   refine sp 13 hG hS ?_
   refine sp 14 hG hS ?_
   refine sp 15 hG hS ?_
   refine sp 16 hG hS ?_
   refine sp 17 hG hS ?_
   refine sp 18 hG hS ?_
   refine sp 19 hG hS ?_
   refine sp 20 hG hS ?_
   refine aG kr_ (fun w5 bw5=>?_) _
   have b5:=bw5
   clear bw5
   have z5:=b5.size
   replace z5:w4.heap.size<=w5.heap.size:=z5
   replace b5:Below w4.heap.size w4 w5:=aL (Below.drew (Below.refl _ _)) b5
   have hX5:=hG _ _ hX4 b5
   have rK5:=(aA b5 (by omega)).trans rK4
   have B5:=B4.trans (b5.mono (by omega))
   have hT5:=hX5.1.1
   have hrT5:=hT5.row
   clear hS b5 hX5 hX4 hG HCC
   go_wp2_with fail
   go_ret
   exact⟨⟨_,rfl⟩,BelowBut.of B5,by rw[HH.out,if_neg (by simp;omega)];exact hT5⟩
  ·skip
   go_wp2_with fail
   refine nV [(T,#[Value.int .i64 ageing,Value.slice (some ⟨lb,lo,none⟩) lims.length cap,Value.map (some M)]),(w1.heap.size,(Value.int .i64 v::u8v mac).toArray),(X,#[Value.int .i64 fm,Value.int .i64 age,Value.bool false])] (fun W=>(LerT W T M ageing (.slice (some ⟨lb,lo,none⟩) lims.length cap) m/\(T<W.heap.size/\M<W.heap.size))/\IntsAt W (some ⟨lb,lo,none⟩) lims) hG (hX4) (fun hS=>?_)
   refine sp 0 hG hS ?_
   refine sp 1 hG hS ?_
   refine sp 2 hG hS ?_
   refine sn 3 hG hS ?_
   refine sn 4 hG hS ?_
   refine sn 5 hG hS ?_
   refine sn 6 hG hS ?_
   refine sp 7 hG hS ?_
   refine sp 8 hG hS ?_
   refine sp 9 hG hS ?_
   refine sp 10 hG hS ?_
   refine sc 11 (v:=?_) hG hS ?_ ?_
   rotate_left
   ·intro w' hS'
    obtain⟨hS',hX'⟩:=hS'
    simp only[Rws]at hS'
    go_simp
    with_reducible refine(HO.out _ hX'.1.1).mono ?_
    rintro e w'' ⟨rfl,hb⟩
    exact⟨_,rfl,by rfl,hb⟩
   refine sp 12 hG hS ?_
   refine sp 13 hG hS ?_
   refine sp 14 hG hS ?_
   refine sp 15 hG hS ?_
   refine sp 16 hG hS ?_
   refine sp 17 hG hS ?_
   refine sp 18 hG hS ?_
   refine sp 19 hG hS ?_
   refine sp 20 hG hS ?_
   refine aG kr_ (fun w5 bw5=>?_) _
   have b5:=bw5
   clear bw5
   have z5:=b5.size
   replace z5:w4.heap.size<=w5.heap.size:=z5
   replace b5:Below w4.heap.size w4 w5:=aL (Below.drew (Below.refl _ _)) b5
   have hX5:=hG _ _ hX4 b5
   have rK5:=(aA b5 (by omega)).trans rK4
   have B5:=B4.trans (b5.mono (by omega))
   have hT5:=hX5.1.1
   have hrT5:=hT5.row
   clear hS b5 hX5 hX4 hG HCC
   have hM5:=hT5.ok
   have hL5:=hT5.map
   clear hT5
   go_wp2_with fail
   refine aCm 7 [(T,#[Value.int .i64 ageing,Value.slice (some ⟨lb,lo,none⟩) lims.length cap,Value.map (some M)]),(w1.heap.size,(Value.int .i64 v::u8v mac).toArray)] M (fQ m) (hM5) (hL5) (fun hS=>?_)
   refine kmp 0 hS ?_
   refine kmp 1 hS ?_
   refine kmp 2 hS ?_
   refine kmp 3 hS ?_
   refine kmp 4 hS ?_
   refine kmp 5 hS ?_
   refine kmp 6 hS ?_
   refine bE (k:=7) cD rfl rfl kr_ (fun w6 b6=>?_)
   replace b6:=aL (Below.drew (Below.refl _ _)) b6
   have z6:=b6.size
   have hM6:=aR b6 (by omega) hM5
   have hL6:=(aT b6 (by omega)).trans hL5
   obtain⟨w7,hrun,hTn,hM7,hL7,_⟩:=mP key_learn eP hM6 (okL v mac) (by rw[hL6];exact kK m) (lvV (k:Int) 0)
   rw[hL6,show sQ dZ (lkV v mac) (lvV (k:Int) 0) (fQ m)=fQ (aAE ⟨v,mac,k,0⟩ m)from sV ⟨v,mac,k,0⟩ m]at hL7
   have HL7:=h_ hL7
   clear hL5 hL6 hL7
   unfold lkV lvV at hrun
   rw[show #[Value.int .i64 (k:Int),Value.int .i64 0,Value.bool false]=(Value.int .i64 (k:Int)::(aH 2 (Value.int .i64 0)++[Value.bool false]).tail).toArray from rfl]at hrun
   refine⟨w7,?_,trivial,fun hS=>?_⟩
   ·go_simp
    try exact⟨_,_,rfl,rfl⟩
   ·refine aG kr_ (fun w8 b8=>?_) _
    have z8:=b8.size
    have z7:=hTn.size
    have b56:=BelowBut.of (S:=M) (B5.trans (b6.mono (by omega)))
    have hbb:BelowBut w.heap.size M w w8:=⟨by rw[b8.os,hTn.os,b56.os],by rw[b8.tape,hTn.tape,b56.tape],by rw[b8.output,hTn.output,b56.output],by have:=b56.size;omega,fun k hk hn=>by rw[b8.block k (by omega),hTn.block k hn,b56.block k hk hn]⟩
    have hr8:row w8 T=#[Value.int .i64 ageing,Value.slice (some ⟨lb,lo,none⟩) lims.length cap,Value.map (some M)]:=by rw[aA b8 (by omega),hTn.row hTM,aA b6 (by omega),hrT5]
    have hM8:=aR b8 (by omega) hM7
    have hL8:=(aT b8 (by omega)).trans HL7.out
    have HL8:=h_ hL8
    clear hL8 hrun b8 b6
    go_wp2_with fail
    go_ret
    exact⟨⟨_,rfl⟩,hbb,hr8,hM8,by rw[HH.out,if_pos (by simp;try omega)];exact HL8.out⟩
 | true=>
  by_cases hp:fm=(k:Int)
  ·have hp1:(fm !=(k:Int))=false:=by simp[hp]
   have HP:=h_ hp
   clear hp
   go_wp2_with fail
   refine nV [(T,#[Value.int .i64 ageing,Value.slice (some ⟨lb,lo,none⟩) lims.length cap,Value.map (some M)]),(w1.heap.size,(Value.int .i64 v::u8v mac).toArray),(X,#[Value.int .i64 fm,Value.int .i64 age,Value.bool false])] (fun W=>(LerT W T M ageing (.slice (some ⟨lb,lo,none⟩) lims.length cap) m/\(T<W.heap.size/\M<W.heap.size))/\IntsAt W (some ⟨lb,lo,none⟩) lims) hG (hX4) (fun hS=>?_)
   refine sp 0 hG hS ?_
   refine sp 1 hG hS ?_
   refine sp 2 hG hS ?_
   refine sp 3 hG hS ?_
   refine sp 4 hG hS ?_
   refine sp 5 hG hS ?_
   refine sp 6 hG hS ?_
   refine sp 7 hG hS ?_
   refine sp 8 hG hS ?_
   refine sn 9 hG hS ?_
   refine sn 10 hG hS ?_
   refine sn 11 hG hS ?_
   refine sn 12 hG hS ?_
   refine sn 13 hG hS ?_
   refine sn 14 hG hS ?_
   refine sn 15 hG hS ?_
   refine sn 16 hG hS ?_
   refine sn 17 hG hS ?_
   refine sn 18 hG hS ?_
   refine sn 19 hG hS ?_
   refine sp 20 hG hS ?_
   refine aG kr_ (fun w5 bw5=>?_) _
   have b5:=bw5
   clear bw5
   have z5:=b5.size
   replace z5:w4.heap.size<=w5.heap.size:=z5
   replace b5:Below w4.heap.size w4 w5:=aL (Below.drew (Below.refl _ _)) b5
   have hX5:=hG _ _ hX4 b5
   have rK5:=(aA b5 (by omega)).trans rK4
   have B5:=B4.trans (b5.mono (by omega))
   have hT5:=hX5.1.1
   have hrT5:=hT5.row
   clear hS b5 hX5 hX4 hG HCC
   have hM5:=hT5.ok
   have hL5:=hT5.map
   clear hT5
   go_wp2_with fail
   refine aCm 7 [(T,#[Value.int .i64 ageing,Value.slice (some ⟨lb,lo,none⟩) lims.length cap,Value.map (some M)]),(w1.heap.size,(Value.int .i64 v::u8v mac).toArray)] M (fQ m) (hM5) (hL5) (fun hS=>?_)
   refine kmp 0 hS ?_
   refine kmp 1 hS ?_
   refine kmp 2 hS ?_
   refine kmp 3 hS ?_
   refine kmp 4 hS ?_
   refine kmp 5 hS ?_
   refine kmp 6 hS ?_
   refine bE (k:=7) cD rfl rfl kr_ (fun w6 b6=>?_)
   replace b6:=aL (Below.drew (Below.refl _ _)) b6
   have z6:=b6.size
   have hM6:=aR b6 (by omega) hM5
   have hL6:=(aT b6 (by omega)).trans hL5
   obtain⟨w7,hrun,hTn,hM7,hL7,_⟩:=mP key_learn eP hM6 (okL v mac) (by rw[hL6];exact kK m) (lvV (k:Int) 0)
   rw[hL6,show sQ dZ (lkV v mac) (lvV (k:Int) 0) (fQ m)=fQ (aAE ⟨v,mac,k,0⟩ m)from sV ⟨v,mac,k,0⟩ m]at hL7
   have HL7:=h_ hL7
   clear hL5 hL6 hL7
   unfold lkV lvV at hrun
   rw[show #[Value.int .i64 (k:Int),Value.int .i64 0,Value.bool false]=(Value.int .i64 (k:Int)::(aH 2 (Value.int .i64 0)++[Value.bool false]).tail).toArray from rfl]at hrun
   refine⟨w7,?_,trivial,fun hS=>?_⟩
   ·go_simp
    try exact⟨_,_,rfl,rfl⟩
   ·refine aG kr_ (fun w8 b8=>?_) _
    have z8:=b8.size
    have z7:=hTn.size
    have b56:=BelowBut.of (S:=M) (B5.trans (b6.mono (by omega)))
    have hbb:BelowBut w.heap.size M w w8:=⟨by rw[b8.os,hTn.os,b56.os],by rw[b8.tape,hTn.tape,b56.tape],by rw[b8.output,hTn.output,b56.output],by have:=b56.size;omega,fun k hk hn=>by rw[b8.block k (by omega),hTn.block k hn,b56.block k hk hn]⟩
    have hr8:row w8 T=#[Value.int .i64 ageing,Value.slice (some ⟨lb,lo,none⟩) lims.length cap,Value.map (some M)]:=by rw[aA b8 (by omega),hTn.row hTM,aA b6 (by omega),hrT5]
    have hM8:=aR b8 (by omega) hM7
    have hL8:=(aT b8 (by omega)).trans HL7.out
    have HL8:=h_ hL8
    clear hL8 hrun b8 b6
    go_wp2_with fail
    go_ret
    exact⟨⟨_,rfl⟩,hbb,hr8,hM8,by rw[HH.out,if_pos (by rw[HP.out];simp)];exact HL8.out⟩
  ·have hp1:(fm==(k:Int))=false:=by simpa using hp
   have hp2:(fm !=(k:Int))=true:=by simpa using hp
   by_cases hfull:lim<=(oc:Int)
   ·skip
    go_wp2_with fail
    refine nV [(T,#[Value.int .i64 ageing,Value.slice (some ⟨lb,lo,none⟩) lims.length cap,Value.map (some M)]),(w1.heap.size,(Value.int .i64 v::u8v mac).toArray),(X,#[Value.int .i64 fm,Value.int .i64 age,Value.bool false])] (fun W=>(LerT W T M ageing (.slice (some ⟨lb,lo,none⟩) lims.length cap) m/\(T<W.heap.size/\M<W.heap.size))/\IntsAt W (some ⟨lb,lo,none⟩) lims) hG (hX4) (fun hS=>?_)
    refine sp 0 hG hS ?_
    refine sp 1 hG hS ?_
    refine sp 2 hG hS ?_
    refine sp 3 hG hS ?_
    refine sp 4 hG hS ?_
    refine sp 5 hG hS ?_
    refine sp 6 hG hS ?_
    refine sp 7 hG hS ?_
    refine sp 8 hG hS ?_
    refine sp 9 hG hS ?_
    refine sp 10 hG hS ?_
    refine sc 11 (v:=?_) hG hS ?_ ?_
    rotate_left
    ·intro w' hS'
     obtain⟨hS',hX'⟩:=hS'
     simp only[Rws]at hS'
     go_simp
     with_reducible refine(HO.out _ hX'.1.1).mono ?_
     rintro e w'' ⟨rfl,hb⟩
     exact⟨_,rfl,by rfl,hb⟩
    refine sp 12 hG hS ?_
    refine sp 13 hG hS ?_
    refine sp 14 hG hS ?_
    refine sp 15 hG hS ?_
    refine sp 16 hG hS ?_
    refine sp 17 hG hS ?_
    refine sp 18 hG hS ?_
    refine sp 19 hG hS ?_
    refine sp 20 hG hS ?_
    refine aG kr_ (fun w5 bw5=>?_) _
    have b5:=bw5
    clear bw5
    have z5:=b5.size
    replace z5:w4.heap.size<=w5.heap.size:=z5
    replace b5:Below w4.heap.size w4 w5:=aL (Below.drew (Below.refl _ _)) b5
    have hX5:=hG _ _ hX4 b5
    have rK5:=(aA b5 (by omega)).trans rK4
    have B5:=B4.trans (b5.mono (by omega))
    have hT5:=hX5.1.1
    have hrT5:=hT5.row
    clear hS b5 hX5 hX4 hG HCC
    go_wp2_with fail
    go_ret
    exact⟨⟨_,rfl⟩,BelowBut.of B5,by rw[HH.out,if_neg (by simp[hp];omega)];exact hT5⟩
   ·skip
    go_wp2_with fail
    refine nV [(T,#[Value.int .i64 ageing,Value.slice (some ⟨lb,lo,none⟩) lims.length cap,Value.map (some M)]),(w1.heap.size,(Value.int .i64 v::u8v mac).toArray),(X,#[Value.int .i64 fm,Value.int .i64 age,Value.bool false])] (fun W=>(LerT W T M ageing (.slice (some ⟨lb,lo,none⟩) lims.length cap) m/\(T<W.heap.size/\M<W.heap.size))/\IntsAt W (some ⟨lb,lo,none⟩) lims) hG (hX4) (fun hS=>?_)
    refine sp 0 hG hS ?_
    refine sp 1 hG hS ?_
    refine sp 2 hG hS ?_
    refine sp 3 hG hS ?_
    refine sp 4 hG hS ?_
    refine sp 5 hG hS ?_
    refine sp 6 hG hS ?_
    refine sp 7 hG hS ?_
    refine sp 8 hG hS ?_
    refine sp 9 hG hS ?_
    refine sp 10 hG hS ?_
    refine sc 11 (v:=?_) hG hS ?_ ?_
    rotate_left
    ·intro w' hS'
     obtain⟨hS',hX'⟩:=hS'
     simp only[Rws]at hS'
     go_simp
     with_reducible refine(HO.out _ hX'.1.1).mono ?_
     rintro e w'' ⟨rfl,hb⟩
     exact⟨_,rfl,by rfl,hb⟩
    refine sp 12 hG hS ?_
    refine sp 13 hG hS ?_
    refine sp 14 hG hS ?_
    refine sp 15 hG hS ?_
    refine sp 16 hG hS ?_
    refine sp 17 hG hS ?_
    refine sp 18 hG hS ?_
    refine sp 19 hG hS ?_
    refine sp 20 hG hS ?_
    refine aG kr_ (fun w5 bw5=>?_) _
    have b5:=bw5
    clear bw5
    have z5:=b5.size
    replace z5:w4.heap.size<=w5.heap.size:=z5
    replace b5:Below w4.heap.size w4 w5:=aL (Below.drew (Below.refl _ _)) b5
    have hX5:=hG _ _ hX4 b5
    have rK5:=(aA b5 (by omega)).trans rK4
    have B5:=B4.trans (b5.mono (by omega))
    have hT5:=hX5.1.1
    have hrT5:=hT5.row
    clear hS b5 hX5 hX4 hG HCC
    have hM5:=hT5.ok
    have hL5:=hT5.map
    clear hT5
    go_wp2_with fail
    refine aCm 7 [(T,#[Value.int .i64 ageing,Value.slice (some ⟨lb,lo,none⟩) lims.length cap,Value.map (some M)]),(w1.heap.size,(Value.int .i64 v::u8v mac).toArray)] M (fQ m) (hM5) (hL5) (fun hS=>?_)
    refine kmp 0 hS ?_
    refine kmp 1 hS ?_
    refine kmp 2 hS ?_
    refine kmp 3 hS ?_
    refine kmp 4 hS ?_
    refine kmp 5 hS ?_
    refine kmp 6 hS ?_
    refine bE (k:=7) cD rfl rfl kr_ (fun w6 b6=>?_)
    replace b6:=aL (Below.drew (Below.refl _ _)) b6
    have z6:=b6.size
    have hM6:=aR b6 (by omega) hM5
    have hL6:=(aT b6 (by omega)).trans hL5
    obtain⟨w7,hrun,hTn,hM7,hL7,_⟩:=mP key_learn eP hM6 (okL v mac) (by rw[hL6];exact kK m) (lvV (k:Int) 0)
    rw[hL6,show sQ dZ (lkV v mac) (lvV (k:Int) 0) (fQ m)=fQ (aAE ⟨v,mac,k,0⟩ m)from sV ⟨v,mac,k,0⟩ m]at hL7
    have HL7:=h_ hL7
    clear hL5 hL6 hL7
    unfold lkV lvV at hrun
    rw[show #[Value.int .i64 (k:Int),Value.int .i64 0,Value.bool false]=(Value.int .i64 (k:Int)::(aH 2 (Value.int .i64 0)++[Value.bool false]).tail).toArray from rfl]at hrun
    refine⟨w7,?_,trivial,fun hS=>?_⟩
    ·go_simp
     try exact⟨_,_,rfl,rfl⟩
    ·refine aG kr_ (fun w8 b8=>?_) _
     have z8:=b8.size
     have z7:=hTn.size
     have b56:=BelowBut.of (S:=M) (B5.trans (b6.mono (by omega)))
     have hbb:BelowBut w.heap.size M w w8:=⟨by rw[b8.os,hTn.os,b56.os],by rw[b8.tape,hTn.tape,b56.tape],by rw[b8.output,hTn.output,b56.output],by have:=b56.size;omega,fun k hk hn=>by rw[b8.block k (by omega),hTn.block k hn,b56.block k hk hn]⟩
     have hr8:row w8 T=#[Value.int .i64 ageing,Value.slice (some ⟨lb,lo,none⟩) lims.length cap,Value.map (some M)]:=by rw[aA b8 (by omega),hTn.row hTM,aA b6 (by omega),hrT5]
     have hM8:=aR b8 (by omega) hM7
     have hL8:=(aT b8 (by omega)).trans HL7.out
     have HL8:=h_ hL8
     clear hL8 hrun b8 b6
     go_wp2_with fail
     go_ret
     exact⟨⟨_,rfl⟩,hbb,hr8,hM8,by rw[HH.out,if_pos (by simp[hp];try omega)];exact HL8.out⟩
end
end
section
open Go.RowKit Go.Shelf
def kS (x:Int):Bool:=decide (x<0)||decide (65535<x)
def oC (ageing:Int) (lims:List Int):Bool:=decide (1<=ageing)&&decide (ageing<=1000000)&&decide (lims.length<=32)&& !lims.any kS
theorem aGy (x:Int) (w:World):Calls Tryz.prog 71 #[.int .i64 x] w fun e w'=>e=.returned (.bool (kS x))/\w'=w:=by
 go_enter Tryz.func71,Tryz.ntmps71
 by_cases h1:x<0
 ·go_wp2_with fail
  go_ret
  exact⟨by simp[kS,h1],rfl⟩
 ·go_wp2_with fail
  go_ret
  have h2:¬x<0:=by omega
  exact⟨by simp only[kS,decide_eq_false h2,Bool.false_or];rfl,rfl⟩
section
variable (ageing:Int) (a:Option Addr) (cap:Nat) (lims:List Int) (w:World)
theorem aBx (h:IntsAt w a lims):Calls Tryz.prog 41 #[.slice a lims.length cap,.func (.func 71) #[] #[]] w fun e w'=>e=.returned (.bool (lims.any kS))/\w'=w:=by
 refine(iP 71 #[] (enters_of Tryz.func71 kr_ rfl) a cap lims (fun k W=>lims.any kS=(lims.drop k).any kS/\W=w) (fun W=>lims.any kS=true/\W=w) (fun k W hW=>by rw[hW.2];exact h) ?_ w ⟨rfl,rfl⟩ h.len).mono ?_
 ·rintro k hk W ⟨i1,rfl⟩
  refine(aGy lims[k] _).mono ?_
  rintro e W2 ⟨rfl,rfl⟩
  rw[List.drop_eq_getElem_cons hk,List.any_cons]at i1
  cases hb:kS lims[k]with
  | true=>rw[hb]at i1;exact .inr ⟨rfl,by rw[i1];rfl,rfl⟩
  | false=>rw[hb]at i1;exact .inl ⟨rfl,by rw[i1];rfl,rfl⟩
 ·rintro e W (⟨rfl,i1,rfl⟩ | ⟨rfl,i1,rfl⟩)
  ·rw[i1,List.drop_of_length_le (Nat.le_refl _)]
   exact⟨rfl,rfl⟩
  ·rw[i1]
   exact⟨rfl,rfl⟩
theorem aIz (h:IntsAt w a lims) (hb:oC ageing lims=false):
  Calls Tryz.prog 36 #[.int .i64 ageing,.slice a lims.length cap] w fun e w'=>e=.returned (.tuple #[.pointer none,.int .i64 1])/\Below w.heap.size w w':=by
 have hl:=h.len
 have hl2:(lims.length:Int)<=9223372036854775807:=by unfold maxLen at hl;omega
 have HF:=h_ (fun w h=>aBx a cap lims w h)
 have HB:=h_ hb
 clear hb hl
 go_enter Tryz.func36,Tryz.ntmps36
 by_cases h1:ageing<1
 ·go_wp2_with fail
  go_ret2
  exact⟨rfl,Below.refl _ _⟩
 by_cases h2:1000000<ageing
 ·go_wp2_with fail
  go_ret2
  exact⟨rfl,Below.refl _ _⟩
 by_cases h3:32<lims.length
 ·have h3I:(32:Int)<(lims.length:Int):=by omega
  go_wp2_with fail
  go_ret2
  exact⟨rfl,Below.refl _ _⟩
 have h3I:¬(32:Int)<(lims.length:Int):=by omega
 have hany:lims.any kS=true:=by
  have:=HB.out
  unfold oC at this
  rw[decide_eq_true (by omega:1<=ageing),decide_eq_true (by omega:ageing<=1000000),decide_eq_true (by omega:lims.length<=32)]at this
  simpa using this
 rw[hany]at HF
 clear hany
 go_wp2_with fail
 (with_reducible refine(HF.out _ h).mono ?_)
 rintro e w1 ⟨rfl,rfl⟩
 go_wp2_with fail
 go_ret2
 exact⟨rfl,Below.refl _ _⟩
structure NewT (w w':World) (T M:Nat) (ageing:Int) (a:Option Addr) (n cap:Nat) (lims:List Int):Prop where
 below:Below w.heap.size w w'
 ler:LerT w' T M ageing (.slice a n cap) []
 len:n=lims.length
 lo:w.heap.size<=M
 lt:M<T
 hi:T<w'.heap.size
 lims:∃w1,Below w.heap.size w w1/\w1.heap.size<=M/\OwnL w1 w.heap.size 3 1 (.slice a n cap) (lims.map fun v=>[Value.int .i64 v])/\Below w1.heap.size w1 w'
theorem aKn (h:IntsAt w a lims) (hb:oC ageing lims=true):
  Calls Tryz.prog 36 #[.int .i64 ageing,.slice a lims.length cap] w fun e w'=>∃T M a' cap',e=.returned (.tuple #[.pointer (some ⟨T,0,none⟩),.int .i64 0])/\NewT w w' T M ageing a' lims.length cap' lims:=by
 have hl:=h.len
 have hl2:(lims.length:Int)<=9223372036854775807:=by unfold maxLen at hl;omega
 have HF:=h_ (fun w h=>aBx a cap lims w h)
 unfold oC at hb
 simp only[Bool.and_eq_true,decide_eq_true_eq,Bool.not_eq_true']at hb
 obtain⟨⟨⟨b1,b2⟩,b3⟩,b4⟩:=hb
 have HC:=h_ (fun w h=>wY a cap lims w h (by omega))
 rw[b4]at HF
 have h1:¬ageing<1:=by omega
 have h2:¬1000000<ageing:=by omega
 have h3I:¬(32:Int)<(lims.length:Int):=by omega
 clear b4 hl
 go_enter Tryz.func36,Tryz.ntmps36
 go_wp2_with fail
 (with_reducible refine(HF.out _ h).mono ?_)
 rintro e w1 ⟨rfl,rfl⟩
 go_wp2_with fail
 (with_reducible refine(HC.out _ h).mono ?_)
 rintro e w2 ⟨⟨v,rfl,hown⟩,c2⟩
 obtain⟨a',cap',e1,hel⟩:=hown.elems
 rw[List.length_map]at e1
 subst e1
 have z2:=c2.size
 have HW:=h_ hown
 clear hown hel
 go_wp2_with fail
 go_ret2
 refine⟨w2.heap.size+1,w2.heap.size,a',cap',by simp,?_,⟨?_,?_,?_⟩,rfl,?_,?_,?_,w2,c2,?_,HW.out,?_⟩
 ·exact Below.alloc (Below.alloc c2 (by omega) _) (by simp;omega) _
 ·exact aE _ _ _ (by simp)
 ·refine(bD (Below.heap_alloc _ _ _ (by simp))).2 (aAS _ rfl)
 ·rw[wT _ _ (by simp),aDH _ _ _ rfl];rfl
 ·exact z2
 ·simp
 ·simp
 ·exact Nat.le_refl _
 ·exact Below.alloc (ba_) (by simp) _
end
end
end Go.Proofs.YtiagbbknkdgmeaaGreat
