/- Texts of this proof, merged: CurS, CurH, CurZ, CurC, GrE, CurG, GrM, CurJ, EdwK. -/
import Derived.Test.YtiagbbknkdgmeaaGreatJ36
import Derived.Test.YtiagbbknkdgmeaaGreatRegJ
import Derived.Test.YtiagbbknkdgmeaaGreatJ3
import Derived.Test.YtiagbbknkdgmeaaGreatJ23
import Derived.Test.YtiagbbknkdgmeaaGreatJ35
set_option linter.unusedSimpArgs false
set_option linter.unusedVariables false
set_option maxHeartbeats 8000000
set_option maxRecDepth 20000
namespace Go.Proofs.YtiagbbknkdgmeaaGreat
section
open Go.RowKit
theorem iK (xs ys:List Int):(fU xs ys).length=xs.length:=bZ (qW ys) _ _
theorem iL (xs ys:List Int):(j9 xs ys).length=xs.length:=bZ (qX ys) _ _
def c24:List Int:=[56129,1,0,0,0,0,0,0,0,0,0,0,0,0,0,0]
def aAt (ax az:List Int):List Int:=aX (aX (fU ax az) (fU ax az)) (aX (j9 ax az) (j9 ax az))
def aJm (ax az:List Int):List Int:=j9 (aX (fU ax az) (fU ax az)) (aX (j9 ax az) (j9 ax az))
def aAu (ax az:List Int):List Int:=aX (aJm ax az) (fU (aX (fU ax az) (fU ax az)) (aX c24 (aJm ax az)))
def aFi (ax az bx bz:List Int):List Int:=aX (j9 bx bz) (fU ax az)
def aFj (ax az bx bz:List Int):List Int:=aX (fU bx bz) (j9 ax az)
def aAv (ax az bx bz:List Int):List Int:=aX (fU (aFi ax az bx bz) (aFj ax az bx bz)) (fU (aFi ax az bx bz) (aFj ax az bx bz))
def aAw (ax az bx bz u:List Int):List Int:=aX u (aX (j9 (aFi ax az bx bz) (aFj ax az bx bz)) (j9 (aFi ax az bx bz) (aFj ax az bx bz)))
theorem aHx:(Value.int .i64 56129::Value.int .i64 1::aH 14 (Value.int .i64 0))=bO c24:=rfl
attribute [local irreducible] fU j9 aX aU
theorem aEb (ax az bx bz u:List Int) (w:World) (hax:ax.length=16) (haz:az.length=16) (hbx:bx.length=16) (hbz:bz.length=16) (hu:u.length=16):
  Calls Tryz.prog 177 #[.agg (bO ax++bO az).toArray,.agg (bO bx++bO bz).toArray,.agg (bO u).toArray] w fun e w'=>
   e=.returned (.tuple #[.agg (bO (aAt ax az)++bO (aAu ax az)).toArray,.agg (bO (aAv ax az bx bz)++bO (aAw ax az bx bz u)).toArray])/\Below w.heap.size w w':=by
 obtain⟨e,he⟩:∃l,fU ax az=l:=⟨_,rfl⟩
 obtain⟨g,hg⟩:∃l,j9 ax az=l:=⟨_,rfl⟩
 have hel:e.length=16:=by rw[<-he,iK,hax]
 have hgl:g.length=16:=by rw[<-hg,iL,hax]
 obtain⟨f,hf⟩:∃l,aX e e=l:=⟨_,rfl⟩
 obtain⟨h,hh⟩:∃l,aX g g=l:=⟨_,rfl⟩
 have hfl:f.length=16:=by rw[<-hf,bH]
 have hhl:h.length=16:=by rw[<-hh,bH]
 obtain⟨i,hi⟩:∃l,j9 f h=l:=⟨_,rfl⟩
 have hil:i.length=16:=by rw[<-hi,iL,hfl]
 obtain⟨bm,hbm⟩:∃l,j9 bx bz=l:=⟨_,rfl⟩
 obtain⟨bp,hbp⟩:∃l,fU bx bz=l:=⟨_,rfl⟩
 have hbml:bm.length=16:=by rw[<-hbm,iL,hbx]
 have hbpl:bp.length=16:=by rw[<-hbp,iK,hbx]
 obtain⟨j,hj'⟩:∃l,aX bm e=l:=⟨_,rfl⟩
 obtain⟨k,hk⟩:∃l,aX bp g=l:=⟨_,rfl⟩
 have hjl:j.length=16:=by rw[<-hj',bH]
 have hkl:k.length=16:=by rw[<-hk,bH]
 obtain⟨s,hs⟩:∃l,fU j k=l:=⟨_,rfl⟩
 obtain⟨d,hd⟩:∃l,j9 j k=l:=⟨_,rfl⟩
 have hsl:s.length=16:=by rw[<-hs,iK,hjl]
 have hdl:d.length=16:=by rw[<-hd,iL,hjl]
 have H1:=h_ (fun w=>s8 ax az w hax haz)
 have H2:=h_ (fun w=>s9 ax az w hax haz)
 have H3:=h_ (fun w=>dX e e w hel hel)
 have H4:=h_ (fun w=>dX g g w hgl hgl)
 have H5:=h_ (fun w=>s9 f h w hfl hhl)
 have H6:=h_ (fun w=>s9 bx bz w hbx hbz)
 have H7:=h_ (fun w=>dX bm e w hbml hel)
 have H8:=h_ (fun w=>s8 bx bz w hbx hbz)
 have H9:=h_ (fun w=>dX bp g w hbpl hgl)
 have H10:=h_ (fun w=>s8 j k w hjl hkl)
 have H11:=h_ (fun w=>s9 j k w hjl hkl)
 rw[he]at H1
 rw[hg]at H2
 rw[hf]at H3
 rw[hh]at H4
 rw[hi]at H5
 rw[hbm]at H6
 rw[hj']at H7
 rw[hbp]at H8
 rw[hk]at H9
 rw[hs]at H10
 rw[hd]at H11
 have eX:aAt ax az=aX f h:=by rw[aAt,he,hg,hf,hh]
 have eI:aJm ax az=i:=by rw[aJm,he,hg,hf,hh,hi]
 have eZ:aAu ax az=aX i (fU f (aX c24 i)):=by rw[aAu,eI,he,hf]
 have eJ:aFi ax az bx bz=j:=by rw[aFi,hbm,he,hj']
 have eK:aFj ax az bx bz=k:=by rw[aFj,hbp,hg,hk]
 have eU:aAv ax az bx bz=aX s s:=by rw[aAv,eJ,eK,hs]
 have eV:aAw ax az bx bz u=aX u (aX d d):=by rw[aAw,eJ,eK,hd]
 rw[eX,eZ,eU,eV]
 clear he hg hf hh hi hbm hbp hj' hk hs hd eX eI eZ eJ eK eU eV
 go_enter Tryz.func177,Tryz.ntmps177
 go_wp2_with fail
 obtain⟨w1,hw1⟩:∃U,(((((w.alloc (.cells (bO ax++bO az).toArray 309)).alloc (.cells (bO bx++bO bz).toArray 309)).alloc (.cells (bO u).toArray 306)).alloc (.cells (aH 32 (Value.int .i64 0)).toArray 309)).alloc (.cells (aH 32 (Value.int .i64 0)).toArray 309))=U:=⟨_,rfl⟩
 have rA:row w1 w.heap.size=(bO ax++bO az).toArray:=by rw[<-hw1];simp[go_sem]
 have rB:row w1 (w.heap.size+1)=(bO bx++bO bz).toArray:=by rw[<-hw1];simp[go_sem]
 have rU:row w1 (w.heap.size+1+1)=(bO u).toArray:=by rw[<-hw1];simp[go_sem]
 have rP:row w1 (w.heap.size+1+1+1)=(aH 32 (Value.int .i64 0)).toArray:=by rw[<-hw1];simp[go_sem]
 have rQ:row w1 (w.heap.size+1+1+1+1)=(aH 32 (Value.int .i64 0)).toArray:=by rw[<-hw1];simp[go_sem]
 have z1:w1.heap.size=w.heap.size+1+1+1+1+1:=by rw[<-hw1];simp
 have hb1:Below w.heap.size w w1:=by rw[<-hw1];(repeat (first | exact Below.refl _ _ | refine Below.al ?_ _ | refine Below.drew ?_ | refine Below.sr ?_ _ | refine Below.sc ?_ _))
 rw[hw1]
 clear hw1
 replace z1:w.heap.size+1+1+1+1<w1.heap.size:=by omega
 refine jY [(w.heap.size,(bO ax++bO az).toArray)] (fun hS=>?_)
 refine qp 0 hS ?_
 refine qp 1 hS ?_
 refine qp 2 hS ?_
 refine qp 3 hS ?_
 refine qp 5 hS ?_
 refine qp 6 hS ?_
 refine qp 7 hS ?_
 refine qp 8 hS ?_
 refine qc 4 (v:=?_) hS ?_ ?_
 rotate_left
 ·intro w' hS'
  simp only[Rws]at hS'
  go_simp
  with_reducible refine(H1.out _).mono ?_
  rintro e w'' ⟨rfl,hb⟩
  exact⟨_,rfl,by rfl,hb⟩
 refine qc 9 (v:=?_) hS ?_ ?_
 rotate_left
 ·intro w' hS'
  simp only[Rws]at hS'
  go_simp
  with_reducible refine(H2.out _).mono ?_
  rintro e w'' ⟨rfl,hb⟩
  exact⟨_,rfl,by rfl,hb⟩
 refine fI (i:=10) (j:=11) (k:=12) (m:=13) (zi:=(aH 16 (Value.int .i64 0)).toArray) (zj:=(aH 16 (Value.int .i64 0)).toArray) (cA:=(bO e).toArray) (cB:=(bO g).toArray) cD cD cD cD ⟨rfl,rfl,fun a w=>by go_simp;(refine⟨?_,?_⟩<;>rfl)⟩ ⟨rfl,rfl,fun a w=>by go_simp;(refine⟨?_,?_⟩<;>rfl)⟩ (by decide) (by decide) kr_ kr_ kr_ kr_ kr_ kr_ rfl rfl rfl rfl (by simp[*]) (by simp[*]) (by simp) (by simp) (by simp;(try omega)) (fun A B w1 hr=>by
  simp only[Act.put,List.setIfInBounds_toArray,List.set_cons_zero,List.set_cons_succ,ptr]
  go_simp
  try rfl) (fun A B w1 hr=>by
  simp only[Act.put,List.setIfInBounds_toArray,List.set_cons_zero,List.set_cons_succ,ptr]
  go_simp
  try rfl) hS (fun E G w2 gE gG nE zE zG hb2 rE rG=>?_)
 (try simp only[Act.put,List.setIfInBounds_toArray,List.set_cons_zero,List.set_cons_succ])
 replace gE:(w1).heap.size<=E:=gE
 replace gG:(w1).heap.size<=G:=gG
 replace hb2:Below (w1).heap.size w1 w2:=Below.trans (Below.drew (Below.refl _ _)) hb2
 have zw2:=(hb2).size
 simp only[ptr]
 clear hS
 replace rB:=(aA hb2 (by omega)).trans rB
 replace rU:=(aA hb2 (by omega)).trans rU
 replace rP:=(aA hb2 (by omega)).trans rP
 replace rQ:=(aA hb2 (by omega)).trans rQ
 clear rA H1 H2
 go_wp2_with fail
 refine jY [(E,(bO e).toArray),(G,(bO g).toArray)] (fun hS=>?_)
 refine qp 0 hS ?_
 refine qp 1 hS ?_
 refine qp 3 hS ?_
 refine qp 4 hS ?_
 refine qc 2 (v:=?_) hS ?_ ?_
 rotate_left
 ·intro w' hS'
  simp only[Rws]at hS'
  go_simp
  with_reducible refine(H3.out _).mono ?_
  rintro e w'' ⟨rfl,hb⟩
  exact⟨_,rfl,by rfl,hb⟩
 refine qc 5 (v:=?_) hS ?_ ?_
 rotate_left
 ·intro w' hS'
  simp only[Rws]at hS'
  go_simp
  with_reducible refine(H4.out _).mono ?_
  rintro e w'' ⟨rfl,hb⟩
  exact⟨_,rfl,by rfl,hb⟩
 refine fI (i:=6) (j:=7) (k:=8) (m:=9) (zi:=(aH 16 (Value.int .i64 0)).toArray) (zj:=(aH 16 (Value.int .i64 0)).toArray) (cA:=(bO f).toArray) (cB:=(bO h).toArray) cD cD cD cD ⟨rfl,rfl,fun a w=>by go_simp;(refine⟨?_,?_⟩<;>rfl)⟩ ⟨rfl,rfl,fun a w=>by go_simp;(refine⟨?_,?_⟩<;>rfl)⟩ (by decide) (by decide) kr_ kr_ kr_ kr_ kr_ kr_ rfl rfl rfl rfl (by simp[*]) (by simp[*]) (by simp) (by simp) (by simp;(try omega)) (fun A B w1 hr=>by
  simp only[Act.put,List.setIfInBounds_toArray,List.set_cons_zero,List.set_cons_succ,ptr]
  go_simp
  try rfl) (fun A B w1 hr=>by
  simp only[Act.put,List.setIfInBounds_toArray,List.set_cons_zero,List.set_cons_succ,ptr]
  go_simp
  try rfl) hS (fun F H w3 gF gH nF zF zH hb3 rF rH=>?_)
 (try simp only[Act.put,List.setIfInBounds_toArray,List.set_cons_zero,List.set_cons_succ])
 replace gF:(w2).heap.size<=F:=gF
 replace gH:(w2).heap.size<=H:=gH
 replace hb3:Below (w2).heap.size w2 w3:=Below.trans (Below.drew (Below.refl _ _)) hb3
 have zw3:=(hb3).size
 simp only[ptr]
 clear hS
 replace rB:=(aA hb3 (by omega)).trans rB
 replace rU:=(aA hb3 (by omega)).trans rU
 replace rP:=(aA hb3 (by omega)).trans rP
 replace rQ:=(aA hb3 (by omega)).trans rQ
 replace rE:=(aA hb3 (by omega)).trans rE
 replace rG:=(aA hb3 (by omega)).trans rG
 clear H3 H4
 go_wp2_with fail
 refine(H5.out _).mono ?_
 rintro e' w4 ⟨rfl,hb4⟩
 have zw4:=hb4.size
 replace rB:=(aA hb4 (by omega)).trans rB
 replace rU:=(aA hb4 (by omega)).trans rU
 replace rP:=(aA hb4 (by omega)).trans rP
 replace rQ:=(aA hb4 (by omega)).trans rQ
 replace rE:=(aA hb4 (by omega)).trans rE
 replace rG:=(aA hb4 (by omega)).trans rG
 replace rF:=(aA hb4 (by omega)).trans rF
 replace rH:=(aA hb4 (by omega)).trans rH
 clear H5
 go_wp2_with fail
 obtain⟨w5,hw5⟩:∃U,w4.alloc (.cells (bO i).toArray 306)=U:=⟨_,rfl⟩
 obtain⟨I,hI⟩:∃n,w4.heap.size=n:=⟨_,rfl⟩
 have rI:row w5 I=(bO i).toArray:=by rw[<-hw5,<-hI];exact aE _ _ _ rfl
 have zw5:w5.heap.size=w4.heap.size+1:=by rw[<-hw5];simp
 have hb5:Below w4.heap.size w4 w5:=by rw[<-hw5];exact ba_
 rw[hw5,hI]
 clear hw5
 replace rB:=(aA hb5 (by omega)).trans rB
 replace rU:=(aA hb5 (by omega)).trans rU
 replace rP:=(aA hb5 (by omega)).trans rP
 replace rQ:=(aA hb5 (by omega)).trans rQ
 replace rE:=(aA hb5 (by omega)).trans rE
 replace rG:=(aA hb5 (by omega)).trans rG
 replace rF:=(aA hb5 (by omega)).trans rF
 replace rH:=(aA hb5 (by omega)).trans rH
 refine jY [(w.heap.size+1,(bO bx++bO bz).toArray),(E,(bO e).toArray),(G,(bO g).toArray)] (fun hS=>?_)
 refine qp 0 hS ?_
 refine qp 1 hS ?_
 refine qp 2 hS ?_
 refine qp 3 hS ?_
 refine qp 5 hS ?_
 refine qp 7 hS ?_
 refine qp 8 hS ?_
 refine qp 9 hS ?_
 refine qp 10 hS ?_
 refine qp 12 hS ?_
 refine qc 4 (v:=?_) hS ?_ ?_
 rotate_left
 ·intro w' hS'
  simp only[Rws]at hS'
  go_simp
  with_reducible refine(H6.out _).mono ?_
  rintro e w'' ⟨rfl,hb⟩
  exact⟨_,rfl,by rfl,hb⟩
 refine qc 6 (v:=?_) hS ?_ ?_
 rotate_left
 ·intro w' hS'
  simp only[Rws]at hS'
  go_simp
  with_reducible refine(H7.out _).mono ?_
  rintro e w'' ⟨rfl,hb⟩
  exact⟨_,rfl,by rfl,hb⟩
 refine qc 11 (v:=?_) hS ?_ ?_
 rotate_left
 ·intro w' hS'
  simp only[Rws]at hS'
  go_simp
  with_reducible refine(H8.out _).mono ?_
  rintro e w'' ⟨rfl,hb⟩
  exact⟨_,rfl,by rfl,hb⟩
 refine qc 13 (v:=?_) hS ?_ ?_
 rotate_left
 ·intro w' hS'
  simp only[Rws]at hS'
  go_simp
  with_reducible refine(H9.out _).mono ?_
  rintro e w'' ⟨rfl,hb⟩
  exact⟨_,rfl,by rfl,hb⟩
 refine fI (i:=14) (j:=15) (k:=16) (m:=17) (zi:=(aH 16 (Value.int .i64 0)).toArray) (zj:=(aH 16 (Value.int .i64 0)).toArray) (cA:=(bO j).toArray) (cB:=(bO k).toArray) cD cD cD cD ⟨rfl,rfl,fun a w=>by go_simp;(refine⟨?_,?_⟩<;>rfl)⟩ ⟨rfl,rfl,fun a w=>by go_simp;(refine⟨?_,?_⟩<;>rfl)⟩ (by decide) (by decide) kr_ kr_ kr_ kr_ kr_ kr_ rfl rfl rfl rfl (by simp[*]) (by simp[*]) (by simp) (by simp) (by simp;(try omega)) (fun A B w1 hr=>by
  simp only[Act.put,List.setIfInBounds_toArray,List.set_cons_zero,List.set_cons_succ,ptr]
  go_simp
  try rfl) (fun A B w1 hr=>by
  simp only[Act.put,List.setIfInBounds_toArray,List.set_cons_zero,List.set_cons_succ,ptr]
  go_simp
  try rfl) hS (fun J K w6 gJ gK nJ zJ zK hb6 rJ rK=>?_)
 (try simp only[Act.put,List.setIfInBounds_toArray,List.set_cons_zero,List.set_cons_succ])
 replace gJ:(w5).heap.size<=J:=gJ
 replace gK:(w5).heap.size<=K:=gK
 replace hb6:Below (w5).heap.size w5 w6:=Below.trans (Below.drew (Below.refl _ _)) hb6
 have zw6:=(hb6).size
 simp only[ptr]
 clear hS
 replace rU:=(aA hb6 (by omega)).trans rU
 replace rP:=(aA hb6 (by omega)).trans rP
 replace rQ:=(aA hb6 (by omega)).trans rQ
 replace rF:=(aA hb6 (by omega)).trans rF
 replace rH:=(aA hb6 (by omega)).trans rH
 replace rI:=(aA hb6 (by omega)).trans rI
 clear H6 H7 H8 H9 rB rE rG
 go_wp2_with fail
 refine jY [(J,(bO j).toArray),(K,(bO k).toArray)] (fun hS=>?_)
 refine qp 0 hS ?_
 refine qp 1 hS ?_
 refine qp 3 hS ?_
 refine qp 4 hS ?_
 refine qc 2 (v:=?_) hS ?_ ?_
 rotate_left
 ·intro w' hS'
  simp only[Rws]at hS'
  go_simp
  with_reducible refine(H10.out _).mono ?_
  rintro e w'' ⟨rfl,hb⟩
  exact⟨_,rfl,by rfl,hb⟩
 refine qc 5 (v:=?_) hS ?_ ?_
 rotate_left
 ·intro w' hS'
  simp only[Rws]at hS'
  go_simp
  with_reducible refine(H11.out _).mono ?_
  rintro e w'' ⟨rfl,hb⟩
  exact⟨_,rfl,by rfl,hb⟩
 refine fI (i:=6) (j:=7) (k:=8) (m:=9) (zi:=(aH 16 (Value.int .i64 0)).toArray) (zj:=(aH 16 (Value.int .i64 0)).toArray) (cA:=(bO s).toArray) (cB:=(bO d).toArray) cD cD cD cD ⟨rfl,rfl,fun a w=>by go_simp;(refine⟨?_,?_⟩<;>rfl)⟩ ⟨rfl,rfl,fun a w=>by go_simp;(refine⟨?_,?_⟩<;>rfl)⟩ (by decide) (by decide) kr_ kr_ kr_ kr_ kr_ kr_ rfl rfl rfl rfl (by simp[*]) (by simp[*]) (by simp) (by simp) (by simp;(try omega)) (fun A B w1 hr=>by
  simp only[Act.put,List.setIfInBounds_toArray,List.set_cons_zero,List.set_cons_succ,ptr]
  go_simp
  try rfl) (fun A B w1 hr=>by
  simp only[Act.put,List.setIfInBounds_toArray,List.set_cons_zero,List.set_cons_succ,ptr]
  go_simp
  try rfl) hS (fun S D w7 gS gD nS zS zD hb7 rS rD=>?_)
 (try simp only[Act.put,List.setIfInBounds_toArray,List.set_cons_zero,List.set_cons_succ])
 replace gS:(w6).heap.size<=S:=gS
 replace gD:(w6).heap.size<=D:=gD
 replace hb7:Below (w6).heap.size w6 w7:=Below.trans (Below.drew (Below.refl _ _)) hb7
 have zw7:=(hb7).size
 simp only[ptr]
 clear hS
 replace rU:=(aA hb7 (by omega)).trans rU
 replace rP:=(aA hb7 (by omega)).trans rP
 replace rQ:=(aA hb7 (by omega)).trans rQ
 replace rF:=(aA hb7 (by omega)).trans rF
 replace rH:=(aA hb7 (by omega)).trans rH
 replace rI:=(aA hb7 (by omega)).trans rI
 clear H10 H11 rJ rK
 go_wp2_with fail
 refine jY [(w.heap.size+1+1,(bO u).toArray),(F,(bO f).toArray),(H,(bO h).toArray),(I,(bO i).toArray),(S,(bO s).toArray),(D,(bO d).toArray)] (fun hS=>?_)
 refine qp 0 hS ?_
 refine qp 1 hS ?_
 refine qp 3 hS ?_
 refine qp 4 hS ?_
 refine qp 5 hS ?_
 refine qp 6 hS ?_
 refine qp 11 hS ?_
 refine qp 12 hS ?_
 refine qp 14 hS ?_
 refine qp 15 hS ?_
 refine qp 16 hS ?_
 refine qc 2 (v:=?_) hS ?_ ?_
 rotate_left
 ·intro w' hS'
  simp only[Rws]at hS'
  go_simp
  with_reducible refine(dX f h _ hfl hhl).mono ?_
  rintro e w'' ⟨rfl,hb⟩
  exact⟨_,rfl,by rfl,hb⟩
 rw[aHx]
 refine qc 7 (v:=?_) hS ?_ ?_
 rotate_left
 ·intro w' hS'
  simp only[Rws]at hS'
  go_simp
  with_reducible refine(dX c24 i _ rfl hil).mono ?_
  rintro e w'' ⟨rfl,hb⟩
  exact⟨_,rfl,by rfl,hb⟩
 refine qc 8 (v:=?_) hS ?_ ?_
 rotate_left
 ·intro w' hS'
  simp only[Rws]at hS'
  go_simp
  with_reducible refine(s8 f (aX c24 i) _ hfl (bH _ _)).mono ?_
  rintro e w'' ⟨rfl,hb⟩
  exact⟨_,rfl,by rfl,hb⟩
 refine qc 9 (v:=?_) hS ?_ ?_
 rotate_left
 ·intro w' hS'
  simp only[Rws]at hS'
  go_simp
  with_reducible refine(dX i (fU f (aX c24 i)) _ hil (by rw[iK];exact hfl)).mono ?_
  rintro e w'' ⟨rfl,hb⟩
  exact⟨_,rfl,by rfl,hb⟩
 have q1:=bH f h
 have q2:=bH i (fU f (aX c24 i))
 have q3:=bH s s
 have q4:=bH u (aX d d)
 refine qp 10 hS ?_
 refine qc 13 (v:=?_) hS ?_ ?_
 rotate_left
 ·intro w' hS'
  simp only[Rws]at hS'
  go_simp
  with_reducible refine(dX s s _ hsl hsl).mono ?_
  rintro e w'' ⟨rfl,hb⟩
  exact⟨_,rfl,by rfl,hb⟩
 refine qc 17 (v:=?_) hS ?_ ?_
 rotate_left
 ·intro w' hS'
  simp only[Rws]at hS'
  go_simp
  with_reducible refine(dX d d _ hdl hdl).mono ?_
  rintro e w'' ⟨rfl,hb⟩
  exact⟨_,rfl,by rfl,hb⟩
 refine qc 18 (v:=?_) hS ?_ ?_
 rotate_left
 ·intro w' hS'
  simp only[Rws]at hS'
  go_simp
  with_reducible refine(dX u (aX d d) _ hu (bH _ _)).mono ?_
  rintro e w'' ⟨rfl,hb⟩
  exact⟨_,rfl,by rfl,hb⟩
 refine qp 19 hS ?_
 have rP':row w7.drew (w.heap.size+1+1+1)=(aH 32 (Value.int .i64 0)).toArray:=rP
 refine bI (i:=20) (b:=w.heap.size+1+1+1) (c:=(bO (aX f h)++bO (aX i (fU f (aX c24 i)))).toArray) cD rfl rfl kr_ (by simp;(try omega)) hS (by rw[rP'];simp;(try omega)) (fun w1 hr=>by rw[rP']at hr;go_simp;(try rfl)) (fun u1 hu1 ru1 hS=>?_)
 have zu1:=hu1.size
 replace zu1:w7.heap.size<=u1.heap.size:=zu1
 have hb8:Below w.heap.size w7 u1:=cJ (Below.trans (Below.drew (Below.refl _ _)) hu1) (Below.refl _ _) (by omega)
 obtain⟨w8,hw8⟩:∃v,u1.setRow (w.heap.size+1+1+1) (bO (aX f h)++bO (aX i (fU f (aX c24 i)))).toArray=v:=⟨_,rfl⟩
 have rP8:row w8 (w.heap.size+1+1+1)=(bO (aX f h)++bO (aX i (fU f (aX c24 i)))).toArray:=by
  rw[<-hw8]
  exact aB (by rw[ru1,rP'];simp) (by rw[ru1,rP'];simp[*])
 have rQ8:row w8 (w.heap.size+1+1+1+1)=(aH 32 (Value.int .i64 0)).toArray:=by
  rw[<-hw8,aC _ _ _ (by omega)]
  exact(aA hu1 (show _<w7.heap.size by omega)).trans rQ
 have zw8:w7.heap.size<=w8.heap.size:=by rw[<-hw8];simp;omega
 replace hb8:Below w.heap.size w7 w8:=by rw[<-hw8];exact Below.setRow hb8 (by omega) _
 rw[hw8]at hS ⊢
 clear hw8 hu1 ru1
 refine bI (i:=21) (b:=w.heap.size+1+1+1+1) (c:=(bO (aX s s)++bO (aX u (aX d d))).toArray) cD rfl rfl kr_ (by simp;(try omega)) hS (by rw[rQ8];simp;(try omega)) (fun w1 hr=>by rw[rQ8]at hr;go_simp;(try rfl)) (fun u2 hu2 ru2 hS=>?_)
 have zu2:=hu2.size
 have hb9:Below w.heap.size w7 u2:=Below.trans hb8 (hu2.mono (by omega))
 obtain⟨w9,hw9⟩:∃v,u2.setRow (w.heap.size+1+1+1+1) (bO (aX s s)++bO (aX u (aX d d))).toArray=v:=⟨_,rfl⟩
 have rQ9:row w9 (w.heap.size+1+1+1+1)=(bO (aX s s)++bO (aX u (aX d d))).toArray:=by
  rw[<-hw9]
  exact aB (by rw[ru2,rQ8];simp) (by rw[ru2,rQ8];simp[*])
 have rP9:row w9 (w.heap.size+1+1+1)=(bO (aX f h)++bO (aX i (fU f (aX c24 i)))).toArray:=by
  rw[<-hw9,aC _ _ _ (by omega)]
  exact(aA hu2 (by omega)).trans rP8
 have zw9:w7.heap.size<=w9.heap.size:=by rw[<-hw9];simp;omega
 replace hb9:Below w.heap.size w7 w9:=by rw[<-hw9];exact Below.setRow hb9 (by omega) _
 rw[hw9]at hS ⊢
 clear hw9 hu2 ru2
 refine aG kr_ (fun wN hN=>?_) _
 replace rQ9:=(aA hN (by omega)).trans rQ9
 replace rP9:=(aA hN (by omega)).trans rP9
 replace hb9:Below w.heap.size w7 wN:=Below.trans hb9 (hN.mono (by omega))
 clear hS hN
 go_wp2_with fail
 (try simp only[Exit.inBlock,Exit.then])
 refine bodyPost_ret (aS rfl (aK rfl ?_) (aK rfl ?_)) rfl ?_
 ·rw[rP9];simp[*]
 ·rw[rQ9];simp[*]
 refine⟨by rw[rP9,rQ9],?_⟩
 exact Below.trans hb1 (Below.trans (hb2.mono (by omega)) (Below.trans (hb3.mono (by omega)) (Below.trans (hb4.mono (by omega)) (Below.trans (hb5.mono (by omega)) (Below.trans (hb6.mono (by omega)) (Below.trans (hb7.mono (by omega)) hb9))))))
end
section
open Go.RowKit
def oneL:List Int:=[1,0,0,0,0,0,0,0,0,0,0,0,0,0,0,0]
def zeroL:List Int:=List.replicate 16 0
theorem aHy:(Value.int .i64 1::(aH 16 (Value.int .i64 0)).tail)=bO oneL:=rfl
theorem aAx:(Value.int .i64 1::((aH 16 (Value.int .i64 0)).tail++aH 16 (Value.int .i64 0)))=bO oneL++bO zeroL:=rfl
theorem m9:oneL.length=16:=rfl
theorem rW:zeroL.length=16:=rfl
structure Lad where
 ax:List Int
 az:List Int
 bx:List Int
 bz:List Int
def Lad.swap (s:Lad):Lad:=⟨s.bx,s.bz,s.ax,s.az⟩
def Lad.step (s:Lad) (u:List Int):Lad:=⟨aAt s.ax s.az,aAu s.ax s.az,aAv s.ax s.az s.bx s.bz,aAw s.ax s.az s.bx s.bz u⟩
def Lad.ok (s:Lad):Prop:=s.ax.length=16/\s.az.length=16/\s.bx.length=16/\s.bz.length=16
def aNa (n:List UInt8) (i:Nat):Bool:=(n.getD (i / 8) 0).toNat / 2^(i%8)%2==1
def aFT (n:List UInt8) (u:List Int) (k:Nat) (s:Lad):Lad:=if aNa n (254 - k)then (s.swap.step u).swap else s.step u
def aJR (u:List Int):Lad:=⟨oneL,zeroL,u,oneL⟩
def aMd (n:List UInt8) (u:List Int):Lad:=aU (aFT n u) 255 (aJR u)
def iC (n u:List UInt8):List UInt8:=aDf (aX (aMd (q8 n) (ofL u)).ax (aFh (aMd (q8 n) (ofL u)).az))
theorem wH (n u:List UInt8):(iC n u).length=32:=m8 _
attribute [local irreducible] aX in
theorem Lad.step_ok (s:Lad) (u:List Int):(s.step u).ok:=
 ⟨by show(aAt _ _).length=16;unfold aAt;exact bH _ _,by show(aAu _ _).length=16;unfold aAu;exact bH _ _,by show(aAv _ _ _ _).length=16;unfold aAv;exact bH _ _,by show(aAw _ _ _ _ _).length=16;unfold aAw;exact bH _ _⟩
theorem Lad.swap_ok {s:Lad} (h:s.ok):s.swap.ok:=⟨h.2.2.1,h.2.2.2,h.1,h.2.1⟩
theorem aKW (n:List UInt8) (u:List Int) (k:Nat) (s:Lad):(aFT n u k s).ok:=by
 unfold aFT
 split
 ·exact Lad.swap_ok (Lad.step_ok _ _)
 ·exact Lad.step_ok _ _
theorem aKX {f:Nat->Lad->Lad} (hf:∀k s,(f k s).ok) (k:Nat) (s:Lad) (hs:s.ok):(aU f k s).ok:=by
 cases k with
 | zero=>exact hs
 | succ k=>exact hf _ _
theorem aKY (b:UInt8) (r:Nat) (hr:r<8):bits .and .u8 ((b.toNat:Int) / 2^r) 1=if (b.toNat / 2^r%2==1)=true then 1 else 0:=by
 have h1:∀r:Fin 8,∀b:Fin 256,bits .and .u8 (((b.val:Nat):Int) / 2^r.val) 1=if (b.val / 2^r.val%2==1)=true then 1 else 0:=by decide+kernel
 exact h1 ⟨r,hr⟩ ⟨b.toNat,b.toNat_lt⟩
attribute [local irreducible] aDf aX ofL aFh aU aAt aAu aAv aAw
theorem aFk (n u:List UInt8) (w:World) (hn:n.length=32) (hu:u.length=32):
  Calls Tryz.prog 148 #[.agg (u8s n).toArray,.agg (u8s u).toArray] w fun e w'=>e=.returned (.agg (u8s (iC n u)).toArray)/\Below w.heap.size w w':=by
 obtain⟨c,hc⟩:∃c,q8 n=c:=⟨_,rfl⟩
 obtain⟨o,ho⟩:∃o,ofL u=o:=⟨_,rfl⟩
 have hcl:c.length=32:=by rw[<-hc,aAs,hn]
 have hol:o.length=16:=by rw[<-ho,yC]
 have HC:=h_ (fun w=>aHw n w hn)
 have HO:=h_ (fun w=>aMc u w hu)
 have hk:iC n u=aDf (aX (aMd c o).ax (aFh (aMd c o).az)):=by rw[iC,hc,ho]
 rw[hc]at HC
 rw[ho]at HO
 rw[hk]
 clear hk hc ho
 go_enter Tryz.func148,Tryz.ntmps148
 go_wp2_with fail
 obtain⟨w1,hw1⟩:∃U,(((w.alloc (.cells (u8s n).toArray 28)).alloc (.cells (u8s u).toArray 28)).alloc (.cells (aH 32 (Value.int .u8 0)).toArray 28))=U:=⟨_,rfl⟩
 have rn:row w1 w.heap.size=(u8s n).toArray:=by rw[<-hw1];simp[go_sem]
 have ru:row w1 (w.heap.size+1)=(u8s u).toArray:=by rw[<-hw1];simp[go_sem]
 have rR:row w1 (w.heap.size+1+1)=(aH 32 (Value.int .u8 0)).toArray:=by rw[<-hw1];simp[go_sem]
 have z1:w1.heap.size=w.heap.size+1+1+1:=by rw[<-hw1];simp
 have hb1:Below w.heap.size w w1:=by rw[<-hw1];(repeat (first | exact Below.refl _ _ | refine Below.al ?_ _ | refine Below.drew ?_ | refine Below.sr ?_ _ | refine Below.sc ?_ _))
 rw[hw1]
 clear hw1
 replace z1:w.heap.size+1+1<w1.heap.size:=by omega
 refine jY [(w.heap.size,(u8s n).toArray),(w.heap.size+1,(u8s u).toArray)] (fun hS=>?_)
 refine qp 0 hS ?_
 refine qp 2 hS ?_
 refine qc 1 (v:=?_) hS ?_ ?_
 rotate_left
 ·intro w' hS'
  simp only[Rws]at hS'
  go_simp
  with_reducible refine(HC.out _).mono ?_
  rintro e w'' ⟨rfl,hb⟩
  exact⟨_,rfl,by rfl,hb⟩
 refine qc 3 (v:=?_) hS ?_ ?_
 rotate_left
 ·intro w' hS'
  simp only[Rws]at hS'
  go_simp
  with_reducible refine(HO.out _).mono ?_
  rintro e w'' ⟨rfl,hb⟩
  exact⟨_,rfl,by rfl,hb⟩
 refine fI (i:=4) (j:=5) (k:=6) (m:=7) (zi:=(aH 32 (Value.int .u8 0)).toArray) (zj:=(aH 16 (Value.int .i64 0)).toArray) (cA:=(u8s c).toArray) (cB:=(bO o).toArray) cD cD cD cD ⟨rfl,rfl,fun a w=>by go_simp;(refine⟨?_,?_⟩<;>rfl)⟩ ⟨rfl,rfl,fun a w=>by go_simp;(refine⟨?_,?_⟩<;>rfl)⟩ (by decide) (by decide) kr_ kr_ kr_ kr_ kr_ kr_ rfl rfl rfl rfl (by simp[*]) (by simp[*]) (by simp) (by simp) (by simp;(try omega)) (fun A B w1 hr=>by
  simp only[Act.put,List.setIfInBounds_toArray,List.set_cons_zero,List.set_cons_succ,ptr]
  go_simp
  try rfl) (fun A B w1 hr=>by
  simp only[Act.put,List.setIfInBounds_toArray,List.set_cons_zero,List.set_cons_succ,ptr]
  go_simp
  try rfl) hS (fun N U w2 gN gU nN zN zU hb2 rN rU=>?_)
 (try simp only[Act.put,List.setIfInBounds_toArray,List.set_cons_zero,List.set_cons_succ])
 replace gN:(w1).heap.size<=N:=gN
 replace gU:(w1).heap.size<=U:=gU
 replace hb2:Below (w1).heap.size w1 w2:=Below.trans (Below.drew (Below.refl _ _)) hb2
 have zw2:=(hb2).size
 simp only[ptr]
 clear hS
 replace rR:=(aA hb2 (by omega)).trans rR
 clear rn ru HC HO
 go_wp2_with fail
 refine jY [(U,(bO o).toArray)] (fun hS=>?_)
 refine qp 0 hS ?_
 refine qp 1 hS ?_
 refine qp 2 hS ?_
 refine qp 3 hS ?_
 have q1:=m9
 have q2:=rW
 rw[aAx,aHy]
 refine qp 4 hS ?_
 refine fI (i:=5) (j:=6) (k:=7) (m:=8) (zi:=(aH 32 (Value.int .i64 0)).toArray) (zj:=(aH 32 (Value.int .i64 0)).toArray) (cA:=(bO oneL++bO zeroL).toArray) (cB:=(bO o++bO oneL).toArray) cD cD cD cD ⟨rfl,rfl,fun a w=>by go_simp;(refine⟨?_,?_⟩<;>rfl)⟩ ⟨rfl,rfl,fun a w=>by go_simp;(refine⟨?_,?_⟩<;>rfl)⟩ (by decide) (by decide) kr_ kr_ kr_ kr_ kr_ kr_ rfl rfl rfl rfl (by simp[*]) (by simp[*]) (by simp) (by simp) (by simp;(try omega)) (fun A B w1 hr=>by
  simp only[Act.put,List.setIfInBounds_toArray,List.set_cons_zero,List.set_cons_succ,ptr]
  go_simp
  try rfl) (fun A B w1 hr=>by
  simp only[Act.put,List.setIfInBounds_toArray,List.set_cons_zero,List.set_cons_succ,ptr]
  go_simp
  try rfl) hS (fun A B w3 gA gB nA zA zB hb3 rA rB=>?_)
 (try simp only[Act.put,List.setIfInBounds_toArray,List.set_cons_zero,List.set_cons_succ])
 replace gA:(w2).heap.size<=A:=gA
 replace gB:(w2).heap.size<=B:=gB
 replace hb3:Below (w2).heap.size w2 w3:=Below.trans (Below.drew (Below.refl _ _)) hb3
 have zw3:=(hb3).size
 simp only[ptr]
 clear hS
 replace rR:=(aA hb3 (by omega)).trans rR
 replace rN:=(aA hb3 (by omega)).trans rN
 replace rU:=(aA hb3 (by omega)).trans rU
 have hb:Below w.heap.size w w3:=Below.trans hb1 (Below.trans (hb2.mono (by omega)) (hb3.mono (by omega)))
 clear hb1 hb2 hb3
 go_wp2_with fail
 go_loopw [9] (fun i wr=>∃k:Nat,k<=255/\i=.int .i64 (254 - (k:Int))/\row wr A=(bO (aU (aFT c o) k (aJR o)).ax++bO (aU (aFT c o) k (aJR o)).az).toArray/\row wr B=(bO (aU (aFT c o) k (aJR o)).bx++bO (aU (aFT c o) k (aJR o)).bz).toArray/\row wr N=(u8s c).toArray/\row wr U=(bO o).toArray/\row wr (w.heap.size+1+1)=(aH 32 (Value.int .u8 0)).toArray/\w3.heap.size<=wr.heap.size/\Below w.heap.size w wr) (fun i _=>(intOf i+1).toNat)
 case atStart=>
  refine⟨0,by omega,rfl,?_,?_,rN,rU,rR,Nat.le_refl _,hb⟩
  ·rw[aU];exact rA
  ·rw[aU];exact rB
 case round=>
  clear rA rB rN rU rR hb
  obtain⟨k,hk,rfl,rA,rB,rN,rU,rR,zr,hb⟩:=hrel
  obtain⟨L,hL⟩:∃L,aU (aFT c o) k (aJR o)=L:=⟨_,rfl⟩
  have hLo:L.ok:=by rw[<-hL];exact aKX (aKW c o) k _ ⟨m9,rW,hol,m9⟩
  obtain⟨ax,az,bx,bz⟩:=L
  obtain⟨l1,l2,l3,l4⟩:=hLo
  rw[hL]at rA rB
  simp only at l1 l2 l3 l4 rA rB
  have HL:=h_ hL
  clear hL
  have q3:A<wr.heap.size:=by omega
  have q4:B<wr.heap.size:=by omega
  have q5:N<wr.heap.size:=by omega
  have q6:U<wr.heap.size:=by omega
  by_cases hlt:k<255
  ·obtain⟨m,hm⟩:∃m,m+k=254:=⟨254 - k,by omega⟩
   have e0:(254 - (k:Int))=(m:Int):=by omega
   rw[e0]
   have hm1:m<=254:=by omega
   have hm2:(m:Int)<=254:=by omega
   obtain⟨q,hq⟩:∃q,m / 8=q:=⟨_,rfl⟩
   obtain⟨r,hr⟩:∃r,m%8=r:=⟨_,rfl⟩
   have e1:(m:Int) / 8=(q:Int):=by omega
   have e2:(m:Int)%8=(r:Int):=by omega
   have h8:q<c.length:=by omega
   have h9:q<32:=by omega
   have h10:(q:Int)<32:=by omega
   have h11:r<8:=by omega
   have HQ:=h_ hq
   have HR:=h_ hr
   clear hq hr
   have HM:=h_ hm
   clear e0 hm
   have n1:B≠A:=Ne.symm nA
   have n2:N≠A:=by omega
   have n3:N≠B:=by omega
   have n4:U≠A:=by omega
   have n5:U≠B:=by omega
   have n6:w.heap.size+1+1≠A:=by omega
   have n7:w.heap.size+1+1≠B:=by omega
   have hbit:=aKY c[q] r h11
   have hbn:aNa c (254 - k)=(c[q].toNat / 2^r%2==1):=by
    rw[show 254 - k=m by have:=HM.out;omega,aNa,HQ.out,HR.out]
    simp[List.getD_eq_getElem?_getD,h8]
   by_cases hc:(c[q].toNat / 2^r%2==1)=true
   ·rw[if_pos hc]at hbit
    have hF:aU (aFT c o) (k+1) (aJR o)=((Lad.mk bx bz ax az).step o).swap:=by rw[aU,HL.out,aFT,hbn,if_pos hc];rfl
    have HF:=h_ hF
    clear hF hbn hc
    obtain⟨W,hW⟩:∃W,(wr.setRow A (bO bx++bO bz).toArray).setRow B (bO ax++bO az).toArray=W:=⟨_,rfl⟩
    obtain⟨f1,f2,f3,f4,f5,f6⟩:=aMC hW nA (by rw[rA];simp;omega) (by rw[rB];simp;omega) (by simp;omega) (by simp;omega)
    rw[rB]at f1
    have g1:=(f4 U n4 n5).trans rU
    have g2:=(f4 N n2 n3).trans rN
    have g3:=(f4 _ n6 n7).trans rR
    replace f6:=Below.trans hb (f6 _ (by omega) (by omega))
    clear f4
    go_wp2_with fail
    clear hW f1 rA rB rU rN rR hb hbit
    refine(aEb bx bz ax az o _ l3 l4 l1 l2 hol).mono ?_
    rintro e w5 ⟨rfl,hb5⟩
    have zw5:=hb5.size
    obtain⟨sx,hsx⟩:∃l,aAt bx bz=l:=⟨_,rfl⟩
    obtain⟨sz,hsz⟩:∃l,aAu bx bz=l:=⟨_,rfl⟩
    obtain⟨su,hsu⟩:∃l,aAv bx bz ax az=l:=⟨_,rfl⟩
    obtain⟨sv,hsv⟩:∃l,aAw bx bz ax az o=l:=⟨_,rfl⟩
    have hso:=Lad.step_ok (Lad.mk bx bz ax az) o
    have hst:(Lad.mk bx bz ax az).step o=⟨sx,sz,su,sv⟩:=by rw[Lad.step,hsx,hsz,hsu,hsv]
    rw[hst]at hso
    obtain⟨m1,m2,m3,m4⟩:=hso
    simp only at m1 m2 m3 m4
    replace HF:=h_ (HF.out.trans (hst▸rfl:_=(Lad.mk sx sz su sv).swap))
    rw[hsx,hsz,hsu,hsv]
    clear hsx hsz hsu hsv hst
    have rA5:=(aA hb5 (by omega)).trans f2
    have rB5:=(aA hb5 (by omega)).trans f3
    have rU5:=(aA hb5 (by omega)).trans g1
    have rN5:=(aA hb5 (by omega)).trans g2
    have rR5:=(aA hb5 (by omega)).trans g3
    replace hb5:=Below.trans f6 (hb5.mono (by omega))
    clear f2 f3 g1 g2 g3 f6
    obtain⟨W6,hW6⟩:∃W,(w5.setRow A (bO sx++bO sz).toArray).setRow B (bO su++bO sv).toArray=W:=⟨_,rfl⟩
    obtain⟨p1,p2,p3,p4,p5,p6⟩:=aMC hW6 nA (by rw[rA5];simp;omega) (by rw[rB5];simp;omega) (by simp;omega) (by simp;omega)
    rw[rB5]at p1
    have k1:=(p4 U n4 n5).trans rU5
    have k2:=(p4 N n2 n3).trans rN5
    have k3:=(p4 _ n6 n7).trans rR5
    replace p6:=Below.trans hb5 (p6 _ (by omega) (by omega))
    clear p4
    obtain⟨W7,hW7⟩:∃W,(W6.setRow A (bO su++bO sv).toArray).setRow B (bO sx++bO sz).toArray=W:=⟨_,rfl⟩
    obtain⟨s1,s2,s3,s4,s5,s6⟩:=aMC hW7 nA (by rw[p2];simp;omega) (by rw[p3];simp;omega) (by simp;omega) (by simp;omega)
    rw[p3]at s1
    have t1:=(s4 U n4 n5).trans k1
    have t2:=(s4 N n2 n3).trans k2
    have t3:=(s4 _ n6 n7).trans k3
    replace s6:=Below.trans p6 (s6 _ (by omega) (by omega))
    clear s4
    go_wp2_with fail
    go_roundw
    case rel=>
     refine⟨k+1,by omega,?_,?_,?_,t2,t1,t3,by omega,s6⟩
     ·have:=HM.out
      congr 1
      omega
     ·rw[s2,HF.out];rfl
     ·rw[s3,HF.out];rfl
    case measure=>have:=HM.out;simp[intOf];(try omega)
   ·rw[if_neg hc]at hbit
    have hF:aU (aFT c o) (k+1) (aJR o)=(Lad.mk ax az bx bz).step o:=by rw[aU,HL.out,aFT,hbn,if_neg hc]
    have HF:=h_ hF
    clear hF hbn hc
    go_wp2_with fail
    refine(aEb ax az bx bz o _ l1 l2 l3 l4 hol).mono ?_
    rintro e w5 ⟨rfl,hb5⟩
    have zw5:=hb5.size
    obtain⟨sx,hsx⟩:∃l,aAt ax az=l:=⟨_,rfl⟩
    obtain⟨sz,hsz⟩:∃l,aAu ax az=l:=⟨_,rfl⟩
    obtain⟨su,hsu⟩:∃l,aAv ax az bx bz=l:=⟨_,rfl⟩
    obtain⟨sv,hsv⟩:∃l,aAw ax az bx bz o=l:=⟨_,rfl⟩
    have hso:=Lad.step_ok (Lad.mk ax az bx bz) o
    have hst:(Lad.mk ax az bx bz).step o=⟨sx,sz,su,sv⟩:=by rw[Lad.step,hsx,hsz,hsu,hsv]
    rw[hst]at hso
    obtain⟨m1,m2,m3,m4⟩:=hso
    simp only at m1 m2 m3 m4
    replace HF:=h_ (HF.out.trans (hst▸rfl:_=(Lad.mk sx sz su sv)))
    rw[hsx,hsz,hsu,hsv]
    clear hsx hsz hsu hsv hst
    have rA5:=(aA hb5 (by omega)).trans rA
    have rB5:=(aA hb5 (by omega)).trans rB
    have rU5:=(aA hb5 (by omega)).trans rU
    have rN5:=(aA hb5 (by omega)).trans rN
    have rR5:=(aA hb5 (by omega)).trans rR
    replace hb5:=Below.trans hb (hb5.mono (by omega))
    clear rA rB rU rN rR hb hbit
    obtain⟨W6,hW6⟩:∃W,(w5.setRow A (bO sx++bO sz).toArray).setRow B (bO su++bO sv).toArray=W:=⟨_,rfl⟩
    obtain⟨p1,p2,p3,p4,p5,p6⟩:=aMC hW6 nA (by rw[rA5];simp;omega) (by rw[rB5];simp;omega) (by simp;omega) (by simp;omega)
    rw[rB5]at p1
    have k1:=(p4 U n4 n5).trans rU5
    have k2:=(p4 N n2 n3).trans rN5
    have k3:=(p4 _ n6 n7).trans rR5
    replace p6:=Below.trans hb5 (p6 _ (by omega) (by omega))
    clear p4
    go_wp2_with fail
    go_roundw
    case rel=>
     refine⟨k+1,by omega,?_,?_,?_,k2,k1,k3,by omega,p6⟩
     ·have:=HM.out
      congr 1
      omega
     ·rw[p2,HF.out]
     ·rw[p3,HF.out]
    case measure=>have:=HM.out;simp[intOf];(try omega)
  ·obtain rfl:k=255:=by omega
   have hLL:aMd c o=⟨ax,az,bx,bz⟩:=HL.out
   have HLL:=h_ hLL
   have e0:(254 - ((255:Nat):Int))= -1:=rfl
   rw[e0]
   clear e0 hLL HL hlt hk
   have hkl:=m8 (aX ax (aFh az))
   go_wp2_with fail
   refine jY [(A,(bO ax++bO az).toArray)] (fun hS=>?_)
   refine qp 0 hS ?_
   refine qp 1 hS ?_
   refine qp 2 hS ?_
   refine qp 3 hS ?_
   refine qc 4 (v:=?_) hS ?_ ?_
   rotate_left
   ·intro w' hS'
    simp only[Rws]at hS'
    go_simp
    with_reducible refine(aDe az _ l2).mono ?_
    rintro e w'' ⟨rfl,hb⟩
    exact⟨_,rfl,by rfl,hb⟩
   refine qc 5 (v:=?_) hS ?_ ?_
   rotate_left
   ·intro w' hS'
    simp only[Rws]at hS'
    go_simp
    with_reducible refine(dX ax (aFh az) _ l1 (aDh az l2)).mono ?_
    rintro e w'' ⟨rfl,hb⟩
    exact⟨_,rfl,by rfl,hb⟩
   refine qc 6 (v:=?_) hS ?_ ?_
   rotate_left
   ·intro w' hS'
    simp only[Rws]at hS'
    go_simp
    with_reducible refine(aKV (aX ax (aFh az)) _ (bH _ _)).mono ?_
    rintro e w'' ⟨rfl,hb⟩
    exact⟨_,rfl,by rfl,hb⟩
   have rR':row wr.drew (w.heap.size+1+1)=(aH 32 (Value.int .u8 0)).toArray:=rR
   refine bI (i:=7) (b:=w.heap.size+1+1) (c:=(u8s (aDf (aX ax (aFh az)))).toArray) cD rfl rfl kr_ (by simp;(try omega)) hS (by rw[rR'];simp;(try omega)) (fun w1 hr=>by rw[rR']at hr;go_simp;(try rfl)) (fun u1 hu1 ru1 hS=>?_)
   refine aG kr_ (fun wN hN=>?_) _
   have z9:=hu1.size
   replace z9:wr.heap.size<=u1.heap.size:=z9
   have hfin:row wN (w.heap.size+1+1)=(u8s (aDf (aX ax (aFh az)))).toArray:=by
    rw[aA hN (by simp;omega)]
    exact aB (by rw[ru1,rR'];simp) (by rw[ru1,rR'];simp[hkl])
   have hbN:Below w.heap.size w wN:=Below.trans hb (Below.trans (Below.trans (Below.drew (Below.refl _ _)) (hu1.mono (by simp;omega))) (Below.trans (Below.setRow (Below.refl _ _) (show w.heap.size<=w.heap.size+1+1 by omega) _) (hN.mono (by simp;omega))))
   clear hS hN
   go_wp2_with fail
   (try simp only[Exit.inBlock,Exit.then])
   refine bodyPost_ret (aV rfl (aK rfl ?_)) rfl ?_
   ·rw[hfin];simp[hkl]
   refine⟨by rw[hfin,HLL.out],hbN⟩
theorem vB (n:List UInt8):(iC n (9::List.replicate 31 0)).length=32:=m8 _
theorem aFl (n:List UInt8) (w:World) (hn:n.length=32):
  Calls Tryz.prog 111 #[.agg (u8s n).toArray] w fun e w'=>e=.returned (.agg (u8s (iC n (9::List.replicate 31 0))).toArray)/\Below w.heap.size w w':=by
 have HS:=h_ (fun w=>aFk n (9::List.replicate 31 0) w hn rfl)
 obtain⟨k,hk⟩:∃k,iC n (9::List.replicate 31 0)=k:=⟨_,rfl⟩
 have hkl:k.length=32:=by rw[<-hk];exact vB n
 rw[hk]at HS ⊢
 clear hk
 go_enter Tryz.func111,Tryz.ntmps111
 go_wp2_with fail
 rw[show(Value.int .u8 9::(aH 32 (Value.int .u8 0)).tail)=u8s (9::List.replicate 31 0)from rfl]
 refine(HS.out _).mono ?_
 rintro e w1 ⟨rfl,hb1⟩
 have z1:=(hb1).size
 try simp at z1
 have rR:row w1 (w.heap.size+1)=(aH 32 (Value.int .u8 0)).toArray:=by rw[aA hb1 (by simp)];simp[go_sem]
 replace hb1:=cJ hb1 (show Below (w).heap.size w _ from by(repeat (first | exact Below.refl _ _ | refine Below.al ?_ _ | refine Below.drew ?_ | refine Below.sr ?_ _ | refine Below.sc ?_ _))) (by first | (simp;done) | (simp;omega) | omega)
 go_wp2_with fail
 have hfin:=aB (w:=w1) (g:=w.heap.size+1) (c:=(u8s k).toArray) (by rw[rR];simp) (by rw[rR];simp[hkl])
 (try simp only[Exit.inBlock,Exit.then])
 refine bodyPost_ret (aV rfl (aK rfl ?_)) rfl ?_
 ·rw[hfin]
  simp[hkl]
 refine⟨by rw[hfin],?_⟩
 exact Below.setRow hb1 (by omega) _
end
end Go.Proofs.YtiagbbknkdgmeaaGreat
