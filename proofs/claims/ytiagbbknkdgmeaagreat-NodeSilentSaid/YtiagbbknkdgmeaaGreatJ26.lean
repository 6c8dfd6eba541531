/- Texts of this proof, merged: Que, QueT, Vec, Lsa. -/
import Derived.Test.YtiagbbknkdgmeaaGreatJ7
import Derived.Test.YtiagbbknkdgmeaaGreatJ2
import Derived.BigQuiet
import Derived.Laws.FloatArith
import Derived.Laws.Externs
import Derived.Deep.AppendLies
set_option linter.unusedSimpArgs false
set_option linter.unusedVariables false
set_option maxHeartbeats 8000000
set_option maxRecDepth 20000
namespace Go.Proofs.YtiagbbknkdgmeaaGreat
section
open Go.RowKit
theorem bK (Q j:Nat) (v:Value):GrowP fun W=>W.cell? ⟨Q,j,none⟩=some v/\Q<W.heap.size:=fun w w1 h hb=>by
 refine⟨?_,Nat.lt_of_lt_of_le h.2 hb.size⟩
 have:=h.1
 unfold World.cell? at this ⊢
 rw[hb.block Q h.2]
 exact this
theorem aBE (E:Nat) (c:Array Value):GrowP fun W=>row W E=c/\E<W.heap.size:=fun w w1 h hb=>⟨(aA hb h.2).trans h.1,Nat.lt_of_lt_of_le h.2 hb.size⟩
theorem aBF:(Tryz.prog.info? 71).map (fun i=>(i.zero.map (·.cells.size),i.size,i.bytes))=some (some 2,2,24):=by kernel_rfl
theorem aAf {w:World} {B:Nat} {e:TypeId} {sz:Nat} {v:Value} {l:List (List Value)} (h:OwnL w B e sz v l) (hl:l≠[]):∃g cap rest,v=.slice (some ⟨g,0,none⟩) l.length cap/\row w g=(l.flatten++rest).toArray/\B<=g/\g<w.heap.size:=by
 obtain⟨_,hlen,⟨_,h0⟩ | ⟨g,cap,cur,rfl,hg0,hg,_,_,_,ht⟩⟩:=h
 ·exact absurd (List.eq_nil_of_length_eq_zero h0) hl
 ·refine⟨g,cap,cur.toList.drop l.flatten.length,rfl,?_,hg0,(Array.getElem?_eq_some_iff.1 hg).1⟩
  unfold row
  have hlf:l.flatten.length=l.length*sz:=hlen
  rw[hg,<-ht]
  have:(List.take (l.length*sz) cur.toList).length=l.length*sz:=by rw[ht];exact hlf
  rw[this,List.take_append_drop]
  simp
theorem aBG (c:Bool) (w:World):Calls Tryz.prog 91 #[.bool c] w fun e w'=>e=.returned (.int .i64 (if c then 0 else 1))/\w'=w:=by
 go_enter Tryz.func91,Tryz.ntmps91
 cases c with
 | true=>
  go_wp2_with fail
  go_ret
  exact⟨rfl,rfl⟩
 | false=>
  go_wp2_with fail
  go_ret
  exact⟨rfl,rfl⟩
theorem aD0 (room:Int) (h:¬(1<=room/\room<=65536)) (w:World):Calls Tryz.prog 15 #[.int .i64 room] w fun e w'=>e=.returned (.tuple #[.pointer none,.int .i64 1])/\Below w.heap.size w w':=by
 go_enter Tryz.func15,Tryz.ntmps15
 by_cases h1:room<1
 ·go_wp2_with fail
  go_ret2
  exact⟨rfl,eD⟩
 ·have h2:65536<room:=by omega
  go_wp2_with fail
  go_ret2
  exact⟨rfl,eD⟩
theorem aCO (room:Int) (h:1<=room/\room<=65536) (w:World):Calls Tryz.prog 15 #[.int .i64 room] w fun e w'=>∃Q,e=.returned (.tuple #[.pointer (some ⟨Q,0,none⟩),.int .i64 0])/\w.heap.size<=Q/\Q<w'.heap.size/\row w' Q=#[.int .i64 room,.slice none 0 0,.slice none 0 0,.int .i64 0]/\Below w.heap.size w w':=by
 have h1:¬room<1:=by omega
 have h2:¬65536<room:=by omega
 go_enter Tryz.func15,Tryz.ntmps15
 go_wp2_with fail
 go_ret2
 exact⟨w.heap.size,rfl,Nat.le_refl _,by simp,(aE _ _ _ rfl).trans rfl,eD⟩
end
section
open Go.RowKit
theorem aET (Q:Nat) (limit d:Int) (a0 a1:Option Addr) (c0 c1:Nat) (w:World) (hQ:row w Q=#[.int .i64 limit,.slice a0 0 c0,.slice a1 0 c1,.int .i64 d]):
  Calls Tryz.prog 29 #[.pointer (some ⟨Q,0,none⟩)] w fun e w'=>e=.returned (.tuple #[.agg #[.int .i64 0,.string ⟨#[]⟩],.bool false,.bool false])/\Below w.heap.size w w':=by
 have zQ:Q<w.heap.size:=aM (i:=0) (by rw[hQ];simp)
 go_enter Tryz.func29,Tryz.ntmps29
 obtain⟨w1,hw1⟩:∃x,w.alloc (.cells #[Value.int .i64 0,.string ⟨#[]⟩] 71)=x:=⟨_,rfl⟩
 have b1:Below w.heap.size w w1:=by rw[<-hw1];exact ba_
 have z1:w1.heap.size=w.heap.size+1:=by rw[<-hw1,aF]
 have r1:row w1 w.heap.size=#[Value.int .i64 0,.string ⟨#[]⟩]:=by rw[<-hw1];exact aE _ _ _ rfl
 obtain⟨w2,hw2⟩:∃x,w1.alloc (.cells #[Value.int .i64 0,.string ⟨#[]⟩] 71)=x:=⟨_,rfl⟩
 have b2:Below w.heap.size w w2:=by rw[<-hw2];exact Below.alloc b1 (by omega) _
 have r2:row w2 w.heap.size=#[Value.int .i64 0,.string ⟨#[]⟩]:=by rw[<-hw2,aD _ _ (by omega)];exact r1
 have r2':row w2 (w.heap.size+1)=#[Value.int .i64 0,.string ⟨#[]⟩]:=by rw[<-hw2];exact aE _ _ _ z1.symm
 have rQ2:=(aA b2 zQ).trans hQ
 clear hQ r1
 go_wp2_with fail
 (try clear hw1)
 (try clear hw2)
 clear z1
 refine wp_loop_rounds 3 ?_
 rw[rounds_succ]
 go_wp2_with fail
 rw[rounds_succ]
 go_wp2_with fail
 rw[rounds_succ]
 have hs:=fA r2 (by simp)
 go_wp2_with fail
 (try simp only[Exit.inBlock,Exit.then])
 refine bodyPost_ret (tE rfl (aK rfl ?_) aP aP) rfl ?_
 ·first | (rw[r2];simp) | simp[go_sem,r2]
 exact⟨by first | (rw[r2];rfl) | simp[go_sem,r2],b2⟩
end
section
open Go.RowKit
theorem aGO (b:Nat) (w:World):Calls Tryz.prog 67 #[.float .f64 b] w fun e w'=>e=.returned (.bool (FloatKind.f64.format.order b b !=some Ordering.eq))/\w'=w:=by
 go_enter Tryz.func67,Tryz.ntmps67
 go_wp2_with fail
 go_ret
 exact⟨rfl,rfl⟩
theorem aGP (b:Nat) (w:World):Calls Tryz.prog 69 #[.float .f64 b,.int .i64 1] w fun e w'=>e=.returned (.bool (FloatKind.f64.format.order b 9218868437227405311==some Ordering.gt))/\w'=w:=by
 go_enter Tryz.func69,Tryz.ntmps69
 go_wp2_with fail
 go_ret
 exact⟨rfl,rfl⟩
theorem aCP (b:Nat) (w:World):(callFunc 103 #[.float .f64 b]).run Tryz.prog w=.ok (.value (.int .u64 (b:Int))) w:=by
 rw[run_callFunc_extern Tryz.func103 kr_ kr_ kr_ (e:=Go.Extern.MathFloatBits.float64bits) kr_]
 rfl
theorem aCQ (b:Int) (w:World):(callFunc 104 #[.int .u64 b]).run Tryz.prog w=.ok (.value (.float .f64 b.toNat)) w:=by
 rw[run_callFunc_extern Tryz.func104 kr_ kr_ kr_ (e:=Go.Extern.MathFloatBits.float64frombits) kr_]
 rfl
theorem aGQ (b:Nat) (w:World):Calls Tryz.prog 68 #[.float .f64 b] w fun e w'=>(∃v,e=.returned (.float .f64 v))/\w'=w:=by
 have h1:=aCP b
 have h2:=aCQ
 go_enter Tryz.func68,Tryz.ntmps68
 go_wp2_with fail
 all_goals
  go_ret
  exact⟨⟨_,rfl⟩,rfl⟩
section
variable {P:Program}
theorem aIH (t:TypeId) (x y:Nat) (w:World):∃v w',(binOp .quo t (.float .f64 x) (.float .f64 y)).run P w=.ok (.float .f64 v) w'/\Below w.heap.size w w':=by
 cases h:FloatKind.f64.format.div x y with
 | some r=>exact⟨r,w,run_float_arith (P:=P) w .quo t .f64 x y r h,Below.refl _ _⟩
 | none=>
  have hb:(binOp .quo t (.float .f64 x) (.float .f64 y))=Op.floatArith .quo .f64 x y:=by simp[binOp]
  rw[hb]
  unfold Op.floatArith
  simp only[Sem.run_bind,Sem.run_pure,Result.andThen_ok,h,run_choose_drew]
  split
  ·exact⟨_,_,rfl,Below.refl _ _⟩
  ·exact⟨_,_,rfl,Below.drew (Below.refl _ _)⟩
theorem aEU (src dst:TypeId) (b:Nat) (w:World) (hs:(P.underlying src).isSome=true) (hd:P.underlying dst=some (.int .i64)):∃n w',(convert src dst (.float .f64 b)).run P w=.ok (.int .i64 n) w'/\Below w.heap.size w w':=by
 obtain⟨u,hs'⟩:=Option.isSome_iff_exists.1 hs
 have hc:(convert src dst (.float .f64 b)).run P w=(Conv.floatToInt .f64 b .i64).run P w:=by
  cases u<;>simp[convert,run_underlying hs',run_underlying hd]
 rw[hc]
 unfold Conv.floatToInt
 have any:∃n w',((do pure (.int .i64 (IntKind.i64.wrap (<-choose (.floatToInt .f64 b .i64)))):Sem Value)).run P w=.ok (.int .i64 n) w'/\Below w.heap.size w w':=by
  simp only[Sem.run_bind,Sem.run_pure,run_choose_drew]
  split
  ·exact⟨_,_,rfl,Below.refl _ _⟩
  ·exact⟨_,_,rfl,Below.drew (Below.refl _ _)⟩
 cases h:(FloatKind.f64.decode b).toInt .zero with
 | some n=>
  simp only
  split
  ·exact⟨_,_,rfl,Below.refl _ _⟩
  ·exact any
 | none=>exact any
end
theorem aII (b:Nat) (w:World):Calls Tryz.prog 34 #[.float .f64 b] w fun e w'=>(∃n,e=.returned (.int .i64 n))/\Below w.heap.size w w':=by
 have HR:=h_ aGQ
 obtain⟨v1,w1,hq,b1⟩:=aIH (P:=Tryz.prog) 116 4671226772094713856 b w
 go_enter Tryz.func34,Tryz.ntmps34
 go_wp2_with fail
 (with_reducible refine(aGO b w).mono ?_)
 rintro e w2 ⟨rfl,rfl⟩
 generalize (FloatKind.f64.format.order b b !=some Ordering.eq)=q1
 cases q1 with
 | true=>
  go_wp2_with fail
  go_ret
  exact⟨⟨_,rfl⟩,Below.refl _ _⟩
 | false=>
  go_wp2_with fail
  ·go_ret
   exact⟨⟨_,rfl⟩,Below.refl _ _⟩
  (with_reducible refine(HR.out _ _).mono ?_)
  rintro e w3 ⟨⟨v3,rfl⟩,rfl⟩
  obtain⟨n4,w4,hi,b4⟩:=aEU (P:=Tryz.prog) 116 3 v3 w3 rfl kr_
  have B4:=b1.trans (b4.mono b1.size)
  clear hq
  go_wp2_with fail
  (with_reducible refine(aGP v3 w3).mono ?_)
  rintro e w5 ⟨rfl,rfl⟩
  generalize (FloatKind.f64.format.order v3 9218868437227405311==some Ordering.gt)=q2
  cases q2 with
  | true=>
   go_wp2_with fail
   go_ret
   exact⟨⟨_,rfl⟩,b1⟩
  | false=>
   go_wp2_with fail
   all_goals
    go_ret
    first | exact⟨⟨_,rfl⟩,b1⟩ | exact⟨⟨_,rfl⟩,B4⟩
end
end Go.Proofs.YtiagbbknkdgmeaaGreat
