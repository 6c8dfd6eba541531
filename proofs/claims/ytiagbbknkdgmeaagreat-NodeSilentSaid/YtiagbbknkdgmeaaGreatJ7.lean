/- Texts of this proof, merged: Int, App, Apl, Cln. -/
import Derived.Test.YtiagbbknkdgmeaaGreatJ6
import Derived.Test.YtiagbbknkdgmeaaGreatJ3
import Derived.Laws.OwnMore
set_option linter.unusedSimpArgs false
set_option linter.unusedVariables false
set_option maxHeartbeats 8000000
set_option maxRecDepth 20000
namespace Go.Proofs.YtiagbbknkdgmeaaGreat
section
open Go.RowKit
def IntsAt (w:World) (a:Option Addr) (l:List Int):Prop:=ElemsAt w a 1 (l.map fun v=>[Value.int .i64 v])
theorem IntsAt.len {w:World} {a:Option Addr} {l:List Int} (h:IntsAt w a l):l.length<=maxLen:=by
 have:=h.1
 rwa [List.length_map]at this
theorem IntsAt.below {w w':World} {a:Option Addr} {l:List Int} (h:IntsAt w a l) (hb:Below w.heap.size w w'):IntsAt w' a l:=ElemsAt.below h hb
theorem IntsAt.nil (w:World) (a:Option Addr):IntsAt w a []:=ElemsAt.nil _ _ _
theorem IntsAt.get {w:World} {a:Option Addr} {l:List Int} (h:IntsAt w a l) {k:Nat} (hk:k<l.length):∃b off,a=some ⟨b,off,none⟩/\b<w.heap.size/\w.cell? ⟨b,off+k,none⟩=some (.int .i64 l[k]):=by
 obtain⟨b,off,e,hb,hr⟩:=h.2 k [Value.int .i64 l[k]] (by rw[List.getElem?_map,List.getElem?_eq_getElem hk];rfl)
 refine⟨b,off,e,hb,?_⟩
 have:=hr w rfl 0 _ rfl
 rwa [Nat.mul_one,Nat.add_zero]at this
theorem aCo {l:List Int} {v:Int} {k:Nat} (hk:k<l.length) (h:l[k]=v):l.contains v=true:=by
 rw[List.contains_iff_mem,<-h]
 exact List.getElem_mem _
theorem aEt (a:Option Addr) (cap:Nat) (l:List Int) (v:Int) (w:World) (h:IntsAt w a l):
  Calls Tryz.prog 185 #[.slice a l.length cap,.int .i64 v] w fun e w'=>(∃n:Int,e=.returned (.int .i64 n)/\decide (0<=n)=l.contains v)/\w'=w:=by
 have hl:=h.len
 have hl2:(l.length:Int)<=9223372036854775807:=by unfold maxLen at hl;omega
 obtain⟨cv,hcv⟩:∃x,l.contains v=x:=⟨_,rfl⟩
 rw[hcv]
 have HCV:=h_ hcv
 clear hcv
 go_enter Tryz.func185,Tryz.ntmps185
 go_wp2_with fail
 go_loopw [8] (fun i wr=>∃k:Nat,k<=l.length/\i=.int .i64 k/\wr=w/\(∀(j:Nat) (hj:j<l.length),j<k->l[j]≠v)) (fun i _=>l.length - (intOf i).toNat)
 case atStart=>exact⟨0,by omega,rfl,rfl,fun j _ hj=>by omega⟩
 case round=>
  obtain⟨k,hk,rfl,rfl,hno⟩:=hrel
  have HN:=h_ hno
  clear hno
  by_cases hlt:k<l.length
  ·have hltI:(k:Int)<(l.length:Int):=by omega
   obtain⟨b,off,rfl,hb,hc⟩:=h.get hlt
   obtain⟨x,hx⟩:∃x,l[k]=x:=⟨_,rfl⟩
   rw[hx]at hc
   have HX:=h_ hx
   clear hx h
   by_cases hv:v=x
   ·subst hv
    go_wp2_with fail
    go_ret
    refine⟨⟨(k:Int),rfl,?_⟩,rfl⟩
    rw[<-HCV.out,aCo hlt HX.out]
    simp
   ·have hv1:(v==x)=false:=by simpa using hv
    have HV:=h_ hv
    clear hv
    go_wp2_with fail
    go_roundw
    case rel=>
     refine⟨k+1,by omega,rfl,by first | rfl | trivial,fun j hj hjk=>?_⟩
     rcases Nat.lt_or_ge j k with h1 | h1
     ·exact HN.out j hj h1
     ·obtain rfl:j=k:=by omega
      rw[HX.out]
      exact fun e=>HV.out e.symm
    case measure=>simp[intOf];omega
  ·obtain rfl:k=l.length:=by omega
   have hltI:¬(l.length:Int)<(l.length:Int):=by omega
   go_wp2_with fail
   go_ret
   refine⟨⟨-1,rfl,?_⟩,rfl⟩
   rw[<-HCV.out]
   symm
   rw[show decide ((0:Int)<= -1)=false from rfl,List.contains_eq_mem,decide_eq_false_iff_not]
   intro hm
   obtain⟨j,hj,e⟩:=List.getElem_of_mem hm
   exact HN.out j hj hj e
theorem yQ (a:Option Addr) (cap:Nat) (l:List Int) (v:Int) (w:World) (h:IntsAt w a l):
  Calls Tryz.prog 155 #[.slice a l.length cap,.int .i64 v] w fun e w'=>e=.returned (.bool (l.contains v))/\w'=w:=by
 go_enter Tryz.func155,Tryz.ntmps155
 go_wp2_with fail
 (with_reducible refine(aEt a cap l v _ h).mono ?_)
 rintro e w1 ⟨⟨n,rfl,hn⟩,rfl⟩
 have HN:=h_ hn
 clear hn
 go_wp2_with fail
 go_ret
 exact⟨by rw[<-HN.out];rfl,rfl⟩
theorem aCp (g:Nat) (lb:Array Value) (eg:∀args w,(callFunc g args).run Tryz.prog w=.ok (.enter g args) w) (a:Option Addr) (cap:Nat) (l:List Int) (I:Nat->World->Prop) (J:World->Prop)
  (hI:∀k W,I k W->IntsAt W a l)
  (hc:∀(k:Nat) (hk:k<l.length) (W:World),I k W->Calls Tryz.prog g (#[.int .i64 l[k]]++lb) W fun e W'=>(e=.returned (.bool false)/\I (k+1) W')∨(e=.returned (.bool true)/\J W'))
  (w:World) (h0:I 0 w) (hl:l.length<=maxLen):
  Calls Tryz.prog 72 #[.slice a l.length cap,.func (.func g) #[] lb] w fun e w'=>(e=.returned (.int .i64 (-1))/\I l.length w')∨(∃n:Nat,e=.returned (.int .i64 n)/\J w'):=by
 have hl2:(l.length:Int)<=9223372036854775807:=by unfold maxLen at hl;omega
 go_enter Tryz.func72,Tryz.ntmps72
 go_wp2_with fail
 go_loopw [8] (fun i wr=>∃k:Nat,k<=l.length/\i=.int .i64 k/\I k wr) (fun i _=>l.length - (intOf i).toNat)
 case atStart=>exact⟨0,by omega,rfl,h0⟩
 case round=>
  clear h0
  obtain⟨k,hk,rfl,hIk⟩:=hrel
  by_cases hlt:k<l.length
  ·have hltI:(k:Int)<(l.length:Int):=by omega
   obtain⟨b,off,rfl,hb,hcell⟩:=(hI k wr hIk).get hlt
   have hcall:=hc k hlt wr hIk
   obtain⟨x,hx⟩:∃x,l[k]=x:=⟨_,rfl⟩
   rw[hx]at hcell hcall
   have HC:=h_ hcall
   have HX:=h_ hc
   clear hx hcall hc hIk hI
   go_wp2_with fail
   refine HC.out.mono ?_
   rintro e w1 (⟨rfl,h1⟩ | ⟨rfl,h1⟩)
   ·clear HC
    go_wp2_with fail
    go_roundw
    case rel=>exact⟨k+1,by omega,rfl,h1⟩
    case measure=>simp[intOf];omega
   ·clear HC
    go_wp2_with fail
    go_ret
    exact .inr ⟨k,rfl,h1⟩
  ·obtain rfl:k=l.length:=by omega
   have hltI:¬(l.length:Int)<(l.length:Int):=by omega
   clear hc hI
   go_wp2_with fail
   go_ret
   exact .inl ⟨rfl,hIk⟩
theorem iP (g:Nat) (lb:Array Value) (eg:∀args w,(callFunc g args).run Tryz.prog w=.ok (.enter g args) w) (a:Option Addr) (cap:Nat) (l:List Int) (I:Nat->World->Prop) (J:World->Prop)
  (hI:∀k W,I k W->IntsAt W a l)
  (hc:∀(k:Nat) (hk:k<l.length) (W:World),I k W->Calls Tryz.prog g (#[.int .i64 l[k]]++lb) W fun e W'=>(e=.returned (.bool false)/\I (k+1) W')∨(e=.returned (.bool true)/\J W'))
  (w:World) (h0:I 0 w) (hl:l.length<=maxLen):
  Calls Tryz.prog 41 #[.slice a l.length cap,.func (.func g) #[] lb] w fun e w'=>(e=.returned (.bool false)/\I l.length w')∨(e=.returned (.bool true)/\J w'):=by
 have H:=h_ (aCp g lb eg a cap l I J hI hc w h0 hl)
 clear hc hI
 go_enter Tryz.func41,Tryz.ntmps41
 go_wp2_with fail
 refine H.out.mono ?_
 rintro e w1 (⟨rfl,h1⟩ | ⟨n,rfl,h1⟩)
 ·clear H
  go_wp2_with fail
  go_ret
  exact .inl ⟨rfl,h1⟩
 ·clear H
  have hn:(0:Int)<=(n:Int):=by omega
  go_wp2_with fail
  go_ret
  exact .inr ⟨rfl,h1⟩
end
section
open Go.RowKit
theorem aAW {w:World} {q:Nat} {x:List Value} (h:row w q=x.toArray) (h0:0<x.length):ElemsAt w (some ⟨q,0,none⟩) x.length [x]:=by
 refine⟨by simp[maxLen],fun i y hy=>?_⟩
 have hi:i=0:=by
  have:=(List.getElem?_eq_some_iff.1 hy).1
  simpa using this
 subst hi
 simp only[List.getElem?_cons_zero,Option.some.injEq]at hy
 subst hy
 refine⟨q,0,rfl,aM (i:=0) (by rw[h];simpa using h0),fun W hW j u hj=>?_⟩
 have hr:row W q=x.toArray:=(aJ hW).trans h
 have hjl:=(List.getElem?_eq_some_iff.1 hj).1
 rw[show 0+0*x.length+j=j by omega,aQ (by rw[hr];simpa using hjl),hr,List.getElem?_toArray]
 exact hj
section
variable {P:Program}
end
end
section
open Go.RowKit
theorem OwnL.blk {w:World} {B:Nat} {e:TypeId} {sz:Nat} {v:Value} {l:List (List Value)} (h:OwnL w B e sz v l) {k:Nat} (hk:v.ownBlock=some k):B<=k/\k<w.heap.size/\∃cur,w.heap[k]? =some (.cells cur e (0,0)):=by
 obtain⟨_,_,⟨rfl,h0⟩ | ⟨g,cap,cur,rfl,hg0,hg,_⟩⟩:=h
 ·cases hk
 ·simp only[Value.ownBlock,Option.some.injEq]at hk
  subst hk
  exact⟨hg0,(Array.getElem?_eq_some_iff.1 hg).1,cur,hg⟩
theorem OwnL.keep {w w':World} {B:Nat} {e:TypeId} {sz:Nat} {v:Value} {l:List (List Value)} (h:OwnL w B e sz v l) (hb:∀k,v.ownBlock=some k->w'.heap[k]? =w.heap[k]?):OwnL w' B e sz v l:=by
 obtain⟨hl,hlen,h0 | ⟨g,cap,cur,e1,hg0,hg,hr⟩⟩:=h
 ·exact⟨hl,hlen,.inl h0⟩
 ·exact⟨hl,hlen,.inr ⟨g,cap,cur,e1,hg0,by rw[hb g (by rw[e1];rfl),hg],hr⟩⟩
theorem OwnL.apart {w:World} {B B':Nat} {e e':TypeId} {sz sz':Nat} {v v':Value} {l l':List (List Value)} (h:OwnL w B e sz v l) (h':OwnL w B' e' sz' v' l') (he:e≠e') {k:Nat} (hk:v.ownBlock=some k):v'.ownBlock≠some k:=by
 intro hc
 obtain⟨_,_,c1,h1⟩:=h.blk hk
 obtain⟨_,_,c2,h2⟩:=h'.blk hc
 rw[h1]at h2
 simp only[Option.some.injEq,Obj.cells.injEq]at h2
 exact he h2.2.1
section
variable {P:Program} {w:World}
theorem aEu {o:Oper} {a:Act} {K:Act->World->Prop} {Q:Exit->Act->World->Prop} {s x:Operand} {t e:TypeId} {sz bytes:Nat}
  (ho:o.op=.call {callee:=.builtin .append,args:=#[s,x],argTypes:=#[t,t]}) (ht:P.underlying t=some (.slice e))
  (hinfo:(P.info? e).map (fun i=>(i.zero.map (·.cells.size),i.size,i.bytes))=some (some sz,sz,bytes)) (hsz:0<sz) (hby:bytes<=1000)
  (base:Nat) (v:Value) (l:List (List Value)) (hs:a.eval s=v) (hown:OwnL w base e sz v l)
  (g c:Nat) (u:List Value) (hx:a.eval x=.slice (some ⟨g,0,none⟩) 1 c) (hr:row w g=u.toArray) (hu:u.length=sz) (hone:eC u=true) (hn:l.length<=10000) (hbase:base<=w.heap.size)
  (h:∀v' w',OwnL w' base e sz v' (l++[u])->Below base w w'->(∀X,X<w.heap.size->v.ownBlock≠some X->w'.heap[X]? =w.heap[X]?)->K (a.put o.dst v') w'):o.wp P a w K Q:=by
 obtain⟨hl,hown⟩:=hown
 have hi:∃i z,P.info? e=some i/\i.zero=some z/\i.size=sz/\i.bytes=bytes/\z.cells.size=sz:=by
  cases hi:P.info? e with
  | none=>rw[hi]at hinfo;simp at hinfo
  | some i=>
   rw[hi]at hinfo
   simp at hinfo
   obtain⟨⟨z,h1,h2⟩,h3,h4⟩:=hinfo
   exact⟨i,z,rfl,h1,h3,h4,h2⟩
 obtain⟨i0,z,hi,hz,h32,hb32,hzs⟩:=hi
 refine wp_append_own (P:=P) w s x t ho base e i0 z sz bytes ht hi hz h32 hb32 hzs hsz v l.length l.flatten hs hown ⟨g,0,none⟩ 1 c u hx (by rw[Nat.one_mul];exact hu) ?_ (by unfold eC at hone;simpa using hone) ?_ ?_ hbase ?_
 ·intro j y hj
  have hlt:=(List.getElem?_eq_some_iff.1 hj).1
  have:(⟨g,0,none⟩:Addr).add j=⟨g,j,none⟩:=by
   simp[Addr.add]
   try exact fun h=>h.symm
  rw[this,aQ (by rw[hr];simpa using hlt),hr,List.getElem?_toArray]
  exact hj
 ·unfold maxLen;omega
 ·have:=Nat.mul_le_mul (show l.length+1<=10001 by omega) hby;omega
 ·intro v' w' h1 h2 _
  refine h v' w' ⟨?_,?_⟩ ((Below.refl base w).grown h2 (by omega) fun k hk=>(World.ownsRow.lt hown k hk).1) (fun X hX hne=>h2.block X hX (fun e=>hne e.symm))
  ·intro y hy
   rcases List.mem_append.1 hy with hy | hy
   ·exact hl y hy
   ·rw[List.mem_singleton.1 hy];exact hu
  ·simp only[List.length_append,List.length_singleton,List.flatten_append,List.flatten_cons,List.flatten_nil,List.append_nil]
   exact h1
end
section
variable {P:Program} {ops:Array Oper} {Q:Exit->Act->World->Prop} {md:Region.Mode} {S S2:World->Prop}
theorem aCq {i:Nat} {o:Oper} {a:Act} {w:World} {K:Act->World->Prop} (ho:ops[i]? =some o) (g:o.guard=none) (h:o.wp P a w K Q):wpOp P ops Q i K a w:=by
 unfold wpOp
 have hw:Region.wanted o (yielded ops a.tmps)=true:=by unfold Region.wanted;rw[g]
 simp only[ho,hw,if_true]
 exact .inl h
theorem gI {k:Nat} (i:Nat) {fuel:Nat} {listed:Array Bool} {a:Act} {w:World} (hr:Region.ready md ops listed=[i]) (hik:i≠k)
  (h:∀w1,Below w.heap.size w w1->wpOp P ops Q i (fun a' w'=>S w'/\dO P md ops Q S S2 k fuel (listed.setIfInBounds i true) a' w') a w1):dO P md ops Q S S2 k (fuel+1) listed a w:=by
 intro w1 h1
 refine⟨fun h0=>by rw[hr]at h0;simp at h0,fun j hj=>?_⟩
 rw[hr]at hj
 obtain rfl:=List.mem_singleton.1 hj
 simp only[if_neg hik]
 exact h w1 h1
end
section
variable {P:Program} {ops:Array Oper} {Q:Exit->Act->World->Prop} {md:Region.Mode} {k:Nat} {X:World->Prop}
theorem eL {id:Nat} {a:Act} {w:World} (k:Nat) (X:World->Prop) (hG:GrowP X) (hm:P.follows .mixedOrders=true) (hX:X w)
  (h:XS [] X w.drew->dO P .any ops Q (XS [] X) (XS [] fun _=>True) k ops.size (Array.replicate ops.size false) a w.drew):(Code.region id ops true).wp P Q a w:=
 wp_region_any hm (lK _ _ _ _ (h (XS.grow hG w _ ⟨trivial,hX⟩ (Below.drew (Below.refl _ _)))))
theorem kg (i:Nat) {oi:Oper} {v:Value} {fuel:Nat} {listed:Array Bool} {a a':Act} {w:World} {S2:World->Prop} (hG:GrowP X) (hS:XS [] X w)
  (h:dO P md ops Q (XS [] X) S2 k fuel (listed.setIfInBounds i true) a' w)
  (hi:ops[i]? =some oi:=by simp only[List.getElem?_toArray,List.getElem?_cons_succ,List.getElem?_cons_zero];rfl)
  (hs:Region.noSelect ops=true:=by kernel_rfl) (hf:Region.free md ops listed i=true:=by kernel_rfl) (hr:(Region.ready md ops listed).contains i=true:=by kernel_rfl) (hk:aAQ md ops k i=true:=by kernel_rfl)
  (hQ:∀c a w,Q (.panic c) (a.put oi.dst v) w->Q (.panic c) a w:=by first | exact fun _ _ _ h=>h | exact fun _ _ _ h=>by cases h.1)
  (hw:Region.wanted oi (yielded ops a.tmps)=true:=by rfl)
  (hy:∀w',XS [] X w'->mD P (fun u w''=>u=v/\Below w'.heap.size w' w'') ((execOp a.eval oi).run P w'):=by
   intro w' hS'
   obtain⟨_,hX'⟩:=hS'
   go_simp
   refine⟨?_,Below.refl _ _⟩
   rfl)
  (hp:a.put oi.dst v=a':=by first | (simp only[Act.put,List.setIfInBounds_toArray,List.set_cons_zero,List.set_cons_succ];rfl) | rfl):
  dO P md ops Q (XS [] X) S2 k (fuel+1) listed a w:=
 cH hi hs hf hr hk hQ (XS.grow hG) (Or.inl ⟨hw,hy⟩) hS (hp▸h)
theorem kf (i:Nat) {oi:Oper} {v:Value} {fuel:Nat} {listed:Array Bool} {a a':Act} {w:World} (hG:GrowP X) (hS:XS [] X w)
  (h:dO P md ops Q (XS [] X) (XS [] fun _=>True) k fuel (listed.setIfInBounds i true) a' w)
  (hi:ops[i]? =some oi:=by simp only[List.getElem?_toArray,List.getElem?_cons_succ,List.getElem?_cons_zero];rfl)
  (hs:Region.noSelect ops=true:=by kernel_rfl) (hf:Region.free md ops listed i=true:=by kernel_rfl) (hr:(Region.ready md ops listed).contains i=true:=by kernel_rfl) (hk:i≠k:=by decide)
  (hQ:∀c a w,Q (.panic c) (a.put oi.dst v) w->Q (.panic c) a w:=by first | exact fun _ _ _ h=>h | exact fun _ _ _ h=>by cases h.1)
  (hw:Region.wanted oi (yielded ops a.tmps)=true:=by rfl)
  (hy:∀w':World,mD P (fun u w''=>u=v/\Below w'.heap.size w' w'') ((execOp a.eval oi).run P w'):=by
   intro w'
   go_simp
   refine⟨?_,Below.refl _ _⟩
   rfl)
  (hp:a.put oi.dst v=a':=by first | (simp only[Act.put,List.setIfInBounds_toArray,List.set_cons_zero,List.set_cons_succ];rfl) | rfl):
  dO P md ops Q (XS [] X) (XS [] fun _=>True) k (fuel+1) listed a w:=
 bP hi hs hf hr hk hQ (XS.grow hG) (XS.grow aAU) (fun _ h=>⟨h.1,trivial⟩) (Or.inl ⟨hw,fun w' _=>hy w'⟩) hS (hp▸h)
end
theorem aGb {w:World} {B:Nat} {e:TypeId} {v x:Value} {l:List (List Value)} (h:OwnL w B e 1 v ([x]::l)) {k:Nat} (hk:v.ownBlock=some k):(row w k)[0]? =some x:=by
 obtain⟨_,hlen,⟨rfl,h0⟩ | ⟨g,cap,cur,rfl,hg0,hg,_,_,_,ht⟩⟩:=h
 ·cases hk
 ·simp only[Value.ownBlock,Option.some.injEq]at hk
  subst hk
  unfold row
  rw[hg]
  have:=congrArg (fun q:List Value=>q[0]?) ht
  simp only[List.flatten_cons,List.cons_append,List.nil_append,List.getElem?_cons_zero,List.length_cons,Nat.mul_one]at this
  rw[List.getElem?_take_of_lt (by omega)]at this
  simpa using this
theorem OwnL.lowr {w:World} {B B':Nat} {e:TypeId} {sz:Nat} {v:Value} {l:List (List Value)} (h:OwnL w B e sz v l) (hB:B'<=B):OwnL w B' e sz v l:=by
 obtain⟨hl,hlen,h0 | ⟨g,cap,cur,e1,hg0,hr⟩⟩:=h
 ·exact⟨hl,hlen,.inl h0⟩
 ·exact⟨hl,hlen,.inr ⟨g,cap,cur,e1,Nat.le_trans hB hg0,hr⟩⟩
section
variable {P:Program}
theorem dM {w:World} {ops:Array Oper} {rest:List Oper} {o:Oper} {a:Act} {Q:Exit->Act->World->Prop} (hgd:o.guard=none) {s x:Operand} {t e:TypeId} {sz bytes:Nat}
  (ho:o.op=.call {callee:=.builtin .append,args:=#[s,x],argTypes:=#[t,t]}) (ht:P.underlying t=some (.slice e))
  (hinfo:(P.info? e).map (fun i=>(i.zero.map (·.cells.size),i.size,i.bytes))=some (some sz,sz,bytes)) (hsz:0<sz) (hby:bytes<=1000)
  (base:Nat) (v:Value) (l:List (List Value)) (hs:a.eval s=v) (hown:OwnL w base e sz v l)
  (u:List Value) (hx:a.eval x=.slice (some ⟨w.heap.size,0,none⟩) 1 1) (hu:u.length=sz) (hone:eC u=true) (hn:l.length<=10000) (hbase:base<=w.heap.size)
  (h:∀v' w',OwnL w' base e sz v' (l++[u])->Below base w w'->(∀X,X<w.heap.size->v.ownBlock≠some X->w'.heap[X]? =w.heap[X]?)->wpList P ops Q rest (a.put o.dst v') w'):
  wpList P ops Q (o::rest) a (w.alloc (.cells u.toArray e)):=by
 obtain⟨hl,hown⟩:=hown
 have hi:∃i z,P.info? e=some i/\i.zero=some z/\i.size=sz/\i.bytes=bytes/\z.cells.size=sz:=by
  cases hi:P.info? e with
  | none=>rw[hi]at hinfo;simp at hinfo
  | some i=>
   rw[hi]at hinfo
   simp at hinfo
   obtain⟨⟨z,h1,h2⟩,h3,h4⟩:=hinfo
   exact⟨i,z,rfl,h1,h3,h4,h2⟩
 obtain⟨i0,z,hi,hz,h32,hb32,hzs⟩:=hi
 refine wpList_append_own (P:=P) _ hgd s x _ ho base e i0 z sz bytes ht hi hz h32 hb32 hzs hsz v l.length l.flatten hs (World.ownsRow.alloc hown _) ⟨w.heap.size,0,none⟩ 1 1 u hx (by rw[Nat.one_mul];exact hu) ?_ (by unfold eC at hone;simpa using hone) ?_ ?_ ?_ ?_
 ·intro j y hj
  have hlt:=(List.getElem?_eq_some_iff.1 hj).1
  have:(⟨w.heap.size,0,none⟩:Addr).add j=⟨w.heap.size,j,none⟩:=by
   simp[Addr.add]
   try exact fun h=>h.symm
  have hr:row (w.alloc (.cells u.toArray e)) w.heap.size=u.toArray:=aE _ _ _ rfl
  rw[this,aQ (by rw[hr];simpa using hlt),hr,List.getElem?_toArray]
  exact hj
 ·unfold maxLen;omega
 ·have:=Nat.mul_le_mul (show l.length+1<=10001 by omega) hby;omega
 ·simp;omega
 ·intro v' w' h1 h2 _
  refine h v' w' ⟨?_,?_⟩ (((Below.refl base w).alloc hbase _).grown h2 (by simp;omega) fun k hk=>(World.ownsRow.lt hown k hk).1) (fun X hX hne=>by rw[h2.block X (by simp;omega) (fun e=>hne e.symm),Below.heap_alloc _ _ _ (by omega)])
  ·intro y hy
   rcases List.mem_append.1 hy with hy | hy
   ·exact hl y hy
   ·rw[List.mem_singleton.1 hy];exact hu
  ·simp only[List.length_append,List.length_singleton,List.flatten_append,List.flatten_cons,List.flatten_nil,List.append_nil]
   exact h1
end
end
section
open Go.RowKit
theorem aIk:(Tryz.prog.info? 3).map (fun i=>(i.zero,i.size,i.bytes))=some (some (.int .i64 0),1,8):=by kernel_rfl
theorem aGc (l:List Int):(l.map fun v=>[Value.int .i64 v]).flatten=l.map (Value.int .i64):=by
 induction l with
 | nil=>rfl
 | cons v l ih=>rw[List.map_cons,List.flatten_cons,ih];rfl
theorem OwnL.ints {w:World} {B:Nat} {v:Value} {l:List Int} {n:Nat} (hn:n=l.length) (h:w.ownsRow B 3 1 v n (l.map (Value.int .i64))):OwnL w B 3 1 v (l.map fun v=>[Value.int .i64 v]):=
 ⟨by intro x hx;obtain⟨y,_,rfl⟩:=List.mem_map.1 hx;rfl,by rw[aGc,List.length_map,<-hn];exact h⟩
theorem tO (w:World) (a:Option Addr) (n c:Nat):(binOp .eql 55 (.slice a n c) (.slice none 0 0)).run Tryz.prog w=.ok (.bool a.isNone) w:=by
 have ht:=Tryz.underlying55
 have h:∀d:Nat,(Op.equalIn (d+1) 55 (.slice a n c) (.slice none 0 0)).run Tryz.prog w=.ok a.isNone w:=fun d=>by
  cases a<;>simp[Op.equalIn,run_underlying ht]
 simp only[binOp]
 simp[Op.equal,Op.maxDepth,h 9999]
theorem wY (a:Option Addr) (cap:Nat) (l:List Int) (w:World) (h:IntsAt w a l) (hs:l.length<=1000):
  Calls Tryz.prog 38 #[.slice a l.length cap] w fun e w'=>(∃v,e=.returned v/\OwnL w' w.heap.size 3 1 v (l.map fun v=>[Value.int .i64 v]))/\Below w.heap.size w w':=by
 have hlI:(l.length:Int)<=1000:=by omega
 cases a with
 | none=>
  have hl0:l=[]:=by
   cases l with
   | nil=>rfl
   | cons x l=>
    obtain⟨b,off,e,_⟩:=h.get (k:=0) (by simp)
    cases e
  subst hl0
  have hq:=tO w none 0 cap
  go_enter Tryz.func38,Tryz.ntmps38
  go_wp2_with fail
  go_ret
  exact⟨⟨_,rfl,OwnL.nil _ _ _ _⟩,Below.refl _ _⟩
 | some ad=>
  have H:=h_ h
  clear h
  go_enter Tryz.func38,Tryz.ntmps38
  obtain⟨i0,hi,hz0,hz1,hz2⟩:=info_parts aIk
  have hq:=tO w (some ad) l.length cap
  go_wp2_with (at_builtin;refine wpList_append_own _ rfl _ _ 55 rfl w.heap.size 3 i0 (.int .i64 0) 1 8 Tryz.underlying55 hi hz0 hz1 hz2 rfl (by decide) _ _ _ rfl (World.ownsRow_made w #[] 0 (Nat.le_refl _) (Nat.zero_le _) (by simp)) ad l.length cap (l.map (Value.int .i64)) rfl ?qc1 ?qc2 ?qc3 ?qc4 ?qc5 ?qc6 ?_)
  case qc1=>simp
  case qc2=>
   intro j u hj
   have hjl:j<l.length:=by have:=(List.getElem?_eq_some_iff.1 hj).1;simpa using this
   obtain⟨b,off,e,hb,hc⟩:=H.out.get hjl
   cases e
   rw[fP,Below.cell (Below.alloc (Below.refl w.heap.size w) (Nat.le_refl _) _) (p:=⟨b,off+j,none⟩) hb,hc,<-hj,List.getElem?_map,List.getElem?_eq_getElem hjl]
   rfl
  case qc3=>intro u hu;obtain⟨y,_,rfl⟩:=List.mem_map.1 hu;rfl
  case qc4=>unfold maxLen;omega
  case qc5=>omega
  case qc6=>simp
  intro v' w1 hown hgrow hnil
  clear hi hz0 hz1 hz2 hnil
  have hb:Below w.heap.size w w1:=((Below.refl _ w).alloc (Nat.le_refl _) _).grown hgrow (by simp) (by intro k hk;simp[Value.ownBlock]at hk;omega)
  (try rw[Nat.zero_add]at hown)
  (try rw[List.nil_append]at hown)
  have HO:=h_ hown
  clear hown hgrow
  go_wp2_with fail
  go_ret
  exact⟨⟨_,rfl,OwnL.ints rfl HO.out⟩,hb⟩
end
end Go.Proofs.YtiagbbknkdgmeaaGreat
