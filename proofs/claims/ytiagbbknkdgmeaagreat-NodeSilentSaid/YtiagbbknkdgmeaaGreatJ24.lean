/- Texts of this proof, merged: RlyN, RlyO, RlyA, RlyJ, RpX. -/
import Derived.Test.YtiagbbknkdgmeaaGreatJ21
import Derived.Test.YtiagbbknkdgmeaaGreatJ7
import Derived.Test.YtiagbbknkdgmeaaGreatJ23
import Derived.Test.YtiagbbknkdgmeaaGreatJ6
import Derived.Test.YtiagbbknkdgmeaaGreatJ3
import Derived.Test.YtiagbbknkdgmeaaGreatJ20
set_option linter.unusedSimpArgs false
set_option linter.unusedVariables false
set_option maxHeartbeats 8000000
set_option maxRecDepth 20000
namespace Go.Proofs.YtiagbbknkdgmeaaGreat
section
open Go.RowKit Go.Shelf
def jZ (p:PortD):Bool:=iH p.native p.tagged&&decide (0<=p.hor)&&decide (p.hor<=255)
def eY (ageing:Int) (ps:List PortD):Bool:=ps.all jZ&&oC ageing (ps.map (·.lim))&&decide (ps.length≠0)
def aCM (ageing:Int) (ps:List PortD):BrS:=⟨ps,ageing,List.replicate ps.length 0,[],[],0,0,0,0,0⟩
theorem PortsOff.get {S:List Nat} {w:World} {pa:Option Addr} {ps:List PortD} (h:PortsOff S w pa ps) {k:Nat} (hk:k<ps.length):∃b off ta cap,pa=some ⟨b,off,none⟩/\b<w.heap.size/\
  (∀W,Below w.heap.size w W->W.rangeAt b (off+k*4) (j7 ta cap ps[k])/\IntsAt W ta ps[k].tagged):=by
 obtain⟨b,off,ta,cap,e,hl,hn,hr,ht⟩:=h.2 k ps[k] (List.getElem?_eq_getElem hk)
 exact⟨b,off,ta,cap,e,hl,fun W hW=>⟨hr W (gV hW hl),(ht.below hW).elems⟩⟩
theorem aAd:(Tryz.prog.info? 64).map (fun i=>(i.zero.map (·.cells.size),i.size,i.bytes))=some (some 4,4,48):=by kernel_rfl
theorem aGK:(Tryz.prog.info? 3).map (fun i=>(i.zero.map (·.cells.size),i.size,i.bytes))=some (some 1,1,8):=by kernel_rfl
section
variable {P:Program} {w:World}
end
section
variable {P:Program} {ops:Array Oper} {Q:Exit->Act->World->Prop} {md:Region.Mode} {S S2:World->Prop}
end
structure NewB (w w':World) (A:BrA) (ageing:Int) (ps:List PortD):Prop where
 below:Below w.heap.size w w'
 br:BrT w' A (aCM ageing ps)
 lo:∀b∈[A.B,A.SB,A.LT,A.LM,A.HT,A.HM],w.heap.size<=b
theorem aAe {α:Type} {f:α->List Value} {l:List α} {k:Nat} (hk:k<l.length):(l.take (k+1)).map f=(l.take k).map f++[f l[k]]:=by
 rw[List.take_succ_eq_append_getElem hk,List.map_append]
 rfl
section
variable (ageing:Int) (pa:Option Addr) (pcap:Nat) (ps:List PortD) (w:World)
theorem aBC (xs:List Nat) (hxs:∀x∈xs,x<w.heap.size) (h:PortsOff [] w pa ps) (hn:ps.length<=1000):
  Calls Tryz.prog 19 #[.slice pa ps.length pcap,.int .i64 ageing] w fun e w'=>
   (eY ageing ps=false/\e=.returned (.tuple #[.pointer none,.int .i64 1])/\Below w.heap.size w w')∨
   (eY ageing ps=true/\∃A,e=.returned (.tuple #[.pointer (some ⟨A.B,0,none⟩),.int .i64 0])/\NewB w w' A ageing ps/\A.ex=xs):=by
 have hnI:(ps.length:Int)<=1000:=by omega
 go_enter Tryz.func19,Tryz.ntmps19
 go_wp2_with fail
 go_loopw [6,18] (fun u i wr=>∃j:Nat,j<=ps.length/\i=.int .i64 j/\OwnL wr w.heap.size 3 1 u ((ps.take j).map fun p=>[Value.int .i64 p.lim])/\(ps.take j).all jZ=true/\Below w.heap.size w wr) (fun _ i _=>ps.length - (intOf i).toNat)
 case atStart=>exact⟨0,by omega,rfl,OwnL.nil _ _ _ _,rfl,Below.refl _ _⟩
 case round=>
  obtain⟨j,hj,rfl,hown,hall,cb⟩:=hrel
  have zb:=cb.size
  by_cases hlt:j<ps.length
  ·have hltI:(j:Int)<(ps.length:Int):=by omega
   obtain⟨pb,po,ta,tc,rfl,hpb,hrd⟩:=h.get hlt
   obtain⟨p,hp⟩:∃x,ps[j]=x:=⟨_,rfl⟩
   rw[hp]at hrd
   have hbad:jZ p=false->eY ageing ps=false:=fun hf=>by
    unfold eY
    have:ps.all jZ=false:=by
     rw[Bool.eq_false_iff]
     intro hc
     have:=List.all_eq_true.1 hc p (by rw[<-hp];exact List.getElem_mem hlt)
     rw[hf]at this
     cases this
    rw[this]
    rfl
   have htk:(ps.take (j+1)).map (fun p=>[Value.int .i64 p.lim])=(ps.take j).map (fun p=>[Value.int .i64 p.lim])++[[Value.int .i64 p.lim]]:=by rw[aAe hlt,hp]
   have htk2:jZ p=true->(ps.take (j+1)).all jZ=true:=fun hf=>by
    rw[List.take_succ_eq_append_getElem hlt,List.all_append,hall,hp]
    simp[hf]
   have hlen:((ps.take j).map fun p=>[Value.int .i64 p.lim]).length<=1000:=by rw[List.length_map,List.length_take];omega
   have hld:=cI (P:=Tryz.prog) (t:=64) (hrd wr cb).1 (by simp[j7])
   unfold j7 at hld
   obtain⟨o,ho⟩:∃o,po+j*4=o:=⟨_,rfl⟩
   rw[ho]at hld
   have HRT:=h_ (fun W (hW:Below w.heap.size w W)=>xO p.native ta tc p.tagged W (hrd W hW).2)
   obtain⟨rt,hrt⟩:∃x,iH p.native p.tagged=x:=⟨_,rfl⟩
   rw[hrt]at HRT
   have hok:jZ p=(rt&&decide (0<=p.hor)&&decide (p.hor<=255)):=by unfold jZ;rw[hrt]
   obtain⟨accs,haccs⟩:∃x,((ps.take j).map fun p=>[Value.int .i64 p.lim])=x:=⟨_,rfl⟩
   rw[haccs]at hown htk hlen
   obtain⟨W1,hW1⟩:∃x,wr.alloc (.cells #[Value.int .i64 p.native,Value.slice ta p.tagged.length tc,Value.int .i64 p.hor,Value.int .i64 p.lim] 64)=x:=⟨_,rfl⟩
   have rP:row W1 wr.heap.size=#[Value.int .i64 p.native,Value.slice ta p.tagged.length tc,Value.int .i64 p.hor,Value.int .i64 p.lim]:=by rw[<-hW1];exact aE _ _ _ rfl
   have b1:Below wr.heap.size wr W1:=by rw[<-hW1];exact ba_
   have z1:W1.heap.size=wr.heap.size+1:=by rw[<-hW1];exact aF _ _
   have cb1:=cb.trans (b1.mono zb)
   have hown1:=hown.below b1
   have HOK:=h_ hok
   have HB:=h_ hbad
   have HTK:=h_ htk
   have HTK2:=h_ htk2
   have HW:=h_ hown1
   clear hrd hp hbad htk htk2 hall hown hown1 haccs hrt hok b1
   go_wp2_with fail
   (try rw[hW1])
   (try clear hW1)
   (with_reducible refine(HRT.out _ cb1).mono ?_)
   rintro e W2 ⟨rfl,b2⟩
   have z2:=b2.size
   have rP2:=(aA b2 (by omega)).trans rP
   have cb2:=cb1.trans (b2.mono (by omega))
   have HW2:=h_ (HW.out.below b2)
   clear b2 HW rP cb1 hld HRT
   cases rt with
   | false=>
    go_wp2_with fail
    go_ret2
    exact .inl ⟨HB.out (by rw[HOK.out];rfl),rfl,cb2⟩
   | true=>
    by_cases h0:p.hor<0
    ·go_wp2_with fail
     go_ret2
     exact .inl ⟨HB.out (by rw[HOK.out,decide_eq_false (by omega:¬0<=p.hor)];rfl),rfl,cb2⟩
    ·by_cases h1:255<p.hor
     ·go_wp2_with fail
      go_ret2
      exact .inl ⟨HB.out (by rw[HOK.out,decide_eq_false (by omega:¬p.hor<=255)];simp),rfl,cb2⟩
     ·have hgood:jZ p=true:=by rw[HOK.out,decide_eq_true (by omega:0<=p.hor),decide_eq_true (by omega:p.hor<=255)];rfl
      have HGD:=h_ (HTK2.out hgood)
      clear hgood HB HTK2
      go_wp2_with (at_builtin;refine iO rfl rfl Tryz.underlying55 aGK (by decide) (by decide) w.heap.size _ _ rfl HW2.out [Value.int .i64 p.lim] rfl rfl (by simp) (by omega) (by omega) ?_)
      intro u3 W3 hown3 c3 _
      have HW3:=h_ hown3
      have cb3:=cb2.trans c3
      clear hown3 c3
      go_wp2_with fail
      go_roundw
      case rel=>exact⟨j+1,by omega,by simp,by rw[HTK.out];exact HW3.out,HGD.out,cb3⟩
      case measure=>simp[intOf];omega
  ·obtain rfl:j=ps.length:=by omega
   have hltI:¬(ps.length:Int)<(ps.length:Int):=by omega
   rw[List.take_of_length_le (Nat.le_refl _)]at hown hall
   obtain⟨la0,lc0,rfl,hel⟩:=hown.elems
   rw[List.length_map]
   have hil:IntsAt wr la0 (ps.map (·.lim)):=by
    unfold IntsAt
    rw[List.map_map]
    exact hel
   have HLB:=h_ (fun h=>aIz ageing la0 lc0 (ps.map (·.lim)) wr hil h)
   have HLO:=h_ (fun h=>aKn ageing la0 lc0 (ps.map (·.lim)) wr hil h)
   simp only[List.length_map]at HLB HLO
   have hB:eY ageing ps=(oC ageing (ps.map (·.lim))&&decide (ps.length≠0)):=by unfold eY;rw[hall,Bool.true_and]
   have hall2:=hall
   have HB:=h_ hB
   clear hB hall hel hil hown
   by_cases hok:oC ageing (ps.map (·.lim))=true
   case neg=>
    have hok2:=Bool.eq_false_iff.2 hok
    have H:=HLB.out hok2
    have hfin:eY ageing ps=false:=by rw[HB.out,hok2];rfl
    have HX:=h_ H
    have HF:=h_ hfin
    clear H hok hok2 hfin HLB HLO
    go_wp2_with fail
    (with_reducible refine HX.out.mono ?_)
    rintro e w2 ⟨rfl,b2⟩
    have cb2:=cb.trans (b2.mono zb)
    clear b2
    by_cases ha:ageing<1∨1000000<ageing
    ·have HH:=h_ (fun w=>aIl ageing w ha)
     clear ha
     go_wp2_with fail
     (with_reducible refine(HH.out _).mono ?_)
     rintro e w3 ⟨rfl,b3⟩
     go_wp2_with fail
     go_ret2
     exact .inl ⟨HF.out,rfl,cb2.trans (b3.mono cb2.size)⟩
    ·have HH:=h_ (fun w=>aGf ageing w (by omega) (by omega))
     clear ha
     go_wp2_with fail
     (with_reducible refine(HH.out _).mono ?_)
     rintro e w3 ⟨rfl,b3,_,_⟩
     go_wp2_with fail
     go_ret2
     exact .inl ⟨HF.out,rfl,cb2.trans (b3.mono cb2.size)⟩
   have hag:1<=ageing/\ageing<=1000000/\ps.length<=32:=by
    unfold oC at hok
    simp only[Bool.and_eq_true,decide_eq_true_eq,List.length_map]at hok
    omega
   have H:=HLO.out hok
   rw[hok,Bool.true_and]at HB
   have HX:=h_ H
   have HH:=h_ (fun w=>aGf ageing w hag.1 hag.2.1)
   have hn32:=hag.2.2
   clear H hok HLB HLO hag
   go_wp2_with fail
   (with_reducible refine HX.out.mono ?_)
   rintro e w2 ⟨LT,LM,la,lc,rfl,hnt⟩
   have cb2:=cb.trans (hnt.below.mono zb)
   have z2:=hnt.below.size
   clear HX
   go_wp2_with fail
   (with_reducible refine(HH.out _).mono ?_)
   rintro e w3 ⟨rfl,b3,hht,z3⟩
   have cb3:=cb2.trans (b3.mono cb2.size)
   by_cases h0:ps.length=0
   ·have hfin:eY ageing ps=false:=by rw[HB.out,h0];rfl
    have HF:=h_ hfin
    have h00:(ps.length:Int)=0:=by omega
    clear hfin HB
    go_wp2_with fail
    go_ret2
    exact .inl ⟨HF.out,rfl,cb3⟩
   have hfin:eY ageing ps=true:=by rw[HB.out];simp[h0]
   have h01:((ps.length:Int)==0)=false:=by simp;exact fun e=>h0 (by rw[e];rfl)
   have HF:=h_ hfin
   have hpos:0<ps.length:=Nat.pos_of_ne_zero h0
   clear hfin HB h0
   obtain⟨w4,hmk,o4,b4⟩:=aIE (P:=Tryz.prog) (w:=w3) (t:=55) inferInstance .i64 .i64 ps.length (by omega)
   have z4:=b4.size
   obtain⟨SB,hSB⟩:∃x,w3.heap.size=x:=⟨_,rfl⟩
   rw[hSB]at hmk o4
   have rS:=o4.full.1
   have lS:=o4.full.2.1
   obtain⟨B,hBd⟩:∃x,w4.heap.size=x:=⟨_,rfl⟩
   obtain⟨HM,hHM⟩:∃x,w2.heap.size=x:=⟨_,rfl⟩
   obtain⟨w5,hw5⟩:∃x,w4.alloc (.cells (aH 1 (Value.slice none 0 0)++Value.slice (some ⟨SB,0,none⟩) ps.length ps.length::Value.pointer (some ⟨LT,0,none⟩)::Value.pointer (some ⟨w2.heap.size+1,0,none⟩)::aH 5 (Value.int .i64 0)).toArray 127)=x:=⟨_,rfl⟩
   have rB:row w5 B=#[Value.slice none 0 0,Value.slice (some ⟨SB,0,none⟩) ps.length ps.length,Value.pointer (some ⟨LT,0,none⟩),Value.pointer (some ⟨HM+1,0,none⟩),Value.int .i64 0,Value.int .i64 0,Value.int .i64 0,Value.int .i64 0,Value.int .i64 0]:=by rw[<-hw5,<-hBd,<-hHM];exact aE _ _ _ rfl
   have b5:Below w4.heap.size w4 w5:=by rw[<-hw5];exact ba_
   have z5:w5.heap.size=B+1:=by rw[<-hw5,<-hBd];exact aF _ _
   have cb5:=(cb3.trans (b4.mono cb3.size)).trans (b5.mono (by omega))
   rw[hBd]at b5
   have n1:=hnt.lo
   have n2:=hnt.lt
   have n3:=hnt.hi
   have rS5:row w5 SB=ints (aCM ageing ps).states:=by
    rw[aA b5 (by omega),rS]
    simp[ints,aCM]
   have hht5:HushT w5 (HM+1) HM ageing []:=by
    rw[hHM]at hht
    exact(hht.below b4 (by omega) (by omega)).below b5 (by omega) (by omega)
   have hlt5:LerT w5 LT LM ageing (.slice la ps.length lc) []:=((hnt.ler.below b3 (by omega) (by omega)).below b4 (by omega) (by omega)).below b5 (by omega) (by omega)
   have hlims:ElemsOff ([B,SB,LM,HM]++xs) w5 la 1 ((ps.map (·.lim)).map fun v=>[Value.int .i64 v]):=by
    obtain⟨v1,q1,q2,q3,q4⟩:=hnt.lims
    have q5:=q1.size
    obtain⟨a',c',e',hof⟩:=q3.off ([B,SB,LM,HM]++xs) (by
     intro x hx
     rcases List.mem_append.1 hx with hx | hx
     ·simp only[List.mem_cons,List.not_mem_nil,or_false]at hx
      omega
     ·have:=hxs x hx
      omega)
    rw[List.length_map,List.length_map]at e'
    cases e'
    refine ElemsOff.below (w:=w4) (ElemsOff.below (w:=w3) (ElemsOff.below (w:=w2) (hof.below q4) (b3.mono (Nat.le_refl _))) b4) (by rw[hBd];exact b5)
   have o1:w.heap.size<=LM:=by omega
   have o2:LM<LT:=n2
   have o3:LT<HM:=by omega
   have o4':HM+1<SB:=by omega
   have o5:SB<B:=by omega
   have HLT:=h_ hlt5
   have HHT:=h_ hht5
   have HLI:=h_ hlims
   have HCB:=h_ cb5
   have HRS:=h_ rS5
   have HPO:=h_ h
   clear hlt5 hht5 hlims rS5 hnt hht o4 rS cb3 cb2 cb b3 b4 lS h
   rw[hHM]at hw5
   go_wp2_with fail
   clear hmk
   (try clear hw5)
   have HAL:=h_ hall2
   clear hall2
   go_loopw [73] (fun i wr=>∃(j:Nat) (ppa:Option Addr) (ppc:Nat) (rows:List (List Value)),j<=ps.length/\i=.int .i64 j/\rows.length=j/\OwnL wr (B+1) 64 4 (.slice ppa j ppc) rows/\
    (∀(q:Nat) (p:PortD),q<j->ps[q]? =some p->∃ta cap,rows[q]? =some (j7 ta cap p)/\OwnL wr (B+1) 3 1 (.slice ta p.tagged.length cap) (p.tagged.map fun v=>[Value.int .i64 v]))/\
    row wr B=#[Value.slice ppa j ppc,Value.slice (some ⟨SB,0,none⟩) ps.length ps.length,Value.pointer (some ⟨LT,0,none⟩),Value.pointer (some ⟨HM+1,0,none⟩),Value.int .i64 0,Value.int .i64 0,Value.int .i64 0,Value.int .i64 0,Value.int .i64 0]/\BelowS (B+1) [B] w5 wr) (fun i _=>ps.length - (intOf i).toNat)
   case atStart=>exact⟨0,none,0,[],by omega,rfl,rfl,OwnL.nil _ _ _ _,(fun q p hq _=>by omega),rB,BelowS.of (Below.refl _ _)⟩
   case round=>
    clear rB
    obtain⟨j,ppa,ppc,rows,hj,rfl,hrl,hown,hrows,rBr,hbs⟩:=hrel
    have zr:=hbs.size
    have zw5:=HCB.out.size
    have cbr:Below w.heap.size w wr:=HCB.out.trans (hbs.below (by omega) (by intro x hx;rw[List.mem_singleton.1 hx];omega))
    by_cases hlt:j<ps.length
    ·have hltI:(j:Int)<(ps.length:Int):=by omega
     obtain⟨pb,po,ta,tc,rfl,hpb,hrd⟩:=HPO.out.get hlt
     obtain⟨p,hp⟩:∃x,ps[j]=x:=⟨_,rfl⟩
     rw[hp]at hrd
     have hpk:jZ p=true:=List.all_eq_true.1 HAL.out p (by rw[<-hp];exact List.getElem_mem hlt)
     have htl:p.tagged.length<=1000:=by
      unfold jZ iH at hpk
      simp only[Bool.and_eq_true,decide_eq_true_eq]at hpk
      omega
     have hld:=cI (P:=Tryz.prog) (t:=64) (hrd wr cbr).1 (by simp[j7])
     unfold j7 at hld
     obtain⟨o,ho⟩:∃o,po+j*4=o:=⟨_,rfl⟩
     rw[ho]at hld
     obtain⟨bx,hbx⟩:∃x,wr.heap.size=x:=⟨_,rfl⟩
     obtain⟨W1,hW1⟩:∃x,wr.alloc (.cells #[Value.int .i64 p.native,Value.slice ta p.tagged.length tc,Value.int .i64 p.hor,Value.int .i64 p.lim] 64)=x:=⟨_,rfl⟩
     have rP:row W1 bx=#[Value.int .i64 p.native,Value.slice ta p.tagged.length tc,Value.int .i64 p.hor,Value.int .i64 p.lim]:=by rw[<-hW1,<-hbx];exact aE _ _ _ rfl
     have b1:Below wr.heap.size wr W1:=by rw[<-hW1];exact ba_
     have z1:W1.heap.size=bx+1:=by rw[<-hW1,<-hbx];exact aF _ _
     rw[hbx]at b1 zr
     have HCL:=h_ (wY ta tc p.tagged W1 (hrd W1 (cbr.trans (b1.mono (by have:=cbr.size;omega)))).2 htl)
     have HP:=h_ hp
     have HRW:=h_ hrows
     have HOW:=h_ hown
     clear hrd hp hpk htl hrows hown
     go_wp2_with fail
     (try rw[hbx])
     (try clear hW1)
     (with_reducible refine HCL.out.mono ?_)
     rintro e W2 ⟨⟨v,rfl,hcl⟩,b2⟩
     have z2':=b2.size
     obtain⟨ta2,tc2,hve,_⟩:=hcl.elems
     rw[List.length_map]at hve
     subst hve
     have rP2:=(aA b2 (by omega)).trans rP
     have b12:Below bx wr W2:=b1.trans (b2.mono (by omega))
     obtain⟨W3,hW3⟩:∃x,W2.setRow bx #[Value.int .i64 p.native,Value.slice ta2 p.tagged.length tc2,Value.int .i64 p.hor,Value.int .i64 p.lim]=x:=⟨_,rfl⟩
     have rP3:row W3 bx=#[Value.int .i64 p.native,Value.slice ta2 p.tagged.length tc2,Value.int .i64 p.hor,Value.int .i64 p.lim]:=by rw[<-hW3];exact aB (by rw[rP2];simp) (by rw[rP2];simp)
     have z3':W3.heap.size=W2.heap.size:=by rw[<-hW3];simp
     have b13:Below bx wr W3:=by rw[<-hW3];exact Below.setRow b12 (Nat.le_refl _) _
     have hcl3:OwnL W3 (B+1) 3 1 (.slice ta2 p.tagged.length tc2) (p.tagged.map fun v=>[Value.int .i64 v]):=by
      rw[<-hW3]
      refine(hcl.lower (by omega)).keep fun k hk=>?_
      have:=(hcl.blk hk).1
      exact aO _ _ _ (by omega)
     have rB3:=(aA b13 (by omega)).trans rBr
     have HC3:=h_ hcl3
     have HO3:=h_ (HOW.out.below (hbx▸b13))
     clear HCL hcl hcl3 b2 b12 rP b1 hld
     go_wp2_with fail
     (try rw[hW3])
     (try clear hW3)
     clear rP2
     refine aF6 10 [(B,#[Value.slice ppa j ppc,Value.slice (some ⟨SB,0,none⟩) ps.length ps.length,Value.pointer (some ⟨LT,0,none⟩),Value.pointer (some ⟨HM+1,0,none⟩),Value.int .i64 0,Value.int .i64 0,Value.int .i64 0,Value.int .i64 0,Value.int .i64 0]),(bx,#[Value.int .i64 p.native,Value.slice ta2 p.tagged.length tc2,Value.int .i64 p.hor,Value.int .i64 p.lim])] [] (fun hS=>?_)
     refine kp 0 hS ?_
     refine kp 1 hS ?_
     refine kp 2 hS ?_
     refine kp 3 hS ?_
     refine kp 4 hS ?_
     refine kp 5 hS ?_
     refine gI 6 kr_ (by decide) (fun u6 hu6=>?_)
     refine wpOp_step rfl (fun K hK=>?_)
     clear hS
     go_simp
     replace hu6:Below W3.heap.size W3 u6:=aL (Below.drew (Below.refl _ _)) hu6
     have zu6:=hu6.size
     have hbB:B<wr.heap.size:=by omega
     have rB6:row (u6.alloc (.cells #[Value.int .i64 p.native,Value.slice ta2 p.tagged.length tc2,Value.int .i64 p.hor,Value.int .i64 p.lim] 64)) B=#[Value.slice ppa j ppc,Value.slice (some ⟨SB,0,none⟩) ps.length ps.length,Value.pointer (some ⟨LT,0,none⟩),Value.pointer (some ⟨HM+1,0,none⟩),Value.int .i64 0,Value.int .i64 0,Value.int .i64 0,Value.int .i64 0,Value.int .i64 0]:=by rw[aD _ _ (by omega),aA hu6 (by omega)];exact rB3
     have rP6:row (u6.alloc (.cells #[Value.int .i64 p.native,Value.slice ta2 p.tagged.length tc2,Value.int .i64 p.hor,Value.int .i64 p.lim] 64)) bx=#[Value.int .i64 p.native,Value.slice ta2 p.tagged.length tc2,Value.int .i64 p.hor,Value.int .i64 p.lim]:=by rw[aD _ _ (by omega),aA hu6 (by omega)];exact rP3
     refine hK _ _ ⟨⟨rB6,by rw[aF];omega,rP6,by rw[aF];omega,trivial⟩,?_⟩
     clear hK K
     refine gI 7 kr_ (by decide) (fun u8 hu8=>?_)
     have zu8:=hu8.size
     rw[aF]at zu8
     have b38:Below W3.heap.size W3 u8:=(Below.alloc hu6 (by omega) _).trans (hu8.mono (by rw[aF];omega))
     have rN8:row u8 u6.heap.size=#[Value.int .i64 p.native,Value.slice ta2 p.tagged.length tc2,Value.int .i64 p.hor,Value.int .i64 p.lim]:=by rw[aA hu8 (by rw[aF];omega)];exact aE _ _ _ rfl
     have rB8:=(aA hu8 (by rw[aF];omega)).trans rB6
     have rP8:=(aA hu8 (by rw[aF];omega)).trans rP6
     refine aCq cD rfl ?_
     refine aEu (t:=84) rfl Tryz.underlying84 aAd (by decide) (by decide) (B+1) _ rows rfl (HO3.out.below b38) u6.heap.size 1 [Value.int .i64 p.native,Value.slice ta2 p.tagged.length tc2,Value.int .i64 p.hor,Value.int .i64 p.lim] rfl rN8 rfl rfl (by omega) (by omega) ?_
     intro v' u9 hown9 hb9 hk9
     have zu9:=hb9.size
     obtain⟨ppa2,ppc2,hve2,_⟩:=hown9.elems
     rw[List.length_append,List.length_singleton,hrl]at hve2
     subst hve2
     have hpvB:∀k,(Value.slice ppa j ppc).ownBlock=some k->B+1<=k/\k<bx:=fun k hk=>by
      have:=HOW.out.blk hk
      omega
     have rB9:row u9 B=#[Value.slice ppa j ppc,Value.slice (some ⟨SB,0,none⟩) ps.length ps.length,Value.pointer (some ⟨LT,0,none⟩),Value.pointer (some ⟨HM+1,0,none⟩),Value.int .i64 0,Value.int .i64 0,Value.int .i64 0,Value.int .i64 0,Value.int .i64 0]:=(aJ (hk9 B (by omega) (fun e=>by have:=(hpvB B e).1;omega))).trans rB8
     have rP9:row u9 bx=#[Value.int .i64 p.native,Value.slice ta2 p.tagged.length tc2,Value.int .i64 p.hor,Value.int .i64 p.lim]:=(aJ (hk9 bx (by omega) (fun e=>by have:=(hpvB bx e).2;omega))).trans rP8
     have hS:Rws [(B,#[Value.slice ppa j ppc,Value.slice (some ⟨SB,0,none⟩) ps.length ps.length,Value.pointer (some ⟨LT,0,none⟩),Value.pointer (some ⟨HM+1,0,none⟩),Value.int .i64 0,Value.int .i64 0,Value.int .i64 0,Value.int .i64 0,Value.int .i64 0]),(bx,#[Value.int .i64 p.native,Value.slice ta2 p.tagged.length tc2,Value.int .i64 p.hor,Value.int .i64 p.lim])] u9:=⟨rB9,by omega,rP9,by omega,trivial⟩
     refine⟨hS,?_⟩
     (try simp only[Act.put,List.setIfInBounds_toArray,List.set_cons_zero,List.set_cons_succ])
     refine bP (i:=8) (v:=?_) cD kr_ kr_ kr_ (by decide) (by first | exact fun _ _ _ h=>h | exact fun _ _ _ h=>by cases h.1) (Rws.grow _) (Rws.grow _) (by intro w h;simp only[Rws]at h ⊢;(try simp only[h,and_self])) (Or.inl ⟨by rfl,?_⟩) hS ?_
     rotate_left
     ·intro w' hS'
      simp only[Rws]at hS'
      go_simp
      refine⟨?_,Below.refl _ _⟩
      rfl
     (try simp only[Act.put,List.setIfInBounds_toArray,List.set_cons_zero,List.set_cons_succ])
     refine kp 9 hS ?_
     refine bE (k:=10) cD rfl rfl kr_ (fun y hy=>?_)
     have zy:=hy.size
     have rBy:=(aA hy (by omega)).trans rB9
     obtain⟨y2,hy2⟩:∃x,y.setRow B #[Value.slice ppa2 (j+1) ppc2,Value.slice (some ⟨SB,0,none⟩) ps.length ps.length,Value.pointer (some ⟨LT,0,none⟩),Value.pointer (some ⟨HM+1,0,none⟩),Value.int .i64 0,Value.int .i64 0,Value.int .i64 0,Value.int .i64 0,Value.int .i64 0]=x:=⟨_,rfl⟩
     refine⟨y2,?_,trivial,fun hS=>?_⟩
     ·rw[<-hy2]
      go_simp
      try exact⟨_,_,rfl,rfl⟩
     ·refine aG kr_ (fun w10 b10=>?_) _
      have z10:=b10.size
      have zy2:y2.heap.size=y.heap.size:=by rw[<-hy2];simp
      have same:∀k,k<bx->k≠B->(Value.slice ppa j ppc).ownBlock≠some k->w10.heap[k]? =wr.heap[k]? :=fun k hk hn hne=>by
       rw[b10.block k (by omega),<-hy2,aO _ _ _ hn,hy.block k (by omega),hk9 k (by omega) hne,b38.block k (by omega),b13.block k hk]
      have same3:∀k,k<W3.heap.size->k≠B->(Value.slice ppa j ppc).ownBlock≠some k->w10.heap[k]? =W3.heap[k]? :=fun k hk hn hne=>by
       rw[b10.block k (by omega),<-hy2,aO _ _ _ hn,hy.block k (by omega),hk9 k (by omega) hne,b38.block k (by omega)]
      have same9:∀k,k<u9.heap.size->k≠B->w10.heap[k]? =u9.heap[k]? :=fun k hk hn=>by
       rw[b10.block k (by omega),<-hy2,aO _ _ _ hn,hy.block k (by omega)]
      have hownF:OwnL w10 (B+1) 64 4 (.slice ppa2 (j+1) ppc2) (rows++[j7 ta2 tc2 p]):=hown9.keep fun k hk=>by
       have:=hown9.blk hk
       exact same9 k this.2.1 (by omega)
      have hrowsF:∀(q:Nat) (p':PortD),q<j+1->ps[q]? =some p'->∃ta cap,(rows++[j7 ta2 tc2 p])[q]? =some (j7 ta cap p')/\OwnL w10 (B+1) 3 1 (.slice ta p'.tagged.length cap) (p'.tagged.map fun v=>[Value.int .i64 v]):=by
       intro q p' hq hp'
       by_cases hqj:q<j
       ·obtain⟨ta',cap',e1,e2⟩:=HRW.out q p' hqj hp'
        refine⟨ta',cap',by rw[List.getElem?_append_left (by omega)];exact e1,e2.keep fun k hk=>?_⟩
        have:=e2.blk hk
        exact same k (by omega) (by omega) (e2.apart HOW.out (by decide) hk)
       ·have hqe:q=j:=by omega
        subst hqe
        rw[List.getElem?_eq_getElem hlt,HP.out]at hp'
        cases hp'
        refine⟨ta2,tc2,by rw[List.getElem?_append_right (by omega),hrl,Nat.sub_self];rfl,HC3.out.keep fun k hk=>?_⟩
        have:=HC3.out.blk hk
        exact same3 k this.2.1 (by omega) (HC3.out.apart HO3.out (by decide) hk)
      have rBF:row w10 B=#[Value.slice ppa2 (j+1) ppc2,Value.slice (some ⟨SB,0,none⟩) ps.length ps.length,Value.pointer (some ⟨LT,0,none⟩),Value.pointer (some ⟨HM+1,0,none⟩),Value.int .i64 0,Value.int .i64 0,Value.int .i64 0,Value.int .i64 0,Value.int .i64 0]:=by
       rw[aA b10 (by omega),<-hy2]
       exact aB (by rw[rBy];simp) (by rw[rBy];simp)
      have hbsF:BelowS (B+1) [B] w5 w10:=hbs.trans ⟨by rw[b10.os,<-hy2];exact(hy.os).trans (hb9.os.trans (b38.os.trans b13.os)),by rw[b10.tape,<-hy2];exact(hy.tape).trans (hb9.tape.trans (b38.tape.trans b13.tape)),by rw[b10.output,<-hy2];exact(hy.output).trans (hb9.output.trans (b38.output.trans b13.output)),by omega,fun k hk hn=>by
       have hkB:k≠B:=fun e=>hn (by rw[e];simp)
       exact same k (by omega) hkB (fun e=>by have:=(hpvB k e).1;omega)⟩
      have H1:=h_ hownF
      have H2:=h_ hrowsF
      have H3:=h_ hbsF
      clear hownF hrowsF hbsF same same3 same9 hb9 hk9 hown9 hS b10 hy b38 hu8 hu6 hy2 rBy rB9 rP9 rB8 rP8 rN8 rB6 rP6 rP3 rB3 HC3 HO3 HOW HRW HP b13
      go_wp2_with fail
      go_roundw
      case rel=>exact⟨j+1,ppa2,ppc2,rows++[j7 ta2 tc2 p],by omega,by simp,by simp[hrl],H1.out,H2.out,rBF,H3.out⟩
      case measure=>simp[intOf];omega
    ·obtain rfl:j=ps.length:=by omega
     have hltI:¬(ps.length:Int)<(ps.length:Int):=by omega
     have H1:=h_ hown
     have H2:=h_ hrows
     clear hown hrows
     go_wp2_with fail
     go_ret2
     have hsub:BelowS w5.heap.size ([B,SB,LM,HM]++xs) w5 wr:=⟨hbs.os,hbs.tape,hbs.output,hbs.size,fun k hk hn=>hbs.block k (by omega) (fun hm=>hn (by rw[List.mem_singleton.1 hm];simp))⟩
     have nb:∀k,k≠B->k∉[B]:=fun k h hm=>h (List.mem_singleton.1 hm)
     refine .inr ⟨HF.out,⟨B,SB,LT,LM,HM+1,HM,ppa,ppc,la,lc,xs⟩,rfl,⟨cbr,?_,?_⟩,rfl⟩
     ·refine⟨rBr,?_,?_,?_,HLI.out.kept hsub,?_,?_,by simp[aCM],by show 0<ps.length;exact hpos⟩
      ·exact(hbs.row (by omega) (nb SB (by omega))).trans HRS.out
      ·exact⟨(hbs.row (by omega) (nb LT (by omega))).trans HLT.out.row,(bD (hbs.block LM (by omega) (nb LM (by omega)))).2 HLT.out.ok,(bQ (hbs.block LM (by omega) (nb LM (by omega)))).trans HLT.out.map⟩
      ·exact⟨(hbs.row (by omega) (nb (HM+1) (by omega))).trans HHT.out.row,(bD (hbs.block HM (by omega) (nb HM (by omega)))).2 HHT.out.ok,(bQ (hbs.block HM (by omega) (nb HM (by omega)))).trans HHT.out.map⟩
      ·have hmu:∀x∈[B,SB,LM,HM]++xs,x<B+1∨wr.heap.size<=x:=by
        intro x hx
        rcases List.mem_append.1 hx with hx | hx
        ·simp only[List.mem_cons,List.not_mem_nil,or_false]at hx
         omega
        ·have:=hxs x hx
         omega
       obtain⟨a',c',e',hof⟩:=H1.out.off ([B,SB,LM,HM]++xs) hmu
       rw[hrl]at e'
       cases e'
       refine⟨by show ps.length<=maxLen;unfold maxLen;omega,fun q p hq=>?_⟩
       have hq2:q<ps.length:=(List.getElem?_eq_some_iff.1 hq).1
       obtain⟨ta,cap,e1,e2⟩:=H2.out q p hq2 hq
       obtain⟨b,off,e3,hl,hnm,hra⟩:=hof.2 q _ e1
       obtain⟨a2,c2,e4,hof2⟩:=e2.off ([B,SB,LM,HM]++xs) hmu
       rw[List.length_map]at e4
       cases e4
       exact⟨b,off,ta,cap,e3,hl,hnm,hra,hof2⟩
      ·show [B,SB,LT,LM,HM+1,HM].Nodup
       simp only[List.nodup_cons,List.mem_cons,List.not_mem_nil,or_false,not_or,not_false_eq_true,List.nodup_nil,and_true]
       omega
     ·show ∀b∈[B,SB,LT,LM,HM+1,HM],w.heap.size<=b
      intro x hx
      simp only[List.mem_cons,List.not_mem_nil,or_false]at hx
      omega
theorem aIG (h:PortsOff [] w pa ps) (hn:ps.length<=1000):
  Calls Tryz.prog 19 #[.slice pa ps.length pcap,.int .i64 ageing] w fun e w'=>
   (eY ageing ps=false/\e=.returned (.tuple #[.pointer none,.int .i64 1])/\Below w.heap.size w w')∨
   (eY ageing ps=true/\∃A,e=.returned (.tuple #[.pointer (some ⟨A.B,0,none⟩),.int .i64 0])/\NewB w w' A ageing ps):=
 (aBC ageing pa pcap ps w [] (fun x hx=>by cases hx) h hn).mono fun e w' h=>h.imp id fun⟨h1,A,h2,h3,_⟩=>⟨h1,A,h2,h3⟩
end
end
section
open Go.RowKit Go.Shelf
theorem aBD {w:World} {a:Addr} {v:Value} (h:w.cell? a=some v):a.spot=none:=by
 unfold World.cell? at h
 split at h
 ·split at h
  ·cases h
  ·rename_i hn
   cases hsp:a.spot with
   | none=>rfl
   | some x=>rw[hsp]at hn;simp at hn
 ·cases h
theorem oE (a:Addr):Addr.add a 0=a:=by unfold Addr.add;rw[if_pos rfl]
section
variable {H:Type} {enc:TypeId×Value->H} {P:Program} {w:World} {base:Nat} {spare:Nat->Bool} {held:Bool} {fuel:Nat} {t e:TypeId}
theorem aEQ {c:Value} {x:DataW H×List MemPlace} (hu:P.underlying t=some (.slice e)) (he:P.underlying e=some (.int .i64)) (hc:P.cellsOf e=1) (h:DataW.trod enc P w base spare held fuel t [c]=some x):
  ∃a l cap,c=.slice a l.length cap/\IntsAt w a l:=by
 rcases Go.Deep.open_slice hu h with ⟨h1,_⟩ | ⟨a,len,cap,m,n,D,Pl,h1,hb,hl,hm,hmm,_,hx⟩
 ·rw[List.cons.injEq]at h1
  exact⟨none,[],0,h1.1,IntsAt.nil _ _⟩
 ·rw[List.cons.injEq]at h1
  obtain⟨rfl,_⟩:=h1
  have hlm:len<=m:=by rw[hmm];split<;>omega
  have hget:∀i,i<len->∃v:Int,w.cell? (Addr.add a i)=some (.int .i64 v):=by
   intro i hi
   obtain⟨cs',c1,c2⟩:=hx i (by omega)
   obtain⟨v,rfl,_,_⟩:=DataW.trod_int he c2
   rw[hc,Nat.mul_one]at c1
   obtain⟨_,hlen,c3⟩:=World.cells?_some c1
   have c4:=c3 0 (by omega)
   rw[oE]at c4
   exact⟨v,c4⟩
  obtain⟨f,hf⟩:∃f:Nat->Int,∀i,i<len->w.cell? (Addr.add a i)=some (.int .i64 (f i)):=by
   refine⟨fun i=>if hi:i<len then Classical.choose (hget i hi)else 0,fun i hi=>?_⟩
   dsimp only
   rw[dif_pos hi]
   exact Classical.choose_spec (hget i hi)
  refine⟨some a,(List.range len).map f,cap,by simp,?_⟩
  refine⟨by simp;omega,fun i y hy=>?_⟩
  rw[List.map_map,List.getElem?_map]at hy
  have hi:i<len:=by
   rcases Nat.lt_or_ge i len with h | h
   ·exact h
   ·rw[List.getElem?_eq_none (by simpa using h)]at hy;simp at hy
  rw[List.getElem?_range hi]at hy
  simp only[Option.map_some,Option.some.injEq,Function.comp]at hy
  subst hy
  have h0:=hf i hi
  have h00:=hf 0 (by omega)
  rw[oE]at h00
  have hsp:=aBD h00
  obtain⟨b,off,sp⟩:=a
  dsimp only at hsp
  subst hsp
  rw[fP]at h0
  have hlt:b<w.heap.size:=by
   rcases Nat.lt_or_ge b w.heap.size with hlt | hge
   ·exact hlt
   ·simp[World.cell?,Array.getElem?_eq_none hge]at h0
  refine⟨b,off,rfl,hlt,fun W hW j u hj=>?_⟩
  have hj0:j=0:=by
   have:=(List.getElem?_eq_some_iff.1 hj).1
   simpa using this
  subst hj0
  simp only[List.getElem?_cons_zero,Option.some.injEq]at hj
  subst hj
  rw[Nat.mul_one,Nat.add_zero,<-h0]
  have hW2:W.heap[b]? =w.heap[b]? :=hW
  simp only[World.cell?,hW2]
end
structure RPortD where
 p:PortD
 state:Int
end
section
open Go.RowKit Go.Shelf
section
variable {P:Program} {ops:Array Oper} {Q:Exit->Act->World->Prop} {md:Region.Mode} {S:World->Prop}
theorem fM (i:Nat) {fuel:Nat} {listed:Array Bool} {a:Act} {w:World} (hr:Region.ready md ops listed=[i])
  (h:∀w1,Below w.heap.size w w1->wpOp P ops Q i (fun a' w'=>S w'/\bR P md ops Q S fuel (listed.setIfInBounds i true) a' w') a w1):bR P md ops Q S (fuel+1) listed a w:=by
 intro w1 h1
 refine⟨fun h0=>by rw[hr]at h0;simp at h0,fun j hj=>?_⟩
 rw[hr]at hj
 obtain rfl:=List.mem_singleton.1 hj
 exact h w1 h1
end
theorem aGL {S:List Nat} {w:World} {B:Nat} {pa:Option Addr} {n cap:Nat} {rows:List (List Value)} {ps:List PortD} (h:OwnL w B 64 4 (.slice pa n cap) rows) (hl:ps.length<=1000) (hS:∀s∈S,s<B)
  (hr:∀(q:Nat) (p:PortD),ps[q]? =some p->∃ta tc,rows[q]? =some (j7 ta tc p)/\ElemsOff S w ta 1 (p.tagged.map fun v=>[Value.int .i64 v])):PortsOff S w pa ps:=by
 obtain⟨a',c',e,he⟩:=h.off S (fun s hs=>.inl (hS s hs))
 cases e
 refine⟨by unfold maxLen;omega,fun q p hq=>?_⟩
 obtain⟨ta,tc,e1,e2⟩:=hr q p hq
 obtain⟨b,off,e3,hb,hn,hra⟩:=he.2 q _ e1
 exact⟨b,off,ta,tc,e3,hb,hn,hra,e2⟩
end
section
open Go.RowKit Go.Shelf
theorem aMI (ageing:Int) (ps:List PortD) (h:eY ageing ps=true):BrG (aCM ageing ps) 0/\0<ps.length/\(∀p∈ps,jZ p=true)/\(∀p∈ps,0<=p.lim/\p.lim<=65535):=by
 unfold eY oC at h
 simp only[Bool.and_eq_true,decide_eq_true_eq,List.length_map,Bool.not_eq_true',List.any_map]at h
 obtain⟨⟨h1,⟨⟨⟨h2,h3⟩,h4⟩,h5⟩⟩,h6⟩:=h
 refine⟨⟨h4,List.Pairwise.nil,(fun b hb=>by cases hb),Nat.le_refl _,(fun b hb=>by cases hb),List.Pairwise.nil,(fun b hb=>by cases hb),by simp[aCM],by simp[aCM],h2,h3⟩,by omega,fun p hp=>List.all_eq_true.1 h1 p hp,fun p hp=>?_⟩
 have:=List.any_eq_false.1 h5 p hp
 simp only[Function.comp,kS,Bool.or_eq_true,decide_eq_true_eq,not_or]at this
 omega
def sJ (ageing:Int) (ps:List PortD) (f:Nat->Int) (j:Nat):BrS:={aCM ageing ps with states:=(List.range ps.length).map fun i=>if i<j then f i else 0}
theorem aKr (ageing:Int) (ps:List PortD) (f:Nat->Int):sJ ageing ps f 0=aCM ageing ps:=by
 have:(List.range ps.length).map (fun i=>if i<0 then f i else 0)=List.replicate ps.length 0:=by
  apply List.ext_getElem
  ·simp
  ·intro i h1 h2
   simp
 unfold sJ
 rw[this]
 rfl
theorem aKs (ageing:Int) (ps:List PortD) (f:Nat->Int) {j:Nat} (hj:j<ps.length):aBy (sJ ageing ps f j) j (f j)=sJ ageing ps f (j+1):=by
 unfold aBy sJ aCM
 simp only[BrS.mk.injEq,true_and,and_true]
 refine⟨?_,by split<;>rfl⟩
 apply List.ext_getElem
 ·simp
 ·intro i h1 h2
  simp only[List.length_map,List.length_range]at h2
  rw[List.getElem_set]
  simp only[List.getElem_map,List.getElem_range]
  by_cases e:j=i
  ·subst e;simp
  ·rw[if_neg e]
   by_cases h3:i<j
   ·rw[if_pos h3,if_pos (by omega)]
   ·rw[if_neg h3,if_neg (by omega)]
theorem aGM (ageing:Int) (ps:List PortD) (f:Nat->Int) (j:Nat) (h:eY ageing ps=true):BrG (sJ ageing ps f j) 0:=by
 have g:=(aMI ageing ps h).1
 exact⟨g.n32,List.Pairwise.nil,(fun b hb=>by cases hb),Nat.le_refl _,(fun b hb=>by cases hb),List.Pairwise.nil,(fun b hb=>by cases hb),g.bin,g.cs,g.age⟩
theorem aM6 {w:World} {A:BrA} (h:∀b∈[A.B,A.SB,A.LT,A.LM,A.HT,A.HM],w.heap.size<=b):∀x∈A.muts,w.heap.size<=x:=by
 intro x hx
 refine h x ?_
 simp only[BrA.muts,List.mem_cons,List.not_mem_nil,or_false]at hx ⊢
 omega
theorem aER (ageing:Int) (pa:Option Addr) (pcap:Nat) (ps:List PortD) (w:World) (xs:List Nat) (hxs:∀x∈xs,x<w.heap.size) (h:PortsOff [] w pa ps) (hn:ps.length<=1000):
  Calls Tryz.prog 19 #[.slice pa ps.length pcap,.int .i64 ageing] w fun e w'=>
   (eY ageing ps=false/\e=.returned (.tuple #[.pointer none,.int .i64 1])/\Below w.heap.size w w')∨
   (eY ageing ps=true/\∃A,e=.returned (.tuple #[.pointer (some ⟨A.B,0,none⟩),.int .i64 0])/\NewB w w' A ageing ps/\A.ex=w'.heap.size::xs/\∀x∈[A.B,A.SB,A.LT,A.LM,A.HT,A.HM],x<w'.heap.size):=
 (aBC ageing pa pcap ps w xs hxs h hn).mono fun e w' h=>h.imp id fun⟨h1,A,h2,h3,h4⟩=>⟨h1,{A with ex:=w'.heap.size::A.ex},h2,⟨h3.below,h3.br.more _ (Nat.le_refl _),h3.lo⟩,by rw[h4],by
  obtain⟨l1,l2,l3,l4,l5,l6⟩:=h3.br.lts
  intro x hx
  simp only[List.mem_cons,List.not_mem_nil,or_false]at hx
  rcases hx with rfl | rfl | rfl | rfl | rfl | rfl<;>assumption⟩
theorem aCN {ageing:Int} {ps:List PortD} {f:Nat->Int} {j:Nat} {A:BrA} (W:World) (hok:eY ageing ps=true) (hj:j<ps.length) (h0:0<=f j) (h3:f j<=3) (hW:BrT W A (sJ ageing ps f j)):
  Calls Tryz.prog 21 #[.pointer (some ⟨A.B,0,none⟩),.int .i64 (j:Int),.int .i64 (f j)] W fun e w'=>e=.returned (.int .i64 0)/\BelowS W.heap.size A.muts W w'/\BrT w' A (sJ ageing ps f (j+1)):=by
 have h:=aGD W hW j (f j) (aMI ageing ps hok).1.n32 hj h0 h3 (aGM ageing ps _ j hok).std (Nat.zero_le _)
 rw[aKs ageing ps f hj]at h
 exact h
end
end Go.Proofs.YtiagbbknkdgmeaaGreat
