/- Texts of this proof, merged: SpnK, SpnM. -/
import Derived.Test.YtiagbbknkdgmeaaGreatJ8
import Derived.Test.YtiagbbknkdgmeaaGreatJ18
set_option linter.unusedSimpArgs false
set_option linter.unusedVariables false
set_option maxHeartbeats 8000000
set_option maxRecDepth 20000
namespace Go.Proofs.YtiagbbknkdgmeaaGreat
section
open Go.RowKit Go.Shelf
def fT (ma he de:Int):Bool:=decide (1<=he)&&decide (he<=100)&&decide (2*he<ma)&&decide (ma<=1000)&&decide (1<=de)&&decide (de<=1000)
def fX (c:Int):Bool:=decide (c<1)||decide (65535<c)
theorem aLV {he:Int} (h1:1<=he) (h2:he<=100):wrap64 (2*he)=2*he/\IntKind.i64.wrap (2*he)=2*he:=⟨by unfold wrap64;omega,by rw[IntKind.wrap_i64];omega⟩
theorem tX (ma he de:Int) (w:World):Calls Tryz.prog 40 #[.agg #[.int .i64 ma,.int .i64 he,.int .i64 de]] w fun e w'=>e=.returned (.bool (fT ma he de))/\Below w.heap.size w w':=by
 obtain⟨q,hq⟩:∃q,fT ma he de=q:=⟨_,rfl⟩
 rw[hq]
 have HB:=h_ hq
 clear hq
 go_enter Tryz.func40,Tryz.ntmps40
 by_cases h1:1<=he
 ·by_cases h2:he<=100
  ·obtain⟨e1,e2⟩:=aLV h1 h2
   by_cases h3:2*he<ma
   ·by_cases h4:ma<=1000
    ·by_cases h5:1<=de
     ·by_cases h6:de<=1000
      ·go_wp2_with fail
       go_ret
       exact⟨by rw[show q=true by rw[<-HB.out];unfold fT;simp;omega];rfl,eD⟩
      ·go_wp2_with fail
       go_ret
       exact⟨by rw[show q=false by rw[<-HB.out];unfold fT;simp;omega];rfl,eD⟩
     ·go_wp2_with fail
      go_ret
      exact⟨by rw[show q=false by rw[<-HB.out];unfold fT;simp;omega];rfl,eD⟩
    ·go_wp2_with fail
     go_ret
     exact⟨by rw[show q=false by rw[<-HB.out];unfold fT;simp;omega];rfl,eD⟩
   ·go_wp2_with fail
    go_ret
    exact⟨by rw[show q=false by rw[<-HB.out];unfold fT;simp;omega];rfl,eD⟩
  ·go_wp2_with fail
   go_ret
   exact⟨by rw[show q=false by rw[<-HB.out];unfold fT;simp;omega];rfl,eD⟩
 ·go_wp2_with fail
  go_ret
  exact⟨by rw[show q=false by rw[<-HB.out];unfold fT;simp;omega];rfl,eD⟩
theorem aEN (x:Int) (w:World):Calls Tryz.prog 39 #[.int .i64 x] w fun e w'=>e=.returned (.bool (fX x))/\w'=w:=by
 go_enter Tryz.func39,Tryz.ntmps39
 by_cases h1:x<1
 ·go_wp2_with fail
  go_ret
  exact⟨by simp[fX,h1],rfl⟩
 ·go_wp2_with fail
  go_ret
  have h2:¬x<1:=by omega
  exact⟨by simp only[fX,decide_eq_false h2,Bool.false_or];rfl,rfl⟩
theorem xM (a:Option Addr) (cap:Nat) (costs:List Int) (w:World) (h:IntsAt w a costs):Calls Tryz.prog 41 #[.slice a costs.length cap,.func (.func 39) #[] #[]] w fun e w'=>e=.returned (.bool (costs.any fX))/\w'=w:=by
 refine(iP 39 #[] (enters_of Tryz.func39 kr_ rfl) a cap costs (fun k W=>costs.any fX=(costs.drop k).any fX/\W=w) (fun W=>costs.any fX=true/\W=w) (fun k W hW=>by rw[hW.2];exact h) ?_ w ⟨rfl,rfl⟩ h.len).mono ?_
 ·rintro k hk W ⟨i1,rfl⟩
  refine(aEN costs[k] _).mono ?_
  rintro e W2 ⟨rfl,rfl⟩
  rw[List.drop_eq_getElem_cons hk,List.any_cons]at i1
  cases hb:fX costs[k]with
  | true=>rw[hb]at i1;exact .inr ⟨rfl,by rw[i1];rfl,rfl⟩
  | false=>rw[hb]at i1;exact .inl ⟨rfl,by rw[i1];rfl,rfl⟩
 ·rintro e W (⟨rfl,i1,rfl⟩ | ⟨rfl,i1,rfl⟩)
  ·rw[i1,List.drop_of_length_le (Nat.le_refl _)]
   exact⟨rfl,rfl⟩
  ·rw[i1]
   exact⟨rfl,rfl⟩
end
section
open Go.RowKit Go.Shelf
def aJJ (costs:List Int) (ma he de:Int):Bool:=fT ma he de&&decide (1<=costs.length)&&decide (costs.length<=32)&& !costs.any fX
theorem aGz:(Tryz.prog.info? 136).map (fun i=>(i.zero.map (·.cells.size),i.size,i.bytes))=some (some 1,1,8):=by kernel_rfl
section
variable (id:Vector UInt8 8) (a:Option Addr) (cap:Nat) (costs:List Int) (ma he de:Int) (w:World)
theorem tY (h:IntsAt w a costs) (hb:aJJ costs ma he de=false):
  Calls Tryz.prog 20 #[.agg (u8v id).toArray,.slice a costs.length cap,.agg #[.int .i64 ma,.int .i64 he,.int .i64 de]] w fun e w'=>e=.returned (.tuple #[.pointer none,.int .i64 1])/\Below w.heap.size w w':=by
 have hl:=h.len
 have hl2:(costs.length:Int)<=9223372036854775807:=by unfold maxLen at hl;omega
 have HF:=h_ (fun w h=>xM a cap costs w h)
 have HR:=h_ (fun w=>tX ma he de w)
 have HI:=h_ h
 clear hl h
 unfold aJJ at hb
 go_enter Tryz.func20,Tryz.ntmps20
 obtain⟨w1,hw1⟩:∃x,w.alloc (.cells (u8v id).toArray 36)=x:=⟨_,rfl⟩
 have b1:Below w.heap.size w w1:=by rw[<-hw1];exact ba_
 have z1:w1.heap.size=w.heap.size+1:=by rw[<-hw1,aF]
 obtain⟨w2,hw2⟩:∃x,w1.alloc (.cells #[.int .i64 ma,.int .i64 he,.int .i64 de] 38)=x:=⟨_,rfl⟩
 have b2:Below w.heap.size w w2:=by rw[<-hw2];exact Below.alloc b1 (by omega) _
 have r2:row w2 (w.heap.size+1)=#[.int .i64 ma,.int .i64 he,.int .i64 de]:=by rw[<-hw2];exact aE _ _ _ z1.symm
 have z2:w2.heap.size=w.heap.size+1+1:=by rw[<-hw2,aF,z1]
 have HI2:=h_ (HI.out.below b2)
 go_wp2_with fail
 (try clear hw1)
 (try clear hw2)
 refine(HR.out _).mono ?_
 rintro e w3 ⟨rfl,b3⟩
 have HI3:=h_ (HI2.out.below b3)
 have B3:=b2.trans (b3.mono (by omega))
 clear b3 b2 b1 HI2 HI r2 z1 z2
 obtain⟨q,hq⟩:∃q,fT ma he de=q:=⟨_,rfl⟩
 rw[hq]at hb ⊢
 cases q with
 | false=>
  go_wp2_with fail
  go_ret2
  exact⟨rfl,B3⟩
 | true=>
  by_cases h1:(costs.length:Int)<1
  ·go_wp2_with fail
   go_ret2
   exact⟨rfl,B3⟩
  ·by_cases h2:(32:Int)<(costs.length:Int)
   ·go_wp2_with fail
    go_ret2
    exact⟨rfl,B3⟩
   ·have hc:costs.any fX=true:=by
     cases hcc:costs.any fX with
     | true=>rfl
     | false=>
      rw[hcc,decide_eq_true (show 1<=costs.length by omega),decide_eq_true (show costs.length<=32 by omega)]at hb
      cases hb
    rw[hc]at HF
    go_wp2_with fail
    refine(HF.out _ HI3.out).mono ?_
    rintro e w4 ⟨rfl,rfl⟩
    go_wp2_with fail
    go_ret2
    exact⟨rfl,B3⟩
theorem zO (h:IntsAt w a costs) (hb:aJJ costs ma he de=true):
  Calls Tryz.prog 20 #[.agg (u8v id).toArray,.slice a costs.length cap,.agg #[.int .i64 ma,.int .i64 he,.int .i64 de]] w fun e w'=>∃S s,e=.returned (.tuple #[.pointer (some ⟨S,0,none⟩),.int .i64 0])/\SpT w' w.heap.size S s/\s.ps.length=costs.length/\s.ma=ma/\s.he=he/\s.de=de/\s.now=0/\Below w.heap.size w w':=by
 have hl:=h.len
 have hl2:(costs.length:Int)<=9223372036854775807:=by unfold maxLen at hl;omega
 unfold aJJ at hb
 simp only[Bool.and_eq_true,decide_eq_true_eq,Bool.not_eq_true']at hb
 obtain⟨⟨⟨hq,h1⟩,h2⟩,hc⟩:=hb
 have HF:=h_ (fun w h=>xM a cap costs w h)
 have HR:=h_ (fun w=>tX ma he de w)
 rw[hc]at HF
 rw[hq]at HR
 have HI:=h_ h
 have h1I:¬(costs.length:Int)<1:=by omega
 have h2I:¬(32:Int)<(costs.length:Int):=by omega
 clear hl h hq hc
 go_enter Tryz.func20,Tryz.ntmps20
 obtain⟨w1,hw1⟩:∃x,w.alloc (.cells (u8v id).toArray 36)=x:=⟨_,rfl⟩
 have b1:Below w.heap.size w w1:=by rw[<-hw1];exact ba_
 have z1:w1.heap.size=w.heap.size+1:=by rw[<-hw1,aF]
 have r1:row w1 w.heap.size=(u8v id).toArray:=by rw[<-hw1];exact aE _ _ _ rfl
 obtain⟨w2,hw2⟩:∃x,w1.alloc (.cells #[.int .i64 ma,.int .i64 he,.int .i64 de] 38)=x:=⟨_,rfl⟩
 have b2:Below w.heap.size w w2:=by rw[<-hw2];exact Below.alloc b1 (by omega) _
 have r2:row w2 (w.heap.size+1)=#[.int .i64 ma,.int .i64 he,.int .i64 de]:=by rw[<-hw2];exact aE _ _ _ z1.symm
 have z2:w2.heap.size=w.heap.size+1+1:=by rw[<-hw2,aF,z1]
 have r12:row w2 w.heap.size=(u8v id).toArray:=by rw[<-hw2,aD _ _ (by omega)];exact r1
 have HI2:=h_ (HI.out.below b2)
 go_wp2_with fail
 (try clear hw1)
 (try clear hw2)
 refine(HR.out _).mono ?_
 rintro e w3 ⟨rfl,b3⟩
 have z3:=b3.size
 have HI3:=h_ (HI2.out.below b3)
 have B3:=b2.trans (b3.mono (by omega))
 have rI3:=(aA b3 (by omega)).trans r12
 have rT3:=(aA b3 (by omega)).trans r2
 have k0:w.heap.size<w3.heap.size:=by omega
 have k1:w.heap.size+1<w3.heap.size:=by omega
 clear b3 b2 b1 HI2 r2 z1 z2 r1 r12 z3
 go_wp2_with fail
 refine(HF.out _ HI3.out).mono ?_
 rintro e w4 ⟨rfl,rfl⟩
 obtain⟨w5,hw5⟩:∃x,w4.alloc (.cells (u8v id++(Value.int .i64 ma::Value.int .i64 he::Value.int .i64 de::Value.slice none 0 0::(aH 8 (Value.int .u8 0)++(Value.int .i64 0::(aH 8 (Value.int .u8 0)++(aH 1 (Value.int .i64 0)++Value.int .i64 (-1)::aH 2 (Value.int .i64 0))))))).toArray 135)=x:=⟨_,rfl⟩
 have b5:Below w4.heap.size w4 w5:=by rw[<-hw5];exact ba_
 have z5:w5.heap.size=w4.heap.size+1:=by rw[<-hw5,aF]
 have r5:row w5 w4.heap.size=(u8v id++(Value.int .i64 ma::Value.int .i64 he::Value.int .i64 de::Value.slice none 0 0::(aH 8 (Value.int .u8 0)++(Value.int .i64 0::(aH 8 (Value.int .u8 0)++[Value.int .i64 0,Value.int .i64 (-1),Value.int .i64 0,Value.int .i64 0]))))).toArray:=by rw[<-hw5];exact(aE _ _ _ rfl).trans rfl
 go_wp2_with fail
 (try clear hw5)
 have B5:=B3.trans (b5.mono (by omega))
 have gS:w.heap.size<=w4.heap.size:=by omega
 have k45:w4.heap.size<w5.heap.size:=by omega
 clear b5 HI3 B3 rI3 rT3 k0 k1 z5
 go_loopw [36] (fun i wr=>∃(k:Nat) (pa:Option Addr) (pc:Nat) (ps:List Nat),k<=costs.length/\i=.int .i64 k/\ps.length=k/\row wr w4.heap.size=(u8v id++(Value.int .i64 ma::Value.int .i64 he::Value.int .i64 de::Value.slice pa k pc::(aH 8 (Value.int .u8 0)++(Value.int .i64 0::(aH 8 (Value.int .u8 0)++[Value.int .i64 0,Value.int .i64 (-1),Value.int .i64 0,Value.int .i64 0]))))).toArray/\OwnL wr w5.heap.size 136 1 (.slice pa k pc) (ps.map fun p=>[ptr p])/\(∀p∈ps,w5.heap.size<=p/\∃c,row wr p=(jM c).toArray)/\w5.heap.size<=wr.heap.size/\Below w.heap.size w wr) (fun i _=>costs.length - (intOf i).toNat)
 case atStart=>exact⟨0,none,0,[],by omega,rfl,rfl,r5,OwnL.nil _ _ _ _,(fun p hp=>by cases hp),Nat.le_refl _,B5⟩
 case round=>
  obtain⟨k,pa,pc,ps,hk,rfl,hpl,rS,hown,hrows,zr,Br⟩:=hrel
  have hint:=HI.out.below Br
  clear r5 B5
  by_cases hlt:k<costs.length
  ·have hltI:(k:Int)<(costs.length:Int):=by omega
   obtain⟨b,off,rfl,hb,hc⟩:=hint.get hlt
   obtain⟨co,hco⟩:∃x,costs[k]=x:=⟨_,rfl⟩
   rw[hco]at hc
   obtain⟨w6,hw6⟩:∃x,wr.alloc (.cells (Value.int .i64 co::(aH 2 (Value.bool false)++(aH 16 (Value.int .u8 0)++(aH 6 (Value.int .i64 0)++(aH 2 (Value.bool false)++aH 3 (Value.int .i64 0)))))).toArray 140)=x:=⟨_,rfl⟩
   have b6:Below wr.heap.size wr w6:=by rw[<-hw6];exact ba_
   have z6:w6.heap.size=wr.heap.size+1:=by rw[<-hw6,aF]
   have rP6:row w6 wr.heap.size=(jM co).toArray:=by rw[<-hw6];exact(aE _ _ _ rfl).trans rfl
   have rS6:=(aA b6 (by omega)).trans rS
   have hown6:=hown.below b6
   have HRW:=h_ hrows
   have HOW:=h_ hown6
   clear hco hrows hown6
   have hle10:(ps.map fun p=>[ptr p]).length<=10000:=by simp;omega
   have hbase:w5.heap.size<=w6.heap.size:=by omega
   have HL:=h_ hle10
   have HZ6:=h_ z6
   clear hle10 z6
   go_wp2_with (at_builtin;refine iO rfl rfl Tryz.underlying131 aGz (by decide) (by decide) w5.heap.size _ _ rfl HOW.out [ptr wr.heap.size] rfl rfl rfl HL.out hbase ?_)
   intro v7 w7 hown7 b7 hk7
   have z7:=b7.size
   obtain⟨pa7,pc7,hv7,_⟩:=hown7.elems
   simp only[List.length_append,List.length_map,List.length_singleton,hpl]at hv7
   subst hv7
   have hne:∀X,X<w6.heap.size->(X<w5.heap.size∨X=wr.heap.size∨X∈ps)->row w7 X=row w6 X:=fun X hX h=>hk7 X hX (fun e=>by
    have h1:=HOW.out.blk e
    rcases h with h | h | h
    ·omega
    ·have h2:=hown.blk e
     omega
    ·obtain⟨_,c,hc2⟩:=HRW.out X h
     exact aEv hown h hc2 e)
   have z6:=HZ6.out
   have rS7:=(hne w4.heap.size (by omega) (.inl (by omega))).trans rS6
   have rP7:=(hne wr.heap.size (by omega) (.inr (.inl rfl))).trans rP6
   have hrows7:∀p∈ps++[wr.heap.size],w5.heap.size<=p/\∃c,row w7 p=(jM c).toArray:=by
    intro p hp
    rcases List.mem_append.1 hp with hp | hp
    ·obtain⟨h1,c,hc2⟩:=HRW.out p hp
     have hlp:p<wr.heap.size:=aM (i:=0) (by rw[hc2];simp[jM])
     exact⟨h1,c,(hne p (by omega) (.inr (.inr hp))).trans ((aA b6 hlp).trans hc2)⟩
    ·rw[List.mem_singleton.1 hp]
     exact⟨zr,co,rP7⟩
   have zr7:w5.heap.size<=w7.heap.size:=by omega
   have hown7':OwnL w7 w5.heap.size 136 1 (.slice pa7 (k+1) pc7) ((ps++[wr.heap.size]).map fun p=>[ptr p]):=by rw[List.map_append];exact hown7
   have Br7:Below w.heap.size w w7:=Br.trans ((b6.mono (by omega)).trans (b7.mono (by omega)))
   obtain⟨w8,hw8⟩:∃x,w7.setRow w4.heap.size (u8v id++(Value.int .i64 ma::Value.int .i64 he::Value.int .i64 de::Value.slice pa7 (k+1) pc7::(aH 8 (Value.int .u8 0)++(Value.int .i64 0::(aH 8 (Value.int .u8 0)++[Value.int .i64 0,Value.int .i64 (-1),Value.int .i64 0,Value.int .i64 0]))))).toArray=x:=⟨_,rfl⟩
   have r8:row w8 w4.heap.size=(u8v id++(Value.int .i64 ma::Value.int .i64 he::Value.int .i64 de::Value.slice pa7 (k+1) pc7::(aH 8 (Value.int .u8 0)++(Value.int .i64 0::(aH 8 (Value.int .u8 0)++[Value.int .i64 0,Value.int .i64 (-1),Value.int .i64 0,Value.int .i64 0]))))).toArray:=by rw[<-hw8];exact aB (by rw[rS7];simp) (by rw[rS7];simp)
   have z8:w8.heap.size=w7.heap.size:=by rw[<-hw8,setRow_size]
   have b8:BelowBut w7.heap.size w4.heap.size w7 w8:=by rw[<-hw8];exact BelowBut.set _ _
   have hown8:=hown7'.keep (w':=w8) fun q hq=>b8.block q (hown7'.blk hq).2.1 (by have:=(hown7'.blk hq).1;omega)
   have hrows8:∀p∈ps++[wr.heap.size],w5.heap.size<=p/\∃c,row w8 p=(jM c).toArray:=by
    intro p hp
    obtain⟨h1,c,hc2⟩:=hrows7 p hp
    have hlp:p<w7.heap.size:=aM (i:=0) (by rw[hc2];simp[jM])
    exact⟨h1,c,(b8.row hlp (by omega)).trans hc2⟩
   have Br8:Below w.heap.size w w8:=Br7.trans ((b8.mono (by omega)).below gS)
   have zr8:w5.heap.size<=w8.heap.size:=by omega
   have H1:=h_ hown8
   have H2:=h_ hrows8
   have H3:=h_ r8
   clear hown8 hrows8 r8 hrows7 hown7 hown7' rP7 hne rS6 rP6 rS hown HRW HOW hk7 b7 b6 z6 z7 b8 z8 Br7 zr7 HZ6 HL hbase
   go_wp2_with fail
   (try rw[hw8])
   (try clear hw8)
   go_roundw
   case rel=>exact⟨k+1,pa7,pc7,ps++[wr.heap.size],by omega,by simp,by rw[List.length_append,hpl];rfl,H3.out,H1.out,H2.out,zr8,Br8⟩
   case measure=>simp[intOf];omega
  ·obtain rfl:k=costs.length:=by omega
   have hltI:¬(costs.length:Int)<(costs.length:Int):=by omega
   have T0:SpT wr w.heap.size w4.heap.size ⟨id,Vector.replicate 8 0,Vector.replicate 8 0,ma,he,de,0,0,0,pa,pc,ps⟩:=by
    refine⟨gS,by rw[rS,<-hpl];unfold SpD.cells;rw[nO],?_,?_,fun p hp=>?_⟩
    ·rw[hpl];exact hown.lowr (by omega)
    ·rw[hpl];intro e;have:=(hown.blk e).1;omega
    ·obtain⟨h1,c,hc2⟩:=hrows p hp
     exact⟨by omega,by omega,c,hc2⟩
   have HT:=h_ T0
   clear T0 rS hown hrows
   go_wp2_with fail
   refine(wZ wr HT.out (by show ps.length<=32;omega)).mono ?_
   rintro e w6 ⟨⟨v,rfl⟩,T6,b6⟩
   have B6:Below w.heap.size w w6:=Br.trans ((b6.mono (by omega)).below gS)
   go_wp2_with fail
   go_ret2
   exact⟨w4.heap.size,_,rfl,T6,hpl,rfl,rfl,rfl,rfl,B6⟩
end
end
end Go.Proofs.YtiagbbknkdgmeaaGreat
