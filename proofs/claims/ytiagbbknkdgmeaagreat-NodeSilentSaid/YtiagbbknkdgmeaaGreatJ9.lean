/- Texts of this proof, merged: SilA, SpnT. -/
import Derived.Test.YtiagbbknkdgmeaaGreatJ6
import Derived.Test.YtiagbbknkdgmeaaGreatJ8
import Derived.BigQuiet
set_option linter.unusedSimpArgs false
set_option linter.unusedVariables false
set_option maxHeartbeats 8000000
set_option maxRecDepth 20000
namespace Go.Proofs.YtiagbbknkdgmeaaGreat
section
open Go.RowKit
structure Act25 where
 d:Nat
 port:Int
 s:List UInt8
def aBX (x:Act25):List Value:=[Value.int .u8 (x.d:Int),Value.int .i64 x.port,Value.string ⟨x.s.toArray⟩]
def Acts25 (w:World) (a:Option Addr) (l:List Act25):Prop:=ElemsAt w a 3 (l.map aBX)
theorem Acts25.below {w w':World} {a:Option Addr} {l:List Act25} (h:Acts25 w a l) (hb:Below w.heap.size w w'):Acts25 w' a l:=ElemsAt.below h hb
theorem Acts25.get {w:World} {a:Option Addr} {l:List Act25} (h:Acts25 w a l) {k:Nat} (hk:k<l.length):∃b off,a=some ⟨b,off,none⟩/\b<w.heap.size/\∀W,Below w.heap.size w W->W.rangeAt b (off+k*3) (aBX l[k]):=by
 obtain⟨b,off,e,hb,hr⟩:=h.2 k (aBX l[k]) (by rw[List.getElem?_map,List.getElem?_eq_getElem hk];rfl)
 exact⟨b,off,e,hb,fun W hW=>hr W (gV hW hb)⟩
theorem aFy:tM Tryz.prog 48 ([.int .u8]++([.int .i64]++([.str]++[]))):=
 aCn [(5,[.int .u8]),(3,[.int .i64]),(9,[.str])]
  (by
   intro p hp
   simp only[List.mem_cons,List.not_mem_nil,or_false]at hp
   rcases hp with rfl | rfl | rfl
   ·exact sS Tryz.underlying5 kr_
   ·exact sS Tryz.underlying3 kr_
   ·exact aIi Tryz.underlying9 kr_) Tryz.underlying48 kr_ kr_
theorem aBY:∀(l:List (List Value)),(∀y∈l,gP ([.int .u8]++([.int .i64]++([.str]++[]))) y)->∃acts:List Act25,l=acts.map aBX/\(∀a∈acts,a.s.length<=maxLen)/\∀a∈acts,a.d<256
 | [],_=>⟨[],rfl,by simp,by simp⟩
 | y::l,h=>by
  obtain⟨xs,ha,hs,hd⟩:=aBY l fun z hz=>h z (by simp[hz])
  have h1:=h y (by simp)
  simp only[List.cons_append,List.nil_append]at h1
  obtain⟨d,r1,e1,k1,h2⟩:=tJ h1
  obtain⟨p,r2,e2,_,h4⟩:=tJ h2
  obtain⟨s,r4,e4,k4,h5⟩:=aF5 h4
  have e5:=tH h5
  have k2:0<=d/\d<=255:=by simpa[IntKind.has,IntKind.min,IntKind.max,IntKind.bits,IntKind.signed]using k1
  refine⟨⟨d.toNat,p,s.toList⟩::xs,?_,?_,?_⟩
  ·rw[ha,e1,e2,e4,e5,List.map_cons]
   have:((d.toNat:Nat):Int)=d:=Int.toNat_of_nonneg k2.1
   simp[aBX,this]
  ·intro a h
   rcases List.mem_cons.1 h with rfl | h
   ·simpa using k4
   ·exact hs a h
  ·intro a h
   rcases List.mem_cons.1 h with rfl | h
   ·dsimp only;omega
   ·exact hd a h
def aBZ (acts:List Act25) (w:World) (e:Ending) (w':World):Prop:=(∃b,e=.returned (.bool b)/\(b=true->acts.length<=40/\∀a∈acts,a.s.length<=2000))/\w'=w
theorem aHH (aa:Option Addr) (acap:Nat) (acts:List Act25) (w:World) (ha:Acts25 w aa acts) (hs:∀a∈acts,a.s.length<=maxLen):
  Calls Tryz.prog 5 #[.slice aa acts.length acap] w fun e w'=>aBZ acts w e w':=by
 have am:=ha.1
 rw[List.length_map]at am
 have am2:(acts.length:Int)<=9223372036854775807:=by unfold maxLen at am;omega
 go_enter Tryz.func5,Tryz.ntmps5
 go_wp2_with fail
 go_loopw [3] (fun i wr=>∃k:Nat,k<=acts.length/\k<=41/\i=.int .i64 k/\Hid (∀a∈acts.take k,a.s.length<=2000)/\wr=w) (fun i _=>41 - (intOf i).toNat)
 case atStart=>exact⟨0,by omega,by omega,rfl,h_ (by simp),rfl⟩
 case round=>
  obtain⟨k,hk,hk41,rfl,HALL,rfl⟩:=hrel
  by_cases h1:k<acts.length
  ·have h1I:(k:Int)<(acts.length:Int):=by omega
   by_cases h2:k<=40
   ·have h2I:(k:Int)<=40:=by omega
    obtain⟨b,off,rfl,hb,hrange⟩:=ha.get h1
    obtain⟨x,hx⟩:∃x,acts[k]=x:=⟨_,rfl⟩
    rw[hx]at hrange
    obtain⟨o,ho⟩:∃o,off+k*3=o:=⟨_,rfl⟩
    rw[ho]at hrange
    have hc:wr.cell? ⟨b,o+2,none⟩=some (.string ⟨x.s.toArray⟩):=hrange wr (Below.refl _ _) 2 _ rfl
    have hxm:x∈acts:=by rw[<-hx];exact List.getElem_mem _
    have htk:acts.take (k+1)=acts.take k++[x]:=by rw[List.take_succ_eq_append_getElem h1,hx]
    have HTK:=h_ htk
    have HX:=h_ hx
    have hsx:=hs x hxm
    have hsxI:(x.s.length:Int)<=9223372036854775807:=by unfold maxLen at hsx;omega
    clear hrange htk hx hsx
    by_cases h3:x.s.length<=2000
    ·have h3I:¬(2000:Int)<(x.s.length:Int):=by omega
     go_wp2_with fail
     go_roundw
     case rel=>
      refine⟨k+1,by omega,by omega,by simp,h_ ?_,by first | rfl | trivial⟩
      rw[HTK.out]
      intro a ha
      rcases List.mem_append.1 ha with ha | ha
      ·exact HALL.out a ha
      ·rw[List.mem_singleton.1 ha];exact h3
     case measure=>simp[intOf];omega
    ·have h3I:(2000:Int)<(x.s.length:Int):=by omega
     go_wp2_with fail
     go_ret
     exact(show aBZ _ _ _ _ from ⟨⟨false,rfl,fun h=>by cases h⟩,rfl⟩)
   ·have h2I:¬(k:Int)<=40:=by omega
    have hlen:¬(acts.length:Int)<=40:=by omega
    go_wp2_with fail
    go_ret
    exact(show aBZ _ _ _ _ from ⟨⟨false,rfl,fun h=>by cases h⟩,rfl⟩)
  ·obtain rfl:k=acts.length:=by omega
   have h1I:¬(acts.length:Int)<(acts.length:Int):=by omega
   have hall:=HALL.out
   rw[List.take_of_length_le (Nat.le_refl _)]at hall
   have HALL:=h_ hall
   clear hall
   by_cases h4:acts.length<=40
   ·have h4I:(acts.length:Int)<=40:=by omega
    go_wp2_with fail
    go_ret
    exact(show aBZ _ _ _ _ from ⟨⟨true,rfl,fun _=>⟨h4,HALL.out⟩⟩,rfl⟩)
   ·have h4I:¬(acts.length:Int)<=40:=by omega
    go_wp2_with fail
    go_ret
    exact(show aBZ _ _ _ _ from ⟨⟨false,rfl,fun h=>by cases h⟩,rfl⟩)
end
section
open Go.RowKit
theorem SpT.set {w w':World} {B S:Nat} {s s':SpD} (h:SpT w B S s) (hb:BelowBut w.heap.size S w w') (hr:row w' S=s'.cells.toArray) (hp:s'.pa=s.pa) (hc:s'.cap=s.cap) (hs:s'.ps=s.ps):SpT w' B S s':=by
 refine⟨h.lo,hr,?_,?_,?_⟩
 ·rw[hp,hc,hs];exact h.own.keep fun k hk=>hb.block k (h.own.blk hk).2.1 fun e=>h.sep (e▸hk)
 ·rw[hp,hc,hs];exact h.sep
 ·intro p hpm
  rw[hs]at hpm
  obtain⟨h1,h2,c,hc2⟩:=h.rows p hpm
  exact⟨h1,h2,c,(hb.row (h.ltp p hpm) h2).trans hc2⟩
section
variable (w:World) {B S:Nat} {s:SpD} (h:SpT w B S s) (hn:s.ps.length<=32)
include h hn
theorem aHI:Calls Tryz.prog 54 #[.pointer (some ⟨S,0,none⟩)] w fun e w'=>e=.returned (.tuple #[])/\w'=w:=by
 have hS:=h.rS
 unfold SpD.cells at hS
 obtain⟨n,hne⟩:∃n,s.ps.length=n:=⟨_,rfl⟩
 rw[hne]at hS hn
 have HH:=h_ h
 have HN:=h_ hne
 clear h hne
 go_enter Tryz.func54,Tryz.ntmps54
 go_wp2_with fail
 go_loopw [9] (fun i wr=>∃k:Nat,k<=n/\i=.int .i64 k/\wr=w) (fun i _=>n - (intOf i).toNat)
 case atStart=>exact⟨0,by omega,rfl,rfl⟩
 case round=>
  obtain⟨k,hk,rfl,rfl⟩:=hrel
  by_cases hlt:k<n
  ·have hltI:(k:Int)<(n:Int):=by omega
   obtain⟨b,off,c,p,hpa,hb,hc,hr,_⟩:=HH.out.get (show k<s.ps.length by rw[HN.out];exact hlt)
   rw[hpa]at hS ⊢
   unfold jM at hr
   clear hpa
   go_wp2_with fail
   go_roundw
   case rel=>exact⟨k+1,by omega,by simp,by first | rfl | trivial⟩
   case measure=>simp[intOf];omega
  ·obtain rfl:k=n:=by omega
   have hltI:¬(k:Int)<(k:Int):=by omega
   go_wp2_with fail
   go_end0
   exact⟨rfl,rfl⟩
omit hn in
theorem aJs:Calls Tryz.prog 88 #[.pointer (some ⟨S,0,none⟩)] w fun e w'=>e=.returned (.tuple #[.int .i64 0,.bool true])/\w'=w:=by
 have hS:=h.rS
 unfold SpD.cells at hS
 obtain⟨n,hne⟩:∃n,s.ps.length=n:=⟨_,rfl⟩
 rw[hne]at hS
 clear h hne
 go_enter Tryz.func88,Tryz.ntmps88
 go_wp2_with fail
 go_ret2
 exact⟨rfl,rfl⟩
theorem aK5 (f:Value):Calls Tryz.prog 56 #[.pointer (some ⟨S,0,none⟩),f] w fun e w'=>e=.returned (.slice none 0 0)/\w'=w:=by
 have hS:=h.rS
 unfold SpD.cells at hS
 obtain⟨n,hne⟩:∃n,s.ps.length=n:=⟨_,rfl⟩
 rw[hne]at hS hn
 have HH:=h_ h
 have HN:=h_ hne
 have HA:=h_ (aJs w h)
 clear h hne
 go_enter Tryz.func56,Tryz.ntmps56
 go_wp2_with fail
 (with_reducible refine HA.out.mono ?_)
 rintro e wz ⟨rfl,hz⟩
 obtain rfl:=hz.symm
 clear hz
 go_wp2_with fail
 go_loopw [7,23] (fun v i wr=>∃k:Nat,k<=n/\v=.slice none 0 0/\i=.int .i64 k/\wr=w) (fun _ i _=>n - (intOf i).toNat)
 case atStart=>exact⟨0,by omega,rfl,rfl,rfl⟩
 case round=>
  obtain⟨k,hk,rfl,rfl,rfl⟩:=hrel
  by_cases hlt:k<n
  ·have hltI:(k:Int)<(n:Int):=by omega
   obtain⟨b,off,c,p,hpa,hb,hc,hr,_⟩:=HH.out.get (show k<s.ps.length by rw[HN.out];exact hlt)
   rw[hpa]at hS ⊢
   unfold jM at hr
   clear hpa
   go_wp2_with fail
   go_roundw
   case rel=>exact⟨k+1,by omega,rfl,by simp,by first | rfl | trivial⟩
   case measure=>simp[intOf];omega
  ·obtain rfl:k=n:=by omega
   have hltI:¬(k:Int)<(k:Int):=by omega
   go_wp2_with fail
   go_ret
   exact⟨rfl,rfl⟩
theorem aDm (hnow:0<=s.now/\s.now<=100000000) (hhe:1<=s.he/\s.he<=1000):Calls Tryz.prog 25 #[.pointer (some ⟨S,0,none⟩)] w fun e w'=>e=.returned (.slice none 0 0)/\SpT w' B S {s.found with now:=s.now+1}/\BelowBut w.heap.size S w w':=by
 have zS:=h.lt
 have hS:=h.rS
 have hw1:wrap64 (s.now+1)=s.now+1:=by unfold wrap64;omega
 obtain⟨n,hne⟩:∃n,s.ps.length=n:=⟨_,rfl⟩
 obtain⟨w2,hw2⟩:∃x,w.setRow S (({s with now:=s.now+1}:SpD).cells.toArray)=x:=⟨_,rfl⟩
 have b2:BelowBut w.heap.size S w w2:=by rw[<-hw2];exact BelowBut.set _ _
 have r2:row w2 S=({s with now:=s.now+1}:SpD).cells.toArray:=by rw[<-hw2];exact aB (by rw[hS];simp[SpD.cells]) (by rw[hS];simp[SpD.cells])
 have T2:SpT w2 B S {s with now:=s.now+1}:=h.set b2 r2 rfl rfl rfl
 unfold SpD.cells at hS hw2
 dsimp only at hw2
 rw[hne]at hS hw2
 have HT2:=h_ T2
 have HN:=h_ hne
 have HB2:=h_ b2
 have hl2:({s with now:=s.now+1}:SpD).ps.length<=32:=hn
 have HL2:=h_ hl2
 clear h T2 b2 r2 hne hl2 hn
 go_enter Tryz.func25,Tryz.ntmps25
 go_wp2_with fail
 (try rw[hw2])
 clear hw2 hS
 (with_reducible refine(aHI w2 HT2.out HL2.out).mono ?_)
 rintro e wz ⟨rfl,hz⟩
 obtain rfl:=hz.symm
 clear hz
 go_wp2_with fail
 (with_reducible refine(wZ w2 HT2.out HL2.out).mono ?_)
 rintro e w3 ⟨⟨v3,rfl⟩,T3,b3⟩
 have hS3:=T3.rS
 unfold SpD.cells SpD.found at hS3
 dsimp only at hS3
 rw[HN.out]at hS3
 have zS3:S<w3.heap.size:=T3.lt
 have HT3:=h_ T3
 have HB3:=h_ (HB2.out.trans (b3.mono HB2.out.size))
 have hn:=HL2.out
 replace hn:s.ps.length<=32:=hn
 rw[HN.out]at hn
 clear T3 b3
 go_wp2_with fail
 go_loopw [23] (fun i wr=>∃k:Nat,k<=n/\i=.int .i64 k/\Below w3.heap.size w3 wr) (fun i _=>n - (intOf i).toNat)
 case atStart=>exact⟨0,by omega,rfl,Below.refl _ _⟩
 case round=>
  obtain⟨k,hk,rfl,cb⟩:=hrel
  have hSr:=(aA cb zS3).trans hS3
  have hTr:=HT3.out.below cb
  by_cases hlt:k<n
  ·have hltI:(k:Int)<(n:Int):=by omega
   obtain⟨b,off,c,p,hpa,hb,hc,hr,_⟩:=hTr.get (show k<_ from by show k<s.ps.length;rw[HN.out];exact hlt)
   have hpa2:s.pa=some ⟨b,off,none⟩:=hpa
   rw[hpa2]at hSr ⊢
   unfold jM at hr
   clear hpa hpa2 hTr
   go_wp2_with fail
   go_quiet (fail)
   go_wp2_with fail
   go_roundw
   case rel=>exact⟨k+1,by omega,by simp,below_drewN cb _⟩
   case measure=>simp[intOf];omega
  ·obtain rfl:k=n:=by omega
   have hltI:¬(k:Int)<(k:Int):=by omega
   have hh:s.he≠0:=by omega
   have hh2:(s.he==0)=false:=by simpa using hh
   go_wp2_with fail
   go_quiet (fail)
   go_wp2_with fail
   all_goals
    have cbn:=below_drewN cb nq
    have hTn:=HT3.out.below cbn
    have HTN:=h_ hTn
    have hl3:(SpD.found {s with now:=s.now+1}).ps.length<=32:=by unfold SpD.found;exact HL2.out
    have hod:=aK5 _ hTn hl3 (.func (.func 57) #[] #[])
    first
    |
     (with_reducible refine hod.mono ?_)
     rintro e wz ⟨rfl,hz⟩
     obtain rfl:=hz.symm
     clear hz hTn hod hl3
     go_wp2_with fail
     go_ret
     exact⟨rfl,HTN.out,HB3.out.trans (BelowBut.of (cbn.mono HB3.out.size))⟩
    |
     clear hTn hod hl3
     go_ret
     exact⟨rfl,HTN.out,HB3.out.trans (BelowBut.of (cbn.mono HB3.out.size))⟩
end
end
end Go.Proofs.YtiagbbknkdgmeaaGreat
