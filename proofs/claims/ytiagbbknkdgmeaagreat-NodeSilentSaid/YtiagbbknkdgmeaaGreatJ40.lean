/- Texts of this proof, merged: NodU, RlyU. -/
import Derived.Test.YtiagbbknkdgmeaaGreatJ21
set_option linter.unusedSimpArgs false
set_option linter.unusedVariables false
set_option maxHeartbeats 8000000
set_option maxRecDepth 20000
namespace Go.Proofs.YtiagbbknkdgmeaaGreat
section
open Go.RowKit
theorem ElemsOff.agree {S:List Nat} {w w':World} {a:Option Addr} {sz:Nat} {l:List (List Value)} (h:ElemsOff S w a sz l) (hz:w.heap.size<=w'.heap.size) (hb:∀k,k∉S->k<w.heap.size->w'.heap[k]? =w.heap[k]?):ElemsOff S w' a sz l:=by
 refine⟨h.1,fun i x hx=>?_⟩
 obtain⟨b,off,e,hl,hn,hr⟩:=h.2 i x hx
 exact⟨b,off,e,Nat.lt_of_lt_of_le hl hz,hn,fun W hW=>hr W (hW.trans (hb b hn hl))⟩
theorem PortsOff.agree {S:List Nat} {w w':World} {pa:Option Addr} {ps:List PortD} (h:PortsOff S w pa ps) (hz:w.heap.size<=w'.heap.size) (hb:∀k,k∉S->k<w.heap.size->w'.heap[k]? =w.heap[k]?):PortsOff S w' pa ps:=by
 refine⟨h.1,fun i p hp=>?_⟩
 obtain⟨b,off,ta,cap,e,hl,hn,hr,ht⟩:=h.2 i p hp
 exact⟨b,off,ta,cap,e,Nat.lt_of_lt_of_le hl hz,hn,fun W hW=>hr W (hW.trans (hb b hn hl)),ht.agree hz hb⟩
def nC (E:Nat) (w:World):World:={w with heap:=w.heap.extract 0 E}
theorem cP {E:Nat} {w:World} (h:E<=w.heap.size):(nC E w).heap.size=E:=by
 unfold nC
 simp
 omega
theorem f8 {E:Nat} {w:World} {k:Nat} (hk:k<E):(nC E w).heap[k]? =w.heap[k]? :=by
 unfold nC
 show(w.heap.extract 0 E)[k]? =_
 rw[Array.getElem?_extract]
 simp
 intro h
 omega
theorem oP (w:World):nC w.heap.size w=w:=by
 unfold nC
 simp
theorem BelowS.cut {E:Nat} {S:List Nat} {w w':World} (h:BelowS E S w w') (hE:E<=w.heap.size):BelowS (nC E w).heap.size S (nC E w) (nC E w'):=by
 have:=h.size
 refine⟨h.os,h.tape,h.output,by rw[cP hE,cP (by omega)];exact Nat.le_refl _,fun k hk hn=>?_⟩
 rw[cP hE]at hk
 rw[f8 hk,f8 hk]
 exact h.block k hk hn
theorem BelowS.uncut {E:Nat} {S:List Nat} {w:World} (hE:E<=w.heap.size):BelowS (nC E w).heap.size S (nC E w) w:=by
 refine⟨rfl,rfl,rfl,by rw[cP hE];exact hE,fun k hk _=>?_⟩
 rw[cP hE]at hk
 exact(f8 hk).symm
structure BrL (D:Nat) (w:World) (A:BrA) (ps:List PortD):Prop where
 le:D<=w.heap.size
 lims:ElemsOff A.offs (nC D w) A.la 1 ((ps.map (·.lim)).map fun v=>[Value.int .i64 v])
 ports:PortsOff A.offs (nC D w) A.pa ps
theorem BrT.brL {w:World} {A:BrA} {s:BrS} (h:BrT w A s):BrL w.heap.size w A s.ports:=⟨Nat.le_refl _,by rw[oP];exact h.lims,by rw[oP];exact h.ports⟩
theorem BrL.kept {D:Nat} {w w':World} {A:BrA} {ps:List PortD} (h:BrL D w A ps) (hz:w.heap.size<=w'.heap.size) (hb:∀k,k<D->k∉A.offs->w'.heap[k]? =w.heap[k]?):BrL D w' A ps:=by
 have hl:=h.le
 have e1:=cP hl
 have e2:=cP (w:=w') (Nat.le_trans hl hz)
 refine⟨Nat.le_trans hl hz,h.lims.agree (by omega) fun k hn hk=>?_,h.ports.agree (by omega) fun k hn hk=>?_⟩
 all_goals
  rw[e1]at hk
  rw[f8 hk,f8 hk]
  exact hb k hk hn
theorem BrT.swap {D:Nat} {w w':World} {A:BrA} {s:BrS} (h:BrT w A s) (hl:BrL D w' A s.ports) (hp:∀b∈[A.B,A.SB,A.LT,A.LM,A.HT,A.HM],w'.heap[b]? =w.heap[b]?):BrT w' A s:=by
 have e1:=cP hl.le
 refine⟨(aJ (hp A.B (by simp))).trans h.rB,(aJ (hp A.SB (by simp))).trans h.rS,
  ⟨(aJ (hp A.LT (by simp))).trans h.ler.row,(bD (hp A.LM (by simp))).2 h.ler.ok,(bQ (hp A.LM (by simp))).trans h.ler.map⟩,
  ⟨(aJ (hp A.HT (by simp))).trans h.hush.row,(bD (hp A.HM (by simp))).2 h.hush.ok,(bQ (hp A.HM (by simp))).trans h.hush.map⟩,hl.lims.agree (by have:=hl.le;omega) fun k _ hk=>?_,hl.ports.agree (by have:=hl.le;omega) fun k _ hk=>?_,h.dist,h.lenS,h.pos⟩
 all_goals
  rw[e1]at hk
  exact(f8 hk).symm
end
section
open Go.RowKit Go.Shelf
theorem aMf {c:LB} {v:Int} {mac:Vector UInt8 6} (h:c.is v mac=true):v=c.v/\mac=c.mac:=by
 unfold LB.is at h
 simpa[Bool.and_eq_true,beq_iff_eq]using h
theorem aBV (c:LB):∀{m:List LB},fJ m->fJ (aAE c m)
 | [],_=>by unfold aAE fJ;simp
 | d::m,h=>by
  rw[fJ,List.pairwise_cons]at h
  rw[aAE]
  by_cases hc:d.is c.v c.mac=true
  ·rw[if_pos hc,fJ,List.pairwise_cons]
   refine⟨fun b hb=>?_,h.2⟩
   have h1:=h.1 b hb
   obtain⟨e1,e2⟩:=aMf hc
   unfold LB.is at h1 ⊢
   rw[e1,e2]
   exact h1
  ·rw[if_neg hc,fJ,List.pairwise_cons]
   refine⟨fun b hb=>?_,aBV c h.2⟩
   rcases aAa hb with rfl | hb
   ·exact Bool.eq_false_iff.2 hc
   ·exact h.1 b hb
theorem aEd (c:LB):∀m:List LB,(aAE c m).length<=m.length+1
 | []=>by simp[aAE]
 | d::m=>by
  have h1:=aEd c m
  rw[aAE]
  by_cases hc:d.is c.v c.mac=true
  ·rw[if_pos hc];simp
  ·rw[if_neg hc];simp;omega
theorem aFp {lim v:Int} {mac:Vector UInt8 6} {port:Int} {m:List LB} (h:fJ m):fJ (j6 lim v mac port m):=by
 unfold j6
 generalize ((match j5 v mac m with | some b=>b.port==port | none=>false)||decide ((onL port m:Int)<lim))=b
 cases b
 ·exact h
 ·exact aBV _ h
theorem aHF {lim v:Int} {mac:Vector UInt8 6} {port:Int} {m:List LB}:(j6 lim v mac port m).length<=m.length+1:=by
 unfold j6
 generalize ((match j5 v mac m with | some b=>b.port==port | none=>false)||decide ((onL port m:Int)<lim))=b
 cases b
 ·exact Nat.le_succ _
 ·exact aEd _ m
theorem aJn {time:Int} {a x:LB} (h:aIn time a=some x):x.v=a.v/\x.mac=a.mac/\x.port=a.port/\x.age=a.age+1/\a.age+1<time:=by
 unfold aIn at h
 split at h
 ·cases h
 ·cases h
  exact⟨rfl,rfl,rfl,rfl,by omega⟩
theorem aFq (time:Int) {m:List LB} (h:fJ m):fJ (yS time m):=by
 unfold fJ yS at *
 rw[List.pairwise_filterMap]
 refine h.imp fun {a b} hab x hx y hy=>?_
 obtain⟨h1,h2,_⟩:=aJn hx
 obtain⟨h3,h4,_⟩:=aJn hy
 unfold LB.is at *
 rw[h1,h2,h3,h4]
 exact hab
def aKZ (s:BrS):BrS:={s with st:=yS s.ageing s.st,bi:=aBg s.ageing s.bi}
theorem aFr {s:BrS} {N:Nat} (g:BrG s N):BrG (aKZ s) N:=by
 refine⟨g.n32,aFq _ g.std,fun b hb=>?_,Nat.le_trans (List.length_filterMap_le _ _) g.stn,fun b hb=>?_,aGw _ g.bid,aIy g.age.2 g.bia,Nat.le_trans (List.length_filterMap_le _ _) g.bin,g.cs,g.age⟩
 ·obtain⟨a,ha,hab⟩:=List.mem_filterMap.1 hb
  obtain⟨_,_,e,_⟩:=aJn hab
  obtain⟨j,h1,h2⟩:=g.stp a ha
  exact⟨j,e.trans h1,h2⟩
 ·obtain⟨a,ha,hab⟩:=List.mem_filterMap.1 hb
  obtain⟨_,_,_,e,hlt⟩:=aJn hab
  have:=g.sta a ha
  have:=g.age.2
  omega
theorem BrG.more {s:BrS} {N M:Nat} (g:BrG s N) (h:N<=M):BrG s M:=
 ⟨g.n32,g.std,g.stp,Nat.le_trans g.stn h,g.sta,g.bid,g.bia,g.bin,by obtain⟨h0,h1,h2,h3,h4⟩:=g.cs;omega,g.age⟩
theorem aFs {s:BrS} {N:Nat} (g:BrG s N) {k:Nat} (hk:k<s.ports.length) (d:EthD) (t:TalkD):BrG (vY s k d t).1 (N+1):=by
 obtain⟨h0,h1,h2,h3,h4⟩:=g.cs
 have hst:∀v:Int,fJ (j6 (s.port k).lim v d.src k s.st)/\(∀b∈j6 (s.port k).lim v d.src k s.st,∃j:Nat,b.port=(j:Int)/\j<s.ports.length)/\(j6 (s.port k).lim v d.src k s.st).length<=N+1/\(∀b∈j6 (s.port k).lim v d.src k s.st,0<=b.age/\b.age<=1000000):=fun v=>by
  refine⟨aFp g.std,xR g rfl hk,Nat.le_trans aHF (by have:=g.stn;omega),fun b hb=>?_⟩
  rcases aDY hb with e | e
  ·rw[e];exact⟨by simp,by simp⟩
  ·exact g.sta b e
 have hn:=g.stn
 unfold vY
 split
 ·exact⟨g.n32,g.std,g.stp,by show s.st.length<=N+1;omega,g.sta,g.bid,g.bia,g.bin,by dsimp only;omega,g.age⟩
 ·split
  ·exact⟨g.n32,g.std,g.stp,by show s.st.length<=N+1;omega,g.sta,g.bid,g.bia,g.bin,by dsimp only;omega,g.age⟩
  ·split
   ·exact⟨g.n32,g.std,g.stp,by show s.st.length<=N+1;omega,g.sta,g.bid,g.bia,g.bin,by dsimp only;omega,g.age⟩
   ·dsimp only
    obtain⟨q1,q2,q3,q4⟩:=hst (inP (s.port k).native (s.port k).tagged d.vlan).1
    split
    ·exact⟨g.n32,q1,q2,q3,q4,g.bid,g.bia,g.bin,by dsimp only;omega,g.age⟩
    ·split
     ·exact⟨g.n32,q1,q2,q3,q4,xK g.bid,aBv g.bia,aBw g.bin,by dsimp only;omega,g.age⟩
     ·exact⟨g.n32,q1,q2,q3,q4,xK g.bid,aBv g.bia,aBw g.bin,by dsimp only;omega,g.age⟩
theorem aFt {s:BrS} {N:Nat} (g:BrG s N) {k:Nat} (hk:k<s.ports.length) (l:List UInt8) (t:TalkD):BrG (e9 s k l t).1 (N+1):=by
 obtain⟨h0,h1,h2,h3,h4⟩:=g.cs
 have hn:=g.stn
 unfold e9
 split
 ·exact⟨g.n32,g.std,g.stp,by show s.st.length<=N+1;omega,g.sta,g.bid,g.bia,g.bin,by dsimp only;omega,g.age⟩
 ·exact aFs g hk _ t
theorem aDj (s:BrS) (k:Nat) (d:EthD) (t:TalkD):(vY s k d t).1.ports=s.ports/\(vY s k d t).1.states=s.states/\(vY s k d t).1.ageing=s.ageing:=by
 unfold vY
 split
 ·exact⟨rfl,rfl,rfl⟩
 ·split
  ·exact⟨rfl,rfl,rfl⟩
  ·split
   ·exact⟨rfl,rfl,rfl⟩
   ·dsimp only
    split
    ·exact⟨rfl,rfl,rfl⟩
    ·split<;>exact⟨rfl,rfl,rfl⟩
theorem aDk (s:BrS) (k:Nat) (l:List UInt8) (t:TalkD):(e9 s k l t).1.ports=s.ports/\(e9 s k l t).1.states=s.states/\(e9 s k l t).1.ageing=s.ageing:=by
 unfold e9
 split
 ·exact⟨rfl,rfl,rfl⟩
 ·exact aDj s k _ t
end
end Go.Proofs.YtiagbbknkdgmeaaGreat
