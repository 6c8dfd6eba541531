/- Texts of this proof, merged: RlyT, RlyS, RlyM, RlyP, RlyR, RlyC, RlyD. -/
import Derived.Test.YtiagbbknkdgmeaaGreatJ18
import Derived.Test.YtiagbbknkdgmeaaGreatJ7
import Derived.Test.YtiagbbknkdgmeaaGreatJ20
import Derived.Test.YtiagbbknkdgmeaaGreatJ15
import Derived.Test.YtiagbbknkdgmeaaGreatJ17
set_option linter.unusedSimpArgs false
set_option linter.unusedVariables false
set_option maxHeartbeats 8000000
set_option maxRecDepth 20000
namespace Go.Proofs.YtiagbbknkdgmeaaGreat
section
open Go.RowKit Go.Shelf
section
variable {P:Program} {ops:Array Oper} {Q:Exit->Act->World->Prop} {md:Region.Mode} {S S2:World->Prop}
end
structure PortD where
 native:Int
 tagged:List Int
 hor:Int
 lim:Int
def PortsOff (S:List Nat) (w:World) (pa:Option Addr) (ps:List PortD):Prop:=
 ps.length<=maxLen/\∀(i:Nat) (p:PortD),ps[i]? =some p->∃b off ta cap,pa=some ⟨b,off,none⟩/\b<w.heap.size/\b∉S/\
  (∀W,blk W b=blk w b->W.rangeAt b (off+i*4) [Value.int .i64 p.native,Value.slice ta p.tagged.length cap,Value.int .i64 p.hor,Value.int .i64 p.lim])/\
  ElemsOff S w ta 1 (p.tagged.map fun v=>[Value.int .i64 v])
theorem PortsOff.kept {S:List Nat} {w w':World} {pa:Option Addr} {ps:List PortD} (h:PortsOff S w pa ps) (hb:BelowS w.heap.size S w w'):PortsOff S w' pa ps:=by
 refine⟨h.1,fun i p hp=>?_⟩
 obtain⟨b,off,ta,cap,e,hl,hn,hr,ht⟩:=h.2 i p hp
 exact⟨b,off,ta,cap,e,Nat.lt_of_lt_of_le hl hb.size,hn,fun W hW=>hr W (hW.trans (hb.block b hl hn)),ht.kept hb⟩
theorem PortsOff.below {S:List Nat} {w w':World} {pa:Option Addr} {ps:List PortD} (h:PortsOff S w pa ps) (hb:Below w.heap.size w w'):PortsOff S w' pa ps:=h.kept (BelowS.of hb)
structure BrA where
 B:Nat
 SB:Nat
 LT:Nat
 LM:Nat
 HT:Nat
 HM:Nat
 pa:Option Addr
 pcap:Nat
 la:Option Addr
 lcap:Nat
 ex:List Nat
def BrA.muts (A:BrA):List Nat:=[A.B,A.SB,A.LM,A.HM]
def BrA.offs (A:BrA):List Nat:=A.muts++A.ex
theorem BelowS.offs {B:Nat} {A:BrA} {w w':World} (h:BelowS B A.muts w w'):BelowS B A.offs w w':=⟨h.os,h.tape,h.output,h.size,fun k hk hn=>h.block k hk fun hm=>hn (List.mem_append_left _ hm)⟩
structure BrS where
 ports:List PortD
 ageing:Int
 states:List Int
 st:List LB
 bi:List HB
 c0:Int
 c1:Int
 c2:Int
 c3:Int
 c4:Int
def ints (l:List Int):Array Value:=(l.map (Value.int .i64)).toArray
def eR (A:BrA) (s:BrS):Array Value:=#[.slice A.pa s.ports.length A.pcap,.slice (some ⟨A.SB,0,none⟩) s.ports.length s.ports.length,.pointer (some ⟨A.LT,0,none⟩),.pointer (some ⟨A.HT,0,none⟩),.int .i64 s.c0,.int .i64 s.c1,.int .i64 s.c2,.int .i64 s.c3,.int .i64 s.c4]
structure BrT (w:World) (A:BrA) (s:BrS):Prop where
 rB:row w A.B=eR A s
 rS:row w A.SB=ints s.states
 ler:LerT w A.LT A.LM s.ageing (.slice A.la s.ports.length A.lcap) s.st
 hush:HushT w A.HT A.HM s.ageing s.bi
 lims:ElemsOff A.offs w A.la 1 ((s.ports.map (·.lim)).map fun v=>[Value.int .i64 v])
 ports:PortsOff A.offs w A.pa s.ports
 dist:[A.B,A.SB,A.LT,A.LM,A.HT,A.HM].Nodup
 lenS:s.states.length=s.ports.length
 pos:0<s.ports.length
theorem BrT.ltB {w:World} {A:BrA} {s:BrS} (h:BrT w A s):A.B<w.heap.size:=aM (i:=0) (by rw[h.rB];simp[eR])
theorem BrT.ltS {w:World} {A:BrA} {s:BrS} (h:BrT w A s):A.SB<w.heap.size:=aM (i:=0) (by rw[h.rS];simp[ints,h.lenS];exact h.pos)
theorem BrT.ne {w:World} {A:BrA} {s:BrS} (h:BrT w A s):A.B≠A.SB/\A.B≠A.LT/\A.B≠A.LM/\A.B≠A.HT/\A.B≠A.HM/\A.SB≠A.LT/\A.SB≠A.LM/\A.SB≠A.HT/\A.SB≠A.HM/\A.LT≠A.LM/\A.LT≠A.HT/\A.LT≠A.HM/\A.LM≠A.HT/\A.LM≠A.HM/\A.HT≠A.HM:=by
 have:=h.dist
 simp only[List.nodup_cons,List.mem_cons,List.not_mem_nil,or_false,not_or]at this
 omega
theorem BrT.lts {w:World} {A:BrA} {s:BrS} (h:BrT w A s):A.B<w.heap.size/\A.SB<w.heap.size/\A.LT<w.heap.size/\A.LM<w.heap.size/\A.HT<w.heap.size/\A.HM<w.heap.size:=
 ⟨h.ltB,h.ltS,h.ler.lt,h.ler.ok.lt,h.hush.lt,h.hush.ok.lt⟩
theorem BrT.below {w w':World} {A:BrA} {s:BrS} (h:BrT w A s) (hb:Below w.heap.size w w'):BrT w' A s:=by
 obtain⟨l1,l2,l3,l4,l5,l6⟩:=h.lts
 exact⟨(aA hb l1).trans h.rB,(aA hb l2).trans h.rS,h.ler.below hb l3 l4,h.hush.below hb l5 l6,h.lims.below hb,h.ports.below hb,h.dist,h.lenS,h.pos⟩
theorem aCJ (A:BrA) (s:BrS):GrowP fun w=>BrT w A s:=fun w w1 h hb=>h.below hb
theorem BrT.setB {w:World} {A:BrA} {s:BrS} (h:BrT w A s) (d0 d1 d2 d3 d4:Int) (c:Array Value) (hc:c=eR A {s with c0:=d0,c1:=d1,c2:=d2,c3:=d3,c4:=d4}):BrT (w.setRow A.B c) A {s with c0:=d0,c1:=d1,c2:=d2,c3:=d3,c4:=d4}:=by
 obtain⟨n1,n2,n3,n4,n5,_⟩:=h.ne
 have hbs:BelowS w.heap.size A.muts w (w.setRow A.B c):=BelowS.set w _ (by simp[BrA.muts])
 have hs1:0<(row w A.B).size:=by rw[h.rB];simp[eR]
 exact⟨by rw[hc,aB hs1 (by rw[h.rB];simp[eR])],(aC _ _ _ (Ne.symm n1)).trans h.rS,
  ⟨(aC _ _ _ (Ne.symm n2)).trans h.ler.row,fS _ _ _ h.ler.ok,(gT _ _ _ h.ler.ok).trans h.ler.map⟩,
  ⟨(aC _ _ _ (Ne.symm n4)).trans h.hush.row,fS _ _ _ h.hush.ok,(gT _ _ _ h.hush.ok).trans h.hush.map⟩,h.lims.kept hbs.offs,h.ports.kept hbs.offs,h.dist,h.lenS,h.pos⟩
theorem BrT.setS {w:World} {A:BrA} {s:BrS} (h:BrT w A s) (l:List Int) (c:Array Value) (hc:c=ints l) (hl:l.length=s.ports.length):BrT (w.setRow A.SB c) A {s with states:=l}:=by
 obtain⟨n1,n2,n3,n4,n5,m1,m2,m3,m4,_⟩:=h.ne
 have hbs:BelowS w.heap.size A.muts w (w.setRow A.SB c):=BelowS.set w _ (by simp[BrA.muts])
 have hs1:0<(row w A.SB).size:=by rw[h.rS];simp[ints,h.lenS];exact h.pos
 exact⟨(aC _ _ _ n1).trans h.rB,by rw[hc,aB hs1 (by rw[h.rS];simp[ints,hl,h.lenS])],
  ⟨(aC _ _ _ (Ne.symm m1)).trans h.ler.row,fS _ _ _ h.ler.ok,(gT _ _ _ h.ler.ok).trans h.ler.map⟩,
  ⟨(aC _ _ _ (Ne.symm m3)).trans h.hush.row,fS _ _ _ h.hush.ok,(gT _ _ _ h.hush.ok).trans h.hush.map⟩,h.lims.kept hbs.offs,h.ports.kept hbs.offs,h.dist,hl,h.pos⟩
theorem BrT.setL {w w':World} {A:BrA} {s:BrS} (h:BrT w A s) {st:List LB} (hb:BelowBut w.heap.size A.LM w w') (hl:LerT w' A.LT A.LM s.ageing (.slice A.la s.ports.length A.lcap) st):BrT w' A {s with st:=st}:=by
 obtain⟨n1,n2,n3,n4,n5,m1,m2,m3,m4,k1,k2,k3,k4,k5,k6⟩:=h.ne
 obtain⟨l1,l2,l3,l4,l5,l6⟩:=h.lts
 have hbs:BelowS w.heap.size A.muts w w':=BelowS.one hb (by simp[BrA.muts])
 exact⟨(aJ (hb.block _ l1 n3)).trans h.rB,(aJ (hb.block _ l2 m2)).trans h.rS,hl,
  ⟨(aJ (hb.block _ l5 (Ne.symm k4))).trans h.hush.row,aAV hb l6 (Ne.symm k5) h.hush.ok,(aDI hb l6 (Ne.symm k5)).trans h.hush.map⟩,h.lims.kept hbs.offs,h.ports.kept hbs.offs,h.dist,h.lenS,h.pos⟩
theorem BrT.setH {w w':World} {A:BrA} {s:BrS} (h:BrT w A s) {bi:List HB} (hb:BelowBut w.heap.size A.HM w w') (hl:HushT w' A.HT A.HM s.ageing bi):BrT w' A {s with bi:=bi}:=by
 obtain⟨n1,n2,n3,n4,n5,m1,m2,m3,m4,k1,k2,k3,k4,k5,k6⟩:=h.ne
 obtain⟨l1,l2,l3,l4,l5,l6⟩:=h.lts
 have hbs:BelowS w.heap.size A.muts w w':=BelowS.one hb (by simp[BrA.muts])
 exact⟨(aJ (hb.block _ l1 n5)).trans h.rB,(aJ (hb.block _ l2 m4)).trans h.rS,
  ⟨(aJ (hb.block _ l3 k3)).trans h.ler.row,aAV hb l4 k5 h.ler.ok,(aDI hb l4 k5).trans h.ler.map⟩,hl,h.lims.kept hbs.offs,h.ports.kept hbs.offs,h.dist,h.lenS,h.pos⟩
theorem ElemsOff.more {S T:List Nat} {w:World} {a:Option Addr} {sz:Nat} {l:List (List Value)} (h:ElemsOff S w a sz l) (hT:∀x∈T,x∈S∨w.heap.size<=x):ElemsOff T w a sz l:=by
 refine⟨h.1,fun i x hx=>?_⟩
 obtain⟨b,off,e,hl,hn,hr⟩:=h.2 i x hx
 exact⟨b,off,e,hl,fun hm=>(hT b hm).elim hn (fun h=>by omega),hr⟩
theorem BrT.more {w:World} {A:BrA} {s:BrS} (h:BrT w A s) (x:Nat) (hx:w.heap.size<=x):BrT w {A with ex:=x::A.ex} s:=by
 have hT:∀y∈({A with ex:=x::A.ex}:BrA).offs,y∈A.offs∨w.heap.size<=y:=by
  intro y hy
  rcases List.mem_append.1 hy with h1 | h1
  ·exact .inl (List.mem_append_left _ h1)
  ·rcases List.mem_cons.1 h1 with h2 | h2
   ·exact .inr (by omega)
   ·exact .inl (List.mem_append_right _ h2)
 refine⟨h.rB,h.rS,h.ler,h.hush,h.lims.more hT,⟨h.ports.1,fun i p hp=>?_⟩,h.dist,h.lenS,h.pos⟩
 obtain⟨b,off,ta,cap,e,hl,hn,hr,ht⟩:=h.ports.2 i p hp
 exact⟨b,off,ta,cap,e,hl,fun hm=>(hT b hm).elim hn (fun h=>by omega),hr,ht.more hT⟩
theorem BrT.other {w:World} {A:BrA} {s:BrS} (h:BrT w A s) {x:Nat} (hx:x∈A.ex) (hn:∀b∈[A.B,A.SB,A.LT,A.LM,A.HT,A.HM],b≠x) (c:Array Value):BrT (w.setRow x c) A s:=by
 have hbs:BelowS w.heap.size A.offs w (w.setRow x c):=BelowS.set w _ (List.mem_append_right _ hx)
 have e:∀b∈[A.B,A.SB,A.LT,A.LM,A.HT,A.HM],(w.setRow x c).heap[b]? =w.heap[b]? :=fun b hb=>aO _ _ _ (hn b hb)
 exact⟨(aJ (e A.B (by simp))).trans h.rB,(aJ (e A.SB (by simp))).trans h.rS,
  ⟨(aJ (e A.LT (by simp))).trans h.ler.row,(bD (e A.LM (by simp))).2 h.ler.ok,(bQ (e A.LM (by simp))).trans h.ler.map⟩,
  ⟨(aJ (e A.HT (by simp))).trans h.hush.row,(bD (e A.HM (by simp))).2 h.hush.ok,(bQ (e A.HM (by simp))).trans h.hush.map⟩,h.lims.kept hbs,h.ports.kept hbs,h.dist,h.lenS,h.pos⟩
end
section
open Go.RowKit Go.Shelf
section
variable (w:World) {A:BrA} {s:BrS}
theorem aDX (h:BrT w A s) (port:Int) (hn:s.ports.length<=32):
  Calls Tryz.prog 43 #[.pointer (some ⟨A.B,0,none⟩),.int .i64 port] w fun e w'=>e=.returned (.bool (decide (0<=port)&&decide (port<s.ports.length)))/\w'=w:=by
 have hr:=h.rB
 unfold eR at hr
 have hnI:(s.ports.length:Int)<=32:=by omega
 go_enter Tryz.func43,Tryz.ntmps43
 by_cases h0:0<=port
 ·go_wp2_with fail
  go_ret
  exact⟨by simp[h0],rfl⟩
 ·go_wp2_with fail
  go_ret
  refine⟨?_,rfl⟩
  have h1:decide (0<=port)=false:=decide_eq_false (by omega)
  rw[h1]
  rfl
theorem aCK (h:BrT w A s):
  Calls Tryz.prog 63 #[.pointer (some ⟨A.B,0,none⟩)] w fun e w'=>e=.returned (.agg #[.int .i64 s.c0,.int .i64 s.c1,.int .i64 s.c2,.int .i64 s.c3,.int .i64 s.c4])/\Below w.heap.size w w':=by
 have hr:=h.rB
 have hlt:=h.ltB
 unfold eR at hr
 go_enter Tryz.func63,Tryz.ntmps63
 go_wp2_with fail
 ((try simp only[Exit.inBlock,Exit.then]);refine bodyPost_ret (aV rfl (aK rfl ?_)) rfl ?_;(simp[go_sem]))
 exact⟨by rw[aE _ _ _ rfl],ba_⟩
theorem aGC (h:BrT w A s) (hd:fJ s.st) (hml:s.st.length<=1000000) (hage:∀b∈s.st,0<=b.age/\b.age<=1000000) (hdh:DistH s.bi) (hageh:∀b∈s.bi,0<=b.age/\b.age<=1000000):
  Calls Tryz.prog 23 #[.pointer (some ⟨A.B,0,none⟩)] w fun e w'=>e=.returned (.tuple #[])/\BelowS w.heap.size A.muts w w'/\BrT w' A {s with st:=yS s.ageing s.st,bi:=aBg s.ageing s.bi}:=by
 have hr:=h.rB
 have hlt:=h.ltB
 unfold eR at hr
 obtain⟨n1,n2,n3,n4,n5,m1,m2,m3,m4,k1,k2,k3,k4,k5,k6⟩:=h.ne
 have HL:=h_ (aGj w h.ler k1 hd hml hage)
 have HH:=h_ (fun w' (h':BrT w' A {s with st:=yS s.ageing s.st})=>aGt w' h'.hush k6 hdh hageh)
 go_enter Tryz.func23,Tryz.ntmps23
 go_wp2_with fail
 (with_reducible refine HL.out.mono ?_)
 rintro e w1 ⟨rfl,b1,t1⟩
 have h1:=h.setL b1 t1
 have hr1:=h1.rB
 unfold eR at hr1
 dsimp only at hr1
 have bs1:BelowS w.heap.size A.muts w w1:=BelowS.one b1 (by simp[BrA.muts])
 clear hr
 go_wp2_with fail
 (with_reducible refine(HH.out _ h1).mono ?_)
 rintro e w2 ⟨rfl,b2,t2⟩
 have h2:=h1.setH b2 t2
 have bs2:BelowS w1.heap.size A.muts w1 w2:=BelowS.one b2 (by simp[BrA.muts])
 have HB:=h_ h2
 clear h2 t2 b2 t1 b1
 go_wp2_with fail
 go_end0
 exact⟨rfl,bs1.next bs2,HB.out⟩
def aBy (s:BrS) (k:Nat) (state:Int):BrS:={s with states:=s.states.set k state,st:=if state=0 then aLM k s.st else s.st}
theorem aGD (h:BrT w A s) (k:Nat) (state:Int) (hn:s.ports.length<=32) (hk:k<s.ports.length) (h0:0<=state) (h3:state<=3) (hd:fJ s.st) (hml:s.st.length<=1000000):
  Calls Tryz.prog 21 #[.pointer (some ⟨A.B,0,none⟩),.int .i64 (k:Int),.int .i64 state] w fun e w'=>e=.returned (.int .i64 0)/\BelowS w.heap.size A.muts w w'/\BrT w' A (aBy s k state):=by
 have HH:=h_ (fun w (h:BrT w A s)=>aDX w h k hn)
 rw[decide_eq_true (by omega:(0:Int)<=(k:Int)),decide_eq_true (by omega:(k:Int)<(s.ports.length:Int))]at HH
 obtain⟨n1,n2,n3,n4,n5,m1,m2,m3,m4,k1,k2,k3,k4,k5,k6⟩:=h.ne
 have hr:=h.rB
 unfold eR at hr
 have hrs:=h.rS
 have hkI:(k:Int)<(s.ports.length:Int):=by omega
 have hk0:(0:Int)<=(k:Int):=by omega
 have hnI:(s.ports.length:Int)<=32:=by omega
 have hks:k<(ints s.states).size:=by simp[ints,h.lenS,hk]
 have h01:¬state<0:=by omega
 have h31:¬3<state:=by omega
 have hT2:=h.setS (s.states.set k state) ((ints s.states).setIfInBounds k (.int .i64 state)) (by simp[ints,List.setIfInBounds_toArray,List.map_set]) (by simp[h.lenS])
 have bs1:BelowS w.heap.size A.muts w (w.setRow A.SB ((ints s.states).setIfInBounds k (.int .i64 state))):=BelowS.set w _ (by simp[BrA.muts])
 have hsc:w.setCell ⟨A.SB,k,none⟩ (.int .i64 state)=w.setRow A.SB ((ints s.states).setIfInBounds k (.int .i64 state)):=by rw[eQ _ (by rw[hrs];omega),hrs]
 rw[<-hsc]at hT2 bs1
 obtain⟨W1,hW1⟩:∃x,w.setCell ⟨A.SB,k,none⟩ (.int .i64 state)=x:=⟨_,rfl⟩
 have zW1:W1.heap.size=w.heap.size:=by rw[<-hW1,hsc];simp
 rw[hW1]at hT2 bs1
 clear hsc
 have hr1:=hT2.rB
 unfold eR at hr1
 dsimp only at hr1
 have HL:=h_ (fun(w':World) (h':BrT w' A {s with states:=s.states.set k state})=>aGh w' h'.ler k1 hd hml (k:Int))
 have HT:=h_ h
 have HT2:=h_ hT2
 clear h hT2 h0 h3
 go_enter Tryz.func21,Tryz.ntmps21
 by_cases hz:state=0
 ·subst hz
  go_wp2_with fail
  (with_reducible refine(HH.out _ HT.out).mono ?_)
  rintro e w1 ⟨rfl,rfl⟩
  go_wp2_with fail
  (with_reducible refine(HL.out _ HT2.out).mono ?_)
  rintro e w2 ⟨⟨n,rfl⟩,b2,t2⟩
  have h2:=HT2.out.setL b2 t2
  have bs2:BelowS W1.heap.size A.muts W1 w2:=BelowS.one b2 (by simp[BrA.muts])
  have HB:=h_ h2
  clear h2 t2 b2
  go_wp2_with fail
  go_ret
  exact⟨rfl,bs1.trans (bs2.mono (by omega)),by unfold aBy;rw[if_pos rfl];exact HB.out⟩
 ·have hz1:(state==0)=false:=by simpa using hz
  have HZ:=h_ hz
  clear hz
  go_wp2_with fail
  (with_reducible refine(HH.out _ HT.out).mono ?_)
  rintro e w1 ⟨rfl,rfl⟩
  go_wp2_with fail
  go_ret
  exact⟨rfl,bs1,by unfold aBy;rw[if_neg HZ.out];exact HT2.out⟩
end
end
section
open Go.RowKit Go.Shelf
def j7 (ta:Option Addr) (cap:Nat) (p:PortD):List Value:=[Value.int .i64 p.native,Value.slice ta p.tagged.length cap,Value.int .i64 p.hor,Value.int .i64 p.lim]
theorem BrT.port {w:World} {A:BrA} {s:BrS} (h:BrT w A s) {k:Nat} (hk:k<s.ports.length):∃b off ta cap,A.pa=some ⟨b,off,none⟩/\b<w.heap.size/\
  (∀W,BelowS w.heap.size A.muts w W->W.rangeAt b (off+k*4) (j7 ta cap s.ports[k])/\IntsAt W ta s.ports[k].tagged):=by
 obtain⟨b,off,ta,cap,e,hl,hn,hr,ht⟩:=h.ports.2 k s.ports[k] (List.getElem?_eq_getElem hk)
 exact⟨b,off,ta,cap,e,hl,fun W hW=>⟨hr W (hW.block b hl fun hm=>hn (List.mem_append_left _ hm)),(ht.kept hW.offs).elems⟩⟩
theorem xP {w:World} {A:BrA} {s:BrS} (h:BrT w A s) {k:Nat} (hk:k<s.ports.length):w.cell? ⟨A.SB,k,none⟩=some (.int .i64 (s.states[k]'(by rw[h.lenS];exact hk))):=by
 have hk2:k<s.states.length:=by rw[h.lenS];exact hk
 rw[aQ (by rw[h.rS];simp[ints];exact hk2),h.rS]
 simp[ints,hk2]
def aEO (s:BrS) (fr to:Nat) (v:Int) (h:Int):Bool:=(fr !=to)&&(s.states.getD to 0==3)&&cV (s.ports.getD to ⟨0,[],0,0⟩).native (s.ports.getD to ⟨0,[],0,0⟩).tagged v&&(h==0||(s.ports.getD to ⟨0,[],0,0⟩).hor !=h)
theorem aGE (w:World) {A:BrA} {s:BrS} (h:BrT w A s) (fr to:Nat) (hto:to<s.ports.length) (v hz:Int) (hn:s.ports.length<=32) (b1 b2 b3 b4:Nat)
  (r1:row w b1=#[.pointer (some ⟨A.B,0,none⟩)]) (r2:row w b2=#[.int .i64 (fr:Int)]) (r3:row w b3=#[.int .i64 v]) (r4:row w b4=#[.int .i64 hz]):
  Calls Tryz.prog 165 #[.int .i64 (to:Int),.pointer (some ⟨b1,0,none⟩),.pointer (some ⟨b2,0,none⟩),.pointer (some ⟨b3,0,none⟩),.pointer (some ⟨b4,0,none⟩)] w fun e w'=>e=.returned (.bool (aEO s fr to v hz))/\Below w.heap.size w w':=by
 have hlB:=h.ltB
 have l1:b1<w.heap.size:=aM (i:=0) (by rw[r1];simp)
 have l2:b2<w.heap.size:=aM (i:=0) (by rw[r2];simp)
 have l3:b3<w.heap.size:=aM (i:=0) (by rw[r3];simp)
 have l4:b4<w.heap.size:=aM (i:=0) (by rw[r4];simp)
 have hr:=h.rB
 unfold eR at hr
 obtain⟨pb,po,ta,tc,epa,hpb,hrd⟩:=h.port hto
 rw[epa]at hr
 obtain⟨p,hp⟩:∃x,s.ports[to]=x:=⟨_,rfl⟩
 rw[hp]at hrd
 obtain⟨q,hq⟩:∃x,s.states[to]'(by rw[h.lenS];exact hto)=x:=⟨_,rfl⟩
 have hst:=xP h hto
 rw[hq]at hst
 have hlS:=h.ltS
 have hto2:to<s.states.length:=by rw[h.lenS];exact hto
 have hmay:aEO s fr to v hz=((fr !=to)&&(q==3)&&cV p.native p.tagged v&&(hz==0||p.hor !=hz)):=by
  unfold aEO
  simp only[List.getD_eq_getElem?_getD,List.getElem?_eq_getElem hto,List.getElem?_eq_getElem hto2,hp,hq,Option.getD_some]
 obtain⟨r,hrr⟩:∃x,aEO s fr to v hz=x:=⟨_,rfl⟩
 rw[hrr]at hmay ⊢
 have HR:=h_ hmay
 have HM:=h_ (fun w (h:IntsAt w ta p.tagged)=>mU p.native ta tc p.tagged v w h)
 have hld:=cI (P:=Tryz.prog) (t:=64) (hrd w (BelowS.of (Below.refl _ _))).1 (by simp[j7])
 unfold j7 at hld
 have hinits:∀W,Below w.heap.size w W->IntsAt W ta p.tagged:=fun W hW=>(hrd W (BelowS.of hW)).2
 have HI:=h_ hinits
 have htoI:(to:Int)<(s.ports.length:Int):=by omega
 have hto0:(0:Int)<=(to:Int):=by omega
 have hnI:(s.ports.length:Int)<=32:=by omega
 obtain⟨o,ho⟩:∃o,po+to*4=o:=⟨_,rfl⟩
 rw[ho]at hld
 clear h hrd hp hq hmay hrr epa hinits
 have hfI:((to:Int) !=(fr:Int))=(fr !=to):=by
  rw[Bool.eq_iff_iff,bne_iff_ne,bne_iff_ne]
  omega
 have hf0:((to:Int)==(fr:Int))=(fr==to):=by
  rw[Bool.eq_iff_iff,beq_iff_eq,beq_iff_eq]
  omega
 obtain⟨W,hW⟩:∃W,w.alloc (.cells #[Value.int .i64 p.native,Value.slice ta p.tagged.length tc,Value.int .i64 p.hor,Value.int .i64 p.lim] 64)=W:=⟨_,rfl⟩
 have bW:Below w.heap.size w W:=by rw[<-hW];exact ba_
 have zW:W.heap.size=w.heap.size+1:=by rw[<-hW];simp
 have rQ:row W w.heap.size=#[Value.int .i64 p.native,Value.slice ta p.tagged.length tc,Value.int .i64 p.hor,Value.int .i64 p.lim]:=by rw[<-hW];exact aE _ _ _ rfl
 have r1W:=(aA bW l1).trans r1
 have hrW:=(aA bW hlB).trans hr
 have hstW:=(bW.cell (p:=⟨A.SB,to,none⟩) hlS).trans hst
 have r2W:=(aA bW l2).trans r2
 have r3W:=(aA bW l3).trans r3
 have r4W:=(aA bW l4).trans r4
 have hiW:=HI.out W bW
 go_enter Tryz.func165,Tryz.ntmps165
 by_cases c1:fr=to
 ·have c1f:(fr !=to)=false:=by simp[c1]
  rw[c1f]at hfI
  have HC:=h_ c1f
  clear c1 c1f hf0
  go_wp2_with fail
  (try rw[hW])
  go_ret
  exact⟨by rw[HR.out,HC.out];simp,by first | exact bW | (rw[<-hW]at bW;exact bW)⟩
 have c1f:(fr !=to)=true:=by simp[c1]
 rw[c1f]at hfI
 have HC1:=h_ c1f
 clear c1 c1f hf0
 by_cases c2:q=3
 case neg=>
  have c2f:(q==3)=false:=by simpa using c2
  have HC2:=h_ c2f
  clear c2
  go_wp2_with fail
  go_ret
  exact⟨by rw[HR.out,HC2.out];simp,by first | exact bW | (rw[<-hW]at bW;exact bW)⟩
 subst c2
 obtain⟨mb,hmb⟩:∃x,cV p.native p.tagged v=x:=⟨_,rfl⟩
 rw[hmb]at HM HR
 clear hmb
 cases mb with
 | false=>
  go_wp2_with fail
  (try rw[hW])
  try clear hW
  (with_reducible refine(HM.out _ hiW).mono ?_)
  rintro e w2 ⟨rfl,b2⟩
  go_wp2_with fail
  go_ret
  exact⟨by rw[HR.out];simp,bW.trans (b2.mono (by omega))⟩
 | true=>
  by_cases c3:hz=0
  ·subst c3
   go_wp2_with fail
   (try rw[hW])
   try clear hW
   (with_reducible refine(HM.out _ hiW).mono ?_)
   rintro e w2 ⟨rfl,b2⟩
   have r4V:=(aA b2 (by omega)).trans r4W
   go_wp2_with fail
   go_ret
   exact⟨by rw[HR.out,HC1.out];simp,bW.trans (b2.mono (by omega))⟩
  ·have c3f:(hz==0)=false:=by simpa using c3
   have HC3:=h_ c3f
   clear c3
   go_wp2_with fail
   (try rw[hW])
   try clear hW
   (with_reducible refine(HM.out _ hiW).mono ?_)
   rintro e w2 ⟨rfl,b2⟩
   have r4V:=(aA b2 (by omega)).trans r4W
   have rQV:=(aA b2 (by omega)).trans rQ
   go_wp2_with fail
   go_ret
   exact⟨by rw[HR.out,HC1.out,HC3.out];simp,bW.trans (b2.mono (by omega))⟩
end
section
open Go.RowKit Go.Shelf
theorem aIC (w:World) {A:BrA} {s:BrS} (h:BrT w A s) (k:Nat) (hk:k<s.ports.length) (v:Int) (hn:s.ports.length<=32):
  Calls Tryz.prog 135 #[.pointer (some ⟨A.B,0,none⟩),.int .i64 (k:Int),.int .i64 v] w fun e w'=>∃b1 b2 b3 b4,e=.returned (.func (.func 165) #[] #[.pointer (some ⟨b1,0,none⟩),.pointer (some ⟨b2,0,none⟩),.pointer (some ⟨b3,0,none⟩),.pointer (some ⟨b4,0,none⟩)])/\Below w.heap.size w w'/\
   row w' b1=#[.pointer (some ⟨A.B,0,none⟩)]/\row w' b2=#[.int .i64 (k:Int)]/\row w' b3=#[.int .i64 v]/\row w' b4=#[.int .i64 s.ports[k].hor]:=by
 have hlB:=h.ltB
 obtain⟨pb,po,ta,tc,epa,hpb,hrd⟩:=h.port hk
 obtain⟨p,hp⟩:∃x,s.ports[k]=x:=⟨_,rfl⟩
 rw[hp]at hrd ⊢
 have hr:=h.rB
 unfold eR at hr
 rw[epa]at hr
 have hcell:∀W,Below w.heap.size w W->W.cell? ⟨pb,po+k*4+2,none⟩=some (.int .i64 p.hor):=fun W hW=>(hrd W (BelowS.of hW)).1 2 _ rfl
 obtain⟨o,ho⟩:∃o,po+k*4=o:=⟨_,rfl⟩
 rw[ho]at hcell
 have hkI:(k:Int)<(s.ports.length:Int):=by omega
 have hk0:(0:Int)<=(k:Int):=by omega
 have hnI:(s.ports.length:Int)<=32:=by omega
 clear h hrd hp epa
 go_enter Tryz.func135,Tryz.ntmps135
 obtain⟨W,hW⟩:∃W,((w.alloc (.cells #[.pointer (some ⟨A.B,0,none⟩)] 78)).alloc (.cells #[.int .i64 (k:Int)] 3)).alloc (.cells #[.int .i64 v] 3)=W:=⟨_,rfl⟩
 have bW:Below w.heap.size w W:=by rw[<-hW];exact Below.alloc (Below.alloc (ba_) (by simp) _) (by simp;omega) _
 have q1:row W w.heap.size=#[.pointer (some ⟨A.B,0,none⟩)]:=by rw[<-hW];simp[go_sem]
 have q2:row W (w.heap.size+1)=#[.int .i64 (k:Int)]:=by rw[<-hW];simp[go_sem]
 have q3:row W (w.heap.size+2)=#[.int .i64 v]:=by rw[<-hW];simp[go_sem]
 have zW:W.heap.size=w.heap.size+3:=by rw[<-hW];simp
 have hrW:=(aA bW hlB).trans hr
 go_wp2_with fail
 (try rw[hW])
 clear hW hr
 have hG:GrowP fun W=>Below w.heap.size w W:=d6 w
 refine nV [(w.heap.size,#[.pointer (some ⟨A.B,0,none⟩)]),(w.heap.size+1,#[.int .i64 (k:Int)]),(A.B,#[.slice (some ⟨pb,po,none⟩) s.ports.length A.pcap,.slice (some ⟨A.SB,0,none⟩) s.ports.length s.ports.length,.pointer (some ⟨A.LT,0,none⟩),.pointer (some ⟨A.HT,0,none⟩),.int .i64 s.c0,.int .i64 s.c1,.int .i64 s.c2,.int .i64 s.c3,.int .i64 s.c4])] (fun W=>Below w.heap.size w W) hG (bW) (fun hS=>?_)
 refine sp 0 hG hS ?_
 refine sp 1 hG hS ?_
 refine sp 2 hG hS ?_
 refine sp 3 hG hS ?_
 refine sp 4 hG hS ?_
 refine sp 5 hG hS ?_
 refine sp 6 hG hS ?_
 refine sp 7 hG hS ?_
 refine i8 (XS.grow hG) (i:=8) (k:=9) (zi:=([Value.int .i64 0]).toArray) (cA:=([Value.int .i64 p.hor]).toArray) cD cD ⟨rfl,rfl,fun a w=>by go_simp;(refine⟨?_,?_⟩<;>rfl)⟩ kr_ kr_ rfl rfl (by simp[*]) (by simp) (fun A w1 hr=>by
  simp only[Act.put,List.setIfInBounds_toArray,List.set_cons_zero,List.set_cons_succ,ptr]
  go_simp
  try rfl) hS (fun X w3 gX zX bw3 rX hS=>?_)
 (try simp only[Act.put,List.setIfInBounds_toArray,List.set_cons_zero,List.set_cons_succ])
 simp only[ptr]
 refine aG kr_ (fun w4 bw4=>?_) _
 have z4:=bw4.size
 have b3:=aL (Below.drew (Below.refl _ _)) bw3
 have b34:=b3.trans (bw4.mono (by have:=b3.size;omega))
 have q1':=(aA b34 (by omega)).trans q1
 have q2':=(aA b34 (by omega)).trans q2
 have q3':=(aA b34 (by omega)).trans q3
 have q4':=(aA bw4 (by omega)).trans rX
 have B4:=bW.trans (b34.mono (by omega))
 clear hS bw3 bw4 b3 b34 q1 q2 q3 rX hrW
 go_wp2_with fail
 go_ret
 exact⟨_,_,_,_,rfl,B4,q1',q2',q3',q4'⟩
def aID (x:Nat×List UInt8):List Value:=[Value.int .i64 (x.1:Int),Value.string ⟨x.2.toArray⟩]
theorem OwnL.made {w:World} {B:Nat} {e:TypeId} {sz:Nat} (x:List Value) (hx:x.length=sz) (hB:B<=w.heap.size):OwnL (w.alloc (.cells x.toArray e)) B e sz (.slice (some ⟨w.heap.size,0,none⟩) 1 1) [x]:=by
 refine⟨by intro y hy;rw[List.mem_singleton.1 hy];exact hx,by simp[hx],.inr ⟨w.heap.size,1,x.toArray,rfl,hB,heap_alloc_new w _,Nat.le_refl _,by unfold maxLen;omega,by simp[hx],?_⟩⟩
 subst hx
 simp
def fC (p:PortD) (k:Nat) (v:Int) (dst src:Vector UInt8 6) (ty:Int) (body:List UInt8) (prio:Int):List (Nat×List UInt8):=
 if eA ty (aGA p.native v prio).1 (aGA p.native v prio).2 body.length then [(k,oW dst src ty body (aGA p.native v prio).1 (aGA p.native v prio).2)]else []
theorem qN (w:World) {A:BrA} {s:BrS} (h:BrT w A s) (k:Nat) (hk:k<s.ports.length) (v:Int) (dst src:Vector UInt8 6) (ty:Int) (body:List UInt8) (prio:Int) (hn:s.ports.length<=32) (hm:cV s.ports[k].native s.ports[k].tagged v=true) (hp0:0<=prio) (hp7:prio<=7):
  Calls Tryz.prog 99 #[.pointer (some ⟨A.B,0,none⟩),.int .i64 (k:Int),.int .i64 v,.agg (bV dst src ty body).toArray,.int .i64 prio] w fun e w'=>(∃u,e=.returned u/\OwnL w' w.heap.size 174 2 u ((fC s.ports[k] k v dst src ty body prio).map aID))/\Below w.heap.size w w':=by
 have hlB:=h.ltB
 obtain⟨pb,po,ta,tc,epa,hpb,hrd⟩:=h.port hk
 obtain⟨p,hp⟩:∃x,s.ports[k]=x:=⟨_,rfl⟩
 rw[hp]at hrd hm ⊢
 have hr:=h.rB
 unfold eR at hr
 rw[epa]at hr
 have hload:∀W,Below w.heap.size w W->(mC 62 (.pointer (some ⟨pb,po+k*4,none⟩))).run Tryz.prog W=.ok (.agg #[Value.int .i64 p.native,Value.slice ta p.tagged.length tc]) W:=fun W hW=>by
  have h4:=(hrd W (BelowS.of hW)).1
  exact cI (l:=[Value.int .i64 p.native,Value.slice ta p.tagged.length tc]) (fun j u hj=>h4 j u (by
   match j,hj with
   | 0,hj=>exact hj
   | 1,hj=>exact hj)) rfl
 obtain⟨o,ho⟩:∃o,po+k*4=o:=⟨_,rfl⟩
 rw[ho]at hload
 obtain⟨od,hod⟩:∃x,aGA p.native v prio=x:=⟨_,rfl⟩
 have hio:∀W,Below w.heap.size w W->IntsAt W ta p.tagged:=fun W hW=>(hrd W (BelowS.of hW)).2
 have HO:=h_ (fun W (hW:Below w.heap.size w W)=>aIB p.native ta tc p.tagged v dst src ty body prio W (hio W hW) hm hp0 hp7)
 rw[hod]at HO
 have HPS:=h_ (show fC p k v dst src ty body prio=if eA ty od.1 od.2 body.length then [(k,oW dst src ty body od.1 od.2)]else [] by unfold fC;rw[hod])
 obtain⟨ov,op⟩:=od
 dsimp only at HO HPS
 unfold bV at HO ⊢
 unfold xB at HO
 have hkI:(k:Int)<(s.ports.length:Int):=by omega
 have hk0:(0:Int)<=(k:Int):=by omega
 have hnI:(s.ports.length:Int)<=32:=by omega
 clear h hrd hp epa hod hio hm
 go_enter Tryz.func99,Tryz.ntmps99
 obtain⟨W,hW⟩:∃W,w.alloc (.cells (u8v dst++(u8v src++[Value.int .i64 ty,.string ⟨body.toArray⟩])).toArray 158)=W:=⟨_,rfl⟩
 have bW:Below w.heap.size w W:=by rw[<-hW];exact ba_
 have q1:row W w.heap.size=(u8v dst++(u8v src++[Value.int .i64 ty,.string ⟨body.toArray⟩])).toArray:=by rw[<-hW];exact aE _ _ _ rfl
 have zW:W.heap.size=w.heap.size+1:=by rw[<-hW];simp
 have hrW:=(aA bW hlB).trans hr
 go_wp2_with fail
 (try rw[hW])
 clear hW hr
 have hG:GrowP fun W=>Below w.heap.size w W:=d6 w
 refine nV [(w.heap.size,(u8v dst++(u8v src++[Value.int .i64 ty,.string ⟨body.toArray⟩])).toArray),(A.B,#[.slice (some ⟨pb,po,none⟩) s.ports.length A.pcap,.slice (some ⟨A.SB,0,none⟩) s.ports.length s.ports.length,.pointer (some ⟨A.LT,0,none⟩),.pointer (some ⟨A.HT,0,none⟩),.int .i64 s.c0,.int .i64 s.c1,.int .i64 s.c2,.int .i64 s.c3,.int .i64 s.c4])] (fun W=>Below w.heap.size w W) hG (bW) (fun hS=>?_)
 refine sp 0 hG hS ?_
 refine sp 1 hG hS ?_
 refine sp 2 hG hS ?_
 refine sp 3 hG hS ?_
 refine sp 4 hG hS ?_
 refine sp 5 hG hS ?_
 refine sp 6 hG hS ?_
 refine sp 7 hG hS ?_
 refine sp 8 hG hS ?_
 refine sp 9 hG hS ?_
 refine sp 10 hG hS ?_
 refine sc 11 (v:=?_) hG hS ?_ ?_
 rotate_left
 ·intro w' hS'
  obtain⟨hS',hX'⟩:=hS'
  simp only[Rws]at hS'
  go_simp
  with_reducible refine(HO.out _ hX').mono ?_
  rintro e w'' ⟨rfl,hb⟩
  exact⟨_,rfl,by rfl,hb⟩
 refine sp 12 hG hS ?_
 refine sp 13 hG hS ?_
 refine sp 14 hG hS ?_
 refine i8 (XS.grow hG) (i:=15) (k:=16) (zi:=(u8v cF++(u8v cF++[Value.int .i64 0,.string ⟨#[]⟩,.int .i64 0,.int .i64 0])).toArray) (cA:=(u8v dst++(u8v src++[Value.int .i64 ty,.string ⟨body.toArray⟩,.int .i64 ov,.int .i64 op])).toArray) cD cD ⟨rfl,rfl,fun a w=>by go_simp;(refine⟨?_,?_⟩<;>rfl)⟩ kr_ kr_ rfl rfl (by simp[*]) (by simp) (fun A w1 hr=>by
  simp only[Act.put,List.setIfInBounds_toArray,List.set_cons_zero,List.set_cons_succ,ptr]
  go_simp
  try rfl) hS (fun X w3 gX zX bw3 rX hS=>?_)
 (try simp only[Act.put,List.setIfInBounds_toArray,List.set_cons_zero,List.set_cons_succ])
 simp only[ptr]
 refine sp 17 hG hS ?_
 refine aG kr_ (fun w4 bw4=>?_) _
 have z4:=bw4.size
 have b3:=aL (Below.drew (Below.refl _ _)) bw3
 have b34:=b3.trans (bw4.mono (by have:=b3.size;omega))
 have q4':=(aA bw4 (by omega)).trans rX
 have B4:=bW.trans (b34.mono (by omega))
 have z4w:w.heap.size<=w4.heap.size:=B4.size
 clear hS bw3 bw4 b3 b34 q1 rX hrW hload HO
 cases hrb:eA ty ov op body.length with
 | false=>
  have HP:=h_ (fun w=>aBa dst src ty body ov op w hrb)
  rw[hrb]at HPS
  unfold xB at HP
  clear hrb
  go_wp2_with fail
  (with_reducible refine(HP.out _).mono ?_)
  rintro e w5 ⟨rfl,b5⟩
  go_wp2_with fail
  go_ret
  refine⟨⟨_,rfl,?_⟩,B4.trans (b5.mono (by omega))⟩
  rw[HPS.out]
  exact OwnL.nil _ _ _ _
 | true=>
  have HP:=h_ (fun w=>aBb dst src ty body ov op w hrb)
  rw[hrb]at HPS
  unfold xB at HP
  obtain⟨bs,hbs⟩:∃x,oW dst src ty body ov op=x:=⟨_,rfl⟩
  rw[hbs]at HP HPS
  clear hrb hbs
  go_wp2_with fail
  (with_reducible refine(HP.out _).mono ?_)
  rintro e w5 ⟨rfl,b5⟩
  have B5:=B4.trans (b5.mono (by omega))
  go_wp2_with fail
  go_ret
  refine⟨⟨_,rfl,?_⟩,Below.alloc B5 B5.size _⟩
  rw[HPS.out]
  exact OwnL.made (aID (k,bs)) rfl B5.size
end
section
open Go.RowKit Go.Shelf
section
variable {P:Program}
theorem tZ (w:World) (t ty e:TypeId) (i:TypeInfo) (z:Value) (ht:P.underlying t=some (.slice e)) (hi:P.info? e=some i) (a:Option Addr) (n c:Nat) (hnc:n<=c):
  (Builtin.append_ #[t,t] ty #[.slice a n c,.slice none 0 0]).run P w=.ok (.slice a n c) w:=by
 cases a with
 | none=>simp[Builtin.append_,run_underlying ht,sizeOf,typeInfo,hi,Builtin.lenOf,hnc,Builtin.firstCells,storeCells,Result.andThen]
 | some ad=>simp[Builtin.append_,run_underlying ht,sizeOf,typeInfo,hi,Builtin.lenOf,hnc,Builtin.firstCells,storeCells,Result.andThen]
theorem dF {w:World} {ops:Array Oper} {rest:List Oper} {o:Oper} {a:Act} {Q:Exit->Act->World->Prop} (hgd:o.guard=none) {s x:Operand} {t e:TypeId} {sz bytes:Nat}
  (ho:o.op=.call {callee:=.builtin .append,args:=#[s,x],argTypes:=#[t,t]}) (ht:P.underlying t=some (.slice e))
  (hinfo:(P.info? e).map (fun i=>(i.zero.map (·.cells.size),i.size,i.bytes))=some (some sz,sz,bytes)) (hsz:0<sz) (hby:bytes<=1000)
  (base:Nat) (v:Value) (l:List (List Value)) (hs:a.eval s=v) (hown:OwnL w base e sz v l)
  (B2:Nat) (u:Value) (l2:List (List Value)) (hx:a.eval x=u) (hown2:OwnL w B2 e sz u l2) (hone:∀y∈l2,eC y=true) (hn:l.length+l2.length<=10000) (hbase:base<=w.heap.size)
  (h:∀v' w',OwnL w' base e sz v' (l++l2)->Below base w w'->wpList P ops Q rest (a.put o.dst v') w'):
  wpList P ops Q (o::rest) a w:=by
 have hi:∃i z,P.info? e=some i/\i.zero=some z/\i.size=sz/\i.bytes=bytes/\z.cells.size=sz:=by
  cases hi:P.info? e with
  | none=>rw[hi]at hinfo;simp at hinfo
  | some i=>
   rw[hi]at hinfo
   simp at hinfo
   obtain⟨⟨z,h1,h2⟩,h3,h4⟩:=hinfo
   exact⟨i,z,rfl,h1,h3,h4,h2⟩
 obtain⟨i0,z,hi,hz,h32,hb32,hzs⟩:=hi
 obtain⟨hl2,hlen2,⟨rfl,h0⟩ | ⟨g,cap,cur,rfl,hg0,hg,hnc,hm,hcs,htk⟩⟩:=hown2
 ·have:l2=[]:=List.eq_nil_of_length_eq_zero h0
  subst this
  obtain⟨av,nv,cv,rfl,hvc⟩:∃a n c,v=.slice a n c/\n<=c:=by
   obtain⟨_,_,⟨rfl,h0⟩ | ⟨g,cap,cur,rfl,_,_,hnc,_⟩⟩:=hown
   ·exact⟨_,_,_,rfl,Nat.le_refl _⟩
   ·exact⟨_,_,_,rfl,hnc⟩
  refine wpList_plain hgd fun K hK=>?_
  unfold Oper.wp execOp
  simp only[ho,resolve,invoke,builtin,Sem.run_bind,Sem.run_pure,Result.andThen_ok,List.map_toArray,List.map_cons,List.map_nil,hs,hx,tZ w t o.type e i0 z ht hi av nv cv hvc]
  refine hK _ _ (h _ _ ?_ (Below.refl _ _))
  rw[List.append_nil]
  exact hown
 ·obtain⟨hl,hown⟩:=hown
  refine wpList_append_own (P:=P) _ hgd s x _ ho base e i0 z sz bytes ht hi hz h32 hb32 hzs hsz v l.length l.flatten hs hown ⟨g,0,none⟩ l2.length cap l2.flatten hx hlen2 ?_ ?_ ?_ ?_ hbase ?_
  ·intro j y hj
   have hjl:=(List.getElem?_eq_some_iff.1 hj).1
   have:(⟨g,0,none⟩:Addr).add j=⟨g,j,none⟩:=by
    simp[Addr.add]
    try exact fun h=>h.symm
   rw[this]
   unfold World.cell?
   rw[hg]
   rw[<-htk,List.getElem?_take_of_lt (by omega)]at hj
   simpa using hj
  ·intro y hy
   obtain⟨q,hq,hyq⟩:=List.mem_flatten.1 hy
   have:=hone q hq
   unfold eC at this
   exact List.all_eq_true.1 this y hyq
  ·unfold maxLen;omega
  ·have:=Nat.mul_le_mul (show l.length+l2.length<=10000 by omega) hby;omega
  ·intro v' w' h1 h2 _
   refine h v' w' ⟨?_,?_⟩ ((Below.refl base w).grown h2 (by omega) fun k hk=>(World.ownsRow.lt hown k hk).1)
   ·intro y hy
    rcases List.mem_append.1 hy with hy | hy
    ·exact hl y hy
    ·exact hl2 y hy
   ·rw[List.length_append,List.flatten_append]
    exact h1
end
theorem OwnL.lower {w:World} {B B':Nat} {e:TypeId} {sz:Nat} {v:Value} {l:List (List Value)} (h:OwnL w B e sz v l) (hB:B'<=B):OwnL w B' e sz v l:=by
 obtain⟨hl,hlen,h0 | ⟨g,cap,cur,e1,hg0,hg,hr⟩⟩:=h
 ·exact⟨hl,hlen,.inl h0⟩
 ·exact⟨hl,hlen,.inr ⟨g,cap,cur,e1,Nat.le_trans hB hg0,hg,hr⟩⟩
def xQ (o:Option LB) (i:Nat):Bool:=match o with | none=>true | some b=>b.port==(i:Int)
def aGF (s:BrS) (st:List LB) (fr:Nat) (v:Int) (dst:Vector UInt8 6) (i:Nat):Bool:=
 aEO s fr i v (s.ports.getD fr ⟨0,[],0,0⟩).hor&&(grp dst||xQ (j5 v dst st) i)
def zP (s:BrS) (st:List LB) (fr:Nat) (v:Int) (dst src:Vector UInt8 6) (ty:Int) (body:List UInt8) (prio:Int) (i:Nat):List (Nat×List UInt8):=
 if aGF s st fr v dst i then fC (s.ports.getD i ⟨0,[],0,0⟩) i v dst src ty body prio else []
def lW (s:BrS) (st:List LB) (fr:Nat) (v:Int) (dst src:Vector UInt8 6) (ty:Int) (body:List UInt8) (prio:Int):List (Nat×List UInt8):=
 (List.range s.ports.length).flatMap (zP s st fr v dst src ty body prio)
theorem iI (p:PortD) (k:Nat) (v:Int) (dst src:Vector UInt8 6) (ty:Int) (body:List UInt8) (prio:Int):(fC p k v dst src ty body prio).length<=1:=by
 unfold fC
 split<;>simp
theorem zZ (s:BrS) (st:List LB) (fr:Nat) (v:Int) (dst src:Vector UInt8 6) (ty:Int) (body:List UInt8) (prio:Int) (i:Nat):(zP s st fr v dst src ty body prio i).length<=1:=by
 unfold zP
 split
 ·exact iI _ _ _ _ _ _ _ _
 ·simp
theorem fR {α:Type} {f:Nat->List α} (hf:∀i,(f i).length<=1):∀n,((List.range n).flatMap f).length<=n
 | 0=>by simp
 | n+1=>by
  rw[List.range_succ,List.flatMap_append,List.length_append]
  have h1:=fR hf n
  have h2:=hf n
  rw[List.flatMap_cons,List.flatMap_nil,List.append_nil]
  omega
theorem mH {α:Type} {f:Nat->List α} (j:Nat) (hf:∀i,i≠j->f i=[]):∀n,(List.range n).flatMap f=if j<n then f j else []
 | 0=>by simp
 | n+1=>by
  rw[List.range_succ,List.flatMap_append,mH j hf n]
  by_cases h1:j<n
  ·rw[if_pos h1,if_pos (by omega)]
   simp[hf n (by omega)]
  ·rw[if_neg h1]
   by_cases h2:j=n
   ·subst h2
    rw[if_pos (by omega)]
    simp
   ·rw[if_neg (by omega)]
    simp[hf n (by omega)]
theorem aBz (l:List (Nat×List UInt8)):∀y∈l.map aID,eC y=true:=by
 intro y hy
 obtain⟨x,_,rfl⟩:=List.mem_map.1 hy
 simp[aID]
theorem aGG:(Tryz.prog.info? 174).map (fun i=>(i.zero.map (·.cells.size),i.size,i.bytes))=some (some 2,2,24):=by kernel_rfl
theorem aBA (w:World) {A:BrA} {s:BrS} (h:BrT w A s) (k:Nat) (hk:k<s.ports.length) (v:Int) (dst src:Vector UInt8 6) (ty:Int) (body:List UInt8) (vl prio:Int) (hn:s.ports.length<=32)
  (hst:∀b∈s.st,∃j:Nat,b.port=(j:Int)/\j<s.ports.length) (hp0:0<=prio) (hp7:prio<=7):
  Calls Tryz.prog 100 #[.pointer (some ⟨A.B,0,none⟩),.int .i64 (k:Int),.int .i64 v,.agg (xB dst src ty body vl prio).toArray] w fun e w'=>(∃u,e=.returned u/\OwnL w' w.heap.size 174 2 u ((lW s s.st k v dst src ty body prio).map aID))/\Below w.heap.size w w':=by
 have hlB:=h.ltB
 obtain⟨hz,hhz⟩:∃x,s.ports[k].hor=x:=⟨_,rfl⟩
 have hhz2:(s.ports.getD k ⟨0,[],0,0⟩).hor=hz:=by rw[List.getD_eq_getElem?_getD,List.getElem?_eq_getElem hk];exact hhz
 have hmayM:∀i,aEO s k i v hz=true->cV (s.ports.getD i ⟨0,[],0,0⟩).native (s.ports.getD i ⟨0,[],0,0⟩).tagged v=true:=fun i hi=>by
  unfold aEO at hi
  simp only[Bool.and_eq_true]at hi
  exact hi.1.2
 have HMY:=h_ (fun W (hW:BrT W A s)=>aIC W hW k hk v hn)
 rw[hhz]at HMY
 have HM1:=h_ (fun W (hW:BrT W A s) (i:Nat) (hi:i<s.ports.length) b1 b2 b3 b4 r1 r2 r3 r4=>aGE W hW k i hi v hz hn b1 b2 b3 b4 r1 r2 r3 r4)
 have HPR:=h_ (fun W (hW:BrT W A s) (i:Nat) (hi:i<s.ports.length) hm=>qN W hW i hi v dst src ty body prio hn hm hp0 hp7)
 have HFN:=h_ (fun W (hW:BrT W A s)=>aGx v dst W hW.ler)
 have HGR:=h_ (fun W=>gZ dst W)
 have hr:=h.rB
 unfold eR at hr
 have hnI:(s.ports.length:Int)<=32:=by omega
 have HST:=h_ hst
 have HMM:=h_ hmayM
 unfold bV at HPR
 clear hst hhz hp0 hp7 hmayM
 unfold xB
 go_enter Tryz.func100,Tryz.ntmps100
 obtain⟨W,hW⟩:∃W,w.alloc (.cells (u8v dst++(u8v src++[Value.int .i64 ty,.string ⟨body.toArray⟩,.int .i64 vl,.int .i64 prio])).toArray 160)=W:=⟨_,rfl⟩
 have bW:Below w.heap.size w W:=by rw[<-hW];exact ba_
 have q1:row W w.heap.size=(u8v dst++(u8v src++[Value.int .i64 ty,.string ⟨body.toArray⟩,.int .i64 vl,.int .i64 prio])).toArray:=by rw[<-hW];exact aE _ _ _ rfl
 have zW:W.heap.size=w.heap.size+1:=by rw[<-hW];simp
 have hT:=h.below bW
 clear h hr
 go_wp2_with fail
 (try rw[hW])
 clear hW
 (with_reducible refine(HMY.out _ hT).mono ?_)
 rintro e w1 ⟨b1,b2,b3,b4,rfl,c1,r1,r2,r3,r4⟩
 have z1:=c1.size
 have hT1:=hT.below c1
 have q2:=(aA c1 (by omega)).trans q1
 have B1:=bW.trans (c1.mono (by omega))
 have l1:b1<w1.heap.size:=aM (i:=0) (by rw[r1];simp)
 have l2:b2<w1.heap.size:=aM (i:=0) (by rw[r2];simp)
 have l3:b3<w1.heap.size:=aM (i:=0) (by rw[r3];simp)
 have l4:b4<w1.heap.size:=aM (i:=0) (by rw[r4];simp)
 have hr1:=hT1.rB
 unfold eR at hr1
 clear c1 hT q1 bW
 go_wp2_with fail
 have hG:GrowP fun W=>BrT W A s:=aCJ A s
 refine nV [(w.heap.size,(u8v dst++(u8v src++[Value.int .i64 ty,.string ⟨body.toArray⟩,.int .i64 vl,.int .i64 prio])).toArray),(A.B,#[.slice A.pa s.ports.length A.pcap,.slice (some ⟨A.SB,0,none⟩) s.ports.length s.ports.length,.pointer (some ⟨A.LT,0,none⟩),.pointer (some ⟨A.HT,0,none⟩),.int .i64 s.c0,.int .i64 s.c1,.int .i64 s.c2,.int .i64 s.c3,.int .i64 s.c4])] (fun W=>BrT W A s) hG (hT1) (fun hS=>?_)
 refine sp 0 hG hS ?_
 refine sp 1 hG hS ?_
 refine sp 2 hG hS ?_
 refine sp 3 hG hS ?_
 refine sp 4 hG hS ?_
 refine sp 5 hG hS ?_
 refine sp 6 hG hS ?_
 refine sp 7 hG hS ?_
 refine sc 8 (v:=?_) hG hS ?_ ?_
 rotate_left
 ·intro w' hS'
  obtain⟨hS',hX'⟩:=hS'
  simp only[Rws]at hS'
  go_simp
  with_reducible refine(HFN.out _ hX').mono ?_
  rintro e w'' ⟨rfl,hb⟩
  exact⟨_,rfl,by rfl,hb⟩
 refine sp 9 hG hS ?_
 refine sp 10 hG hS ?_
 refine sp 11 hG hS ?_
 refine sp 12 hG hS ?_
 refine sp 13 hG hS ?_
 refine aG kr_ (fun w2 bw2=>?_) _
 have c2:=aL (Below.drew (Below.refl _ _)) bw2
 clear bw2
 have z2:=c2.size
 have hT2:=hT1.below c2
 have q3:=(aA c2 (by omega)).trans q2
 have r1':=(aA c2 (by omega)).trans r1
 have r2':=(aA c2 (by omega)).trans r2
 have r3':=(aA c2 (by omega)).trans r3
 have r4':=(aA c2 (by omega)).trans r4
 have B2:=B1.trans (c2.mono (by omega))
 clear hS c2 hT1 q2 r1 r2 r3 r4 hr1 B1
 obtain⟨fo,hfo⟩:∃x,j5 v dst s.st=x:=⟨_,rfl⟩
 obtain⟨fp,hfp⟩:∃x,vX v dst s.st=x:=⟨_,rfl⟩
 obtain⟨gd,hgd⟩:∃x,grp dst=x:=⟨_,rfl⟩
 rw[hfo,hfp]
 rw[hgd]at HGR
 have hport:∀b,fo=some b->fp=b.port/\∃j:Nat,b.port=(j:Int)/\j<s.ports.length:=fun b hb=>by
  rw[hb]at hfo
  refine⟨by rw[<-hfp];unfold vX;rw[hfo],HST.out b (List.mem_of_find?_eq_some hfo)⟩
 have hgoes:∀i,aGF s s.st k v dst i=(aEO s k i v hz&&(gd||xQ fo i)):=fun i=>by
  unfold aGF
  rw[hfo,hgd,hhz2]
 have HGO:=h_ hgoes
 have HPT:=h_ hport
 clear hfo hfp hgd hgoes hport HST hhz2 HFN HMY
 by_cases hone:∃b,fo=some b/\gd=false
 ·obtain⟨b,rfl,rfl⟩:=hone
  obtain⟨e1,j,e2,hj⟩:=HPT.out b rfl
  have hfl:=mH j (f:=zP s s.st k v dst src ty body prio) (fun i hi=>by
   unfold zP
   have:xQ (some b) i=false:=by show(b.port==(i:Int))=false;rw[e2];simp;omega
   rw[HGO.out,this]
   simp) s.ports.length
  rw[if_pos hj]at hfl
  have hrel:lW s s.st k v dst src ty body prio=if aEO s k j v hz then fC (s.ports.getD j ⟨0,[],0,0⟩) j v dst src ty body prio else []:=by
   unfold lW
   rw[hfl]
   unfold zP
   have:xQ (some b) j=true:=by show(b.port==(j:Int))=true;rw[e2];simp
   rw[HGO.out,this]
   simp
  obtain⟨mb,hmb⟩:∃x,aEO s k j v hz=x:=⟨_,rfl⟩
  have hM1:=fun W (hW:BrT W A s) g1 g2 g3 g4=>HM1.out W hW j hj b1 b2 b3 b4 g1 g2 g3 g4
  rw[hmb]at hM1 hrel
  have HX1:=h_ hM1
  have HREL:=h_ hrel
  have HMB:=h_ hmb
  rw[e1,e2]
  clear hfl hrel hmb hM1 e1 e2 HPT HGO HM1
  go_wp2_with fail
  (with_reducible refine(HGR.out _).mono ?_)
  rintro e w3 ⟨rfl,c3⟩
  have z3:=c3.size
  have hT3:=hT2.below c3
  have q4:=(aA c3 (by omega)).trans q3
  have s1:=(aA c3 (by omega)).trans r1'
  have s2:=(aA c3 (by omega)).trans r2'
  have s3:=(aA c3 (by omega)).trans r3'
  have s4:=(aA c3 (by omega)).trans r4'
  have B3:=B2.trans (c3.mono (by omega))
  clear c3 hT2 q3 r1' r2' r3' r4' B2
  go_wp2_with fail
  (with_reducible refine(HX1.out _ hT3 s1 s2 s3 s4).mono ?_)
  rintro e w4 ⟨rfl,c4⟩
  have z4:=c4.size
  have hT4:=hT3.below c4
  have q5:=(aA c4 (by omega)).trans q4
  have B4:=B3.trans (c4.mono (by omega))
  clear c4 hT3 q4 s1 s2 s3 s4 B3
  cases mb with
  | false=>
   go_wp2_with fail
   go_ret
   refine⟨⟨_,rfl,?_⟩,B4⟩
   rw[HREL.out]
   exact OwnL.nil _ _ _ _
  | true=>
   have hmm:=HMM.out j HMB.out
   have hgj:s.ports.getD j ⟨0,[],0,0⟩=s.ports[j]:=by rw[List.getD_eq_getElem?_getD,List.getElem?_eq_getElem hj];rfl
   rw[hgj]at hmm
   have hP:=HPR.out w4 hT4 j hj hmm
   have HP:=h_ hP
   have HGJ:=h_ hgj
   clear hmm hgj hP
   go_wp2_with fail
   (with_reducible refine HP.out.mono ?_)
   rintro e w5 ⟨⟨u,rfl,hown⟩,c5⟩
   have HW:=h_ hown
   clear hown HP
   go_wp2_with fail
   go_ret
   refine⟨⟨_,rfl,?_⟩,B4.trans (c5.mono (by omega))⟩
   rw[HREL.out];simp only[↓reduceIte];rw[HGJ.out]
   exact HW.out.lower (by omega)
 ·have hgo2:∀i,zP s s.st k v dst src ty body prio i=if aEO s k i v hz then fC (s.ports.getD i ⟨0,[],0,0⟩) i v dst src ty body prio else []:=fun i=>by
   unfold zP
   rw[HGO.out]
   have:(gd||xQ fo i)=true:=by
    cases fo with
    | none=>simp[xQ]
    | some b=>
     cases gd with
     | true=>rfl
     | false=>exact absurd ⟨b,rfl,rfl⟩ hone
   rw[this,Bool.and_true]
  have HG2:=h_ hgo2
  have hcase:fo.isSome=false∨(fo.isSome=true/\gd=true):=by
   cases fo with
   | none=>exact .inl rfl
   | some b=>
    cases gd with
    | true=>exact .inr ⟨rfl,rfl⟩
    | false=>exact absurd ⟨b,rfl,rfl⟩ hone
  obtain⟨fs,hfs⟩:∃x,fo.isSome=x:=⟨_,rfl⟩
  rw[hfs]at hcase ⊢
  clear hgo2 hone HGO HPT hfs
  rcases hcase with rfl | ⟨rfl,rfl⟩
  ·skip
   have hr2:=hT2.rB
   unfold eR at hr2
   go_wp2_with fail
   go_loopw [12,55] (fun u i wr=>∃j:Nat,j<=s.ports.length/\i=.int .i64 j/\OwnL wr (w2).heap.size 174 2 u (((List.range j).flatMap (zP s s.st k v dst src ty body prio)).map aID)/\Below (w2).heap.size w2 wr) (fun _ i _=>s.ports.length - (intOf i).toNat)
   case atStart=>exact⟨0,by omega,rfl,OwnL.nil _ _ _ _,Below.refl _ _⟩
   case round=>
    obtain⟨j,hj,rfl,hown,cb⟩:=hrel
    have zb:=cb.size
    by_cases hlt:j<s.ports.length
    ·have hltI:(j:Int)<(s.ports.length:Int):=by omega
     have hTr:=hT2.below cb
     have q5:=(aA cb (by omega)).trans q3
     have hfl:(List.range (j+1)).flatMap (zP s s.st k v dst src ty body prio)=(List.range j).flatMap (zP s s.st k v dst src ty body prio)++zP s s.st k v dst src ty body prio j:=by rw[List.range_succ,List.flatMap_append];simp
     have hlen:=fR (fun i=>zZ s s.st k v dst src ty body prio i) j
     rw[HG2.out j]at hfl
     obtain⟨mb,hmb⟩:∃x,aEO s k j v hz=x:=⟨_,rfl⟩
     have hM1:=HM1.out wr hTr j hlt b1 b2 b3 b4 ((aA cb (by omega)).trans r1') ((aA cb (by omega)).trans r2') ((aA cb (by omega)).trans r3') ((aA cb (by omega)).trans r4')
     rw[hmb]at hM1 hfl
     obtain⟨acc,hacc⟩:∃x,(List.range j).flatMap (zP s s.st k v dst src ty body prio)=x:=⟨_,rfl⟩
     rw[hacc]at hown hfl hlen
     have HX1:=h_ hM1
     have HFL:=h_ hfl
     have HMB:=h_ hmb
     have HW:=h_ hown
     clear hmb hM1 hfl hown hacc
     have hroom:acc.length<=32:=by omega
     go_wp2_with fail
     (with_reducible refine HX1.out.mono ?_)
     rintro e w4 ⟨rfl,c4⟩
     have z4:=c4.size
     have hT4:=hTr.below c4
     have q6:=(aA c4 (by omega)).trans q5
     have hown4:=HW.out.below c4
     have cb4:=cb.trans (c4.mono (by omega))
     have HW4:=h_ hown4
     clear HX1 HW hown4 c4
     cases mb with
     | false=>
      go_wp2_with fail
      go_roundw
      case rel=>exact⟨j+1,by omega,by simp,by rw[HFL.out];simpa using HW4.out,cb4⟩
      case measure=>simp[intOf];omega
     | true=>
      have hmm:=HMM.out j HMB.out
      have hgj:s.ports.getD j ⟨0,[],0,0⟩=s.ports[j]:=by rw[List.getD_eq_getElem?_getD,List.getElem?_eq_getElem hlt];rfl
      rw[hgj]at hmm
      have hP:=HPR.out w4 hT4 j hlt hmm
      have HP:=h_ hP
      have HGJ:=h_ hgj
      clear hmm hgj hP
      go_wp2_with fail
      (with_reducible refine HP.out.mono ?_)
      rintro e w5 ⟨⟨u2,rfl,hown2⟩,c5⟩
      have z5:=c5.size
      have hown5:=HW4.out.below c5
      have hpl:=iI s.ports[j] j v dst src ty body prio
      have cb5:=cb4.trans (c5.mono (by omega))
      have HW5:=h_ hown5
      have HW2:=h_ hown2
      clear HP HW4 hown5 hown2 c5
      go_wp2_with (at_builtin;refine dF rfl rfl Tryz.underlying170 aGG (by decide) (by decide) (w2).heap.size _ _ rfl HW5.out _ _ _ rfl HW2.out (aBz _) ?_ (by omega) ?_)
      ·simp;omega
      intro u3 w6 hown6 c6
      have z6:=c6.size
      have cb6:Below (w2).heap.size w2 w6:=cb5.trans c6
      have HW6:=h_ hown6
      clear hown6
      go_wp2_with fail
      go_roundw
      case rel=>exact⟨j+1,by omega,by simp,by rw[HFL.out];simp only[↓reduceIte];rw[HGJ.out,List.map_append];exact HW6.out,cb6⟩
      case measure=>simp[intOf];omega
    ·obtain rfl:j=s.ports.length:=by omega
     have hltI:¬(s.ports.length:Int)<(s.ports.length:Int):=by omega
     have HW:=h_ hown
     clear hown
     go_wp2_with fail
     go_ret
     exact⟨⟨_,rfl,HW.out.lower (by omega)⟩,B2.trans (cb.mono (by omega))⟩
  ·go_wp2_with fail
   (with_reducible refine(HGR.out _).mono ?_)
   rintro e w3 ⟨rfl,c3⟩
   have z3:=c3.size
   replace hT2:=hT2.below c3
   replace q3:=(aA c3 (by omega)).trans q3
   replace r1':=(aA c3 (by omega)).trans r1'
   replace r2':=(aA c3 (by omega)).trans r2'
   replace r3':=(aA c3 (by omega)).trans r3'
   replace r4':=(aA c3 (by omega)).trans r4'
   replace B2:=B2.trans (c3.mono (by omega))
   clear c3
   have hr2:=hT2.rB
   unfold eR at hr2
   go_wp2_with fail
   go_loopw [12,55] (fun u i wr=>∃j:Nat,j<=s.ports.length/\i=.int .i64 j/\OwnL wr (w3).heap.size 174 2 u (((List.range j).flatMap (zP s s.st k v dst src ty body prio)).map aID)/\Below (w3).heap.size w3 wr) (fun _ i _=>s.ports.length - (intOf i).toNat)
   case atStart=>exact⟨0,by omega,rfl,OwnL.nil _ _ _ _,Below.refl _ _⟩
   case round=>
    obtain⟨j,hj,rfl,hown,cb⟩:=hrel
    have zb:=cb.size
    by_cases hlt:j<s.ports.length
    ·have hltI:(j:Int)<(s.ports.length:Int):=by omega
     have hTr:=hT2.below cb
     have q5:=(aA cb (by omega)).trans q3
     have hfl:(List.range (j+1)).flatMap (zP s s.st k v dst src ty body prio)=(List.range j).flatMap (zP s s.st k v dst src ty body prio)++zP s s.st k v dst src ty body prio j:=by rw[List.range_succ,List.flatMap_append];simp
     have hlen:=fR (fun i=>zZ s s.st k v dst src ty body prio i) j
     rw[HG2.out j]at hfl
     obtain⟨mb,hmb⟩:∃x,aEO s k j v hz=x:=⟨_,rfl⟩
     have hM1:=HM1.out wr hTr j hlt b1 b2 b3 b4 ((aA cb (by omega)).trans r1') ((aA cb (by omega)).trans r2') ((aA cb (by omega)).trans r3') ((aA cb (by omega)).trans r4')
     rw[hmb]at hM1 hfl
     obtain⟨acc,hacc⟩:∃x,(List.range j).flatMap (zP s s.st k v dst src ty body prio)=x:=⟨_,rfl⟩
     rw[hacc]at hown hfl hlen
     have HX1:=h_ hM1
     have HFL:=h_ hfl
     have HMB:=h_ hmb
     have HW:=h_ hown
     clear hmb hM1 hfl hown hacc
     have hroom:acc.length<=32:=by omega
     go_wp2_with fail
     (with_reducible refine HX1.out.mono ?_)
     rintro e w4 ⟨rfl,c4⟩
     have z4:=c4.size
     have hT4:=hTr.below c4
     have q6:=(aA c4 (by omega)).trans q5
     have hown4:=HW.out.below c4
     have cb4:=cb.trans (c4.mono (by omega))
     have HW4:=h_ hown4
     clear HX1 HW hown4 c4
     cases mb with
     | false=>
      go_wp2_with fail
      go_roundw
      case rel=>exact⟨j+1,by omega,by simp,by rw[HFL.out];simpa using HW4.out,cb4⟩
      case measure=>simp[intOf];omega
     | true=>
      have hmm:=HMM.out j HMB.out
      have hgj:s.ports.getD j ⟨0,[],0,0⟩=s.ports[j]:=by rw[List.getD_eq_getElem?_getD,List.getElem?_eq_getElem hlt];rfl
      rw[hgj]at hmm
      have hP:=HPR.out w4 hT4 j hlt hmm
      have HP:=h_ hP
      have HGJ:=h_ hgj
      clear hmm hgj hP
      go_wp2_with fail
      (with_reducible refine HP.out.mono ?_)
      rintro e w5 ⟨⟨u2,rfl,hown2⟩,c5⟩
      have z5:=c5.size
      have hown5:=HW4.out.below c5
      have hpl:=iI s.ports[j] j v dst src ty body prio
      have cb5:=cb4.trans (c5.mono (by omega))
      have HW5:=h_ hown5
      have HW2:=h_ hown2
      clear HP HW4 hown5 hown2 c5
      go_wp2_with (at_builtin;refine dF rfl rfl Tryz.underlying170 aGG (by decide) (by decide) (w3).heap.size _ _ rfl HW5.out _ _ _ rfl HW2.out (aBz _) ?_ (by omega) ?_)
      ·simp;omega
      intro u3 w6 hown6 c6
      have z6:=c6.size
      have cb6:Below (w3).heap.size w3 w6:=cb5.trans c6
      have HW6:=h_ hown6
      clear hown6
      go_wp2_with fail
      go_roundw
      case rel=>exact⟨j+1,by omega,by simp,by rw[HFL.out];simp only[↓reduceIte];rw[HGJ.out,List.map_append];exact HW6.out,cb6⟩
      case measure=>simp[intOf];omega
    ·obtain rfl:j=s.ports.length:=by omega
     have hltI:¬(s.ports.length:Int)<(s.ports.length:Int):=by omega
     have HW:=h_ hown
     clear hown
     go_wp2_with fail
     go_ret
     exact⟨⟨_,rfl,HW.out.lower (by omega)⟩,B2.trans (cb.mono (by omega))⟩
end
section
open Go.RowKit Go.Shelf
structure TalkD where
 ip:List UInt8
 mac:Vector UInt8 6
 ok:Bool
 ask:Option (List UInt8×(Vector UInt8 6->List UInt8))
structure TalkC (dst src:Vector UInt8 6) (ty:Int) (body:List UInt8) (t:TalkD):Prop where
 ann:xC dst src ty body t.ip t.mac t.ok
 no:t.ask=none->∀(w:World) (T:Addr) (v:Int),nH (some T) v dst src ty body w dP false
 yes:∀ip ans,t.ask=some (ip,ans)->Asks dst src ty body ip ans
def aLo (v:Int) (t:TalkD) (bi:List HB):Option (HB×(Vector UInt8 6->List UInt8)):=
 match t.ask with
 | none=>none
 | some (ip,ans)=>(jO v ip bi).map fun c=>(c,ans)
def BrS.port (s:BrS) (k:Nat):PortD:=s.ports.getD k ⟨0,[],0,0⟩
def vY (s:BrS) (k:Nat) (d:EthD) (t:TalkD):BrS×List (Nat×List UInt8)×Int:=
 if grp d.src then ({s with c0:=s.c0+1},[],3)
 else if d.dst==bpduTo then ({s with c1:=s.c1+1},[],0)
 else if decide (s.states.getD k 0<2)||(inP (s.port k).native (s.port k).tagged d.vlan).2 !=0 then ({s with c2:=s.c2+1},[],7)
 else
  let v:=(inP (s.port k).native (s.port k).tagged d.vlan).1
  let st:=j6 (s.port k).lim v d.src k s.st
  if s.states.getD k 0<3 then ({s with st:=st,c2:=s.c2+1},[],7)
  else
   let bi:=kR v t.ip t.mac t.ok s.bi
   match aLo v t bi with
   | some (c,ans)=>({s with st:=st,bi:=bi,c4:=s.c4+1},fC (s.port k) k v d.src c.mac d.ty (ans c.mac) d.prio,0)
   | none=>({s with st:=st,bi:=bi,c3:=s.c3+1},lW s st k v d.dst d.src d.ty d.body d.prio,0)
def e9 (s:BrS) (k:Nat) (l:List UInt8) (t:TalkD):BrS×List (Nat×List UInt8)×Int:=
 match bM l with
 | .error _=>({s with c0:=s.c0+1},[],3)
 | .ok d=>vY s k d t
structure BrG (s:BrS) (N:Nat):Prop where
 n32:s.ports.length<=32
 std:fJ s.st
 stp:∀b∈s.st,∃j:Nat,b.port=(j:Int)/\j<s.ports.length
 stn:s.st.length<=N
 sta:∀b∈s.st,0<=b.age/\b.age<=1000000
 bid:DistH s.bi
 bia:∀b∈s.bi,0<=b.age/\b.age<=1000000
 bin:s.bi.length<=1024
 cs:(0<=s.c0/\s.c0<=N)/\(0<=s.c1/\s.c1<=N)/\(0<=s.c2/\s.c2<=N)/\(0<=s.c3/\s.c3<=N)/\(0<=s.c4/\s.c4<=N)
 age:1<=s.ageing/\s.ageing<=1000000
theorem aKp (l:List UInt8) (n:Int) (h:bM l=.error n):(n !=0)=true:=by
 unfold bM at h
 have hR:∀k m v p,dC l k m v p=.error n->(n !=0)=true:=by
  intro k m v p h
  unfold dC at h
  repeat' split at h
  all_goals first | (cases h;rfl) | (cases h;done)
 repeat' split at h
 all_goals first | exact hR _ _ _ _ h | (cases h;rfl)
theorem oD {l:List UInt8} {d:EthD} (h:bM l=.ok d):0<=d.prio/\d.prio<=7/\d.body.length<=1500:=by
 have h1:=(vW l d h).1
 simp[eA]at h1
 omega
theorem aEP {native:Int} {l:List Int} (h:iH native l=true):0<=native/\native<=4094/\∀v∈l,1<=v/\v<=4094:=by
 unfold iH at h
 simp only[Bool.and_eq_true,decide_eq_true_eq]at h
 obtain⟨⟨⟨h1,h2⟩,_⟩,h3⟩:=h
 refine⟨h1,h2,?_⟩
 have:∀(l:List Int) (last:Int),0<=last->okR native last l=true->∀v∈l,1<=v/\v<=4094:=by
  intro l
  induction l with
  | nil=>intro _ _ _ v hv;cases hv
  | cons x l ih=>
   intro last h0 h v hv
   simp only[okR,Bool.and_eq_true,Bool.not_eq_true',Bool.or_eq_false_iff,decide_eq_false_iff_not]at h
   rcases List.mem_cons.1 hv with e | e
   ·subst e;omega
   ·exact ih x (by omega) h.2 v e
 exact this l 0 (Int.le_refl _) h3
theorem aBB {native:Int} {l:List Int} {v:Int} (h:cV native l v=true):1<=v/\v<=4094:=by
 unfold cV at h
 simp only[Bool.and_eq_true,bne_iff_ne,Bool.or_eq_true,beq_iff_eq,List.contains_iff_mem]at h
 obtain⟨⟨h1,h2⟩,h3⟩:=h
 obtain⟨q1,q2,q3⟩:=aEP h1
 rcases h3 with e | e
 ·omega
 ·exact q3 v e
theorem aLW {native:Int} {l:List Int} {vl v:Int} (h:inP native l vl=(v,0)):cV native l v=true/\1<=v/\v<=4094:=by
 have hm:cV native l v=true:=by
  have e:inP native l vl=if cV native l (if vl= -1∨vl=0 then native else vl)=true then ((if vl= -1∨vl=0 then native else vl),0)else (0,12):=rfl
  generalize (if vl= -1∨vl=0 then native else vl)=v0 at e
  rw[e]at h
  by_cases hm:cV native l v0=true
  ·rw[if_pos hm,Prod.mk.injEq]at h
   rw[<-h.1]
   exact hm
  ·rw[if_neg hm,Prod.mk.injEq]at h
   omega
 exact⟨hm,aBB hm⟩
theorem aAa {b c:LB}:∀{m:List LB},c∈aAE b m->c=b∨c∈m
 | [],h=>by left;simpa[aAE]using h
 | d::m,h=>by
  simp only[aAE]at h
  split at h
  ·rcases List.mem_cons.1 h with e | e
   ·exact .inl e
   ·exact .inr (by simp[e])
  ·rcases List.mem_cons.1 h with e | e
   ·exact .inr (by simp[e])
   ·rcases aAa e with e | e
    ·exact .inl e
    ·exact .inr (by simp[e])
theorem aDY {lim v:Int} {mac:Vector UInt8 6} {port:Int} {m:List LB} {c:LB} (h:c∈j6 lim v mac port m):c=⟨v,mac,port,0⟩∨c∈m:=by
 have hc:∀(c:Prop) [Decidable c] (x y:List LB),(if c then x else y)=x∨(if c then x else y)=y:=by
  intro c _ x y
  by_cases hc:c
  ·exact .inl (if_pos hc)
  ·exact .inr (if_neg hc)
 have key:j6 lim v mac port m=aAE ⟨v,mac,port,0⟩ m∨j6 lim v mac port m=m:=by
  unfold j6
  exact hc _ _ _
 rcases key with e | e<;>rw[e]at h
 ·exact aAa h
 ·exact .inr h
theorem xR {s:BrS} {N:Nat} (g:BrG s N) {lim v:Int} {mac:Vector UInt8 6} {k:Nat} {st:List LB} (hs:j6 lim v mac (k:Int) s.st=st) (hk:k<s.ports.length):∀b∈st,∃j:Nat,b.port=(j:Int)/\j<s.ports.length:=by
 intro b hb
 rw[<-hs]at hb
 rcases aDY hb with e | e
 ·subst e;exact⟨k,rfl,hk⟩
 ·exact g.stp b e
theorem aKq {dst src:Vector UInt8 6} {ty:Int} {body:List UInt8} {t:TalkD} (h:TalkC dst src ty body t) (v:Int) {A:BrA} {s:BrS}:∃(fr:List Value) (b:Bool),(∀W,BrT W A s->nH (some ⟨A.HT,0,none⟩) v dst src ty body W fr b)/\
  ((b=false/\fr=dP/\aLo v t s.bi=none)∨∃c ans,b=true/\fr=bV src c.mac ty (ans c.mac)/\aLo v t s.bi=some (c,ans)):=by
 unfold aLo
 cases ha:t.ask with
 | none=>exact⟨dP,false,fun W _=>h.no ha W _ v,.inl ⟨rfl,rfl,rfl⟩⟩
 | some x=>
  obtain⟨ip,ans⟩:=x
  have hs:=h.yes ip ans ha
  cases hf:jO v ip s.bi with
  | none=>exact⟨dP,false,fun W hW=>hs.none v hW.hush (by unfold eT;rw[hf];rfl),.inl ⟨rfl,rfl,by simp[hf]⟩⟩
  | some c=>exact⟨_,true,fun W hW=>hs.some v c.mac hW.hush (by unfold eT;rw[hf]),.inr ⟨c,ans,rfl,rfl,by simp[hf]⟩⟩
section
variable (w:World) {A:BrA} {s:BrS}
structure ComeX (l:List UInt8) (dst src:Vector UInt8 6) (ty:Int) (body:List UInt8) (vl prio er:Int):Prop where
 parse:∀w,Calls Tryz.prog 93 #[.string ⟨l.toArray⟩] w fun e w'=>e=.returned (.tuple #[.agg (xB dst src ty body vl prio).toArray,.int .i64 er])/\Below w.heap.size w w'
 err:er≠0->∃n,bM l=.error n
 good:er=0->bM l=.ok ⟨dst,src,ty,body,vl,prio⟩
theorem aM3 (l:List UInt8) (hl:l.length<=1000000):∃dst src ty body vl prio er,ComeX l dst src ty body vl prio er:=by
 cases hp:bM l with
 | error n=>
  refine⟨cF,cF,0,[],0,0,n,fun w=>aBq l n w hl hp,fun _=>⟨n,hp⟩,fun h=>?_⟩
  have:=aKp l n hp
  rw[h]at this
  cases this
 | ok d=>exact⟨d.dst,d.src,d.ty,d.body,d.vlan,d.prio,0,fun w=>aCG l d w hl hp,fun h=>absurd rfl h,fun _=>hp⟩
end
end
section
open Go.RowKit Go.Shelf
section
variable (w:World) {A:BrA} {s:BrS}
theorem aGH (h:BrT w A s) {N:Nat} (hN:N<=900000) (g:BrG s N) (k:Nat) (hk:k<s.ports.length) (l:List UInt8) (hl:l.length<=1000000) (t:TalkD) (ht:∀d,bM l=.ok d->TalkC d.dst d.src d.ty d.body t):
  Calls Tryz.prog 64 #[.pointer (some ⟨A.B,0,none⟩),.int .i64 (k:Int),.string ⟨l.toArray⟩] w fun e w'=>(∃u,e=.returned (.tuple #[u,.int .i64 (e9 s k l t).2.2])/\OwnL w' w.heap.size 174 2 u ((e9 s k l t).2.1.map aID))/\BelowS w.heap.size A.muts w w'/\BrT w' A (e9 s k l t).1:=by
 obtain⟨dst,src,ty,body,vl,prio,er,hx⟩:=aM3 l hl
 have hn:=g.n32
 have HHS:=h_ (fun w (h:BrT w A s)=>aDX w h k hn)
 rw[decide_eq_true (by omega:(0:Int)<=(k:Int)),decide_eq_true (by omega:(k:Int)<(s.ports.length:Int))]at HHS
 have HPA:=h_ hx.parse
 unfold xB at HPA
 have HXE:=h_ hx.err
 have HXG:=h_ hx.good
 have HTO:=h_ aGB
 have HGR:=h_ (fun w=>gZ src w)
 obtain⟨pb,po,ta,tc,epa,hpb,hrd⟩:=h.port hk
 obtain⟨p,hp⟩:∃x,s.ports[k]=x:=⟨_,rfl⟩
 rw[hp]at hrd
 have hpk:s.port k=p:=by unfold BrS.port;rw[List.getD_eq_getElem?_getD,List.getElem?_eq_getElem hk];exact hp
 obtain⟨q,hq⟩:∃x,s.states[k]'(by rw[h.lenS];exact hk)=x:=⟨_,rfl⟩
 have hqk:s.states.getD k 0=q:=by rw[List.getD_eq_getElem?_getD,List.getElem?_eq_getElem (by rw[h.lenS];exact hk)];exact hq
 have HST:=h_ (fun W (hW:BrT W A s)=>by have:=xP hW hk;rw[hq]at this;exact this)
 obtain⟨iv,hiv⟩:∃x,inP p.native p.tagged vl=x:=⟨_,rfl⟩
 have HIN:=h_ (fun W (hW:BelowS w.heap.size A.muts w W)=>aKo p.native ta tc p.tagged dst src ty body vl prio W (hrd W hW).2)
 rw[hiv]at HIN
 have hload:∀W,Below w.heap.size w W->(mC 62 (.pointer (some ⟨pb,po+k*4,none⟩))).run Tryz.prog W=.ok (.agg #[Value.int .i64 p.native,Value.slice ta p.tagged.length tc]) W:=fun W hW=>by
  have h4:=(hrd W (BelowS.of hW)).1
  exact cI (l:=[Value.int .i64 p.native,Value.slice ta p.tagged.length tc]) (fun j u hj=>h4 j u (by
   match j,hj with
   | 0,hj=>exact hj
   | 1,hj=>exact hj)) rfl
 obtain⟨o,ho⟩:∃o,po+k*4=o:=⟨_,rfl⟩
 rw[ho]at hload
 have HLO:=h_ hload
 have HIV:=h_ hiv
 have HQK:=h_ hqk
 have HPK:=h_ hpk
 have HEPA:=h_ epa
 obtain⟨iv1,iv2⟩:=iv
 dsimp only at HIN
 have hkI:(k:Int)<(s.ports.length:Int):=by omega
 have hk0:(0:Int)<=(k:Int):=by omega
 have hnI:(s.ports.length:Int)<=32:=by omega
 obtain⟨⟨ca0,cb0⟩,⟨ca1,cb1⟩,⟨ca2,cb2⟩,⟨ca3,cb3⟩,⟨ca4,cb4⟩⟩:=g.cs
 have c0I:s.c0<=900000:=by omega
 have c1I:s.c1<=900000:=by omega
 have c2I:s.c2<=900000:=by omega
 have c3I:s.c3<=900000:=by omega
 have c4I:s.c4<=900000:=by omega
 have HT:=h_ ht
 have HG:=h_ g
 clear hx hp hq hiv hload hrd hpk hqk ht cb0 cb1 cb2 cb3 cb4 g epa
 go_enter Tryz.func64,Tryz.ntmps64
 go_wp2_with fail
 (with_reducible refine(HHS.out _ h).mono ?_)
 rintro e w1 ⟨rfl,rfl⟩
 go_wp2_with fail
 (with_reducible refine(HPA.out _).mono ?_)
 rintro e w2 ⟨rfl,b2⟩
 have hT2:=h.below b2
 have z2:=b2.size
 obtain⟨w3,hw3⟩:∃x,w2.alloc (.cells (u8v dst++(u8v src++[Value.int .i64 ty,.string ⟨body.toArray⟩,.int .i64 vl,.int .i64 prio])).toArray 160)=x:=⟨_,rfl⟩
 obtain⟨X,hX⟩:∃x,w2.heap.size=x:=⟨_,rfl⟩
 have rX:row w3 X=(u8v dst++(u8v src++[Value.int .i64 ty,.string ⟨body.toArray⟩,.int .i64 vl,.int .i64 prio])).toArray:=by rw[<-hw3,<-hX];exact aE _ _ _ rfl
 have b23:Below w2.heap.size w2 w3:=by rw[<-hw3];exact ba_
 have z3:w3.heap.size=X+1:=by rw[<-hw3,<-hX];exact aF _ _
 have hT3:=hT2.below b23
 have B3:=b2.trans (b23.mono z2)
 have hr3:=hT3.rB
 unfold eR at hr3
 rw[HEPA.out]at hr3
 have hst3:=HST.out w3 hT3
 have hXw:w1.heap.size<=X:=by omega
 have hXB:X≠A.B:=by have:=h.ltB;omega
 have hXL:X≠A.LM:=by have:=h.ler.ok.lt;omega
 have hXH:X≠A.HM:=by have:=h.hush.ok.lt;omega
 rw[hX]at z2
 clear b2 b23 hT2 h
 go_wp2_with fail
 (try rw[hX])
 (try clear hw3)
 have hlB3:=hT3.ltB
 have hG:GrowP fun W=>Below w1.heap.size w1 W:=d6 w1
 have hload:=HLO.out
 refine nV [(A.B,#[.slice (some ⟨pb,po,none⟩) s.ports.length A.pcap,.slice (some ⟨A.SB,0,none⟩) s.ports.length s.ports.length,.pointer (some ⟨A.LT,0,none⟩),.pointer (some ⟨A.HT,0,none⟩),.int .i64 s.c0,.int .i64 s.c1,.int .i64 s.c2,.int .i64 s.c3,.int .i64 s.c4]),(X,(u8v dst++(u8v src++[Value.int .i64 ty,.string ⟨body.toArray⟩,.int .i64 vl,.int .i64 prio])).toArray)] (fun W=>Below w1.heap.size w1 W) hG (B3) (fun hS=>?_)
 refine sp 0 hG hS ?_
 refine sp 1 hG hS ?_
 refine sp 2 hG hS ?_
 refine sp 3 hG hS ?_
 refine sp 4 hG hS ?_
 refine sp 5 hG hS ?_
 refine sp 6 hG hS ?_
 refine sp 7 hG hS ?_
 refine sp 8 hG hS ?_
 refine sc 9 (v:=?_) hG hS ?_ ?_
 rotate_left
 ·intro w' hS'
  obtain⟨hS',hX'⟩:=hS'
  simp only[Rws]at hS'
  go_simp
  with_reducible refine(HIN.out _ (BelowS.of hX')).mono ?_
  rintro e w'' ⟨rfl,hb⟩
  exact⟨_,rfl,by rfl,hb⟩
 refine sp 10 hG hS ?_
 refine sp 11 hG hS ?_
 refine sp 12 hG hS ?_
 refine sp 13 hG hS ?_
 refine sp 14 hG hS ?_
 refine aG kr_ (fun w4 bw4=>?_) _
 have b34:=aL (Below.drew (Below.refl _ _)) bw4
 have z4:=b34.size
 have hT4:=hT3.below b34
 have B4:=B3.trans (b34.mono (by omega))
 have rX4:=(aA b34 (by omega)).trans rX
 have hr4:=hT4.rB
 unfold eR at hr4
 have zX4:X<w4.heap.size:=by omega
 clear hS hload bw4 b34 hT3 B3 rX hr3 hst3 z3 hX HIN HLO
 by_cases he:er=0
 case neg=>
  obtain⟨n,hperr⟩:=HXE.out he
  have hcome:e9 s k l t=({s with c0:=s.c0+1},[],3):=by unfold e9;rw[hperr]
  have he1:(er !=0)=true:=by simpa using he
  have HC:=h_ hcome
  clear hcome hperr he
  go_wp2_with fail
  go_ret2
  refine⟨⟨.slice none 0 0,by rw[HC.out];rfl,by rw[HC.out];exact OwnL.nil _ _ _ _⟩,(BelowS.of B4).trans (BelowS.set w4 _ (by simp[BrA.muts])),by rw[HC.out];exact hT4.setB (s.c0+1) s.c1 s.c2 s.c3 s.c4 _ rfl⟩
 subst he
 have hpok:=HXG.out rfl
 obtain⟨hp0,hp7,hbl⟩:=oD hpok
 have htk:=HT.out _ hpok
 dsimp only at hp0 hp7 hbl htk
 have hcome:e9 s k l t=vY s k ⟨dst,src,ty,body,vl,prio⟩ t:=by unfold e9;rw[hpok]
 unfold vY at hcome
 simp only[HPK.out,HQK.out,HIV.out]at hcome
 have HTK:=h_ htk
 clear hpok htk HXE HXG HT HPA
 obtain⟨gs,hgs⟩:∃x,grp src=x:=⟨_,rfl⟩
 rw[hgs]at hcome HGR
 cases gs with
 | true=>
  simp only[if_true]at hcome
  have HC:=h_ hcome
  clear hcome
  go_wp2_with fail
  (with_reducible refine(HGR.out _).mono ?_)
  rintro e w5 ⟨rfl,b5⟩
  have hT5:=hT4.below b5
  have B5:=B4.trans (b5.mono (by omega))
  have hr5:=hT5.rB
  unfold eR at hr5
  clear hT4 hr4
  go_wp2_with fail
  go_ret2
  refine⟨⟨.slice none 0 0,by rw[HC.out];rfl,by rw[HC.out];exact OwnL.nil _ _ _ _⟩,(BelowS.of B5).trans (BelowS.set w5 _ (by simp[BrA.muts])),by rw[HC.out];exact hT5.setB (s.c0+1) s.c1 s.c2 s.c3 s.c4 _ rfl⟩
 | false=>
  simp only[Bool.false_eq_true,if_false]at hcome
  have HC0:=h_ hcome
  have HGS:=h_ hgs
  clear hcome hgs
  go_wp2_with fail
  (with_reducible refine(HGR.out _).mono ?_)
  rintro e w5 ⟨rfl,b5⟩
  have hT5:=hT4.below b5
  have z5:=b5.size
  have B5:=B4.trans (b5.mono (by omega))
  have rX5:=(aA b5 zX4).trans rX4
  have zX5:X<w5.heap.size:=by omega
  have hr5:=hT5.rB
  unfold eR at hr5
  clear hT4 hr4 rX4 b5 B4 z5 zX4 z4
  go_wp2_with fail
  refine jY [(X,(u8v dst++(u8v src++[Value.int .i64 ty,.string ⟨body.toArray⟩,.int .i64 vl,.int .i64 prio])).toArray)] (fun hS=>?_)
  refine qp 0 hS ?_
  refine qp 1 hS ?_
  refine qp 2 hS ?_
  refine qc 3 (v:=?_) hS ?_ ?_
  rotate_left
  ·intro w' hS'
   simp only[Rws]at hS'
   go_simp
   with_reducible refine(HTO.out _).mono ?_
   rintro e w'' ⟨rfl,hb⟩
   exact⟨_,rfl,by rfl,hb⟩
  refine qp 4 hS ?_
  refine qp 5 hS ?_
  refine aG kr_ (fun w6 b6=>?_) _
  replace b6:Below (w5).heap.size (w5) w6:=aL (Below.drew (Below.refl _ _)) b6
  have hT6:=hT5.below b6
  have z6:=b6.size
  have B6:=B5.trans (b6.mono (by omega))
  have rX6:=(aA b6 zX5).trans rX5
  have zX6:X<w6.heap.size:=by omega
  have hr6:=hT6.rB
  unfold eR at hr6
  clear hT5 hr5 rX5 b6 B5 z6 zX5 HTO HGR
  obtain⟨dq,hdq⟩:∃x,(dst==bpduTo)=x:=⟨_,rfl⟩
  have hC1:=HC0.out
  rw[hdq]at hC1 ⊢
  cases dq with
  | true=>
   simp only[if_true]at hC1
   have HC:=h_ hC1
   clear hC1 hdq HC0
   go_wp2_with fail
   go_ret2
   refine⟨⟨.slice none 0 0,by rw[HC.out];rfl,by rw[HC.out];exact OwnL.nil _ _ _ _⟩,(BelowS.of B6).trans (BelowS.set w6 _ (by simp[BrA.muts])),by rw[HC.out];exact hT6.setB s.c0 (s.c1+1) s.c2 s.c3 s.c4 _ rfl⟩
  | false=>
   simp only[Bool.false_eq_true,if_false]at hC1
   have HC1:=h_ hC1
   clear hC1 hdq HC0
   by_cases hstop:q<2∨iv2≠0
   ·have hC2:=HC1.out
    rw[if_pos (by rcases hstop with hs | hs<;>simp[hs])]at hC2
    have HC:=h_ hC2
    clear hC2 HC1
    by_cases hq2:q<2
    ·clear hstop
     go_wp2_with fail
     go_ret2
     refine⟨⟨.slice none 0 0,by rw[HC.out];rfl,by rw[HC.out];exact OwnL.nil _ _ _ _⟩,(BelowS.of B6).trans (BelowS.set w6 _ (by simp[BrA.muts])),by rw[HC.out];exact hT6.setB s.c0 s.c1 (s.c2+1) s.c3 s.c4 _ rfl⟩
    ·have hi2:(iv2 !=0)=true:=by
      rcases hstop with hs | hs
      ·exact absurd hs hq2
      ·simpa using hs
     clear hstop
     go_wp2_with fail
     go_ret2
     refine⟨⟨.slice none 0 0,by rw[HC.out];rfl,by rw[HC.out];exact OwnL.nil _ _ _ _⟩,(BelowS.of B6).trans (BelowS.set w6 _ (by simp[BrA.muts])),by rw[HC.out];exact hT6.setB s.c0 s.c1 (s.c2+1) s.c3 s.c4 _ rfl⟩
   ·have hq2:¬q<2:=fun hc=>hstop (.inl hc)
    have hi0:iv2=0:=Classical.byContradiction fun hc=>hstop (.inr hc)
    have hC2:=HC1.out
    rw[if_neg (by simp[hq2,hi0];try omega)]at hC2
    have HC2:=h_ hC2
    clear hC2 HC1 hstop
    subst hi0
    have hmem:cV p.native p.tagged iv1=true/\1<=iv1/\iv1<=4094:=aLW HIV.out
    obtain⟨hm,hv1,hv2⟩:=hmem
    have HM:=h_ hm
    clear hm
    have HLE:=h_ (fun W (hW:BrT W A s)=>aEM W iv1 src k (lims:=s.ports.map (·.lim)) (by rw[List.length_map];exact hW.ler) hW.ne.2.2.2.2.2.2.2.2.2.1 (show IntsAt W A.la (s.ports.map (·.lim))from hW.lims.elems) HG.out.std (Nat.le_trans HG.out.stn (by omega)) hv1 hv2 HGS.out (by rw[List.length_map];exact hk) (by rw[List.length_map];omega))
    have hlim:(s.ports.map (·.lim))[k]'(by rw[List.length_map];exact hk)=p.lim:=by
     rw[List.getElem_map,<-HPK.out]
     unfold BrS.port
     rw[List.getD_eq_getElem?_getD,List.getElem?_eq_getElem hk]
     rfl
    rw[hlim]at HLE
    simp only[List.length_map]at HLE
    obtain⟨st',hst'⟩:∃x,j6 p.lim iv1 src k s.st=x:=⟨_,rfl⟩
    have hC3:=HC2.out
    rw[hst']at HLE hC3
    have HC3:=h_ hC3
    have HSTE:=h_ hst'
    clear hlim hst' hC3 HC2
    have hq2b:¬q<2:=hq2
    have hlB6:=hT6.ltB
    go_wp2_with fail
    refine jY [(A.B,#[.slice A.pa s.ports.length A.pcap,.slice (some ⟨A.SB,0,none⟩) s.ports.length s.ports.length,.pointer (some ⟨A.LT,0,none⟩),.pointer (some ⟨A.HT,0,none⟩),.int .i64 s.c0,.int .i64 s.c1,.int .i64 s.c2,.int .i64 s.c3,.int .i64 s.c4]),(X,(u8v dst++(u8v src++[Value.int .i64 ty,.string ⟨body.toArray⟩,.int .i64 vl,.int .i64 prio])).toArray)] (fun hS=>?_)
    refine qp 0 hS ?_
    refine qp 1 hS ?_
    refine qp 2 hS ?_
    refine qp 3 hS ?_
    refine qp 4 hS ?_
    refine qp 5 hS ?_
    refine qp 6 hS ?_
    refine qp 7 hS ?_
    refine qp 8 hS ?_
    refine aY (rs:=[9]) kr_ (by simp) (Rws.grow _) hS (fun u9 hu9 hSW=>?_)
    intro i hi
    obtain rfl:=List.mem_singleton.1 hi
    refine wpOp_step rfl (fun K hK=>?_)
    simp only[Rws]at hSW
    clear hi hS
    go_simp
    replace hu9:Below w6.heap.size w6 u9:=aL (Below.drew (Below.refl _ _)) hu9
    have zu9:=hu9.size
    have hTu:=hT6.below hu9
    (with_reducible refine(HLE.out _ hTu).mono ?_)
    rintro e w7 ⟨⟨ne,rfl⟩,b7,t7⟩
    have z7:=b7.size
    have l7:=hTu.lts
    have n7:=hTu.ne
    have hT7:=hTu.setL b7 t7
    have BS7:BelowS w1.heap.size A.muts w1 w7:=(BelowS.of (B6.trans (hu9.mono B6.size))).trans ((BelowS.one b7 (by simp[BrA.muts])).mono (Nat.le_trans B6.size hu9.size))
    have rX7:row w7 X=(u8v dst++(u8v src++[Value.int .i64 ty,.string ⟨body.toArray⟩,.int .i64 vl,.int .i64 prio])).toArray:=(aJ (b7.block X (by omega) hXL)).trans ((aA hu9 zX6).trans rX6)
    have rB7:=hT7.rB
    unfold eR at rB7
    dsimp only at rB7
    refine hK _ _ ⟨⟨rB7,by omega,rX7,by omega,trivial⟩,?_⟩
    clear hK K hSW b7 t7 hu9 hTu hT6 hr6 rX6 B6 HLE
    refine aG kr_ (fun w8 b8=>?_) _
    have z8:=b8.size
    have hT8:=hT7.below b8
    have BS8:=BS7.trans (BelowS.of (b8.mono BS7.size))
    have rX8:=(aA b8 (by omega)).trans rX7
    have rB8:=(aA b8 (by omega)).trans rB7
    have zX8:X<w8.heap.size:=by omega
    clear b8 hT7 BS7 rX7 rB7
    by_cases hq3:q<3
    ·have hC4:=HC3.out
     rw[if_pos hq3]at hC4
     have HC:=h_ hC4
     clear hC4 HC3
     go_wp2_with fail
     go_ret2
     refine⟨⟨.slice none 0 0,by rw[HC.out];rfl,by rw[HC.out];exact OwnL.nil _ _ _ _⟩,BS8.trans (BelowS.set w8 _ (by simp[BrA.muts])),by rw[HC.out];exact hT8.setB s.c0 s.c1 (s.c2+1) s.c3 s.c4 _ rfl⟩
    ·have hC4:=HC3.out
     rw[if_neg hq3]at hC4
     have HC4:=h_ hC4
     clear hC4 HC3
     have hTM:A.HT≠A.HM:=hT8.ne.2.2.2.2.2.2.2.2.2.2.2.2.2.2
     have HHL:=h_ (fun W (hW:BrT W A {s with st:=st'})=>aEL dst src ty body t.ip t.mac t.ok iv1 W hW.hush hTM HTK.out.ann)
     obtain⟨bi',hbi'⟩:∃x,kR iv1 t.ip t.mac t.ok s.bi=x:=⟨_,rfl⟩
     have hC5:=HC4.out
     dsimp only at HHL
     rw[hbi']at HHL hC5
     unfold bV at HHL
     have hlB8:=hT8.ltB
     have HC5:=h_ hC5
     have HBI:=h_ hbi'
     clear hC5 HC4 hbi'
     go_wp2_with fail
     refine jY [(A.B,#[.slice A.pa s.ports.length A.pcap,.slice (some ⟨A.SB,0,none⟩) s.ports.length s.ports.length,.pointer (some ⟨A.LT,0,none⟩),.pointer (some ⟨A.HT,0,none⟩),.int .i64 s.c0,.int .i64 s.c1,.int .i64 s.c2,.int .i64 s.c3,.int .i64 s.c4]),(X,(u8v dst++(u8v src++[Value.int .i64 ty,.string ⟨body.toArray⟩,.int .i64 vl,.int .i64 prio])).toArray)] (fun hS=>?_)
     refine qp 0 hS ?_
     refine qp 1 hS ?_
     refine qp 2 hS ?_
     refine qp 3 hS ?_
     refine qp 4 hS ?_
     refine qp 5 hS ?_
     refine qp 6 hS ?_
     refine aY (rs:=[7]) kr_ (by simp) (Rws.grow _) hS (fun u9 hu9 hSW=>?_)
     intro i hi
     obtain rfl:=List.mem_singleton.1 hi
     refine wpOp_step rfl (fun K hK=>?_)
     simp only[Rws]at hSW
     clear hi hS
     go_simp
     replace hu9:Below w8.heap.size w8 u9:=aL (Below.drew (Below.refl _ _)) hu9
     have zu9:=hu9.size
     have hTu:=hT8.below hu9
     (with_reducible refine(HHL.out _ hTu).mono ?_)
     rintro e w9 ⟨rfl,b9,t9⟩
     have z9:=b9.size
     have l9:=hTu.lts
     have hT9:=hTu.setH b9 t9
     have BS9:BelowS w1.heap.size A.muts w1 w9:=BS8.trans ((BelowS.of (hu9.mono BS8.size)).trans ((BelowS.one b9 (by simp[BrA.muts])).mono (Nat.le_trans BS8.size hu9.size)))
     have rX9:row w9 X=(u8v dst++(u8v src++[Value.int .i64 ty,.string ⟨body.toArray⟩,.int .i64 vl,.int .i64 prio])).toArray:=(aJ (b9.block X (by omega) hXH)).trans ((aA hu9 zX8).trans rX8)
     have rB9:=hT9.rB
     unfold eR at rB9
     dsimp only at rB9
     refine hK _ _ ⟨⟨rB9,by omega,rX9,by omega,trivial⟩,?_⟩
     clear hK K hSW b9 t9 hu9 hTu hT8 rB8 rX8 BS8 HHL
     refine aG kr_ (fun w10 b10=>?_) _
     have z10:=b10.size
     have hT10:=hT9.below b10
     have BS10:=BS9.trans (BelowS.of (b10.mono BS9.size))
     have rX10:=(aA b10 (by omega)).trans rX9
     have rB10:=(aA b10 (by omega)).trans rB9
     have zX10:X<w10.heap.size:=by omega
     clear b10 hT9 BS9 rX9 rB9
     have hask:∃(fr:List Value) (b:Bool),(∀W,BrT W A {s with st:=st',bi:=bi'}->nH (some ⟨A.HT,0,none⟩) iv1 dst src ty body W fr b)/\
       ((b=false/\fr=dP/\aLo iv1 t bi'=none)∨∃c ans,b=true/\fr=bV src c.mac ty (ans c.mac)/\aLo iv1 t bi'=some (c,ans)):=aKq HTK.out iv1
     obtain⟨fr,bb,hA,hfr⟩:=hask
     have HA:=h_ hA
     have hC6:=HC5.out
     rcases hfr with ⟨rfl,rfl,e3⟩ | ⟨c,ans,rfl,rfl,e3⟩
     ·rw[e3]at hC6
      dsimp only at hC6
      have HC:=h_ hC6
      clear hC6 hA HC5 e3
      unfold nH dP at HA
      unfold bV at HA
      have hlB10:=hT10.ltB
      have hGX:GrowP fun W=>BrT W A {s with st:=st',bi:=bi'}:=aCJ A _
      go_wp2_with fail
      have hG:=hGX
      refine nV [(A.B,#[.slice A.pa s.ports.length A.pcap,.slice (some ⟨A.SB,0,none⟩) s.ports.length s.ports.length,.pointer (some ⟨A.LT,0,none⟩),.pointer (some ⟨A.HT,0,none⟩),.int .i64 s.c0,.int .i64 s.c1,.int .i64 s.c2,.int .i64 s.c3,.int .i64 s.c4]),(X,(u8v dst++(u8v src++[Value.int .i64 ty,.string ⟨body.toArray⟩,.int .i64 vl,.int .i64 prio])).toArray)] (fun W=>BrT W A {s with st:=st',bi:=bi'}) hG (hT10) (fun hS=>?_)
      refine sp 0 hG hS ?_
      refine sp 1 hG hS ?_
      refine sp 2 hG hS ?_
      refine sp 3 hG hS ?_
      refine sp 4 hG hS ?_
      refine sp 5 hG hS ?_
      refine sp 6 hG hS ?_
      refine sc 7 (v:=?_) hG hS ?_ ?_
      rotate_left
      ·intro w' hS'
       obtain⟨hS',hX'⟩:=hS'
       simp only[Rws]at hS'
       go_simp
       with_reducible refine(HA.out _ hX').mono ?_
       rintro e w'' ⟨rfl,hb⟩
       exact⟨_,rfl,by rfl,hb⟩
      refine sp 8 hG hS ?_
      refine sp 9 hG hS ?_
      refine sp 10 hG hS ?_
      refine i8 (XS.grow hG) (i:=11) (k:=12) (zi:=(u8v cF++(u8v cF++[Value.int .i64 0,Value.string ⟨#[]⟩])).toArray) (cA:=(u8v cF++(u8v cF++[Value.int .i64 0,Value.string ⟨#[]⟩])).toArray) cD cD ⟨rfl,rfl,fun a w=>by go_simp;(refine⟨?_,?_⟩<;>rfl)⟩ kr_ kr_ rfl rfl (by simp[*]) (by simp) (fun A w1 hr=>by
       simp only[Act.put,List.setIfInBounds_toArray,List.set_cons_zero,List.set_cons_succ,ptr]
       go_simp
       try rfl) hS (fun Y w11 gY zY bw11 rY hS=>?_)
      (try simp only[Act.put,List.setIfInBounds_toArray,List.set_cons_zero,List.set_cons_succ])
      simp only[ptr]
      refine sp 13 hG hS ?_
      refine aG kr_ (fun w12 bw12=>?_) _
      have b11:=aL (Below.drew (Below.refl _ _)) bw11
      have b12:=b11.trans (bw12.mono b11.size)
      have z12:=b12.size
      have hT12:=hT10.below b12
      have BS12:=BS10.trans (BelowS.of (b12.mono BS10.size))
      have rX12:=(aA b12 zX10).trans rX10
      have rB12:=(aA b12 (by have:=hT10.ltB;omega)).trans rB10
      clear hS b11 b12 bw11 bw12 hT10 BS10 rX10 rB10 rY HA
      have HRL:=h_ (fun W (hW:BrT W A {s with st:=st',bi:=bi',c3:=s.c3+1})=>aBA W hW k hk iv1 dst src ty body vl prio hn (xR HG.out HSTE.out hk) hp0 hp7)
      unfold xB at HRL
      have hE:=hT12.setB s.c0 s.c1 s.c2 (s.c3+1) s.c4 _ rfl
      unfold eR at hE
      dsimp only at hE
      have HE:=h_ hE
      clear hE
      have BS13:=BS12.trans (BelowS.set (B:=w1.heap.size) w12 (eR A {s with st:=st',bi:=bi',c3:=s.c3+1}) (b:=A.B) (by simp[BrA.muts]))
      unfold eR at BS13
      dsimp only at BS13
      have HBS:=h_ BS13
      clear BS13
      go_wp2_with fail
      (with_reducible refine(HRL.out _ HE.out).mono ?_)
      rintro e w14 ⟨⟨u,rfl,hown⟩,b14⟩
      have HO:=h_ hown
      have hT14:=HE.out.below b14
      have BS14:=HBS.out.trans (BelowS.of (b14.mono HBS.out.size))
      have HT14:=h_ hT14
      clear hown hT14
      go_wp2_with fail
      go_ret2
      refine⟨⟨u,by rw[HC.out];rfl,?_⟩,BS14,by rw[HC.out];exact HT14.out⟩
      rw[HC.out]
      exact HO.out.lower (by have:=HBS.out.size;omega)
     ·rw[e3]at hC6
      dsimp only at hC6
      have HC:=h_ hC6
      clear hC6 hA HC5 e3
      unfold nH at HA
      unfold bV at HA
      have hlB10:=hT10.ltB
      have hGX:GrowP fun W=>BrT W A {s with st:=st',bi:=bi'}:=aCJ A _
      go_wp2_with fail
      have hG:=hGX
      refine nV [(A.B,#[.slice A.pa s.ports.length A.pcap,.slice (some ⟨A.SB,0,none⟩) s.ports.length s.ports.length,.pointer (some ⟨A.LT,0,none⟩),.pointer (some ⟨A.HT,0,none⟩),.int .i64 s.c0,.int .i64 s.c1,.int .i64 s.c2,.int .i64 s.c3,.int .i64 s.c4]),(X,(u8v dst++(u8v src++[Value.int .i64 ty,.string ⟨body.toArray⟩,.int .i64 vl,.int .i64 prio])).toArray)] (fun W=>BrT W A {s with st:=st',bi:=bi'}) hG (hT10) (fun hS=>?_)
      refine sp 0 hG hS ?_
      refine sp 1 hG hS ?_
      refine sp 2 hG hS ?_
      refine sp 3 hG hS ?_
      refine sp 4 hG hS ?_
      refine sp 5 hG hS ?_
      refine sp 6 hG hS ?_
      refine sc 7 (v:=?_) hG hS ?_ ?_
      rotate_left
      ·intro w' hS'
       obtain⟨hS',hX'⟩:=hS'
       simp only[Rws]at hS'
       go_simp
       with_reducible refine(HA.out _ hX').mono ?_
       rintro e w'' ⟨rfl,hb⟩
       exact⟨_,rfl,by rfl,hb⟩
      refine sp 8 hG hS ?_
      refine sp 9 hG hS ?_
      refine sp 10 hG hS ?_
      refine i8 (XS.grow hG) (i:=11) (k:=12) (zi:=(u8v cF++(u8v cF++[Value.int .i64 0,Value.string ⟨#[]⟩])).toArray) (cA:=(u8v src++(u8v c.mac++[Value.int .i64 ty,Value.string ⟨(ans c.mac).toArray⟩])).toArray) cD cD ⟨rfl,rfl,fun a w=>by go_simp;(refine⟨?_,?_⟩<;>rfl)⟩ kr_ kr_ rfl rfl (by simp[*]) (by simp) (fun A w1 hr=>by
       simp only[Act.put,List.setIfInBounds_toArray,List.set_cons_zero,List.set_cons_succ,ptr]
       go_simp
       try rfl) hS (fun Y w11 gY zY bw11 rY hS=>?_)
      (try simp only[Act.put,List.setIfInBounds_toArray,List.set_cons_zero,List.set_cons_succ])
      simp only[ptr]
      refine sp 13 hG hS ?_
      refine aG kr_ (fun w12 bw12=>?_) _
      have b11:=aL (Below.drew (Below.refl _ _)) bw11
      have b12:=b11.trans (bw12.mono b11.size)
      have z12:=b12.size
      have hT12:=hT10.below b12
      have BS12:=BS10.trans (BelowS.of (b12.mono BS10.size))
      have rX12:=(aA b12 zX10).trans rX10
      have rB12:=(aA b12 (by have:=hT10.ltB;omega)).trans rB10
      have rY12:=(aA bw12 (by omega)).trans rY
      have gY2:w10.heap.size<=Y:=gY
      have hYX:Y≠X:=by omega
      have hYB:Y≠A.B:=by have:=hT10.ltB;omega
      clear hS b11 b12 bw11 bw12 hT10 BS10 rX10 rB10 rY HA
      have hgj:s.ports[k]=p:=by
       have:=HPK.out
       unfold BrS.port at this
       rw[List.getD_eq_getElem?_getD,List.getElem?_eq_getElem hk]at this
       exact this
      have HPR:=h_ (fun W (hW:BrT W A {s with st:=st',bi:=bi',c4:=s.c4+1})=>qN W hW k hk iv1 src c.mac ty (ans c.mac) prio hn (by show cV s.ports[k].native s.ports[k].tagged iv1=true;rw[hgj];exact HM.out) hp0 hp7)
      dsimp only at HPR
      rw[hgj]at HPR
      unfold bV at HPR
      clear hgj
      have hE:=hT12.setB s.c0 s.c1 s.c2 s.c3 (s.c4+1) _ rfl
      unfold eR at hE
      dsimp only at hE
      have HE:=h_ hE
      clear hE
      have BS13:=BS12.trans (BelowS.set (B:=w1.heap.size) w12 (eR A {s with st:=st',bi:=bi',c4:=s.c4+1}) (b:=A.B) (by simp[BrA.muts]))
      unfold eR at BS13
      dsimp only at BS13
      have HBS:=h_ BS13
      clear BS13
      go_wp2_with fail
      (with_reducible refine(HPR.out _ HE.out).mono ?_)
      rintro e w14 ⟨⟨u,rfl,hown⟩,b14⟩
      have HO:=h_ hown
      have hT14:=HE.out.below b14
      have BS14:=HBS.out.trans (BelowS.of (b14.mono HBS.out.size))
      have HT14:=h_ hT14
      clear hown hT14
      go_wp2_with fail
      go_ret2
      refine⟨⟨u,by rw[HC.out];rfl,?_⟩,BS14,by rw[HC.out];exact HT14.out⟩
      rw[HC.out]
      exact HO.out.lower (by have:=HBS.out.size;omega)
end
end
end Go.Proofs.YtiagbbknkdgmeaaGreat
