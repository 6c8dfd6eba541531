/- Texts of this proof, merged: Own, OwnI, Val, GrV, GrR, GrD, GrT, GrP, GrI. -/
import Derived.Test.YtiagbbknkdgmeaaGreatBytJ
import Derived.Laws.OwnMore
import Derived.Test.YtiagbbknkdgmeaaGreatJ2
import Derived.Lib.Hide
set_option linter.unusedSimpArgs false
set_option linter.unusedVariables false
set_option maxHeartbeats 8000000
set_option maxRecDepth 20000
namespace Go.Proofs.YtiagbbknkdgmeaaGreat
section
open Go.RowKit
class CellsOf (P:Program) (t:TypeId) (e:outParam TypeId) (z:outParam Value):Prop where
 sl:P.underlying t=some (.slice e)
 info:(P.info? e).map (fun i=>(i.zero,i.size,decide (i.bytes<=8)))=some (some z,1,true)
 one:z.cells=#[z]
theorem CellsOf.get {P:Program} {t e:TypeId} {z:Value} (h:CellsOf P t e z):∃i,P.info? e=some i/\i.zero=some z/\i.size=1/\i.bytes<=8:=by
 have:=h.info
 cases hi:P.info? e with
 | none=>rw[hi]at this;simp at this
 | some i=>
  rw[hi]at this
  simp at this
  exact⟨i,rfl,this.1,this.2.1,this.2.2⟩
def Own (w:World) (B e:Nat) (v:Value) (l:List Value):Prop:=w.ownsRow B e 1 v l.length l
section
variable {w w':World} {B e:Nat} {v:Value} {l:List Value}
theorem Own.nil:Own w B e (.slice none 0 0) []:=World.ownsRow_nil _ _ _ _
theorem Own.cells (h:Own w B e v l) (hn:l≠[]):∃g sp,v=.slice (some ⟨g,0,none⟩) l.length (l.length+sp)/\B<=g/\g<w.heap.size/\∃s:List Value,s.length=sp/\row w g=(l++s).toArray:=by
 obtain⟨hl,⟨rfl,h0⟩ | ⟨g,cap,cur,rfl,hg0,hg,hnc,hm,hc,ht⟩⟩:=h
 ·exact absurd (List.eq_nil_of_length_eq_zero h0) hn
 ·refine⟨g,cap - l.length,by congr 1;omega,hg0,?_,cur.toList.drop l.length,by simp;omega,?_⟩
  ·rcases Nat.lt_or_ge g w.heap.size with h1 | h1
   ·exact h1
   ·rw[Array.getElem?_eq_none h1]at hg
    cases hg
  ·unfold row
   rw[hg]
   apply Array.ext'
   simp only[if_true,true_or]
   rw[Nat.mul_one]at ht
   conv=>lhs;rw[<-List.take_append_drop l.length cur.toList,ht]
theorem Own.full {g n:Nat} (h:Own w B e (.slice (some ⟨g,0,none⟩) n n) l):row w g=l.toArray/\g<w.heap.size/\l.length=n:=by
 obtain⟨hl,⟨h0,_⟩ | ⟨g',cap,cur,h1,hg0,hg,hnc,hm,hc,ht⟩⟩:=h
 ·cases h0
 ·cases h1
  refine⟨?_,?_,rfl⟩
  ·unfold row
   rw[hg]
   apply Array.ext'
   simp only[if_true,true_or]
   rw[List.take_of_length_le (by simp;omega)]at ht
   exact ht
  ·rcases Nat.lt_or_ge g w.heap.size with h1 | h1
   ·exact h1
   ·rw[Array.getElem?_eq_none h1]at hg
    cases hg
end
section
variable {P:Program} {w:World}
theorem vZ {ops:Array Oper} {rest:List Oper} {o:Oper} {a:Act} {Q:Exit->Act->World->Prop} (hgd:o.guard=none) {s x:Operand} {t e:TypeId} {z:Value}
  (ho:o.op=.call {callee:=.builtin .append,args:=#[s,x],argTypes:=#[t,t]})
  (hC:CellsOf P t e z) (base:Nat) (v:Value) (l:List Value) (hs:a.eval s=v) (hown:Own w base e v l)
  (u:Value) (hx:a.eval x=.slice (some ⟨w.heap.size,0,none⟩) 1 1) (hu:u.oneCell'=true)
  (hn:l.length+1<=1000000) (hbase:base<=w.heap.size)
  (h:∀v' w',Own w' base e v' (l++[u])->Below base w w'->wpList P ops Q rest (a.put o.dst v') w'):
  wpList P ops Q (o::rest) a (w.alloc (.cells #[u] e)):=by
 obtain⟨i0,hi,hz0,hz1,hz2⟩:=hC.get
 refine wpList_append_own _ hgd s x t ho base e i0 _ 1 _ hC.sl hi hz0 hz1 rfl (by rw[hC.one];rfl) (by decide) v l.length l hs (World.ownsRow.alloc hown _) ⟨w.heap.size,0,none⟩ 1 1 [u] hx rfl ?_ ?_ ?_ ?_ ?_ ?_
 ·intro j y hj
  match j,hj with
  | 0,hj=>simp at hj;subst hj;simp[Addr.add,World.cell?_alloc_at]
 ·intro y hy;simp at hy;subst hy;exact hu
 ·unfold maxLen;omega
 ·have:=Nat.mul_le_mul_left (l.length+1) hz2
  omega
 ·simp;omega
 ·intro v' w' h1 h2 _
  refine h v' w' ?_ (((Below.refl base w).alloc hbase _).grown h2 (by simp;omega) fun k hk=>(World.ownsRow.lt hown k hk).1)
  unfold Own
  simpa using h1
theorem aIE {t e:TypeId} {z:Value} (hC:CellsOf P t e z) (kl kc:IntKind) (n:Nat) (hn:n<=1000000):
  ∃w',(Instr.makeSlice t (.int kl (n:Int)) (.int kc (n:Int))).run P w=.ok (.slice (some ⟨w.heap.size,0,none⟩) n n) w'/\Own w' w.heap.size e (.slice (some ⟨w.heap.size,0,none⟩) n n) (List.replicate n z)/\Below w.heap.size w w':=by
 obtain⟨i0,hi,hz0,hz1,hz2⟩:=hC.get
 obtain⟨w',h1,h2,h3⟩:=run_make_full (P:=P) w w.heap.size t e i0 z 1 hC.sl hi hz0 hz1 kl kc n (by have:=Nat.mul_le_mul_right n hz2;omega) (by unfold maxLen;omega) (Nat.le_refl _)
 refine⟨w',h1,?_,(Below.refl _ w).grown h3 (Nat.le_refl _) (fun k hk=>by cases hk)⟩
 rw[hC.one,toList_madeCells_one,Nat.mul_one]at h2
 unfold Own
 rw[List.length_replicate]
 exact h2
end
def t8 (l:List Nat):List Value:=l.map fun n:Nat=>Value.int .i64 (n:Int)
@[simp] theorem jS (l : List Nat) : (t8 l).length = l.length := by simp [t8]
@[simp] theorem aLX (l : List Nat) : eC (t8 l) = true := by simp [eC, t8, Value.oneCell']
@[simp] theorem aAb (l : List Nat) (i : Nat) (h : i < (t8 l).length) : (t8 l)[i] = .int .i64 ((l[i]'(by simpa using h) : Nat) : Int) := by simp [t8]
@[simp] theorem aMH (l : List Nat) (i : Nat) (n : Nat) : (t8 l).set i (.int .i64 (n : Int)) = t8 (l.set i n) := by simp [t8, List.map_set]
theorem aCL (l m:List Nat):t8 (l++m)=t8 l++t8 m:=by simp[t8]
theorem aIF (l m:List Value) (i:Nat) (v:Value) (h:i<l.length):(l++m).set i v=l.set i v++m:=by
 rw[List.set_append]
 simp[h]
end
section
instance Tryz.cellsInts:CellsOf Tryz.prog 55 3 (.int .i64 0):=⟨Tryz.underlying55,by kernel_rfl,rfl⟩
end
section
open Go.RowKit
theorem aGJ (l:List Nat) (i:Nat) (h:i<l.length):l.getD i 0=l[i]:=by simp[List.getD_eq_getElem?_getD,h]
theorem aAc (x:Int) (n:Nat) (h:x=(n:Int)) (hn:n<4611686018427387904):IntKind.i64.wrap x=(n:Int):=by
 rw[dR _ (by omega) (by omega)]
 exact h
end
end Go.Proofs.YtiagbbknkdgmeaaGreat
