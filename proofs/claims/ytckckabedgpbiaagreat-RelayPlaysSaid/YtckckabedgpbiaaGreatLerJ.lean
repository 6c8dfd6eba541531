/- Package learn: its table as a list of stations, none of them fixed. -/
import Derived.Test.YtckckabedgpbiaaGreatJ4
import Derived.Test.YtckckabedgpbiaaGreatMapGJ
import Derived.Test.YtckckabedgpbiaaGreatJ3
set_option linter.unusedSimpArgs false
set_option linter.unusedVariables false
set_option maxRecDepth 4000
namespace Go.Proofs.YtckckabedgpbiaaGreat
open Go.RowKit
structure LB where
 v : Int
 mac : Vector UInt8 6
 port : Int
 age : Int
def lkV (v : Int) (mac : Vector UInt8 6) : Value := .agg (Value.int .i64 v :: u8v mac).toArray
def lvV (port age : Int) : Value := .agg #[Value.int .i64 port, Value.int .i64 age, Value.bool false]
def LB.ent (b : LB) : KV := (lkV b.v b.mac, lvV b.port b.age)
def encL (m : List LB) : List KV := m.map LB.ent
def LB.is (b : LB) (v : Int) (mac : Vector UInt8 6) : Bool := v == b.v && mac == b.mac
def findL (v : Int) (mac : Vector UInt8 6) (m : List LB) : Option LB := m.find? fun b => b.is v mac
def putL (b : LB) : List LB → List LB
 | [] => [b]
 | c :: l => if c.is b.v b.mac then b :: l else c :: putL b l
abbrev lsL : List Leaf := .int .i64 :: (leaves 6 (.int .u8) ++ [])
theorem okL (v : Int) (mac : Vector UInt8 6) : okA lsL (lkV v mac) := ⟨_, rfl, by
 simp only [fits, Leaf.ok, Bool.and_eq_true]
 exact ⟨by simp, by have h := fits_u8v mac [] []; rw [List.append_nil (u8v mac)] at h; rw [h]; rfl⟩⟩
theorem okL_all (m : List LB) : ∀ p ∈ encL m, okA lsL p.1 := by
 intro p hp
 obtain ⟨b, _, rfl⟩ := List.mem_map.1 hp
 exact okL _ _
theorem u8v_inj {n : Nat} {a b : Vector UInt8 n} (h : u8v a = u8v b) : a = b := by
 have h2 := congrArg bytesOf h
 rw [bytesOf_u8v, bytesOf_u8v] at h2
 exact Vector.toList_inj.1 h2
theorem lk_inj {v v' : Int} {a b : Vector UInt8 6} (h : lkV v a = lkV v' b) : v = v' ∧ a = b := by
 have h2 : Value.int .i64 v :: u8v a = Value.int .i64 v' :: u8v b := by
  have := congrArg (fun x : Value => match x with | .agg c => c.toList | _ => []) h
  exact this
 rw [List.cons.injEq] at h2
 refine ⟨?_, u8v_inj h2.2⟩
 have := h2.1
 injection this
theorem fits_inv8 : ∀ {n : Nat} {xs : List Value}, fits (leaves n (.int .u8)) xs = true → ∃ is : List Int, is.length = n ∧ xs = is.map (Value.int .u8)
 | 0, xs, h => by
  obtain rfl := fits_nil h
  exact ⟨[], rfl, rfl⟩
 | n + 1, xs, h => by
  rw [leaves_eq, List.replicate_succ, ← leaves_eq] at h
  obtain ⟨x, r, rfl, h1, h2⟩ := fits_cons h
  obtain ⟨v, rfl⟩ := ok_int_inv h1
  obtain ⟨is, hl, rfl⟩ := fits_inv8 h2
  exact ⟨v :: is, by simp [hl], rfl⟩
theorem check_learn (v a b c d e f : Int) (x : Bool) (w : World) : (Instr.checkKey x 10000 131 (.agg #[.int .i64 v, .int .u8 a, .int .u8 b, .int .u8 c, .int .u8 d, .int .u8 e, .int .u8 f])).run Tryz.prog w = .ok () w := by
 kernel_rfl
theorem key_learn : KeyTy Tryz.prog 131 (okA lsL) sameA := by
 refine keyTy_struct Tryz.underlying131 ?_
 rintro k ⟨xs, rfl, hx⟩ e w
 obtain ⟨x, r, rfl, h1, h2⟩ := fits_cons hx
 obtain ⟨v, rfl⟩ := ok_int_inv h1
 rw [List.append_nil] at h2
 obtain ⟨is, hl, rfl⟩ := fits_inv8 h2
 match is, hl with
 | [a, b, c, d, g, f], _ => exact check_learn v a b c d g f e w
theorem map_learn : Tryz.prog.underlying 124 = some (.map 131 133) := Tryz.underlying124
theorem zero_learn (w : World) : (zeroValue 133).run Tryz.prog w = .ok (lvV 0 0) w := by
 kernel_rfl
theorem sameL (v : Int) (mac : Vector UInt8 6) (b : LB) : sameA (lkV v mac) (lkV b.v b.mac) = b.is v mac := by
 rw [Bool.eq_iff_iff, same_iff key_learn (okL _ _) (okL _ _)]
 constructor
 ·
  intro h
  obtain ⟨h1, h2⟩ := lk_inj h
  simp [LB.is, h1, h2]
 ·
  intro h
  simp only [LB.is, Bool.and_eq_true, beq_iff_eq] at h
  rw [h.1, h.2]
theorem posL (v : Int) (mac : Vector UInt8 6) : ∀ (m : List LB) (i : Nat), (posV sameA (lkV v mac) (encL m) i).map (·.2) = (findL v mac m).map fun b => lvV b.port b.age
 | [], _ => rfl
 | b :: m, i => by
  simp only [encL, List.map_cons, posV, findL, LB.ent, sameL, List.find?_cons]
  by_cases h : b.is v mac = true
  ·
   rw [if_pos h, h]
   rfl
  ·
   rw [if_neg h, Bool.eq_false_iff.2 h]
   exact posL v mac m (i + 1)
theorem lookL (v : Int) (mac : Vector UInt8 6) (m : List LB) : lookV sameA (lkV v mac) (encL m) = (findL v mac m).map fun b => lvV b.port b.age := posL v mac m 0
theorem putL_enc (b : LB) : ∀ m : List LB, putV sameA (lkV b.v b.mac) (lvV b.port b.age) (encL m) = encL (putL b m)
 | [] => rfl
 | c :: m => by
  simp only [encL, List.map_cons, putV, putL, LB.ent, sameL]
  by_cases h : c.is b.v b.mac = true
  ·
   rw [if_pos h, if_pos h]
   rfl
  ·
   rw [if_neg h, if_neg h, List.map_cons]
   congr 1
   exact putL_enc b m
theorem encL_nodup (m : List LB) : ((encL m).map (·.1)).Nodup ↔ m.Pairwise fun a b => a.is b.v b.mac = false := by
 unfold encL
 rw [List.map_map, List.Nodup, List.pairwise_map]
 have h : ∀ a b : LB, ((fun p : KV => p.1) ∘ LB.ent) a ≠ ((fun p : KV => p.1) ∘ LB.ent) b ↔ a.is b.v b.mac = false := by
  intro a b
  rw [← sameL, Bool.eq_false_iff, Ne, Ne, same_iff key_learn (okL _ _) (okL _ _)]
  exact ⟨fun h e => h e.symm, fun h e => h e.symm⟩
 constructor <;> exact fun hp => hp.imp fun {a b} hab => by first | exact (h a b).1 hab | exact (h a b).2 hab
structure LerT (w : World) (T M : Nat) (ageing : Int) (lv : Value) (m : List LB) : Prop where
 row : row w T = #[.int .i64 ageing, lv, .map (some M)]
 ok : mapOk w M
 map : mapL w M = encL m
theorem LerT.lt {w : World} {T M : Nat} {ageing : Int} {lv : Value} {m : List LB} (h : LerT w T M ageing lv m) : T < w.heap.size := lt_of_row (i := 0) (by rw [h.row]; simp)
theorem LerT.below {B : Nat} {w w' : World} {T M : Nat} {ageing : Int} {lv : Value} {m : List LB} (h : LerT w T M ageing lv m) (hb : Below B w w') (hT : T < B) (hM : M < B) : LerT w' T M ageing lv m :=
 ⟨by rw [row_below hb hT, h.row], mapOk_below hb hM h.ok, by rw [mapL_below hb hM, h.map]⟩
def DistL (m : List LB) : Prop := m.Pairwise fun a b => a.is b.v b.mac = false
def stepL (ageing : Int) (b : LB) : Option LB := if ageing ≤ b.age + 1 then none else some { b with age := b.age + 1 }
def tickL (ageing : Int) (m : List LB) : List LB := m.filterMap (stepL ageing)
def dropL (port : Int) (m : List LB) : List LB := m.filter fun b => !(b.port == port)
def onL (port : Int) (m : List LB) : Nat := (m.filter fun b => b.port == port).length
def hearL (lim : Int) (v : Int) (mac : Vector UInt8 6) (port : Int) (m : List LB) : List LB :=
 if (match findL v mac m with | some b => b.port == port | none => false) || decide ((onL port m : Int) < lim) then putL ⟨v, mac, port, 0⟩ m else m
end Go.Proofs.YtckckabedgpbiaaGreat
