/- Package hush: its table as a list of bindings. -/
import Derived.Test.YtckckabedgpbiaaKey
import Derived.Test.YtckckabedgpbiaaCmp
import Derived.Test.YtckckabedgpbiaaFrame
set_option linter.unusedSimpArgs false
set_option linter.unusedVariables false
set_option maxRecDepth 4000
namespace Go.Proofs.Ytckckabedgpbiaa
open Go.RowKit
structure HB where
  v : Int
  ip : List UInt8
  mac : Vector UInt8 6
  age : Int
def hkV (v : Int) (ip : List UInt8) : Value := .agg [Value.int .i64 v, Value.string ⟨ip.toArray⟩].toArray
def hvV (mac : Vector UInt8 6) (age : Int) : Value := .agg (u8v mac ++ [Value.int .i64 age]).toArray
def encH (m : List HB) : List (Value × Value) := m.map fun b => (hkV b.v b.ip, hvV b.mac b.age)
def HB.is (b : HB) (v : Int) (ip : List UInt8) : Bool := v == b.v && ip == b.ip
def findH (v : Int) (ip : List UInt8) : List HB → Option HB
  | [] => none
  | b :: l => if b.is v ip then some b else findH v ip l
def putH (b : HB) : List HB → List HB
  | [] => [b]
  | c :: l => if c.is b.v b.ip then b :: l else c :: putH b l
def delH (v : Int) (ip : List UInt8) : List HB → List HB
  | [] => []
  | b :: l => if b.is v ip then l else b :: delH v ip l
theorem okH (v : Int) (ip : List UInt8) : okA (.int .i64 :: (.str :: [])) (hkV v ip) := ⟨_, rfl, rfl⟩
theorem okH_all (m : List HB) : ∀ p ∈ encH m, okA (.int .i64 :: (.str :: [])) p.1 := by
  intro p hp
  obtain ⟨b, _, rfl⟩ := List.mem_map.1 hp
  exact okH _ _
theorem sameH (v : Int) (ip : List UInt8) (b : HB) : sameA (hkV v ip) (hkV b.v b.ip) = b.is v ip := by
  simp only [sameA, hkV, HB.is, ceq, veq, Bool.and_true, ByteArray.toList_eq]
theorem posH (v : Int) (ip : List UInt8) : ∀ (m : List HB) (i : Nat), (posV sameA (hkV v ip) (encH m) i).map (·.2) = (findH v ip m).map fun b => hvV b.mac b.age
  | [], _ => rfl
  | b :: m, i => by
    simp only [encH, List.map_cons, posV, findH, sameH]
    by_cases h : b.is v ip = true
    · rw [if_pos h, if_pos h]
      rfl
    · rw [if_neg h, if_neg h]
      exact posH v ip m (i + 1)
theorem lookH (v : Int) (ip : List UInt8) (m : List HB) : lookV sameA (hkV v ip) (encH m) = (findH v ip m).map fun b => hvV b.mac b.age := posH v ip m 0
theorem putH_enc (b : HB) : ∀ m : List HB, putV sameA (hkV b.v b.ip) (hvV b.mac b.age) (encH m) = encH (putH b m)
  | [] => rfl
  | c :: m => by
    simp only [encH, List.map_cons, putV, putH, sameH]
    by_cases h : c.is b.v b.ip = true
    · rw [if_pos h, if_pos h]
      rfl
    · rw [if_neg h, if_neg h, List.map_cons]
      congr 1
      exact putH_enc b m
theorem delH_enc (v : Int) (ip : List UInt8) : ∀ m : List HB, delV sameA (hkV v ip) (encH m) = encH (delH v ip m)
  | [] => rfl
  | c :: m => by
    simp only [encH, List.map_cons, delV, delH, sameH]
    by_cases h : c.is v ip = true
    · rw [if_pos h, if_pos h]
      try rfl
    · rw [if_neg h, if_neg h, List.map_cons]
      congr 1
      exact delH_enc v ip m
theorem check_hush (v : Int) (ip : List UInt8) (e : Bool) (w : World) : (Instr.checkKey e 10000 134 (hkV v ip)).run Try.prog w = .ok () w := by
  kernel_rfl
theorem key_hush : KeyTy Try.prog 134 (okA (.int .i64 :: (.str :: []))) sameA := by
  refine keyTy_struct Try.underlying134 ?_
  rintro k ⟨xs, rfl, hx⟩ e w
  obtain ⟨x, r, rfl, h1, h2⟩ := fits_cons hx
  obtain ⟨y, r2, rfl, h3, h4⟩ := fits_cons h2
  obtain rfl := fits_nil h4
  obtain ⟨v, rfl⟩ := ok_int_inv h1
  obtain ⟨ip, rfl⟩ := ok_str_inv h3
  exact check_hush v ip e w
theorem map_hush : Try.prog.underlying 108 = some (.map 134 136) := Try.underlying108
theorem zero_hush (w : World) : (zeroValue 136).run Try.prog w = .ok (hvV (Vector.replicate 6 0) 0) w := by
  kernel_rfl
/-- the table in block T, its map in block M -/
structure HushT (w : World) (T M : Nat) (time : Int) (m : List HB) : Prop where
  row : row w T = #[.int .i64 time, .map (some M)]
  ok : mapOk w M
  map : mapL w M = encH m
end Go.Proofs.Ytckckabedgpbiaa
