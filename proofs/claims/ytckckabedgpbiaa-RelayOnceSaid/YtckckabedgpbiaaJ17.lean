/- Texts of this proof, merged: Hus, HusC. -/
import Derived.Test.YtckckabedgpbiaaKeyJ
import Derived.Test.YtckckabedgpbiaaCmpJ
import Derived.Test.YtckckabedgpbiaaFrameJ
set_option linter.unusedSimpArgs false
set_option linter.unusedVariables false
set_option maxRecDepth 4000
namespace Go.Proofs.Ytckckabedgpbiaa
section
open Go.RowKit
structure HB where
 v : Int
 ip : List UInt8
 mac : Vector UInt8 6
 age : Int
def hkV (v : Int) (ip : List UInt8) : Value := .agg [Value.int .i64 v, Value.string ⟨ip.toArray⟩].toArray
def hvV (mac : Vector UInt8 6) (age : Int) : Value := .agg (u8v mac ++ [Value.int .i64 age]).toArray
def encH (m : List HB) : List (Value × Value) := m.map fun b => (hkV b.v b.ip, hvV b.mac b.age)
def HB.is (b : HB) (v : Int) (ip : List UInt8) : Bool := v == b.v && ip == b.ip
def findH (v : Int) (ip : List UInt8) : List HB → Option HB
 | [] => none
 | b :: l => if b.is v ip then some b else findH v ip l
def putH (b : HB) : List HB → List HB
 | [] => [b]
 | c :: l => if c.is b.v b.ip then b :: l else c :: putH b l
def delH (v : Int) (ip : List UInt8) : List HB → List HB
 | [] => []
 | b :: l => if b.is v ip then l else b :: delH v ip l
theorem okH (v : Int) (ip : List UInt8) : okA (.int .i64 :: (.str :: [])) (hkV v ip) := ⟨_, rfl, rfl⟩
theorem okH_all (m : List HB) : ∀ p ∈ encH m, okA (.int .i64 :: (.str :: [])) p.1 := by
 intro p hp
 obtain ⟨b, _, rfl⟩ := List.mem_map.1 hp
 exact okH _ _
theorem sameH (v : Int) (ip : List UInt8) (b : HB) : sameA (hkV v ip) (hkV b.v b.ip) = b.is v ip := by
 simp only [sameA, hkV, HB.is, ceq, veq, Bool.and_true, ByteArray.toList_eq]
theorem posH (v : Int) (ip : List UInt8) : ∀ (m : List HB) (i : Nat), (posV sameA (hkV v ip) (encH m) i).map (·.2) = (findH v ip m).map fun b => hvV b.mac b.age
 | [], _ => rfl
 | b :: m, i => by
  simp only [encH, List.map_cons, posV, findH, sameH]
  by_cases h : b.is v ip = true
  ·
   rw [if_pos h, if_pos h]
   rfl
  ·
   rw [if_neg h, if_neg h]
   exact posH v ip m (i + 1)
theorem lookH (v : Int) (ip : List UInt8) (m : List HB) : lookV sameA (hkV v ip) (encH m) = (findH v ip m).map fun b => hvV b.mac b.age := posH v ip m 0
theorem putH_enc (b : HB) : ∀ m : List HB, putV sameA (hkV b.v b.ip) (hvV b.mac b.age) (encH m) = encH (putH b m)
 | [] => rfl
 | c :: m => by
  simp only [encH, List.map_cons, putV, putH, sameH]
  by_cases h : c.is b.v b.ip = true
  ·
   rw [if_pos h, if_pos h]
   rfl
  ·
   rw [if_neg h, if_neg h, List.map_cons]
   congr 1
   exact putH_enc b m
theorem delH_enc (v : Int) (ip : List UInt8) : ∀ m : List HB, delV sameA (hkV v ip) (encH m) = encH (delH v ip m)
 | [] => rfl
 | c :: m => by
  simp only [encH, List.map_cons, delV, delH, sameH]
  by_cases h : c.is v ip = true
  ·
   rw [if_pos h, if_pos h]
   try rfl
  ·
   rw [if_neg h, if_neg h, List.map_cons]
   congr 1
   exact delH_enc v ip m
theorem check_hush (v : Int) (ip : List UInt8) (e : Bool) (w : World) : (Instr.checkKey e 10000 134 (hkV v ip)).run Try.prog w = .ok () w := by
 kernel_rfl
theorem key_hush : KeyTy Try.prog 134 (okA (.int .i64 :: (.str :: []))) sameA := by
 refine keyTy_struct Try.underlying134 ?_
 rintro k ⟨xs, rfl, hx⟩ e w
 obtain ⟨x, r, rfl, h1, h2⟩ := fits_cons hx
 obtain ⟨y, r2, rfl, h3, h4⟩ := fits_cons h2
 obtain rfl := fits_nil h4
 obtain ⟨v, rfl⟩ := ok_int_inv h1
 obtain ⟨ip, rfl⟩ := ok_str_inv h3
 exact check_hush v ip e w
theorem map_hush : Try.prog.underlying 108 = some (.map 134 136) := Try.underlying108
theorem zero_hush (w : World) : (zeroValue 136).run Try.prog w = .ok (hvV (Vector.replicate 6 0) 0) w := by
 kernel_rfl
structure HushT (w : World) (T M : Nat) (time : Int) (m : List HB) : Prop where
 row : row w T = #[.int .i64 time, .map (some M)]
 ok : mapOk w M
 map : mapL w M = encH m
end
section
open Go.RowKit
theorem HushT.lt {w : World} {T M : Nat} {time : Int} {m : List HB} (h : HushT w T M time m) : T < w.heap.size := lt_of_row (i := 0) (by rw [h.row]; simp)
theorem HushT.below {B : Nat} {w w' : World} {T M : Nat} {time : Int} {m : List HB} (h : HushT w T M time m) (hb : Below B w w') (hT : T < B) (hM : M < B) : HushT w' T M time m :=
 ⟨by rw [row_below hb hT, h.row], mapOk_below hb hM h.ok, by rw [mapL_below hb hM, h.map]⟩
theorem hNew_bad (time : Int) (w : World) (h : time < 1 ∨ 1000000 < time) :
  Calls Try.prog 15 #[.int .i64 time] w fun e w' => e = .returned (.tuple #[.pointer none, .int .i64 1]) ∧ Below w.heap.size w w' := by
 go_enter Try.func15, Try.ntmps15
 by_cases h1 : time < 1
 ·
  go_wp2_with fail
  go_ret2
  exact ⟨rfl, Below.refl _ _⟩
 ·
  have h2 : 1000000 < time := by omega
  go_wp2_with fail
  go_ret2
  exact ⟨rfl, Below.refl _ _⟩
theorem hNew_ok (time : Int) (w : World) (h1 : 1 ≤ time) (h2 : time ≤ 1000000) :
  Calls Try.prog 15 #[.int .i64 time] w fun e w' => e = .returned (.tuple #[.pointer (some ⟨w.heap.size + 1, 0, none⟩), .int .i64 0]) ∧ Below w.heap.size w w' ∧ HushT w' (w.heap.size + 1) w.heap.size time [] ∧ w'.heap.size = w.heap.size + 2 := by
 have h3 : ¬ time < 1 := by omega
 have h4 : ¬ 1000000 < time := by omega
 go_enter Try.func15, Try.ntmps15
 go_wp2_with fail
 go_ret2
 refine ⟨rfl, ?_, ⟨?_, ?_, ?_⟩, ?_⟩
 ·
  (repeat (first | exact Below.refl _ _ | refine Below.al ?_ _ | refine Below.drew ?_ | refine Below.sr ?_ _ | refine Below.sc ?_ _))
 ·
  simp [go_sem]
 ·
  refine (mapOk_of_block (Below.heap_alloc _ _ _ (by simp))).2 (mapOk_new _ rfl)
 ·
  rw [mapL_alloc _ _ (by simp), mapL_new _ _ _ rfl]; rfl
 ·
  simp
def foundH (v : Int) (ip : List UInt8) (m : List HB) : Vector UInt8 6 × Bool := match findH v ip m with | some b => (b.mac, true) | none => (Vector.replicate 6 0, false)
theorem hLook (v : Int) (ip : List UInt8) (m : List HB) : ∃ age : Int, ∀ W M, mapOk W M → mapL W M = encH m →
  (Instr.lookup 108 (.map (some M)) (.agg #[.int .i64 v, .string ⟨ip.toArray⟩]) true).run Try.prog W = .ok (.tuple #[.agg (u8v (foundH v ip m).1 ++ [Value.int .i64 age]).toArray, .bool (foundH v ip m).2]) W := by
 refine ⟨match findH v ip m with | some b => b.age | none => 0, fun W M h1 h2 => ?_⟩
 have h := run_look key_hush map_hush (zero_hush W) h1 (okH v ip) (by rw [h2]; exact okH_all m) true
 rw [h2, lookH] at h
 refine Eq.trans h ?_
 unfold foundH
 cases findH v ip m <;> rfl
theorem hFind_any (v : Int) (ip : List UInt8) (w : World) {T M : Nat} {time : Int} {m : List HB} (h : HushT w T M time m) :
  Calls Try.prog 44 #[.pointer (some ⟨T, 0, none⟩), .int .i64 v, .string ⟨ip.toArray⟩] w fun e w' => e = .returned (.tuple #[.agg (u8v (foundH v ip m).1).toArray, .bool (foundH v ip m).2]) ∧ Below w.heap.size w w' := by
 have hr := h.row
 have hlt := h.lt
 have hMlt := h.ok.lt
 obtain ⟨age, hl⟩ := hLook v ip m
 obtain ⟨fm, hfm⟩ : ∃ x, (foundH v ip m).1 = x := ⟨_, rfl⟩
 obtain ⟨fh, hfh⟩ : ∃ x, (foundH v ip m).2 = x := ⟨_, rfl⟩
 rw [hfm, hfh] at hl ⊢
 have hM := h.ok
 have hL := h.map
 clear hfm hfh
 go_enter Try.func44, Try.ntmps44
 go_wp2_with fail
 ((try simp only [Exit.inBlock, Exit.then]); refine bodyPost_ret (results_2 rfl (resOk_row rfl ?_) resOk_tmp) rfl ?_; (simp [go_sem]))
 refine ⟨by simp [go_sem], ?_⟩
 (repeat (first | exact Below.refl _ _ | refine Below.al ?_ _ | refine Below.drew ?_ | refine Below.sr ?_ _ | refine Below.sc ?_ _))
end
end Go.Proofs.Ytckckabedgpbiaa
