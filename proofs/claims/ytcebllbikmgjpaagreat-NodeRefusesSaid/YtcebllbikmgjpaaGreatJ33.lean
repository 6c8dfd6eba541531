/- Texts of this proof, merged: Aead, Bld, AeadL. -/
import Derived.Test.YtcebllbikmgjpaaGreatBytJ
import Derived.Test.YtcebllbikmgjpaaGreatJ2
import Derived.WalkSpells
import Derived.WalkLawsBesides
import Derived.Lib.Hide
import Derived.Test.YtcebllbikmgjpaaGreatShelfJ
set_option linter.unusedSimpArgs false
set_option linter.unusedVariables false
set_option maxHeartbeats 8000000
set_option maxRecDepth 20000
namespace Go.Proofs.YtcebllbikmgjpaaGreat
section
open Go.RowKit
def num8 (n : Nat) : List UInt8 := (List.range 8).map fun k => byteI ((n : Int) / 2 ^ (8 * k))
theorem num8_length (n : Nat) : (num8 n).length = 8 := by simp [num8]
def numK8 (n : Nat) (m : Nat) : List UInt8 := (List.range m).map fun k => byteI ((n : Int) / 2 ^ (8 * k))
theorem numK8_succ (n m : Nat) : numK8 n (m + 1) = numK8 n m ++ [byteI ((n : Int) / 2 ^ (8 * m))] := by simp [numK8, List.range_succ]
theorem number8_any (n : Nat) (w : World) :
  Calls Tryz.prog 186 #[.int .u64 n] w fun e w' => e = .returned (.string ⟨(num8 n).toArray⟩) ∧ Below w.heap.size w w' := by
 go_enter Tryz.func186, Tryz.ntmps186
 go_wp2_with fail
 go_loopw [3, 5] (fun v i wr => ∃ k : Nat, k ≤ 8 ∧ i = .int .i64 k ∧ wr.ownsRow w.heap.size 5 1 v k (u8s (numK8 n k)) ∧ Below w.heap.size w wr) (fun _ i _ => 8 - (intOf i).toNat)
 case atStart => exact ⟨0, by omega, rfl, World.ownsRow_nil _ _ _ _, Below.refl _ _⟩
 case round =>
  obtain ⟨k, hk, rfl, hown, hbel⟩ := hrel
  by_cases hlt : k < 8
  ·
   have h1 : (k : Int) < 8 := by omega
   obtain ⟨p, hp⟩ : ∃ p, 8 * k = p := ⟨_, rfl⟩
   have ep : (8 : Int) * (k : Int) = (p : Int) := by omega
   have hB := byteI_toNat ((n : Int) / 2 ^ p)
   have HP := h_ hp
   have HB := h_ hB.symm
   have hsz := hbel.size
   clear hp hB
   go_wp2_with (at_builtin; refine wpList_append_u8 rfl rfl inferInstance w.heap.size _ k _ rfl hown _ (byteI ((n : Int) / 2 ^ p)) rfl HB.out (by omega) hsz ?_)
   intro v' w2 hown' hb2
   go_wp2_with fail
   go_roundw
   case rel => exact ⟨k + 1, by omega, by simp, by rw [numK8_succ, HP.out, u8s_append]; exact hown', hbel.trans hb2⟩
   case measure => simp [intOf]; omega
  ·
   obtain rfl : k = 8 := by omega
   rw [show ((8 : Nat) : Int) = 8 from rfl]
   have hc := convS_own (P := Tryz.prog) (src := 201) (dst := 9) hown
   go_wp2_with fail
   go_ret
   exact ⟨rfl, hbel⟩
def nonceL (n : Nat) : List UInt8 := [0, 0, 0, 0] ++ num8 n
theorem nonceL_length (n : Nat) : (nonceL n).length = 12 := by simp [nonceL, num8_length]
theorem nonce_any (n : Nat) (w : World) :
  Calls Tryz.prog 136 #[.int .u64 n] w fun e w' => e = .returned (.string ⟨(nonceL n).toArray⟩) ∧ Below w.heap.size w w' := by
 go_enter Tryz.func136, Tryz.ntmps136
 go_wp2_with fail
 refine (number8_any n _).mono ?_
 rintro e w1 ⟨rfl, b1⟩
 go_wp2_with fail
 go_ret
 exact ⟨rfl, b1⟩
/-! ### mac.Same -/
def orF (a b : List UInt8) (i : Nat) (x : UInt8) : UInt8 := x ||| (a.getD i 0 ^^^ b.getD i 0)
theorem orUp_zero (a b : List UInt8) (k : Nat) : upTo (orF a b) k 0 = 0 ↔ ∀ i, i < k → a.getD i 0 = b.getD i 0 := by
 induction k with
 | zero => simp [upTo]
 | succ k ih =>
  rw [upTo, orF, UInt8.or_eq_zero_iff, ih, UInt8.xor_eq_zero_iff]
  constructor
  ·
   rintro ⟨h1, h2⟩ i hi
   by_cases e : i = k
   ·
    subst e; exact h2
   ·
    exact h1 i (by omega)
  ·
   intro h
   exact ⟨fun i hi => h i (by omega), h k (by omega)⟩
theorem same_iffA (a b : List UInt8) (h : a.length = b.length) : (upTo (orF a b) a.length 0 == 0) = (a == b) := by
 rw [Bool.eq_iff_iff, beq_iff_eq, beq_iff_eq, orUp_zero]
 constructor
 ·
  intro hh
  apply List.ext_getElem h
  intro i h1 h2
  have := hh i h1
  simpa [List.getD_eq_getElem?_getD, h1, h2] using this
 ·
  intro e i _
  rw [e]
theorem same_no (a b : List UInt8) (w : World) (h : a.length ≠ b.length) :
  Calls Tryz.prog 184 #[.string ⟨a.toArray⟩, .string ⟨b.toArray⟩] w fun e w' => e = .returned (.bool (a == b)) ∧ Below w.heap.size w w' := by
 have h1 : ((a.length : Int) != b.length) = true := by simp; omega
 have h2 : (a == b) = false := by
  cases hb : a == b with
  | false => rfl
  | true => exact absurd (congrArg List.length (by simpa using hb)) h
 rw [h2]
 clear h2
 go_enter Tryz.func184, Tryz.ntmps184
 go_wp2_with fail
 go_ret
 exact ⟨rfl, Below.refl _ _⟩
theorem same_yes (a b : List UInt8) (w : World) (h : a.length = b.length) (hl : a.length ≤ 100000) :
  Calls Tryz.prog 184 #[.string ⟨a.toArray⟩, .string ⟨b.toArray⟩] w fun e w' => e = .returned (.bool (a == b)) ∧ Below w.heap.size w w' := by
 have h1 : ((a.length : Int) != b.length) = false := by simp; omega
 rw [← same_iffA a b h]
 have hl2 : (a.length : Int) ≤ 100000 := by omega
 have HH := h_ h
 clear h
 go_enter Tryz.func184, Tryz.ntmps184
 go_wp2_with fail
 clear h1
 go_loopw [5, 14] (fun x i wr => ∃ (k : Nat) (v : UInt8), k ≤ a.length ∧ i = .int .i64 k ∧ upTo (orF a b) k 0 = v ∧ x = .int .u8 (v.toNat : Int) ∧ Below w.heap.size w wr) (fun _ i _ => a.length - (intOf i).toNat)
 case atStart => exact ⟨0, 0, by omega, rfl, rfl, rfl, Below.refl _ _⟩
 case round =>
  obtain ⟨k, v, hk, rfl, hv, rfl, hbel⟩ := hrel
  have HV := h_ hv
  clear hv
  by_cases hlt : k < a.length
  ·
   have g1 : (k : Int) < a.length := by omega
   have g2 : (k : Int) < b.length := by have := HH.out; omega
   have g3 : k < b.length := by have := HH.out; omega
   obtain ⟨x, hx⟩ : ∃ x, a[k] ^^^ b[k] = x := ⟨_, rfl⟩
   obtain ⟨y, hy⟩ : ∃ y, v ||| x = y := ⟨_, rfl⟩
   have e1 := xor_u8 a[k] b[k]
   have e2 := or_u8 v x
   rw [hx] at e1
   rw [hy] at e2
   have hF : orF a b k v = y := by
    rw [orF, ← hy, ← hx]
    simp [List.getD_eq_getElem?_getD, hlt, g3]
   have HF := h_ hF
   clear hF hx hy
   go_wp2_with fail
   refine wp_region_beginR [] rfl trivial (fun hS => ?_)
   refine qp 0 hS ?_
   refine qp 1 hS ?_
   refine qp 2 hS ?_
   refine qp 3 hS ?_
   refine qp 4 hS ?_
   refine qp 5 hS ?_
   refine qp 6 hS ?_
   refine qp 7 hS ?_
   refine qp 8 hS ?_
   refine qp 9 hS ?_
   refine wpAnyR_done kr_ (fun wN hN => ?_) _
   replace hN : Below (wr).heap.size (wr) wN := below_step (Below.drew (Below.refl _ _)) hN
   go_wp2_with fail
   go_roundw
   case rel => exact ⟨k + 1, y, by omega, by simp, by rw [upTo, HV.out, HF.out], rfl, Below.trans hbel (hN.mono hbel.size)⟩
   case measure => simp [intOf]; omega
  ·
   obtain rfl : k = a.length := by omega
   have e : ((v.toNat : Int) == 0) = (v == 0) := by
    rw [Bool.eq_iff_iff, beq_iff_eq, beq_iff_eq]
    constructor
    ·
     intro h0
     exact UInt8.toNat_inj.1 (by simp; omega)
    ·
     intro h0
     rw [h0]
     rfl
   go_wp2_with fail
   go_ret
   exact ⟨by simp [HV.out], hbel⟩
theorem same_any (a b : List UInt8) (w : World) (hl : a.length ≤ 100000) :
  Calls Tryz.prog 184 #[.string ⟨a.toArray⟩, .string ⟨b.toArray⟩] w fun e w' => e = .returned (.bool (a == b)) ∧ Below w.heap.size w w' := by
 by_cases h : a.length = b.length
 ·
  exact same_yes a b w h hl
 ·
  exact same_no a b w h
end
section
open Go.RowKit
theorem bld_size : (Tryz.prog.info? 408).map (·.size) = some 2 := by kernel_rfl
theorem bld_lies : liesAt Tryz.prog Tryz.prog.depth 408 (2 / Tryz.prog.cellsOf 408) 0 408 1 = true := by kernel_rfl
theorem bld_byte : (Tryz.prog.info? 5).map (fun i => (i.zero, i.size, i.bytes)) = some (some (.int .u8 0), 1, 1) := by kernel_rfl
set_option maxRecDepth 100000 in
theorem copyCheck_used (b : Nat) (w : World) (h0 : w.cell? ⟨b, 0, none⟩ = some (.pointer (some ⟨b, 0, none⟩))) :
  Calls Tryz.prog 266 #[.pointer (some ⟨b, 0, none⟩)] w fun e w' => e = .returned (.tuple #[]) ∧ w' = w := by
 obtain ⟨j, hj, _⟩ := Option.map_eq_some_iff.1 bld_size
 go_enter Tryz.func266, Tryz.ntmps266
 go_wp2_with fail
 rw [Lib.run_neq_ptr_same w _ Tryz.underlying406 hj]
 go_wp2_with fail
 go_end0
 exact ⟨rfl, rfl⟩
set_option maxRecDepth 100000 in
theorem copyCheck_fresh (b : Nat) (w : World) (h0 : w.cell? ⟨b, 0, none⟩ = some (.pointer none)) (hsh : w.shape? b = some (408, 2)) (hfz : w.frozen? ⟨b, 0, none⟩ = false) :
  Calls Tryz.prog 266 #[.pointer (some ⟨b, 0, none⟩)] w fun e w' => e = .returned (.tuple #[]) ∧ w' = w.setCell ⟨b, 0, none⟩ (.pointer (some ⟨b, 0, none⟩)) := by
 obtain ⟨j, hj, hjs⟩ := Option.map_eq_some_iff.1 bld_size
 go_enter Tryz.func266, Tryz.ntmps266
 go_wp2_with fail
 rw [Lib.run_to_unsafe w ⟨b, 0, none⟩ Tryz.underlying406 Tryz.underlying445 hj (by rw [hjs]; decide) hsh (Nat.zero_lt_succ 1)]
 simp only [Result.andThen]
 rw [Oper.upon_value]
 go_wp2_with fail
 rw [run_callFunc_extern Tryz.func277 kr_ kr_ kr_ (e := Extern.AbiNoEscape.same) kr_]
 rw [Lib.run_noEscape]
 simp only [Result.andThen]
 rw [Oper.upon_value]
 go_wp2_with fail
 rw [Lib.run_from_unsafe w ⟨b, 0, none⟩ Tryz.underlying445 Tryz.underlying406 hj hsh bld_lies]
 simp only [Result.andThen]
 rw [Oper.upon_value]
 go_wp2_with fail
 go_end0
 exact ⟨rfl, rfl⟩
theorem copyCheck_any (B b : Nat) (bs : List Value) (w : World) (h : Lib.IsBuilder 408 5 B b bs w) :
  Calls Tryz.prog 266 #[.pointer (some ⟨b, 0, none⟩)] w fun e w' => e = .returned (.tuple #[]) ∧ (Lib.BuilderAt 408 5 B b (.pointer (some ⟨b, 0, none⟩)) bs w' ∧ Below B w w') := by
 rcases h with h | h
 ·
  refine (copyCheck_fresh b w h.cell0 h.shape h.frozen0).mono ?_
  rintro e w' ⟨rfl, rfl⟩
  exact ⟨rfl, h.used _, (Below.refl B w).setCell (p := ⟨b, 0, none⟩) h.1 _⟩
 ·
  refine (copyCheck_used b w h.cell0).mono ?_
  rintro e w' ⟨rfl, rfl⟩
  exact ⟨rfl, h, Below.refl B _⟩
set_option maxRecDepth 100000 in
theorem writeString_any (B b : Nat) (bs : List Value) (s : ByteArray) (w : World) (h : Lib.IsBuilder 408 5 B b bs w) (hlen : bs.length + s.size ≤ 140737488355328) (hBw : B ≤ w.heap.size) :
  Calls Tryz.prog 243 #[.pointer (some ⟨b, 0, none⟩), .string s] w fun e w' => e = .returned (.tuple #[.int .i64 s.size, .nilIface]) ∧ (Lib.BuilderAt 408 5 B b (.pointer (some ⟨b, 0, none⟩)) (bs ++ Lib.strCells s) w' ∧ Below B w w') := by
 obtain ⟨i0, hi, hz0, hz1, hz2⟩ := info_parts bld_byte
 go_enter Tryz.func243, Tryz.ntmps243
 go_wp2_with fail
 refine (copyCheck_any B b bs _ h).mono ?_
 rintro e w1 ⟨rfl, h1, hb1⟩
 obtain ⟨hB, v, hbk, hown, hne⟩ := h1
 have c0 : w1.cell? ⟨b, 0, none⟩ = some (.pointer (some ⟨b, 0, none⟩)) := by rw [Lib.cell_of_heap hbk]; rfl
 have c1 : w1.cell? ⟨b, 1, none⟩ = some v := by rw [Lib.cell_of_heap hbk]; rfl
 go_wp2_with (at_builtin; refine Lib.wpList_append_own_string _ rfl _ _ 201 9 rfl B 5 i0 Tryz.underlying201 Tryz.underlying9 hi hz0 hz1 hz2 _ _ _ rfl hown s rfl ?c3 ?c4 ?c5 ?_)
 case c3 => unfold maxLen; omega
 case c4 => omega
 case c5 => have := hb1.size; omega
 intro v' w2 hown' hgrow _
 have hlt : b < w1.heap.size := by
  rcases Nat.lt_or_ge b w1.heap.size with h' | h'
  ·
   exact h'
  ·
   simp [Array.getElem?_eq_none h'] at hbk
 have hb2 : w2.heap[b]? = some (.cells #[.pointer (some ⟨b, 0, none⟩), v] 408 (0, 0)) := by
  rw [hgrow.block b hlt (fun e => hne e.symm)]
  exact hbk
 have d0 : w2.cell? ⟨b, 0, none⟩ = some (.pointer (some ⟨b, 0, none⟩)) := by rw [Lib.cell_of_heap hb2]; rfl
 have d1 : w2.cell? ⟨b, 1, none⟩ = some v := by rw [Lib.cell_of_heap hb2]; rfl
 have f1 : w2.frozen? ⟨b, 1, none⟩ = false := Lib.frozen_of_heap hb2 1
 have hrow : row w2 b = #[.pointer (some ⟨b, 0, none⟩), v] := by unfold row; rw [hb2]; simp
 obtain ⟨ao, n', cap, rfl⟩ : ∃ ao n' cap, v' = .slice ao n' cap := by
  rcases hown'.2 with ⟨hv, _⟩ | ⟨g, cap, cur, hv, _⟩
  ·
   exact ⟨_, _, _, hv⟩
  ·
   exact ⟨_, _, _, hv⟩
 go_wp2_with fail
 go_ret2
 have hset : w2.setRow b #[.pointer (some ⟨b, 0, none⟩), .slice ao n' cap] = w2.setCell ⟨b, 1, none⟩ (.slice ao n' cap) := by
  rw [setCell_row (.slice ao n' cap) (by rw [hrow]; exact Nat.zero_lt_succ _), hrow]
  rfl
 rw [hset]
 refine ⟨rfl, ?_, ?_⟩
 ·
  exact Lib.BuilderAt.put (T := 408) (e := 5) hB hb2 (bs' := bs ++ Lib.strCells s) (by simpa [Lib.strCells_length] using hown') (by decide)
 ·
  exact Below.setCell (p := ⟨b, 1, none⟩) (hb1.grown hgrow (by have := hb1.size; omega) (fun k hk => (hown.lt k hk).1)) hB _
end
section
open Go.RowKit
theorem ownsRow_below {B : Nat} {e : TypeId} {k : Nat} {v : Value} {n : Nat} {xs : List Value} {w w' : World} (h : w.ownsRow B e k v n xs) (hb : Below w.heap.size w w') : w'.ownsRow B e k v n xs :=
 h.kept (row := none) ⟨hb.os, hb.tape, hb.output, hb.size, fun j hj _ => hb.block j hj⟩ (by cases hv : v.ownBlock <;> simp)
theorem builderAt_below {T e : TypeId} {B b : Nat} {p : Value} {bs : List Value} {w w' : World} (h : Lib.BuilderAt T e B b p bs w) (hb : Below w.heap.size w w') : Lib.BuilderAt T e B b p bs w' := by
 have hlt := h.lt
 obtain ⟨hB, v, hbk, hown, hne⟩ := h
 exact ⟨hB, v, by rw [hb.block b hlt]; exact hbk, ownsRow_below hown hb, hne⟩
theorem isBuilder_below {T e : TypeId} {B b : Nat} {bs : List Value} {w w' : World} (h : Lib.IsBuilder T e B b bs w) (hb : Below w.heap.size w w') : Lib.IsBuilder T e B b bs w' :=
 h.imp (fun h => builderAt_below h hb) (fun h => builderAt_below h hb)
theorem writeStringL (B b : Nat) (l0 l : List UInt8) (w : World) (h : Lib.IsBuilder 408 5 B b (Lib.byteCells l0) w) (hlen : l0.length + l.length ≤ 140737488355328) (hBw : B ≤ w.heap.size) :
  Calls Tryz.prog 243 #[.pointer (some ⟨b, 0, none⟩), .string ⟨l.toArray⟩] w fun e w' => e = .returned (.tuple #[.int .i64 l.length, .nilIface]) ∧ (Lib.IsBuilder 408 5 B b (Lib.byteCells (l0 ++ l)) w' ∧ Below B w w') := by
 have e1 : (ByteArray.mk l.toArray).size = l.length := by simp [ByteArray.size]
 refine (writeString_any B b _ ⟨l.toArray⟩ w h (by rw [e1]; simpa [Lib.byteCells] using hlen) hBw).mono ?_
 rintro e w' ⟨rfl, h1, h2⟩
 rw [e1]
 refine ⟨rfl, .inr ?_, h2⟩
 have : Lib.byteCells (l0 ++ l) = Lib.byteCells l0 ++ Lib.strCells ⟨l.toArray⟩ := by simp [Lib.byteCells, Lib.strCells]
 rw [this]
 exact h1
def padN (n : Nat) : Nat := (16 - n % 16) % 16
def padL (l : List UInt8) : List UInt8 := l ++ List.replicate (padN l.length) 0
theorem repeat0 (n : Nat) : Lib.repeatL [(0 : UInt8)] n = List.replicate n 0 := by
 induction n with
 | zero => rfl
 | succ n ih => rw [Lib.repeatL, ih]; rfl
theorem repeat0_any (q : Nat) (w : World) (hq : q < 16) :
  Calls Tryz.prog 244 #[.string ⟨#[0]⟩, .int .i64 q] w fun e w' => e = .returned (.string ⟨(List.replicate q (0 : UInt8)).toArray⟩) ∧ Below w.heap.size w w' := by
 refine (Tryz.strings_Repeat ⟨#[0]⟩ q w (by omega) (by show 1 * q ≤ _; omega)).mono ?_
 rintro e w' ⟨rfl, h⟩
 refine ⟨?_, h⟩
 rw [show (ByteArray.mk #[(0 : UInt8)]).data.toList = [0] from rfl, repeat0]
def strs (ps : List (List UInt8)) : List Value := ps.map fun l => .string ⟨l.toArray⟩
@[simp, go_sem] theorem strs_length (ps : List (List UInt8)) : (strs ps).length = ps.length := by simp [strs]
@[simp, go_sem] theorem strs_get (ps : List (List UInt8)) (k : Nat) (h : k < ps.length) : (strs ps)[k]? = some (.string ⟨ps[k].toArray⟩) := by simp [strs, h]
@[simp, go_sem] theorem strs_getElem (ps : List (List UInt8)) (k : Nat) (h : k < (strs ps).length) : (strs ps)[k] = .string ⟨(ps[k]'(by simpa using h)).toArray⟩ := by simp [strs]
def padsL (ps : List (List UInt8)) (k : Nat) : List UInt8 := (ps.take k).flatMap padL
def lensL (ps : List (List UInt8)) (k : Nat) : List UInt8 := (ps.take k).flatMap fun l => num8 l.length
theorem padsL_succ (ps : List (List UInt8)) (k : Nat) (h : k < ps.length) : padsL ps (k + 1) = padsL ps k ++ padL ps[k] := by
 rw [padsL, padsL, List.take_succ_eq_append_getElem h, List.flatMap_append]
 simp
theorem lensL_succ (ps : List (List UInt8)) (k : Nat) (h : k < ps.length) : lensL ps (k + 1) = lensL ps k ++ num8 ps[k].length := by
 rw [lensL, lensL, List.take_succ_eq_append_getElem h, List.flatMap_append]
 simp
theorem padL_length (l : List UInt8) : (padL l).length ≤ l.length + 16 := by
 have h : padN l.length < 16 := Nat.mod_lt _ (by omega)
 rw [padL, List.length_append, List.length_replicate]
 omega
theorem padsL_length (ps : List (List UInt8)) (M : Nat) (h : ∀ p ∈ ps, p.length ≤ M) (k : Nat) : (padsL ps k).length ≤ k * (M + 16) := by
 induction k with
 | zero => simp [padsL]
 | succ k ih =>
  by_cases hk : k < ps.length
  ·
   rw [padsL_succ ps k hk]
   have := padL_length ps[k]
   have := h _ (List.getElem_mem hk)
   rw [List.length_append, Nat.succ_mul]
   omega
  ·
   have : padsL ps (k + 1) = padsL ps k := by
    rw [padsL, padsL, List.take_of_length_le (by omega), List.take_of_length_le (by omega)]
   rw [this, Nat.succ_mul]; omega
theorem lensL_length (ps : List (List UInt8)) (k : Nat) : (lensL ps k).length ≤ k * 8 := by
 induction k with
 | zero => simp [lensL]
 | succ k ih =>
  by_cases hk : k < ps.length
  ·
   rw [lensL_succ ps k hk]
   simp only [List.length_append, num8_length]
   omega
  ·
   have : lensL ps (k + 1) = lensL ps k := by
    rw [lensL, lensL, List.take_of_length_le (by omega), List.take_of_length_le (by omega)]
   rw [this]; omega
def laidL (ps : List (List UInt8)) : List UInt8 := padsL ps ps.length ++ lensL ps ps.length
theorem laid_any (ps : List (List UInt8)) (g : Nat) (w : World) (hg : g < w.heap.size) (hr : row w g = (strs ps).toArray) (hn : ps.length ≤ 4) (hl : ∀ p ∈ ps, p.length ≤ 100000) :
  Calls Tryz.prog 213 #[.slice (some ⟨g, 0, none⟩) ps.length ps.length] w fun e w' => e = .returned (.string ⟨(laidL ps).toArray⟩) ∧ Below w.heap.size w w' := by
 have hn2 : (ps.length : Int) ≤ 4 := by omega
 have hHL := h_ hl
 clear hl
 go_enter Tryz.func213, Tryz.ntmps213
 go_wp2_with fail
 have hB0 : Lib.IsBuilder 408 5 w.heap.size w.heap.size (Lib.byteCells (padsL ps 0)) (w.alloc (.cells #[.pointer none, .slice none 0 0] 408)) := Lib.fresh_isBuilder _ _ w
 go_loopw [10] (fun i wr => ∃ k : Nat, k ≤ ps.length ∧ i = .int .i64 k ∧ Lib.IsBuilder 408 5 w.heap.size w.heap.size (Lib.byteCells (padsL ps k)) wr ∧ Below w.heap.size w wr) (fun i _ => ps.length - (intOf i).toNat)
 case atStart => exact ⟨0, by omega, rfl, hB0, blw_⟩
 case round =>
  obtain ⟨k, hk, rfl, hb, hbel⟩ := hrel
  have rP : row wr g = (strs ps).toArray := (row_below hbel hg).trans hr
  by_cases hlt : k < ps.length
  ·
   have h1 : (k : Int) < ps.length := by omega
   have hp : ps[k].length ≤ 100000 := hHL.out _ (List.getElem_mem hlt)
   obtain ⟨l, el⟩ : ∃ l, ps[k] = l := ⟨_, rfl⟩
   rw [el] at hp
   have hp2 : (l.length : Int) ≤ 100000 := by omega
   obtain ⟨q, eq⟩ : ∃ q, padN l.length = q := ⟨_, rfl⟩
   obtain ⟨r, er⟩ : ∃ r, l.length % 16 = r := ⟨_, rfl⟩
   have hr16 : (r : Int) < 16 := by omega
   have hq : q < 16 := by rw [← eq]; exact Nat.mod_lt _ (by omega)
   have e1 : (l.length : Int) % 16 = (r : Int) := by omega
   have e2 : (16 - (r : Int)) % 16 = (q : Int) := by rw [← eq, padN, er]; omega
   have e3 : (-(r : Int)) % 16 = (q : Int) := by rw [← eq, padN, er]; omega
   have hpn : padL l = l ++ List.replicate q 0 := by rw [padL, eq]
   have HP := h_ hpn
   clear hpn eq er
   go_wp2_with fail
   refine (repeat0_any q wr hq).mono ?_
   rintro e w1 ⟨rfl, c1⟩
   have hb1 := isBuilder_below hb c1
   have hbel1 : Below w.heap.size w w1 := hbel.trans (c1.mono hbel.size)
   have hlen := padsL_length ps 100000 hHL.out k
   have hk4 : k ≤ 4 := by omega
   have hlen2 : (padsL ps k).length ≤ 400064 := Nat.le_trans hlen (Nat.mul_le_mul_right (100000 + 16) hk4)
   clear e1 e2 e3 hlen
   go_wp2_with fail
   refine (writeStringL w.heap.size w.heap.size (padsL ps k) (l ++ List.replicate q 0) _ hb1 (by rw [List.length_append, List.length_replicate]; omega) hbel1.size).mono ?_
   rintro e w2 ⟨rfl, hb2, c2⟩
   clear hlen2
   have hpl : padsL ps (k + 1) = padsL ps k ++ (l ++ List.replicate q 0) := by rw [padsL_succ ps k hlt, el, HP.out]
   have HPL := h_ hpl
   clear hpl
   go_wp2_with fail
   go_roundw
   case rel => exact ⟨k + 1, by omega, by simp, by rw [HPL.out]; exact hb2, hbel1.trans c2⟩
   case measure => simp [intOf]; omega
  ·
   obtain rfl : k = ps.length := by omega
   go_wp2_with fail
   have hlen2 : (padsL ps ps.length).length ≤ 400064 := Nat.le_trans (padsL_length ps 100000 hHL.out _) (Nat.mul_le_mul_right (100000 + 16) hn)
   have hb0 : Lib.IsBuilder 408 5 w.heap.size w.heap.size (Lib.byteCells (padsL ps ps.length ++ lensL ps 0)) wr := by
    rw [show lensL ps 0 = [] from rfl, List.append_nil]
    exact hb
   obtain ⟨P, hP⟩ : ∃ P, padsL ps ps.length = P := ⟨_, rfl⟩
   rw [hP] at hb0 hlen2
   have HPP := h_ hP
   have HL2 := h_ hlen2
   clear hb rP hlen2 hP hlt
   go_loopw [26] (fun i wr => ∃ k : Nat, k ≤ ps.length ∧ i = .int .i64 k ∧ Lib.IsBuilder 408 5 w.heap.size w.heap.size (Lib.byteCells (P ++ lensL ps k)) wr ∧ Below w.heap.size w wr) (fun i _ => ps.length - (intOf i).toNat)
   case atStart => exact ⟨0, by omega, rfl, hb0, hbel⟩
   case round =>
    clear hb0 hbel
    obtain ⟨k, hk, rfl, hb, hbel⟩ := hrel
    have rP : row wr g = (strs ps).toArray := (row_below hbel hg).trans hr
    by_cases hlt : k < ps.length
    ·
     have h1 : (k : Int) < ps.length := by omega
     have hp : ps[k].length ≤ 100000 := hHL.out _ (List.getElem_mem hlt)
     obtain ⟨l, el⟩ : ∃ l, ps[k] = l := ⟨_, rfl⟩
     rw [el] at hp
     have hp2 : (l.length : Int) ≤ 100000 := by omega
     go_wp2_with fail
     refine (number8_any l.length wr).mono ?_
     rintro e w1 ⟨rfl, c1⟩
     have hb1 := isBuilder_below hb c1
     have hbel1 : Below w.heap.size w w1 := hbel.trans (c1.mono hbel.size)
     have hlen := lensL_length ps k
     go_wp2_with fail
     refine (writeStringL w.heap.size w.heap.size (P ++ lensL ps k) (num8 l.length) _ hb1 (by have := HL2.out; rw [List.length_append, num8_length]; omega) hbel1.size).mono ?_
     rintro e w2 ⟨rfl, hb2, c2⟩
     clear hlen
     have hpl : P ++ lensL ps (k + 1) = P ++ lensL ps k ++ num8 l.length := by rw [lensL_succ ps k hlt, el, List.append_assoc]
     have HPL := h_ hpl
     clear hpl
     go_wp2_with fail
     go_roundw
     case rel => exact ⟨k + 1, by omega, by simp, by rw [HPL.out]; exact hb2, hbel1.trans c2⟩
     case measure => simp [intOf]; omega
    ·
     obtain rfl : k = ps.length := by omega
     go_wp2_with fail
     refine (Tryz.Builder_String_any w.heap.size w.heap.size _ _ hb hbel.size).mono ?_
     rintro e w1 ⟨rfl, c1⟩
     go_wp2_with fail
     go_ret
     exact ⟨by rw [laidL, HPP.out]; rfl, hbel.trans c1⟩
end
end Go.Proofs.YtcebllbikmgjpaaGreat
