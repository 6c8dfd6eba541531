/- Contract of aead.laid: texts filled up, and their lengths. -/
import Derived.Test.YtakkicppgkmokaaAeadJ
import Derived.Test.YtakkicppgkmokaaBldJ
set_option linter.unusedSimpArgs false
set_option linter.unusedVariables false
namespace Go.Proofs.Ytakkicppgkmokaa
open Go.RowKit
theorem ownsRow_below {B : Nat} {e : TypeId} {k : Nat} {v : Value} {n : Nat} {xs : List Value} {w w' : World} (h : w.ownsRow B e k v n xs) (hb : Below w.heap.size w w') : w'.ownsRow B e k v n xs :=
  h.kept (row := none) ⟨hb.os, hb.tape, hb.output, hb.size, fun j hj _ => hb.block j hj⟩ (by cases hv : v.ownBlock <;> simp)
theorem builderAt_below {T e : TypeId} {B b : Nat} {p : Value} {bs : List Value} {w w' : World} (h : Lib.BuilderAt T e B b p bs w) (hb : Below w.heap.size w w') : Lib.BuilderAt T e B b p bs w' := by
  have hlt := h.lt
  obtain ⟨hB, v, hbk, hown, hne⟩ := h
  exact ⟨hB, v, by rw [hb.block b hlt]; exact hbk, ownsRow_below hown hb, hne⟩
theorem isBuilder_below {T e : TypeId} {B b : Nat} {bs : List Value} {w w' : World} (h : Lib.IsBuilder T e B b bs w) (hb : Below w.heap.size w w') : Lib.IsBuilder T e B b bs w' :=
  h.imp (fun h => builderAt_below h hb) (fun h => builderAt_below h hb)
theorem writeStringL (B b : Nat) (l0 l : List UInt8) (w : World) (h : Lib.IsBuilder 106 5 B b (Lib.byteCells l0) w) (hlen : l0.length + l.length ≤ 140737488355328) (hBw : B ≤ w.heap.size) :
    Calls Try.prog 76 #[.pointer (some ⟨b, 0, none⟩), .string ⟨l.toArray⟩] w fun e w' => e = .returned (.tuple #[.int .i64 l.length, .nilIface]) ∧ (Lib.IsBuilder 106 5 B b (Lib.byteCells (l0 ++ l)) w' ∧ Below B w w') := by
  have e1 : (ByteArray.mk l.toArray).size = l.length := by simp [ByteArray.size]
  refine (writeString_any B b _ ⟨l.toArray⟩ w h (by rw [e1]; simpa [Lib.byteCells] using hlen) hBw).mono ?_
  rintro e w' ⟨rfl, h1, h2⟩
  rw [e1]
  refine ⟨rfl, .inr ?_, h2⟩
  have : Lib.byteCells (l0 ++ l) = Lib.byteCells l0 ++ Lib.strCells ⟨l.toArray⟩ := by simp [Lib.byteCells, Lib.strCells]
  rw [this]
  exact h1
def padN (n : Nat) : Nat := (16 - n % 16) % 16
def padL (l : List UInt8) : List UInt8 := l ++ List.replicate (padN l.length) 0
theorem repeat0 (n : Nat) : Lib.repeatL [(0 : UInt8)] n = List.replicate n 0 := by
  induction n with
  | zero => rfl
  | succ n ih => rw [Lib.repeatL, ih]; rfl
theorem repeat0_any (q : Nat) (w : World) (hq : q < 16) :
    Calls Try.prog 57 #[.string ⟨#[0]⟩, .int .i64 q] w fun e w' => e = .returned (.string ⟨(List.replicate q (0 : UInt8)).toArray⟩) ∧ Below w.heap.size w w' := by
  refine (Try.strings_Repeat ⟨#[0]⟩ q w (by omega) (by show 1 * q ≤ _; omega)).mono ?_
  rintro e w' ⟨rfl, h⟩
  refine ⟨?_, h⟩
  rw [show (ByteArray.mk #[(0 : UInt8)]).data.toList = [0] from rfl, repeat0]
def strs (ps : List (List UInt8)) : List Value := ps.map fun l => .string ⟨l.toArray⟩
@[simp, go_sem] theorem strs_length (ps : List (List UInt8)) : (strs ps).length = ps.length := by simp [strs]
@[simp, go_sem] theorem strs_get (ps : List (List UInt8)) (k : Nat) (h : k < ps.length) : (strs ps)[k]? = some (.string ⟨ps[k].toArray⟩) := by simp [strs, h]
@[simp, go_sem] theorem strs_getElem (ps : List (List UInt8)) (k : Nat) (h : k < (strs ps).length) : (strs ps)[k] = .string ⟨(ps[k]'(by simpa using h)).toArray⟩ := by simp [strs]
def padsL (ps : List (List UInt8)) (k : Nat) : List UInt8 := (ps.take k).flatMap padL
def lensL (ps : List (List UInt8)) (k : Nat) : List UInt8 := (ps.take k).flatMap fun l => num8 l.length
theorem padsL_succ (ps : List (List UInt8)) (k : Nat) (h : k < ps.length) : padsL ps (k + 1) = padsL ps k ++ padL ps[k] := by
  rw [padsL, padsL, List.take_succ_eq_append_getElem h, List.flatMap_append]
  simp
theorem lensL_succ (ps : List (List UInt8)) (k : Nat) (h : k < ps.length) : lensL ps (k + 1) = lensL ps k ++ num8 ps[k].length := by
  rw [lensL, lensL, List.take_succ_eq_append_getElem h, List.flatMap_append]
  simp
theorem padL_length (l : List UInt8) : (padL l).length ≤ l.length + 16 := by
  have h : padN l.length < 16 := Nat.mod_lt _ (by omega)
  rw [padL, List.length_append, List.length_replicate]
  omega
theorem padsL_length (ps : List (List UInt8)) (M : Nat) (h : ∀ p ∈ ps, p.length ≤ M) (k : Nat) : (padsL ps k).length ≤ k * (M + 16) := by
  induction k with
  | zero => simp [padsL]
  | succ k ih =>
    by_cases hk : k < ps.length
    · rw [padsL_succ ps k hk]
      have := padL_length ps[k]
      have := h _ (List.getElem_mem hk)
      rw [List.length_append, Nat.succ_mul]
      omega
    · have : padsL ps (k + 1) = padsL ps k := by
        rw [padsL, padsL, List.take_of_length_le (by omega), List.take_of_length_le (by omega)]
      rw [this, Nat.succ_mul]; omega
theorem lensL_length (ps : List (List UInt8)) (k : Nat) : (lensL ps k).length ≤ k * 8 := by
  induction k with
  | zero => simp [lensL]
  | succ k ih =>
    by_cases hk : k < ps.length
    · rw [lensL_succ ps k hk]
      simp only [List.length_append, num8_length]
      omega
    · have : lensL ps (k + 1) = lensL ps k := by
        rw [lensL, lensL, List.take_of_length_le (by omega), List.take_of_length_le (by omega)]
      rw [this]; omega
theorem pad_mods (n : Nat) : ((16 : Int) - ((n : Int)).tmod 16).tmod 16 = (padN n : Int) := by
  have e : ((n : Int)).tmod 16 = ((n % 16 : Nat) : Int) := by rw [Int.tmod_eq_emod_of_nonneg (by omega)]; omega
  have h := Nat.mod_lt n (show 0 < 16 by omega)
  rw [padN, e, Int.tmod_eq_emod_of_nonneg (by omega)]
  omega
def laidL (ps : List (List UInt8)) : List UInt8 := padsL ps ps.length ++ lensL ps ps.length
set_option maxRecDepth 20000 in
set_option maxHeartbeats 1000000 in
theorem laid_any (ps : List (List UInt8)) (g : Nat) (w : World) (hg : g < w.heap.size) (hr : row w g = (strs ps).toArray) (hn : ps.length ≤ 4) (hl : ∀ p ∈ ps, p.length ≤ 100000) :
    Calls Try.prog 69 #[.slice (some ⟨g, 0, none⟩) ps.length ps.length] w fun e w' => e = .returned (.string ⟨(laidL ps).toArray⟩) ∧ Below w.heap.size w w' := by
  have hn2 : (ps.length : Int) ≤ 4 := by omega
  have hHL := Lib.hid hl
  clear hl
  go_enter Try.func69, Try.ntmps69
  go_wp2_with fail
  have hB0 : Lib.IsBuilder 106 5 w.heap.size w.heap.size (Lib.byteCells (padsL ps 0)) (w.alloc (.cells #[.pointer none, .slice none 0 0] 106)) := Lib.fresh_isBuilder _ _ w
  go_loopw [10] (fun i wr => ∃ k : Nat, k ≤ ps.length ∧ i = .int .i64 k ∧ Lib.IsBuilder 106 5 w.heap.size w.heap.size (Lib.byteCells (padsL ps k)) wr ∧ Below w.heap.size w wr) (fun i _ => ps.length - (intOf i).toNat)
  case atStart => exact ⟨0, by omega, rfl, hB0, (by (repeat (first | exact Below.refl _ _ | refine Below.alloc ?_ (by first | (simp; done) | (simp; omega) | omega) _ | refine Below.drew ?_ | refine Below.setRow ?_ (by first | (simp; done) | (simp; omega) | omega) _ | refine Below.setCell ?_ (by first | (simp; done) | (simp; omega) | omega) _)))⟩
  case round =>
    obtain ⟨k, hk, rfl, hb, hbel⟩ := hrel
    have rP : row wr g = (strs ps).toArray := (row_below hbel hg).trans hr
    by_cases hlt : k < ps.length
    · have h1 : (k : Int) < ps.length := by omega
      have hp : ps[k].length ≤ 100000 := hHL.out _ (List.getElem_mem hlt)
      obtain ⟨l, el⟩ : ∃ l, ps[k] = l := ⟨_, rfl⟩
      rw [el] at hp
      have hp2 : (l.length : Int) ≤ 100000 := by omega
      obtain ⟨q, eq⟩ : ∃ q, padN l.length = q := ⟨_, rfl⟩
      obtain ⟨r, er⟩ : ∃ r, l.length % 16 = r := ⟨_, rfl⟩
      have hr16 : (r : Int) < 16 := by omega
      have hq : q < 16 := by rw [← eq]; exact Nat.mod_lt _ (by omega)
      have e1 : (l.length : Int) % 16 = (r : Int) := by omega
      have e2 : (16 - (r : Int)) % 16 = (q : Int) := by rw [← eq, padN, er]; omega
      have e3 : (-(r : Int)) % 16 = (q : Int) := by rw [← eq, padN, er]; omega
      have hpn : padL l = l ++ List.replicate q 0 := by rw [padL, eq]
      have HP := Lib.hid hpn
      clear hpn eq er
      go_wp2_with fail
      refine (repeat0_any q wr hq).mono ?_
      rintro e w1 ⟨rfl, c1⟩
      have hb1 := isBuilder_below hb c1
      have hbel1 : Below w.heap.size w w1 := hbel.trans (c1.mono hbel.size)
      have hlen := padsL_length ps 100000 hHL.out k
      have hk4 : k ≤ 4 := by omega
      have hlen2 : (padsL ps k).length ≤ 400064 := Nat.le_trans hlen (Nat.mul_le_mul_right (100000 + 16) hk4)
      clear e1 e2 e3 hlen
      go_wp2_with fail
      refine (writeStringL w.heap.size w.heap.size (padsL ps k) (l ++ List.replicate q 0) _ hb1 (by rw [List.length_append, List.length_replicate]; omega) hbel1.size).mono ?_
      rintro e w2 ⟨rfl, hb2, c2⟩
      clear hlen2
      have hpl : padsL ps (k + 1) = padsL ps k ++ (l ++ List.replicate q 0) := by rw [padsL_succ ps k hlt, el, HP.out]
      have HPL := Lib.hid hpl
      clear hpl
      go_wp2_with fail
      go_roundw
      case rel => exact ⟨k + 1, by omega, by simp, by rw [HPL.out]; exact hb2, hbel1.trans c2⟩
      case measure => simp [intOf]; omega
    · obtain rfl : k = ps.length := by omega
      go_wp2_with fail
      have hlen2 : (padsL ps ps.length).length ≤ 400064 := Nat.le_trans (padsL_length ps 100000 hHL.out _) (Nat.mul_le_mul_right (100000 + 16) hn)
      have hb0 : Lib.IsBuilder 106 5 w.heap.size w.heap.size (Lib.byteCells (padsL ps ps.length ++ lensL ps 0)) wr := by
        rw [show lensL ps 0 = [] from rfl, List.append_nil]
        exact hb
      obtain ⟨P, hP⟩ : ∃ P, padsL ps ps.length = P := ⟨_, rfl⟩
      rw [hP] at hb0 hlen2
      have HPP := Lib.hid hP
      have HL2 := Lib.hid hlen2
      clear hb rP hlen2 hP hlt
      go_loopw [26] (fun i wr => ∃ k : Nat, k ≤ ps.length ∧ i = .int .i64 k ∧ Lib.IsBuilder 106 5 w.heap.size w.heap.size (Lib.byteCells (P ++ lensL ps k)) wr ∧ Below w.heap.size w wr) (fun i _ => ps.length - (intOf i).toNat)
      case atStart => exact ⟨0, by omega, rfl, hb0, hbel⟩
      case round =>
        clear hb0 hbel
        obtain ⟨k, hk, rfl, hb, hbel⟩ := hrel
        have rP : row wr g = (strs ps).toArray := (row_below hbel hg).trans hr
        by_cases hlt : k < ps.length
        · have h1 : (k : Int) < ps.length := by omega
          have hp : ps[k].length ≤ 100000 := hHL.out _ (List.getElem_mem hlt)
          obtain ⟨l, el⟩ : ∃ l, ps[k] = l := ⟨_, rfl⟩
          rw [el] at hp
          have hp2 : (l.length : Int) ≤ 100000 := by omega
          go_wp2_with fail
          refine (number8_any l.length wr).mono ?_
          rintro e w1 ⟨rfl, c1⟩
          have hb1 := isBuilder_below hb c1
          have hbel1 : Below w.heap.size w w1 := hbel.trans (c1.mono hbel.size)
          have hlen := lensL_length ps k
          go_wp2_with fail
          refine (writeStringL w.heap.size w.heap.size (P ++ lensL ps k) (num8 l.length) _ hb1 (by have := HL2.out; rw [List.length_append, num8_length]; omega) hbel1.size).mono ?_
          rintro e w2 ⟨rfl, hb2, c2⟩
          clear hlen
          have hpl : P ++ lensL ps (k + 1) = P ++ lensL ps k ++ num8 l.length := by rw [lensL_succ ps k hlt, el, List.append_assoc]
          have HPL := Lib.hid hpl
          clear hpl
          go_wp2_with fail
          go_roundw
          case rel => exact ⟨k + 1, by omega, by simp, by rw [HPL.out]; exact hb2, hbel1.trans c2⟩
          case measure => simp [intOf]; omega
        · obtain rfl : k = ps.length := by omega
          go_wp2_with fail
          refine (Try.Builder_String_any w.heap.size w.heap.size _ _ hb hbel.size).mono ?_
          rintro e w1 ⟨rfl, c1⟩
          go_wp2_with fail
          go_ret
          exact ⟨by rw [laidL, HPP.out]; rfl, hbel.trans c1⟩
end Go.Proofs.Ytakkicppgkmokaa
