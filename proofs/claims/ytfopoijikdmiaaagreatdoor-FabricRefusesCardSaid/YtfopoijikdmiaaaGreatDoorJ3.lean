/- Texts of this proof, merged: Frame, Args. -/
import Derived.Test.YtfopoijikdmiaaaGreatDoorJ2
import Derived.ProofKit
import Derived.OpenShut
import Derived.ChangeOld
import Derived.Below
import Derived.Carry
set_option linter.unusedSimpArgs false
set_option linter.unusedVariables false
set_option maxHeartbeats 8000000
set_option maxRecDepth 20000
namespace Go.Proofs.YtfopoijikdmiaaaGreatDoor
section
open Go.ChangeShapes Go.WideShapes Go.ChangeAt Go.RowKit
theorem own : ownKnob Tryz.prog.godebug = none := by kernel_rfl
theorem laidOut : laidOutB Tryz.prog = true := by kernel_rfl
section
variable {H : Type} {enc : TypeId × Value → H} {P : Program}
theorem trodAll_below (hl : laidOutB P = true) {W W' : World} (hb : Below W.heap.size W W') : ∀ (ts : List TypeId) (vs : List Value) (ds : List (DataW H)) (ps : List MemPlace),
  ts.all (fun t => P.readableRec t && decide (t < P.types.size)) = true → DataW.TrodAll enc P W 0 (fun _ => true) true ts vs ds ps → (∀ x ∈ ps, x.block < W.heap.size) →
  DataW.TrodAll enc P W' 0 (fun b => decide (b < W.heap.size)) true ts vs ds ps
 | [], [], [], ps, _, h, _ => h
 | t :: ts, v :: vs, d :: ds, ps, hp, h, hlt => by
  obtain ⟨p, q, h1, h2, rfl⟩ := h
  simp only [List.all_cons, Bool.and_eq_true, decide_eq_true_eq] at hp
  exact ⟨p, q, Below.trod hl hp.1.1 hp.1.2 h1 hb (fun x hx => hlt x (by simp [hx])), trodAll_below hl hb ts vs ds q hp.2 h2 (fun x hx => hlt x (by simp [hx])), rfl⟩
 | [], [], _ :: _, _, _, h, _ => by simp [DataW.TrodAll] at h
 | [], _ :: _, _, _, _, h, _ => by simp [DataW.TrodAll] at h
 | _ :: _, [], _, _, _, h, _ => by simp [DataW.TrodAll] at h
 | _ :: _, _ :: _, [], _, _, h, _ => by simp [DataW.TrodAll] at h
theorem trodAll_len {W : World} {base : Nat} {sp : Nat → Bool} {hd : Bool} : ∀ (ts : List TypeId) (vs : List Value) (ds : List (DataW H)) (ps : List MemPlace), DataW.TrodAll enc P W base sp hd ts vs ds ps → vs.length = ts.length ∧ ds.length = ts.length
 | [], [], [], _, _ => ⟨rfl, rfl⟩
 | _ :: ts, _ :: vs, _ :: ds, _, h => by
  obtain ⟨p, q, _, h2, _⟩ := h
  have := trodAll_len ts vs ds q h2
  simp [this]
 | [], [], _ :: _, _, h => by simp [DataW.TrodAll] at h
 | [], _ :: _, _, _, h => by simp [DataW.TrodAll] at h
 | _ :: _, [], _, _, h => by simp [DataW.TrodAll] at h
 | _ :: _, _ :: _, [], _, h => by simp [DataW.TrodAll] at h
theorem law_post {f : Func} {s : ChangeSpec} {tb : TypeId} (hl : laidOutB P = true) (hr : f.resultTypes = #[tb]) (hb : P.underlying tb = some .bool)
  (hp : f.params.toList.all (fun t => P.readableRec t && decide (t < P.types.size)) = true) (hv : s.vars = [])
  (hs : ∀ ds : List (DataW H), ds.length = f.params.toList.length → (s.fn H ds).results = [.lit (.bool true)] ∧ (s.fn H ds).args = ds ∧ (s.fn H ds).vars = [])
  {W W' : World} {args : Array Value} {ds gs : List (DataW H)} {before : List MemPlace} (hW : DataW.Whole enc P f.params.toList s.vars false W args.toList ds gs before) (hbel : Below W.heap.size W W') :
  s.post enc P f false true false false W args (.bool true) W' := by
 have hlt : ∀ x ∈ before, x.block < W.heap.size := fun x hx => hW.lt x hx
 have hW' := hW
 obtain ⟨p, q, hA, hV, rfl, _, _⟩ := hW
 rw [hv] at hV
 obtain ⟨rfl, rfl⟩ := trodVars_none hV
 have hlen := trodAll_len _ _ _ _ hA
 obtain ⟨h1, h2, h3⟩ := hs (ds ++ []) (by simp [hlen.2])
 refine ⟨ds, [], p ++ [], [], p, [], hW', ?_, ?_, ?_, hbel.frame _, fun h => by cases h⟩
 ·
  rw [h1, hr]
  exact trodAll_mk1 (shut_bool hb true)
 ·
  rw [h2, List.append_nil]
  exact trodAll_below hl hbel _ _ _ _ hp hA (fun x hx => hlt x (by simp [hx]))
 ·
  rw [h3, hv]
  rfl
def Leaf.good : Leaf → Value → Prop
 | .int k, .int k' n => k' = k ∧ k.has n
 | .bool, .bool _ => True
 | .str, .string s => s.size ≤ maxLen
 | _, _ => False
def goods : List Leaf → List Value → Prop
 | [], [] => True
 | l :: ls, v :: vs => l.good v ∧ goods ls vs
 | _, _ => False
end
theorem open_str {P : Program} {t : TypeId} (hu : P.underlying t = some .string) {w : World} {r : Reach} {base : Nat} {v : Value} (h : Value.okWide P w r base t v) : ∃ l : List UInt8, v = .string ⟨l.toArray⟩ ∧ l.length ≤ maxLen := by
 obtain ⟨s, rfl⟩ := okWide_string hu h
 refine ⟨s.data.toList, by simp, ?_⟩
 simp only [Value.okWide, hu, Cell.okWide, Cell.ok] at h
 simp [IntKind.max, IntKind.signed, IntKind.bits] at h
 show s.size ≤ _
 unfold maxLen
 omega
theorem goods_nil {vs : List Value} (h : goods [] vs) : vs = [] := by
 cases vs with
 | nil => rfl
 | cons => exact h.elim
theorem goods_int {k : IntKind} {ls : List Leaf} {vs : List Value} (h : goods (.int k :: ls) vs) : ∃ n r, vs = .int k n :: r ∧ k.has n ∧ goods ls r := by
 cases vs with
 | nil => exact h.elim
 | cons v r =>
  obtain ⟨h1, h2⟩ := h
  cases v <;> simp [Leaf.good] at h1
  obtain ⟨rfl, h1⟩ := h1
  exact ⟨_, _, rfl, h1, h2⟩
theorem goods_u8 : ∀ {n : Nat} {ls : List Leaf} {vs : List Value}, goods (leaves n (.int .u8) ++ ls) vs → ∃ (m : Vector UInt8 n) (r : List Value), vs = u8v m ++ r ∧ goods ls r := by
 intro n
 induction n with
 | zero => intro ls vs h; exact ⟨#v[], vs, rfl, h⟩
 | succ n ih =>
  intro ls vs h
  rw [leaves_eq, List.replicate_succ, List.cons_append, ← leaves_eq] at h
  obtain ⟨x, r, rfl, hx, hr⟩ := goods_int h
  obtain ⟨m, r', rfl, hr'⟩ := ih hr
  have hx' : 0 ≤ x ∧ x ≤ 255 := by simpa [IntKind.has, IntKind.min, IntKind.max, IntKind.bits, IntKind.signed] using hx
  refine ⟨⟨(UInt8.ofNat x.toNat :: m.toList).toArray, by simp⟩, r', ?_, hr'⟩
  simp only [u8v, u8s, Vector.toList, List.map_cons, List.cons_append]
  congr 2
  simp
  omega
end
section
theorem open_intW {P : Program} {t : TypeId} {k : IntKind} (hu : P.underlying t = some (.int k)) {w : World} {r : Reach} {base : Nat} {v : Value} (h : Value.okWide P w r base t v) : ∃ n, v = .int k n ∧ k.has n := by
 unfold Value.okWide at h
 rw [hu] at h
 simp only [Cell.okWide, hu, Cell.ok] at h
 cases v <;> simp_all
end
end Go.Proofs.YtfopoijikdmiaaaGreatDoor
