/- The walk of the law NdAnswers. -/
import Derived.Test.YthnjkpecnaglhaaNdL
import Derived.Test.YthnjkpecnaglhaaArpW4
import Derived.Test.YthnjkpecnaglhaaReg
set_option linter.unusedSimpArgs false
set_option linter.unusedVariables false
namespace Go.Proofs.Ythnjkpecnaglhaa
open Go.ChangeShapes Go.WideShapes Go.ChangeAt Go.RowKit
def fl96 : Vector UInt8 4 := #v[96, 0, 0, 0]
@[go_sem] theorem fl96_c : (Value.int .u8 96 :: (zeros 4 (Value.int .u8 0)).tail) = u8v fl96 := rfl
set_option maxRecDepth 20000 in
set_option maxHeartbeats 4000000 in
theorem ndAnswer_any (op : Int) (fr t0 ab : Vector UInt8 16) (qm mac to : Vector UInt8 6) (has : Bool) (fl : Vector UInt8 4) (w : World) :
    Calls Try.prog 36 #[.agg (.int .i64 op :: (u8v fr ++ (u8v t0 ++ (u8v ab ++ (u8v qm ++ (.bool has :: u8v fl)))))).toArray, .agg (u8v mac).toArray, .agg (u8v to).toArray] w fun e w' => e = .returned (.agg (frameV to mac 34525 (ndS 2 ab fr ab mac true fl96)).toArray) ∧ Below w.heap.size w w' := by
  have Hp : ∀ w, Calls Try.prog 26 #[.agg (ndV 2 ab fr ab mac true fl96).toArray] w _ := fun w => ndPrint_op2 ab fr ab mac fl96 w
  unfold ndV at Hp
  obtain ⟨b, hb⟩ : ∃ b, ndS 2 ab fr ab mac true fl96 = b := ⟨_, rfl⟩
  simp only [hb] at Hp ⊢
  have HP := Lib.hid Hp
  clear Hp hb
  have ra0 : row ((((w.alloc (.cells (.int .i64 op :: (u8v fr ++ (u8v t0 ++ (u8v ab ++ (u8v qm ++ (.bool has :: u8v fl)))))).toArray 54)).alloc (.cells (u8v mac).toArray 23)).alloc (.cells (u8v to).toArray 23)).alloc (.cells (zeros 12 (Value.int .u8 0) ++ [Value.int .i64 0, .string ⟨#[]⟩]).toArray 43)) w.heap.size = (.int .i64 op :: (u8v fr ++ (u8v t0 ++ (u8v ab ++ (u8v qm ++ (.bool has :: u8v fl)))))).toArray := by simp [go_sem]
  have rb0 : row ((((w.alloc (.cells (.int .i64 op :: (u8v fr ++ (u8v t0 ++ (u8v ab ++ (u8v qm ++ (.bool has :: u8v fl)))))).toArray 54)).alloc (.cells (u8v mac).toArray 23)).alloc (.cells (u8v to).toArray 23)).alloc (.cells (zeros 12 (Value.int .u8 0) ++ [Value.int .i64 0, .string ⟨#[]⟩]).toArray 43)) (w.heap.size + 1) = (u8v mac).toArray := by simp [go_sem]
  go_enter Try.func36, Try.ntmps36
  go_wp2_with fail
  (with_reducible refine (HP.out _).mono ?_)
  clear ra0 rb0
  rintro e w1 ⟨rfl, hb1⟩
  have z1 := (hb1).size
  try simp at z1
  have ra : row w1 (w.heap.size + 1) = (u8v mac).toArray := by rw [row_below hb1 (by first | (simp; done) | (simp; omega) | omega)]; simp [go_sem]; (try rfl)
  have rb : row w1 (w.heap.size + 1 + 1) = (u8v to).toArray := by rw [row_below hb1 (by first | (simp; done) | (simp; omega) | omega)]; simp [go_sem]; (try rfl)
  have rc : row w1 (w.heap.size + 1 + 1 + 1) = (zeros 12 (Value.int .u8 0) ++ [Value.int .i64 0, .string ⟨#[]⟩]).toArray := by rw [row_below hb1 (by first | (simp; done) | (simp; omega) | omega)]; simp [go_sem]; (try rfl)
  replace hb1 := below_of hb1 (show Below (w).heap.size w _ from by (repeat (first | exact Below.refl _ _ | refine Below.alloc ?_ (by first | (simp; done) | (simp; omega) | omega) _ | refine Below.drew ?_ | refine Below.setRow ?_ (by first | (simp; done) | (simp; omega) | omega) _ | refine Below.setCell ?_ (by first | (simp; done) | (simp; omega) | omega) _))) (by first | (simp; done) | (simp; omega) | omega)
  go_wp2_with fail
  have hfin := row_setRow_same (w := w1) (g := w.heap.size + 1 + 1 + 1) (c := (u8v to ++ (u8v mac ++ [Value.int .i64 34525, .string ⟨b.toArray⟩])).toArray) (by rw [rc]; simp) (by rw [rc]; simp)
  (try simp only [Exit.inBlock, Exit.then])
  refine bodyPost_ret (results_1 rfl (resOk_row rfl ?_)) rfl ?_
  · rw [hfin]
    simp
  refine ⟨by rw [hfin]; simp [frameV], ?_⟩
  refine Below.setRow hb1 (by first | (simp; done) | (simp; omega) | omega) _
theorem of10_u (op : Int) (fr t0 ab : Vector UInt8 16) (qm : Vector UInt8 6) (has : Bool) (fl : Vector UInt8 4) (w : World) :
    Calls Try.prog 27 #[.agg (.int .i64 op :: (u8v fr ++ (u8v t0 ++ (u8v ab ++ (u8v qm ++ (.bool has :: u8v fl)))))).toArray] w fun e w' => e = .returned (.agg (.int .i64 op :: (u8v fr ++ (u8v t0 ++ (u8v ab ++ (u8v qm ++ (.bool has :: u8v fl)))))).toArray) ∧ Below w.heap.size w w' := of10_any op fr t0 ab qm has fl w
set_option maxRecDepth 20000 in
set_option maxHeartbeats 8000000 in
theorem ndAnswers_any (op : Int) (fr t0 ab : Vector UInt8 16) (qm mac to : Vector UInt8 6) (has : Bool) (fl : Vector UInt8 4) (w : World) :
    Calls Try.prog 14 #[.agg (ndV op fr t0 ab qm has fl).toArray, .agg (u8v mac).toArray, .agg (u8v to).toArray] w fun e W' => e = .returned (.bool true) ∧ Below w.heap.size w W' := by
  have Ha : ∀ w, Calls Try.prog 36 #[.agg (.int .i64 op :: (u8v fr ++ (u8v t0 ++ (u8v ab ++ (u8v qm ++ (.bool has :: u8v fl)))))).toArray, .agg (u8v mac).toArray, .agg (u8v to).toArray] w _ := fun w => ndAnswer_any op fr t0 ab qm mac to has fl w
  have Hq : ∀ w, Calls Try.prog 29 #[.string ⟨(ndS 2 ab fr ab mac true fl96).toArray⟩] w fun e w' => e = .returned (.tuple #[.agg (ndV 2 ab fr ab mac true fl96).toArray, .int .i64 0]) ∧ Below w.heap.size w w' := fun w => by
    have := ndParse_print_op2 ab fr ab mac fl96 [] w (by simp)
    rw [List.append_nil] at this
    exact this
  have hl : (ndS 2 ab fr ab mac true fl96).length = 72 := by rw [ndS_length]; rfl
  obtain ⟨b, hb⟩ : ∃ b, ndS 2 ab fr ab mac true fl96 = b := ⟨_, rfl⟩
  simp only [hb] at Ha Hq hl
  have He : ∀ w, Calls Try.prog 24 #[.agg (u8v to ++ (u8v mac ++ [Value.int .i64 34525, .string ⟨b.toArray⟩, .int .i64 (-1), .int .i64 0])).toArray] w _ := fun w => ethPrint_any to mac 34525 b (-1) 0 w (by rw [hl]; rfl)
  unfold frameV at Ha
  unfold ndV at Hq
  obtain ⟨t, ht⟩ : ∃ t, ethS to mac 34525 b (-1) 0 = t := ⟨_, rfl⟩
  simp only [ht] at He
  have HA := Lib.hid Ha
  have HQ := Lib.hid Hq
  have HE := Lib.hid He
  clear Ha Hq He hb hl ht
  unfold ndV
  go_enter Try.func14, Try.ntmps14
  go_wp2_with fail
  refine (awake10_any _).mono ?_
  rintro e w1 ⟨rfl, hb1⟩
  have z1 := (hb1).size
  try simp at z1
  have ra : row w1 (w.heap.size) = (.int .i64 op :: (u8v fr ++ (u8v t0 ++ (u8v ab ++ (u8v qm ++ (.bool has :: u8v fl)))))).toArray := by rw [row_below hb1 (by first | (simp; done) | (simp; omega) | omega)]; simp [go_sem]; (try rfl)
  have rb : row w1 (w.heap.size + 1) = (u8v mac).toArray := by rw [row_below hb1 (by first | (simp; done) | (simp; omega) | omega)]; simp [go_sem]; (try rfl)
  have rc : row w1 (w.heap.size + 1 + 1) = (u8v to).toArray := by rw [row_below hb1 (by first | (simp; done) | (simp; omega) | omega)]; simp [go_sem]; (try rfl)
  replace hb1 := below_of hb1 (show Below (w).heap.size w _ from by (repeat (first | exact Below.refl _ _ | refine Below.alloc ?_ (by first | (simp; done) | (simp; omega) | omega) _ | refine Below.drew ?_ | refine Below.setRow ?_ (by first | (simp; done) | (simp; omega) | omega) _ | refine Below.setCell ?_ (by first | (simp; done) | (simp; omega) | omega) _))) (by first | (simp; done) | (simp; omega) | omega)
  go_wp2_with fail
  refine wp_region_beginR [(w.heap.size, (.int .i64 op :: (u8v fr ++ (u8v t0 ++ (u8v ab ++ (u8v qm ++ (.bool has :: u8v fl)))))).toArray), (w.heap.size + 1, (u8v mac).toArray), (w.heap.size + 1 + 1, (u8v to).toArray)] rfl (by simp only [Rws]; (repeat (first | exact trivial | refine ⟨(by first | assumption | (simp [go_sem, *]; done)), (by first | omega | (simp; done) | (simp; omega)), ?_⟩))) (fun hS => ?_)
  refine wpAnyR_take (i := 0) (v := ?_) (by simp only [List.getElem?_toArray, List.getElem?_cons_succ, List.getElem?_cons_zero]; rfl) (by kernel_rfl) (by kernel_rfl) (by kernel_rfl) (by first | exact fun _ _ _ h => h | exact fun _ _ _ h => by cases h.1) (Rws.grow _) (Or.inl ⟨by rfl, ?_⟩) hS ?_
  rotate_left
  · intro w' hS'
    simp only [Rws] at hS'
    go_simp
    refine ⟨?_, Below.refl _ _⟩
    rfl
  (try simp only [Act.put, List.setIfInBounds_toArray, List.set_cons_zero, List.set_cons_succ])
  refine wpAnyR_take (i := 2) (v := ?_) (by simp only [List.getElem?_toArray, List.getElem?_cons_succ, List.getElem?_cons_zero]; rfl) (by kernel_rfl) (by kernel_rfl) (by kernel_rfl) (by first | exact fun _ _ _ h => h | exact fun _ _ _ h => by cases h.1) (Rws.grow _) (Or.inl ⟨by rfl, ?_⟩) hS ?_
  rotate_left
  · intro w' hS'
    simp only [Rws] at hS'
    go_simp
    refine ⟨?_, Below.refl _ _⟩
    rfl
  (try simp only [Act.put, List.setIfInBounds_toArray, List.set_cons_zero, List.set_cons_succ])
  refine wpAnyR_take (i := 3) (v := ?_) (by simp only [List.getElem?_toArray, List.getElem?_cons_succ, List.getElem?_cons_zero]; rfl) (by kernel_rfl) (by kernel_rfl) (by kernel_rfl) (by first | exact fun _ _ _ h => h | exact fun _ _ _ h => by cases h.1) (Rws.grow _) (Or.inl ⟨by rfl, ?_⟩) hS ?_
  rotate_left
  · intro w' hS'
    simp only [Rws] at hS'
    go_simp
    refine ⟨?_, Below.refl _ _⟩
    rfl
  (try simp only [Act.put, List.setIfInBounds_toArray, List.set_cons_zero, List.set_cons_succ])
  refine wpAnyR_take (i := 1) (v := ?_) (by simp only [List.getElem?_toArray, List.getElem?_cons_succ, List.getElem?_cons_zero]; rfl) (by kernel_rfl) (by kernel_rfl) (by kernel_rfl) (by first | exact fun _ _ _ h => h | exact fun _ _ _ h => by cases h.1) (Rws.grow _) (Or.inl ⟨by rfl, ?_⟩) hS ?_
  rotate_left
  · intro w' hS'
    simp only [Rws] at hS'
    go_simp
    with_reducible refine (of10_u op fr t0 ab qm has fl _).mono ?_
    rintro e w'' ⟨rfl, hb⟩
    refine ⟨_, rfl, ?_, hb⟩
    rfl
  (try simp only [Act.put, List.setIfInBounds_toArray, List.set_cons_zero, List.set_cons_succ])
  refine wpAnyR_take (i := 4) (v := ?_) (by simp only [List.getElem?_toArray, List.getElem?_cons_succ, List.getElem?_cons_zero]; rfl) (by kernel_rfl) (by kernel_rfl) (by kernel_rfl) (by first | exact fun _ _ _ h => h | exact fun _ _ _ h => by cases h.1) (Rws.grow _) (Or.inl ⟨by rfl, ?_⟩) hS ?_
  rotate_left
  · intro w' hS'
    simp only [Rws] at hS'
    go_simp
    with_reducible refine (HA.out _).mono ?_
    rintro e w'' ⟨rfl, hb⟩
    refine ⟨_, rfl, ?_, hb⟩
    rfl
  (try simp only [Act.put, List.setIfInBounds_toArray, List.set_cons_zero, List.set_cons_succ])
  refine wpAnyR_all (rs := [5]) (by kernel_rfl) (by simp) (Rws.grow _) hS (fun u1 hu1 hSW => ?_)
  intro i hi
  obtain rfl := List.mem_singleton.1 hi
  refine wpOp_step rfl (fun K hK => ?_)
  simp only [Rws] at hSW
  clear hi hS
  go_simp
  obtain ⟨r1, r2, r3⟩ : row u1 w.heap.size = (.int .i64 op :: (u8v fr ++ (u8v t0 ++ (u8v ab ++ (u8v qm ++ (.bool has :: u8v fl)))))).toArray ∧ row u1 (w.heap.size + 1) = (u8v mac).toArray ∧ row u1 (w.heap.size + 1 + 1) = (u8v to).toArray := ⟨hSW.1, hSW.2.2.1, hSW.2.2.2.2.1⟩
  have zu := hu1.size
  replace zu : w1.heap.size ≤ u1.heap.size := zu
  obtain ⟨v1, hv1⟩ : ∃ v, u1.alloc (.cells (zeros 12 (Value.int .u8 0) ++ [Value.int .i64 0, .string ⟨#[]⟩]).toArray 43) = v := ⟨_, rfl⟩
  obtain ⟨A1, hA1⟩ : ∃ A, u1.heap.size = A := ⟨_, rfl⟩
  have bv1 : Below w1.heap.size w1 v1 := by rw [← hv1]; exact Below.alloc (Below.trans (Below.drew (Below.refl _ _)) (hu1.mono (by simp))) zu _
  have rd1 : row v1 A1 = (zeros 12 (Value.int .u8 0) ++ [Value.int .i64 0, .string ⟨#[]⟩]).toArray := by rw [← hv1, ← hA1]; exact row_alloc_at _ _ _ rfl
  have zv1 : v1.heap.size = A1 + 1 := by rw [← hv1, ← hA1]; simp
  have bA1 : w1.heap.size ≤ A1 := by omega
  rw [hv1, hA1]
  refine hK _ _ ⟨⟨(row_below bv1 (by omega)).trans ra, by omega, (row_below bv1 (by omega)).trans rb, by omega, (row_below bv1 (by omega)).trans rc, by omega, trivial⟩, ?_⟩
  clear hK K hv1 hA1 hu1 hSW r1 r2 r3
  have hS : Rws [(w.heap.size, (.int .i64 op :: (u8v fr ++ (u8v t0 ++ (u8v ab ++ (u8v qm ++ (.bool has :: u8v fl)))))).toArray), (w.heap.size + 1, (u8v mac).toArray), (w.heap.size + 1 + 1, (u8v to).toArray)] v1 := ⟨(row_below bv1 (by omega)).trans ra, by omega, (row_below bv1 (by omega)).trans rb, by omega, (row_below bv1 (by omega)).trans rc, by omega, trivial⟩
  (try simp only [Act.put, List.setIfInBounds_toArray, List.set_cons_zero, List.set_cons_succ])
  refine wpAnyR_store (i := 6) (b := A1) (c := (u8v to ++ (u8v mac ++ [Value.int .i64 34525, .string ⟨b.toArray⟩])).toArray) (by simp only [List.getElem?_toArray, List.getElem?_cons_succ, List.getElem?_cons_zero]; rfl) rfl rfl (by kernel_rfl) (by simp; (try omega)) hS (by rw [rd1]; simp; (try omega)) (fun w1 hr => by rw [rd1] at hr; go_simp; (try rfl)) (fun u2 hu2 ru2 hS => ?_)
  refine wpAnyR_done (by kernel_rfl) (fun w2 hN => ?_) _
  have zu2 := hu2.size
  have hb2 : Below w1.heap.size w1 w2 := Below.trans bv1 (Below.trans (hu2.mono (by omega)) (Below.trans (Below.setRow (Below.refl _ _) bA1 _) (hN.mono (by simp; omega))))
  have rd : row w2 A1 = (u8v to ++ (u8v mac ++ [Value.int .i64 34525, .string ⟨b.toArray⟩])).toArray := by
    rw [row_below hN (by simp; omega)]
    exact row_setRow_same (by rw [ru2, rd1]; simp) (by rw [ru2, rd1]; simp)
  have zA1 : A1 < w2.heap.size := by have := hN.size; simp at this; omega
  clear hN hu2 ru2 hS rd1
  have z2 := hb2.size
  replace ra := (row_below hb2 (by omega)).trans ra
  replace rb := (row_below hb2 (by omega)).trans rb
  replace rc := (row_below hb2 (by omega)).trans rc
  replace hb1 : Below w.heap.size w w2 := Below.trans hb1 (Below.mono hb2 (by omega))
  have q1 : w.heap.size < w2.heap.size := by omega
  have q2 : w.heap.size + 1 < w2.heap.size := by omega
  have q3 : w.heap.size + 1 + 1 < w2.heap.size := by omega
  go_wp2_with fail
  refine (HQ.out _).mono ?_
  rintro e w3 ⟨rfl, hb3⟩
  have z3 := (hb3).size
  try simp at z3
  replace ra := (row_below hb3 (by omega)).trans ra
  replace rb := (row_below hb3 (by omega)).trans rb
  replace rc := (row_below hb3 (by omega)).trans rc
  replace rd := (row_below hb3 (by omega)).trans rd
  have q4 : w.heap.size < w3.heap.size := by omega
  have q5 : w.heap.size + 1 < w3.heap.size := by omega
  have q6 : w.heap.size + 1 + 1 < w3.heap.size := by omega
  have q7 : A1 < w3.heap.size := by omega
  go_wp2_with fail
  refine (HE.out _).mono ?_
  rintro e w4 ⟨rfl, hb4⟩
  have z4 := (hb4).size
  try simp at z4
  replace ra := Eq.trans (row_below hb4 (b := w.heap.size) (by first | (simp; done) | (simp; omega) | omega)) (Eq.trans (by simp [go_sem, (show w.heap.size < (w3).heap.size by omega)]) ra)
  replace rb := Eq.trans (row_below hb4 (b := w.heap.size + 1) (by first | (simp; done) | (simp; omega) | omega)) (Eq.trans (by simp [go_sem, (show w.heap.size + 1 < (w3).heap.size by omega)]) rb)
  replace rc := Eq.trans (row_below hb4 (b := w.heap.size + 1 + 1) (by first | (simp; done) | (simp; omega) | omega)) (Eq.trans (by simp [go_sem, (show w.heap.size + 1 + 1 < (w3).heap.size by omega)]) rc)
  replace rd := Eq.trans (row_below hb4 (b := A1) (by first | (simp; done) | (simp; omega) | omega)) (Eq.trans (by simp [go_sem, (show A1 < (w3).heap.size by omega)]) rd)
  have re : row w4 w3.heap.size = (.int .i64 2 :: (u8v ab ++ (u8v fr ++ (u8v ab ++ (u8v mac ++ (.bool true :: u8v fl96)))))).toArray := by rw [row_below hb4 (by first | (simp; done) | (simp; omega) | omega)]; simp [go_sem]
  go_wp2_with fail
  go_ret
  refine ⟨by simp, ?_⟩
  refine Below.trans ?_ (Below.mono hb4 (by first | (simp; done) | (simp; omega) | omega))
  (repeat (first | refine Below.alloc ?_ (by first | (simp; done) | (simp; omega) | omega) _ | refine Below.drew ?_ | refine Below.setRow ?_ (by first | (simp; done) | (simp; omega) | omega) _ | refine Below.setCell ?_ (by first | (simp; done) | (simp; omega) | omega) _))
  refine Below.trans ?_ (Below.mono hb3 (by first | (simp; done) | (simp; omega) | omega))
  exact hb1
theorem ndAnswers_walk (W : World) (base : Nat) (args : Array Value) (hlen : args.size = Try.f14.params.size) (hval : ∀ (j : Nat) t v, Try.f14.params[j]? = some t → args[j]? = some v → Value.okWide Try.prog W .any base t v) :
    Calls Try.prog 14 args W fun e W' => e = .returned (.bool true) ∧ Below W.heap.size W W' := by
  obtain ⟨l⟩ := args
  match l, hlen with
  | [v0, v1, v2], _ =>
  have k0 := hval 0 52 v0 rfl rfl
  have k1 := hval 1 23 v1 rfl rfl
  have k2 := hval 2 23 v2 rfl rfl
  obtain ⟨op, fr, t0, ab, qm, has, fl, rfl⟩ := open_nd k0
  obtain ⟨mac, rfl⟩ := open_mac k1
  obtain ⟨to, rfl⟩ := open_mac k2
  exact ndAnswers_any op fr t0 ab qm mac to has fl W
end Go.Proofs.Ythnjkpecnaglhaa
