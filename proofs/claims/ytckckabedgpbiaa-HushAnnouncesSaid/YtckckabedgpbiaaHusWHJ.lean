/- The walk of the law HushAnnounces. -/
import Derived.Test.YtckckabedgpbiaaHusDJ
import Derived.Test.YtckckabedgpbiaaJ16
import Derived.Test.YtckckabedgpbiaaHusWJ
set_option linter.unusedSimpArgs false
set_option linter.unusedVariables false
set_option maxRecDepth 4000
namespace Go.Proofs.Ytckckabedgpbiaa
open Go.ChangeShapes Go.WideShapes Go.ChangeAt Go.RowKit
theorem goods_frame {vs : List Value} (hg : goods (leaves 6 (.int .u8) ++ (leaves 6 (.int .u8) ++ (.int .i64 :: (.str :: [])))) vs) :
  ∃ (dst src : Vector UInt8 6) (ty : Int) (body : List UInt8), vs = frameV dst src ty body := by
 obtain ⟨dst, r1, e1, h1⟩ := goods_u8 hg
 obtain ⟨src, r2, e2, h2⟩ := goods_u8 h1
 obtain ⟨ty, r3, e3, _, h3⟩ := goods_int h2
 obtain ⟨body, r4, e4, _, h4⟩ := goods_str h3
 have e5 := goods_nil h4
 exact ⟨dst, src, ty, body.toList, by rw [e1, e2, e3, e4, e5]; simp [frameV]⟩
theorem open_frame {W : World} {base : Nat} {v : Value} (h : Value.okWide Try.prog W .any base 32 v) :
  ∃ (dst src : Vector UInt8 6) (ty : Int) (body : List UInt8), v = .agg (frameV dst src ty body).toArray := by
 obtain ⟨vs, hv, hg⟩ := open_plain Try.underlying32 (by kernel_rfl) (by kernel_rfl) (by kernel_rfl) h
 obtain ⟨dst, src, ty, body, e⟩ := goods_frame hg
 exact ⟨dst, src, ty, body, by rw [hv, e]⟩
section
variable (dst src : Vector UInt8 6) (ty : Int) (body : List UInt8) (ip : List UInt8) (mac : Vector UInt8 6) (ok : Bool) (w : World)
theorem hLearn_nil (v : Int) (HA : AnnC dst src ty body ip mac ok) :
  Calls Try.prog 19 #[.pointer none, .int .i64 v, .agg (frameV dst src ty body).toArray] w fun e w' => e = .returned (.bool false) ∧ Below w.heap.size w w' := by
 unfold AnnC at HA
 unfold frameV at *
 have K := Lib.hid HA
 clear HA
 go_enter Try.func19, Try.ntmps19
 go_wp2_with fail
 (with_reducible refine (K.out _).mono ?_)
 rintro e w1 ⟨rfl, b1⟩
 have z1 := b1.size
 simp at z1
 have B1 : Below w.heap.size w w1 := Below.trans (by (repeat (first | exact Below.refl _ _ | refine Below.al ?_ _ | refine Below.drew ?_ | refine Below.sr ?_ _ | refine Below.sc ?_ _))) (b1.mono (by simp))
 clear b1
 go_wp2_with fail
 go_ret
 exact ⟨rfl, Below.alloc B1 (by omega) _⟩
set_option maxRecDepth 20000 in
set_option maxHeartbeats 4000000 in
theorem hushAnn_long (hb : 300 < body.length) : Calls Try.prog 6 #[.agg (frameV dst src ty body).toArray] w fun e w' => e = .returned (.bool true) ∧ Below w.heap.size w w' := by
 have h1 : (300 : Int) < (body.length : Int) := by omega
 unfold frameV
 go_enter Try.func6, Try.ntmps6
 obtain ⟨W, hW⟩ : ∃ x, w.alloc (.cells (u8v dst ++ (u8v src ++ [Value.int .i64 ty, Value.string ⟨body.toArray⟩])).toArray 32) = x := ⟨_, rfl⟩
 have rF : row W w.heap.size = (u8v dst ++ (u8v src ++ [Value.int .i64 ty, Value.string ⟨body.toArray⟩])).toArray := by rw [← hW]; exact row_alloc_at _ _ _ rfl
 have zW : W.heap.size = w.heap.size + 1 := by rw [← hW]; exact alloc_sizeW _ _
 have bW : Below w.heap.size w W := by rw [← hW]; exact Below.alloc (Below.refl _ _) (Nat.le_refl _) _
 go_wp2_with fail
 clear hW
 refine (awake21_any _).mono ?_
 rintro e w1 ⟨rfl, b1⟩
 have z1 := b1.size
 have rF_1 := (row_below b1 (by omega)).trans rF
 have bb1 := bW.trans (b1.mono (by omega))
 clear b1 rF bW
 go_wp2_with fail
 refine (awake21_any _).mono ?_
 rintro e w2 ⟨rfl, b2⟩
 have z2 := b2.size
 have rF_2 := (row_below b2 (by omega)).trans rF_1
 have bb2 := bb1.trans (b2.mono (by omega))
 clear b2 rF_1 bb1
 go_wp2_with fail
 go_ret
 exact ⟨rfl, bb2⟩
set_option maxRecDepth 20000 in
set_option maxHeartbeats 4000000 in
theorem hushAnn_any (hb : body.length ≤ 300) : Calls Try.prog 6 #[.agg (frameV dst src ty body).toArray] w fun e w' => e = .returned (.bool true) ∧ Below w.heap.size w w' := by
 have h1 : ¬ (300 : Int) < (body.length : Int) := by omega
 obtain ⟨ip, mac, ok, hA⟩ := ann_both dst src ty body (by omega)
 have H1 := hA.prog
 have H2 := hA.ref
 have H3 := Lib.hid (fun w => hLearn_nil dst src ty body ip mac ok w 1 hA.prog)
 have H4 := Lib.hid (fun w => hAns_nil dst src body w 1 ty)
 unfold AnnC at H1
 unfold RAnnC at H2
 have K1 := Lib.hid H1
 have K2 := Lib.hid H2
 unfold AnsC zeroFr at H4
 unfold frameV at *
 clear H1 H2 hA
 go_enter Try.func6, Try.ntmps6
 obtain ⟨W, hW⟩ : ∃ x, w.alloc (.cells (u8v dst ++ (u8v src ++ [Value.int .i64 ty, Value.string ⟨body.toArray⟩])).toArray 32) = x := ⟨_, rfl⟩
 have rF : row W w.heap.size = (u8v dst ++ (u8v src ++ [Value.int .i64 ty, Value.string ⟨body.toArray⟩])).toArray := by rw [← hW]; exact row_alloc_at _ _ _ rfl
 have zW : W.heap.size = w.heap.size + 1 := by rw [← hW]; exact alloc_sizeW _ _
 have bW : Below w.heap.size w W := by rw [← hW]; exact Below.alloc (Below.refl _ _) (Nat.le_refl _) _
 go_wp2_with fail
 clear hW
 refine (awake21_any _).mono ?_
 rintro e w1 ⟨rfl, b1⟩
 have z1 := b1.size
 have rF_1 := (row_below b1 (by omega)).trans rF
 have bb1 := bW.trans (b1.mono (by omega))
 clear b1 rF bW
 go_wp2_with fail
 refine (K1.out _).mono ?_
 rintro e w2 ⟨rfl, b2⟩
 have z2 := b2.size
 have rF_2 := (row_below b2 (by omega)).trans rF_1
 have bb2 := bb1.trans (b2.mono (by omega))
 clear b2 rF_1 bb1
 obtain ⟨W3, hW3⟩ : ∃ v, w2.alloc (.cells ((Value.string ⟨ip.toArray⟩ :: u8v mac)).toArray 38) = v := ⟨_, rfl⟩
 have rA_3 : row W3 w2.heap.size = ((Value.string ⟨ip.toArray⟩ :: u8v mac)).toArray := by rw [← hW3]; simp [go_sem]
 have b3 : Below w2.heap.size w2 W3 := by
  rw [← hW3]
  (repeat (first | exact Below.refl _ _ | refine Below.al ?_ _ | refine Below.drew ?_ | refine Below.sr ?_ _ | refine Below.sc ?_ _))
 have z3 : W3.heap.size = w2.heap.size + 1 := by rw [← hW3]; simp
 have rF_3 := (row_below b3 (by omega)).trans rF_2
 have bb3 := bb2.trans (b3.mono (by omega))
 go_wp2_with fail
 clear hW3 b3 rF_2 bb2
 refine (K2.out _).mono ?_
 rintro e w4 ⟨rfl, b4⟩
 have z4 := b4.size
 have rF_4 := (row_below b4 (by omega)).trans rF_3
 have rA_4 := (row_below b4 (by omega)).trans rA_3
 have bb4 := bb3.trans (b4.mono (by omega))
 clear b4 rF_3 rA_3 bb3
 obtain ⟨W5, hW5⟩ : ∃ v, w4.alloc (.cells (u8v mac).toArray 30) = v := ⟨_, rfl⟩
 have rM_5 : row W5 w4.heap.size = (u8v mac).toArray := by rw [← hW5]; simp [go_sem]
 have b5 : Below w4.heap.size w4 W5 := by
  rw [← hW5]
  (repeat (first | exact Below.refl _ _ | refine Below.al ?_ _ | refine Below.drew ?_ | refine Below.sr ?_ _ | refine Below.sc ?_ _))
 have z5 : W5.heap.size = w4.heap.size + 1 := by rw [← hW5]; simp
 have rF_5 := (row_below b5 (by omega)).trans rF_4
 have rA_5 := (row_below b5 (by omega)).trans rA_4
 have bb5 := bb4.trans (b5.mono (by omega))
 go_wp2_with fail
 clear hW5 b5 rF_4 rA_4 bb4
 refine (hTick_nil _).mono ?_
 rintro e w6 ⟨rfl, b6⟩
 have z6 := b6.size
 have rF_6 := (row_below b6 (by omega)).trans rF_5
 have rA_6 := (row_below b6 (by omega)).trans rA_5
 have rM_6 := (row_below b6 (by omega)).trans rM_5
 have bb6 := bb5.trans (b6.mono (by omega))
 clear b6 rF_5 rA_5 rM_5 bb5
 go_wp2_with fail
 refine (H4.out _).mono ?_
 rintro e w7 ⟨rfl, b7⟩
 have z7 := b7.size
 have rF_7 := (row_below b7 (by omega)).trans rF_6
 have rA_7 := (row_below b7 (by omega)).trans rA_6
 have rM_7 := (row_below b7 (by omega)).trans rM_6
 have bb7 := bb6.trans (b7.mono (by omega))
 clear b7 rF_6 rA_6 rM_6 bb6
 have b8 : Below w7.heap.size w7 (w7.alloc (.cells (zeros 12 (Value.int .u8 0) ++ [Value.int .i64 0, Value.string ⟨#[]⟩]).toArray 32)) := Below.alloc (Below.refl _ _) (Nat.le_refl _) _
 have rZ_8 : row (w7.alloc (.cells (zeros 12 (Value.int .u8 0) ++ [Value.int .i64 0, Value.string ⟨#[]⟩]).toArray 32)) w7.heap.size = (zeros 12 (Value.int .u8 0) ++ [Value.int .i64 0, Value.string ⟨#[]⟩]).toArray := row_alloc_at _ _ _ rfl
 have z8 : (w7.alloc (.cells (zeros 12 (Value.int .u8 0) ++ [Value.int .i64 0, Value.string ⟨#[]⟩]).toArray 32)).heap.size = w7.heap.size + 1 := alloc_sizeW _ _
 have rF_8 := (row_below b8 (by omega)).trans rF_7
 have rA_8 := (row_below b8 (by omega)).trans rA_7
 have rM_8 := (row_below b8 (by omega)).trans rM_7
 have bb8 := bb7.trans (b8.mono (by omega))
 go_wp2_with fail
 obtain ⟨W8, hW8⟩ : ∃ v, (w7.alloc (.cells (zeros 12 (Value.int .u8 0) ++ [Value.int .i64 0, Value.string ⟨#[]⟩]).toArray 32)) = v := ⟨_, rfl⟩
 simp only [hW8] at z8 rF_8 rA_8 rM_8 rZ_8 bb8 ⊢
 clear hW8 b8 rF_7 rA_7 rM_7 bb7
 refine (H3.out _).mono ?_
 rintro e w9 ⟨rfl, b9⟩
 have z9 := b9.size
 have rF_9 := (row_below b9 (by omega)).trans rF_8
 have rA_9 := (row_below b9 (by omega)).trans rA_8
 have rM_9 := (row_below b9 (by omega)).trans rM_8
 have rZ_9 := (row_below b9 (by omega)).trans rZ_8
 have bb9 := bb8.trans (b9.mono (by omega))
 clear b9 rF_8 rA_8 rM_8 rZ_8 bb8
 go_wp2_with fail
 refine (hCount_nil _).mono ?_
 rintro e w10 ⟨rfl, b10⟩
 have z10 := b10.size
 have rF_10 := (row_below b10 (by omega)).trans rF_9
 have rA_10 := (row_below b10 (by omega)).trans rA_9
 have rM_10 := (row_below b10 (by omega)).trans rM_9
 have rZ_10 := (row_below b10 (by omega)).trans rZ_9
 have bb10 := bb9.trans (b10.mono (by omega))
 clear b10 rF_9 rA_9 rM_9 rZ_9 bb9
 go_wp2_with fail
 go_ret
 exact ⟨by simp, bb10⟩
end
theorem hushAnnounces_walk (W : World) (base : Nat) (args : Array Value) (hlen : args.size = Try.f6.params.size) (hval : ∀ (j : Nat) t v, Try.f6.params[j]? = some t → args[j]? = some v → Value.okWide Try.prog W .any base t v) :
  Calls Try.prog 6 args W fun e W' => e = .returned (.bool true) ∧ Below W.heap.size W W' := by
 obtain ⟨l⟩ := args
 match l, hlen with
 | [v0], _ =>
 obtain ⟨dst, src, ty, body, rfl⟩ := open_frame (hval 0 32 v0 rfl rfl)
 by_cases hb : body.length ≤ 300
 ·
  exact hushAnn_any dst src ty body W hb
 ·
  exact hushAnn_long dst src ty body W (by omega)
end Go.Proofs.Ytckckabedgpbiaa
