/- Texts of this proof, merged: HusU, HusV. -/
import Derived.Test.YtckckabedgpbiaaGreatHusSJ
import Derived.Test.YtckckabedgpbiaaGreatLstJ
import Derived.Test.YtckckabedgpbiaaGreatJ32
set_option linter.unusedSimpArgs false
set_option linter.unusedVariables false
set_option maxRecDepth 4000
namespace Go.Proofs.YtckckabedgpbiaaGreat
section
open Go.RowKit
def RAnsC (dst src : Vector UInt8 6) (ty : Int) (body : List UInt8) (who : Vector UInt8 6) (ans : List UInt8) : Prop := ∀ w, Calls Tryz.prog 46 #[.agg (frameV dst src ty body).toArray, .agg (u8v who).toArray] w fun e w' => e = .returned (.agg (frameV src who ty ans).toArray) ∧ Below w.heap.size w w'
section
variable (dst src who : Vector UInt8 6) (body : List UInt8)
set_option maxRecDepth 20000 in
set_option maxHeartbeats 2000000 in
theorem rAns_arp (op : Int) (mac tgt : Vector UInt8 6) (ip want : Vector UInt8 4) (er : Int) (HP : ∀ w, Calls Tryz.prog 79 #[.string ⟨body.toArray⟩] w fun e w' => e = .returned (.tuple #[.agg (arpV op mac tgt ip want).toArray, .int .i64 er]) ∧ Below w.heap.size w w') : RAnsC dst src 2054 body who (arpS 2 who mac want ip) := by
 have HQ : ∀ w, Calls Tryz.prog 83 #[.agg (arpV 2 who mac want ip).toArray] w _ := fun w => refPrint_op2 who mac want ip w
 unfold RAnsC
 obtain ⟨bs, hbs⟩ : ∃ l, arpS 2 who mac want ip = l := ⟨_, rfl⟩
 simp only [hbs] at HQ ⊢
 clear hbs
 unfold arpV at HP HQ
 have K := Lib.hid HP
 have KP := Lib.hid HQ
 clear HP HQ
 intro w
 have hfold : List.foldl (fun (cs : Array Value) (x : Value × Nat) => cs.setIfInBounds x.2 x.1) (zeros 12 (Value.int .u8 0) ++ [Value.int .i64 0, Value.string ⟨#[]⟩]).toArray ((u8v src ++ (u8v who ++ [Value.int .i64 2054])).zipIdx 0) = (u8v src ++ (u8v who ++ [Value.int .i64 2054, Value.string ⟨#[]⟩])).toArray := by
  have := fold_at2 (u8v src ++ (u8v who ++ [Value.int .i64 2054])) [] (zeros 12 (Value.int .u8 0) ++ [Value.int .i64 0]) [Value.string ⟨#[]⟩] (by simp)
  simpa using this
 unfold frameV
 go_enter Tryz.func46, Tryz.ntmps46
 go_wp2_with fail
 (with_reducible refine (K.out _).mono ?_)
 rintro e w1 ⟨rfl, b1⟩
 have z1 := b1.size
 simp at z1
 have rF : row w1 w.heap.size = (u8v dst ++ (u8v src ++ [Value.int .i64 2054, Value.string ⟨body.toArray⟩])).toArray := by rw [row_below b1 (by simp; try omega)]; simp [go_sem]
 have rM : row w1 (w.heap.size + 1) = (u8v who).toArray := by rw [row_below b1 (by simp; try omega)]; simp [go_sem]
 have rR : row w1 (w.heap.size + 1 + 1) = (zeros 12 (Value.int .u8 0) ++ [Value.int .i64 0, .string ⟨#[]⟩]).toArray := by rw [row_below b1 (by simp; try omega)]; simp [go_sem]
 have rO : row w1 (w.heap.size + 1 + 1 + 1) = (u8v src ++ (u8v who ++ [Value.int .i64 2054, Value.string ⟨#[]⟩])).toArray := by rw [row_below b1 (by simp; try omega)]; simp [go_sem]
 have B1 : Below w.heap.size w w1 := Below.trans (by (repeat (first | exact Below.refl _ _ | refine Below.al ?_ _ | refine Below.drew ?_ | refine Below.sr ?_ _ | refine Below.sc ?_ _))) (b1.mono (by simp; try omega))
 clear b1
 obtain ⟨w2, hw2⟩ : ∃ v, w1.alloc (.cells (Value.int .i64 op :: (u8v mac ++ (u8v tgt ++ (u8v ip ++ u8v want)))).toArray 178) = v := ⟨_, rfl⟩
 have rA : row w2 w1.heap.size = (Value.int .i64 op :: (u8v mac ++ (u8v tgt ++ (u8v ip ++ u8v want)))).toArray := by rw [← hw2]; exact row_alloc_at _ _ _ rfl
 have z2 : w2.heap.size = w1.heap.size + 1 := by rw [← hw2]; exact alloc_sizeW _ _
 have B2 : Below w.heap.size w w2 := by rw [← hw2]; exact Below.alloc B1 (by omega) _
 have b12 : Below w1.heap.size w1 w2 := by rw [← hw2]; exact Below.alloc (Below.refl _ _) (Nat.le_refl _) _
 replace rF := (row_below b12 (by omega)).trans rF
 replace rM := (row_below b12 (by omega)).trans rM
 replace rR := (row_below b12 (by omega)).trans rR
 replace rO := (row_below b12 (by omega)).trans rO
 go_wp2_with fail
 clear hw2
 (with_reducible refine (KP.out _).mono ?_)
 rintro e w3 ⟨rfl, b3⟩
 have z3 := b3.size
 (try simp at z3)
 replace rF := (row_below b3 (by omega)).trans rF
 replace rM := (row_below b3 (by omega)).trans rM
 replace rR := (row_below b3 (by omega)).trans rR
 replace rO := (row_below b3 (by omega)).trans rO
 have B3 : Below w.heap.size w w3 := B2.trans (b3.mono (by omega))
 clear b3 b12 rA
 obtain ⟨w4, hw4⟩ : ∃ v, w3.setRow (w.heap.size + 1 + 1 + 1) (u8v src ++ (u8v who ++ [Value.int .i64 2054, Value.string ⟨bs.toArray⟩])).toArray = v := ⟨_, rfl⟩
 have rO4 : row w4 (w.heap.size + 1 + 1 + 1) = (u8v src ++ (u8v who ++ [Value.int .i64 2054, Value.string ⟨bs.toArray⟩])).toArray := by rw [← hw4]; exact row_setRow_same (by rw [rO]; simp) (by rw [rO]; simp)
 have rR4 : row w4 (w.heap.size + 1 + 1) = (zeros 12 (Value.int .u8 0) ++ [Value.int .i64 0, .string ⟨#[]⟩]).toArray := by rw [← hw4, row_setRow_other _ _ _ (by omega)]; exact rR
 have z4 : w4.heap.size = w3.heap.size := by rw [← hw4, setRow_size]
 have B4 : Below w.heap.size w w4 := by rw [← hw4]; exact Below.setRow B3 (by omega) _
 have rO := rO4
 have rR := rR4
 go_wp2_with fail
 clear hw4
 (try simp only [Exit.inBlock, Exit.then])
 have hfin := row_setRow_same (w := w4) (g := w.heap.size + 1 + 1) (c := (u8v src ++ (u8v who ++ [Value.int .i64 2054, Value.string ⟨bs.toArray⟩])).toArray) (by rw [rR]; simp) (by rw [rR]; simp)
 refine bodyPost_ret (results_1 rfl (resOk_row rfl ?_)) rfl ?_
 ·
  rw [hfin]; simp
 ·
  exact ⟨by (rw [hfin]) <;> rfl, Below.setRow B4 (by omega) _⟩
set_option maxRecDepth 20000 in
set_option maxHeartbeats 2000000 in
theorem rAns_nd (op : Int) (fr to ab : Vector UInt8 16) (mac : Vector UInt8 6) (has : Bool) (fl : Vector UInt8 4) (er : Int) (HP : ParsesR body (ndV op fr to ab mac has fl) er) : RAnsC dst src 34525 body who (ndS 2 ab fr ab who true fl96) := by
 have HQ : ∀ w, Calls Tryz.prog 84 #[.agg (ndV 2 ab fr ab who true fl96).toArray] w _ := fun w => rprint_op2 ab fr ab who true fl96 w
 unfold RAnsC
 obtain ⟨bs, hbs⟩ : ∃ l, ndS 2 ab fr ab who true fl96 = l := ⟨_, rfl⟩
 simp only [hbs] at HQ ⊢
 clear hbs
 unfold ParsesR at HP
 unfold ndV at HP HQ
 have K := Lib.hid HP
 have KP := Lib.hid HQ
 clear HP HQ
 intro w
 have hfold : List.foldl (fun (cs : Array Value) (x : Value × Nat) => cs.setIfInBounds x.2 x.1) (zeros 12 (Value.int .u8 0) ++ [Value.int .i64 0, Value.string ⟨#[]⟩]).toArray ((u8v src ++ (u8v who ++ [Value.int .i64 34525])).zipIdx 0) = (u8v src ++ (u8v who ++ [Value.int .i64 34525, Value.string ⟨#[]⟩])).toArray := by
  have := fold_at2 (u8v src ++ (u8v who ++ [Value.int .i64 34525])) [] (zeros 12 (Value.int .u8 0) ++ [Value.int .i64 0]) [Value.string ⟨#[]⟩] (by simp)
  simpa using this
 unfold frameV
 go_enter Tryz.func46, Tryz.ntmps46
 go_wp2_with fail
 (with_reducible refine (K.out _).mono ?_)
 rintro e w1 ⟨rfl, b1⟩
 have z1 := b1.size
 simp at z1
 have rF : row w1 w.heap.size = (u8v dst ++ (u8v src ++ [Value.int .i64 34525, Value.string ⟨body.toArray⟩])).toArray := by rw [row_below b1 (by simp; try omega)]; simp [go_sem]
 have rM : row w1 (w.heap.size + 1) = (u8v who).toArray := by rw [row_below b1 (by simp; try omega)]; simp [go_sem]
 have rR : row w1 (w.heap.size + 1 + 1) = (zeros 12 (Value.int .u8 0) ++ [Value.int .i64 0, .string ⟨#[]⟩]).toArray := by rw [row_below b1 (by simp; try omega)]; simp [go_sem]
 have rO : row w1 (w.heap.size + 1 + 1 + 1) = (u8v src ++ (u8v who ++ [Value.int .i64 34525, Value.string ⟨#[]⟩])).toArray := by rw [row_below b1 (by simp; try omega)]; simp [go_sem]
 have B1 : Below w.heap.size w w1 := Below.trans (by (repeat (first | exact Below.refl _ _ | refine Below.al ?_ _ | refine Below.drew ?_ | refine Below.sr ?_ _ | refine Below.sc ?_ _))) (b1.mono (by simp; try omega))
 clear b1
 obtain ⟨w2, hw2⟩ : ∃ v, w1.alloc (.cells (Value.int .i64 op :: (u8v fr ++ (u8v to ++ (u8v ab ++ (u8v mac ++ (Value.bool has :: u8v fl)))))).toArray 181) = v := ⟨_, rfl⟩
 have rA : row w2 w1.heap.size = (Value.int .i64 op :: (u8v fr ++ (u8v to ++ (u8v ab ++ (u8v mac ++ (Value.bool has :: u8v fl)))))).toArray := by rw [← hw2]; exact row_alloc_at _ _ _ rfl
 have z2 : w2.heap.size = w1.heap.size + 1 := by rw [← hw2]; exact alloc_sizeW _ _
 have B2 : Below w.heap.size w w2 := by rw [← hw2]; exact Below.alloc B1 (by omega) _
 have b12 : Below w1.heap.size w1 w2 := by rw [← hw2]; exact Below.alloc (Below.refl _ _) (Nat.le_refl _) _
 replace rF := (row_below b12 (by omega)).trans rF
 replace rM := (row_below b12 (by omega)).trans rM
 replace rR := (row_below b12 (by omega)).trans rR
 replace rO := (row_below b12 (by omega)).trans rO
 go_wp2_with fail
 clear hw2
 (with_reducible refine (KP.out _).mono ?_)
 rintro e w3 ⟨rfl, b3⟩
 have z3 := b3.size
 (try simp at z3)
 replace rF := (row_below b3 (by omega)).trans rF
 replace rM := (row_below b3 (by omega)).trans rM
 replace rR := (row_below b3 (by omega)).trans rR
 replace rO := (row_below b3 (by omega)).trans rO
 have B3 : Below w.heap.size w w3 := B2.trans (b3.mono (by omega))
 clear b3 b12 rA
 obtain ⟨w4, hw4⟩ : ∃ v, w3.setRow (w.heap.size + 1 + 1 + 1) (u8v src ++ (u8v who ++ [Value.int .i64 34525, Value.string ⟨bs.toArray⟩])).toArray = v := ⟨_, rfl⟩
 have rO4 : row w4 (w.heap.size + 1 + 1 + 1) = (u8v src ++ (u8v who ++ [Value.int .i64 34525, Value.string ⟨bs.toArray⟩])).toArray := by rw [← hw4]; exact row_setRow_same (by rw [rO]; simp) (by rw [rO]; simp)
 have rR4 : row w4 (w.heap.size + 1 + 1) = (zeros 12 (Value.int .u8 0) ++ [Value.int .i64 0, .string ⟨#[]⟩]).toArray := by rw [← hw4, row_setRow_other _ _ _ (by omega)]; exact rR
 have z4 : w4.heap.size = w3.heap.size := by rw [← hw4, setRow_size]
 have B4 : Below w.heap.size w w4 := by rw [← hw4]; exact Below.setRow B3 (by omega) _
 have rO := rO4
 have rR := rR4
 go_wp2_with fail
 clear hw4
 (try simp only [Exit.inBlock, Exit.then])
 have hfin := row_setRow_same (w := w4) (g := w.heap.size + 1 + 1) (c := (u8v src ++ (u8v who ++ [Value.int .i64 34525, Value.string ⟨bs.toArray⟩])).toArray) (by rw [rR]; simp) (by rw [rR]; simp)
 refine bodyPost_ret (results_1 rfl (resOk_row rfl ?_)) rfl ?_
 ·
  rw [hfin]; simp
 ·
  exact ⟨by (rw [hfin]) <;> rfl, Below.setRow B4 (by omega) _⟩
end
theorem asks_both (dst src : Vector UInt8 6) (ty : Int) (body : List UInt8) (hb : body.length ≤ 10000) :
  ((∀ (w : World) (T : Addr) (v : Int), AnsC (some T) v dst src ty body w zeroFr false) ∧ ∃ ip, RAskC dst src ty body ip false) ∨ ∃ ip ans, Asks dst src ty body ip ans ∧ RAskC dst src ty body ip true ∧ ∀ who, RAnsC dst src ty body who (ans who) := by
 by_cases h1 : (ty == 2054) = true
 ·
  have e : ty = 2054 := by simpa using h1
  subst e
  obtain ⟨o, m, t, i, x, er, hP, hR⟩ := parse_both body hb
  have hA := rAsk_arp dst src body o m t i x er hR
  by_cases he : (er == 0) = true
  ·
   have e0 : er = 0 := by simpa using he
   subst e0
   by_cases ho : (o == 1) = true
   ·
    have e1 : o = 1 := by simpa using ho
    subst e1
    by_cases hx : (x == i) = true
    ·
     refine .inl ⟨fun w T v => hAns_arp_own _ _ _ w v m t i x T hP hx, x.toList, ?_⟩
     rw [show ((0 : Int) == 0 && (1 : Int) == 1 && x != i) = false by simp [bne, hx]] at hA
     exact hA
    ·
     have hx' := Bool.eq_false_iff.2 hx
     rw [show ((0 : Int) == 0 && (1 : Int) == 1 && x != i) = true by simp [bne, hx']] at hA
     refine .inr ⟨x.toList, fun who => arpS 2 who m x i, ?_, hA, fun who => rAns_arp dst src who body 1 m t i x 0 hR⟩
     refine ⟨fun v h hf => hAns_arp_none _ _ _ _ v m t i x h hP hx' hf, fun v who h hf => hAns_arp_some _ _ _ _ v m t i x h hP hx' who hf, ?_, fun who => by simp [arpS], .inl rfl, .inl (by simp)⟩
     intro who hg hz
     have hz2 : (x != Vector.replicate 4 0) = true := by
      rw [bne_iff_ne]
      intro h
      subst h
      exact hz (by simp) rfl
     exact hAnn_arp_ok src who (arpS 2 who m x i) 2 who m x i (fun w => parse_printed 2 who m x i w (.inr rfl)) hz2 hg
   ·
    have ho' := Bool.eq_false_iff.2 ho
    rw [ho', Bool.and_false, Bool.false_and] at hA
    exact .inl ⟨fun w T v => hAns_arp_op _ _ _ w v o m t i x T hP ho', _, hA⟩
  ·
   have he' := Bool.eq_false_iff.2 he
   rw [he', Bool.false_and, Bool.false_and] at hA
   exact .inl ⟨fun w T v => hAns_arp_err _ _ _ w v o m t i x er T hP he', _, hA⟩
 have h1' := Bool.eq_false_iff.2 h1
 by_cases h2 : (ty == 34525) = true
 ·
  have e : ty = 34525 := by simpa using h2
  subst e
  obtain ⟨o, fr, to, ab, m, hs, fl, er, hB⟩ := nd_both body hb
  have hP := hB.prog
  have hA := rAsk_nd dst src body o fr to ab m hs fl er hB.ref
  by_cases he : (er == 0) = true
  ·
   have e0 : er = 0 := by simpa using he
   subst e0
   by_cases ho : ((o : Int) == 1) = true
   ·
    have e1 : o = 1 := by simp at ho; omega
    subst e1
    by_cases hx : (fr == Vector.replicate 16 0) = true
    ·
     refine .inl ⟨fun w T v => hAns_nd_zero _ _ _ w v _ _ _ _ _ _ T hP hx, ab.toList, ?_⟩
     rw [show ((0 : Int) == 0 && (((1 : Nat) : Int) == 1) && fr != Vector.replicate 16 0) = false by simp [bne, hx]] at hA
     exact hA
    ·
     have hx' := Bool.eq_false_iff.2 hx
     rw [show ((0 : Int) == 0 && (((1 : Nat) : Int) == 1) && fr != Vector.replicate 16 0) = true by simp [bne, hx']] at hA
     refine .inr ⟨ab.toList, fun who => ndS 2 ab fr ab who true fl96, ?_, hA, fun who => rAns_nd dst src who body _ fr to ab m hs fl 0 hB.ref⟩
     refine ⟨fun v h hf => hAns_nd_none _ _ _ _ v _ _ _ _ _ _ h hP hx' hf, fun v who h hf => hAns_nd_some _ _ _ _ v _ _ _ _ _ _ h hP hx' who hf, ?_, fun who => by rw [ndS_length]; simp [szN], .inr rfl, .inr (by simp)⟩
     intro who hg hz
     have hp : ParsesN (ndS 2 ab fr ab who true fl96) (ndV 2 ab fr ab who true fl96) 0 := fun w => by
      have := ndParse_print_op2 ab fr ab who fl96 [] w (by simp)
      rw [List.append_nil] at this
      exact this
     exact hAnn_nd_ok src who _ 2 ab fr ab who true fl96 ab.toList hp (fun w => hSixteen_a 2 ab fr ab who true fl96 w rfl) hg
   ·
    have ho' := Bool.eq_false_iff.2 ho
    rw [ho', Bool.and_false, Bool.false_and] at hA
    exact .inl ⟨fun w T v => hAns_nd_op _ _ _ w v o _ _ _ _ _ _ T hP ho', _, hA⟩
  ·
   have he' := Bool.eq_false_iff.2 he
   rw [he', Bool.false_and, Bool.false_and] at hA
   exact .inl ⟨fun w T v => hAns_nd_err _ _ _ w v o _ _ _ _ _ _ er T hP he', _, hA⟩
 have h2' := Bool.eq_false_iff.2 h2
 exact .inl ⟨fun w T v => hAns_other _ _ _ w v T ty h1' h2', _, rAsk_other dst src body ty h1' h2'⟩
end
section
open Go.RowKit
theorem is_eq {c : HB} {v : Int} {ip : List UInt8} (h : c.is v ip = true) : v = c.v ∧ ip = c.ip := by
 unfold HB.is at h
 simpa [Bool.and_eq_true, beq_iff_eq] using h
theorem dist_put (c : HB) : ∀ {m : List HB}, DistH m → DistH (putH c m)
 | [], _ => by unfold putH DistH; simp
 | d :: m, h => by
  rw [DistH, List.pairwise_cons] at h
  rw [putH]
  by_cases hc : d.is c.v c.ip = true
  ·
   rw [if_pos hc, DistH, List.pairwise_cons]
   refine ⟨fun b hb => ?_, h.2⟩
   have h1 := h.1 b hb
   obtain ⟨e1, e2⟩ := is_eq hc
   unfold HB.is at h1 ⊢
   rw [e1, e2]
   exact h1
  ·
   rw [if_neg hc, DistH, List.pairwise_cons]
   refine ⟨fun b hb => ?_, dist_put c h.2⟩
   rcases mem_putH hb with rfl | hb
   ·
    exact Bool.eq_false_iff.2 hc
   ·
    exact h.1 b hb
theorem dist_learn {v : Int} {ip : List UInt8} {mac : Vector UInt8 6} {ok : Bool} {m : List HB} (h : DistH m) : DistH (learnH v ip mac ok m) := by
 unfold learnH
 split
 ·
  exact dist_put _ h
 ·
  exact h
theorem step_key {time : Int} {a x : HB} (h : stepH time a = some x) : x.v = a.v ∧ x.ip = a.ip ∧ x.age = a.age + 1 ∧ a.age + 1 < time := by
 unfold stepH at h
 split at h
 ·
  cases h
 ·
  cases h
  exact ⟨rfl, rfl, rfl, by omega⟩
theorem dist_tick (time : Int) {m : List HB} (h : DistH m) : DistH (tickH time m) := by
 unfold DistH tickH at *
 rw [List.pairwise_filterMap]
 refine h.imp fun {a b} hab x hx y hy => ?_
 obtain ⟨h1, h2, _⟩ := step_key hx
 obtain ⟨h3, h4, _⟩ := step_key hy
 unfold HB.is at *
 rw [h1, h2, h3, h4]
 exact hab
theorem age_tick {time : Int} {m : List HB} (ht : time ≤ 1000000) (h : ∀ c ∈ m, 0 ≤ c.age ∧ c.age ≤ 1000000) : ∀ c ∈ tickH time m, 0 ≤ c.age ∧ c.age ≤ 1000000 := by
 intro c hc
 unfold tickH at hc
 obtain ⟨b, hb, hbc⟩ := List.mem_filterMap.1 hc
 obtain ⟨_, _, e, hlt⟩ := step_key hbc
 have := h b hb
 omega
theorem age_learn {v : Int} {ip : List UInt8} {mac : Vector UInt8 6} {ok : Bool} {m : List HB} (h : ∀ c ∈ m, 0 ≤ c.age ∧ c.age ≤ 1000000) : ∀ c ∈ learnH v ip mac ok m, 0 ≤ c.age ∧ c.age ≤ 1000000 := by
 intro c hc
 unfold learnH at hc
 split at hc
 ·
  rcases mem_putH hc with rfl | hc
  ·
   exact ⟨by simp, by simp⟩
  ·
   exact h c hc
 ·
  exact h c hc
theorem put_length (c : HB) : ∀ m : List HB, (putH c m).length ≤ m.length + 1 ∧ (hadH c.v c.ip m = true → (putH c m).length = m.length)
 | [] => by simp [putH, hadH]
 | d :: m => by
  obtain ⟨h1, h2⟩ := put_length c m
  rw [putH]
  by_cases hc : d.is c.v c.ip = true
  ·
   rw [if_pos hc]; simp
  ·
   rw [if_neg hc]
   refine ⟨by simp; omega, fun h => ?_⟩
   have : hadH c.v c.ip m = true := by
    unfold hadH at *
    rw [List.any_cons] at h
    simpa [hc] using h
   simp [h2 this]
theorem len_learn {v : Int} {ip : List UInt8} {mac : Vector UInt8 6} {ok : Bool} {m : List HB} (h : m.length ≤ 1024) : (learnH v ip mac ok m).length ≤ 1024 := by
 unfold learnH
 obtain ⟨h1, h2⟩ := put_length ⟨v, ip, mac, 0⟩ m
 split
 ·
  rename_i hc
  simp only [Bool.and_eq_true, Bool.or_eq_true, decide_eq_true_eq] at hc
  rcases hc.2 with hc | hc
  ·
   rw [h2 hc]; exact h
  ·
   omega
 ·
  exact h
theorem learn_both (dst src : Vector UInt8 6) (ty : Int) (body : List UInt8) (ip : List UInt8) (mac : Vector UInt8 6) (ok : Bool) (vl : Int) (w : World) {T M : Nat} {time : Int} {m : List HB} (h : HushT w T M time m) (hTM : T ≠ M) (HA : AnnC dst src ty body ip mac ok) :
  Calls Tryz.prog 35 #[.pointer (some ⟨T, 0, none⟩), .int .i64 vl, .agg (frameV dst src ty body).toArray] w fun e w' => e = .returned (.bool (ok && (hadH vl ip m || decide (m.length < 1024)))) ∧ BelowBut w.heap.size M w w' ∧ HushT w' T M time (learnH vl ip mac ok m) := by
 have hT := h.lt
 have hM := h.ok.lt
 cases ok with
 | false =>
  refine (hLearn_no dst src ty body ip mac w (some ⟨T, 0, none⟩) vl HA).mono ?_
  rintro e w' ⟨rfl, b⟩
  exact ⟨rfl, BelowBut.of b, h.below b hT hM⟩
 | true =>
  by_cases h1 : findH vl ip m ≠ none ∨ m.length < 1024
  ·
   have hb : (hadH vl ip m || decide (m.length < 1024)) = true := by
    rcases h1 with h1 | h1
    ·
     rw [(had_find vl ip m).2 h1, Bool.true_or]
    ·
     rw [decide_eq_true h1, Bool.or_true]
   refine (hLearn_kept dst src ty body ip mac w vl h hTM HA h1).mono ?_
   rintro e w' ⟨rfl, b, h'⟩
   unfold learnH
   rw [hb]
   exact ⟨rfl, b, h'⟩
  ·
   have h2 : findH vl ip m = none ∧ 1024 ≤ m.length :=
    ⟨Classical.byContradiction fun hc => h1 (.inl hc), Classical.byContradiction fun hc => h1 (.inr (by omega))⟩
   have hb : (hadH vl ip m || decide (m.length < 1024)) = false := by
    rw [decide_eq_false (by omega), Bool.or_false]
    exact Bool.eq_false_iff.2 fun hc => (had_find vl ip m).1 hc h2.1
   refine (hLearn_full dst src ty body ip mac w vl h HA h2.1 h2.2).mono ?_
   rintro e w' ⟨rfl, b⟩
   unfold learnH
   rw [hb]
   exact ⟨rfl, BelowBut.of b, h.below b hT hM⟩
end
end Go.Proofs.YtckckabedgpbiaaGreat
