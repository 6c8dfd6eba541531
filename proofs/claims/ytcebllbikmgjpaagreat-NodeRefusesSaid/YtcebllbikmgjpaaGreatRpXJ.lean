/- Reference of chapter 22: what the document's bridge holds; can a bridge be made. -/
import Derived.Test.YtcebllbikmgjpaaGreatRpAJ
import Derived.Test.YtcebllbikmgjpaaGreatJ25
set_option linter.unusedSimpArgs false
set_option linter.unusedVariables false
set_option maxHeartbeats 8000000
set_option maxRecDepth 20000
namespace Go.Proofs.YtcebllbikmgjpaaGreat
open Go.RowKit Go.Shelf
structure RefA where
 pa : Option Addr
 pcap : Nat
 sa : Option Addr
 scap : Nat
 ba : Option Addr
 bcap : Nat
structure RefS where
 rs : List RPortD
 ageing : Int
 st : List LB
 bi : List HB
 c0 : Int
 c1 : Int
 c2 : Int
 c3 : Int
 c4 : Int
def refV (A : RefA) (x : RefS) : List Value := [.slice A.pa x.rs.length A.pcap, .int .i64 x.ageing, .slice A.sa x.st.length A.scap, .slice A.ba x.bi.length A.bcap, .int .i64 x.c0, .int .i64 x.c1, .int .i64 x.c2, .int .i64 x.c3, .int .i64 x.c4]
def okRP (p : PortD) : Bool := okPort p && !badLim p.lim
theorem new_eq (ageing : Int) (ps : List PortD) : newOkB ageing ps = (ps.all okRP && (decide ((1 : Int) ≤ (ps.length : Int)) && decide ((ps.length : Int) ≤ 32) && decide (1 ≤ ageing) && decide (ageing ≤ 1000000))) := by
 unfold newOkB newOkL okRP
 rw [Bool.eq_iff_iff]
 simp only [Bool.and_eq_true, List.all_eq_true, List.length_map, Bool.not_eq_true', List.any_eq_false, List.mem_map, decide_eq_true_eq]
 constructor
 ·
  rintro ⟨⟨h1, ⟨⟨h2, h3⟩, h4⟩, h5⟩, h6⟩
  exact ⟨fun p hp => ⟨h1 p hp, by simpa using h5 _ ⟨p, hp, rfl⟩⟩, ⟨⟨by omega, by omega⟩, h2⟩, h3⟩
 ·
  rintro ⟨h1, ⟨⟨h2, h3⟩, h4⟩, h5⟩
  exact ⟨⟨fun p hp => (h1 p hp).1, ⟨⟨h4, h5⟩, by omega⟩, fun x ⟨p, hp, e⟩ => by subst e; have := (h1 p hp).2; simpa using this⟩, by omega⟩
theorem new_bad {ageing : Int} {rs : List RPortD} {k : Nat} (hk : k < rs.length) (h : okRP rs[k].p = false) : newOkB ageing (rs.map (·.p)) = false := by
 rw [new_eq, Bool.and_eq_false_iff]
 left
 rw [List.all_eq_false]
 exact ⟨rs[k].p, List.mem_map.2 ⟨rs[k], List.getElem_mem _, rfl⟩, by rw [h]; decide⟩
theorem new_all {ageing : Int} {rs : List RPortD} (h : ∀ r ∈ rs, okRP r.p = true) : newOkB ageing (rs.map (·.p)) = (decide ((1 : Int) ≤ (rs.length : Int)) && decide ((rs.length : Int) ≤ 32) && decide (1 ≤ ageing) && decide (ageing ≤ 1000000)) := by
 rw [new_eq, List.length_map]
 have : (rs.map (·.p)).all okRP = true := by
  rw [List.all_eq_true]
  intro p hp
  obtain ⟨r, hr, rfl⟩ := List.mem_map.1 hp
  exact h r hr
 rw [this, Bool.true_and]
theorem all_step {rs : List RPortD} {k : Nat} {hlt : k < rs.length} (ha : ∀ (i : Nat) (hi : i < rs.length), i < k → okRP rs[i].p = true) (hb : okRP rs[k].p = true) : ∀ (i : Nat) (hi : i < rs.length), i < k + 1 → okRP rs[i].p = true := by
 intro i hi hik
 rcases Nat.lt_or_ge i k with h0 | h0
 ·
  exact ha i hi h0
 ·
  obtain rfl : i = k := by omega
  exact hb
theorem r22Right_any (A : RefA) (x : RefS) (w : World) (h : RPortsAt w A.pa x.rs) :
  Calls Tryz.prog 42 #[.agg (refV A x).toArray] w fun e w' => e = .returned (.bool (newOkB x.ageing (x.rs.map (·.p)))) ∧ Below w.heap.size w w' := by
 have hm := h.1
 have hnI : (x.rs.length : Int) ≤ 9223372036854775807 := by unfold maxLen at hm; omega
 clear hm
 obtain ⟨pa, pcap, sa, scap, ba, bcap⟩ := A
 unfold refV
 dsimp only at *
 go_enter Tryz.func42, Tryz.ntmps42
 obtain ⟨W, hW⟩ : ∃ W, w.alloc (.cells #[.slice pa x.rs.length pcap, .int .i64 x.ageing, .slice sa x.st.length scap, .slice ba x.bi.length bcap, .int .i64 x.c0, .int .i64 x.c1, .int .i64 x.c2, .int .i64 x.c3, .int .i64 x.c4] 129) = W := ⟨_, rfl⟩
 have bW : Below w.heap.size w W := by rw [← hW]; exact ba_
 have rB : row W w.heap.size = #[.slice pa x.rs.length pcap, .int .i64 x.ageing, .slice sa x.st.length scap, .slice ba x.bi.length bcap, .int .i64 x.c0, .int .i64 x.c1, .int .i64 x.c2, .int .i64 x.c3, .int .i64 x.c4] := by rw [← hW]; exact row_alloc_at _ _ _ rfl
 have zW : W.heap.size = w.heap.size + 1 := by rw [← hW, alloc_sizeW]
 go_wp2_with fail
 (try rw [hW])
 clear hW
 go_loopw [3] (fun i wr => ∃ k : Nat, k ≤ x.rs.length ∧ i = .int .i64 k ∧ (∀ (i : Nat) (hi : i < x.rs.length), i < k → okRP x.rs[i].p = true) ∧ Below W.heap.size W wr) (fun i _ => x.rs.length - (intOf i).toNat)
 case atStart => exact ⟨0, by omega, rfl, fun i hi h => by omega, Below.refl _ _⟩
 case round =>
  obtain ⟨k, hk, rfl, hall, D⟩ := hrel
  have rBr := (row_below D (by omega)).trans rB
  have zr := D.size
  have HA := h_ hall
  have DW := D
  replace D := bW.trans (D.mono bW.size)
  clear rB hall
  by_cases hlt : k < x.rs.length
  ·
   have hkI : (k : Int) < (x.rs.length : Int) := by omega
   obtain ⟨pb, po, ta, tc, rfl, hpb, hrd⟩ := h.get hlt
   have hld := run_loadS_at (P := Tryz.prog) (t := 131) (hrd wr D).1 (by simp [rportV])
   have hit := (hrd w (Below.refl _ _)).2
   unfold rportV at hld
   obtain ⟨⟨⟨nat, tag, hor, lim⟩, st⟩, hr0⟩ : ∃ y, x.rs[k] = y := ⟨_, rfl⟩
   rw [hr0] at hld hit
   have HP := h_ (congrArg RPortD.p hr0)
   dsimp only at hld hit HP
   obtain ⟨o, ho⟩ : ∃ o, po + k * 5 = o := ⟨_, rfl⟩
   rw [ho] at hld
   have HR := h_ (fun w (h : IntsAt w ta tag) => r19Right_any nat ta tc tag w h)
   obtain ⟨W1, hW1⟩ : ∃ W, wr.alloc (.cells #[Value.int .i64 nat, Value.slice ta tag.length tc, Value.int .i64 hor, Value.int .i64 lim, Value.int .i64 st] 131) = W := ⟨_, rfl⟩
   have bW1 : Below wr.heap.size wr W1 := by rw [← hW1]; exact ba_
   have rX : row W1 wr.heap.size = #[Value.int .i64 nat, Value.slice ta tag.length tc, Value.int .i64 hor, Value.int .i64 lim, Value.int .i64 st] := by rw [← hW1]; exact row_alloc_at _ _ _ rfl
   have zW1 : W1.heap.size = wr.heap.size + 1 := by rw [← hW1, alloc_sizeW]
   have hi1 := hit.below (D.trans (bW1.mono D.size))
   have zW1b := D.size
   clear hrd hit hr0 h
   cases hr1 : rightP nat tag with
   | false =>
    have HB := h_ (show okRP x.rs[k].p = false by rw [HP.out]; unfold okRP okPort; dsimp only; rw [hr1]; rfl)
    rw [hr1] at HR
    go_wp2_with fail
    (try rw [hW1])
    try clear hW1
    (with_reducible refine (HR.out _ hi1).mono ?_)
    rintro e w5 ⟨rfl, b5⟩
    have rX5 := (row_below b5 (by omega)).trans rX
    have z5 := b5.size
    have c5 := D.trans ((bW1.mono D.size).trans (b5.mono (by omega)))
    have c5W := DW.trans ((bW1.mono DW.size).trans (b5.mono (by omega)))
    clear rX
    go_wp2_with fail
    go_ret
    exact ⟨by rw [new_bad hlt HB.out]; rfl, c5⟩
   | true =>
    rw [hr1] at HR
    by_cases h2 : hor < 0
    ·
     have h2b := decide_eq_true h2
     have HB := h_ (show okRP x.rs[k].p = false by rw [HP.out]; unfold okRP okPort badLim; dsimp only; rw [decide_eq_false (show ¬ 0 ≤ hor by omega)]; simp)
     go_wp2_with fail
     (try rw [hW1])
     try clear hW1
     (with_reducible refine (HR.out _ hi1).mono ?_)
     rintro e w5 ⟨rfl, b5⟩
     have rX5 := (row_below b5 (by omega)).trans rX
     have z5 := b5.size
     have c5 := D.trans ((bW1.mono D.size).trans (b5.mono (by omega)))
     have c5W := DW.trans ((bW1.mono DW.size).trans (b5.mono (by omega)))
     clear rX
     go_wp2_with fail
     go_ret
     exact ⟨by rw [new_bad hlt HB.out]; rfl, c5⟩
    have h2b := decide_eq_false h2
    by_cases h3 : 255 < hor
    ·
     have h3b := decide_eq_true h3
     have HB := h_ (show okRP x.rs[k].p = false by rw [HP.out]; unfold okRP okPort badLim; dsimp only; rw [decide_eq_false (show ¬ hor ≤ 255 by omega)]; simp)
     go_wp2_with fail
     (try rw [hW1])
     try clear hW1
     (with_reducible refine (HR.out _ hi1).mono ?_)
     rintro e w5 ⟨rfl, b5⟩
     have rX5 := (row_below b5 (by omega)).trans rX
     have z5 := b5.size
     have c5 := D.trans ((bW1.mono D.size).trans (b5.mono (by omega)))
     have c5W := DW.trans ((bW1.mono DW.size).trans (b5.mono (by omega)))
     clear rX
     go_wp2_with fail
     go_ret
     exact ⟨by rw [new_bad hlt HB.out]; rfl, c5⟩
    have h3b := decide_eq_false h3
    by_cases h4 : lim < 0
    ·
     have h4b := decide_eq_true h4
     have HB := h_ (show okRP x.rs[k].p = false by rw [HP.out]; unfold okRP okPort badLim; dsimp only; rw [decide_eq_true h4]; simp)
     go_wp2_with fail
     (try rw [hW1])
     try clear hW1
     (with_reducible refine (HR.out _ hi1).mono ?_)
     rintro e w5 ⟨rfl, b5⟩
     have rX5 := (row_below b5 (by omega)).trans rX
     have z5 := b5.size
     have c5 := D.trans ((bW1.mono D.size).trans (b5.mono (by omega)))
     have c5W := DW.trans ((bW1.mono DW.size).trans (b5.mono (by omega)))
     clear rX
     go_wp2_with fail
     go_ret
     exact ⟨by rw [new_bad hlt HB.out]; rfl, c5⟩
    have h4b := decide_eq_false h4
    by_cases h5 : 65535 < lim
    ·
     have h5b := decide_eq_true h5
     have HB := h_ (show okRP x.rs[k].p = false by rw [HP.out]; unfold okRP okPort badLim; dsimp only; rw [decide_eq_false h4, decide_eq_true h5]; simp)
     go_wp2_with fail
     (try rw [hW1])
     try clear hW1
     (with_reducible refine (HR.out _ hi1).mono ?_)
     rintro e w5 ⟨rfl, b5⟩
     have rX5 := (row_below b5 (by omega)).trans rX
     have z5 := b5.size
     have c5 := D.trans ((bW1.mono D.size).trans (b5.mono (by omega)))
     have c5W := DW.trans ((bW1.mono DW.size).trans (b5.mono (by omega)))
     clear rX
     go_wp2_with fail
     go_ret
     exact ⟨by rw [new_bad hlt HB.out]; rfl, c5⟩
    have h5b := decide_eq_false h5
    have HB := h_ (show okRP x.rs[k].p = true by rw [HP.out]; unfold okRP okPort badLim; dsimp only; rw [hr1, decide_eq_true (show 0 ≤ hor by omega), decide_eq_true (show hor ≤ 255 by omega), decide_eq_false h4, decide_eq_false h5]; rfl)
    go_wp2_with fail
    (try rw [hW1])
    try clear hW1
    (with_reducible refine (HR.out _ hi1).mono ?_)
    rintro e w5 ⟨rfl, b5⟩
    have rX5 := (row_below b5 (by omega)).trans rX
    have z5 := b5.size
    have c5 := D.trans ((bW1.mono D.size).trans (b5.mono (by omega)))
    have c5W := DW.trans ((bW1.mono DW.size).trans (b5.mono (by omega)))
    clear rX
    go_wp2_with fail
    have HS := h_ (show ∀ (i : Nat) (hi : i < x.rs.length), i < k + 1 → okRP x.rs[i].p = true from all_step HA.out HB.out)
    go_roundw
    case rel => exact ⟨k + 1, by omega, by simp, HS.out, c5W⟩
    case measure => simp [intOf]; omega
  ·
   obtain rfl : k = x.rs.length := by omega
   have hkI : ¬ (x.rs.length : Int) < (x.rs.length : Int) := by omega
   have HA2 := h_ (show ∀ r ∈ x.rs, okRP r.p = true by intro r hr; obtain ⟨i, hi, rfl⟩ := List.getElem_of_mem hr; exact HA.out i hi hi)
   by_cases f1 : (1 : Int) ≤ (x.rs.length : Int)
   ·
    have f1b := decide_eq_true f1
    by_cases f2 : (x.rs.length : Int) ≤ 32
    ·
     have f2b := decide_eq_true f2
     by_cases f3 : 1 ≤ x.ageing
     ·
      have f3b := decide_eq_true f3
      by_cases f4 : x.ageing ≤ 1000000
      ·
       have f4b := decide_eq_true f4
       have HF := h_ (show newOkB x.ageing (x.rs.map (·.p)) = true by rw [new_all HA2.out, decide_eq_true f1, decide_eq_true f2, decide_eq_true f3, decide_eq_true f4]; rfl)
       go_wp2_with fail
       go_ret
       exact ⟨by rw [HF.out]; rfl, D⟩
      ·
       have f4b := decide_eq_false f4
       have HF := h_ (show newOkB x.ageing (x.rs.map (·.p)) = false by rw [new_all HA2.out, decide_eq_false f4]; simp)
       go_wp2_with fail
       go_ret
       exact ⟨by rw [HF.out]; rfl, D⟩
     ·
      have f3b := decide_eq_false f3
      have HF := h_ (show newOkB x.ageing (x.rs.map (·.p)) = false by rw [new_all HA2.out, decide_eq_false f3]; simp)
      go_wp2_with fail
      go_ret
      exact ⟨by rw [HF.out]; rfl, D⟩
    ·
     have f2b := decide_eq_false f2
     have HF := h_ (show newOkB x.ageing (x.rs.map (·.p)) = false by rw [new_all HA2.out, decide_eq_false f2]; simp)
     go_wp2_with fail
     go_ret
     exact ⟨by rw [HF.out]; rfl, D⟩
   ·
    have f1b := decide_eq_false f1
    have HF := h_ (show newOkB x.ageing (x.rs.map (·.p)) = false by rw [new_all HA2.out, decide_eq_false f1]; simp)
    go_wp2_with fail
    go_ret
    exact ⟨by rw [HF.out]; rfl, D⟩
end Go.Proofs.YtcebllbikmgjpaaGreat
