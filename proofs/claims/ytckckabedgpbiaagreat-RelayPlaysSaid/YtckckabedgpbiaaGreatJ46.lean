/- Texts of this proof, merged: RlyC, RlyD. -/
import Derived.Test.YtckckabedgpbiaaGreatJ43
set_option linter.unusedSimpArgs false
set_option linter.unusedVariables false
set_option maxRecDepth 4000
namespace Go.Proofs.YtckckabedgpbiaaGreat
section
open Go.RowKit Go.Shelf
structure TalkD where
 ip : List UInt8
 mac : Vector UInt8 6
 ok : Bool
 ask : Option (List UInt8 × (Vector UInt8 6 → List UInt8))
structure TalkC (dst src : Vector UInt8 6) (ty : Int) (body : List UInt8) (t : TalkD) : Prop where
 ann : AnnC dst src ty body t.ip t.mac t.ok
 no : t.ask = none → ∀ (w : World) (T : Addr) (v : Int), AnsC (some T) v dst src ty body w zeroFr false
 yes : ∀ ip ans, t.ask = some (ip, ans) → Asks dst src ty body ip ans
def askS (v : Int) (t : TalkD) (bi : List HB) : Option (HB × (Vector UInt8 6 → List UInt8)) :=
 match t.ask with
 | none => none
 | some (ip, ans) => (findH v ip bi).map fun c => (c, ans)
def BrS.port (s : BrS) (k : Nat) : PortD := s.ports.getD k ⟨0, [], 0, 0⟩
def comeD (s : BrS) (k : Nat) (d : EthD) (t : TalkD) : BrS × List (Nat × List UInt8) × Int :=
 if grp d.src then ({ s with c0 := s.c0 + 1 }, [], 3)
 else if d.dst == bpduTo then ({ s with c1 := s.c1 + 1 }, [], 0)
 else if decide (s.states.getD k 0 < 2) || (inP (s.port k).native (s.port k).tagged d.vlan).2 != 0 then ({ s with c2 := s.c2 + 1 }, [], 7)
 else
  let v := (inP (s.port k).native (s.port k).tagged d.vlan).1
  let st := hearL (s.port k).lim v d.src k s.st
  if s.states.getD k 0 < 3 then ({ s with st := st, c2 := s.c2 + 1 }, [], 7)
  else
   let bi := learnH v t.ip t.mac t.ok s.bi
   match askS v t bi with
   | some (c, ans) => ({ s with st := st, bi := bi, c4 := s.c4 + 1 }, printedS (s.port k) k v d.src c.mac d.ty (ans c.mac) d.prio, 0)
   | none => ({ s with st := st, bi := bi, c3 := s.c3 + 1 }, relayedS s st k v d.dst d.src d.ty d.body d.prio, 0)
def comeS (s : BrS) (k : Nat) (l : List UInt8) (t : TalkD) : BrS × List (Nat × List UInt8) × Int :=
 match ethParse l with
 | .error _ => ({ s with c0 := s.c0 + 1 }, [], 3)
 | .ok d => comeD s k d t
structure BrG (s : BrS) (N : Nat) : Prop where
 n32 : s.ports.length ≤ 32
 std : DistL s.st
 stp : ∀ b ∈ s.st, ∃ j : Nat, b.port = (j : Int) ∧ j < s.ports.length
 stn : s.st.length ≤ N
 sta : ∀ b ∈ s.st, 0 ≤ b.age ∧ b.age ≤ 1000000
 bid : DistH s.bi
 bia : ∀ b ∈ s.bi, 0 ≤ b.age ∧ b.age ≤ 1000000
 bin : s.bi.length ≤ 1024
 cs : (0 ≤ s.c0 ∧ s.c0 ≤ N) ∧ (0 ≤ s.c1 ∧ s.c1 ≤ N) ∧ (0 ≤ s.c2 ∧ s.c2 ≤ N) ∧ (0 ≤ s.c3 ∧ s.c3 ≤ N) ∧ (0 ≤ s.c4 ∧ s.c4 ≤ N)
 age : 1 ≤ s.ageing ∧ s.ageing ≤ 1000000
theorem ethErr0 (l : List UInt8) (n : Int) (h : ethParse l = .error n) : (n != 0) = true := by
 unfold ethParse at h
 have hR : ∀ k m v p, ethRest l k m v p = .error n → (n != 0) = true := by
  intro k m v p h
  unfold ethRest at h
  repeat' split at h
  all_goals first | (cases h; rfl) | (cases h; done)
 repeat' split at h
 all_goals first | exact hR _ _ _ _ h | (cases h; rfl)
theorem ethParse_prio {l : List UInt8} {d : EthD} (h : ethParse l = .ok d) : 0 ≤ d.prio ∧ d.prio ≤ 7 ∧ d.body.length ≤ 1500 := by
 have h1 := (ethParse_again l d h).1
 simp [rightB] at h1
 omega
theorem rightP_mem {native : Int} {l : List Int} (h : rightP native l = true) : 0 ≤ native ∧ native ≤ 4094 ∧ ∀ v ∈ l, 1 ≤ v ∧ v ≤ 4094 := by
 unfold rightP at h
 simp only [Bool.and_eq_true, decide_eq_true_eq] at h
 obtain ⟨⟨⟨h1, h2⟩, _⟩, h3⟩ := h
 refine ⟨h1, h2, ?_⟩
 have : ∀ (l : List Int) (last : Int), 0 ≤ last → okR native last l = true → ∀ v ∈ l, 1 ≤ v ∧ v ≤ 4094 := by
  intro l
  induction l with
  | nil => intro _ _ _ v hv; cases hv
  | cons x l ih =>
   intro last h0 h v hv
   simp only [okR, Bool.and_eq_true, Bool.not_eq_true', Bool.or_eq_false_iff, decide_eq_false_iff_not] at h
   rcases List.mem_cons.1 hv with e | e
   ·
    subst e; omega
   ·
    exact ih x (by omega) h.2 v e
 exact this l 0 (Int.le_refl _) h3
theorem member_range {native : Int} {l : List Int} {v : Int} (h : memberP native l v = true) : 1 ≤ v ∧ v ≤ 4094 := by
 unfold memberP at h
 simp only [Bool.and_eq_true, bne_iff_ne, Bool.or_eq_true, beq_iff_eq, List.contains_iff_mem] at h
 obtain ⟨⟨h1, h2⟩, h3⟩ := h
 obtain ⟨q1, q2, q3⟩ := rightP_mem h1
 rcases h3 with e | e
 ·
  omega
 ·
  exact q3 v e
theorem inP_ok {native : Int} {l : List Int} {vl v : Int} (h : inP native l vl = (v, 0)) : memberP native l v = true ∧ 1 ≤ v ∧ v ≤ 4094 := by
 have hm : memberP native l v = true := by
  have e : inP native l vl = if memberP native l (if vl = -1 ∨ vl = 0 then native else vl) = true then ((if vl = -1 ∨ vl = 0 then native else vl), 0) else (0, 12) := rfl
  generalize (if vl = -1 ∨ vl = 0 then native else vl) = v0 at e
  rw [e] at h
  by_cases hm : memberP native l v0 = true
  ·
   rw [if_pos hm, Prod.mk.injEq] at h
   rw [← h.1]
   exact hm
  ·
   rw [if_neg hm, Prod.mk.injEq] at h
   omega
 exact ⟨hm, member_range hm⟩
theorem putL_mem {b c : LB} : ∀ {m : List LB}, c ∈ putL b m → c = b ∨ c ∈ m
 | [], h => by left; simpa [putL] using h
 | d :: m, h => by
  simp only [putL] at h
  split at h
  ·
   rcases List.mem_cons.1 h with e | e
   ·
    exact .inl e
   ·
    exact .inr (by simp [e])
  ·
   rcases List.mem_cons.1 h with e | e
   ·
    exact .inr (by simp [e])
   ·
    rcases putL_mem e with e | e
    ·
     exact .inl e
    ·
     exact .inr (by simp [e])
theorem hear_mem {lim v : Int} {mac : Vector UInt8 6} {port : Int} {m : List LB} {c : LB} (h : c ∈ hearL lim v mac port m) : c = ⟨v, mac, port, 0⟩ ∨ c ∈ m := by
 have hc : ∀ (c : Prop) [Decidable c] (x y : List LB), (if c then x else y) = x ∨ (if c then x else y) = y := by
  intro c _ x y
  by_cases hc : c
  ·
   exact .inl (if_pos hc)
  ·
   exact .inr (if_neg hc)
 have key : hearL lim v mac port m = putL ⟨v, mac, port, 0⟩ m ∨ hearL lim v mac port m = m := by
  unfold hearL
  exact hc _ _ _
 rcases key with e | e <;> rw [e] at h
 ·
  exact putL_mem h
 ·
  exact .inr h
theorem hear_ports {s : BrS} {N : Nat} (g : BrG s N) {lim v : Int} {mac : Vector UInt8 6} {k : Nat} {st : List LB} (hs : hearL lim v mac (k : Int) s.st = st) (hk : k < s.ports.length) : ∀ b ∈ st, ∃ j : Nat, b.port = (j : Int) ∧ j < s.ports.length := by
 intro b hb
 rw [← hs] at hb
 rcases hear_mem hb with e | e
 ·
  subst e; exact ⟨k, rfl, hk⟩
 ·
  exact g.stp b e
theorem ask_any {dst src : Vector UInt8 6} {ty : Int} {body : List UInt8} {t : TalkD} (h : TalkC dst src ty body t) (v : Int) {A : BrA} {s : BrS} : ∃ (fr : List Value) (b : Bool), (∀ W, BrT W A s → AnsC (some ⟨A.HT, 0, none⟩) v dst src ty body W fr b) ∧
  ((b = false ∧ fr = zeroFr ∧ askS v t s.bi = none) ∨ ∃ c ans, b = true ∧ fr = frameV src c.mac ty (ans c.mac) ∧ askS v t s.bi = some (c, ans)) := by
 unfold askS
 cases ha : t.ask with
 | none => exact ⟨zeroFr, false, fun W _ => h.no ha W _ v, .inl ⟨rfl, rfl, rfl⟩⟩
 | some x =>
  obtain ⟨ip, ans⟩ := x
  have hs := h.yes ip ans ha
  cases hf : findH v ip s.bi with
  | none => exact ⟨zeroFr, false, fun W hW => hs.none v hW.hush (by unfold foundH; rw [hf]; rfl), .inl ⟨rfl, rfl, by simp [hf]⟩⟩
  | some c => exact ⟨_, true, fun W hW => hs.some v c.mac hW.hush (by unfold foundH; rw [hf]), .inr ⟨c, ans, rfl, rfl, by simp [hf]⟩⟩
theorem BrT.same {w : World} {A : BrA} {s s' : BrS} (h : BrT w A s) (e : s' = s) : BrT w A s' := e ▸ h
section
variable (w : World) {A : BrA} {s : BrS}
set_option maxRecDepth 20000 in
theorem rCome_bad (h : BrT w A s) (port : Int) (l : List UInt8) (hn : s.ports.length ≤ 32) (hp : ¬ (0 ≤ port ∧ port < s.ports.length)) :
  Calls Tryz.prog 14 #[.pointer (some ⟨A.B, 0, none⟩), .int .i64 port, .string ⟨l.toArray⟩] w fun e w' => e = .returned (.tuple #[.slice none 0 0, .int .i64 1]) ∧ Below w.heap.size w w' := by
 have HH := Lib.hid (fun w (h : BrT w A s) => rHas_any w h port hn)
 have hb : (decide (0 ≤ port) && decide (port < s.ports.length)) = false := by
  rw [Bool.eq_false_iff]
  intro hc
  simp only [Bool.and_eq_true, decide_eq_true_eq] at hc
  exact hp hc
 rw [hb] at HH
 clear hp hb
 go_enter Tryz.func14, Tryz.ntmps14
 go_wp2_with fail
 (with_reducible refine (HH.out _ h).mono ?_)
 rintro e w1 ⟨rfl, rfl⟩
 go_wp2_with fail
 go_ret2
 exact ⟨rfl, Below.refl _ _⟩
structure ComeX (l : List UInt8) (dst src : Vector UInt8 6) (ty : Int) (body : List UInt8) (vl prio er : Int) : Prop where
 parse : ∀ w, Calls Tryz.prog 30 #[.string ⟨l.toArray⟩] w fun e w' => e = .returned (.tuple #[.agg (ethV dst src ty body vl prio).toArray, .int .i64 er]) ∧ Below w.heap.size w w'
 err : er ≠ 0 → ∃ n, ethParse l = .error n
 good : er = 0 → ethParse l = .ok ⟨dst, src, ty, body, vl, prio⟩
theorem comeX (l : List UInt8) (hl : l.length ≤ 1000000) : ∃ dst src ty body vl prio er, ComeX l dst src ty body vl prio er := by
 cases hp : ethParse l with
 | error n =>
  refine ⟨mac0, mac0, 0, [], 0, 0, n, fun w => ethParse_err l n w hl hp, fun _ => ⟨n, hp⟩, fun h => ?_⟩
  have := ethErr0 l n hp
  rw [h] at this
  cases this
 | ok d => exact ⟨d.dst, d.src, d.ty, d.body, d.vlan, d.prio, 0, fun w => ethParse_ok l d w hl hp, fun h => absurd rfl h, fun _ => hp⟩
end
end
section
open Go.RowKit Go.Shelf
section
variable (w : World) {A : BrA} {s : BrS}
set_option maxRecDepth 20000 in
set_option maxHeartbeats 8000000 in
theorem rCome_any (h : BrT w A s) {N : Nat} (hN : N ≤ 900000) (g : BrG s N) (k : Nat) (hk : k < s.ports.length) (l : List UInt8) (hl : l.length ≤ 1000000) (t : TalkD) (ht : ∀ d, ethParse l = .ok d → TalkC d.dst d.src d.ty d.body t) :
  Calls Tryz.prog 14 #[.pointer (some ⟨A.B, 0, none⟩), .int .i64 (k : Int), .string ⟨l.toArray⟩] w fun e w' => (∃ u, e = .returned (.tuple #[u, .int .i64 (comeS s k l t).2.2]) ∧ OwnL w' w.heap.size 51 2 u ((comeS s k l t).2.1.map outC)) ∧ BelowS w.heap.size A.muts w w' ∧ BrT w' A (comeS s k l t).1 := by
 obtain ⟨dst, src, ty, body, vl, prio, er, hx⟩ := comeX l hl
 have hn := g.n32
 have HHS := Lib.hid (fun w (h : BrT w A s) => rHas_any w h k hn)
 rw [decide_eq_true (by omega : (0 : Int) ≤ (k : Int)), decide_eq_true (by omega : (k : Int) < (s.ports.length : Int))] at HHS
 have HPA := Lib.hid hx.parse
 unfold ethV at HPA
 have HXE := Lib.hid hx.err
 have HXG := Lib.hid hx.good
 have HTO := Lib.hid bTo_any
 have HGR := Lib.hid (fun w => group_any src w)
 obtain ⟨pb, po, ta, tc, epa, hpb, hrd⟩ := h.port hk
 obtain ⟨p, hp⟩ : ∃ x, s.ports[k] = x := ⟨_, rfl⟩
 rw [hp] at hrd
 have hpk : s.port k = p := by unfold BrS.port; rw [List.getD_eq_getElem?_getD, List.getElem?_eq_getElem hk]; exact hp
 obtain ⟨q, hq⟩ : ∃ x, s.states[k]'(by rw [h.lenS]; exact hk) = x := ⟨_, rfl⟩
 have hqk : s.states.getD k 0 = q := by rw [List.getD_eq_getElem?_getD, List.getElem?_eq_getElem (by rw [h.lenS]; exact hk)]; exact hq
 have HST := Lib.hid (fun W (hW : BrT W A s) => by have := state_cell hW hk; rw [hq] at this; exact this)
 obtain ⟨iv, hiv⟩ : ∃ x, inP p.native p.tagged vl = x := ⟨_, rfl⟩
 have HIN := Lib.hid (fun W (hW : BelowS w.heap.size A.muts w W) => vIn_any p.native ta tc p.tagged dst src ty body vl prio W (hrd W hW).2)
 rw [hiv] at HIN
 have hload : ∀ W, Below w.heap.size w W → (loadS 59 (.pointer (some ⟨pb, po + k * 4, none⟩))).run Tryz.prog W = .ok (.agg #[Value.int .i64 p.native, Value.slice ta p.tagged.length tc]) W := fun W hW => by
  have h4 := (hrd W (BelowS.of hW)).1
  exact run_loadS_at (l := [Value.int .i64 p.native, Value.slice ta p.tagged.length tc]) (fun j u hj => h4 j u (by
   match j, hj with
   | 0, hj => exact hj
   | 1, hj => exact hj)) rfl
 obtain ⟨o, ho⟩ : ∃ o, po + k * 4 = o := ⟨_, rfl⟩
 rw [ho] at hload
 have HLO := Lib.hid hload
 have HIV := Lib.hid hiv
 have HQK := Lib.hid hqk
 have HPK := Lib.hid hpk
 have HEPA := Lib.hid epa
 obtain ⟨iv1, iv2⟩ := iv
 dsimp only at HIN
 have hkI : (k : Int) < (s.ports.length : Int) := by omega
 have hk0 : (0 : Int) ≤ (k : Int) := by omega
 have hnI : (s.ports.length : Int) ≤ 32 := by omega
 obtain ⟨⟨ca0, cb0⟩, ⟨ca1, cb1⟩, ⟨ca2, cb2⟩, ⟨ca3, cb3⟩, ⟨ca4, cb4⟩⟩ := g.cs
 have c0I : s.c0 ≤ 900000 := by omega
 have c1I : s.c1 ≤ 900000 := by omega
 have c2I : s.c2 ≤ 900000 := by omega
 have c3I : s.c3 ≤ 900000 := by omega
 have c4I : s.c4 ≤ 900000 := by omega
 have HT := Lib.hid ht
 have HG := Lib.hid g
 clear hx hp hq hiv hload hrd hpk hqk ht cb0 cb1 cb2 cb3 cb4 g epa
 go_enter Tryz.func14, Tryz.ntmps14
 go_wp2_with fail
 (with_reducible refine (HHS.out _ h).mono ?_)
 rintro e w1 ⟨rfl, rfl⟩
 go_wp2_with fail
 (with_reducible refine (HPA.out _).mono ?_)
 rintro e w2 ⟨rfl, b2⟩
 have hT2 := h.below b2
 have z2 := b2.size
 obtain ⟨w3, hw3⟩ : ∃ x, w2.alloc (.cells (u8v dst ++ (u8v src ++ [Value.int .i64 ty, .string ⟨body.toArray⟩, .int .i64 vl, .int .i64 prio])).toArray 69) = x := ⟨_, rfl⟩
 obtain ⟨X, hX⟩ : ∃ x, w2.heap.size = x := ⟨_, rfl⟩
 have rX : row w3 X = (u8v dst ++ (u8v src ++ [Value.int .i64 ty, .string ⟨body.toArray⟩, .int .i64 vl, .int .i64 prio])).toArray := by rw [← hw3, ← hX]; exact row_alloc_at _ _ _ rfl
 have b23 : Below w2.heap.size w2 w3 := by rw [← hw3]; exact Below.alloc (Below.refl _ _) (Nat.le_refl _) _
 have z3 : w3.heap.size = X + 1 := by rw [← hw3, ← hX]; exact alloc_sizeW _ _
 have hT3 := hT2.below b23
 have B3 := b2.trans (b23.mono z2)
 have hr3 := hT3.rB
 unfold brRow at hr3
 rw [HEPA.out] at hr3
 have hst3 := HST.out w3 hT3
 have hXw : w1.heap.size ≤ X := by omega
 have hXB : X ≠ A.B := by have := h.ltB; omega
 have hXL : X ≠ A.LM := by have := h.ler.ok.lt; omega
 have hXH : X ≠ A.HM := by have := h.hush.ok.lt; omega
 rw [hX] at z2
 clear b2 b23 hT2 h
 go_wp2_with fail
 (try rw [hX])
 (try clear hw3)
 have hlB3 := hT3.ltB
 have hG : GrowP fun W => Below w1.heap.size w1 W := grow_base w1
 have hload := HLO.out
 refine wp_region_beginX [(A.B, #[.slice (some ⟨pb, po, none⟩) s.ports.length A.pcap, .slice (some ⟨A.SB, 0, none⟩) s.ports.length s.ports.length, .pointer (some ⟨A.LT, 0, none⟩), .pointer (some ⟨A.HT, 0, none⟩), .int .i64 s.c0, .int .i64 s.c1, .int .i64 s.c2, .int .i64 s.c3, .int .i64 s.c4]), (X, (u8v dst ++ (u8v src ++ [Value.int .i64 ty, .string ⟨body.toArray⟩, .int .i64 vl, .int .i64 prio])).toArray)] (fun W => Below w1.heap.size w1 W) hG rfl (by simp only [Rws]; (repeat (first | exact trivial | refine ⟨(by first | assumption | (simp [go_sem, *]; done)), (by first | omega | (simp; done) | (simp; omega)), ?_⟩))) (B3) (fun hS => ?_)
 refine sp 0 hG hS ?_
 refine sp 1 hG hS ?_
 refine sp 2 hG hS ?_
 refine sp 3 hG hS ?_
 refine sp 4 hG hS ?_
 refine sp 5 hG hS ?_
 refine sp 6 hG hS ?_
 refine sp 7 hG hS ?_
 refine sp 8 hG hS ?_
 refine sc 9 (v := ?_) hG hS ?_ ?_
 rotate_left
 ·
  intro w' hS'
  obtain ⟨hS', hX'⟩ := hS'
  simp only [Rws] at hS'
  go_simp
  with_reducible refine (HIN.out _ (BelowS.of hX')).mono ?_
  rintro e w'' ⟨rfl, hb⟩
  exact ⟨_, rfl, by rfl, hb⟩
 refine sp 10 hG hS ?_
 refine sp 11 hG hS ?_
 refine sp 12 hG hS ?_
 refine sp 13 hG hS ?_
 refine sp 14 hG hS ?_
 refine wpAnyR_done (by kernel_rfl) (fun w4 bw4 => ?_) _
 have b34 := below_step (Below.drew (Below.refl _ _)) bw4
 have z4 := b34.size
 have hT4 := hT3.below b34
 have B4 := B3.trans (b34.mono (by omega))
 have rX4 := (row_below b34 (by omega)).trans rX
 have hr4 := hT4.rB
 unfold brRow at hr4
 have zX4 : X < w4.heap.size := by omega
 clear hS hload bw4 b34 hT3 B3 rX hr3 hst3 z3 hX HIN HLO
 by_cases he : er = 0
 case neg =>
  obtain ⟨n, hperr⟩ := HXE.out he
  have hcome : comeS s k l t = ({ s with c0 := s.c0 + 1 }, [], 3) := by unfold comeS; rw [hperr]
  have he1 : (er != 0) = true := by simpa using he
  have HC := Lib.hid hcome
  clear hcome hperr he
  go_wp2_with fail
  go_ret2
  refine ⟨⟨.slice none 0 0, by rw [HC.out]; rfl, by rw [HC.out]; exact OwnL.nil _ _ _ _⟩, (BelowS.of B4).trans (BelowS.set w4 _ (by simp [BrA.muts])), by rw [HC.out]; exact hT4.setB (s.c0 + 1) s.c1 s.c2 s.c3 s.c4 _ rfl⟩
 subst he
 have hpok := HXG.out rfl
 obtain ⟨hp0, hp7, hbl⟩ := ethParse_prio hpok
 have htk := HT.out _ hpok
 dsimp only at hp0 hp7 hbl htk
 have hcome : comeS s k l t = comeD s k ⟨dst, src, ty, body, vl, prio⟩ t := by unfold comeS; rw [hpok]
 unfold comeD at hcome
 simp only [HPK.out, HQK.out, HIV.out] at hcome
 have HTK := Lib.hid htk
 clear hpok htk HXE HXG HT HPA
 obtain ⟨gs, hgs⟩ : ∃ x, grp src = x := ⟨_, rfl⟩
 rw [hgs] at hcome HGR
 cases gs with
 | true =>
  simp only [if_true] at hcome
  have HC := Lib.hid hcome
  clear hcome
  go_wp2_with fail
  (with_reducible refine (HGR.out _).mono ?_)
  rintro e w5 ⟨rfl, b5⟩
  have hT5 := hT4.below b5
  have B5 := B4.trans (b5.mono (by omega))
  have hr5 := hT5.rB
  unfold brRow at hr5
  clear hT4 hr4
  go_wp2_with fail
  go_ret2
  refine ⟨⟨.slice none 0 0, by rw [HC.out]; rfl, by rw [HC.out]; exact OwnL.nil _ _ _ _⟩, (BelowS.of B5).trans (BelowS.set w5 _ (by simp [BrA.muts])), by rw [HC.out]; exact hT5.setB (s.c0 + 1) s.c1 s.c2 s.c3 s.c4 _ rfl⟩
 | false =>
  simp only [Bool.false_eq_true, if_false] at hcome
  have HC0 := Lib.hid hcome
  have HGS := Lib.hid hgs
  clear hcome hgs
  go_wp2_with fail
  (with_reducible refine (HGR.out _).mono ?_)
  rintro e w5 ⟨rfl, b5⟩
  have hT5 := hT4.below b5
  have z5 := b5.size
  have B5 := B4.trans (b5.mono (by omega))
  have rX5 := (row_below b5 zX4).trans rX4
  have zX5 : X < w5.heap.size := by omega
  have hr5 := hT5.rB
  unfold brRow at hr5
  clear hT4 hr4 rX4 b5 B4 z5 zX4 z4
  go_wp2_with fail
  refine wp_region_beginR [(X, (u8v dst ++ (u8v src ++ [Value.int .i64 ty, .string ⟨body.toArray⟩, .int .i64 vl, .int .i64 prio])).toArray)] rfl (by simp only [Rws]; (repeat (first | exact trivial | refine ⟨(by first | assumption | (simp [go_sem, *]; done)), (by first | omega | (simp; done) | (simp; omega)), ?_⟩))) (fun hS => ?_)
  refine qp 0 hS ?_
  refine qp 1 hS ?_
  refine qp 2 hS ?_
  refine qc 3 (v := ?_) hS ?_ ?_
  rotate_left
  ·
   intro w' hS'
   simp only [Rws] at hS'
   go_simp
   with_reducible refine (HTO.out _).mono ?_
   rintro e w'' ⟨rfl, hb⟩
   exact ⟨_, rfl, by rfl, hb⟩
  refine qp 4 hS ?_
  refine qp 5 hS ?_
  refine wpAnyR_done (by kernel_rfl) (fun w6 b6 => ?_) _
  replace b6 : Below (w5).heap.size (w5) w6 := below_step (Below.drew (Below.refl _ _)) b6
  have hT6 := hT5.below b6
  have z6 := b6.size
  have B6 := B5.trans (b6.mono (by omega))
  have rX6 := (row_below b6 zX5).trans rX5
  have zX6 : X < w6.heap.size := by omega
  have hr6 := hT6.rB
  unfold brRow at hr6
  clear hT5 hr5 rX5 b6 B5 z6 zX5 HTO HGR
  obtain ⟨dq, hdq⟩ : ∃ x, (dst == bpduTo) = x := ⟨_, rfl⟩
  have hC1 := HC0.out
  rw [hdq] at hC1 ⊢
  cases dq with
  | true =>
   simp only [if_true] at hC1
   have HC := Lib.hid hC1
   clear hC1 hdq HC0
   go_wp2_with fail
   go_ret2
   refine ⟨⟨.slice none 0 0, by rw [HC.out]; rfl, by rw [HC.out]; exact OwnL.nil _ _ _ _⟩, (BelowS.of B6).trans (BelowS.set w6 _ (by simp [BrA.muts])), by rw [HC.out]; exact hT6.setB s.c0 (s.c1 + 1) s.c2 s.c3 s.c4 _ rfl⟩
  | false =>
   simp only [Bool.false_eq_true, if_false] at hC1
   have HC1 := Lib.hid hC1
   clear hC1 hdq HC0
   by_cases hstop : q < 2 ∨ iv2 ≠ 0
   ·
    have hC2 := HC1.out
    rw [if_pos (by rcases hstop with hs | hs <;> simp [hs])] at hC2
    have HC := Lib.hid hC2
    clear hC2 HC1
    by_cases hq2 : q < 2
    ·
     clear hstop
     go_wp2_with fail
     go_ret2
     refine ⟨⟨.slice none 0 0, by rw [HC.out]; rfl, by rw [HC.out]; exact OwnL.nil _ _ _ _⟩, (BelowS.of B6).trans (BelowS.set w6 _ (by simp [BrA.muts])), by rw [HC.out]; exact hT6.setB s.c0 s.c1 (s.c2 + 1) s.c3 s.c4 _ rfl⟩
    ·
     have hi2 : (iv2 != 0) = true := by
      rcases hstop with hs | hs
      ·
       exact absurd hs hq2
      ·
       simpa using hs
     clear hstop
     go_wp2_with fail
     go_ret2
     refine ⟨⟨.slice none 0 0, by rw [HC.out]; rfl, by rw [HC.out]; exact OwnL.nil _ _ _ _⟩, (BelowS.of B6).trans (BelowS.set w6 _ (by simp [BrA.muts])), by rw [HC.out]; exact hT6.setB s.c0 s.c1 (s.c2 + 1) s.c3 s.c4 _ rfl⟩
   ·
    have hq2 : ¬ q < 2 := fun hc => hstop (.inl hc)
    have hi0 : iv2 = 0 := Classical.byContradiction fun hc => hstop (.inr hc)
    have hC2 := HC1.out
    rw [if_neg (by simp [hq2, hi0]; try omega)] at hC2
    have HC2 := Lib.hid hC2
    clear hC2 HC1 hstop
    subst hi0
    have hmem : memberP p.native p.tagged iv1 = true ∧ 1 ≤ iv1 ∧ iv1 ≤ 4094 := inP_ok HIV.out
    obtain ⟨hm, hv1, hv2⟩ := hmem
    have HM := Lib.hid hm
    clear hm
    have HLE := Lib.hid (fun W (hW : BrT W A s) => lLearn_any W iv1 src k (lims := s.ports.map (·.lim)) (by rw [List.length_map]; exact hW.ler) hW.ne.2.2.2.2.2.2.2.2.2.1 (show IntsAt W A.la (s.ports.map (·.lim)) from hW.lims.elems) HG.out.std (Nat.le_trans HG.out.stn (by omega)) hv1 hv2 HGS.out (by rw [List.length_map]; exact hk) (by rw [List.length_map]; omega))
    have hlim : (s.ports.map (·.lim))[k]'(by rw [List.length_map]; exact hk) = p.lim := by
     rw [List.getElem_map, ← HPK.out]
     unfold BrS.port
     rw [List.getD_eq_getElem?_getD, List.getElem?_eq_getElem hk]
     rfl
    rw [hlim] at HLE
    simp only [List.length_map] at HLE
    obtain ⟨st', hst'⟩ : ∃ x, hearL p.lim iv1 src k s.st = x := ⟨_, rfl⟩
    have hC3 := HC2.out
    rw [hst'] at HLE hC3
    have HC3 := Lib.hid hC3
    have HSTE := Lib.hid hst'
    clear hlim hst' hC3 HC2
    have hq2b : ¬ q < 2 := hq2
    have hlB6 := hT6.ltB
    go_wp2_with fail
    refine wp_region_beginR [(A.B, #[.slice A.pa s.ports.length A.pcap, .slice (some ⟨A.SB, 0, none⟩) s.ports.length s.ports.length, .pointer (some ⟨A.LT, 0, none⟩), .pointer (some ⟨A.HT, 0, none⟩), .int .i64 s.c0, .int .i64 s.c1, .int .i64 s.c2, .int .i64 s.c3, .int .i64 s.c4]), (X, (u8v dst ++ (u8v src ++ [Value.int .i64 ty, .string ⟨body.toArray⟩, .int .i64 vl, .int .i64 prio])).toArray)] rfl (by simp only [Rws]; (repeat (first | exact trivial | refine ⟨(by first | assumption | (simp [go_sem, *]; done)), (by first | omega | (simp; done) | (simp; omega)), ?_⟩))) (fun hS => ?_)
    refine qp 0 hS ?_
    refine qp 1 hS ?_
    refine qp 2 hS ?_
    refine qp 3 hS ?_
    refine qp 4 hS ?_
    refine qp 5 hS ?_
    refine qp 6 hS ?_
    refine qp 7 hS ?_
    refine qp 8 hS ?_
    refine wpAnyR_all (rs := [9]) (by kernel_rfl) (by simp) (Rws.grow _) hS (fun u9 hu9 hSW => ?_)
    intro i hi
    obtain rfl := List.mem_singleton.1 hi
    refine wpOp_step rfl (fun K hK => ?_)
    simp only [Rws] at hSW
    clear hi hS
    go_simp
    replace hu9 : Below w6.heap.size w6 u9 := below_step (Below.drew (Below.refl _ _)) hu9
    have zu9 := hu9.size
    have hTu := hT6.below hu9
    (with_reducible refine (HLE.out _ hTu).mono ?_)
    rintro e w7 ⟨⟨ne, rfl⟩, b7, t7⟩
    have z7 := b7.size
    have l7 := hTu.lts
    have n7 := hTu.ne
    have hT7 := hTu.setL b7 t7
    have BS7 : BelowS w1.heap.size A.muts w1 w7 := (BelowS.of (B6.trans (hu9.mono B6.size))).trans ((BelowS.one b7 (by simp [BrA.muts])).mono (Nat.le_trans B6.size hu9.size))
    have rX7 : row w7 X = (u8v dst ++ (u8v src ++ [Value.int .i64 ty, .string ⟨body.toArray⟩, .int .i64 vl, .int .i64 prio])).toArray := (row_of_block (b7.block X (by omega) hXL)).trans ((row_below hu9 zX6).trans rX6)
    have rB7 := hT7.rB
    unfold brRow at rB7
    dsimp only at rB7
    refine hK _ _ ⟨⟨rB7, by omega, rX7, by omega, trivial⟩, ?_⟩
    clear hK K hSW b7 t7 hu9 hTu hT6 hr6 rX6 B6 HLE
    refine wpAnyR_done (by kernel_rfl) (fun w8 b8 => ?_) _
    have z8 := b8.size
    have hT8 := hT7.below b8
    have BS8 := BS7.trans (BelowS.of (b8.mono BS7.size))
    have rX8 := (row_below b8 (by omega)).trans rX7
    have rB8 := (row_below b8 (by omega)).trans rB7
    have zX8 : X < w8.heap.size := by omega
    clear b8 hT7 BS7 rX7 rB7
    by_cases hq3 : q < 3
    ·
     have hC4 := HC3.out
     rw [if_pos hq3] at hC4
     have HC := Lib.hid hC4
     clear hC4 HC3
     go_wp2_with fail
     go_ret2
     refine ⟨⟨.slice none 0 0, by rw [HC.out]; rfl, by rw [HC.out]; exact OwnL.nil _ _ _ _⟩, BS8.trans (BelowS.set w8 _ (by simp [BrA.muts])), by rw [HC.out]; exact hT8.setB s.c0 s.c1 (s.c2 + 1) s.c3 s.c4 _ rfl⟩
    ·
     have hC4 := HC3.out
     rw [if_neg hq3] at hC4
     have HC4 := Lib.hid hC4
     clear hC4 HC3
     have hTM : A.HT ≠ A.HM := hT8.ne.2.2.2.2.2.2.2.2.2.2.2.2.2.2
     have HHL := Lib.hid (fun W (hW : BrT W A { s with st := st' }) => learn_both dst src ty body t.ip t.mac t.ok iv1 W hW.hush hTM HTK.out.ann)
     obtain ⟨bi', hbi'⟩ : ∃ x, learnH iv1 t.ip t.mac t.ok s.bi = x := ⟨_, rfl⟩
     have hC5 := HC4.out
     dsimp only at HHL
     rw [hbi'] at HHL hC5
     unfold frameV at HHL
     have hlB8 := hT8.ltB
     have HC5 := Lib.hid hC5
     have HBI := Lib.hid hbi'
     clear hC5 HC4 hbi'
     go_wp2_with fail
     refine wp_region_beginR [(A.B, #[.slice A.pa s.ports.length A.pcap, .slice (some ⟨A.SB, 0, none⟩) s.ports.length s.ports.length, .pointer (some ⟨A.LT, 0, none⟩), .pointer (some ⟨A.HT, 0, none⟩), .int .i64 s.c0, .int .i64 s.c1, .int .i64 s.c2, .int .i64 s.c3, .int .i64 s.c4]), (X, (u8v dst ++ (u8v src ++ [Value.int .i64 ty, .string ⟨body.toArray⟩, .int .i64 vl, .int .i64 prio])).toArray)] rfl (by simp only [Rws]; (repeat (first | exact trivial | refine ⟨(by first | assumption | (simp [go_sem, *]; done)), (by first | omega | (simp; done) | (simp; omega)), ?_⟩))) (fun hS => ?_)
     refine qp 0 hS ?_
     refine qp 1 hS ?_
     refine qp 2 hS ?_
     refine qp 3 hS ?_
     refine qp 4 hS ?_
     refine qp 5 hS ?_
     refine qp 6 hS ?_
     refine wpAnyR_all (rs := [7]) (by kernel_rfl) (by simp) (Rws.grow _) hS (fun u9 hu9 hSW => ?_)
     intro i hi
     obtain rfl := List.mem_singleton.1 hi
     refine wpOp_step rfl (fun K hK => ?_)
     simp only [Rws] at hSW
     clear hi hS
     go_simp
     replace hu9 : Below w8.heap.size w8 u9 := below_step (Below.drew (Below.refl _ _)) hu9
     have zu9 := hu9.size
     have hTu := hT8.below hu9
     (with_reducible refine (HHL.out _ hTu).mono ?_)
     rintro e w9 ⟨rfl, b9, t9⟩
     have z9 := b9.size
     have l9 := hTu.lts
     have hT9 := hTu.setH b9 t9
     have BS9 : BelowS w1.heap.size A.muts w1 w9 := BS8.trans ((BelowS.of (hu9.mono BS8.size)).trans ((BelowS.one b9 (by simp [BrA.muts])).mono (Nat.le_trans BS8.size hu9.size)))
     have rX9 : row w9 X = (u8v dst ++ (u8v src ++ [Value.int .i64 ty, .string ⟨body.toArray⟩, .int .i64 vl, .int .i64 prio])).toArray := (row_of_block (b9.block X (by omega) hXH)).trans ((row_below hu9 zX8).trans rX8)
     have rB9 := hT9.rB
     unfold brRow at rB9
     dsimp only at rB9
     refine hK _ _ ⟨⟨rB9, by omega, rX9, by omega, trivial⟩, ?_⟩
     clear hK K hSW b9 t9 hu9 hTu hT8 rB8 rX8 BS8 HHL
     refine wpAnyR_done (by kernel_rfl) (fun w10 b10 => ?_) _
     have z10 := b10.size
     have hT10 := hT9.below b10
     have BS10 := BS9.trans (BelowS.of (b10.mono BS9.size))
     have rX10 := (row_below b10 (by omega)).trans rX9
     have rB10 := (row_below b10 (by omega)).trans rB9
     have zX10 : X < w10.heap.size := by omega
     clear b10 hT9 BS9 rX9 rB9
     have hask : ∃ (fr : List Value) (b : Bool), (∀ W, BrT W A { s with st := st', bi := bi' } → AnsC (some ⟨A.HT, 0, none⟩) iv1 dst src ty body W fr b) ∧
       ((b = false ∧ fr = zeroFr ∧ askS iv1 t bi' = none) ∨ ∃ c ans, b = true ∧ fr = frameV src c.mac ty (ans c.mac) ∧ askS iv1 t bi' = some (c, ans)) := ask_any HTK.out iv1
     obtain ⟨fr, bb, hA, hfr⟩ := hask
     have HA := Lib.hid hA
     have hC6 := HC5.out
     rcases hfr with ⟨rfl, rfl, e3⟩ | ⟨c, ans, rfl, rfl, e3⟩
     ·
      rw [e3] at hC6
      dsimp only at hC6
      have HC := Lib.hid hC6
      clear hC6 hA HC5 e3
      unfold AnsC zeroFr at HA
      unfold frameV at HA
      have hlB10 := hT10.ltB
      have hGX : GrowP fun W => BrT W A { s with st := st', bi := bi' } := grow_br A _
      go_wp2_with fail
      have hG := hGX
      refine wp_region_beginX [(A.B, #[.slice A.pa s.ports.length A.pcap, .slice (some ⟨A.SB, 0, none⟩) s.ports.length s.ports.length, .pointer (some ⟨A.LT, 0, none⟩), .pointer (some ⟨A.HT, 0, none⟩), .int .i64 s.c0, .int .i64 s.c1, .int .i64 s.c2, .int .i64 s.c3, .int .i64 s.c4]), (X, (u8v dst ++ (u8v src ++ [Value.int .i64 ty, .string ⟨body.toArray⟩, .int .i64 vl, .int .i64 prio])).toArray)] (fun W => BrT W A { s with st := st', bi := bi' }) hG rfl (by simp only [Rws]; (repeat (first | exact trivial | refine ⟨(by first | assumption | (simp [go_sem, *]; done)), (by first | omega | (simp; done) | (simp; omega)), ?_⟩))) (hT10) (fun hS => ?_)
      refine sp 0 hG hS ?_
      refine sp 1 hG hS ?_
      refine sp 2 hG hS ?_
      refine sp 3 hG hS ?_
      refine sp 4 hG hS ?_
      refine sp 5 hG hS ?_
      refine sp 6 hG hS ?_
      refine sc 7 (v := ?_) hG hS ?_ ?_
      rotate_left
      ·
       intro w' hS'
       obtain ⟨hS', hX'⟩ := hS'
       simp only [Rws] at hS'
       go_simp
       with_reducible refine (HA.out _ hX').mono ?_
       rintro e w'' ⟨rfl, hb⟩
       exact ⟨_, rfl, by rfl, hb⟩
      refine sp 8 hG hS ?_
      refine sp 9 hG hS ?_
      refine sp 10 hG hS ?_
      refine wpAnyS_var (XS.grow hG) (i := 11) (k := 12) (zi := (u8v mac0 ++ (u8v mac0 ++ [Value.int .i64 0, Value.string ⟨#[]⟩])).toArray) (cA := (u8v mac0 ++ (u8v mac0 ++ [Value.int .i64 0, Value.string ⟨#[]⟩])).toArray) (by simp only [List.getElem?_toArray, List.getElem?_cons_succ, List.getElem?_cons_zero]; rfl) (by simp only [List.getElem?_toArray, List.getElem?_cons_succ, List.getElem?_cons_zero]; rfl) ⟨rfl, rfl, fun a w => by go_simp; (refine ⟨?_, ?_⟩ <;> rfl)⟩ (by kernel_rfl) (by kernel_rfl) rfl rfl (by simp [*]) (by simp) (fun A w1 hr => by
       simp only [Act.put, List.setIfInBounds_toArray, List.set_cons_zero, List.set_cons_succ, ptr]
       go_simp
       try rfl) hS (fun Y w11 gY zY bw11 rY hS => ?_)
      (try simp only [Act.put, List.setIfInBounds_toArray, List.set_cons_zero, List.set_cons_succ])
      simp only [ptr]
      refine sp 13 hG hS ?_
      refine wpAnyR_done (by kernel_rfl) (fun w12 bw12 => ?_) _
      have b11 := below_step (Below.drew (Below.refl _ _)) bw11
      have b12 := b11.trans (bw12.mono b11.size)
      have z12 := b12.size
      have hT12 := hT10.below b12
      have BS12 := BS10.trans (BelowS.of (b12.mono BS10.size))
      have rX12 := (row_below b12 zX10).trans rX10
      have rB12 := (row_below b12 (by have := hT10.ltB; omega)).trans rB10
      clear hS b11 b12 bw11 bw12 hT10 BS10 rX10 rB10 rY HA
      have HRL := Lib.hid (fun W (hW : BrT W A { s with st := st', bi := bi', c3 := s.c3 + 1 }) => rRelayed_any W hW k hk iv1 dst src ty body vl prio hn (hear_ports HG.out HSTE.out hk) hp0 hp7)
      unfold ethV at HRL
      have hE := hT12.setB s.c0 s.c1 s.c2 (s.c3 + 1) s.c4 _ rfl
      unfold brRow at hE
      dsimp only at hE
      have HE := Lib.hid hE
      clear hE
      have BS13 := BS12.trans (BelowS.set (B := w1.heap.size) w12 (brRow A { s with st := st', bi := bi', c3 := s.c3 + 1 }) (b := A.B) (by simp [BrA.muts]))
      unfold brRow at BS13
      dsimp only at BS13
      have HBS := Lib.hid BS13
      clear BS13
      go_wp2_with fail
      (with_reducible refine (HRL.out _ HE.out).mono ?_)
      rintro e w14 ⟨⟨u, rfl, hown⟩, b14⟩
      have HO := Lib.hid hown
      have hT14 := HE.out.below b14
      have BS14 := HBS.out.trans (BelowS.of (b14.mono HBS.out.size))
      have HT14 := Lib.hid hT14
      clear hown hT14
      go_wp2_with fail
      go_ret2
      refine ⟨⟨u, by rw [HC.out]; rfl, ?_⟩, BS14, by rw [HC.out]; exact HT14.out⟩
      rw [HC.out]
      exact HO.out.lower (by have := HBS.out.size; omega)
     ·
      rw [e3] at hC6
      dsimp only at hC6
      have HC := Lib.hid hC6
      clear hC6 hA HC5 e3
      unfold AnsC at HA
      unfold frameV at HA
      have hlB10 := hT10.ltB
      have hGX : GrowP fun W => BrT W A { s with st := st', bi := bi' } := grow_br A _
      go_wp2_with fail
      have hG := hGX
      refine wp_region_beginX [(A.B, #[.slice A.pa s.ports.length A.pcap, .slice (some ⟨A.SB, 0, none⟩) s.ports.length s.ports.length, .pointer (some ⟨A.LT, 0, none⟩), .pointer (some ⟨A.HT, 0, none⟩), .int .i64 s.c0, .int .i64 s.c1, .int .i64 s.c2, .int .i64 s.c3, .int .i64 s.c4]), (X, (u8v dst ++ (u8v src ++ [Value.int .i64 ty, .string ⟨body.toArray⟩, .int .i64 vl, .int .i64 prio])).toArray)] (fun W => BrT W A { s with st := st', bi := bi' }) hG rfl (by simp only [Rws]; (repeat (first | exact trivial | refine ⟨(by first | assumption | (simp [go_sem, *]; done)), (by first | omega | (simp; done) | (simp; omega)), ?_⟩))) (hT10) (fun hS => ?_)
      refine sp 0 hG hS ?_
      refine sp 1 hG hS ?_
      refine sp 2 hG hS ?_
      refine sp 3 hG hS ?_
      refine sp 4 hG hS ?_
      refine sp 5 hG hS ?_
      refine sp 6 hG hS ?_
      refine sc 7 (v := ?_) hG hS ?_ ?_
      rotate_left
      ·
       intro w' hS'
       obtain ⟨hS', hX'⟩ := hS'
       simp only [Rws] at hS'
       go_simp
       with_reducible refine (HA.out _ hX').mono ?_
       rintro e w'' ⟨rfl, hb⟩
       exact ⟨_, rfl, by rfl, hb⟩
      refine sp 8 hG hS ?_
      refine sp 9 hG hS ?_
      refine sp 10 hG hS ?_
      refine wpAnyS_var (XS.grow hG) (i := 11) (k := 12) (zi := (u8v mac0 ++ (u8v mac0 ++ [Value.int .i64 0, Value.string ⟨#[]⟩])).toArray) (cA := (u8v src ++ (u8v c.mac ++ [Value.int .i64 ty, Value.string ⟨(ans c.mac).toArray⟩])).toArray) (by simp only [List.getElem?_toArray, List.getElem?_cons_succ, List.getElem?_cons_zero]; rfl) (by simp only [List.getElem?_toArray, List.getElem?_cons_succ, List.getElem?_cons_zero]; rfl) ⟨rfl, rfl, fun a w => by go_simp; (refine ⟨?_, ?_⟩ <;> rfl)⟩ (by kernel_rfl) (by kernel_rfl) rfl rfl (by simp [*]) (by simp) (fun A w1 hr => by
       simp only [Act.put, List.setIfInBounds_toArray, List.set_cons_zero, List.set_cons_succ, ptr]
       go_simp
       try rfl) hS (fun Y w11 gY zY bw11 rY hS => ?_)
      (try simp only [Act.put, List.setIfInBounds_toArray, List.set_cons_zero, List.set_cons_succ])
      simp only [ptr]
      refine sp 13 hG hS ?_
      refine wpAnyR_done (by kernel_rfl) (fun w12 bw12 => ?_) _
      have b11 := below_step (Below.drew (Below.refl _ _)) bw11
      have b12 := b11.trans (bw12.mono b11.size)
      have z12 := b12.size
      have hT12 := hT10.below b12
      have BS12 := BS10.trans (BelowS.of (b12.mono BS10.size))
      have rX12 := (row_below b12 zX10).trans rX10
      have rB12 := (row_below b12 (by have := hT10.ltB; omega)).trans rB10
      have rY12 := (row_below bw12 (by omega)).trans rY
      have gY2 : w10.heap.size ≤ Y := gY
      have hYX : Y ≠ X := by omega
      have hYB : Y ≠ A.B := by have := hT10.ltB; omega
      clear hS b11 b12 bw11 bw12 hT10 BS10 rX10 rB10 rY HA
      have hgj : s.ports[k] = p := by
       have := HPK.out
       unfold BrS.port at this
       rw [List.getD_eq_getElem?_getD, List.getElem?_eq_getElem hk] at this
       exact this
      have HPR := Lib.hid (fun W (hW : BrT W A { s with st := st', bi := bi', c4 := s.c4 + 1 }) => rPrinted_any W hW k hk iv1 src c.mac ty (ans c.mac) prio hn (by show memberP s.ports[k].native s.ports[k].tagged iv1 = true; rw [hgj]; exact HM.out) hp0 hp7)
      dsimp only at HPR
      rw [hgj] at HPR
      unfold frameV at HPR
      clear hgj
      have hE := hT12.setB s.c0 s.c1 s.c2 s.c3 (s.c4 + 1) _ rfl
      unfold brRow at hE
      dsimp only at hE
      have HE := Lib.hid hE
      clear hE
      have BS13 := BS12.trans (BelowS.set (B := w1.heap.size) w12 (brRow A { s with st := st', bi := bi', c4 := s.c4 + 1 }) (b := A.B) (by simp [BrA.muts]))
      unfold brRow at BS13
      dsimp only at BS13
      have HBS := Lib.hid BS13
      clear BS13
      go_wp2_with fail
      (with_reducible refine (HPR.out _ HE.out).mono ?_)
      rintro e w14 ⟨⟨u, rfl, hown⟩, b14⟩
      have HO := Lib.hid hown
      have hT14 := HE.out.below b14
      have BS14 := HBS.out.trans (BelowS.of (b14.mono HBS.out.size))
      have HT14 := Lib.hid hT14
      clear hown hT14
      go_wp2_with fail
      go_ret2
      refine ⟨⟨u, by rw [HC.out]; rfl, ?_⟩, BS14, by rw [HC.out]; exact HT14.out⟩
      rw [HC.out]
      exact HO.out.lower (by have := HBS.out.size; omega)
end
end
end Go.Proofs.YtckckabedgpbiaaGreat
