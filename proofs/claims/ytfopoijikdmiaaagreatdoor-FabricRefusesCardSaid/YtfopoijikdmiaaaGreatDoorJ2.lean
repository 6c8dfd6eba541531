/- Texts of this proof, merged: Agg, Eql, Cmp, Bld. -/
import Derived.Test.YtfopoijikdmiaaaGreatDoorRows
import Derived.Test.YtfopoijikdmiaaaGreatDoorMemJ
import Derived.Laws.StructEq
set_option maxHeartbeats 8000000
set_option maxRecDepth 20000
set_option linter.unusedSimpArgs false
set_option linter.unusedVariables false
namespace Go.Proofs.YtfopoijikdmiaaaGreatDoor
section
instance Tryz.agg24 : AggOf Tryz.prog 24 4 := ⟨⟨_, Tryz.underlying24, rfl⟩, by kernel_rfl, by decide⟩
instance Tryz.agg26 : AggOf Tryz.prog 26 8 := ⟨⟨_, Tryz.underlying26, rfl⟩, by kernel_rfl, by decide⟩
instance Tryz.agg46 : AggOf Tryz.prog 46 4 := ⟨⟨_, Tryz.underlying46, rfl⟩, by kernel_rfl, by decide⟩
instance Tryz.agg48 : AggOf Tryz.prog 48 8 := ⟨⟨_, Tryz.underlying48, rfl⟩, by kernel_rfl, by decide⟩
instance Tryz.agg51 : AggOf Tryz.prog 51 8 := ⟨⟨_, Tryz.underlying51, rfl⟩, by kernel_rfl, by decide⟩
instance Tryz.agg54 : AggOf Tryz.prog 54 13 := ⟨⟨_, Tryz.underlying54, rfl⟩, by kernel_rfl, by decide⟩
instance Tryz.agg56 : AggOf Tryz.prog 56 32 := ⟨⟨_, Tryz.underlying56, rfl⟩, by kernel_rfl, by decide⟩
instance Tryz.agg58 : AggOf Tryz.prog 58 39 := ⟨⟨_, Tryz.underlying58, rfl⟩, by kernel_rfl, by decide⟩
instance Tryz.agg84 : AggOf Tryz.prog 84 2 := ⟨⟨_, Tryz.underlying84, rfl⟩, by kernel_rfl, by decide⟩
instance Tryz.agg90 : AggOf Tryz.prog 90 32 := ⟨⟨_, Tryz.underlying90, rfl⟩, by kernel_rfl, by decide⟩
instance Tryz.agg101 : AggOf Tryz.prog 101 8 := ⟨⟨_, Tryz.underlying101, rfl⟩, by kernel_rfl, by decide⟩
instance Tryz.agg103 : AggOf Tryz.prog 103 3 := ⟨⟨_, Tryz.underlying103, rfl⟩, by kernel_rfl, by decide⟩
instance Tryz.agg106 : AggOf Tryz.prog 106 13 := ⟨⟨_, Tryz.underlying106, rfl⟩, by kernel_rfl, by decide⟩
instance Tryz.agg109 : AggOf Tryz.prog 109 4 := ⟨⟨_, Tryz.underlying109, rfl⟩, by kernel_rfl, by decide⟩
instance Tryz.agg111 : AggOf Tryz.prog 111 3 := ⟨⟨_, Tryz.underlying111, rfl⟩, by kernel_rfl, by decide⟩
instance Tryz.agg114 : AggOf Tryz.prog 114 6 := ⟨⟨_, Tryz.underlying114, rfl⟩, by kernel_rfl, by decide⟩
instance Tryz.agg133 : AggOf Tryz.prog 133 2 := ⟨⟨_, Tryz.underlying133, rfl⟩, by kernel_rfl, by decide⟩
instance Tryz.agg135 : AggOf Tryz.prog 135 4 := ⟨⟨_, Tryz.underlying135, rfl⟩, by kernel_rfl, by decide⟩
instance Tryz.agg137 : AggOf Tryz.prog 137 39 := ⟨⟨_, Tryz.underlying137, rfl⟩, by kernel_rfl, by decide⟩
instance Tryz.agg139 : AggOf Tryz.prog 139 2 := ⟨⟨_, Tryz.underlying139, rfl⟩, by kernel_rfl, by decide⟩
instance Tryz.agg179 : AggOf Tryz.prog 179 5 := ⟨⟨_, Tryz.underlying179, rfl⟩, by kernel_rfl, by decide⟩
instance Tryz.agg191 : AggOf Tryz.prog 191 14 := ⟨⟨_, Tryz.underlying191, rfl⟩, by kernel_rfl, by decide⟩
instance Tryz.agg193 : AggOf Tryz.prog 193 16 := ⟨⟨_, Tryz.underlying193, rfl⟩, by kernel_rfl, by decide⟩
instance Tryz.agg197 : AggOf Tryz.prog 197 18 := ⟨⟨_, Tryz.underlying197, rfl⟩, by kernel_rfl, by decide⟩
instance Tryz.agg216 : AggOf Tryz.prog 216 2 := ⟨⟨_, Tryz.underlying216, rfl⟩, by kernel_rfl, by decide⟩
instance Tryz.agg270 : AggOf Tryz.prog 270 7 := ⟨⟨_, Tryz.underlying270, rfl⟩, by kernel_rfl, by decide⟩
instance Tryz.agg272 : AggOf Tryz.prog 272 3 := ⟨⟨_, Tryz.underlying272, rfl⟩, by kernel_rfl, by decide⟩
instance Tryz.agg279 : AggOf Tryz.prog 279 2 := ⟨⟨_, Tryz.underlying279, rfl⟩, by kernel_rfl, by decide⟩
instance Tryz.agg281 : AggOf Tryz.prog 281 7 := ⟨⟨_, Tryz.underlying281, rfl⟩, by kernel_rfl, by decide⟩
instance Tryz.agg353 : AggOf Tryz.prog 353 7 := ⟨⟨_, Tryz.underlying353, rfl⟩, by kernel_rfl, by decide⟩
instance Tryz.agg357 : AggOf Tryz.prog 357 4 := ⟨⟨_, Tryz.underlying357, rfl⟩, by kernel_rfl, by decide⟩
instance Tryz.agg359 : AggOf Tryz.prog 359 21 := ⟨⟨_, Tryz.underlying359, rfl⟩, by kernel_rfl, by decide⟩
instance Tryz.agg365 : AggOf Tryz.prog 365 16 := ⟨⟨_, Tryz.underlying365, rfl⟩, by kernel_rfl, by decide⟩
instance Tryz.agg367 : AggOf Tryz.prog 367 60 := ⟨⟨_, Tryz.underlying367, rfl⟩, by kernel_rfl, by decide⟩
instance Tryz.build24 : BuildOf Tryz.prog 24 [(0, 1), (1, 1), (2, 1), (3, 1)] (zeros 4 (.int .i64 0)) := buildOf_array (size := 1) Tryz.underlying24 (fun _ => by kernel_rfl) (fun _ => by kernel_rfl) rfl
instance Tryz.build26 : BuildOf Tryz.prog 26 [(0, 1), (1, 1), (2, 4), (6, 1), (7, 1)] (zeros 2 (.slice none 0 0) ++ (zeros 5 (.int .i64 0) ++ ((.string ⟨#[]⟩) :: []))) := buildOf_struct Tryz.underlying26 (fun _ => by kernel_rfl) (fun _ => by kernel_rfl)
instance Tryz.build46 : BuildOf Tryz.prog 46 [(0, 1), (1, 1), (2, 1), (3, 1)] (zeros 4 (.int .i64 0)) := buildOf_struct Tryz.underlying46 (fun _ => by kernel_rfl) (fun _ => by kernel_rfl)
instance Tryz.build48 : BuildOf Tryz.prog 48 [(0, 1), (1, 1), (2, 4), (6, 1), (7, 1)] (zeros 2 (.slice none 0 0) ++ (zeros 5 (.int .i64 0) ++ ((.string ⟨#[]⟩) :: []))) := buildOf_struct Tryz.underlying48 (fun _ => by kernel_rfl) (fun _ => by kernel_rfl)
instance Tryz.build54 : BuildOf Tryz.prog 54 [(0, 8), (8, 1), (9, 1), (10, 1), (11, 1), (12, 1)] (zeros 8 (.int .u8 0) ++ (zeros 4 (.int .i64 0) ++ ((.slice none 0 0) :: []))) := buildOf_struct Tryz.underlying54 (fun _ => by kernel_rfl) (fun _ => by kernel_rfl)
instance Tryz.build58 : BuildOf Tryz.prog 58 [(0, 1), (1, 1), (2, 1), (3, 1), (4, 1), (5, 1), (6, 1), (7, 32)] ((.int .i64 0) :: ((.slice none 0 0) :: (zeros 2 (.int .i64 0) ++ ((.bool false) :: ((.int .i64 0) :: ((.bool false) :: (zeros 32 (.int .u8 0)))))))) := buildOf_struct Tryz.underlying58 (fun _ => by kernel_rfl) (fun _ => by kernel_rfl)
instance Tryz.build61 : BuildOf Tryz.prog 61 [(0, 1), (1, 1), (2, 1)] (zeros 2 (.int .i64 0) ++ ((.string ⟨#[]⟩) :: [])) := buildOf_struct Tryz.underlying61 (fun _ => by kernel_rfl) (fun _ => by kernel_rfl)
instance Tryz.build71 : BuildOf Tryz.prog 71 [(0, 8), (8, 1), (9, 1), (10, 1), (11, 1), (12, 1), (13, 1)] (zeros 2 (.slice none 0 0) ++ (zeros 5 (.int .i64 0) ++ ((.string ⟨#[]⟩) :: ((.slice none 0 0) :: ((.map none) :: (zeros 3 (.slice none 0 0) ++ (.nilFunc :: []))))))) := buildOf_struct Tryz.underlying71 (fun _ => by kernel_rfl) (fun _ => by kernel_rfl)
instance Tryz.build84 : BuildOf Tryz.prog 84 [(0, 1), (1, 1)] (zeros 2 (.int .i64 0)) := buildOf_struct Tryz.underlying84 (fun _ => by kernel_rfl) (fun _ => by kernel_rfl)
instance Tryz.build90 : BuildOf Tryz.prog 90 [(0, 1), (1, 1), (2, 1), (3, 1), (4, 1), (5, 1), (6, 1), (7, 1), (8, 1), (9, 1), (10, 1), (11, 1), (12, 1), (13, 1), (14, 1), (15, 1), (16, 1), (17, 1), (18, 1), (19, 1), (20, 1), (21, 1), (22, 1), (23, 1), (24, 1), (25, 1), (26, 1), (27, 1), (28, 1), (29, 1), (30, 1), (31, 1)] (zeros 32 (.int .u8 0)) := buildOf_array (size := 1) Tryz.underlying90 (fun _ => by kernel_rfl) (fun _ => by kernel_rfl) rfl
instance Tryz.build103 : BuildOf Tryz.prog 103 [(0, 1), (1, 1), (2, 1)] (zeros 3 (.int .i64 0)) := buildOf_struct Tryz.underlying103 (fun _ => by kernel_rfl) (fun _ => by kernel_rfl)
instance Tryz.build106 : BuildOf Tryz.prog 106 [(0, 8), (8, 3), (11, 1), (12, 1)] (zeros 8 (.int .u8 0) ++ (zeros 4 (.int .i64 0) ++ ((.slice none 0 0) :: []))) := buildOf_struct Tryz.underlying106 (fun _ => by kernel_rfl) (fun _ => by kernel_rfl)
instance Tryz.build109 : BuildOf Tryz.prog 109 [(0, 1), (1, 1), (2, 1), (3, 1)] (zeros 4 (.int .i64 0)) := buildOf_struct Tryz.underlying109 (fun _ => by kernel_rfl) (fun _ => by kernel_rfl)
instance Tryz.build111 : BuildOf Tryz.prog 111 [(0, 1), (1, 1), (2, 1)] ((.int .i64 0) :: ((.bool false) :: ((.string ⟨#[]⟩) :: []))) := buildOf_struct Tryz.underlying111 (fun _ => by kernel_rfl) (fun _ => by kernel_rfl)
instance Tryz.build114 : BuildOf Tryz.prog 114 [(0, 1), (1, 1), (2, 1), (3, 1), (4, 1), (5, 1)] (zeros 6 (.int .u8 0)) := buildOf_array (size := 1) Tryz.underlying114 (fun _ => by kernel_rfl) (fun _ => by kernel_rfl) rfl
instance Tryz.build121 : BuildOf Tryz.prog 121 [(0, 13), (13, 6), (19, 1), (20, 1), (21, 1), (22, 1), (23, 1), (24, 1)] (zeros 8 (.int .u8 0) ++ (zeros 4 (.int .i64 0) ++ ((.slice none 0 0) :: (zeros 6 (.int .u8 0) ++ (zeros 2 (.pointer none) ++ ((.slice none 0 0) :: ((.pointer none) :: ((.int .u32 0) :: ((.int .i64 0) :: []))))))))) := buildOf_struct Tryz.underlying121 (fun _ => by kernel_rfl) (fun _ => by kernel_rfl)
instance Tryz.build126 : BuildOf Tryz.prog 126 [(0, 1), (1, 1), (2, 1), (3, 1), (4, 1)] ((.pointer none) :: ((.map none) :: ((.int .i64 0) :: ((.bool false) :: ((.int .i64 0) :: []))))) := buildOf_struct Tryz.underlying126 (fun _ => by kernel_rfl) (fun _ => by kernel_rfl)
instance Tryz.build133 : BuildOf Tryz.prog 133 [(0, 1), (1, 1)] ((.int .i64 0) :: ((.slice none 0 0) :: [])) := buildOf_struct Tryz.underlying133 (fun _ => by kernel_rfl) (fun _ => by kernel_rfl)
instance Tryz.build135 : BuildOf Tryz.prog 135 [(0, 2), (2, 1), (3, 1)] ((.int .i64 0) :: ((.slice none 0 0) :: (zeros 2 (.int .i64 0)))) := buildOf_struct Tryz.underlying135 (fun _ => by kernel_rfl) (fun _ => by kernel_rfl)
instance Tryz.build137 : BuildOf Tryz.prog 137 [(0, 4), (4, 1), (5, 1), (6, 1), (7, 32)] ((.int .i64 0) :: ((.slice none 0 0) :: (zeros 2 (.int .i64 0) ++ ((.bool false) :: ((.int .i64 0) :: ((.bool false) :: (zeros 32 (.int .u8 0)))))))) := buildOf_struct Tryz.underlying137 (fun _ => by kernel_rfl) (fun _ => by kernel_rfl)
instance Tryz.build139 : BuildOf Tryz.prog 139 [(0, 1), (1, 1)] ((.int .i64 0) :: ((.string ⟨#[]⟩) :: [])) := buildOf_struct Tryz.underlying139 (fun _ => by kernel_rfl) (fun _ => by kernel_rfl)
instance Tryz.build164 : BuildOf Tryz.prog 164 [(0, 32), (32, 1), (33, 4), (37, 1), (38, 3), (41, 1), (42, 1), (43, 1), (44, 1)] (zeros 32 (.int .u8 0) ++ ((.bool false) :: (zeros 5 (.int .i64 0) ++ (zeros 4 (.pointer none) ++ (zeros 3 (.int .i64 0)))))) := buildOf_struct Tryz.underlying164 (fun _ => by kernel_rfl) (fun _ => by kernel_rfl)
instance Tryz.build179 : BuildOf Tryz.prog 179 [(0, 1), (1, 1), (2, 1), (3, 1), (4, 1)] (zeros 5 (.int .i64 0)) := buildOf_struct Tryz.underlying179 (fun _ => by kernel_rfl) (fun _ => by kernel_rfl)
instance Tryz.build181 : BuildOf Tryz.prog 181 [(0, 1), (1, 1), (2, 1), (3, 1), (4, 5)] (zeros 2 (.slice none 0 0) ++ (zeros 2 (.pointer none) ++ (zeros 5 (.int .i64 0)))) := buildOf_struct Tryz.underlying181 (fun _ => by kernel_rfl) (fun _ => by kernel_rfl)
instance Tryz.build191 : BuildOf Tryz.prog 191 [(0, 6), (6, 6), (12, 1), (13, 1)] (zeros 12 (.int .u8 0) ++ ((.int .i64 0) :: ((.string ⟨#[]⟩) :: []))) := buildOf_struct Tryz.underlying191 (fun _ => by kernel_rfl) (fun _ => by kernel_rfl)
instance Tryz.build193 : BuildOf Tryz.prog 193 [(0, 14), (14, 1), (15, 1)] (zeros 12 (.int .u8 0) ++ ((.int .i64 0) :: ((.string ⟨#[]⟩) :: (zeros 2 (.int .i64 0))))) := buildOf_struct Tryz.underlying193 (fun _ => by kernel_rfl) (fun _ => by kernel_rfl)
instance Tryz.build197 : BuildOf Tryz.prog 197 [(0, 8), (8, 1), (9, 8), (17, 1)] (zeros 8 (.int .u8 0) ++ ((.int .i64 0) :: (zeros 8 (.int .u8 0) ++ ((.int .i64 0) :: [])))) := buildOf_struct Tryz.underlying197 (fun _ => by kernel_rfl) (fun _ => by kernel_rfl)
instance Tryz.build199 : BuildOf Tryz.prog 199 [(0, 8), (8, 3), (11, 1), (12, 18), (30, 1), (31, 1), (32, 1)] (zeros 8 (.int .u8 0) ++ (zeros 3 (.int .i64 0) ++ ((.slice none 0 0) :: (zeros 8 (.int .u8 0) ++ ((.int .i64 0) :: (zeros 8 (.int .u8 0) ++ (zeros 4 (.int .i64 0)))))))) := buildOf_struct Tryz.underlying199 (fun _ => by kernel_rfl) (fun _ => by kernel_rfl)
instance Tryz.build202 : BuildOf Tryz.prog 202 [(0, 1), (1, 1), (2, 1), (3, 24), (27, 1), (28, 1), (29, 1)] ((.int .i64 0) :: (zeros 2 (.bool false) ++ (zeros 16 (.int .u8 0) ++ (zeros 6 (.int .i64 0) ++ (zeros 2 (.bool false) ++ (zeros 3 (.int .i64 0))))))) := buildOf_struct Tryz.underlying202 (fun _ => by kernel_rfl) (fun _ => by kernel_rfl)
instance Tryz.build210 : BuildOf Tryz.prog 210 [(0, 1), (1, 2), (3, 1)] ((.int .i64 0) :: (zeros 2 (.slice none 0 0) ++ ((.int .i64 0) :: []))) := buildOf_struct Tryz.underlying210 (fun _ => by kernel_rfl) (fun _ => by kernel_rfl)
instance Tryz.build216 : BuildOf Tryz.prog 216 [(0, 1), (1, 1)] ((.int .i64 0) :: ((.string ⟨#[]⟩) :: [])) := buildOf_struct Tryz.underlying216 (fun _ => by kernel_rfl) (fun _ => by kernel_rfl)
instance Tryz.build268 : BuildOf Tryz.prog 268 [(0, 1), (1, 1), (2, 1)] ((.int .i64 0) :: ((.slice none 0 0) :: ((.map none) :: []))) := buildOf_struct Tryz.underlying268 (fun _ => by kernel_rfl) (fun _ => by kernel_rfl)
instance Tryz.build270 : BuildOf Tryz.prog 270 [(0, 1), (1, 6)] ((.int .i64 0) :: (zeros 6 (.int .u8 0))) := buildOf_struct Tryz.underlying270 (fun _ => by kernel_rfl) (fun _ => by kernel_rfl)
instance Tryz.build272 : BuildOf Tryz.prog 272 [(0, 1), (1, 1), (2, 1)] (zeros 2 (.int .i64 0) ++ ((.bool false) :: [])) := buildOf_struct Tryz.underlying272 (fun _ => by kernel_rfl) (fun _ => by kernel_rfl)
instance Tryz.build277 : BuildOf Tryz.prog 277 [(0, 1), (1, 1)] ((.int .i64 0) :: ((.map none) :: [])) := buildOf_struct Tryz.underlying277 (fun _ => by kernel_rfl) (fun _ => by kernel_rfl)
instance Tryz.build279 : BuildOf Tryz.prog 279 [(0, 1), (1, 1)] ((.int .i64 0) :: ((.string ⟨#[]⟩) :: [])) := buildOf_struct Tryz.underlying279 (fun _ => by kernel_rfl) (fun _ => by kernel_rfl)
instance Tryz.build281 : BuildOf Tryz.prog 281 [(0, 6), (6, 1)] (zeros 6 (.int .u8 0) ++ ((.int .i64 0) :: [])) := buildOf_struct Tryz.underlying281 (fun _ => by kernel_rfl) (fun _ => by kernel_rfl)
instance Tryz.build346 : BuildOf Tryz.prog 346 [(0, 1)] ((.string ⟨#[]⟩) :: []) := buildOf_struct Tryz.underlying346 (fun _ => by kernel_rfl) (fun _ => by kernel_rfl)
instance Tryz.build353 : BuildOf Tryz.prog 353 [(0, 1), (1, 6)] ((.string ⟨#[]⟩) :: (zeros 6 (.int .u8 0))) := buildOf_struct Tryz.underlying353 (fun _ => by kernel_rfl) (fun _ => by kernel_rfl)
instance Tryz.build357 : BuildOf Tryz.prog 357 [(0, 1), (1, 1), (2, 1), (3, 1)] (zeros 4 (.int .u8 0)) := buildOf_array (size := 1) Tryz.underlying357 (fun _ => by kernel_rfl) (fun _ => by kernel_rfl) rfl
instance Tryz.build359 : BuildOf Tryz.prog 359 [(0, 1), (1, 6), (7, 6), (13, 4), (17, 4)] ((.int .i64 0) :: (zeros 20 (.int .u8 0))) := buildOf_struct Tryz.underlying359 (fun _ => by kernel_rfl) (fun _ => by kernel_rfl)
instance Tryz.build365 : BuildOf Tryz.prog 365 [(0, 1), (1, 1), (2, 1), (3, 1), (4, 1), (5, 1), (6, 1), (7, 1), (8, 1), (9, 1), (10, 1), (11, 1), (12, 1), (13, 1), (14, 1), (15, 1)] (zeros 16 (.int .u8 0)) := buildOf_array (size := 1) Tryz.underlying365 (fun _ => by kernel_rfl) (fun _ => by kernel_rfl) rfl
instance Tryz.build367 : BuildOf Tryz.prog 367 [(0, 1), (1, 16), (17, 16), (33, 16), (49, 6), (55, 1), (56, 4)] ((.int .i64 0) :: (zeros 54 (.int .u8 0) ++ ((.bool false) :: (zeros 4 (.int .u8 0))))) := buildOf_struct Tryz.underlying367 (fun _ => by kernel_rfl) (fun _ => by kernel_rfl)
instance Tryz.str9 : StrOf Tryz.prog 9 := ⟨Tryz.underlying9⟩
instance Tryz.bytes91 : BytesOf Tryz.prog 91 5 := ⟨Tryz.underlying91, Tryz.underlying5, by kernel_rfl⟩
instance Tryz.arr114 : ArrLen Tryz.prog 114 6 := ⟨_, Tryz.underlying114⟩
instance Tryz.arr357 : ArrLen Tryz.prog 357 4 := ⟨_, Tryz.underlying357⟩
instance Tryz.arr365 : ArrLen Tryz.prog 365 16 := ⟨_, Tryz.underlying365⟩
end
section
open Go.RowKit
inductive Leaf where
 | int (k : IntKind) | bool | str
def Leaf.ok : Leaf → Value → Bool
 | .int k, .int k' _ => k == k'
 | .bool, .bool _ => true
 | .str, .string _ => true
 | _, _ => false
def veq : Value → Value → Bool
 | .int _ a, .int _ b => a == b
 | .bool a, .bool b => a == b
 | .string a, .string b => a.toList == b.toList
 | _, _ => false
def fits : List Leaf → List Value → Bool
 | [], [] => true
 | l :: ls, v :: vs => l.ok v && fits ls vs
 | _, _ => false
def ceq : List Value → List Value → Bool
 | [], [] => true
 | v :: vs, u :: us => veq v u && ceq vs us
 | _, _ => false
theorem fits_length : ∀ {ls : List Leaf} {vs : List Value}, fits ls vs = true → vs.length = ls.length
 | [], [], _ => rfl
 | _ :: _, _ :: _, h => by simp only [fits, Bool.and_eq_true] at h; simp [fits_length h.2]
 | [], _ :: _, h => by simp [fits] at h
 | _ :: _, [], h => by simp [fits] at h
theorem fits_append : ∀ {l1 l2 : List Leaf} {vs : List Value}, fits (l1 ++ l2) vs = true → fits l1 (vs.take l1.length) = true ∧ fits l2 (vs.drop l1.length) = true
 | [], _, _, h => ⟨rfl, by simpa using h⟩
 | _ :: l1, l2, v :: vs, h => by
  simp only [List.cons_append, fits, Bool.and_eq_true] at h
  have := fits_append h.2
  simp only [List.length_cons, List.take_succ_cons, List.drop_succ_cons, fits, Bool.and_eq_true]
  exact ⟨⟨h.1, this.1⟩, this.2⟩
 | _ :: _, _, [], h => by simp [fits] at h
theorem ceq_append : ∀ (a b c d : List Value), a.length = b.length → ceq (a ++ c) (b ++ d) = (ceq a b && ceq c d)
 | [], [], _, _, _ => by simp [ceq]
 | x :: a, y :: b, c, d, h => by
  simp only [List.cons_append, ceq, ceq_append a b c d (by simpa using h), Bool.and_assoc]
 | [], _ :: _, _, _, h => by simp at h
 | _ :: _, [], _, _, h => by simp at h
theorem ceq_refl : ∀ {ls : List Leaf} {vs : List Value}, fits ls vs = true → ceq vs vs = true
 | [], [], _ => rfl
 | l :: ls, v :: vs, h => by
  simp only [fits, Bool.and_eq_true] at h
  have hv : veq v v = true := by
   have := h.1
   cases l <;> cases v <;> simp [Leaf.ok] at this <;> simp [veq]
  simp only [ceq, hv, ceq_refl h.2, Bool.and_self]
 | [], _ :: _, h => by simp [fits] at h
 | _ :: _, [], h => by simp [fits] at h
def mkV (agg : Bool) (vs : List Value) : Value := if agg then .agg vs.toArray else vs.headD undef
structure PlainT (P : Program) (D : Nat) (t : TypeId) (agg : Bool) (ls : List Leaf) : Prop where
 size : (P.info? t).map (·.size) = some ls.length
 isAgg : ∀ w, (isAgg t).run P w = .ok agg w
 one : agg = false → ls.length = 1
 eq : ∀ (d : Nat) (w : World) (xs ys : List Value), D ≤ d → fits ls xs = true → fits ls ys = true → (Op.equalIn d t (mkV agg xs) (mkV agg ys)).run P w = .ok (ceq xs ys) w
section
variable {P : Program}
theorem plain_int {t : TypeId} {k : IntKind} (hu : P.underlying t = some (.int k)) (hs : (P.info? t).map (·.size) = some 1) (k' : IntKind) : PlainT P 1 t false [.int k'] := by
 refine ⟨hs, fun w => ?_, fun _ => rfl, fun d w xs ys hd hx hy => ?_⟩
 ·
  unfold Go.isAgg; rw [Sem.run_bind, run_underlying hu w]; rfl
 ·
  obtain ⟨x, rfl⟩ := List.length_eq_one_iff.1 (fits_length hx)
  obtain ⟨y, rfl⟩ := List.length_eq_one_iff.1 (fits_length hy)
  cases x <;> simp [fits, Leaf.ok] at hx
  cases y <;> simp [fits, Leaf.ok] at hy
  ·
   subst hx; subst hy
   obtain ⟨e, rfl⟩ : ∃ e, d = e + 1 := ⟨d - 1, by omega⟩
   simp [mkV, Op.equalIn, run_underlying hu, ceq, veq]
theorem plain_str {t : TypeId} (hu : P.underlying t = some .string) (hs : (P.info? t).map (·.size) = some 1) : PlainT P 1 t false [.str] := by
 refine ⟨hs, fun w => ?_, fun _ => rfl, fun d w xs ys hd hx hy => ?_⟩
 ·
  unfold Go.isAgg; rw [Sem.run_bind, run_underlying hu w]; rfl
 ·
  obtain ⟨x, rfl⟩ := List.length_eq_one_iff.1 (fits_length hx)
  obtain ⟨y, rfl⟩ := List.length_eq_one_iff.1 (fits_length hy)
  cases x <;> simp [fits, Leaf.ok] at hx
  cases y <;> simp [fits, Leaf.ok] at hy
  ·
   skip
   obtain ⟨e, rfl⟩ : ∃ e, d = e + 1 := ⟨d - 1, by omega⟩
   simp [mkV, Op.equalIn, run_underlying hu, ceq, veq, beq_toListBytes]
theorem run_part {D : Nat} {t : TypeId} {agg : Bool} {ls : List Leaf} (h : PlainT P D t agg ls) (xs : List Value) (off : Nat) (w : World) (ho : off + ls.length ≤ xs.length) :
  (part t xs.toArray off).run P w = .ok (mkV agg ((xs.drop off).take ls.length)) w := by
 unfold part
 rw [Sem.run_bind, h.isAgg w]
 cases agg with
 | true =>
  cases hq : P.info? t with
  | none => have := h.size; simp [hq] at this
  | some i =>
   have hs : i.size = ls.length := by have := h.size; simpa [hq] using this
   simp [sizeOf, typeInfo, hq, hs, mkV]
 | false =>
  have h1 := h.one rfl
  simp only [Result.andThen_ok, Bool.false_eq_true, if_false]
  have hlt : off < xs.length := by omega
  have : (xs.drop off).take ls.length = [xs[off]] := by
   rw [h1, List.drop_eq_getElem_cons hlt]; rfl
  rw [this]
  simp [hlt, mkV]
theorem plain_eqFields {D : Nat} : ∀ (fs : List Field) (off : Nat) (ls : List Leaf) (ts : List (Bool × List Leaf)), (∀ f ∈ fs, f.name ≠ "_") → fs.length = ts.length → ls = (ts.map (·.2)).flatten →
  (∀ (i : Nat) (f : Field) (q : Bool × List Leaf), fs[i]? = some f → ts[i]? = some q → PlainT P D f.type q.1 q.2 ∧ f.offset = off + ((ts.take i).map (·.2.length)).sum) →
  ∀ (d : Nat) (w : World) (pre1 pre2 xs ys : List Value), D ≤ d → pre1.length = off → pre2.length = off → fits ls xs = true → fits ls ys = true →
   (Op.eqFields d (pre1 ++ xs).toArray (pre2 ++ ys).toArray fs).run P w = .ok (ceq xs ys) w := by
 intro fs
 induction fs with
 | nil =>
  intro off ls ts _ hl hls _ d w pre1 pre2 xs ys _ _ _ hx hy
  have : ts = [] := List.eq_nil_of_length_eq_zero hl.symm
  subst this
  simp at hls
  subst hls
  have h1 := List.eq_nil_of_length_eq_zero (fits_length hx)
  have h2 := List.eq_nil_of_length_eq_zero (fits_length hy)
  subst h1; subst h2
  simp [Op.eqFields, ceq]
 | cons f fs ih =>
  intro off ls ts hn hl hls hf d w pre1 pre2 xs ys hd h1 h2 hx hy
  cases ts with
  | nil => simp at hl
  | cons q ts =>
   obtain ⟨ag, l1⟩ := q
   simp only [List.map_cons, List.flatten_cons] at hls
   subst hls
   obtain ⟨hp, ho⟩ := hf 0 f (ag, l1) rfl rfl
   simp at ho
   obtain ⟨x1, x2⟩ := fits_append hx
   obtain ⟨y1, y2⟩ := fits_append hy
   have lx := fits_length hx
   have ly := fits_length hy
   have nn : f.name ≠ "_" := hn f (by simp)
   have lx1 := fits_length x1
   have ly1 := fits_length y1
   simp only [Op.eqFields, nn, ne_eq, not_false_eq_true, if_true, Sem.run_bind]
   replace hp : PlainT P D f.type ag l1 := hp
   rw [run_part hp (pre1 ++ xs) f.offset w (by simp at lx ⊢; omega)]
   simp only [Result.andThen_ok]
   rw [run_part hp (pre2 ++ ys) f.offset w (by simp at ly ⊢; omega)]
   simp only [Result.andThen_ok]
   have ex : ((pre1 ++ xs).drop f.offset).take l1.length = xs.take l1.length := by rw [ho, ← h1, List.drop_left]
   have ey : ((pre2 ++ ys).drop f.offset).take l1.length = ys.take l1.length := by rw [ho, ← h2, List.drop_left]
   rw [ex, ey, hp.eq d w _ _ hd x1 y1]
   have hc : ceq xs ys = (ceq (xs.take l1.length) (ys.take l1.length) && ceq (xs.drop l1.length) (ys.drop l1.length)) := by
    rw [← ceq_append _ _ _ _ (by rw [lx1, ly1]), List.take_append_drop, List.take_append_drop]
   rw [hc]
   simp only [Result.andThen_ok]
   cases hq : ceq (xs.take l1.length) (ys.take l1.length) with
   | false => simp
   | true =>
    simp only [Bool.not_true, Bool.false_eq_true, if_false, Bool.true_and]
    have := ih (off + l1.length) _ ts (fun g hg => hn g (by simp [hg])) (by simpa using hl) rfl (fun i g q hg hq => by
     obtain ⟨a1, a2⟩ := hf (i + 1) g q hg hq
     refine ⟨a1, ?_⟩
     simp only [List.take_succ_cons, List.map_cons, List.sum_cons] at a2
     omega) d w (pre1 ++ xs.take l1.length) (pre2 ++ ys.take l1.length) (xs.drop l1.length) (ys.drop l1.length) hd (by simp [h1, lx1]) (by simp [h2, ly1]) x2 y2
    simpa [List.append_assoc] using this
def eqElems (d : Nat) (elem : TypeId) (n : Nat) (xs ys : Array Value) : List Nat → Sem Bool
 | [] => pure true
 | i :: is => do
  let a ← part elem xs (i * n)
  let b ← part elem ys (i * n)
  let r ← Op.equalIn d elem a b
  if (!r) = true then pure false else eqElems d elem n xs ys is
theorem run_equalIn_array (w : World) (d : Nat) (t e : TypeId) (len n : Nat) (xs ys : Array Value) (ht : P.underlying t = some (.array len e)) (hs : ∀ w, (sizeOf e).run P w = .ok n w) :
  (Op.equalIn (d + 1) t (.agg xs) (.agg ys)).run P w = (eqElems d e n xs ys (List.range len)).run P w := by
 simp only [Op.equalIn, Sem.run_bind, run_underlying ht, Result.andThen_ok, hs, Std.Legacy.Range.forIn_eq_forIn_range', Std.Legacy.Range.size]
 have hr : List.range' 0 ((len - 0 + 1 - 1) / 1) 1 = List.range len := by
  rw [List.range_eq_range']
  simp
 rw [hr]
 generalize List.range len = l
 induction l generalizing w with
 | nil => simp [eqElems]
 | cons i l ih =>
  simp only [List.forIn_cons, eqElems, Sem.run_bind]
  generalize (part e xs (i * n)).run P w = r1
  cases r1 with
  | ok a w1 =>
   simp only [Result.andThen_ok]
   generalize (part e ys (i * n)).run P w1 = r2
   cases r2 with
   | ok b w2 =>
    simp only [Result.andThen_ok]
    generalize (Op.equalIn d e a b).run P w2 = r3
    cases r3 with
    | ok r w3 =>
     cases r
     ·
      simp only [Result.andThen_ok, Bool.not_false, if_true, Sem.run_pure]
     ·
      simp only [Result.andThen_ok, Bool.not_true, Bool.false_eq_true, if_false, Sem.run_pure]
      exact ih w3
    | halt x w3 => simp [Result.andThen]
   | halt x w2 => simp [Result.andThen]
  | halt x w1 => simp [Result.andThen]
theorem fits_flat {ls : List Leaf} : ∀ {n : Nat} {xs : List Value}, fits (List.replicate n ls).flatten xs = true → ∀ i, i < n → fits ls ((xs.drop (i * ls.length)).take ls.length) = true := by
 intro n
 induction n with
 | zero => intro xs _ i hi; omega
 | succ n ih =>
  intro xs h i hi
  rw [List.replicate_succ, List.flatten_cons] at h
  obtain ⟨h1, h2⟩ := fits_append h
  cases i with
  | zero => simpa using h1
  | succ i =>
   have := ih h2 i (by omega)
   rw [List.drop_drop] at this
   rw [show (i + 1) * ls.length = ls.length + i * ls.length by rw [Nat.succ_mul]; omega]
   exact this
theorem run_eqElems {D : Nat} {e : TypeId} {agg : Bool} {ls : List Leaf} (hp : PlainT P D e agg ls) (d : Nat) (hd : D ≤ d) (w : World) (xs ys : List Value) (len : Nat)
  (hx : fits (List.replicate len ls).flatten xs = true) (hy : fits (List.replicate len ls).flatten ys = true) : ∀ (m k : Nat), k + m = len →
  (eqElems d e ls.length xs.toArray ys.toArray (List.range' k m)).run P w = .ok (ceq (xs.drop (k * ls.length)) (ys.drop (k * ls.length))) w := by
 have lx : xs.length = len * ls.length := by rw [fits_length hx]; simp
 have ly : ys.length = len * ls.length := by rw [fits_length hy]; simp
 intro m
 induction m with
 | zero =>
  intro k hk
  obtain rfl : k = len := by omega
  rw [List.drop_of_length_le (by omega), List.drop_of_length_le (by omega)]
  simp [eqElems, ceq]
 | succ m ih =>
  intro k hk
  have hkl : k * ls.length + ls.length ≤ len * ls.length := by
   have := Nat.mul_le_mul_right ls.length (show k + 1 ≤ len by omega)
   rwa [Nat.succ_mul] at this
  simp only [List.range'_succ, eqElems, Sem.run_bind]
  rw [run_part hp xs _ w (by omega)]
  simp only [Result.andThen_ok]
  rw [run_part hp ys _ w (by omega)]
  simp only [Result.andThen_ok]
  have x1 := fits_flat hx k (by omega)
  have y1 := fits_flat hy k (by omega)
  rw [hp.eq d w _ _ hd x1 y1]
  have hc : ceq (xs.drop (k * ls.length)) (ys.drop (k * ls.length)) = (ceq ((xs.drop (k * ls.length)).take ls.length) ((ys.drop (k * ls.length)).take ls.length) && ceq (xs.drop ((k + 1) * ls.length)) (ys.drop ((k + 1) * ls.length))) := by
   rw [show (k + 1) * ls.length = k * ls.length + ls.length by rw [Nat.succ_mul], ← List.drop_drop, ← List.drop_drop, ← ceq_append _ _ _ _ (by rw [fits_length x1, fits_length y1]), List.take_append_drop, List.take_append_drop]
  rw [hc]
  simp only [Result.andThen_ok]
  cases hq : ceq ((xs.drop (k * ls.length)).take ls.length) ((ys.drop (k * ls.length)).take ls.length) with
  | false => simp
  | true =>
   simp only [Bool.not_true, Bool.false_eq_true, if_false, Bool.true_and]
   exact ih (k + 1) (by omega)
theorem plain_array {D : Nat} {t e : TypeId} {len : Nat} {agg : Bool} {ls : List Leaf} (hp : PlainT P D e agg ls) (hu : P.underlying t = some (.array len e)) (hs : (P.info? t).map (·.size) = some (List.replicate len ls).flatten.length) :
  PlainT P (D + 1) t true (List.replicate len ls).flatten := by
 refine ⟨hs, fun w => ?_, fun h => (by cases h), fun d w xs ys hd hx hy => ?_⟩
 ·
  unfold Go.isAgg; rw [Sem.run_bind, run_underlying hu w]; rfl
 ·
  obtain ⟨c, rfl⟩ : ∃ c, d = c + 1 := ⟨d - 1, by omega⟩
  simp only [mkV, if_true]
  rw [run_equalIn_array _ _ _ _ _ ls.length _ _ hu (fun w => by
   cases hq : P.info? e with
   | none => have := hp.size; simp [hq] at this
   | some i =>
    have : i.size = ls.length := by have := hp.size; simpa [hq] using this
    simp [sizeOf, typeInfo, hq, this])]
  have := run_eqElems hp c (by omega) w xs ys len hx hy len 0 (by omega)
  rw [List.range_eq_range']
  simpa using this
theorem plain_struct {D : Nat} {t : TypeId} {fs : Array Field} (ts : List (Bool × List Leaf)) (hu : P.underlying t = some (.struct fs)) (hf : P.fieldsOf t = fs) (hp : P.stoodInHeld t = false)
  (hs : (P.info? t).map (·.size) = some ((ts.map (·.2)).flatten).length) (hn : fs.toList.all (fun f => f.name != "_") = true) (hl : fs.toList.length = ts.length)
  (hfs : ∀ (i : Nat) (f : Field) (q : Bool × List Leaf), fs.toList[i]? = some f → ts[i]? = some q → PlainT P D f.type q.1 q.2 ∧ f.offset = 0 + ((ts.take i).map (·.2.length)).sum) :
  PlainT P (D + 1) t true ((ts.map (·.2)).flatten) := by
 refine ⟨hs, fun w => ?_, fun h => (by cases h), fun d w xs ys hd hx hy => ?_⟩
 ·
  unfold Go.isAgg; rw [Sem.run_bind, run_underlying hu w]; rfl
 ·
  obtain ⟨e, rfl⟩ : ∃ e, d = e + 1 := ⟨d - 1, by omega⟩
  simp only [mkV, if_true]
  rw [run_equalIn_agg _ _ _ _ _ (by rw [hf]; exact hu) hp, hf]
  have := plain_eqFields fs.toList 0 _ ts (fun f hfm => by
   have := List.all_eq_true.1 hn f hfm
   simpa using this) hl rfl hfs e w [] [] xs ys (by omega) rfl rfl hx hy
  simpa using this
theorem PlainT.mono {D D' : Nat} {t : TypeId} {agg : Bool} {ls : List Leaf} (h : PlainT P D t agg ls) (hd : D ≤ D') : PlainT P D' t agg ls :=
 ⟨h.size, h.isAgg, h.one, fun d w xs ys hh => h.eq d w xs ys (by omega)⟩
inductive PlainFs (P : Program) (D : Nat) : Nat → List Field → List (Bool × List Leaf) → Prop where
 | nil (off : Nat) : PlainFs P D off [] []
 | cons {off : Nat} {f : Field} {fs : List Field} {b : Bool} {ls : List Leaf} {ts : List (Bool × List Leaf)} (h : PlainT P D f.type b ls) (ho : f.offset = off) (r : PlainFs P D (off + ls.length) fs ts) : PlainFs P D off (f :: fs) ((b, ls) :: ts)
theorem PlainFs.at_ {D : Nat} : ∀ {off : Nat} {fs : List Field} {ts : List (Bool × List Leaf)}, PlainFs P D off fs ts → fs.length = ts.length ∧
  ∀ (i : Nat) (f : Field) (q : Bool × List Leaf), fs[i]? = some f → ts[i]? = some q → PlainT P D f.type q.1 q.2 ∧ f.offset = off + ((ts.take i).map (·.2.length)).sum := by
 intro off fs ts h
 induction h with
 | nil off => exact ⟨rfl, fun i f q h => by simp at h⟩
 | cons h ho r ih =>
  refine ⟨by simp [ih.1], fun i f q hf hq => ?_⟩
  cases i with
  | zero =>
   simp at hf hq
   subst hf; subst hq
   exact ⟨h, by simp [ho]⟩
  | succ i =>
   obtain ⟨h1, h2⟩ := ih.2 i f q hf hq
   refine ⟨h1, ?_⟩
   simp only [List.take_succ_cons, List.map_cons, List.sum_cons]
   omega
theorem plain_struct' {D : Nat} {t : TypeId} {fs : List Field} {ts : List (Bool × List Leaf)} (hu : P.underlying t = some (.struct fs.toArray)) (h : PlainFs P D 0 fs ts) (hf : P.fieldsOf t = fs.toArray) (hp : P.stoodInHeld t = false)
  (hs : (P.info? t).map (·.size) = some ((ts.map (·.2)).flatten).length) (hn : fs.all (fun f => f.name != "_") = true) :
  PlainT P (D + 1) t true ((ts.map (·.2)).flatten) :=
 plain_struct ts hu hf hp hs (by simpa using hn) (by simpa using h.at_.1) (by simpa using h.at_.2)
def leaves (n : Nat) (l : Leaf) : List Leaf := (List.replicate n [l]).flatten
theorem leaves_eq (n : Nat) (l : Leaf) : leaves n l = List.replicate n l := by
 unfold leaves
 induction n with
 | zero => rfl
 | succ n ih => rw [List.replicate_succ, List.flatten_cons, ih]; rfl
@[simp] theorem leaves_length (n : Nat) (l : Leaf) : (leaves n l).length = n := by simp [leaves_eq]
class PlainC (P : Program) (t : TypeId) (ls : outParam (List Leaf)) : Prop where
 plain : ∃ D, D ≤ 9000 ∧ PlainT P D t true ls
 guard : P.eqGuardType P.depth t = false
@[go_sem high] theorem run_eql_plain {w : World} {t : TypeId} {ls : List Leaf} {xs ys : Array Value} [hC : PlainC P t ls] (hx : fits ls xs.toList = true) (hy : fits ls ys.toList = true) :
  (binOp .eql t (.agg xs) (.agg ys)).run P w = .ok (.bool (ceq xs.toList ys.toList)) w := by
 obtain ⟨D, hD, h⟩ := hC.plain
 rw [run_eql_struct]
 have := h.eq 10000 w xs.toList ys.toList (by omega) hx hy
 simp only [mkV, if_true, Array.toArray_toList] at this
 rw [this]
 rfl
@[go_sem high] theorem run_neq_plain {w : World} {t : TypeId} {ls : List Leaf} {xs ys : Array Value} [hC : PlainC P t ls] (hx : fits ls xs.toList = true) (hy : fits ls ys.toList = true) :
  (binOp .neq t (.agg xs) (.agg ys)).run P w = .ok (.bool (!ceq xs.toList ys.toList)) w := by
 obtain ⟨D, hD, h⟩ := hC.plain
 rw [run_neq_struct]
 have := h.eq 10000 w xs.toList ys.toList (by omega) hx hy
 simp only [mkV, if_true, Array.toArray_toList] at this
 rw [this]
 rfl
@[go_sem high] theorem run_eqGuard_plain {w : World} {t : TypeId} {ls : List Leaf} {op : BinOp} {x y : Operand} {xs ys : Array Value} [hC : PlainC P t ls] : (eqGuard op t x y (.agg xs) (.agg ys)).run P w = .ok () w :=
 run_eqGuard_agg w op t x y xs ys hC.guard
end
/-! ### how fits and ceq are reckoned -/
attribute [go_sem] fits ceq veq
@[simp] theorem ok_int (k : IntKind) (n : Int) : (Leaf.int k).ok (.int k n) = true := by simp [Leaf.ok]
@[simp] theorem ok_bool (b : Bool) : Leaf.bool.ok (.bool b) = true := rfl
@[simp] theorem ok_str (s : ByteArray) : Leaf.str.ok (.string s) = true := rfl
theorem fits_rep {l : Leaf} : ∀ {n : Nat} {vs : List Value} {ls : List Leaf} {r : List Value}, vs.length = n → (∀ v ∈ vs, l.ok v = true) → fits (leaves n l ++ ls) (vs ++ r) = fits ls r := by
 intro n vs
 induction vs generalizing n with
 | nil => intro ls r h _; simp at h; subst h; rfl
 | cons v vs ih =>
  intro ls r h ho
  simp at h
  subst h
  have := ih (n := vs.length) (ls := ls) (r := r) rfl (fun u hu => ho u (by simp [hu]))
  rw [leaves_eq] at this ⊢
  simp [fits, List.replicate_succ, ho v (by simp), this]
theorem u8v_ok {n : Nat} (v : Vector UInt8 n) : ∀ u ∈ u8v v, (Leaf.int .u8).ok u = true := by
 intro u hu
 simp [u8v, u8s] at hu
 obtain ⟨b, _, rfl⟩ := hu
 rfl
@[simp] theorem fits_u8v {n : Nat} (v : Vector UInt8 n) (ls : List Leaf) (r : List Value) : fits (leaves n (.int .u8) ++ ls) (u8v v ++ r) = fits ls r := fits_rep (by simp) (u8v_ok v)
@[simp] theorem fits_u8v' {n : Nat} (v : Vector UInt8 n) : fits (leaves n (.int .u8)) (u8v v) = true := by
 have := fits_u8v v [] []
 simpa [fits] using this
@[simp] theorem fits_zeros (n m : Nat) (l : Leaf) (v : Value) (ls : List Leaf) (r : List Value) (h : n ≤ m) (ho : l.ok v = true) : fits (leaves n l ++ ls) (zeros m v ++ r) = fits ls (zeros (m - n) v ++ r) := by
 have : zeros m v = zeros n v ++ zeros (m - n) v := by
  unfold zeros
  rw [List.replicate_append_replicate]
  congr 1; omega
 rw [this, List.append_assoc]
 exact fits_rep (by simp) (by intro u hu; simp [zeros] at hu; rw [hu.2]; exact ho)
@[simp] theorem fits_zeros' (n m : Nat) (l : Leaf) (v : Value) (ls : List Leaf) (h : n ≤ m) (ho : l.ok v = true) : fits (leaves n l ++ ls) (zeros m v) = fits ls (zeros (m - n) v) := by
 have := fits_zeros n m l v ls [] h ho
 simpa using this
@[simp] theorem fits_zeros'' (n : Nat) (l : Leaf) (v : Value) (ho : l.ok v = true) : fits (leaves n l) (zeros n v) = true := by
 have := fits_zeros n n l v [] [] (Nat.le_refl _) ho
 simpa [fits] using this
theorem fits_cons_zeros (n : Nat) (l : Leaf) (v : Value) (ls : List Leaf) (h : 0 < n) (r : List Value) : fits (l :: ls) (zeros n v ++ r) = (l.ok v && fits ls (zeros (n - 1) v ++ r)) := by
 obtain ⟨m, rfl⟩ : ∃ m, n = m + 1 := ⟨n - 1, by omega⟩
 simp [zeros, List.replicate_succ, fits]
attribute [simp] fits_cons_zeros
theorem ceq_u8s : ∀ (a b : List UInt8), a.length = b.length → ceq (u8s a) (u8s b) = (a == b)
 | [], [], _ => rfl
 | x :: a, y :: b, h => by
  have := ceq_u8s a b (by simpa using h)
  simp only [u8s, List.map_cons, ceq, veq] at *
  rw [this]
  simp only [List.cons_beq_cons]
  congr 1
  rw [Bool.eq_iff_iff]
  simp only [beq_iff_eq]
  rw [← UInt8.toNat_inj]
  omega
 | [], _ :: _, h => by simp at h
 | _ :: _, [], h => by simp at h
theorem toList_beq {n : Nat} (a b : Vector UInt8 n) : (a.toList == b.toList) = (a == b) := by
 rw [Bool.eq_iff_iff]
 simp
@[simp] theorem ceq_u8v {n : Nat} (a b : Vector UInt8 n) : ceq (u8v a) (u8v b) = (a == b) := by
 unfold u8v
 rw [ceq_u8s _ _ (by simp), toList_beq]
@[simp] theorem ceq_u8v_append {n : Nat} (a b : Vector UInt8 n) (r s : List Value) : ceq (u8v a ++ r) (u8v b ++ s) = ((a == b) && ceq r s) := by
 rw [ceq_append _ _ _ _ (by simp), ceq_u8v]
theorem zeros_split (n m : Nat) (v : Value) (h : n ≤ m) : zeros m v = zeros n v ++ zeros (m - n) v := by
 unfold zeros
 rw [List.replicate_append_replicate]
 congr 1; omega
@[simp] theorem ceq_u8v_zeros {n m : Nat} (a : Vector UInt8 n) (r s : List Value) (h : n ≤ m) : ceq (u8v a ++ r) (zeros m (.int .u8 0) ++ s) = ((a == Vector.replicate n 0) && ceq r (zeros (m - n) (.int .u8 0) ++ s)) := by
 rw [zeros_split n m _ h, ← u8v_zero, List.append_assoc, ceq_u8v_append]
@[simp] theorem ceq_u8v_zeros' {n m : Nat} (a : Vector UInt8 n) (r : List Value) (h : n ≤ m) : ceq (u8v a ++ r) (zeros m (.int .u8 0)) = ((a == Vector.replicate n 0) && ceq r (zeros (m - n) (.int .u8 0))) := by
 have := ceq_u8v_zeros a r [] h
 simpa using this
@[simp] theorem ceq_u8v_zeros'' {n : Nat} (a : Vector UInt8 n) : ceq (u8v a) (zeros n (.int .u8 0)) = (a == Vector.replicate n 0) := by
 rw [← u8v_zero, ceq_u8v]
theorem ceq_zeros (n : Nat) (k : IntKind) (m : Int) : ceq (zeros n (.int k m)) (zeros n (.int k m)) = true := by
 induction n with
 | zero => rfl
 | succ n ih =>
  unfold zeros at *
  simp only [List.replicate_succ, ceq, veq, ih]
  simp
attribute [simp] ceq_zeros
@[simp] theorem ceq_zeros_append (n : Nat) (k : IntKind) (m : Int) (r s : List Value) : ceq (zeros n (.int k m) ++ r) (zeros n (.int k m) ++ s) = ceq r s := by
 rw [ceq_append _ _ _ _ (by simp), ceq_zeros, Bool.true_and]
end
section
theorem Tryz.plain3 : PlainT Tryz.prog 1 3 false [.int .i64] := plain_int Tryz.underlying3 kr_ .i64
theorem Tryz.plain5 : PlainT Tryz.prog 1 5 false [.int .u8] := plain_int Tryz.underlying5 kr_ .u8
theorem Tryz.plain9 : PlainT Tryz.prog 1 9 false [.str] := plain_str Tryz.underlying9 kr_
theorem Tryz.plain84 : PlainT Tryz.prog 2 84 true (.int .i64 :: (.int .i64 :: [])) := plain_struct' (ts := [(false, [.int .i64]), (false, [.int .i64])]) Tryz.underlying84 (.cons (Tryz.plain3.mono (by decide)) rfl (.cons (Tryz.plain3.mono (by decide)) rfl (.nil _))) kr_ kr_ kr_ (by decide)
instance Tryz.cmp84 : PlainC Tryz.prog 84 (.int .i64 :: (.int .i64 :: [])) := ⟨⟨2, by decide, Tryz.plain84⟩, by kernel_rfl⟩
theorem Tryz.plain90 : PlainT Tryz.prog 2 90 true (leaves 32 (.int .u8)) := plain_array Tryz.plain5 Tryz.underlying90 kr_
instance Tryz.cmp90 : PlainC Tryz.prog 90 (leaves 32 (.int .u8)) := ⟨⟨2, by decide, Tryz.plain90⟩, by kernel_rfl⟩
theorem Tryz.plain101 : PlainT Tryz.prog 2 101 true (leaves 8 (.int .u8)) := plain_array Tryz.plain5 Tryz.underlying101 kr_
theorem Tryz.plain114 : PlainT Tryz.prog 2 114 true (leaves 6 (.int .u8)) := plain_array Tryz.plain5 Tryz.underlying114 kr_
instance Tryz.cmp114 : PlainC Tryz.prog 114 (leaves 6 (.int .u8)) := ⟨⟨2, by decide, Tryz.plain114⟩, by kernel_rfl⟩
theorem Tryz.plain197 : PlainT Tryz.prog 3 197 true ((leaves 8 (.int .u8)) ++ (.int .i64 :: ((leaves 8 (.int .u8)) ++ (.int .i64 :: [])))) := plain_struct' (ts := [(true, (leaves 8 (.int .u8))), (false, [.int .i64]), (true, (leaves 8 (.int .u8))), (false, [.int .i64])]) Tryz.underlying197 (.cons (Tryz.plain101.mono (by decide)) rfl (.cons (Tryz.plain3.mono (by decide)) rfl (.cons (Tryz.plain101.mono (by decide)) rfl (.cons (Tryz.plain3.mono (by decide)) rfl (.nil _))))) kr_ kr_ kr_ (by decide)
instance Tryz.cmp197 : PlainC Tryz.prog 197 ((leaves 8 (.int .u8)) ++ (.int .i64 :: ((leaves 8 (.int .u8)) ++ (.int .i64 :: [])))) := ⟨⟨3, by decide, Tryz.plain197⟩, by kernel_rfl⟩
theorem Tryz.plain270 : PlainT Tryz.prog 3 270 true (.int .i64 :: ((leaves 6 (.int .u8)) ++ [])) := plain_struct' (ts := [(false, [.int .i64]), (true, (leaves 6 (.int .u8)))]) Tryz.underlying270 (.cons (Tryz.plain3.mono (by decide)) rfl (.cons (Tryz.plain114.mono (by decide)) rfl (.nil _))) kr_ kr_ kr_ (by decide)
instance Tryz.cmp270 : PlainC Tryz.prog 270 (.int .i64 :: ((leaves 6 (.int .u8)) ++ [])) := ⟨⟨3, by decide, Tryz.plain270⟩, by kernel_rfl⟩
theorem Tryz.plain279 : PlainT Tryz.prog 2 279 true (.int .i64 :: (.str :: [])) := plain_struct' (ts := [(false, [.int .i64]), (false, [.str])]) Tryz.underlying279 (.cons (Tryz.plain3.mono (by decide)) rfl (.cons (Tryz.plain9.mono (by decide)) rfl (.nil _))) kr_ kr_ kr_ (by decide)
instance Tryz.cmp279 : PlainC Tryz.prog 279 (.int .i64 :: (.str :: [])) := ⟨⟨2, by decide, Tryz.plain279⟩, by kernel_rfl⟩
theorem Tryz.plain357 : PlainT Tryz.prog 2 357 true (leaves 4 (.int .u8)) := plain_array Tryz.plain5 Tryz.underlying357 kr_
instance Tryz.cmp357 : PlainC Tryz.prog 357 (leaves 4 (.int .u8)) := ⟨⟨2, by decide, Tryz.plain357⟩, by kernel_rfl⟩
theorem Tryz.plain365 : PlainT Tryz.prog 2 365 true (leaves 16 (.int .u8)) := plain_array Tryz.plain5 Tryz.underlying365 kr_
instance Tryz.cmp365 : PlainC Tryz.prog 365 (leaves 16 (.int .u8)) := ⟨⟨2, by decide, Tryz.plain365⟩, by kernel_rfl⟩
end
section
set_option maxRecDepth 20000
end
end Go.Proofs.YtfopoijikdmiaaaGreatDoor
