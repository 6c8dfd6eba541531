/- Texts of this proof, merged: Agg, Eql, Cmp. -/
import Derived.Test.YtcebllbikmgjpaaGreatRows
import Derived.Test.YtcebllbikmgjpaaGreatMemJ
import Derived.Laws.StructEq
set_option maxHeartbeats 8000000
set_option maxRecDepth 20000
set_option linter.unusedSimpArgs false
set_option linter.unusedVariables false
namespace Go.Proofs.YtcebllbikmgjpaaGreat
section
instance Tryz.agg22 : AggOf Tryz.prog 22 8 := ⟨⟨_, Tryz.underlying22, rfl⟩, by kernel_rfl, by decide⟩
instance Tryz.agg25 : AggOf Tryz.prog 25 13 := ⟨⟨_, Tryz.underlying25, rfl⟩, by kernel_rfl, by decide⟩
instance Tryz.agg27 : AggOf Tryz.prog 27 32 := ⟨⟨_, Tryz.underlying27, rfl⟩, by kernel_rfl, by decide⟩
instance Tryz.agg28 : AggOf Tryz.prog 28 32 := ⟨⟨_, Tryz.underlying28, rfl⟩, by kernel_rfl, by decide⟩
instance Tryz.agg36 : AggOf Tryz.prog 36 8 := ⟨⟨_, Tryz.underlying36, rfl⟩, by kernel_rfl, by decide⟩
instance Tryz.agg38 : AggOf Tryz.prog 38 3 := ⟨⟨_, Tryz.underlying38, rfl⟩, by kernel_rfl, by decide⟩
instance Tryz.agg41 : AggOf Tryz.prog 41 13 := ⟨⟨_, Tryz.underlying41, rfl⟩, by kernel_rfl, by decide⟩
instance Tryz.agg44 : AggOf Tryz.prog 44 4 := ⟨⟨_, Tryz.underlying44, rfl⟩, by kernel_rfl, by decide⟩
instance Tryz.agg57 : AggOf Tryz.prog 57 39 := ⟨⟨_, Tryz.underlying57, rfl⟩, by kernel_rfl, by decide⟩
instance Tryz.agg70 : AggOf Tryz.prog 70 4 := ⟨⟨_, Tryz.underlying70, rfl⟩, by kernel_rfl, by decide⟩
instance Tryz.agg76 : AggOf Tryz.prog 76 5 := ⟨⟨_, Tryz.underlying76, rfl⟩, by kernel_rfl, by decide⟩
instance Tryz.agg81 : AggOf Tryz.prog 81 2 := ⟨⟨_, Tryz.underlying81, rfl⟩, by kernel_rfl, by decide⟩
instance Tryz.agg83 : AggOf Tryz.prog 83 4 := ⟨⟨_, Tryz.underlying83, rfl⟩, by kernel_rfl, by decide⟩
instance Tryz.agg85 : AggOf Tryz.prog 85 39 := ⟨⟨_, Tryz.underlying85, rfl⟩, by kernel_rfl, by decide⟩
instance Tryz.agg90 : AggOf Tryz.prog 90 2 := ⟨⟨_, Tryz.underlying90, rfl⟩, by kernel_rfl, by decide⟩
instance Tryz.agg96 : AggOf Tryz.prog 96 6 := ⟨⟨_, Tryz.underlying96, rfl⟩, by kernel_rfl, by decide⟩
instance Tryz.agg129 : AggOf Tryz.prog 129 9 := ⟨⟨_, Tryz.underlying129, rfl⟩, by kernel_rfl, by decide⟩
instance Tryz.agg131 : AggOf Tryz.prog 131 5 := ⟨⟨_, Tryz.underlying131, rfl⟩, by kernel_rfl, by decide⟩
instance Tryz.agg147 : AggOf Tryz.prog 147 3 := ⟨⟨_, Tryz.underlying147, rfl⟩, by kernel_rfl, by decide⟩
instance Tryz.agg167 : AggOf Tryz.prog 167 18 := ⟨⟨_, Tryz.underlying167, rfl⟩, by kernel_rfl, by decide⟩
instance Tryz.agg176 : AggOf Tryz.prog 176 64 := ⟨⟨_, Tryz.underlying176, rfl⟩, by kernel_rfl, by decide⟩
instance Tryz.agg192 : AggOf Tryz.prog 192 14 := ⟨⟨_, Tryz.underlying192, rfl⟩, by kernel_rfl, by decide⟩
instance Tryz.agg194 : AggOf Tryz.prog 194 16 := ⟨⟨_, Tryz.underlying194, rfl⟩, by kernel_rfl, by decide⟩
instance Tryz.agg206 : AggOf Tryz.prog 206 2 := ⟨⟨_, Tryz.underlying206, rfl⟩, by kernel_rfl, by decide⟩
instance Tryz.agg210 : AggOf Tryz.prog 210 3 := ⟨⟨_, Tryz.underlying210, rfl⟩, by kernel_rfl, by decide⟩
instance Tryz.agg249 : AggOf Tryz.prog 249 3 := ⟨⟨_, Tryz.underlying249, rfl⟩, by kernel_rfl, by decide⟩
instance Tryz.agg256 : AggOf Tryz.prog 256 7 := ⟨⟨_, Tryz.underlying256, rfl⟩, by kernel_rfl, by decide⟩
instance Tryz.agg258 : AggOf Tryz.prog 258 2 := ⟨⟨_, Tryz.underlying258, rfl⟩, by kernel_rfl, by decide⟩
instance Tryz.agg260 : AggOf Tryz.prog 260 7 := ⟨⟨_, Tryz.underlying260, rfl⟩, by kernel_rfl, by decide⟩
instance Tryz.agg319 : AggOf Tryz.prog 319 7 := ⟨⟨_, Tryz.underlying319, rfl⟩, by kernel_rfl, by decide⟩
instance Tryz.agg331 : AggOf Tryz.prog 331 16 := ⟨⟨_, Tryz.underlying331, rfl⟩, by kernel_rfl, by decide⟩
instance Tryz.agg373 : AggOf Tryz.prog 373 64 := ⟨⟨_, Tryz.underlying373, rfl⟩, by kernel_rfl, by decide⟩
instance Tryz.agg377 : AggOf Tryz.prog 377 64 := ⟨⟨_, Tryz.underlying377, rfl⟩, by kernel_rfl, by decide⟩
instance Tryz.agg379 : AggOf Tryz.prog 379 8 := ⟨⟨_, Tryz.underlying379, rfl⟩, by kernel_rfl, by decide⟩
instance Tryz.agg386 : AggOf Tryz.prog 386 16 := ⟨⟨_, Tryz.underlying386, rfl⟩, by kernel_rfl, by decide⟩
instance Tryz.agg389 : AggOf Tryz.prog 389 32 := ⟨⟨_, Tryz.underlying389, rfl⟩, by kernel_rfl, by decide⟩
instance Tryz.agg399 : AggOf Tryz.prog 399 2 := ⟨⟨_, Tryz.underlying399, rfl⟩, by kernel_rfl, by decide⟩
instance Tryz.agg400 : AggOf Tryz.prog 400 3 := ⟨⟨_, Tryz.underlying400, rfl⟩, by kernel_rfl, by decide⟩
instance Tryz.agg401 : AggOf Tryz.prog 401 3 := ⟨⟨_, Tryz.underlying401, rfl⟩, by kernel_rfl, by decide⟩
instance Tryz.agg415 : AggOf Tryz.prog 415 16 := ⟨⟨_, Tryz.underlying415, rfl⟩, by kernel_rfl, by decide⟩
instance Tryz.build27 : BuildOf Tryz.prog 27 [(0, 1), (1, 1), (2, 1), (3, 1), (4, 1), (5, 1), (6, 1), (7, 1), (8, 1), (9, 1), (10, 1), (11, 1), (12, 1), (13, 1), (14, 1), (15, 1), (16, 1), (17, 1), (18, 1), (19, 1), (20, 1), (21, 1), (22, 1), (23, 1), (24, 1), (25, 1), (26, 1), (27, 1), (28, 1), (29, 1), (30, 1), (31, 1)] (zeros 32 (.int .u8 0)) := buildOf_array (size := 1) Tryz.underlying27 (fun _ => by kernel_rfl) (fun _ => by kernel_rfl) rfl
instance Tryz.build28 : BuildOf Tryz.prog 28 [(0, 1), (1, 1), (2, 1), (3, 1), (4, 1), (5, 1), (6, 1), (7, 1), (8, 1), (9, 1), (10, 1), (11, 1), (12, 1), (13, 1), (14, 1), (15, 1), (16, 1), (17, 1), (18, 1), (19, 1), (20, 1), (21, 1), (22, 1), (23, 1), (24, 1), (25, 1), (26, 1), (27, 1), (28, 1), (29, 1), (30, 1), (31, 1)] (zeros 32 (.int .u8 0)) := buildOf_array (size := 1) Tryz.underlying28 (fun _ => by kernel_rfl) (fun _ => by kernel_rfl) rfl
instance Tryz.build38 : BuildOf Tryz.prog 38 [(0, 1), (1, 1), (2, 1)] (zeros 3 (.int .i64 0)) := buildOf_struct Tryz.underlying38 (fun _ => by kernel_rfl) (fun _ => by kernel_rfl)
instance Tryz.build41 : BuildOf Tryz.prog 41 [(0, 8), (8, 3), (11, 1), (12, 1)] (zeros 8 (.int .u8 0) ++ (zeros 4 (.int .i64 0) ++ ((.slice none 0 0) :: []))) := buildOf_struct Tryz.underlying41 (fun _ => by kernel_rfl) (fun _ => by kernel_rfl)
instance Tryz.build44 : BuildOf Tryz.prog 44 [(0, 1), (1, 1), (2, 1), (3, 1)] (zeros 4 (.int .i64 0)) := buildOf_struct Tryz.underlying44 (fun _ => by kernel_rfl) (fun _ => by kernel_rfl)
instance Tryz.build54 : BuildOf Tryz.prog 54 [(0, 1), (1, 1), (2, 1)] ((.int .i64 0) :: ((.bool false) :: ((.string ⟨#[]⟩) :: []))) := buildOf_struct Tryz.underlying54 (fun _ => by kernel_rfl) (fun _ => by kernel_rfl)
instance Tryz.build57 : BuildOf Tryz.prog 57 [(0, 1), (1, 1), (2, 1), (3, 1), (4, 1), (5, 1), (6, 1), (7, 32)] ((.int .i64 0) :: ((.slice none 0 0) :: (zeros 2 (.int .i64 0) ++ ((.bool false) :: ((.int .i64 0) :: ((.bool false) :: (zeros 32 (.int .u8 0)))))))) := buildOf_struct Tryz.underlying57 (fun _ => by kernel_rfl) (fun _ => by kernel_rfl)
instance Tryz.build76 : BuildOf Tryz.prog 76 [(0, 1), (1, 1), (2, 1), (3, 1), (4, 1)] (zeros 5 (.int .i64 0)) := buildOf_struct Tryz.underlying76 (fun _ => by kernel_rfl) (fun _ => by kernel_rfl)
instance Tryz.build81 : BuildOf Tryz.prog 81 [(0, 1), (1, 1)] ((.int .i64 0) :: ((.slice none 0 0) :: [])) := buildOf_struct Tryz.underlying81 (fun _ => by kernel_rfl) (fun _ => by kernel_rfl)
instance Tryz.build83 : BuildOf Tryz.prog 83 [(0, 2), (2, 1), (3, 1)] ((.int .i64 0) :: ((.slice none 0 0) :: (zeros 2 (.int .i64 0)))) := buildOf_struct Tryz.underlying83 (fun _ => by kernel_rfl) (fun _ => by kernel_rfl)
instance Tryz.build85 : BuildOf Tryz.prog 85 [(0, 4), (4, 1), (5, 1), (6, 1), (7, 32)] ((.int .i64 0) :: ((.slice none 0 0) :: (zeros 2 (.int .i64 0) ++ ((.bool false) :: ((.int .i64 0) :: ((.bool false) :: (zeros 32 (.int .u8 0)))))))) := buildOf_struct Tryz.underlying85 (fun _ => by kernel_rfl) (fun _ => by kernel_rfl)
instance Tryz.build90 : BuildOf Tryz.prog 90 [(0, 1), (1, 1)] ((.int .i64 0) :: ((.string ⟨#[]⟩) :: [])) := buildOf_struct Tryz.underlying90 (fun _ => by kernel_rfl) (fun _ => by kernel_rfl)
instance Tryz.build96 : BuildOf Tryz.prog 96 [(0, 1), (1, 1), (2, 1), (3, 1), (4, 1), (5, 1)] (zeros 6 (.int .u8 0)) := buildOf_array (size := 1) Tryz.underlying96 (fun _ => by kernel_rfl) (fun _ => by kernel_rfl) rfl
instance Tryz.build102 : BuildOf Tryz.prog 102 [(0, 13), (13, 6), (19, 1), (20, 1), (21, 1), (22, 1), (23, 1), (24, 1)] (zeros 8 (.int .u8 0) ++ (zeros 4 (.int .i64 0) ++ ((.slice none 0 0) :: (zeros 6 (.int .u8 0) ++ (zeros 2 (.pointer none) ++ ((.slice none 0 0) :: ((.pointer none) :: ((.int .u32 0) :: ((.int .i64 0) :: []))))))))) := buildOf_struct Tryz.underlying102 (fun _ => by kernel_rfl) (fun _ => by kernel_rfl)
instance Tryz.build114 : BuildOf Tryz.prog 114 [(0, 1), (1, 1), (2, 1), (3, 1), (4, 1)] ((.pointer none) :: ((.map none) :: ((.int .i64 0) :: ((.bool false) :: ((.int .i64 0) :: []))))) := buildOf_struct Tryz.underlying114 (fun _ => by kernel_rfl) (fun _ => by kernel_rfl)
instance Tryz.build129 : BuildOf Tryz.prog 129 [(0, 1), (1, 1), (2, 1), (3, 1), (4, 5)] ((.slice none 0 0) :: ((.int .i64 0) :: (zeros 2 (.slice none 0 0) ++ (zeros 5 (.int .i64 0))))) := buildOf_struct Tryz.underlying129 (fun _ => by kernel_rfl) (fun _ => by kernel_rfl)
instance Tryz.build131 : BuildOf Tryz.prog 131 [(0, 1), (1, 1), (2, 1), (3, 1), (4, 1)] ((.int .i64 0) :: ((.slice none 0 0) :: (zeros 3 (.int .i64 0)))) := buildOf_struct Tryz.underlying131 (fun _ => by kernel_rfl) (fun _ => by kernel_rfl)
instance Tryz.build145 : BuildOf Tryz.prog 145 [(0, 1), (1, 2), (3, 1)] ((.int .i64 0) :: (zeros 2 (.slice none 0 0) ++ ((.int .i64 0) :: []))) := buildOf_struct Tryz.underlying145 (fun _ => by kernel_rfl) (fun _ => by kernel_rfl)
instance Tryz.build150 : BuildOf Tryz.prog 150 [(0, 32), (32, 1), (33, 4), (37, 1), (38, 3), (41, 1), (42, 1), (43, 1), (44, 1)] (zeros 32 (.int .u8 0) ++ ((.bool false) :: (zeros 5 (.int .i64 0) ++ (zeros 4 (.pointer none) ++ (zeros 3 (.int .i64 0)))))) := buildOf_struct Tryz.underlying150 (fun _ => by kernel_rfl) (fun _ => by kernel_rfl)
instance Tryz.build161 : BuildOf Tryz.prog 161 [(0, 1), (1, 1), (2, 1), (3, 1), (4, 5)] (zeros 2 (.slice none 0 0) ++ (zeros 2 (.pointer none) ++ (zeros 5 (.int .i64 0)))) := buildOf_struct Tryz.underlying161 (fun _ => by kernel_rfl) (fun _ => by kernel_rfl)
instance Tryz.build167 : BuildOf Tryz.prog 167 [(0, 8), (8, 1), (9, 8), (17, 1)] (zeros 8 (.int .u8 0) ++ ((.int .i64 0) :: (zeros 8 (.int .u8 0) ++ ((.int .i64 0) :: [])))) := buildOf_struct Tryz.underlying167 (fun _ => by kernel_rfl) (fun _ => by kernel_rfl)
instance Tryz.build169 : BuildOf Tryz.prog 169 [(0, 8), (8, 3), (11, 1), (12, 18), (30, 1), (31, 1), (32, 1)] (zeros 8 (.int .u8 0) ++ (zeros 3 (.int .i64 0) ++ ((.slice none 0 0) :: (zeros 8 (.int .u8 0) ++ ((.int .i64 0) :: (zeros 8 (.int .u8 0) ++ (zeros 4 (.int .i64 0)))))))) := buildOf_struct Tryz.underlying169 (fun _ => by kernel_rfl) (fun _ => by kernel_rfl)
instance Tryz.build174 : BuildOf Tryz.prog 174 [(0, 1), (1, 1), (2, 1), (3, 24), (27, 1), (28, 1), (29, 1)] ((.int .i64 0) :: (zeros 2 (.bool false) ++ (zeros 16 (.int .u8 0) ++ (zeros 6 (.int .i64 0) ++ (zeros 2 (.bool false) ++ (zeros 3 (.int .i64 0))))))) := buildOf_struct Tryz.underlying174 (fun _ => by kernel_rfl) (fun _ => by kernel_rfl)
instance Tryz.build176 : BuildOf Tryz.prog 176 [(0, 32), (32, 32)] (zeros 64 (.int .u8 0)) := buildOf_struct Tryz.underlying176 (fun _ => by kernel_rfl) (fun _ => by kernel_rfl)
instance Tryz.build183 : BuildOf Tryz.prog 183 [(0, 64), (64, 1), (65, 1), (66, 3), (69, 1), (70, 1), (71, 1)] (zeros 64 (.int .u8 0) ++ ((.int .i64 0) :: (zeros 3 (.int .u64 0) ++ ((.bool false) :: (zeros 3 (.int .i64 0)))))) := buildOf_struct Tryz.underlying183 (fun _ => by kernel_rfl) (fun _ => by kernel_rfl)
instance Tryz.build192 : BuildOf Tryz.prog 192 [(0, 6), (6, 6), (12, 1), (13, 1)] (zeros 12 (.int .u8 0) ++ ((.int .i64 0) :: ((.string ⟨#[]⟩) :: []))) := buildOf_struct Tryz.underlying192 (fun _ => by kernel_rfl) (fun _ => by kernel_rfl)
instance Tryz.build194 : BuildOf Tryz.prog 194 [(0, 14), (14, 1), (15, 1)] (zeros 12 (.int .u8 0) ++ ((.int .i64 0) :: ((.string ⟨#[]⟩) :: (zeros 2 (.int .i64 0))))) := buildOf_struct Tryz.underlying194 (fun _ => by kernel_rfl) (fun _ => by kernel_rfl)
instance Tryz.build206 : BuildOf Tryz.prog 206 [(0, 1), (1, 1)] ((.int .i64 0) :: ((.string ⟨#[]⟩) :: [])) := buildOf_struct Tryz.underlying206 (fun _ => by kernel_rfl) (fun _ => by kernel_rfl)
instance Tryz.build210 : BuildOf Tryz.prog 210 [(0, 1), (1, 1), (2, 1)] ((.int .i64 0) :: ((.int .u64 0) :: ((.string ⟨#[]⟩) :: []))) := buildOf_struct Tryz.underlying210 (fun _ => by kernel_rfl) (fun _ => by kernel_rfl)
instance Tryz.build242 : BuildOf Tryz.prog 242 [(0, 1), (1, 1), (2, 1)] ((.int .i64 0) :: ((.slice none 0 0) :: ((.map none) :: []))) := buildOf_struct Tryz.underlying242 (fun _ => by kernel_rfl) (fun _ => by kernel_rfl)
instance Tryz.build245 : BuildOf Tryz.prog 245 [(0, 1), (1, 1)] ((.int .i64 0) :: ((.map none) :: [])) := buildOf_struct Tryz.underlying245 (fun _ => by kernel_rfl) (fun _ => by kernel_rfl)
instance Tryz.build249 : BuildOf Tryz.prog 249 [(0, 1), (1, 1), (2, 1)] (zeros 2 (.int .i64 0) ++ ((.bool false) :: [])) := buildOf_struct Tryz.underlying249 (fun _ => by kernel_rfl) (fun _ => by kernel_rfl)
instance Tryz.build256 : BuildOf Tryz.prog 256 [(0, 1), (1, 6)] ((.int .i64 0) :: (zeros 6 (.int .u8 0))) := buildOf_struct Tryz.underlying256 (fun _ => by kernel_rfl) (fun _ => by kernel_rfl)
instance Tryz.build258 : BuildOf Tryz.prog 258 [(0, 1), (1, 1)] ((.int .i64 0) :: ((.string ⟨#[]⟩) :: [])) := buildOf_struct Tryz.underlying258 (fun _ => by kernel_rfl) (fun _ => by kernel_rfl)
instance Tryz.build260 : BuildOf Tryz.prog 260 [(0, 6), (6, 1)] (zeros 6 (.int .u8 0) ++ ((.int .i64 0) :: [])) := buildOf_struct Tryz.underlying260 (fun _ => by kernel_rfl) (fun _ => by kernel_rfl)
instance Tryz.build312 : BuildOf Tryz.prog 312 [(0, 1)] ((.string ⟨#[]⟩) :: []) := buildOf_struct Tryz.underlying312 (fun _ => by kernel_rfl) (fun _ => by kernel_rfl)
instance Tryz.build319 : BuildOf Tryz.prog 319 [(0, 1), (1, 6)] ((.string ⟨#[]⟩) :: (zeros 6 (.int .u8 0))) := buildOf_struct Tryz.underlying319 (fun _ => by kernel_rfl) (fun _ => by kernel_rfl)
instance Tryz.build331 : BuildOf Tryz.prog 331 [(0, 1), (1, 1), (2, 1), (3, 1), (4, 1), (5, 1), (6, 1), (7, 1), (8, 1), (9, 1), (10, 1), (11, 1), (12, 1), (13, 1), (14, 1), (15, 1)] (zeros 16 (.int .u8 0)) := buildOf_array (size := 1) Tryz.underlying331 (fun _ => by kernel_rfl) (fun _ => by kernel_rfl) rfl
instance Tryz.build347 : BuildOf Tryz.prog 347 [(0, 32), (32, 32), (64, 32), (96, 1), (97, 32)] (zeros 96 (.int .u8 0) ++ ((.int .u64 0) :: (zeros 32 (.int .u8 0)))) := buildOf_struct Tryz.underlying347 (fun _ => by kernel_rfl) (fun _ => by kernel_rfl)
instance Tryz.build373 : BuildOf Tryz.prog 373 [(0, 1), (1, 1), (2, 1), (3, 1), (4, 1), (5, 1), (6, 1), (7, 1), (8, 1), (9, 1), (10, 1), (11, 1), (12, 1), (13, 1), (14, 1), (15, 1), (16, 1), (17, 1), (18, 1), (19, 1), (20, 1), (21, 1), (22, 1), (23, 1), (24, 1), (25, 1), (26, 1), (27, 1), (28, 1), (29, 1), (30, 1), (31, 1), (32, 1), (33, 1), (34, 1), (35, 1), (36, 1), (37, 1), (38, 1), (39, 1), (40, 1), (41, 1), (42, 1), (43, 1), (44, 1), (45, 1), (46, 1), (47, 1), (48, 1), (49, 1), (50, 1), (51, 1), (52, 1), (53, 1), (54, 1), (55, 1), (56, 1), (57, 1), (58, 1), (59, 1), (60, 1), (61, 1), (62, 1), (63, 1)] (zeros 64 (.int .u8 0)) := buildOf_array (size := 1) Tryz.underlying373 (fun _ => by kernel_rfl) (fun _ => by kernel_rfl) rfl
instance Tryz.build377 : BuildOf Tryz.prog 377 [(0, 1), (1, 1), (2, 1), (3, 1), (4, 1), (5, 1), (6, 1), (7, 1), (8, 1), (9, 1), (10, 1), (11, 1), (12, 1), (13, 1), (14, 1), (15, 1), (16, 1), (17, 1), (18, 1), (19, 1), (20, 1), (21, 1), (22, 1), (23, 1), (24, 1), (25, 1), (26, 1), (27, 1), (28, 1), (29, 1), (30, 1), (31, 1), (32, 1), (33, 1), (34, 1), (35, 1), (36, 1), (37, 1), (38, 1), (39, 1), (40, 1), (41, 1), (42, 1), (43, 1), (44, 1), (45, 1), (46, 1), (47, 1), (48, 1), (49, 1), (50, 1), (51, 1), (52, 1), (53, 1), (54, 1), (55, 1), (56, 1), (57, 1), (58, 1), (59, 1), (60, 1), (61, 1), (62, 1), (63, 1)] (zeros 64 (.int .u32 0)) := buildOf_array (size := 1) Tryz.underlying377 (fun _ => by kernel_rfl) (fun _ => by kernel_rfl) rfl
instance Tryz.build379 : BuildOf Tryz.prog 379 [(0, 1), (1, 1), (2, 1), (3, 1), (4, 1), (5, 1), (6, 1), (7, 1)] (zeros 8 (.int .u32 0)) := buildOf_array (size := 1) Tryz.underlying379 (fun _ => by kernel_rfl) (fun _ => by kernel_rfl) rfl
instance Tryz.build386 : BuildOf Tryz.prog 386 [(0, 1), (1, 1), (2, 1), (3, 1), (4, 1), (5, 1), (6, 1), (7, 1), (8, 1), (9, 1), (10, 1), (11, 1), (12, 1), (13, 1), (14, 1), (15, 1)] (zeros 16 (.int .i64 0)) := buildOf_array (size := 1) Tryz.underlying386 (fun _ => by kernel_rfl) (fun _ => by kernel_rfl) rfl
instance Tryz.build389 : BuildOf Tryz.prog 389 [(0, 16), (16, 16)] (zeros 32 (.int .i64 0)) := buildOf_struct Tryz.underlying389 (fun _ => by kernel_rfl) (fun _ => by kernel_rfl)
instance Tryz.build399 : BuildOf Tryz.prog 399 [(0, 1), (1, 1)] (zeros 2 (.int .u64 0)) := buildOf_array (size := 1) Tryz.underlying399 (fun _ => by kernel_rfl) (fun _ => by kernel_rfl) rfl
instance Tryz.build400 : BuildOf Tryz.prog 400 [(0, 1), (1, 1), (2, 1)] (zeros 3 (.int .u64 0)) := buildOf_array (size := 1) Tryz.underlying400 (fun _ => by kernel_rfl) (fun _ => by kernel_rfl) rfl
instance Tryz.build401 : BuildOf Tryz.prog 401 [(0, 1), (1, 1), (2, 1)] (zeros 3 (.int .u64 0)) := buildOf_array (size := 1) Tryz.underlying401 (fun _ => by kernel_rfl) (fun _ => by kernel_rfl) rfl
instance Tryz.build408 : BuildOf Tryz.prog 408 [(0, 1), (1, 1)] ((.pointer none) :: ((.slice none 0 0) :: [])) := buildOf_struct Tryz.underlying408 (fun _ => by kernel_rfl) (fun _ => by kernel_rfl)
instance Tryz.build415 : BuildOf Tryz.prog 415 [(0, 1), (1, 1), (2, 1), (3, 1), (4, 1), (5, 1), (6, 1), (7, 1), (8, 1), (9, 1), (10, 1), (11, 1), (12, 1), (13, 1), (14, 1), (15, 1)] (zeros 16 (.int .u32 0)) := buildOf_array (size := 1) Tryz.underlying415 (fun _ => by kernel_rfl) (fun _ => by kernel_rfl) rfl
instance Tryz.build422 : BuildOf Tryz.prog 422 [(0, 1), (1, 1), (2, 1), (3, 1), (4, 1), (5, 1), (6, 1), (7, 1), (8, 1), (9, 1), (10, 1), (11, 1), (12, 1), (13, 1), (14, 1), (15, 1), (16, 1), (17, 1), (18, 1), (19, 1), (20, 1), (21, 1), (22, 1), (23, 1), (24, 1), (25, 1), (26, 1), (27, 1), (28, 1), (29, 1), (30, 1)] (zeros 31 (.int .i64 0)) := buildOf_array (size := 1) Tryz.underlying422 (fun _ => by kernel_rfl) (fun _ => by kernel_rfl) rfl
instance Tryz.build430 : BuildOf Tryz.prog 430 [(0, 1), (1, 1), (2, 1), (3, 1)] (zeros 4 (.int .u64 0)) := buildOf_array (size := 1) Tryz.underlying430 (fun _ => by kernel_rfl) (fun _ => by kernel_rfl) rfl
instance Tryz.str9 : StrOf Tryz.prog 9 := ⟨Tryz.underlying9⟩
instance Tryz.arr28 : ArrLen Tryz.prog 28 32 := ⟨_, Tryz.underlying28⟩
instance Tryz.arr96 : ArrLen Tryz.prog 96 6 := ⟨_, Tryz.underlying96⟩
instance Tryz.bytes201 : BytesOf Tryz.prog 201 5 := ⟨Tryz.underlying201, Tryz.underlying5, by kernel_rfl⟩
end
section
open Go.RowKit
inductive Leaf where
 | int (k : IntKind) | bool | str
def Leaf.ok : Leaf → Value → Bool
 | .int k, .int k' _ => k == k'
 | .bool, .bool _ => true
 | .str, .string _ => true
 | _, _ => false
def veq : Value → Value → Bool
 | .int _ a, .int _ b => a == b
 | .bool a, .bool b => a == b
 | .string a, .string b => a.toList == b.toList
 | _, _ => false
def fits : List Leaf → List Value → Bool
 | [], [] => true
 | l :: ls, v :: vs => l.ok v && fits ls vs
 | _, _ => false
def ceq : List Value → List Value → Bool
 | [], [] => true
 | v :: vs, u :: us => veq v u && ceq vs us
 | _, _ => false
theorem fits_length : ∀ {ls : List Leaf} {vs : List Value}, fits ls vs = true → vs.length = ls.length
 | [], [], _ => rfl
 | _ :: _, _ :: _, h => by simp only [fits, Bool.and_eq_true] at h; simp [fits_length h.2]
 | [], _ :: _, h => by simp [fits] at h
 | _ :: _, [], h => by simp [fits] at h
theorem fits_append : ∀ {l1 l2 : List Leaf} {vs : List Value}, fits (l1 ++ l2) vs = true → fits l1 (vs.take l1.length) = true ∧ fits l2 (vs.drop l1.length) = true
 | [], _, _, h => ⟨rfl, by simpa using h⟩
 | _ :: l1, l2, v :: vs, h => by
  simp only [List.cons_append, fits, Bool.and_eq_true] at h
  have := fits_append h.2
  simp only [List.length_cons, List.take_succ_cons, List.drop_succ_cons, fits, Bool.and_eq_true]
  exact ⟨⟨h.1, this.1⟩, this.2⟩
 | _ :: _, _, [], h => by simp [fits] at h
theorem ceq_append : ∀ (a b c d : List Value), a.length = b.length → ceq (a ++ c) (b ++ d) = (ceq a b && ceq c d)
 | [], [], _, _, _ => by simp [ceq]
 | x :: a, y :: b, c, d, h => by
  simp only [List.cons_append, ceq, ceq_append a b c d (by simpa using h), Bool.and_assoc]
 | [], _ :: _, _, _, h => by simp at h
 | _ :: _, [], _, _, h => by simp at h
theorem ceq_refl : ∀ {ls : List Leaf} {vs : List Value}, fits ls vs = true → ceq vs vs = true
 | [], [], _ => rfl
 | l :: ls, v :: vs, h => by
  simp only [fits, Bool.and_eq_true] at h
  have hv : veq v v = true := by
   have := h.1
   cases l <;> cases v <;> simp [Leaf.ok] at this <;> simp [veq]
  simp only [ceq, hv, ceq_refl h.2, Bool.and_self]
 | [], _ :: _, h => by simp [fits] at h
 | _ :: _, [], h => by simp [fits] at h
def mkV (agg : Bool) (vs : List Value) : Value := if agg then .agg vs.toArray else vs.headD undef
structure PlainT (P : Program) (D : Nat) (t : TypeId) (agg : Bool) (ls : List Leaf) : Prop where
 size : (P.info? t).map (·.size) = some ls.length
 isAgg : ∀ w, (isAgg t).run P w = .ok agg w
 one : agg = false → ls.length = 1
 eq : ∀ (d : Nat) (w : World) (xs ys : List Value), D ≤ d → fits ls xs = true → fits ls ys = true → (Op.equalIn d t (mkV agg xs) (mkV agg ys)).run P w = .ok (ceq xs ys) w
section
variable {P : Program}
theorem plain_int {t : TypeId} {k : IntKind} (hu : P.underlying t = some (.int k)) (hs : (P.info? t).map (·.size) = some 1) (k' : IntKind) : PlainT P 1 t false [.int k'] := by
 refine ⟨hs, fun w => ?_, fun _ => rfl, fun d w xs ys hd hx hy => ?_⟩
 ·
  unfold Go.isAgg; rw [Sem.run_bind, run_underlying hu w]; rfl
 ·
  obtain ⟨x, rfl⟩ := List.length_eq_one_iff.1 (fits_length hx)
  obtain ⟨y, rfl⟩ := List.length_eq_one_iff.1 (fits_length hy)
  cases x <;> simp [fits, Leaf.ok] at hx
  cases y <;> simp [fits, Leaf.ok] at hy
  ·
   subst hx; subst hy
   obtain ⟨e, rfl⟩ : ∃ e, d = e + 1 := ⟨d - 1, by omega⟩
   simp [mkV, Op.equalIn, run_underlying hu, ceq, veq]
theorem plain_str {t : TypeId} (hu : P.underlying t = some .string) (hs : (P.info? t).map (·.size) = some 1) : PlainT P 1 t false [.str] := by
 refine ⟨hs, fun w => ?_, fun _ => rfl, fun d w xs ys hd hx hy => ?_⟩
 ·
  unfold Go.isAgg; rw [Sem.run_bind, run_underlying hu w]; rfl
 ·
  obtain ⟨x, rfl⟩ := List.length_eq_one_iff.1 (fits_length hx)
  obtain ⟨y, rfl⟩ := List.length_eq_one_iff.1 (fits_length hy)
  cases x <;> simp [fits, Leaf.ok] at hx
  cases y <;> simp [fits, Leaf.ok] at hy
  ·
   skip
   obtain ⟨e, rfl⟩ : ∃ e, d = e + 1 := ⟨d - 1, by omega⟩
   simp [mkV, Op.equalIn, run_underlying hu, ceq, veq, beq_toListBytes]
theorem run_part {D : Nat} {t : TypeId} {agg : Bool} {ls : List Leaf} (h : PlainT P D t agg ls) (xs : List Value) (off : Nat) (w : World) (ho : off + ls.length ≤ xs.length) :
  (part t xs.toArray off).run P w = .ok (mkV agg ((xs.drop off).take ls.length)) w := by
 unfold part
 rw [Sem.run_bind, h.isAgg w]
 cases agg with
 | true =>
  cases hq : P.info? t with
  | none => have := h.size; simp [hq] at this
  | some i =>
   have hs : i.size = ls.length := by have := h.size; simpa [hq] using this
   simp [sizeOf, typeInfo, hq, hs, mkV]
 | false =>
  have h1 := h.one rfl
  simp only [Result.andThen_ok, Bool.false_eq_true, if_false]
  have hlt : off < xs.length := by omega
  have : (xs.drop off).take ls.length = [xs[off]] := by
   rw [h1, List.drop_eq_getElem_cons hlt]; rfl
  rw [this]
  simp [hlt, mkV]
theorem plain_eqFields {D : Nat} : ∀ (fs : List Field) (off : Nat) (ls : List Leaf) (ts : List (Bool × List Leaf)), (∀ f ∈ fs, f.name ≠ "_") → fs.length = ts.length → ls = (ts.map (·.2)).flatten →
  (∀ (i : Nat) (f : Field) (q : Bool × List Leaf), fs[i]? = some f → ts[i]? = some q → PlainT P D f.type q.1 q.2 ∧ f.offset = off + ((ts.take i).map (·.2.length)).sum) →
  ∀ (d : Nat) (w : World) (pre1 pre2 xs ys : List Value), D ≤ d → pre1.length = off → pre2.length = off → fits ls xs = true → fits ls ys = true →
   (Op.eqFields d (pre1 ++ xs).toArray (pre2 ++ ys).toArray fs).run P w = .ok (ceq xs ys) w := by
 intro fs
 induction fs with
 | nil =>
  intro off ls ts _ hl hls _ d w pre1 pre2 xs ys _ _ _ hx hy
  have : ts = [] := List.eq_nil_of_length_eq_zero hl.symm
  subst this
  simp at hls
  subst hls
  have h1 := List.eq_nil_of_length_eq_zero (fits_length hx)
  have h2 := List.eq_nil_of_length_eq_zero (fits_length hy)
  subst h1; subst h2
  simp [Op.eqFields, ceq]
 | cons f fs ih =>
  intro off ls ts hn hl hls hf d w pre1 pre2 xs ys hd h1 h2 hx hy
  cases ts with
  | nil => simp at hl
  | cons q ts =>
   obtain ⟨ag, l1⟩ := q
   simp only [List.map_cons, List.flatten_cons] at hls
   subst hls
   obtain ⟨hp, ho⟩ := hf 0 f (ag, l1) rfl rfl
   simp at ho
   obtain ⟨x1, x2⟩ := fits_append hx
   obtain ⟨y1, y2⟩ := fits_append hy
   have lx := fits_length hx
   have ly := fits_length hy
   have nn : f.name ≠ "_" := hn f (by simp)
   have lx1 := fits_length x1
   have ly1 := fits_length y1
   simp only [Op.eqFields, nn, ne_eq, not_false_eq_true, if_true, Sem.run_bind]
   replace hp : PlainT P D f.type ag l1 := hp
   rw [run_part hp (pre1 ++ xs) f.offset w (by simp at lx ⊢; omega)]
   simp only [Result.andThen_ok]
   rw [run_part hp (pre2 ++ ys) f.offset w (by simp at ly ⊢; omega)]
   simp only [Result.andThen_ok]
   have ex : ((pre1 ++ xs).drop f.offset).take l1.length = xs.take l1.length := by rw [ho, ← h1, List.drop_left]
   have ey : ((pre2 ++ ys).drop f.offset).take l1.length = ys.take l1.length := by rw [ho, ← h2, List.drop_left]
   rw [ex, ey, hp.eq d w _ _ hd x1 y1]
   have hc : ceq xs ys = (ceq (xs.take l1.length) (ys.take l1.length) && ceq (xs.drop l1.length) (ys.drop l1.length)) := by
    rw [← ceq_append _ _ _ _ (by rw [lx1, ly1]), List.take_append_drop, List.take_append_drop]
   rw [hc]
   simp only [Result.andThen_ok]
   cases hq : ceq (xs.take l1.length) (ys.take l1.length) with
   | false => simp
   | true =>
    simp only [Bool.not_true, Bool.false_eq_true, if_false, Bool.true_and]
    have := ih (off + l1.length) _ ts (fun g hg => hn g (by simp [hg])) (by simpa using hl) rfl (fun i g q hg hq => by
     obtain ⟨a1, a2⟩ := hf (i + 1) g q hg hq
     refine ⟨a1, ?_⟩
     simp only [List.take_succ_cons, List.map_cons, List.sum_cons] at a2
     omega) d w (pre1 ++ xs.take l1.length) (pre2 ++ ys.take l1.length) (xs.drop l1.length) (ys.drop l1.length) hd (by simp [h1, lx1]) (by simp [h2, ly1]) x2 y2
    simpa [List.append_assoc] using this
def eqElems (d : Nat) (elem : TypeId) (n : Nat) (xs ys : Array Value) : List Nat → Sem Bool
 | [] => pure true
 | i :: is => do
  let a ← part elem xs (i * n)
  let b ← part elem ys (i * n)
  let r ← Op.equalIn d elem a b
  if (!r) = true then pure false else eqElems d elem n xs ys is
theorem run_equalIn_array (w : World) (d : Nat) (t e : TypeId) (len n : Nat) (xs ys : Array Value) (ht : P.underlying t = some (.array len e)) (hs : ∀ w, (sizeOf e).run P w = .ok n w) :
  (Op.equalIn (d + 1) t (.agg xs) (.agg ys)).run P w = (eqElems d e n xs ys (List.range len)).run P w := by
 simp only [Op.equalIn, Sem.run_bind, run_underlying ht, Result.andThen_ok, hs, Std.Legacy.Range.forIn_eq_forIn_range', Std.Legacy.Range.size]
 have hr : List.range' 0 ((len - 0 + 1 - 1) / 1) 1 = List.range len := by
  rw [List.range_eq_range']
  simp
 rw [hr]
 generalize List.range len = l
 induction l generalizing w with
 | nil => simp [eqElems]
 | cons i l ih =>
  simp only [List.forIn_cons, eqElems, Sem.run_bind]
  generalize (part e xs (i * n)).run P w = r1
  cases r1 with
  | ok a w1 =>
   simp only [Result.andThen_ok]
   generalize (part e ys (i * n)).run P w1 = r2
   cases r2 with
   | ok b w2 =>
    simp only [Result.andThen_ok]
    generalize (Op.equalIn d e a b).run P w2 = r3
    cases r3 with
    | ok r w3 =>
     cases r
     ·
      simp only [Result.andThen_ok, Bool.not_false, if_true, Sem.run_pure]
     ·
      simp only [Result.andThen_ok, Bool.not_true, Bool.false_eq_true, if_false, Sem.run_pure]
      exact ih w3
    | halt x w3 => simp [Result.andThen]
   | halt x w2 => simp [Result.andThen]
  | halt x w1 => simp [Result.andThen]
theorem fits_flat {ls : List Leaf} : ∀ {n : Nat} {xs : List Value}, fits (List.replicate n ls).flatten xs = true → ∀ i, i < n → fits ls ((xs.drop (i * ls.length)).take ls.length) = true := by
 intro n
 induction n with
 | zero => intro xs _ i hi; omega
 | succ n ih =>
  intro xs h i hi
  rw [List.replicate_succ, List.flatten_cons] at h
  obtain ⟨h1, h2⟩ := fits_append h
  cases i with
  | zero => simpa using h1
  | succ i =>
   have := ih h2 i (by omega)
   rw [List.drop_drop] at this
   rw [show (i + 1) * ls.length = ls.length + i * ls.length by rw [Nat.succ_mul]; omega]
   exact this
theorem run_eqElems {D : Nat} {e : TypeId} {agg : Bool} {ls : List Leaf} (hp : PlainT P D e agg ls) (d : Nat) (hd : D ≤ d) (w : World) (xs ys : List Value) (len : Nat)
  (hx : fits (List.replicate len ls).flatten xs = true) (hy : fits (List.replicate len ls).flatten ys = true) : ∀ (m k : Nat), k + m = len →
  (eqElems d e ls.length xs.toArray ys.toArray (List.range' k m)).run P w = .ok (ceq (xs.drop (k * ls.length)) (ys.drop (k * ls.length))) w := by
 have lx : xs.length = len * ls.length := by rw [fits_length hx]; simp
 have ly : ys.length = len * ls.length := by rw [fits_length hy]; simp
 intro m
 induction m with
 | zero =>
  intro k hk
  obtain rfl : k = len := by omega
  rw [List.drop_of_length_le (by omega), List.drop_of_length_le (by omega)]
  simp [eqElems, ceq]
 | succ m ih =>
  intro k hk
  have hkl : k * ls.length + ls.length ≤ len * ls.length := by
   have := Nat.mul_le_mul_right ls.length (show k + 1 ≤ len by omega)
   rwa [Nat.succ_mul] at this
  simp only [List.range'_succ, eqElems, Sem.run_bind]
  rw [run_part hp xs _ w (by omega)]
  simp only [Result.andThen_ok]
  rw [run_part hp ys _ w (by omega)]
  simp only [Result.andThen_ok]
  have x1 := fits_flat hx k (by omega)
  have y1 := fits_flat hy k (by omega)
  rw [hp.eq d w _ _ hd x1 y1]
  have hc : ceq (xs.drop (k * ls.length)) (ys.drop (k * ls.length)) = (ceq ((xs.drop (k * ls.length)).take ls.length) ((ys.drop (k * ls.length)).take ls.length) && ceq (xs.drop ((k + 1) * ls.length)) (ys.drop ((k + 1) * ls.length))) := by
   rw [show (k + 1) * ls.length = k * ls.length + ls.length by rw [Nat.succ_mul], ← List.drop_drop, ← List.drop_drop, ← ceq_append _ _ _ _ (by rw [fits_length x1, fits_length y1]), List.take_append_drop, List.take_append_drop]
  rw [hc]
  simp only [Result.andThen_ok]
  cases hq : ceq ((xs.drop (k * ls.length)).take ls.length) ((ys.drop (k * ls.length)).take ls.length) with
  | false => simp
  | true =>
   simp only [Bool.not_true, Bool.false_eq_true, if_false, Bool.true_and]
   exact ih (k + 1) (by omega)
theorem plain_array {D : Nat} {t e : TypeId} {len : Nat} {agg : Bool} {ls : List Leaf} (hp : PlainT P D e agg ls) (hu : P.underlying t = some (.array len e)) (hs : (P.info? t).map (·.size) = some (List.replicate len ls).flatten.length) :
  PlainT P (D + 1) t true (List.replicate len ls).flatten := by
 refine ⟨hs, fun w => ?_, fun h => (by cases h), fun d w xs ys hd hx hy => ?_⟩
 ·
  unfold Go.isAgg; rw [Sem.run_bind, run_underlying hu w]; rfl
 ·
  obtain ⟨c, rfl⟩ : ∃ c, d = c + 1 := ⟨d - 1, by omega⟩
  simp only [mkV, if_true]
  rw [run_equalIn_array _ _ _ _ _ ls.length _ _ hu (fun w => by
   cases hq : P.info? e with
   | none => have := hp.size; simp [hq] at this
   | some i =>
    have : i.size = ls.length := by have := hp.size; simpa [hq] using this
    simp [sizeOf, typeInfo, hq, this])]
  have := run_eqElems hp c (by omega) w xs ys len hx hy len 0 (by omega)
  rw [List.range_eq_range']
  simpa using this
theorem plain_struct {D : Nat} {t : TypeId} {fs : Array Field} (ts : List (Bool × List Leaf)) (hu : P.underlying t = some (.struct fs)) (hf : P.fieldsOf t = fs) (hp : P.stoodInHeld t = false)
  (hs : (P.info? t).map (·.size) = some ((ts.map (·.2)).flatten).length) (hn : fs.toList.all (fun f => f.name != "_") = true) (hl : fs.toList.length = ts.length)
  (hfs : ∀ (i : Nat) (f : Field) (q : Bool × List Leaf), fs.toList[i]? = some f → ts[i]? = some q → PlainT P D f.type q.1 q.2 ∧ f.offset = 0 + ((ts.take i).map (·.2.length)).sum) :
  PlainT P (D + 1) t true ((ts.map (·.2)).flatten) := by
 refine ⟨hs, fun w => ?_, fun h => (by cases h), fun d w xs ys hd hx hy => ?_⟩
 ·
  unfold Go.isAgg; rw [Sem.run_bind, run_underlying hu w]; rfl
 ·
  obtain ⟨e, rfl⟩ : ∃ e, d = e + 1 := ⟨d - 1, by omega⟩
  simp only [mkV, if_true]
  rw [run_equalIn_agg _ _ _ _ _ (by rw [hf]; exact hu) hp, hf]
  have := plain_eqFields fs.toList 0 _ ts (fun f hfm => by
   have := List.all_eq_true.1 hn f hfm
   simpa using this) hl rfl hfs e w [] [] xs ys (by omega) rfl rfl hx hy
  simpa using this
theorem PlainT.mono {D D' : Nat} {t : TypeId} {agg : Bool} {ls : List Leaf} (h : PlainT P D t agg ls) (hd : D ≤ D') : PlainT P D' t agg ls :=
 ⟨h.size, h.isAgg, h.one, fun d w xs ys hh => h.eq d w xs ys (by omega)⟩
inductive PlainFs (P : Program) (D : Nat) : Nat → List Field → List (Bool × List Leaf) → Prop where
 | nil (off : Nat) : PlainFs P D off [] []
 | cons {off : Nat} {f : Field} {fs : List Field} {b : Bool} {ls : List Leaf} {ts : List (Bool × List Leaf)} (h : PlainT P D f.type b ls) (ho : f.offset = off) (r : PlainFs P D (off + ls.length) fs ts) : PlainFs P D off (f :: fs) ((b, ls) :: ts)
theorem PlainFs.at_ {D : Nat} : ∀ {off : Nat} {fs : List Field} {ts : List (Bool × List Leaf)}, PlainFs P D off fs ts → fs.length = ts.length ∧
  ∀ (i : Nat) (f : Field) (q : Bool × List Leaf), fs[i]? = some f → ts[i]? = some q → PlainT P D f.type q.1 q.2 ∧ f.offset = off + ((ts.take i).map (·.2.length)).sum := by
 intro off fs ts h
 induction h with
 | nil off => exact ⟨rfl, fun i f q h => by simp at h⟩
 | cons h ho r ih =>
  refine ⟨by simp [ih.1], fun i f q hf hq => ?_⟩
  cases i with
  | zero =>
   simp at hf hq
   subst hf; subst hq
   exact ⟨h, by simp [ho]⟩
  | succ i =>
   obtain ⟨h1, h2⟩ := ih.2 i f q hf hq
   refine ⟨h1, ?_⟩
   simp only [List.take_succ_cons, List.map_cons, List.sum_cons]
   omega
theorem plain_struct' {D : Nat} {t : TypeId} {fs : List Field} {ts : List (Bool × List Leaf)} (hu : P.underlying t = some (.struct fs.toArray)) (h : PlainFs P D 0 fs ts) (hf : P.fieldsOf t = fs.toArray) (hp : P.stoodInHeld t = false)
  (hs : (P.info? t).map (·.size) = some ((ts.map (·.2)).flatten).length) (hn : fs.all (fun f => f.name != "_") = true) :
  PlainT P (D + 1) t true ((ts.map (·.2)).flatten) :=
 plain_struct ts hu hf hp hs (by simpa using hn) (by simpa using h.at_.1) (by simpa using h.at_.2)
def leaves (n : Nat) (l : Leaf) : List Leaf := (List.replicate n [l]).flatten
theorem leaves_eq (n : Nat) (l : Leaf) : leaves n l = List.replicate n l := by
 unfold leaves
 induction n with
 | zero => rfl
 | succ n ih => rw [List.replicate_succ, List.flatten_cons, ih]; rfl
@[simp] theorem leaves_length (n : Nat) (l : Leaf) : (leaves n l).length = n := by simp [leaves_eq]
class PlainC (P : Program) (t : TypeId) (ls : outParam (List Leaf)) : Prop where
 plain : ∃ D, D ≤ 9000 ∧ PlainT P D t true ls
 guard : P.eqGuardType P.depth t = false
@[go_sem high] theorem run_eql_plain {w : World} {t : TypeId} {ls : List Leaf} {xs ys : Array Value} [hC : PlainC P t ls] (hx : fits ls xs.toList = true) (hy : fits ls ys.toList = true) :
  (binOp .eql t (.agg xs) (.agg ys)).run P w = .ok (.bool (ceq xs.toList ys.toList)) w := by
 obtain ⟨D, hD, h⟩ := hC.plain
 rw [run_eql_struct]
 have := h.eq 10000 w xs.toList ys.toList (by omega) hx hy
 simp only [mkV, if_true, Array.toArray_toList] at this
 rw [this]
 rfl
@[go_sem high] theorem run_neq_plain {w : World} {t : TypeId} {ls : List Leaf} {xs ys : Array Value} [hC : PlainC P t ls] (hx : fits ls xs.toList = true) (hy : fits ls ys.toList = true) :
  (binOp .neq t (.agg xs) (.agg ys)).run P w = .ok (.bool (!ceq xs.toList ys.toList)) w := by
 obtain ⟨D, hD, h⟩ := hC.plain
 rw [run_neq_struct]
 have := h.eq 10000 w xs.toList ys.toList (by omega) hx hy
 simp only [mkV, if_true, Array.toArray_toList] at this
 rw [this]
 rfl
@[go_sem high] theorem run_eqGuard_plain {w : World} {t : TypeId} {ls : List Leaf} {op : BinOp} {x y : Operand} {xs ys : Array Value} [hC : PlainC P t ls] : (eqGuard op t x y (.agg xs) (.agg ys)).run P w = .ok () w :=
 run_eqGuard_agg w op t x y xs ys hC.guard
end
/-! ### how fits and ceq are reckoned -/
attribute [go_sem] fits ceq veq
@[simp] theorem ok_int (k : IntKind) (n : Int) : (Leaf.int k).ok (.int k n) = true := by simp [Leaf.ok]
@[simp] theorem ok_bool (b : Bool) : Leaf.bool.ok (.bool b) = true := rfl
@[simp] theorem ok_str (s : ByteArray) : Leaf.str.ok (.string s) = true := rfl
theorem fits_rep {l : Leaf} : ∀ {n : Nat} {vs : List Value} {ls : List Leaf} {r : List Value}, vs.length = n → (∀ v ∈ vs, l.ok v = true) → fits (leaves n l ++ ls) (vs ++ r) = fits ls r := by
 intro n vs
 induction vs generalizing n with
 | nil => intro ls r h _; simp at h; subst h; rfl
 | cons v vs ih =>
  intro ls r h ho
  simp at h
  subst h
  have := ih (n := vs.length) (ls := ls) (r := r) rfl (fun u hu => ho u (by simp [hu]))
  rw [leaves_eq] at this ⊢
  simp [fits, List.replicate_succ, ho v (by simp), this]
theorem u8v_ok {n : Nat} (v : Vector UInt8 n) : ∀ u ∈ u8v v, (Leaf.int .u8).ok u = true := by
 intro u hu
 simp [u8v, u8s] at hu
 obtain ⟨b, _, rfl⟩ := hu
 rfl
@[simp] theorem fits_u8v {n : Nat} (v : Vector UInt8 n) (ls : List Leaf) (r : List Value) : fits (leaves n (.int .u8) ++ ls) (u8v v ++ r) = fits ls r := fits_rep (by simp) (u8v_ok v)
@[simp] theorem fits_u8v' {n : Nat} (v : Vector UInt8 n) : fits (leaves n (.int .u8)) (u8v v) = true := by
 have := fits_u8v v [] []
 simpa [fits] using this
@[simp] theorem fits_zeros (n m : Nat) (l : Leaf) (v : Value) (ls : List Leaf) (r : List Value) (h : n ≤ m) (ho : l.ok v = true) : fits (leaves n l ++ ls) (zeros m v ++ r) = fits ls (zeros (m - n) v ++ r) := by
 have : zeros m v = zeros n v ++ zeros (m - n) v := by
  unfold zeros
  rw [List.replicate_append_replicate]
  congr 1; omega
 rw [this, List.append_assoc]
 exact fits_rep (by simp) (by intro u hu; simp [zeros] at hu; rw [hu.2]; exact ho)
@[simp] theorem fits_zeros' (n m : Nat) (l : Leaf) (v : Value) (ls : List Leaf) (h : n ≤ m) (ho : l.ok v = true) : fits (leaves n l ++ ls) (zeros m v) = fits ls (zeros (m - n) v) := by
 have := fits_zeros n m l v ls [] h ho
 simpa using this
@[simp] theorem fits_zeros'' (n : Nat) (l : Leaf) (v : Value) (ho : l.ok v = true) : fits (leaves n l) (zeros n v) = true := by
 have := fits_zeros n n l v [] [] (Nat.le_refl _) ho
 simpa [fits] using this
theorem fits_cons_zeros (n : Nat) (l : Leaf) (v : Value) (ls : List Leaf) (h : 0 < n) (r : List Value) : fits (l :: ls) (zeros n v ++ r) = (l.ok v && fits ls (zeros (n - 1) v ++ r)) := by
 obtain ⟨m, rfl⟩ : ∃ m, n = m + 1 := ⟨n - 1, by omega⟩
 simp [zeros, List.replicate_succ, fits]
attribute [simp] fits_cons_zeros
theorem ceq_u8s : ∀ (a b : List UInt8), a.length = b.length → ceq (u8s a) (u8s b) = (a == b)
 | [], [], _ => rfl
 | x :: a, y :: b, h => by
  have := ceq_u8s a b (by simpa using h)
  simp only [u8s, List.map_cons, ceq, veq] at *
  rw [this]
  simp only [List.cons_beq_cons]
  congr 1
  rw [Bool.eq_iff_iff]
  simp only [beq_iff_eq]
  rw [← UInt8.toNat_inj]
  omega
 | [], _ :: _, h => by simp at h
 | _ :: _, [], h => by simp at h
theorem toList_beq {n : Nat} (a b : Vector UInt8 n) : (a.toList == b.toList) = (a == b) := by
 rw [Bool.eq_iff_iff]
 simp
@[simp] theorem ceq_u8v {n : Nat} (a b : Vector UInt8 n) : ceq (u8v a) (u8v b) = (a == b) := by
 unfold u8v
 rw [ceq_u8s _ _ (by simp), toList_beq]
@[simp] theorem ceq_u8v_append {n : Nat} (a b : Vector UInt8 n) (r s : List Value) : ceq (u8v a ++ r) (u8v b ++ s) = ((a == b) && ceq r s) := by
 rw [ceq_append _ _ _ _ (by simp), ceq_u8v]
theorem zeros_split (n m : Nat) (v : Value) (h : n ≤ m) : zeros m v = zeros n v ++ zeros (m - n) v := by
 unfold zeros
 rw [List.replicate_append_replicate]
 congr 1; omega
@[simp] theorem ceq_u8v_zeros {n m : Nat} (a : Vector UInt8 n) (r s : List Value) (h : n ≤ m) : ceq (u8v a ++ r) (zeros m (.int .u8 0) ++ s) = ((a == Vector.replicate n 0) && ceq r (zeros (m - n) (.int .u8 0) ++ s)) := by
 rw [zeros_split n m _ h, ← u8v_zero, List.append_assoc, ceq_u8v_append]
@[simp] theorem ceq_u8v_zeros' {n m : Nat} (a : Vector UInt8 n) (r : List Value) (h : n ≤ m) : ceq (u8v a ++ r) (zeros m (.int .u8 0)) = ((a == Vector.replicate n 0) && ceq r (zeros (m - n) (.int .u8 0))) := by
 have := ceq_u8v_zeros a r [] h
 simpa using this
@[simp] theorem ceq_u8v_zeros'' {n : Nat} (a : Vector UInt8 n) : ceq (u8v a) (zeros n (.int .u8 0)) = (a == Vector.replicate n 0) := by
 rw [← u8v_zero, ceq_u8v]
theorem ceq_zeros (n : Nat) (k : IntKind) (m : Int) : ceq (zeros n (.int k m)) (zeros n (.int k m)) = true := by
 induction n with
 | zero => rfl
 | succ n ih =>
  unfold zeros at *
  simp only [List.replicate_succ, ceq, veq, ih]
  simp
attribute [simp] ceq_zeros
@[simp] theorem ceq_zeros_append (n : Nat) (k : IntKind) (m : Int) (r s : List Value) : ceq (zeros n (.int k m) ++ r) (zeros n (.int k m) ++ s) = ceq r s := by
 rw [ceq_append _ _ _ _ (by simp), ceq_zeros, Bool.true_and]
end
section
theorem Tryz.plain3 : PlainT Tryz.prog 1 3 false [.int .i64] := plain_int Tryz.underlying3 kr_ .i64
theorem Tryz.plain5 : PlainT Tryz.prog 1 5 false [.int .u8] := plain_int Tryz.underlying5 kr_ .u8
theorem Tryz.plain9 : PlainT Tryz.prog 1 9 false [.str] := plain_str Tryz.underlying9 kr_
theorem Tryz.plain27 : PlainT Tryz.prog 2 27 true (leaves 32 (.int .u8)) := plain_array Tryz.plain5 Tryz.underlying27 kr_
instance Tryz.cmp27 : PlainC Tryz.prog 27 (leaves 32 (.int .u8)) := ⟨⟨2, by decide, Tryz.plain27⟩, by kernel_rfl⟩
theorem Tryz.plain28 : PlainT Tryz.prog 2 28 true (leaves 32 (.int .u8)) := plain_array Tryz.plain5 Tryz.underlying28 kr_
instance Tryz.cmp28 : PlainC Tryz.prog 28 (leaves 32 (.int .u8)) := ⟨⟨2, by decide, Tryz.plain28⟩, by kernel_rfl⟩
theorem Tryz.plain36 : PlainT Tryz.prog 2 36 true (leaves 8 (.int .u8)) := plain_array Tryz.plain5 Tryz.underlying36 kr_
theorem Tryz.plain76 : PlainT Tryz.prog 2 76 true (.int .i64 :: (.int .i64 :: (.int .i64 :: (.int .i64 :: (.int .i64 :: []))))) := plain_struct' (ts := [(false, [.int .i64]), (false, [.int .i64]), (false, [.int .i64]), (false, [.int .i64]), (false, [.int .i64])]) Tryz.underlying76 (.cons (Tryz.plain3.mono (by decide)) rfl (.cons (Tryz.plain3.mono (by decide)) rfl (.cons (Tryz.plain3.mono (by decide)) rfl (.cons (Tryz.plain3.mono (by decide)) rfl (.cons (Tryz.plain3.mono (by decide)) rfl (.nil _)))))) kr_ kr_ kr_ (by decide)
instance Tryz.cmp76 : PlainC Tryz.prog 76 (.int .i64 :: (.int .i64 :: (.int .i64 :: (.int .i64 :: (.int .i64 :: []))))) := ⟨⟨2, by decide, Tryz.plain76⟩, by kernel_rfl⟩
theorem Tryz.plain96 : PlainT Tryz.prog 2 96 true (leaves 6 (.int .u8)) := plain_array Tryz.plain5 Tryz.underlying96 kr_
instance Tryz.cmp96 : PlainC Tryz.prog 96 (leaves 6 (.int .u8)) := ⟨⟨2, by decide, Tryz.plain96⟩, by kernel_rfl⟩
theorem Tryz.plain167 : PlainT Tryz.prog 3 167 true ((leaves 8 (.int .u8)) ++ (.int .i64 :: ((leaves 8 (.int .u8)) ++ (.int .i64 :: [])))) := plain_struct' (ts := [(true, (leaves 8 (.int .u8))), (false, [.int .i64]), (true, (leaves 8 (.int .u8))), (false, [.int .i64])]) Tryz.underlying167 (.cons (Tryz.plain36.mono (by decide)) rfl (.cons (Tryz.plain3.mono (by decide)) rfl (.cons (Tryz.plain36.mono (by decide)) rfl (.cons (Tryz.plain3.mono (by decide)) rfl (.nil _))))) kr_ kr_ kr_ (by decide)
instance Tryz.cmp167 : PlainC Tryz.prog 167 ((leaves 8 (.int .u8)) ++ (.int .i64 :: ((leaves 8 (.int .u8)) ++ (.int .i64 :: [])))) := ⟨⟨3, by decide, Tryz.plain167⟩, by kernel_rfl⟩
theorem Tryz.plain256 : PlainT Tryz.prog 3 256 true (.int .i64 :: ((leaves 6 (.int .u8)) ++ [])) := plain_struct' (ts := [(false, [.int .i64]), (true, (leaves 6 (.int .u8)))]) Tryz.underlying256 (.cons (Tryz.plain3.mono (by decide)) rfl (.cons (Tryz.plain96.mono (by decide)) rfl (.nil _))) kr_ kr_ kr_ (by decide)
instance Tryz.cmp256 : PlainC Tryz.prog 256 (.int .i64 :: ((leaves 6 (.int .u8)) ++ [])) := ⟨⟨3, by decide, Tryz.plain256⟩, by kernel_rfl⟩
theorem Tryz.plain258 : PlainT Tryz.prog 2 258 true (.int .i64 :: (.str :: [])) := plain_struct' (ts := [(false, [.int .i64]), (false, [.str])]) Tryz.underlying258 (.cons (Tryz.plain3.mono (by decide)) rfl (.cons (Tryz.plain9.mono (by decide)) rfl (.nil _))) kr_ kr_ kr_ (by decide)
instance Tryz.cmp258 : PlainC Tryz.prog 258 (.int .i64 :: (.str :: [])) := ⟨⟨2, by decide, Tryz.plain258⟩, by kernel_rfl⟩
end
end Go.Proofs.YtcebllbikmgjpaaGreat
