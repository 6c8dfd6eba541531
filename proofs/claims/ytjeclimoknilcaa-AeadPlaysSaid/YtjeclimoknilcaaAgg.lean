/- The structs and arrays of this program, and how many cells each has. By program. -/
import Derived.Test.YtjeclimoknilcaaRows
import Derived.Test.YtjeclimoknilcaaMem
namespace Go.Proofs.Ytjeclimoknilcaa
instance Try.agg7 : AggOf Try.prog 7 4 := ⟨⟨_, Try.underlying7, rfl⟩, by kernel_rfl, by decide⟩
instance Try.agg8 : AggOf Try.prog 8 4 := ⟨⟨_, Try.underlying8, rfl⟩, by kernel_rfl, by decide⟩
instance Try.agg13 : AggOf Try.prog 13 2 := ⟨⟨_, Try.underlying13, rfl⟩, by kernel_rfl, by decide⟩
instance Try.agg14 : AggOf Try.prog 14 2 := ⟨⟨_, Try.underlying14, rfl⟩, by kernel_rfl, by decide⟩
instance Try.agg18 : AggOf Try.prog 18 1 := ⟨⟨_, Try.underlying18, rfl⟩, by kernel_rfl, by decide⟩
instance Try.agg19 : AggOf Try.prog 19 1 := ⟨⟨_, Try.underlying19, rfl⟩, by kernel_rfl, by decide⟩
instance Try.agg22 : AggOf Try.prog 22 32 := ⟨⟨_, Try.underlying22, rfl⟩, by kernel_rfl, by decide⟩
instance Try.agg23 : AggOf Try.prog 23 32 := ⟨⟨_, Try.underlying23, rfl⟩, by kernel_rfl, by decide⟩
instance Try.agg40 : AggOf Try.prog 40 16 := ⟨⟨_, Try.underlying40, rfl⟩, by kernel_rfl, by decide⟩
instance Try.agg48 : AggOf Try.prog 48 64 := ⟨⟨_, Try.underlying48, rfl⟩, by kernel_rfl, by decide⟩
instance Try.agg52 : AggOf Try.prog 52 2 := ⟨⟨_, Try.underlying52, rfl⟩, by kernel_rfl, by decide⟩
instance Try.agg53 : AggOf Try.prog 53 3 := ⟨⟨_, Try.underlying53, rfl⟩, by kernel_rfl, by decide⟩
instance Try.agg54 : AggOf Try.prog 54 3 := ⟨⟨_, Try.underlying54, rfl⟩, by kernel_rfl, by decide⟩
instance Try.agg61 : AggOf Try.prog 61 2 := ⟨⟨_, Try.underlying61, rfl⟩, by kernel_rfl, by decide⟩
instance Try.agg62 : AggOf Try.prog 62 2 := ⟨⟨_, Try.underlying62, rfl⟩, by kernel_rfl, by decide⟩
instance Try.agg69 : AggOf Try.prog 69 16 := ⟨⟨_, Try.underlying69, rfl⟩, by kernel_rfl, by decide⟩
instance Try.agg75 : AggOf Try.prog 75 16 := ⟨⟨_, Try.underlying75, rfl⟩, by kernel_rfl, by decide⟩
instance Try.agg83 : AggOf Try.prog 83 4 := ⟨⟨_, Try.underlying83, rfl⟩, by kernel_rfl, by decide⟩
instance Try.agg102 : AggOf Try.prog 102 4 := ⟨⟨_, Try.underlying102, rfl⟩, by kernel_rfl, by decide⟩
instance Try.agg103 : AggOf Try.prog 103 4 := ⟨⟨_, Try.underlying103, rfl⟩, by kernel_rfl, by decide⟩
instance Try.agg112 : AggOf Try.prog 112 11 := ⟨⟨_, Try.underlying112, rfl⟩, by kernel_rfl, by decide⟩
instance Try.agg113 : AggOf Try.prog 113 11 := ⟨⟨_, Try.underlying113, rfl⟩, by kernel_rfl, by decide⟩
instance Try.build7 : BuildOf Try.prog 7 [(0, 1), (1, 1), (2, 1), (3, 1)] (zeros 2 (.int .i64 0) ++ ((.bool false) :: ((.int .u8 0) :: []))) := buildOf_struct Try.underlying7 (fun _ => by kernel_rfl) (fun _ => by kernel_rfl)
instance Try.build8 : BuildOf Try.prog 8 [(0, 1), (1, 1), (2, 1), (3, 1)] (zeros 2 (.int .i64 0) ++ ((.bool false) :: ((.int .u8 0) :: []))) := buildOf_struct Try.underlying8 (fun _ => by kernel_rfl) (fun _ => by kernel_rfl)
instance Try.build13 : BuildOf Try.prog 13 [(0, 1), (1, 1)] ((.string ⟨#[]⟩) :: ((.int .u64 0) :: [])) := buildOf_struct Try.underlying13 (fun _ => by kernel_rfl) (fun _ => by kernel_rfl)
instance Try.build14 : BuildOf Try.prog 14 [(0, 1), (1, 1)] ((.string ⟨#[]⟩) :: ((.int .u64 0) :: [])) := buildOf_struct Try.underlying14 (fun _ => by kernel_rfl) (fun _ => by kernel_rfl)
instance Try.build18 : BuildOf Try.prog 18 [(0, 1)] ((.pointer none) :: []) := buildOf_struct Try.underlying18 (fun _ => by kernel_rfl) (fun _ => by kernel_rfl)
instance Try.build19 : BuildOf Try.prog 19 [(0, 1)] ((.pointer none) :: []) := buildOf_struct Try.underlying19 (fun _ => by kernel_rfl) (fun _ => by kernel_rfl)
instance Try.build22 : BuildOf Try.prog 22 [(0, 1), (1, 1), (2, 1), (3, 1), (4, 1), (5, 1), (6, 1), (7, 1), (8, 1), (9, 1), (10, 1), (11, 1), (12, 1), (13, 1), (14, 1), (15, 1), (16, 1), (17, 1), (18, 1), (19, 1), (20, 1), (21, 1), (22, 1), (23, 1), (24, 1), (25, 1), (26, 1), (27, 1), (28, 1), (29, 1), (30, 1), (31, 1)] (zeros 32 (.int .u8 0)) := buildOf_array (size := 1) Try.underlying22 (fun _ => by kernel_rfl) (fun _ => by kernel_rfl) rfl
instance Try.build23 : BuildOf Try.prog 23 [(0, 1), (1, 1), (2, 1), (3, 1), (4, 1), (5, 1), (6, 1), (7, 1), (8, 1), (9, 1), (10, 1), (11, 1), (12, 1), (13, 1), (14, 1), (15, 1), (16, 1), (17, 1), (18, 1), (19, 1), (20, 1), (21, 1), (22, 1), (23, 1), (24, 1), (25, 1), (26, 1), (27, 1), (28, 1), (29, 1), (30, 1), (31, 1)] (zeros 32 (.int .u8 0)) := buildOf_array (size := 1) Try.underlying23 (fun _ => by kernel_rfl) (fun _ => by kernel_rfl) rfl
instance Try.build40 : BuildOf Try.prog 40 [(0, 1), (1, 1), (2, 1), (3, 1), (4, 1), (5, 1), (6, 1), (7, 1), (8, 1), (9, 1), (10, 1), (11, 1), (12, 1), (13, 1), (14, 1), (15, 1)] (zeros 16 (.int .u8 0)) := buildOf_array (size := 1) Try.underlying40 (fun _ => by kernel_rfl) (fun _ => by kernel_rfl) rfl
instance Try.build48 : BuildOf Try.prog 48 [(0, 1), (1, 1), (2, 1), (3, 1), (4, 1), (5, 1), (6, 1), (7, 1), (8, 1), (9, 1), (10, 1), (11, 1), (12, 1), (13, 1), (14, 1), (15, 1), (16, 1), (17, 1), (18, 1), (19, 1), (20, 1), (21, 1), (22, 1), (23, 1), (24, 1), (25, 1), (26, 1), (27, 1), (28, 1), (29, 1), (30, 1), (31, 1), (32, 1), (33, 1), (34, 1), (35, 1), (36, 1), (37, 1), (38, 1), (39, 1), (40, 1), (41, 1), (42, 1), (43, 1), (44, 1), (45, 1), (46, 1), (47, 1), (48, 1), (49, 1), (50, 1), (51, 1), (52, 1), (53, 1), (54, 1), (55, 1), (56, 1), (57, 1), (58, 1), (59, 1), (60, 1), (61, 1), (62, 1), (63, 1)] (zeros 64 (.int .u8 0)) := buildOf_array (size := 1) Try.underlying48 (fun _ => by kernel_rfl) (fun _ => by kernel_rfl) rfl
instance Try.build52 : BuildOf Try.prog 52 [(0, 1), (1, 1)] (zeros 2 (.int .u64 0)) := buildOf_array (size := 1) Try.underlying52 (fun _ => by kernel_rfl) (fun _ => by kernel_rfl) rfl
instance Try.build53 : BuildOf Try.prog 53 [(0, 1), (1, 1), (2, 1)] (zeros 3 (.int .u64 0)) := buildOf_array (size := 1) Try.underlying53 (fun _ => by kernel_rfl) (fun _ => by kernel_rfl) rfl
instance Try.build54 : BuildOf Try.prog 54 [(0, 1), (1, 1), (2, 1)] (zeros 3 (.int .u64 0)) := buildOf_array (size := 1) Try.underlying54 (fun _ => by kernel_rfl) (fun _ => by kernel_rfl) rfl
instance Try.build61 : BuildOf Try.prog 61 [(0, 1), (1, 1)] ((.pointer none) :: ((.slice none 0 0) :: [])) := buildOf_struct Try.underlying61 (fun _ => by kernel_rfl) (fun _ => by kernel_rfl)
instance Try.build62 : BuildOf Try.prog 62 [(0, 1), (1, 1)] ((.pointer none) :: ((.slice none 0 0) :: [])) := buildOf_struct Try.underlying62 (fun _ => by kernel_rfl) (fun _ => by kernel_rfl)
instance Try.build69 : BuildOf Try.prog 69 [(0, 1), (1, 1), (2, 1), (3, 1), (4, 1), (5, 1), (6, 1), (7, 1), (8, 1), (9, 1), (10, 1), (11, 1), (12, 1), (13, 1), (14, 1), (15, 1)] (zeros 16 (.int .u32 0)) := buildOf_array (size := 1) Try.underlying69 (fun _ => by kernel_rfl) (fun _ => by kernel_rfl) rfl
instance Try.build75 : BuildOf Try.prog 75 [(0, 1), (1, 1), (2, 1), (3, 1), (4, 1), (5, 1), (6, 1), (7, 1), (8, 1), (9, 1), (10, 1), (11, 1), (12, 1), (13, 1), (14, 1), (15, 1)] (zeros 16 (.int .u32 0)) := buildOf_array (size := 1) Try.underlying75 (fun _ => by kernel_rfl) (fun _ => by kernel_rfl) rfl
instance Try.build83 : BuildOf Try.prog 83 [(0, 1), (1, 1), (2, 1), (3, 1)] (zeros 4 (.int .u64 0)) := buildOf_array (size := 1) Try.underlying83 (fun _ => by kernel_rfl) (fun _ => by kernel_rfl) rfl
instance Try.build102 : BuildOf Try.prog 102 [(0, 1), (1, 1), (2, 1), (3, 1)] (zeros 3 (.pointer none) ++ ((.string ⟨#[]⟩) :: [])) := buildOf_struct Try.underlying102 (fun _ => by kernel_rfl) (fun _ => by kernel_rfl)
instance Try.build103 : BuildOf Try.prog 103 [(0, 1), (1, 1), (2, 1), (3, 1)] (zeros 3 (.pointer none) ++ ((.string ⟨#[]⟩) :: [])) := buildOf_struct Try.underlying103 (fun _ => by kernel_rfl) (fun _ => by kernel_rfl)
instance Try.build112 : BuildOf Try.prog 112 [(0, 1), (1, 1), (2, 1), (3, 1), (4, 1), (5, 1), (6, 1), (7, 1), (8, 1), (9, 1), (10, 1)] (zeros 2 (.int .u64 0) ++ ((.int .u32 0) :: (zeros 4 (.int .u8 0) ++ (.nilFunc :: ((.pointer none) :: (zeros 2 (.int .i32 0))))))) := buildOf_struct Try.underlying112 (fun _ => by kernel_rfl) (fun _ => by kernel_rfl)
instance Try.build113 : BuildOf Try.prog 113 [(0, 1), (1, 1), (2, 1), (3, 1), (4, 1), (5, 1), (6, 1), (7, 1), (8, 1), (9, 1), (10, 1)] (zeros 2 (.int .u64 0) ++ ((.int .u32 0) :: (zeros 4 (.int .u8 0) ++ (.nilFunc :: ((.pointer none) :: (zeros 2 (.int .i32 0))))))) := buildOf_struct Try.underlying113 (fun _ => by kernel_rfl) (fun _ => by kernel_rfl)
instance Try.str9 : StrOf Try.prog 9 := ⟨Try.underlying9⟩
instance Try.str10 : StrOf Try.prog 10 := ⟨Try.underlying10⟩
instance Try.str11 : StrOf Try.prog 11 := ⟨Try.underlying11⟩
instance Try.arr22 : ArrLen Try.prog 22 32 := ⟨_, Try.underlying22⟩
instance Try.arr23 : ArrLen Try.prog 23 32 := ⟨_, Try.underlying23⟩
instance Try.bytes34 : BytesOf Try.prog 34 5 := ⟨Try.underlying34, Try.underlying5, by kernel_rfl⟩
instance Try.arr40 : ArrLen Try.prog 40 16 := ⟨_, Try.underlying40⟩
instance Try.arr48 : ArrLen Try.prog 48 64 := ⟨_, Try.underlying48⟩
instance Try.arr52 : ArrLen Try.prog 52 2 := ⟨_, Try.underlying52⟩
instance Try.arr53 : ArrLen Try.prog 53 3 := ⟨_, Try.underlying53⟩
instance Try.arr54 : ArrLen Try.prog 54 3 := ⟨_, Try.underlying54⟩
instance Try.arr69 : ArrLen Try.prog 69 16 := ⟨_, Try.underlying69⟩
instance Try.arr75 : ArrLen Try.prog 75 16 := ⟨_, Try.underlying75⟩
instance Try.arr83 : ArrLen Try.prog 83 4 := ⟨_, Try.underlying83⟩
instance Try.arr104 : ArrLen Try.prog 104 0 := ⟨_, Try.underlying104⟩
end Go.Proofs.Ytjeclimoknilcaa
