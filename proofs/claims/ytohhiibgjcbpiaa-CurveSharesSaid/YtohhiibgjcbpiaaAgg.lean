/- The structs and arrays of this program, and how many cells each has. By program. -/
import Derived.Test.YtohhiibgjcbpiaaRows
import Derived.Test.YtohhiibgjcbpiaaMem
namespace Go.Proofs.Ytohhiibgjcbpiaa
instance Try.agg7 : AggOf Try.prog 7 4 := ⟨⟨_, Try.underlying7, rfl⟩, by kernel_rfl, by decide⟩
instance Try.agg8 : AggOf Try.prog 8 4 := ⟨⟨_, Try.underlying8, rfl⟩, by kernel_rfl, by decide⟩
instance Try.agg13 : AggOf Try.prog 13 2 := ⟨⟨_, Try.underlying13, rfl⟩, by kernel_rfl, by decide⟩
instance Try.agg14 : AggOf Try.prog 14 2 := ⟨⟨_, Try.underlying14, rfl⟩, by kernel_rfl, by decide⟩
instance Try.agg18 : AggOf Try.prog 18 1 := ⟨⟨_, Try.underlying18, rfl⟩, by kernel_rfl, by decide⟩
instance Try.agg19 : AggOf Try.prog 19 1 := ⟨⟨_, Try.underlying19, rfl⟩, by kernel_rfl, by decide⟩
instance Try.agg22 : AggOf Try.prog 22 32 := ⟨⟨_, Try.underlying22, rfl⟩, by kernel_rfl, by decide⟩
instance Try.agg23 : AggOf Try.prog 23 32 := ⟨⟨_, Try.underlying23, rfl⟩, by kernel_rfl, by decide⟩
instance Try.agg30 : AggOf Try.prog 30 32 := ⟨⟨_, Try.underlying30, rfl⟩, by kernel_rfl, by decide⟩
instance Try.agg37 : AggOf Try.prog 37 16 := ⟨⟨_, Try.underlying37, rfl⟩, by kernel_rfl, by decide⟩
instance Try.agg38 : AggOf Try.prog 38 16 := ⟨⟨_, Try.underlying38, rfl⟩, by kernel_rfl, by decide⟩
instance Try.agg40 : AggOf Try.prog 40 32 := ⟨⟨_, Try.underlying40, rfl⟩, by kernel_rfl, by decide⟩
instance Try.agg41 : AggOf Try.prog 41 32 := ⟨⟨_, Try.underlying41, rfl⟩, by kernel_rfl, by decide⟩
instance Try.agg49 : AggOf Try.prog 49 31 := ⟨⟨_, Try.underlying49, rfl⟩, by kernel_rfl, by decide⟩
instance Try.agg53 : AggOf Try.prog 53 4 := ⟨⟨_, Try.underlying53, rfl⟩, by kernel_rfl, by decide⟩
instance Try.agg54 : AggOf Try.prog 54 4 := ⟨⟨_, Try.underlying54, rfl⟩, by kernel_rfl, by decide⟩
instance Try.agg66 : AggOf Try.prog 66 11 := ⟨⟨_, Try.underlying66, rfl⟩, by kernel_rfl, by decide⟩
instance Try.agg67 : AggOf Try.prog 67 11 := ⟨⟨_, Try.underlying67, rfl⟩, by kernel_rfl, by decide⟩
instance Try.build7 : BuildOf Try.prog 7 [(0, 1), (1, 1), (2, 1), (3, 1)] (zeros 2 (.int .i64 0) ++ ((.bool false) :: ((.int .u8 0) :: []))) := buildOf_struct Try.underlying7 (fun _ => by kernel_rfl) (fun _ => by kernel_rfl)
instance Try.build8 : BuildOf Try.prog 8 [(0, 1), (1, 1), (2, 1), (3, 1)] (zeros 2 (.int .i64 0) ++ ((.bool false) :: ((.int .u8 0) :: []))) := buildOf_struct Try.underlying8 (fun _ => by kernel_rfl) (fun _ => by kernel_rfl)
instance Try.build13 : BuildOf Try.prog 13 [(0, 1), (1, 1)] ((.string ⟨#[]⟩) :: ((.int .u64 0) :: [])) := buildOf_struct Try.underlying13 (fun _ => by kernel_rfl) (fun _ => by kernel_rfl)
instance Try.build14 : BuildOf Try.prog 14 [(0, 1), (1, 1)] ((.string ⟨#[]⟩) :: ((.int .u64 0) :: [])) := buildOf_struct Try.underlying14 (fun _ => by kernel_rfl) (fun _ => by kernel_rfl)
instance Try.build18 : BuildOf Try.prog 18 [(0, 1)] ((.pointer none) :: []) := buildOf_struct Try.underlying18 (fun _ => by kernel_rfl) (fun _ => by kernel_rfl)
instance Try.build19 : BuildOf Try.prog 19 [(0, 1)] ((.pointer none) :: []) := buildOf_struct Try.underlying19 (fun _ => by kernel_rfl) (fun _ => by kernel_rfl)
instance Try.build22 : BuildOf Try.prog 22 [(0, 1), (1, 1), (2, 1), (3, 1), (4, 1), (5, 1), (6, 1), (7, 1), (8, 1), (9, 1), (10, 1), (11, 1), (12, 1), (13, 1), (14, 1), (15, 1), (16, 1), (17, 1), (18, 1), (19, 1), (20, 1), (21, 1), (22, 1), (23, 1), (24, 1), (25, 1), (26, 1), (27, 1), (28, 1), (29, 1), (30, 1), (31, 1)] (zeros 32 (.int .u8 0)) := buildOf_array (size := 1) Try.underlying22 (fun _ => by kernel_rfl) (fun _ => by kernel_rfl) rfl
instance Try.build23 : BuildOf Try.prog 23 [(0, 1), (1, 1), (2, 1), (3, 1), (4, 1), (5, 1), (6, 1), (7, 1), (8, 1), (9, 1), (10, 1), (11, 1), (12, 1), (13, 1), (14, 1), (15, 1), (16, 1), (17, 1), (18, 1), (19, 1), (20, 1), (21, 1), (22, 1), (23, 1), (24, 1), (25, 1), (26, 1), (27, 1), (28, 1), (29, 1), (30, 1), (31, 1)] (zeros 32 (.int .u8 0)) := buildOf_array (size := 1) Try.underlying23 (fun _ => by kernel_rfl) (fun _ => by kernel_rfl) rfl
instance Try.build30 : BuildOf Try.prog 30 [(0, 1), (1, 1), (2, 1), (3, 1), (4, 1), (5, 1), (6, 1), (7, 1), (8, 1), (9, 1), (10, 1), (11, 1), (12, 1), (13, 1), (14, 1), (15, 1), (16, 1), (17, 1), (18, 1), (19, 1), (20, 1), (21, 1), (22, 1), (23, 1), (24, 1), (25, 1), (26, 1), (27, 1), (28, 1), (29, 1), (30, 1), (31, 1)] (zeros 32 (.int .i64 0)) := buildOf_array (size := 1) Try.underlying30 (fun _ => by kernel_rfl) (fun _ => by kernel_rfl) rfl
instance Try.build37 : BuildOf Try.prog 37 [(0, 1), (1, 1), (2, 1), (3, 1), (4, 1), (5, 1), (6, 1), (7, 1), (8, 1), (9, 1), (10, 1), (11, 1), (12, 1), (13, 1), (14, 1), (15, 1)] (zeros 16 (.int .i64 0)) := buildOf_array (size := 1) Try.underlying37 (fun _ => by kernel_rfl) (fun _ => by kernel_rfl) rfl
instance Try.build38 : BuildOf Try.prog 38 [(0, 1), (1, 1), (2, 1), (3, 1), (4, 1), (5, 1), (6, 1), (7, 1), (8, 1), (9, 1), (10, 1), (11, 1), (12, 1), (13, 1), (14, 1), (15, 1)] (zeros 16 (.int .i64 0)) := buildOf_array (size := 1) Try.underlying38 (fun _ => by kernel_rfl) (fun _ => by kernel_rfl) rfl
instance Try.build40 : BuildOf Try.prog 40 [(0, 16), (16, 16)] (zeros 32 (.int .i64 0)) := buildOf_struct Try.underlying40 (fun _ => by kernel_rfl) (fun _ => by kernel_rfl)
instance Try.build41 : BuildOf Try.prog 41 [(0, 16), (16, 16)] (zeros 32 (.int .i64 0)) := buildOf_struct Try.underlying41 (fun _ => by kernel_rfl) (fun _ => by kernel_rfl)
instance Try.build49 : BuildOf Try.prog 49 [(0, 1), (1, 1), (2, 1), (3, 1), (4, 1), (5, 1), (6, 1), (7, 1), (8, 1), (9, 1), (10, 1), (11, 1), (12, 1), (13, 1), (14, 1), (15, 1), (16, 1), (17, 1), (18, 1), (19, 1), (20, 1), (21, 1), (22, 1), (23, 1), (24, 1), (25, 1), (26, 1), (27, 1), (28, 1), (29, 1), (30, 1)] (zeros 31 (.int .i64 0)) := buildOf_array (size := 1) Try.underlying49 (fun _ => by kernel_rfl) (fun _ => by kernel_rfl) rfl
instance Try.build53 : BuildOf Try.prog 53 [(0, 1), (1, 1), (2, 1), (3, 1)] (zeros 3 (.pointer none) ++ ((.string ⟨#[]⟩) :: [])) := buildOf_struct Try.underlying53 (fun _ => by kernel_rfl) (fun _ => by kernel_rfl)
instance Try.build54 : BuildOf Try.prog 54 [(0, 1), (1, 1), (2, 1), (3, 1)] (zeros 3 (.pointer none) ++ ((.string ⟨#[]⟩) :: [])) := buildOf_struct Try.underlying54 (fun _ => by kernel_rfl) (fun _ => by kernel_rfl)
instance Try.build66 : BuildOf Try.prog 66 [(0, 1), (1, 1), (2, 1), (3, 1), (4, 1), (5, 1), (6, 1), (7, 1), (8, 1), (9, 1), (10, 1)] (zeros 2 (.int .u64 0) ++ ((.int .u32 0) :: (zeros 4 (.int .u8 0) ++ (.nilFunc :: ((.pointer none) :: (zeros 2 (.int .i32 0))))))) := buildOf_struct Try.underlying66 (fun _ => by kernel_rfl) (fun _ => by kernel_rfl)
instance Try.build67 : BuildOf Try.prog 67 [(0, 1), (1, 1), (2, 1), (3, 1), (4, 1), (5, 1), (6, 1), (7, 1), (8, 1), (9, 1), (10, 1)] (zeros 2 (.int .u64 0) ++ ((.int .u32 0) :: (zeros 4 (.int .u8 0) ++ (.nilFunc :: ((.pointer none) :: (zeros 2 (.int .i32 0))))))) := buildOf_struct Try.underlying67 (fun _ => by kernel_rfl) (fun _ => by kernel_rfl)
instance Try.str9 : StrOf Try.prog 9 := ⟨Try.underlying9⟩
instance Try.str10 : StrOf Try.prog 10 := ⟨Try.underlying10⟩
instance Try.str11 : StrOf Try.prog 11 := ⟨Try.underlying11⟩
instance Try.arr22 : ArrLen Try.prog 22 32 := ⟨_, Try.underlying22⟩
instance Try.arr23 : ArrLen Try.prog 23 32 := ⟨_, Try.underlying23⟩
instance Try.arr30 : ArrLen Try.prog 30 32 := ⟨_, Try.underlying30⟩
instance Try.arr37 : ArrLen Try.prog 37 16 := ⟨_, Try.underlying37⟩
instance Try.arr38 : ArrLen Try.prog 38 16 := ⟨_, Try.underlying38⟩
instance Try.arr49 : ArrLen Try.prog 49 31 := ⟨_, Try.underlying49⟩
instance Try.arr55 : ArrLen Try.prog 55 0 := ⟨_, Try.underlying55⟩
end Go.Proofs.Ytohhiibgjcbpiaa
