/- The structs and arrays of this program, and how many cells each has. By program. -/
import Derived.Test.YthnjkpecnaglhaaRows
import Derived.Test.YthnjkpecnaglhaaMem
namespace Go.Proofs.Ythnjkpecnaglhaa
instance Try.agg7 : AggOf Try.prog 7 4 := ⟨⟨_, Try.underlying7, rfl⟩, by kernel_rfl, by decide⟩
instance Try.agg8 : AggOf Try.prog 8 4 := ⟨⟨_, Try.underlying8, rfl⟩, by kernel_rfl, by decide⟩
instance Try.agg13 : AggOf Try.prog 13 2 := ⟨⟨_, Try.underlying13, rfl⟩, by kernel_rfl, by decide⟩
instance Try.agg14 : AggOf Try.prog 14 2 := ⟨⟨_, Try.underlying14, rfl⟩, by kernel_rfl, by decide⟩
instance Try.agg18 : AggOf Try.prog 18 1 := ⟨⟨_, Try.underlying18, rfl⟩, by kernel_rfl, by decide⟩
instance Try.agg19 : AggOf Try.prog 19 1 := ⟨⟨_, Try.underlying19, rfl⟩, by kernel_rfl, by decide⟩
instance Try.agg22 : AggOf Try.prog 22 6 := ⟨⟨_, Try.underlying22, rfl⟩, by kernel_rfl, by decide⟩
instance Try.agg23 : AggOf Try.prog 23 6 := ⟨⟨_, Try.underlying23, rfl⟩, by kernel_rfl, by decide⟩
instance Try.agg24 : AggOf Try.prog 24 4 := ⟨⟨_, Try.underlying24, rfl⟩, by kernel_rfl, by decide⟩
instance Try.agg25 : AggOf Try.prog 25 21 := ⟨⟨_, Try.underlying25, rfl⟩, by kernel_rfl, by decide⟩
instance Try.agg26 : AggOf Try.prog 26 21 := ⟨⟨_, Try.underlying26, rfl⟩, by kernel_rfl, by decide⟩
instance Try.agg31 : AggOf Try.prog 31 21 := ⟨⟨_, Try.underlying31, rfl⟩, by kernel_rfl, by decide⟩
instance Try.agg42 : AggOf Try.prog 42 14 := ⟨⟨_, Try.underlying42, rfl⟩, by kernel_rfl, by decide⟩
instance Try.agg43 : AggOf Try.prog 43 14 := ⟨⟨_, Try.underlying43, rfl⟩, by kernel_rfl, by decide⟩
instance Try.agg47 : AggOf Try.prog 47 16 := ⟨⟨_, Try.underlying47, rfl⟩, by kernel_rfl, by decide⟩
instance Try.agg48 : AggOf Try.prog 48 16 := ⟨⟨_, Try.underlying48, rfl⟩, by kernel_rfl, by decide⟩
instance Try.agg50 : AggOf Try.prog 50 16 := ⟨⟨_, Try.underlying50, rfl⟩, by kernel_rfl, by decide⟩
instance Try.agg51 : AggOf Try.prog 51 60 := ⟨⟨_, Try.underlying51, rfl⟩, by kernel_rfl, by decide⟩
instance Try.agg52 : AggOf Try.prog 52 60 := ⟨⟨_, Try.underlying52, rfl⟩, by kernel_rfl, by decide⟩
instance Try.agg54 : AggOf Try.prog 54 60 := ⟨⟨_, Try.underlying54, rfl⟩, by kernel_rfl, by decide⟩
instance Try.agg64 : AggOf Try.prog 64 16 := ⟨⟨_, Try.underlying64, rfl⟩, by kernel_rfl, by decide⟩
instance Try.agg88 : AggOf Try.prog 88 1 := ⟨⟨_, Try.underlying88, rfl⟩, by kernel_rfl, by decide⟩
instance Try.agg89 : AggOf Try.prog 89 1 := ⟨⟨_, Try.underlying89, rfl⟩, by kernel_rfl, by decide⟩
instance Try.agg99 : AggOf Try.prog 99 4 := ⟨⟨_, Try.underlying99, rfl⟩, by kernel_rfl, by decide⟩
instance Try.agg100 : AggOf Try.prog 100 4 := ⟨⟨_, Try.underlying100, rfl⟩, by kernel_rfl, by decide⟩
instance Try.agg111 : AggOf Try.prog 111 11 := ⟨⟨_, Try.underlying111, rfl⟩, by kernel_rfl, by decide⟩
instance Try.agg112 : AggOf Try.prog 112 11 := ⟨⟨_, Try.underlying112, rfl⟩, by kernel_rfl, by decide⟩
instance Try.build7 : BuildOf Try.prog 7 [(0, 1), (1, 1), (2, 1), (3, 1)] (zeros 2 (.int .i64 0) ++ ((.bool false) :: ((.int .u8 0) :: []))) := buildOf_struct Try.underlying7 (fun _ => by kernel_rfl) (fun _ => by kernel_rfl)
instance Try.build8 : BuildOf Try.prog 8 [(0, 1), (1, 1), (2, 1), (3, 1)] (zeros 2 (.int .i64 0) ++ ((.bool false) :: ((.int .u8 0) :: []))) := buildOf_struct Try.underlying8 (fun _ => by kernel_rfl) (fun _ => by kernel_rfl)
instance Try.build13 : BuildOf Try.prog 13 [(0, 1), (1, 1)] ((.string ⟨#[]⟩) :: ((.int .u64 0) :: [])) := buildOf_struct Try.underlying13 (fun _ => by kernel_rfl) (fun _ => by kernel_rfl)
instance Try.build14 : BuildOf Try.prog 14 [(0, 1), (1, 1)] ((.string ⟨#[]⟩) :: ((.int .u64 0) :: [])) := buildOf_struct Try.underlying14 (fun _ => by kernel_rfl) (fun _ => by kernel_rfl)
instance Try.build18 : BuildOf Try.prog 18 [(0, 1)] ((.pointer none) :: []) := buildOf_struct Try.underlying18 (fun _ => by kernel_rfl) (fun _ => by kernel_rfl)
instance Try.build19 : BuildOf Try.prog 19 [(0, 1)] ((.pointer none) :: []) := buildOf_struct Try.underlying19 (fun _ => by kernel_rfl) (fun _ => by kernel_rfl)
instance Try.build22 : BuildOf Try.prog 22 [(0, 1), (1, 1), (2, 1), (3, 1), (4, 1), (5, 1)] (zeros 6 (.int .u8 0)) := buildOf_array (size := 1) Try.underlying22 (fun _ => by kernel_rfl) (fun _ => by kernel_rfl) rfl
instance Try.build23 : BuildOf Try.prog 23 [(0, 1), (1, 1), (2, 1), (3, 1), (4, 1), (5, 1)] (zeros 6 (.int .u8 0)) := buildOf_array (size := 1) Try.underlying23 (fun _ => by kernel_rfl) (fun _ => by kernel_rfl) rfl
instance Try.build24 : BuildOf Try.prog 24 [(0, 1), (1, 1), (2, 1), (3, 1)] (zeros 4 (.int .u8 0)) := buildOf_array (size := 1) Try.underlying24 (fun _ => by kernel_rfl) (fun _ => by kernel_rfl) rfl
instance Try.build25 : BuildOf Try.prog 25 [(0, 1), (1, 6), (7, 6), (13, 4), (17, 4)] ((.int .i64 0) :: (zeros 20 (.int .u8 0))) := buildOf_struct Try.underlying25 (fun _ => by kernel_rfl) (fun _ => by kernel_rfl)
instance Try.build26 : BuildOf Try.prog 26 [(0, 1), (1, 6), (7, 6), (13, 4), (17, 4)] ((.int .i64 0) :: (zeros 20 (.int .u8 0))) := buildOf_struct Try.underlying26 (fun _ => by kernel_rfl) (fun _ => by kernel_rfl)
instance Try.build31 : BuildOf Try.prog 31 [(0, 1), (1, 6), (7, 6), (13, 4), (17, 4)] ((.int .i64 0) :: (zeros 20 (.int .u8 0))) := buildOf_struct Try.underlying31 (fun _ => by kernel_rfl) (fun _ => by kernel_rfl)
instance Try.build42 : BuildOf Try.prog 42 [(0, 6), (6, 6), (12, 1), (13, 1)] (zeros 12 (.int .u8 0) ++ ((.int .i64 0) :: ((.string ⟨#[]⟩) :: []))) := buildOf_struct Try.underlying42 (fun _ => by kernel_rfl) (fun _ => by kernel_rfl)
instance Try.build43 : BuildOf Try.prog 43 [(0, 6), (6, 6), (12, 1), (13, 1)] (zeros 12 (.int .u8 0) ++ ((.int .i64 0) :: ((.string ⟨#[]⟩) :: []))) := buildOf_struct Try.underlying43 (fun _ => by kernel_rfl) (fun _ => by kernel_rfl)
instance Try.build47 : BuildOf Try.prog 47 [(0, 14), (14, 1), (15, 1)] (zeros 12 (.int .u8 0) ++ ((.int .i64 0) :: ((.string ⟨#[]⟩) :: (zeros 2 (.int .i64 0))))) := buildOf_struct Try.underlying47 (fun _ => by kernel_rfl) (fun _ => by kernel_rfl)
instance Try.build48 : BuildOf Try.prog 48 [(0, 14), (14, 1), (15, 1)] (zeros 12 (.int .u8 0) ++ ((.int .i64 0) :: ((.string ⟨#[]⟩) :: (zeros 2 (.int .i64 0))))) := buildOf_struct Try.underlying48 (fun _ => by kernel_rfl) (fun _ => by kernel_rfl)
instance Try.build50 : BuildOf Try.prog 50 [(0, 1), (1, 1), (2, 1), (3, 1), (4, 1), (5, 1), (6, 1), (7, 1), (8, 1), (9, 1), (10, 1), (11, 1), (12, 1), (13, 1), (14, 1), (15, 1)] (zeros 16 (.int .u8 0)) := buildOf_array (size := 1) Try.underlying50 (fun _ => by kernel_rfl) (fun _ => by kernel_rfl) rfl
instance Try.build51 : BuildOf Try.prog 51 [(0, 1), (1, 16), (17, 16), (33, 16), (49, 6), (55, 1), (56, 4)] ((.int .i64 0) :: (zeros 54 (.int .u8 0) ++ ((.bool false) :: (zeros 4 (.int .u8 0))))) := buildOf_struct Try.underlying51 (fun _ => by kernel_rfl) (fun _ => by kernel_rfl)
instance Try.build52 : BuildOf Try.prog 52 [(0, 1), (1, 16), (17, 16), (33, 16), (49, 6), (55, 1), (56, 4)] ((.int .i64 0) :: (zeros 54 (.int .u8 0) ++ ((.bool false) :: (zeros 4 (.int .u8 0))))) := buildOf_struct Try.underlying52 (fun _ => by kernel_rfl) (fun _ => by kernel_rfl)
instance Try.build54 : BuildOf Try.prog 54 [(0, 1), (1, 16), (17, 16), (33, 16), (49, 6), (55, 1), (56, 4)] ((.int .i64 0) :: (zeros 54 (.int .u8 0) ++ ((.bool false) :: (zeros 4 (.int .u8 0))))) := buildOf_struct Try.underlying54 (fun _ => by kernel_rfl) (fun _ => by kernel_rfl)
instance Try.build64 : BuildOf Try.prog 64 [(0, 14), (14, 1), (15, 1)] (zeros 12 (.int .u8 0) ++ ((.int .i64 0) :: ((.string ⟨#[]⟩) :: (zeros 2 (.int .i64 0))))) := buildOf_struct Try.underlying64 (fun _ => by kernel_rfl) (fun _ => by kernel_rfl)
instance Try.build88 : BuildOf Try.prog 88 [(0, 1)] ((.string ⟨#[]⟩) :: []) := buildOf_struct Try.underlying88 (fun _ => by kernel_rfl) (fun _ => by kernel_rfl)
instance Try.build89 : BuildOf Try.prog 89 [(0, 1)] ((.string ⟨#[]⟩) :: []) := buildOf_struct Try.underlying89 (fun _ => by kernel_rfl) (fun _ => by kernel_rfl)
instance Try.build99 : BuildOf Try.prog 99 [(0, 1), (1, 1), (2, 1), (3, 1)] (zeros 3 (.pointer none) ++ ((.string ⟨#[]⟩) :: [])) := buildOf_struct Try.underlying99 (fun _ => by kernel_rfl) (fun _ => by kernel_rfl)
instance Try.build100 : BuildOf Try.prog 100 [(0, 1), (1, 1), (2, 1), (3, 1)] (zeros 3 (.pointer none) ++ ((.string ⟨#[]⟩) :: [])) := buildOf_struct Try.underlying100 (fun _ => by kernel_rfl) (fun _ => by kernel_rfl)
instance Try.build111 : BuildOf Try.prog 111 [(0, 1), (1, 1), (2, 1), (3, 1), (4, 1), (5, 1), (6, 1), (7, 1), (8, 1), (9, 1), (10, 1)] (zeros 2 (.int .u64 0) ++ ((.int .u32 0) :: (zeros 4 (.int .u8 0) ++ (.nilFunc :: ((.pointer none) :: (zeros 2 (.int .i32 0))))))) := buildOf_struct Try.underlying111 (fun _ => by kernel_rfl) (fun _ => by kernel_rfl)
instance Try.build112 : BuildOf Try.prog 112 [(0, 1), (1, 1), (2, 1), (3, 1), (4, 1), (5, 1), (6, 1), (7, 1), (8, 1), (9, 1), (10, 1)] (zeros 2 (.int .u64 0) ++ ((.int .u32 0) :: (zeros 4 (.int .u8 0) ++ (.nilFunc :: ((.pointer none) :: (zeros 2 (.int .i32 0))))))) := buildOf_struct Try.underlying112 (fun _ => by kernel_rfl) (fun _ => by kernel_rfl)
instance Try.str9 : StrOf Try.prog 9 := ⟨Try.underlying9⟩
instance Try.str10 : StrOf Try.prog 10 := ⟨Try.underlying10⟩
instance Try.str11 : StrOf Try.prog 11 := ⟨Try.underlying11⟩
instance Try.arr22 : ArrLen Try.prog 22 6 := ⟨_, Try.underlying22⟩
instance Try.arr23 : ArrLen Try.prog 23 6 := ⟨_, Try.underlying23⟩
instance Try.arr24 : ArrLen Try.prog 24 4 := ⟨_, Try.underlying24⟩
instance Try.arr50 : ArrLen Try.prog 50 16 := ⟨_, Try.underlying50⟩
instance Try.bytes61 : BytesOf Try.prog 61 5 := ⟨Try.underlying61, Try.underlying5, by kernel_rfl⟩
instance Try.arr101 : ArrLen Try.prog 101 0 := ⟨_, Try.underlying101⟩
end Go.Proofs.Ythnjkpecnaglhaa
