/- The structs and arrays of this program, and how many cells each has. By program. -/
import Derived.Test.YtakkicppgkmokaaGreatRows
import Derived.Test.YtakkicppgkmokaaGreatMemJ
namespace Go.Proofs.YtakkicppgkmokaaGreat
instance Tryz.agg7 : AggOf Tryz.prog 7 4 := ⟨⟨_, Tryz.underlying7, rfl⟩, by kernel_rfl, by decide⟩
instance Tryz.agg8 : AggOf Tryz.prog 8 4 := ⟨⟨_, Tryz.underlying8, rfl⟩, by kernel_rfl, by decide⟩
instance Tryz.agg13 : AggOf Tryz.prog 13 2 := ⟨⟨_, Tryz.underlying13, rfl⟩, by kernel_rfl, by decide⟩
instance Tryz.agg14 : AggOf Tryz.prog 14 2 := ⟨⟨_, Tryz.underlying14, rfl⟩, by kernel_rfl, by decide⟩
instance Tryz.agg18 : AggOf Tryz.prog 18 1 := ⟨⟨_, Tryz.underlying18, rfl⟩, by kernel_rfl, by decide⟩
instance Tryz.agg19 : AggOf Tryz.prog 19 1 := ⟨⟨_, Tryz.underlying19, rfl⟩, by kernel_rfl, by decide⟩
instance Tryz.agg22 : AggOf Tryz.prog 22 32 := ⟨⟨_, Tryz.underlying22, rfl⟩, by kernel_rfl, by decide⟩
instance Tryz.agg23 : AggOf Tryz.prog 23 32 := ⟨⟨_, Tryz.underlying23, rfl⟩, by kernel_rfl, by decide⟩
instance Tryz.agg28 : AggOf Tryz.prog 28 64 := ⟨⟨_, Tryz.underlying28, rfl⟩, by kernel_rfl, by decide⟩
instance Tryz.agg29 : AggOf Tryz.prog 29 64 := ⟨⟨_, Tryz.underlying29, rfl⟩, by kernel_rfl, by decide⟩
instance Tryz.agg33 : AggOf Tryz.prog 33 96 := ⟨⟨_, Tryz.underlying33, rfl⟩, by kernel_rfl, by decide⟩
instance Tryz.agg34 : AggOf Tryz.prog 34 96 := ⟨⟨_, Tryz.underlying34, rfl⟩, by kernel_rfl, by decide⟩
instance Tryz.agg40 : AggOf Tryz.prog 40 4 := ⟨⟨_, Tryz.underlying40, rfl⟩, by kernel_rfl, by decide⟩
instance Tryz.agg41 : AggOf Tryz.prog 41 4 := ⟨⟨_, Tryz.underlying41, rfl⟩, by kernel_rfl, by decide⟩
instance Tryz.agg42 : AggOf Tryz.prog 42 4 := ⟨⟨_, Tryz.underlying42, rfl⟩, by kernel_rfl, by decide⟩
instance Tryz.agg49 : AggOf Tryz.prog 49 2 := ⟨⟨_, Tryz.underlying49, rfl⟩, by kernel_rfl, by decide⟩
instance Tryz.agg51 : AggOf Tryz.prog 51 2 := ⟨⟨_, Tryz.underlying51, rfl⟩, by kernel_rfl, by decide⟩
instance Tryz.agg52 : AggOf Tryz.prog 52 10 := ⟨⟨_, Tryz.underlying52, rfl⟩, by kernel_rfl, by decide⟩
instance Tryz.agg53 : AggOf Tryz.prog 53 10 := ⟨⟨_, Tryz.underlying53, rfl⟩, by kernel_rfl, by decide⟩
instance Tryz.agg57 : AggOf Tryz.prog 57 4 := ⟨⟨_, Tryz.underlying57, rfl⟩, by kernel_rfl, by decide⟩
instance Tryz.agg67 : AggOf Tryz.prog 67 3 := ⟨⟨_, Tryz.underlying67, rfl⟩, by kernel_rfl, by decide⟩
instance Tryz.agg68 : AggOf Tryz.prog 68 3 := ⟨⟨_, Tryz.underlying68, rfl⟩, by kernel_rfl, by decide⟩
instance Tryz.agg89 : AggOf Tryz.prog 89 2 := ⟨⟨_, Tryz.underlying89, rfl⟩, by kernel_rfl, by decide⟩
instance Tryz.agg92 : AggOf Tryz.prog 92 3 := ⟨⟨_, Tryz.underlying92, rfl⟩, by kernel_rfl, by decide⟩
instance Tryz.agg93 : AggOf Tryz.prog 93 45 := ⟨⟨_, Tryz.underlying93, rfl⟩, by kernel_rfl, by decide⟩
instance Tryz.agg94 : AggOf Tryz.prog 94 45 := ⟨⟨_, Tryz.underlying94, rfl⟩, by kernel_rfl, by decide⟩
instance Tryz.agg95 : AggOf Tryz.prog 95 3 := ⟨⟨_, Tryz.underlying95, rfl⟩, by kernel_rfl, by decide⟩
instance Tryz.agg96 : AggOf Tryz.prog 96 3 := ⟨⟨_, Tryz.underlying96, rfl⟩, by kernel_rfl, by decide⟩
instance Tryz.agg97 : AggOf Tryz.prog 97 3 := ⟨⟨_, Tryz.underlying97, rfl⟩, by kernel_rfl, by decide⟩
instance Tryz.agg98 : AggOf Tryz.prog 98 3 := ⟨⟨_, Tryz.underlying98, rfl⟩, by kernel_rfl, by decide⟩
instance Tryz.agg99 : AggOf Tryz.prog 99 72 := ⟨⟨_, Tryz.underlying99, rfl⟩, by kernel_rfl, by decide⟩
instance Tryz.agg100 : AggOf Tryz.prog 100 72 := ⟨⟨_, Tryz.underlying100, rfl⟩, by kernel_rfl, by decide⟩
instance Tryz.agg111 : AggOf Tryz.prog 111 129 := ⟨⟨_, Tryz.underlying111, rfl⟩, by kernel_rfl, by decide⟩
instance Tryz.agg112 : AggOf Tryz.prog 112 129 := ⟨⟨_, Tryz.underlying112, rfl⟩, by kernel_rfl, by decide⟩
instance Tryz.agg120 : AggOf Tryz.prog 120 32 := ⟨⟨_, Tryz.underlying120, rfl⟩, by kernel_rfl, by decide⟩
instance Tryz.agg135 : AggOf Tryz.prog 135 64 := ⟨⟨_, Tryz.underlying135, rfl⟩, by kernel_rfl, by decide⟩
instance Tryz.agg137 : AggOf Tryz.prog 137 8 := ⟨⟨_, Tryz.underlying137, rfl⟩, by kernel_rfl, by decide⟩
instance Tryz.agg143 : AggOf Tryz.prog 143 16 := ⟨⟨_, Tryz.underlying143, rfl⟩, by kernel_rfl, by decide⟩
instance Tryz.agg144 : AggOf Tryz.prog 144 16 := ⟨⟨_, Tryz.underlying144, rfl⟩, by kernel_rfl, by decide⟩
instance Tryz.agg146 : AggOf Tryz.prog 146 32 := ⟨⟨_, Tryz.underlying146, rfl⟩, by kernel_rfl, by decide⟩
instance Tryz.agg147 : AggOf Tryz.prog 147 32 := ⟨⟨_, Tryz.underlying147, rfl⟩, by kernel_rfl, by decide⟩
instance Tryz.agg156 : AggOf Tryz.prog 156 16 := ⟨⟨_, Tryz.underlying156, rfl⟩, by kernel_rfl, by decide⟩
instance Tryz.agg159 : AggOf Tryz.prog 159 64 := ⟨⟨_, Tryz.underlying159, rfl⟩, by kernel_rfl, by decide⟩
instance Tryz.agg171 : AggOf Tryz.prog 171 31 := ⟨⟨_, Tryz.underlying171, rfl⟩, by kernel_rfl, by decide⟩
instance Tryz.agg176 : AggOf Tryz.prog 176 16 := ⟨⟨_, Tryz.underlying176, rfl⟩, by kernel_rfl, by decide⟩
instance Tryz.agg181 : AggOf Tryz.prog 181 16 := ⟨⟨_, Tryz.underlying181, rfl⟩, by kernel_rfl, by decide⟩
instance Tryz.agg184 : AggOf Tryz.prog 184 2 := ⟨⟨_, Tryz.underlying184, rfl⟩, by kernel_rfl, by decide⟩
instance Tryz.agg185 : AggOf Tryz.prog 185 3 := ⟨⟨_, Tryz.underlying185, rfl⟩, by kernel_rfl, by decide⟩
instance Tryz.agg186 : AggOf Tryz.prog 186 3 := ⟨⟨_, Tryz.underlying186, rfl⟩, by kernel_rfl, by decide⟩
instance Tryz.agg192 : AggOf Tryz.prog 192 2 := ⟨⟨_, Tryz.underlying192, rfl⟩, by kernel_rfl, by decide⟩
instance Tryz.agg193 : AggOf Tryz.prog 193 2 := ⟨⟨_, Tryz.underlying193, rfl⟩, by kernel_rfl, by decide⟩
instance Tryz.agg213 : AggOf Tryz.prog 213 4 := ⟨⟨_, Tryz.underlying213, rfl⟩, by kernel_rfl, by decide⟩
instance Tryz.agg223 : AggOf Tryz.prog 223 4 := ⟨⟨_, Tryz.underlying223, rfl⟩, by kernel_rfl, by decide⟩
instance Tryz.agg224 : AggOf Tryz.prog 224 4 := ⟨⟨_, Tryz.underlying224, rfl⟩, by kernel_rfl, by decide⟩
instance Tryz.agg233 : AggOf Tryz.prog 233 11 := ⟨⟨_, Tryz.underlying233, rfl⟩, by kernel_rfl, by decide⟩
instance Tryz.agg234 : AggOf Tryz.prog 234 11 := ⟨⟨_, Tryz.underlying234, rfl⟩, by kernel_rfl, by decide⟩
instance Tryz.build7 : BuildOf Tryz.prog 7 [(0, 1), (1, 1), (2, 1), (3, 1)] (zeros 2 (.int .i64 0) ++ ((.bool false) :: ((.int .u8 0) :: []))) := buildOf_struct Tryz.underlying7 (fun _ => by kernel_rfl) (fun _ => by kernel_rfl)
instance Tryz.build8 : BuildOf Tryz.prog 8 [(0, 1), (1, 1), (2, 1), (3, 1)] (zeros 2 (.int .i64 0) ++ ((.bool false) :: ((.int .u8 0) :: []))) := buildOf_struct Tryz.underlying8 (fun _ => by kernel_rfl) (fun _ => by kernel_rfl)
instance Tryz.build13 : BuildOf Tryz.prog 13 [(0, 1), (1, 1)] ((.string ⟨#[]⟩) :: ((.int .u64 0) :: [])) := buildOf_struct Tryz.underlying13 (fun _ => by kernel_rfl) (fun _ => by kernel_rfl)
instance Tryz.build14 : BuildOf Tryz.prog 14 [(0, 1), (1, 1)] ((.string ⟨#[]⟩) :: ((.int .u64 0) :: [])) := buildOf_struct Tryz.underlying14 (fun _ => by kernel_rfl) (fun _ => by kernel_rfl)
instance Tryz.build18 : BuildOf Tryz.prog 18 [(0, 1)] ((.pointer none) :: []) := buildOf_struct Tryz.underlying18 (fun _ => by kernel_rfl) (fun _ => by kernel_rfl)
instance Tryz.build19 : BuildOf Tryz.prog 19 [(0, 1)] ((.pointer none) :: []) := buildOf_struct Tryz.underlying19 (fun _ => by kernel_rfl) (fun _ => by kernel_rfl)
instance Tryz.build22 : BuildOf Tryz.prog 22 [(0, 1), (1, 1), (2, 1), (3, 1), (4, 1), (5, 1), (6, 1), (7, 1), (8, 1), (9, 1), (10, 1), (11, 1), (12, 1), (13, 1), (14, 1), (15, 1), (16, 1), (17, 1), (18, 1), (19, 1), (20, 1), (21, 1), (22, 1), (23, 1), (24, 1), (25, 1), (26, 1), (27, 1), (28, 1), (29, 1), (30, 1), (31, 1)] (zeros 32 (.int .u8 0)) := buildOf_array (size := 1) Tryz.underlying22 (fun _ => by kernel_rfl) (fun _ => by kernel_rfl) rfl
instance Tryz.build23 : BuildOf Tryz.prog 23 [(0, 1), (1, 1), (2, 1), (3, 1), (4, 1), (5, 1), (6, 1), (7, 1), (8, 1), (9, 1), (10, 1), (11, 1), (12, 1), (13, 1), (14, 1), (15, 1), (16, 1), (17, 1), (18, 1), (19, 1), (20, 1), (21, 1), (22, 1), (23, 1), (24, 1), (25, 1), (26, 1), (27, 1), (28, 1), (29, 1), (30, 1), (31, 1)] (zeros 32 (.int .u8 0)) := buildOf_array (size := 1) Tryz.underlying23 (fun _ => by kernel_rfl) (fun _ => by kernel_rfl) rfl
instance Tryz.build28 : BuildOf Tryz.prog 28 [(0, 32), (32, 32)] (zeros 64 (.int .u8 0)) := buildOf_struct Tryz.underlying28 (fun _ => by kernel_rfl) (fun _ => by kernel_rfl)
instance Tryz.build29 : BuildOf Tryz.prog 29 [(0, 32), (32, 32)] (zeros 64 (.int .u8 0)) := buildOf_struct Tryz.underlying29 (fun _ => by kernel_rfl) (fun _ => by kernel_rfl)
instance Tryz.build33 : BuildOf Tryz.prog 33 [(0, 32), (32, 32), (64, 32)] (zeros 96 (.int .u8 0)) := buildOf_struct Tryz.underlying33 (fun _ => by kernel_rfl) (fun _ => by kernel_rfl)
instance Tryz.build34 : BuildOf Tryz.prog 34 [(0, 32), (32, 32), (64, 32)] (zeros 96 (.int .u8 0)) := buildOf_struct Tryz.underlying34 (fun _ => by kernel_rfl) (fun _ => by kernel_rfl)
instance Tryz.build40 : BuildOf Tryz.prog 40 [(0, 1), (1, 1), (2, 1), (3, 1)] (zeros 4 (.int .u8 0)) := buildOf_array (size := 1) Tryz.underlying40 (fun _ => by kernel_rfl) (fun _ => by kernel_rfl) rfl
instance Tryz.build41 : BuildOf Tryz.prog 41 [(0, 1), (1, 1), (2, 1), (3, 1)] (zeros 4 (.int .i64 0)) := buildOf_struct Tryz.underlying41 (fun _ => by kernel_rfl) (fun _ => by kernel_rfl)
instance Tryz.build42 : BuildOf Tryz.prog 42 [(0, 1), (1, 1), (2, 1), (3, 1)] (zeros 4 (.int .i64 0)) := buildOf_struct Tryz.underlying42 (fun _ => by kernel_rfl) (fun _ => by kernel_rfl)
instance Tryz.build49 : BuildOf Tryz.prog 49 [(0, 1), (1, 1)] (zeros 2 (.pointer none)) := buildOf_array (size := 1) Tryz.underlying49 (fun _ => by kernel_rfl) (fun _ => by kernel_rfl) rfl
instance Tryz.build51 : BuildOf Tryz.prog 51 [(0, 1), (1, 1)] (zeros 2 (.slice none 0 0)) := buildOf_array (size := 1) Tryz.underlying51 (fun _ => by kernel_rfl) (fun _ => by kernel_rfl) rfl
instance Tryz.build52 : BuildOf Tryz.prog 52 [(0, 2), (2, 2), (4, 2), (6, 2), (8, 1), (9, 1)] (zeros 2 (.pointer none) ++ (zeros 6 (.slice none 0 0) ++ ((.int .i64 0) :: ((.bool false) :: [])))) := buildOf_struct Tryz.underlying52 (fun _ => by kernel_rfl) (fun _ => by kernel_rfl)
instance Tryz.build53 : BuildOf Tryz.prog 53 [(0, 2), (2, 2), (4, 2), (6, 2), (8, 1), (9, 1)] (zeros 2 (.pointer none) ++ (zeros 6 (.slice none 0 0) ++ ((.int .i64 0) :: ((.bool false) :: [])))) := buildOf_struct Tryz.underlying53 (fun _ => by kernel_rfl) (fun _ => by kernel_rfl)
instance Tryz.build57 : BuildOf Tryz.prog 57 [(0, 1), (1, 1), (2, 1), (3, 1)] (zeros 4 (.int .i64 0)) := buildOf_array (size := 1) Tryz.underlying57 (fun _ => by kernel_rfl) (fun _ => by kernel_rfl) rfl
instance Tryz.build67 : BuildOf Tryz.prog 67 [(0, 1), (1, 1), (2, 1)] ((.int .i64 0) :: ((.int .u64 0) :: ((.string ⟨#[]⟩) :: []))) := buildOf_struct Tryz.underlying67 (fun _ => by kernel_rfl) (fun _ => by kernel_rfl)
instance Tryz.build68 : BuildOf Tryz.prog 68 [(0, 1), (1, 1), (2, 1)] ((.int .i64 0) :: ((.int .u64 0) :: ((.string ⟨#[]⟩) :: []))) := buildOf_struct Tryz.underlying68 (fun _ => by kernel_rfl) (fun _ => by kernel_rfl)
instance Tryz.build89 : BuildOf Tryz.prog 89 [(0, 1), (1, 1)] (zeros 2 (.int .i64 0)) := buildOf_array (size := 1) Tryz.underlying89 (fun _ => by kernel_rfl) (fun _ => by kernel_rfl) rfl
instance Tryz.build92 : BuildOf Tryz.prog 92 [(0, 1), (1, 1), (2, 1)] (zeros 3 (.pointer none)) := buildOf_array (size := 1) Tryz.underlying92 (fun _ => by kernel_rfl) (fun _ => by kernel_rfl) rfl
instance Tryz.build93 : BuildOf Tryz.prog 93 [(0, 32), (32, 1), (33, 4), (37, 1), (38, 3), (41, 1), (42, 1), (43, 1), (44, 1)] (zeros 32 (.int .u8 0) ++ ((.bool false) :: (zeros 5 (.int .i64 0) ++ (zeros 4 (.pointer none) ++ (zeros 3 (.int .i64 0)))))) := buildOf_struct Tryz.underlying93 (fun _ => by kernel_rfl) (fun _ => by kernel_rfl)
instance Tryz.build94 : BuildOf Tryz.prog 94 [(0, 32), (32, 1), (33, 4), (37, 1), (38, 3), (41, 1), (42, 1), (43, 1), (44, 1)] (zeros 32 (.int .u8 0) ++ ((.bool false) :: (zeros 5 (.int .i64 0) ++ (zeros 4 (.pointer none) ++ (zeros 3 (.int .i64 0)))))) := buildOf_struct Tryz.underlying94 (fun _ => by kernel_rfl) (fun _ => by kernel_rfl)
instance Tryz.build95 : BuildOf Tryz.prog 95 [(0, 1), (1, 1), (2, 1)] (zeros 2 (.int .u64 0) ++ ((.bool false) :: [])) := buildOf_struct Tryz.underlying95 (fun _ => by kernel_rfl) (fun _ => by kernel_rfl)
instance Tryz.build96 : BuildOf Tryz.prog 96 [(0, 1), (1, 1), (2, 1)] (zeros 2 (.int .u64 0) ++ ((.bool false) :: [])) := buildOf_struct Tryz.underlying96 (fun _ => by kernel_rfl) (fun _ => by kernel_rfl)
instance Tryz.build97 : BuildOf Tryz.prog 97 [(0, 3)] (zeros 2 (.int .u64 0) ++ ((.bool false) :: [])) := buildOf_struct Tryz.underlying97 (fun _ => by kernel_rfl) (fun _ => by kernel_rfl)
instance Tryz.build98 : BuildOf Tryz.prog 98 [(0, 3)] (zeros 2 (.int .u64 0) ++ ((.bool false) :: [])) := buildOf_struct Tryz.underlying98 (fun _ => by kernel_rfl) (fun _ => by kernel_rfl)
instance Tryz.build99 : BuildOf Tryz.prog 99 [(0, 64), (64, 1), (65, 1), (66, 3), (69, 1), (70, 1), (71, 1)] (zeros 64 (.int .u8 0) ++ ((.int .i64 0) :: (zeros 3 (.int .u64 0) ++ ((.bool false) :: (zeros 3 (.int .i64 0)))))) := buildOf_struct Tryz.underlying99 (fun _ => by kernel_rfl) (fun _ => by kernel_rfl)
instance Tryz.build100 : BuildOf Tryz.prog 100 [(0, 64), (64, 1), (65, 1), (66, 3), (69, 1), (70, 1), (71, 1)] (zeros 64 (.int .u8 0) ++ ((.int .i64 0) :: (zeros 3 (.int .u64 0) ++ ((.bool false) :: (zeros 3 (.int .i64 0)))))) := buildOf_struct Tryz.underlying100 (fun _ => by kernel_rfl) (fun _ => by kernel_rfl)
instance Tryz.build111 : BuildOf Tryz.prog 111 [(0, 32), (32, 32), (64, 32), (96, 1), (97, 32)] (zeros 96 (.int .u8 0) ++ ((.int .u64 0) :: (zeros 32 (.int .u8 0)))) := buildOf_struct Tryz.underlying111 (fun _ => by kernel_rfl) (fun _ => by kernel_rfl)
instance Tryz.build112 : BuildOf Tryz.prog 112 [(0, 32), (32, 32), (64, 32), (96, 1), (97, 32)] (zeros 96 (.int .u8 0) ++ ((.int .u64 0) :: (zeros 32 (.int .u8 0)))) := buildOf_struct Tryz.underlying112 (fun _ => by kernel_rfl) (fun _ => by kernel_rfl)
instance Tryz.build120 : BuildOf Tryz.prog 120 [(0, 1), (1, 1), (2, 1), (3, 1), (4, 1), (5, 1), (6, 1), (7, 1), (8, 1), (9, 1), (10, 1), (11, 1), (12, 1), (13, 1), (14, 1), (15, 1), (16, 1), (17, 1), (18, 1), (19, 1), (20, 1), (21, 1), (22, 1), (23, 1), (24, 1), (25, 1), (26, 1), (27, 1), (28, 1), (29, 1), (30, 1), (31, 1)] (zeros 32 (.int .i64 0)) := buildOf_array (size := 1) Tryz.underlying120 (fun _ => by kernel_rfl) (fun _ => by kernel_rfl) rfl
instance Tryz.build135 : BuildOf Tryz.prog 135 [(0, 1), (1, 1), (2, 1), (3, 1), (4, 1), (5, 1), (6, 1), (7, 1), (8, 1), (9, 1), (10, 1), (11, 1), (12, 1), (13, 1), (14, 1), (15, 1), (16, 1), (17, 1), (18, 1), (19, 1), (20, 1), (21, 1), (22, 1), (23, 1), (24, 1), (25, 1), (26, 1), (27, 1), (28, 1), (29, 1), (30, 1), (31, 1), (32, 1), (33, 1), (34, 1), (35, 1), (36, 1), (37, 1), (38, 1), (39, 1), (40, 1), (41, 1), (42, 1), (43, 1), (44, 1), (45, 1), (46, 1), (47, 1), (48, 1), (49, 1), (50, 1), (51, 1), (52, 1), (53, 1), (54, 1), (55, 1), (56, 1), (57, 1), (58, 1), (59, 1), (60, 1), (61, 1), (62, 1), (63, 1)] (zeros 64 (.int .u32 0)) := buildOf_array (size := 1) Tryz.underlying135 (fun _ => by kernel_rfl) (fun _ => by kernel_rfl) rfl
instance Tryz.build137 : BuildOf Tryz.prog 137 [(0, 1), (1, 1), (2, 1), (3, 1), (4, 1), (5, 1), (6, 1), (7, 1)] (zeros 8 (.int .u32 0)) := buildOf_array (size := 1) Tryz.underlying137 (fun _ => by kernel_rfl) (fun _ => by kernel_rfl) rfl
instance Tryz.build143 : BuildOf Tryz.prog 143 [(0, 1), (1, 1), (2, 1), (3, 1), (4, 1), (5, 1), (6, 1), (7, 1), (8, 1), (9, 1), (10, 1), (11, 1), (12, 1), (13, 1), (14, 1), (15, 1)] (zeros 16 (.int .i64 0)) := buildOf_array (size := 1) Tryz.underlying143 (fun _ => by kernel_rfl) (fun _ => by kernel_rfl) rfl
instance Tryz.build144 : BuildOf Tryz.prog 144 [(0, 1), (1, 1), (2, 1), (3, 1), (4, 1), (5, 1), (6, 1), (7, 1), (8, 1), (9, 1), (10, 1), (11, 1), (12, 1), (13, 1), (14, 1), (15, 1)] (zeros 16 (.int .i64 0)) := buildOf_array (size := 1) Tryz.underlying144 (fun _ => by kernel_rfl) (fun _ => by kernel_rfl) rfl
instance Tryz.build146 : BuildOf Tryz.prog 146 [(0, 16), (16, 16)] (zeros 32 (.int .i64 0)) := buildOf_struct Tryz.underlying146 (fun _ => by kernel_rfl) (fun _ => by kernel_rfl)
instance Tryz.build147 : BuildOf Tryz.prog 147 [(0, 16), (16, 16)] (zeros 32 (.int .i64 0)) := buildOf_struct Tryz.underlying147 (fun _ => by kernel_rfl) (fun _ => by kernel_rfl)
instance Tryz.build156 : BuildOf Tryz.prog 156 [(0, 1), (1, 1), (2, 1), (3, 1), (4, 1), (5, 1), (6, 1), (7, 1), (8, 1), (9, 1), (10, 1), (11, 1), (12, 1), (13, 1), (14, 1), (15, 1)] (zeros 16 (.int .u8 0)) := buildOf_array (size := 1) Tryz.underlying156 (fun _ => by kernel_rfl) (fun _ => by kernel_rfl) rfl
instance Tryz.build159 : BuildOf Tryz.prog 159 [(0, 1), (1, 1), (2, 1), (3, 1), (4, 1), (5, 1), (6, 1), (7, 1), (8, 1), (9, 1), (10, 1), (11, 1), (12, 1), (13, 1), (14, 1), (15, 1), (16, 1), (17, 1), (18, 1), (19, 1), (20, 1), (21, 1), (22, 1), (23, 1), (24, 1), (25, 1), (26, 1), (27, 1), (28, 1), (29, 1), (30, 1), (31, 1), (32, 1), (33, 1), (34, 1), (35, 1), (36, 1), (37, 1), (38, 1), (39, 1), (40, 1), (41, 1), (42, 1), (43, 1), (44, 1), (45, 1), (46, 1), (47, 1), (48, 1), (49, 1), (50, 1), (51, 1), (52, 1), (53, 1), (54, 1), (55, 1), (56, 1), (57, 1), (58, 1), (59, 1), (60, 1), (61, 1), (62, 1), (63, 1)] (zeros 64 (.int .u8 0)) := buildOf_array (size := 1) Tryz.underlying159 (fun _ => by kernel_rfl) (fun _ => by kernel_rfl) rfl
instance Tryz.build171 : BuildOf Tryz.prog 171 [(0, 1), (1, 1), (2, 1), (3, 1), (4, 1), (5, 1), (6, 1), (7, 1), (8, 1), (9, 1), (10, 1), (11, 1), (12, 1), (13, 1), (14, 1), (15, 1), (16, 1), (17, 1), (18, 1), (19, 1), (20, 1), (21, 1), (22, 1), (23, 1), (24, 1), (25, 1), (26, 1), (27, 1), (28, 1), (29, 1), (30, 1)] (zeros 31 (.int .i64 0)) := buildOf_array (size := 1) Tryz.underlying171 (fun _ => by kernel_rfl) (fun _ => by kernel_rfl) rfl
instance Tryz.build176 : BuildOf Tryz.prog 176 [(0, 1), (1, 1), (2, 1), (3, 1), (4, 1), (5, 1), (6, 1), (7, 1), (8, 1), (9, 1), (10, 1), (11, 1), (12, 1), (13, 1), (14, 1), (15, 1)] (zeros 16 (.int .u32 0)) := buildOf_array (size := 1) Tryz.underlying176 (fun _ => by kernel_rfl) (fun _ => by kernel_rfl) rfl
instance Tryz.build181 : BuildOf Tryz.prog 181 [(0, 1), (1, 1), (2, 1), (3, 1), (4, 1), (5, 1), (6, 1), (7, 1), (8, 1), (9, 1), (10, 1), (11, 1), (12, 1), (13, 1), (14, 1), (15, 1)] (zeros 16 (.int .u32 0)) := buildOf_array (size := 1) Tryz.underlying181 (fun _ => by kernel_rfl) (fun _ => by kernel_rfl) rfl
instance Tryz.build184 : BuildOf Tryz.prog 184 [(0, 1), (1, 1)] (zeros 2 (.int .u64 0)) := buildOf_array (size := 1) Tryz.underlying184 (fun _ => by kernel_rfl) (fun _ => by kernel_rfl) rfl
instance Tryz.build185 : BuildOf Tryz.prog 185 [(0, 1), (1, 1), (2, 1)] (zeros 3 (.int .u64 0)) := buildOf_array (size := 1) Tryz.underlying185 (fun _ => by kernel_rfl) (fun _ => by kernel_rfl) rfl
instance Tryz.build186 : BuildOf Tryz.prog 186 [(0, 1), (1, 1), (2, 1)] (zeros 3 (.int .u64 0)) := buildOf_array (size := 1) Tryz.underlying186 (fun _ => by kernel_rfl) (fun _ => by kernel_rfl) rfl
instance Tryz.build192 : BuildOf Tryz.prog 192 [(0, 1), (1, 1)] ((.pointer none) :: ((.slice none 0 0) :: [])) := buildOf_struct Tryz.underlying192 (fun _ => by kernel_rfl) (fun _ => by kernel_rfl)
instance Tryz.build193 : BuildOf Tryz.prog 193 [(0, 1), (1, 1)] ((.pointer none) :: ((.slice none 0 0) :: [])) := buildOf_struct Tryz.underlying193 (fun _ => by kernel_rfl) (fun _ => by kernel_rfl)
instance Tryz.build213 : BuildOf Tryz.prog 213 [(0, 1), (1, 1), (2, 1), (3, 1)] (zeros 4 (.int .u64 0)) := buildOf_array (size := 1) Tryz.underlying213 (fun _ => by kernel_rfl) (fun _ => by kernel_rfl) rfl
instance Tryz.build223 : BuildOf Tryz.prog 223 [(0, 1), (1, 1), (2, 1), (3, 1)] (zeros 3 (.pointer none) ++ ((.string ⟨#[]⟩) :: [])) := buildOf_struct Tryz.underlying223 (fun _ => by kernel_rfl) (fun _ => by kernel_rfl)
instance Tryz.build224 : BuildOf Tryz.prog 224 [(0, 1), (1, 1), (2, 1), (3, 1)] (zeros 3 (.pointer none) ++ ((.string ⟨#[]⟩) :: [])) := buildOf_struct Tryz.underlying224 (fun _ => by kernel_rfl) (fun _ => by kernel_rfl)
instance Tryz.build233 : BuildOf Tryz.prog 233 [(0, 1), (1, 1), (2, 1), (3, 1), (4, 1), (5, 1), (6, 1), (7, 1), (8, 1), (9, 1), (10, 1)] (zeros 2 (.int .u64 0) ++ ((.int .u32 0) :: (zeros 4 (.int .u8 0) ++ (.nilFunc :: ((.pointer none) :: (zeros 2 (.int .i32 0))))))) := buildOf_struct Tryz.underlying233 (fun _ => by kernel_rfl) (fun _ => by kernel_rfl)
instance Tryz.build234 : BuildOf Tryz.prog 234 [(0, 1), (1, 1), (2, 1), (3, 1), (4, 1), (5, 1), (6, 1), (7, 1), (8, 1), (9, 1), (10, 1)] (zeros 2 (.int .u64 0) ++ ((.int .u32 0) :: (zeros 4 (.int .u8 0) ++ (.nilFunc :: ((.pointer none) :: (zeros 2 (.int .i32 0))))))) := buildOf_struct Tryz.underlying234 (fun _ => by kernel_rfl) (fun _ => by kernel_rfl)
instance Tryz.str9 : StrOf Tryz.prog 9 := ⟨Tryz.underlying9⟩
instance Tryz.str10 : StrOf Tryz.prog 10 := ⟨Tryz.underlying10⟩
instance Tryz.str11 : StrOf Tryz.prog 11 := ⟨Tryz.underlying11⟩
instance Tryz.arr22 : ArrLen Tryz.prog 22 32 := ⟨_, Tryz.underlying22⟩
instance Tryz.arr23 : ArrLen Tryz.prog 23 32 := ⟨_, Tryz.underlying23⟩
instance Tryz.arr40 : ArrLen Tryz.prog 40 4 := ⟨_, Tryz.underlying40⟩
instance Tryz.arr49 : ArrLen Tryz.prog 49 2 := ⟨_, Tryz.underlying49⟩
instance Tryz.arr51 : ArrLen Tryz.prog 51 2 := ⟨_, Tryz.underlying51⟩
instance Tryz.arr57 : ArrLen Tryz.prog 57 4 := ⟨_, Tryz.underlying57⟩
instance Tryz.arr89 : ArrLen Tryz.prog 89 2 := ⟨_, Tryz.underlying89⟩
instance Tryz.arr92 : ArrLen Tryz.prog 92 3 := ⟨_, Tryz.underlying92⟩
instance Tryz.bytes113 : BytesOf Tryz.prog 113 5 := ⟨Tryz.underlying113, Tryz.underlying5, by kernel_rfl⟩
instance Tryz.arr120 : ArrLen Tryz.prog 120 32 := ⟨_, Tryz.underlying120⟩
instance Tryz.arr135 : ArrLen Tryz.prog 135 64 := ⟨_, Tryz.underlying135⟩
instance Tryz.arr137 : ArrLen Tryz.prog 137 8 := ⟨_, Tryz.underlying137⟩
instance Tryz.arr143 : ArrLen Tryz.prog 143 16 := ⟨_, Tryz.underlying143⟩
instance Tryz.arr144 : ArrLen Tryz.prog 144 16 := ⟨_, Tryz.underlying144⟩
instance Tryz.arr156 : ArrLen Tryz.prog 156 16 := ⟨_, Tryz.underlying156⟩
instance Tryz.arr159 : ArrLen Tryz.prog 159 64 := ⟨_, Tryz.underlying159⟩
instance Tryz.arr171 : ArrLen Tryz.prog 171 31 := ⟨_, Tryz.underlying171⟩
instance Tryz.arr176 : ArrLen Tryz.prog 176 16 := ⟨_, Tryz.underlying176⟩
instance Tryz.arr181 : ArrLen Tryz.prog 181 16 := ⟨_, Tryz.underlying181⟩
instance Tryz.arr184 : ArrLen Tryz.prog 184 2 := ⟨_, Tryz.underlying184⟩
instance Tryz.arr185 : ArrLen Tryz.prog 185 3 := ⟨_, Tryz.underlying185⟩
instance Tryz.arr186 : ArrLen Tryz.prog 186 3 := ⟨_, Tryz.underlying186⟩
instance Tryz.arr213 : ArrLen Tryz.prog 213 4 := ⟨_, Tryz.underlying213⟩
instance Tryz.arr225 : ArrLen Tryz.prog 225 0 := ⟨_, Tryz.underlying225⟩
end Go.Proofs.YtakkicppgkmokaaGreat
