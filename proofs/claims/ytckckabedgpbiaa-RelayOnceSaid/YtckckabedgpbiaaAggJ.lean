/- The structs and arrays of this program, and how many cells each has. By program. -/
import Derived.Test.YtckckabedgpbiaaRows
import Derived.Test.YtckckabedgpbiaaJ0
namespace Go.Proofs.Ytckckabedgpbiaa
instance Try.agg7 : AggOf Try.prog 7 4 := ⟨⟨_, Try.underlying7, rfl⟩, by kernel_rfl, by decide⟩
instance Try.agg8 : AggOf Try.prog 8 4 := ⟨⟨_, Try.underlying8, rfl⟩, by kernel_rfl, by decide⟩
instance Try.agg13 : AggOf Try.prog 13 2 := ⟨⟨_, Try.underlying13, rfl⟩, by kernel_rfl, by decide⟩
instance Try.agg14 : AggOf Try.prog 14 2 := ⟨⟨_, Try.underlying14, rfl⟩, by kernel_rfl, by decide⟩
instance Try.agg18 : AggOf Try.prog 18 1 := ⟨⟨_, Try.underlying18, rfl⟩, by kernel_rfl, by decide⟩
instance Try.agg19 : AggOf Try.prog 19 1 := ⟨⟨_, Try.underlying19, rfl⟩, by kernel_rfl, by decide⟩
instance Try.agg29 : AggOf Try.prog 29 6 := ⟨⟨_, Try.underlying29, rfl⟩, by kernel_rfl, by decide⟩
instance Try.agg30 : AggOf Try.prog 30 6 := ⟨⟨_, Try.underlying30, rfl⟩, by kernel_rfl, by decide⟩
instance Try.agg31 : AggOf Try.prog 31 14 := ⟨⟨_, Try.underlying31, rfl⟩, by kernel_rfl, by decide⟩
instance Try.agg32 : AggOf Try.prog 32 14 := ⟨⟨_, Try.underlying32, rfl⟩, by kernel_rfl, by decide⟩
instance Try.agg35 : AggOf Try.prog 35 16 := ⟨⟨_, Try.underlying35, rfl⟩, by kernel_rfl, by decide⟩
instance Try.agg36 : AggOf Try.prog 36 16 := ⟨⟨_, Try.underlying36, rfl⟩, by kernel_rfl, by decide⟩
instance Try.agg37 : AggOf Try.prog 37 7 := ⟨⟨_, Try.underlying37, rfl⟩, by kernel_rfl, by decide⟩
instance Try.agg38 : AggOf Try.prog 38 7 := ⟨⟨_, Try.underlying38, rfl⟩, by kernel_rfl, by decide⟩
instance Try.agg46 : AggOf Try.prog 46 4 := ⟨⟨_, Try.underlying46, rfl⟩, by kernel_rfl, by decide⟩
instance Try.agg56 : AggOf Try.prog 56 9 := ⟨⟨_, Try.underlying56, rfl⟩, by kernel_rfl, by decide⟩
instance Try.agg57 : AggOf Try.prog 57 9 := ⟨⟨_, Try.underlying57, rfl⟩, by kernel_rfl, by decide⟩
instance Try.agg71 : AggOf Try.prog 71 2 := ⟨⟨_, Try.underlying71, rfl⟩, by kernel_rfl, by decide⟩
instance Try.agg72 : AggOf Try.prog 72 2 := ⟨⟨_, Try.underlying72, rfl⟩, by kernel_rfl, by decide⟩
instance Try.agg73 : AggOf Try.prog 73 4 := ⟨⟨_, Try.underlying73, rfl⟩, by kernel_rfl, by decide⟩
instance Try.agg74 : AggOf Try.prog 74 4 := ⟨⟨_, Try.underlying74, rfl⟩, by kernel_rfl, by decide⟩
instance Try.agg77 : AggOf Try.prog 77 16 := ⟨⟨_, Try.underlying77, rfl⟩, by kernel_rfl, by decide⟩
instance Try.agg78 : AggOf Try.prog 78 16 := ⟨⟨_, Try.underlying78, rfl⟩, by kernel_rfl, by decide⟩
instance Try.agg83 : AggOf Try.prog 83 2 := ⟨⟨_, Try.underlying83, rfl⟩, by kernel_rfl, by decide⟩
instance Try.agg84 : AggOf Try.prog 84 2 := ⟨⟨_, Try.underlying84, rfl⟩, by kernel_rfl, by decide⟩
instance Try.agg89 : AggOf Try.prog 89 5 := ⟨⟨_, Try.underlying89, rfl⟩, by kernel_rfl, by decide⟩
instance Try.agg90 : AggOf Try.prog 90 5 := ⟨⟨_, Try.underlying90, rfl⟩, by kernel_rfl, by decide⟩
instance Try.agg99 : AggOf Try.prog 99 4 := ⟨⟨_, Try.underlying99, rfl⟩, by kernel_rfl, by decide⟩
instance Try.agg100 : AggOf Try.prog 100 4 := ⟨⟨_, Try.underlying100, rfl⟩, by kernel_rfl, by decide⟩
instance Try.agg103 : AggOf Try.prog 103 5 := ⟨⟨_, Try.underlying103, rfl⟩, by kernel_rfl, by decide⟩
instance Try.agg104 : AggOf Try.prog 104 5 := ⟨⟨_, Try.underlying104, rfl⟩, by kernel_rfl, by decide⟩
instance Try.agg109 : AggOf Try.prog 109 2 := ⟨⟨_, Try.underlying109, rfl⟩, by kernel_rfl, by decide⟩
instance Try.agg110 : AggOf Try.prog 110 2 := ⟨⟨_, Try.underlying110, rfl⟩, by kernel_rfl, by decide⟩
instance Try.agg111 : AggOf Try.prog 111 21 := ⟨⟨_, Try.underlying111, rfl⟩, by kernel_rfl, by decide⟩
instance Try.agg112 : AggOf Try.prog 112 21 := ⟨⟨_, Try.underlying112, rfl⟩, by kernel_rfl, by decide⟩
instance Try.agg118 : AggOf Try.prog 118 16 := ⟨⟨_, Try.underlying118, rfl⟩, by kernel_rfl, by decide⟩
instance Try.agg119 : AggOf Try.prog 119 60 := ⟨⟨_, Try.underlying119, rfl⟩, by kernel_rfl, by decide⟩
instance Try.agg120 : AggOf Try.prog 120 60 := ⟨⟨_, Try.underlying120, rfl⟩, by kernel_rfl, by decide⟩
instance Try.agg127 : AggOf Try.prog 127 21 := ⟨⟨_, Try.underlying127, rfl⟩, by kernel_rfl, by decide⟩
instance Try.agg130 : AggOf Try.prog 130 60 := ⟨⟨_, Try.underlying130, rfl⟩, by kernel_rfl, by decide⟩
instance Try.agg133 : AggOf Try.prog 133 2 := ⟨⟨_, Try.underlying133, rfl⟩, by kernel_rfl, by decide⟩
instance Try.agg134 : AggOf Try.prog 134 2 := ⟨⟨_, Try.underlying134, rfl⟩, by kernel_rfl, by decide⟩
instance Try.agg135 : AggOf Try.prog 135 7 := ⟨⟨_, Try.underlying135, rfl⟩, by kernel_rfl, by decide⟩
instance Try.agg136 : AggOf Try.prog 136 7 := ⟨⟨_, Try.underlying136, rfl⟩, by kernel_rfl, by decide⟩
instance Try.agg145 : AggOf Try.prog 145 9 := ⟨⟨_, Try.underlying145, rfl⟩, by kernel_rfl, by decide⟩
instance Try.agg146 : AggOf Try.prog 146 9 := ⟨⟨_, Try.underlying146, rfl⟩, by kernel_rfl, by decide⟩
instance Try.agg157 : AggOf Try.prog 157 1 := ⟨⟨_, Try.underlying157, rfl⟩, by kernel_rfl, by decide⟩
instance Try.agg158 : AggOf Try.prog 158 1 := ⟨⟨_, Try.underlying158, rfl⟩, by kernel_rfl, by decide⟩
instance Try.agg173 : AggOf Try.prog 173 3 := ⟨⟨_, Try.underlying173, rfl⟩, by kernel_rfl, by decide⟩
instance Try.agg174 : AggOf Try.prog 174 3 := ⟨⟨_, Try.underlying174, rfl⟩, by kernel_rfl, by decide⟩
instance Try.agg176 : AggOf Try.prog 176 3 := ⟨⟨_, Try.underlying176, rfl⟩, by kernel_rfl, by decide⟩
instance Try.agg177 : AggOf Try.prog 177 3 := ⟨⟨_, Try.underlying177, rfl⟩, by kernel_rfl, by decide⟩
instance Try.agg179 : AggOf Try.prog 179 7 := ⟨⟨_, Try.underlying179, rfl⟩, by kernel_rfl, by decide⟩
instance Try.agg180 : AggOf Try.prog 180 7 := ⟨⟨_, Try.underlying180, rfl⟩, by kernel_rfl, by decide⟩
instance Try.agg192 : AggOf Try.prog 192 4 := ⟨⟨_, Try.underlying192, rfl⟩, by kernel_rfl, by decide⟩
instance Try.agg193 : AggOf Try.prog 193 4 := ⟨⟨_, Try.underlying193, rfl⟩, by kernel_rfl, by decide⟩
instance Try.agg204 : AggOf Try.prog 204 11 := ⟨⟨_, Try.underlying204, rfl⟩, by kernel_rfl, by decide⟩
instance Try.agg205 : AggOf Try.prog 205 11 := ⟨⟨_, Try.underlying205, rfl⟩, by kernel_rfl, by decide⟩
instance Try.build7 : BuildOf Try.prog 7 [(0, 1), (1, 1), (2, 1), (3, 1)] (zeros 2 (.int .i64 0) ++ ((.bool false) :: ((.int .u8 0) :: []))) := buildOf_struct Try.underlying7 (fun _ => by kernel_rfl) (fun _ => by kernel_rfl)
instance Try.build8 : BuildOf Try.prog 8 [(0, 1), (1, 1), (2, 1), (3, 1)] (zeros 2 (.int .i64 0) ++ ((.bool false) :: ((.int .u8 0) :: []))) := buildOf_struct Try.underlying8 (fun _ => by kernel_rfl) (fun _ => by kernel_rfl)
instance Try.build13 : BuildOf Try.prog 13 [(0, 1), (1, 1)] ((.string ⟨#[]⟩) :: ((.int .u64 0) :: [])) := buildOf_struct Try.underlying13 (fun _ => by kernel_rfl) (fun _ => by kernel_rfl)
instance Try.build14 : BuildOf Try.prog 14 [(0, 1), (1, 1)] ((.string ⟨#[]⟩) :: ((.int .u64 0) :: [])) := buildOf_struct Try.underlying14 (fun _ => by kernel_rfl) (fun _ => by kernel_rfl)
instance Try.build18 : BuildOf Try.prog 18 [(0, 1)] ((.pointer none) :: []) := buildOf_struct Try.underlying18 (fun _ => by kernel_rfl) (fun _ => by kernel_rfl)
instance Try.build19 : BuildOf Try.prog 19 [(0, 1)] ((.pointer none) :: []) := buildOf_struct Try.underlying19 (fun _ => by kernel_rfl) (fun _ => by kernel_rfl)
instance Try.build29 : BuildOf Try.prog 29 [(0, 1), (1, 1), (2, 1), (3, 1), (4, 1), (5, 1)] (zeros 6 (.int .u8 0)) := buildOf_array (size := 1) Try.underlying29 (fun _ => by kernel_rfl) (fun _ => by kernel_rfl) rfl
instance Try.build30 : BuildOf Try.prog 30 [(0, 1), (1, 1), (2, 1), (3, 1), (4, 1), (5, 1)] (zeros 6 (.int .u8 0)) := buildOf_array (size := 1) Try.underlying30 (fun _ => by kernel_rfl) (fun _ => by kernel_rfl) rfl
instance Try.build31 : BuildOf Try.prog 31 [(0, 6), (6, 6), (12, 1), (13, 1)] (zeros 12 (.int .u8 0) ++ ((.int .i64 0) :: ((.string ⟨#[]⟩) :: []))) := buildOf_struct Try.underlying31 (fun _ => by kernel_rfl) (fun _ => by kernel_rfl)
instance Try.build32 : BuildOf Try.prog 32 [(0, 6), (6, 6), (12, 1), (13, 1)] (zeros 12 (.int .u8 0) ++ ((.int .i64 0) :: ((.string ⟨#[]⟩) :: []))) := buildOf_struct Try.underlying32 (fun _ => by kernel_rfl) (fun _ => by kernel_rfl)
instance Try.build35 : BuildOf Try.prog 35 [(0, 1), (1, 1), (2, 14)] ((.int .u8 0) :: ((.int .i64 0) :: (zeros 12 (.int .u8 0) ++ ((.int .i64 0) :: ((.string ⟨#[]⟩) :: []))))) := buildOf_struct Try.underlying35 (fun _ => by kernel_rfl) (fun _ => by kernel_rfl)
instance Try.build36 : BuildOf Try.prog 36 [(0, 1), (1, 1), (2, 14)] ((.int .u8 0) :: ((.int .i64 0) :: (zeros 12 (.int .u8 0) ++ ((.int .i64 0) :: ((.string ⟨#[]⟩) :: []))))) := buildOf_struct Try.underlying36 (fun _ => by kernel_rfl) (fun _ => by kernel_rfl)
instance Try.build37 : BuildOf Try.prog 37 [(0, 1), (1, 6)] ((.string ⟨#[]⟩) :: (zeros 6 (.int .u8 0))) := buildOf_struct Try.underlying37 (fun _ => by kernel_rfl) (fun _ => by kernel_rfl)
instance Try.build38 : BuildOf Try.prog 38 [(0, 1), (1, 6)] ((.string ⟨#[]⟩) :: (zeros 6 (.int .u8 0))) := buildOf_struct Try.underlying38 (fun _ => by kernel_rfl) (fun _ => by kernel_rfl)
instance Try.build46 : BuildOf Try.prog 46 [(0, 1), (1, 1), (2, 1), (3, 1)] (zeros 4 (.int .u8 0)) := buildOf_array (size := 1) Try.underlying46 (fun _ => by kernel_rfl) (fun _ => by kernel_rfl) rfl
instance Try.build56 : BuildOf Try.prog 56 [(0, 1), (1, 1), (2, 6), (8, 1)] ((.int .i64 0) :: ((.string ⟨#[]⟩) :: (zeros 6 (.int .u8 0) ++ ((.int .i64 0) :: [])))) := buildOf_struct Try.underlying56 (fun _ => by kernel_rfl) (fun _ => by kernel_rfl)
instance Try.build57 : BuildOf Try.prog 57 [(0, 1), (1, 1), (2, 6), (8, 1)] ((.int .i64 0) :: ((.string ⟨#[]⟩) :: (zeros 6 (.int .u8 0) ++ ((.int .i64 0) :: [])))) := buildOf_struct Try.underlying57 (fun _ => by kernel_rfl) (fun _ => by kernel_rfl)
instance Try.build71 : BuildOf Try.prog 71 [(0, 1), (1, 1)] ((.int .i64 0) :: ((.slice none 0 0) :: [])) := buildOf_struct Try.underlying71 (fun _ => by kernel_rfl) (fun _ => by kernel_rfl)
instance Try.build72 : BuildOf Try.prog 72 [(0, 1), (1, 1)] ((.int .i64 0) :: ((.slice none 0 0) :: [])) := buildOf_struct Try.underlying72 (fun _ => by kernel_rfl) (fun _ => by kernel_rfl)
instance Try.build73 : BuildOf Try.prog 73 [(0, 2), (2, 1), (3, 1)] ((.int .i64 0) :: ((.slice none 0 0) :: (zeros 2 (.int .i64 0)))) := buildOf_struct Try.underlying73 (fun _ => by kernel_rfl) (fun _ => by kernel_rfl)
instance Try.build74 : BuildOf Try.prog 74 [(0, 2), (2, 1), (3, 1)] ((.int .i64 0) :: ((.slice none 0 0) :: (zeros 2 (.int .i64 0)))) := buildOf_struct Try.underlying74 (fun _ => by kernel_rfl) (fun _ => by kernel_rfl)
instance Try.build77 : BuildOf Try.prog 77 [(0, 14), (14, 1), (15, 1)] (zeros 12 (.int .u8 0) ++ ((.int .i64 0) :: ((.string ⟨#[]⟩) :: (zeros 2 (.int .i64 0))))) := buildOf_struct Try.underlying77 (fun _ => by kernel_rfl) (fun _ => by kernel_rfl)
instance Try.build78 : BuildOf Try.prog 78 [(0, 14), (14, 1), (15, 1)] (zeros 12 (.int .u8 0) ++ ((.int .i64 0) :: ((.string ⟨#[]⟩) :: (zeros 2 (.int .i64 0))))) := buildOf_struct Try.underlying78 (fun _ => by kernel_rfl) (fun _ => by kernel_rfl)
instance Try.build83 : BuildOf Try.prog 83 [(0, 1), (1, 1)] ((.int .i64 0) :: ((.string ⟨#[]⟩) :: [])) := buildOf_struct Try.underlying83 (fun _ => by kernel_rfl) (fun _ => by kernel_rfl)
instance Try.build84 : BuildOf Try.prog 84 [(0, 1), (1, 1)] ((.int .i64 0) :: ((.string ⟨#[]⟩) :: [])) := buildOf_struct Try.underlying84 (fun _ => by kernel_rfl) (fun _ => by kernel_rfl)
instance Try.build89 : BuildOf Try.prog 89 [(0, 1), (1, 1), (2, 1), (3, 1), (4, 1)] (zeros 5 (.int .i64 0)) := buildOf_struct Try.underlying89 (fun _ => by kernel_rfl) (fun _ => by kernel_rfl)
instance Try.build90 : BuildOf Try.prog 90 [(0, 1), (1, 1), (2, 1), (3, 1), (4, 1)] (zeros 5 (.int .i64 0)) := buildOf_struct Try.underlying90 (fun _ => by kernel_rfl) (fun _ => by kernel_rfl)
instance Try.build99 : BuildOf Try.prog 99 [(0, 1), (1, 1), (2, 1), (3, 1)] ((.int .u8 0) :: (zeros 2 (.int .i64 0) ++ ((.string ⟨#[]⟩) :: []))) := buildOf_struct Try.underlying99 (fun _ => by kernel_rfl) (fun _ => by kernel_rfl)
instance Try.build100 : BuildOf Try.prog 100 [(0, 1), (1, 1), (2, 1), (3, 1)] ((.int .u8 0) :: (zeros 2 (.int .i64 0) ++ ((.string ⟨#[]⟩) :: []))) := buildOf_struct Try.underlying100 (fun _ => by kernel_rfl) (fun _ => by kernel_rfl)
instance Try.build103 : BuildOf Try.prog 103 [(0, 1), (1, 1), (2, 1), (3, 1), (4, 1)] ((.int .i64 0) :: ((.slice none 0 0) :: (zeros 3 (.int .i64 0)))) := buildOf_struct Try.underlying103 (fun _ => by kernel_rfl) (fun _ => by kernel_rfl)
instance Try.build104 : BuildOf Try.prog 104 [(0, 1), (1, 1), (2, 1), (3, 1), (4, 1)] ((.int .i64 0) :: ((.slice none 0 0) :: (zeros 3 (.int .i64 0)))) := buildOf_struct Try.underlying104 (fun _ => by kernel_rfl) (fun _ => by kernel_rfl)
instance Try.build109 : BuildOf Try.prog 109 [(0, 1), (1, 1)] ((.int .i64 0) :: ((.map none) :: [])) := buildOf_struct Try.underlying109 (fun _ => by kernel_rfl) (fun _ => by kernel_rfl)
instance Try.build110 : BuildOf Try.prog 110 [(0, 1), (1, 1)] ((.int .i64 0) :: ((.map none) :: [])) := buildOf_struct Try.underlying110 (fun _ => by kernel_rfl) (fun _ => by kernel_rfl)
instance Try.build111 : BuildOf Try.prog 111 [(0, 1), (1, 6), (7, 6), (13, 4), (17, 4)] ((.int .i64 0) :: (zeros 20 (.int .u8 0))) := buildOf_struct Try.underlying111 (fun _ => by kernel_rfl) (fun _ => by kernel_rfl)
instance Try.build112 : BuildOf Try.prog 112 [(0, 1), (1, 6), (7, 6), (13, 4), (17, 4)] ((.int .i64 0) :: (zeros 20 (.int .u8 0))) := buildOf_struct Try.underlying112 (fun _ => by kernel_rfl) (fun _ => by kernel_rfl)
instance Try.build118 : BuildOf Try.prog 118 [(0, 1), (1, 1), (2, 1), (3, 1), (4, 1), (5, 1), (6, 1), (7, 1), (8, 1), (9, 1), (10, 1), (11, 1), (12, 1), (13, 1), (14, 1), (15, 1)] (zeros 16 (.int .u8 0)) := buildOf_array (size := 1) Try.underlying118 (fun _ => by kernel_rfl) (fun _ => by kernel_rfl) rfl
instance Try.build119 : BuildOf Try.prog 119 [(0, 1), (1, 16), (17, 16), (33, 16), (49, 6), (55, 1), (56, 4)] ((.int .i64 0) :: (zeros 54 (.int .u8 0) ++ ((.bool false) :: (zeros 4 (.int .u8 0))))) := buildOf_struct Try.underlying119 (fun _ => by kernel_rfl) (fun _ => by kernel_rfl)
instance Try.build120 : BuildOf Try.prog 120 [(0, 1), (1, 16), (17, 16), (33, 16), (49, 6), (55, 1), (56, 4)] ((.int .i64 0) :: (zeros 54 (.int .u8 0) ++ ((.bool false) :: (zeros 4 (.int .u8 0))))) := buildOf_struct Try.underlying120 (fun _ => by kernel_rfl) (fun _ => by kernel_rfl)
instance Try.build127 : BuildOf Try.prog 127 [(0, 1), (1, 6), (7, 6), (13, 4), (17, 4)] ((.int .i64 0) :: (zeros 20 (.int .u8 0))) := buildOf_struct Try.underlying127 (fun _ => by kernel_rfl) (fun _ => by kernel_rfl)
instance Try.build130 : BuildOf Try.prog 130 [(0, 1), (1, 16), (17, 16), (33, 16), (49, 6), (55, 1), (56, 4)] ((.int .i64 0) :: (zeros 54 (.int .u8 0) ++ ((.bool false) :: (zeros 4 (.int .u8 0))))) := buildOf_struct Try.underlying130 (fun _ => by kernel_rfl) (fun _ => by kernel_rfl)
instance Try.build133 : BuildOf Try.prog 133 [(0, 1), (1, 1)] ((.int .i64 0) :: ((.string ⟨#[]⟩) :: [])) := buildOf_struct Try.underlying133 (fun _ => by kernel_rfl) (fun _ => by kernel_rfl)
instance Try.build134 : BuildOf Try.prog 134 [(0, 1), (1, 1)] ((.int .i64 0) :: ((.string ⟨#[]⟩) :: [])) := buildOf_struct Try.underlying134 (fun _ => by kernel_rfl) (fun _ => by kernel_rfl)
instance Try.build135 : BuildOf Try.prog 135 [(0, 6), (6, 1)] (zeros 6 (.int .u8 0) ++ ((.int .i64 0) :: [])) := buildOf_struct Try.underlying135 (fun _ => by kernel_rfl) (fun _ => by kernel_rfl)
instance Try.build136 : BuildOf Try.prog 136 [(0, 6), (6, 1)] (zeros 6 (.int .u8 0) ++ ((.int .i64 0) :: [])) := buildOf_struct Try.underlying136 (fun _ => by kernel_rfl) (fun _ => by kernel_rfl)
instance Try.build145 : BuildOf Try.prog 145 [(0, 1), (1, 1), (2, 1), (3, 1), (4, 5)] (zeros 2 (.slice none 0 0) ++ (zeros 2 (.pointer none) ++ (zeros 5 (.int .i64 0)))) := buildOf_struct Try.underlying145 (fun _ => by kernel_rfl) (fun _ => by kernel_rfl)
instance Try.build146 : BuildOf Try.prog 146 [(0, 1), (1, 1), (2, 1), (3, 1), (4, 5)] (zeros 2 (.slice none 0 0) ++ (zeros 2 (.pointer none) ++ (zeros 5 (.int .i64 0)))) := buildOf_struct Try.underlying146 (fun _ => by kernel_rfl) (fun _ => by kernel_rfl)
instance Try.build157 : BuildOf Try.prog 157 [(0, 1)] ((.string ⟨#[]⟩) :: []) := buildOf_struct Try.underlying157 (fun _ => by kernel_rfl) (fun _ => by kernel_rfl)
instance Try.build158 : BuildOf Try.prog 158 [(0, 1)] ((.string ⟨#[]⟩) :: []) := buildOf_struct Try.underlying158 (fun _ => by kernel_rfl) (fun _ => by kernel_rfl)
instance Try.build173 : BuildOf Try.prog 173 [(0, 1), (1, 1), (2, 1)] ((.int .i64 0) :: ((.slice none 0 0) :: ((.map none) :: []))) := buildOf_struct Try.underlying173 (fun _ => by kernel_rfl) (fun _ => by kernel_rfl)
instance Try.build174 : BuildOf Try.prog 174 [(0, 1), (1, 1), (2, 1)] ((.int .i64 0) :: ((.slice none 0 0) :: ((.map none) :: []))) := buildOf_struct Try.underlying174 (fun _ => by kernel_rfl) (fun _ => by kernel_rfl)
instance Try.build176 : BuildOf Try.prog 176 [(0, 1), (1, 1), (2, 1)] (zeros 2 (.int .i64 0) ++ ((.bool false) :: [])) := buildOf_struct Try.underlying176 (fun _ => by kernel_rfl) (fun _ => by kernel_rfl)
instance Try.build177 : BuildOf Try.prog 177 [(0, 1), (1, 1), (2, 1)] (zeros 2 (.int .i64 0) ++ ((.bool false) :: [])) := buildOf_struct Try.underlying177 (fun _ => by kernel_rfl) (fun _ => by kernel_rfl)
instance Try.build179 : BuildOf Try.prog 179 [(0, 1), (1, 6)] ((.int .i64 0) :: (zeros 6 (.int .u8 0))) := buildOf_struct Try.underlying179 (fun _ => by kernel_rfl) (fun _ => by kernel_rfl)
instance Try.build180 : BuildOf Try.prog 180 [(0, 1), (1, 6)] ((.int .i64 0) :: (zeros 6 (.int .u8 0))) := buildOf_struct Try.underlying180 (fun _ => by kernel_rfl) (fun _ => by kernel_rfl)
instance Try.build192 : BuildOf Try.prog 192 [(0, 1), (1, 1), (2, 1), (3, 1)] (zeros 3 (.pointer none) ++ ((.string ⟨#[]⟩) :: [])) := buildOf_struct Try.underlying192 (fun _ => by kernel_rfl) (fun _ => by kernel_rfl)
instance Try.build193 : BuildOf Try.prog 193 [(0, 1), (1, 1), (2, 1), (3, 1)] (zeros 3 (.pointer none) ++ ((.string ⟨#[]⟩) :: [])) := buildOf_struct Try.underlying193 (fun _ => by kernel_rfl) (fun _ => by kernel_rfl)
instance Try.build204 : BuildOf Try.prog 204 [(0, 1), (1, 1), (2, 1), (3, 1), (4, 1), (5, 1), (6, 1), (7, 1), (8, 1), (9, 1), (10, 1)] (zeros 2 (.int .u64 0) ++ ((.int .u32 0) :: (zeros 4 (.int .u8 0) ++ (.nilFunc :: ((.pointer none) :: (zeros 2 (.int .i32 0))))))) := buildOf_struct Try.underlying204 (fun _ => by kernel_rfl) (fun _ => by kernel_rfl)
instance Try.build205 : BuildOf Try.prog 205 [(0, 1), (1, 1), (2, 1), (3, 1), (4, 1), (5, 1), (6, 1), (7, 1), (8, 1), (9, 1), (10, 1)] (zeros 2 (.int .u64 0) ++ ((.int .u32 0) :: (zeros 4 (.int .u8 0) ++ (.nilFunc :: ((.pointer none) :: (zeros 2 (.int .i32 0))))))) := buildOf_struct Try.underlying205 (fun _ => by kernel_rfl) (fun _ => by kernel_rfl)
instance Try.str9 : StrOf Try.prog 9 := ⟨Try.underlying9⟩
instance Try.str10 : StrOf Try.prog 10 := ⟨Try.underlying10⟩
instance Try.str11 : StrOf Try.prog 11 := ⟨Try.underlying11⟩
instance Try.arr29 : ArrLen Try.prog 29 6 := ⟨_, Try.underlying29⟩
instance Try.arr30 : ArrLen Try.prog 30 6 := ⟨_, Try.underlying30⟩
instance Try.arr46 : ArrLen Try.prog 46 4 := ⟨_, Try.underlying46⟩
instance Try.bytes62 : BytesOf Try.prog 62 5 := ⟨Try.underlying62, Try.underlying5, by kernel_rfl⟩
instance Try.arr118 : ArrLen Try.prog 118 16 := ⟨_, Try.underlying118⟩
instance Try.arr194 : ArrLen Try.prog 194 0 := ⟨_, Try.underlying194⟩
end Go.Proofs.Ytckckabedgpbiaa
