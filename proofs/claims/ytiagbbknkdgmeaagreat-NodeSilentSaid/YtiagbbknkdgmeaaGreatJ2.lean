/- Texts of this proof, merged: Agg, Eql, Cmp. -/
import Derived.Test.YtiagbbknkdgmeaaGreatRows
import Derived.Test.YtiagbbknkdgmeaaGreatMemJ
import Derived.Laws.StructEq
set_option maxHeartbeats 8000000
set_option maxRecDepth 20000
set_option linter.unusedSimpArgs false
set_option linter.unusedVariables false
namespace Go.Proofs.YtiagbbknkdgmeaaGreat
section
instance Tryz.agg22:AggOf Tryz.prog 22 8:=⟨⟨_,Tryz.underlying22,rfl⟩,by kernel_rfl,by decide⟩
instance Tryz.agg25:AggOf Tryz.prog 25 13:=⟨⟨_,Tryz.underlying25,rfl⟩,by kernel_rfl,by decide⟩
instance Tryz.agg27:AggOf Tryz.prog 27 32:=⟨⟨_,Tryz.underlying27,rfl⟩,by kernel_rfl,by decide⟩
instance Tryz.agg28:AggOf Tryz.prog 28 32:=⟨⟨_,Tryz.underlying28,rfl⟩,by kernel_rfl,by decide⟩
instance Tryz.agg36:AggOf Tryz.prog 36 8:=⟨⟨_,Tryz.underlying36,rfl⟩,by kernel_rfl,by decide⟩
instance Tryz.agg38:AggOf Tryz.prog 38 3:=⟨⟨_,Tryz.underlying38,rfl⟩,by kernel_rfl,by decide⟩
instance Tryz.agg41:AggOf Tryz.prog 41 13:=⟨⟨_,Tryz.underlying41,rfl⟩,by kernel_rfl,by decide⟩
instance Tryz.agg44:AggOf Tryz.prog 44 4:=⟨⟨_,Tryz.underlying44,rfl⟩,by kernel_rfl,by decide⟩
instance Tryz.agg57:AggOf Tryz.prog 57 39:=⟨⟨_,Tryz.underlying57,rfl⟩,by kernel_rfl,by decide⟩
instance Tryz.agg62:AggOf Tryz.prog 62 2:=⟨⟨_,Tryz.underlying62,rfl⟩,by kernel_rfl,by decide⟩
instance Tryz.agg64:AggOf Tryz.prog 64 4:=⟨⟨_,Tryz.underlying64,rfl⟩,by kernel_rfl,by decide⟩
instance Tryz.agg66:AggOf Tryz.prog 66 39:=⟨⟨_,Tryz.underlying66,rfl⟩,by kernel_rfl,by decide⟩
instance Tryz.agg71:AggOf Tryz.prog 71 2:=⟨⟨_,Tryz.underlying71,rfl⟩,by kernel_rfl,by decide⟩
instance Tryz.agg77:AggOf Tryz.prog 77 6:=⟨⟨_,Tryz.underlying77,rfl⟩,by kernel_rfl,by decide⟩
instance Tryz.agg125:AggOf Tryz.prog 125 5:=⟨⟨_,Tryz.underlying125,rfl⟩,by kernel_rfl,by decide⟩
instance Tryz.agg133:AggOf Tryz.prog 133 18:=⟨⟨_,Tryz.underlying133,rfl⟩,by kernel_rfl,by decide⟩
instance Tryz.agg158:AggOf Tryz.prog 158 14:=⟨⟨_,Tryz.underlying158,rfl⟩,by kernel_rfl,by decide⟩
instance Tryz.agg160:AggOf Tryz.prog 160 16:=⟨⟨_,Tryz.underlying160,rfl⟩,by kernel_rfl,by decide⟩
instance Tryz.agg174:AggOf Tryz.prog 174 2:=⟨⟨_,Tryz.underlying174,rfl⟩,by kernel_rfl,by decide⟩
instance Tryz.agg188:AggOf Tryz.prog 188 3:=⟨⟨_,Tryz.underlying188,rfl⟩,by kernel_rfl,by decide⟩
instance Tryz.agg198:AggOf Tryz.prog 198 7:=⟨⟨_,Tryz.underlying198,rfl⟩,by kernel_rfl,by decide⟩
instance Tryz.agg200:AggOf Tryz.prog 200 2:=⟨⟨_,Tryz.underlying200,rfl⟩,by kernel_rfl,by decide⟩
instance Tryz.agg202:AggOf Tryz.prog 202 7:=⟨⟨_,Tryz.underlying202,rfl⟩,by kernel_rfl,by decide⟩
instance Tryz.agg249:AggOf Tryz.prog 249 7:=⟨⟨_,Tryz.underlying249,rfl⟩,by kernel_rfl,by decide⟩
instance Tryz.agg253:AggOf Tryz.prog 253 4:=⟨⟨_,Tryz.underlying253,rfl⟩,by kernel_rfl,by decide⟩
instance Tryz.agg255:AggOf Tryz.prog 255 21:=⟨⟨_,Tryz.underlying255,rfl⟩,by kernel_rfl,by decide⟩
instance Tryz.agg261:AggOf Tryz.prog 261 16:=⟨⟨_,Tryz.underlying261,rfl⟩,by kernel_rfl,by decide⟩
instance Tryz.agg263:AggOf Tryz.prog 263 60:=⟨⟨_,Tryz.underlying263,rfl⟩,by kernel_rfl,by decide⟩
instance Tryz.agg296:AggOf Tryz.prog 296 64:=⟨⟨_,Tryz.underlying296,rfl⟩,by kernel_rfl,by decide⟩
instance Tryz.agg298:AggOf Tryz.prog 298 8:=⟨⟨_,Tryz.underlying298,rfl⟩,by kernel_rfl,by decide⟩
instance Tryz.agg306:AggOf Tryz.prog 306 16:=⟨⟨_,Tryz.underlying306,rfl⟩,by kernel_rfl,by decide⟩
instance Tryz.agg309:AggOf Tryz.prog 309 32:=⟨⟨_,Tryz.underlying309,rfl⟩,by kernel_rfl,by decide⟩
instance Tryz.agg315:AggOf Tryz.prog 315 64:=⟨⟨_,Tryz.underlying315,rfl⟩,by kernel_rfl,by decide⟩
instance Tryz.agg334:AggOf Tryz.prog 334 16:=⟨⟨_,Tryz.underlying334,rfl⟩,by kernel_rfl,by decide⟩
instance Tryz.agg338:AggOf Tryz.prog 338 2:=⟨⟨_,Tryz.underlying338,rfl⟩,by kernel_rfl,by decide⟩
instance Tryz.agg339:AggOf Tryz.prog 339 3:=⟨⟨_,Tryz.underlying339,rfl⟩,by kernel_rfl,by decide⟩
instance Tryz.agg340:AggOf Tryz.prog 340 3:=⟨⟨_,Tryz.underlying340,rfl⟩,by kernel_rfl,by decide⟩
instance Tryz.build28:BuildOf Tryz.prog 28 [(0,1),(1,1),(2,1),(3,1),(4,1),(5,1),(6,1),(7,1),(8,1),(9,1),(10,1),(11,1),(12,1),(13,1),(14,1),(15,1),(16,1),(17,1),(18,1),(19,1),(20,1),(21,1),(22,1),(23,1),(24,1),(25,1),(26,1),(27,1),(28,1),(29,1),(30,1),(31,1)] (aH 32 (.int .u8 0)):=bT (size:=1) Tryz.underlying28 (fun _=>by kernel_rfl) (fun _=>by kernel_rfl) rfl
instance Tryz.build38:BuildOf Tryz.prog 38 [(0,1),(1,1),(2,1)] (aH 3 (.int .i64 0)):=aN Tryz.underlying38 (fun _=>by kernel_rfl) (fun _=>by kernel_rfl)
instance Tryz.build41:BuildOf Tryz.prog 41 [(0,8),(8,3),(11,1),(12,1)] (aH 8 (.int .u8 0)++(aH 4 (.int .i64 0)++((.slice none 0 0)::[]))):=aN Tryz.underlying41 (fun _=>by kernel_rfl) (fun _=>by kernel_rfl)
instance Tryz.build44:BuildOf Tryz.prog 44 [(0,1),(1,1),(2,1),(3,1)] (aH 4 (.int .i64 0)):=aN Tryz.underlying44 (fun _=>by kernel_rfl) (fun _=>by kernel_rfl)
instance Tryz.build54:BuildOf Tryz.prog 54 [(0,1),(1,1),(2,1)] ((.int .i64 0)::((.bool false)::((.string ⟨#[]⟩)::[]))):=aN Tryz.underlying54 (fun _=>by kernel_rfl) (fun _=>by kernel_rfl)
instance Tryz.build57:BuildOf Tryz.prog 57 [(0,1),(1,1),(2,1),(3,1),(4,1),(5,1),(6,1),(7,32)] ((.int .i64 0)::((.slice none 0 0)::(aH 2 (.int .i64 0)++((.bool false)::((.int .i64 0)::((.bool false)::(aH 32 (.int .u8 0)))))))):=aN Tryz.underlying57 (fun _=>by kernel_rfl) (fun _=>by kernel_rfl)
instance Tryz.build62:BuildOf Tryz.prog 62 [(0,1),(1,1)] ((.int .i64 0)::((.slice none 0 0)::[])):=aN Tryz.underlying62 (fun _=>by kernel_rfl) (fun _=>by kernel_rfl)
instance Tryz.build64:BuildOf Tryz.prog 64 [(0,2),(2,1),(3,1)] ((.int .i64 0)::((.slice none 0 0)::(aH 2 (.int .i64 0)))):=aN Tryz.underlying64 (fun _=>by kernel_rfl) (fun _=>by kernel_rfl)
instance Tryz.build66:BuildOf Tryz.prog 66 [(0,4),(4,1),(5,1),(6,1),(7,32)] ((.int .i64 0)::((.slice none 0 0)::(aH 2 (.int .i64 0)++((.bool false)::((.int .i64 0)::((.bool false)::(aH 32 (.int .u8 0)))))))):=aN Tryz.underlying66 (fun _=>by kernel_rfl) (fun _=>by kernel_rfl)
instance Tryz.build71:BuildOf Tryz.prog 71 [(0,1),(1,1)] ((.int .i64 0)::((.string ⟨#[]⟩)::[])):=aN Tryz.underlying71 (fun _=>by kernel_rfl) (fun _=>by kernel_rfl)
instance Tryz.build77:BuildOf Tryz.prog 77 [(0,1),(1,1),(2,1),(3,1),(4,1),(5,1)] (aH 6 (.int .u8 0)):=bT (size:=1) Tryz.underlying77 (fun _=>by kernel_rfl) (fun _=>by kernel_rfl) rfl
instance Tryz.build83:BuildOf Tryz.prog 83 [(0,13),(13,6),(19,1),(20,1),(21,1),(22,1),(23,1),(24,1)] (aH 8 (.int .u8 0)++(aH 4 (.int .i64 0)++((.slice none 0 0)::(aH 6 (.int .u8 0)++(aH 2 (.pointer none)++((.slice none 0 0)::((.pointer none)::((.int .u32 0)::((.int .i64 0)::[]))))))))):=aN Tryz.underlying83 (fun _=>by kernel_rfl) (fun _=>by kernel_rfl)
instance Tryz.build95:BuildOf Tryz.prog 95 [(0,1),(1,1),(2,1),(3,1),(4,1)] ((.pointer none)::((.map none)::((.int .i64 0)::((.bool false)::((.int .i64 0)::[]))))):=aN Tryz.underlying95 (fun _=>by kernel_rfl) (fun _=>by kernel_rfl)
instance Tryz.build109:BuildOf Tryz.prog 109 [(0,1),(1,2),(3,1)] ((.int .i64 0)::(aH 2 (.slice none 0 0)++((.int .i64 0)::[]))):=aN Tryz.underlying109 (fun _=>by kernel_rfl) (fun _=>by kernel_rfl)
instance Tryz.build114:BuildOf Tryz.prog 114 [(0,32),(32,1),(33,4),(37,1),(38,3),(41,1),(42,1),(43,1),(44,1)] (aH 32 (.int .u8 0)++((.bool false)::(aH 5 (.int .i64 0)++(aH 4 (.pointer none)++(aH 3 (.int .i64 0)))))):=aN Tryz.underlying114 (fun _=>by kernel_rfl) (fun _=>by kernel_rfl)
instance Tryz.build125:BuildOf Tryz.prog 125 [(0,1),(1,1),(2,1),(3,1),(4,1)] (aH 5 (.int .i64 0)):=aN Tryz.underlying125 (fun _=>by kernel_rfl) (fun _=>by kernel_rfl)
instance Tryz.build127:BuildOf Tryz.prog 127 [(0,1),(1,1),(2,1),(3,1),(4,5)] (aH 2 (.slice none 0 0)++(aH 2 (.pointer none)++(aH 5 (.int .i64 0)))):=aN Tryz.underlying127 (fun _=>by kernel_rfl) (fun _=>by kernel_rfl)
instance Tryz.build133:BuildOf Tryz.prog 133 [(0,8),(8,1),(9,8),(17,1)] (aH 8 (.int .u8 0)++((.int .i64 0)::(aH 8 (.int .u8 0)++((.int .i64 0)::[])))):=aN Tryz.underlying133 (fun _=>by kernel_rfl) (fun _=>by kernel_rfl)
instance Tryz.build135:BuildOf Tryz.prog 135 [(0,8),(8,3),(11,1),(12,18),(30,1),(31,1),(32,1)] (aH 8 (.int .u8 0)++(aH 3 (.int .i64 0)++((.slice none 0 0)::(aH 8 (.int .u8 0)++((.int .i64 0)::(aH 8 (.int .u8 0)++(aH 4 (.int .i64 0)))))))):=aN Tryz.underlying135 (fun _=>by kernel_rfl) (fun _=>by kernel_rfl)
instance Tryz.build140:BuildOf Tryz.prog 140 [(0,1),(1,1),(2,1),(3,24),(27,1),(28,1),(29,1)] ((.int .i64 0)::(aH 2 (.bool false)++(aH 16 (.int .u8 0)++(aH 6 (.int .i64 0)++(aH 2 (.bool false)++(aH 3 (.int .i64 0))))))):=aN Tryz.underlying140 (fun _=>by kernel_rfl) (fun _=>by kernel_rfl)
instance Tryz.build158:BuildOf Tryz.prog 158 [(0,6),(6,6),(12,1),(13,1)] (aH 12 (.int .u8 0)++((.int .i64 0)::((.string ⟨#[]⟩)::[]))):=aN Tryz.underlying158 (fun _=>by kernel_rfl) (fun _=>by kernel_rfl)
instance Tryz.build160:BuildOf Tryz.prog 160 [(0,14),(14,1),(15,1)] (aH 12 (.int .u8 0)++((.int .i64 0)::((.string ⟨#[]⟩)::(aH 2 (.int .i64 0))))):=aN Tryz.underlying160 (fun _=>by kernel_rfl) (fun _=>by kernel_rfl)
instance Tryz.build174:BuildOf Tryz.prog 174 [(0,1),(1,1)] ((.int .i64 0)::((.string ⟨#[]⟩)::[])):=aN Tryz.underlying174 (fun _=>by kernel_rfl) (fun _=>by kernel_rfl)
instance Tryz.build181:BuildOf Tryz.prog 181 [(0,1),(1,1),(2,1)] ((.int .i64 0)::((.slice none 0 0)::((.map none)::[]))):=aN Tryz.underlying181 (fun _=>by kernel_rfl) (fun _=>by kernel_rfl)
instance Tryz.build184:BuildOf Tryz.prog 184 [(0,1),(1,1)] ((.int .i64 0)::((.map none)::[])):=aN Tryz.underlying184 (fun _=>by kernel_rfl) (fun _=>by kernel_rfl)
instance Tryz.build188:BuildOf Tryz.prog 188 [(0,1),(1,1),(2,1)] (aH 2 (.int .i64 0)++((.bool false)::[])):=aN Tryz.underlying188 (fun _=>by kernel_rfl) (fun _=>by kernel_rfl)
instance Tryz.build194:BuildOf Tryz.prog 194 [(0,1),(1,1),(2,1)] ((.int .i64 0)::((.int .u64 0)::((.string ⟨#[]⟩)::[]))):=aN Tryz.underlying194 (fun _=>by kernel_rfl) (fun _=>by kernel_rfl)
instance Tryz.build198:BuildOf Tryz.prog 198 [(0,1),(1,6)] ((.int .i64 0)::(aH 6 (.int .u8 0))):=aN Tryz.underlying198 (fun _=>by kernel_rfl) (fun _=>by kernel_rfl)
instance Tryz.build200:BuildOf Tryz.prog 200 [(0,1),(1,1)] ((.int .i64 0)::((.string ⟨#[]⟩)::[])):=aN Tryz.underlying200 (fun _=>by kernel_rfl) (fun _=>by kernel_rfl)
instance Tryz.build202:BuildOf Tryz.prog 202 [(0,6),(6,1)] (aH 6 (.int .u8 0)++((.int .i64 0)::[])):=aN Tryz.underlying202 (fun _=>by kernel_rfl) (fun _=>by kernel_rfl)
instance Tryz.build242:BuildOf Tryz.prog 242 [(0,1)] ((.string ⟨#[]⟩)::[]):=aN Tryz.underlying242 (fun _=>by kernel_rfl) (fun _=>by kernel_rfl)
instance Tryz.build249:BuildOf Tryz.prog 249 [(0,1),(1,6)] ((.string ⟨#[]⟩)::(aH 6 (.int .u8 0))):=aN Tryz.underlying249 (fun _=>by kernel_rfl) (fun _=>by kernel_rfl)
instance Tryz.build253:BuildOf Tryz.prog 253 [(0,1),(1,1),(2,1),(3,1)] (aH 4 (.int .u8 0)):=bT (size:=1) Tryz.underlying253 (fun _=>by kernel_rfl) (fun _=>by kernel_rfl) rfl
instance Tryz.build255:BuildOf Tryz.prog 255 [(0,1),(1,6),(7,6),(13,4),(17,4)] ((.int .i64 0)::(aH 20 (.int .u8 0))):=aN Tryz.underlying255 (fun _=>by kernel_rfl) (fun _=>by kernel_rfl)
instance Tryz.build261:BuildOf Tryz.prog 261 [(0,1),(1,1),(2,1),(3,1),(4,1),(5,1),(6,1),(7,1),(8,1),(9,1),(10,1),(11,1),(12,1),(13,1),(14,1),(15,1)] (aH 16 (.int .u8 0)):=bT (size:=1) Tryz.underlying261 (fun _=>by kernel_rfl) (fun _=>by kernel_rfl) rfl
instance Tryz.build263:BuildOf Tryz.prog 263 [(0,1),(1,16),(17,16),(33,16),(49,6),(55,1),(56,4)] ((.int .i64 0)::(aH 54 (.int .u8 0)++((.bool false)::(aH 4 (.int .u8 0))))):=aN Tryz.underlying263 (fun _=>by kernel_rfl) (fun _=>by kernel_rfl)
instance Tryz.build278:BuildOf Tryz.prog 278 [(0,32),(32,32),(64,32),(96,1),(97,32)] (aH 96 (.int .u8 0)++((.int .u64 0)::(aH 32 (.int .u8 0)))):=aN Tryz.underlying278 (fun _=>by kernel_rfl) (fun _=>by kernel_rfl)
instance Tryz.build296:BuildOf Tryz.prog 296 [(0,1),(1,1),(2,1),(3,1),(4,1),(5,1),(6,1),(7,1),(8,1),(9,1),(10,1),(11,1),(12,1),(13,1),(14,1),(15,1),(16,1),(17,1),(18,1),(19,1),(20,1),(21,1),(22,1),(23,1),(24,1),(25,1),(26,1),(27,1),(28,1),(29,1),(30,1),(31,1),(32,1),(33,1),(34,1),(35,1),(36,1),(37,1),(38,1),(39,1),(40,1),(41,1),(42,1),(43,1),(44,1),(45,1),(46,1),(47,1),(48,1),(49,1),(50,1),(51,1),(52,1),(53,1),(54,1),(55,1),(56,1),(57,1),(58,1),(59,1),(60,1),(61,1),(62,1),(63,1)] (aH 64 (.int .u32 0)):=bT (size:=1) Tryz.underlying296 (fun _=>by kernel_rfl) (fun _=>by kernel_rfl) rfl
instance Tryz.build298:BuildOf Tryz.prog 298 [(0,1),(1,1),(2,1),(3,1),(4,1),(5,1),(6,1),(7,1)] (aH 8 (.int .u32 0)):=bT (size:=1) Tryz.underlying298 (fun _=>by kernel_rfl) (fun _=>by kernel_rfl) rfl
instance Tryz.build306:BuildOf Tryz.prog 306 [(0,1),(1,1),(2,1),(3,1),(4,1),(5,1),(6,1),(7,1),(8,1),(9,1),(10,1),(11,1),(12,1),(13,1),(14,1),(15,1)] (aH 16 (.int .i64 0)):=bT (size:=1) Tryz.underlying306 (fun _=>by kernel_rfl) (fun _=>by kernel_rfl) rfl
instance Tryz.build309:BuildOf Tryz.prog 309 [(0,16),(16,16)] (aH 32 (.int .i64 0)):=aN Tryz.underlying309 (fun _=>by kernel_rfl) (fun _=>by kernel_rfl)
instance Tryz.build315:BuildOf Tryz.prog 315 [(0,1),(1,1),(2,1),(3,1),(4,1),(5,1),(6,1),(7,1),(8,1),(9,1),(10,1),(11,1),(12,1),(13,1),(14,1),(15,1),(16,1),(17,1),(18,1),(19,1),(20,1),(21,1),(22,1),(23,1),(24,1),(25,1),(26,1),(27,1),(28,1),(29,1),(30,1),(31,1),(32,1),(33,1),(34,1),(35,1),(36,1),(37,1),(38,1),(39,1),(40,1),(41,1),(42,1),(43,1),(44,1),(45,1),(46,1),(47,1),(48,1),(49,1),(50,1),(51,1),(52,1),(53,1),(54,1),(55,1),(56,1),(57,1),(58,1),(59,1),(60,1),(61,1),(62,1),(63,1)] (aH 64 (.int .u8 0)):=bT (size:=1) Tryz.underlying315 (fun _=>by kernel_rfl) (fun _=>by kernel_rfl) rfl
instance Tryz.build330:BuildOf Tryz.prog 330 [(0,1),(1,1),(2,1),(3,1),(4,1),(5,1),(6,1),(7,1),(8,1),(9,1),(10,1),(11,1),(12,1),(13,1),(14,1),(15,1),(16,1),(17,1),(18,1),(19,1),(20,1),(21,1),(22,1),(23,1),(24,1),(25,1),(26,1),(27,1),(28,1),(29,1),(30,1)] (aH 31 (.int .i64 0)):=bT (size:=1) Tryz.underlying330 (fun _=>by kernel_rfl) (fun _=>by kernel_rfl) rfl
instance Tryz.build334:BuildOf Tryz.prog 334 [(0,1),(1,1),(2,1),(3,1),(4,1),(5,1),(6,1),(7,1),(8,1),(9,1),(10,1),(11,1),(12,1),(13,1),(14,1),(15,1)] (aH 16 (.int .u32 0)):=bT (size:=1) Tryz.underlying334 (fun _=>by kernel_rfl) (fun _=>by kernel_rfl) rfl
instance Tryz.build338:BuildOf Tryz.prog 338 [(0,1),(1,1)] (aH 2 (.int .u64 0)):=bT (size:=1) Tryz.underlying338 (fun _=>by kernel_rfl) (fun _=>by kernel_rfl) rfl
instance Tryz.build339:BuildOf Tryz.prog 339 [(0,1),(1,1),(2,1)] (aH 3 (.int .u64 0)):=bT (size:=1) Tryz.underlying339 (fun _=>by kernel_rfl) (fun _=>by kernel_rfl) rfl
instance Tryz.build340:BuildOf Tryz.prog 340 [(0,1),(1,1),(2,1)] (aH 3 (.int .u64 0)):=bT (size:=1) Tryz.underlying340 (fun _=>by kernel_rfl) (fun _=>by kernel_rfl) rfl
instance Tryz.build347:BuildOf Tryz.prog 347 [(0,1),(1,1)] ((.pointer none)::((.slice none 0 0)::[])):=aN Tryz.underlying347 (fun _=>by kernel_rfl) (fun _=>by kernel_rfl)
instance Tryz.build368:BuildOf Tryz.prog 368 [(0,1),(1,1),(2,1),(3,1)] (aH 4 (.int .u64 0)):=bT (size:=1) Tryz.underlying368 (fun _=>by kernel_rfl) (fun _=>by kernel_rfl) rfl
instance Tryz.str9:StrOf Tryz.prog 9:=⟨Tryz.underlying9⟩
instance Tryz.arr28:ArrLen Tryz.prog 28 32:=⟨_,Tryz.underlying28⟩
instance Tryz.arr77:ArrLen Tryz.prog 77 6:=⟨_,Tryz.underlying77⟩
instance Tryz.bytes168:BytesOf Tryz.prog 168 5:=⟨Tryz.underlying168,Tryz.underlying5,by kernel_rfl⟩
instance Tryz.arr253:ArrLen Tryz.prog 253 4:=⟨_,Tryz.underlying253⟩
instance Tryz.arr261:ArrLen Tryz.prog 261 16:=⟨_,Tryz.underlying261⟩
end
section
open Go.RowKit
inductive Leaf where
 | int (k:IntKind) | bool | str
def Leaf.ok:Leaf->Value->Bool
 | .int k,.int k' _=>k==k'
 | .bool,.bool _=>true
 | .str,.string _=>true
 | _,_=>false
def veq:Value->Value->Bool
 | .int _ a,.int _ b=>a==b
 | .bool a,.bool b=>a==b
 | .string a,.string b=>a.toList==b.toList
 | _,_=>false
def eG:List Leaf->List Value->Bool
 | [],[]=>true
 | l::ls,v::vs=>l.ok v&&eG ls vs
 | _,_=>false
def ceq:List Value->List Value->Bool
 | [],[]=>true
 | v::vs,u::us=>veq v u&&ceq vs us
 | _,_=>false
theorem cG:∀{ls:List Leaf} {vs:List Value},eG ls vs=true->vs.length=ls.length
 | [],[],_=>rfl
 | _::_,_::_,h=>by simp only[eG,Bool.and_eq_true]at h;simp[cG h.2]
 | [],_::_,h=>by simp[eG]at h
 | _::_,[],h=>by simp[eG]at h
theorem jI:∀{l1 l2:List Leaf} {vs:List Value},eG (l1++l2) vs=true->eG l1 (vs.take l1.length)=true/\eG l2 (vs.drop l1.length)=true
 | [],_,_,h=>⟨rfl,by simpa using h⟩
 | _::l1,l2,v::vs,h=>by
  simp only[List.cons_append,eG,Bool.and_eq_true]at h
  have:=jI h.2
  simp only[List.length_cons,List.take_succ_cons,List.drop_succ_cons,eG,Bool.and_eq_true]
  exact⟨⟨h.1,this.1⟩,this.2⟩
 | _::_,_,[],h=>by simp[eG]at h
theorem i6:∀(a b c d:List Value),a.length=b.length->ceq (a++c) (b++d)=(ceq a b&&ceq c d)
 | [],[],_,_,_=>by simp[ceq]
 | x::a,y::b,c,d,h=>by
  simp only[List.cons_append,ceq,i6 a b c d (by simpa using h),Bool.and_assoc]
 | [],_::_,_,_,h=>by simp at h
 | _::_,[],_,_,h=>by simp at h
theorem aDD:∀{ls:List Leaf} {vs:List Value},eG ls vs=true->ceq vs vs=true
 | [],[],_=>rfl
 | l::ls,v::vs,h=>by
  simp only[eG,Bool.and_eq_true]at h
  have hv:veq v v=true:=by
   have:=h.1
   cases l<;>cases v<;>simp[Leaf.ok]at this<;>simp[veq]
  simp only[ceq,hv,aDD h.2,Bool.and_self]
 | [],_::_,h=>by simp[eG]at h
 | _::_,[],h=>by simp[eG]at h
def mkV (agg:Bool) (vs:List Value):Value:=if agg then .agg vs.toArray else vs.headD undef
structure PlainT (P:Program) (D:Nat) (t:TypeId) (agg:Bool) (ls:List Leaf):Prop where
 size:(P.info? t).map (·.size)=some ls.length
 isAgg:∀w,(isAgg t).run P w=.ok agg w
 one:agg=false->ls.length=1
 eq:∀(d:Nat) (w:World) (xs ys:List Value),D<=d->eG ls xs=true->eG ls ys=true->(Op.equalIn d t (mkV agg xs) (mkV agg ys)).run P w=.ok (ceq xs ys) w
section
variable {P:Program}
theorem aAL {t:TypeId} {k:IntKind} (hu:P.underlying t=some (.int k)) (hs:(P.info? t).map (·.size)=some 1) (k':IntKind):PlainT P 1 t false [.int k']:=by
 refine⟨hs,fun w=>?_,fun _=>rfl,fun d w xs ys hd hx hy=>?_⟩
 ·unfold Go.isAgg;rw[Sem.run_bind,run_underlying hu w];rfl
 ·obtain⟨x,rfl⟩:=List.length_eq_one_iff.1 (cG hx)
  obtain⟨y,rfl⟩:=List.length_eq_one_iff.1 (cG hy)
  cases x<;>simp[eG,Leaf.ok]at hx
  cases y<;>simp[eG,Leaf.ok]at hy
  ·subst hx;subst hy
   obtain⟨e,rfl⟩:∃e,d=e+1:=⟨d - 1,by omega⟩
   simp[mkV,Op.equalIn,run_underlying hu,ceq,veq]
theorem aF2 {t:TypeId} (hu:P.underlying t=some .string) (hs:(P.info? t).map (·.size)=some 1):PlainT P 1 t false [.str]:=by
 refine⟨hs,fun w=>?_,fun _=>rfl,fun d w xs ys hd hx hy=>?_⟩
 ·unfold Go.isAgg;rw[Sem.run_bind,run_underlying hu w];rfl
 ·obtain⟨x,rfl⟩:=List.length_eq_one_iff.1 (cG hx)
  obtain⟨y,rfl⟩:=List.length_eq_one_iff.1 (cG hy)
  cases x<;>simp[eG,Leaf.ok]at hx
  cases y<;>simp[eG,Leaf.ok]at hy
  ·skip
   obtain⟨e,rfl⟩:∃e,d=e+1:=⟨d - 1,by omega⟩
   simp[mkV,Op.equalIn,run_underlying hu,ceq,veq,beq_toListBytes]
theorem sO {D:Nat} {t:TypeId} {agg:Bool} {ls:List Leaf} (h:PlainT P D t agg ls) (xs:List Value) (off:Nat) (w:World) (ho:off+ls.length<=xs.length):
  (part t xs.toArray off).run P w=.ok (mkV agg ((xs.drop off).take ls.length)) w:=by
 unfold part
 rw[Sem.run_bind,h.isAgg w]
 cases agg with
 | true=>
  cases hq:P.info? t with
  | none=>have:=h.size;simp[hq]at this
  | some i=>
   have hs:i.size=ls.length:=by have:=h.size;simpa[hq]using this
   simp[sizeOf,typeInfo,hq,hs,mkV]
 | false=>
  have h1:=h.one rfl
  simp only[Result.andThen_ok,Bool.false_eq_true,if_false]
  have hlt:off<xs.length:=by omega
  have:(xs.drop off).take ls.length=[xs[off]]:=by
   rw[h1,List.drop_eq_getElem_cons hlt];rfl
  rw[this]
  simp[hlt,mkV]
theorem vR {D:Nat}:∀(fs:List Field) (off:Nat) (ls:List Leaf) (ts:List (Bool×List Leaf)),(∀f∈fs,f.name≠ "_")->fs.length=ts.length->ls=(ts.map (·.2)).flatten->
  (∀(i:Nat) (f:Field) (q:Bool×List Leaf),fs[i]? =some f->ts[i]? =some q->PlainT P D f.type q.1 q.2/\f.offset=off+((ts.take i).map (·.2.length)).sum)->
  ∀(d:Nat) (w:World) (pre1 pre2 xs ys:List Value),D<=d->pre1.length=off->pre2.length=off->eG ls xs=true->eG ls ys=true->
   (Op.eqFields d (pre1++xs).toArray (pre2++ys).toArray fs).run P w=.ok (ceq xs ys) w:=by
 intro fs
 induction fs with
 | nil=>
  intro off ls ts _ hl hls _ d w pre1 pre2 xs ys _ _ _ hx hy
  have:ts=[]:=List.eq_nil_of_length_eq_zero hl.symm
  subst this
  simp at hls
  subst hls
  have h1:=List.eq_nil_of_length_eq_zero (cG hx)
  have h2:=List.eq_nil_of_length_eq_zero (cG hy)
  subst h1;subst h2
  simp[Op.eqFields,ceq]
 | cons f fs ih=>
  intro off ls ts hn hl hls hf d w pre1 pre2 xs ys hd h1 h2 hx hy
  cases ts with
  | nil=>simp at hl
  | cons q ts=>
   obtain⟨ag,l1⟩:=q
   simp only[List.map_cons,List.flatten_cons]at hls
   subst hls
   obtain⟨hp,ho⟩:=hf 0 f (ag,l1) rfl rfl
   simp at ho
   obtain⟨x1,x2⟩:=jI hx
   obtain⟨y1,y2⟩:=jI hy
   have lx:=cG hx
   have ly:=cG hy
   have nn:f.name≠ "_" :=hn f (by simp)
   have lx1:=cG x1
   have ly1:=cG y1
   simp only[Op.eqFields,nn,ne_eq,not_false_eq_true,if_true,Sem.run_bind]
   replace hp:PlainT P D f.type ag l1:=hp
   rw[sO hp (pre1++xs) f.offset w (by simp at lx ⊢;omega)]
   simp only[Result.andThen_ok]
   rw[sO hp (pre2++ys) f.offset w (by simp at ly ⊢;omega)]
   simp only[Result.andThen_ok]
   have ex:((pre1++xs).drop f.offset).take l1.length=xs.take l1.length:=by rw[ho,<-h1,List.drop_left]
   have ey:((pre2++ys).drop f.offset).take l1.length=ys.take l1.length:=by rw[ho,<-h2,List.drop_left]
   rw[ex,ey,hp.eq d w _ _ hd x1 y1]
   have hc:ceq xs ys=(ceq (xs.take l1.length) (ys.take l1.length)&&ceq (xs.drop l1.length) (ys.drop l1.length)):=by
    rw[<-i6 _ _ _ _ (by rw[lx1,ly1]),List.take_append_drop,List.take_append_drop]
   rw[hc]
   simp only[Result.andThen_ok]
   cases hq:ceq (xs.take l1.length) (ys.take l1.length)with
   | false=>simp
   | true=>
    simp only[Bool.not_true,Bool.false_eq_true,if_false,Bool.true_and]
    have:=ih (off+l1.length) _ ts (fun g hg=>hn g (by simp[hg])) (by simpa using hl) rfl (fun i g q hg hq=>by
     obtain⟨a1,a2⟩:=hf (i+1) g q hg hq
     refine⟨a1,?_⟩
     simp only[List.take_succ_cons,List.map_cons,List.sum_cons]at a2
     omega) d w (pre1++xs.take l1.length) (pre2++ys.take l1.length) (xs.drop l1.length) (ys.drop l1.length) hd (by simp[h1,lx1]) (by simp[h2,ly1]) x2 y2
    simpa[List.append_assoc]using this
def mM (d:Nat) (elem:TypeId) (n:Nat) (xs ys:Array Value):List Nat->Sem Bool
 | []=>pure true
 | i::is=>do
  let a <-part elem xs (i*n)
  let b <-part elem ys (i*n)
  let r <-Op.equalIn d elem a b
  if (!r)=true then pure false else mM d elem n xs ys is
theorem oY (w:World) (d:Nat) (t e:TypeId) (len n:Nat) (xs ys:Array Value) (ht:P.underlying t=some (.array len e)) (hs:∀w,(sizeOf e).run P w=.ok n w):
  (Op.equalIn (d+1) t (.agg xs) (.agg ys)).run P w=(mM d e n xs ys (List.range len)).run P w:=by
 simp only[Op.equalIn,Sem.run_bind,run_underlying ht,Result.andThen_ok,hs,Std.Legacy.Range.forIn_eq_forIn_range',Std.Legacy.Range.size]
 have hr:List.range' 0 ((len - 0+1 - 1) / 1) 1=List.range len:=by
  rw[List.range_eq_range']
  simp
 rw[hr]
 generalize List.range len=l
 induction l generalizing w with
 | nil=>simp[mM]
 | cons i l ih=>
  simp only[List.forIn_cons,mM,Sem.run_bind]
  generalize (part e xs (i*n)).run P w=r1
  cases r1 with
  | ok a w1=>
   simp only[Result.andThen_ok]
   generalize (part e ys (i*n)).run P w1=r2
   cases r2 with
   | ok b w2=>
    simp only[Result.andThen_ok]
    generalize (Op.equalIn d e a b).run P w2=r3
    cases r3 with
    | ok r w3=>
     cases r
     ·simp only[Result.andThen_ok,Bool.not_false,if_true,Sem.run_pure]
     ·simp only[Result.andThen_ok,Bool.not_true,Bool.false_eq_true,if_false,Sem.run_pure]
      exact ih w3
    | halt x w3=>simp[Result.andThen]
   | halt x w2=>simp[Result.andThen]
  | halt x w1=>simp[Result.andThen]
theorem aAM {ls:List Leaf}:∀{n:Nat} {xs:List Value},eG (List.replicate n ls).flatten xs=true->∀i,i<n->eG ls ((xs.drop (i*ls.length)).take ls.length)=true:=by
 intro n
 induction n with
 | zero=>intro xs _ i hi;omega
 | succ n ih=>
  intro xs h i hi
  rw[List.replicate_succ,List.flatten_cons]at h
  obtain⟨h1,h2⟩:=jI h
  cases i with
  | zero=>simpa using h1
  | succ i=>
   have:=ih h2 i (by omega)
   rw[List.drop_drop]at this
   rw[show(i+1)*ls.length=ls.length+i*ls.length by rw[Nat.succ_mul];omega]
   exact this
theorem aCi {D:Nat} {e:TypeId} {agg:Bool} {ls:List Leaf} (hp:PlainT P D e agg ls) (d:Nat) (hd:D<=d) (w:World) (xs ys:List Value) (len:Nat)
  (hx:eG (List.replicate len ls).flatten xs=true) (hy:eG (List.replicate len ls).flatten ys=true):∀(m k:Nat),k+m=len->
  (mM d e ls.length xs.toArray ys.toArray (List.range' k m)).run P w=.ok (ceq (xs.drop (k*ls.length)) (ys.drop (k*ls.length))) w:=by
 have lx:xs.length=len*ls.length:=by rw[cG hx];simp
 have ly:ys.length=len*ls.length:=by rw[cG hy];simp
 intro m
 induction m with
 | zero=>
  intro k hk
  obtain rfl:k=len:=by omega
  rw[List.drop_of_length_le (by omega),List.drop_of_length_le (by omega)]
  simp[mM,ceq]
 | succ m ih=>
  intro k hk
  have hkl:k*ls.length+ls.length<=len*ls.length:=by
   have:=Nat.mul_le_mul_right ls.length (show k+1<=len by omega)
   rwa [Nat.succ_mul]at this
  simp only[List.range'_succ,mM,Sem.run_bind]
  rw[sO hp xs _ w (by omega)]
  simp only[Result.andThen_ok]
  rw[sO hp ys _ w (by omega)]
  simp only[Result.andThen_ok]
  have x1:=aAM hx k (by omega)
  have y1:=aAM hy k (by omega)
  rw[hp.eq d w _ _ hd x1 y1]
  have hc:ceq (xs.drop (k*ls.length)) (ys.drop (k*ls.length))=(ceq ((xs.drop (k*ls.length)).take ls.length) ((ys.drop (k*ls.length)).take ls.length)&&ceq (xs.drop ((k+1)*ls.length)) (ys.drop ((k+1)*ls.length))):=by
   rw[show(k+1)*ls.length=k*ls.length+ls.length by rw[Nat.succ_mul],<-List.drop_drop,<-List.drop_drop,<-i6 _ _ _ _ (by rw[cG x1,cG y1]),List.take_append_drop,List.take_append_drop]
  rw[hc]
  simp only[Result.andThen_ok]
  cases hq:ceq ((xs.drop (k*ls.length)).take ls.length) ((ys.drop (k*ls.length)).take ls.length)with
  | false=>simp
  | true=>
   simp only[Bool.not_true,Bool.false_eq_true,if_false,Bool.true_and]
   exact ih (k+1) (by omega)
theorem gO {D:Nat} {t e:TypeId} {len:Nat} {agg:Bool} {ls:List Leaf} (hp:PlainT P D e agg ls) (hu:P.underlying t=some (.array len e)) (hs:(P.info? t).map (·.size)=some (List.replicate len ls).flatten.length):
  PlainT P (D+1) t true (List.replicate len ls).flatten:=by
 refine⟨hs,fun w=>?_,fun h=>(by cases h),fun d w xs ys hd hx hy=>?_⟩
 ·unfold Go.isAgg;rw[Sem.run_bind,run_underlying hu w];rfl
 ·obtain⟨c,rfl⟩:∃c,d=c+1:=⟨d - 1,by omega⟩
  simp only[mkV,if_true]
  rw[oY _ _ _ _ _ ls.length _ _ hu (fun w=>by
   cases hq:P.info? e with
   | none=>have:=hp.size;simp[hq]at this
   | some i=>
    have:i.size=ls.length:=by have:=hp.size;simpa[hq]using this
    simp[sizeOf,typeInfo,hq,this])]
  have:=aCi hp c (by omega) w xs ys len hx hy len 0 (by omega)
  rw[List.range_eq_range']
  simpa using this
theorem aAN {D:Nat} {t:TypeId} {fs:Array Field} (ts:List (Bool×List Leaf)) (hu:P.underlying t=some (.struct fs)) (hf:P.fieldsOf t=fs) (hp:P.stoodInHeld t=false)
  (hs:(P.info? t).map (·.size)=some ((ts.map (·.2)).flatten).length) (hn:fs.toList.all (fun f=>f.name != "_")=true) (hl:fs.toList.length=ts.length)
  (hfs:∀(i:Nat) (f:Field) (q:Bool×List Leaf),fs.toList[i]? =some f->ts[i]? =some q->PlainT P D f.type q.1 q.2/\f.offset=0+((ts.take i).map (·.2.length)).sum):
  PlainT P (D+1) t true ((ts.map (·.2)).flatten):=by
 refine⟨hs,fun w=>?_,fun h=>(by cases h),fun d w xs ys hd hx hy=>?_⟩
 ·unfold Go.isAgg;rw[Sem.run_bind,run_underlying hu w];rfl
 ·obtain⟨e,rfl⟩:∃e,d=e+1:=⟨d - 1,by omega⟩
  simp only[mkV,if_true]
  rw[run_equalIn_agg _ _ _ _ _ (by rw[hf];exact hu) hp,hf]
  have:=vR fs.toList 0 _ ts (fun f hfm=>by
   have:=List.all_eq_true.1 hn f hfm
   simpa using this) hl rfl hfs e w [] [] xs ys (by omega) rfl rfl hx hy
  simpa using this
theorem PlainT.mono {D D':Nat} {t:TypeId} {agg:Bool} {ls:List Leaf} (h:PlainT P D t agg ls) (hd:D<=D'):PlainT P D' t agg ls:=
 ⟨h.size,h.isAgg,h.one,fun d w xs ys hh=>h.eq d w xs ys (by omega)⟩
inductive PlainFs (P:Program) (D:Nat):Nat->List Field->List (Bool×List Leaf)->Prop where
 | nil (off:Nat):PlainFs P D off [] []
 | cons {off:Nat} {f:Field} {fs:List Field} {b:Bool} {ls:List Leaf} {ts:List (Bool×List Leaf)} (h:PlainT P D f.type b ls) (ho:f.offset=off) (r:PlainFs P D (off+ls.length) fs ts):PlainFs P D off (f::fs) ((b,ls)::ts)
theorem PlainFs.at_ {D:Nat}:∀{off:Nat} {fs:List Field} {ts:List (Bool×List Leaf)},PlainFs P D off fs ts->fs.length=ts.length/\
  ∀(i:Nat) (f:Field) (q:Bool×List Leaf),fs[i]? =some f->ts[i]? =some q->PlainT P D f.type q.1 q.2/\f.offset=off+((ts.take i).map (·.2.length)).sum:=by
 intro off fs ts h
 induction h with
 | nil off=>exact⟨rfl,fun i f q h=>by simp at h⟩
 | cons h ho r ih=>
  refine⟨by simp[ih.1],fun i f q hf hq=>?_⟩
  cases i with
  | zero=>
   simp at hf hq
   subst hf;subst hq
   exact⟨h,by simp[ho]⟩
  | succ i=>
   obtain⟨h1,h2⟩:=ih.2 i f q hf hq
   refine⟨h1,?_⟩
   simp only[List.take_succ_cons,List.map_cons,List.sum_cons]
   omega
theorem jJ {D:Nat} {t:TypeId} {fs:List Field} {ts:List (Bool×List Leaf)} (hu:P.underlying t=some (.struct fs.toArray)) (h:PlainFs P D 0 fs ts) (hf:P.fieldsOf t=fs.toArray) (hp:P.stoodInHeld t=false)
  (hs:(P.info? t).map (·.size)=some ((ts.map (·.2)).flatten).length) (hn:fs.all (fun f=>f.name != "_")=true):
  PlainT P (D+1) t true ((ts.map (·.2)).flatten):=
 aAN ts hu hf hp hs (by simpa using hn) (by simpa using h.at_.1) (by simpa using h.at_.2)
def cS (n:Nat) (l:Leaf):List Leaf:=(List.replicate n [l]).flatten
theorem i7 (n:Nat) (l:Leaf):cS n l=List.replicate n l:=by
 unfold cS
 induction n with
 | zero=>rfl
 | succ n ih=>rw[List.replicate_succ,List.flatten_cons,ih];rfl
@[simp] theorem aIb (n : Nat) (l : Leaf) : (cS n l).length = n := by simp [i7]
class PlainC (P:Program) (t:TypeId) (ls:outParam (List Leaf)):Prop where
 plain:∃D,D<=9000/\PlainT P D t true ls
 guard:P.eqGuardType P.depth t=false
@[go_sem high] theorem aIc {w : World} {t : TypeId} {ls : List Leaf} {xs ys : Array Value} [hC : PlainC P t ls] (hx : eG ls xs.toList = true) (hy : eG ls ys.toList = true) :
  (binOp .eql t (.agg xs) (.agg ys)).run P w=.ok (.bool (ceq xs.toList ys.toList)) w:=by
 obtain⟨D,hD,h⟩:=hC.plain
 rw[run_eql_struct]
 have:=h.eq 10000 w xs.toList ys.toList (by omega) hx hy
 simp only[mkV,if_true,Array.toArray_toList]at this
 rw[this]
 rfl
@[go_sem high] theorem aId {w : World} {t : TypeId} {ls : List Leaf} {xs ys : Array Value} [hC : PlainC P t ls] (hx : eG ls xs.toList = true) (hy : eG ls ys.toList = true) :
  (binOp .neq t (.agg xs) (.agg ys)).run P w=.ok (.bool (!ceq xs.toList ys.toList)) w:=by
 obtain⟨D,hD,h⟩:=hC.plain
 rw[run_neq_struct]
 have:=h.eq 10000 w xs.toList ys.toList (by omega) hx hy
 simp only[mkV,if_true,Array.toArray_toList]at this
 rw[this]
 rfl
@[go_sem high] theorem aEo {w : World} {t : TypeId} {ls : List Leaf} {op : BinOp} {x y : Operand} {xs ys : Array Value} [hC : PlainC P t ls] : (eqGuard op t x y (.agg xs) (.agg ys)).run P w = .ok () w :=
 run_eqGuard_agg w op t x y xs ys hC.guard
end
/-! ### how fits and ceq are reckoned -/
attribute [go_sem] eG ceq veq
@[simp] theorem aNj (k : IntKind) (n : Int) : (Leaf.int k).ok (.int k n) = true := by simp [Leaf.ok]
@[simp] theorem aMY (b : Bool) : Leaf.bool.ok (.bool b) = true := rfl
@[simp] theorem aNk (s : ByteArray) : Leaf.str.ok (.string s) = true := rfl
theorem aDE {l:Leaf}:∀{n:Nat} {vs:List Value} {ls:List Leaf} {r:List Value},vs.length=n->(∀v∈vs,l.ok v=true)->eG (cS n l++ls) (vs++r)=eG ls r:=by
 intro n vs
 induction vs generalizing n with
 | nil=>intro ls r h _;simp at h;subst h;rfl
 | cons v vs ih=>
  intro ls r h ho
  simp at h
  subst h
  have:=ih (n:=vs.length) (ls:=ls) (r:=r) rfl (fun u hu=>ho u (by simp[hu]))
  rw[i7]at this ⊢
  simp[eG,List.replicate_succ,ho v (by simp),this]
theorem aLD {n:Nat} (v:Vector UInt8 n):∀u∈u8v v,(Leaf.int .u8).ok u=true:=by
 intro u hu
 simp[u8v,u8s]at hu
 obtain⟨b,_,rfl⟩:=hu
 rfl
@[simp] theorem yM {n : Nat} (v : Vector UInt8 n) (ls : List Leaf) (r : List Value) : eG (cS n (.int .u8) ++ ls) (u8v v ++ r) = eG ls r := aDE (by simp) (aLD v)
@[simp] theorem aLE {n : Nat} (v : Vector UInt8 n) : eG (cS n (.int .u8)) (u8v v) = true := by
 have:=yM v [] []
 simpa[eG]using this
@[simp] theorem wS (n m : Nat) (l : Leaf) (v : Value) (ls : List Leaf) (r : List Value) (h : n <= m) (ho : l.ok v = true) : eG (cS n l ++ ls) (aH m v ++ r) = eG ls (aH (m - n) v ++ r) := by
 have:aH m v=aH n v++aH (m - n) v:=by
  unfold aH
  rw[List.replicate_append_replicate]
  congr 1;omega
 rw[this,List.append_assoc]
 exact aDE (by simp) (by intro u hu;simp[aH]at hu;rw[hu.2];exact ho)
@[simp] theorem aJ5 (n m : Nat) (l : Leaf) (v : Value) (ls : List Leaf) (h : n <= m) (ho : l.ok v = true) : eG (cS n l ++ ls) (aH m v) = eG ls (aH (m - n) v) := by
 have:=wS n m l v ls [] h ho
 simpa using this
@[simp] theorem aJD (n : Nat) (l : Leaf) (v : Value) (ho : l.ok v = true) : eG (cS n l) (aH n v) = true := by
 have:=wS n n l v [] [] (Nat.le_refl _) ho
 simpa[eG]using this
theorem tG (n:Nat) (l:Leaf) (v:Value) (ls:List Leaf) (h:0<n) (r:List Value):eG (l::ls) (aH n v++r)=(l.ok v&&eG ls (aH (n - 1) v++r)):=by
 obtain⟨m,rfl⟩:∃m,n=m+1:=⟨n - 1,by omega⟩
 simp[aH,List.replicate_succ,eG]
attribute [simp] tG
theorem aCj:∀(a b:List UInt8),a.length=b.length->ceq (u8s a) (u8s b)=(a==b)
 | [],[],_=>rfl
 | x::a,y::b,h=>by
  have:=aCj a b (by simpa using h)
  simp only[u8s,List.map_cons,ceq,veq]at *
  rw[this]
  simp only[List.cons_beq_cons]
  congr 1
  rw[Bool.eq_iff_iff]
  simp only[beq_iff_eq]
  rw[<-UInt8.toNat_inj]
  omega
 | [],_::_,h=>by simp at h
 | _::_,[],h=>by simp at h
theorem aEp {n:Nat} (a b:Vector UInt8 n):(a.toList==b.toList)=(a==b):=by
 rw[Bool.eq_iff_iff]
 simp
@[simp] theorem aF3 {n : Nat} (a b : Vector UInt8 n) : ceq (u8v a) (u8v b) = (a == b) := by
 unfold u8v
 rw[aCj _ _ (by simp),aEp]
@[simp] theorem vS {n : Nat} (a b : Vector UInt8 n) (r s : List Value) : ceq (u8v a ++ r) (u8v b ++ s) = ((a == b) && ceq r s) := by
 rw[i6 _ _ _ _ (by simp),aF3]
theorem aCk (n m:Nat) (v:Value) (h:n<=m):aH m v=aH n v++aH (m - n) v:=by
 unfold aH
 rw[List.replicate_append_replicate]
 congr 1;omega
@[simp] theorem yN {n m : Nat} (a : Vector UInt8 n) (r s : List Value) (h : n <= m) : ceq (u8v a ++ r) (aH m (.int .u8 0) ++ s) = ((a == Vector.replicate n 0) && ceq r (aH (m - n) (.int .u8 0) ++ s)) := by
 rw[aCk n m _ h,<-nO,List.append_assoc,vS]
@[simp] theorem aH1 {n m : Nat} (a : Vector UInt8 n) (r : List Value) (h : n <= m) : ceq (u8v a ++ r) (aH m (.int .u8 0)) = ((a == Vector.replicate n 0) && ceq r (aH (m - n) (.int .u8 0))) := by
 have:=yN a r [] h
 simpa using this
@[simp] theorem aF4 {n : Nat} (a : Vector UInt8 n) : ceq (u8v a) (aH n (.int .u8 0)) = (a == Vector.replicate n 0) := by
 rw[<-nO,aF3]
theorem aAO (n:Nat) (k:IntKind) (m:Int):ceq (aH n (.int k m)) (aH n (.int k m))=true:=by
 induction n with
 | zero=>rfl
 | succ n ih=>
  unfold aH at *
  simp only[List.replicate_succ,ceq,veq,ih]
  simp
attribute [simp] aAO
@[simp] theorem aFO (n : Nat) (k : IntKind) (m : Int) (r s : List Value) : ceq (aH n (.int k m) ++ r) (aH n (.int k m) ++ s) = ceq r s := by
 rw[i6 _ _ _ _ (by simp),aAO,Bool.true_and]
end
section
theorem Tryz.plain3:PlainT Tryz.prog 1 3 false [.int .i64]:=aAL Tryz.underlying3 kr_ .i64
theorem Tryz.plain5:PlainT Tryz.prog 1 5 false [.int .u8]:=aAL Tryz.underlying5 kr_ .u8
theorem Tryz.plain9:PlainT Tryz.prog 1 9 false [.str]:=aF2 Tryz.underlying9 kr_
theorem Tryz.plain28:PlainT Tryz.prog 2 28 true (cS 32 (.int .u8)):=gO Tryz.plain5 Tryz.underlying28 kr_
instance Tryz.cmp28:PlainC Tryz.prog 28 (cS 32 (.int .u8)):=⟨⟨2,by decide,Tryz.plain28⟩,by kernel_rfl⟩
theorem Tryz.plain36:PlainT Tryz.prog 2 36 true (cS 8 (.int .u8)):=gO Tryz.plain5 Tryz.underlying36 kr_
theorem Tryz.plain77:PlainT Tryz.prog 2 77 true (cS 6 (.int .u8)):=gO Tryz.plain5 Tryz.underlying77 kr_
instance Tryz.cmp77:PlainC Tryz.prog 77 (cS 6 (.int .u8)):=⟨⟨2,by decide,Tryz.plain77⟩,by kernel_rfl⟩
theorem Tryz.plain133:PlainT Tryz.prog 3 133 true ((cS 8 (.int .u8))++(.int .i64::((cS 8 (.int .u8))++(.int .i64::[])))):=jJ (ts:=[(true,(cS 8 (.int .u8))),(false,[.int .i64]),(true,(cS 8 (.int .u8))),(false,[.int .i64])]) Tryz.underlying133 (.cons (Tryz.plain36.mono (by decide)) rfl (.cons (Tryz.plain3.mono (by decide)) rfl (.cons (Tryz.plain36.mono (by decide)) rfl (.cons (Tryz.plain3.mono (by decide)) rfl (.nil _))))) kr_ kr_ kr_ (by decide)
instance Tryz.cmp133:PlainC Tryz.prog 133 ((cS 8 (.int .u8))++(.int .i64::((cS 8 (.int .u8))++(.int .i64::[])))):=⟨⟨3,by decide,Tryz.plain133⟩,by kernel_rfl⟩
theorem Tryz.plain198:PlainT Tryz.prog 3 198 true (.int .i64::((cS 6 (.int .u8))++[])):=jJ (ts:=[(false,[.int .i64]),(true,(cS 6 (.int .u8)))]) Tryz.underlying198 (.cons (Tryz.plain3.mono (by decide)) rfl (.cons (Tryz.plain77.mono (by decide)) rfl (.nil _))) kr_ kr_ kr_ (by decide)
instance Tryz.cmp198:PlainC Tryz.prog 198 (.int .i64::((cS 6 (.int .u8))++[])):=⟨⟨3,by decide,Tryz.plain198⟩,by kernel_rfl⟩
theorem Tryz.plain200:PlainT Tryz.prog 2 200 true (.int .i64::(.str::[])):=jJ (ts:=[(false,[.int .i64]),(false,[.str])]) Tryz.underlying200 (.cons (Tryz.plain3.mono (by decide)) rfl (.cons (Tryz.plain9.mono (by decide)) rfl (.nil _))) kr_ kr_ kr_ (by decide)
instance Tryz.cmp200:PlainC Tryz.prog 200 (.int .i64::(.str::[])):=⟨⟨2,by decide,Tryz.plain200⟩,by kernel_rfl⟩
theorem Tryz.plain253:PlainT Tryz.prog 2 253 true (cS 4 (.int .u8)):=gO Tryz.plain5 Tryz.underlying253 kr_
instance Tryz.cmp253:PlainC Tryz.prog 253 (cS 4 (.int .u8)):=⟨⟨2,by decide,Tryz.plain253⟩,by kernel_rfl⟩
theorem Tryz.plain261:PlainT Tryz.prog 2 261 true (cS 16 (.int .u8)):=gO Tryz.plain5 Tryz.underlying261 kr_
instance Tryz.cmp261:PlainC Tryz.prog 261 (cS 16 (.int .u8)):=⟨⟨2,by decide,Tryz.plain261⟩,by kernel_rfl⟩
end
end Go.Proofs.YtiagbbknkdgmeaaGreat
