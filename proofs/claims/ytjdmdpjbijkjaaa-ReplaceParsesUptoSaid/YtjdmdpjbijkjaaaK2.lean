/- The texts that the proof leans on, one behind the other (2 of 6). -/
import Derived.Test.YtjdmdpjbijkjaaaRows
import Derived.DataElems
import Derived.Laws.StructEq
import Derived.Test.YtjdmdpjbijkjaaaK1
/- The types of this program, as a table; many operations at once. -/
namespace Go.Proofs.Ytjdmdpjbijkjaaa
open Go Go.RowKit

def tab : Tab
  | 0 => some ⟨false, 1, .other, []⟩
  | 1 => some ⟨false, 1, .other, []⟩
  | 2 => some ⟨false, 1, .int .i64, []⟩
  | 3 => some ⟨false, 1, .int .i64, []⟩
  | 4 => some ⟨false, 1, .bool, []⟩
  | 5 => some ⟨false, 1, .int .u8, []⟩
  | 6 => some ⟨false, 1, .int .u8, []⟩
  | 7 => some ⟨true, 4, .st [(0, 1), (1, 1), (2, 1), (3, 1)], [.int .i64 0, .int .i64 0, .bool false, .int .u8 0]⟩
  | 8 => some ⟨true, 4, .st [(0, 1), (1, 1), (2, 1), (3, 1)], [.int .i64 0, .int .i64 0, .bool false, .int .u8 0]⟩
  | 9 => some ⟨false, 1, .str, []⟩
  | 10 => some ⟨false, 1, .str, []⟩
  | 11 => some ⟨false, 1, .str, []⟩
  | 12 => some ⟨false, 1, .int .u64, []⟩
  | 13 => some ⟨true, 2, .st [(0, 1), (1, 1)], [.string ByteArray.empty, .int .u64 0]⟩
  | 14 => some ⟨true, 2, .st [(0, 1), (1, 1)], [.string ByteArray.empty, .int .u64 0]⟩
  | 15 => some ⟨false, 1, .other, []⟩
  | 16 => some ⟨false, 1, .other, []⟩
  | 17 => some ⟨false, 1, .other, []⟩
  | 18 => some ⟨true, 1, .st [(0, 1)], [.pointer none]⟩
  | 19 => some ⟨true, 1, .st [(0, 1)], [.pointer none]⟩
  | 20 => some ⟨false, 1, .other, []⟩
  | 21 => some ⟨false, 1, .int .i32, []⟩
  | 22 => some ⟨false, 1, .int .i64, []⟩
  | 23 => some ⟨false, 1, .int .u64, []⟩
  | 24 => some ⟨true, 4, .arr 4 23 1, [.int .u64 0, .int .u64 0, .int .u64 0, .int .u64 0]⟩
  | 25 => some ⟨true, 4, .arr 4 23 1, [.int .u64 0, .int .u64 0, .int .u64 0, .int .u64 0]⟩
  | 26 => some ⟨false, 1, .slice 28 9, []⟩
  | 27 => some ⟨true, 9, .st [(0, 1), (1, 4), (5, 1), (6, 1), (7, 1), (8, 1)], [.int .i64 0, .int .u64 0, .int .u64 0, .int .u64 0, .int .u64 0, .int .i64 0, .int .i64 0, .int .i64 0, .slice none 0 0]⟩
  | 28 => some ⟨true, 9, .st [(0, 1), (1, 4), (5, 1), (6, 1), (7, 1), (8, 1)], [.int .i64 0, .int .u64 0, .int .u64 0, .int .u64 0, .int .u64 0, .int .i64 0, .int .i64 0, .int .i64 0, .slice none 0 0]⟩
  | 29 => some ⟨false, 1, .int .i64, []⟩
  | 30 => some ⟨false, 1, .other, []⟩
  | 31 => some ⟨false, 1, .other, []⟩
  | 32 => some ⟨false, 1, .other, []⟩
  | 33 => some ⟨true, 2, .st [(0, 1), (1, 1)], [.string ByteArray.empty, .int .i64 0]⟩
  | 34 => some ⟨true, 2, .st [(0, 1), (1, 1)], [.string ByteArray.empty, .int .i64 0]⟩
  | 35 => some ⟨false, 1, .slice 34 2, []⟩
  | 36 => some ⟨false, 1, .other, []⟩
  | 37 => some ⟨false, 1, .other, []⟩
  | 38 => some ⟨false, 1, .other, []⟩
  | 39 => some ⟨true, 2, .st [(0, 1), (1, 1)], [.int .i64 0, .int .i64 0]⟩
  | 40 => some ⟨true, 2, .st [(0, 1), (1, 1)], [.int .i64 0, .int .i64 0]⟩
  | 41 => some ⟨true, 20, .arr 10 40 2, [.int .i64 0, .int .i64 0, .int .i64 0, .int .i64 0, .int .i64 0, .int .i64 0, .int .i64 0, .int .i64 0, .int .i64 0, .int .i64 0, .int .i64 0, .int .i64 0, .int .i64 0, .int .i64 0, .int .i64 0, .int .i64 0, .int .i64 0, .int .i64 0, .int .i64 0, .int .i64 0]⟩
  | 42 => some ⟨true, 20, .arr 10 40 2, [.int .i64 0, .int .i64 0, .int .i64 0, .int .i64 0, .int .i64 0, .int .i64 0, .int .i64 0, .int .i64 0, .int .i64 0, .int .i64 0, .int .i64 0, .int .i64 0, .int .i64 0, .int .i64 0, .int .i64 0, .int .i64 0, .int .i64 0, .int .i64 0, .int .i64 0, .int .i64 0]⟩
  | 43 => some ⟨false, 1, .other, []⟩
  | 44 => some ⟨false, 1, .other, []⟩
  | 45 => some ⟨false, 1, .other, []⟩
  | 46 => some ⟨false, 1, .other, []⟩
  | 47 => some ⟨false, 1, .other, []⟩
  | 48 => some ⟨false, 1, .other, []⟩
  | 49 => some ⟨false, 1, .other, []⟩
  | 50 => some ⟨false, 1, .other, []⟩
  | 51 => some ⟨false, 1, .other, []⟩
  | 52 => some ⟨false, 1, .other, []⟩
  | 53 => some ⟨false, 1, .other, []⟩
  | 54 => some ⟨false, 1, .other, []⟩
  | 55 => some ⟨false, 1, .slice 92 7, []⟩
  | 56 => some ⟨true, 4, .st [(0, 1), (1, 1), (2, 1), (3, 1)], [.string ByteArray.empty, .bool false, .slice none 0 0, .int .i64 0]⟩
  | 57 => some ⟨true, 4, .st [(0, 1), (1, 1), (2, 1), (3, 1)], [.string ByteArray.empty, .bool false, .slice none 0 0, .int .i64 0]⟩
  | 58 => some ⟨false, 1, .other, []⟩
  | 59 => some ⟨true, 3, .st [(0, 1), (1, 1), (2, 1)], [.slice none 0 0, .int .i64 0, .bool false]⟩
  | 60 => some ⟨true, 3, .st [(0, 1), (1, 1), (2, 1)], [.slice none 0 0, .int .i64 0, .bool false]⟩
  | 61 => some ⟨false, 1, .other, []⟩
  | 62 => some ⟨false, 1, .other, []⟩
  | 63 => some ⟨false, 1, .slice 5 1, []⟩
  | 64 => some ⟨true, 2, .st [(0, 1), (1, 1)], [.pointer none, .slice none 0 0]⟩
  | 65 => some ⟨true, 2, .st [(0, 1), (1, 1)], [.pointer none, .slice none 0 0]⟩
  | 66 => some ⟨false, 1, .other, []⟩
  | 67 => some ⟨false, 1, .other, []⟩
  | 68 => some ⟨false, 1, .other, []⟩
  | 69 => some ⟨false, 1, .other, []⟩
  | 70 => some ⟨false, 1, .other, []⟩
  | 71 => some ⟨false, 1, .other, []⟩
  | 72 => some ⟨false, 1, .other, []⟩
  | 73 => some ⟨false, 1, .other, []⟩
  | 74 => some ⟨false, 1, .other, []⟩
  | 75 => some ⟨false, 1, .other, []⟩
  | 76 => some ⟨false, 1, .other, []⟩
  | 77 => some ⟨false, 1, .other, []⟩
  | 78 => some ⟨true, 5, .st [(0, 1), (1, 1), (2, 1), (3, 1), (4, 1)], [.int .i64 0, .int .i64 0, .int .i64 0, .int .i64 0, .int .i64 0]⟩
  | 79 => some ⟨true, 5, .st [(0, 1), (1, 1), (2, 1), (3, 1), (4, 1)], [.int .i64 0, .int .i64 0, .int .i64 0, .int .i64 0, .int .i64 0]⟩
  | 80 => some ⟨false, 1, .other, []⟩
  | 81 => some ⟨false, 1, .slice 23 1, []⟩
  | 82 => some ⟨false, 1, .slice 23 1, []⟩
  | 83 => some ⟨false, 1, .other, []⟩
  | 84 => some ⟨false, 1, .other, []⟩
  | 85 => some ⟨false, 1, .other, []⟩
  | 86 => some ⟨false, 1, .other, []⟩
  | 87 => some ⟨false, 1, .other, []⟩
  | 88 => some ⟨false, 1, .other, []⟩
  | 89 => some ⟨false, 1, .other, []⟩
  | 90 => some ⟨false, 1, .other, []⟩
  | 91 => some ⟨true, 7, .st [(0, 1), (1, 4), (5, 1), (6, 1)], [.int .i64 0, .int .u64 0, .int .u64 0, .int .u64 0, .int .u64 0, .int .i64 0, .int .i64 0]⟩
  | 92 => some ⟨true, 7, .st [(0, 1), (1, 4), (5, 1), (6, 1)], [.int .i64 0, .int .u64 0, .int .u64 0, .int .u64 0, .int .u64 0, .int .i64 0, .int .i64 0]⟩
  | 93 => some ⟨false, 1, .other, []⟩
  | 94 => some ⟨false, 1, .other, []⟩
  | 95 => some ⟨false, 1, .other, []⟩
  | 96 => some ⟨false, 1, .other, []⟩
  | 97 => some ⟨false, 1, .other, []⟩
  | 98 => some ⟨false, 1, .other, []⟩
  | 99 => some ⟨false, 1, .other, []⟩
  | 100 => some ⟨false, 1, .other, []⟩
  | 101 => some ⟨false, 1, .other, []⟩
  | 102 => some ⟨false, 1, .slice 108 10, []⟩
  | 103 => some ⟨true, 4, .st [(0, 1), (1, 1), (2, 1), (3, 1)], [.slice none 0 0, .string ByteArray.empty, .bool false, .map none]⟩
  | 104 => some ⟨true, 4, .st [(0, 1), (1, 1), (2, 1), (3, 1)], [.slice none 0 0, .string ByteArray.empty, .bool false, .map none]⟩
  | 105 => some ⟨false, 1, .other, []⟩
  | 106 => some ⟨false, 1, .slice 3 1, []⟩
  | 107 => some ⟨true, 10, .st [(0, 9), (9, 1)], [.int .i64 0, .int .u64 0, .int .u64 0, .int .u64 0, .int .u64 0, .int .i64 0, .int .i64 0, .int .i64 0, .slice none 0 0, .slice none 0 0]⟩
  | 108 => some ⟨true, 10, .st [(0, 9), (9, 1)], [.int .i64 0, .int .u64 0, .int .u64 0, .int .u64 0, .int .u64 0, .int .i64 0, .int .i64 0, .int .i64 0, .slice none 0 0, .slice none 0 0]⟩
  | 109 => some ⟨false, 1, .other, []⟩
  | 110 => some ⟨false, 1, .other, []⟩
  | 111 => some ⟨false, 1, .other, []⟩
  | 112 => some ⟨false, 1, .other, []⟩
  | 113 => some ⟨false, 1, .other, []⟩
  | 114 => some ⟨false, 1, .other, []⟩
  | 115 => some ⟨false, 1, .other, []⟩
  | 116 => some ⟨false, 1, .int .u64, []⟩
  | 117 => some ⟨false, 1, .other, []⟩
  | 118 => some ⟨false, 1, .other, []⟩
  | 119 => some ⟨false, 1, .other, []⟩
  | 120 => some ⟨false, 1, .other, []⟩
  | 121 => some ⟨false, 1, .other, []⟩
  | 122 => some ⟨false, 1, .other, []⟩
  | 123 => some ⟨false, 1, .other, []⟩
  | 124 => some ⟨false, 1, .other, []⟩
  | 125 => some ⟨false, 1, .other, []⟩
  | 126 => some ⟨false, 1, .other, []⟩
  | 127 => some ⟨false, 1, .other, []⟩
  | 128 => some ⟨false, 1, .other, []⟩
  | 129 => some ⟨false, 1, .other, []⟩
  | 130 => some ⟨false, 1, .other, []⟩
  | 131 => some ⟨false, 1, .other, []⟩
  | 132 => some ⟨false, 1, .other, []⟩
  | 133 => some ⟨false, 1, .int .u32, []⟩
  | 134 => some ⟨false, 1, .other, []⟩
  | 135 => some ⟨false, 1, .other, []⟩
  | 136 => some ⟨true, 4, .st [(0, 1), (1, 1), (2, 1), (3, 1)], [.pointer none, .pointer none, .pointer none, .string ByteArray.empty]⟩
  | 137 => some ⟨true, 4, .st [(0, 1), (1, 1), (2, 1), (3, 1)], [.pointer none, .pointer none, .pointer none, .string ByteArray.empty]⟩
  | 138 => some ⟨true, 0, .arr 0 16 1, []⟩
  | 141 => some ⟨false, 1, .int .u8, []⟩
  | 142 => some ⟨false, 1, .int .u8, []⟩
  | 143 => some ⟨false, 1, .other, []⟩
  | 144 => some ⟨false, 1, .int .i32, []⟩
  | 145 => some ⟨false, 1, .int .i32, []⟩
  | 146 => some ⟨true, 11, .st [(0, 1), (1, 1), (2, 1), (3, 1), (4, 1), (5, 1), (6, 1), (7, 1), (8, 1), (9, 1), (10, 1)], [.int .u64 0, .int .u64 0, .int .u32 0, .int .u8 0, .int .u8 0, .int .u8 0, .int .u8 0, .nilFunc, .pointer none, .int .i32 0, .int .i32 0]⟩
  | 147 => some ⟨true, 11, .st [(0, 1), (1, 1), (2, 1), (3, 1), (4, 1), (5, 1), (6, 1), (7, 1), (8, 1), (9, 1), (10, 1)], [.int .u64 0, .int .u64 0, .int .u32 0, .int .u8 0, .int .u8 0, .int .u8 0, .int .u8 0, .nilFunc, .pointer none, .int .i32 0, .int .i32 0]⟩
  | _ => none
set_option maxRecDepth 100000 in
set_option maxHeartbeats 4000000 in
theorem tab_ok : ∀ t i, tab t = some i → i.ok Try.prog t := by
  intro t i h
  unfold tab at h
  split at h
  · cases h; exact ⟨Try.isAgg0, Try.sizeOf0, trivial⟩
  · cases h; exact ⟨Try.isAgg1, Try.sizeOf1, trivial⟩
  · cases h; exact ⟨Try.isAgg2, Try.sizeOf2, Try.underlying2⟩
  · cases h; exact ⟨Try.isAgg3, Try.sizeOf3, Try.underlying3⟩
  · cases h; exact ⟨Try.isAgg4, Try.sizeOf4, Try.underlying4⟩
  · cases h; exact ⟨Try.isAgg5, Try.sizeOf5, Try.underlying5⟩
  · cases h; exact ⟨Try.isAgg6, Try.sizeOf6, Try.underlying6⟩
  · cases h; exact ⟨Try.isAgg7, Try.sizeOf7, ⟨by kernel_rfl, fun vs => by kernel_rfl⟩⟩
  · cases h; exact ⟨Try.isAgg8, Try.sizeOf8, ⟨by kernel_rfl, fun vs => by kernel_rfl⟩⟩
  · cases h; exact ⟨Try.isAgg9, Try.sizeOf9, Try.underlying9⟩
  · cases h; exact ⟨Try.isAgg10, Try.sizeOf10, Try.underlying10⟩
  · cases h; exact ⟨Try.isAgg11, Try.sizeOf11, Try.underlying11⟩
  · cases h; exact ⟨Try.isAgg12, Try.sizeOf12, Try.underlying12⟩
  · cases h; exact ⟨Try.isAgg13, Try.sizeOf13, ⟨by kernel_rfl, fun vs => by kernel_rfl⟩⟩
  · cases h; exact ⟨Try.isAgg14, Try.sizeOf14, ⟨by kernel_rfl, fun vs => by kernel_rfl⟩⟩
  · cases h; exact ⟨Try.isAgg15, Try.sizeOf15, trivial⟩
  · cases h; exact ⟨Try.isAgg16, Try.sizeOf16, trivial⟩
  · cases h; exact ⟨Try.isAgg17, Try.sizeOf17, trivial⟩
  · cases h; exact ⟨Try.isAgg18, Try.sizeOf18, ⟨by kernel_rfl, fun vs => by kernel_rfl⟩⟩
  · cases h; exact ⟨Try.isAgg19, Try.sizeOf19, ⟨by kernel_rfl, fun vs => by kernel_rfl⟩⟩
  · cases h; exact ⟨Try.isAgg20, Try.sizeOf20, trivial⟩
  · cases h; exact ⟨Try.isAgg21, Try.sizeOf21, Try.underlying21⟩
  · cases h; exact ⟨Try.isAgg22, Try.sizeOf22, Try.underlying22⟩
  · cases h; exact ⟨Try.isAgg23, Try.sizeOf23, Try.underlying23⟩
  · cases h; exact ⟨Try.isAgg24, Try.sizeOf24, ⟨Try.underlying24, Try.sizeOf23, fun vs => by kernel_rfl⟩⟩
  · cases h; exact ⟨Try.isAgg25, Try.sizeOf25, ⟨Try.underlying25, Try.sizeOf23, fun vs => by kernel_rfl⟩⟩
  · cases h; exact ⟨Try.isAgg26, Try.sizeOf26, ⟨Try.underlying26, Try.sizeOf28⟩⟩
  · cases h; exact ⟨Try.isAgg27, Try.sizeOf27, ⟨by kernel_rfl, fun vs => by kernel_rfl⟩⟩
  · cases h; exact ⟨Try.isAgg28, Try.sizeOf28, ⟨by kernel_rfl, fun vs => by kernel_rfl⟩⟩
  · cases h; exact ⟨Try.isAgg29, Try.sizeOf29, Try.underlying29⟩
  · cases h; exact ⟨Try.isAgg30, Try.sizeOf30, trivial⟩
  · cases h; exact ⟨Try.isAgg31, Try.sizeOf31, trivial⟩
  · cases h; exact ⟨Try.isAgg32, Try.sizeOf32, trivial⟩
  · cases h; exact ⟨Try.isAgg33, Try.sizeOf33, ⟨by kernel_rfl, fun vs => by kernel_rfl⟩⟩
  · cases h; exact ⟨Try.isAgg34, Try.sizeOf34, ⟨by kernel_rfl, fun vs => by kernel_rfl⟩⟩
  · cases h; exact ⟨Try.isAgg35, Try.sizeOf35, ⟨Try.underlying35, Try.sizeOf34⟩⟩
  · cases h; exact ⟨Try.isAgg36, Try.sizeOf36, trivial⟩
  · cases h; exact ⟨Try.isAgg37, Try.sizeOf37, trivial⟩
  · cases h; exact ⟨Try.isAgg38, Try.sizeOf38, trivial⟩
  · cases h; exact ⟨Try.isAgg39, Try.sizeOf39, ⟨by kernel_rfl, fun vs => by kernel_rfl⟩⟩
  · cases h; exact ⟨Try.isAgg40, Try.sizeOf40, ⟨by kernel_rfl, fun vs => by kernel_rfl⟩⟩
  · cases h; exact ⟨Try.isAgg41, Try.sizeOf41, ⟨Try.underlying41, Try.sizeOf40, fun vs => by kernel_rfl⟩⟩
  · cases h; exact ⟨Try.isAgg42, Try.sizeOf42, ⟨Try.underlying42, Try.sizeOf40, fun vs => by kernel_rfl⟩⟩
  · cases h; exact ⟨Try.isAgg43, Try.sizeOf43, trivial⟩
  · cases h; exact ⟨Try.isAgg44, Try.sizeOf44, trivial⟩
  · cases h; exact ⟨Try.isAgg45, Try.sizeOf45, trivial⟩
  · cases h; exact ⟨Try.isAgg46, Try.sizeOf46, trivial⟩
  · cases h; exact ⟨Try.isAgg47, Try.sizeOf47, trivial⟩
  · cases h; exact ⟨Try.isAgg48, Try.sizeOf48, trivial⟩
  · cases h; exact ⟨Try.isAgg49, Try.sizeOf49, trivial⟩
  · cases h; exact ⟨Try.isAgg50, Try.sizeOf50, trivial⟩
  · cases h; exact ⟨Try.isAgg51, Try.sizeOf51, trivial⟩
  · cases h; exact ⟨Try.isAgg52, Try.sizeOf52, trivial⟩
  · cases h; exact ⟨Try.isAgg53, Try.sizeOf53, trivial⟩
  · cases h; exact ⟨Try.isAgg54, Try.sizeOf54, trivial⟩
  · cases h; exact ⟨Try.isAgg55, Try.sizeOf55, ⟨Try.underlying55, Try.sizeOf92⟩⟩
  · cases h; exact ⟨Try.isAgg56, Try.sizeOf56, ⟨by kernel_rfl, fun vs => by kernel_rfl⟩⟩
  · cases h; exact ⟨Try.isAgg57, Try.sizeOf57, ⟨by kernel_rfl, fun vs => by kernel_rfl⟩⟩
  · cases h; exact ⟨Try.isAgg58, Try.sizeOf58, trivial⟩
  · cases h; exact ⟨Try.isAgg59, Try.sizeOf59, ⟨by kernel_rfl, fun vs => by kernel_rfl⟩⟩
  · cases h; exact ⟨Try.isAgg60, Try.sizeOf60, ⟨by kernel_rfl, fun vs => by kernel_rfl⟩⟩
  · cases h; exact ⟨Try.isAgg61, Try.sizeOf61, trivial⟩
  · cases h; exact ⟨Try.isAgg62, Try.sizeOf62, trivial⟩
  · cases h; exact ⟨Try.isAgg63, Try.sizeOf63, ⟨Try.underlying63, Try.sizeOf5⟩⟩
  · cases h; exact ⟨Try.isAgg64, Try.sizeOf64, ⟨by kernel_rfl, fun vs => by kernel_rfl⟩⟩
  · cases h; exact ⟨Try.isAgg65, Try.sizeOf65, ⟨by kernel_rfl, fun vs => by kernel_rfl⟩⟩
  · cases h; exact ⟨Try.isAgg66, Try.sizeOf66, trivial⟩
  · cases h; exact ⟨Try.isAgg67, Try.sizeOf67, trivial⟩
  · cases h; exact ⟨Try.isAgg68, Try.sizeOf68, trivial⟩
  · cases h; exact ⟨Try.isAgg69, Try.sizeOf69, trivial⟩
  · cases h; exact ⟨Try.isAgg70, Try.sizeOf70, trivial⟩
  · cases h; exact ⟨Try.isAgg71, Try.sizeOf71, trivial⟩
  · cases h; exact ⟨Try.isAgg72, Try.sizeOf72, trivial⟩
  · cases h; exact ⟨Try.isAgg73, Try.sizeOf73, trivial⟩
  · cases h; exact ⟨Try.isAgg74, Try.sizeOf74, trivial⟩
  · cases h; exact ⟨Try.isAgg75, Try.sizeOf75, trivial⟩
  · cases h; exact ⟨Try.isAgg76, Try.sizeOf76, trivial⟩
  · cases h; exact ⟨Try.isAgg77, Try.sizeOf77, trivial⟩
  · cases h; exact ⟨Try.isAgg78, Try.sizeOf78, ⟨by kernel_rfl, fun vs => by kernel_rfl⟩⟩
  · cases h; exact ⟨Try.isAgg79, Try.sizeOf79, ⟨by kernel_rfl, fun vs => by kernel_rfl⟩⟩
  · cases h; exact ⟨Try.isAgg80, Try.sizeOf80, trivial⟩
  · cases h; exact ⟨Try.isAgg81, Try.sizeOf81, ⟨Try.underlying81, Try.sizeOf23⟩⟩
  · cases h; exact ⟨Try.isAgg82, Try.sizeOf82, ⟨Try.underlying82, Try.sizeOf23⟩⟩
  · cases h; exact ⟨Try.isAgg83, Try.sizeOf83, trivial⟩
  · cases h; exact ⟨Try.isAgg84, Try.sizeOf84, trivial⟩
  · cases h; exact ⟨Try.isAgg85, Try.sizeOf85, trivial⟩
  · cases h; exact ⟨Try.isAgg86, Try.sizeOf86, trivial⟩
  · cases h; exact ⟨Try.isAgg87, Try.sizeOf87, trivial⟩
  · cases h; exact ⟨Try.isAgg88, Try.sizeOf88, trivial⟩
  · cases h; exact ⟨Try.isAgg89, Try.sizeOf89, trivial⟩
  · cases h; exact ⟨Try.isAgg90, Try.sizeOf90, trivial⟩
  · cases h; exact ⟨Try.isAgg91, Try.sizeOf91, ⟨by kernel_rfl, fun vs => by kernel_rfl⟩⟩
  · cases h; exact ⟨Try.isAgg92, Try.sizeOf92, ⟨by kernel_rfl, fun vs => by kernel_rfl⟩⟩
  · cases h; exact ⟨Try.isAgg93, Try.sizeOf93, trivial⟩
  · cases h; exact ⟨Try.isAgg94, Try.sizeOf94, trivial⟩
  · cases h; exact ⟨Try.isAgg95, Try.sizeOf95, trivial⟩
  · cases h; exact ⟨Try.isAgg96, Try.sizeOf96, trivial⟩
  · cases h; exact ⟨Try.isAgg97, Try.sizeOf97, trivial⟩
  · cases h; exact ⟨Try.isAgg98, Try.sizeOf98, trivial⟩
  · cases h; exact ⟨Try.isAgg99, Try.sizeOf99, trivial⟩
  · cases h; exact ⟨Try.isAgg100, Try.sizeOf100, trivial⟩
  · cases h; exact ⟨Try.isAgg101, Try.sizeOf101, trivial⟩
  · cases h; exact ⟨Try.isAgg102, Try.sizeOf102, ⟨Try.underlying102, Try.sizeOf108⟩⟩
  · cases h; exact ⟨Try.isAgg103, Try.sizeOf103, ⟨by kernel_rfl, fun vs => by kernel_rfl⟩⟩
  · cases h; exact ⟨Try.isAgg104, Try.sizeOf104, ⟨by kernel_rfl, fun vs => by kernel_rfl⟩⟩
  · cases h; exact ⟨Try.isAgg105, Try.sizeOf105, trivial⟩
  · cases h; exact ⟨Try.isAgg106, Try.sizeOf106, ⟨Try.underlying106, Try.sizeOf3⟩⟩
  · cases h; exact ⟨Try.isAgg107, Try.sizeOf107, ⟨by kernel_rfl, fun vs => by kernel_rfl⟩⟩
  · cases h; exact ⟨Try.isAgg108, Try.sizeOf108, ⟨by kernel_rfl, fun vs => by kernel_rfl⟩⟩
  · cases h; exact ⟨Try.isAgg109, Try.sizeOf109, trivial⟩
  · cases h; exact ⟨Try.isAgg110, Try.sizeOf110, trivial⟩
  · cases h; exact ⟨Try.isAgg111, Try.sizeOf111, trivial⟩
  · cases h; exact ⟨Try.isAgg112, Try.sizeOf112, trivial⟩
  · cases h; exact ⟨Try.isAgg113, Try.sizeOf113, trivial⟩
  · cases h; exact ⟨Try.isAgg114, Try.sizeOf114, trivial⟩
  · cases h; exact ⟨Try.isAgg115, Try.sizeOf115, trivial⟩
  · cases h; exact ⟨Try.isAgg116, Try.sizeOf116, Try.underlying116⟩
  · cases h; exact ⟨Try.isAgg117, Try.sizeOf117, trivial⟩
  · cases h; exact ⟨Try.isAgg118, Try.sizeOf118, trivial⟩
  · cases h; exact ⟨Try.isAgg119, Try.sizeOf119, trivial⟩
  · cases h; exact ⟨Try.isAgg120, Try.sizeOf120, trivial⟩
  · cases h; exact ⟨Try.isAgg121, Try.sizeOf121, trivial⟩
  · cases h; exact ⟨Try.isAgg122, Try.sizeOf122, trivial⟩
  · cases h; exact ⟨Try.isAgg123, Try.sizeOf123, trivial⟩
  · cases h; exact ⟨Try.isAgg124, Try.sizeOf124, trivial⟩
  · cases h; exact ⟨Try.isAgg125, Try.sizeOf125, trivial⟩
  · cases h; exact ⟨Try.isAgg126, Try.sizeOf126, trivial⟩
  · cases h; exact ⟨Try.isAgg127, Try.sizeOf127, trivial⟩
  · cases h; exact ⟨Try.isAgg128, Try.sizeOf128, trivial⟩
  · cases h; exact ⟨Try.isAgg129, Try.sizeOf129, trivial⟩
  · cases h; exact ⟨Try.isAgg130, Try.sizeOf130, trivial⟩
  · cases h; exact ⟨Try.isAgg131, Try.sizeOf131, trivial⟩
  · cases h; exact ⟨Try.isAgg132, Try.sizeOf132, trivial⟩
  · cases h; exact ⟨Try.isAgg133, Try.sizeOf133, Try.underlying133⟩
  · cases h; exact ⟨Try.isAgg134, Try.sizeOf134, trivial⟩
  · cases h; exact ⟨Try.isAgg135, Try.sizeOf135, trivial⟩
  · cases h; exact ⟨Try.isAgg136, Try.sizeOf136, ⟨by kernel_rfl, fun vs => by kernel_rfl⟩⟩
  · cases h; exact ⟨Try.isAgg137, Try.sizeOf137, ⟨by kernel_rfl, fun vs => by kernel_rfl⟩⟩
  · cases h; exact ⟨Try.isAgg138, Try.sizeOf138, ⟨Try.underlying138, Try.sizeOf16, fun vs => by kernel_rfl⟩⟩
  · cases h; exact ⟨Try.isAgg141, Try.sizeOf141, Try.underlying141⟩
  · cases h; exact ⟨Try.isAgg142, Try.sizeOf142, Try.underlying142⟩
  · cases h; exact ⟨Try.isAgg143, Try.sizeOf143, trivial⟩
  · cases h; exact ⟨Try.isAgg144, Try.sizeOf144, Try.underlying144⟩
  · cases h; exact ⟨Try.isAgg145, Try.sizeOf145, Try.underlying145⟩
  · cases h; exact ⟨Try.isAgg146, Try.sizeOf146, ⟨by kernel_rfl, fun vs => by kernel_rfl⟩⟩
  · cases h; exact ⟨Try.isAgg147, Try.sizeOf147, ⟨by kernel_rfl, fun vs => by kernel_rfl⟩⟩
  · cases h
section
variable {N : Nat} {R R' : Regs} {W0 : World} {F : List Nat} {L L' : List Ent} {Q : Exit → Act → World → Prop} {ops : Array Oper} {l l' : List Oper} {C : Prop}
theorem xg (n : Nat) (hs : List Nat) (h : (match nrm L with
    | some L => ex tab N ops n R L hs ((0 : Nat) = 0) l
    | none => none) = some (R', L', l', C)) (c : C) (k : G N R' (St W0 F L') (wpList Try.prog ops Q l')) : G N R (St W0 F L) (wpList Try.prog ops Q l) := by
  rw [nrm_eq] at h
  exact (ex_ok tab_ok h c).2 k
theorem xq {Qq : Act → Prop} (n : Nat) (hs : List Nat) (h : (match nrm L with
    | some L => eq_ tab N ops L n R hs ((0 : Nat) = 0) l
    | none => none) = some (R', l', C)) (c : C) (k : GQ N R' (wpQuiet Try.prog ops (St W0 F L) Qq l')) : GQ N R (wpQuiet Try.prog ops (St W0 F L) Qq l) := by
  rw [nrm_eq] at h
  exact (eq_ok tab_ok h c).2 k
/-- A region whose order is drawn; what stands in Lh stays as it is. -/
theorem k_go {id : Nat} {Lh Lr : List Ent} (is : List Nat) (hp : pickE is L = some (Lh, Lr)) (hm : Try.prog.follows .mixedOrders = true) (hQ : ∀ c a w d v, Q (.panic c) (a.put (some d) v) w → Q (.panic c) a w)
    (h : (∀ c a w d v, Q (.panic c) (a.put (some d) v) w → Q (.panic c) a w) → GA Try.prog l.toArray Q (St W0 F Lh) l.length (Array.replicate l.length false) (GR N R W0 F L)) : G N R (St W0 F L) ((Code.region id l.toArray true).wp Try.prog Q) :=
  k_start _ hm (h hQ)
theorem k_x {o : Oper} {fuel d : Nat} {listed : Array Bool} {v : Value} {hs' : List Nat} {Lh Lr : List Ent} (k : Nat) (is hs : List Nat) (hQ : ∀ c a w d v, Q (.panic c) (a.put (some d) v) w → Q (.panic c) a w) (hm : may ops listed k = true) (hk : ops[k]? = some o) (hw : want ops R o = some true) (hd : o.dst = some d) (hN : Nat.blt d N = true)
    (hp : pickE is L = some (Lh, Lr)) (hy : yv tab R Lh hs o.op = some (v, hs', none)) (h : GA Try.prog ops Q (St W0 F Lh) fuel (listed.setIfInBounds k true) (GR N ((d, v) :: R) W0 F L)) : GA Try.prog ops Q (St W0 F Lh) (fuel + 1) listed (GR N R W0 F L) :=
  k_take k hk hm hQ hw hd hN (fun _ h => h.pick is hp) (yv_ok tab_ok hy (fun p hp => by cases hp)) h
theorem k_xc {o : Oper} {fuel d : Nat} {listed : Array Bool} {v : Value} {hs' : List Nat} {Lh Lr : List Ent} (k : Nat) (is hs : List Nat) (hQ : ∀ c a w d v, Q (.panic c) (a.put (some d) v) w → Q (.panic c) a w) (hm : may ops listed k = true) (hk : ops[k]? = some o) (hw : want ops R o = some true) (hd : o.dst = some d) (hN : Nat.blt d N = true)
    (hp : pickE is L = some (Lh, Lr)) (hy : yv tab R Lh hs o.op = some (v, hs', some C)) (c : C) (h : GA Try.prog ops Q (St W0 F Lh) fuel (listed.setIfInBounds k true) (GR N ((d, v) :: R) W0 F L)) : GA Try.prog ops Q (St W0 F Lh) (fuel + 1) listed (GR N R W0 F L) :=
  k_take k hk hm hQ hw hd hN (fun _ h => h.pick is hp) (yv_ok tab_ok hy (fun p hp => by cases hp; exact c)) h
theorem k_no {o : Oper} {fuel d : Nat} {listed : Array Bool} {Lh Lr : List Ent} (k : Nat) (is : List Nat) (hQ : ∀ c a w d v, Q (.panic c) (a.put (some d) v) w → Q (.panic c) a w) (hm : may ops listed k = true) (hk : ops[k]? = some o) (hw : want ops R o = some false) (hd : o.dst = some d) (hN : Nat.blt d N = true)
    (hp : pickE is L = some (Lh, Lr)) (h : GA Try.prog ops Q (St W0 F Lh) fuel (listed.setIfInBounds k true) (GR N ((d, undef) :: R) W0 F L)) : GA Try.prog ops Q (St W0 F Lh) (fuel + 1) listed (GR N R W0 F L) :=
  k_untold k hk hm hQ hw hd hN (fun _ h => h.pick is hp) h
end
end Go.Proofs.Ytjdmdpjbijkjaaa

/- Sets of bytes: class.With, and the document's. -/
namespace Go.Proofs.Ytjdmdpjbijkjaaa
open Go Go.RowKit

/-- A set's four words. -/
def s4C (s : Nat → Int) : List Value := [.int .u64 (s 0), .int .u64 (s 1), .int .u64 (s 2), .int .u64 (s 3)]
theorem s4_get (s : Nat → Int) (k : Nat) (h : k < 4) : (s4C s)[k]? = some (.int .u64 (s k)) := by
  match k, h with
  | 0, _ => rfl
  | 1, _ => rfl
  | 2, _ => rfl
  | 3, _ => rfl
def upd (s : Nat → Int) (i : Nat) (v : Int) : Nat → Int := fun k => if k = i then v else s k
theorem s4_set (s : Nat → Int) (i : Nat) (v : Int) (h : i < 4) : (s4C s).set i (.int .u64 v) = s4C (upd s i v) := by
  match i, h with
  | 0, _ => rfl
  | 1, _ => rfl
  | 2, _ => rfl
  | 3, _ => rfl
def s0 : Nat → Int := fun _ => 0
def orB (x : Int) (n : Nat) : Int := IntKind.u64.wrap ((BitVec.ofInt 64 x ||| BitVec.ofInt 64 (2 ^ n : Int)).toNat : Int)
def addS (s : Nat → Int) (c : Nat) : Nat → Int := upd s (c / 64) (orB (s (c / 64)) (c % 64))
/-- m bytes, from lo on, more. -/
def withS (s : Nat → Int) (lo : Nat) : Nat → Nat → Int
  | 0 => s
  | m + 1 => addS (withS s lo m) (lo + m)
section
variable {P : Program} {N : Nat} {R : Regs} {S : World → Prop}
variable {dst : Option Tmp} {ty t t' : TypeId} {pos : String} {af : Array Edge} {gd : Option (Nat × Bool)} {x y : Operand} {k k' : IntKind} {a b : Int}
theorem y_shr (hx : ev R x = some (.int k a)) (hy : ev R y = some (.int k' b)) (hb : 0 ≤ b) : Yv P N R S ⟨dst, .binOp .shr t x y t', ty, pos, af, gd⟩ (.int k (a.fdiv (2 ^ min b.toNat k.bits))) := y_bin hx hy fun w => by
  simp [eqGuard, binOp, Op.shift, Int.not_lt.2 hb]
theorem y_shl (hx : ev R x = some (.int k a)) (hy : ev R y = some (.int k' b)) (hb : 0 ≤ b) : Yv P N R S ⟨dst, .binOp .shl t x y t', ty, pos, af, gd⟩ (.int k (k.wrap (a * 2 ^ min b.toNat k.bits))) := y_bin hx hy fun w => by
  simp [eqGuard, binOp, Op.shift, Int.not_lt.2 hb]
theorem y_and (hx : ev R x = some (.int k a)) (hy : ev R y = some (.int k b)) : Yv P N R S ⟨dst, .binOp .and t x y t', ty, pos, af, gd⟩ (.int k (k.wrap ((BitVec.ofInt k.bits a &&& BitVec.ofInt k.bits b).toNat : Int))) := y_bin hx hy fun w => by
  simp [eqGuard, binOp, Op.intBits]
theorem y_or (hx : ev R x = some (.int k a)) (hy : ev R y = some (.int k b)) : Yv P N R S ⟨dst, .binOp .or t x y t', ty, pos, af, gd⟩ (.int k (k.wrap ((BitVec.ofInt k.bits a ||| BitVec.ofInt k.bits b).toNat : Int))) := y_bin hx hy fun w => by
  simp [eqGuard, binOp, Op.intBits]
theorem y_val {o : Oper} {v u : Value} (h : Yv P N R S o v) (e : v = u) : Yv P N R S o u := e ▸ h
theorem shr6 : ∀ c : Fin 256, ((c.val : Int)).fdiv (2 ^ min (6 : Int).toNat IntKind.i64.bits) = ((c.val / 64 : Nat) : Int) := by decide +kernel
theorem and63 : ∀ c : Fin 256, IntKind.i64.wrap ((BitVec.ofInt IntKind.i64.bits (c.val : Int) &&& BitVec.ofInt IntKind.i64.bits 63).toNat : Int) = ((c.val % 64 : Nat) : Int) := by decide +kernel
theorem shl1 : ∀ n : Fin 64, IntKind.u64.wrap (1 * 2 ^ min (n.val : Int).toNat IntKind.u64.bits) = (2 ^ n.val : Int) := by decide +kernel
theorem quo64 (c : Nat) : ((c : Int)).tdiv 64 = ((c / 64 : Nat) : Int) := rfl
theorem rem64 (c : Nat) : ((c : Int)).tmod 64 = ((c % 64 : Nat) : Int) := rfl
theorem u64_small : ∀ n : Fin 64, IntKind.u64.wrap (n.val : Int) = (n.val : Int) := by decide +kernel
theorem y_shr6 {c : Nat} (h : c < 256) (hx : ev R x = some (.int .i64 (c : Int))) : Yv P N R S ⟨dst, .binOp .shr t x (.const (.int .u64 6)) t', ty, pos, af, gd⟩ (.int .i64 ((c / 64 : Nat) : Int)) := y_val (y_shr hx rfl (by decide)) (by rw [shr6 ⟨c, h⟩])
theorem y_and63 {c : Nat} (h : c < 256) (hx : ev R x = some (.int .i64 (c : Int))) : Yv P N R S ⟨dst, .binOp .and t x (.const (.int .i64 63)) t', ty, pos, af, gd⟩ (.int .i64 ((c % 64 : Nat) : Int)) := y_val (y_and hx rfl) (by rw [and63 ⟨c, h⟩])
theorem y_shl1 {n : Nat} {k : IntKind} (h : n < 64) (hy : ev R y = some (.int k (n : Int))) : Yv P N R S ⟨dst, .binOp .shl t (.const (.int .u64 1)) y t', ty, pos, af, gd⟩ (.int .u64 (2 ^ n)) := y_val (y_shl rfl hy (by omega)) (by rw [shl1 ⟨n, h⟩])
theorem y_orB {a : Int} {n : Nat} (hx : ev R x = some (.int .u64 a)) (hy : ev R y = some (.int .u64 (2 ^ n))) : Yv P N R S ⟨dst, .binOp .or t x y t', ty, pos, af, gd⟩ (.int .u64 (orB a n)) := y_or hx hy
theorem g_stV {Q : Exit → Act → World → Prop} {ops : Array Oper} {rest : List Oper} {W0 : World} {F : List Nat} {L : List Ent} {b off : Nat} {cs : List Value} {v : Value} (i : Nat) (hw : want ops R ⟨none, .store t x y, ty, pos, af, gd⟩ = some true) (hx : ev R x = some (.pointer (some ⟨b, off, none⟩))) (hy : ev R y = some v) (hz : ∀ w, (sizeOf t).run P w = .ok 1 w) (h1 : v.oneCell' = true)
    (hi : L[i]? = some (.cells b t' cs)) (hl : off < cs.length) (h : G N R (St W0 F (L.set i (.cells b t' (cs.set off v)))) (wpList P ops Q rest)) : G N R (St W0 F L) (wpList P ops Q (⟨none, .store t x y, ty, pos, af, gd⟩ :: rest)) :=
  g_st i hw hx hy hz h1 hi (Nat.ble_eq_true_of_le hl) h
end

set_option maxRecDepth 100000 in
theorem cwith_any (s : Nat → Int) (lo hi : Nat) (hlo : lo ≤ 255) (hhi : hi ≤ 255) (w : World) :
    Calls Try.prog 37 #[.agg (s4C s).toArray, .int .u8 (lo : Int), .int .u8 (hi : Int)] w fun e w' => e = .returned (.agg (s4C (withS s lo (hi + 1 - lo))).toArray) ∧ Below w.heap.size w w' := by
 refine fn_intro Try.func37 rfl Try.ntmps37 rfl rfl ?_
 refine s_ (o_ ?_)
 refine g_box rfl rfl rfl rfl (fun b1 => ?_)
 refine g_alloc rfl rfl Try.zeroValue25 rfl (fun b2 => ?_)
 refine n_ (t_ (s_ (s_ (o_ ?_))))
 refine xg 3 [] rfl (by omega) ?_
 refine n_ (t_ (g_block ?_))
 refine g_loop (α := {x : Nat // x ≤ hi + 1 - lo}) (fun x => [(2, .int .u8 (hi : Int)), (3, .pointer (some ⟨b1, 0, none⟩)), (6, .pointer (some ⟨b2, 0, none⟩)), (7, .int .i64 ((lo + x.1 : Nat) : Int))]) (fun x => St w [] [.cells b2 25 (s4C s0), .cells b1 25 (s4C (withS s lo x.1))]) (fun x => hi + 1 - lo - x.1) ⟨0, Nat.zero_le _⟩ [2, 3, 6, 7] rfl (fun w h => h.pick [0,0] rfl) ?_
 rintro ⟨m, hm⟩
 dsimp only
 refine s_ (s_ (o_ ?_))
 refine xg 4 [0] rfl (by omega) ?_
 refine n_ (t_ ?_)
 refine g_casep 13 rfl (fun h1 => ?_) fun h1 => ?_
 ·refine g_cond_t rfl (g_skip (t_ (s_ (g_block ?_))))
  refine k_go [] rfl (by kernel_rfl) (fun _ _ _ _ _ h => h) fun hQ => ?_
  refine k_x 0 [] [] hQ (by kernel_rfl) rfl rfl rfl rfl rfl rfl ?_
  refine k_take 1 rfl (by kernel_rfl) hQ rfl rfl rfl (fun _ h => h.pick [] rfl) (y_shr6 (c := lo + m) (by omega) rfl) ?_
  refine k_take 2 rfl (by kernel_rfl) hQ rfl rfl rfl (fun _ h => h.pick [] rfl) (y_idxArr (m := (lo + m) / 64) rfl rfl Try.underlying25 Try.sizeOf23 (by omega) (by omega) (by omega)) ?_
  refine k_x 4 [] [] hQ (by kernel_rfl) rfl rfl rfl rfl rfl rfl ?_
  refine k_take 5 rfl (by kernel_rfl) hQ rfl rfl rfl (fun _ h => h.pick [] rfl) (y_and63 (c := lo + m) (by omega) rfl) ?_
  refine k_take 6 rfl (by kernel_rfl) hQ rfl rfl rfl (fun _ h => h.pick [] rfl) (y_shl1 (n := (lo + m) % 64) (by omega) rfl) ?_
  refine k_one 3 (by kernel_rfl) ?_
  refine k_op 3 rfl ?_
  refine g_val (v := .int .u64 (withS s lo m ((lo + m) / 64))) rfl rfl rfl (y_ld (off := (lo + m) / 64) 1 rfl Try.isAgg23 rfl (s4_get _ _ (by omega))) ?_
  refine n_ ?_
  refine k_end (fun _ h => h.pick [] rfl) ?_
  refine k_take 7 rfl (by kernel_rfl) hQ rfl rfl rfl (fun _ h => h.pick [] rfl) (y_orB (n := (lo + m) % 64) rfl rfl) ?_
  refine k_take 8 rfl (by kernel_rfl) hQ rfl rfl rfl (fun _ h => h.pick [] rfl) (y_idxArr (m := (lo + m) / 64) rfl rfl Try.underlying25 Try.sizeOf23 (by omega) (by omega) (by omega)) ?_
  refine k_one 9 (by kernel_rfl) ?_
  refine k_op 9 rfl ?_
  refine g_stV 1 rfl rfl rfl Try.sizeOf23 rfl rfl (show (lo + m) / 64 < 4 by omega) ?_
  simp only [List.set_cons_zero, List.set_cons_succ]
  rw [s4_set _ _ _ (show (lo + m) / 64 < 4 by omega)]
  refine n_ ?_
  refine k_end (fun _ h => h.pick [] rfl) ?_
  refine k_done (by kernel_rfl) ?_
  refine g_in_normal (t_ (o_ ?_))
  refine xg 3 [] rfl (by omega) ?_
  refine n_ ?_
  exact g_again ⟨m + 1, by omega⟩ [2, 3, 6, 7] (by dsimp only; omega) rfl (fun w h => h.pick [0,0] rfl)
 refine g_cond_f rfl (g_exit (g_then_exit (g_then_exit (g_in_exit (t_ (s_ (o_ ?_)))))))
 refine xg 1 [1] rfl (by omega) ?_
 refine g_stN 0 rfl rfl rfl (by kernel_rfl) rfl rfl rfl rfl ?_
 simp only [List.set_cons_zero]
 refine n_ (t_ (g_ret ?_))
 refine g_end_cell 0 Try.results37 rfl rfl Try.isAgg25 Try.sizeOf25 rfl ?_
 have hmm : m = hi + 1 - lo := by omega
 subst hmm
 exact fun w hS => ⟨rfl, hS.below⟩

theorem cwith_m (s : Nat → Int) (lo hi : Nat) (hlo : lo ≤ 255) (hhi : hi ≤ 255) : Meets Try.prog (fun _ => True) 37 [.agg (s4C s).toArray, .int .u8 (lo : Int), .int .u8 (hi : Int)] (fun _ : Unit => .agg (s4C (withS s lo (hi + 1 - lo))).toArray) [] (fun _ => []) := meets1 Try.call37 (fun w hI => cwith_any s lo hi hlo hhi w)
end Go.Proofs.Ytjdmdpjbijkjaaa

/-
  A slice of structs as an argument, read.
-/
namespace Go.Proofs.Ytjdmdpjbijkjaaa
open Go.ChangeShapes Go.WideShapes Go.ChangeAt Go.RowKit
section
variable {H : Type} {enc : TypeId × Value → H} {P : Program}
theorem rd_sliceN {r : Reach} {b0 base : Nat} {spare : Nat → Bool} {held : Bool} {W : World} {t e : TypeId} {v : Value} {d : DataW H} {p : List MemPlace} {α : Type} [Inhabited α] (sz : Nat) (val : α → Nat → Value) (hsz : 0 < sz) (ht : P.underlying t = some (.slice e)) (hc : P.cellsOf e = sz)
    (hel : ∀ (n : Nat) (cs : List Value) (y : DataW H × List MemPlace), DataW.trod enc P W base spare held n e cs = some y → cs.length = sz → ∃ x, ∀ j, j < sz → cs[j]? = some (val x j)) (hv : Value.okWide P W r b0 t v) (h : DataW.Trod enc P W base spare held t v d p) :
    ∃ (q : Option Addr) (n c : Nat) (g : Nat → α), v = .slice q n c ∧ n ≤ maxLen ∧ RdSl W q n sz (fun i j => val (g i) j) := by
  obtain ⟨a0, n0, c0, rfl⟩ := okWide_slice ht hv
  obtain ⟨fuel, hf⟩ := h
  rcases Go.Deep.open_slice ht hf with ⟨hcs, _⟩ | ⟨a, len, cap, m, n, D, Pl, hcs, hb, hl, hm, hmm, hx, hi⟩
  · simp only [Value.cells, List.cons.injEq, Value.slice.injEq, and_true] at hcs
    obtain ⟨rfl, rfl, rfl⟩ := hcs
    exact ⟨none, 0, 0, fun _ => default, rfl, by simp, ⟨fun h => absurd h (by simp), fun h => absurd h (by simp), fun i j h => absurd h (by simp)⟩⟩
  · simp only [Value.cells, List.cons.injEq, Value.slice.injEq, and_true] at hcs
    obtain ⟨rfl, rfl, rfl⟩ := hcs
    have hlm : n0 ≤ m := by rw [hmm]; split <;> omega
    have key : ∀ i, i < n0 → ∃ x, ∀ j, j < sz → W.cell? (a.add (i * sz + j)) = some (val x j) := by
      intro i hin
      obtain ⟨cs', h1, h2⟩ := hi i (by omega)
      rw [hc] at h1
      obtain ⟨_, hlen, h3⟩ := World.cells?_some h1
      obtain ⟨x, hx'⟩ := hel _ _ _ h2 hlen
      refine ⟨x, fun j hj => ?_⟩
      have := h3 j (by omega)
      rw [Addr.add_add] at this
      rw [this]
      exact hx' j hj
    refine ⟨some a, n0, c0, fun i => if hlt : i < n0 then Classical.choose (key i hlt) else default, rfl, by omega, ⟨fun _ => rfl, fun h0 => ?_, fun i j hi' hj => ?_⟩⟩
    · obtain ⟨x, hx'⟩ := key 0 h0
      have := block_lt_of_cell (hx' 0 hsz)
      rw [block_add] at this
      exact this
    · simp only [Option.getD_some]
      rw [dif_pos hi']
      exact Classical.choose_spec (key i hi') j hj
end
end Go.Proofs.Ytjdmdpjbijkjaaa

/- Tokens. -/
namespace Go.Proofs.Ytjdmdpjbijkjaaa
open Go Go.RowKit

structure Tok where
  k : Int
  s : Nat → Int
  mi : Int
  ma : Int
def tC (t : Tok) : List Value := [.int .i64 t.k, .int .u64 (t.s 0), .int .u64 (t.s 1), .int .u64 (t.s 2), .int .u64 (t.s 3), .int .i64 t.mi, .int .i64 t.ma]
theorem tC_len (t : Tok) : (tC t).length = 7 := rfl
theorem fm_get {α : Type} (f : α → List Value) (sz : Nat) (hf : ∀ a, (f a).length = sz) (l : List α) (i j : Nat) (a : α) (hi : l[i]? = some a) (hj : j < sz) : (l.flatMap f)[i * sz + j]? = (f a)[j]? := by
  induction l generalizing i with
  | nil => simp at hi
  | cons b l ih =>
    rw [List.flatMap_cons]
    cases i with
    | zero =>
      simp only [List.getElem?_cons_zero, Option.some.injEq] at hi
      subst hi
      rw [Nat.zero_mul, Nat.zero_add, List.getElem?_append_left (by rw [hf]; exact hj)]
    | succ i =>
      rw [List.getElem?_cons_succ] at hi
      rw [List.getElem?_append_right (by rw [hf, Nat.succ_mul]; omega), hf, show (i + 1) * sz + j - sz = i * sz + j by rw [Nat.succ_mul]; omega]
      exact ih i hi
theorem fm_len {α : Type} (f : α → List Value) (sz : Nat) (hf : ∀ a, (f a).length = sz) (l : List α) : (l.flatMap f).length = l.length * sz := by
  induction l with
  | nil => simp
  | cons a l ih => rw [List.flatMap_cons, List.length_append, hf, ih, List.length_cons, Nat.succ_mul]; omega
/-- append: one struct more. -/
theorem g_appS {P : Program} {N : Nat} {R : Regs} {Q : Exit → Act → World → Prop} {ops : Array Oper} {rest : List Oper} {W0 : World} {F : List Nat} {L : List Ent} {ty e : TypeId} {pos : String} {af : Array Edge} {gd : Option (Nat × Bool)} {x y : Operand} {α : Type} (f : α → List Value) {d : Nat} {tt : TypeId} {size bytes cap : Nat} {v : Value} {cs : List α} {b j : Nat} {t' : TypeId} (c : α) (i : Nat)
    (hw : want ops R ⟨some d, .call { callee := .builtin .append, args := #[x, y], argTypes := #[tt, tt] }, ty, pos, af, gd⟩ = some true) (hN : Nat.blt d N = true)
    (hx : ev R x = some v) (hy : ev R y = some (.slice (some ⟨b, 0, none⟩) 1 cap)) (ht : P.underlying tt = some (.slice e)) (he : elemInfo P e = some (size, bytes))
    (hi : L[i]? = some (.row e size v cs.length (cs.flatMap f))) (hj : L[j]? = some (.cells b t' (f c))) (hl : ∀ a, (f a).length = size) (h1 : (f c).all (·.oneCell') = true)
    (hb : (cs.length + 1) * bytes ≤ 140737488355328) (h63 : cs.length + 1 ≤ maxLen)
    (h : ∀ v', G N ((d, v') :: R) (St W0 F (L.set i (.row e size v' (cs ++ [c]).length ((cs ++ [c]).flatMap f)))) (wpList P ops Q rest)) :
    G N R (St W0 F L) (wpList P ops Q (⟨some d, .call { callee := .builtin .append, args := #[x, y], argTypes := #[tt, tt] }, ty, pos, af, gd⟩ :: rest)) := by
  refine g_append (n := cs.length) (m := 1) (xs := cs.flatMap f) (news := f c) i hw hN hx hy ht he hi (by rw [hl]; omega) (news_of_cells hj) h1 hb h63 fun v' => ?_
  have e1 : (cs ++ [c]).length = cs.length + 1 := by simp
  have e2 : (cs ++ [c]).flatMap f = cs.flatMap f ++ f c := by simp
  have := h v'
  rwa [e1, e2] at this
/-- A text, by its bytes. -/
def st8 (l : List UInt8) : Value := .string ⟨l.toArray⟩
theorem st8_nil (c : UInt8) (l : List UInt8) : ¬ ((⟨(c :: l).toArray⟩ : ByteArray) = ⟨#[]⟩) := fun h => by
  have := congrArg (fun b : ByteArray => b.data.size) h
  simp at this
theorem st8_0 (c : UInt8) (l : List UInt8) : (⟨(c :: l).toArray⟩ : ByteArray)[0]? = some c := rfl
theorem st8_1 (c : UInt8) (l : List UInt8) : (⟨(c :: l).toArray⟩ : ByteArray).extract 1 (⟨(c :: l).toArray⟩ : ByteArray).size = ⟨l.toArray⟩ := by
  apply ByteArray.ext
  rw [ByteArray.data_extract]
  apply Array.ext'
  rw [Array.toList_extract]
  show ((c :: l).drop 1).take ((c :: l).toArray.size - 1) = l
  simp
theorem st8_get {l : List UInt8} {i : Nat} (h : i < l.length) : ∃ c, l[i]? = some c ∧ (⟨l.toArray⟩ : ByteArray)[i]? = some c := by
  refine ⟨l[i], List.getElem?_eq_getElem h, ?_⟩
  rw [getElem?_pos _ _ (by rw [size_mk]; exact h)]
  rfl
def litT (c : UInt8) : Tok := ⟨0, withS s0 c.toNat 1, 0, 0⟩
def kT (k : Int) : Tok := ⟨k, s0, 0, 0⟩
def startsT (ts : List Tok) : Bool := match ts.getLast? with
  | none => true
  | some t => decide (t.k = 1 ∨ t.k = 3)
def begunT (ts : List Tok) : Bool := match ts.getLast? with
  | none => false
  | some t => decide (t.k = 5)
theorem last_get {ts : List Tok} (i : Nat) (h : i + 1 = ts.length) : ∃ t, ts[i]? = some t ∧ ts.getLast? = some t := by
  refine ⟨ts[i]'(by omega), List.getElem?_eq_getElem (by omega), ?_⟩
  rw [List.getLast?_eq_getElem?, show ts.length - 1 = i by omega, List.getElem?_eq_getElem (show i < ts.length by omega)]
theorem last_none {ts : List Tok} (h : ts.length = 0) : ts.getLast? = none := by rw [List.length_eq_zero_iff.1 h]; rfl
theorem St.mine {W0 w : World} {F : List Nat} {L : List Ent} (h : St W0 F L w) : St w (L.flatMap Ent.fp) L w := St.start L (fun e he => h.ok e he) h.apart
/-- A callee that is handed all that is owned. -/
theorem g_callAll {P : Program} {N : Nat} {R : Regs} {Q : Exit → Act → World → Prop} {ops : Array Oper} {rest : List Oper} {W0 : World} {F : List Nat} {L : List Ent} {ty : TypeId} {pos : String} {af : Array Edge} {gd : Option (Nat × Bool)} {α : Type} {d : Nat} {f : FuncId} {xs : List Operand} {ats : Array TypeId} {vs : List Value} (r : α → Value) (L1 : α → List Ent)
    (hw : want ops R ⟨some d, .call { callee := .value (.func f), args := xs.toArray, argTypes := ats }, ty, pos, af, gd⟩ = some true) (hN : Nat.blt d N = true)
    (hx : xs.mapM (ev R) = some vs) (hf : ∀ args w, (callFunc f args).run P w = .ok (.enter f args) w)
    (hc : ∀ w F', St w F' L w → Calls P f vs.toArray w (fun e w' => ∃ x, e = .returned (r x) ∧ St w F' (L1 x) w'))
    (h : ∀ x, G N ((d, r x) :: R) (St W0 F (L1 x)) (wpList P ops Q rest)) : G N R (St W0 F L) (wpList P ops Q (⟨some d, .call { callee := .value (.func f), args := xs.toArray, argTypes := ats }, ty, pos, af, gd⟩ :: rest)) :=
  g_call r (fun x => St W0 F (L1 x)) hw hN hx hf (fun w hS => (hc w _ hS.mine).mono fun _ _ ⟨x, he, hb⟩ => ⟨x, he, by
    have := St.join (Lr := []) (by simpa using hS) (fun k hk => by obtain ⟨e, he, hk⟩ := List.mem_flatMap.1 hk; exact ⟨e, he, hk⟩) hb
    simpa using this⟩) h

set_option maxRecDepth 100000 in
theorem put_any (b : Nat) (r e0 d v : Value) (ts : List Tok) (t : Tok) (F : List Nat) (w : World) (hts : ts.length ≤ 1000) (hS0 : St w F [.cells b 57 [r, e0, v, d], .row 92 7 v ts.length (ts.flatMap tC)] w) :
    Calls Try.prog 36 #[.pointer (some ⟨b, 0, none⟩), .agg (tC t).toArray] w fun e w' => ∃ v' : Value, e = .returned (.tuple #[]) ∧ St w F [.cells b 57 [r, e0, v', d], .row 92 7 v' (ts ++ [t]).length ((ts ++ [t]).flatMap tC)] w' := by
 refine fn_intro_own Try.func36 rfl Try.ntmps36 rfl rfl hS0 ?_
 refine s_ (o_ ?_)
 refine g_box rfl rfl rfl rfl (fun b1 => ?_)
 refine n_ (t_ ?_)
 refine k_go [0] rfl (by kernel_rfl) (fun _ _ _ _ _ h => h) fun hQ => ?_
 refine k_x 0 [0] [] hQ (by kernel_rfl) rfl rfl rfl rfl rfl rfl ?_
 refine k_x 1 [0] [] hQ (by kernel_rfl) rfl rfl rfl rfl rfl rfl ?_
 refine k_x 2 [0] [] hQ (by kernel_rfl) rfl rfl rfl rfl rfl rfl ?_
 refine k_x 3 [0] [] hQ (by kernel_rfl) rfl rfl rfl rfl rfl rfl ?_
 refine k_xc 5 [0] [0] hQ (by kernel_rfl) rfl rfl rfl rfl rfl rfl (by omega) ?_
 refine k_all [4,6] (by kernel_rfl) (by simp) ⟨?_, ?_, trivial⟩
 ·refine k_op 4 rfl ?_
  refine xg 1 [1] rfl (by omega) ?_
  refine n_ ?_
  refine k_end (fun _ h => h.pick [0] rfl) ?_
  refine k_one 6 (by kernel_rfl) ?_
  refine k_op 6 rfl ?_
  refine g_buildSlice (offs := [0]) rfl rfl Try.underlying55 rfl Try.zeroValue92 (by kernel_rfl) (fun b2 => ?_)
  refine n_ ?_
  refine k_end (fun _ h => h.pick [1] rfl) ?_
  refine k_one 7 (by kernel_rfl) ?_
  refine k_op 7 rfl ?_
  refine g_appS (bytes := 56) tC (t) 3 (j := 0) rfl rfl rfl rfl Try.underlying55 (by kernel_rfl) rfl rfl tC_len rfl (by omega) (by have : maxLen = 9223372036854775807 := rfl; omega) (fun v3 => ?_)
  simp only [List.set_cons_zero, List.set_cons_succ]
  refine n_ ?_
  refine k_end (fun _ h => h.pick [1] rfl) ?_
  refine k_x 8 [1] [] hQ (by kernel_rfl) rfl rfl rfl rfl rfl rfl ?_
  refine k_x 9 [1] [] hQ (by kernel_rfl) rfl rfl rfl rfl rfl rfl ?_
  refine k_one 10 (by kernel_rfl) ?_
  refine k_op 10 rfl ?_
  refine g_rowLen 3 rfl (fun pr1 cr1 hv1 => ?_)
  cases hv1
  refine g_st 2 rfl rfl rfl Try.sizeOf55 rfl rfl rfl ?_
  simp only [List.set_cons_zero, List.set_cons_succ]
  refine n_ ?_
  refine k_end (fun _ h => h.pick [1] rfl) ?_
  refine k_done (by kernel_rfl) ?_
  refine g_end_normal ?_
  refine g_end0 Try.results36 ?_
  exact fun w hS => ⟨_, rfl, hS.pick [2,2] rfl⟩
 refine k_op 6 rfl ?_
 refine g_buildSlice (offs := [0]) rfl rfl Try.underlying55 rfl Try.zeroValue92 (by kernel_rfl) (fun b4 => ?_)
 refine n_ ?_
 refine k_end (fun _ h => h.pick [1] rfl) ?_
 refine k_one 4 (by kernel_rfl) ?_
 refine k_op 4 rfl ?_
 refine xg 1 [2] rfl (by omega) ?_
 refine n_ ?_
 refine k_end (fun _ h => h.pick [1] rfl) ?_
 refine k_one 7 (by kernel_rfl) ?_
 refine k_op 7 rfl ?_
 refine g_appS (bytes := 56) tC (t) 3 (j := 0) rfl rfl rfl rfl Try.underlying55 (by kernel_rfl) rfl rfl tC_len rfl (by omega) (by have : maxLen = 9223372036854775807 := rfl; omega) (fun v5 => ?_)
 simp only [List.set_cons_zero, List.set_cons_succ]
 refine n_ ?_
 refine k_end (fun _ h => h.pick [1] rfl) ?_
 refine k_x 8 [1] [] hQ (by kernel_rfl) rfl rfl rfl rfl rfl rfl ?_
 refine k_x 9 [1] [] hQ (by kernel_rfl) rfl rfl rfl rfl rfl rfl ?_
 refine k_one 10 (by kernel_rfl) ?_
 refine k_op 10 rfl ?_
 refine g_rowLen 3 rfl (fun pr2 cr2 hv2 => ?_)
 cases hv2
 refine g_st 2 rfl rfl rfl Try.sizeOf55 rfl rfl rfl ?_
 simp only [List.set_cons_zero, List.set_cons_succ]
 refine n_ ?_
 refine k_end (fun _ h => h.pick [1] rfl) ?_
 refine k_done (by kernel_rfl) ?_
 refine g_end_normal ?_
 refine g_end0 Try.results36 ?_
 exact fun w hS => ⟨_, rfl, hS.pick [2,2] rfl⟩

set_option maxRecDepth 100000 in
theorem literal_any (b : Nat) (r e0 d v : Value) (ts : List Tok) (c : UInt8) (F : List Nat) (w : World) (hts : ts.length ≤ 1000) (hS0 : St w F [.cells b 57 [r, e0, v, d], .row 92 7 v ts.length (ts.flatMap tC)] w) :
    Calls Try.prog 41 #[.pointer (some ⟨b, 0, none⟩), .int .u8 (c.toNat : Int)] w fun e w' => ∃ v' : Value, e = .returned (.tuple #[]) ∧ St w F [.cells b 57 [r, e0, v', d], .row 92 7 v' (ts ++ [litT c]).length ((ts ++ [litT c]).flatMap tC)] w' := by
 have hcl := c.toNat_lt
 refine fn_intro_own Try.func41 rfl Try.ntmps41 rfl rfl hS0 ?_
 refine o_ ?_
 refine xg 4 [] rfl rfl ?_
 refine g_call1 rfl rfl rfl Try.call37 (fun w hS => (by have := cwith_any s0 c.toNat c.toNat (by omega) (by omega) w; rwa [show c.toNat + 1 - c.toNat = 1 by omega] at this)) ?_
 refine xg 1 [] rfl rfl ?_
 refine g_callAll (fun _ : Value => .tuple #[]) (fun v' => [.cells b 57 [r, e0, v', d], .row 92 7 v' (ts ++ [(litT c)]).length ((ts ++ [(litT c)]).flatMap tC)]) rfl rfl rfl Try.call36 (fun w F' hS => put_any b r e0 d v ts (litT c) F' w (by first | omega | (simp only [List.length_append, List.length_singleton]; omega)) hS) (fun vq => ?_)
 refine n_ (g_end_normal ?_)
 refine g_end0 Try.results41 ?_
 exact fun w hS => ⟨_, rfl, hS.pick [0,0] rfl⟩

set_option maxRecDepth 100000 in
theorem starts_any (b : Nat) (r e0 d v : Value) (ts : List Tok) (F : List Nat) (w : World) (hts : ts.length ≤ 1000) (hS0 : St w F [.cells b 57 [r, e0, v, d], .row 92 7 v ts.length (ts.flatMap tC)] w) :
    Calls Try.prog 39 #[.pointer (some ⟨b, 0, none⟩)] w fun e w' => ∃ _ : Unit, e = .returned (.bool (startsT ts)) ∧ St w F [.cells b 57 [r, e0, v, d], .row 92 7 v ts.length (ts.flatMap tC)] w' := by
 refine fn_intro_own Try.func39 rfl Try.ntmps39 rfl rfl hS0 ?_
 refine s_ (o_ ?_)
 refine xg 1 [] rfl rfl ?_
 refine ntso_ ?_
 refine xg 4 [0] rfl (by omega) ?_
 refine g_rowLen 1 rfl (fun pr1 cr1 hv1 => ?_)
 cases hv1
 refine g_val rfl rfl rfl (y_llen rfl Try.underlying55) ?_
 refine xg 1 [] rfl rfl ?_
 refine ntso_ ?_
 refine xg 3 [0] rfl rfl ?_
 refine g_casep 11 rfl (fun h2 => ?_) fun h2 => ?_
 ·refine xg 24 [] rfl rfl ?_
  refine n_ (t_ (g_ret ?_))
  refine g_end1 Try.results39 rfl ?_
  exact fun w hS => ⟨(), ret_bool (by unfold startsT; rw [last_none (by omega)]), hS.pick [0,0] rfl⟩
 refine xg 5 [0] rfl (by omega) ?_
 obtain ⟨tk, htk, hlk⟩ := last_get (ts := ts) (ts.length - 1) (by omega)
 refine g_val rfl rfl rfl (y_subi rfl rfl (by omega)) ?_
 refine g_rowCase 1 rfl (by omega) (fun gr3 cr3 hv3 => ?_)
 cases hv3
 refine g_val rfl rfl rfl (y_idxAddr (m := (ts.length - 1) * 7 + 0) rfl rfl Try.underlying55 Try.sizeOf92 (by omega) (by omega) (by omega)) ?_
 refine xg 1 [] rfl rfl ?_
 refine g_val rfl rfl rfl (y_ldR (u := .int .i64 tk.k) 1 rfl Try.isAgg3 rfl ((fm_get tC 7 tC_len _ (ts.length - 1) 0 _ (htk) (by decide)).trans rfl)) ?_
 refine xg 3 [0] rfl rfl ?_
 refine g_casep 23 rfl (fun h4 => ?_) fun h4 => ?_
 ·refine xg 12 [] rfl rfl ?_
  refine n_ (t_ (g_ret ?_))
  refine g_end1 Try.results39 rfl ?_
  exact fun w hS => ⟨(), ret_bool (by unfold startsT; first | (rw [hlk]; done) | (rw [hlk]; dsimp only; exact (decide_eq_true (by omega)).symm)), hS.pick [0,0] rfl⟩
 refine xg 5 [0] rfl (by omega) ?_
 refine g_val rfl rfl rfl (y_subi rfl rfl (by omega)) ?_
 refine g_val rfl rfl rfl (y_idxAddr (m := (ts.length - 1) * 7 + 0) rfl rfl Try.underlying55 Try.sizeOf92 (by omega) (by omega) (by omega)) ?_
 refine xg 1 [] rfl rfl ?_
 refine g_val rfl rfl rfl (y_ldR (u := .int .i64 tk.k) 1 rfl Try.isAgg3 rfl ((fm_get tC 7 tC_len _ (ts.length - 1) 0 _ (htk) (by decide)).trans rfl)) ?_
 refine xg 3 [0] rfl rfl ?_
 refine n_ (t_ (g_ret ?_))
 refine g_end1 Try.results39 rfl ?_
 exact fun w hS => ⟨(), ret_bool (by unfold startsT; first | (rw [hlk]; done) | (rw [hlk]; dsimp only; exact decide_eq_decide.2 (by omega))), hS.pick [0,0] rfl⟩

set_option maxRecDepth 100000 in
theorem begun_any (b : Nat) (r e0 d v : Value) (ts : List Tok) (F : List Nat) (w : World) (hts : ts.length ≤ 1000) (hS0 : St w F [.cells b 57 [r, e0, v, d], .row 92 7 v ts.length (ts.flatMap tC)] w) :
    Calls Try.prog 40 #[.pointer (some ⟨b, 0, none⟩)] w fun e w' => ∃ _ : Unit, e = .returned (.bool (begunT ts)) ∧ St w F [.cells b 57 [r, e0, v, d], .row 92 7 v ts.length (ts.flatMap tC)] w' := by
 refine fn_intro_own Try.func40 rfl Try.ntmps40 rfl rfl hS0 ?_
 refine s_ (o_ ?_)
 refine xg 1 [] rfl rfl ?_
 refine ntso_ ?_
 refine xg 4 [0] rfl (by omega) ?_
 refine g_rowLen 1 rfl (fun pr1 cr1 hv1 => ?_)
 cases hv1
 refine g_val rfl rfl rfl (y_llen rfl Try.underlying55) ?_
 refine xg 1 [] rfl rfl ?_
 refine ntso_ ?_
 refine xg 3 [0] rfl rfl ?_
 refine g_casep 11 rfl (fun h2 => ?_) fun h2 => ?_
 ·refine xg 5 [0] rfl (by omega) ?_
  obtain ⟨tk, htk, hlk⟩ := last_get (ts := ts) (ts.length - 1) (by omega)
  refine g_val rfl rfl rfl (y_subi rfl rfl (by omega)) ?_
  refine g_rowCase 1 rfl (by omega) (fun gr3 cr3 hv3 => ?_)
  cases hv3
  refine g_val rfl rfl rfl (y_idxAddr (m := (ts.length - 1) * 7 + 0) rfl rfl Try.underlying55 Try.sizeOf92 (by omega) (by omega) (by omega)) ?_
  refine xg 1 [] rfl rfl ?_
  refine g_val rfl rfl rfl (y_ldR (u := .int .i64 tk.k) 1 rfl Try.isAgg3 rfl ((fm_get tC 7 tC_len _ (ts.length - 1) 0 _ (htk) (by decide)).trans rfl)) ?_
  refine xg 3 [0] rfl rfl ?_
  refine n_ (t_ (g_ret ?_))
  refine g_end1 Try.results40 rfl ?_
  exact fun w hS => ⟨(), ret_bool (by unfold begunT; first | (rw [hlk]; done) | (rw [hlk]; dsimp only; exact decide_eq_decide.2 (by omega))), hS.pick [0,0] rfl⟩
 refine xg 12 [] rfl rfl ?_
 refine n_ (t_ (g_ret ?_))
 refine g_end1 Try.results40 rfl ?_
 exact fun w hS => ⟨(), ret_bool (by unfold begunT; rw [last_none (by omega)]), hS.pick [0,0] rfl⟩

end Go.Proofs.Ytjdmdpjbijkjaaa

/- The tokens of a text without brackets, backslashes, anchors and braces. -/
namespace Go.Proofs.Ytjdmdpjbijkjaaa
open Go Go.RowKit

def okC (c : UInt8) : Prop := c.toNat ≠ 92 ∧ c.toNat ≠ 91 ∧ c.toNat ≠ 94 ∧ c.toNat ≠ 36 ∧ c.toNat ≠ 123
def dotT : Tok := ⟨0, withS s0 0 256, 0, 0⟩
def timesT (a b : Int) : Tok := ⟨4, s0, a, b⟩
def tokB (c : UInt8) (ts : List Tok) (d : Int) : List Tok × Int :=
  if (c.toNat : Int) = 46 then (ts ++ [dotT], d) else if (c.toNat : Int) = 42 ∧ (startsT ts || begunT ts) = true then (ts ++ [litT c], d) else if (c.toNat : Int) = 42 then (ts ++ [timesT 0 (-1)], d) else (ts ++ [litT c], d)
def tokE (c : UInt8) (ts : List Tok) (d : Int) : List Tok × Int :=
  if (c.toNat : Int) = 46 then (ts ++ [dotT], d) else if (c.toNat : Int) = 42 then (ts ++ [timesT 0 (-1)], d) else if (c.toNat : Int) = 43 then (ts ++ [timesT 1 (-1)], d) else if (c.toNat : Int) = 63 then (ts ++ [timesT 0 1], d) else
  if (c.toNat : Int) = 40 then (ts ++ [kT 1], d + 1) else if (c.toNat : Int) = 41 then (ts ++ [kT 2], d - 1) else if (c.toNat : Int) = 124 then (ts ++ [kT 3], d) else (ts ++ [litT c], d)
def tokF (f : UInt8 → List Tok → Int → List Tok × Int) : List UInt8 → List Tok → Int → Option (List Tok)
  | [], ts, d => if d = 0 then some ts else none
  | c :: l, ts, d => if (f c ts d).2 < 0 then none else tokF f l (f c ts d).1 (f c ts d).2
theorem tok_step {f : UInt8 → List Tok → Int → List Tok × Int} {c : UInt8} {l : List UInt8} {ts ts' : List Tok} {d d' : Int} {R : Option (List Tok)} (hR : tokF f (c :: l) ts d = R) (h : f c ts d = (ts', d')) (h0 : 0 ≤ d') : tokF f l ts' d' = R := by
  rw [← hR]
  show _ = if (f c ts d).2 < 0 then none else tokF f l (f c ts d).1 (f c ts d).2
  rw [h, if_neg (by dsimp only; omega)]
theorem tok_stop {f : UInt8 → List Tok → Int → List Tok × Int} {c : UInt8} {l : List UInt8} {ts ts' : List Tok} {d d' : Int} {R : Option (List Tok)} (hR : tokF f (c :: l) ts d = R) (h : f c ts d = (ts', d')) (h0 : d' < 0) : R = none := by
  rw [← hR]
  show (if (f c ts d).2 < 0 then none else tokF f l (f c ts d).1 (f c ts d).2) = none
  rw [h, if_pos (by dsimp only; omega)]
theorem tok_end {f : UInt8 → List Tok → Int → List Tok × Int} {ts : List Tok} {d : Int} {R : Option (List Tok)} (hR : tokF f [] ts d = R) : decide (d = 0) = R.isSome ∧ ∀ ts', R = some ts' → ts = ts' := by
  rw [← hR]
  show decide (d = 0) = (if d = 0 then some ts else none : Option (List Tok)).isSome ∧ _
  by_cases h : d = 0
  · rw [if_pos h]; exact ⟨by simp [h], fun ts' q => by rw [tokF, if_pos h] at q; exact Option.some.inj q⟩
  · rw [if_neg h]; exact ⟨by simp [h], fun ts' q => by rw [tokF, if_neg h] at q; cases q⟩

end Go.Proofs.Ytjdmdpjbijkjaaa

/- Trees in memory. -/
namespace Go.Proofs.Ytjdmdpjbijkjaaa
open Go Go.RowKit

/-- A node: its kind, set, least, most, number; its kids' slice, its kids. -/
inductive MT where
  | mk (k : Int) (s : Nat → Int) (mi ma nu : Int) (v : Value) (kids : List MT)
def MT.v : MT → Value
  | .mk _ _ _ _ _ v _ => v
def MT.kids : MT → List MT
  | .mk _ _ _ _ _ _ kids => kids
def nC : MT → List Value
  | .mk k s mi ma nu v _ => [.int .i64 k, .int .u64 (s 0), .int .u64 (s 1), .int .u64 (s 2), .int .u64 (s 3), .int .i64 mi, .int .i64 ma, .int .i64 nu, v]
theorem nC_len (t : MT) : (nC t).length = 9 := by cases t; rfl
mutual
def MT.fp : MT → List Nat
  | .mk _ _ _ _ _ v kids => v.ownBlock.toList ++ fpL kids
def fpL : List MT → List Nat
  | [] => []
  | t :: ts => t.fp ++ fpL ts
end
mutual
def MT.ok (w : World) : MT → Prop
  | .mk _ _ _ _ _ v kids => w.ownsRow 0 28 9 v kids.length (kids.flatMap nC) ∧ okL w kids
def okL (w : World) : List MT → Prop
  | [] => True
  | t :: ts => t.ok w ∧ okL w ts
end
mutual
theorem MT.stable {w w' : World} : ∀ (t : MT), (∀ k, k ∈ t.fp → w'.heap[k]? = w.heap[k]?) → t.ok w → t.ok w'
  | .mk k s mi ma nu v kids, hk, h => by
    unfold MT.ok at h ⊢
    unfold MT.fp at hk
    exact ⟨ownsRow_stable (fun k hk' => hk k (List.mem_append_left _ hk')) h.1, okL_stable kids (fun k hk' => hk k (List.mem_append_right _ hk')) h.2⟩
theorem okL_stable {w w' : World} : ∀ (ts : List MT), (∀ k, k ∈ fpL ts → w'.heap[k]? = w.heap[k]?) → okL w ts → okL w' ts
  | [], _, _ => by unfold okL; trivial
  | t :: ts, hk, h => by
    unfold okL at h ⊢
    unfold fpL at hk
    exact ⟨MT.stable t (fun k hk' => hk k (List.mem_append_left _ hk')) h.1, okL_stable ts (fun k hk' => hk k (List.mem_append_right _ hk')) h.2⟩
end
mutual
theorem MT.inb {w : World} : ∀ (t : MT), t.ok w → ∀ k, k ∈ t.fp → k < w.heap.size
  | .mk k s mi ma nu v kids, h, q, hq => by
    unfold MT.ok at h
    unfold MT.fp at hq
    rcases List.mem_append.1 hq with hq | hq
    · exact (h.1.lt q (by simpa using hq)).2
    · exact okL_inb kids h.2 q hq
theorem okL_inb {w : World} : ∀ (ts : List MT), okL w ts → ∀ k, k ∈ fpL ts → k < w.heap.size
  | [], _, q, hq => by unfold fpL at hq; cases hq
  | t :: ts, h, q, hq => by
    unfold okL at h
    unfold fpL at hq
    rcases List.mem_append.1 hq with hq | hq
    · exact MT.inb t h.1 q hq
    · exact okL_inb ts h.2 q hq
end
theorem okL_cons {w : World} {t : MT} {ts : List MT} : okL w (t :: ts) ↔ t.ok w ∧ okL w ts := by rw [okL]
theorem ok_mk {w : World} {k : Int} {s : Nat → Int} {mi ma nu : Int} {v : Value} {ms : List MT} : (MT.mk k s mi ma nu v ms).ok w ↔ w.ownsRow 0 28 9 v ms.length (ms.flatMap nC) ∧ okL w ms := by rw [MT.ok]
theorem fpL_cons {t : MT} {ts : List MT} : fpL (t :: ts) = t.fp ++ fpL ts := by rw [fpL]
theorem fp_mk {k : Int} {s : Nat → Int} {mi ma nu : Int} {v : Value} {ms : List MT} : (MT.mk k s mi ma nu v ms).fp = v.ownBlock.toList ++ fpL ms := by rw [MT.fp]
theorem okL_nil {w : World} : okL w [] := by rw [okL]; trivial
theorem fpL_nil : fpL [] = [] := by rw [fpL]
/-- What lies below some nodes. -/
def Ent.forest (ts : List MT) : Ent := .own { fp := fpL ts, holds := fun w => okL w ts, stable := fun w w' hk h => okL_stable ts hk h, inb := fun w h => okL_inb ts h }
theorem fpL_append (a b : List MT) : fpL (a ++ b) = fpL a ++ fpL b := by
  induction a with
  | nil => simp [fpL]
  | cons t a ih => simp only [List.cons_append, fpL, ih, List.append_assoc]
theorem okL_append {w : World} (a b : List MT) : okL w (a ++ b) ↔ okL w a ∧ okL w b := by
  induction a with
  | nil => simp [okL]
  | cons t a ih => simp only [List.cons_append, okL, ih, and_assoc]
section
variable {W0 w : World} {F : List Nat} {L Lr : List Ent} {e1 e2 e : Ent}
theorem St.merge (h : St W0 F (e1 :: e2 :: Lr) w) (hh : e1.holds w → e2.holds w → e.holds w) (hf : ∀ k, k ∈ e.fp → k ∈ e1.fp ∨ k ∈ e2.fp) : St W0 F (e :: Lr) w := by
  have h1 := h.ok e1 (by simp)
  have h2 := h.ok e2 (by simp)
  obtain ⟨a1, a2⟩ := List.pairwise_cons.1 h.apart
  obtain ⟨b1, b2⟩ := List.pairwise_cons.1 a2
  refine ⟨h.os, h.tape, h.output, h.size, h.keep, fun x hx => ?_, fun x hx k hk => ?_, List.pairwise_cons.2 ⟨fun y hy k hk hk' => ?_, b2⟩⟩
  · rcases List.mem_cons.1 hx with rfl | hx
    · exact hh h1 h2
    · exact h.ok x (by simp [hx])
  · rcases List.mem_cons.1 hx with rfl | hx
    · rcases hf k hk with q | q
      · exact h.own e1 (by simp) k q
      · exact h.own e2 (by simp) k q
    · exact h.own x (by simp [hx]) k hk
  · rcases hf k hk with q | q
    · exact a1 y (by simp [hy]) k q hk'
    · exact b1 y hy k q hk'
theorem St.nil (h : St W0 F L w) : St W0 F (.forest [] :: L) w :=
  ⟨h.os, h.tape, h.output, h.size, h.keep, fun x hx => (List.mem_cons.1 hx).elim (fun q => by subst q; exact (by show okL w []; unfold okL; trivial)) (h.ok x), fun x hx k hk => (List.mem_cons.1 hx).elim (fun q => by subst q; cases (show k ∈ fpL [] from hk)) (fun q => h.own x q k hk),
    List.pairwise_cons.2 ⟨fun y _ k hk => (by cases (show k ∈ fpL [] from hk)), h.apart⟩⟩
end
section
variable {P : Program} {N : Nat} {R : Regs} {W0 : World} {F : List Nat} {L L' Lr : List Ent} {X : Act → World → Prop} {e1 e2 : Ent}
theorem g_perm (hp : L.Perm L') (h : G N R (St W0 F L') X) : G N R (St W0 F L) X := h.weaken fun _ hS => hS.perm hp
theorem g_merge (e : Ent) (hh : ∀ w, e1.holds w → e2.holds w → e.holds w) (hf : ∀ k, k ∈ e.fp → k ∈ e1.fp ∨ k ∈ e2.fp) (h : G N R (St W0 F (e :: Lr)) X) : G N R (St W0 F (e1 :: e2 :: Lr)) X := h.weaken fun w hS => hS.merge (hh w) hf
theorem g_forest0 (h : G N R (St W0 F (.forest [] :: L)) X) : G N R (St W0 F L) X := h.weaken fun _ hS => hS.nil
/-- A node above its kids. -/
theorem g_node (k : Int) (s : Nat → Int) (mi ma nu : Int) {v : Value} {n : Nat} {ms : List MT} (hn : n = ms.length) (h : G N R (St W0 F (.forest [.mk k s mi ma nu v ms] :: Lr)) X) : G N R (St W0 F (.row 28 9 v n (ms.flatMap nC) :: .forest ms :: Lr)) X := by
  subst hn
  refine g_merge (.forest [.mk k s mi ma nu v ms]) (fun w h1 h2 => ?_) (fun q hq => ?_) h
  · exact okL_cons.2 ⟨ok_mk.2 ⟨h1, h2⟩, okL_nil⟩
  · have hq' : q ∈ fpL [.mk k s mi ma nu v ms] := hq
    rw [fpL_cons, fp_mk, fpL_nil, List.append_nil] at hq'
    exact List.mem_append.1 hq'
theorem g_leaf (k : Int) (s : Nat → Int) (mi ma nu : Int) (h : G N R (St W0 F (.forest [.mk k s mi ma nu (.slice none 0 0) []] :: L)) X) : G N R (St W0 F L) X := by
  refine g_nilRow 28 9 (g_perm (L' := .row 28 9 (.slice none 0 0) 0 (([] : List MT).flatMap nC) :: L) (.refl _) ?_)
  exact g_forest0 (g_perm (.swap _ _ _) (g_node k s mi ma nu rfl h))
theorem g_kids {k : Int} {s : Nat → Int} {mi ma nu : Int} {v : Value} {kids ts : List MT} (i : Nat) (hi : L[i]? = some (.forest (.mk k s mi ma nu v kids :: ts))) (h : ∀ p c, v = .slice p kids.length c → G N R (St W0 F L) X) : G N R (St W0 F L) X := fun a w hR hS => by
  have ho : okL w (.mk k s mi ma nu v kids :: ts) := hS.get hi
  obtain ⟨_, ⟨h1, h2⟩ | ⟨g, cap, cur, h1, _⟩⟩ := (ok_mk.1 (okL_cons.1 ho).1).1
  · exact h none 0 (by rw [h1, h2]) a w hR hS
  · exact h _ cap h1 a w hR hS
theorem g_grow {a b : List MT} (h : G N R (St W0 F (.forest (a ++ b) :: Lr)) X) : G N R (St W0 F (.forest a :: .forest b :: Lr)) X :=
  g_merge (.forest (a ++ b)) (fun _ h1 h2 => (okL_append a b).2 ⟨h1, h2⟩) (fun q hq => by
    have hq' : q ∈ fpL (a ++ b) := hq
    rw [fpL_append] at hq'
    exact List.mem_append.1 hq') h
end

end Go.Proofs.Ytjdmdpjbijkjaaa

/- The parser: what it does; is, take. -/
namespace Go.Proofs.Ytjdmdpjbijkjaaa
open Go Go.RowKit

def isK (ts : List Tok) (k : Nat) (q : Int) : Bool := match ts[k]? with
  | none => false
  | some t => decide (t.k = q)
abbrev nilS : Value := .slice none 0 0
mutual
inductive RAll (ts : List Tok) : Nat → Int → Bool → MT → Nat → Int → Bool → Prop
  | one {k g b t k1 g1 b1 r k2 g2 b2} : RRow ts k g b t k1 g1 b1 → RBars ts k1 g1 b1 [t] [r] k2 g2 b2 → RAll ts k g b r k2 g2 b2
  | many {k g b t k1 g1 b1 rows v k2 g2 b2} : RRow ts k g b t k1 g1 b1 → RBars ts k1 g1 b1 [t] rows k2 g2 b2 → rows.length ≠ 1 → RAll ts k g b (.mk 3 s0 0 0 0 v rows) k2 g2 b2
inductive RBars (ts : List Tok) : Nat → Int → Bool → List MT → List MT → Nat → Int → Bool → Prop
  | stop {k g b rows} : (b = true ∨ isK ts k 3 = false) → RBars ts k g b rows rows k g b
  | more {k g t k1 g1 b1 rows rows' k2 g2 b2} : isK ts k 3 = true → RRow ts (k + 1) g false t k1 g1 b1 → RBars ts k1 g1 b1 (rows ++ [t]) rows' k2 g2 b2 → RBars ts k g false rows rows' k2 g2 b2
inductive RRow (ts : List Tok) : Nat → Int → Bool → MT → Nat → Int → Bool → Prop
  | one {k g b t k1 g1 b1} : RPcs ts k g b [] [t] k1 g1 b1 → RRow ts k g b t k1 g1 b1
  | many {k g b ms v k1 g1 b1} : RPcs ts k g b [] ms k1 g1 b1 → ms.length ≠ 1 → RRow ts k g b (.mk 2 s0 0 0 0 v ms) k1 g1 (b1 || decide (ms.length = 0))
inductive RPcs (ts : List Tok) : Nat → Int → Bool → List MT → List MT → Nat → Int → Bool → Prop
  | stop {k g b ms} : (ts.length ≤ k ∨ b = true ∨ isK ts k 3 = true ∨ isK ts k 2 = true) → RPcs ts k g b ms ms k g b
  | anchor {k g t q ms ms' k2 g2 b2} : ts[k]? = some t → (t.k = 5 ∧ q = 6 ∨ t.k = 6 ∧ q = 7) → RPcs ts (k + 1) g false (ms ++ [.mk q s0 0 0 0 nilS []]) ms' k2 g2 b2 → RPcs ts k g false ms ms' k2 g2 b2
  | piece {k g n k1 g1 b1 ms ms' k2 g2 b2} : isK ts k 3 = false → isK ts k 2 = false → RPiece ts k g n k1 g1 b1 → RPcs ts k1 g1 b1 (ms ++ [n]) ms' k2 g2 b2 → RPcs ts k g false ms ms' k2 g2 b2
inductive RPiece (ts : List Tok) : Nat → Int → MT → Nat → Int → Bool → Prop
  | plain {k g n k1 g1 b1} : RAtom ts k g n k1 g1 b1 → isK ts k1 4 = false → RPiece ts k g n k1 g1 b1
  | rep {k g n k1 g1 b1 u v} : RAtom ts k g n k1 g1 b1 → ts[k1]? = some u → u.k = 4 → RPiece ts k g (.mk 4 s0 u.mi u.ma 0 v [n]) (k1 + 1) g1 b1
inductive RAtom (ts : List Tok) : Nat → Int → MT → Nat → Int → Bool → Prop
  | set {k g t} : ts[k]? = some t → t.k = 0 → RAtom ts k g (.mk 1 t.s 0 0 0 nilS []) (k + 1) g false
  | times {k g t} : ts[k]? = some t → t.k = 4 → RAtom ts k g (.mk 0 s0 0 0 0 nilS []) (k + 1) g true
  | group {k g t n k1 g1 b1} : ts[k]? = some t → t.k ≠ 5 → t.k ≠ 6 → t.k ≠ 4 → t.k ≠ 0 → RGrp ts (k + 1) g n k1 g1 b1 → RAtom ts k g n k1 g1 b1
inductive RGrp (ts : List Tok) : Nat → Int → MT → Nat → Int → Bool → Prop
  | full {k g} : 9 < g + 1 → RGrp ts k g (.mk 5 s0 0 0 (g + 1) nilS []) k (g + 1) true
  | gone {k g t k1 g1 b1 v} : g + 1 ≤ 9 → RAll ts k (g + 1) false t k1 g1 b1 → isK ts k1 2 = false → RGrp ts k g (.mk 5 s0 0 0 (g + 1) v [t]) k1 g1 true
  | shut {k g t k1 g1 b1 v} : g + 1 ≤ 9 → RAll ts k (g + 1) false t k1 g1 b1 → isK ts k1 2 = true → RGrp ts k g (.mk 5 s0 0 0 (g + 1) v [t]) (k1 + 1) g1 b1
end
/-- Where the parser stands: token k. -/
def Pos (ts : List Tok) (k off c : Nat) : Prop := k ≤ ts.length ∧ (k < ts.length → off = k * 7) ∧ ts.length - k ≤ c
theorem fm_elem {α : Type} (f : α → List Value) (sz : Nat) (hf : ∀ a, (f a).length = sz) (l : List α) (i : Nat) (a : α) (hi : l[i]? = some a) : ((l.flatMap f).drop (i * sz)).take sz = f a := by
  induction l generalizing i with
  | nil => simp at hi
  | cons b l ih =>
    rw [List.flatMap_cons]
    cases i with
    | zero =>
      simp only [List.getElem?_cons_zero, Option.some.injEq] at hi
      subst hi
      rw [Nat.zero_mul, List.drop_zero, ← hf b, List.take_left]
    | succ i =>
      rw [List.getElem?_cons_succ] at hi
      rw [show (i + 1) * sz = (f b).length + i * sz by rw [hf, Nat.succ_mul]; omega, ← List.drop_drop, List.drop_left]
      exact ih i hi
theorem tok_at (ts : List Tok) (k : Nat) (h : k < ts.length) : ∃ t, ts[k]? = some t := ⟨ts[k], List.getElem?_eq_getElem h⟩
theorem isK_of {ts : List Tok} {k : Nat} {t : Tok} {q : Int} (h : ts[k]? = some t) : isK ts k q = decide (t.k = q) := by unfold isK; rw [h]
theorem isK_end {ts : List Tok} {k : Nat} {q : Int} (h : ts.length ≤ k) : isK ts k q = false := by unfold isK; rw [List.getElem?_eq_none h]
theorem pos_next {ts : List Tok} {k off c : Nat} (h : Pos ts k off c) (hk : k < ts.length) : Pos ts (k + 1) (if c = 1 then off else off + 7) (c - 1) := by
  obtain ⟨h1, h2, h3⟩ := h
  have := h2 hk
  refine ⟨by omega, fun h => ?_, by omega⟩
  rw [if_neg (by omega)]; omega
theorem y_lfrom {P : Program} {N : Nat} {R : Regs} {S : World → Prop} {dst : Option Tmp} {ty t e : TypeId} {pos : String} {af : Array Edge} {gd : Option (Nat × Bool)} {x : Operand} {g off n c sz : Nat} (hz : ∀ w, (sizeOf e).run P w = .ok sz w) (hx : ev R x = some (.slice (some ⟨g, off, none⟩) n c)) (ht : P.underlying t = some (.slice e)) (h1 : 1 ≤ n) (h2 : n ≤ c) :
    Yv P N R S ⟨dst, .slice t x (some (.const (.int .i64 1))) none none, ty, pos, af, gd⟩ (.slice (some ⟨g, if c = 1 then off else off + sz, none⟩) (n - 1) (c - 1)) := fun a' w hR _ => by
  have hb : (0 : Int) ≤ 1 ∧ (1 : Int) ≤ n := ⟨by decide, by exact_mod_cast h1⟩
  have hr : (Instr.sliceBound (.int .i64 1) n .sliceB).run P w = .ok 1 w := by simp [Instr.sliceBound, asIntOf, hb.2]
  have he : a'.eval (.const (.int .i64 1)) = .int .i64 1 := rfl
  by_cases hc : c = 1
  · simp [execOp, hR.eval hx, he, Instr.sliceAt, Instr.slice, Instr.sliceBounds, Sem.run_bind, run_underlying ht w, hr, hz, hc]
  · by_cases hs : sz = 0 <;> simp [execOp, hR.eval hx, he, Instr.sliceAt, Instr.slice, Instr.sliceBounds, Sem.run_bind, run_underlying ht w, hr, hz, Addr.add, hc, hs]

set_option maxRecDepth 100000 in
theorem is_any (pb gb c0 k off c : Nat) (ts : List Tok) (gv bv : Value) (q : Int) (F : List Nat) (w : World) (hpos : Pos ts k off c) (hS0 : St w F [.cells pb 60 [.slice (some ⟨gb, off, none⟩) (ts.length - k) c, gv, bv], .row 92 7 (.slice (some ⟨gb, 0, none⟩) ts.length c0) ts.length (ts.flatMap tC)] w) :
    Calls Try.prog 44 #[.pointer (some ⟨pb, 0, none⟩), .int .i64 q] w fun e w' => ∃ _ : Unit, e = .returned (.bool (isK ts k q)) ∧ St w F [.cells pb 60 [.slice (some ⟨gb, off, none⟩) (ts.length - k) c, gv, bv], .row 92 7 (.slice (some ⟨gb, 0, none⟩) ts.length c0) ts.length (ts.flatMap tC)] w' := by
 refine fn_intro_own Try.func44 rfl Try.ntmps44 rfl rfl hS0 ?_
 refine s_ (o_ ?_)
 refine xg 1 [] rfl rfl ?_
 refine ntso_ ?_
 refine xg 7 [0,0] rfl (by omega) ?_
 refine g_casep 11 rfl (fun h1 => ?_) fun h1 => ?_
 ·refine xg 4 [0] rfl (by omega) ?_
  obtain ⟨tk, htk⟩ := tok_at ts k (by omega)
  have hoff := hpos.2.1 (by omega)
  refine g_val rfl rfl rfl (y_idxAddr (m := k * 7 + 0) rfl rfl Try.underlying55 Try.sizeOf92 (by omega) (by omega) (by omega)) ?_
  refine xg 1 [] rfl rfl ?_
  refine g_val rfl rfl rfl (y_ldR (u := .int .i64 tk.k) 1 rfl Try.isAgg3 rfl ((fm_get tC 7 tC_len _ k 0 _ (htk) (by decide)).trans rfl)) ?_
  refine xg 4 [0] rfl rfl ?_
  refine n_ (t_ (g_ret ?_))
  refine g_end1 Try.results44 rfl ?_
  exact fun w hS => ⟨(), ret_bool (isK_of htk).symm, hS.pick [0,0] rfl⟩
 refine xg 11 [] rfl rfl ?_
 refine n_ (t_ (g_ret ?_))
 refine g_end1 Try.results44 rfl ?_
 exact fun w hS => ⟨(), ret_bool (isK_end (by omega)).symm, hS.pick [0,0] rfl⟩

set_option maxRecDepth 100000 in
theorem take_any (pb gb c0 k off c : Nat) (ts : List Tok) (gv bv : Value) (hk : k < ts.length) (F : List Nat) (w : World) (hpos : Pos ts k off c) (hS0 : St w F [.cells pb 60 [.slice (some ⟨gb, off, none⟩) (ts.length - k) c, gv, bv], .row 92 7 (.slice (some ⟨gb, 0, none⟩) ts.length c0) ts.length (ts.flatMap tC)] w) :
    Calls Try.prog 45 #[.pointer (some ⟨pb, 0, none⟩)] w fun e w' => ∃ x : {x : Tok × Nat × Nat // ts[k]? = some x.1 ∧ Pos ts (k + 1) x.2.1 x.2.2}, e = .returned (.agg (tC x.1.1).toArray) ∧ St w F [.cells pb 60 [.slice (some ⟨gb, x.1.2.1, none⟩) (ts.length - (k + 1)) x.1.2.2, gv, bv], .row 92 7 (.slice (some ⟨gb, 0, none⟩) ts.length c0) ts.length (ts.flatMap tC)] w' := by
 refine fn_intro_own Try.func45 rfl Try.ntmps45 rfl rfl hS0 ?_
 refine s_ (o_ ?_)
 refine g_alloc rfl rfl Try.zeroValue92 rfl (fun b1 => ?_)
 refine ntso_ ?_
 refine xg 4 [1] rfl (by omega) ?_
 obtain ⟨tk, htk⟩ := tok_at ts k (by omega)
 have hoff := hpos.2.1 (by omega)
 refine g_val rfl rfl rfl (y_idxAddr (m := k * 7 + 0) rfl rfl Try.underlying55 Try.sizeOf92 (by omega) (by omega) (by omega)) ?_
 refine g_val rfl rfl rfl (y_ldRN (k := 7) (vs := tC tk) 2 rfl Try.isAgg92 Try.sizeOf92 rfl (fm_elem tC 7 tC_len _ k _ (htk)) (tC_len _)) ?_
 refine g_alloc rfl rfl Try.zeroValue92 rfl (fun b2 => ?_)
 refine xg 1 [0] rfl (by omega) ?_
 refine ntso_ ?_
 refine xg 5 [2] rfl (by omega) ?_
 refine g_val rfl rfl rfl (y_lfrom Try.sizeOf92 rfl Try.underlying55 (by omega) (by have := hpos.2.2; omega)) ?_
 refine xg 3 [2] rfl (by omega) ?_
 refine ntso_ ?_
 refine xg 2 [0,1] rfl (by omega) ?_
 refine n_ (t_ (g_ret ?_))
 refine g_end_cell 1 Try.results45 rfl rfl Try.isAgg92 Try.sizeOf92 rfl ?_
 exact fun w hS => ⟨⟨(tk, if c = 1 then off else off + 7, c - 1), htk, pos_next hpos hk⟩, rfl, by have := hS.pick [2,2] rfl; exact this⟩

end Go.Proofs.Ytjdmdpjbijkjaaa

/- The parser: group, row, all. -/
namespace Go.Proofs.Ytjdmdpjbijkjaaa
open Go Go.RowKit

structure PX where
  t : MT
  k : Nat
  g : Int
  b : Bool
  off : Nat
  c : Nat
def GB (g : Int) (b : Bool) : Prop := 0 ≤ g ∧ g ≤ 10 ∧ (b = false → g ≤ 9)
theorem isK_lt {ts : List Tok} {k : Nat} {q : Int} (h : isK ts k q = true) : k < ts.length := by
  unfold isK at h
  split at h
  · cases h
  · rename_i t ht; exact (List.getElem?_eq_some_iff.1 ht).1
theorem isK_tok {ts : List Tok} {k : Nat} {q : Int} {t : Tok} (h : isK ts k q = true) (ht : ts[k]? = some t) : t.k = q := by
  rw [isK_of ht] at h; exact of_decide_eq_true h
def PEnt (pb gb : Nat) (ts : List Tok) (k : Nat) (g : Int) (b : Bool) (off c : Nat) : Ent := .cells pb 60 [.slice (some ⟨gb, off, none⟩) (ts.length - k) c, .int .i64 g, .bool b]
def TEnt (gb c0 : Nat) (ts : List Tok) : Ent := .row 92 7 (.slice (some ⟨gb, 0, none⟩) ts.length c0) ts.length (ts.flatMap tC)
/-- What a method of the parser promises: R tells what it does. -/
def Meth (f : FuncId) (R : List Tok → Nat → Int → Bool → MT → Nat → Int → Bool → Prop) (B : Bool → Prop) (m : Nat) : Prop :=
  ∀ (pb gb c0 k off c : Nat) (ts : List Tok) (g : Int) (b : Bool) (F : List Nat) (w : World), B b → Pos ts k off c → GB g b → ts.length ≤ 900 → ts.length - k < m → St w F [PEnt pb gb ts k g b off c, TEnt gb c0 ts] w →
    Calls Try.prog f #[.pointer (some ⟨pb, 0, none⟩)] w fun e w' => ∃ x : {x : PX // R ts k g b x.t x.k x.g x.b ∧ Pos ts x.k x.off x.c ∧ GB x.g x.b ∧ k ≤ x.k}, e = .returned (.agg (nC x.1.t).toArray) ∧ St w F [PEnt pb gb ts x.1.k x.1.g x.1.b x.1.off x.1.c, TEnt gb c0 ts, .forest [x.1.t]] w'

theorem g_rowOf {N : Nat} {R : Regs} {W0 : World} {F : List Nat} {L : List Ent} {X : Act → World → Prop} {e : TypeId} {α : Type} (f : α → List Value) {size b n : Nat} {cs : List Value} (l : List α) (i : Nat) (hi : L[i]? = some (.cells b e cs)) (hcs : cs = l.flatMap f) (hf : ∀ a, (f a).length = size) (hn : l.length = n) (hm : n ≤ maxLen)
    (h : G N R (St W0 F (L.set i (.row e size (.slice (some ⟨b, 0, none⟩) n n) n (l.flatMap f)))) X) : G N R (St W0 F L) X :=
  g_turn i hi (fun w h => by
    have h' : w.heap[b]? = some (.cells cs.toArray e (0, 0)) := h
    rw [hcs] at h'
    exact row_of_cells h' (by rw [fm_len f size hf, hn]) hm) (fun k hk => by simpa [Ent.fp, Value.ownBlock] using hk) h

set_option maxRecDepth 100000 in
theorem grp_step (m : Nat) (hall : Meth 21 RAll (fun _ => True) m) : Meth 70 (fun ts k g _ t k' g' b' => RGrp ts k g t k' g' b') (fun b => b = false) m := by
 intro pb gb c0 k off c ts g b F w hb hpos hgb hts hm hS0
 subst hb
 have hg0 := hgb.1
 have hg1 := hgb.2.1
 refine fn_intro_own Try.func70 rfl Try.ntmps70 rfl rfl hS0 ?_
 refine s_ (o_ ?_)
 refine g_alloc rfl rfl Try.zeroValue28 rfl (fun b1 => ?_)
 refine ntso_ ?_
 refine xg 7 [1] rfl (by omega) ?_
 refine g_st 1 rfl rfl rfl Try.sizeOf3 rfl rfl rfl ?_
 simp only [List.set_cons_zero, List.set_cons_succ]
 refine ntso_ ?_
 refine xg 5 [1] rfl (by omega) ?_
 refine g_alloc rfl rfl Try.zeroValue28 rfl (fun b2 => ?_)
 refine xg 1 [0] rfl (by omega) ?_
 refine n_ (t_ (s_ (s_ ?_)))
 by_cases h9 : 9 < g + 1
 ·refine o_ ?_
  refine xg 5 [2] rfl (by omega) ?_
  refine g_lit 20 false rfl (rfl) ?_
  refine xg 6 [2,0] rfl (by omega) ?_
  refine g_lit 26 true rfl (decide_eq_true h9) ?_
  refine xg 3 [] rfl rfl ?_
  refine g_st 2 rfl rfl rfl Try.sizeOf4 rfl rfl rfl ?_
  simp only [List.set_cons_zero, List.set_cons_succ]
  refine ntso_ ?_
  refine xg 4 [2] rfl (by omega) ?_
  refine g_lit 33 true rfl (rfl) ?_
  refine n_ (t_ (g_cond_t rfl (s_ ?_)))
  refine g_leaf 5 s0 0 0 (g + 1) ?_
  refine g_perm (.trans (.cons _ (.cons _ (.swap _ _ _))) (.trans (.cons _ (.swap _ _ _)) (.trans (.swap _ _ _) (.trans (.cons _ (.cons _ (.cons _ (.swap _ _ _)))) (.trans (.cons _ (.cons _ (.swap _ _ _))) (.cons _ (.swap _ _ _))))))) ?_
  refine o_ ?_
  refine xg 2 [3,4] rfl (by omega) ?_
  refine n_ (t_ (g_ret (g_then_ret ?_)))
  refine g_end_cell 4 Try.results70 rfl rfl Try.isAgg28 Try.sizeOf28 rfl ?_
  exact fun w hS => ⟨⟨⟨.mk 5 s0 0 0 (g + 1) nilS [], k, g + 1, true, off, c⟩, .full h9, hpos, ⟨by dsimp only; omega, by have := hgb.2.2 rfl; dsimp only; omega, fun h => by cases h⟩, Nat.le_refl _⟩, rfl, hS.pick [0,0,0] rfl⟩
 have hgb1 : GB (g + 1) false := ⟨by have := hgb.1; omega, by omega, fun _ => by omega⟩
 refine o_ ?_
 refine xg 5 [2] rfl (by omega) ?_
 refine g_lit 20 false rfl (rfl) ?_
 refine xg 6 [2,0] rfl (by omega) ?_
 refine g_lit 26 false rfl (decide_eq_false h9) ?_
 refine xg 3 [] rfl rfl ?_
 refine g_st 2 rfl rfl rfl Try.sizeOf4 rfl rfl rfl ?_
 simp only [List.set_cons_zero, List.set_cons_succ]
 refine ntso_ ?_
 refine xg 4 [2] rfl (by omega) ?_
 refine g_lit 33 false rfl (rfl) ?_
 refine n_ (t_ (g_cond_f rfl (g_skip (t_ (s_ (o_ ?_))))))
 refine xg 1 [] rfl rfl ?_
 refine g_perm (.trans (.cons _ (.swap _ _ _)) (.trans (.swap _ _ _) (.trans (.cons _ (.cons _ (.swap _ _ _))) (.cons _ (.swap _ _ _))))) ?_
 refine g_callOwn (L0 := [.cells pb 60 [.slice (some ⟨gb, off, none⟩) (ts.length - k) c, .int .i64 (g + 1), .bool false], .row 92 7 (.slice (some ⟨gb, 0, none⟩) ts.length c0) ts.length (ts.flatMap tC)]) (fun x : {x : PX // RAll ts k (g + 1) false x.t x.k x.g x.b ∧ Pos ts x.k x.off x.c ∧ GB x.g x.b ∧ k ≤ x.k} => .agg (nC x.1.t).toArray) (fun x => [PEnt pb gb ts x.1.k x.1.g x.1.b x.1.off x.1.c, TEnt gb c0 ts, .forest [x.1.t]]) rfl rfl rfl Try.call21 (fun w hS => hall pb gb c0 k off c ts (g + 1) false _ w (by first | trivial | rfl) hpos hgb1 hts (by omega) hS.part) ?_
 rintro ⟨⟨⟨nk_a, ns_a, nm_a, nx_a, nu_a, nv_a, nq_a⟩, k_a, g_a, b_a, off_a, c_a⟩, hr_a, hpos_a, hgb_a, hk_a⟩
 dsimp only at hr_a hpos_a hgb_a hk_a
 simp only [List.cons_append, List.nil_append]
 refine g_kids 2 rfl (fun pv_a cv_a hv_a => ?_)
 cases hv_a
 refine g_buildSlice (offs := [0]) rfl rfl Try.underlying26 rfl Try.zeroValue28 (by kernel_rfl) (fun b3 => ?_)
 refine xg 1 [] rfl rfl ?_
 refine g_st 4 rfl rfl rfl Try.sizeOf26 rfl rfl rfl ?_
 simp only [List.set_cons_zero, List.set_cons_succ]
 refine g_rowOf (n := 1) nC [(.mk nk_a ns_a nm_a nx_a nu_a (.slice pv_a nq_a.length cv_a) nq_a)] 0 rfl rfl nC_len rfl (by decide) ?_
 simp only [List.set_cons_zero]
 refine g_perm (.trans (.cons _ (.cons _ (.swap _ _ _))) (.cons _ (.swap _ _ _))) ?_
 refine g_node 5 s0 0 0 (g + 1) rfl ?_
 refine n_ (t_ (s_ (s_ (o_ ?_))))
 refine xg 1 [] rfl rfl ?_
 refine g_perm (.trans (.swap _ _ _) (.cons _ (.swap _ _ _))) ?_
 refine g_callOwn (L0 := [.cells pb 60 [.slice (some ⟨gb, off_a, none⟩) (ts.length - k_a) c_a, .int .i64 g_a, .bool b_a], .row 92 7 (.slice (some ⟨gb, 0, none⟩) ts.length c0) ts.length (ts.flatMap tC)]) (fun _ : Unit => .bool (isK ts k_a 2)) (fun _ => [.cells pb 60 [.slice (some ⟨gb, off_a, none⟩) (ts.length - k_a) c_a, .int .i64 g_a, .bool b_a], .row 92 7 (.slice (some ⟨gb, 0, none⟩) ts.length c0) ts.length (ts.flatMap tC)]) rfl rfl rfl Try.call44 (fun w hS => is_any pb gb c0 k_a off_a c_a ts _ _ 2 _ w hpos_a hS.part) (fun _ => ?_)
 simp only [List.cons_append, List.nil_append]
 refine xg 1 [] rfl rfl ?_
 refine n_ (t_ ?_)
 first | refine g_casep 41 rfl (fun h1 => ?_) fun h1 => ?_ | refine g_caseb 41 rfl (fun h1 => ?_) fun h1 => ?_
 ·refine g_cond_t rfl (s_ (o_ ?_))
  refine xg 3 [] rfl rfl ?_
  refine g_st 0 rfl rfl rfl Try.sizeOf4 rfl rfl rfl ?_
  simp only [List.set_cons_zero]
  refine ntso_ ?_
  refine xg 2 [3,4] rfl (by omega) ?_
  refine n_ (t_ (g_ret (g_then_ret ?_)))
  refine g_end_cell 4 Try.results70 rfl rfl Try.isAgg28 Try.sizeOf28 rfl ?_
  exact fun w hS => ⟨⟨⟨.mk 5 s0 0 0 (g + 1) _ [(.mk nk_a ns_a nm_a nx_a nu_a (.slice pv_a nq_a.length cv_a) nq_a)], k_a, g_a, true, off_a, c_a⟩, .gone (by omega) hr_a (by simpa using ‹(!isK ts k_a 2) = true›), hpos_a, ⟨hgb_a.1, hgb_a.2.1, fun h => by cases h⟩, hk_a⟩, rfl, hS.pick [0,0,0] rfl⟩
 refine g_cond_f rfl (g_skip (t_ (s_ ?_)))
 have hk2 : isK ts k_a 2 = true := by simpa using ‹(!isK ts k_a 2) = false›
 refine o_ ?_
 refine xg 1 [] rfl rfl ?_
 refine g_callOwn (L0 := [.cells pb 60 [.slice (some ⟨gb, off_a, none⟩) (ts.length - k_a) c_a, .int .i64 g_a, .bool b_a], .row 92 7 (.slice (some ⟨gb, 0, none⟩) ts.length c0) ts.length (ts.flatMap tC)]) (fun x : {x : Tok × Nat × Nat // ts[k_a]? = some x.1 ∧ Pos ts (k_a + 1) x.2.1 x.2.2} => .agg (tC x.1.1).toArray) (fun x => [.cells pb 60 [.slice (some ⟨gb, x.1.2.1, none⟩) (ts.length - (k_a + 1)) x.1.2.2, .int .i64 g_a, .bool b_a], .row 92 7 (.slice (some ⟨gb, 0, none⟩) ts.length c0) ts.length (ts.flatMap tC)]) rfl rfl rfl Try.call45 (fun w hS => take_any pb gb c0 k_a off_a c_a ts _ _ (by first | omega | exact isK_lt (by assumption)) _ w hpos_a hS.part) ?_
 rintro ⟨⟨t_t, off_t, c_t⟩, ht_t, hpos_t⟩
 dsimp only at ht_t hpos_t
 simp only [List.cons_append, List.nil_append]
 refine ntso_ ?_
 refine xg 2 [3,4] rfl (by omega) ?_
 refine n_ (t_ (g_ret ?_))
 refine g_end_cell 4 Try.results70 rfl rfl Try.isAgg28 Try.sizeOf28 rfl ?_
 exact fun w hS => ⟨⟨⟨.mk 5 s0 0 0 (g + 1) _ [(.mk nk_a ns_a nm_a nx_a nu_a (.slice pv_a nq_a.length cv_a) nq_a)], k_a + 1, g_a, b_a, off_t, c_t⟩, .shut (by omega) hr_a hk2, hpos_t, hgb_a, by dsimp only; omega⟩, rfl, hS.pick [0,0,0] rfl⟩

end Go.Proofs.Ytjdmdpjbijkjaaa

/- The parser: row. -/
namespace Go.Proofs.Ytjdmdpjbijkjaaa
open Go Go.RowKit

set_option maxRecDepth 100000 in
theorem row_step (m : Nat) (hgrp : Meth 70 (fun ts k g _ t k' g' b' => RGrp ts k g t k' g' b') (fun b => b = false) m) : Meth 43 RRow (fun _ => True) (m + 1) := by
 intro pb gb c0 k off c ts g b F w hb hpos hgb hts hm hS0
 refine fn_intro_own Try.func43 rfl Try.ntmps43 rfl rfl hS0 ?_
 refine s_ (o_ ?_)
 refine g_alloc rfl rfl Try.zeroValue28 rfl (fun b1 => ?_)
 refine n_ (t_ (s_ ?_))
 refine g_forest0 ?_
 refine o_ ?_
 refine g_nilRow 28 9 ?_
 refine g_val rfl rfl rfl (y_assign rfl) ?_
 refine n_ (t_ (s_ (g_block ?_)))
 refine g_loop (α := {x : Nat × Int × Bool × Nat × Nat × Value × List MT // Pos ts x.1 x.2.2.2.1 x.2.2.2.2.1 ∧ GB x.2.1 x.2.2.1 ∧ k ≤ x.1 ∧ x.2.2.2.2.2.2.length ≤ x.1 ∧ ∀ ms' k2 g2 b2, RPcs ts x.1 x.2.1 x.2.2.1 x.2.2.2.2.2.2 ms' k2 g2 b2 → RPcs ts k g b [] ms' k2 g2 b2}) (fun x => [(0, .pointer (some ⟨pb, 0, none⟩)), (2, .pointer (some ⟨b1, 0, none⟩)), (3, x.1.2.2.2.2.2.1)]) (fun x => St w F [.row 28 9 x.1.2.2.2.2.2.1 x.1.2.2.2.2.2.2.length (x.1.2.2.2.2.2.2.flatMap nC), .forest x.1.2.2.2.2.2.2, .cells b1 28 (nC (.mk 0 s0 0 0 0 nilS [])), .cells pb 60 [.slice (some ⟨gb, x.1.2.2.2.1, none⟩) (ts.length - x.1.1) x.1.2.2.2.2.1, .int .i64 x.1.2.1, .bool x.1.2.2.1], .row 92 7 (.slice (some ⟨gb, 0, none⟩) ts.length c0) ts.length (ts.flatMap tC)]) (fun x => ts.length - x.1.1) ⟨(k, g, b, off, c, .slice none 0 0, []), hpos, hgb, Nat.le_refl _, Nat.zero_le _, fun _ _ _ _ h => h⟩ [0, 2, 3] rfl (fun w h => h.pick [0,0,0,0,0] rfl) ?_
 rintro ⟨⟨k1, g1, b1, off1, c1, v, ms⟩, hx⟩
 dsimp only
 dsimp only at hx
 obtain ⟨hpos1, hgb1, hk01, hml, hR⟩ := hx
 have hkl := hpos1.1
 refine s_ (s_ (o_ ?_))
 refine xg 7 [3,0] rfl (by omega) ?_
 refine g_casep 13 rfl (fun h1 => ?_) fun h1 => ?_
 ·refine xg 7 [3] rfl (by omega) ?_
  first | refine g_casep 20 rfl (fun h2 => ?_) fun h2 => ?_ | refine g_caseb 20 rfl (fun h2 => ?_) fun h2 => ?_
  ·refine xg 1 [] rfl rfl ?_
   refine g_perm (.trans (.cons _ (.cons _ (.swap _ _ _))) (.trans (.cons _ (.swap _ _ _)) (.trans (.swap _ _ _) (.trans (.cons _ (.cons _ (.cons _ (.swap _ _ _)))) (.trans (.cons _ (.cons _ (.swap _ _ _))) (.cons _ (.swap _ _ _))))))) ?_
   refine g_callOwn (L0 := [.cells pb 60 [.slice (some ⟨gb, off1, none⟩) (ts.length - k1) c1, .int .i64 g1, .bool b1], .row 92 7 (.slice (some ⟨gb, 0, none⟩) ts.length c0) ts.length (ts.flatMap tC)]) (fun _ : Unit => .bool (isK ts k1 3)) (fun _ => [.cells pb 60 [.slice (some ⟨gb, off1, none⟩) (ts.length - k1) c1, .int .i64 g1, .bool b1], .row 92 7 (.slice (some ⟨gb, 0, none⟩) ts.length c0) ts.length (ts.flatMap tC)]) rfl rfl rfl Try.call44 (fun w hS => is_any pb gb c0 k1 off1 c1 ts _ _ 3 _ w hpos1 hS.part) (fun _ => ?_)
   simp only [List.cons_append, List.nil_append]
   refine xg 3 [] rfl rfl ?_
   first | refine g_casep 25 rfl (fun h3 => ?_) fun h3 => ?_ | refine g_caseb 25 rfl (fun h3 => ?_) fun h3 => ?_
   ·refine xg 1 [] rfl rfl ?_
    refine g_callOwn (L0 := [.cells pb 60 [.slice (some ⟨gb, off1, none⟩) (ts.length - k1) c1, .int .i64 g1, .bool b1], .row 92 7 (.slice (some ⟨gb, 0, none⟩) ts.length c0) ts.length (ts.flatMap tC)]) (fun _ : Unit => .bool (isK ts k1 2)) (fun _ => [.cells pb 60 [.slice (some ⟨gb, off1, none⟩) (ts.length - k1) c1, .int .i64 g1, .bool b1], .row 92 7 (.slice (some ⟨gb, 0, none⟩) ts.length c0) ts.length (ts.flatMap tC)]) rfl rfl rfl Try.call44 (fun w hS => is_any pb gb c0 k1 off1 c1 ts _ _ 2 _ w hpos1 hS.part) (fun _ => ?_)
    simp only [List.cons_append, List.nil_append]
    refine xg 2 [] rfl rfl ?_
    refine n_ (t_ ?_)
    first | refine g_casep 29 rfl (fun h4 => ?_) fun h4 => ?_ | refine g_caseb 29 rfl (fun h4 => ?_) fun h4 => ?_
    ·refine g_cond_t rfl (g_skip (t_ (g_block (s_ ?_))))
     obtain rfl : b1 = false := by simpa using ‹(!b1) = true›
     have hk1 : k1 < ts.length := by omega
     have h3 : isK ts k1 3 = false := by simpa using ‹(!isK ts k1 3) = true›
     have h2 : isK ts k1 2 = false := by simpa using ‹(!isK ts k1 2) = true›
     refine o_ ?_
     refine g_alloc rfl rfl Try.zeroValue28 rfl (fun b2 => ?_)
     refine n_ (t_ (s_ (s_ (o_ ?_))))
     refine xg 1 [] rfl rfl ?_
     refine g_perm (.trans (.swap _ _ _) (.cons _ (.swap _ _ _))) ?_
     refine g_callOwn (L0 := [.cells pb 60 [.slice (some ⟨gb, off1, none⟩) (ts.length - k1) c1, .int .i64 g1, .bool false], .row 92 7 (.slice (some ⟨gb, 0, none⟩) ts.length c0) ts.length (ts.flatMap tC)]) (fun x : {x : Tok × Nat × Nat // ts[k1]? = some x.1 ∧ Pos ts (k1 + 1) x.2.1 x.2.2} => .agg (tC x.1.1).toArray) (fun x => [.cells pb 60 [.slice (some ⟨gb, x.1.2.1, none⟩) (ts.length - (k1 + 1)) x.1.2.2, .int .i64 g1, .bool false], .row 92 7 (.slice (some ⟨gb, 0, none⟩) ts.length c0) ts.length (ts.flatMap tC)]) rfl rfl rfl Try.call45 (fun w hS => take_any pb gb c0 k1 off1 c1 ts _ _ (by first | omega | exact isK_lt (by assumption)) _ w hpos1 hS.part) ?_
     rintro ⟨⟨t_t, off_t, c_t⟩, ht_t, hpos_t⟩
     dsimp only at ht_t hpos_t
     simp only [List.cons_append, List.nil_append]
     refine g_alloc rfl rfl Try.zeroValue92 rfl (fun b3 => ?_)
     refine xg 1 [0] rfl (by omega) ?_
     refine ntso_ ?_
     refine xg 2 [0] rfl (by omega) ?_
     refine n_ (t_ (g_block (s_ (o_ ?_))))
     refine xg 2 [0] rfl rfl ?_
     refine n_ (t_ ?_)
     refine g_casep 36 rfl (fun h5 => ?_) fun h5 => ?_
     ·refine g_cond_t rfl (s_ (o_ ?_))
      refine xg 2 [] rfl rfl ?_
      refine g_buildSlice (offs := [0]) rfl rfl Try.underlying26 rfl Try.zeroValue28 (by kernel_rfl) (fun b4 => ?_)
      refine g_appS (bytes := 88) nC ((.mk 6 s0 0 0 0 nilS [])) 5 (j := 0) rfl rfl rfl rfl Try.underlying26 (by kernel_rfl) rfl rfl nC_len rfl (by omega) (by have : maxLen = 9223372036854775807 := rfl; omega) (fun v5 => ?_)
      simp only [List.set_cons_zero, List.set_cons_succ]
      refine xg 1 [] rfl rfl ?_
      refine n_ (t_ (g_exit (g_in_exit_ne rfl (g_then_exit (g_in_exit ?_)))))
      refine g_leaf 6 s0 0 0 0 ?_
      refine g_perm (.trans (.cons _ (.cons _ (.cons _ (.cons _ (.cons _ (.cons _ (.swap _ _ _))))))) (.trans (.cons _ (.cons _ (.cons _ (.cons _ (.cons _ (.swap _ _ _)))))) (.trans (.cons _ (.cons _ (.cons _ (.cons _ (.swap _ _ _))))) (.trans (.cons _ (.cons _ (.cons _ (.swap _ _ _)))) (.trans (.cons _ (.cons _ (.swap _ _ _))) (.trans (.cons _ (.swap _ _ _)) (.swap _ _ _))))))) ?_
      refine g_grow ?_
      refine g_perm (.trans (.cons _ (.cons _ (.cons _ (.cons _ (.cons _ (.swap _ _ _)))))) (.trans (.cons _ (.cons _ (.cons _ (.cons _ (.swap _ _ _))))) (.trans (.cons _ (.cons _ (.cons _ (.swap _ _ _)))) (.trans (.cons _ (.cons _ (.swap _ _ _))) (.trans (.cons _ (.swap _ _ _)) (.trans (.swap _ _ _) (.trans (.cons _ (.cons _ (.cons _ (.cons _ (.cons _ (.cons _ (.swap _ _ _))))))) (.trans (.cons _ (.cons _ (.cons _ (.cons _ (.cons _ (.swap _ _ _)))))) (.trans (.cons _ (.cons _ (.cons _ (.cons _ (.swap _ _ _))))) (.trans (.cons _ (.cons _ (.cons _ (.swap _ _ _)))) (.trans (.cons _ (.cons _ (.swap _ _ _))) (.trans (.cons _ (.cons _ (.cons _ (.cons _ (.swap _ _ _))))) (.trans (.cons _ (.cons _ (.cons _ (.swap _ _ _)))) (.trans (.cons _ (.cons _ (.cons _ (.cons _ (.cons _ (.swap _ _ _)))))) (.cons _ (.cons _ (.cons _ (.cons _ (.swap _ _ _))))))))))))))))))) ?_
      exact g_again ⟨((k1 + 1), g1, false, off_t, c_t, _, ms ++ [(.mk 6 s0 0 0 0 nilS [])]), hpos_t, hgb1, by dsimp only; omega, by dsimp only; rw [List.length_append, List.length_singleton]; omega, fun _ _ _ _ h => hR _ _ _ _ (.anchor ht_t (by omega) h)⟩ [0, 2, 3] (by dsimp only; omega) rfl (fun w h => h.pick [0,0,0,0,0] rfl)
     refine g_cond_f rfl (s_ (o_ ?_))
     refine xg 2 [0] rfl rfl ?_
     refine n_ (t_ ?_)
     refine g_casep 42 rfl (fun h6 => ?_) fun h6 => ?_
     ·refine g_cond_t rfl (s_ (o_ ?_))
      refine xg 2 [] rfl rfl ?_
      refine g_buildSlice (offs := [0]) rfl rfl Try.underlying26 rfl Try.zeroValue28 (by kernel_rfl) (fun b6 => ?_)
      refine g_appS (bytes := 88) nC ((.mk 7 s0 0 0 0 nilS [])) 5 (j := 0) rfl rfl rfl rfl Try.underlying26 (by kernel_rfl) rfl rfl nC_len rfl (by omega) (by have : maxLen = 9223372036854775807 := rfl; omega) (fun v7 => ?_)
      simp only [List.set_cons_zero, List.set_cons_succ]
      refine xg 1 [] rfl rfl ?_
      refine n_ (t_ (g_exit (g_in_exit_ne rfl (g_then_exit (g_in_exit ?_)))))
      refine g_leaf 7 s0 0 0 0 ?_
      refine g_perm (.trans (.cons _ (.cons _ (.cons _ (.cons _ (.cons _ (.cons _ (.swap _ _ _))))))) (.trans (.cons _ (.cons _ (.cons _ (.cons _ (.cons _ (.swap _ _ _)))))) (.trans (.cons _ (.cons _ (.cons _ (.cons _ (.swap _ _ _))))) (.trans (.cons _ (.cons _ (.cons _ (.swap _ _ _)))) (.trans (.cons _ (.cons _ (.swap _ _ _))) (.trans (.cons _ (.swap _ _ _)) (.swap _ _ _))))))) ?_
      refine g_grow ?_
      refine g_perm (.trans (.cons _ (.cons _ (.cons _ (.cons _ (.cons _ (.swap _ _ _)))))) (.trans (.cons _ (.cons _ (.cons _ (.cons _ (.swap _ _ _))))) (.trans (.cons _ (.cons _ (.cons _ (.swap _ _ _)))) (.trans (.cons _ (.cons _ (.swap _ _ _))) (.trans (.cons _ (.swap _ _ _)) (.trans (.swap _ _ _) (.trans (.cons _ (.cons _ (.cons _ (.cons _ (.cons _ (.cons _ (.swap _ _ _))))))) (.trans (.cons _ (.cons _ (.cons _ (.cons _ (.cons _ (.swap _ _ _)))))) (.trans (.cons _ (.cons _ (.cons _ (.cons _ (.swap _ _ _))))) (.trans (.cons _ (.cons _ (.cons _ (.swap _ _ _)))) (.trans (.cons _ (.cons _ (.swap _ _ _))) (.trans (.cons _ (.cons _ (.cons _ (.cons _ (.swap _ _ _))))) (.trans (.cons _ (.cons _ (.cons _ (.swap _ _ _)))) (.trans (.cons _ (.cons _ (.cons _ (.cons _ (.cons _ (.swap _ _ _)))))) (.cons _ (.cons _ (.cons _ (.cons _ (.swap _ _ _))))))))))))))))))) ?_
      exact g_again ⟨((k1 + 1), g1, false, off_t, c_t, _, ms ++ [(.mk 7 s0 0 0 0 nilS [])]), hpos_t, hgb1, by dsimp only; omega, by dsimp only; rw [List.length_append, List.length_singleton]; omega, fun _ _ _ _ h => hR _ _ _ _ (.anchor ht_t (by omega) h)⟩ [0, 2, 3] (by dsimp only; omega) rfl (fun w h => h.pick [0,0,0,0,0] rfl)
     refine g_cond_f rfl (s_ (o_ ?_))
     refine xg 2 [0] rfl rfl ?_
     refine n_ (t_ ?_)
     refine g_casep 48 rfl (fun h7 => ?_) fun h7 => ?_
     ·refine g_cond_t rfl (o_ ?_)
      refine xg 3 [] rfl rfl ?_
      refine g_st 1 rfl rfl rfl Try.sizeOf4 rfl rfl rfl ?_
      simp only [List.set_cons_zero, List.set_cons_succ]
      refine n_ (g_in_normal (t_ (s_ (s_ ?_))))
      refine g_leaf 0 s0 0 0 0 ?_
      refine o_ ?_
      refine xg 1 [] rfl rfl ?_
      refine g_perm (.trans (.cons _ (.swap _ _ _)) (.trans (.swap _ _ _) (.trans (.cons _ (.cons _ (.swap _ _ _))) (.cons _ (.swap _ _ _))))) ?_
      refine g_callOwn (L0 := [.cells pb 60 [.slice (some ⟨gb, off_t, none⟩) (ts.length - (k1 + 1)) c_t, .int .i64 g1, .bool true], .row 92 7 (.slice (some ⟨gb, 0, none⟩) ts.length c0) ts.length (ts.flatMap tC)]) (fun _ : Unit => .bool (isK ts (k1 + 1) 4)) (fun _ => [.cells pb 60 [.slice (some ⟨gb, off_t, none⟩) (ts.length - (k1 + 1)) c_t, .int .i64 g1, .bool true], .row 92 7 (.slice (some ⟨gb, 0, none⟩) ts.length c0) ts.length (ts.flatMap tC)]) rfl rfl rfl Try.call44 (fun w hS => is_any pb gb c0 (k1 + 1) off_t c_t ts _ _ 4 _ w hpos_t hS.part) (fun _ => ?_)
      simp only [List.cons_append, List.nil_append]
      refine n_ (t_ ?_)
      first | refine g_casep 59 rfl (fun h8 => ?_) fun h8 => ?_ | refine g_caseb 59 rfl (fun h8 => ?_) fun h8 => ?_
      ·refine g_cond_t rfl (s_ (o_ ?_))
       refine xg 1 [] rfl rfl ?_
       refine g_callOwn (L0 := [.cells pb 60 [.slice (some ⟨gb, off_t, none⟩) (ts.length - (k1 + 1)) c_t, .int .i64 g1, .bool true], .row 92 7 (.slice (some ⟨gb, 0, none⟩) ts.length c0) ts.length (ts.flatMap tC)]) (fun x : {x : Tok × Nat × Nat // ts[(k1 + 1)]? = some x.1 ∧ Pos ts ((k1 + 1) + 1) x.2.1 x.2.2} => .agg (tC x.1.1).toArray) (fun x => [.cells pb 60 [.slice (some ⟨gb, x.1.2.1, none⟩) (ts.length - ((k1 + 1) + 1)) x.1.2.2, .int .i64 g1, .bool true], .row 92 7 (.slice (some ⟨gb, 0, none⟩) ts.length c0) ts.length (ts.flatMap tC)]) rfl rfl rfl Try.call45 (fun w hS => take_any pb gb c0 (k1 + 1) off_t c_t ts _ _ (by first | omega | exact isK_lt (by assumption)) _ w hpos_t hS.part) ?_
       rintro ⟨⟨t_u, off_u, c_u⟩, ht_u, hpos_u⟩
       dsimp only at ht_u hpos_u
       simp only [List.cons_append, List.nil_append]
       refine g_alloc rfl rfl Try.zeroValue92 rfl (fun b8 => ?_)
       refine xg 1 [0] rfl (by omega) ?_
       refine nto_ ?_
       refine xg 5 [0,0,5] rfl (by omega) ?_
       refine g_buildSlice (offs := [0]) rfl rfl Try.underlying26 rfl Try.zeroValue28 (by kernel_rfl) (fun b9 => ?_)
       refine xg 2 [6] rfl (by omega) ?_
       refine n_ (t_ ?_)
       refine g_rowOf (n := 1) nC [(.mk 0 s0 0 0 0 nilS [])] 0 rfl rfl nC_len rfl (by decide) ?_
       simp only [List.set_cons_zero]
       refine g_perm (.trans (.cons _ (.cons _ (.cons _ (.swap _ _ _)))) (.trans (.cons _ (.cons _ (.swap _ _ _))) (.cons _ (.swap _ _ _)))) ?_
       refine g_node 4 s0 t_u.mi t_u.ma 0 rfl ?_
       refine o_ ?_
       refine xg 2 [5] rfl (by omega) ?_
       refine g_buildSlice (offs := [0]) rfl rfl Try.underlying26 rfl Try.zeroValue28 (by kernel_rfl) (fun b10 => ?_)
       refine g_appS (bytes := 88) nC ((.mk 4 s0 t_u.mi t_u.ma 0 _ [(.mk 0 s0 0 0 0 nilS [])])) 7 (j := 0) rfl rfl rfl rfl Try.underlying26 (by kernel_rfl) rfl rfl nC_len rfl (by omega) (by have : maxLen = 9223372036854775807 := rfl; omega) (fun v11 => ?_)
       simp only [List.set_cons_zero, List.set_cons_succ]
       refine xg 1 [] rfl rfl ?_
       refine n_ (g_in_normal ?_)
       refine g_perm (.trans (.cons _ (.cons _ (.cons _ (.cons _ (.cons _ (.cons _ (.cons _ (.swap _ _ _)))))))) (.trans (.cons _ (.cons _ (.cons _ (.cons _ (.cons _ (.cons _ (.swap _ _ _))))))) (.trans (.cons _ (.cons _ (.cons _ (.cons _ (.cons _ (.swap _ _ _)))))) (.trans (.cons _ (.cons _ (.cons _ (.cons _ (.swap _ _ _))))) (.trans (.cons _ (.cons _ (.cons _ (.swap _ _ _)))) (.trans (.cons _ (.cons _ (.swap _ _ _))) (.trans (.cons _ (.swap _ _ _)) (.trans (.swap _ _ _) (.cons _ (.swap _ _ _)))))))))) ?_
       refine g_grow ?_
       refine g_perm (.trans (.cons _ (.cons _ (.cons _ (.cons _ (.cons _ (.cons _ (.swap _ _ _))))))) (.trans (.cons _ (.cons _ (.cons _ (.cons _ (.cons _ (.swap _ _ _)))))) (.trans (.cons _ (.cons _ (.cons _ (.cons _ (.swap _ _ _))))) (.trans (.cons _ (.cons _ (.cons _ (.swap _ _ _)))) (.trans (.cons _ (.cons _ (.swap _ _ _))) (.trans (.cons _ (.swap _ _ _)) (.trans (.swap _ _ _) (.trans (.cons _ (.cons _ (.cons _ (.cons _ (.cons _ (.cons _ (.cons _ (.swap _ _ _)))))))) (.trans (.cons _ (.cons _ (.cons _ (.cons _ (.cons _ (.cons _ (.swap _ _ _))))))) (.trans (.cons _ (.cons _ (.cons _ (.cons _ (.cons _ (.swap _ _ _)))))) (.trans (.cons _ (.cons _ (.cons _ (.cons _ (.swap _ _ _))))) (.trans (.cons _ (.cons _ (.cons _ (.swap _ _ _)))) (.trans (.cons _ (.cons _ (.swap _ _ _))) (.trans (.cons _ (.cons _ (.cons _ (.cons _ (.swap _ _ _))))) (.trans (.cons _ (.cons _ (.cons _ (.swap _ _ _)))) (.trans (.cons _ (.cons _ (.cons _ (.cons _ (.cons _ (.swap _ _ _)))))) (.cons _ (.cons _ (.cons _ (.cons _ (.swap _ _ _))))))))))))))))))))) ?_
       exact g_again ⟨(((k1 + 1) + 1), g1, true, off_u, c_u, _, ms ++ [(.mk 4 s0 t_u.mi t_u.ma 0 _ [(.mk 0 s0 0 0 0 nilS [])])]), hpos_u, ⟨hgb1.1, hgb1.2.1, fun h => by cases h⟩, by dsimp only; omega, by dsimp only; rw [List.length_append, List.length_singleton]; omega, fun _ _ _ _ h => hR _ _ _ _ (.piece h3 h2 (.rep (.times ht_t (by omega)) ht_u (isK_tok (by assumption) ht_u)) h)⟩ [0, 2, 3] (by dsimp only; omega) rfl (fun w h => h.pick [0,0,0,0,0] rfl)
      refine g_cond_f rfl (g_skip (t_ (o_ ?_)))
      refine xg 2 [4] rfl (by omega) ?_
      refine g_buildSlice (offs := [0]) rfl rfl Try.underlying26 rfl Try.zeroValue28 (by kernel_rfl) (fun b12 => ?_)
      refine g_appS (bytes := 88) nC ((.mk 0 s0 0 0 0 nilS [])) 6 (j := 0) rfl rfl rfl rfl Try.underlying26 (by kernel_rfl) rfl rfl nC_len rfl (by omega) (by have : maxLen = 9223372036854775807 := rfl; omega) (fun v13 => ?_)
      simp only [List.set_cons_zero, List.set_cons_succ]
      refine xg 1 [] rfl rfl ?_
      refine n_ (g_in_normal ?_)
      refine g_perm (.trans (.cons _ (.cons _ (.cons _ (.cons _ (.cons _ (.cons _ (.swap _ _ _))))))) (.trans (.cons _ (.cons _ (.cons _ (.cons _ (.cons _ (.swap _ _ _)))))) (.trans (.cons _ (.cons _ (.cons _ (.cons _ (.swap _ _ _))))) (.trans (.cons _ (.cons _ (.cons _ (.swap _ _ _)))) (.trans (.cons _ (.cons _ (.swap _ _ _))) (.trans (.cons _ (.swap _ _ _)) (.trans (.swap _ _ _) (.trans (.cons _ (.cons _ (.cons _ (.swap _ _ _)))) (.trans (.cons _ (.cons _ (.swap _ _ _))) (.cons _ (.swap _ _ _))))))))))) ?_
      refine g_grow ?_
      refine g_perm (.trans (.cons _ (.cons _ (.cons _ (.cons _ (.cons _ (.swap _ _ _)))))) (.trans (.cons _ (.cons _ (.cons _ (.cons _ (.swap _ _ _))))) (.trans (.cons _ (.cons _ (.cons _ (.swap _ _ _)))) (.trans (.cons _ (.cons _ (.swap _ _ _))) (.trans (.cons _ (.swap _ _ _)) (.trans (.swap _ _ _) (.trans (.cons _ (.cons _ (.cons _ (.cons _ (.cons _ (.cons _ (.swap _ _ _))))))) (.trans (.cons _ (.cons _ (.cons _ (.cons _ (.cons _ (.swap _ _ _)))))) (.trans (.cons _ (.cons _ (.cons _ (.cons _ (.swap _ _ _))))) (.trans (.cons _ (.cons _ (.cons _ (.swap _ _ _)))) (.trans (.cons _ (.cons _ (.swap _ _ _))) (.trans (.cons _ (.cons _ (.cons _ (.swap _ _ _)))) (.cons _ (.cons _ (.cons _ (.cons _ (.swap _ _ _))))))))))))))))) ?_
      exact g_again ⟨((k1 + 1), g1, true, off_t, c_t, _, ms ++ [(.mk 0 s0 0 0 0 nilS [])]), hpos_t, ⟨hgb1.1, hgb1.2.1, fun h => by cases h⟩, by dsimp only; omega, by dsimp only; rw [List.length_append, List.length_singleton]; omega, fun _ _ _ _ h => hR _ _ _ _ (.piece h3 h2 (.plain (.times ht_t (by omega)) (by assumption)) h)⟩ [0, 2, 3] (by dsimp only; omega) rfl (fun w h => h.pick [0,0,0,0,0] rfl)
     refine g_cond_f rfl (s_ (o_ ?_))
     refine xg 2 [0] rfl rfl ?_
     refine n_ (t_ ?_)
     refine g_casep 53 rfl (fun h9 => ?_) fun h9 => ?_
     ·refine g_cond_t rfl (o_ ?_)
      refine xg 4 [0,3] rfl (by omega) ?_
      refine n_ (g_in_normal (t_ (s_ (s_ ?_))))
      refine g_leaf 1 t_t.s 0 0 0 ?_
      refine o_ ?_
      refine xg 1 [] rfl rfl ?_
      refine g_perm (.trans (.cons _ (.swap _ _ _)) (.trans (.swap _ _ _) (.trans (.cons _ (.cons _ (.swap _ _ _))) (.cons _ (.swap _ _ _))))) ?_
      refine g_callOwn (L0 := [.cells pb 60 [.slice (some ⟨gb, off_t, none⟩) (ts.length - (k1 + 1)) c_t, .int .i64 g1, .bool false], .row 92 7 (.slice (some ⟨gb, 0, none⟩) ts.length c0) ts.length (ts.flatMap tC)]) (fun _ : Unit => .bool (isK ts (k1 + 1) 4)) (fun _ => [.cells pb 60 [.slice (some ⟨gb, off_t, none⟩) (ts.length - (k1 + 1)) c_t, .int .i64 g1, .bool false], .row 92 7 (.slice (some ⟨gb, 0, none⟩) ts.length c0) ts.length (ts.flatMap tC)]) rfl rfl rfl Try.call44 (fun w hS => is_any pb gb c0 (k1 + 1) off_t c_t ts _ _ 4 _ w hpos_t hS.part) (fun _ => ?_)
      simp only [List.cons_append, List.nil_append]
      refine n_ (t_ ?_)
      first | refine g_casep 59 rfl (fun h10 => ?_) fun h10 => ?_ | refine g_caseb 59 rfl (fun h10 => ?_) fun h10 => ?_
      ·refine g_cond_t rfl (s_ (o_ ?_))
       refine xg 1 [] rfl rfl ?_
       refine g_callOwn (L0 := [.cells pb 60 [.slice (some ⟨gb, off_t, none⟩) (ts.length - (k1 + 1)) c_t, .int .i64 g1, .bool false], .row 92 7 (.slice (some ⟨gb, 0, none⟩) ts.length c0) ts.length (ts.flatMap tC)]) (fun x : {x : Tok × Nat × Nat // ts[(k1 + 1)]? = some x.1 ∧ Pos ts ((k1 + 1) + 1) x.2.1 x.2.2} => .agg (tC x.1.1).toArray) (fun x => [.cells pb 60 [.slice (some ⟨gb, x.1.2.1, none⟩) (ts.length - ((k1 + 1) + 1)) x.1.2.2, .int .i64 g1, .bool false], .row 92 7 (.slice (some ⟨gb, 0, none⟩) ts.length c0) ts.length (ts.flatMap tC)]) rfl rfl rfl Try.call45 (fun w hS => take_any pb gb c0 (k1 + 1) off_t c_t ts _ _ (by first | omega | exact isK_lt (by assumption)) _ w hpos_t hS.part) ?_
       rintro ⟨⟨t_u, off_u, c_u⟩, ht_u, hpos_u⟩
       dsimp only at ht_u hpos_u
       simp only [List.cons_append, List.nil_append]
       refine g_alloc rfl rfl Try.zeroValue92 rfl (fun b14 => ?_)
       refine xg 1 [0] rfl (by omega) ?_
       refine nto_ ?_
       refine xg 5 [0,0,5] rfl (by omega) ?_
       refine g_buildSlice (offs := [0]) rfl rfl Try.underlying26 rfl Try.zeroValue28 (by kernel_rfl) (fun b15 => ?_)
       refine xg 2 [6] rfl (by omega) ?_
       refine n_ (t_ ?_)
       refine g_rowOf (n := 1) nC [(.mk 1 t_t.s 0 0 0 nilS [])] 0 rfl rfl nC_len rfl (by decide) ?_
       simp only [List.set_cons_zero]
       refine g_perm (.trans (.cons _ (.cons _ (.cons _ (.swap _ _ _)))) (.trans (.cons _ (.cons _ (.swap _ _ _))) (.cons _ (.swap _ _ _)))) ?_
       refine g_node 4 s0 t_u.mi t_u.ma 0 rfl ?_
       refine o_ ?_
       refine xg 2 [5] rfl (by omega) ?_
       refine g_buildSlice (offs := [0]) rfl rfl Try.underlying26 rfl Try.zeroValue28 (by kernel_rfl) (fun b16 => ?_)
       refine g_appS (bytes := 88) nC ((.mk 4 s0 t_u.mi t_u.ma 0 _ [(.mk 1 t_t.s 0 0 0 nilS [])])) 7 (j := 0) rfl rfl rfl rfl Try.underlying26 (by kernel_rfl) rfl rfl nC_len rfl (by omega) (by have : maxLen = 9223372036854775807 := rfl; omega) (fun v17 => ?_)
       simp only [List.set_cons_zero, List.set_cons_succ]
       refine xg 1 [] rfl rfl ?_
       refine n_ (g_in_normal ?_)
       refine g_perm (.trans (.cons _ (.cons _ (.cons _ (.cons _ (.cons _ (.cons _ (.cons _ (.swap _ _ _)))))))) (.trans (.cons _ (.cons _ (.cons _ (.cons _ (.cons _ (.cons _ (.swap _ _ _))))))) (.trans (.cons _ (.cons _ (.cons _ (.cons _ (.cons _ (.swap _ _ _)))))) (.trans (.cons _ (.cons _ (.cons _ (.cons _ (.swap _ _ _))))) (.trans (.cons _ (.cons _ (.cons _ (.swap _ _ _)))) (.trans (.cons _ (.cons _ (.swap _ _ _))) (.trans (.cons _ (.swap _ _ _)) (.trans (.swap _ _ _) (.cons _ (.swap _ _ _)))))))))) ?_
       refine g_grow ?_
       refine g_perm (.trans (.cons _ (.cons _ (.cons _ (.cons _ (.cons _ (.cons _ (.swap _ _ _))))))) (.trans (.cons _ (.cons _ (.cons _ (.cons _ (.cons _ (.swap _ _ _)))))) (.trans (.cons _ (.cons _ (.cons _ (.cons _ (.swap _ _ _))))) (.trans (.cons _ (.cons _ (.cons _ (.swap _ _ _)))) (.trans (.cons _ (.cons _ (.swap _ _ _))) (.trans (.cons _ (.swap _ _ _)) (.trans (.swap _ _ _) (.trans (.cons _ (.cons _ (.cons _ (.cons _ (.cons _ (.cons _ (.cons _ (.swap _ _ _)))))))) (.trans (.cons _ (.cons _ (.cons _ (.cons _ (.cons _ (.cons _ (.swap _ _ _))))))) (.trans (.cons _ (.cons _ (.cons _ (.cons _ (.cons _ (.swap _ _ _)))))) (.trans (.cons _ (.cons _ (.cons _ (.cons _ (.swap _ _ _))))) (.trans (.cons _ (.cons _ (.cons _ (.swap _ _ _)))) (.trans (.cons _ (.cons _ (.swap _ _ _))) (.trans (.cons _ (.cons _ (.cons _ (.cons _ (.swap _ _ _))))) (.trans (.cons _ (.cons _ (.cons _ (.swap _ _ _)))) (.trans (.cons _ (.cons _ (.cons _ (.cons _ (.cons _ (.swap _ _ _)))))) (.cons _ (.cons _ (.cons _ (.cons _ (.swap _ _ _))))))))))))))))))))) ?_
       exact g_again ⟨(((k1 + 1) + 1), g1, false, off_u, c_u, _, ms ++ [(.mk 4 s0 t_u.mi t_u.ma 0 _ [(.mk 1 t_t.s 0 0 0 nilS [])])]), hpos_u, hgb1, by dsimp only; omega, by dsimp only; rw [List.length_append, List.length_singleton]; omega, fun _ _ _ _ h => hR _ _ _ _ (.piece h3 h2 (.rep (.set ht_t (by omega)) ht_u (isK_tok (by assumption) ht_u)) h)⟩ [0, 2, 3] (by dsimp only; omega) rfl (fun w h => h.pick [0,0,0,0,0] rfl)
      refine g_cond_f rfl (g_skip (t_ (o_ ?_)))
      refine xg 2 [4] rfl (by omega) ?_
      refine g_buildSlice (offs := [0]) rfl rfl Try.underlying26 rfl Try.zeroValue28 (by kernel_rfl) (fun b18 => ?_)
      refine g_appS (bytes := 88) nC ((.mk 1 t_t.s 0 0 0 nilS [])) 6 (j := 0) rfl rfl rfl rfl Try.underlying26 (by kernel_rfl) rfl rfl nC_len rfl (by omega) (by have : maxLen = 9223372036854775807 := rfl; omega) (fun v19 => ?_)
      simp only [List.set_cons_zero, List.set_cons_succ]
      refine xg 1 [] rfl rfl ?_
      refine n_ (g_in_normal ?_)
      refine g_perm (.trans (.cons _ (.cons _ (.cons _ (.cons _ (.cons _ (.cons _ (.swap _ _ _))))))) (.trans (.cons _ (.cons _ (.cons _ (.cons _ (.cons _ (.swap _ _ _)))))) (.trans (.cons _ (.cons _ (.cons _ (.cons _ (.swap _ _ _))))) (.trans (.cons _ (.cons _ (.cons _ (.swap _ _ _)))) (.trans (.cons _ (.cons _ (.swap _ _ _))) (.trans (.cons _ (.swap _ _ _)) (.trans (.swap _ _ _) (.trans (.cons _ (.cons _ (.cons _ (.swap _ _ _)))) (.trans (.cons _ (.cons _ (.swap _ _ _))) (.cons _ (.swap _ _ _))))))))))) ?_
      refine g_grow ?_
      refine g_perm (.trans (.cons _ (.cons _ (.cons _ (.cons _ (.cons _ (.swap _ _ _)))))) (.trans (.cons _ (.cons _ (.cons _ (.cons _ (.swap _ _ _))))) (.trans (.cons _ (.cons _ (.cons _ (.swap _ _ _)))) (.trans (.cons _ (.cons _ (.swap _ _ _))) (.trans (.cons _ (.swap _ _ _)) (.trans (.swap _ _ _) (.trans (.cons _ (.cons _ (.cons _ (.cons _ (.cons _ (.cons _ (.swap _ _ _))))))) (.trans (.cons _ (.cons _ (.cons _ (.cons _ (.cons _ (.swap _ _ _)))))) (.trans (.cons _ (.cons _ (.cons _ (.cons _ (.swap _ _ _))))) (.trans (.cons _ (.cons _ (.cons _ (.swap _ _ _)))) (.trans (.cons _ (.cons _ (.swap _ _ _))) (.trans (.cons _ (.cons _ (.cons _ (.swap _ _ _)))) (.cons _ (.cons _ (.cons _ (.cons _ (.swap _ _ _))))))))))))))))) ?_
      exact g_again ⟨((k1 + 1), g1, false, off_t, c_t, _, ms ++ [(.mk 1 t_t.s 0 0 0 nilS [])]), hpos_t, hgb1, by dsimp only; omega, by dsimp only; rw [List.length_append, List.length_singleton]; omega, fun _ _ _ _ h => hR _ _ _ _ (.piece h3 h2 (.plain (.set ht_t (by omega)) (by assumption)) h)⟩ [0, 2, 3] (by dsimp only; omega) rfl (fun w h => h.pick [0,0,0,0,0] rfl)
     refine g_cond_f rfl (o_ ?_)
     refine xg 1 [] rfl rfl ?_
     refine g_perm (.trans (.swap _ _ _) (.cons _ (.swap _ _ _))) ?_
     refine g_callOwn (L0 := [.cells pb 60 [.slice (some ⟨gb, off_t, none⟩) (ts.length - (k1 + 1)) c_t, .int .i64 g1, .bool false], .row 92 7 (.slice (some ⟨gb, 0, none⟩) ts.length c0) ts.length (ts.flatMap tC)]) (fun x : {x : PX // (fun ts k g _ t k' g' b' => RGrp ts k g t k' g' b') ts (k1 + 1) g1 false x.t x.k x.g x.b ∧ Pos ts x.k x.off x.c ∧ GB x.g x.b ∧ (k1 + 1) ≤ x.k} => .agg (nC x.1.t).toArray) (fun x => [PEnt pb gb ts x.1.k x.1.g x.1.b x.1.off x.1.c, TEnt gb c0 ts, .forest [x.1.t]]) rfl rfl rfl Try.call70 (fun w hS => hgrp pb gb c0 (k1 + 1) off_t c_t ts g1 false _ w (by first | trivial | rfl) hpos_t hgb1 hts (by omega) hS.part) ?_
     rintro ⟨⟨⟨nk_q, ns_q, nm_q, nx_q, nu_q, nv_q, nq_q⟩, k_q, g_q, b_q, off_q, c_q⟩, hr_q, hpos_q, hgb_q, hk_q⟩
     dsimp only at hr_q hpos_q hgb_q hk_q
     simp only [List.cons_append, List.nil_append]
     refine g_kids 2 rfl (fun pv_q cv_q hv_q => ?_)
     cases hv_q
     refine xg 1 [4] rfl (by omega) ?_
     refine n_ (g_in_normal (t_ (s_ (s_ (o_ ?_)))))
     refine xg 1 [] rfl rfl ?_
     refine g_callOwn (L0 := [.cells pb 60 [.slice (some ⟨gb, off_q, none⟩) (ts.length - k_q) c_q, .int .i64 g_q, .bool b_q], .row 92 7 (.slice (some ⟨gb, 0, none⟩) ts.length c0) ts.length (ts.flatMap tC)]) (fun _ : Unit => .bool (isK ts k_q 4)) (fun _ => [.cells pb 60 [.slice (some ⟨gb, off_q, none⟩) (ts.length - k_q) c_q, .int .i64 g_q, .bool b_q], .row 92 7 (.slice (some ⟨gb, 0, none⟩) ts.length c0) ts.length (ts.flatMap tC)]) rfl rfl rfl Try.call44 (fun w hS => is_any pb gb c0 k_q off_q c_q ts _ _ 4 _ w hpos_q hS.part) (fun _ => ?_)
     simp only [List.cons_append, List.nil_append]
     refine n_ (t_ ?_)
     first | refine g_casep 59 rfl (fun h11 => ?_) fun h11 => ?_ | refine g_caseb 59 rfl (fun h11 => ?_) fun h11 => ?_
     ·refine g_cond_t rfl (s_ (o_ ?_))
      refine xg 1 [] rfl rfl ?_
      refine g_callOwn (L0 := [.cells pb 60 [.slice (some ⟨gb, off_q, none⟩) (ts.length - k_q) c_q, .int .i64 g_q, .bool b_q], .row 92 7 (.slice (some ⟨gb, 0, none⟩) ts.length c0) ts.length (ts.flatMap tC)]) (fun x : {x : Tok × Nat × Nat // ts[k_q]? = some x.1 ∧ Pos ts (k_q + 1) x.2.1 x.2.2} => .agg (tC x.1.1).toArray) (fun x => [.cells pb 60 [.slice (some ⟨gb, x.1.2.1, none⟩) (ts.length - (k_q + 1)) x.1.2.2, .int .i64 g_q, .bool b_q], .row 92 7 (.slice (some ⟨gb, 0, none⟩) ts.length c0) ts.length (ts.flatMap tC)]) rfl rfl rfl Try.call45 (fun w hS => take_any pb gb c0 k_q off_q c_q ts _ _ (by first | omega | exact isK_lt (by assumption)) _ w hpos_q hS.part) ?_
      rintro ⟨⟨t_u, off_u, c_u⟩, ht_u, hpos_u⟩
      dsimp only at ht_u hpos_u
      simp only [List.cons_append, List.nil_append]
      refine g_alloc rfl rfl Try.zeroValue92 rfl (fun b20 => ?_)
      refine xg 1 [0] rfl (by omega) ?_
      refine nto_ ?_
      refine xg 5 [0,0,5] rfl (by omega) ?_
      refine g_buildSlice (offs := [0]) rfl rfl Try.underlying26 rfl Try.zeroValue28 (by kernel_rfl) (fun b21 => ?_)
      refine xg 2 [6] rfl (by omega) ?_
      refine n_ (t_ ?_)
      refine g_rowOf (n := 1) nC [(.mk nk_q ns_q nm_q nx_q nu_q (.slice pv_q nq_q.length cv_q) nq_q)] 0 rfl rfl nC_len rfl (by decide) ?_
      simp only [List.set_cons_zero]
      refine g_perm (.trans (.cons _ (.cons _ (.cons _ (.swap _ _ _)))) (.trans (.cons _ (.cons _ (.swap _ _ _))) (.cons _ (.swap _ _ _)))) ?_
      refine g_node 4 s0 t_u.mi t_u.ma 0 rfl ?_
      refine o_ ?_
      refine xg 2 [5] rfl (by omega) ?_
      refine g_buildSlice (offs := [0]) rfl rfl Try.underlying26 rfl Try.zeroValue28 (by kernel_rfl) (fun b22 => ?_)
      refine g_appS (bytes := 88) nC ((.mk 4 s0 t_u.mi t_u.ma 0 _ [(.mk nk_q ns_q nm_q nx_q nu_q (.slice pv_q nq_q.length cv_q) nq_q)])) 7 (j := 0) rfl rfl rfl rfl Try.underlying26 (by kernel_rfl) rfl rfl nC_len rfl (by omega) (by have : maxLen = 9223372036854775807 := rfl; omega) (fun v23 => ?_)
      simp only [List.set_cons_zero, List.set_cons_succ]
      refine xg 1 [] rfl rfl ?_
      refine n_ (g_in_normal ?_)
      refine g_perm (.trans (.cons _ (.cons _ (.cons _ (.cons _ (.cons _ (.cons _ (.cons _ (.swap _ _ _)))))))) (.trans (.cons _ (.cons _ (.cons _ (.cons _ (.cons _ (.cons _ (.swap _ _ _))))))) (.trans (.cons _ (.cons _ (.cons _ (.cons _ (.cons _ (.swap _ _ _)))))) (.trans (.cons _ (.cons _ (.cons _ (.cons _ (.swap _ _ _))))) (.trans (.cons _ (.cons _ (.cons _ (.swap _ _ _)))) (.trans (.cons _ (.cons _ (.swap _ _ _))) (.trans (.cons _ (.swap _ _ _)) (.trans (.swap _ _ _) (.cons _ (.swap _ _ _)))))))))) ?_
      refine g_grow ?_
      refine g_perm (.trans (.cons _ (.cons _ (.cons _ (.cons _ (.cons _ (.cons _ (.swap _ _ _))))))) (.trans (.cons _ (.cons _ (.cons _ (.cons _ (.cons _ (.swap _ _ _)))))) (.trans (.cons _ (.cons _ (.cons _ (.cons _ (.swap _ _ _))))) (.trans (.cons _ (.cons _ (.cons _ (.swap _ _ _)))) (.trans (.cons _ (.cons _ (.swap _ _ _))) (.trans (.cons _ (.swap _ _ _)) (.trans (.swap _ _ _) (.trans (.cons _ (.cons _ (.cons _ (.cons _ (.cons _ (.cons _ (.cons _ (.swap _ _ _)))))))) (.trans (.cons _ (.cons _ (.cons _ (.cons _ (.cons _ (.cons _ (.swap _ _ _))))))) (.trans (.cons _ (.cons _ (.cons _ (.cons _ (.cons _ (.swap _ _ _)))))) (.trans (.cons _ (.cons _ (.cons _ (.cons _ (.swap _ _ _))))) (.trans (.cons _ (.cons _ (.cons _ (.swap _ _ _)))) (.trans (.cons _ (.cons _ (.swap _ _ _))) (.trans (.cons _ (.cons _ (.cons _ (.cons _ (.swap _ _ _))))) (.trans (.cons _ (.cons _ (.cons _ (.swap _ _ _)))) (.trans (.cons _ (.cons _ (.cons _ (.cons _ (.cons _ (.swap _ _ _)))))) (.cons _ (.cons _ (.cons _ (.cons _ (.swap _ _ _))))))))))))))))))))) ?_
      exact g_again ⟨((k_q + 1), g_q, b_q, off_u, c_u, _, ms ++ [(.mk 4 s0 t_u.mi t_u.ma 0 _ [(.mk nk_q ns_q nm_q nx_q nu_q (.slice pv_q nq_q.length cv_q) nq_q)])]), hpos_u, hgb_q, by dsimp only; omega, by dsimp only; rw [List.length_append, List.length_singleton]; omega, fun _ _ _ _ h => hR _ _ _ _ (.piece h3 h2 (.rep (.group ht_t (by omega) (by omega) (by omega) (by omega) hr_q) ht_u (isK_tok (by assumption) ht_u)) h)⟩ [0, 2, 3] (by dsimp only; omega) rfl (fun w h => h.pick [0,0,0,0,0] rfl)
     refine g_cond_f rfl (g_skip (t_ (o_ ?_)))
     refine xg 2 [4] rfl (by omega) ?_
     refine g_buildSlice (offs := [0]) rfl rfl Try.underlying26 rfl Try.zeroValue28 (by kernel_rfl) (fun b24 => ?_)
     refine g_appS (bytes := 88) nC ((.mk nk_q ns_q nm_q nx_q nu_q (.slice pv_q nq_q.length cv_q) nq_q)) 6 (j := 0) rfl rfl rfl rfl Try.underlying26 (by kernel_rfl) rfl rfl nC_len rfl (by omega) (by have : maxLen = 9223372036854775807 := rfl; omega) (fun v25 => ?_)
     simp only [List.set_cons_zero, List.set_cons_succ]
     refine xg 1 [] rfl rfl ?_
     refine n_ (g_in_normal ?_)
     refine g_perm (.trans (.cons _ (.cons _ (.cons _ (.cons _ (.cons _ (.cons _ (.swap _ _ _))))))) (.trans (.cons _ (.cons _ (.cons _ (.cons _ (.cons _ (.swap _ _ _)))))) (.trans (.cons _ (.cons _ (.cons _ (.cons _ (.swap _ _ _))))) (.trans (.cons _ (.cons _ (.cons _ (.swap _ _ _)))) (.trans (.cons _ (.cons _ (.swap _ _ _))) (.trans (.cons _ (.swap _ _ _)) (.trans (.swap _ _ _) (.trans (.cons _ (.cons _ (.cons _ (.swap _ _ _)))) (.trans (.cons _ (.cons _ (.swap _ _ _))) (.cons _ (.swap _ _ _))))))))))) ?_
     refine g_grow ?_
     refine g_perm (.trans (.cons _ (.cons _ (.cons _ (.cons _ (.cons _ (.swap _ _ _)))))) (.trans (.cons _ (.cons _ (.cons _ (.cons _ (.swap _ _ _))))) (.trans (.cons _ (.cons _ (.cons _ (.swap _ _ _)))) (.trans (.cons _ (.cons _ (.swap _ _ _))) (.trans (.cons _ (.swap _ _ _)) (.trans (.swap _ _ _) (.trans (.cons _ (.cons _ (.cons _ (.cons _ (.cons _ (.cons _ (.swap _ _ _))))))) (.trans (.cons _ (.cons _ (.cons _ (.cons _ (.cons _ (.swap _ _ _)))))) (.trans (.cons _ (.cons _ (.cons _ (.cons _ (.swap _ _ _))))) (.trans (.cons _ (.cons _ (.cons _ (.swap _ _ _)))) (.trans (.cons _ (.cons _ (.swap _ _ _))) (.trans (.cons _ (.cons _ (.cons _ (.swap _ _ _)))) (.cons _ (.cons _ (.cons _ (.cons _ (.swap _ _ _))))))))))))))))) ?_
     exact g_again ⟨(k_q, g_q, b_q, off_q, c_q, _, ms ++ [(.mk nk_q ns_q nm_q nx_q nu_q (.slice pv_q nq_q.length cv_q) nq_q)]), hpos_q, hgb_q, by dsimp only; omega, by dsimp only; rw [List.length_append, List.length_singleton]; omega, fun _ _ _ _ h => hR _ _ _ _ (.piece h3 h2 (.plain (.group ht_t (by omega) (by omega) (by omega) (by omega) hr_q) (by assumption)) h)⟩ [0, 2, 3] (by dsimp only; omega) rfl (fun w h => h.pick [0,0,0,0,0] rfl)
    refine g_cond_f rfl (g_exit (g_then_exit (g_then_exit (g_in_exit (t_ (s_ ?_))))))
    rcases b1 with _ | _ <;> rcases ms with _ | ⟨⟨nk, ns, nm, nx, nu, nv, nq⟩, _ | ⟨t2, ms⟩⟩
    ·refine o_ ?_
     refine xg 5 [0] rfl (by omega) ?_
     refine g_lit 77 false rfl (rfl) ?_
     refine xg 2 [] rfl rfl ?_
     refine g_rowLen 2 rfl (fun pr12 cr12 hv12 => ?_)
     cases hv12
     refine g_val rfl rfl rfl (y_llen rfl Try.underlying26) ?_
     refine xg 1 [0] rfl rfl ?_
     refine g_lit 81 true rfl (by decide) ?_
     refine xg 3 [] rfl rfl ?_
     refine g_st 0 rfl rfl rfl Try.sizeOf4 rfl rfl rfl ?_
     simp only [List.set_cons_zero]
     refine n_ (t_ (s_ (s_ (o_ ?_))))
     refine xg 3 [0] rfl rfl ?_
     refine g_lit 87 false rfl (by decide) ?_
     refine n_ (t_ (g_cond_f rfl (g_skip (t_ (s_ ?_)))))
     refine g_perm (.trans (.cons _ (.swap _ _ _)) (.trans (.swap _ _ _) (.trans (.cons _ (.cons _ (.swap _ _ _))) (.cons _ (.swap _ _ _))))) ?_
     refine g_node 2 s0 0 0 0 rfl ?_
     refine g_perm (.trans (.swap _ _ _) (.cons _ (.swap _ _ _))) ?_
     refine o_ ?_
     refine xg 3 [3] rfl (by omega) ?_
     refine n_ (t_ (g_ret ?_))
     refine g_end_cell 3 Try.results43 rfl rfl Try.isAgg28 Try.sizeOf28 rfl ?_
     have hq := RRow.many (ts := ts) (v := (.slice pr12 (([] : List MT).length) cr12)) (hR ([] : List MT) k1 g1 false (.stop (by first | exact .inr (.inl rfl) | exact .inl (by omega) | (refine .inr (.inr (.inl ?_)); simp_all; done) | (refine .inr (.inr (.inr ?_)); simp_all; done) | (exfalso; simp_all; done)))) (by simp)
     exact fun w hS => ⟨⟨⟨.mk 2 s0 0 0 0 (.slice pr12 (([] : List MT).length) cr12) ([] : List MT), k1, g1, true, off1, c1⟩, hq, hpos1, ⟨hgb1.1, hgb1.2.1, fun h => by cases h⟩, hk01⟩, rfl, hS.pick [0,0,0] rfl⟩
    ·refine o_ ?_
     refine xg 5 [0] rfl (by omega) ?_
     refine g_lit 77 false rfl (rfl) ?_
     refine xg 2 [] rfl rfl ?_
     refine g_rowLen 2 rfl (fun pr13 cr13 hv13 => ?_)
     cases hv13
     refine g_val rfl rfl rfl (y_llen rfl Try.underlying26) ?_
     refine xg 1 [0] rfl rfl ?_
     refine g_lit 81 false rfl (decide_eq_false (by simp)) ?_
     refine xg 3 [] rfl rfl ?_
     refine g_st 0 rfl rfl rfl Try.sizeOf4 rfl rfl rfl ?_
     simp only [List.set_cons_zero]
     refine n_ (t_ (s_ (s_ (o_ ?_))))
     refine xg 3 [0] rfl rfl ?_
     refine g_lit 87 true rfl (decide_eq_true rfl) ?_
     refine n_ (t_ (g_cond_t rfl (s_ ?_)))
     refine g_perm (.cons _ (.cons _ (.swap _ _ _))) ?_
     refine g_kids 2 rfl (fun pv cv hv => ?_)
     cases hv
     have hone : ([.mk nk ns nm nx nu (.slice pv nq.length cv) nq] : List MT).length = 1 := rfl
     refine o_ ?_
     refine xg 1 [] rfl rfl ?_
     refine g_rowCase 3 rfl (by omega) (fun gr14 cr14 hv14 => ?_)
     cases hv14
     refine g_val rfl rfl rfl (y_idxAddr (m := 0 * 9 + 0) rfl rfl Try.underlying26 Try.sizeOf28 (by omega) (by omega) (by omega)) ?_
     refine g_val rfl rfl rfl (y_ldRN (k := 9) (vs := nC (.mk nk ns nm nx nu (.slice pv nq.length cv) nq)) 3 rfl Try.isAgg28 Try.sizeOf28 rfl (fm_elem nC 9 nC_len _ 0 _ (rfl)) (nC_len _)) ?_
     refine xg 1 [4] rfl (by omega) ?_
     refine n_ (t_ (g_ret (g_then_ret ?_)))
     refine g_end_cell 4 Try.results43 rfl rfl Try.isAgg28 Try.sizeOf28 rfl ?_
     exact fun w hS => ⟨⟨⟨.mk nk ns nm nx nu _ nq, k1, g1, false, off1, c1⟩, .one (hR _ _ _ _ (.stop (by first | exact .inr (.inl rfl) | exact .inl (by omega) | (refine .inr (.inr (.inl ?_)); simp_all; done) | (refine .inr (.inr (.inr ?_)); simp_all; done) | (exfalso; simp_all; done)))), hpos1, hgb1, hk01⟩, rfl, hS.pick [0,0,0] rfl⟩
    ·refine o_ ?_
     refine xg 5 [0] rfl (by omega) ?_
     refine g_lit 77 false rfl (rfl) ?_
     refine xg 2 [] rfl rfl ?_
     refine g_rowLen 2 rfl (fun pr15 cr15 hv15 => ?_)
     cases hv15
     refine g_val rfl rfl rfl (y_llen rfl Try.underlying26) ?_
     refine xg 1 [0] rfl rfl ?_
     refine g_lit 81 false rfl (decide_eq_false (by simp; omega)) ?_
     refine xg 3 [] rfl rfl ?_
     refine g_st 0 rfl rfl rfl Try.sizeOf4 rfl rfl rfl ?_
     simp only [List.set_cons_zero]
     refine n_ (t_ (s_ (s_ (o_ ?_))))
     refine xg 3 [0] rfl rfl ?_
     refine g_lit 87 false rfl (decide_eq_false (by simp; omega)) ?_
     refine n_ (t_ (g_cond_f rfl (g_skip (t_ (s_ ?_)))))
     refine g_perm (.trans (.cons _ (.swap _ _ _)) (.trans (.swap _ _ _) (.trans (.cons _ (.cons _ (.swap _ _ _))) (.cons _ (.swap _ _ _))))) ?_
     refine g_node 2 s0 0 0 0 rfl ?_
     refine g_perm (.trans (.swap _ _ _) (.cons _ (.swap _ _ _))) ?_
     refine o_ ?_
     refine xg 3 [3] rfl (by omega) ?_
     refine n_ (t_ (g_ret ?_))
     refine g_end_cell 3 Try.results43 rfl rfl Try.isAgg28 Try.sizeOf28 rfl ?_
     have hq := RRow.many (ts := ts) (v := (.slice pr15 ((.mk nk ns nm nx nu nv nq :: t2 :: ms).length) cr15)) (hR (.mk nk ns nm nx nu nv nq :: t2 :: ms) k1 g1 false (.stop (by first | exact .inr (.inl rfl) | exact .inl (by omega) | (refine .inr (.inr (.inl ?_)); simp_all; done) | (refine .inr (.inr (.inr ?_)); simp_all; done) | (exfalso; simp_all; done)))) (by simp)
     exact fun w hS => ⟨⟨⟨.mk 2 s0 0 0 0 (.slice pr15 ((.mk nk ns nm nx nu nv nq :: t2 :: ms).length) cr15) (.mk nk ns nm nx nu nv nq :: t2 :: ms), k1, g1, false, off1, c1⟩, hq, hpos1, hgb1, hk01⟩, rfl, hS.pick [0,0,0] rfl⟩
    ·refine o_ ?_
     refine xg 5 [0] rfl (by omega) ?_
     refine g_lit 77 true rfl (rfl) ?_
     refine xg 7 [] rfl rfl ?_
     refine g_st 0 rfl rfl rfl Try.sizeOf4 rfl rfl rfl ?_
     simp only [List.set_cons_zero]
     refine n_ (t_ (s_ (s_ (o_ ?_))))
     refine xg 1 [] rfl rfl ?_
     refine g_rowLen 2 rfl (fun pr16 cr16 hv16 => ?_)
     cases hv16
     refine g_val rfl rfl rfl (y_llen rfl Try.underlying26) ?_
     refine xg 1 [0] rfl rfl ?_
     refine g_lit 87 false rfl (by decide) ?_
     refine n_ (t_ (g_cond_f rfl (g_skip (t_ (s_ ?_)))))
     refine g_perm (.trans (.cons _ (.swap _ _ _)) (.trans (.swap _ _ _) (.trans (.cons _ (.cons _ (.swap _ _ _))) (.cons _ (.swap _ _ _))))) ?_
     refine g_node 2 s0 0 0 0 rfl ?_
     refine g_perm (.trans (.swap _ _ _) (.cons _ (.swap _ _ _))) ?_
     refine o_ ?_
     refine xg 3 [3] rfl (by omega) ?_
     refine n_ (t_ (g_ret ?_))
     refine g_end_cell 3 Try.results43 rfl rfl Try.isAgg28 Try.sizeOf28 rfl ?_
     have hq := RRow.many (ts := ts) (v := (.slice pr16 (([] : List MT).length) cr16)) (hR ([] : List MT) k1 g1 true (.stop (by first | exact .inr (.inl rfl) | exact .inl (by omega) | (refine .inr (.inr (.inl ?_)); simp_all; done) | (refine .inr (.inr (.inr ?_)); simp_all; done) | (exfalso; simp_all; done)))) (by simp)
     exact fun w hS => ⟨⟨⟨.mk 2 s0 0 0 0 (.slice pr16 (([] : List MT).length) cr16) ([] : List MT), k1, g1, true, off1, c1⟩, hq, hpos1, hgb1, hk01⟩, rfl, hS.pick [0,0,0] rfl⟩
    ·refine o_ ?_
     refine xg 5 [0] rfl (by omega) ?_
     refine g_lit 77 true rfl (rfl) ?_
     refine xg 7 [] rfl rfl ?_
     refine g_st 0 rfl rfl rfl Try.sizeOf4 rfl rfl rfl ?_
     simp only [List.set_cons_zero]
     refine n_ (t_ (s_ (s_ (o_ ?_))))
     refine xg 1 [] rfl rfl ?_
     refine g_rowLen 2 rfl (fun pr17 cr17 hv17 => ?_)
     cases hv17
     refine g_val rfl rfl rfl (y_llen rfl Try.underlying26) ?_
     refine xg 1 [0] rfl rfl ?_
     refine g_lit 87 true rfl (decide_eq_true rfl) ?_
     refine n_ (t_ (g_cond_t rfl (s_ ?_)))
     refine g_perm (.cons _ (.cons _ (.swap _ _ _))) ?_
     refine g_kids 2 rfl (fun pv cv hv => ?_)
     cases hv
     have hone : ([.mk nk ns nm nx nu (.slice pv nq.length cv) nq] : List MT).length = 1 := rfl
     refine o_ ?_
     refine xg 1 [] rfl rfl ?_
     refine g_rowCase 3 rfl (by omega) (fun gr18 cr18 hv18 => ?_)
     cases hv18
     refine g_val rfl rfl rfl (y_idxAddr (m := 0 * 9 + 0) rfl rfl Try.underlying26 Try.sizeOf28 (by omega) (by omega) (by omega)) ?_
     refine g_val rfl rfl rfl (y_ldRN (k := 9) (vs := nC (.mk nk ns nm nx nu (.slice pv nq.length cv) nq)) 3 rfl Try.isAgg28 Try.sizeOf28 rfl (fm_elem nC 9 nC_len _ 0 _ (rfl)) (nC_len _)) ?_
     refine xg 1 [4] rfl (by omega) ?_
     refine n_ (t_ (g_ret (g_then_ret ?_)))
     refine g_end_cell 4 Try.results43 rfl rfl Try.isAgg28 Try.sizeOf28 rfl ?_
     exact fun w hS => ⟨⟨⟨.mk nk ns nm nx nu _ nq, k1, g1, true, off1, c1⟩, .one (hR _ _ _ _ (.stop (by first | exact .inr (.inl rfl) | exact .inl (by omega) | (refine .inr (.inr (.inl ?_)); simp_all; done) | (refine .inr (.inr (.inr ?_)); simp_all; done) | (exfalso; simp_all; done)))), hpos1, hgb1, hk01⟩, rfl, hS.pick [0,0,0] rfl⟩
    refine o_ ?_
    refine xg 5 [0] rfl (by omega) ?_
    refine g_lit 77 true rfl (rfl) ?_
    refine xg 7 [] rfl rfl ?_
    refine g_st 0 rfl rfl rfl Try.sizeOf4 rfl rfl rfl ?_
    simp only [List.set_cons_zero]
    refine n_ (t_ (s_ (s_ (o_ ?_))))
    refine xg 1 [] rfl rfl ?_
    refine g_rowLen 2 rfl (fun pr19 cr19 hv19 => ?_)
    cases hv19
    refine g_val rfl rfl rfl (y_llen rfl Try.underlying26) ?_
    refine xg 1 [0] rfl rfl ?_
    refine g_lit 87 false rfl (decide_eq_false (by simp; omega)) ?_
    refine n_ (t_ (g_cond_f rfl (g_skip (t_ (s_ ?_)))))
    refine g_perm (.trans (.cons _ (.swap _ _ _)) (.trans (.swap _ _ _) (.trans (.cons _ (.cons _ (.swap _ _ _))) (.cons _ (.swap _ _ _))))) ?_
    refine g_node 2 s0 0 0 0 rfl ?_
    refine g_perm (.trans (.swap _ _ _) (.cons _ (.swap _ _ _))) ?_
    refine o_ ?_
    refine xg 3 [3] rfl (by omega) ?_
    refine n_ (t_ (g_ret ?_))
    refine g_end_cell 3 Try.results43 rfl rfl Try.isAgg28 Try.sizeOf28 rfl ?_
    have hq := RRow.many (ts := ts) (v := (.slice pr19 ((.mk nk ns nm nx nu nv nq :: t2 :: ms).length) cr19)) (hR (.mk nk ns nm nx nu nv nq :: t2 :: ms) k1 g1 true (.stop (by first | exact .inr (.inl rfl) | exact .inl (by omega) | (refine .inr (.inr (.inl ?_)); simp_all; done) | (refine .inr (.inr (.inr ?_)); simp_all; done) | (exfalso; simp_all; done)))) (by simp)
    exact fun w hS => ⟨⟨⟨.mk 2 s0 0 0 0 (.slice pr19 ((.mk nk ns nm nx nu nv nq :: t2 :: ms).length) cr19) (.mk nk ns nm nx nu nv nq :: t2 :: ms), k1, g1, true, off1, c1⟩, hq, hpos1, hgb1, hk01⟩, rfl, hS.pick [0,0,0] rfl⟩
   refine xg 4 [] rfl rfl ?_
   refine n_ (t_ (g_cond_f rfl (g_exit (g_then_exit (g_then_exit (g_in_exit (t_ (s_ ?_))))))))
   rcases b1 with _ | _ <;> rcases ms with _ | ⟨⟨nk, ns, nm, nx, nu, nv, nq⟩, _ | ⟨t2, ms⟩⟩
   ·refine o_ ?_
    refine xg 5 [0] rfl (by omega) ?_
    refine g_lit 77 false rfl (rfl) ?_
    refine xg 2 [] rfl rfl ?_
    refine g_rowLen 2 rfl (fun pr20 cr20 hv20 => ?_)
    cases hv20
    refine g_val rfl rfl rfl (y_llen rfl Try.underlying26) ?_
    refine xg 1 [0] rfl rfl ?_
    refine g_lit 81 true rfl (by decide) ?_
    refine xg 3 [] rfl rfl ?_
    refine g_st 0 rfl rfl rfl Try.sizeOf4 rfl rfl rfl ?_
    simp only [List.set_cons_zero]
    refine n_ (t_ (s_ (s_ (o_ ?_))))
    refine xg 3 [0] rfl rfl ?_
    refine g_lit 87 false rfl (by decide) ?_
    refine n_ (t_ (g_cond_f rfl (g_skip (t_ (s_ ?_)))))
    refine g_perm (.trans (.cons _ (.swap _ _ _)) (.trans (.swap _ _ _) (.trans (.cons _ (.cons _ (.swap _ _ _))) (.cons _ (.swap _ _ _))))) ?_
    refine g_node 2 s0 0 0 0 rfl ?_
    refine g_perm (.trans (.swap _ _ _) (.cons _ (.swap _ _ _))) ?_
    refine o_ ?_
    refine xg 3 [3] rfl (by omega) ?_
    refine n_ (t_ (g_ret ?_))
    refine g_end_cell 3 Try.results43 rfl rfl Try.isAgg28 Try.sizeOf28 rfl ?_
    have hq := RRow.many (ts := ts) (v := (.slice pr20 (([] : List MT).length) cr20)) (hR ([] : List MT) k1 g1 false (.stop (by first | exact .inr (.inl rfl) | exact .inl (by omega) | (refine .inr (.inr (.inl ?_)); simp_all; done) | (refine .inr (.inr (.inr ?_)); simp_all; done) | (exfalso; simp_all; done)))) (by simp)
    exact fun w hS => ⟨⟨⟨.mk 2 s0 0 0 0 (.slice pr20 (([] : List MT).length) cr20) ([] : List MT), k1, g1, true, off1, c1⟩, hq, hpos1, ⟨hgb1.1, hgb1.2.1, fun h => by cases h⟩, hk01⟩, rfl, hS.pick [0,0,0] rfl⟩
   ·refine o_ ?_
    refine xg 5 [0] rfl (by omega) ?_
    refine g_lit 77 false rfl (rfl) ?_
    refine xg 2 [] rfl rfl ?_
    refine g_rowLen 2 rfl (fun pr21 cr21 hv21 => ?_)
    cases hv21
    refine g_val rfl rfl rfl (y_llen rfl Try.underlying26) ?_
    refine xg 1 [0] rfl rfl ?_
    refine g_lit 81 false rfl (decide_eq_false (by simp)) ?_
    refine xg 3 [] rfl rfl ?_
    refine g_st 0 rfl rfl rfl Try.sizeOf4 rfl rfl rfl ?_
    simp only [List.set_cons_zero]
    refine n_ (t_ (s_ (s_ (o_ ?_))))
    refine xg 3 [0] rfl rfl ?_
    refine g_lit 87 true rfl (decide_eq_true rfl) ?_
    refine n_ (t_ (g_cond_t rfl (s_ ?_)))
    refine g_perm (.cons _ (.cons _ (.swap _ _ _))) ?_
    refine g_kids 2 rfl (fun pv cv hv => ?_)
    cases hv
    have hone : ([.mk nk ns nm nx nu (.slice pv nq.length cv) nq] : List MT).length = 1 := rfl
    refine o_ ?_
    refine xg 1 [] rfl rfl ?_
    refine g_rowCase 3 rfl (by omega) (fun gr22 cr22 hv22 => ?_)
    cases hv22
    refine g_val rfl rfl rfl (y_idxAddr (m := 0 * 9 + 0) rfl rfl Try.underlying26 Try.sizeOf28 (by omega) (by omega) (by omega)) ?_
    refine g_val rfl rfl rfl (y_ldRN (k := 9) (vs := nC (.mk nk ns nm nx nu (.slice pv nq.length cv) nq)) 3 rfl Try.isAgg28 Try.sizeOf28 rfl (fm_elem nC 9 nC_len _ 0 _ (rfl)) (nC_len _)) ?_
    refine xg 1 [4] rfl (by omega) ?_
    refine n_ (t_ (g_ret (g_then_ret ?_)))
    refine g_end_cell 4 Try.results43 rfl rfl Try.isAgg28 Try.sizeOf28 rfl ?_
    exact fun w hS => ⟨⟨⟨.mk nk ns nm nx nu _ nq, k1, g1, false, off1, c1⟩, .one (hR _ _ _ _ (.stop (by first | exact .inr (.inl rfl) | exact .inl (by omega) | (refine .inr (.inr (.inl ?_)); simp_all; done) | (refine .inr (.inr (.inr ?_)); simp_all; done) | (exfalso; simp_all; done)))), hpos1, hgb1, hk01⟩, rfl, hS.pick [0,0,0] rfl⟩
   ·refine o_ ?_
    refine xg 5 [0] rfl (by omega) ?_
    refine g_lit 77 false rfl (rfl) ?_
    refine xg 2 [] rfl rfl ?_
    refine g_rowLen 2 rfl (fun pr23 cr23 hv23 => ?_)
    cases hv23
    refine g_val rfl rfl rfl (y_llen rfl Try.underlying26) ?_
    refine xg 1 [0] rfl rfl ?_
    refine g_lit 81 false rfl (decide_eq_false (by simp; omega)) ?_
    refine xg 3 [] rfl rfl ?_
    refine g_st 0 rfl rfl rfl Try.sizeOf4 rfl rfl rfl ?_
    simp only [List.set_cons_zero]
    refine n_ (t_ (s_ (s_ (o_ ?_))))
    refine xg 3 [0] rfl rfl ?_
    refine g_lit 87 false rfl (decide_eq_false (by simp; omega)) ?_
    refine n_ (t_ (g_cond_f rfl (g_skip (t_ (s_ ?_)))))
    refine g_perm (.trans (.cons _ (.swap _ _ _)) (.trans (.swap _ _ _) (.trans (.cons _ (.cons _ (.swap _ _ _))) (.cons _ (.swap _ _ _))))) ?_
    refine g_node 2 s0 0 0 0 rfl ?_
    refine g_perm (.trans (.swap _ _ _) (.cons _ (.swap _ _ _))) ?_
    refine o_ ?_
    refine xg 3 [3] rfl (by omega) ?_
    refine n_ (t_ (g_ret ?_))
    refine g_end_cell 3 Try.results43 rfl rfl Try.isAgg28 Try.sizeOf28 rfl ?_
    have hq := RRow.many (ts := ts) (v := (.slice pr23 ((.mk nk ns nm nx nu nv nq :: t2 :: ms).length) cr23)) (hR (.mk nk ns nm nx nu nv nq :: t2 :: ms) k1 g1 false (.stop (by first | exact .inr (.inl rfl) | exact .inl (by omega) | (refine .inr (.inr (.inl ?_)); simp_all; done) | (refine .inr (.inr (.inr ?_)); simp_all; done) | (exfalso; simp_all; done)))) (by simp)
    exact fun w hS => ⟨⟨⟨.mk 2 s0 0 0 0 (.slice pr23 ((.mk nk ns nm nx nu nv nq :: t2 :: ms).length) cr23) (.mk nk ns nm nx nu nv nq :: t2 :: ms), k1, g1, false, off1, c1⟩, hq, hpos1, hgb1, hk01⟩, rfl, hS.pick [0,0,0] rfl⟩
   ·refine o_ ?_
    refine xg 5 [0] rfl (by omega) ?_
    refine g_lit 77 true rfl (rfl) ?_
    refine xg 7 [] rfl rfl ?_
    refine g_st 0 rfl rfl rfl Try.sizeOf4 rfl rfl rfl ?_
    simp only [List.set_cons_zero]
    refine n_ (t_ (s_ (s_ (o_ ?_))))
    refine xg 1 [] rfl rfl ?_
    refine g_rowLen 2 rfl (fun pr24 cr24 hv24 => ?_)
    cases hv24
    refine g_val rfl rfl rfl (y_llen rfl Try.underlying26) ?_
    refine xg 1 [0] rfl rfl ?_
    refine g_lit 87 false rfl (by decide) ?_
    refine n_ (t_ (g_cond_f rfl (g_skip (t_ (s_ ?_)))))
    refine g_perm (.trans (.cons _ (.swap _ _ _)) (.trans (.swap _ _ _) (.trans (.cons _ (.cons _ (.swap _ _ _))) (.cons _ (.swap _ _ _))))) ?_
    refine g_node 2 s0 0 0 0 rfl ?_
    refine g_perm (.trans (.swap _ _ _) (.cons _ (.swap _ _ _))) ?_
    refine o_ ?_
    refine xg 3 [3] rfl (by omega) ?_
    refine n_ (t_ (g_ret ?_))
    refine g_end_cell 3 Try.results43 rfl rfl Try.isAgg28 Try.sizeOf28 rfl ?_
    have hq := RRow.many (ts := ts) (v := (.slice pr24 (([] : List MT).length) cr24)) (hR ([] : List MT) k1 g1 true (.stop (by first | exact .inr (.inl rfl) | exact .inl (by omega) | (refine .inr (.inr (.inl ?_)); simp_all; done) | (refine .inr (.inr (.inr ?_)); simp_all; done) | (exfalso; simp_all; done)))) (by simp)
    exact fun w hS => ⟨⟨⟨.mk 2 s0 0 0 0 (.slice pr24 (([] : List MT).length) cr24) ([] : List MT), k1, g1, true, off1, c1⟩, hq, hpos1, hgb1, hk01⟩, rfl, hS.pick [0,0,0] rfl⟩
   ·refine o_ ?_
    refine xg 5 [0] rfl (by omega) ?_
    refine g_lit 77 true rfl (rfl) ?_
    refine xg 7 [] rfl rfl ?_
    refine g_st 0 rfl rfl rfl Try.sizeOf4 rfl rfl rfl ?_
    simp only [List.set_cons_zero]
    refine n_ (t_ (s_ (s_ (o_ ?_))))
    refine xg 1 [] rfl rfl ?_
    refine g_rowLen 2 rfl (fun pr25 cr25 hv25 => ?_)
    cases hv25
    refine g_val rfl rfl rfl (y_llen rfl Try.underlying26) ?_
    refine xg 1 [0] rfl rfl ?_
    refine g_lit 87 true rfl (decide_eq_true rfl) ?_
    refine n_ (t_ (g_cond_t rfl (s_ ?_)))
    refine g_perm (.cons _ (.cons _ (.swap _ _ _))) ?_
    refine g_kids 2 rfl (fun pv cv hv => ?_)
    cases hv
    have hone : ([.mk nk ns nm nx nu (.slice pv nq.length cv) nq] : List MT).length = 1 := rfl
    refine o_ ?_
    refine xg 1 [] rfl rfl ?_
    refine g_rowCase 3 rfl (by omega) (fun gr26 cr26 hv26 => ?_)
    cases hv26
    refine g_val rfl rfl rfl (y_idxAddr (m := 0 * 9 + 0) rfl rfl Try.underlying26 Try.sizeOf28 (by omega) (by omega) (by omega)) ?_
    refine g_val rfl rfl rfl (y_ldRN (k := 9) (vs := nC (.mk nk ns nm nx nu (.slice pv nq.length cv) nq)) 3 rfl Try.isAgg28 Try.sizeOf28 rfl (fm_elem nC 9 nC_len _ 0 _ (rfl)) (nC_len _)) ?_
    refine xg 1 [4] rfl (by omega) ?_
    refine n_ (t_ (g_ret (g_then_ret ?_)))
    refine g_end_cell 4 Try.results43 rfl rfl Try.isAgg28 Try.sizeOf28 rfl ?_
    exact fun w hS => ⟨⟨⟨.mk nk ns nm nx nu _ nq, k1, g1, true, off1, c1⟩, .one (hR _ _ _ _ (.stop (by first | exact .inr (.inl rfl) | exact .inl (by omega) | (refine .inr (.inr (.inl ?_)); simp_all; done) | (refine .inr (.inr (.inr ?_)); simp_all; done) | (exfalso; simp_all; done)))), hpos1, hgb1, hk01⟩, rfl, hS.pick [0,0,0] rfl⟩
   refine o_ ?_
   refine xg 5 [0] rfl (by omega) ?_
   refine g_lit 77 true rfl (rfl) ?_
   refine xg 7 [] rfl rfl ?_
   refine g_st 0 rfl rfl rfl Try.sizeOf4 rfl rfl rfl ?_
   simp only [List.set_cons_zero]
   refine n_ (t_ (s_ (s_ (o_ ?_))))
   refine xg 1 [] rfl rfl ?_
   refine g_rowLen 2 rfl (fun pr27 cr27 hv27 => ?_)
   cases hv27
   refine g_val rfl rfl rfl (y_llen rfl Try.underlying26) ?_
   refine xg 1 [0] rfl rfl ?_
   refine g_lit 87 false rfl (decide_eq_false (by simp; omega)) ?_
   refine n_ (t_ (g_cond_f rfl (g_skip (t_ (s_ ?_)))))
   refine g_perm (.trans (.cons _ (.swap _ _ _)) (.trans (.swap _ _ _) (.trans (.cons _ (.cons _ (.swap _ _ _))) (.cons _ (.swap _ _ _))))) ?_
   refine g_node 2 s0 0 0 0 rfl ?_
   refine g_perm (.trans (.swap _ _ _) (.cons _ (.swap _ _ _))) ?_
   refine o_ ?_
   refine xg 3 [3] rfl (by omega) ?_
   refine n_ (t_ (g_ret ?_))
   refine g_end_cell 3 Try.results43 rfl rfl Try.isAgg28 Try.sizeOf28 rfl ?_
   have hq := RRow.many (ts := ts) (v := (.slice pr27 ((.mk nk ns nm nx nu nv nq :: t2 :: ms).length) cr27)) (hR (.mk nk ns nm nx nu nv nq :: t2 :: ms) k1 g1 true (.stop (by first | exact .inr (.inl rfl) | exact .inl (by omega) | (refine .inr (.inr (.inl ?_)); simp_all; done) | (refine .inr (.inr (.inr ?_)); simp_all; done) | (exfalso; simp_all; done)))) (by simp)
   exact fun w hS => ⟨⟨⟨.mk 2 s0 0 0 0 (.slice pr27 ((.mk nk ns nm nx nu nv nq :: t2 :: ms).length) cr27) (.mk nk ns nm nx nu nv nq :: t2 :: ms), k1, g1, true, off1, c1⟩, hq, hpos1, hgb1, hk01⟩, rfl, hS.pick [0,0,0] rfl⟩
  refine xg 9 [] rfl rfl ?_
  refine n_ (t_ (g_cond_f rfl (g_exit (g_then_exit (g_then_exit (g_in_exit (t_ (s_ ?_))))))))
  rcases b1 with _ | _ <;> rcases ms with _ | ⟨⟨nk, ns, nm, nx, nu, nv, nq⟩, _ | ⟨t2, ms⟩⟩
  ·refine o_ ?_
   refine xg 5 [3] rfl (by omega) ?_
   refine g_lit 77 false rfl (rfl) ?_
   refine xg 2 [] rfl rfl ?_
   refine g_rowLen 0 rfl (fun pr28 cr28 hv28 => ?_)
   cases hv28
   refine g_val rfl rfl rfl (y_llen rfl Try.underlying26) ?_
   refine xg 1 [0] rfl rfl ?_
   refine g_lit 81 true rfl (by decide) ?_
   refine xg 3 [] rfl rfl ?_
   refine g_st 3 rfl rfl rfl Try.sizeOf4 rfl rfl rfl ?_
   simp only [List.set_cons_zero, List.set_cons_succ]
   refine n_ (t_ (s_ (s_ (o_ ?_))))
   refine xg 3 [0] rfl rfl ?_
   refine g_lit 87 false rfl (by decide) ?_
   refine n_ (t_ (g_cond_f rfl (g_skip (t_ (s_ ?_)))))
   refine g_node 2 s0 0 0 0 rfl ?_
   refine g_perm (.trans (.cons _ (.swap _ _ _)) (.trans (.swap _ _ _) (.trans (.cons _ (.cons _ (.swap _ _ _))) (.cons _ (.swap _ _ _))))) ?_
   refine o_ ?_
   refine xg 3 [3] rfl (by omega) ?_
   refine n_ (t_ (g_ret ?_))
   refine g_end_cell 3 Try.results43 rfl rfl Try.isAgg28 Try.sizeOf28 rfl ?_
   have hq := RRow.many (ts := ts) (v := (.slice pr28 (([] : List MT).length) cr28)) (hR ([] : List MT) k1 g1 false (.stop (by first | exact .inr (.inl rfl) | exact .inl (by omega) | (refine .inr (.inr (.inl ?_)); simp_all; done) | (refine .inr (.inr (.inr ?_)); simp_all; done) | (exfalso; simp_all; done)))) (by simp)
   exact fun w hS => ⟨⟨⟨.mk 2 s0 0 0 0 (.slice pr28 (([] : List MT).length) cr28) ([] : List MT), k1, g1, true, off1, c1⟩, hq, hpos1, ⟨hgb1.1, hgb1.2.1, fun h => by cases h⟩, hk01⟩, rfl, hS.pick [0,0,0] rfl⟩
  ·refine o_ ?_
   refine xg 5 [3] rfl (by omega) ?_
   refine g_lit 77 false rfl (rfl) ?_
   refine xg 2 [] rfl rfl ?_
   refine g_rowLen 0 rfl (fun pr29 cr29 hv29 => ?_)
   cases hv29
   refine g_val rfl rfl rfl (y_llen rfl Try.underlying26) ?_
   refine xg 1 [0] rfl rfl ?_
   refine g_lit 81 false rfl (decide_eq_false (by simp)) ?_
   refine xg 3 [] rfl rfl ?_
   refine g_st 3 rfl rfl rfl Try.sizeOf4 rfl rfl rfl ?_
   simp only [List.set_cons_zero, List.set_cons_succ]
   refine n_ (t_ (s_ (s_ (o_ ?_))))
   refine xg 3 [0] rfl rfl ?_
   refine g_lit 87 true rfl (decide_eq_true rfl) ?_
   refine n_ (t_ (g_cond_t rfl (s_ ?_)))
   refine g_perm (.trans (.cons _ (.cons _ (.swap _ _ _))) (.trans (.cons _ (.swap _ _ _)) (.trans (.swap _ _ _) (.trans (.cons _ (.cons _ (.cons _ (.swap _ _ _)))) (.trans (.cons _ (.cons _ (.swap _ _ _))) (.trans (.cons _ (.swap _ _ _)) (.cons _ (.cons _ (.swap _ _ _))))))))) ?_
   refine g_kids 2 rfl (fun pv cv hv => ?_)
   cases hv
   have hone : ([.mk nk ns nm nx nu (.slice pv nq.length cv) nq] : List MT).length = 1 := rfl
   refine o_ ?_
   refine xg 1 [] rfl rfl ?_
   refine g_rowCase 3 rfl (by omega) (fun gr30 cr30 hv30 => ?_)
   cases hv30
   refine g_val rfl rfl rfl (y_idxAddr (m := 0 * 9 + 0) rfl rfl Try.underlying26 Try.sizeOf28 (by omega) (by omega) (by omega)) ?_
   refine g_val rfl rfl rfl (y_ldRN (k := 9) (vs := nC (.mk nk ns nm nx nu (.slice pv nq.length cv) nq)) 3 rfl Try.isAgg28 Try.sizeOf28 rfl (fm_elem nC 9 nC_len _ 0 _ (rfl)) (nC_len _)) ?_
   refine xg 1 [4] rfl (by omega) ?_
   refine n_ (t_ (g_ret (g_then_ret ?_)))
   refine g_end_cell 4 Try.results43 rfl rfl Try.isAgg28 Try.sizeOf28 rfl ?_
   exact fun w hS => ⟨⟨⟨.mk nk ns nm nx nu _ nq, k1, g1, false, off1, c1⟩, .one (hR _ _ _ _ (.stop (by first | exact .inr (.inl rfl) | exact .inl (by omega) | (refine .inr (.inr (.inl ?_)); simp_all; done) | (refine .inr (.inr (.inr ?_)); simp_all; done) | (exfalso; simp_all; done)))), hpos1, hgb1, hk01⟩, rfl, hS.pick [0,0,0] rfl⟩
  ·refine o_ ?_
   refine xg 5 [3] rfl (by omega) ?_
   refine g_lit 77 false rfl (rfl) ?_
   refine xg 2 [] rfl rfl ?_
   refine g_rowLen 0 rfl (fun pr31 cr31 hv31 => ?_)
   cases hv31
   refine g_val rfl rfl rfl (y_llen rfl Try.underlying26) ?_
   refine xg 1 [0] rfl rfl ?_
   refine g_lit 81 false rfl (decide_eq_false (by simp; omega)) ?_
   refine xg 3 [] rfl rfl ?_
   refine g_st 3 rfl rfl rfl Try.sizeOf4 rfl rfl rfl ?_
   simp only [List.set_cons_zero, List.set_cons_succ]
   refine n_ (t_ (s_ (s_ (o_ ?_))))
   refine xg 3 [0] rfl rfl ?_
   refine g_lit 87 false rfl (decide_eq_false (by simp; omega)) ?_
   refine n_ (t_ (g_cond_f rfl (g_skip (t_ (s_ ?_)))))
   refine g_node 2 s0 0 0 0 rfl ?_
   refine g_perm (.trans (.cons _ (.swap _ _ _)) (.trans (.swap _ _ _) (.trans (.cons _ (.cons _ (.swap _ _ _))) (.cons _ (.swap _ _ _))))) ?_
   refine o_ ?_
   refine xg 3 [3] rfl (by omega) ?_
   refine n_ (t_ (g_ret ?_))
   refine g_end_cell 3 Try.results43 rfl rfl Try.isAgg28 Try.sizeOf28 rfl ?_
   have hq := RRow.many (ts := ts) (v := (.slice pr31 ((.mk nk ns nm nx nu nv nq :: t2 :: ms).length) cr31)) (hR (.mk nk ns nm nx nu nv nq :: t2 :: ms) k1 g1 false (.stop (by first | exact .inr (.inl rfl) | exact .inl (by omega) | (refine .inr (.inr (.inl ?_)); simp_all; done) | (refine .inr (.inr (.inr ?_)); simp_all; done) | (exfalso; simp_all; done)))) (by simp)
   exact fun w hS => ⟨⟨⟨.mk 2 s0 0 0 0 (.slice pr31 ((.mk nk ns nm nx nu nv nq :: t2 :: ms).length) cr31) (.mk nk ns nm nx nu nv nq :: t2 :: ms), k1, g1, false, off1, c1⟩, hq, hpos1, hgb1, hk01⟩, rfl, hS.pick [0,0,0] rfl⟩
  ·refine o_ ?_
   refine xg 5 [3] rfl (by omega) ?_
   refine g_lit 77 true rfl (rfl) ?_
   refine xg 7 [] rfl rfl ?_
   refine g_st 3 rfl rfl rfl Try.sizeOf4 rfl rfl rfl ?_
   simp only [List.set_cons_zero, List.set_cons_succ]
   refine n_ (t_ (s_ (s_ (o_ ?_))))
   refine xg 1 [] rfl rfl ?_
   refine g_rowLen 0 rfl (fun pr32 cr32 hv32 => ?_)
   cases hv32
   refine g_val rfl rfl rfl (y_llen rfl Try.underlying26) ?_
   refine xg 1 [0] rfl rfl ?_
   refine g_lit 87 false rfl (by decide) ?_
   refine n_ (t_ (g_cond_f rfl (g_skip (t_ (s_ ?_)))))
   refine g_node 2 s0 0 0 0 rfl ?_
   refine g_perm (.trans (.cons _ (.swap _ _ _)) (.trans (.swap _ _ _) (.trans (.cons _ (.cons _ (.swap _ _ _))) (.cons _ (.swap _ _ _))))) ?_
   refine o_ ?_
   refine xg 3 [3] rfl (by omega) ?_
   refine n_ (t_ (g_ret ?_))
   refine g_end_cell 3 Try.results43 rfl rfl Try.isAgg28 Try.sizeOf28 rfl ?_
   have hq := RRow.many (ts := ts) (v := (.slice pr32 (([] : List MT).length) cr32)) (hR ([] : List MT) k1 g1 true (.stop (by first | exact .inr (.inl rfl) | exact .inl (by omega) | (refine .inr (.inr (.inl ?_)); simp_all; done) | (refine .inr (.inr (.inr ?_)); simp_all; done) | (exfalso; simp_all; done)))) (by simp)
   exact fun w hS => ⟨⟨⟨.mk 2 s0 0 0 0 (.slice pr32 (([] : List MT).length) cr32) ([] : List MT), k1, g1, true, off1, c1⟩, hq, hpos1, hgb1, hk01⟩, rfl, hS.pick [0,0,0] rfl⟩
  ·refine o_ ?_
   refine xg 5 [3] rfl (by omega) ?_
   refine g_lit 77 true rfl (rfl) ?_
   refine xg 7 [] rfl rfl ?_
   refine g_st 3 rfl rfl rfl Try.sizeOf4 rfl rfl rfl ?_
   simp only [List.set_cons_zero, List.set_cons_succ]
   refine n_ (t_ (s_ (s_ (o_ ?_))))
   refine xg 1 [] rfl rfl ?_
   refine g_rowLen 0 rfl (fun pr33 cr33 hv33 => ?_)
   cases hv33
   refine g_val rfl rfl rfl (y_llen rfl Try.underlying26) ?_
   refine xg 1 [0] rfl rfl ?_
   refine g_lit 87 true rfl (decide_eq_true rfl) ?_
   refine n_ (t_ (g_cond_t rfl (s_ ?_)))
   refine g_perm (.trans (.cons _ (.cons _ (.swap _ _ _))) (.trans (.cons _ (.swap _ _ _)) (.trans (.swap _ _ _) (.trans (.cons _ (.cons _ (.cons _ (.swap _ _ _)))) (.trans (.cons _ (.cons _ (.swap _ _ _))) (.trans (.cons _ (.swap _ _ _)) (.cons _ (.cons _ (.swap _ _ _))))))))) ?_
   refine g_kids 2 rfl (fun pv cv hv => ?_)
   cases hv
   have hone : ([.mk nk ns nm nx nu (.slice pv nq.length cv) nq] : List MT).length = 1 := rfl
   refine o_ ?_
   refine xg 1 [] rfl rfl ?_
   refine g_rowCase 3 rfl (by omega) (fun gr34 cr34 hv34 => ?_)
   cases hv34
   refine g_val rfl rfl rfl (y_idxAddr (m := 0 * 9 + 0) rfl rfl Try.underlying26 Try.sizeOf28 (by omega) (by omega) (by omega)) ?_
   refine g_val rfl rfl rfl (y_ldRN (k := 9) (vs := nC (.mk nk ns nm nx nu (.slice pv nq.length cv) nq)) 3 rfl Try.isAgg28 Try.sizeOf28 rfl (fm_elem nC 9 nC_len _ 0 _ (rfl)) (nC_len _)) ?_
   refine xg 1 [4] rfl (by omega) ?_
   refine n_ (t_ (g_ret (g_then_ret ?_)))
   refine g_end_cell 4 Try.results43 rfl rfl Try.isAgg28 Try.sizeOf28 rfl ?_
   exact fun w hS => ⟨⟨⟨.mk nk ns nm nx nu _ nq, k1, g1, true, off1, c1⟩, .one (hR _ _ _ _ (.stop (by first | exact .inr (.inl rfl) | exact .inl (by omega) | (refine .inr (.inr (.inl ?_)); simp_all; done) | (refine .inr (.inr (.inr ?_)); simp_all; done) | (exfalso; simp_all; done)))), hpos1, hgb1, hk01⟩, rfl, hS.pick [0,0,0] rfl⟩
  refine o_ ?_
  refine xg 5 [3] rfl (by omega) ?_
  refine g_lit 77 true rfl (rfl) ?_
  refine xg 7 [] rfl rfl ?_
  refine g_st 3 rfl rfl rfl Try.sizeOf4 rfl rfl rfl ?_
  simp only [List.set_cons_zero, List.set_cons_succ]
  refine n_ (t_ (s_ (s_ (o_ ?_))))
  refine xg 1 [] rfl rfl ?_
  refine g_rowLen 0 rfl (fun pr35 cr35 hv35 => ?_)
  cases hv35
  refine g_val rfl rfl rfl (y_llen rfl Try.underlying26) ?_
  refine xg 1 [0] rfl rfl ?_
  refine g_lit 87 false rfl (decide_eq_false (by simp; omega)) ?_
  refine n_ (t_ (g_cond_f rfl (g_skip (t_ (s_ ?_)))))
  refine g_node 2 s0 0 0 0 rfl ?_
  refine g_perm (.trans (.cons _ (.swap _ _ _)) (.trans (.swap _ _ _) (.trans (.cons _ (.cons _ (.swap _ _ _))) (.cons _ (.swap _ _ _))))) ?_
  refine o_ ?_
  refine xg 3 [3] rfl (by omega) ?_
  refine n_ (t_ (g_ret ?_))
  refine g_end_cell 3 Try.results43 rfl rfl Try.isAgg28 Try.sizeOf28 rfl ?_
  have hq := RRow.many (ts := ts) (v := (.slice pr35 ((.mk nk ns nm nx nu nv nq :: t2 :: ms).length) cr35)) (hR (.mk nk ns nm nx nu nv nq :: t2 :: ms) k1 g1 true (.stop (by first | exact .inr (.inl rfl) | exact .inl (by omega) | (refine .inr (.inr (.inl ?_)); simp_all; done) | (refine .inr (.inr (.inr ?_)); simp_all; done) | (exfalso; simp_all; done)))) (by simp)
  exact fun w hS => ⟨⟨⟨.mk 2 s0 0 0 0 (.slice pr35 ((.mk nk ns nm nx nu nv nq :: t2 :: ms).length) cr35) (.mk nk ns nm nx nu nv nq :: t2 :: ms), k1, g1, true, off1, c1⟩, hq, hpos1, hgb1, hk01⟩, rfl, hS.pick [0,0,0] rfl⟩
 refine xg 16 [] rfl rfl ?_
 refine n_ (t_ (g_cond_f rfl (g_exit (g_then_exit (g_then_exit (g_in_exit (t_ (s_ ?_))))))))
 rcases b1 with _ | _ <;> rcases ms with _ | ⟨⟨nk, ns, nm, nx, nu, nv, nq⟩, _ | ⟨t2, ms⟩⟩
 ·refine o_ ?_
  refine xg 5 [3] rfl (by omega) ?_
  refine g_lit 77 false rfl (rfl) ?_
  refine xg 2 [] rfl rfl ?_
  refine g_rowLen 0 rfl (fun pr36 cr36 hv36 => ?_)
  cases hv36
  refine g_val rfl rfl rfl (y_llen rfl Try.underlying26) ?_
  refine xg 1 [0] rfl rfl ?_
  refine g_lit 81 true rfl (by decide) ?_
  refine xg 3 [] rfl rfl ?_
  refine g_st 3 rfl rfl rfl Try.sizeOf4 rfl rfl rfl ?_
  simp only [List.set_cons_zero, List.set_cons_succ]
  refine n_ (t_ (s_ (s_ (o_ ?_))))
  refine xg 3 [0] rfl rfl ?_
  refine g_lit 87 false rfl (by decide) ?_
  refine n_ (t_ (g_cond_f rfl (g_skip (t_ (s_ ?_)))))
  refine g_node 2 s0 0 0 0 rfl ?_
  refine g_perm (.trans (.cons _ (.swap _ _ _)) (.trans (.swap _ _ _) (.trans (.cons _ (.cons _ (.swap _ _ _))) (.cons _ (.swap _ _ _))))) ?_
  refine o_ ?_
  refine xg 3 [3] rfl (by omega) ?_
  refine n_ (t_ (g_ret ?_))
  refine g_end_cell 3 Try.results43 rfl rfl Try.isAgg28 Try.sizeOf28 rfl ?_
  have hq := RRow.many (ts := ts) (v := (.slice pr36 (([] : List MT).length) cr36)) (hR ([] : List MT) k1 g1 false (.stop (by first | exact .inr (.inl rfl) | exact .inl (by omega) | (refine .inr (.inr (.inl ?_)); simp_all; done) | (refine .inr (.inr (.inr ?_)); simp_all; done) | (exfalso; simp_all; done)))) (by simp)
  exact fun w hS => ⟨⟨⟨.mk 2 s0 0 0 0 (.slice pr36 (([] : List MT).length) cr36) ([] : List MT), k1, g1, true, off1, c1⟩, hq, hpos1, ⟨hgb1.1, hgb1.2.1, fun h => by cases h⟩, hk01⟩, rfl, hS.pick [0,0,0] rfl⟩
 ·refine o_ ?_
  refine xg 5 [3] rfl (by omega) ?_
  refine g_lit 77 false rfl (rfl) ?_
  refine xg 2 [] rfl rfl ?_
  refine g_rowLen 0 rfl (fun pr37 cr37 hv37 => ?_)
  cases hv37
  refine g_val rfl rfl rfl (y_llen rfl Try.underlying26) ?_
  refine xg 1 [0] rfl rfl ?_
  refine g_lit 81 false rfl (decide_eq_false (by simp)) ?_
  refine xg 3 [] rfl rfl ?_
  refine g_st 3 rfl rfl rfl Try.sizeOf4 rfl rfl rfl ?_
  simp only [List.set_cons_zero, List.set_cons_succ]
  refine n_ (t_ (s_ (s_ (o_ ?_))))
  refine xg 3 [0] rfl rfl ?_
  refine g_lit 87 true rfl (decide_eq_true rfl) ?_
  refine n_ (t_ (g_cond_t rfl (s_ ?_)))
  refine g_perm (.trans (.cons _ (.cons _ (.swap _ _ _))) (.trans (.cons _ (.swap _ _ _)) (.trans (.swap _ _ _) (.trans (.cons _ (.cons _ (.cons _ (.swap _ _ _)))) (.trans (.cons _ (.cons _ (.swap _ _ _))) (.trans (.cons _ (.swap _ _ _)) (.cons _ (.cons _ (.swap _ _ _))))))))) ?_
  refine g_kids 2 rfl (fun pv cv hv => ?_)
  cases hv
  have hone : ([.mk nk ns nm nx nu (.slice pv nq.length cv) nq] : List MT).length = 1 := rfl
  refine o_ ?_
  refine xg 1 [] rfl rfl ?_
  refine g_rowCase 3 rfl (by omega) (fun gr38 cr38 hv38 => ?_)
  cases hv38
  refine g_val rfl rfl rfl (y_idxAddr (m := 0 * 9 + 0) rfl rfl Try.underlying26 Try.sizeOf28 (by omega) (by omega) (by omega)) ?_
  refine g_val rfl rfl rfl (y_ldRN (k := 9) (vs := nC (.mk nk ns nm nx nu (.slice pv nq.length cv) nq)) 3 rfl Try.isAgg28 Try.sizeOf28 rfl (fm_elem nC 9 nC_len _ 0 _ (rfl)) (nC_len _)) ?_
  refine xg 1 [4] rfl (by omega) ?_
  refine n_ (t_ (g_ret (g_then_ret ?_)))
  refine g_end_cell 4 Try.results43 rfl rfl Try.isAgg28 Try.sizeOf28 rfl ?_
  exact fun w hS => ⟨⟨⟨.mk nk ns nm nx nu _ nq, k1, g1, false, off1, c1⟩, .one (hR _ _ _ _ (.stop (by first | exact .inr (.inl rfl) | exact .inl (by omega) | (refine .inr (.inr (.inl ?_)); simp_all; done) | (refine .inr (.inr (.inr ?_)); simp_all; done) | (exfalso; simp_all; done)))), hpos1, hgb1, hk01⟩, rfl, hS.pick [0,0,0] rfl⟩
 ·refine o_ ?_
  refine xg 5 [3] rfl (by omega) ?_
  refine g_lit 77 false rfl (rfl) ?_
  refine xg 2 [] rfl rfl ?_
  refine g_rowLen 0 rfl (fun pr39 cr39 hv39 => ?_)
  cases hv39
  refine g_val rfl rfl rfl (y_llen rfl Try.underlying26) ?_
  refine xg 1 [0] rfl rfl ?_
  refine g_lit 81 false rfl (decide_eq_false (by simp; omega)) ?_
  refine xg 3 [] rfl rfl ?_
  refine g_st 3 rfl rfl rfl Try.sizeOf4 rfl rfl rfl ?_
  simp only [List.set_cons_zero, List.set_cons_succ]
  refine n_ (t_ (s_ (s_ (o_ ?_))))
  refine xg 3 [0] rfl rfl ?_
  refine g_lit 87 false rfl (decide_eq_false (by simp; omega)) ?_
  refine n_ (t_ (g_cond_f rfl (g_skip (t_ (s_ ?_)))))
  refine g_node 2 s0 0 0 0 rfl ?_
  refine g_perm (.trans (.cons _ (.swap _ _ _)) (.trans (.swap _ _ _) (.trans (.cons _ (.cons _ (.swap _ _ _))) (.cons _ (.swap _ _ _))))) ?_
  refine o_ ?_
  refine xg 3 [3] rfl (by omega) ?_
  refine n_ (t_ (g_ret ?_))
  refine g_end_cell 3 Try.results43 rfl rfl Try.isAgg28 Try.sizeOf28 rfl ?_
  have hq := RRow.many (ts := ts) (v := (.slice pr39 ((.mk nk ns nm nx nu nv nq :: t2 :: ms).length) cr39)) (hR (.mk nk ns nm nx nu nv nq :: t2 :: ms) k1 g1 false (.stop (by first | exact .inr (.inl rfl) | exact .inl (by omega) | (refine .inr (.inr (.inl ?_)); simp_all; done) | (refine .inr (.inr (.inr ?_)); simp_all; done) | (exfalso; simp_all; done)))) (by simp)
  exact fun w hS => ⟨⟨⟨.mk 2 s0 0 0 0 (.slice pr39 ((.mk nk ns nm nx nu nv nq :: t2 :: ms).length) cr39) (.mk nk ns nm nx nu nv nq :: t2 :: ms), k1, g1, false, off1, c1⟩, hq, hpos1, hgb1, hk01⟩, rfl, hS.pick [0,0,0] rfl⟩
 ·refine o_ ?_
  refine xg 5 [3] rfl (by omega) ?_
  refine g_lit 77 true rfl (rfl) ?_
  refine xg 7 [] rfl rfl ?_
  refine g_st 3 rfl rfl rfl Try.sizeOf4 rfl rfl rfl ?_
  simp only [List.set_cons_zero, List.set_cons_succ]
  refine n_ (t_ (s_ (s_ (o_ ?_))))
  refine xg 1 [] rfl rfl ?_
  refine g_rowLen 0 rfl (fun pr40 cr40 hv40 => ?_)
  cases hv40
  refine g_val rfl rfl rfl (y_llen rfl Try.underlying26) ?_
  refine xg 1 [0] rfl rfl ?_
  refine g_lit 87 false rfl (by decide) ?_
  refine n_ (t_ (g_cond_f rfl (g_skip (t_ (s_ ?_)))))
  refine g_node 2 s0 0 0 0 rfl ?_
  refine g_perm (.trans (.cons _ (.swap _ _ _)) (.trans (.swap _ _ _) (.trans (.cons _ (.cons _ (.swap _ _ _))) (.cons _ (.swap _ _ _))))) ?_
  refine o_ ?_
  refine xg 3 [3] rfl (by omega) ?_
  refine n_ (t_ (g_ret ?_))
  refine g_end_cell 3 Try.results43 rfl rfl Try.isAgg28 Try.sizeOf28 rfl ?_
  have hq := RRow.many (ts := ts) (v := (.slice pr40 (([] : List MT).length) cr40)) (hR ([] : List MT) k1 g1 true (.stop (by first | exact .inr (.inl rfl) | exact .inl (by omega) | (refine .inr (.inr (.inl ?_)); simp_all; done) | (refine .inr (.inr (.inr ?_)); simp_all; done) | (exfalso; simp_all; done)))) (by simp)
  exact fun w hS => ⟨⟨⟨.mk 2 s0 0 0 0 (.slice pr40 (([] : List MT).length) cr40) ([] : List MT), k1, g1, true, off1, c1⟩, hq, hpos1, hgb1, hk01⟩, rfl, hS.pick [0,0,0] rfl⟩
 ·refine o_ ?_
  refine xg 5 [3] rfl (by omega) ?_
  refine g_lit 77 true rfl (rfl) ?_
  refine xg 7 [] rfl rfl ?_
  refine g_st 3 rfl rfl rfl Try.sizeOf4 rfl rfl rfl ?_
  simp only [List.set_cons_zero, List.set_cons_succ]
  refine n_ (t_ (s_ (s_ (o_ ?_))))
  refine xg 1 [] rfl rfl ?_
  refine g_rowLen 0 rfl (fun pr41 cr41 hv41 => ?_)
  cases hv41
  refine g_val rfl rfl rfl (y_llen rfl Try.underlying26) ?_
  refine xg 1 [0] rfl rfl ?_
  refine g_lit 87 true rfl (decide_eq_true rfl) ?_
  refine n_ (t_ (g_cond_t rfl (s_ ?_)))
  refine g_perm (.trans (.cons _ (.cons _ (.swap _ _ _))) (.trans (.cons _ (.swap _ _ _)) (.trans (.swap _ _ _) (.trans (.cons _ (.cons _ (.cons _ (.swap _ _ _)))) (.trans (.cons _ (.cons _ (.swap _ _ _))) (.trans (.cons _ (.swap _ _ _)) (.cons _ (.cons _ (.swap _ _ _))))))))) ?_
  refine g_kids 2 rfl (fun pv cv hv => ?_)
  cases hv
  have hone : ([.mk nk ns nm nx nu (.slice pv nq.length cv) nq] : List MT).length = 1 := rfl
  refine o_ ?_
  refine xg 1 [] rfl rfl ?_
  refine g_rowCase 3 rfl (by omega) (fun gr42 cr42 hv42 => ?_)
  cases hv42
  refine g_val rfl rfl rfl (y_idxAddr (m := 0 * 9 + 0) rfl rfl Try.underlying26 Try.sizeOf28 (by omega) (by omega) (by omega)) ?_
  refine g_val rfl rfl rfl (y_ldRN (k := 9) (vs := nC (.mk nk ns nm nx nu (.slice pv nq.length cv) nq)) 3 rfl Try.isAgg28 Try.sizeOf28 rfl (fm_elem nC 9 nC_len _ 0 _ (rfl)) (nC_len _)) ?_
  refine xg 1 [4] rfl (by omega) ?_
  refine n_ (t_ (g_ret (g_then_ret ?_)))
  refine g_end_cell 4 Try.results43 rfl rfl Try.isAgg28 Try.sizeOf28 rfl ?_
  exact fun w hS => ⟨⟨⟨.mk nk ns nm nx nu _ nq, k1, g1, true, off1, c1⟩, .one (hR _ _ _ _ (.stop (by first | exact .inr (.inl rfl) | exact .inl (by omega) | (refine .inr (.inr (.inl ?_)); simp_all; done) | (refine .inr (.inr (.inr ?_)); simp_all; done) | (exfalso; simp_all; done)))), hpos1, hgb1, hk01⟩, rfl, hS.pick [0,0,0] rfl⟩
 refine o_ ?_
 refine xg 5 [3] rfl (by omega) ?_
 refine g_lit 77 true rfl (rfl) ?_
 refine xg 7 [] rfl rfl ?_
 refine g_st 3 rfl rfl rfl Try.sizeOf4 rfl rfl rfl ?_
 simp only [List.set_cons_zero, List.set_cons_succ]
 refine n_ (t_ (s_ (s_ (o_ ?_))))
 refine xg 1 [] rfl rfl ?_
 refine g_rowLen 0 rfl (fun pr43 cr43 hv43 => ?_)
 cases hv43
 refine g_val rfl rfl rfl (y_llen rfl Try.underlying26) ?_
 refine xg 1 [0] rfl rfl ?_
 refine g_lit 87 false rfl (decide_eq_false (by simp; omega)) ?_
 refine n_ (t_ (g_cond_f rfl (g_skip (t_ (s_ ?_)))))
 refine g_node 2 s0 0 0 0 rfl ?_
 refine g_perm (.trans (.cons _ (.swap _ _ _)) (.trans (.swap _ _ _) (.trans (.cons _ (.cons _ (.swap _ _ _))) (.cons _ (.swap _ _ _))))) ?_
 refine o_ ?_
 refine xg 3 [3] rfl (by omega) ?_
 refine n_ (t_ (g_ret ?_))
 refine g_end_cell 3 Try.results43 rfl rfl Try.isAgg28 Try.sizeOf28 rfl ?_
 have hq := RRow.many (ts := ts) (v := (.slice pr43 ((.mk nk ns nm nx nu nv nq :: t2 :: ms).length) cr43)) (hR (.mk nk ns nm nx nu nv nq :: t2 :: ms) k1 g1 true (.stop (by first | exact .inr (.inl rfl) | exact .inl (by omega) | (refine .inr (.inr (.inl ?_)); simp_all; done) | (refine .inr (.inr (.inr ?_)); simp_all; done) | (exfalso; simp_all; done)))) (by simp)
 exact fun w hS => ⟨⟨⟨.mk 2 s0 0 0 0 (.slice pr43 ((.mk nk ns nm nx nu nv nq :: t2 :: ms).length) cr43) (.mk nk ns nm nx nu nv nq :: t2 :: ms), k1, g1, true, off1, c1⟩, hq, hpos1, hgb1, hk01⟩, rfl, hS.pick [0,0,0] rfl⟩

end Go.Proofs.Ytjdmdpjbijkjaaa

/- The parser: all. -/
namespace Go.Proofs.Ytjdmdpjbijkjaaa
open Go Go.RowKit

set_option maxRecDepth 100000 in
theorem all_step (m : Nat) (hrow : Meth 43 RRow (fun _ => True) m) : Meth 21 RAll (fun _ => True) m := by
 intro pb gb c0 k off c ts g b F w hb hpos hgb hts hm hS0
 refine fn_intro_own Try.func21 rfl Try.ntmps21 rfl rfl hS0 ?_
 refine s_ (o_ ?_)
 refine g_alloc rfl rfl Try.zeroValue28 rfl (fun b1 => ?_)
 refine ntso_ ?_
 refine xg 1 [] rfl rfl ?_
 refine g_perm (.trans (.swap _ _ _) (.cons _ (.swap _ _ _))) ?_
 refine g_callOwn (L0 := [.cells pb 60 [.slice (some ⟨gb, off, none⟩) (ts.length - k) c, .int .i64 g, .bool b], .row 92 7 (.slice (some ⟨gb, 0, none⟩) ts.length c0) ts.length (ts.flatMap tC)]) (fun x : {x : PX // RRow ts k g b x.t x.k x.g x.b ∧ Pos ts x.k x.off x.c ∧ GB x.g x.b ∧ k ≤ x.k} => .agg (nC x.1.t).toArray) (fun x => [PEnt pb gb ts x.1.k x.1.g x.1.b x.1.off x.1.c, TEnt gb c0 ts, .forest [x.1.t]]) rfl rfl rfl Try.call43 (fun w hS => hrow pb gb c0 k off c ts g b _ w (by first | trivial | rfl) hpos hgb hts (by omega) hS.part) ?_
 rintro ⟨⟨⟨nk_r, ns_r, nm_r, nx_r, nu_r, nv_r, nq_r⟩, k_r, g_r, b_r, off_r, c_r⟩, hr_r, hpos_r, hgb_r, hk_r⟩
 dsimp only at hr_r hpos_r hgb_r hk_r
 simp only [List.cons_append, List.nil_append]
 refine g_kids 2 rfl (fun pv_r cv_r hv_r => ?_)
 cases hv_r
 refine g_buildSlice (offs := [0]) rfl rfl Try.underlying26 rfl Try.zeroValue28 (by kernel_rfl) (fun b2 => ?_)
 refine g_val rfl rfl rfl (y_assign rfl) ?_
 refine g_rowOf (n := 1) nC [(.mk nk_r ns_r nm_r nx_r nu_r (.slice pv_r nq_r.length cv_r) nq_r)] 0 rfl rfl nC_len rfl (by decide) ?_
 simp only [List.set_cons_zero]
 refine g_perm (.trans (.cons _ (.cons _ (.swap _ _ _))) (.trans (.cons _ (.swap _ _ _)) (.trans (.cons _ (.cons _ (.cons _ (.swap _ _ _)))) (.cons _ (.cons _ (.swap _ _ _)))))) ?_
 refine n_ (t_ (s_ (g_block ?_)))
 refine g_loop (α := {x : Nat × Int × Bool × Nat × Nat × Value × List MT // Pos ts x.1 x.2.2.2.1 x.2.2.2.2.1 ∧ GB x.2.1 x.2.2.1 ∧ k_r ≤ x.1 ∧ x.2.2.2.2.2.2.length ≤ x.1 + 1 ∧ 1 ≤ x.2.2.2.2.2.2.length ∧ ∀ rows' k2 g2 b2, RBars ts x.1 x.2.1 x.2.2.1 x.2.2.2.2.2.2 rows' k2 g2 b2 → RBars ts k_r g_r b_r [(.mk nk_r ns_r nm_r nx_r nu_r (.slice pv_r nq_r.length cv_r) nq_r)] rows' k2 g2 b2}) (fun x => [(0, .pointer (some ⟨pb, 0, none⟩)), (2, .pointer (some ⟨b1, 0, none⟩)), (3, x.1.2.2.2.2.2.1)]) (fun x => St w F [.row 28 9 x.1.2.2.2.2.2.1 x.1.2.2.2.2.2.2.length (x.1.2.2.2.2.2.2.flatMap nC), .forest x.1.2.2.2.2.2.2, .cells b1 28 (nC (.mk 0 s0 0 0 0 nilS [])), .cells pb 60 [.slice (some ⟨gb, x.1.2.2.2.1, none⟩) (ts.length - x.1.1) x.1.2.2.2.2.1, .int .i64 x.1.2.1, .bool x.1.2.2.1], .row 92 7 (.slice (some ⟨gb, 0, none⟩) ts.length c0) ts.length (ts.flatMap tC)]) (fun x => ts.length - x.1.1) ⟨(k_r, g_r, b_r, off_r, c_r, (.slice (some ⟨b2, 0, none⟩) 1 1), [(.mk nk_r ns_r nm_r nx_r nu_r (.slice pv_r nq_r.length cv_r) nq_r)]), hpos_r, hgb_r, Nat.le_refl _, by simp, by simp, fun _ _ _ _ h => h⟩ [0, 2, 3] rfl (fun w h => h.pick [0,0,0,0,0] rfl) ?_
 rintro ⟨⟨k1, g1, b1, off1, c1, v, rows⟩, hx⟩
 dsimp only
 dsimp only at hx
 obtain ⟨hpos1, hgb1, hk01, hml, hne, hR⟩ := hx
 have hkl := hpos1.1
 refine s_ (s_ (o_ ?_))
 refine xg 6 [3] rfl (by omega) ?_
 first | refine g_casep 12 rfl (fun h1 => ?_) fun h1 => ?_ | refine g_caseb 12 rfl (fun h1 => ?_) fun h1 => ?_
 ·refine xg 1 [] rfl rfl ?_
  refine g_perm (.trans (.cons _ (.cons _ (.swap _ _ _))) (.trans (.cons _ (.swap _ _ _)) (.trans (.swap _ _ _) (.trans (.cons _ (.cons _ (.cons _ (.swap _ _ _)))) (.trans (.cons _ (.cons _ (.swap _ _ _))) (.cons _ (.swap _ _ _))))))) ?_
  refine g_callOwn (L0 := [.cells pb 60 [.slice (some ⟨gb, off1, none⟩) (ts.length - k1) c1, .int .i64 g1, .bool b1], .row 92 7 (.slice (some ⟨gb, 0, none⟩) ts.length c0) ts.length (ts.flatMap tC)]) (fun _ : Unit => .bool (isK ts k1 3)) (fun _ => [.cells pb 60 [.slice (some ⟨gb, off1, none⟩) (ts.length - k1) c1, .int .i64 g1, .bool b1], .row 92 7 (.slice (some ⟨gb, 0, none⟩) ts.length c0) ts.length (ts.flatMap tC)]) rfl rfl rfl Try.call44 (fun w hS => is_any pb gb c0 k1 off1 c1 ts _ _ 3 _ w hpos1 hS.part) (fun _ => ?_)
  simp only [List.cons_append, List.nil_append]
  refine xg 1 [] rfl rfl ?_
  refine n_ (t_ ?_)
  first | refine g_casep 15 rfl (fun h2 => ?_) fun h2 => ?_ | refine g_caseb 15 rfl (fun h2 => ?_) fun h2 => ?_
  ·refine g_cond_t rfl (g_skip (t_ (g_block (s_ ?_))))
   obtain rfl : b1 = false := by simpa using ‹(!b1) = true›
   have h3 : isK ts k1 3 = true := by assumption
   have hk1 := isK_lt h3
   refine o_ ?_
   refine xg 1 [] rfl rfl ?_
   refine g_callOwn (L0 := [.cells pb 60 [.slice (some ⟨gb, off1, none⟩) (ts.length - k1) c1, .int .i64 g1, .bool false], .row 92 7 (.slice (some ⟨gb, 0, none⟩) ts.length c0) ts.length (ts.flatMap tC)]) (fun x : {x : Tok × Nat × Nat // ts[k1]? = some x.1 ∧ Pos ts (k1 + 1) x.2.1 x.2.2} => .agg (tC x.1.1).toArray) (fun x => [.cells pb 60 [.slice (some ⟨gb, x.1.2.1, none⟩) (ts.length - (k1 + 1)) x.1.2.2, .int .i64 g1, .bool false], .row 92 7 (.slice (some ⟨gb, 0, none⟩) ts.length c0) ts.length (ts.flatMap tC)]) rfl rfl rfl Try.call45 (fun w hS => take_any pb gb c0 k1 off1 c1 ts _ _ (by first | omega | exact isK_lt (by assumption)) _ w hpos1 hS.part) ?_
   rintro ⟨⟨t_t, off_t, c_t⟩, ht_t, hpos_t⟩
   dsimp only at ht_t hpos_t
   simp only [List.cons_append, List.nil_append]
   refine nto_ ?_
   refine xg 2 [] rfl rfl ?_
   refine g_callOwn (L0 := [.cells pb 60 [.slice (some ⟨gb, off_t, none⟩) (ts.length - (k1 + 1)) c_t, .int .i64 g1, .bool false], .row 92 7 (.slice (some ⟨gb, 0, none⟩) ts.length c0) ts.length (ts.flatMap tC)]) (fun x : {x : PX // RRow ts (k1 + 1) g1 false x.t x.k x.g x.b ∧ Pos ts x.k x.off x.c ∧ GB x.g x.b ∧ (k1 + 1) ≤ x.k} => .agg (nC x.1.t).toArray) (fun x => [PEnt pb gb ts x.1.k x.1.g x.1.b x.1.off x.1.c, TEnt gb c0 ts, .forest [x.1.t]]) rfl rfl rfl Try.call43 (fun w hS => hrow pb gb c0 (k1 + 1) off_t c_t ts g1 false _ w (by first | trivial | rfl) hpos_t hgb1 hts (by omega) hS.part) ?_
   rintro ⟨⟨⟨nk_s, ns_s, nm_s, nx_s, nu_s, nv_s, nq_s⟩, k_s, g_s, b_s, off_s, c_s⟩, hr_s, hpos_s, hgb_s, hk_s⟩
   dsimp only at hr_s hpos_s hgb_s hk_s
   simp only [List.cons_append, List.nil_append]
   refine g_kids 2 rfl (fun pv_s cv_s hv_s => ?_)
   cases hv_s
   refine g_buildSlice (offs := [0]) rfl rfl Try.underlying26 rfl Try.zeroValue28 (by kernel_rfl) (fun b3 => ?_)
   refine g_appS (bytes := 88) nC ((.mk nk_s ns_s nm_s nx_s nu_s (.slice pv_s nq_s.length cv_s) nq_s)) 4 (j := 0) rfl rfl rfl rfl Try.underlying26 (by kernel_rfl) rfl rfl nC_len rfl (by omega) (by have : maxLen = 9223372036854775807 := rfl; omega) (fun v4 => ?_)
   simp only [List.set_cons_zero, List.set_cons_succ]
   refine xg 1 [] rfl rfl ?_
   refine n_ (g_in_normal ?_)
   refine g_perm (.trans (.cons _ (.cons _ (.cons _ (.cons _ (.swap _ _ _))))) (.trans (.cons _ (.cons _ (.cons _ (.swap _ _ _)))) (.trans (.cons _ (.cons _ (.swap _ _ _))) (.trans (.cons _ (.swap _ _ _)) (.trans (.swap _ _ _) (.trans (.cons _ (.cons _ (.cons _ (.swap _ _ _)))) (.trans (.cons _ (.cons _ (.swap _ _ _))) (.cons _ (.swap _ _ _))))))))) ?_
   refine g_grow ?_
   refine g_perm (.trans (.cons _ (.cons _ (.cons _ (.swap _ _ _)))) (.trans (.cons _ (.cons _ (.swap _ _ _))) (.trans (.cons _ (.swap _ _ _)) (.trans (.swap _ _ _) (.trans (.cons _ (.cons _ (.cons _ (.cons _ (.swap _ _ _))))) (.trans (.cons _ (.cons _ (.cons _ (.swap _ _ _)))) (.trans (.cons _ (.cons _ (.swap _ _ _))) (.trans (.cons _ (.cons _ (.cons _ (.swap _ _ _)))) (.cons _ (.cons _ (.cons _ (.cons _ (.swap _ _ _))))))))))))) ?_
   exact g_again ⟨(k_s, g_s, b_s, off_s, c_s, _, rows ++ [(.mk nk_s ns_s nm_s nx_s nu_s (.slice pv_s nq_s.length cv_s) nq_s)]), hpos_s, hgb_s, by dsimp only; omega, by dsimp only; rw [List.length_append, List.length_singleton]; omega, by dsimp only; rw [List.length_append, List.length_singleton]; omega, fun _ _ _ _ h => hR _ _ _ _ (.more h3 hr_s h)⟩ [0, 2, 3] (by dsimp only; omega) rfl (fun w h => h.pick [0,0,0,0,0] rfl)
  refine g_cond_f rfl (g_exit (g_then_exit (g_then_exit (g_in_exit (t_ (s_ (s_ ?_)))))))
  rcases rows with _ | ⟨⟨nk, ns, nm, nx, nu, nv, nq⟩, _ | ⟨t2, ms⟩⟩
  · exact absurd hne (by simp)
  ·refine o_ ?_
   refine xg 1 [] rfl rfl ?_
   refine g_rowLen 2 rfl (fun pr3 cr3 hv3 => ?_)
   cases hv3
   refine g_val rfl rfl rfl (y_llen rfl Try.underlying26) ?_
   refine xg 1 [0] rfl rfl ?_
   refine g_lit 25 true rfl (decide_eq_true rfl) ?_
   refine n_ (t_ (g_cond_t rfl (s_ ?_)))
   refine g_perm (.cons _ (.cons _ (.swap _ _ _))) ?_
   refine g_kids 2 rfl (fun pv cv hv => ?_)
   cases hv
   have hone : ([.mk nk ns nm nx nu (.slice pv nq.length cv) nq] : List MT).length = 1 := rfl
   refine o_ ?_
   refine xg 1 [] rfl rfl ?_
   refine g_rowCase 3 rfl (by omega) (fun gr4 cr4 hv4 => ?_)
   cases hv4
   refine g_val rfl rfl rfl (y_idxAddr (m := 0 * 9 + 0) rfl rfl Try.underlying26 Try.sizeOf28 (by omega) (by omega) (by omega)) ?_
   refine g_val rfl rfl rfl (y_ldRN (k := 9) (vs := nC (.mk nk ns nm nx nu (.slice pv nq.length cv) nq)) 3 rfl Try.isAgg28 Try.sizeOf28 rfl (fm_elem nC 9 nC_len _ 0 _ (rfl)) (nC_len _)) ?_
   refine xg 1 [4] rfl (by omega) ?_
   refine n_ (t_ (g_ret (g_then_ret ?_)))
   refine g_end_cell 4 Try.results21 rfl rfl Try.isAgg28 Try.sizeOf28 rfl ?_
   exact fun w hS => ⟨⟨⟨.mk nk ns nm nx nu _ nq, k1, g1, b1, off1, c1⟩, .one hr_r (hR _ _ _ _ (.stop (by first | exact .inr (by assumption) | exact .inl (by simpa using ‹(!b1) = false›)))), hpos1, hgb1, by dsimp only; omega⟩, rfl, hS.pick [0,0,0] rfl⟩
  refine o_ ?_
  refine xg 1 [] rfl rfl ?_
  refine g_rowLen 2 rfl (fun pr5 cr5 hv5 => ?_)
  cases hv5
  refine g_val rfl rfl rfl (y_llen rfl Try.underlying26) ?_
  refine xg 1 [0] rfl rfl ?_
  refine g_lit 25 false rfl (decide_eq_false (by simp; omega)) ?_
  refine n_ (t_ (g_cond_f rfl (g_skip (t_ (s_ ?_)))))
  refine g_perm (.trans (.cons _ (.swap _ _ _)) (.trans (.swap _ _ _) (.trans (.cons _ (.cons _ (.swap _ _ _))) (.cons _ (.swap _ _ _))))) ?_
  refine g_node 3 s0 0 0 0 rfl ?_
  refine g_perm (.trans (.swap _ _ _) (.cons _ (.swap _ _ _))) ?_
  refine o_ ?_
  refine xg 3 [3] rfl (by omega) ?_
  refine n_ (t_ (g_ret ?_))
  refine g_end_cell 3 Try.results21 rfl rfl Try.isAgg28 Try.sizeOf28 rfl ?_
  have hq := RAll.many (ts := ts) (v := (.slice pr5 ((.mk nk ns nm nx nu nv nq :: t2 :: ms).length) cr5)) hr_r (hR (.mk nk ns nm nx nu nv nq :: t2 :: ms) k1 g1 b1 (.stop (by first | exact .inr (by assumption) | exact .inl (by simpa using ‹(!b1) = false›)))) (by simp)
  exact fun w hS => ⟨⟨⟨.mk 3 s0 0 0 0 (.slice pr5 ((.mk nk ns nm nx nu nv nq :: t2 :: ms).length) cr5) (.mk nk ns nm nx nu nv nq :: t2 :: ms), k1, g1, b1, off1, c1⟩, hq, hpos1, hgb1, by dsimp only; omega⟩, rfl, hS.pick [0,0,0] rfl⟩
 refine xg 3 [] rfl rfl ?_
 refine n_ (t_ (g_cond_f rfl (g_exit (g_then_exit (g_then_exit (g_in_exit (t_ (s_ (s_ ?_)))))))))
 rcases rows with _ | ⟨⟨nk, ns, nm, nx, nu, nv, nq⟩, _ | ⟨t2, ms⟩⟩
 · exact absurd hne (by simp)
 ·refine o_ ?_
  refine xg 1 [] rfl rfl ?_
  refine g_rowLen 0 rfl (fun pr6 cr6 hv6 => ?_)
  cases hv6
  refine g_val rfl rfl rfl (y_llen rfl Try.underlying26) ?_
  refine xg 1 [0] rfl rfl ?_
  refine g_lit 25 true rfl (decide_eq_true rfl) ?_
  refine n_ (t_ (g_cond_t rfl (s_ ?_)))
  refine g_perm (.trans (.cons _ (.cons _ (.swap _ _ _))) (.trans (.cons _ (.swap _ _ _)) (.trans (.swap _ _ _) (.trans (.cons _ (.cons _ (.cons _ (.swap _ _ _)))) (.trans (.cons _ (.cons _ (.swap _ _ _))) (.trans (.cons _ (.swap _ _ _)) (.cons _ (.cons _ (.swap _ _ _))))))))) ?_
  refine g_kids 2 rfl (fun pv cv hv => ?_)
  cases hv
  have hone : ([.mk nk ns nm nx nu (.slice pv nq.length cv) nq] : List MT).length = 1 := rfl
  refine o_ ?_
  refine xg 1 [] rfl rfl ?_
  refine g_rowCase 3 rfl (by omega) (fun gr7 cr7 hv7 => ?_)
  cases hv7
  refine g_val rfl rfl rfl (y_idxAddr (m := 0 * 9 + 0) rfl rfl Try.underlying26 Try.sizeOf28 (by omega) (by omega) (by omega)) ?_
  refine g_val rfl rfl rfl (y_ldRN (k := 9) (vs := nC (.mk nk ns nm nx nu (.slice pv nq.length cv) nq)) 3 rfl Try.isAgg28 Try.sizeOf28 rfl (fm_elem nC 9 nC_len _ 0 _ (rfl)) (nC_len _)) ?_
  refine xg 1 [4] rfl (by omega) ?_
  refine n_ (t_ (g_ret (g_then_ret ?_)))
  refine g_end_cell 4 Try.results21 rfl rfl Try.isAgg28 Try.sizeOf28 rfl ?_
  exact fun w hS => ⟨⟨⟨.mk nk ns nm nx nu _ nq, k1, g1, b1, off1, c1⟩, .one hr_r (hR _ _ _ _ (.stop (by first | exact .inr (by assumption) | exact .inl (by simpa using ‹(!b1) = false›)))), hpos1, hgb1, by dsimp only; omega⟩, rfl, hS.pick [0,0,0] rfl⟩
 refine o_ ?_
 refine xg 1 [] rfl rfl ?_
 refine g_rowLen 0 rfl (fun pr8 cr8 hv8 => ?_)
 cases hv8
 refine g_val rfl rfl rfl (y_llen rfl Try.underlying26) ?_
 refine xg 1 [0] rfl rfl ?_
 refine g_lit 25 false rfl (decide_eq_false (by simp; omega)) ?_
 refine n_ (t_ (g_cond_f rfl (g_skip (t_ (s_ ?_)))))
 refine g_node 3 s0 0 0 0 rfl ?_
 refine g_perm (.trans (.cons _ (.swap _ _ _)) (.trans (.swap _ _ _) (.trans (.cons _ (.cons _ (.swap _ _ _))) (.cons _ (.swap _ _ _))))) ?_
 refine o_ ?_
 refine xg 3 [3] rfl (by omega) ?_
 refine n_ (t_ (g_ret ?_))
 refine g_end_cell 3 Try.results21 rfl rfl Try.isAgg28 Try.sizeOf28 rfl ?_
 have hq := RAll.many (ts := ts) (v := (.slice pr8 ((.mk nk ns nm nx nu nv nq :: t2 :: ms).length) cr8)) hr_r (hR (.mk nk ns nm nx nu nv nq :: t2 :: ms) k1 g1 b1 (.stop (by first | exact .inr (by assumption) | exact .inl (by simpa using ‹(!b1) = false›)))) (by simp)
 exact fun w hS => ⟨⟨⟨.mk 3 s0 0 0 0 (.slice pr8 ((.mk nk ns nm nx nu nv nq :: t2 :: ms).length) cr8) (.mk nk ns nm nx nu nv nq :: t2 :: ms), k1, g1, b1, off1, c1⟩, hq, hpos1, hgb1, by dsimp only; omega⟩, rfl, hS.pick [0,0,0] rfl⟩

/-- The parser's methods do what the relation tells. -/
theorem all_ok : ∀ m, Meth 21 RAll (fun _ => True) m := by
  intro m
  induction m with
  | zero => intro pb gb c0 k off c ts g b F w _ _ _ _ hm _; omega
  | succ m ih => exact all_step (m + 1) (row_step m (grp_step m ih))

end Go.Proofs.Ytjdmdpjbijkjaaa

/- pattern.Parse, of texts without brackets, backslashes, anchors and braces. -/
namespace Go.Proofs.Ytjdmdpjbijkjaaa
open Go Go.RowKit

theorem g_end_cell2 {P : Program} {N : Nat} {R : Regs} {fn : Func} {Rr : Ending → World → Prop} {W0 : World} {F : List Nat} {L : List Ent} {t b n u : Nat} {ty t' : TypeId} {cs : List Value} {v : Value} (i : Nat) (hr : fn.results = #[.cell t ty, .tmp u]) (ht : R.lookup t = some (.pointer (some ⟨b, 0, none⟩))) (hu : R.lookup u = some v) (hi : L[i]? = some (.cells b t' cs))
    (ha : ∀ w, (isAgg ty).run P w = .ok true w) (hz : ∀ w, (sizeOf ty).run P w = .ok n w) (hn : cs.length = n) (h : ∀ w, St W0 F L w → Rr (.returned (.tuple #[.agg cs.toArray, v])) w) : G N R (St W0 F L) (bodyPost P fn Rr .ret) :=
  g_end (fun a w hR hS => by
    have e := run_row (P := P) (off := 0) (vs := cs) (hS.cells hi) ha hz (by rw [List.drop_zero, List.take_of_length_le (by omega)]) hn
    simp [results, hr, hR.getD ht, hR.getD hu, asAddr, e]) h
def zMT : MT := .mk 0 s0 0 0 0 nilS []
theorem tokB_len (c : UInt8) (ts : List Tok) (d : Int) : (tokB c ts d).1.length = ts.length + 1 := by unfold tokB; split <;> (try split) <;> (try split) <;> simp
theorem tokE_len (c : UInt8) (ts : List Tok) (d : Int) : (tokE c ts d).1.length = ts.length + 1 := by unfold tokE; (repeat' split) <;> simp
theorem tokF_len {f : UInt8 → List Tok → Int → List Tok × Int} (hf : ∀ c ts d, (f c ts d).1.length = ts.length + 1) : ∀ (l : List UInt8) (ts : List Tok) (d : Int) (ts' : List Tok), tokF f l ts d = some ts' → ts'.length = ts.length + l.length := by
  intro l
  induction l with
  | nil => intro ts d ts' h; simp only [tokF] at h; split at h; cases h; simp; cases h
  | cons c l ih =>
    intro ts d ts' h
    simp only [tokF] at h
    split at h
    · cases h
    · rw [ih _ _ _ h, hf, List.length_cons]; omega
def parR (f : UInt8 → List Tok → Int → List Tok × Int) (l0 : List UInt8) (x : MT × Int) : Prop :=
  (x = (zMT, 91) ∧ (l0 = [] ∨ 200 < l0.length ∨ tokF f l0 [] 0 = none ∨ ∃ ts t k g b, tokF f l0 [] 0 = some ts ∧ RAll ts 0 0 false t k g b ∧ (b = true ∨ k < ts.length))) ∨
  (x.2 = 0 ∧ ∃ ts k g, tokF f l0 [] 0 = some ts ∧ l0 ≠ [] ∧ l0.length ≤ 200 ∧ RAll ts 0 0 false x.1 k g false ∧ ts.length ≤ k)

end Go.Proofs.Ytjdmdpjbijkjaaa

/- class: Both, Not, Named, single. -/
namespace Go.Proofs.Ytjdmdpjbijkjaaa
open Go Go.RowKit

/-- Are two sets one? -/
def eq4 (s t : Nat → Int) : Bool := s 0 == t 0 && (s 1 == t 1 && (s 2 == t 2 && s 3 == t 3))
theorem eq4_self (s : Nat → Int) : (!eq4 s s) = false := by simp [eq4]
theorem run_eq4 (s t : Nat → Int) (w : World) : (Op.equalIn 10000 25 (.agg (s4C s).toArray) (.agg (s4C t).toArray)).run Try.prog w = .ok (s 0 == t 0 && (s 1 == t 1 && (s 2 == t 2 && s 3 == t 3))) w := by
  have u3 := Try.underlying23
  have a3 := Try.isAgg23
  have z3 := Try.sizeOf23
  rw [show (10000 : Nat) = 9999 + 1 from rfl, Op.equalIn]
  unfold s4C
  simp only [Sem.run_bind, run_underlying Try.underlying25, Result.andThen_ok]
  simp only [Std.Legacy.Range.forIn_eq_forIn_range', Std.Legacy.Range.size, Nat.sub_zero, Nat.add_sub_cancel, Nat.div_one, List.range'_succ, List.range'_zero, List.forIn_cons, List.forIn_nil]
  go_simp
  by_cases h1 : s 0 = t 0 <;> by_cases h2 : s 1 = t 1 <;> by_cases h3 : s 2 = t 2 <;> by_cases h4 : s 3 = t 3 <;> simp [h1, h2, h3, h4]
section
variable {N : Nat} {R : Regs} {S : World → Prop} {dst : Option Tmp} {ty t' : TypeId} {pos : String} {af : Array Edge} {gd : Option (Nat × Bool)} {x y : Operand}
theorem y_setNe (s t : Nat → Int) (hx : ev R x = some (.agg (s4C s).toArray)) (hy : ev R y = some (.agg (s4C t).toArray)) : Yv Try.prog N R S ⟨dst, .binOp .neq 25 x y t', ty, pos, af, gd⟩ (.bool (!eq4 s t)) :=
  y_bin hx hy fun w => by
    rw [Sem.run_bind, run_eqGuard_agg w _ _ _ _ _ _ (by kernel_rfl), Result.andThen_ok, run_neq_struct, run_eq4]; rfl
end
def notW (a : Int) : Int := IntKind.u64.wrap ((BitVec.ofInt 64 IntKind.u64.max ^^^ BitVec.ofInt 64 a).toNat : Int)
section
variable {P : Program} {N : Nat} {R : Regs} {S : World → Prop} {dst : Option Tmp} {ty t t' : TypeId} {pos : String} {af : Array Edge} {gd : Option (Nat × Bool)} {x y : Operand} {a b : Int}
theorem y_xorU (hx : ev R x = some (.int .u64 a)) : Yv P N R S ⟨dst, .unOp .xor t x, ty, pos, af, gd⟩ (.int .u64 (notW a)) := y_un hx fun w => rfl
theorem g_end_cell3 {fn : Func} {Rr : Ending → World → Prop} {W0 : World} {F : List Nat} {L : List Ent} {t b n u u2 : Nat} {ty t' : TypeId} {cs : List Value} {v v2 : Value} (i : Nat) (hr : fn.results = #[.cell t ty, .tmp u, .tmp u2]) (ht : R.lookup t = some (.pointer (some ⟨b, 0, none⟩))) (hu : R.lookup u = some v) (hu2 : R.lookup u2 = some v2) (hi : L[i]? = some (.cells b t' cs))
    (ha : ∀ w, (isAgg ty).run P w = .ok true w) (hz : ∀ w, (sizeOf ty).run P w = .ok n w) (hn : cs.length = n) (h : ∀ w, St W0 F L w → Rr (.returned (.tuple #[.agg cs.toArray, v, v2])) w) : G N R (St W0 F L) (bodyPost P fn Rr .ret) :=
  g_end (fun a w hR hS => by
    have e := run_row (P := P) (off := 0) (vs := cs) (hS.cells hi) ha hz (by rw [List.drop_zero, List.take_of_length_le (by omega)]) hn
    simp [results, hr, hR.getD ht, hR.getD hu, hR.getD hu2, asAddr, e]) h
end
/-- The library's variable holds a number. -/
def MaxHere (w : World) : Prop := ∃ m, w.cell? ⟨0, 0, none⟩ = some (.int .i64 m)
theorem MaxHere.of_heap {w w' : World} (h : MaxHere w) (e : w'.heap[0]? = w.heap[0]?) : MaxHere w' := by
  obtain ⟨m, hm⟩ := h
  exact ⟨m, by unfold World.cell? at hm ⊢; dsimp only at hm ⊢; rw [e]; exact hm⟩
theorem MaxHere.pos {w : World} (h : MaxHere w) : 0 < w.heap.size := by
  obtain ⟨m, hm⟩ := h
  unfold World.cell? at hm
  dsimp only at hm
  by_cases h0 : 0 < w.heap.size
  · exact h0
  · rw [Array.getElem?_eq_none (by omega)] at hm; cases hm
theorem St.maxHere {W0 w : World} {F : List Nat} {L : List Ent} (h : St W0 F L w) (hz : MaxHere W0) (hF : 0 ∉ F) : MaxHere w := hz.of_heap (h.keep 0 hz.pos hF)
theorem hasPrefix_any (s p : ByteArray) (w : World) : Calls Try.prog 62 #[.string s, .string p] w fun e w' => e = .returned (.bool (Lib.hasPrefix s.data.toList p.data.toList)) ∧ Below w.heap.size w w' :=
  (Try.strings_HasPrefix s p w).mono fun e w' ⟨he, hw⟩ => ⟨he, hw ▸ Below.refl _ _⟩

/-- The first i of f, the others of a. -/
def part (i : Nat) (f a : Nat → Int) : Nat → Int := fun k => if k < i then f k else a k
def bothS (a b : Nat → Int) : Nat → Int := fun k => IntKind.u64.wrap ((BitVec.ofInt 64 (a k) ||| BitVec.ofInt 64 (b k)).toNat : Int)
def notS (a : Nat → Int) : Nat → Int := fun k => notW (a k)
theorem part_get {i : Nat} (f a : Nat → Int) (h : i < 4) : (s4C (part i f a))[i]? = some (.int .u64 (a i)) := by rw [s4_get _ _ h]; unfold part; rw [if_neg (Nat.lt_irrefl _)]
theorem part_set {i : Nat} (f a : Nat → Int) (h : i < 4) : (s4C (part i f a)).set i (.int .u64 (f i)) = s4C (part (i + 1) f a) := by
  rw [s4_set _ _ _ h]
  congr 1
  funext k
  unfold upd part
  by_cases h1 : k = i
  · subst h1; rw [if_pos rfl, if_pos (by omega)]
  · rw [if_neg h1]; by_cases h2 : k < i
    · rw [if_pos h2, if_pos (by omega)]
    · rw [if_neg h2, if_neg (by omega)]

set_option maxRecDepth 100000 in
theorem both_any (a b : Nat → Int) (w : World) :
    Calls Try.prog 65 #[.agg (s4C a).toArray, .agg (s4C b).toArray] w fun e w' => e = .returned (.agg (s4C (bothS a b)).toArray) ∧ Below w.heap.size w w' := by
 refine fn_intro Try.func65 rfl Try.ntmps65 rfl rfl ?_
 refine s_ (o_ ?_)
 refine g_box rfl rfl rfl rfl (fun b1 => ?_)
 refine g_box rfl rfl rfl rfl (fun b2 => ?_)
 refine g_alloc rfl rfl Try.zeroValue25 rfl (fun b3 => ?_)
 refine n_ (t_ (s_ (s_ (o_ ?_))))
 refine xg 1 [] rfl rfl ?_
 refine n_ (t_ (g_block ?_))
 refine g_loop (α := {x : Nat // x ≤ 4}) (fun x => [(2, .pointer (some ⟨b1, 0, none⟩)), (3, .pointer (some ⟨b2, 0, none⟩)), (4, .pointer (some ⟨b3, 0, none⟩)), (6, .int .i64 (x.1 : Int))]) (fun x => St w [] [.cells b3 25 (s4C s0), .cells b2 25 (s4C b), .cells b1 25 (s4C (part x.1 (bothS a b) a))]) (fun x => 4 - x.1) ⟨0, by omega⟩ [2, 3, 4, 6] rfl (fun w h => h.pick [0,0,0] rfl) ?_
 rintro ⟨i, hi⟩
 dsimp only
 refine s_ (o_ ?_)
 refine xg 1 [0] rfl rfl ?_
 refine n_ (t_ (s_ ?_))
 refine g_casep 7 rfl (fun h1 => ?_) fun h1 => ?_
 ·refine g_cond_t rfl (g_skip (t_ (s_ (g_block (s_ (o_ ?_))))))
  refine xg 2 [] rfl rfl ?_
  refine n_ (t_ ?_)
  refine k_go [1] rfl (by kernel_rfl) (fun _ _ _ _ _ h => h) fun hQ => ?_
  refine k_x 0 [1] [] hQ (by kernel_rfl) rfl rfl rfl rfl rfl rfl ?_
  refine k_take 1 rfl (by kernel_rfl) hQ rfl rfl rfl (fun _ h => h.pick [1] rfl) (y_idxArr (m := i) rfl rfl Try.underlying25 Try.sizeOf23 (by omega) (by omega) (by omega)) ?_
  refine k_x 3 [1] [] hQ (by kernel_rfl) rfl rfl rfl rfl rfl rfl ?_
  refine k_take 4 rfl (by kernel_rfl) hQ rfl rfl rfl (fun _ h => h.pick [1] rfl) (y_idxArr (m := i) rfl rfl Try.underlying25 Try.sizeOf23 (by omega) (by omega) (by omega)) ?_
  refine k_take 5 rfl (by kernel_rfl) hQ rfl rfl rfl (fun _ h => h.pick [1] rfl) (y_ld (off := i) 0 rfl Try.isAgg23 rfl (s4_get _ _ (by omega))) ?_
  refine k_one 2 (by kernel_rfl) ?_
  refine k_op 2 rfl ?_
  refine g_val (v := .int .u64 (a i)) rfl rfl rfl (y_ld (off := i) 2 rfl Try.isAgg23 rfl (part_get _ _ (by omega))) ?_
  refine n_ ?_
  refine k_end (fun _ h => h.pick [1] rfl) ?_
  refine k_take 6 rfl (by kernel_rfl) hQ rfl rfl rfl (fun _ h => h.pick [1] rfl) (y_or rfl rfl) ?_
  refine k_take 7 rfl (by kernel_rfl) hQ rfl rfl rfl (fun _ h => h.pick [1] rfl) (y_idxArr (m := i) rfl rfl Try.underlying25 Try.sizeOf23 (by omega) (by omega) (by omega)) ?_
  refine k_one 8 (by kernel_rfl) ?_
  refine k_op 8 rfl ?_
  refine g_stV 2 rfl rfl rfl Try.sizeOf23 rfl rfl (show i < 4 by omega) ?_
  simp only [List.set_cons_zero, List.set_cons_succ]
  rw [show (s4C (part i (bothS a b) a)).set i (.int .u64 (IntKind.u64.wrap ((BitVec.ofInt IntKind.u64.bits (a i) ||| BitVec.ofInt IntKind.u64.bits (b i)).toNat : Int))) = _ from part_set (bothS a b) a (by omega)]
  refine n_ ?_
  refine k_end (fun _ h => h.pick [1] rfl) ?_
  refine k_done (by kernel_rfl) ?_
  refine g_in_normal (t_ (o_ ?_))
  refine xg 2 [] rfl (by omega) ?_
  refine n_ ?_
  exact g_again ⟨i + 1, by omega⟩ [2, 3, 4, 6] (by dsimp only; omega) rfl (fun w h => h.pick [0,0,0] rfl)
 refine g_cond_f rfl (g_exit (g_then_exit (g_then_exit (g_in_exit (t_ (s_ (o_ ?_)))))))
 refine xg 1 [2] rfl (by omega) ?_
 refine g_stN 0 rfl rfl rfl (by kernel_rfl) rfl rfl rfl rfl ?_
 simp only [List.set_cons_zero]
 refine n_ (t_ (g_ret ?_))
 refine g_end_cell 0 Try.results65 rfl rfl Try.isAgg25 Try.sizeOf25 rfl ?_
 obtain rfl : i = 4 := by omega
 exact fun w hS => ⟨rfl, hS.below⟩

theorem both_m (a b : Nat → Int) : Meets Try.prog (fun _ => True) 65 [.agg (s4C a).toArray, .agg (s4C b).toArray] (fun _ : Unit => .agg (s4C (bothS a b)).toArray) [] (fun _ => []) := meets1 Try.call65 (fun w hI => both_any a b w)
set_option maxRecDepth 100000 in
theorem not_any (a : Nat → Int) (w : World) :
    Calls Try.prog 67 #[.agg (s4C a).toArray] w fun e w' => e = .returned (.agg (s4C (notS a)).toArray) ∧ Below w.heap.size w w' := by
 refine fn_intro Try.func67 rfl Try.ntmps67 rfl rfl ?_
 refine s_ (o_ ?_)
 refine g_box rfl rfl rfl rfl (fun b1 => ?_)
 refine g_alloc rfl rfl Try.zeroValue25 rfl (fun b2 => ?_)
 refine n_ (t_ (s_ (s_ (o_ ?_))))
 refine xg 1 [] rfl rfl ?_
 refine n_ (t_ (g_block ?_))
 refine g_loop (α := {x : Nat // x ≤ 4}) (fun x => [(1, .pointer (some ⟨b1, 0, none⟩)), (2, .pointer (some ⟨b2, 0, none⟩)), (4, .int .i64 (x.1 : Int))]) (fun x => St w [] [.cells b2 25 (s4C s0), .cells b1 25 (s4C (part x.1 (notS a) a))]) (fun x => 4 - x.1) ⟨0, by omega⟩ [1, 2, 4] rfl (fun w h => h.pick [0,0] rfl) ?_
 rintro ⟨i, hi⟩
 dsimp only
 refine s_ (o_ ?_)
 refine xg 1 [0] rfl rfl ?_
 refine n_ (t_ (s_ ?_))
 refine g_casep 5 rfl (fun h1 => ?_) fun h1 => ?_
 ·refine g_cond_t rfl (g_skip (t_ (s_ (g_block (s_ (o_ ?_))))))
  refine xg 2 [] rfl rfl ?_
  refine nto_ ?_
  refine xg 2 [] rfl rfl ?_
  refine g_val rfl rfl rfl (y_idxArr (m := i) rfl rfl Try.underlying25 Try.sizeOf23 (by omega) (by omega) (by omega)) ?_
  refine g_val (v := .int .u64 (a i)) rfl rfl rfl (y_ld (off := i) 1 rfl Try.isAgg23 rfl (part_get _ _ (by omega))) ?_
  refine g_val rfl rfl rfl (y_xorU rfl) ?_
  refine g_val rfl rfl rfl (y_idxArr (m := i) rfl rfl Try.underlying25 Try.sizeOf23 (by omega) (by omega) (by omega)) ?_
  refine g_stV 1 rfl rfl rfl Try.sizeOf23 rfl rfl (show i < 4 by omega) ?_
  simp only [List.set_cons_zero, List.set_cons_succ]
  rw [show (s4C (part i (notS a) a)).set i (.int .u64 (notW (a i))) = _ from part_set (notS a) a (by omega)]
  refine n_ (g_in_normal (t_ (o_ ?_)))
  refine xg 2 [] rfl (by omega) ?_
  refine n_ ?_
  exact g_again ⟨i + 1, by omega⟩ [1, 2, 4] (by dsimp only; omega) rfl (fun w h => h.pick [0,0] rfl)
 refine g_cond_f rfl (g_exit (g_then_exit (g_then_exit (g_in_exit (t_ (s_ (o_ ?_)))))))
 refine xg 1 [1] rfl (by omega) ?_
 refine g_stN 0 rfl rfl rfl (by kernel_rfl) rfl rfl rfl rfl ?_
 simp only [List.set_cons_zero]
 refine n_ (t_ (g_ret ?_))
 refine g_end_cell 0 Try.results67 rfl rfl Try.isAgg25 Try.sizeOf25 rfl ?_
 obtain rfl : i = 4 := by omega
 exact fun w hS => ⟨rfl, hS.below⟩

theorem not_m (a : Nat → Int) : Meets Try.prog (fun _ => True) 67 [.agg (s4C a).toArray] (fun _ : Unit => .agg (s4C (notS a)).toArray) [] (fun _ => []) := meets1 Try.call67 (fun w hI => not_any a w)
/-- A call with a result of which little is told, and that leaves what is owned alone. -/
theorem g_callE {P : Program} {N : Nat} {R : Regs} {Q : Exit → Act → World → Prop} {ops : Array Oper} {rest : List Oper} {W0 : World} {F : List Nat} {L : List Ent} {ty : TypeId} {pos : String} {af : Array Edge} {gd : Option (Nat × Bool)} {α : Type} {d : Nat} {f : FuncId} {xs : List Operand} {ats : Array TypeId} {vs : List Value} (r : α → Value)
    (hw : want ops R ⟨some d, .call { callee := .value (.func f), args := xs.toArray, argTypes := ats }, ty, pos, af, gd⟩ = some true) (hN : Nat.blt d N = true)
    (hx : xs.mapM (ev R) = some vs) (hf : ∀ args w, (callFunc f args).run P w = .ok (.enter f args) w) (hc : ∀ w, St W0 F L w → Calls P f vs.toArray w (fun e w' => ∃ x, e = .returned (r x) ∧ Below w.heap.size w w'))
    (h : ∀ x, G N ((d, r x) :: R) (St W0 F L) (wpList P ops Q rest)) : G N R (St W0 F L) (wpList P ops Q (⟨some d, .call { callee := .value (.func f), args := xs.toArray, argTypes := ats }, ty, pos, af, gd⟩ :: rest)) :=
  g_call r (fun _ => St W0 F L) hw hN hx hf (fun w hS => (hc w hS).mono fun _ _ ⟨x, he, hb⟩ => ⟨x, he, by simpa using hS.then (St.of_below hb)⟩) h

set_option maxRecDepth 100000 in
theorem single_any (l : List UInt8) (f : Bool) (w : World) :
    Calls Try.prog 66 #[st8 l, .bool f] w fun e w' => ∃ x : {b : Bool // b = true → l ≠ []}, e = .returned (.bool x.1) ∧ Below w.heap.size w w' := by
 refine fn_intro Try.func66 rfl Try.ntmps66 rfl rfl ?_
 refine s_ ?_
 rcases l with _ | ⟨c, l⟩
 ·refine o_ ?_
  refine xg 1 [] rfl rfl ?_
  refine n_ (t_ (s_ (s_ (o_ ?_))))
  refine xg 2 [] rfl rfl ?_
  refine g_lit 6 true rfl (decide_eq_true rfl) ?_
  refine xg 14 [] rfl rfl ?_
  refine n_ (t_ (g_cond_t rfl (s_ (o_ ?_))))
  refine xg 1 [] rfl rfl ?_
  refine n_ (t_ (g_ret (g_then_ret ?_)))
  refine g_end1 Try.results66 rfl ?_
  exact fun w hS => ⟨⟨_, fun h => by cases h⟩, rfl, hS.below⟩
 refine o_ ?_
 refine xg 1 [] rfl rfl ?_
 refine n_ (t_ (s_ (s_ (o_ ?_))))
 refine xg 2 [] rfl rfl ?_
 refine g_lit 6 false rfl (decide_eq_false (st8_nil c l)) ?_
 refine xg 2 [] rfl rfl ?_
 refine g_val rfl rfl rfl (y_sidx (i := 0) rfl rfl Try.underlying9 (st8_0 c l)) ?_
 refine xg 3 [0] rfl rfl ?_
 refine g_casep 12 rfl (fun h1 => ?_) fun h1 => ?_
 ·refine xg 8 [] rfl rfl ?_
  refine n_ (t_ (g_cond_t rfl (s_ (o_ ?_))))
  refine xg 1 [] rfl rfl ?_
  refine n_ (t_ (g_ret (g_then_ret ?_)))
  refine g_end1 Try.results66 rfl ?_
  exact fun w hS => ⟨⟨_, fun _ => by simp⟩, rfl, hS.below⟩
 refine xg 1 [] rfl rfl ?_
 refine g_val rfl rfl rfl (y_sidx (i := 0) rfl rfl Try.underlying9 (st8_0 c l)) ?_
 refine xg 2 [0] rfl rfl ?_
 refine g_casep 16 rfl (fun h2 => ?_) fun h2 => ?_
 ·refine xg 4 [] rfl rfl ?_
  refine n_ (t_ ?_)
  first | refine g_casep 20 rfl (fun h3 => ?_) fun h3 => ?_ | refine g_caseb 20 rfl (fun h3 => ?_) fun h3 => ?_
  ·refine g_cond_t rfl (s_ (o_ ?_))
   refine xg 1 [] rfl rfl ?_
   refine n_ (t_ (g_ret (g_then_ret ?_)))
   refine g_end1 Try.results66 rfl ?_
   exact fun w hS => ⟨⟨_, fun _ => by simp⟩, rfl, hS.below⟩
  refine g_cond_f rfl (g_skip (t_ (s_ (o_ ?_))))
  refine xg 1 [] rfl rfl ?_
  refine g_call1 rfl rfl rfl Try.call62 (fun w hS => hasPrefix_any _ _ w) ?_
  refine xg 2 [] rfl rfl ?_
  first | refine g_casep 24 rfl (fun h4 => ?_) fun h4 => ?_ | refine g_caseb 24 rfl (fun h4 => ?_) fun h4 => ?_
  ·refine xg 1 [] rfl rfl ?_
   refine g_call1 rfl rfl rfl Try.call62 (fun w hS => hasPrefix_any _ _ w) ?_
   refine xg 3 [] rfl rfl ?_
   first | refine g_casep 29 rfl (fun h5 => ?_) fun h5 => ?_ | refine g_caseb 29 rfl (fun h5 => ?_) fun h5 => ?_
   ·refine xg 1 [] rfl rfl ?_
    refine g_call1 rfl rfl rfl Try.call62 (fun w hS => hasPrefix_any _ _ w) ?_
    refine xg 3 [] rfl rfl ?_
    refine n_ (t_ (g_ret ?_))
    refine g_end1 Try.results66 rfl ?_
    exact fun w hS => ⟨⟨_, fun _ => by simp⟩, rfl, hS.below⟩
   refine xg 5 [] rfl rfl ?_
   refine n_ (t_ (g_ret ?_))
   refine g_end1 Try.results66 rfl ?_
   exact fun w hS => ⟨⟨_, fun _ => by simp⟩, rfl, hS.below⟩
  refine xg 10 [] rfl rfl ?_
  refine n_ (t_ (g_ret ?_))
  refine g_end1 Try.results66 rfl ?_
  exact fun w hS => ⟨⟨_, fun _ => by simp⟩, rfl, hS.below⟩
 refine xg 4 [] rfl rfl ?_
 refine n_ (t_ (g_cond_f rfl (g_skip (t_ (s_ (o_ ?_))))))
 refine xg 1 [] rfl rfl ?_
 refine g_call1 rfl rfl rfl Try.call62 (fun w hS => hasPrefix_any _ _ w) ?_
 refine xg 2 [] rfl rfl ?_
 first | refine g_casep 24 rfl (fun h6 => ?_) fun h6 => ?_ | refine g_caseb 24 rfl (fun h6 => ?_) fun h6 => ?_
 ·refine xg 1 [] rfl rfl ?_
  refine g_call1 rfl rfl rfl Try.call62 (fun w hS => hasPrefix_any _ _ w) ?_
  refine xg 3 [] rfl rfl ?_
  first | refine g_casep 29 rfl (fun h7 => ?_) fun h7 => ?_ | refine g_caseb 29 rfl (fun h7 => ?_) fun h7 => ?_
  ·refine xg 1 [] rfl rfl ?_
   refine g_call1 rfl rfl rfl Try.call62 (fun w hS => hasPrefix_any _ _ w) ?_
   refine xg 3 [] rfl rfl ?_
   refine n_ (t_ (g_ret ?_))
   refine g_end1 Try.results66 rfl ?_
   exact fun w hS => ⟨⟨_, fun _ => by simp⟩, rfl, hS.below⟩
  refine xg 5 [] rfl rfl ?_
  refine n_ (t_ (g_ret ?_))
  refine g_end1 Try.results66 rfl ?_
  exact fun w hS => ⟨⟨_, fun _ => by simp⟩, rfl, hS.below⟩
 refine xg 10 [] rfl rfl ?_
 refine n_ (t_ (g_ret ?_))
 refine g_end1 Try.results66 rfl ?_
 exact fun w hS => ⟨⟨_, fun _ => by simp⟩, rfl, hS.below⟩

set_option maxHeartbeats 1000000 in
set_option maxRecDepth 100000 in
theorem named_any (s : ByteArray) (w : World) :
    Calls Try.prog 64 #[.string s] w fun e w' => ∃ x : (Nat → Int) × Bool, e = .returned (.tuple #[.agg (s4C x.1).toArray, .bool x.2]) ∧ Below w.heap.size w w' := by
 refine fn_intro Try.func64 rfl Try.ntmps64 rfl rfl ?_
 refine s_ (o_ ?_)
 refine g_alloc rfl rfl Try.zeroValue25 rfl (fun b1 => ?_)
 refine xg 1 [] rfl rfl ?_
 refine ntso_ ?_
 refine g_alloc rfl rfl Try.zeroValue25 rfl (fun b2 => ?_)
 refine n_ (t_ (s_ ?_))
 refine g_join (α := Nat × Nat × Nat) (fun x => [(0, .string s), (2, .pointer (some ⟨b1, 0, none⟩)), (3, .bool false), (4, .pointer (some ⟨b2, 0, none⟩)), (5, .pointer (some ⟨x.1, 0, none⟩)), (6, .pointer (some ⟨x.2.1, 0, none⟩)), (7, .pointer (some ⟨x.2.2, 0, none⟩))]) (fun x => [.cells x.1 25 (s4C (withS s0 65 (90 + 1 - 65))), .cells x.2.1 25 (s4C (withS s0 97 (122 + 1 - 97))), .cells x.2.2 25 (s4C (withS s0 48 (57 + 1 - 48))), .cells b2 25 (s4C s0), .cells b1 25 (s4C s0)]) ?_ ?_
 ·rintro ⟨p5, p6, p7⟩
  try dsimp only
  refine t_ (s_ ?_)
  refine k_go [0,0,0,0,0] rfl (by kernel_rfl) (fun _ _ _ _ _ h => h) fun hQ => ?_
  refine k_take 0 rfl (by kernel_rfl) hQ rfl rfl rfl (fun _ h => h.pick [0,0,0,0,0] rfl) (y_ldN (vs := s4C (withS s0 65 (90 + 1 - 65))) 0 rfl Try.isAgg25 Try.sizeOf25 rfl rfl rfl) ?_
  refine k_take 1 rfl (by kernel_rfl) hQ rfl rfl rfl (fun _ h => h.pick [0,0,0,0,0] rfl) (y_ldN (vs := s4C (withS s0 97 (122 + 1 - 97))) 1 rfl Try.isAgg25 Try.sizeOf25 rfl rfl rfl) ?_
  refine k_call 2 (both_m (withS s0 65 (90 + 1 - 65)) (withS s0 97 (122 + 1 - 97))) any_I rfl (by kernel_rfl) hQ rfl rfl rfl (fun _ h => h.pick [0,0,0,0,0] rfl) ?_
  refine k_take 3 rfl (by kernel_rfl) hQ rfl rfl rfl (fun _ h => h.pick [0,0,0,0,0] rfl) (y_ldN (vs := s4C (withS s0 48 (57 + 1 - 48))) 2 rfl Try.isAgg25 Try.sizeOf25 rfl rfl rfl) ?_
  refine k_call 4 (both_m (bothS (withS s0 65 (90 + 1 - 65)) (withS s0 97 (122 + 1 - 97))) (withS s0 48 (57 + 1 - 48))) any_I rfl (by kernel_rfl) hQ rfl rfl rfl (fun _ h => h.pick [0,0,0,0,0] rfl) ?_
  refine k_one 5 (by kernel_rfl) ?_
  refine k_op 5 rfl ?_
  refine g_alloc rfl rfl Try.zeroValue25 rfl (fun b3 => ?_)
  refine n_ ?_
  refine k_end (fun _ h => h.pick [1,1,1,1,1] rfl) ?_
  refine k_one 6 (by kernel_rfl) ?_
  refine k_op 6 rfl ?_
  refine g_stN 0 rfl rfl rfl (by kernel_rfl) rfl rfl rfl rfl ?_
  simp only [List.set_cons_zero]
  refine n_ ?_
  refine k_end (fun _ h => h.pick [1,1,1,1,1] rfl) ?_
  refine k_done (by kernel_rfl) ?_
  refine t_ (s_ (s_ (o_ ?_)))
  refine xg 1 [] rfl rfl ?_
  refine n_ (t_ (g_block (s_ (o_ ?_))))
  refine xg 2 [] rfl rfl ?_
  refine n_ (t_ ?_)
  refine g_casep 21 rfl (fun h1 => ?_) fun h1 => ?_
  ·refine g_cond_t rfl (o_ ?_)
   refine g_val rfl rfl rfl (y_ldN (vs := s4C (withS s0 65 (90 + 1 - 65))) 1 rfl Try.isAgg25 Try.sizeOf25 rfl rfl rfl) ?_
   refine g_val rfl rfl rfl (y_ldN (vs := s4C (withS s0 97 (122 + 1 - 97))) 2 rfl Try.isAgg25 Try.sizeOf25 rfl rfl rfl) ?_
   refine g_c1 (both_m (withS s0 65 (90 + 1 - 65)) (withS s0 97 (122 + 1 - 97))) any_I rfl rfl rfl ?_
   refine g_stN 4 rfl rfl rfl (by kernel_rfl) rfl rfl rfl rfl ?_
   simp only [List.set_cons_zero, List.set_cons_succ]
   refine n_ (g_in_normal (t_ (s_ ?_)))
   refine k_go [0,0,0,0,0] rfl (by kernel_rfl) (fun _ _ _ _ _ h => h) fun hQ => ?_
   refine k_take 0 rfl (by kernel_rfl) hQ rfl rfl rfl (fun _ h => h.pick [0,0,0,0,0] rfl) (y_ldN (vs := s4C (bothS (withS s0 65 (90 + 1 - 65)) (withS s0 97 (122 + 1 - 97)))) 4 rfl Try.isAgg25 Try.sizeOf25 rfl rfl rfl) ?_
   refine k_take 1 rfl (by kernel_rfl) hQ rfl rfl rfl (fun _ h => h.pick [0,0,0,0,0] rfl) (y_ldN (vs := s4C (bothS (withS s0 65 (90 + 1 - 65)) (withS s0 97 (122 + 1 - 97)))) 4 rfl Try.isAgg25 Try.sizeOf25 rfl rfl rfl) ?_
   refine k_take (v := .agg (s4C s0).toArray) 2 rfl (by kernel_rfl) hQ rfl rfl rfl (fun _ h => h.pick [0,0,0,0,0] rfl) (y_build (offs := []) rfl Try.zeroValue25 (by kernel_rfl)) ?_
   refine k_take 3 rfl (by kernel_rfl) hQ rfl rfl rfl (fun _ h => h.pick [0,0,0,0,0] rfl) (y_setNe (bothS (withS s0 65 (90 + 1 - 65)) (withS s0 97 (122 + 1 - 97))) s0 rfl rfl) ?_
   refine k_one 4 (by kernel_rfl) ?_
   refine k_op 4 rfl ?_
   refine g_stN 5 rfl rfl rfl (by kernel_rfl) rfl rfl rfl rfl ?_
   simp only [List.set_cons_zero, List.set_cons_succ]
   refine n_ ?_
   refine k_end (fun _ h => h.pick [0,0,0,0,0] rfl) ?_
   refine k_x 5 [0,0,0,0,0] [] hQ (by kernel_rfl) rfl rfl rfl rfl rfl rfl ?_
   refine k_done (by kernel_rfl) ?_
   refine t_ (g_ret ?_)
   refine g_end_cell2 5 Try.results64 rfl rfl rfl Try.isAgg25 Try.sizeOf25 rfl ?_
   exact fun w hS => ⟨((bothS (withS s0 65 (90 + 1 - 65)) (withS s0 97 (122 + 1 - 97))), _), rfl, hS.below⟩
  refine g_cond_f rfl (s_ (o_ ?_))
  refine xg 2 [] rfl rfl ?_
  refine n_ (t_ ?_)
  refine g_casep 26 rfl (fun h2 => ?_) fun h2 => ?_
  ·refine g_cond_t rfl (o_ ?_)
   refine g_val rfl rfl rfl (y_ldN (vs := s4C (withS s0 48 (57 + 1 - 48))) 3 rfl Try.isAgg25 Try.sizeOf25 rfl rfl rfl) ?_
   refine g_stN 4 rfl rfl rfl (by kernel_rfl) rfl rfl rfl rfl ?_
   simp only [List.set_cons_zero, List.set_cons_succ]
   refine n_ (g_in_normal (t_ (s_ ?_)))
   refine k_go [0,0,0,0,0] rfl (by kernel_rfl) (fun _ _ _ _ _ h => h) fun hQ => ?_
   refine k_take 0 rfl (by kernel_rfl) hQ rfl rfl rfl (fun _ h => h.pick [0,0,0,0,0] rfl) (y_ldN (vs := s4C (withS s0 48 (57 + 1 - 48))) 4 rfl Try.isAgg25 Try.sizeOf25 rfl rfl rfl) ?_
   refine k_take 1 rfl (by kernel_rfl) hQ rfl rfl rfl (fun _ h => h.pick [0,0,0,0,0] rfl) (y_ldN (vs := s4C (withS s0 48 (57 + 1 - 48))) 4 rfl Try.isAgg25 Try.sizeOf25 rfl rfl rfl) ?_
   refine k_take (v := .agg (s4C s0).toArray) 2 rfl (by kernel_rfl) hQ rfl rfl rfl (fun _ h => h.pick [0,0,0,0,0] rfl) (y_build (offs := []) rfl Try.zeroValue25 (by kernel_rfl)) ?_
   refine k_take 3 rfl (by kernel_rfl) hQ rfl rfl rfl (fun _ h => h.pick [0,0,0,0,0] rfl) (y_setNe (withS s0 48 (57 + 1 - 48)) s0 rfl rfl) ?_
   refine k_one 4 (by kernel_rfl) ?_
   refine k_op 4 rfl ?_
   refine g_stN 5 rfl rfl rfl (by kernel_rfl) rfl rfl rfl rfl ?_
   simp only [List.set_cons_zero, List.set_cons_succ]
   refine n_ ?_
   refine k_end (fun _ h => h.pick [0,0,0,0,0] rfl) ?_
   refine k_x 5 [0,0,0,0,0] [] hQ (by kernel_rfl) rfl rfl rfl rfl rfl rfl ?_
   refine k_done (by kernel_rfl) ?_
   refine t_ (g_ret ?_)
   refine g_end_cell2 5 Try.results64 rfl rfl rfl Try.isAgg25 Try.sizeOf25 rfl ?_
   exact fun w hS => ⟨((withS s0 48 (57 + 1 - 48)), _), rfl, hS.below⟩
  refine g_cond_f rfl (s_ (o_ ?_))
  refine xg 2 [] rfl rfl ?_
  refine n_ (t_ ?_)
  refine g_casep 29 rfl (fun h3 => ?_) fun h3 => ?_
  ·refine g_cond_t rfl (o_ ?_)
   refine g_val rfl rfl rfl (y_ldN (vs := s4C (bothS (bothS (withS s0 65 (90 + 1 - 65)) (withS s0 97 (122 + 1 - 97))) (withS s0 48 (57 + 1 - 48)))) 0 rfl Try.isAgg25 Try.sizeOf25 rfl rfl rfl) ?_
   refine g_stN 4 rfl rfl rfl (by kernel_rfl) rfl rfl rfl rfl ?_
   simp only [List.set_cons_zero, List.set_cons_succ]
   refine n_ (g_in_normal (t_ (s_ ?_)))
   refine k_go [0,0,0,0,0] rfl (by kernel_rfl) (fun _ _ _ _ _ h => h) fun hQ => ?_
   refine k_take 0 rfl (by kernel_rfl) hQ rfl rfl rfl (fun _ h => h.pick [0,0,0,0,0] rfl) (y_ldN (vs := s4C (bothS (bothS (withS s0 65 (90 + 1 - 65)) (withS s0 97 (122 + 1 - 97))) (withS s0 48 (57 + 1 - 48)))) 4 rfl Try.isAgg25 Try.sizeOf25 rfl rfl rfl) ?_
   refine k_take 1 rfl (by kernel_rfl) hQ rfl rfl rfl (fun _ h => h.pick [0,0,0,0,0] rfl) (y_ldN (vs := s4C (bothS (bothS (withS s0 65 (90 + 1 - 65)) (withS s0 97 (122 + 1 - 97))) (withS s0 48 (57 + 1 - 48)))) 4 rfl Try.isAgg25 Try.sizeOf25 rfl rfl rfl) ?_
   refine k_take (v := .agg (s4C s0).toArray) 2 rfl (by kernel_rfl) hQ rfl rfl rfl (fun _ h => h.pick [0,0,0,0,0] rfl) (y_build (offs := []) rfl Try.zeroValue25 (by kernel_rfl)) ?_
   refine k_take 3 rfl (by kernel_rfl) hQ rfl rfl rfl (fun _ h => h.pick [0,0,0,0,0] rfl) (y_setNe (bothS (bothS (withS s0 65 (90 + 1 - 65)) (withS s0 97 (122 + 1 - 97))) (withS s0 48 (57 + 1 - 48))) s0 rfl rfl) ?_
   refine k_one 4 (by kernel_rfl) ?_
   refine k_op 4 rfl ?_
   refine g_stN 5 rfl rfl rfl (by kernel_rfl) rfl rfl rfl rfl ?_
   simp only [List.set_cons_zero, List.set_cons_succ]
   refine n_ ?_
   refine k_end (fun _ h => h.pick [0,0,0,0,0] rfl) ?_
   refine k_x 5 [0,0,0,0,0] [] hQ (by kernel_rfl) rfl rfl rfl rfl rfl rfl ?_
   refine k_done (by kernel_rfl) ?_
   refine t_ (g_ret ?_)
   refine g_end_cell2 5 Try.results64 rfl rfl rfl Try.isAgg25 Try.sizeOf25 rfl ?_
   exact fun w hS => ⟨((bothS (bothS (withS s0 65 (90 + 1 - 65)) (withS s0 97 (122 + 1 - 97))) (withS s0 48 (57 + 1 - 48))), _), rfl, hS.below⟩
  refine g_cond_f rfl (s_ (o_ ?_))
  refine xg 2 [] rfl rfl ?_
  refine n_ (t_ ?_)
  refine g_casep 32 rfl (fun h4 => ?_) fun h4 => ?_
  ·refine g_cond_t rfl (o_ ?_)
   refine g_val rfl rfl rfl (y_ldN (vs := s4C (withS s0 65 (90 + 1 - 65))) 1 rfl Try.isAgg25 Try.sizeOf25 rfl rfl rfl) ?_
   refine g_stN 4 rfl rfl rfl (by kernel_rfl) rfl rfl rfl rfl ?_
   simp only [List.set_cons_zero, List.set_cons_succ]
   refine n_ (g_in_normal (t_ (s_ ?_)))
   refine k_go [0,0,0,0,0] rfl (by kernel_rfl) (fun _ _ _ _ _ h => h) fun hQ => ?_
   refine k_take 0 rfl (by kernel_rfl) hQ rfl rfl rfl (fun _ h => h.pick [0,0,0,0,0] rfl) (y_ldN (vs := s4C (withS s0 65 (90 + 1 - 65))) 4 rfl Try.isAgg25 Try.sizeOf25 rfl rfl rfl) ?_
   refine k_take 1 rfl (by kernel_rfl) hQ rfl rfl rfl (fun _ h => h.pick [0,0,0,0,0] rfl) (y_ldN (vs := s4C (withS s0 65 (90 + 1 - 65))) 4 rfl Try.isAgg25 Try.sizeOf25 rfl rfl rfl) ?_
   refine k_take (v := .agg (s4C s0).toArray) 2 rfl (by kernel_rfl) hQ rfl rfl rfl (fun _ h => h.pick [0,0,0,0,0] rfl) (y_build (offs := []) rfl Try.zeroValue25 (by kernel_rfl)) ?_
   refine k_take 3 rfl (by kernel_rfl) hQ rfl rfl rfl (fun _ h => h.pick [0,0,0,0,0] rfl) (y_setNe (withS s0 65 (90 + 1 - 65)) s0 rfl rfl) ?_
   refine k_one 4 (by kernel_rfl) ?_
   refine k_op 4 rfl ?_
   refine g_stN 5 rfl rfl rfl (by kernel_rfl) rfl rfl rfl rfl ?_
   simp only [List.set_cons_zero, List.set_cons_succ]
   refine n_ ?_
   refine k_end (fun _ h => h.pick [0,0,0,0,0] rfl) ?_
   refine k_x 5 [0,0,0,0,0] [] hQ (by kernel_rfl) rfl rfl rfl rfl rfl rfl ?_
   refine k_done (by kernel_rfl) ?_
   refine t_ (g_ret ?_)
   refine g_end_cell2 5 Try.results64 rfl rfl rfl Try.isAgg25 Try.sizeOf25 rfl ?_
   exact fun w hS => ⟨((withS s0 65 (90 + 1 - 65)), _), rfl, hS.below⟩
  refine g_cond_f rfl (s_ (o_ ?_))
  refine xg 2 [] rfl rfl ?_
  refine n_ (t_ ?_)
  refine g_casep 35 rfl (fun h5 => ?_) fun h5 => ?_
  ·refine g_cond_t rfl (o_ ?_)
   refine g_val rfl rfl rfl (y_ldN (vs := s4C (withS s0 97 (122 + 1 - 97))) 2 rfl Try.isAgg25 Try.sizeOf25 rfl rfl rfl) ?_
   refine g_stN 4 rfl rfl rfl (by kernel_rfl) rfl rfl rfl rfl ?_
   simp only [List.set_cons_zero, List.set_cons_succ]
   refine n_ (g_in_normal (t_ (s_ ?_)))
   refine k_go [0,0,0,0,0] rfl (by kernel_rfl) (fun _ _ _ _ _ h => h) fun hQ => ?_
   refine k_take 0 rfl (by kernel_rfl) hQ rfl rfl rfl (fun _ h => h.pick [0,0,0,0,0] rfl) (y_ldN (vs := s4C (withS s0 97 (122 + 1 - 97))) 4 rfl Try.isAgg25 Try.sizeOf25 rfl rfl rfl) ?_
   refine k_take 1 rfl (by kernel_rfl) hQ rfl rfl rfl (fun _ h => h.pick [0,0,0,0,0] rfl) (y_ldN (vs := s4C (withS s0 97 (122 + 1 - 97))) 4 rfl Try.isAgg25 Try.sizeOf25 rfl rfl rfl) ?_
   refine k_take (v := .agg (s4C s0).toArray) 2 rfl (by kernel_rfl) hQ rfl rfl rfl (fun _ h => h.pick [0,0,0,0,0] rfl) (y_build (offs := []) rfl Try.zeroValue25 (by kernel_rfl)) ?_
   refine k_take 3 rfl (by kernel_rfl) hQ rfl rfl rfl (fun _ h => h.pick [0,0,0,0,0] rfl) (y_setNe (withS s0 97 (122 + 1 - 97)) s0 rfl rfl) ?_
   refine k_one 4 (by kernel_rfl) ?_
   refine k_op 4 rfl ?_
   refine g_stN 5 rfl rfl rfl (by kernel_rfl) rfl rfl rfl rfl ?_
   simp only [List.set_cons_zero, List.set_cons_succ]
   refine n_ ?_
   refine k_end (fun _ h => h.pick [0,0,0,0,0] rfl) ?_
   refine k_x 5 [0,0,0,0,0] [] hQ (by kernel_rfl) rfl rfl rfl rfl rfl rfl ?_
   refine k_done (by kernel_rfl) ?_
   refine t_ (g_ret ?_)
   refine g_end_cell2 5 Try.results64 rfl rfl rfl Try.isAgg25 Try.sizeOf25 rfl ?_
   exact fun w hS => ⟨((withS s0 97 (122 + 1 - 97)), _), rfl, hS.below⟩
  refine g_cond_f rfl (s_ (o_ ?_))
  refine xg 2 [] rfl rfl ?_
  refine n_ (t_ ?_)
  refine g_casep 38 rfl (fun h6 => ?_) fun h6 => ?_
  ·refine g_cond_t rfl (o_ ?_)
   refine g_val rfl rfl rfl (y_ldN (vs := s4C s0) 4 rfl Try.isAgg25 Try.sizeOf25 rfl rfl rfl) ?_
   refine g_c1 (cwith_m s0 9 13 (by decide) (by decide)) any_I rfl rfl rfl ?_
   refine g_c1 (cwith_m (withS s0 9 (13 + 1 - 9)) 32 32 (by decide) (by decide)) any_I rfl rfl rfl ?_
   refine g_stN 4 rfl rfl rfl (by kernel_rfl) rfl rfl rfl rfl ?_
   simp only [List.set_cons_zero, List.set_cons_succ]
   refine n_ (g_in_normal (t_ (s_ ?_)))
   refine k_go [0,0,0,0,0] rfl (by kernel_rfl) (fun _ _ _ _ _ h => h) fun hQ => ?_
   refine k_take 0 rfl (by kernel_rfl) hQ rfl rfl rfl (fun _ h => h.pick [0,0,0,0,0] rfl) (y_ldN (vs := s4C (withS (withS s0 9 (13 + 1 - 9)) 32 (32 + 1 - 32))) 4 rfl Try.isAgg25 Try.sizeOf25 rfl rfl rfl) ?_
   refine k_take 1 rfl (by kernel_rfl) hQ rfl rfl rfl (fun _ h => h.pick [0,0,0,0,0] rfl) (y_ldN (vs := s4C (withS (withS s0 9 (13 + 1 - 9)) 32 (32 + 1 - 32))) 4 rfl Try.isAgg25 Try.sizeOf25 rfl rfl rfl) ?_
   refine k_take (v := .agg (s4C s0).toArray) 2 rfl (by kernel_rfl) hQ rfl rfl rfl (fun _ h => h.pick [0,0,0,0,0] rfl) (y_build (offs := []) rfl Try.zeroValue25 (by kernel_rfl)) ?_
   refine k_take 3 rfl (by kernel_rfl) hQ rfl rfl rfl (fun _ h => h.pick [0,0,0,0,0] rfl) (y_setNe (withS (withS s0 9 (13 + 1 - 9)) 32 (32 + 1 - 32)) s0 rfl rfl) ?_
   refine k_one 4 (by kernel_rfl) ?_
   refine k_op 4 rfl ?_
   refine g_stN 5 rfl rfl rfl (by kernel_rfl) rfl rfl rfl rfl ?_
   simp only [List.set_cons_zero, List.set_cons_succ]
   refine n_ ?_
   refine k_end (fun _ h => h.pick [0,0,0,0,0] rfl) ?_
   refine k_x 5 [0,0,0,0,0] [] hQ (by kernel_rfl) rfl rfl rfl rfl rfl rfl ?_
   refine k_done (by kernel_rfl) ?_
   refine t_ (g_ret ?_)
   refine g_end_cell2 5 Try.results64 rfl rfl rfl Try.isAgg25 Try.sizeOf25 rfl ?_
   exact fun w hS => ⟨((withS (withS s0 9 (13 + 1 - 9)) 32 (32 + 1 - 32)), _), rfl, hS.below⟩
  refine g_cond_f rfl (s_ (o_ ?_))
  refine xg 2 [] rfl rfl ?_
  refine n_ (t_ ?_)
  refine g_casep 43 rfl (fun h7 => ?_) fun h7 => ?_
  ·refine g_cond_t rfl (o_ ?_)
   refine g_val rfl rfl rfl (y_ldN (vs := s4C s0) 4 rfl Try.isAgg25 Try.sizeOf25 rfl rfl rfl) ?_
   refine g_c1 (cwith_m s0 9 9 (by decide) (by decide)) any_I rfl rfl rfl ?_
   refine g_c1 (cwith_m (withS s0 9 (9 + 1 - 9)) 32 32 (by decide) (by decide)) any_I rfl rfl rfl ?_
   refine g_stN 4 rfl rfl rfl (by kernel_rfl) rfl rfl rfl rfl ?_
   simp only [List.set_cons_zero, List.set_cons_succ]
   refine n_ (g_in_normal (t_ (s_ ?_)))
   refine k_go [0,0,0,0,0] rfl (by kernel_rfl) (fun _ _ _ _ _ h => h) fun hQ => ?_
   refine k_take 0 rfl (by kernel_rfl) hQ rfl rfl rfl (fun _ h => h.pick [0,0,0,0,0] rfl) (y_ldN (vs := s4C (withS (withS s0 9 (9 + 1 - 9)) 32 (32 + 1 - 32))) 4 rfl Try.isAgg25 Try.sizeOf25 rfl rfl rfl) ?_
   refine k_take 1 rfl (by kernel_rfl) hQ rfl rfl rfl (fun _ h => h.pick [0,0,0,0,0] rfl) (y_ldN (vs := s4C (withS (withS s0 9 (9 + 1 - 9)) 32 (32 + 1 - 32))) 4 rfl Try.isAgg25 Try.sizeOf25 rfl rfl rfl) ?_
   refine k_take (v := .agg (s4C s0).toArray) 2 rfl (by kernel_rfl) hQ rfl rfl rfl (fun _ h => h.pick [0,0,0,0,0] rfl) (y_build (offs := []) rfl Try.zeroValue25 (by kernel_rfl)) ?_
   refine k_take 3 rfl (by kernel_rfl) hQ rfl rfl rfl (fun _ h => h.pick [0,0,0,0,0] rfl) (y_setNe (withS (withS s0 9 (9 + 1 - 9)) 32 (32 + 1 - 32)) s0 rfl rfl) ?_
   refine k_one 4 (by kernel_rfl) ?_
   refine k_op 4 rfl ?_
   refine g_stN 5 rfl rfl rfl (by kernel_rfl) rfl rfl rfl rfl ?_
   simp only [List.set_cons_zero, List.set_cons_succ]
   refine n_ ?_
   refine k_end (fun _ h => h.pick [0,0,0,0,0] rfl) ?_
   refine k_x 5 [0,0,0,0,0] [] hQ (by kernel_rfl) rfl rfl rfl rfl rfl rfl ?_
   refine k_done (by kernel_rfl) ?_
   refine t_ (g_ret ?_)
   refine g_end_cell2 5 Try.results64 rfl rfl rfl Try.isAgg25 Try.sizeOf25 rfl ?_
   exact fun w hS => ⟨((withS (withS s0 9 (9 + 1 - 9)) 32 (32 + 1 - 32)), _), rfl, hS.below⟩
  refine g_cond_f rfl (s_ (o_ ?_))
  refine xg 2 [] rfl rfl ?_
  refine n_ (t_ ?_)
  refine g_casep 48 rfl (fun h8 => ?_) fun h8 => ?_
  ·refine g_cond_t rfl ?_
   refine k_go [0,0,0,0,1] rfl (by kernel_rfl) (fun _ _ _ _ _ h => h) fun hQ => ?_
   refine k_take 0 rfl (by kernel_rfl) hQ rfl rfl rfl (fun _ h => h.pick [0,0,0,0,1] rfl) (y_ldN (vs := s4C (bothS (bothS (withS s0 65 (90 + 1 - 65)) (withS s0 97 (122 + 1 - 97))) (withS s0 48 (57 + 1 - 48)))) 0 rfl Try.isAgg25 Try.sizeOf25 rfl rfl rfl) ?_
   refine k_one 1 (by kernel_rfl) ?_
   refine k_op 1 rfl ?_
   refine g_val rfl rfl rfl (y_ldN (vs := s4C s0) 4 rfl Try.isAgg25 Try.sizeOf25 rfl rfl rfl) ?_
   refine n_ ?_
   refine k_end (fun _ h => h.pick [0,0,0,0,1] rfl) ?_
   refine k_call 2 (cwith_m s0 33 126 (by decide) (by decide)) any_I rfl (by kernel_rfl) hQ rfl rfl rfl (fun _ h => h.pick [0,0,0,0,1] rfl) ?_
   refine k_call 3 (not_m (withS s0 33 (126 + 1 - 33))) any_I rfl (by kernel_rfl) hQ rfl rfl rfl (fun _ h => h.pick [0,0,0,0,1] rfl) ?_
   refine k_call 4 (both_m (bothS (bothS (withS s0 65 (90 + 1 - 65)) (withS s0 97 (122 + 1 - 97))) (withS s0 48 (57 + 1 - 48))) (notS (withS s0 33 (126 + 1 - 33)))) any_I rfl (by kernel_rfl) hQ rfl rfl rfl (fun _ h => h.pick [0,0,0,0,1] rfl) ?_
   refine k_call 5 (not_m (bothS (bothS (bothS (withS s0 65 (90 + 1 - 65)) (withS s0 97 (122 + 1 - 97))) (withS s0 48 (57 + 1 - 48))) (notS (withS s0 33 (126 + 1 - 33))))) any_I rfl (by kernel_rfl) hQ rfl rfl rfl (fun _ h => h.pick [0,0,0,0,1] rfl) ?_
   refine k_one 6 (by kernel_rfl) ?_
   refine k_op 6 rfl ?_
   refine g_stN 4 rfl rfl rfl (by kernel_rfl) rfl rfl rfl rfl ?_
   simp only [List.set_cons_zero, List.set_cons_succ]
   refine n_ ?_
   refine k_end (fun _ h => h.pick [0,0,0,0,1] rfl) ?_
   refine k_done (by kernel_rfl) ?_
   refine g_in_normal (t_ (s_ ?_))
   refine k_go [0,0,0,0,0] rfl (by kernel_rfl) (fun _ _ _ _ _ h => h) fun hQ => ?_
   refine k_take 0 rfl (by kernel_rfl) hQ rfl rfl rfl (fun _ h => h.pick [0,0,0,0,0] rfl) (y_ldN (vs := s4C (notS (bothS (bothS (bothS (withS s0 65 (90 + 1 - 65)) (withS s0 97 (122 + 1 - 97))) (withS s0 48 (57 + 1 - 48))) (notS (withS s0 33 (126 + 1 - 33)))))) 4 rfl Try.isAgg25 Try.sizeOf25 rfl rfl rfl) ?_
   refine k_take 1 rfl (by kernel_rfl) hQ rfl rfl rfl (fun _ h => h.pick [0,0,0,0,0] rfl) (y_ldN (vs := s4C (notS (bothS (bothS (bothS (withS s0 65 (90 + 1 - 65)) (withS s0 97 (122 + 1 - 97))) (withS s0 48 (57 + 1 - 48))) (notS (withS s0 33 (126 + 1 - 33)))))) 4 rfl Try.isAgg25 Try.sizeOf25 rfl rfl rfl) ?_
   refine k_take (v := .agg (s4C s0).toArray) 2 rfl (by kernel_rfl) hQ rfl rfl rfl (fun _ h => h.pick [0,0,0,0,0] rfl) (y_build (offs := []) rfl Try.zeroValue25 (by kernel_rfl)) ?_
   refine k_take 3 rfl (by kernel_rfl) hQ rfl rfl rfl (fun _ h => h.pick [0,0,0,0,0] rfl) (y_setNe (notS (bothS (bothS (bothS (withS s0 65 (90 + 1 - 65)) (withS s0 97 (122 + 1 - 97))) (withS s0 48 (57 + 1 - 48))) (notS (withS s0 33 (126 + 1 - 33))))) s0 rfl rfl) ?_
   refine k_one 4 (by kernel_rfl) ?_
   refine k_op 4 rfl ?_
   refine g_stN 5 rfl rfl rfl (by kernel_rfl) rfl rfl rfl rfl ?_
   simp only [List.set_cons_zero, List.set_cons_succ]
   refine n_ ?_
   refine k_end (fun _ h => h.pick [0,0,0,0,0] rfl) ?_
   refine k_x 5 [0,0,0,0,0] [] hQ (by kernel_rfl) rfl rfl rfl rfl rfl rfl ?_
   refine k_done (by kernel_rfl) ?_
   refine t_ (g_ret ?_)
   refine g_end_cell2 5 Try.results64 rfl rfl rfl Try.isAgg25 Try.sizeOf25 rfl ?_
   exact fun w hS => ⟨((notS (bothS (bothS (bothS (withS s0 65 (90 + 1 - 65)) (withS s0 97 (122 + 1 - 97))) (withS s0 48 (57 + 1 - 48))) (notS (withS s0 33 (126 + 1 - 33))))), _), rfl, hS.below⟩
  refine g_cond_f rfl (s_ (o_ ?_))
  refine xg 2 [] rfl rfl ?_
  refine n_ (t_ ?_)
  refine g_casep 56 rfl (fun h9 => ?_) fun h9 => ?_
  ·refine g_cond_t rfl (o_ ?_)
   refine g_val rfl rfl rfl (y_ldN (vs := s4C s0) 4 rfl Try.isAgg25 Try.sizeOf25 rfl rfl rfl) ?_
   refine g_c1 (cwith_m s0 32 126 (by decide) (by decide)) any_I rfl rfl rfl ?_
   refine g_stN 4 rfl rfl rfl (by kernel_rfl) rfl rfl rfl rfl ?_
   simp only [List.set_cons_zero, List.set_cons_succ]
   refine n_ (g_in_normal (t_ (s_ ?_)))
   refine k_go [0,0,0,0,0] rfl (by kernel_rfl) (fun _ _ _ _ _ h => h) fun hQ => ?_
   refine k_take 0 rfl (by kernel_rfl) hQ rfl rfl rfl (fun _ h => h.pick [0,0,0,0,0] rfl) (y_ldN (vs := s4C (withS s0 32 (126 + 1 - 32))) 4 rfl Try.isAgg25 Try.sizeOf25 rfl rfl rfl) ?_
   refine k_take 1 rfl (by kernel_rfl) hQ rfl rfl rfl (fun _ h => h.pick [0,0,0,0,0] rfl) (y_ldN (vs := s4C (withS s0 32 (126 + 1 - 32))) 4 rfl Try.isAgg25 Try.sizeOf25 rfl rfl rfl) ?_
   refine k_take (v := .agg (s4C s0).toArray) 2 rfl (by kernel_rfl) hQ rfl rfl rfl (fun _ h => h.pick [0,0,0,0,0] rfl) (y_build (offs := []) rfl Try.zeroValue25 (by kernel_rfl)) ?_
   refine k_take 3 rfl (by kernel_rfl) hQ rfl rfl rfl (fun _ h => h.pick [0,0,0,0,0] rfl) (y_setNe (withS s0 32 (126 + 1 - 32)) s0 rfl rfl) ?_
   refine k_one 4 (by kernel_rfl) ?_
   refine k_op 4 rfl ?_
   refine g_stN 5 rfl rfl rfl (by kernel_rfl) rfl rfl rfl rfl ?_
   simp only [List.set_cons_zero, List.set_cons_succ]
   refine n_ ?_
   refine k_end (fun _ h => h.pick [0,0,0,0,0] rfl) ?_
   refine k_x 5 [0,0,0,0,0] [] hQ (by kernel_rfl) rfl rfl rfl rfl rfl rfl ?_
   refine k_done (by kernel_rfl) ?_
   refine t_ (g_ret ?_)
   refine g_end_cell2 5 Try.results64 rfl rfl rfl Try.isAgg25 Try.sizeOf25 rfl ?_
   exact fun w hS => ⟨((withS s0 32 (126 + 1 - 32)), _), rfl, hS.below⟩
  refine g_cond_f rfl (s_ (o_ ?_))
  refine xg 2 [] rfl rfl ?_
  refine n_ (t_ ?_)
  refine g_casep 60 rfl (fun h10 => ?_) fun h10 => ?_
  ·refine g_cond_t rfl (o_ ?_)
   refine g_val rfl rfl rfl (y_ldN (vs := s4C s0) 4 rfl Try.isAgg25 Try.sizeOf25 rfl rfl rfl) ?_
   refine g_c1 (cwith_m s0 33 126 (by decide) (by decide)) any_I rfl rfl rfl ?_
   refine g_stN 4 rfl rfl rfl (by kernel_rfl) rfl rfl rfl rfl ?_
   simp only [List.set_cons_zero, List.set_cons_succ]
   refine n_ (g_in_normal (t_ (s_ ?_)))
   refine k_go [0,0,0,0,0] rfl (by kernel_rfl) (fun _ _ _ _ _ h => h) fun hQ => ?_
   refine k_take 0 rfl (by kernel_rfl) hQ rfl rfl rfl (fun _ h => h.pick [0,0,0,0,0] rfl) (y_ldN (vs := s4C (withS s0 33 (126 + 1 - 33))) 4 rfl Try.isAgg25 Try.sizeOf25 rfl rfl rfl) ?_
   refine k_take 1 rfl (by kernel_rfl) hQ rfl rfl rfl (fun _ h => h.pick [0,0,0,0,0] rfl) (y_ldN (vs := s4C (withS s0 33 (126 + 1 - 33))) 4 rfl Try.isAgg25 Try.sizeOf25 rfl rfl rfl) ?_
   refine k_take (v := .agg (s4C s0).toArray) 2 rfl (by kernel_rfl) hQ rfl rfl rfl (fun _ h => h.pick [0,0,0,0,0] rfl) (y_build (offs := []) rfl Try.zeroValue25 (by kernel_rfl)) ?_
   refine k_take 3 rfl (by kernel_rfl) hQ rfl rfl rfl (fun _ h => h.pick [0,0,0,0,0] rfl) (y_setNe (withS s0 33 (126 + 1 - 33)) s0 rfl rfl) ?_
   refine k_one 4 (by kernel_rfl) ?_
   refine k_op 4 rfl ?_
   refine g_stN 5 rfl rfl rfl (by kernel_rfl) rfl rfl rfl rfl ?_
   simp only [List.set_cons_zero, List.set_cons_succ]
   refine n_ ?_
   refine k_end (fun _ h => h.pick [0,0,0,0,0] rfl) ?_
   refine k_x 5 [0,0,0,0,0] [] hQ (by kernel_rfl) rfl rfl rfl rfl rfl rfl ?_
   refine k_done (by kernel_rfl) ?_
   refine t_ (g_ret ?_)
   refine g_end_cell2 5 Try.results64 rfl rfl rfl Try.isAgg25 Try.sizeOf25 rfl ?_
   exact fun w hS => ⟨((withS s0 33 (126 + 1 - 33)), _), rfl, hS.below⟩
  refine g_cond_f rfl (s_ (o_ ?_))
  refine xg 2 [] rfl rfl ?_
  refine n_ (t_ ?_)
  refine g_casep 64 rfl (fun h11 => ?_) fun h11 => ?_
  ·refine g_cond_t rfl (o_ ?_)
   refine g_val rfl rfl rfl (y_ldN (vs := s4C s0) 4 rfl Try.isAgg25 Try.sizeOf25 rfl rfl rfl) ?_
   refine g_c1 (cwith_m s0 0 31 (by decide) (by decide)) any_I rfl rfl rfl ?_
   refine g_c1 (cwith_m (withS s0 0 (31 + 1 - 0)) 127 127 (by decide) (by decide)) any_I rfl rfl rfl ?_
   refine g_stN 4 rfl rfl rfl (by kernel_rfl) rfl rfl rfl rfl ?_
   simp only [List.set_cons_zero, List.set_cons_succ]
   refine n_ (g_in_normal (t_ (s_ ?_)))
   refine k_go [0,0,0,0,0] rfl (by kernel_rfl) (fun _ _ _ _ _ h => h) fun hQ => ?_
   refine k_take 0 rfl (by kernel_rfl) hQ rfl rfl rfl (fun _ h => h.pick [0,0,0,0,0] rfl) (y_ldN (vs := s4C (withS (withS s0 0 (31 + 1 - 0)) 127 (127 + 1 - 127))) 4 rfl Try.isAgg25 Try.sizeOf25 rfl rfl rfl) ?_
   refine k_take 1 rfl (by kernel_rfl) hQ rfl rfl rfl (fun _ h => h.pick [0,0,0,0,0] rfl) (y_ldN (vs := s4C (withS (withS s0 0 (31 + 1 - 0)) 127 (127 + 1 - 127))) 4 rfl Try.isAgg25 Try.sizeOf25 rfl rfl rfl) ?_
   refine k_take (v := .agg (s4C s0).toArray) 2 rfl (by kernel_rfl) hQ rfl rfl rfl (fun _ h => h.pick [0,0,0,0,0] rfl) (y_build (offs := []) rfl Try.zeroValue25 (by kernel_rfl)) ?_
   refine k_take 3 rfl (by kernel_rfl) hQ rfl rfl rfl (fun _ h => h.pick [0,0,0,0,0] rfl) (y_setNe (withS (withS s0 0 (31 + 1 - 0)) 127 (127 + 1 - 127)) s0 rfl rfl) ?_
   refine k_one 4 (by kernel_rfl) ?_
   refine k_op 4 rfl ?_
   refine g_stN 5 rfl rfl rfl (by kernel_rfl) rfl rfl rfl rfl ?_
   simp only [List.set_cons_zero, List.set_cons_succ]
   refine n_ ?_
   refine k_end (fun _ h => h.pick [0,0,0,0,0] rfl) ?_
   refine k_x 5 [0,0,0,0,0] [] hQ (by kernel_rfl) rfl rfl rfl rfl rfl rfl ?_
   refine k_done (by kernel_rfl) ?_
   refine t_ (g_ret ?_)
   refine g_end_cell2 5 Try.results64 rfl rfl rfl Try.isAgg25 Try.sizeOf25 rfl ?_
   exact fun w hS => ⟨((withS (withS s0 0 (31 + 1 - 0)) 127 (127 + 1 - 127)), _), rfl, hS.below⟩
  refine g_cond_f rfl (s_ (o_ ?_))
  refine xg 2 [] rfl rfl ?_
  refine n_ (t_ ?_)
  refine g_casep 69 rfl (fun h12 => ?_) fun h12 => ?_
  ·refine g_cond_t rfl (o_ ?_)
   refine g_val rfl rfl rfl (y_ldN (vs := s4C (withS s0 48 (57 + 1 - 48))) 3 rfl Try.isAgg25 Try.sizeOf25 rfl rfl rfl) ?_
   refine g_c1 (cwith_m (withS s0 48 (57 + 1 - 48)) 65 70 (by decide) (by decide)) any_I rfl rfl rfl ?_
   refine g_c1 (cwith_m (withS (withS s0 48 (57 + 1 - 48)) 65 (70 + 1 - 65)) 97 102 (by decide) (by decide)) any_I rfl rfl rfl ?_
   refine g_stN 4 rfl rfl rfl (by kernel_rfl) rfl rfl rfl rfl ?_
   simp only [List.set_cons_zero, List.set_cons_succ]
   refine n_ (g_in_normal (t_ (s_ ?_)))
   refine k_go [0,0,0,0,0] rfl (by kernel_rfl) (fun _ _ _ _ _ h => h) fun hQ => ?_
   refine k_take 0 rfl (by kernel_rfl) hQ rfl rfl rfl (fun _ h => h.pick [0,0,0,0,0] rfl) (y_ldN (vs := s4C (withS (withS (withS s0 48 (57 + 1 - 48)) 65 (70 + 1 - 65)) 97 (102 + 1 - 97))) 4 rfl Try.isAgg25 Try.sizeOf25 rfl rfl rfl) ?_
   refine k_take 1 rfl (by kernel_rfl) hQ rfl rfl rfl (fun _ h => h.pick [0,0,0,0,0] rfl) (y_ldN (vs := s4C (withS (withS (withS s0 48 (57 + 1 - 48)) 65 (70 + 1 - 65)) 97 (102 + 1 - 97))) 4 rfl Try.isAgg25 Try.sizeOf25 rfl rfl rfl) ?_
   refine k_take (v := .agg (s4C s0).toArray) 2 rfl (by kernel_rfl) hQ rfl rfl rfl (fun _ h => h.pick [0,0,0,0,0] rfl) (y_build (offs := []) rfl Try.zeroValue25 (by kernel_rfl)) ?_
   refine k_take 3 rfl (by kernel_rfl) hQ rfl rfl rfl (fun _ h => h.pick [0,0,0,0,0] rfl) (y_setNe (withS (withS (withS s0 48 (57 + 1 - 48)) 65 (70 + 1 - 65)) 97 (102 + 1 - 97)) s0 rfl rfl) ?_
   refine k_one 4 (by kernel_rfl) ?_
   refine k_op 4 rfl ?_
   refine g_stN 5 rfl rfl rfl (by kernel_rfl) rfl rfl rfl rfl ?_
   simp only [List.set_cons_zero, List.set_cons_succ]
   refine n_ ?_
   refine k_end (fun _ h => h.pick [0,0,0,0,0] rfl) ?_
   refine k_x 5 [0,0,0,0,0] [] hQ (by kernel_rfl) rfl rfl rfl rfl rfl rfl ?_
   refine k_done (by kernel_rfl) ?_
   refine t_ (g_ret ?_)
   refine g_end_cell2 5 Try.results64 rfl rfl rfl Try.isAgg25 Try.sizeOf25 rfl ?_
   exact fun w hS => ⟨((withS (withS (withS s0 48 (57 + 1 - 48)) 65 (70 + 1 - 65)) 97 (102 + 1 - 97)), _), rfl, hS.below⟩
  refine g_cond_f rfl (g_skip (g_in_normal (t_ (s_ ?_))))
  refine k_go [0,0,0,0,0] rfl (by kernel_rfl) (fun _ _ _ _ _ h => h) fun hQ => ?_
  refine k_take 0 rfl (by kernel_rfl) hQ rfl rfl rfl (fun _ h => h.pick [0,0,0,0,0] rfl) (y_ldN (vs := s4C s0) 4 rfl Try.isAgg25 Try.sizeOf25 rfl rfl rfl) ?_
  refine k_take 1 rfl (by kernel_rfl) hQ rfl rfl rfl (fun _ h => h.pick [0,0,0,0,0] rfl) (y_ldN (vs := s4C s0) 4 rfl Try.isAgg25 Try.sizeOf25 rfl rfl rfl) ?_
  refine k_take (v := .agg (s4C s0).toArray) 2 rfl (by kernel_rfl) hQ rfl rfl rfl (fun _ h => h.pick [0,0,0,0,0] rfl) (y_build (offs := []) rfl Try.zeroValue25 (by kernel_rfl)) ?_
  refine k_take 3 rfl (by kernel_rfl) hQ rfl rfl rfl (fun _ h => h.pick [0,0,0,0,0] rfl) (y_setNe s0 s0 rfl rfl) ?_
  refine k_one 4 (by kernel_rfl) ?_
  refine k_op 4 rfl ?_
  refine g_stN 5 rfl rfl rfl (by kernel_rfl) rfl rfl rfl rfl ?_
  simp only [List.set_cons_zero, List.set_cons_succ]
  refine n_ ?_
  refine k_end (fun _ h => h.pick [0,0,0,0,0] rfl) ?_
  refine k_x 5 [0,0,0,0,0] [] hQ (by kernel_rfl) rfl rfl rfl rfl rfl rfl ?_
  refine k_done (by kernel_rfl) ?_
  refine t_ (g_ret ?_)
  refine g_end_cell2 5 Try.results64 rfl rfl rfl Try.isAgg25 Try.sizeOf25 rfl ?_
  exact fun w hS => ⟨(s0, _), rfl, hS.below⟩
 ·intro hj
  refine k_go [0,0] rfl (by kernel_rfl) (fun _ _ _ _ _ h => h) fun hQ => ?_
  refine k_take 0 rfl (by kernel_rfl) hQ rfl rfl rfl (fun _ h => h.pick [0,0] rfl) (y_ldN (vs := s4C s0) 0 rfl Try.isAgg25 Try.sizeOf25 rfl rfl rfl) ?_
  refine k_call 1 (cwith_m s0 65 90 (by decide) (by decide)) any_I rfl (by kernel_rfl) hQ rfl rfl rfl (fun _ h => h.pick [0,0] rfl) ?_
  refine k_take 2 rfl (by kernel_rfl) hQ rfl rfl rfl (fun _ h => h.pick [0,0] rfl) (y_ldN (vs := s4C s0) 0 rfl Try.isAgg25 Try.sizeOf25 rfl rfl rfl) ?_
  refine k_call 3 (cwith_m s0 97 122 (by decide) (by decide)) any_I rfl (by kernel_rfl) hQ rfl rfl rfl (fun _ h => h.pick [0,0] rfl) ?_
  refine k_take 4 rfl (by kernel_rfl) hQ rfl rfl rfl (fun _ h => h.pick [0,0] rfl) (y_ldN (vs := s4C s0) 0 rfl Try.isAgg25 Try.sizeOf25 rfl rfl rfl) ?_
  refine k_call 5 (cwith_m s0 48 57 (by decide) (by decide)) any_I rfl (by kernel_rfl) hQ rfl rfl rfl (fun _ h => h.pick [0,0] rfl) ?_
  refine k_all [6,7,8] (by kernel_rfl) (by simp) ⟨?_, ?_, ?_, trivial⟩
  ·refine k_op 6 rfl ?_
   refine g_alloc rfl rfl Try.zeroValue25 rfl (fun b4 => ?_)
   refine n_ ?_
   refine k_end (fun _ h => h.pick [1,1] rfl) ?_
   refine k_all [7,8] (by kernel_rfl) (by simp) ⟨?_, ?_, trivial⟩
   ·refine k_op 7 rfl ?_
    refine g_alloc rfl rfl Try.zeroValue25 rfl (fun b5 => ?_)
    refine n_ ?_
    refine k_end (fun _ h => h.pick [2,2] rfl) ?_
    refine k_one 8 (by kernel_rfl) ?_
    refine k_op 8 rfl ?_
    refine g_alloc rfl rfl Try.zeroValue25 rfl (fun b6 => ?_)
    refine n_ ?_
    refine k_end (fun _ h => h.pick [3,3] rfl) ?_
    refine k_one 9 (by kernel_rfl) ?_
    refine k_op 9 rfl ?_
    refine g_stN 2 rfl rfl rfl (by kernel_rfl) rfl rfl rfl rfl ?_
    simp only [List.set_cons_zero, List.set_cons_succ]
    refine n_ ?_
    refine k_end (fun _ h => h.pick [3,3] rfl) ?_
    refine k_one 10 (by kernel_rfl) ?_
    refine k_op 10 rfl ?_
    refine g_stN 1 rfl rfl rfl (by kernel_rfl) rfl rfl rfl rfl ?_
    simp only [List.set_cons_zero, List.set_cons_succ]
    refine n_ ?_
    refine k_end (fun _ h => h.pick [3,3] rfl) ?_
    refine k_one 11 (by kernel_rfl) ?_
    refine k_op 11 rfl ?_
    refine g_stN 0 rfl rfl rfl (by kernel_rfl) rfl rfl rfl rfl ?_
    simp only [List.set_cons_zero]
    refine n_ ?_
    refine k_end (fun _ h => h.pick [3,3] rfl) ?_
    refine k_done (by kernel_rfl) ?_
    exact g_fall (hj (b4, b5, b6)) [0, 2, 3, 4, 5, 6, 7] rfl (fun w h => h.pick [2,1,0,0,0] rfl)
   refine k_op 8 rfl ?_
   refine g_alloc rfl rfl Try.zeroValue25 rfl (fun b7 => ?_)
   refine n_ ?_
   refine k_end (fun _ h => h.pick [2,2] rfl) ?_
   refine k_one 7 (by kernel_rfl) ?_
   refine k_op 7 rfl ?_
   refine g_alloc rfl rfl Try.zeroValue25 rfl (fun b8 => ?_)
   refine n_ ?_
   refine k_end (fun _ h => h.pick [3,3] rfl) ?_
   refine k_one 9 (by kernel_rfl) ?_
   refine k_op 9 rfl ?_
   refine g_stN 2 rfl rfl rfl (by kernel_rfl) rfl rfl rfl rfl ?_
   simp only [List.set_cons_zero, List.set_cons_succ]
   refine n_ ?_
   refine k_end (fun _ h => h.pick [3,3] rfl) ?_
   refine k_one 10 (by kernel_rfl) ?_
   refine k_op 10 rfl ?_
   refine g_stN 0 rfl rfl rfl (by kernel_rfl) rfl rfl rfl rfl ?_
   simp only [List.set_cons_zero]
   refine n_ ?_
   refine k_end (fun _ h => h.pick [3,3] rfl) ?_
   refine k_one 11 (by kernel_rfl) ?_
   refine k_op 11 rfl ?_
   refine g_stN 1 rfl rfl rfl (by kernel_rfl) rfl rfl rfl rfl ?_
   simp only [List.set_cons_zero, List.set_cons_succ]
   refine n_ ?_
   refine k_end (fun _ h => h.pick [3,3] rfl) ?_
   refine k_done (by kernel_rfl) ?_
   exact g_fall (hj (b4, b8, b7)) [0, 2, 3, 4, 5, 6, 7] rfl (fun w h => h.pick [2,0,0,0,0] rfl)
  ·refine k_op 7 rfl ?_
   refine g_alloc rfl rfl Try.zeroValue25 rfl (fun b9 => ?_)
   refine n_ ?_
   refine k_end (fun _ h => h.pick [1,1] rfl) ?_
   refine k_all [6,8] (by kernel_rfl) (by simp) ⟨?_, ?_, trivial⟩
   ·refine k_op 6 rfl ?_
    refine g_alloc rfl rfl Try.zeroValue25 rfl (fun b10 => ?_)
    refine n_ ?_
    refine k_end (fun _ h => h.pick [2,2] rfl) ?_
    refine k_one 8 (by kernel_rfl) ?_
    refine k_op 8 rfl ?_
    refine g_alloc rfl rfl Try.zeroValue25 rfl (fun b11 => ?_)
    refine n_ ?_
    refine k_end (fun _ h => h.pick [3,3] rfl) ?_
    refine k_one 9 (by kernel_rfl) ?_
    refine k_op 9 rfl ?_
    refine g_stN 1 rfl rfl rfl (by kernel_rfl) rfl rfl rfl rfl ?_
    simp only [List.set_cons_zero, List.set_cons_succ]
    refine n_ ?_
    refine k_end (fun _ h => h.pick [3,3] rfl) ?_
    refine k_one 10 (by kernel_rfl) ?_
    refine k_op 10 rfl ?_
    refine g_stN 2 rfl rfl rfl (by kernel_rfl) rfl rfl rfl rfl ?_
    simp only [List.set_cons_zero, List.set_cons_succ]
    refine n_ ?_
    refine k_end (fun _ h => h.pick [3,3] rfl) ?_
    refine k_one 11 (by kernel_rfl) ?_
    refine k_op 11 rfl ?_
    refine g_stN 0 rfl rfl rfl (by kernel_rfl) rfl rfl rfl rfl ?_
    simp only [List.set_cons_zero]
    refine n_ ?_
    refine k_end (fun _ h => h.pick [3,3] rfl) ?_
    refine k_done (by kernel_rfl) ?_
    exact g_fall (hj (b10, b9, b11)) [0, 2, 3, 4, 5, 6, 7] rfl (fun w h => h.pick [1,1,0,0,0] rfl)
   refine k_op 8 rfl ?_
   refine g_alloc rfl rfl Try.zeroValue25 rfl (fun b12 => ?_)
   refine n_ ?_
   refine k_end (fun _ h => h.pick [2,2] rfl) ?_
   refine k_one 6 (by kernel_rfl) ?_
   refine k_op 6 rfl ?_
   refine g_alloc rfl rfl Try.zeroValue25 rfl (fun b13 => ?_)
   refine n_ ?_
   refine k_end (fun _ h => h.pick [3,3] rfl) ?_
   refine k_one 9 (by kernel_rfl) ?_
   refine k_op 9 rfl ?_
   refine g_stN 0 rfl rfl rfl (by kernel_rfl) rfl rfl rfl rfl ?_
   simp only [List.set_cons_zero]
   refine n_ ?_
   refine k_end (fun _ h => h.pick [3,3] rfl) ?_
   refine k_one 10 (by kernel_rfl) ?_
   refine k_op 10 rfl ?_
   refine g_stN 2 rfl rfl rfl (by kernel_rfl) rfl rfl rfl rfl ?_
   simp only [List.set_cons_zero, List.set_cons_succ]
   refine n_ ?_
   refine k_end (fun _ h => h.pick [3,3] rfl) ?_
   refine k_one 11 (by kernel_rfl) ?_
   refine k_op 11 rfl ?_
   refine g_stN 1 rfl rfl rfl (by kernel_rfl) rfl rfl rfl rfl ?_
   simp only [List.set_cons_zero, List.set_cons_succ]
   refine n_ ?_
   refine k_end (fun _ h => h.pick [3,3] rfl) ?_
   refine k_done (by kernel_rfl) ?_
   exact g_fall (hj (b13, b9, b12)) [0, 2, 3, 4, 5, 6, 7] rfl (fun w h => h.pick [0,1,0,0,0] rfl)
  refine k_op 8 rfl ?_
  refine g_alloc rfl rfl Try.zeroValue25 rfl (fun b14 => ?_)
  refine n_ ?_
  refine k_end (fun _ h => h.pick [1,1] rfl) ?_
  refine k_all [6,7] (by kernel_rfl) (by simp) ⟨?_, ?_, trivial⟩
  ·refine k_op 6 rfl ?_
   refine g_alloc rfl rfl Try.zeroValue25 rfl (fun b15 => ?_)
   refine n_ ?_
   refine k_end (fun _ h => h.pick [2,2] rfl) ?_
   refine k_one 7 (by kernel_rfl) ?_
   refine k_op 7 rfl ?_
   refine g_alloc rfl rfl Try.zeroValue25 rfl (fun b16 => ?_)
   refine n_ ?_
   refine k_end (fun _ h => h.pick [3,3] rfl) ?_
   refine k_one 9 (by kernel_rfl) ?_
   refine k_op 9 rfl ?_
   refine g_stN 1 rfl rfl rfl (by kernel_rfl) rfl rfl rfl rfl ?_
   simp only [List.set_cons_zero, List.set_cons_succ]
   refine n_ ?_
   refine k_end (fun _ h => h.pick [3,3] rfl) ?_
   refine k_one 10 (by kernel_rfl) ?_
   refine k_op 10 rfl ?_
   refine g_stN 0 rfl rfl rfl (by kernel_rfl) rfl rfl rfl rfl ?_
   simp only [List.set_cons_zero]
   refine n_ ?_
   refine k_end (fun _ h => h.pick [3,3] rfl) ?_
   refine k_one 11 (by kernel_rfl) ?_
   refine k_op 11 rfl ?_
   refine g_stN 2 rfl rfl rfl (by kernel_rfl) rfl rfl rfl rfl ?_
   simp only [List.set_cons_zero, List.set_cons_succ]
   refine n_ ?_
   refine k_end (fun _ h => h.pick [3,3] rfl) ?_
   refine k_done (by kernel_rfl) ?_
   exact g_fall (hj (b15, b16, b14)) [0, 2, 3, 4, 5, 6, 7] rfl (fun w h => h.pick [1,0,0,0,0] rfl)
  refine k_op 7 rfl ?_
  refine g_alloc rfl rfl Try.zeroValue25 rfl (fun b17 => ?_)
  refine n_ ?_
  refine k_end (fun _ h => h.pick [2,2] rfl) ?_
  refine k_one 6 (by kernel_rfl) ?_
  refine k_op 6 rfl ?_
  refine g_alloc rfl rfl Try.zeroValue25 rfl (fun b18 => ?_)
  refine n_ ?_
  refine k_end (fun _ h => h.pick [3,3] rfl) ?_
  refine k_one 9 (by kernel_rfl) ?_
  refine k_op 9 rfl ?_
  refine g_stN 0 rfl rfl rfl (by kernel_rfl) rfl rfl rfl rfl ?_
  simp only [List.set_cons_zero]
  refine n_ ?_
  refine k_end (fun _ h => h.pick [3,3] rfl) ?_
  refine k_one 10 (by kernel_rfl) ?_
  refine k_op 10 rfl ?_
  refine g_stN 1 rfl rfl rfl (by kernel_rfl) rfl rfl rfl rfl ?_
  simp only [List.set_cons_zero, List.set_cons_succ]
  refine n_ ?_
  refine k_end (fun _ h => h.pick [3,3] rfl) ?_
  refine k_one 11 (by kernel_rfl) ?_
  refine k_op 11 rfl ?_
  refine g_stN 2 rfl rfl rfl (by kernel_rfl) rfl rfl rfl rfl ?_
  simp only [List.set_cons_zero, List.set_cons_succ]
  refine n_ ?_
  refine k_end (fun _ h => h.pick [3,3] rfl) ?_
  refine k_done (by kernel_rfl) ?_
  exact g_fall (hj (b18, b17, b14)) [0, 2, 3, 4, 5, 6, 7] rfl (fun w h => h.pick [0,0,0,0,0] rfl)

end Go.Proofs.Ytjdmdpjbijkjaaa

