/- The types of this program, as a table; many operations at once. -/
import Derived.Test.YtpoelkfncpjmfaaX
import Derived.Test.YtpoelkfncpjmfaaZ
namespace Go.Proofs.Ytpoelkfncpjmfaa
open Go Go.RowKit

def tab : Tab
  | 0 => some ⟨false, 1, .other, []⟩
  | 1 => some ⟨false, 1, .other, []⟩
  | 2 => some ⟨false, 1, .int .i64, []⟩
  | 3 => some ⟨false, 1, .int .i64, []⟩
  | 4 => some ⟨false, 1, .bool, []⟩
  | 5 => some ⟨false, 1, .int .u8, []⟩
  | 6 => some ⟨false, 1, .int .u8, []⟩
  | 7 => some ⟨true, 4, .st [(0, 1), (1, 1), (2, 1), (3, 1)], [.int .i64 0, .int .i64 0, .bool false, .int .u8 0]⟩
  | 8 => some ⟨true, 4, .st [(0, 1), (1, 1), (2, 1), (3, 1)], [.int .i64 0, .int .i64 0, .bool false, .int .u8 0]⟩
  | 9 => some ⟨false, 1, .str, []⟩
  | 10 => some ⟨false, 1, .str, []⟩
  | 11 => some ⟨false, 1, .str, []⟩
  | 12 => some ⟨false, 1, .int .u64, []⟩
  | 13 => some ⟨true, 2, .st [(0, 1), (1, 1)], [.string ByteArray.empty, .int .u64 0]⟩
  | 14 => some ⟨true, 2, .st [(0, 1), (1, 1)], [.string ByteArray.empty, .int .u64 0]⟩
  | 15 => some ⟨false, 1, .other, []⟩
  | 16 => some ⟨false, 1, .other, []⟩
  | 17 => some ⟨false, 1, .other, []⟩
  | 18 => some ⟨true, 1, .st [(0, 1)], [.pointer none]⟩
  | 19 => some ⟨true, 1, .st [(0, 1)], [.pointer none]⟩
  | 20 => some ⟨false, 1, .other, []⟩
  | 21 => some ⟨false, 1, .int .i32, []⟩
  | 22 => some ⟨false, 1, .other, []⟩
  | 23 => some ⟨false, 1, .other, []⟩
  | 24 => some ⟨false, 1, .int .i64, []⟩
  | 25 => some ⟨false, 1, .int .u64, []⟩
  | 26 => some ⟨true, 4, .arr 4 25 1, [.int .u64 0, .int .u64 0, .int .u64 0, .int .u64 0]⟩
  | 27 => some ⟨true, 4, .arr 4 25 1, [.int .u64 0, .int .u64 0, .int .u64 0, .int .u64 0]⟩
  | 28 => some ⟨false, 1, .slice 30 9, []⟩
  | 29 => some ⟨true, 9, .st [(0, 1), (1, 4), (5, 1), (6, 1), (7, 1), (8, 1)], [.int .i64 0, .int .u64 0, .int .u64 0, .int .u64 0, .int .u64 0, .int .i64 0, .int .i64 0, .int .i64 0, .slice none 0 0]⟩
  | 30 => some ⟨true, 9, .st [(0, 1), (1, 4), (5, 1), (6, 1), (7, 1), (8, 1)], [.int .i64 0, .int .u64 0, .int .u64 0, .int .u64 0, .int .u64 0, .int .i64 0, .int .i64 0, .int .i64 0, .slice none 0 0]⟩
  | 31 => some ⟨false, 1, .int .i64, []⟩
  | 32 => some ⟨false, 1, .other, []⟩
  | 33 => some ⟨false, 1, .other, []⟩
  | 34 => some ⟨false, 1, .other, []⟩
  | 35 => some ⟨false, 1, .other, []⟩
  | 36 => some ⟨false, 1, .slice 57 5, []⟩
  | 37 => some ⟨false, 1, .other, []⟩
  | 38 => some ⟨false, 1, .other, []⟩
  | 39 => some ⟨false, 1, .other, []⟩
  | 40 => some ⟨false, 1, .other, []⟩
  | 41 => some ⟨false, 1, .other, []⟩
  | 42 => some ⟨false, 1, .other, []⟩
  | 43 => some ⟨false, 1, .other, []⟩
  | 44 => some ⟨false, 1, .other, []⟩
  | 45 => some ⟨false, 1, .other, []⟩
  | 46 => some ⟨false, 1, .other, []⟩
  | 47 => some ⟨false, 1, .other, []⟩
  | 48 => some ⟨false, 1, .slice 64 7, []⟩
  | 49 => some ⟨true, 4, .st [(0, 1), (1, 1), (2, 1), (3, 1)], [.string ByteArray.empty, .bool false, .slice none 0 0, .int .i64 0]⟩
  | 50 => some ⟨true, 4, .st [(0, 1), (1, 1), (2, 1), (3, 1)], [.string ByteArray.empty, .bool false, .slice none 0 0, .int .i64 0]⟩
  | 51 => some ⟨false, 1, .other, []⟩
  | 52 => some ⟨true, 3, .st [(0, 1), (1, 1), (2, 1)], [.slice none 0 0, .int .i64 0, .bool false]⟩
  | 53 => some ⟨true, 3, .st [(0, 1), (1, 1), (2, 1)], [.slice none 0 0, .int .i64 0, .bool false]⟩
  | 54 => some ⟨false, 1, .other, []⟩
  | 55 => some ⟨false, 1, .other, []⟩
  | 56 => some ⟨true, 5, .st [(0, 1), (1, 1), (2, 1), (3, 1), (4, 1)], [.bool false, .int .u8 0, .bool false, .int .i64 0, .int .i64 0]⟩
  | 57 => some ⟨true, 5, .st [(0, 1), (1, 1), (2, 1), (3, 1), (4, 1)], [.bool false, .int .u8 0, .bool false, .int .i64 0, .int .i64 0]⟩
  | 58 => some ⟨false, 1, .slice 5 1, []⟩
  | 59 => some ⟨false, 1, .other, []⟩
  | 60 => some ⟨false, 1, .other, []⟩
  | 61 => some ⟨false, 1, .other, []⟩
  | 62 => some ⟨false, 1, .other, []⟩
  | 63 => some ⟨true, 7, .st [(0, 1), (1, 4), (5, 1), (6, 1)], [.int .i64 0, .int .u64 0, .int .u64 0, .int .u64 0, .int .u64 0, .int .i64 0, .int .i64 0]⟩
  | 64 => some ⟨true, 7, .st [(0, 1), (1, 4), (5, 1), (6, 1)], [.int .i64 0, .int .u64 0, .int .u64 0, .int .u64 0, .int .u64 0, .int .i64 0, .int .i64 0]⟩
  | 65 => some ⟨false, 1, .other, []⟩
  | 66 => some ⟨false, 1, .other, []⟩
  | 67 => some ⟨false, 1, .other, []⟩
  | 68 => some ⟨false, 1, .other, []⟩
  | 69 => some ⟨false, 1, .int .u64, []⟩
  | 70 => some ⟨false, 1, .other, []⟩
  | 71 => some ⟨false, 1, .other, []⟩
  | 72 => some ⟨false, 1, .other, []⟩
  | 73 => some ⟨false, 1, .other, []⟩
  | 74 => some ⟨false, 1, .other, []⟩
  | 75 => some ⟨false, 1, .other, []⟩
  | 76 => some ⟨false, 1, .other, []⟩
  | 77 => some ⟨false, 1, .other, []⟩
  | 78 => some ⟨false, 1, .other, []⟩
  | 79 => some ⟨false, 1, .other, []⟩
  | 80 => some ⟨false, 1, .other, []⟩
  | 81 => some ⟨false, 1, .other, []⟩
  | 82 => some ⟨false, 1, .other, []⟩
  | 83 => some ⟨false, 1, .int .u32, []⟩
  | 84 => some ⟨false, 1, .other, []⟩
  | 85 => some ⟨false, 1, .other, []⟩
  | 86 => some ⟨false, 1, .other, []⟩
  | 87 => some ⟨true, 4, .st [(0, 1), (1, 1), (2, 1), (3, 1)], [.pointer none, .pointer none, .pointer none, .string ByteArray.empty]⟩
  | 88 => some ⟨true, 4, .st [(0, 1), (1, 1), (2, 1), (3, 1)], [.pointer none, .pointer none, .pointer none, .string ByteArray.empty]⟩
  | 89 => some ⟨true, 0, .arr 0 16 1, []⟩
  | 92 => some ⟨false, 1, .int .u8, []⟩
  | 93 => some ⟨false, 1, .int .u8, []⟩
  | 94 => some ⟨false, 1, .other, []⟩
  | 95 => some ⟨false, 1, .other, []⟩
  | 96 => some ⟨false, 1, .int .i32, []⟩
  | 97 => some ⟨false, 1, .int .i32, []⟩
  | 98 => some ⟨true, 11, .st [(0, 1), (1, 1), (2, 1), (3, 1), (4, 1), (5, 1), (6, 1), (7, 1), (8, 1), (9, 1), (10, 1)], [.int .u64 0, .int .u64 0, .int .u32 0, .int .u8 0, .int .u8 0, .int .u8 0, .int .u8 0, .nilFunc, .pointer none, .int .i32 0, .int .i32 0]⟩
  | 99 => some ⟨true, 11, .st [(0, 1), (1, 1), (2, 1), (3, 1), (4, 1), (5, 1), (6, 1), (7, 1), (8, 1), (9, 1), (10, 1)], [.int .u64 0, .int .u64 0, .int .u32 0, .int .u8 0, .int .u8 0, .int .u8 0, .int .u8 0, .nilFunc, .pointer none, .int .i32 0, .int .i32 0]⟩
  | 100 => some ⟨false, 1, .other, []⟩
  | _ => none
set_option maxRecDepth 100000 in
set_option maxHeartbeats 4000000 in
theorem tab_ok : ∀ t i, tab t = some i → i.ok Try.prog t := by
  intro t i h
  unfold tab at h
  split at h
  · cases h; exact ⟨Try.isAgg0, Try.sizeOf0, trivial⟩
  · cases h; exact ⟨Try.isAgg1, Try.sizeOf1, trivial⟩
  · cases h; exact ⟨Try.isAgg2, Try.sizeOf2, Try.underlying2⟩
  · cases h; exact ⟨Try.isAgg3, Try.sizeOf3, Try.underlying3⟩
  · cases h; exact ⟨Try.isAgg4, Try.sizeOf4, Try.underlying4⟩
  · cases h; exact ⟨Try.isAgg5, Try.sizeOf5, Try.underlying5⟩
  · cases h; exact ⟨Try.isAgg6, Try.sizeOf6, Try.underlying6⟩
  · cases h; exact ⟨Try.isAgg7, Try.sizeOf7, ⟨by kernel_rfl, fun vs => by kernel_rfl⟩⟩
  · cases h; exact ⟨Try.isAgg8, Try.sizeOf8, ⟨by kernel_rfl, fun vs => by kernel_rfl⟩⟩
  · cases h; exact ⟨Try.isAgg9, Try.sizeOf9, Try.underlying9⟩
  · cases h; exact ⟨Try.isAgg10, Try.sizeOf10, Try.underlying10⟩
  · cases h; exact ⟨Try.isAgg11, Try.sizeOf11, Try.underlying11⟩
  · cases h; exact ⟨Try.isAgg12, Try.sizeOf12, Try.underlying12⟩
  · cases h; exact ⟨Try.isAgg13, Try.sizeOf13, ⟨by kernel_rfl, fun vs => by kernel_rfl⟩⟩
  · cases h; exact ⟨Try.isAgg14, Try.sizeOf14, ⟨by kernel_rfl, fun vs => by kernel_rfl⟩⟩
  · cases h; exact ⟨Try.isAgg15, Try.sizeOf15, trivial⟩
  · cases h; exact ⟨Try.isAgg16, Try.sizeOf16, trivial⟩
  · cases h; exact ⟨Try.isAgg17, Try.sizeOf17, trivial⟩
  · cases h; exact ⟨Try.isAgg18, Try.sizeOf18, ⟨by kernel_rfl, fun vs => by kernel_rfl⟩⟩
  · cases h; exact ⟨Try.isAgg19, Try.sizeOf19, ⟨by kernel_rfl, fun vs => by kernel_rfl⟩⟩
  · cases h; exact ⟨Try.isAgg20, Try.sizeOf20, trivial⟩
  · cases h; exact ⟨Try.isAgg21, Try.sizeOf21, Try.underlying21⟩
  · cases h; exact ⟨Try.isAgg22, Try.sizeOf22, trivial⟩
  · cases h; exact ⟨Try.isAgg23, Try.sizeOf23, trivial⟩
  · cases h; exact ⟨Try.isAgg24, Try.sizeOf24, Try.underlying24⟩
  · cases h; exact ⟨Try.isAgg25, Try.sizeOf25, Try.underlying25⟩
  · cases h; exact ⟨Try.isAgg26, Try.sizeOf26, ⟨Try.underlying26, Try.sizeOf25, fun vs => by kernel_rfl⟩⟩
  · cases h; exact ⟨Try.isAgg27, Try.sizeOf27, ⟨Try.underlying27, Try.sizeOf25, fun vs => by kernel_rfl⟩⟩
  · cases h; exact ⟨Try.isAgg28, Try.sizeOf28, ⟨Try.underlying28, Try.sizeOf30⟩⟩
  · cases h; exact ⟨Try.isAgg29, Try.sizeOf29, ⟨by kernel_rfl, fun vs => by kernel_rfl⟩⟩
  · cases h; exact ⟨Try.isAgg30, Try.sizeOf30, ⟨by kernel_rfl, fun vs => by kernel_rfl⟩⟩
  · cases h; exact ⟨Try.isAgg31, Try.sizeOf31, Try.underlying31⟩
  · cases h; exact ⟨Try.isAgg32, Try.sizeOf32, trivial⟩
  · cases h; exact ⟨Try.isAgg33, Try.sizeOf33, trivial⟩
  · cases h; exact ⟨Try.isAgg34, Try.sizeOf34, trivial⟩
  · cases h; exact ⟨Try.isAgg35, Try.sizeOf35, trivial⟩
  · cases h; exact ⟨Try.isAgg36, Try.sizeOf36, ⟨Try.underlying36, Try.sizeOf57⟩⟩
  · cases h; exact ⟨Try.isAgg37, Try.sizeOf37, trivial⟩
  · cases h; exact ⟨Try.isAgg38, Try.sizeOf38, trivial⟩
  · cases h; exact ⟨Try.isAgg39, Try.sizeOf39, trivial⟩
  · cases h; exact ⟨Try.isAgg40, Try.sizeOf40, trivial⟩
  · cases h; exact ⟨Try.isAgg41, Try.sizeOf41, trivial⟩
  · cases h; exact ⟨Try.isAgg42, Try.sizeOf42, trivial⟩
  · cases h; exact ⟨Try.isAgg43, Try.sizeOf43, trivial⟩
  · cases h; exact ⟨Try.isAgg44, Try.sizeOf44, trivial⟩
  · cases h; exact ⟨Try.isAgg45, Try.sizeOf45, trivial⟩
  · cases h; exact ⟨Try.isAgg46, Try.sizeOf46, trivial⟩
  · cases h; exact ⟨Try.isAgg47, Try.sizeOf47, trivial⟩
  · cases h; exact ⟨Try.isAgg48, Try.sizeOf48, ⟨Try.underlying48, Try.sizeOf64⟩⟩
  · cases h; exact ⟨Try.isAgg49, Try.sizeOf49, ⟨by kernel_rfl, fun vs => by kernel_rfl⟩⟩
  · cases h; exact ⟨Try.isAgg50, Try.sizeOf50, ⟨by kernel_rfl, fun vs => by kernel_rfl⟩⟩
  · cases h; exact ⟨Try.isAgg51, Try.sizeOf51, trivial⟩
  · cases h; exact ⟨Try.isAgg52, Try.sizeOf52, ⟨by kernel_rfl, fun vs => by kernel_rfl⟩⟩
  · cases h; exact ⟨Try.isAgg53, Try.sizeOf53, ⟨by kernel_rfl, fun vs => by kernel_rfl⟩⟩
  · cases h; exact ⟨Try.isAgg54, Try.sizeOf54, trivial⟩
  · cases h; exact ⟨Try.isAgg55, Try.sizeOf55, trivial⟩
  · cases h; exact ⟨Try.isAgg56, Try.sizeOf56, ⟨by kernel_rfl, fun vs => by kernel_rfl⟩⟩
  · cases h; exact ⟨Try.isAgg57, Try.sizeOf57, ⟨by kernel_rfl, fun vs => by kernel_rfl⟩⟩
  · cases h; exact ⟨Try.isAgg58, Try.sizeOf58, ⟨Try.underlying58, Try.sizeOf5⟩⟩
  · cases h; exact ⟨Try.isAgg59, Try.sizeOf59, trivial⟩
  · cases h; exact ⟨Try.isAgg60, Try.sizeOf60, trivial⟩
  · cases h; exact ⟨Try.isAgg61, Try.sizeOf61, trivial⟩
  · cases h; exact ⟨Try.isAgg62, Try.sizeOf62, trivial⟩
  · cases h; exact ⟨Try.isAgg63, Try.sizeOf63, ⟨by kernel_rfl, fun vs => by kernel_rfl⟩⟩
  · cases h; exact ⟨Try.isAgg64, Try.sizeOf64, ⟨by kernel_rfl, fun vs => by kernel_rfl⟩⟩
  · cases h; exact ⟨Try.isAgg65, Try.sizeOf65, trivial⟩
  · cases h; exact ⟨Try.isAgg66, Try.sizeOf66, trivial⟩
  · cases h; exact ⟨Try.isAgg67, Try.sizeOf67, trivial⟩
  · cases h; exact ⟨Try.isAgg68, Try.sizeOf68, trivial⟩
  · cases h; exact ⟨Try.isAgg69, Try.sizeOf69, Try.underlying69⟩
  · cases h; exact ⟨Try.isAgg70, Try.sizeOf70, trivial⟩
  · cases h; exact ⟨Try.isAgg71, Try.sizeOf71, trivial⟩
  · cases h; exact ⟨Try.isAgg72, Try.sizeOf72, trivial⟩
  · cases h; exact ⟨Try.isAgg73, Try.sizeOf73, trivial⟩
  · cases h; exact ⟨Try.isAgg74, Try.sizeOf74, trivial⟩
  · cases h; exact ⟨Try.isAgg75, Try.sizeOf75, trivial⟩
  · cases h; exact ⟨Try.isAgg76, Try.sizeOf76, trivial⟩
  · cases h; exact ⟨Try.isAgg77, Try.sizeOf77, trivial⟩
  · cases h; exact ⟨Try.isAgg78, Try.sizeOf78, trivial⟩
  · cases h; exact ⟨Try.isAgg79, Try.sizeOf79, trivial⟩
  · cases h; exact ⟨Try.isAgg80, Try.sizeOf80, trivial⟩
  · cases h; exact ⟨Try.isAgg81, Try.sizeOf81, trivial⟩
  · cases h; exact ⟨Try.isAgg82, Try.sizeOf82, trivial⟩
  · cases h; exact ⟨Try.isAgg83, Try.sizeOf83, Try.underlying83⟩
  · cases h; exact ⟨Try.isAgg84, Try.sizeOf84, trivial⟩
  · cases h; exact ⟨Try.isAgg85, Try.sizeOf85, trivial⟩
  · cases h; exact ⟨Try.isAgg86, Try.sizeOf86, trivial⟩
  · cases h; exact ⟨Try.isAgg87, Try.sizeOf87, ⟨by kernel_rfl, fun vs => by kernel_rfl⟩⟩
  · cases h; exact ⟨Try.isAgg88, Try.sizeOf88, ⟨by kernel_rfl, fun vs => by kernel_rfl⟩⟩
  · cases h; exact ⟨Try.isAgg89, Try.sizeOf89, ⟨Try.underlying89, Try.sizeOf16, fun vs => by kernel_rfl⟩⟩
  · cases h; exact ⟨Try.isAgg92, Try.sizeOf92, Try.underlying92⟩
  · cases h; exact ⟨Try.isAgg93, Try.sizeOf93, Try.underlying93⟩
  · cases h; exact ⟨Try.isAgg94, Try.sizeOf94, trivial⟩
  · cases h; exact ⟨Try.isAgg95, Try.sizeOf95, trivial⟩
  · cases h; exact ⟨Try.isAgg96, Try.sizeOf96, Try.underlying96⟩
  · cases h; exact ⟨Try.isAgg97, Try.sizeOf97, Try.underlying97⟩
  · cases h; exact ⟨Try.isAgg98, Try.sizeOf98, ⟨by kernel_rfl, fun vs => by kernel_rfl⟩⟩
  · cases h; exact ⟨Try.isAgg99, Try.sizeOf99, ⟨by kernel_rfl, fun vs => by kernel_rfl⟩⟩
  · cases h; exact ⟨Try.isAgg100, Try.sizeOf100, trivial⟩
  · cases h
section
variable {N : Nat} {R R' : Regs} {W0 : World} {F : List Nat} {L L' : List Ent} {Q : Exit → Act → World → Prop} {ops : Array Oper} {l l' : List Oper} {C : Prop}
theorem xg (n : Nat) (hs : List Nat) (h : (match nrm L with
    | some L => ex tab N ops n R L hs ((0 : Nat) = 0) l
    | none => none) = some (R', L', l', C)) (c : C) (k : G N R' (St W0 F L') (wpList Try.prog ops Q l')) : G N R (St W0 F L) (wpList Try.prog ops Q l) := by
  rw [nrm_eq] at h
  exact (ex_ok tab_ok h c).2 k
theorem xq {Qq : Act → Prop} (n : Nat) (hs : List Nat) (h : (match nrm L with
    | some L => eq_ tab N ops L n R hs ((0 : Nat) = 0) l
    | none => none) = some (R', l', C)) (c : C) (k : GQ N R' (wpQuiet Try.prog ops (St W0 F L) Qq l')) : GQ N R (wpQuiet Try.prog ops (St W0 F L) Qq l) := by
  rw [nrm_eq] at h
  exact (eq_ok tab_ok h c).2 k
/-- A region whose order is drawn; what stands in Lh stays as it is. -/
theorem k_go {id : Nat} {Lh Lr : List Ent} (is : List Nat) (hp : pickE is L = some (Lh, Lr)) (hm : Try.prog.follows .mixedOrders = true) (hQ : ∀ c a w d v, Q (.panic c) (a.put (some d) v) w → Q (.panic c) a w)
    (h : (∀ c a w d v, Q (.panic c) (a.put (some d) v) w → Q (.panic c) a w) → GA Try.prog l.toArray Q (St W0 F Lh) l.length (Array.replicate l.length false) (GR N R W0 F L)) : G N R (St W0 F L) ((Code.region id l.toArray true).wp Try.prog Q) :=
  k_start _ hm (h hQ)
theorem k_x {o : Oper} {fuel d : Nat} {listed : Array Bool} {v : Value} {hs' : List Nat} {Lh Lr : List Ent} (k : Nat) (is hs : List Nat) (hQ : ∀ c a w d v, Q (.panic c) (a.put (some d) v) w → Q (.panic c) a w) (hm : may ops listed k = true) (hk : ops[k]? = some o) (hw : want ops R o = some true) (hd : o.dst = some d) (hN : Nat.blt d N = true)
    (hp : pickE is L = some (Lh, Lr)) (hy : yv tab R Lh hs o.op = some (v, hs', none)) (h : GA Try.prog ops Q (St W0 F Lh) fuel (listed.setIfInBounds k true) (GR N ((d, v) :: R) W0 F L)) : GA Try.prog ops Q (St W0 F Lh) (fuel + 1) listed (GR N R W0 F L) :=
  k_take k hk hm hQ hw hd hN (fun _ h => h.pick is hp) (yv_ok tab_ok hy (fun p hp => by cases hp)) h
theorem k_xc {o : Oper} {fuel d : Nat} {listed : Array Bool} {v : Value} {hs' : List Nat} {Lh Lr : List Ent} (k : Nat) (is hs : List Nat) (hQ : ∀ c a w d v, Q (.panic c) (a.put (some d) v) w → Q (.panic c) a w) (hm : may ops listed k = true) (hk : ops[k]? = some o) (hw : want ops R o = some true) (hd : o.dst = some d) (hN : Nat.blt d N = true)
    (hp : pickE is L = some (Lh, Lr)) (hy : yv tab R Lh hs o.op = some (v, hs', some C)) (c : C) (h : GA Try.prog ops Q (St W0 F Lh) fuel (listed.setIfInBounds k true) (GR N ((d, v) :: R) W0 F L)) : GA Try.prog ops Q (St W0 F Lh) (fuel + 1) listed (GR N R W0 F L) :=
  k_take k hk hm hQ hw hd hN (fun _ h => h.pick is hp) (yv_ok tab_ok hy (fun p hp => by cases hp; exact c)) h
theorem k_no {o : Oper} {fuel d : Nat} {listed : Array Bool} {Lh Lr : List Ent} (k : Nat) (is : List Nat) (hQ : ∀ c a w d v, Q (.panic c) (a.put (some d) v) w → Q (.panic c) a w) (hm : may ops listed k = true) (hk : ops[k]? = some o) (hw : want ops R o = some false) (hd : o.dst = some d) (hN : Nat.blt d N = true)
    (hp : pickE is L = some (Lh, Lr)) (h : GA Try.prog ops Q (St W0 F Lh) fuel (listed.setIfInBounds k true) (GR N ((d, undef) :: R) W0 F L)) : GA Try.prog ops Q (St W0 F Lh) (fuel + 1) listed (GR N R W0 F L) :=
  k_untold k hk hm hQ hw hd hN (fun _ h => h.pick is hp) h
end
end Go.Proofs.Ytpoelkfncpjmfaa
