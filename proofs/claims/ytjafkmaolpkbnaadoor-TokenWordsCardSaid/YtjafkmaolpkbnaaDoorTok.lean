/- What the functions of tokens compute. -/
import Derived.Test.YtjafkmaolpkbnaaDoorRows
import Derived.Test.YtjafkmaolpkbnaaDoorC
import Derived.Test.YtjafkmaolpkbnaaDoorShelf
namespace Go.Proofs.YtjafkmaolpkbnaaDoor
open Go Go.RowKit


theorem bt_eq (s : ByteArray) (i : Int) (c : UInt8) : bt s i = (c.toNat : Int) ↔ by8 s i = c := by
  unfold bt
  constructor
  · intro h; exact UInt8.toNat_inj.1 (by omega)
  · intro h; rw [h]
theorem bt_10 (s : ByteArray) (i : Int) : bt s i = 10 ↔ by8 s i = 10 := bt_eq s i 10
theorem bt_92 (s : ByteArray) (i : Int) : bt s i = 92 ↔ by8 s i = 92 := bt_eq s i 92
theorem bt_32 (s : ByteArray) (i : Int) : bt s i = 32 ↔ by8 s i = 32 := bt_eq s i 32
theorem bt_9 (s : ByteArray) (i : Int) : bt s i = 9 ↔ by8 s i = 9 := bt_eq s i 9
theorem u8_10 (c : UInt8) : ((c.toNat : Int) = 10) ↔ c = 10 := by
  constructor
  · intro h; exact UInt8.toNat_inj.1 (by simpa using (by omega : c.toNat = 10))
  · intro h; subst h; rfl
theorem u8_92 (c : UInt8) : ((c.toNat : Int) = 92) ↔ c = 92 := by
  constructor
  · intro h; exact UInt8.toNat_inj.1 (by simpa using (by omega : c.toNat = 92))
  · intro h; subst h; rfl
/-- The bytes from i on. -/
def from_ (s : ByteArray) (i : Int) : List UInt8 := s.data.toList.drop i.toNat
theorem dlen (s : ByteArray) : s.data.toList.length = s.size := by rw [Array.length_toList]; rfl
theorem from_at (s : ByteArray) (i : Int) (h0 : 0 ≤ i) (h1 : i < s.size) : from_ s i = by8 s i :: from_ s (i + 1) := by
  unfold from_ by8
  have hlt : i.toNat < s.data.toList.length := by rw [dlen]; omega
  have e : (i + 1).toNat = i.toNat + 1 := by omega
  rw [e, List.drop_eq_getElem_cons hlt]
  congr 1
  have : i.toNat < s.size := by omega
  simp [this]
  rfl
theorem from_end (s : ByteArray) (i : Int) (h1 : i = s.size) : from_ s i = [] := by
  unfold from_
  rw [List.drop_eq_nil_iff]
  rw [dlen]; omega
theorem from_len (s : ByteArray) (i : Int) (h0 : 0 ≤ i) (h1 : i ≤ s.size) : ((from_ s i).length : Int) = s.size - i := by
  unfold from_
  rw [List.length_drop]
  rw [dlen]; omega

/-- What stands up to a delimiter, and what is left behind it. -/
def cutM (d : UInt8) (lines : Bool) : Bool → List UInt8 → List UInt8 → Option (List UInt8 × List UInt8)
  | _, [], _ => none
  | false, c :: r, acc => if c = d then some (acc, r) else if c = 10 then none else if c = 92 then cutM d lines true r acc else cutM d lines false r (acc ++ [c])
  | true, c :: r, acc => if c = 10 ∧ lines = false then none else cutM d lines false r (if c = d then acc ++ [c] else acc ++ [92] ++ [c])
def finR (s : ByteArray) : Option (List UInt8 × List UInt8) → ByteArray × Int × Int
  | none => (⟨#[]⟩, 0, 121)
  | some (a, r) => (⟨a.toArray⟩, s.size - r.length, 0)
def cutR (s : ByteArray) (i : Int) (d : UInt8) (lines : Bool) : ByteArray × Int × Int :=
  if 0 ≤ i ∧ i ≤ s.size ∧ d ≠ 10 ∧ d ≠ 92 then finR s (cutM d lines false (from_ s i) []) else (⟨#[]⟩, 0, 121)
section
variable (s : ByteArray) (i : Int) (d : UInt8) (lines : Bool) (acc : List UInt8) (h0 : 0 ≤ i) (h1 : i < s.size)
include h0 h1
theorem cut_d (hd : bt s i = (d.toNat : Int)) : finR s (cutM d lines false (from_ s i) acc) = (⟨acc.toArray⟩, i + 1, 0) := by
  rw [from_at s i h0 h1, cutM, if_pos ((bt_eq s i d).1 hd)]
  have q := from_len s (i + 1) (by omega) (by omega)
  simp only [finR, q]
  congr 2; omega
theorem cut_10 (hd : ¬ bt s i = (d.toNat : Int)) (h : bt s i = 10) : finR s (cutM d lines false (from_ s i) acc) = (⟨#[]⟩, 0, 121) := by
  rw [from_at s i h0 h1, cutM, if_neg (fun q => hd ((bt_eq s i d).2 q)), if_pos ((bt_10 s i).1 h)]; rfl
theorem cut_92 (hd : ¬ bt s i = (d.toNat : Int)) (h : ¬ bt s i = 10) (h' : bt s i = 92) : finR s (cutM d lines false (from_ s i) acc) = finR s (cutM d lines true (from_ s (i + 1)) acc) := by
  rw [from_at s i h0 h1, cutM, if_neg (fun q => hd ((bt_eq s i d).2 q)), if_neg (fun q => h ((bt_10 s i).2 q)), if_pos ((bt_92 s i).1 h')]
theorem cut_c (hd : ¬ bt s i = (d.toNat : Int)) (h : ¬ bt s i = 10) (h' : ¬ bt s i = 92) : finR s (cutM d lines false (from_ s i) acc) = finR s (cutM d lines false (from_ s (i + 1)) (acc ++ [by8 s i])) := by
  rw [from_at s i h0 h1, cutM, if_neg (fun q => hd ((bt_eq s i d).2 q)), if_neg (fun q => h ((bt_10 s i).2 q)), if_neg (fun q => h' ((bt_92 s i).2 q))]
theorem cut_e10 (h : bt s i = 10) (hl : lines = false) : finR s (cutM d lines true (from_ s i) acc) = (⟨#[]⟩, 0, 121) := by
  rw [from_at s i h0 h1, cutM, if_pos ⟨(bt_10 s i).1 h, hl⟩]; rfl
theorem cut_ed (h : ¬ (bt s i = 10 ∧ lines = false)) (hd : bt s i = (d.toNat : Int)) : finR s (cutM d lines true (from_ s i) acc) = finR s (cutM d lines false (from_ s (i + 1)) (acc ++ [by8 s i])) := by
  rw [from_at s i h0 h1, cutM, if_neg (fun q => h ⟨(bt_10 s i).2 q.1, q.2⟩), if_pos ((bt_eq s i d).1 hd)]
theorem cut_en (h : ¬ (bt s i = 10 ∧ lines = false)) (hd : ¬ bt s i = (d.toNat : Int)) : finR s (cutM d lines true (from_ s i) acc) = finR s (cutM d lines false (from_ s (i + 1)) (acc ++ [92] ++ [by8 s i])) := by
  rw [from_at s i h0 h1, cutM, if_neg (fun q => h ⟨(bt_10 s i).2 q.1, q.2⟩), if_neg (fun q => hd ((bt_eq s i d).2 q))]
end
theorem cut_end (s : ByteArray) (i : Int) (d : UInt8) (lines b : Bool) (acc : List UInt8) (h1 : i = s.size) : finR s (cutM d lines b (from_ s i) acc) = (⟨#[]⟩, 0, 121) := by
  rw [from_end s i h1]; cases b <;> rfl
abbrev cutV (r : ByteArray × Int × Int) : Value := .tuple #[.string r.1, .int .i64 r.2.1, .int .i64 r.2.2]
theorem ret_cut {a : ByteArray} {b c : Int} {r : ByteArray × Int × Int} (h : r = (a, b, c)) : Ending.returned (.tuple #[.string a, .int .i64 b, .int .i64 c]) = .returned (cutV r) := by rw [h]

theorem place_any (s : ByteArray) (i : Int) (w : World) :
    Calls Tryd.prog 20 #[.string s, .int .i64 i] w fun e w' => e = .returned (.bool (decide (0 ≤ i ∧ i ≤ s.size))) ∧ Below w.heap.size w w' := by
  refine fn_intro Tryd.func20 rfl Tryd.ntmps20 rfl rfl ?_
  refine g_seq (g_ops ?_)
  refine g_val rfl rfl rfl (y_assign rfl) ?_
  refine g_nil (g_then (g_seq (g_ops ?_)))
  refine g_val rfl rfl rfl (y_move rfl) ?_
  refine g_val rfl rfl rfl (y_ige rfl rfl) ?_
  refine g_val rfl rfl rfl (y_move rfl) ?_
  first | refine g_casep 7 rfl (fun h1 => ?_) (fun h1 => ?_) | refine g_caseb 7 rfl (fun h1 => ?_) (fun h1 => ?_)
  · skip
    refine g_val rfl rfl rfl (y_move rfl) ?_
    refine g_val rfl rfl rfl (y_move rfl) ?_
    refine g_val rfl rfl rfl (y_slen rfl Tryd.underlying9) ?_
    refine g_val rfl rfl rfl (y_ile rfl rfl) ?_
    refine g_val rfl rfl rfl (y_pick_t rfl rfl) ?_
    refine g_val rfl rfl rfl (y_assign rfl) ?_
    refine g_nil (g_then (g_ret ?_))
    refine g_end1 Tryd.results20 rfl ?_
    exact fun w hS => ⟨ret_bool (by simp; try omega), hS.below⟩
  · skip
    refine g_not rfl rfl rfl ?_
    refine g_not rfl rfl rfl ?_
    refine g_not rfl rfl rfl ?_
    refine g_not rfl rfl rfl ?_
    refine g_val rfl rfl rfl (y_pick_f rfl rfl) ?_
    refine g_val rfl rfl rfl (y_assign rfl) ?_
    refine g_nil (g_then (g_ret ?_))
    refine g_end1 Tryd.results20 rfl ?_
    exact fun w hS => ⟨ret_bool (by simp; try omega), hS.below⟩

theorem cut_any (s : ByteArray) (i : Int) (d : UInt8) (lines : Bool) (R0 : ByteArray × Int × Int) (hs : s.size ≤ 1073741824) (hR : cutR s i d lines = R0) (w : World) :
    Calls Tryd.prog 18 #[.string s, .int .i64 i, .int .u8 d.toNat, .bool lines] w fun e w' => e = .returned (cutV R0) ∧ Below w.heap.size w w' := by
  refine fn_intro Tryd.func18 rfl Tryd.ntmps18 rfl rfl ?_
  refine g_seq (g_ops ?_)
  refine g_val rfl rfl rfl (y_assign rfl) ?_
  refine g_val rfl rfl rfl (y_assign rfl) ?_
  refine g_val rfl rfl rfl (y_assign rfl) ?_
  refine g_nil (g_then ?_)
  refine g_scope (α := ({x : Unit // R0 = (⟨#[]⟩, 0, 121)}) ⊕ (({x : Int × Value × List UInt8 // 0 ≤ x.1 ∧ x.1 ≤ s.size ∧ x.2.2.length ≤ 2 * x.1.toNat ∧ finR s (cutM d lines false (from_ s x.1) x.2.2) = R0}) ⊕ ({x : Int × Value × List UInt8 // 0 ≤ x.1 ∧ x.1 ≤ s.size ∧ x.2.2.length ≤ 2 * x.1.toNat ∧ finR s (cutM d lines true (from_ s x.1) x.2.2) = R0}))) (fun z => match z with | (.inl x) => [] | (.inr (.inl x)) => [(0, .string s), (1, .int .i64 x.1.1), (2, .int .u8 d.toNat), (3, .bool lines), (11, x.1.2.1)] | (.inr (.inr x)) => [(0, .string s), (1, .int .i64 x.1.1), (2, .int .u8 d.toNat), (3, .bool lines), (11, x.1.2.1)]) (fun z => match z with | (.inl x) => St w [] [] | (.inr (.inl x)) => St w [] [.bytes 5 x.1.2.1 x.1.2.2] | (.inr (.inr x)) => St w [] [.bytes 5 x.1.2.1 x.1.2.2]) (fun z => match z with | (.inl x) => 0 | (.inr (.inl x)) => 1 | (.inr (.inr x)) => 2) (fun z => match z with | (.inl x) => 0 | (.inr (.inl x)) => 2 * (s.size - x.1.1.toNat) + 1 | (.inr (.inr x)) => 2 * (s.size - x.1.1.toNat) + 2) ?_ ?_
  · skip
    refine g_seq (g_ops ?_)
    refine g_nilBytes 5 ?_
    refine g_val rfl rfl rfl (y_assign rfl) ?_
    refine g_nil (g_then (g_seq (g_ops ?_)))
    refine g_val rfl rfl rfl (y_assign rfl) ?_
    refine g_nil (g_then (g_seq (g_seq (g_ops ?_))))
    refine g_val rfl rfl rfl (y_move rfl) ?_
    refine g_val rfl rfl rfl (y_move rfl) ?_
    refine g_call1 rfl rfl rfl Tryd.call20 (fun w hS => place_any _ _ w) ?_
    refine g_val rfl rfl rfl ((by first | exact y_notp rfl | exact y_not rfl)) ?_
    refine g_val rfl rfl rfl (y_move rfl) ?_
    first | refine g_casep 17 rfl (fun h1 => ?_) (fun h1 => ?_) | refine g_caseb 17 rfl (fun h1 => ?_) (fun h1 => ?_)
    · skip
      refine g_not rfl rfl rfl ?_
      refine g_not rfl rfl rfl ?_
      refine g_val rfl rfl rfl (y_pick_t rfl rfl) ?_
      refine g_val rfl rfl rfl (y_move rfl) ?_
      refine g_not rfl rfl rfl ?_
      refine g_not rfl rfl rfl ?_
      refine g_val rfl rfl rfl (y_pick_t rfl rfl) ?_
      refine g_nil (g_then (g_cond_t rfl (g_goto (g_then_goto ?_))))
      exact g_jump (.inl ⟨(), by first | exact hc.symm.trans (cut_end s i d lines _ _ (by first | assumption | omega)) | exact hc.symm.trans (cut_10 s i d lines _ (by omega) (by omega) (by first | assumption | omega) (by first | assumption | omega)) | exact hc.symm.trans (cut_e10 s i d lines _ (by omega) (by omega) (by first | assumption | omega) (by simp_all)) | (rw [← hR, cutR, if_neg (by rintro ⟨q1, q2, q3, q4⟩; first | omega | simp_all [u8_10, u8_92])]; done)⟩) [] rfl (fun j hj => by cases hj) rfl (fun w h => h.sub (.cons _ .slnil))
    · skip
      refine g_val rfl rfl rfl (y_move rfl) ?_
      refine g_val rfl rfl rfl (y_ieq rfl rfl) ?_
      refine g_val rfl rfl rfl (y_pick_f rfl rfl) ?_
      refine g_val rfl rfl rfl (y_move rfl) ?_
      first | refine g_casep 21 rfl (fun h2 => ?_) (fun h2 => ?_) | refine g_caseb 21 rfl (fun h2 => ?_) (fun h2 => ?_)
      · skip
        refine g_not rfl rfl rfl ?_
        refine g_not rfl rfl rfl ?_
        refine g_val rfl rfl rfl (y_pick_t rfl rfl) ?_
        refine g_nil (g_then (g_cond_t rfl (g_goto (g_then_goto ?_))))
        exact g_jump (.inl ⟨(), by first | exact hc.symm.trans (cut_end s i d lines _ _ (by first | assumption | omega)) | exact hc.symm.trans (cut_10 s i d lines _ (by omega) (by omega) (by first | assumption | omega) (by first | assumption | omega)) | exact hc.symm.trans (cut_e10 s i d lines _ (by omega) (by omega) (by first | assumption | omega) (by simp_all)) | (rw [← hR, cutR, if_neg (by rintro ⟨q1, q2, q3, q4⟩; first | omega | simp_all [u8_10, u8_92])]; done)⟩) [] rfl (fun j hj => by cases hj) rfl (fun w h => h.sub (.cons _ .slnil))
      · skip
        refine g_val rfl rfl rfl (y_move rfl) ?_
        refine g_val rfl rfl rfl (y_ieq rfl rfl) ?_
        refine g_val rfl rfl rfl (y_pick_f rfl rfl) ?_
        refine g_nil (g_then ?_)
        first | refine g_casep 24 rfl (fun h3 => ?_) (fun h3 => ?_) | refine g_caseb 24 rfl (fun h3 => ?_) (fun h3 => ?_)
        · skip
          refine g_cond_t rfl (g_goto (g_then_goto ?_))
          exact g_jump (.inl ⟨(), by first | exact hc.symm.trans (cut_end s i d lines _ _ (by first | assumption | omega)) | exact hc.symm.trans (cut_10 s i d lines _ (by omega) (by omega) (by first | assumption | omega) (by first | assumption | omega)) | exact hc.symm.trans (cut_e10 s i d lines _ (by omega) (by omega) (by first | assumption | omega) (by simp_all)) | (rw [← hR, cutR, if_neg (by rintro ⟨q1, q2, q3, q4⟩; first | omega | simp_all [u8_10, u8_92])]; done)⟩) [] rfl (fun j hj => by cases hj) rfl (fun w h => h.sub (.cons _ .slnil))
        · skip
          refine g_cond_f rfl (g_skip (g_then (g_seq (g_label ?_))))
          have hc : finR s (cutM d lines false (from_ s i) []) = R0 := by simp_all [cutR, u8_10, u8_92]
          have hl : ([] : List UInt8).length ≤ 2 * i.toNat := by simp
          have hi0 : 0 ≤ i := by simp_all
          have hi1 : i ≤ s.size := by simp_all
          refine g_then (g_seq (g_seq (g_ops ?_)))
          refine g_val rfl rfl rfl (y_move rfl) ?_
          refine g_val rfl rfl rfl (y_move rfl) ?_
          refine g_val rfl rfl rfl (y_slen rfl Tryd.underlying9) ?_
          refine g_val rfl rfl rfl (y_ieq rfl rfl) ?_
          refine g_nil (g_then ?_)
          first | refine g_casep 28 rfl (fun h4 => ?_) (fun h4 => ?_) | refine g_caseb 28 rfl (fun h4 => ?_) (fun h4 => ?_)
          · skip
            refine g_cond_t rfl (g_goto (g_then_goto ?_))
            exact g_jump (.inl ⟨(), by first | exact hc.symm.trans (cut_end s i d lines _ _ (by first | assumption | omega)) | exact hc.symm.trans (cut_10 s i d lines _ (by omega) (by omega) (by first | assumption | omega) (by first | assumption | omega)) | exact hc.symm.trans (cut_e10 s i d lines _ (by omega) (by omega) (by first | assumption | omega) (by simp_all)) | (rw [← hR, cutR, if_neg (by rintro ⟨q1, q2, q3, q4⟩; first | omega | simp_all [u8_10, u8_92])]; done)⟩) [] rfl (fun j hj => by cases hj) rfl (fun w h => h.sub (.cons _ .slnil))
          · skip
            refine g_cond_f rfl (g_skip (g_then (g_seq (g_ops ?_))))
            refine g_val rfl rfl rfl (y_move rfl) ?_
            refine g_val rfl rfl rfl (y_move rfl) ?_
            refine g_val rfl rfl rfl (y_sat rfl rfl Tryd.underlying9 (by omega) (by omega)) ?_
            refine g_val rfl rfl rfl (y_assign rfl) ?_
            refine g_nil (g_then (g_seq (g_ops ?_)))
            refine g_val rfl rfl rfl (y_move rfl) ?_
            refine g_val rfl rfl rfl (by first | exact y_addi rfl rfl (by first | omega | (simp only [size_mk, ByteArray.size_append, ByteArray.size_extract]; omega)) | exact y_iadd rfl rfl) ?_
            refine g_val rfl rfl rfl (y_assign rfl) ?_
            refine g_nil (g_then (g_seq (g_seq (g_ops ?_))))
            refine g_val rfl rfl rfl (y_move rfl) ?_
            refine g_nil (g_then (g_block (g_seq (g_ops ?_))))
            refine g_val rfl rfl rfl (y_move rfl) ?_
            refine g_val rfl rfl rfl (y_ieq rfl rfl) ?_
            refine g_val rfl rfl rfl (y_assign rfl) ?_
            refine g_nil (g_then ?_)
            first | refine g_casep 35 rfl (fun h5 => ?_) (fun h5 => ?_) | refine g_caseb 35 rfl (fun h5 => ?_) (fun h5 => ?_)
            · skip
              refine g_cond_t rfl (g_seq (g_ops ?_))
              refine g_val rfl rfl rfl (y_move rfl) ?_
              refine g_val rfl rfl rfl (y_bytesStr 0 rfl Tryd.underlying23 Tryd.underlying9 Tryd.underlying5 rfl) ?_
              refine g_val rfl rfl rfl (y_move rfl) ?_
              refine g_val rfl rfl rfl (y_assign rfl) ?_
              refine g_val rfl rfl rfl (y_assign rfl) ?_
              refine g_val rfl rfl rfl (y_assign rfl) ?_
              refine g_nil (g_then (g_ret (g_in_ret (g_then_ret (g_jumps_ret ?_)))))
              refine g_end3 Tryd.results18 rfl rfl rfl ?_
              exact fun w hS => ⟨ret_cut (by first | assumption | exact hc.symm.trans (cut_d s i d lines _ (by omega) (by omega) (by first | assumption | omega))), hS.below⟩
            · skip
              refine g_cond_f rfl (g_seq (g_ops ?_))
              refine g_val rfl rfl rfl (y_ieq rfl rfl) ?_
              refine g_val rfl rfl rfl (y_assign rfl) ?_
              refine g_nil (g_then ?_)
              first | refine g_casep 41 rfl (fun h6 => ?_) (fun h6 => ?_) | refine g_caseb 41 rfl (fun h6 => ?_) (fun h6 => ?_)
              · skip
                refine g_cond_t rfl (g_goto (g_in_goto (g_then_goto ?_)))
                exact g_jump (.inl ⟨(), by first | exact hc.symm.trans (cut_end s i d lines _ _ (by first | assumption | omega)) | exact hc.symm.trans (cut_10 s i d lines _ (by omega) (by omega) (by first | assumption | omega) (by first | assumption | omega)) | exact hc.symm.trans (cut_e10 s i d lines _ (by omega) (by omega) (by first | assumption | omega) (by simp_all)) | (rw [← hR, cutR, if_neg (by rintro ⟨q1, q2, q3, q4⟩; first | omega | simp_all [u8_10, u8_92])]; done)⟩) [] rfl (fun j hj => by cases hj) rfl (fun w h => h.sub (.cons _ .slnil))
              · skip
                refine g_cond_f rfl (g_seq (g_ops ?_))
                refine g_val rfl rfl rfl (y_ieq rfl rfl) ?_
                refine g_val rfl rfl rfl (y_assign rfl) ?_
                refine g_nil (g_then ?_)
                first | refine g_casep 43 rfl (fun h7 => ?_) (fun h7 => ?_) | refine g_caseb 43 rfl (fun h7 => ?_) (fun h7 => ?_)
                · skip
                  refine g_cond_t rfl (g_goto (g_in_goto (g_then_goto ?_)))
                  exact g_jump (.inr (.inr ⟨(_, _, _), by omega, by omega, by first | (dsimp only; omega) | (simp; omega), by first | exact (cut_c s i d lines _ (by omega) (by omega) (by first | assumption | omega) (by first | assumption | omega) (by first | assumption | omega)).symm.trans hc | exact (cut_92 s i d lines _ (by omega) (by omega) (by first | assumption | omega) (by first | assumption | omega) (by first | assumption | omega)).symm.trans hc | exact (cut_ed s i d lines _ (by omega) (by omega) (by first | (simp_all; done) | (intro q; simp_all)) (by first | assumption | omega)).symm.trans hc | exact (cut_en s i d lines _ (by omega) (by omega) (by first | (simp_all; done) | (intro q; simp_all)) (by first | assumption | omega)).symm.trans hc⟩)) [0, 1, 2, 3, 11] rfl (fun j hj => by cases hj) rfl (fun w h => h.sub (.cons_cons _ .slnil))
                · skip
                  refine g_cond_f rfl (g_skip (g_in_normal (g_then (g_seq (g_ops ?_)))))
                  refine g_val rfl rfl rfl (y_move rfl) ?_
                  refine g_val rfl rfl rfl (y_move rfl) ?_
                  refine g_buildSlice (offs := [0]) rfl rfl Tryd.underlying23 rfl Tryd.zeroValue5 (by kernel_rfl) (fun b1 => ?_)
                  refine g_appB (l' := [by8 s i]) 1 0 rfl rfl rfl rfl Tryd.underlying23 (by kernel_rfl) rfl rfl rfl rfl (by first | omega | (simp; omega)) (fun v2 => ?_)
                  simp only [List.set_cons_zero, List.set_cons_succ]
                  refine g_val rfl rfl rfl (y_assign rfl) ?_
                  refine g_nil (g_then (g_seq (g_goto (g_then_goto ?_))))
                  exact g_jump (.inr (.inl ⟨(_, _, _), by omega, by omega, by simp; omega, by first | exact (cut_c s i d lines _ (by omega) (by omega) (by first | assumption | omega) (by first | assumption | omega) (by first | assumption | omega)).symm.trans hc | exact (cut_92 s i d lines _ (by omega) (by omega) (by first | assumption | omega) (by first | assumption | omega) (by first | assumption | omega)).symm.trans hc | exact (cut_ed s i d lines _ (by omega) (by omega) (by first | (simp_all; done) | (intro q; simp_all)) (by first | assumption | omega)).symm.trans hc | exact (cut_en s i d lines _ (by omega) (by omega) (by first | (simp_all; done) | (intro q; simp_all)) (by first | assumption | omega)).symm.trans hc⟩)) [0, 1, 2, 3, 11] rfl (fun j hj => by cases hj) rfl (fun w h => h.sub (.cons _ (.cons_cons _ .slnil)))
  · rintro (x | x | x)
    · refine ⟨_, rfl, ?_⟩
      dsimp only
      obtain ⟨_, hx⟩ := x
      refine g_seq (g_skip (g_then (g_seq (g_ops ?_))))
      refine g_val rfl rfl rfl (y_assign rfl) ?_
      refine g_val rfl rfl rfl (y_assign rfl) ?_
      refine g_val rfl rfl rfl (y_assign rfl) ?_
      refine g_nil (g_then (g_ret (g_jumps_ret ?_)))
      refine g_end3 Tryd.results18 rfl rfl rfl ?_
      exact fun w hS => ⟨ret_cut (by first | assumption | exact hc.symm.trans (cut_d s i d lines _ (by omega) (by omega) (by first | assumption | omega))), hS.below⟩
    · refine ⟨_, rfl, ?_⟩
      dsimp only
      obtain ⟨⟨i, v, acc⟩, hx⟩ := x
      dsimp only at hx ⊢
      obtain ⟨hi0, hi1, hl, hc⟩ := hx
      refine g_seq (g_skip (g_then (g_seq (g_seq (g_ops ?_)))))
      refine g_val rfl rfl rfl (y_move rfl) ?_
      refine g_val rfl rfl rfl (y_move rfl) ?_
      refine g_val rfl rfl rfl (y_slen rfl Tryd.underlying9) ?_
      refine g_val rfl rfl rfl (y_ieq rfl rfl) ?_
      refine g_nil (g_then ?_)
      first | refine g_casep 28 rfl (fun h8 => ?_) (fun h8 => ?_) | refine g_caseb 28 rfl (fun h8 => ?_) (fun h8 => ?_)
      · skip
        refine g_cond_t rfl (g_goto (g_then_goto ?_))
        exact g_jump (.inl ⟨(), by first | exact hc.symm.trans (cut_end s i d lines _ _ (by first | assumption | omega)) | exact hc.symm.trans (cut_10 s i d lines _ (by omega) (by omega) (by first | assumption | omega) (by first | assumption | omega)) | exact hc.symm.trans (cut_e10 s i d lines _ (by omega) (by omega) (by first | assumption | omega) (by simp_all)) | (rw [← hR, cutR, if_neg (by rintro ⟨q1, q2, q3, q4⟩; first | omega | simp_all [u8_10, u8_92])]; done)⟩) [] rfl (fun j hj => by cases hj; dsimp only; omega) rfl (fun w h => h.sub (.cons _ .slnil))
      · skip
        refine g_cond_f rfl (g_skip (g_then (g_seq (g_ops ?_))))
        refine g_val rfl rfl rfl (y_move rfl) ?_
        refine g_val rfl rfl rfl (y_move rfl) ?_
        refine g_val rfl rfl rfl (y_sat rfl rfl Tryd.underlying9 (by omega) (by omega)) ?_
        refine g_val rfl rfl rfl (y_assign rfl) ?_
        refine g_nil (g_then (g_seq (g_ops ?_)))
        refine g_val rfl rfl rfl (y_move rfl) ?_
        refine g_val rfl rfl rfl (by first | exact y_addi rfl rfl (by first | omega | (simp only [size_mk, ByteArray.size_append, ByteArray.size_extract]; omega)) | exact y_iadd rfl rfl) ?_
        refine g_val rfl rfl rfl (y_assign rfl) ?_
        refine g_nil (g_then (g_seq (g_seq (g_ops ?_))))
        refine g_val rfl rfl rfl (y_move rfl) ?_
        refine g_nil (g_then (g_block (g_seq (g_ops ?_))))
        refine g_val rfl rfl rfl (y_move rfl) ?_
        refine g_val rfl rfl rfl (y_ieq rfl rfl) ?_
        refine g_val rfl rfl rfl (y_assign rfl) ?_
        refine g_nil (g_then ?_)
        first | refine g_casep 35 rfl (fun h9 => ?_) (fun h9 => ?_) | refine g_caseb 35 rfl (fun h9 => ?_) (fun h9 => ?_)
        · skip
          refine g_cond_t rfl (g_seq (g_ops ?_))
          refine g_val rfl rfl rfl (y_move rfl) ?_
          refine g_val rfl rfl rfl (y_bytesStr 0 rfl Tryd.underlying23 Tryd.underlying9 Tryd.underlying5 rfl) ?_
          refine g_val rfl rfl rfl (y_move rfl) ?_
          refine g_val rfl rfl rfl (y_assign rfl) ?_
          refine g_val rfl rfl rfl (y_assign rfl) ?_
          refine g_val rfl rfl rfl (y_assign rfl) ?_
          refine g_nil (g_then (g_ret (g_in_ret (g_then_ret (g_jumps_ret ?_)))))
          refine g_end3 Tryd.results18 rfl rfl rfl ?_
          exact fun w hS => ⟨ret_cut (by first | assumption | exact hc.symm.trans (cut_d s i d lines _ (by omega) (by omega) (by first | assumption | omega))), hS.below⟩
        · skip
          refine g_cond_f rfl (g_seq (g_ops ?_))
          refine g_val rfl rfl rfl (y_ieq rfl rfl) ?_
          refine g_val rfl rfl rfl (y_assign rfl) ?_
          refine g_nil (g_then ?_)
          first | refine g_casep 41 rfl (fun h10 => ?_) (fun h10 => ?_) | refine g_caseb 41 rfl (fun h10 => ?_) (fun h10 => ?_)
          · skip
            refine g_cond_t rfl (g_goto (g_in_goto (g_then_goto ?_)))
            exact g_jump (.inl ⟨(), by first | exact hc.symm.trans (cut_end s i d lines _ _ (by first | assumption | omega)) | exact hc.symm.trans (cut_10 s i d lines _ (by omega) (by omega) (by first | assumption | omega) (by first | assumption | omega)) | exact hc.symm.trans (cut_e10 s i d lines _ (by omega) (by omega) (by first | assumption | omega) (by simp_all)) | (rw [← hR, cutR, if_neg (by rintro ⟨q1, q2, q3, q4⟩; first | omega | simp_all [u8_10, u8_92])]; done)⟩) [] rfl (fun j hj => by cases hj; dsimp only; omega) rfl (fun w h => h.sub (.cons _ .slnil))
          · skip
            refine g_cond_f rfl (g_seq (g_ops ?_))
            refine g_val rfl rfl rfl (y_ieq rfl rfl) ?_
            refine g_val rfl rfl rfl (y_assign rfl) ?_
            refine g_nil (g_then ?_)
            first | refine g_casep 43 rfl (fun h11 => ?_) (fun h11 => ?_) | refine g_caseb 43 rfl (fun h11 => ?_) (fun h11 => ?_)
            · skip
              refine g_cond_t rfl (g_goto (g_in_goto (g_then_goto ?_)))
              exact g_jump (.inr (.inr ⟨(_, _, _), by omega, by omega, by first | (dsimp only; omega) | (simp; omega), by first | exact (cut_c s i d lines _ (by omega) (by omega) (by first | assumption | omega) (by first | assumption | omega) (by first | assumption | omega)).symm.trans hc | exact (cut_92 s i d lines _ (by omega) (by omega) (by first | assumption | omega) (by first | assumption | omega) (by first | assumption | omega)).symm.trans hc | exact (cut_ed s i d lines _ (by omega) (by omega) (by first | (simp_all; done) | (intro q; simp_all)) (by first | assumption | omega)).symm.trans hc | exact (cut_en s i d lines _ (by omega) (by omega) (by first | (simp_all; done) | (intro q; simp_all)) (by first | assumption | omega)).symm.trans hc⟩)) [0, 1, 2, 3, 11] rfl (fun j hj => by cases hj; dsimp only; omega) rfl (fun w h => h.sub (.cons_cons _ .slnil))
            · skip
              refine g_cond_f rfl (g_skip (g_in_normal (g_then (g_seq (g_ops ?_)))))
              refine g_val rfl rfl rfl (y_move rfl) ?_
              refine g_val rfl rfl rfl (y_move rfl) ?_
              refine g_buildSlice (offs := [0]) rfl rfl Tryd.underlying23 rfl Tryd.zeroValue5 (by kernel_rfl) (fun b3 => ?_)
              refine g_appB (l' := [by8 s i]) 1 0 rfl rfl rfl rfl Tryd.underlying23 (by kernel_rfl) rfl rfl rfl rfl (by first | omega | (simp; omega)) (fun v4 => ?_)
              simp only [List.set_cons_zero, List.set_cons_succ]
              refine g_val rfl rfl rfl (y_assign rfl) ?_
              refine g_nil (g_then (g_seq (g_goto (g_then_goto ?_))))
              exact g_jump (.inr (.inl ⟨(_, _, _), by omega, by omega, by simp; omega, by first | exact (cut_c s i d lines _ (by omega) (by omega) (by first | assumption | omega) (by first | assumption | omega) (by first | assumption | omega)).symm.trans hc | exact (cut_92 s i d lines _ (by omega) (by omega) (by first | assumption | omega) (by first | assumption | omega) (by first | assumption | omega)).symm.trans hc | exact (cut_ed s i d lines _ (by omega) (by omega) (by first | (simp_all; done) | (intro q; simp_all)) (by first | assumption | omega)).symm.trans hc | exact (cut_en s i d lines _ (by omega) (by omega) (by first | (simp_all; done) | (intro q; simp_all)) (by first | assumption | omega)).symm.trans hc⟩)) [0, 1, 2, 3, 11] rfl (fun j hj => by cases hj; dsimp only; omega) rfl (fun w h => h.sub (.cons _ (.cons_cons _ .slnil)))
    · refine ⟨_, rfl, ?_⟩
      dsimp only
      obtain ⟨⟨i, v, acc⟩, hx⟩ := x
      dsimp only at hx ⊢
      obtain ⟨hi0, hi1, hl, hc⟩ := hx
      refine g_seq (g_skip (g_then (g_seq (g_seq (g_ops ?_)))))
      refine g_val rfl rfl rfl (y_move rfl) ?_
      refine g_val rfl rfl rfl (y_move rfl) ?_
      refine g_val rfl rfl rfl (y_slen rfl Tryd.underlying9) ?_
      refine g_val rfl rfl rfl (y_ieq rfl rfl) ?_
      refine g_nil (g_then ?_)
      first | refine g_casep 52 rfl (fun h12 => ?_) (fun h12 => ?_) | refine g_caseb 52 rfl (fun h12 => ?_) (fun h12 => ?_)
      · skip
        refine g_cond_t rfl (g_goto (g_then_goto ?_))
        exact g_jump (.inl ⟨(), by first | exact hc.symm.trans (cut_end s i d lines _ _ (by first | assumption | omega)) | exact hc.symm.trans (cut_10 s i d lines _ (by omega) (by omega) (by first | assumption | omega) (by first | assumption | omega)) | exact hc.symm.trans (cut_e10 s i d lines _ (by omega) (by omega) (by first | assumption | omega) (by simp_all)) | (rw [← hR, cutR, if_neg (by rintro ⟨q1, q2, q3, q4⟩; first | omega | simp_all [u8_10, u8_92])]; done)⟩) [] rfl (fun j hj => by cases hj; dsimp only; omega) rfl (fun w h => h.sub (.cons _ .slnil))
      · skip
        refine g_cond_f rfl (g_skip (g_then (g_seq (g_ops ?_))))
        refine g_val rfl rfl rfl (y_move rfl) ?_
        refine g_val rfl rfl rfl (y_move rfl) ?_
        refine g_val rfl rfl rfl (y_sat rfl rfl Tryd.underlying9 (by omega) (by omega)) ?_
        refine g_val rfl rfl rfl (y_assign rfl) ?_
        refine g_nil (g_then (g_seq (g_ops ?_)))
        refine g_val rfl rfl rfl (y_move rfl) ?_
        refine g_val rfl rfl rfl (by first | exact y_addi rfl rfl (by first | omega | (simp only [size_mk, ByteArray.size_append, ByteArray.size_extract]; omega)) | exact y_iadd rfl rfl) ?_
        refine g_val rfl rfl rfl (y_assign rfl) ?_
        refine g_nil (g_then (g_seq (g_seq (g_ops ?_))))
        refine g_val rfl rfl rfl (y_move rfl) ?_
        refine g_val rfl rfl rfl (y_ieq rfl rfl) ?_
        refine g_val rfl rfl rfl (y_move rfl) ?_
        first | refine g_casep 60 rfl (fun h13 => ?_) (fun h13 => ?_) | refine g_caseb 60 rfl (fun h13 => ?_) (fun h13 => ?_)
        · skip
          refine g_val rfl rfl rfl (y_move rfl) ?_
          refine g_val rfl rfl rfl ((by first | exact y_notp rfl | exact y_not rfl)) ?_
          refine g_val rfl rfl rfl (y_pick_t rfl rfl) ?_
          refine g_nil (g_then ?_)
          first | refine g_casep 63 rfl (fun h14 => ?_) (fun h14 => ?_) | refine g_caseb 63 rfl (fun h14 => ?_) (fun h14 => ?_)
          · skip
            refine g_cond_t rfl (g_goto (g_then_goto ?_))
            exact g_jump (.inl ⟨(), by first | exact hc.symm.trans (cut_end s i d lines _ _ (by first | assumption | omega)) | exact hc.symm.trans (cut_10 s i d lines _ (by omega) (by omega) (by first | assumption | omega) (by first | assumption | omega)) | exact hc.symm.trans (cut_e10 s i d lines _ (by omega) (by omega) (by first | assumption | omega) (by simp_all)) | (rw [← hR, cutR, if_neg (by rintro ⟨q1, q2, q3, q4⟩; first | omega | simp_all [u8_10, u8_92])]; done)⟩) [] rfl (fun j hj => by cases hj; dsimp only; omega) rfl (fun w h => h.sub (.cons _ .slnil))
          · skip
            refine g_cond_f rfl (g_skip (g_then (g_seq (g_seq (g_ops ?_)))))
            refine g_val rfl rfl rfl (y_move rfl) ?_
            refine g_val rfl rfl rfl (y_move rfl) ?_
            refine g_val rfl rfl rfl (y_ine rfl rfl) ?_
            refine g_nil (g_then ?_)
            first | refine g_casep 66 rfl (fun h15 => ?_) (fun h15 => ?_) | refine g_caseb 66 rfl (fun h15 => ?_) (fun h15 => ?_)
            · skip
              refine g_cond_t rfl (g_ops ?_)
              refine g_val rfl rfl rfl (y_move rfl) ?_
              refine g_buildSlice (offs := [0]) rfl rfl Tryd.underlying23 rfl Tryd.zeroValue5 (by kernel_rfl) (fun b5 => ?_)
              refine g_appB (l' := [92]) 1 0 rfl rfl rfl rfl Tryd.underlying23 (by kernel_rfl) rfl rfl rfl rfl (by first | omega | (simp; omega)) (fun v6 => ?_)
              simp only [List.set_cons_zero, List.set_cons_succ]
              refine g_val rfl rfl rfl (y_assign rfl) ?_
              refine g_nil (g_then (g_seq (g_ops ?_)))
              refine g_val rfl rfl rfl (y_move rfl) ?_
              refine g_val rfl rfl rfl (y_move rfl) ?_
              refine g_buildSlice (offs := [0]) rfl rfl Tryd.underlying23 rfl Tryd.zeroValue5 (by kernel_rfl) (fun b7 => ?_)
              refine g_appB (l' := [by8 s i]) 2 0 rfl rfl rfl rfl Tryd.underlying23 (by kernel_rfl) rfl rfl rfl rfl (by first | omega | (simp; omega)) (fun v8 => ?_)
              simp only [List.set_cons_zero, List.set_cons_succ]
              refine g_val rfl rfl rfl (y_assign rfl) ?_
              refine g_nil (g_then (g_seq (g_goto (g_then_goto ?_))))
              exact g_jump (.inr (.inl ⟨(_, _, _), by omega, by omega, by simp; omega, by first | exact (cut_c s i d lines _ (by omega) (by omega) (by first | assumption | omega) (by first | assumption | omega) (by first | assumption | omega)).symm.trans hc | exact (cut_92 s i d lines _ (by omega) (by omega) (by first | assumption | omega) (by first | assumption | omega) (by first | assumption | omega)).symm.trans hc | exact (cut_ed s i d lines _ (by omega) (by omega) (by first | (simp_all; done) | (intro q; simp_all)) (by first | assumption | omega)).symm.trans hc | exact (cut_en s i d lines _ (by omega) (by omega) (by first | (simp_all; done) | (intro q; simp_all)) (by first | assumption | omega)).symm.trans hc⟩)) [0, 1, 2, 3, 11] rfl (fun j hj => by cases hj; dsimp only; omega) rfl (fun w h => h.sub (.cons _ (.cons _ (.cons_cons _ .slnil))))
            · skip
              refine g_cond_f rfl (g_skip (g_then (g_seq (g_ops ?_))))
              refine g_val rfl rfl rfl (y_move rfl) ?_
              refine g_val rfl rfl rfl (y_move rfl) ?_
              refine g_buildSlice (offs := [0]) rfl rfl Tryd.underlying23 rfl Tryd.zeroValue5 (by kernel_rfl) (fun b9 => ?_)
              refine g_appB (l' := [by8 s i]) 1 0 rfl rfl rfl rfl Tryd.underlying23 (by kernel_rfl) rfl rfl rfl rfl (by first | omega | (simp; omega)) (fun v10 => ?_)
              simp only [List.set_cons_zero, List.set_cons_succ]
              refine g_val rfl rfl rfl (y_assign rfl) ?_
              refine g_nil (g_then (g_seq (g_goto (g_then_goto ?_))))
              exact g_jump (.inr (.inl ⟨(_, _, _), by omega, by omega, by simp; omega, by first | exact (cut_c s i d lines _ (by omega) (by omega) (by first | assumption | omega) (by first | assumption | omega) (by first | assumption | omega)).symm.trans hc | exact (cut_92 s i d lines _ (by omega) (by omega) (by first | assumption | omega) (by first | assumption | omega) (by first | assumption | omega)).symm.trans hc | exact (cut_ed s i d lines _ (by omega) (by omega) (by first | (simp_all; done) | (intro q; simp_all)) (by first | assumption | omega)).symm.trans hc | exact (cut_en s i d lines _ (by omega) (by omega) (by first | (simp_all; done) | (intro q; simp_all)) (by first | assumption | omega)).symm.trans hc⟩)) [0, 1, 2, 3, 11] rfl (fun j hj => by cases hj; dsimp only; omega) rfl (fun w h => h.sub (.cons _ (.cons_cons _ .slnil)))
        · skip
          refine g_not rfl rfl rfl ?_
          refine g_not rfl rfl rfl ?_
          refine g_val rfl rfl rfl (y_pick_f rfl rfl) ?_
          refine g_nil (g_then (g_cond_f rfl (g_skip (g_then (g_seq (g_seq (g_ops ?_)))))))
          refine g_val rfl rfl rfl (y_move rfl) ?_
          refine g_val rfl rfl rfl (y_move rfl) ?_
          refine g_val rfl rfl rfl (y_ine rfl rfl) ?_
          refine g_nil (g_then ?_)
          first | refine g_casep 66 rfl (fun h16 => ?_) (fun h16 => ?_) | refine g_caseb 66 rfl (fun h16 => ?_) (fun h16 => ?_)
          · skip
            refine g_cond_t rfl (g_ops ?_)
            refine g_val rfl rfl rfl (y_move rfl) ?_
            refine g_buildSlice (offs := [0]) rfl rfl Tryd.underlying23 rfl Tryd.zeroValue5 (by kernel_rfl) (fun b11 => ?_)
            refine g_appB (l' := [92]) 1 0 rfl rfl rfl rfl Tryd.underlying23 (by kernel_rfl) rfl rfl rfl rfl (by first | omega | (simp; omega)) (fun v12 => ?_)
            simp only [List.set_cons_zero, List.set_cons_succ]
            refine g_val rfl rfl rfl (y_assign rfl) ?_
            refine g_nil (g_then (g_seq (g_ops ?_)))
            refine g_val rfl rfl rfl (y_move rfl) ?_
            refine g_val rfl rfl rfl (y_move rfl) ?_
            refine g_buildSlice (offs := [0]) rfl rfl Tryd.underlying23 rfl Tryd.zeroValue5 (by kernel_rfl) (fun b13 => ?_)
            refine g_appB (l' := [by8 s i]) 2 0 rfl rfl rfl rfl Tryd.underlying23 (by kernel_rfl) rfl rfl rfl rfl (by first | omega | (simp; omega)) (fun v14 => ?_)
            simp only [List.set_cons_zero, List.set_cons_succ]
            refine g_val rfl rfl rfl (y_assign rfl) ?_
            refine g_nil (g_then (g_seq (g_goto (g_then_goto ?_))))
            exact g_jump (.inr (.inl ⟨(_, _, _), by omega, by omega, by simp; omega, by first | exact (cut_c s i d lines _ (by omega) (by omega) (by first | assumption | omega) (by first | assumption | omega) (by first | assumption | omega)).symm.trans hc | exact (cut_92 s i d lines _ (by omega) (by omega) (by first | assumption | omega) (by first | assumption | omega) (by first | assumption | omega)).symm.trans hc | exact (cut_ed s i d lines _ (by omega) (by omega) (by first | (simp_all; done) | (intro q; simp_all)) (by first | assumption | omega)).symm.trans hc | exact (cut_en s i d lines _ (by omega) (by omega) (by first | (simp_all; done) | (intro q; simp_all)) (by first | assumption | omega)).symm.trans hc⟩)) [0, 1, 2, 3, 11] rfl (fun j hj => by cases hj; dsimp only; omega) rfl (fun w h => h.sub (.cons _ (.cons _ (.cons_cons _ .slnil))))
          · skip
            refine g_cond_f rfl (g_skip (g_then (g_seq (g_ops ?_))))
            refine g_val rfl rfl rfl (y_move rfl) ?_
            refine g_val rfl rfl rfl (y_move rfl) ?_
            refine g_buildSlice (offs := [0]) rfl rfl Tryd.underlying23 rfl Tryd.zeroValue5 (by kernel_rfl) (fun b15 => ?_)
            refine g_appB (l' := [by8 s i]) 1 0 rfl rfl rfl rfl Tryd.underlying23 (by kernel_rfl) rfl rfl rfl rfl (by first | omega | (simp; omega)) (fun v16 => ?_)
            simp only [List.set_cons_zero, List.set_cons_succ]
            refine g_val rfl rfl rfl (y_assign rfl) ?_
            refine g_nil (g_then (g_seq (g_goto (g_then_goto ?_))))
            exact g_jump (.inr (.inl ⟨(_, _, _), by omega, by omega, by simp; omega, by first | exact (cut_c s i d lines _ (by omega) (by omega) (by first | assumption | omega) (by first | assumption | omega) (by first | assumption | omega)).symm.trans hc | exact (cut_92 s i d lines _ (by omega) (by omega) (by first | assumption | omega) (by first | assumption | omega) (by first | assumption | omega)).symm.trans hc | exact (cut_ed s i d lines _ (by omega) (by omega) (by first | (simp_all; done) | (intro q; simp_all)) (by first | assumption | omega)).symm.trans hc | exact (cut_en s i d lines _ (by omega) (by omega) (by first | (simp_all; done) | (intro q; simp_all)) (by first | assumption | omega)).symm.trans hc⟩)) [0, 1, 2, 3, 11] rfl (fun j hj => by cases hj; dsimp only; omega) rfl (fun w h => h.sub (.cons _ (.cons_cons _ .slnil)))

theorem rplace_any (s : ByteArray) (i : Int) (w : World) :
    Calls Tryd.prog 23 #[.string s, .int .i64 i] w fun e w' => e = .returned (.bool (decide (0 ≤ i ∧ i ≤ s.size))) ∧ Below w.heap.size w w' := by
  refine fn_intro Tryd.func23 rfl Tryd.ntmps23 rfl rfl ?_
  refine g_seq (g_ops ?_)
  refine g_val rfl rfl rfl (y_assign rfl) ?_
  refine g_nil (g_then (g_seq (g_ops ?_)))
  refine g_val rfl rfl rfl (y_move rfl) ?_
  refine g_val rfl rfl rfl (y_ige rfl rfl) ?_
  refine g_val rfl rfl rfl (y_move rfl) ?_
  first | refine g_casep 7 rfl (fun h1 => ?_) (fun h1 => ?_) | refine g_caseb 7 rfl (fun h1 => ?_) (fun h1 => ?_)
  · skip
    refine g_val rfl rfl rfl (y_move rfl) ?_
    refine g_val rfl rfl rfl (y_move rfl) ?_
    refine g_val rfl rfl rfl (y_slen rfl Tryd.underlying9) ?_
    refine g_val rfl rfl rfl (y_ile rfl rfl) ?_
    refine g_val rfl rfl rfl (y_pick_t rfl rfl) ?_
    refine g_val rfl rfl rfl (y_assign rfl) ?_
    refine g_nil (g_then (g_ret ?_))
    refine g_end1 Tryd.results23 rfl ?_
    exact fun w hS => ⟨ret_bool (by simp; try omega), hS.below⟩
  · skip
    refine g_not rfl rfl rfl ?_
    refine g_not rfl rfl rfl ?_
    refine g_not rfl rfl rfl ?_
    refine g_not rfl rfl rfl ?_
    refine g_val rfl rfl rfl (y_pick_f rfl rfl) ?_
    refine g_val rfl rfl rfl (y_assign rfl) ?_
    refine g_nil (g_then (g_ret ?_))
    refine g_end1 Tryd.results23 rfl ?_
    exact fun w hS => ⟨ret_bool (by simp; try omega), hS.below⟩

theorem cat_ext (t s : ByteArray) (i : Int) (h0 : 0 ≤ i) (h1 : i < s.size) : (t ++ s.extract i.toNat (i + 1).toNat).data.toList = t.data.toList ++ [by8 s i] := by
  have e : (i + 1).toNat = i.toNat + 1 := by omega
  have hlt : i.toNat < s.size := by omega
  rw [e, ByteArray.data_append, ByteArray.data_extract, Array.toList_append]
  congr 1
  unfold by8
  have h2 : s[i.toNat]? = some s[i.toNat] := by simp [hlt]
  rw [h2]
  simp only [Option.getD_some, Array.toList_extract]
  have h3 : i.toNat < s.data.toList.length := by rw [dlen]; exact hlt
  rw [List.extract_eq_take_drop]
  have : i.toNat + 1 - i.toNat = 1 := by omega
  rw [this, List.drop_eq_getElem_cons h3]
  rfl
theorem cat_92 (t : ByteArray) : (t ++ (⟨[92].toArray⟩ : ByteArray)).data.toList = t.data.toList ++ [92] := by simp
theorem cat_size (t s : ByteArray) (i : Int) (h0 : 0 ≤ i) (h1 : i < s.size) : (t ++ s.extract i.toNat (i + 1).toNat).size = t.size + 1 := by
  have := congrArg List.length (cat_ext t s i h0 h1)
  rw [dlen, List.length_append, dlen] at this
  exact this

/-- How many blanks stand ahead. -/
def blkL : List UInt8 → Nat
  | [] => 0
  | c :: r => if c = 32 ∨ c = 9 then blkL r + 1 else 0
def blkR (s : ByteArray) (i : Int) : Int := if 0 ≤ i ∧ i ≤ s.size then i + blkL (from_ s i) else i
theorem idx_blank (s : ByteArray) (i : Int) : 0 ≤ Lib.indexByte (⟨#[32, 9]⟩ : ByteArray).data.toList (bt s i).toNat.toUInt8 ↔ by8 s i = 32 ∨ by8 s i = 9 := by
  have e : (bt s i).toNat.toUInt8 = by8 s i := by unfold bt; simp
  rw [e]
  simp only [Lib.indexByte]
  by_cases h1 : (32 : UInt8) = by8 s i
  · simp [← h1]
  · by_cases h2 : (9 : UInt8) = by8 s i
    · simp [← h2]
    · have e1 : ((32 : UInt8) == by8 s i) = false := by simpa using h1
      have e2 : ((9 : UInt8) == by8 s i) = false := by simpa using h2
      simp [e1, e2]
      exact ⟨fun q => h1 q.symm, fun q => h2 q.symm⟩
theorem blk_step (s : ByteArray) (i : Int) (h0 : 0 ≤ i) (h1 : i < s.size) (h : by8 s i = 32 ∨ by8 s i = 9) : i + (blkL (from_ s i) : Int) = (i + 1) + blkL (from_ s (i + 1)) := by
  rw [from_at s i h0 h1, blkL, if_pos h]; omega
theorem blk_stop (s : ByteArray) (i : Int) (h0 : 0 ≤ i) (h1 : i < s.size) (h : ¬ (by8 s i = 32 ∨ by8 s i = 9)) : i + (blkL (from_ s i) : Int) = i := by
  rw [from_at s i h0 h1, blkL, if_neg h]; omega
theorem blk_end (s : ByteArray) (i : Int) (h1 : i = s.size) : i + (blkL (from_ s i) : Int) = i := by rw [from_end s i h1]; simp [blkL]
theorem ixb_any (s : ByteArray) (c : Int) (w : World) : Calls Tryd.prog 21 #[.string s, .int .u8 c] w fun e w' => e = .returned (.int .i64 (Lib.indexByte s.data.toList c.toNat.toUInt8)) ∧ Below w.heap.size w w' :=
  (Tryd.strings_IndexByte s c w).mono fun e w' ⟨he, hw⟩ => ⟨he, hw ▸ Below.refl _ _⟩

theorem blanks_any (s : ByteArray) (i : Int) (R0 : Int) (hs : s.size ≤ 1073741824) (hR : blkR s i = R0) (w : World) :
    Calls Tryd.prog 9 #[.string s, .int .i64 i] w fun e w' => e = .returned (.int .i64 R0) ∧ Below w.heap.size w w' := by
  refine fn_intro Tryd.func9 rfl Tryd.ntmps9 rfl rfl ?_
  refine g_seq (g_ops ?_)
  refine g_val rfl rfl rfl (y_assign rfl) ?_
  refine g_nil (g_then ?_)
  refine g_scope (α := {x : Int // 0 ≤ x ∧ x ≤ s.size ∧ x + blkL (from_ s x) = R0}) (fun z => match z with | x => [(0, .string s), (1, .int .i64 x.1)]) (fun z => match z with | x => St w [] []) (fun z => match z with | x => 0) (fun z => match z with | x => s.size - x.1.toNat) ?_ ?_
  · skip
    refine g_seq (g_seq (g_ops ?_))
    refine g_val rfl rfl rfl (y_move rfl) ?_
    refine g_val rfl rfl rfl (y_move rfl) ?_
    refine g_call1 rfl rfl rfl Tryd.call20 (fun w hS => place_any _ _ w) ?_
    refine g_val rfl rfl rfl ((by first | exact y_notp rfl | exact y_not rfl)) ?_
    refine g_nil (g_then ?_)
    first | refine g_casep 8 rfl (fun h1 => ?_) (fun h1 => ?_) | refine g_caseb 8 rfl (fun h1 => ?_) (fun h1 => ?_)
    · skip
      refine g_cond_t rfl (g_seq (g_ops ?_))
      refine g_val rfl rfl rfl (y_move rfl) ?_
      refine g_val rfl rfl rfl (y_assign rfl) ?_
      refine g_nil (g_then (g_ret (g_then_ret (g_jumps_ret ?_))))
      refine g_end1 Tryd.results9 rfl ?_
      exact fun w hS => ⟨ret_int (by first | exact (blk_end s i (by omega)).symm.trans hc | exact (blk_stop s i (by omega) (by omega) (fun q => absurd ((idx_blank s i).2 q) (by assumption))).symm.trans hc | (rw [← hR, blkR, if_neg (by simp_all)])), hS.below⟩
    · skip
      refine g_cond_f rfl (g_skip (g_then (g_seq (g_label ?_))))
      have hi0 : 0 ≤ i := by simp_all
      have hi1 : i ≤ s.size := by simp_all
      have hc : i + (blkL (from_ s i) : Int) = R0 := by rw [← hR, blkR, if_pos ⟨hi0, hi1⟩]
      refine g_then (g_seq (g_seq (g_ops ?_)))
      refine g_val rfl rfl rfl (y_move rfl) ?_
      refine g_val rfl rfl rfl (y_move rfl) ?_
      refine g_val rfl rfl rfl (y_slen rfl Tryd.underlying9) ?_
      refine g_val rfl rfl rfl (y_ilt rfl rfl) ?_
      refine g_val rfl rfl rfl (y_move rfl) ?_
      first | refine g_casep 14 rfl (fun h2 => ?_) (fun h2 => ?_) | refine g_caseb 14 rfl (fun h2 => ?_) (fun h2 => ?_)
      · skip
        refine g_val rfl rfl rfl (y_move rfl) ?_
        refine g_val rfl rfl rfl (y_move rfl) ?_
        refine g_val rfl rfl rfl (y_sat rfl rfl Tryd.underlying9 (by omega) (by omega)) ?_
        refine g_call1 rfl rfl rfl Tryd.call21 (fun w hS => ixb_any _ _ w) ?_
        refine g_val rfl rfl rfl (y_ige rfl rfl) ?_
        refine g_val rfl rfl rfl (y_pick_t rfl rfl) ?_
        refine g_nil (g_then ?_)
        first | refine g_casep 20 rfl (fun h3 => ?_) (fun h3 => ?_) | refine g_caseb 20 rfl (fun h3 => ?_) (fun h3 => ?_)
        · skip
          refine g_cond_t rfl (g_seq (g_ops ?_))
          refine g_val rfl rfl rfl (y_move rfl) ?_
          refine g_val rfl rfl rfl (by first | exact y_addi rfl rfl (by first | omega | (simp only [size_mk, ByteArray.size_append, ByteArray.size_extract]; omega)) | exact y_iadd rfl rfl) ?_
          refine g_val rfl rfl rfl (y_assign rfl) ?_
          refine g_nil (g_then (g_goto (g_then_goto ?_)))
          exact g_jump ⟨_, by omega, by omega, (blk_step s i (by omega) (by omega) ((idx_blank s i).1 (by assumption))).symm.trans hc⟩ [0, 1] rfl (fun j hj => by cases hj) rfl (fun w h => h.sub .slnil)
        · skip
          refine g_cond_f rfl (g_skip (g_then (g_seq (g_ops ?_))))
          refine g_val rfl rfl rfl (y_move rfl) ?_
          refine g_val rfl rfl rfl (y_assign rfl) ?_
          refine g_nil (g_then (g_ret (g_jumps_ret ?_)))
          refine g_end1 Tryd.results9 rfl ?_
          exact fun w hS => ⟨ret_int (by first | exact (blk_end s i (by omega)).symm.trans hc | exact (blk_stop s i (by omega) (by omega) (fun q => absurd ((idx_blank s i).2 q) (by assumption))).symm.trans hc | (rw [← hR, blkR, if_neg (by simp_all)])), hS.below⟩
      · skip
        refine g_not rfl rfl rfl ?_
        refine g_not rfl rfl rfl ?_
        refine g_not rfl rfl rfl ?_
        refine g_not rfl rfl rfl ?_
        refine g_not rfl rfl rfl ?_
        refine g_val rfl rfl rfl (y_pick_f rfl rfl) ?_
        refine g_nil (g_then (g_cond_f rfl (g_skip (g_then (g_seq (g_ops ?_))))))
        refine g_val rfl rfl rfl (y_move rfl) ?_
        refine g_val rfl rfl rfl (y_assign rfl) ?_
        refine g_nil (g_then (g_ret (g_jumps_ret ?_)))
        refine g_end1 Tryd.results9 rfl ?_
        exact fun w hS => ⟨ret_int (by first | exact (blk_end s i (by omega)).symm.trans hc | exact (blk_stop s i (by omega) (by omega) (fun q => absurd ((idx_blank s i).2 q) (by assumption))).symm.trans hc | (rw [← hR, blkR, if_neg (by simp_all)])), hS.below⟩
  · rintro (x)
    · refine ⟨_, rfl, ?_⟩
      dsimp only
      obtain ⟨i, hx⟩ := x
      dsimp only at hx ⊢
      obtain ⟨hi0, hi1, hc⟩ := hx
      refine g_seq (g_skip (g_then (g_seq (g_seq (g_ops ?_)))))
      refine g_val rfl rfl rfl (y_move rfl) ?_
      refine g_val rfl rfl rfl (y_move rfl) ?_
      refine g_val rfl rfl rfl (y_slen rfl Tryd.underlying9) ?_
      refine g_val rfl rfl rfl (y_ilt rfl rfl) ?_
      refine g_val rfl rfl rfl (y_move rfl) ?_
      first | refine g_casep 14 rfl (fun h4 => ?_) (fun h4 => ?_) | refine g_caseb 14 rfl (fun h4 => ?_) (fun h4 => ?_)
      · skip
        refine g_val rfl rfl rfl (y_move rfl) ?_
        refine g_val rfl rfl rfl (y_move rfl) ?_
        refine g_val rfl rfl rfl (y_sat rfl rfl Tryd.underlying9 (by omega) (by omega)) ?_
        refine g_call1 rfl rfl rfl Tryd.call21 (fun w hS => ixb_any _ _ w) ?_
        refine g_val rfl rfl rfl (y_ige rfl rfl) ?_
        refine g_val rfl rfl rfl (y_pick_t rfl rfl) ?_
        refine g_nil (g_then ?_)
        first | refine g_casep 20 rfl (fun h5 => ?_) (fun h5 => ?_) | refine g_caseb 20 rfl (fun h5 => ?_) (fun h5 => ?_)
        · skip
          refine g_cond_t rfl (g_seq (g_ops ?_))
          refine g_val rfl rfl rfl (y_move rfl) ?_
          refine g_val rfl rfl rfl (by first | exact y_addi rfl rfl (by first | omega | (simp only [size_mk, ByteArray.size_append, ByteArray.size_extract]; omega)) | exact y_iadd rfl rfl) ?_
          refine g_val rfl rfl rfl (y_assign rfl) ?_
          refine g_nil (g_then (g_goto (g_then_goto ?_)))
          exact g_jump ⟨_, by omega, by omega, (blk_step s i (by omega) (by omega) ((idx_blank s i).1 (by assumption))).symm.trans hc⟩ [0, 1] rfl (fun j hj => by cases hj; dsimp only; omega) rfl (fun w h => h.sub .slnil)
        · skip
          refine g_cond_f rfl (g_skip (g_then (g_seq (g_ops ?_))))
          refine g_val rfl rfl rfl (y_move rfl) ?_
          refine g_val rfl rfl rfl (y_assign rfl) ?_
          refine g_nil (g_then (g_ret (g_jumps_ret ?_)))
          refine g_end1 Tryd.results9 rfl ?_
          exact fun w hS => ⟨ret_int (by first | exact (blk_end s i (by omega)).symm.trans hc | exact (blk_stop s i (by omega) (by omega) (fun q => absurd ((idx_blank s i).2 q) (by assumption))).symm.trans hc | (rw [← hR, blkR, if_neg (by simp_all)])), hS.below⟩
      · skip
        refine g_not rfl rfl rfl ?_
        refine g_not rfl rfl rfl ?_
        refine g_not rfl rfl rfl ?_
        refine g_not rfl rfl rfl ?_
        refine g_not rfl rfl rfl ?_
        refine g_val rfl rfl rfl (y_pick_f rfl rfl) ?_
        refine g_nil (g_then (g_cond_f rfl (g_skip (g_then (g_seq (g_ops ?_))))))
        refine g_val rfl rfl rfl (y_move rfl) ?_
        refine g_val rfl rfl rfl (y_assign rfl) ?_
        refine g_nil (g_then (g_ret (g_jumps_ret ?_)))
        refine g_end1 Tryd.results9 rfl ?_
        exact fun w hS => ⟨ret_int (by first | exact (blk_end s i (by omega)).symm.trans hc | exact (blk_stop s i (by omega) (by omega) (fun q => absurd ((idx_blank s i).2 q) (by assumption))).symm.trans hc | (rw [← hR, blkR, if_neg (by simp_all)])), hS.below⟩

theorem alive_cut : cutR ⟨#[47, 97, 92, 47, 98, 47, 120]⟩ 1 47 false = (⟨#[97, 47, 98]⟩, 6, 0) := by
  rfl

theorem alive_any  (w : World) :
    Calls Tryd.prog 6 #[] w fun e w' => e = .returned (.bool true) ∧ Below w.heap.size w w' := by
  refine fn_intro Tryd.func6 rfl Tryd.ntmps6 rfl rfl ?_
  refine g_seq (g_ops ?_)
  refine g_val rfl rfl rfl (y_assign rfl) ?_
  refine g_nil (g_then (g_seq (g_ops ?_)))
  refine g_call1 rfl rfl rfl Tryd.call18 (fun w hS => (cut_any _ _ 47 _ _ (by decide) alive_cut w)) ?_
  refine g_val rfl rfl rfl (y_move rfl) ?_
  refine g_val rfl rfl rfl (y_extract rfl rfl) ?_
  refine g_val rfl rfl rfl (y_extract rfl rfl) ?_
  refine g_val rfl rfl rfl (y_extract rfl rfl) ?_
  refine g_val rfl rfl rfl (y_assign rfl) ?_
  refine g_val rfl rfl rfl (y_assign rfl) ?_
  refine g_val rfl rfl rfl (y_assign rfl) ?_
  refine g_nil (g_then (g_seq (g_ops ?_)))
  refine g_val rfl rfl rfl (y_move rfl) ?_
  refine g_val rfl rfl rfl (y_ieq rfl rfl) ?_
  refine g_val rfl rfl rfl (y_move rfl) ?_
  first | refine g_casep 11 rfl (fun h1 => ?_) (fun h1 => ?_) | refine g_caseb 11 rfl (fun h1 => ?_) (fun h1 => ?_)
  · skip
    refine g_val rfl rfl rfl (y_move rfl) ?_
    refine g_val rfl rfl rfl (y_seq rfl rfl) ?_
    refine g_val rfl rfl rfl (y_pick_t rfl rfl) ?_
    refine g_val rfl rfl rfl (y_move rfl) ?_
    first | refine g_casep 15 rfl (fun h2 => ?_) (fun h2 => ?_) | refine g_caseb 15 rfl (fun h2 => ?_) (fun h2 => ?_)
    · skip
      refine g_val rfl rfl rfl (y_move rfl) ?_
      refine g_val rfl rfl rfl (y_ieq rfl rfl) ?_
      refine g_val rfl rfl rfl (y_pick_t rfl rfl) ?_
      refine g_val rfl rfl rfl (y_move rfl) ?_
      first | refine g_casep 19 rfl (fun h3 => ?_) (fun h3 => ?_) | refine g_caseb 19 rfl (fun h3 => ?_) (fun h3 => ?_)
      · skip
        refine g_call1 rfl rfl rfl Tryd.call9 (fun w hS => blanks_any _ _ 2 (by decide) (by rfl) w) ?_
        refine g_val rfl rfl rfl (y_ieq rfl rfl) ?_
        refine g_val rfl rfl rfl (y_pick_t rfl rfl) ?_
        refine g_val rfl rfl rfl (y_assign rfl) ?_
        refine g_nil (g_then (g_ret ?_))
        refine g_end1 Tryd.results6 rfl ?_
        exact fun w hS => ⟨ret_bool (by first | rfl | (exfalso; simp_all)), hS.below⟩
      · skip
        refine g_not rfl rfl rfl ?_
        refine g_not rfl rfl rfl ?_
        refine g_val rfl rfl rfl (y_pick_f rfl rfl) ?_
        refine g_val rfl rfl rfl (y_assign rfl) ?_
        refine g_nil (g_then (g_ret ?_))
        refine g_end1 Tryd.results6 rfl ?_
        exact fun w hS => ⟨ret_bool (by first | rfl | (exfalso; simp_all)), hS.below⟩
    · skip
      refine g_not rfl rfl rfl ?_
      refine g_not rfl rfl rfl ?_
      refine g_val rfl rfl rfl (y_pick_f rfl rfl) ?_
      refine g_val rfl rfl rfl (y_move rfl) ?_
      refine g_not rfl rfl rfl ?_
      refine g_not rfl rfl rfl ?_
      refine g_val rfl rfl rfl (y_pick_f rfl rfl) ?_
      refine g_val rfl rfl rfl (y_assign rfl) ?_
      refine g_nil (g_then (g_ret ?_))
      refine g_end1 Tryd.results6 rfl ?_
      exact fun w hS => ⟨ret_bool (by first | rfl | (exfalso; simp_all)), hS.below⟩
  · skip
    refine g_not rfl rfl rfl ?_
    refine g_not rfl rfl rfl ?_
    refine g_val rfl rfl rfl (y_pick_f rfl rfl) ?_
    refine g_val rfl rfl rfl (y_move rfl) ?_
    refine g_not rfl rfl rfl ?_
    refine g_not rfl rfl rfl ?_
    refine g_val rfl rfl rfl (y_pick_f rfl rfl) ?_
    refine g_val rfl rfl rfl (y_move rfl) ?_
    refine g_not rfl rfl rfl ?_
    refine g_not rfl rfl rfl ?_
    refine g_val rfl rfl rfl (y_pick_f rfl rfl) ?_
    refine g_val rfl rfl rfl (y_assign rfl) ?_
    refine g_nil (g_then (g_ret ?_))
    refine g_end1 Tryd.results6 rfl ?_
    exact fun w hS => ⟨ret_bool (by first | rfl | (exfalso; simp_all)), hS.below⟩

end Go.Proofs.YtjafkmaolpkbnaaDoor
