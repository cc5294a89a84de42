/- Braces: the walk. -/
import Derived.Test.YtpacnggomjepdaaPre
namespace Go.Proofs.Ytpacnggomjepdaa
open Go Go.RowKit

def iC (k : Nat) : List Value := [.int .i64 k]
theorem iC_len (k : Nat) : (iC k).length = 1 := rfl
theorem take_iC (st : List Nat) (t : Nat) : ((st ++ [t]).flatMap iC).take (st.length * 1) = st.flatMap iC := by
  rw [List.flatMap_append, List.take_append_of_le_length (by rw [fm_len iC 1 iC_len]; omega), List.take_of_length_le (by rw [fm_len iC 1 iC_len]; omega)]
theorem get_last (st : List Nat) (t : Nat) : (st ++ [t])[st.length]? = some t := by simp
/-- What braces answers: none: all is well; some k: the place of command k is wrong. -/
def brV (cs : Nat → Cm) (x : Option Nat × (Nat → Int)) : Value := match x.1 with
  | none => .tuple #[.complex .f64 0 0, .bool true]
  | some k => .tuple #[.complex .f64 (cs k).re (cs k).im, .bool false]
def brR (cs : Nat → Cm) (n : Nat) (x : Option Nat × (Nat → Int)) : Prop := match x.1 with
  | none => brI cs n = some ([], x.2)
  | some k => k < n ∧ ((∃ st j, brI cs n = some (st ++ [k], j)) ∨ ((∃ j, brI cs k = some ([], j)) ∧ (cs k).nm = 125))
theorem bri_open {cs : Nat → Cm} {i : Nat} {st : List Nat} {j : Nat → Int} (h : brI cs i = some (st, j)) (hn : (cs i).nm = 123) : brI cs (i + 1) = some (st ++ [i], j) := by
  show (match brI cs i with | none => none | some (st, j) => _) = _
  rw [h]; dsimp only; rw [if_pos hn]
theorem bri_shut {cs : Nat → Cm} {i : Nat} {st : List Nat} {t : Nat} {j : Nat → Int} (h : brI cs i = some (st ++ [t], j)) (hn : (cs i).nm = 125) : brI cs (i + 1) = some (st, fun k => if k = t then (i : Int) else j k) := by
  show (match brI cs i with | none => none | some (st, j) => _) = _
  rw [h]; dsimp only; rw [if_neg (by omega), if_pos hn, if_neg (by simp), List.dropLast_concat, List.getLastD_concat]
theorem bri_else {cs : Nat → Cm} {i : Nat} {st : List Nat} {j : Nat → Int} (h : brI cs i = some (st, j)) (h1 : (cs i).nm ≠ 123) (h2 : (cs i).nm ≠ 125) : brI cs (i + 1) = some (st, j) := by
  show (match brI cs i with | none => none | some (st, j) => _) = _
  rw [h]; dsimp only; rw [if_neg h1, if_neg h2]

theorem y_pred {P : Program} {N : Nat} {R : Regs} {S : World → Prop} {dst : Option Tmp} {ty t t' : TypeId} {pos : String} {af : Array Edge} {gd : Option (Nat × Bool)} {x : Operand} {a b : Nat} (h : a = b + 1) (hx : ev R x = some (.int .i64 (a : Int))) (hb : a ≤ 9223372036854775807 := by omega) :
    Yv P N R S ⟨dst, .binOp .sub t x (.const (.int .i64 1)) t', ty, pos, af, gd⟩ (.int .i64 (b : Int)) := by
  have h2 : (b : Int) = (a : Int) - 1 := by omega
  rw [h2]
  exact y_subi hx rfl (by omega)

set_option maxRecDepth 100000 in
theorem braces_any (p : Option Addr) (n c : Nat) (cs : Nat → Cm) (F : List Nat) (w : World) (hn : n ≤ 1000) (hS0 : St w F [.row 47 43 (.slice p n c) n ((insOf cs (fun _ => 0) n).flatMap inC)] w) :
    Calls Try.prog 18 #[.slice p n c] w fun e w' => ∃ x : {x : Option Nat × (Nat → Int) // brR cs n x}, e = .returned (brV cs x.1) ∧ St w F [.row 47 43 (.slice p n c) n ((insOf cs x.1.2 n).flatMap inC)] w' := by
  refine fn_intro_own Try.func18 rfl Try.ntmps18 rfl rfl hS0 ?_
  refine g_seq (g_ops ?_)
  refine g_val rfl rfl rfl (y_assign rfl) ?_
  refine g_val rfl rfl rfl (y_assign rfl) ?_
  refine g_nil (g_then ?_)
  refine g_scope_fall (α := {x : Nat × Value × List Nat × (Nat → Int) // x.1 ≤ n ∧ brI cs x.1 = some (x.2.2.1, x.2.2.2)}) (fun z => match z with | x => [(0, .slice p n c), (4, x.1.2.1), (5, .int .i64 (x.1.1 : Int))]) (fun z => match z with | x => St w F [.row 3 1 x.1.2.1 x.1.2.2.1.length (x.1.2.2.1.flatMap iC), .row 47 43 (.slice p n c) n ((insOf cs x.1.2.2.2 n).flatMap inC)]) (fun z => match z with | x => 0) (fun z => match z with | x => n - x.1.1) (fun _ => rfl) ?_ ?_
  · intro x
    · skip
      dsimp only
      obtain ⟨⟨i, v, st, j⟩, hx⟩ := x
      dsimp only at hx ⊢
      obtain ⟨hi1, hb⟩ := hx
      have hlt := brI_lt cs i st j hb
      have hmx : maxLen = 9223372036854775807 := rfl
      refine g_seq (g_seq (g_ops ?_))
      refine g_val rfl rfl rfl (y_move rfl) ?_
      refine g_val rfl rfl rfl (y_move rfl) ?_
      refine g_val rfl rfl rfl (y_llen rfl Try.underlying27) ?_
      refine g_val rfl rfl rfl (y_ieq rfl rfl) ?_
      refine g_nil (g_then ?_)
      first | refine g_casep 11 rfl (fun h1 => ?_) (fun h1 => ?_) | refine g_caseb 11 rfl (fun h1 => ?_) (fun h1 => ?_)
      · skip
        refine g_cond_t rfl (g_seq (g_seq (g_ops ?_)))
        refine g_val rfl rfl rfl (y_move rfl) ?_
        refine g_rowLen 0 rfl (fun pr2 cr2 hv2 => ?_)
        cases hv2
        refine g_val rfl rfl rfl (y_llen rfl Try.underlying32) ?_
        refine g_val rfl rfl rfl (y_assign rfl) ?_
        refine g_nil (g_then (g_seq (g_ops ?_)))
        refine g_val rfl rfl rfl (y_move rfl) ?_
        refine g_val rfl rfl rfl (y_igt rfl rfl) ?_
        refine g_nil (g_then ?_)
        first | refine g_casep 15 rfl (fun h3 => ?_) (fun h3 => ?_) | refine g_caseb 15 rfl (fun h3 => ?_) (fun h3 => ?_)
        · skip
          refine g_cond_t rfl (g_seq ?_)
          obtain ⟨st, t, rfl⟩ : ∃ st' t, st = st' ++ [t] := by
            rcases List.eq_nil_or_concat st with q | ⟨a, b, q⟩
            · subst q; simp only [List.length_nil] at *; omega
            · exact ⟨a, b, by rw [q, List.concat_eq_append]⟩
          have hsl : (st ++ [t]).length = st.length + 1 := by simp
          have htl : t < i := hlt.1 t (by simp)
          refine g_ops ?_
          refine g_val rfl rfl rfl (y_move rfl) ?_
          refine g_val rfl rfl rfl (y_move rfl) ?_
          refine g_val rfl rfl rfl (y_move rfl) ?_
          refine g_val rfl rfl rfl (y_pred hsl rfl) ?_
          refine g_rowCase 0 rfl (by omega) (fun gr4 cr4 hv4 => ?_)
          cases hv4
          refine g_val rfl rfl rfl (y_idxAddr (m := st.length * 1 + 0) rfl rfl Try.underlying32 Try.sizeOf3 (by omega) (by omega) (by omega)) ?_
          refine g_val rfl rfl rfl (y_ldR (u := .int .i64 ((t : Nat) : Int)) 0 rfl Try.isAgg3 rfl ((fm_get iC 1 iC_len _ st.length 0 _ (get_last st t) (by decide)).trans rfl)) ?_
          refine g_rowCase 1 rfl (by omega) (fun gr5 cr5 hv5 => ?_)
          cases hv5
          refine g_val rfl rfl rfl (y_idxAddr (m := t * 43 + 0) rfl rfl Try.underlying27 Try.sizeOf47 (by omega) (by omega) (by omega)) ?_
          refine g_val rfl rfl rfl (y_fieldAddr (k := 0) (m := t * 43 + 0) rfl (by kernel_rfl) rfl) ?_
          refine g_val rfl rfl rfl (y_fieldAddr (k := 0) (m := t * 43 + 0) rfl (by kernel_rfl) rfl) ?_
          refine g_val rfl rfl rfl (y_ldR (u := .complex .f64 (cs (t)).re (cs (t)).im) 1 rfl Try.isAgg28 rfl ((fm_get inC 43 inC_len _ t 0 _ (ins_get cs j n (t) (by omega)) (by decide)).trans rfl)) ?_
          refine g_val rfl rfl rfl (y_assign rfl) ?_
          refine g_val rfl rfl rfl (y_assign rfl) ?_
          refine g_nil (g_then (g_ret (g_then_ret (g_then_ret (g_jumps_ret ?_)))))
          refine g_end2 Try.results18 rfl rfl ?_
          obtain rfl : i = n := by omega
          exact fun w hS => ⟨⟨(some t, j), by omega, .inl ⟨st, j, hb⟩⟩, rfl, hS.sub (.cons _ (.cons_cons _ .slnil))⟩
        · skip
          refine g_cond_f rfl (g_skip (g_then (g_seq (g_ops ?_))))
          refine g_val rfl rfl rfl (y_assign rfl) ?_
          refine g_val rfl rfl rfl (y_assign rfl) ?_
          refine g_nil (g_then (g_ret (g_then_ret (g_jumps_ret ?_))))
          refine g_end2 Try.results18 rfl rfl ?_
          obtain rfl : i = n := by omega
          obtain rfl : st = [] := List.length_eq_zero_iff.1 (by omega)
          exact fun w hS => ⟨⟨(none, j), hb⟩, rfl, hS.sub (.cons _ (.cons_cons _ .slnil))⟩
      · skip
        refine g_cond_f rfl (g_skip (g_then (g_seq (g_seq (g_ops ?_)))))
        refine g_val rfl rfl rfl (y_move rfl) ?_
        refine g_val rfl rfl rfl (y_move rfl) ?_
        refine g_rowCase 1 rfl (by omega) (fun gr6 cr6 hv6 => ?_)
        cases hv6
        refine g_val rfl rfl rfl (y_idxAddr (m := i * 43 + 0) rfl rfl Try.underlying27 Try.sizeOf47 (by omega) (by omega) (by omega)) ?_
        refine g_val rfl rfl rfl (y_fieldAddr (k := 0) (m := i * 43 + 0) rfl (by kernel_rfl) rfl) ?_
        refine g_val rfl rfl rfl (y_fieldAddr (k := 1) (m := i * 43 + 1) rfl (by kernel_rfl) rfl) ?_
        refine g_val rfl rfl rfl (y_ldR (u := .int .u8 (cs (i)).nm) 1 rfl Try.isAgg5 rfl ((fm_get inC 43 inC_len _ i 1 _ (ins_get cs j n (i) (by omega)) (by decide)).trans rfl)) ?_
        refine g_nil (g_then (g_block (g_seq (g_ops ?_))))
        refine g_val rfl rfl rfl (y_ieq rfl rfl) ?_
        refine g_val rfl rfl rfl (y_assign rfl) ?_
        refine g_nil (g_then ?_)
        first | refine g_casep 32 rfl (fun h7 => ?_) (fun h7 => ?_) | refine g_caseb 32 rfl (fun h7 => ?_) (fun h7 => ?_)
        · skip
          refine g_cond_t rfl (g_ops ?_)
          refine g_val rfl rfl rfl (y_move rfl) ?_
          refine g_val rfl rfl rfl (y_move rfl) ?_
          refine g_buildSlice (offs := [0]) rfl rfl Try.underlying32 rfl Try.zeroValue3 (by kernel_rfl) (fun b1 => ?_)
          refine g_appS (bytes := 8) iC (i) 1 (j := 0) rfl rfl rfl rfl Try.underlying32 (by kernel_rfl) rfl rfl iC_len rfl (by omega) (by have : maxLen = 9223372036854775807 := rfl; omega) (fun v2 => ?_)
          simp only [List.set_cons_zero, List.set_cons_succ]
          refine g_val rfl rfl rfl (y_assign rfl) ?_
          refine g_nil (g_in_normal (g_then (g_seq (g_ops ?_))))
          refine g_val rfl rfl rfl (y_move rfl) ?_
          refine g_val rfl rfl rfl (by first | exact y_addi rfl rfl (by first | omega | (simp only [size_mk, ByteArray.size_append, ByteArray.size_extract]; omega)) | exact y_iadd rfl rfl) ?_
          refine g_val rfl rfl rfl (y_assign rfl) ?_
          refine g_nil (g_then (g_goto ?_))
          exact g_jump ⟨(i + 1, _, (st ++ [i]), j), by dsimp only; omega, by dsimp only; first | exact bri_open hb (by omega) | exact bri_shut hb (by omega) | exact bri_else hb (by omega) (by omega)⟩ [0, 4, 5] rfl (fun j hj => by cases hj; dsimp only; omega) rfl (fun w h => h.sub (.cons _ (.cons_cons _ (.cons_cons _ .slnil))))
        · skip
          refine g_cond_f rfl (g_seq (g_ops ?_))
          refine g_val rfl rfl rfl (y_ieq rfl rfl) ?_
          refine g_val rfl rfl rfl (y_assign rfl) ?_
          refine g_nil (g_then ?_)
          first | refine g_casep 38 rfl (fun h8 => ?_) (fun h8 => ?_) | refine g_caseb 38 rfl (fun h8 => ?_) (fun h8 => ?_)
          · skip
            refine g_cond_t rfl (g_seq (g_ops ?_))
            refine g_val rfl rfl rfl (y_move rfl) ?_
            refine g_rowLen 0 rfl (fun pr9 cr9 hv9 => ?_)
            cases hv9
            refine g_val rfl rfl rfl (y_llen rfl Try.underlying32) ?_
            refine g_val rfl rfl rfl (y_assign rfl) ?_
            refine g_nil (g_then (g_seq (g_seq (g_ops ?_))))
            refine g_val rfl rfl rfl (y_move rfl) ?_
            refine g_val rfl rfl rfl (y_ieq rfl rfl) ?_
            refine g_nil (g_then ?_)
            first | refine g_casep 43 rfl (fun h10 => ?_) (fun h10 => ?_) | refine g_caseb 43 rfl (fun h10 => ?_) (fun h10 => ?_)
            · skip
              refine g_cond_t rfl (g_seq (g_ops ?_))
              refine g_val rfl rfl rfl (y_move rfl) ?_
              refine g_val rfl rfl rfl (y_move rfl) ?_
              refine g_val rfl rfl rfl (y_idxAddr (m := i * 43 + 0) rfl rfl Try.underlying27 Try.sizeOf47 (by omega) (by omega) (by omega)) ?_
              refine g_val rfl rfl rfl (y_fieldAddr (k := 0) (m := i * 43 + 0) rfl (by kernel_rfl) rfl) ?_
              refine g_val rfl rfl rfl (y_fieldAddr (k := 0) (m := i * 43 + 0) rfl (by kernel_rfl) rfl) ?_
              refine g_val rfl rfl rfl (y_ldR (u := .complex .f64 (cs (i)).re (cs (i)).im) 1 rfl Try.isAgg28 rfl ((fm_get inC 43 inC_len _ i 0 _ (ins_get cs j n (i) (by omega)) (by decide)).trans rfl)) ?_
              refine g_val rfl rfl rfl (y_assign rfl) ?_
              refine g_val rfl rfl rfl (y_assign rfl) ?_
              refine g_nil (g_then (g_ret (g_then_ret (g_in_ret (g_then_ret (g_jumps_ret ?_))))))
              refine g_end2 Try.results18 rfl rfl ?_
              obtain rfl : st = [] := List.length_eq_zero_iff.1 (by omega)
              exact fun w hS => ⟨⟨(some i, j), by omega, .inr ⟨⟨j, hb⟩, by omega⟩⟩, rfl, hS.sub (.cons _ (.cons_cons _ .slnil))⟩
            · skip
              refine g_cond_f rfl (g_skip (g_then (g_seq ?_)))
              obtain ⟨st, t, rfl⟩ : ∃ st' t, st = st' ++ [t] := by
                rcases List.eq_nil_or_concat st with q | ⟨a, b, q⟩
                · subst q; simp only [List.length_nil] at *; omega
                · exact ⟨a, b, by rw [q, List.concat_eq_append]⟩
              have hsl : (st ++ [t]).length = st.length + 1 := by simp
              have htl : t < i := hlt.1 t (by simp)
              refine g_ops ?_
              refine g_val rfl rfl rfl (y_move rfl) ?_
              refine g_val rfl rfl rfl (y_move rfl) ?_
              refine g_val rfl rfl rfl (y_move rfl) ?_
              refine g_val rfl rfl rfl (y_pred hsl rfl) ?_
              refine g_rowCase 0 rfl (by omega) (fun gr11 cr11 hv11 => ?_)
              cases hv11
              refine g_val rfl rfl rfl (y_idxAddr (m := st.length * 1 + 0) rfl rfl Try.underlying32 Try.sizeOf3 (by omega) (by omega) (by omega)) ?_
              refine g_val rfl rfl rfl (y_ldR (u := .int .i64 ((t : Nat) : Int)) 0 rfl Try.isAgg3 rfl ((fm_get iC 1 iC_len _ st.length 0 _ (get_last st t) (by decide)).trans rfl)) ?_
              refine g_val rfl rfl rfl (y_move rfl) ?_
              refine g_val rfl rfl rfl (y_idxAddr (m := t * 43 + 0) rfl rfl Try.underlying27 Try.sizeOf47 (by omega) (by omega) (by omega)) ?_
              refine g_val rfl rfl rfl (y_fieldAddr (k := 42) (m := t * 43 + 42) rfl (by kernel_rfl) rfl) ?_
              refine g_stR 1 rfl rfl rfl Try.sizeOf3 rfl rfl (by rw [fm_len inC 43 inC_len]; rw [ins_len]; omega) ?_
              simp only [List.set_cons_zero, List.set_cons_succ]
              rw [ins_jump cs j n t (i : Int) (by omega)]
              refine g_nil (g_then (g_ops ?_))
              refine g_val rfl rfl rfl (y_move rfl) ?_
              refine g_val rfl rfl rfl (y_move rfl) ?_
              refine g_val rfl rfl rfl (y_pred hsl rfl) ?_
              refine g_rowCap 0 rfl (fun hcap => ?_)
              refine g_val rfl rfl rfl (y_lto Try.sizeOf3 rfl rfl Try.underlying32 (by omega)) ?_
              refine g_turn (e' := .row 3 1 (.slice (some ⟨gr11, 0, none⟩) st.length cr9) st.length (st.flatMap iC)) 0 rfl (fun w h => by have := row_short (m := st.length) (by omega) h; rw [take_iC] at this; exact this) (fun k h => h) ?_
              simp only [List.set_cons_zero]
              refine g_val rfl rfl rfl (y_assign rfl) ?_
              refine g_nil (g_in_normal (g_then (g_seq (g_ops ?_))))
              refine g_val rfl rfl rfl (y_move rfl) ?_
              refine g_val rfl rfl rfl (by first | exact y_addi rfl rfl (by first | omega | (simp only [size_mk, ByteArray.size_append, ByteArray.size_extract]; omega)) | exact y_iadd rfl rfl) ?_
              refine g_val rfl rfl rfl (y_assign rfl) ?_
              refine g_nil (g_then (g_goto ?_))
              exact g_jump ⟨(i + 1, _, st, (fun k => if k = t then (i : Int) else j k)), by dsimp only; omega, by dsimp only; first | exact bri_open hb (by omega) | exact bri_shut hb (by omega) | exact bri_else hb (by omega) (by omega)⟩ [0, 4, 5] rfl (fun j hj => by cases hj; dsimp only; omega) rfl (fun w h => h.sub (.cons_cons _ (.cons_cons _ .slnil)))
          · skip
            refine g_cond_f rfl (g_skip (g_in_normal (g_then (g_seq (g_ops ?_)))))
            refine g_val rfl rfl rfl (y_move rfl) ?_
            refine g_val rfl rfl rfl (by first | exact y_addi rfl rfl (by first | omega | (simp only [size_mk, ByteArray.size_append, ByteArray.size_extract]; omega)) | exact y_iadd rfl rfl) ?_
            refine g_val rfl rfl rfl (y_assign rfl) ?_
            refine g_nil (g_then (g_goto ?_))
            exact g_jump ⟨(i + 1, _, st, j), by dsimp only; omega, by dsimp only; first | exact bri_open hb (by omega) | exact bri_shut hb (by omega) | exact bri_else hb (by omega) (by omega)⟩ [0, 4, 5] rfl (fun j hj => by cases hj; dsimp only; omega) rfl (fun w h => h.sub (.cons_cons _ (.cons_cons _ .slnil)))
  · skip
    intro hp
    refine g_seq (g_ops ?_)
    refine g_val rfl rfl rfl (y_assign rfl) ?_
    refine g_nil (g_then (g_seq ?_))
    refine g_nilRow 3 1 ?_
    refine g_ops ?_
    refine g_val rfl rfl rfl (y_assign rfl) ?_
    refine g_nil (g_then (g_seq (g_label (g_then ?_))))
    exact g_fall (hp (⟨(0, .slice none 0 0, [], fun _ => 0), Nat.zero_le _, rfl⟩)) [0, 4, 5] rfl (fun w h => h.sub (.cons_cons _ (.cons_cons _ .slnil)))

end Go.Proofs.Ytpacnggomjepdaa
