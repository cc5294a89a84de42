/- ProgramLands: the walk. -/
import Derived.Test.YtpacnggomjepdaaPrk
namespace Go.Proofs.Ytpacnggomjepdaa
open Go Go.RowKit

def zC (z : Int) : List Value := [.int .i64 z]
theorem zC_len (z : Int) : (zC z).length = 1 := rfl
theorem getD_get (E : List Int) (i : Nat) (h : i < E.length) : E[i]? = some (E.getD i 0) := by rw [List.getD_eq_getElem?_getD, List.getElem?_eq_getElem h]; rfl
theorem getD_mem (E : List Int) (i : Nat) (h : i < E.length) : E.getD i 0 ∈ E := List.mem_of_getElem? (getD_get E i h)
theorem feq_00 : feq 0 0 = true := by decide +kernel
def endsOk (cs : Nat → Cm) (J : Nat → Int) (i : Nat) (E : List Int) : Prop := E.length ≤ i ∧ ∀ e, e ∈ E → ∃ k, k < i ∧ (cs k).nm = 123 ∧ J k = e
theorem ends_on {cs : Nat → Cm} {J : Nat → Int} {i : Nat} {E : List Int} (h : endsOk cs J i E) : endsOk cs J (i + 1) E := ⟨by have := h.1; omega, fun e he => by obtain ⟨k, h1, h2⟩ := h.2 e he; exact ⟨k, by omega, h2⟩⟩
theorem ends_new {cs : Nat → Cm} {J : Nat → Int} {i : Nat} {E : List Int} (h : endsOk cs J i E) (hn : (cs i).nm = 123) : endsOk cs J (i + 1) (E ++ [J i]) := ⟨by rw [List.length_append, List.length_singleton]; have := h.1; omega, fun e he => by
  rcases List.mem_append.1 he with q | q
  · exact (ends_on h).2 e q
  · simp at q; exact ⟨i, by omega, hn, q.symm⟩⟩

set_option maxRecDepth 100000 in
theorem lands_any (p : Option Addr) (n c : Nat) (bs : Nat → Br) (w : World) (hn : n ≤ 9223372036854775807) (hrd : RdSl w p n 4 (brF bs)) :
    Calls Try.prog 3 #[.slice p n c] w fun e w' => e = .returned (.bool true) ∧ Below w.heap.size w w' := by
  refine fn_intro Try.func3 rfl Try.ntmps3 rfl rfl ?_
  refine g_seq (g_ops ?_)
  refine g_val rfl rfl rfl (y_assign rfl) ?_
  refine g_nil (g_then (g_seq (g_ops ?_)))
  refine g_val rfl rfl rfl (y_move rfl) ?_
  refine g_callNew (fun x : {x : Option Value // x ≠ none → fits bs n} => cmdV x.1) (fun x => cmdL bs n x.1) rfl rfl rfl Try.call8 (fun w hS => commands_two p n c bs w hn (hrd.stays hS)) ?_
  rintro ⟨_ | vc, hfit⟩
  · skip
    simp only [cmdL, List.cons_append, List.nil_append]
    refine g_val rfl rfl rfl (y_move rfl) ?_
    refine g_val rfl rfl rfl (y_extract rfl rfl) ?_
    refine g_val rfl rfl rfl (y_extract rfl rfl) ?_
    refine g_val rfl rfl rfl (y_assign rfl) ?_
    refine g_val rfl rfl rfl (y_assign rfl) ?_
    refine g_nil (g_then (g_seq (g_seq (g_ops ?_))))
    refine g_val rfl rfl rfl (y_move rfl) ?_
    refine g_val rfl rfl rfl (y_lit true (y_not rfl) rfl) ?_
    refine g_nil (g_then (g_cond_t rfl (g_seq (g_ops ?_))))
    refine g_call1 rfl rfl rfl Try.call9 (fun w hS => alive_any w) ?_
    refine g_val rfl rfl rfl (y_assign rfl) ?_
    refine g_nil (g_then (g_ret (g_then_ret ?_)))
    refine g_end1 Try.results3 rfl ?_
    exact fun w hS => ⟨rfl, (hS.sub (List.nil_sublist _)).below⟩
  · skip
    simp only [cmdL, List.cons_append, List.nil_append]
    have hfit := hfit (by simp)
    obtain ⟨hn220, hfits⟩ := hfit
    refine g_val rfl rfl rfl (y_move rfl) ?_
    refine g_val rfl rfl rfl (y_extract rfl rfl) ?_
    refine g_val rfl rfl rfl (y_extract rfl rfl) ?_
    refine g_val rfl rfl rfl (y_assign rfl) ?_
    refine g_val rfl rfl rfl (y_assign rfl) ?_
    refine g_nil (g_then (g_seq (g_seq (g_ops ?_))))
    refine g_val rfl rfl rfl (y_move rfl) ?_
    refine g_val rfl rfl rfl (y_lit false (y_not rfl) rfl) ?_
    refine g_nil (g_then (g_cond_f rfl (g_skip (g_then (g_seq (g_ops ?_))))))
    refine g_val rfl rfl rfl (y_move rfl) ?_
    refine g_rowLen 0 rfl (fun pr1 cr1 hv1 => ?_)
    cases hv1
    refine g_callNew (fun x : {x : CX × Value // compR (csB bs) (n) x.1} => compV x.1) (fun x => [.row 47 43 x.1.2 x.1.1.l.length (x.1.1.l.flatMap inC)]) rfl rfl rfl Try.call10 (fun w hS => compile_any _ (n) _ (csB bs) w (by omega) ((fun i hi => by have := (hfits i hi).1; exact Nat.le_trans this (by decide))) (rd_cm (hS.get (i := 0) rfl))) ?_
    rintro ⟨⟨cx_rp, v_rp⟩, hcx_rp⟩
    simp only [List.cons_append, List.nil_append]
    by_cases her : cx_rp.er = 0
    · skip
      obtain ⟨hn200, J, rfl, hok⟩ := comp_ok hcx_rp her
      clear her
      dsimp only
      rw [ins_len]
      refine g_val rfl rfl rfl (y_move rfl) ?_
      refine g_val (v := v_rp) rfl rfl rfl (y_extract rfl rfl) ?_
      refine g_val (v := .complex .f64 0 0) rfl rfl rfl (y_extract rfl rfl) ?_
      refine g_val (v := .int .i64 0) rfl rfl rfl (y_extract rfl rfl) ?_
      refine g_val rfl rfl rfl (y_assign rfl) ?_
      refine g_val rfl rfl rfl (y_assign rfl) ?_
      refine g_val rfl rfl rfl (y_assign rfl) ?_
      refine g_nil (g_then (g_seq (g_seq (g_ops ?_))))
      refine g_val rfl rfl rfl (y_move rfl) ?_
      refine g_val rfl rfl rfl (y_lit false (y_ine rfl rfl) (by decide)) ?_
      refine g_nil (g_then (g_cond_f rfl (g_skip (g_then (g_seq (g_seq (g_ops ?_)))))))
      refine g_val rfl rfl rfl (y_move rfl) ?_
      refine g_rowLen 0 rfl (fun pr2 cr2 hv2 => ?_)
      cases hv2
      refine g_val rfl rfl rfl (y_llen rfl Try.underlying27) ?_
      refine g_val rfl rfl rfl (y_move rfl) ?_
      refine g_val rfl rfl rfl (y_llen rfl Try.underlying23) ?_
      refine g_val rfl rfl rfl (y_lit false (y_ine rfl rfl) (decide_eq_false (fun h => h rfl))) ?_
      refine g_val rfl rfl rfl (y_move rfl) ?_
      refine g_val rfl rfl rfl (y_move rfl) ?_
      refine g_val rfl rfl rfl (y_lit false (y_cne rfl rfl) (by rw [feq_00]; rfl)) ?_
      refine g_val rfl rfl rfl (y_pick_f rfl rfl) ?_
      refine g_nil (g_then (g_cond_f rfl (g_skip (g_then (g_seq (g_ops ?_))))))
      refine g_nilRow 3 1 ?_
      refine g_val rfl rfl rfl (y_assign rfl) ?_
      refine g_nil (g_then (g_seq (g_seq (g_ops ?_))))
      refine g_val rfl rfl rfl (y_assign rfl) ?_
      refine g_nil (g_then (g_block ?_))
      refine g_loop (α := {x : Int × Value × List Int // 0 ≤ x.1 ∧ x.1 ≤ n ∧ endsOk (csB bs) J x.1.toNat x.2.2}) (fun x => [(3, (.slice pr1 (n) cr1)), (5, (.slice pr2 (n) cr2)), (8, x.1.2.1), (9, .int .i64 x.1.1)]) (fun x => St w [] [.row 3 1 x.1.2.1 x.1.2.2.length (x.1.2.2.flatMap zC), .row 47 43 (.slice pr2 (n) cr2) n ((insOf (csB bs) J n).flatMap inC), .row 45 42 (.slice pr1 (n) cr1) n ((cml (csB bs) n).flatMap cmC)]) (fun x => n - x.1.1.toNat) ⟨(0, .slice none 0 0, []), by dsimp only; omega, by dsimp only; omega, by dsimp only; simp, by simp⟩ [3, 5, 8, 9] rfl (fun w h => h.sub (.cons_cons _ (.cons_cons _ (.cons_cons _ .slnil)))) ?_
      rintro ⟨⟨i, v, E⟩, hx⟩
      dsimp only
      dsimp only at hx
      obtain ⟨hi0, hi1, hE⟩ := hx
      have hEl := hE.1
      refine g_seq (g_seq (g_ops ?_))
      refine g_val rfl rfl rfl (y_move rfl) ?_
      refine g_val rfl rfl rfl (y_move rfl) ?_
      refine g_val rfl rfl rfl (y_llen rfl Try.underlying27) ?_
      refine g_val rfl rfl rfl (y_ilt rfl rfl) ?_
      refine g_nil (g_then ?_)
      first | refine g_casep 46 rfl (fun h3 => ?_) (fun h3 => ?_) | refine g_caseb 46 rfl (fun h3 => ?_) (fun h3 => ?_)
      · skip
        refine g_cond_t rfl (g_skip (g_then (g_seq (g_block (g_seq (g_ops ?_))))))
        refine g_val rfl rfl rfl (y_move rfl) ?_
        refine g_val rfl rfl rfl (y_move rfl) ?_
        refine g_rowCase 1 rfl (by omega) (fun gr4 cr4 hv4 => ?_)
        cases hv4
        refine g_val rfl rfl rfl (y_idxAddr (m := (i).toNat * 43 + 0) rfl rfl Try.underlying27 Try.sizeOf47 (by omega) (by omega) (by omega)) ?_
        refine g_val rfl rfl rfl (y_fieldAddr (k := 42) (m := (i).toNat * 43 + 42) rfl (by kernel_rfl) rfl) ?_
        refine g_val rfl rfl rfl (y_ldR (u := .int .i64 (J ((i).toNat))) 1 rfl Try.isAgg3 rfl ((fm_get inC 43 inC_len _ (i).toNat 42 _ (ins_get (csB bs) J n ((i).toNat) (by omega)) (by decide)).trans rfl)) ?_
        refine g_val rfl rfl rfl (y_assign rfl) ?_
        refine g_nil (g_then (g_seq (g_ops ?_)))
        refine g_val rfl rfl rfl (y_move rfl) ?_
        refine g_val rfl rfl rfl (y_move rfl) ?_
        refine g_rowCase 2 rfl (by omega) (fun gr5 cr5 hv5 => ?_)
        cases hv5
        refine g_val rfl rfl rfl (y_idxAddr (m := (i).toNat * 42 + 0) rfl rfl Try.underlying23 Try.sizeOf45 (by omega) (by omega) (by omega)) ?_
        refine g_val rfl rfl rfl (y_fieldAddr (k := 1) (m := (i).toNat * 42 + 1) rfl (by kernel_rfl) rfl) ?_
        refine g_val rfl rfl rfl (y_ldR (u := .int .u8 ((csB bs) ((i).toNat)).nm) 2 rfl Try.isAgg5 rfl ((fm_get cmC 42 cmC_len _ (i).toNat 1 _ (cml_get (csB bs) n ((i).toNat) (by omega)) (by decide)).trans rfl)) ?_
        refine g_nil (g_then (g_block (g_seq (g_ops ?_))))
        refine g_val rfl rfl rfl (y_ieq rfl rfl) ?_
        refine g_val rfl rfl rfl (y_assign rfl) ?_
        refine g_nil (g_then ?_)
        first | refine g_casep 61 rfl (fun h6 => ?_) (fun h6 => ?_) | refine g_caseb 61 rfl (fun h6 => ?_) (fun h6 => ?_)
        · skip
          refine g_cond_t rfl (g_seq (g_seq ?_))
          obtain ⟨f1, f2, f3⟩ := hok.shut i.toNat (by omega) (by omega)
          refine g_ops ?_
          refine g_val rfl rfl rfl (y_move rfl) ?_
          refine g_val rfl rfl rfl (y_move rfl) ?_
          refine g_val rfl rfl rfl (y_lit false (y_ile rfl rfl) (decide_eq_false (by omega))) ?_
          refine g_val rfl rfl rfl (y_move rfl) ?_
          refine g_val rfl rfl rfl (y_move rfl) ?_
          refine g_val rfl rfl rfl (y_move rfl) ?_
          refine g_val rfl rfl rfl (y_llen rfl Try.underlying27) ?_
          refine g_val rfl rfl rfl (y_lit false (y_ige rfl rfl) (decide_eq_false (by omega))) ?_
          refine g_val rfl rfl rfl (y_pick_f rfl rfl) ?_
          refine g_val rfl rfl rfl (y_move rfl) ?_
          refine g_val rfl rfl rfl (y_move rfl) ?_
          refine g_val rfl rfl rfl (y_move rfl) ?_
          refine g_val rfl rfl rfl (y_idxAddr (m := ((J ((i).toNat))).toNat * 42 + 0) rfl rfl Try.underlying23 Try.sizeOf45 (by omega) (by omega) (by omega)) ?_
          refine g_val rfl rfl rfl (y_fieldAddr (k := 1) (m := ((J ((i).toNat))).toNat * 42 + 1) rfl (by kernel_rfl) rfl) ?_
          refine g_val rfl rfl rfl (y_ldR (u := .int .u8 ((csB bs) (((J ((i).toNat))).toNat)).nm) 2 rfl Try.isAgg5 rfl ((fm_get cmC 42 cmC_len _ ((J ((i).toNat))).toNat 1 _ (cml_get (csB bs) n (((J ((i).toNat))).toNat) (by omega)) (by decide)).trans rfl)) ?_
          refine g_val rfl rfl rfl (y_lit false (y_ine rfl rfl) (decide_eq_false (by omega))) ?_
          refine g_val rfl rfl rfl (y_pick_f rfl rfl) ?_
          refine g_nil (g_then (g_cond_f rfl (g_skip (g_then (g_seq (g_seq (g_ops ?_)))))))
          refine g_val rfl rfl rfl (y_assign rfl) ?_
          refine g_nil (g_then (g_block ?_))
          refine g_loop (α := {x : Int // 0 ≤ x ∧ x ≤ E.length}) (fun x => [(3, (.slice (some ⟨gr5, 0, none⟩) (n) cr1)), (5, (.slice (some ⟨gr4, 0, none⟩) (n) cr2)), (8, v), (9, .int .i64 i), (10, .int .i64 (J i.toNat)), (11, .int .i64 x.1)]) (fun x => St w [] [.row 3 1 v E.length (E.flatMap zC), .row 47 43 (.slice (some ⟨gr4, 0, none⟩) (n) cr2) n ((insOf (csB bs) J n).flatMap inC), .row 45 42 (.slice (some ⟨gr5, 0, none⟩) (n) cr1) n ((cml (csB bs) n).flatMap cmC)]) (fun x => E.length - x.1.toNat) ⟨0, by omega, by omega⟩ [3, 5, 8, 9, 10, 11] rfl (fun w h => h.sub (.cons_cons _ (.cons_cons _ (.cons_cons _ .slnil)))) ?_
          rintro ⟨k, hx⟩
          dsimp only
          obtain ⟨hk0, hk1⟩ := hx
          refine g_seq (g_seq (g_ops ?_))
          refine g_val rfl rfl rfl (y_move rfl) ?_
          refine g_val rfl rfl rfl (y_move rfl) ?_
          refine g_rowLen 0 rfl (fun pr7 cr7 hv7 => ?_)
          cases hv7
          refine g_val rfl rfl rfl (y_llen rfl Try.underlying32) ?_
          refine g_val rfl rfl rfl (y_ilt rfl rfl) ?_
          refine g_nil (g_then ?_)
          first | refine g_casep 83 rfl (fun h8 => ?_) (fun h8 => ?_) | refine g_caseb 83 rfl (fun h8 => ?_) (fun h8 => ?_)
          · skip
            refine g_cond_t rfl (g_skip (g_then (g_seq (g_block (g_seq (g_ops ?_))))))
            refine g_val rfl rfl rfl (y_move rfl) ?_
            refine g_val rfl rfl rfl (y_move rfl) ?_
            refine g_rowCase 0 rfl (by omega) (fun gr9 cr9 hv9 => ?_)
            cases hv9
            refine g_val rfl rfl rfl (y_idxAddr (m := (k).toNat * 1 + 0) rfl rfl Try.underlying32 Try.sizeOf3 (by omega) (by omega) (by omega)) ?_
            refine g_val rfl rfl rfl (y_ldR (u := .int .i64 (E.getD ((k).toNat) 0)) 0 rfl Try.isAgg3 rfl ((fm_get zC 1 zC_len _ (k).toNat 0 _ (getD_get E ((k).toNat) (by omega)) (by decide)).trans rfl)) ?_
            refine g_val rfl rfl rfl (y_move rfl) ?_
            refine g_val rfl rfl rfl (y_lit false (y_ieq rfl rfl) (decide_eq_false (fun h => by obtain ⟨k1, q1, q2, q3⟩ := hE.2 _ (getD_mem E k.toNat (by omega)); exact hok.inj k1 i.toNat q1 (by omega) q2 (by omega) (q3.trans h)))) ?_
            refine g_nil (g_then (g_cond_f rfl (g_skip (g_in_normal (g_then (g_ops ?_))))))
            refine g_val rfl rfl rfl (y_move rfl) ?_
            refine g_val rfl rfl rfl (by first | exact y_addi rfl rfl (by first | omega | (simp only [size_mk, ByteArray.size_append, ByteArray.size_extract]; omega)) | exact y_iadd rfl rfl) ?_
            refine g_val rfl rfl rfl (y_assign rfl) ?_
            refine g_nil ?_
            exact g_again ⟨k + 1, by omega, by omega⟩ [3, 5, 8, 9, 10, 11] (by dsimp only; omega) rfl (fun w h => h.sub (.cons_cons _ (.cons_cons _ (.cons_cons _ .slnil))))
          · skip
            refine g_cond_f rfl (g_exit (g_then_exit (g_then_exit (g_in_exit (g_then (g_ops ?_))))))
            refine g_val rfl rfl rfl (y_move rfl) ?_
            refine g_val rfl rfl rfl (y_move rfl) ?_
            refine g_buildSlice (offs := [0]) rfl rfl Try.underlying32 rfl Try.zeroValue3 (by kernel_rfl) (fun b1 => ?_)
            refine g_appS (bytes := 8) zC ((J i.toNat)) 1 (j := 0) rfl rfl rfl rfl Try.underlying32 (by kernel_rfl) rfl rfl zC_len rfl (by omega) (by have : maxLen = 9223372036854775807 := rfl; omega) (fun v2 => ?_)
            simp only [List.set_cons_zero, List.set_cons_succ]
            refine g_val rfl rfl rfl (y_assign rfl) ?_
            refine g_nil (g_in_normal (g_in_normal (g_then (g_ops ?_))))
            refine g_val rfl rfl rfl (y_move rfl) ?_
            refine g_val rfl rfl rfl (by first | exact y_addi rfl rfl (by first | omega | (simp only [size_mk, ByteArray.size_append, ByteArray.size_extract]; omega)) | exact y_iadd rfl rfl) ?_
            refine g_val rfl rfl rfl (y_assign rfl) ?_
            refine g_nil ?_
            exact g_again ⟨(i + 1, _, (E ++ [(J i.toNat)])), by dsimp only; omega, by dsimp only; omega, by dsimp only; rw [show (i + 1).toNat = i.toNat + 1 by omega]; exact ends_new hE (by omega)⟩ [3, 5, 8, 9] (by dsimp only; omega) rfl (fun w h => h.sub (.cons _ (.cons_cons _ (.cons_cons _ (.cons_cons _ .slnil)))))
        · skip
          refine g_cond_f rfl (g_seq (g_seq (g_ops ?_)))
          refine g_val rfl rfl rfl (y_ieq rfl rfl) ?_
          refine g_val rfl rfl rfl (y_assign rfl) ?_
          refine g_nil (g_then ?_)
          first | refine g_casep 96 rfl (fun h10 => ?_) (fun h10 => ?_) | refine g_caseb 96 rfl (fun h10 => ?_) (fun h10 => ?_)
          · skip
            refine g_cond_t rfl (g_skip (g_then (g_cond_t rfl (g_seq ?_))))
            have hB : isB (csB bs) i.toNat := by unfold isB; omega
            rcases hok.goes i.toNat (by omega) hB with ⟨g1, g2⟩ | ⟨g1, g2, g3, g4, g5⟩
            · skip
              refine g_quiet (by kernel_rfl) (by kernel_rfl) ?_
              refine q_val rfl rfl rfl (y_move rfl) ?_
              refine q_val rfl rfl rfl (y_move rfl) ?_
              refine q_val rfl rfl rfl (y_idxAddr (m := (i).toNat * 42 + 0) rfl rfl Try.underlying23 Try.sizeOf45 (by omega) (by omega) (by omega)) ?_
              refine q_val rfl rfl rfl (y_fieldAddr (k := 25) (m := (i).toNat * 42 + 25) rfl (by kernel_rfl) rfl) ?_
              refine q_val rfl rfl rfl (y_ldR (u := .string ((csB bs) ((i).toNat)).tx) 2 rfl Try.isAgg9 rfl ((fm_get cmC 42 cmC_len _ (i).toNat 25 _ (cml_get (csB bs) n ((i).toNat) (by omega)) (by decide)).trans rfl)) ?_
              refine q_val rfl rfl rfl (y_lit true (y_seq rfl rfl) (decide_eq_true g1)) ?_
              refine q_val rfl rfl rfl (y_move rfl) ?_
              refine q_val rfl rfl rfl (y_move rfl) ?_
              refine q_val rfl rfl rfl (y_move rfl) ?_
              refine q_val rfl rfl rfl (y_llen rfl Try.underlying27) ?_
              refine q_val rfl rfl rfl (y_lit false (y_ine rfl rfl) (decide_eq_false (by omega))) ?_
              refine q_val rfl rfl rfl (y_pick_t rfl rfl) ?_
              refine q_val rfl rfl rfl (y_move rfl) ?_
              refine q_val rfl rfl rfl (y_move rfl) ?_
              refine q_val rfl rfl rfl (y_move rfl) ?_
              refine q_val rfl rfl rfl (y_idxAddr (m := (i).toNat * 42 + 0) rfl rfl Try.underlying23 Try.sizeOf45 (by omega) (by omega) (by omega)) ?_
              refine q_val rfl rfl rfl (y_fieldAddr (k := 25) (m := (i).toNat * 42 + 25) rfl (by kernel_rfl) rfl) ?_
              refine q_val rfl rfl rfl (y_ldR (u := .string ((csB bs) ((i).toNat)).tx) 2 rfl Try.isAgg9 rfl ((fm_get cmC 42 cmC_len _ (i).toNat 25 _ (cml_get (csB bs) n ((i).toNat) (by omega)) (by decide)).trans rfl)) ?_
              refine q_val rfl rfl rfl (y_lit false (y_sne rfl rfl) (decide_eq_false (fun h => h g1))) ?_
              refine q_val rfl rfl rfl (y_move rfl) ?_
              refine q_not rfl rfl rfl ?_
              refine q_not rfl rfl rfl ?_
              refine q_not rfl rfl rfl ?_
              refine q_not rfl rfl rfl ?_
              refine q_not rfl rfl rfl ?_
              refine q_not rfl rfl rfl ?_
              refine q_not rfl rfl rfl ?_
              refine q_not rfl rfl rfl ?_
              refine q_not rfl rfl rfl ?_
              refine q_not rfl rfl rfl ?_
              refine q_not rfl rfl rfl ?_
              refine q_not rfl rfl rfl ?_
              refine q_not rfl rfl rfl ?_
              refine q_not rfl rfl rfl ?_
              refine q_not rfl rfl rfl ?_
              refine q_not rfl rfl rfl ?_
              refine q_not rfl rfl rfl ?_
              refine q_not rfl rfl rfl ?_
              refine q_not rfl rfl rfl ?_
              refine q_not rfl rfl rfl ?_
              refine q_not rfl rfl rfl ?_
              refine q_not rfl rfl rfl ?_
              refine q_not rfl rfl rfl ?_
              refine q_not rfl rfl rfl ?_
              refine q_not rfl rfl rfl ?_
              refine q_not rfl rfl rfl ?_
              refine q_not rfl rfl rfl ?_
              refine q_not rfl rfl rfl ?_
              refine q_not rfl rfl rfl ?_
              refine q_val rfl rfl rfl (y_pick_f rfl rfl) ?_
              refine q_val rfl rfl rfl (y_pick_f rfl rfl) ?_
              refine q_nil (g_then (g_cond_f rfl (g_skip (g_in_normal (g_in_normal (g_then (g_ops ?_)))))))
              refine g_val rfl rfl rfl (y_move rfl) ?_
              refine g_val rfl rfl rfl (by first | exact y_addi rfl rfl (by first | omega | (simp only [size_mk, ByteArray.size_append, ByteArray.size_extract]; omega)) | exact y_iadd rfl rfl) ?_
              refine g_val rfl rfl rfl (y_assign rfl) ?_
              refine g_nil ?_
              exact g_again ⟨(i + 1, _, E), by dsimp only; omega, by dsimp only; omega, by dsimp only; rw [show (i + 1).toNat = i.toNat + 1 by omega]; exact ends_on hE⟩ [3, 5, 8, 9] (by dsimp only; omega) rfl (fun w h => h.sub (.cons_cons _ (.cons_cons _ (.cons_cons _ .slnil))))
            · skip
              refine g_quiet (by kernel_rfl) (by kernel_rfl) ?_
              refine q_val rfl rfl rfl (y_move rfl) ?_
              refine q_val rfl rfl rfl (y_move rfl) ?_
              refine q_val rfl rfl rfl (y_idxAddr (m := (i).toNat * 42 + 0) rfl rfl Try.underlying23 Try.sizeOf45 (by omega) (by omega) (by omega)) ?_
              refine q_val rfl rfl rfl (y_fieldAddr (k := 25) (m := (i).toNat * 42 + 25) rfl (by kernel_rfl) rfl) ?_
              refine q_val rfl rfl rfl (y_ldR (u := .string ((csB bs) ((i).toNat)).tx) 2 rfl Try.isAgg9 rfl ((fm_get cmC 42 cmC_len _ (i).toNat 25 _ (cml_get (csB bs) n ((i).toNat) (by omega)) (by decide)).trans rfl)) ?_
              refine q_val rfl rfl rfl (y_lit false (y_seq rfl rfl) (decide_eq_false g1)) ?_
              refine q_val rfl rfl rfl (y_move rfl) ?_
              refine q_not rfl rfl rfl ?_
              refine q_not rfl rfl rfl ?_
              refine q_not rfl rfl rfl ?_
              refine q_not rfl rfl rfl ?_
              refine q_val rfl rfl rfl (y_pick_f rfl rfl) ?_
              refine q_val rfl rfl rfl (y_move rfl) ?_
              refine q_val rfl rfl rfl (y_move rfl) ?_
              refine q_val rfl rfl rfl (y_move rfl) ?_
              refine q_val rfl rfl rfl (y_idxAddr (m := (i).toNat * 42 + 0) rfl rfl Try.underlying23 Try.sizeOf45 (by omega) (by omega) (by omega)) ?_
              refine q_val rfl rfl rfl (y_fieldAddr (k := 25) (m := (i).toNat * 42 + 25) rfl (by kernel_rfl) rfl) ?_
              refine q_val rfl rfl rfl (y_ldR (u := .string ((csB bs) ((i).toNat)).tx) 2 rfl Try.isAgg9 rfl ((fm_get cmC 42 cmC_len _ (i).toNat 25 _ (cml_get (csB bs) n ((i).toNat) (by omega)) (by decide)).trans rfl)) ?_
              refine q_val rfl rfl rfl (y_lit true (y_sne rfl rfl) (decide_eq_true g1)) ?_
              refine q_val rfl rfl rfl (y_move rfl) ?_
              refine q_val rfl rfl rfl (y_move rfl) ?_
              refine q_val rfl rfl rfl (y_lit false (y_ilt rfl rfl) (decide_eq_false (by omega))) ?_
              refine q_val rfl rfl rfl (y_move rfl) ?_
              refine q_val rfl rfl rfl (y_move rfl) ?_
              refine q_val rfl rfl rfl (y_move rfl) ?_
              refine q_val rfl rfl rfl (y_llen rfl Try.underlying27) ?_
              refine q_val rfl rfl rfl (y_lit false (y_ige rfl rfl) (decide_eq_false (by omega))) ?_
              refine q_val rfl rfl rfl (y_pick_f rfl rfl) ?_
              refine q_val rfl rfl rfl (y_move rfl) ?_
              refine q_val rfl rfl rfl (y_move rfl) ?_
              refine q_val rfl rfl rfl (y_move rfl) ?_
              refine q_val rfl rfl rfl (y_idxAddr (m := ((J ((i).toNat))).toNat * 42 + 0) rfl rfl Try.underlying23 Try.sizeOf45 (by omega) (by omega) (by omega)) ?_
              refine q_val rfl rfl rfl (y_fieldAddr (k := 1) (m := ((J ((i).toNat))).toNat * 42 + 1) rfl (by kernel_rfl) rfl) ?_
              refine q_val rfl rfl rfl (y_ldR (u := .int .u8 ((csB bs) (((J ((i).toNat))).toNat)).nm) 2 rfl Try.isAgg5 rfl ((fm_get cmC 42 cmC_len _ ((J ((i).toNat))).toNat 1 _ (cml_get (csB bs) n (((J ((i).toNat))).toNat) (by omega)) (by decide)).trans rfl)) ?_
              refine q_val rfl rfl rfl (y_lit false (y_ine rfl rfl) (decide_eq_false (by omega))) ?_
              refine q_val rfl rfl rfl (y_pick_f rfl rfl) ?_
              refine q_val rfl rfl rfl (y_move rfl) ?_
              refine q_val rfl rfl rfl (y_move rfl) ?_
              refine q_val rfl rfl rfl (y_move rfl) ?_
              refine q_val rfl rfl rfl (y_idxAddr (m := ((J ((i).toNat))).toNat * 42 + 0) rfl rfl Try.underlying23 Try.sizeOf45 (by omega) (by omega) (by omega)) ?_
              refine q_val rfl rfl rfl (y_fieldAddr (k := 25) (m := ((J ((i).toNat))).toNat * 42 + 25) rfl (by kernel_rfl) rfl) ?_
              refine q_val rfl rfl rfl (y_ldR (u := .string ((csB bs) (((J ((i).toNat))).toNat)).tx) 2 rfl Try.isAgg9 rfl ((fm_get cmC 42 cmC_len _ ((J ((i).toNat))).toNat 25 _ (cml_get (csB bs) n (((J ((i).toNat))).toNat) (by omega)) (by decide)).trans rfl)) ?_
              refine q_val rfl rfl rfl (y_move rfl) ?_
              refine q_val rfl rfl rfl (y_move rfl) ?_
              refine q_val rfl rfl rfl (y_idxAddr (m := (i).toNat * 42 + 0) rfl rfl Try.underlying23 Try.sizeOf45 (by omega) (by omega) (by omega)) ?_
              refine q_val rfl rfl rfl (y_fieldAddr (k := 25) (m := (i).toNat * 42 + 25) rfl (by kernel_rfl) rfl) ?_
              refine q_val rfl rfl rfl (y_ldR (u := .string ((csB bs) ((i).toNat)).tx) 2 rfl Try.isAgg9 rfl ((fm_get cmC 42 cmC_len _ (i).toNat 25 _ (cml_get (csB bs) n ((i).toNat) (by omega)) (by decide)).trans rfl)) ?_
              refine q_val rfl rfl rfl (y_lit false (y_sne rfl rfl) (decide_eq_false (fun h => h g5))) ?_
              refine q_val rfl rfl rfl (y_pick_f rfl rfl) ?_
              refine q_val rfl rfl rfl (y_pick_t rfl rfl) ?_
              refine q_val rfl rfl rfl (y_pick_f rfl rfl) ?_
              refine q_nil (g_then (g_cond_f rfl (g_skip (g_in_normal (g_in_normal (g_then (g_ops ?_)))))))
              refine g_val rfl rfl rfl (y_move rfl) ?_
              refine g_val rfl rfl rfl (by first | exact y_addi rfl rfl (by first | omega | (simp only [size_mk, ByteArray.size_append, ByteArray.size_extract]; omega)) | exact y_iadd rfl rfl) ?_
              refine g_val rfl rfl rfl (y_assign rfl) ?_
              refine g_nil ?_
              exact g_again ⟨(i + 1, _, E), by dsimp only; omega, by dsimp only; omega, by dsimp only; rw [show (i + 1).toNat = i.toNat + 1 by omega]; exact ends_on hE⟩ [3, 5, 8, 9] (by dsimp only; omega) rfl (fun w h => h.sub (.cons_cons _ (.cons_cons _ (.cons_cons _ .slnil))))
          · skip
            refine g_cond_f rfl (g_ops ?_)
            refine g_val rfl rfl rfl (y_ieq rfl rfl) ?_
            refine g_val rfl rfl rfl (y_assign rfl) ?_
            refine g_nil (g_then ?_)
            first | refine g_casep 96 rfl (fun h11 => ?_) (fun h11 => ?_) | refine g_caseb 96 rfl (fun h11 => ?_) (fun h11 => ?_)
            · skip
              refine g_cond_t rfl (g_seq ?_)
              have hB : isB (csB bs) i.toNat := by unfold isB; omega
              rcases hok.goes i.toNat (by omega) hB with ⟨g1, g2⟩ | ⟨g1, g2, g3, g4, g5⟩
              · skip
                refine g_quiet (by kernel_rfl) (by kernel_rfl) ?_
                refine q_val rfl rfl rfl (y_move rfl) ?_
                refine q_val rfl rfl rfl (y_move rfl) ?_
                refine q_val rfl rfl rfl (y_idxAddr (m := (i).toNat * 42 + 0) rfl rfl Try.underlying23 Try.sizeOf45 (by omega) (by omega) (by omega)) ?_
                refine q_val rfl rfl rfl (y_fieldAddr (k := 25) (m := (i).toNat * 42 + 25) rfl (by kernel_rfl) rfl) ?_
                refine q_val rfl rfl rfl (y_ldR (u := .string ((csB bs) ((i).toNat)).tx) 2 rfl Try.isAgg9 rfl ((fm_get cmC 42 cmC_len _ (i).toNat 25 _ (cml_get (csB bs) n ((i).toNat) (by omega)) (by decide)).trans rfl)) ?_
                refine q_val rfl rfl rfl (y_lit true (y_seq rfl rfl) (decide_eq_true g1)) ?_
                refine q_val rfl rfl rfl (y_move rfl) ?_
                refine q_val rfl rfl rfl (y_move rfl) ?_
                refine q_val rfl rfl rfl (y_move rfl) ?_
                refine q_val rfl rfl rfl (y_llen rfl Try.underlying27) ?_
                refine q_val rfl rfl rfl (y_lit false (y_ine rfl rfl) (decide_eq_false (by omega))) ?_
                refine q_val rfl rfl rfl (y_pick_t rfl rfl) ?_
                refine q_val rfl rfl rfl (y_move rfl) ?_
                refine q_val rfl rfl rfl (y_move rfl) ?_
                refine q_val rfl rfl rfl (y_move rfl) ?_
                refine q_val rfl rfl rfl (y_idxAddr (m := (i).toNat * 42 + 0) rfl rfl Try.underlying23 Try.sizeOf45 (by omega) (by omega) (by omega)) ?_
                refine q_val rfl rfl rfl (y_fieldAddr (k := 25) (m := (i).toNat * 42 + 25) rfl (by kernel_rfl) rfl) ?_
                refine q_val rfl rfl rfl (y_ldR (u := .string ((csB bs) ((i).toNat)).tx) 2 rfl Try.isAgg9 rfl ((fm_get cmC 42 cmC_len _ (i).toNat 25 _ (cml_get (csB bs) n ((i).toNat) (by omega)) (by decide)).trans rfl)) ?_
                refine q_val rfl rfl rfl (y_lit false (y_sne rfl rfl) (decide_eq_false (fun h => h g1))) ?_
                refine q_val rfl rfl rfl (y_move rfl) ?_
                refine q_not rfl rfl rfl ?_
                refine q_not rfl rfl rfl ?_
                refine q_not rfl rfl rfl ?_
                refine q_not rfl rfl rfl ?_
                refine q_not rfl rfl rfl ?_
                refine q_not rfl rfl rfl ?_
                refine q_not rfl rfl rfl ?_
                refine q_not rfl rfl rfl ?_
                refine q_not rfl rfl rfl ?_
                refine q_not rfl rfl rfl ?_
                refine q_not rfl rfl rfl ?_
                refine q_not rfl rfl rfl ?_
                refine q_not rfl rfl rfl ?_
                refine q_not rfl rfl rfl ?_
                refine q_not rfl rfl rfl ?_
                refine q_not rfl rfl rfl ?_
                refine q_not rfl rfl rfl ?_
                refine q_not rfl rfl rfl ?_
                refine q_not rfl rfl rfl ?_
                refine q_not rfl rfl rfl ?_
                refine q_not rfl rfl rfl ?_
                refine q_not rfl rfl rfl ?_
                refine q_not rfl rfl rfl ?_
                refine q_not rfl rfl rfl ?_
                refine q_not rfl rfl rfl ?_
                refine q_not rfl rfl rfl ?_
                refine q_not rfl rfl rfl ?_
                refine q_not rfl rfl rfl ?_
                refine q_not rfl rfl rfl ?_
                refine q_val rfl rfl rfl (y_pick_f rfl rfl) ?_
                refine q_val rfl rfl rfl (y_pick_f rfl rfl) ?_
                refine q_nil (g_then (g_cond_f rfl (g_skip (g_in_normal (g_in_normal (g_then (g_ops ?_)))))))
                refine g_val rfl rfl rfl (y_move rfl) ?_
                refine g_val rfl rfl rfl (by first | exact y_addi rfl rfl (by first | omega | (simp only [size_mk, ByteArray.size_append, ByteArray.size_extract]; omega)) | exact y_iadd rfl rfl) ?_
                refine g_val rfl rfl rfl (y_assign rfl) ?_
                refine g_nil ?_
                exact g_again ⟨(i + 1, _, E), by dsimp only; omega, by dsimp only; omega, by dsimp only; rw [show (i + 1).toNat = i.toNat + 1 by omega]; exact ends_on hE⟩ [3, 5, 8, 9] (by dsimp only; omega) rfl (fun w h => h.sub (.cons_cons _ (.cons_cons _ (.cons_cons _ .slnil))))
              · skip
                refine g_quiet (by kernel_rfl) (by kernel_rfl) ?_
                refine q_val rfl rfl rfl (y_move rfl) ?_
                refine q_val rfl rfl rfl (y_move rfl) ?_
                refine q_val rfl rfl rfl (y_idxAddr (m := (i).toNat * 42 + 0) rfl rfl Try.underlying23 Try.sizeOf45 (by omega) (by omega) (by omega)) ?_
                refine q_val rfl rfl rfl (y_fieldAddr (k := 25) (m := (i).toNat * 42 + 25) rfl (by kernel_rfl) rfl) ?_
                refine q_val rfl rfl rfl (y_ldR (u := .string ((csB bs) ((i).toNat)).tx) 2 rfl Try.isAgg9 rfl ((fm_get cmC 42 cmC_len _ (i).toNat 25 _ (cml_get (csB bs) n ((i).toNat) (by omega)) (by decide)).trans rfl)) ?_
                refine q_val rfl rfl rfl (y_lit false (y_seq rfl rfl) (decide_eq_false g1)) ?_
                refine q_val rfl rfl rfl (y_move rfl) ?_
                refine q_not rfl rfl rfl ?_
                refine q_not rfl rfl rfl ?_
                refine q_not rfl rfl rfl ?_
                refine q_not rfl rfl rfl ?_
                refine q_val rfl rfl rfl (y_pick_f rfl rfl) ?_
                refine q_val rfl rfl rfl (y_move rfl) ?_
                refine q_val rfl rfl rfl (y_move rfl) ?_
                refine q_val rfl rfl rfl (y_move rfl) ?_
                refine q_val rfl rfl rfl (y_idxAddr (m := (i).toNat * 42 + 0) rfl rfl Try.underlying23 Try.sizeOf45 (by omega) (by omega) (by omega)) ?_
                refine q_val rfl rfl rfl (y_fieldAddr (k := 25) (m := (i).toNat * 42 + 25) rfl (by kernel_rfl) rfl) ?_
                refine q_val rfl rfl rfl (y_ldR (u := .string ((csB bs) ((i).toNat)).tx) 2 rfl Try.isAgg9 rfl ((fm_get cmC 42 cmC_len _ (i).toNat 25 _ (cml_get (csB bs) n ((i).toNat) (by omega)) (by decide)).trans rfl)) ?_
                refine q_val rfl rfl rfl (y_lit true (y_sne rfl rfl) (decide_eq_true g1)) ?_
                refine q_val rfl rfl rfl (y_move rfl) ?_
                refine q_val rfl rfl rfl (y_move rfl) ?_
                refine q_val rfl rfl rfl (y_lit false (y_ilt rfl rfl) (decide_eq_false (by omega))) ?_
                refine q_val rfl rfl rfl (y_move rfl) ?_
                refine q_val rfl rfl rfl (y_move rfl) ?_
                refine q_val rfl rfl rfl (y_move rfl) ?_
                refine q_val rfl rfl rfl (y_llen rfl Try.underlying27) ?_
                refine q_val rfl rfl rfl (y_lit false (y_ige rfl rfl) (decide_eq_false (by omega))) ?_
                refine q_val rfl rfl rfl (y_pick_f rfl rfl) ?_
                refine q_val rfl rfl rfl (y_move rfl) ?_
                refine q_val rfl rfl rfl (y_move rfl) ?_
                refine q_val rfl rfl rfl (y_move rfl) ?_
                refine q_val rfl rfl rfl (y_idxAddr (m := ((J ((i).toNat))).toNat * 42 + 0) rfl rfl Try.underlying23 Try.sizeOf45 (by omega) (by omega) (by omega)) ?_
                refine q_val rfl rfl rfl (y_fieldAddr (k := 1) (m := ((J ((i).toNat))).toNat * 42 + 1) rfl (by kernel_rfl) rfl) ?_
                refine q_val rfl rfl rfl (y_ldR (u := .int .u8 ((csB bs) (((J ((i).toNat))).toNat)).nm) 2 rfl Try.isAgg5 rfl ((fm_get cmC 42 cmC_len _ ((J ((i).toNat))).toNat 1 _ (cml_get (csB bs) n (((J ((i).toNat))).toNat) (by omega)) (by decide)).trans rfl)) ?_
                refine q_val rfl rfl rfl (y_lit false (y_ine rfl rfl) (decide_eq_false (by omega))) ?_
                refine q_val rfl rfl rfl (y_pick_f rfl rfl) ?_
                refine q_val rfl rfl rfl (y_move rfl) ?_
                refine q_val rfl rfl rfl (y_move rfl) ?_
                refine q_val rfl rfl rfl (y_move rfl) ?_
                refine q_val rfl rfl rfl (y_idxAddr (m := ((J ((i).toNat))).toNat * 42 + 0) rfl rfl Try.underlying23 Try.sizeOf45 (by omega) (by omega) (by omega)) ?_
                refine q_val rfl rfl rfl (y_fieldAddr (k := 25) (m := ((J ((i).toNat))).toNat * 42 + 25) rfl (by kernel_rfl) rfl) ?_
                refine q_val rfl rfl rfl (y_ldR (u := .string ((csB bs) (((J ((i).toNat))).toNat)).tx) 2 rfl Try.isAgg9 rfl ((fm_get cmC 42 cmC_len _ ((J ((i).toNat))).toNat 25 _ (cml_get (csB bs) n (((J ((i).toNat))).toNat) (by omega)) (by decide)).trans rfl)) ?_
                refine q_val rfl rfl rfl (y_move rfl) ?_
                refine q_val rfl rfl rfl (y_move rfl) ?_
                refine q_val rfl rfl rfl (y_idxAddr (m := (i).toNat * 42 + 0) rfl rfl Try.underlying23 Try.sizeOf45 (by omega) (by omega) (by omega)) ?_
                refine q_val rfl rfl rfl (y_fieldAddr (k := 25) (m := (i).toNat * 42 + 25) rfl (by kernel_rfl) rfl) ?_
                refine q_val rfl rfl rfl (y_ldR (u := .string ((csB bs) ((i).toNat)).tx) 2 rfl Try.isAgg9 rfl ((fm_get cmC 42 cmC_len _ (i).toNat 25 _ (cml_get (csB bs) n ((i).toNat) (by omega)) (by decide)).trans rfl)) ?_
                refine q_val rfl rfl rfl (y_lit false (y_sne rfl rfl) (decide_eq_false (fun h => h g5))) ?_
                refine q_val rfl rfl rfl (y_pick_f rfl rfl) ?_
                refine q_val rfl rfl rfl (y_pick_t rfl rfl) ?_
                refine q_val rfl rfl rfl (y_pick_f rfl rfl) ?_
                refine q_nil (g_then (g_cond_f rfl (g_skip (g_in_normal (g_in_normal (g_then (g_ops ?_)))))))
                refine g_val rfl rfl rfl (y_move rfl) ?_
                refine g_val rfl rfl rfl (by first | exact y_addi rfl rfl (by first | omega | (simp only [size_mk, ByteArray.size_append, ByteArray.size_extract]; omega)) | exact y_iadd rfl rfl) ?_
                refine g_val rfl rfl rfl (y_assign rfl) ?_
                refine g_nil ?_
                exact g_again ⟨(i + 1, _, E), by dsimp only; omega, by dsimp only; omega, by dsimp only; rw [show (i + 1).toNat = i.toNat + 1 by omega]; exact ends_on hE⟩ [3, 5, 8, 9] (by dsimp only; omega) rfl (fun w h => h.sub (.cons_cons _ (.cons_cons _ (.cons_cons _ .slnil))))
            · skip
              refine g_cond_f rfl (g_seq (g_ops ?_))
              refine g_val rfl rfl rfl (y_move rfl) ?_
              refine g_val rfl rfl rfl (y_lit false (y_ine rfl rfl) (decide_eq_false (by have := hok.rest i.toNat (by omega) (by omega) (by omega) (by omega); omega))) ?_
              refine g_nil (g_then (g_cond_f rfl (g_skip (g_in_normal (g_in_normal (g_then (g_ops ?_)))))))
              refine g_val rfl rfl rfl (y_move rfl) ?_
              refine g_val rfl rfl rfl (by first | exact y_addi rfl rfl (by first | omega | (simp only [size_mk, ByteArray.size_append, ByteArray.size_extract]; omega)) | exact y_iadd rfl rfl) ?_
              refine g_val rfl rfl rfl (y_assign rfl) ?_
              refine g_nil ?_
              exact g_again ⟨(i + 1, _, E), by dsimp only; omega, by dsimp only; omega, by dsimp only; rw [show (i + 1).toNat = i.toNat + 1 by omega]; exact ends_on hE⟩ [3, 5, 8, 9] (by dsimp only; omega) rfl (fun w h => h.sub (.cons_cons _ (.cons_cons _ (.cons_cons _ .slnil))))
      · skip
        refine g_cond_f rfl (g_exit (g_then_exit (g_then_exit (g_in_exit (g_then (g_seq (g_ops ?_)))))))
        refine g_call1 rfl rfl rfl Try.call9 (fun w hS => alive_any w) ?_
        refine g_val rfl rfl rfl (y_assign rfl) ?_
        refine g_nil (g_then (g_ret ?_))
        refine g_end1 Try.results3 rfl ?_
        exact fun w hS => ⟨rfl, (hS.sub (List.nil_sublist _)).below⟩
    · skip
      obtain ⟨xl, xre, xim, xer⟩ := cx_rp
      obtain rfl : xl = [] := comp_bad hcx_rp her
      dsimp only at her ⊢
      refine g_val rfl rfl rfl (y_move rfl) ?_
      refine g_val (v := v_rp) rfl rfl rfl (y_extract rfl rfl) ?_
      refine g_val (v := .complex .f64 xre xim) rfl rfl rfl (y_extract rfl rfl) ?_
      refine g_val (v := .int .i64 xer) rfl rfl rfl (y_extract rfl rfl) ?_
      refine g_val rfl rfl rfl (y_assign rfl) ?_
      refine g_val rfl rfl rfl (y_assign rfl) ?_
      refine g_val rfl rfl rfl (y_assign rfl) ?_
      refine g_nil (g_then (g_seq (g_seq (g_ops ?_))))
      refine g_val rfl rfl rfl (y_move rfl) ?_
      refine g_val rfl rfl rfl (y_lit true (y_ine rfl rfl) (decide_eq_true her)) ?_
      refine g_nil (g_then (g_cond_t rfl (g_seq (g_ops ?_))))
      refine g_call1 rfl rfl rfl Try.call9 (fun w hS => alive_any w) ?_
      refine g_val rfl rfl rfl (y_move rfl) ?_
      refine g_val rfl rfl rfl (y_move rfl) ?_
      refine g_rowLen 0 rfl (fun pr12 cr12 hv12 => ?_)
      cases hv12
      refine g_val rfl rfl rfl (y_llen rfl Try.underlying27) ?_
      refine g_val rfl rfl rfl (y_lit true (y_ieq rfl rfl) (by decide)) ?_
      refine g_val rfl rfl rfl (y_pick_t rfl rfl) ?_
      refine g_val rfl rfl rfl (y_assign rfl) ?_
      refine g_nil (g_then (g_ret (g_then_ret ?_)))
      refine g_end1 Try.results3 rfl ?_
      exact fun w hS => ⟨rfl, (hS.sub (List.nil_sublist _)).below⟩

end Go.Proofs.Ytpacnggomjepdaa
