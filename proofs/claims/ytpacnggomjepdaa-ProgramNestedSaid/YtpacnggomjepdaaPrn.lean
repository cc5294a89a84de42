/- ProgramNested: the walk. -/
import Derived.Test.YtpacnggomjepdaaPrk
namespace Go.Proofs.Ytpacnggomjepdaa
open Go Go.RowKit

set_option maxRecDepth 100000 in
theorem nested_any (p : Option Addr) (n c : Nat) (bs : Nat → Br) (w : World) (hn : n ≤ 9223372036854775807) (hrd : RdSl w p n 4 (brF bs)) :
    Calls Try.prog 4 #[.slice p n c] w fun e w' => e = .returned (.bool true) ∧ Below w.heap.size w w' := by
  refine fn_intro Try.func4 rfl Try.ntmps4 rfl rfl ?_
  refine g_seq (g_ops ?_)
  refine g_val rfl rfl rfl (y_assign rfl) ?_
  refine g_nil (g_then (g_seq (g_ops ?_)))
  refine g_val rfl rfl rfl (y_move rfl) ?_
  refine g_callNew (fun x : {x : Option Value // x ≠ none → fits bs n} => cmdV x.1) (fun x => cmdL bs n x.1) rfl rfl rfl Try.call8 (fun w hS => commands_two p n c bs w hn (hrd.stays hS)) ?_
  rintro ⟨_ | vc, hfit⟩
  · skip
    simp only [cmdL, List.cons_append, List.nil_append]
    refine g_val rfl rfl rfl (y_move rfl) ?_
    refine g_val rfl rfl rfl (y_extract rfl rfl) ?_
    refine g_val rfl rfl rfl (y_extract rfl rfl) ?_
    refine g_val rfl rfl rfl (y_assign rfl) ?_
    refine g_val rfl rfl rfl (y_assign rfl) ?_
    refine g_nil (g_then (g_seq (g_ops ?_)))
    refine g_val rfl rfl rfl (y_move rfl) ?_
    refine g_callNew (fun x : {x : CX × Value // compR (csB bs) (0) x.1} => compV x.1) (fun x => [.row 47 43 x.1.2 x.1.1.l.length (x.1.1.l.flatMap inC)]) rfl rfl rfl Try.call10 (fun w hS => compile_any _ (0) _ (csB bs) w (by omega) ((fun i hi => by omega)) (rd_cm (hS.get (i := 0) rfl))) ?_
    rintro ⟨⟨cx_rp, v_rp⟩, hcx_rp⟩
    simp only [List.cons_append, List.nil_append]
    refine g_val rfl rfl rfl (y_move rfl) ?_
    refine g_val (v := v_rp) rfl rfl rfl (y_extract rfl rfl) ?_
    refine g_val (v := .complex .f64 cx_rp.re cx_rp.im) rfl rfl rfl (y_extract rfl rfl) ?_
    refine g_val (v := .int .i64 cx_rp.er) rfl rfl rfl (y_extract rfl rfl) ?_
    refine g_val rfl rfl rfl (y_assign rfl) ?_
    refine g_val rfl rfl rfl (y_assign rfl) ?_
    refine g_val rfl rfl rfl (y_assign rfl) ?_
    refine g_nil (g_then (g_seq (g_seq (g_ops ?_))))
    refine g_val rfl rfl rfl (y_move rfl) ?_
    refine g_val rfl rfl rfl (y_lit true (y_not rfl) rfl) ?_
    refine g_val rfl rfl rfl (y_move rfl) ?_
    refine g_not rfl rfl rfl ?_
    refine g_not rfl rfl rfl ?_
    refine g_val rfl rfl rfl (y_pick_t rfl rfl) ?_
    refine g_nil (g_then (g_cond_t rfl (g_seq (g_ops ?_))))
    refine g_call1 rfl rfl rfl Try.call9 (fun w hS => alive_any w) ?_
    refine g_val rfl rfl rfl (y_assign rfl) ?_
    refine g_nil (g_then (g_ret (g_then_ret ?_)))
    refine g_end1 Try.results4 rfl ?_
    exact fun w hS => ⟨rfl, (hS.sub (List.nil_sublist _)).below⟩
  · skip
    simp only [cmdL, List.cons_append, List.nil_append]
    have hfit := hfit (by simp)
    obtain ⟨hn220, hfits⟩ := hfit
    refine g_val rfl rfl rfl (y_move rfl) ?_
    refine g_val rfl rfl rfl (y_extract rfl rfl) ?_
    refine g_val rfl rfl rfl (y_extract rfl rfl) ?_
    refine g_val rfl rfl rfl (y_assign rfl) ?_
    refine g_val rfl rfl rfl (y_assign rfl) ?_
    refine g_nil (g_then (g_seq (g_ops ?_)))
    refine g_val rfl rfl rfl (y_move rfl) ?_
    refine g_rowLen 0 rfl (fun pr1 cr1 hv1 => ?_)
    cases hv1
    refine g_callNew (fun x : {x : CX × Value // compR (csB bs) (n) x.1} => compV x.1) (fun x => [.row 47 43 x.1.2 x.1.1.l.length (x.1.1.l.flatMap inC)]) rfl rfl rfl Try.call10 (fun w hS => compile_any _ (n) _ (csB bs) w (by omega) ((fun i hi => by have := (hfits i hi).1; exact Nat.le_trans this (by decide))) (rd_cm (hS.get (i := 0) rfl))) ?_
    rintro ⟨⟨cx_rp, v_rp⟩, hcx_rp⟩
    simp only [List.cons_append, List.nil_append]
    by_cases her : cx_rp.er = 0
    · skip
      obtain ⟨hn200, J, rfl, hok⟩ := comp_ok hcx_rp her
      clear her
      dsimp only
      rw [ins_len]
      refine g_val rfl rfl rfl (y_move rfl) ?_
      refine g_val (v := v_rp) rfl rfl rfl (y_extract rfl rfl) ?_
      refine g_val (v := .complex .f64 0 0) rfl rfl rfl (y_extract rfl rfl) ?_
      refine g_val (v := .int .i64 0) rfl rfl rfl (y_extract rfl rfl) ?_
      refine g_val rfl rfl rfl (y_assign rfl) ?_
      refine g_val rfl rfl rfl (y_assign rfl) ?_
      refine g_val rfl rfl rfl (y_assign rfl) ?_
      refine g_nil (g_then (g_seq (g_seq (g_ops ?_))))
      refine g_val rfl rfl rfl (y_move rfl) ?_
      refine g_val rfl rfl rfl (y_lit false (y_not rfl) rfl) ?_
      refine g_val rfl rfl rfl (y_move rfl) ?_
      refine g_val rfl rfl rfl (y_move rfl) ?_
      refine g_val rfl rfl rfl (y_lit false (y_ine rfl rfl) (by decide)) ?_
      refine g_val rfl rfl rfl (y_pick_f rfl rfl) ?_
      refine g_nil (g_then (g_cond_f rfl (g_skip (g_then (g_seq (g_seq (g_ops ?_)))))))
      refine g_val rfl rfl rfl (y_assign rfl) ?_
      refine g_nil (g_then (g_block ?_))
      refine g_loop (α := {x : Int // 0 ≤ x ∧ x ≤ n}) (fun x => [(3, (.slice pr1 (n) cr1)), (5, v_rp), (8, .int .i64 x.1)]) (fun x => St w [] [.row 47 43 v_rp n ((insOf (csB bs) J n).flatMap inC), .row 45 42 (.slice pr1 (n) cr1) n ((cml (csB bs) n).flatMap cmC)]) (fun x => n - x.1.toNat) ⟨0, by omega, by omega⟩ [3, 5, 8] rfl (fun w h => h.sub (.cons_cons _ (.cons_cons _ .slnil))) ?_
      rintro ⟨i, hx⟩
      dsimp only
      obtain ⟨hi0, hi1⟩ := hx
      refine g_seq (g_seq (g_ops ?_))
      refine g_val rfl rfl rfl (y_move rfl) ?_
      refine g_val rfl rfl rfl (y_move rfl) ?_
      refine g_rowLen 0 rfl (fun pr2 cr2 hv2 => ?_)
      cases hv2
      refine g_val rfl rfl rfl (y_llen rfl Try.underlying27) ?_
      refine g_val rfl rfl rfl (y_ilt rfl rfl) ?_
      refine g_nil (g_then ?_)
      first | refine g_casep 31 rfl (fun h3 => ?_) (fun h3 => ?_) | refine g_caseb 31 rfl (fun h3 => ?_) (fun h3 => ?_)
      · skip
        refine g_cond_t rfl (g_skip (g_then (g_seq (g_block (g_seq (g_ops ?_))))))
        refine g_val rfl rfl rfl (y_move rfl) ?_
        refine g_val rfl rfl rfl (by first | exact y_addi rfl rfl (by first | omega | (simp only [size_mk, ByteArray.size_append, ByteArray.size_extract]; omega)) | exact y_iadd rfl rfl) ?_
        refine g_val rfl rfl rfl (y_assign rfl) ?_
        refine g_nil (g_then (g_block ?_))
        refine g_loop (α := {x : Int // i < x ∧ x ≤ n}) (fun x => [(3, (.slice pr1 (n) cr1)), (5, (.slice pr2 (n) cr2)), (8, .int .i64 i), (9, .int .i64 x.1)]) (fun x => St w [] [.row 47 43 (.slice pr2 (n) cr2) n ((insOf (csB bs) J n).flatMap inC), .row 45 42 (.slice pr1 (n) cr1) n ((cml (csB bs) n).flatMap cmC)]) (fun x => n - x.1.toNat) ⟨i + 1, by omega, by omega⟩ [3, 5, 8, 9] rfl (fun w h => h.sub (.cons_cons _ (.cons_cons _ .slnil))) ?_
        rintro ⟨k, hx⟩
        dsimp only
        obtain ⟨hk0, hk1⟩ := hx
        refine g_seq (g_seq (g_ops ?_))
        refine g_val rfl rfl rfl (y_move rfl) ?_
        refine g_val rfl rfl rfl (y_move rfl) ?_
        refine g_val rfl rfl rfl (y_llen rfl Try.underlying27) ?_
        refine g_val rfl rfl rfl (y_ilt rfl rfl) ?_
        refine g_val rfl rfl rfl (y_move rfl) ?_
        first | refine g_casep 40 rfl (fun h4 => ?_) (fun h4 => ?_) | refine g_caseb 40 rfl (fun h4 => ?_) (fun h4 => ?_)
        · skip
          refine g_val rfl rfl rfl (y_move rfl) ?_
          refine g_val rfl rfl rfl (y_move rfl) ?_
          refine g_rowCase 1 rfl (by omega) (fun gr5 cr5 hv5 => ?_)
          cases hv5
          refine g_val rfl rfl rfl (y_idxAddr (m := (i).toNat * 42 + 0) rfl rfl Try.underlying23 Try.sizeOf45 (by omega) (by omega) (by omega)) ?_
          refine g_val rfl rfl rfl (y_fieldAddr (k := 1) (m := (i).toNat * 42 + 1) rfl (by kernel_rfl) rfl) ?_
          refine g_val rfl rfl rfl (y_ldR (u := .int .u8 ((csB bs) ((i).toNat)).nm) 1 rfl Try.isAgg5 rfl ((fm_get cmC 42 cmC_len _ (i).toNat 1 _ (cml_get (csB bs) n ((i).toNat) (by omega)) (by decide)).trans rfl)) ?_
          refine g_val rfl rfl rfl (y_ieq rfl rfl) ?_
          refine g_val rfl rfl rfl (y_pick_t rfl rfl) ?_
          refine g_val rfl rfl rfl (y_move rfl) ?_
          first | refine g_casep 48 rfl (fun h6 => ?_) (fun h6 => ?_) | refine g_caseb 48 rfl (fun h6 => ?_) (fun h6 => ?_)
          · skip
            refine g_val rfl rfl rfl (y_move rfl) ?_
            refine g_val rfl rfl rfl (y_move rfl) ?_
            refine g_val rfl rfl rfl (y_move rfl) ?_
            refine g_rowCase 0 rfl (by omega) (fun gr7 cr7 hv7 => ?_)
            cases hv7
            refine g_val rfl rfl rfl (y_idxAddr (m := (i).toNat * 43 + 0) rfl rfl Try.underlying27 Try.sizeOf47 (by omega) (by omega) (by omega)) ?_
            refine g_val rfl rfl rfl (y_fieldAddr (k := 42) (m := (i).toNat * 43 + 42) rfl (by kernel_rfl) rfl) ?_
            refine g_val rfl rfl rfl (y_ldR (u := .int .i64 (J ((i).toNat))) 0 rfl Try.isAgg3 rfl ((fm_get inC 43 inC_len _ (i).toNat 42 _ (ins_get (csB bs) J n ((i).toNat) (by omega)) (by decide)).trans rfl)) ?_
            refine g_val rfl rfl rfl (y_ilt rfl rfl) ?_
            refine g_val rfl rfl rfl (y_pick_t rfl rfl) ?_
            refine g_nil (g_then ?_)
            first | refine g_casep 56 rfl (fun h8 => ?_) (fun h8 => ?_) | refine g_caseb 56 rfl (fun h8 => ?_) (fun h8 => ?_)
            · skip
              refine g_cond_t rfl (g_skip (g_then (g_seq (g_block (g_seq ?_)))))
              refine g_quiet (by kernel_rfl) (by kernel_rfl) ?_
              refine q_val rfl rfl rfl (y_move rfl) ?_
              refine q_val rfl rfl rfl (y_move rfl) ?_
              refine q_val rfl rfl rfl (y_idxAddr (m := (k).toNat * 42 + 0) rfl rfl Try.underlying23 Try.sizeOf45 (by omega) (by omega) (by omega)) ?_
              refine q_val rfl rfl rfl (y_fieldAddr (k := 1) (m := (k).toNat * 42 + 1) rfl (by kernel_rfl) rfl) ?_
              refine q_val rfl rfl rfl (y_ldR (u := .int .u8 ((csB bs) ((k).toNat)).nm) 1 rfl Try.isAgg5 rfl ((fm_get cmC 42 cmC_len _ (k).toNat 1 _ (cml_get (csB bs) n ((k).toNat) (by omega)) (by decide)).trans rfl)) ?_
              refine q_val rfl rfl rfl (y_ieq rfl rfl) ?_
              refine q_val rfl rfl rfl (y_move rfl) ?_
              first | refine q_casep 65 rfl (fun h9 => ?_) (fun h9 => ?_) | refine q_caseb 65 rfl (fun h9 => ?_) (fun h9 => ?_)
              · skip
                refine q_val rfl rfl rfl (y_move rfl) ?_
                refine q_val rfl rfl rfl (y_move rfl) ?_
                refine q_val rfl rfl rfl (y_idxAddr (m := (k).toNat * 43 + 0) rfl rfl Try.underlying27 Try.sizeOf47 (by omega) (by omega) (by omega)) ?_
                refine q_val rfl rfl rfl (y_fieldAddr (k := 42) (m := (k).toNat * 43 + 42) rfl (by kernel_rfl) rfl) ?_
                refine q_val rfl rfl rfl (y_ldR (u := .int .i64 (J ((k).toNat))) 0 rfl Try.isAgg3 rfl ((fm_get inC 43 inC_len _ (k).toNat 42 _ (ins_get (csB bs) J n ((k).toNat) (by omega)) (by decide)).trans rfl)) ?_
                refine q_val rfl rfl rfl (y_move rfl) ?_
                refine q_val rfl rfl rfl (y_move rfl) ?_
                refine q_val rfl rfl rfl (y_idxAddr (m := (i).toNat * 43 + 0) rfl rfl Try.underlying27 Try.sizeOf47 (by omega) (by omega) (by omega)) ?_
                refine q_val rfl rfl rfl (y_fieldAddr (k := 42) (m := (i).toNat * 43 + 42) rfl (by kernel_rfl) rfl) ?_
                refine q_val rfl rfl rfl (y_ldR (u := .int .i64 (J ((i).toNat))) 0 rfl Try.isAgg3 rfl ((fm_get inC 43 inC_len _ (i).toNat 42 _ (ins_get (csB bs) J n ((i).toNat) (by omega)) (by decide)).trans rfl)) ?_
                refine q_val rfl rfl rfl (y_lit false (y_ige rfl rfl) (decide_eq_false (by have := hok.nest i.toNat k.toNat (by omega) (by omega) (by omega) (by omega) (by omega); omega))) ?_
                refine q_val rfl rfl rfl (y_pick_t rfl rfl) ?_
                refine q_nil (g_then (g_cond_f rfl (g_skip (g_in_normal (g_then (g_ops ?_))))))
                refine g_val rfl rfl rfl (y_move rfl) ?_
                refine g_val rfl rfl rfl (by first | exact y_addi rfl rfl (by first | omega | (simp only [size_mk, ByteArray.size_append, ByteArray.size_extract]; omega)) | exact y_iadd rfl rfl) ?_
                refine g_val rfl rfl rfl (y_assign rfl) ?_
                refine g_nil ?_
                exact g_again ⟨k + 1, by omega, by omega⟩ [3, 5, 8, 9] (by dsimp only; omega) rfl (fun w h => h.sub (.cons_cons _ (.cons_cons _ .slnil)))
              · skip
                refine q_not rfl rfl rfl ?_
                refine q_not rfl rfl rfl ?_
                refine q_not rfl rfl rfl ?_
                refine q_not rfl rfl rfl ?_
                refine q_not rfl rfl rfl ?_
                refine q_not rfl rfl rfl ?_
                refine q_not rfl rfl rfl ?_
                refine q_not rfl rfl rfl ?_
                refine q_not rfl rfl rfl ?_
                refine q_not rfl rfl rfl ?_
                refine q_not rfl rfl rfl ?_
                refine q_val rfl rfl rfl (y_pick_f rfl rfl) ?_
                refine q_nil (g_then (g_cond_f rfl (g_skip (g_in_normal (g_then (g_ops ?_))))))
                refine g_val rfl rfl rfl (y_move rfl) ?_
                refine g_val rfl rfl rfl (by first | exact y_addi rfl rfl (by first | omega | (simp only [size_mk, ByteArray.size_append, ByteArray.size_extract]; omega)) | exact y_iadd rfl rfl) ?_
                refine g_val rfl rfl rfl (y_assign rfl) ?_
                refine g_nil ?_
                exact g_again ⟨k + 1, by omega, by omega⟩ [3, 5, 8, 9] (by dsimp only; omega) rfl (fun w h => h.sub (.cons_cons _ (.cons_cons _ .slnil)))
            · skip
              refine g_cond_f rfl (g_exit (g_then_exit (g_then_exit (g_in_exit (g_in_normal (g_then (g_ops ?_)))))))
              refine g_val rfl rfl rfl (y_move rfl) ?_
              refine g_val rfl rfl rfl (by first | exact y_addi rfl rfl (by first | omega | (simp only [size_mk, ByteArray.size_append, ByteArray.size_extract]; omega)) | exact y_iadd rfl rfl) ?_
              refine g_val rfl rfl rfl (y_assign rfl) ?_
              refine g_nil ?_
              exact g_again ⟨i + 1, by omega, by omega⟩ [3, 5, 8] (by dsimp only; omega) rfl (fun w h => h.sub (.cons_cons _ (.cons_cons _ .slnil)))
          · skip
            refine g_not rfl rfl rfl ?_
            refine g_not rfl rfl rfl ?_
            refine g_not rfl rfl rfl ?_
            refine g_not rfl rfl rfl ?_
            refine g_not rfl rfl rfl ?_
            refine g_not rfl rfl rfl ?_
            refine g_not rfl rfl rfl ?_
            refine g_val rfl rfl rfl (y_pick_f rfl rfl) ?_
            refine g_nil (g_then (g_cond_f rfl (g_exit (g_then_exit (g_then_exit (g_in_exit (g_in_normal (g_then (g_ops ?_)))))))))
            refine g_val rfl rfl rfl (y_move rfl) ?_
            refine g_val rfl rfl rfl (by first | exact y_addi rfl rfl (by first | omega | (simp only [size_mk, ByteArray.size_append, ByteArray.size_extract]; omega)) | exact y_iadd rfl rfl) ?_
            refine g_val rfl rfl rfl (y_assign rfl) ?_
            refine g_nil ?_
            exact g_again ⟨i + 1, by omega, by omega⟩ [3, 5, 8] (by dsimp only; omega) rfl (fun w h => h.sub (.cons_cons _ (.cons_cons _ .slnil)))
        · skip
          refine g_not rfl rfl rfl ?_
          refine g_not rfl rfl rfl ?_
          refine g_not rfl rfl rfl ?_
          refine g_not rfl rfl rfl ?_
          refine g_not rfl rfl rfl ?_
          refine g_not rfl rfl rfl ?_
          refine g_val rfl rfl rfl (y_pick_f rfl rfl) ?_
          refine g_val rfl rfl rfl (y_move rfl) ?_
          refine g_not rfl rfl rfl ?_
          refine g_not rfl rfl rfl ?_
          refine g_not rfl rfl rfl ?_
          refine g_not rfl rfl rfl ?_
          refine g_not rfl rfl rfl ?_
          refine g_not rfl rfl rfl ?_
          refine g_not rfl rfl rfl ?_
          refine g_val rfl rfl rfl (y_pick_f rfl rfl) ?_
          refine g_nil (g_then (g_cond_f rfl (g_exit (g_then_exit (g_then_exit (g_in_exit (g_in_normal (g_then (g_ops ?_)))))))))
          refine g_val rfl rfl rfl (y_move rfl) ?_
          refine g_val rfl rfl rfl (by first | exact y_addi rfl rfl (by first | omega | (simp only [size_mk, ByteArray.size_append, ByteArray.size_extract]; omega)) | exact y_iadd rfl rfl) ?_
          refine g_val rfl rfl rfl (y_assign rfl) ?_
          refine g_nil ?_
          exact g_again ⟨i + 1, by omega, by omega⟩ [3, 5, 8] (by dsimp only; omega) rfl (fun w h => h.sub (.cons_cons _ (.cons_cons _ .slnil)))
      · skip
        refine g_cond_f rfl (g_exit (g_then_exit (g_then_exit (g_in_exit (g_then (g_seq (g_ops ?_)))))))
        refine g_call1 rfl rfl rfl Try.call9 (fun w hS => alive_any w) ?_
        refine g_val rfl rfl rfl (y_move rfl) ?_
        refine g_val rfl rfl rfl (y_move rfl) ?_
        refine g_call1 rfl rfl rfl Try.call11 (fun w hS => deep_any _ (n) _ (csB bs) w (by omega) (rd_cm (hS.get (i := 1) rfl))) ?_
        refine g_val rfl rfl rfl (y_lit true (y_ige rfl rfl) (decide_eq_true (deep_bd (csB bs) n).2.2.1)) ?_
        refine g_val rfl rfl rfl (y_pick_t rfl rfl) ?_
        refine g_val rfl rfl rfl (y_move rfl) ?_
        refine g_val rfl rfl rfl (y_move rfl) ?_
        refine g_call1 rfl rfl rfl Try.call11 (fun w hS => deep_any _ (n) _ (csB bs) w (by omega) (rd_cm (hS.get (i := 1) rfl))) ?_
        refine g_val rfl rfl rfl (y_move rfl) ?_
        refine g_val rfl rfl rfl (y_llen rfl Try.underlying23) ?_
        refine g_val rfl rfl rfl (y_lit true (y_ile rfl rfl) (decide_eq_true (deep_bd (csB bs) n).2.2.2)) ?_
        refine g_val rfl rfl rfl (y_pick_t rfl rfl) ?_
        refine g_val rfl rfl rfl (y_assign rfl) ?_
        refine g_nil (g_then (g_ret ?_))
        refine g_end1 Try.results4 rfl ?_
        exact fun w hS => ⟨rfl, (hS.sub (List.nil_sublist _)).below⟩
    · skip
      obtain ⟨xl, xre, xim, xer⟩ := cx_rp
      obtain rfl : xl = [] := comp_bad hcx_rp her
      dsimp only at her ⊢
      refine g_val rfl rfl rfl (y_move rfl) ?_
      refine g_val (v := v_rp) rfl rfl rfl (y_extract rfl rfl) ?_
      refine g_val (v := .complex .f64 xre xim) rfl rfl rfl (y_extract rfl rfl) ?_
      refine g_val (v := .int .i64 xer) rfl rfl rfl (y_extract rfl rfl) ?_
      refine g_val rfl rfl rfl (y_assign rfl) ?_
      refine g_val rfl rfl rfl (y_assign rfl) ?_
      refine g_val rfl rfl rfl (y_assign rfl) ?_
      refine g_nil (g_then (g_seq (g_seq (g_ops ?_))))
      refine g_val rfl rfl rfl (y_move rfl) ?_
      refine g_val rfl rfl rfl (y_lit false (y_not rfl) rfl) ?_
      refine g_val rfl rfl rfl (y_move rfl) ?_
      refine g_val rfl rfl rfl (y_move rfl) ?_
      refine g_val rfl rfl rfl (y_lit true (y_ine rfl rfl) (decide_eq_true her)) ?_
      refine g_val rfl rfl rfl (y_pick_f rfl rfl) ?_
      refine g_nil (g_then (g_cond_t rfl (g_seq (g_ops ?_))))
      refine g_call1 rfl rfl rfl Try.call9 (fun w hS => alive_any w) ?_
      refine g_val rfl rfl rfl (y_assign rfl) ?_
      refine g_nil (g_then (g_ret (g_then_ret ?_)))
      refine g_end1 Try.results4 rfl ?_
      exact fun w hS => ⟨rfl, (hS.sub (List.nil_sublist _)).below⟩

end Go.Proofs.Ytpacnggomjepdaa
