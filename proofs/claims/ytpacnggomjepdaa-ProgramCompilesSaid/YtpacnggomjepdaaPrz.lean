/- ProgramCompiles: the walk. -/
import Derived.Test.YtpacnggomjepdaaPra
import Derived.Test.YtpacnggomjepdaaPrx
import Derived.Test.YtpacnggomjepdaaPry
namespace Go.Proofs.Ytpacnggomjepdaa
open Go Go.RowKit

theorem plOk_csB (bs : Nat → Br) (k : Nat) : plOk (csB bs k) := by
  have h : 0 ≤ lnOf (bs k).ln ∧ lnOf (bs k).ln < 9007199254740992 := by unfold lnOf; split <;> omega
  refine ⟨?_, ?_⟩
  · show feq (fl (lnOf (bs k).ln)) (fl (lnOf (bs k).ln)) = true
    rw [feq_fl h h]; simp
  · show feq 4607182418800017408 4607182418800017408 = true
    rw [fl_1, feq_fl (by decide) (by decide)]; rfl
theorem ref_two {bs : Nat → Br} {n : Nat} {y : CX} (h : refR (csB bs) n y) : ∃ m j, m ≤ n ∧ y.l = insOf (csB bs) j m ∧ feq y.re y.re = true ∧ feq y.im y.im = true := by
  obtain ⟨ko, er, _, ⟨_, rfl⟩ | ⟨_, ⟨_, rfl⟩ | ⟨k, _, rfl⟩⟩⟩ := h
  · exact ⟨n, _, Nat.le_refl _, rfl, feq_00, feq_00⟩
  · exact ⟨0, fun _ => 0, Nat.zero_le _, rfl, feq_00, feq_00⟩
  · exact ⟨0, fun _ => 0, Nat.zero_le _, rfl, (plOk_csB bs k).1, (plOk_csB bs k).2⟩

set_option maxRecDepth 100000 in
theorem compiles_any (p : Option Addr) (n c : Nat) (bs : Nat → Br) (w : World) (hn : n ≤ 9223372036854775807) (hrd : RdSl w p n 4 (brF bs)) :
    Calls Try.prog 6 #[.slice p n c] w fun e w' => e = .returned (.bool true) ∧ Below w.heap.size w w' := by
  refine fn_intro Try.func6 rfl Try.ntmps6 rfl rfl ?_
  refine g_seq (g_ops ?_)
  refine g_val rfl rfl rfl (y_assign rfl) ?_
  refine g_nil (g_then (g_seq (g_ops ?_)))
  refine g_val rfl rfl rfl (y_move rfl) ?_
  refine g_callNew (fun x : {x : Option Value // x ≠ none → fits bs n} => cmdV x.1) (fun x => cmdL bs n x.1) rfl rfl rfl Try.call8 (fun w hS => commands_two p n c bs w hn (hrd.stays hS)) ?_
  rintro ⟨_ | vc, hfit⟩
  · skip
    simp only [cmdL, List.cons_append, List.nil_append]
    refine g_val rfl rfl rfl (y_move rfl) ?_
    refine g_val rfl rfl rfl (y_extract rfl rfl) ?_
    refine g_val rfl rfl rfl (y_extract rfl rfl) ?_
    refine g_val rfl rfl rfl (y_assign rfl) ?_
    refine g_val rfl rfl rfl (y_assign rfl) ?_
    refine g_nil (g_then (g_seq (g_seq (g_ops ?_))))
    refine g_val rfl rfl rfl (y_move rfl) ?_
    refine g_val rfl rfl rfl (y_lit true (y_not rfl) rfl) ?_
    refine g_nil (g_then (g_cond_t rfl (g_seq (g_ops ?_))))
    refine g_call1 rfl rfl rfl Try.call9 (fun w hS => alive_any w) ?_
    refine g_val rfl rfl rfl (y_assign rfl) ?_
    refine g_nil (g_then (g_ret (g_then_ret ?_)))
    refine g_end1 Try.results6 rfl ?_
    exact fun w hS => ⟨rfl, (hS.sub (List.nil_sublist _)).below⟩
  · skip
    simp only [cmdL, List.cons_append, List.nil_append]
    have hfit := hfit (by simp)
    obtain ⟨hn220, hfits⟩ := hfit
    refine g_val rfl rfl rfl (y_move rfl) ?_
    refine g_val rfl rfl rfl (y_extract rfl rfl) ?_
    refine g_val rfl rfl rfl (y_extract rfl rfl) ?_
    refine g_val rfl rfl rfl (y_assign rfl) ?_
    refine g_val rfl rfl rfl (y_assign rfl) ?_
    refine g_nil (g_then (g_seq (g_seq (g_ops ?_))))
    refine g_val rfl rfl rfl (y_move rfl) ?_
    refine g_val rfl rfl rfl (y_lit false (y_not rfl) rfl) ?_
    refine g_nil (g_then (g_cond_f rfl (g_skip (g_then (g_seq (g_ops ?_))))))
    refine g_buildNil rfl rfl Try.underlying23 Try.sizeOf45 (fun b1 => ?_)
    refine g_val rfl rfl rfl (y_move rfl) ?_
    refine g_rowLen 1 rfl (fun pr1 cr1 hv1 => ?_)
    cases hv1
    refine g_rowOf cmC ([] : List Cm) 0 rfl rfl cmC_len rfl (by decide) ?_
    simp only [List.set_cons_zero]
    refine g_appRow (bytes := 424) cmC (cs := []) (ds := cml (csB bs) n) 0 1 rfl rfl rfl rfl Try.underlying23 (by kernel_rfl) rfl rfl (cml_len _ _) cmC_len cmC_one (by simp only [List.length_nil]; omega) (by simp only [List.length_nil]; have : maxLen = 9223372036854775807 := rfl; omega) (fun v27 => ?_)
    simp only [List.set_cons_zero]
    rw [List.nil_append, cml_len]
    refine g_val rfl rfl rfl (y_assign rfl) ?_
    refine g_nil (g_then (g_seq (g_ops ?_)))
    refine g_val rfl rfl rfl (y_move rfl) ?_
    refine g_rowLen 0 rfl (fun pr2 cr2 hv2 => ?_)
    cases hv2
    refine g_callNew (fun x : {x : CX × Value // compR (csB bs) (n) x.1} => compV x.1) (fun x => [.row 47 43 x.1.2 x.1.1.l.length (x.1.1.l.flatMap inC)]) rfl rfl rfl Try.call10 (fun w hS => compile_any _ (n) _ (csB bs) w (by omega) ((fun i hi => by have := (hfits i hi).1; exact Nat.le_trans this (by decide))) (rd_cm (hS.get (i := 0) rfl))) ?_
    rintro ⟨⟨cx_rp, v_rp⟩, hcx_rp⟩
    simp only [List.cons_append, List.nil_append]
    refine g_val rfl rfl rfl (y_move rfl) ?_
    refine g_val (v := v_rp) rfl rfl rfl (y_extract rfl rfl) ?_
    refine g_val (v := .complex .f64 cx_rp.re cx_rp.im) rfl rfl rfl (y_extract rfl rfl) ?_
    refine g_val (v := .int .i64 cx_rp.er) rfl rfl rfl (y_extract rfl rfl) ?_
    refine g_val rfl rfl rfl (y_assign rfl) ?_
    refine g_val rfl rfl rfl (y_assign rfl) ?_
    refine g_val rfl rfl rfl (y_assign rfl) ?_
    refine g_nil (g_then (g_seq (g_ops ?_)))
    refine g_val rfl rfl rfl (y_move rfl) ?_
    refine g_callNew (fun x : {x : CX × Value // refR (csB bs) n x.1} => compV x.1) (fun x => [.row 47 43 x.1.2 x.1.1.l.length (x.1.1.l.flatMap inC)]) rfl rfl rfl Try.call12 (fun w hS => rcompile_any _ n _ (csB bs) w (by omega) (rd_cm (hS.get (i := 2) rfl))) ?_
    rintro ⟨⟨cx_rq, v_rq⟩, hcx_rq⟩
    simp only [List.cons_append, List.nil_append]
    dsimp only at hcx_rp hcx_rq
    obtain rfl : cx_rq = cx_rp := (comp_ref hcx_rp hcx_rq).symm
    obtain ⟨mm, jj, hmm, hl, hre, him⟩ := ref_two hcx_rq
    clear hcx_rp hcx_rq
    obtain ⟨xl, xre, xim, xer⟩ := cx_rq
    dsimp only at hl hre him ⊢
    subst hl
    simp only [ins_len]
    refine g_val rfl rfl rfl (y_move rfl) ?_
    refine g_val (v := v_rq) rfl rfl rfl (y_extract rfl rfl) ?_
    refine g_val (v := .complex .f64 xre xim) rfl rfl rfl (y_extract rfl rfl) ?_
    refine g_val (v := .int .i64 xer) rfl rfl rfl (y_extract rfl rfl) ?_
    refine g_val rfl rfl rfl (y_assign rfl) ?_
    refine g_val rfl rfl rfl (y_assign rfl) ?_
    refine g_val rfl rfl rfl (y_assign rfl) ?_
    refine g_nil (g_then (g_seq (g_ops ?_)))
    refine g_val rfl rfl rfl (y_move rfl) ?_
    refine g_val rfl rfl rfl (y_move rfl) ?_
    refine g_rowLen 1 rfl (fun pr3 cr3 hv3 => ?_)
    cases hv3
    refine g_rowLen 0 rfl (fun pr4 cr4 hv4 => ?_)
    cases hv4
    refine g_call1 rfl rfl rfl Try.call13 (fun w hS => prog_same _ _ mm _ _ (csB bs) jj w (by omega) (fun k _ => plOk_csB bs k) (rd_ins (hS.get (i := 1) rfl)) (rd_ins (hS.get (i := 0) rfl))) ?_
    refine g_val rfl rfl rfl (y_assign rfl) ?_
    refine g_nil (g_then (g_seq (g_ops ?_)))
    refine g_val rfl rfl rfl (y_move rfl) ?_
    refine g_val rfl rfl rfl (y_move rfl) ?_
    refine g_call1 rfl rfl rfl Try.call14 (fun w hS => all_same _ _ n _ _ (csB bs) w (by omega) (fun k _ => plOk_csB bs k) (rd_cm (hS.get (i := 2) rfl)) (rd_cm (hS.get (i := 3) rfl))) ?_
    refine g_val rfl rfl rfl (y_assign rfl) ?_
    refine g_nil (g_then (g_seq (g_ops ?_)))
    refine g_val rfl rfl rfl (y_move rfl) ?_
    refine g_callNew (fun x : {x : Value × List ByteArray // filesR (csB bs) n x.2} => x.1.1) (fun x => [.row 9 1 x.1.1 x.1.2.length (x.1.2.flatMap sC)]) rfl rfl rfl Try.call15 (fun w hS => files_any _ n _ (csB bs) w (by omega) (fun i hi => by have := hfits i hi; exact ⟨Nat.le_trans this.1 (by decide), Nat.le_trans this.2 (by decide)⟩) (rd_cm (hS.get (i := 2) rfl))) ?_
    rintro ⟨⟨vf, fs⟩, hfs⟩
    dsimp only at hfs
    simp only [List.cons_append, List.nil_append]
    refine g_val rfl rfl rfl (y_assign rfl) ?_
    refine g_nil (g_then (g_seq (g_ops ?_)))
    refine g_val rfl rfl rfl (y_move rfl) ?_
    refine g_callNew (fun x : {x : Value × List ByteArray // filesR (csB bs) n x.2} => x.1.1) (fun x => [.row 9 1 x.1.1 x.1.2.length (x.1.2.flatMap sC)]) rfl rfl rfl Try.call16 (fun w hS => rfiles_any _ n _ (csB bs) w (by omega) (rd_cm (hS.get (i := 4) rfl))) ?_
    rintro ⟨⟨vg, gs⟩, hgs⟩
    dsimp only at hgs
    simp only [List.cons_append, List.nil_append]
    obtain rfl : gs = fs := files_one hgs hfs
    refine g_rowMax 0 rfl (fun hfl => ?_)
    have hmxl : maxLen = 9223372036854775807 := rfl
    refine g_val rfl rfl rfl (y_assign rfl) ?_
    refine g_nil (g_then (g_seq (g_seq (g_ops ?_))))
    refine g_val rfl rfl rfl (y_move rfl) ?_
    refine g_rowLen 1 rfl (fun pr5 cr5 hv5 => ?_)
    cases hv5
    refine g_val rfl rfl rfl (y_llen rfl Try.underlying55) ?_
    refine g_val rfl rfl rfl (y_move rfl) ?_
    refine g_rowLen 0 rfl (fun pr6 cr6 hv6 => ?_)
    cases hv6
    refine g_val rfl rfl rfl (y_llen rfl Try.underlying55) ?_
    refine g_val rfl rfl rfl (y_lit false (y_ine rfl rfl) (decide_eq_false (fun h => h rfl))) ?_
    refine g_val rfl rfl rfl (y_move rfl) ?_
    refine g_val rfl rfl rfl (y_move rfl) ?_
    refine g_call1 rfl rfl rfl Try.call11 (fun w hS => deep_any _ (n) _ (csB bs) w (by omega) (rd_cm (hS.get (i := 4) rfl))) ?_
    refine g_val rfl rfl rfl (y_move rfl) ?_
    refine g_call1 rfl rfl rfl Try.call17 (fun w hS => rdeep_any _ (n) _ (csB bs) w (by omega) (rd_cm (hS.get (i := 5) rfl))) ?_
    refine g_val rfl rfl rfl (y_lit false (y_ine rfl rfl) (decide_eq_false (fun h => h rfl))) ?_
    refine g_val rfl rfl rfl (y_pick_f rfl rfl) ?_
    refine g_nil (g_then (g_cond_f rfl (g_skip (g_then (g_seq (g_seq (g_ops ?_)))))))
    refine g_val rfl rfl rfl (y_assign rfl) ?_
    refine g_nil (g_then (g_block ?_))
    refine g_loop (α := {x : Int // 0 ≤ x ∧ x ≤ gs.length}) (fun x => [(7, .complex .f64 xre xim), (8, .int .i64 xer), (10, .complex .f64 xre xim), (11, .int .i64 xer), (12, .bool true), (13, .bool true), (14, (.slice pr5 (gs.length) cr5)), (15, (.slice pr6 (gs.length) cr6)), (16, .int .i64 x.1)]) (fun x => St w [] [.row 9 1 (.slice pr6 (gs.length) cr6) gs.length (gs.flatMap sC), .row 9 1 (.slice pr5 (gs.length) cr5) gs.length (gs.flatMap sC)]) (fun x => gs.length - x.1.toNat) ⟨0, by omega, by omega⟩ [7, 8, 10, 11, 12, 13, 14, 15, 16] rfl (fun w h => h.sub (.cons_cons _ (.cons_cons _ (.cons _ (.cons _ (.cons _ (.cons _ .slnil))))))) ?_
    rintro ⟨i, hx⟩
    dsimp only
    obtain ⟨hi0, hi1⟩ := hx
    refine g_seq (g_seq (g_ops ?_))
    refine g_val rfl rfl rfl (y_move rfl) ?_
    refine g_val rfl rfl rfl (y_move rfl) ?_
    refine g_val rfl rfl rfl (y_llen rfl Try.underlying55) ?_
    refine g_val rfl rfl rfl (y_ilt rfl rfl) ?_
    refine g_nil (g_then ?_)
    first | refine g_casep 65 rfl (fun h7 => ?_) (fun h7 => ?_) | refine g_caseb 65 rfl (fun h7 => ?_) (fun h7 => ?_)
    · skip
      refine g_cond_t rfl (g_skip (g_then (g_seq (g_block (g_seq ?_)))))
      refine g_rowCase 1 rfl (by omega) (fun gr8 cr8 hv8 => ?_)
      cases hv8
      refine g_rowCase 0 rfl (by omega) (fun gr9 cr9 hv9 => ?_)
      cases hv9
      refine g_quiet (by kernel_rfl) (by kernel_rfl) ?_
      refine q_val rfl rfl rfl (y_move rfl) ?_
      refine q_val rfl rfl rfl (y_move rfl) ?_
      refine q_val rfl rfl rfl (y_idxAddr (m := (i).toNat * 1 + 0) rfl rfl Try.underlying55 Try.sizeOf9 (by omega) (by omega) (by omega)) ?_
      refine q_val rfl rfl rfl (y_ldR (u := .string (gs.getD ((i).toNat) ⟨#[]⟩)) 1 rfl Try.isAgg9 rfl ((fm_get sC 1 sC_len _ (i).toNat 0 _ (getB_get gs ((i).toNat) (by omega)) (by decide)).trans rfl)) ?_
      refine q_val rfl rfl rfl (y_move rfl) ?_
      refine q_val rfl rfl rfl (y_move rfl) ?_
      refine q_val rfl rfl rfl (y_idxAddr (m := (i).toNat * 1 + 0) rfl rfl Try.underlying55 Try.sizeOf9 (by omega) (by omega) (by omega)) ?_
      refine q_val rfl rfl rfl (y_ldR (u := .string (gs.getD ((i).toNat) ⟨#[]⟩)) 0 rfl Try.isAgg9 rfl ((fm_get sC 1 sC_len _ (i).toNat 0 _ (getB_get gs ((i).toNat) (by omega)) (by decide)).trans rfl)) ?_
      refine q_val rfl rfl rfl (y_lit false (y_sne rfl rfl) (decide_eq_false (fun h => h rfl))) ?_
      refine q_nil (g_then (g_cond_f rfl (g_skip (g_in_normal (g_then (g_ops ?_))))))
      refine g_val rfl rfl rfl (y_move rfl) ?_
      refine g_val rfl rfl rfl (by first | exact y_addi rfl rfl (by first | omega | (simp only [size_mk, ByteArray.size_append, ByteArray.size_extract]; omega)) | exact y_iadd rfl rfl) ?_
      refine g_val rfl rfl rfl (y_assign rfl) ?_
      refine g_nil ?_
      exact g_again ⟨i + 1, by omega, by omega⟩ [7, 8, 10, 11, 12, 13, 14, 15, 16] (by dsimp only; omega) rfl (fun w h => h.sub (.cons_cons _ (.cons_cons _ .slnil)))
    · skip
      refine g_cond_f rfl (g_exit (g_then_exit (g_then_exit (g_in_exit (g_then (g_seq (g_ops ?_)))))))
      refine g_call1 rfl rfl rfl Try.call9 (fun w hS => alive_any w) ?_
      refine g_val rfl rfl rfl (y_move rfl) ?_
      refine g_val rfl rfl rfl (y_move rfl) ?_
      refine g_val rfl rfl rfl (y_pick_t rfl rfl) ?_
      refine g_val rfl rfl rfl (y_move rfl) ?_
      refine g_val rfl rfl rfl (y_move rfl) ?_
      refine g_val rfl rfl rfl (y_move rfl) ?_
      refine g_val rfl rfl rfl (y_lit true ((by first | exact y_ceqI rfl rfl (by omega) (by omega) (by omega) (by omega) | exact y_ceq rfl rfl)) (by rw [hre, him]; rfl)) ?_
      refine g_val rfl rfl rfl (y_pick_t rfl rfl) ?_
      refine g_val rfl rfl rfl (y_move rfl) ?_
      refine g_val rfl rfl rfl (y_move rfl) ?_
      refine g_val rfl rfl rfl (y_move rfl) ?_
      refine g_val rfl rfl rfl (y_lit true (y_ieq rfl rfl) (decide_eq_true rfl)) ?_
      refine g_val rfl rfl rfl (y_pick_t rfl rfl) ?_
      refine g_val rfl rfl rfl (y_move rfl) ?_
      refine g_val rfl rfl rfl (y_move rfl) ?_
      refine g_val rfl rfl rfl (y_pick_t rfl rfl) ?_
      refine g_val rfl rfl rfl (y_assign rfl) ?_
      refine g_nil (g_then (g_ret ?_))
      refine g_end1 Try.results6 rfl ?_
      exact fun w hS => ⟨rfl, (hS.sub (List.nil_sublist _)).below⟩

end Go.Proofs.Ytpacnggomjepdaa
