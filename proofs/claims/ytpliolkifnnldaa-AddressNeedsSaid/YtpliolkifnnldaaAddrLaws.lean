/- The laws of addresses: the walks. -/
import Derived.Test.YtpliolkifnnldaaAddr
namespace Go.Proofs.Ytpliolkifnnldaa
open Go Go.RowKit

theorem alive_sel : (selB false 1 2 2 0 false 2 false false false) = (true, true) := by decide
/-- What a range of numbers selects. -/
theorem sel_lines (fr to n : Int) (nt last op : Bool) (hop : op = true ↔ fr < n ∧ n ≤ to) :
    (selB op 1 fr 1 to nt n last false false).1 = (decide (fr ≤ n ∧ (n ≤ to ∨ n = fr)) != nt) ∧ ((selB op 1 fr 1 to nt n last false false).2 = true ↔ fr < n + 1 ∧ n + 1 ≤ to) := by
  unfold selB selC endsB holdsB
  cases nt <;> cases op <;> grind

theorem alive_any  (w : World) :
    Calls Try.prog 8 #[] w fun e w' => e = .returned (.bool true) ∧ Below w.heap.size w w' := by
  refine fn_intro Try.func8 rfl Try.ntmps8 rfl rfl ?_
  refine g_seq (g_ops ?_)
  refine g_val rfl rfl rfl (y_assign rfl) ?_
  refine g_nil (g_then (g_seq (g_ops ?_)))
  refine g_val rfl rfl rfl (y_build (offs := [0, 2, 1]) rfl Try.zeroValue38 (by kernel_rfl)) ?_
  refine g_call1 rfl rfl rfl Try.call9 (fun w hS => command_any _ _ _ _ _ w) ?_
  refine g_alloc rfl rfl Try.zeroValue36 rfl (fun b1 => ?_)
  refine g_stN 0 rfl rfl rfl (by kernel_rfl) rfl rfl rfl rfl ?_
  simp only [List.set_cons_zero]
  refine g_nil (g_then (g_seq (g_ops ?_)))
  refine g_val rfl rfl rfl (y_ldN 0 rfl Try.isAgg36 Try.sizeOf36 rfl rfl rfl) ?_
  refine g_val rfl rfl rfl (y_build (offs := [0]) rfl Try.zeroValue43 (by kernel_rfl)) ?_
  refine g_call1 rfl rfl rfl Try.call10 (fun w hS => selects_any _ _ _ _ _ _ _ _ _ _ w) ?_
  refine g_val rfl rfl rfl (y_move rfl) ?_
  refine g_val rfl rfl rfl (y_extract rfl rfl) ?_
  refine g_val rfl rfl rfl (y_extract rfl rfl) ?_
  refine g_val rfl rfl rfl (y_assign rfl) ?_
  refine g_val rfl rfl rfl (y_assign rfl) ?_
  refine g_nil (g_then (g_seq (g_ops ?_)))
  refine g_val rfl rfl rfl (y_move rfl) ?_
  refine g_val rfl rfl rfl (y_move rfl) ?_
  first | refine g_casep 13 rfl (fun h1 => ?_) (fun h1 => ?_) | refine g_caseb 13 rfl (fun h1 => ?_) (fun h1 => ?_)
  · skip
    refine g_val rfl rfl rfl (y_move rfl) ?_
    refine g_val rfl rfl rfl (y_pick_t rfl rfl) ?_
    refine g_val rfl rfl rfl (y_assign rfl) ?_
    refine g_nil (g_then (g_ret ?_))
    refine g_end1 Try.results8 rfl ?_
    exact fun w hS => ⟨ret_bool (by decide), hS.below⟩
  · skip
    refine g_not rfl rfl rfl ?_
    refine g_val rfl rfl rfl (y_pick_f rfl rfl) ?_
    refine g_val rfl rfl rfl (y_assign rfl) ?_
    refine g_nil (g_then (g_ret ?_))
    refine g_end1 Try.results8 rfl ?_
    exact absurd h1 (by decide)

theorem lines_any (fr to : Int) (nt : Bool) (w : World) :
    Calls Try.prog 3 #[.int .i64 fr, .int .i64 to, .bool nt] w fun e w' => e = .returned (.bool true) ∧ Below w.heap.size w w' := by
  refine fn_intro Try.func3 rfl Try.ntmps3 rfl rfl ?_
  refine g_seq (g_ops ?_)
  refine g_val rfl rfl rfl (y_assign rfl) ?_
  refine g_nil (g_then (g_seq (g_seq (g_ops ?_))))
  refine g_val rfl rfl rfl (y_move rfl) ?_
  refine g_val rfl rfl rfl (y_ilt rfl rfl) ?_
  refine g_val rfl rfl rfl (y_move rfl) ?_
  first | refine g_casep 14 rfl (fun h1 => ?_) (fun h1 => ?_) | refine g_caseb 14 rfl (fun h1 => ?_) (fun h1 => ?_)
  · skip
    refine g_not rfl rfl rfl ?_
    refine g_not rfl rfl rfl ?_
    refine g_val rfl rfl rfl (y_pick_t rfl rfl) ?_
    refine g_val rfl rfl rfl (y_move rfl) ?_
    refine g_not rfl rfl rfl ?_
    refine g_not rfl rfl rfl ?_
    refine g_val rfl rfl rfl (y_pick_t rfl rfl) ?_
    refine g_val rfl rfl rfl (y_move rfl) ?_
    refine g_not rfl rfl rfl ?_
    refine g_not rfl rfl rfl ?_
    refine g_val rfl rfl rfl (y_pick_t rfl rfl) ?_
    refine g_nil (g_then (g_cond_t rfl (g_seq (g_ops ?_))))
    refine g_call1 rfl rfl rfl Try.call8 (fun w hS => alive_any w) ?_
    refine g_val rfl rfl rfl (y_assign rfl) ?_
    refine g_nil (g_then (g_ret (g_then_ret ?_)))
    refine g_end1 Try.results3 rfl ?_
    exact fun w hS => ⟨ret_bool (by simp_all), hS.below⟩
  · skip
    refine g_val rfl rfl rfl (y_move rfl) ?_
    refine g_val rfl rfl rfl (y_igt rfl rfl) ?_
    refine g_val rfl rfl rfl (y_pick_f rfl rfl) ?_
    refine g_val rfl rfl rfl (y_move rfl) ?_
    first | refine g_casep 18 rfl (fun h2 => ?_) (fun h2 => ?_) | refine g_caseb 18 rfl (fun h2 => ?_) (fun h2 => ?_)
    · skip
      refine g_not rfl rfl rfl ?_
      refine g_not rfl rfl rfl ?_
      refine g_val rfl rfl rfl (y_pick_t rfl rfl) ?_
      refine g_val rfl rfl rfl (y_move rfl) ?_
      refine g_not rfl rfl rfl ?_
      refine g_not rfl rfl rfl ?_
      refine g_val rfl rfl rfl (y_pick_t rfl rfl) ?_
      refine g_nil (g_then (g_cond_t rfl (g_seq (g_ops ?_))))
      refine g_call1 rfl rfl rfl Try.call8 (fun w hS => alive_any w) ?_
      refine g_val rfl rfl rfl (y_assign rfl) ?_
      refine g_nil (g_then (g_ret (g_then_ret ?_)))
      refine g_end1 Try.results3 rfl ?_
      exact fun w hS => ⟨ret_bool (by simp_all), hS.below⟩
    · skip
      refine g_val rfl rfl rfl (y_move rfl) ?_
      refine g_val rfl rfl rfl (y_ilt rfl rfl) ?_
      refine g_val rfl rfl rfl (y_pick_f rfl rfl) ?_
      refine g_val rfl rfl rfl (y_move rfl) ?_
      first | refine g_casep 22 rfl (fun h3 => ?_) (fun h3 => ?_) | refine g_caseb 22 rfl (fun h3 => ?_) (fun h3 => ?_)
      · skip
        refine g_not rfl rfl rfl ?_
        refine g_not rfl rfl rfl ?_
        refine g_val rfl rfl rfl (y_pick_t rfl rfl) ?_
        refine g_nil (g_then (g_cond_t rfl (g_seq (g_ops ?_))))
        refine g_call1 rfl rfl rfl Try.call8 (fun w hS => alive_any w) ?_
        refine g_val rfl rfl rfl (y_assign rfl) ?_
        refine g_nil (g_then (g_ret (g_then_ret ?_)))
        refine g_end1 Try.results3 rfl ?_
        exact fun w hS => ⟨ret_bool (by simp_all), hS.below⟩
      · skip
        refine g_val rfl rfl rfl (y_move rfl) ?_
        refine g_val rfl rfl rfl (y_igt rfl rfl) ?_
        refine g_val rfl rfl rfl (y_pick_f rfl rfl) ?_
        refine g_nil (g_then ?_)
        first | refine g_casep 25 rfl (fun h4 => ?_) (fun h4 => ?_) | refine g_caseb 25 rfl (fun h4 => ?_) (fun h4 => ?_)
        · skip
          refine g_cond_t rfl (g_seq (g_ops ?_))
          refine g_call1 rfl rfl rfl Try.call8 (fun w hS => alive_any w) ?_
          refine g_val rfl rfl rfl (y_assign rfl) ?_
          refine g_nil (g_then (g_ret (g_then_ret ?_)))
          refine g_end1 Try.results3 rfl ?_
          exact fun w hS => ⟨ret_bool (by simp_all), hS.below⟩
        · skip
          refine g_cond_f rfl (g_skip (g_then (g_seq (g_ops ?_))))
          refine g_val rfl rfl rfl (y_move rfl) ?_
          refine g_val rfl rfl rfl (y_move rfl) ?_
          refine g_val rfl rfl rfl (y_move rfl) ?_
          refine g_val rfl rfl rfl (y_build (offs := [0, 2, 1, 3, 4]) rfl Try.zeroValue38 (by kernel_rfl)) ?_
          refine g_call1 rfl rfl rfl Try.call9 (fun w hS => command_any _ _ _ _ _ w) ?_
          refine g_alloc rfl rfl Try.zeroValue36 rfl (fun b1 => ?_)
          refine g_stN 0 rfl rfl rfl (by kernel_rfl) rfl rfl rfl rfl ?_
          simp only [List.set_cons_zero]
          refine g_nil (g_then (g_seq (g_ops ?_)))
          refine g_val rfl rfl rfl (y_assign rfl) ?_
          refine g_nil (g_then (g_seq (g_seq (g_ops ?_))))
          refine g_val rfl rfl rfl (y_assign rfl) ?_
          refine g_nil (g_then (g_block ?_))
          refine g_loop (α := {x : Int × Bool // 1 ≤ x.1 ∧ x.1 ≤ 61 ∧ (x.2 = true ↔ fr < x.1 ∧ x.1 ≤ to)}) (fun x => [(0, .int .i64 fr), (1, .int .i64 to), (2, .bool nt), (7, .pointer (some ⟨b1, 0, none⟩)), (8, .bool x.1.2), (9, .int .i64 x.1.1)]) (fun x => St w [] [.cells b1 36 (cmdC 1 fr 1 to nt).toList]) (fun x => (61 - x.1.1).toNat) ⟨(1, false), by omega, by omega, by simp; omega⟩ [0, 1, 2, 7, 8, 9] rfl (fun w h => h.sub (.cons_cons _ .slnil)) ?_
          rintro ⟨⟨n, op⟩, hx⟩
          dsimp only
          dsimp only at hx
          obtain ⟨hn1, hn2, hop⟩ := hx
          refine g_seq (g_seq (g_ops ?_))
          refine g_val rfl rfl rfl (y_move rfl) ?_
          refine g_val rfl rfl rfl (y_ile rfl rfl) ?_
          refine g_nil (g_then ?_)
          first | refine g_casep 33 rfl (fun h5 => ?_) (fun h5 => ?_) | refine g_caseb 33 rfl (fun h5 => ?_) (fun h5 => ?_)
          · skip
            refine g_cond_t rfl (g_skip (g_then (g_seq (g_block (g_seq (g_ops ?_))))))
            refine g_val rfl rfl rfl (y_assign rfl) ?_
            refine g_nil (g_then (g_seq (g_ops ?_)))
            refine g_val rfl rfl rfl (y_ldN 0 rfl Try.isAgg36 Try.sizeOf36 rfl rfl rfl) ?_
            refine g_val rfl rfl rfl (y_move rfl) ?_
            refine g_val rfl rfl rfl (y_move rfl) ?_
            refine g_val rfl rfl rfl (y_move rfl) ?_
            refine g_val rfl rfl rfl (y_ieq rfl rfl) ?_
            refine g_val rfl rfl rfl (y_build (offs := [0, 1]) rfl Try.zeroValue43 (by kernel_rfl)) ?_
            refine g_call1 rfl rfl rfl Try.call10 (fun w hS => selects_any _ _ _ _ _ _ _ _ _ _ w) ?_
            refine g_val rfl rfl rfl (y_move rfl) ?_
            refine g_val rfl rfl rfl (y_extract rfl rfl) ?_
            refine g_val rfl rfl rfl (y_extract rfl rfl) ?_
            refine g_val rfl rfl rfl (y_assign rfl) ?_
            refine g_val rfl rfl rfl (y_assign rfl) ?_
            refine g_nil (g_then (g_seq (g_ops ?_)))
            refine g_val rfl rfl rfl (y_move rfl) ?_
            refine g_val rfl rfl rfl (y_move rfl) ?_
            refine g_val rfl rfl rfl (y_ige rfl rfl) ?_
            refine g_val rfl rfl rfl (y_move rfl) ?_
            first | refine g_casep 49 rfl (fun h6 => ?_) (fun h6 => ?_) | refine g_caseb 49 rfl (fun h6 => ?_) (fun h6 => ?_)
            · skip
              refine g_val rfl rfl rfl (y_move rfl) ?_
              refine g_val rfl rfl rfl (y_move rfl) ?_
              refine g_val rfl rfl rfl (y_ile rfl rfl) ?_
              refine g_val rfl rfl rfl (y_move rfl) ?_
              first | refine g_casep 53 rfl (fun h7 => ?_) (fun h7 => ?_) | refine g_caseb 53 rfl (fun h7 => ?_) (fun h7 => ?_)
              · skip
                refine g_not rfl rfl rfl ?_
                refine g_not rfl rfl rfl ?_
                refine g_not rfl rfl rfl ?_
                refine g_val rfl rfl rfl (y_pick_t rfl rfl) ?_
                refine g_val rfl rfl rfl (y_pick_t rfl rfl) ?_
                refine g_val rfl rfl rfl (y_assign rfl) ?_
                refine g_nil (g_then (g_seq (g_ops ?_)))
                refine g_val rfl rfl rfl (y_move rfl) ?_
                refine g_val rfl rfl rfl (y_move rfl) ?_
                refine g_val rfl rfl rfl (y_move rfl) ?_
                refine g_val rfl rfl rfl (y_bne rfl rfl (by kernel_rfl)) ?_
                refine g_val rfl rfl rfl (y_bne rfl rfl (by kernel_rfl)) ?_
                refine g_nil (g_then ?_)
                first | refine g_casep 63 rfl (fun h8 => ?_) (fun h8 => ?_) | refine g_caseb 63 rfl (fun h8 => ?_) (fun h8 => ?_)
                · skip
                  refine g_cond_t rfl (g_seq (g_ops ?_))
                  refine g_val rfl rfl rfl (y_assign rfl) ?_
                  refine g_nil (g_then (g_ret (g_in_ret (g_then_ret (g_then_ret (g_in_ret (g_then_ret ?_)))))))
                  refine g_end1 Try.results3 rfl ?_
                  exfalso
                  have q := (sel_lines fr to n nt (decide (n = 60)) op hop).1
                  grind
                · skip
                  refine g_cond_f rfl (g_skip (g_in_normal (g_then (g_ops ?_))))
                  refine g_val rfl rfl rfl (y_move rfl) ?_
                  refine g_val rfl rfl rfl ((by first | exact y_addi rfl rfl (by omega) | exact y_iadd rfl rfl)) ?_
                  refine g_val rfl rfl rfl (y_assign rfl) ?_
                  refine g_nil ?_
                  exact g_again ⟨(n + 1, _), by omega, by omega, (sel_lines fr to n nt (decide (n = 60)) op hop).2⟩ [0, 1, 2, 7, 8, 9] (by dsimp only; omega) rfl (fun w h => h.sub (.cons_cons _ .slnil))
              · skip
                refine g_val rfl rfl rfl (y_move rfl) ?_
                refine g_val rfl rfl rfl (y_move rfl) ?_
                refine g_val rfl rfl rfl (y_ieq rfl rfl) ?_
                refine g_val rfl rfl rfl (y_pick_f rfl rfl) ?_
                refine g_val rfl rfl rfl (y_pick_t rfl rfl) ?_
                refine g_val rfl rfl rfl (y_assign rfl) ?_
                refine g_nil (g_then (g_seq (g_ops ?_)))
                refine g_val rfl rfl rfl (y_move rfl) ?_
                refine g_val rfl rfl rfl (y_move rfl) ?_
                refine g_val rfl rfl rfl (y_move rfl) ?_
                refine g_val rfl rfl rfl (y_bne rfl rfl (by kernel_rfl)) ?_
                refine g_val rfl rfl rfl (y_bne rfl rfl (by kernel_rfl)) ?_
                refine g_nil (g_then ?_)
                first | refine g_casep 63 rfl (fun h9 => ?_) (fun h9 => ?_) | refine g_caseb 63 rfl (fun h9 => ?_) (fun h9 => ?_)
                · skip
                  refine g_cond_t rfl (g_seq (g_ops ?_))
                  refine g_val rfl rfl rfl (y_assign rfl) ?_
                  refine g_nil (g_then (g_ret (g_in_ret (g_then_ret (g_then_ret (g_in_ret (g_then_ret ?_)))))))
                  refine g_end1 Try.results3 rfl ?_
                  exfalso
                  have q := (sel_lines fr to n nt (decide (n = 60)) op hop).1
                  grind
                · skip
                  refine g_cond_f rfl (g_skip (g_in_normal (g_then (g_ops ?_))))
                  refine g_val rfl rfl rfl (y_move rfl) ?_
                  refine g_val rfl rfl rfl ((by first | exact y_addi rfl rfl (by omega) | exact y_iadd rfl rfl)) ?_
                  refine g_val rfl rfl rfl (y_assign rfl) ?_
                  refine g_nil ?_
                  exact g_again ⟨(n + 1, _), by omega, by omega, (sel_lines fr to n nt (decide (n = 60)) op hop).2⟩ [0, 1, 2, 7, 8, 9] (by dsimp only; omega) rfl (fun w h => h.sub (.cons_cons _ .slnil))
            · skip
              refine g_not rfl rfl rfl ?_
              refine g_not rfl rfl rfl ?_
              refine g_not rfl rfl rfl ?_
              refine g_not rfl rfl rfl ?_
              refine g_not rfl rfl rfl ?_
              refine g_not rfl rfl rfl ?_
              refine g_not rfl rfl rfl ?_
              refine g_not rfl rfl rfl ?_
              refine g_val rfl rfl rfl (y_pick_f rfl rfl) ?_
              refine g_val rfl rfl rfl (y_assign rfl) ?_
              refine g_nil (g_then (g_seq (g_ops ?_)))
              refine g_val rfl rfl rfl (y_move rfl) ?_
              refine g_val rfl rfl rfl (y_move rfl) ?_
              refine g_val rfl rfl rfl (y_move rfl) ?_
              refine g_val rfl rfl rfl (y_bne rfl rfl (by kernel_rfl)) ?_
              refine g_val rfl rfl rfl (y_bne rfl rfl (by kernel_rfl)) ?_
              refine g_nil (g_then ?_)
              first | refine g_casep 63 rfl (fun h10 => ?_) (fun h10 => ?_) | refine g_caseb 63 rfl (fun h10 => ?_) (fun h10 => ?_)
              · skip
                refine g_cond_t rfl (g_seq (g_ops ?_))
                refine g_val rfl rfl rfl (y_assign rfl) ?_
                refine g_nil (g_then (g_ret (g_in_ret (g_then_ret (g_then_ret (g_in_ret (g_then_ret ?_)))))))
                refine g_end1 Try.results3 rfl ?_
                exfalso
                have q := (sel_lines fr to n nt (decide (n = 60)) op hop).1
                grind
              · skip
                refine g_cond_f rfl (g_skip (g_in_normal (g_then (g_ops ?_))))
                refine g_val rfl rfl rfl (y_move rfl) ?_
                refine g_val rfl rfl rfl ((by first | exact y_addi rfl rfl (by omega) | exact y_iadd rfl rfl)) ?_
                refine g_val rfl rfl rfl (y_assign rfl) ?_
                refine g_nil ?_
                exact g_again ⟨(n + 1, _), by omega, by omega, (sel_lines fr to n nt (decide (n = 60)) op hop).2⟩ [0, 1, 2, 7, 8, 9] (by dsimp only; omega) rfl (fun w h => h.sub (.cons_cons _ .slnil))
          · skip
            refine g_cond_f rfl (g_exit (g_then_exit (g_then_exit (g_in_exit (g_then (g_seq (g_ops ?_)))))))
            refine g_call1 rfl rfl rfl Try.call8 (fun w hS => alive_any w) ?_
            refine g_val rfl rfl rfl (y_assign rfl) ?_
            refine g_nil (g_then (g_ret ?_))
            refine g_end1 Try.results3 rfl ?_
            exact fun w hS => ⟨ret_bool (by simp_all), hS.below⟩

theorem opens_pure : ∀ t0 op h1 h2 e nt : Bool, (selC t0 op h1 h2 e nt).1 ≠ (selC t0 op h1 h2 e (!nt)).1 ∧ (selC t0 op h1 h2 e nt).2 = (selC t0 op h1 h2 e (!nt)).2 ∧ (t0 = true → (selC t0 op h1 h2 e nt).2 = false) ∧
    (t0 = false → (op = true → (selC t0 op h1 h2 e nt).1 ≠ nt) ∧ ((selC t0 op h1 h2 e nt).2 = true → (selC t0 op h1 h2 e nt).1 ≠ nt)) := by decide
theorem opens_law (op : Bool) (fk fl tk tl : Int) (nt : Bool) (num : Int) (last first second : Bool) : (selB op fk fl tk tl nt num last first second).1 ≠ (selB op fk fl tk tl (!nt) num last first second).1 ∧
    (selB op fk fl tk tl nt num last first second).2 = (selB op fk fl tk tl (!nt) num last first second).2 ∧ (tk = 0 → (selB op fk fl tk tl nt num last first second).2 = false) ∧
    (¬ tk = 0 → (op = true → (selB op fk fl tk tl nt num last first second).1 ≠ nt) ∧ ((selB op fk fl tk tl nt num last first second).2 = true → (selB op fk fl tk tl nt num last first second).1 ≠ nt)) := by
  have q := opens_pure (decide (tk = 0)) op (holdsB num last first fk fl) (holdsB num last second tk tl) (endsB num last tk tl) nt
  refine ⟨q.1, q.2.1, fun h => q.2.2.1 (by simpa using h), fun h => q.2.2.2 (by simpa using h)⟩
/-- What is not needed does not matter. -/
theorem needs_law (op : Bool) (fk fl tk tl : Int) (nt : Bool) (num : Int) (last first second f' s' : Bool) (h1 : (needB op fk tk).1 = true → f' = first) (h2 : (needB op fk tk).2 = true → s' = second) :
    selB op fk fl tk tl nt num last first second = selB op fk fl tk tl nt num last f' s' := by
  have e1 : ∀ k l : Int, patB k = false → ∀ m m' : Bool, holdsB num last m k l = holdsB num last m' k l := by
    intro k l hk m m'
    simp [patB] at hk
    simp [holdsB, hk.1, hk.2]
  unfold selB
  cases hf : patB fk <;> cases ht : patB tk <;> simp [needB, hf, ht] at h1 h2
  · rw [e1 fk fl hf first f', e1 tk tl ht second s']
  · rw [e1 fk fl hf first f']
    cases op
    · simp [selC]
    · rw [h2 rfl]
  · rw [e1 tk tl ht second s']
    cases op
    · rw [h1 (by simp)]
    · by_cases h0 : tk = 0
      · rw [h1 (by simp [h0])]
      · simp [selC, h0]
  · cases op
    · rw [h1 (by simp)]; simp [selC]
    · rw [h2 rfl]
      by_cases h0 : tk = 0
      · rw [h1 (by simp [h0])]
      · simp [selC, h0]

theorem opens_any (fk tk fl tl : Int) (nt op : Bool) (num : Int) (last first second : Bool) (w : World) :
    Calls Try.prog 4 #[.agg #[.int .i64 fk, .int .i64 tk, .int .i64 fl, .int .i64 tl, .bool nt], .bool op, .agg #[.int .i64 num, .bool last, .bool first, .bool second]] w fun e w' => e = .returned (.bool true) ∧ Below w.heap.size w w' := by
  refine fn_intro Try.func4 rfl Try.ntmps4 rfl rfl ?_
  refine g_seq (g_ops ?_)
  refine g_box rfl rfl rfl rfl (fun b1 => ?_)
  refine g_box rfl rfl rfl rfl (fun b2 => ?_)
  refine g_val rfl rfl rfl (y_assign rfl) ?_
  refine g_nil (g_then (g_seq (g_ops ?_)))
  refine g_val rfl rfl rfl (y_ldN 1 rfl Try.isAgg38 Try.sizeOf38 rfl rfl rfl) ?_
  refine g_call1 rfl rfl rfl Try.call9 (fun w hS => command_any _ _ _ _ _ w) ?_
  refine g_alloc rfl rfl Try.zeroValue36 rfl (fun b3 => ?_)
  refine g_stN 0 rfl rfl rfl (by kernel_rfl) rfl rfl rfl rfl ?_
  simp only [List.set_cons_zero]
  refine g_nil (g_then (g_seq (g_ops ?_)))
  refine g_val rfl rfl rfl (y_ldN 2 rfl Try.isAgg38 Try.sizeOf38 rfl rfl rfl) ?_
  refine g_alloc rfl rfl Try.zeroValue38 rfl (fun b4 => ?_)
  refine g_stN 0 rfl rfl rfl (by kernel_rfl) rfl rfl rfl rfl ?_
  simp only [List.set_cons_zero]
  refine g_nil (g_then (g_seq (g_ops ?_)))
  refine g_val rfl rfl rfl (y_fieldAddr (k := 4) (m := 4) rfl (by kernel_rfl) rfl) ?_
  refine g_val rfl rfl rfl (y_ld 3 rfl Try.isAgg4 rfl rfl) ?_
  refine g_val rfl rfl rfl ((by first | exact y_notp rfl | exact y_not rfl)) ?_
  refine g_val rfl rfl rfl (y_fieldAddr (k := 4) (m := 4) rfl (by kernel_rfl) rfl) ?_
  refine g_st 0 rfl rfl rfl Try.sizeOf4 rfl rfl rfl ?_
  simp only [List.set_cons_zero]
  refine g_nil (g_then (g_seq (g_ops ?_)))
  refine g_val rfl rfl rfl (y_ldN 1 rfl Try.isAgg36 Try.sizeOf36 rfl rfl rfl) ?_
  refine g_val rfl rfl rfl (y_move rfl) ?_
  refine g_val rfl rfl rfl (y_ldN 2 rfl Try.isAgg43 Try.sizeOf43 rfl rfl rfl) ?_
  refine g_call1 rfl rfl rfl Try.call10 (fun w hS => selects_any _ _ _ _ _ _ _ _ _ _ w) ?_
  refine g_val rfl rfl rfl (y_move rfl) ?_
  refine g_val rfl rfl rfl (y_extract rfl rfl) ?_
  refine g_val rfl rfl rfl (y_extract rfl rfl) ?_
  refine g_val rfl rfl rfl (y_assign rfl) ?_
  refine g_val rfl rfl rfl (y_assign rfl) ?_
  refine g_nil (g_then (g_seq ?_))
  refine g_quiet (by kernel_rfl) (by kernel_rfl) ?_
  refine q_val rfl rfl rfl (y_ldN 0 rfl Try.isAgg38 Try.sizeOf38 rfl rfl rfl) ?_
  refine q_call1 rfl rfl rfl Try.call9 (fun w hS => command_any _ _ _ _ _ w) ?_
  refine q_val rfl rfl rfl (y_move rfl) ?_
  refine q_val rfl rfl rfl (y_ldN 2 rfl Try.isAgg43 Try.sizeOf43 rfl rfl rfl) ?_
  refine q_call1 rfl rfl rfl Try.call10 (fun w hS => selects_any _ _ _ _ _ _ _ _ _ _ w) ?_
  refine q_val rfl rfl rfl (y_move rfl) ?_
  refine q_val rfl rfl rfl (y_extract rfl rfl) ?_
  refine q_val rfl rfl rfl (y_extract rfl rfl) ?_
  refine q_val rfl rfl rfl (y_assign rfl) ?_
  refine q_val rfl rfl rfl (y_assign rfl) ?_
  refine q_nil (g_then (g_seq (g_seq (g_ops ?_))))
  refine g_val rfl rfl rfl (y_move rfl) ?_
  refine g_val rfl rfl rfl (y_move rfl) ?_
  refine g_val rfl rfl rfl (y_beq rfl rfl (by kernel_rfl)) ?_
  refine g_val rfl rfl rfl (y_move rfl) ?_
  first | refine g_casep 39 rfl (fun h1 => ?_) (fun h1 => ?_) | refine g_caseb 39 rfl (fun h1 => ?_) (fun h1 => ?_)
  · skip
    refine g_not rfl rfl rfl ?_
    refine g_not rfl rfl rfl ?_
    refine g_not rfl rfl rfl ?_
    refine g_val rfl rfl rfl (y_pick_t rfl rfl) ?_
    refine g_nil (g_then (g_cond_t rfl (g_seq (g_ops ?_))))
    refine g_val rfl rfl rfl (y_assign rfl) ?_
    refine g_nil (g_then (g_ret (g_then_ret ?_)))
    refine g_end1 Try.results4 rfl ?_
    exfalso
    have q := opens_law op fk fl tk tl nt num last first second
    simp_all
  · skip
    refine g_val rfl rfl rfl (y_move rfl) ?_
    refine g_val rfl rfl rfl (y_move rfl) ?_
    refine g_val rfl rfl rfl (y_bne rfl rfl (by kernel_rfl)) ?_
    refine g_val rfl rfl rfl (y_pick_f rfl rfl) ?_
    refine g_nil (g_then ?_)
    first | refine g_casep 43 rfl (fun h2 => ?_) (fun h2 => ?_) | refine g_caseb 43 rfl (fun h2 => ?_) (fun h2 => ?_)
    · skip
      refine g_cond_t rfl (g_seq (g_ops ?_))
      refine g_val rfl rfl rfl (y_assign rfl) ?_
      refine g_nil (g_then (g_ret (g_then_ret ?_)))
      refine g_end1 Try.results4 rfl ?_
      exfalso
      have q := opens_law op fk fl tk tl nt num last first second
      simp_all
    · skip
      refine g_cond_f rfl (g_skip (g_then (g_seq (g_ops ?_))))
      refine g_val rfl rfl rfl (y_move rfl) ?_
      refine g_val rfl rfl rfl (y_fieldAddr (k := 4) (m := 4) rfl (by kernel_rfl) rfl) ?_
      refine g_val rfl rfl rfl (y_ld 3 rfl Try.isAgg4 rfl rfl) ?_
      refine g_val rfl rfl rfl (y_bne rfl rfl (by kernel_rfl)) ?_
      refine g_val rfl rfl rfl (y_assign rfl) ?_
      refine g_nil (g_then (g_seq (g_seq (g_ops ?_))))
      refine g_val rfl rfl rfl (y_fieldAddr (k := 1) (m := 1) rfl (by kernel_rfl) rfl) ?_
      refine g_val rfl rfl rfl (y_ld 3 rfl Try.isAgg24 rfl rfl) ?_
      refine g_val rfl rfl rfl (y_ieq rfl rfl) ?_
      refine g_nil (g_then ?_)
      first | refine g_casep 50 rfl (fun h3 => ?_) (fun h3 => ?_) | refine g_caseb 50 rfl (fun h3 => ?_) (fun h3 => ?_)
      · skip
        refine g_cond_t rfl (g_seq (g_ops ?_))
        refine g_call1 rfl rfl rfl Try.call8 (fun w hS => alive_any w) ?_
        refine g_val rfl rfl rfl (y_move rfl) ?_
        first | refine g_casep 52 rfl (fun h4 => ?_) (fun h4 => ?_) | refine g_caseb 52 rfl (fun h4 => ?_) (fun h4 => ?_)
        · skip
          refine g_val rfl rfl rfl (y_move rfl) ?_
          refine g_val rfl rfl rfl ((by first | exact y_notp rfl | exact y_not rfl)) ?_
          refine g_val rfl rfl rfl (y_pick_t rfl rfl) ?_
          refine g_val rfl rfl rfl (y_assign rfl) ?_
          refine g_nil (g_then (g_ret (g_then_ret ?_)))
          refine g_end1 Try.results4 rfl ?_
          have q := opens_law op fk fl tk tl nt num last first second
          exact fun w hS => ⟨ret_bool (by simp_all), hS.below⟩
        · skip
          refine g_not rfl rfl rfl ?_
          refine g_not rfl rfl rfl ?_
          refine g_val rfl rfl rfl (y_pick_f rfl rfl) ?_
          refine g_val rfl rfl rfl (y_assign rfl) ?_
          refine g_nil (g_then (g_ret (g_then_ret ?_)))
          refine g_end1 Try.results4 rfl ?_
          exfalso
          have q := opens_law op fk fl tk tl nt num last first second
          simp_all
      · skip
        refine g_cond_f rfl (g_skip (g_then (g_seq (g_ops ?_))))
        refine g_call1 rfl rfl rfl Try.call8 (fun w hS => alive_any w) ?_
        refine g_val rfl rfl rfl (y_move rfl) ?_
        first | refine g_casep 57 rfl (fun h5 => ?_) (fun h5 => ?_) | refine g_caseb 57 rfl (fun h5 => ?_) (fun h5 => ?_)
        · skip
          refine g_val rfl rfl rfl (y_move rfl) ?_
          refine g_val rfl rfl rfl ((by first | exact y_notp rfl | exact y_not rfl)) ?_
          refine g_val rfl rfl rfl (y_move rfl) ?_
          first | refine g_casep 60 rfl (fun h6 => ?_) (fun h6 => ?_) | refine g_caseb 60 rfl (fun h6 => ?_) (fun h6 => ?_)
          · skip
            refine g_not rfl rfl rfl ?_
            refine g_val rfl rfl rfl (y_pick_t rfl rfl) ?_
            refine g_val rfl rfl rfl (y_pick_t rfl rfl) ?_
            refine g_val rfl rfl rfl (y_move rfl) ?_
            refine g_val rfl rfl rfl (y_move rfl) ?_
            refine g_val rfl rfl rfl ((by first | exact y_notp rfl | exact y_not rfl)) ?_
            refine g_val rfl rfl rfl (y_move rfl) ?_
            first | refine g_casep 67 rfl (fun h7 => ?_) (fun h7 => ?_) | refine g_caseb 67 rfl (fun h7 => ?_) (fun h7 => ?_)
            · skip
              refine g_not rfl rfl rfl ?_
              refine g_val rfl rfl rfl (y_pick_t rfl rfl) ?_
              refine g_val rfl rfl rfl (y_pick_t rfl rfl) ?_
              refine g_val rfl rfl rfl (y_assign rfl) ?_
              refine g_nil (g_then (g_ret ?_))
              refine g_end1 Try.results4 rfl ?_
              exact fun w hS => ⟨rfl, hS.below⟩
            · skip
              refine g_val rfl rfl rfl (y_move rfl) ?_
              refine g_val rfl rfl rfl (y_pick_f rfl rfl) ?_
              refine g_val rfl rfl rfl (y_pick_t rfl rfl) ?_
              refine g_val rfl rfl rfl (y_assign rfl) ?_
              refine g_nil (g_then (g_ret ?_))
              refine g_end1 Try.results4 rfl ?_
              have q := opens_law op fk fl tk tl nt num last first second
              exact fun w hS => ⟨ret_bool (by simp_all), hS.below⟩
          · skip
            refine g_val rfl rfl rfl (y_move rfl) ?_
            refine g_val rfl rfl rfl (y_pick_f rfl rfl) ?_
            refine g_val rfl rfl rfl (y_pick_t rfl rfl) ?_
            refine g_val rfl rfl rfl (y_move rfl) ?_
            first | refine g_casep 64 rfl (fun h8 => ?_) (fun h8 => ?_) | refine g_caseb 64 rfl (fun h8 => ?_) (fun h8 => ?_)
            · skip
              refine g_val rfl rfl rfl (y_move rfl) ?_
              refine g_val rfl rfl rfl ((by first | exact y_notp rfl | exact y_not rfl)) ?_
              refine g_val rfl rfl rfl (y_move rfl) ?_
              first | refine g_casep 67 rfl (fun h9 => ?_) (fun h9 => ?_) | refine g_caseb 67 rfl (fun h9 => ?_) (fun h9 => ?_)
              · skip
                refine g_not rfl rfl rfl ?_
                refine g_val rfl rfl rfl (y_pick_t rfl rfl) ?_
                refine g_val rfl rfl rfl (y_pick_t rfl rfl) ?_
                refine g_val rfl rfl rfl (y_assign rfl) ?_
                refine g_nil (g_then (g_ret ?_))
                refine g_end1 Try.results4 rfl ?_
                exact fun w hS => ⟨rfl, hS.below⟩
              · skip
                refine g_val rfl rfl rfl (y_move rfl) ?_
                refine g_val rfl rfl rfl (y_pick_f rfl rfl) ?_
                refine g_val rfl rfl rfl (y_pick_t rfl rfl) ?_
                refine g_val rfl rfl rfl (y_assign rfl) ?_
                refine g_nil (g_then (g_ret ?_))
                refine g_end1 Try.results4 rfl ?_
                have q := opens_law op fk fl tk tl nt num last first second
                exact fun w hS => ⟨ret_bool (by simp_all), hS.below⟩
            · skip
              refine g_not rfl rfl rfl ?_
              refine g_not rfl rfl rfl ?_
              refine g_not rfl rfl rfl ?_
              refine g_not rfl rfl rfl ?_
              refine g_not rfl rfl rfl ?_
              refine g_val rfl rfl rfl (y_pick_f rfl rfl) ?_
              refine g_val rfl rfl rfl (y_assign rfl) ?_
              refine g_nil (g_then (g_ret ?_))
              refine g_end1 Try.results4 rfl ?_
              exfalso
              have q := opens_law op fk fl tk tl nt num last first second
              simp_all
        · skip
          refine g_not rfl rfl rfl ?_
          refine g_not rfl rfl rfl ?_
          refine g_not rfl rfl rfl ?_
          refine g_not rfl rfl rfl ?_
          refine g_not rfl rfl rfl ?_
          refine g_val rfl rfl rfl (y_pick_f rfl rfl) ?_
          refine g_val rfl rfl rfl (y_move rfl) ?_
          refine g_not rfl rfl rfl ?_
          refine g_not rfl rfl rfl ?_
          refine g_not rfl rfl rfl ?_
          refine g_not rfl rfl rfl ?_
          refine g_not rfl rfl rfl ?_
          refine g_val rfl rfl rfl (y_pick_f rfl rfl) ?_
          refine g_val rfl rfl rfl (y_assign rfl) ?_
          refine g_nil (g_then (g_ret ?_))
          refine g_end1 Try.results4 rfl ?_
          exfalso
          have q := opens_law op fk fl tk tl nt num last first second
          simp_all

theorem needsLaw_any (fk tk fl tl : Int) (nt op : Bool) (num : Int) (last first second : Bool) (w : World) :
    Calls Try.prog 7 #[.agg #[.int .i64 fk, .int .i64 tk, .int .i64 fl, .int .i64 tl, .bool nt], .bool op, .agg #[.int .i64 num, .bool last, .bool first, .bool second]] w fun e w' => e = .returned (.bool true) ∧ Below w.heap.size w w' := by
  refine fn_intro Try.func7 rfl Try.ntmps7 rfl rfl ?_
  refine g_seq (g_ops ?_)
  refine g_box rfl rfl rfl rfl (fun b1 => ?_)
  refine g_box rfl rfl rfl rfl (fun b2 => ?_)
  refine g_val rfl rfl rfl (y_assign rfl) ?_
  refine g_nil (g_then (g_seq (g_ops ?_)))
  refine g_val rfl rfl rfl (y_ldN 1 rfl Try.isAgg38 Try.sizeOf38 rfl rfl rfl) ?_
  refine g_call1 rfl rfl rfl Try.call9 (fun w hS => command_any _ _ _ _ _ w) ?_
  refine g_alloc rfl rfl Try.zeroValue36 rfl (fun b3 => ?_)
  refine g_stN 0 rfl rfl rfl (by kernel_rfl) rfl rfl rfl rfl ?_
  simp only [List.set_cons_zero]
  refine g_nil (g_then (g_seq (g_ops ?_)))
  refine g_val rfl rfl rfl (y_ldN 0 rfl Try.isAgg36 Try.sizeOf36 rfl rfl rfl) ?_
  refine g_val rfl rfl rfl (y_move rfl) ?_
  refine g_call1 rfl rfl rfl Try.call11 (fun w hS => needs_any _ _ _ _ _ _ w) ?_
  refine g_val rfl rfl rfl (y_move rfl) ?_
  refine g_val rfl rfl rfl (y_extract rfl rfl) ?_
  refine g_val rfl rfl rfl (y_extract rfl rfl) ?_
  refine g_val rfl rfl rfl (y_assign rfl) ?_
  refine g_val rfl rfl rfl (y_assign rfl) ?_
  refine g_nil (g_then (g_seq (g_ops ?_)))
  refine g_val rfl rfl rfl (y_ldN 1 rfl Try.isAgg43 Try.sizeOf43 rfl rfl rfl) ?_
  refine g_alloc rfl rfl Try.zeroValue43 rfl (fun b4 => ?_)
  refine g_stN 0 rfl rfl rfl (by kernel_rfl) rfl rfl rfl rfl ?_
  simp only [List.set_cons_zero]
  refine g_nil (g_then (g_seq (g_seq (g_ops ?_))))
  refine g_val rfl rfl rfl (y_move rfl) ?_
  refine g_val rfl rfl rfl ((by first | exact y_notp rfl | exact y_not rfl)) ?_
  refine g_nil (g_then ?_)
  first | refine g_casep 25 rfl (fun h1 => ?_) (fun h1 => ?_) | refine g_caseb 25 rfl (fun h1 => ?_) (fun h1 => ?_)
  · skip
    refine g_cond_t rfl (g_ops ?_)
    refine g_val rfl rfl rfl (y_fieldAddr (k := 2) (m := 2) rfl (by kernel_rfl) rfl) ?_
    refine g_val rfl rfl rfl (y_ld 0 rfl Try.isAgg4 rfl rfl) ?_
    refine g_val rfl rfl rfl ((by first | exact y_notp rfl | exact y_not rfl)) ?_
    refine g_val rfl rfl rfl (y_fieldAddr (k := 2) (m := 2) rfl (by kernel_rfl) rfl) ?_
    refine g_st 0 rfl rfl rfl Try.sizeOf4 rfl rfl rfl ?_
    simp only [List.set_cons_zero]
    refine g_nil (g_then (g_seq (g_seq (g_ops ?_))))
    refine g_val rfl rfl rfl (y_move rfl) ?_
    refine g_val rfl rfl rfl ((by first | exact y_notp rfl | exact y_not rfl)) ?_
    refine g_nil (g_then ?_)
    first | refine g_casep 31 rfl (fun h2 => ?_) (fun h2 => ?_) | refine g_caseb 31 rfl (fun h2 => ?_) (fun h2 => ?_)
    · skip
      refine g_cond_t rfl (g_ops ?_)
      refine g_val rfl rfl rfl (y_fieldAddr (k := 3) (m := 3) rfl (by kernel_rfl) rfl) ?_
      refine g_val rfl rfl rfl (y_ld 0 rfl Try.isAgg4 rfl rfl) ?_
      refine g_val rfl rfl rfl ((by first | exact y_notp rfl | exact y_not rfl)) ?_
      refine g_val rfl rfl rfl (y_fieldAddr (k := 3) (m := 3) rfl (by kernel_rfl) rfl) ?_
      refine g_st 0 rfl rfl rfl Try.sizeOf4 rfl rfl rfl ?_
      simp only [List.set_cons_zero]
      refine g_nil (g_then (g_seq (g_ops ?_)))
      refine g_val rfl rfl rfl (y_ldN 1 rfl Try.isAgg36 Try.sizeOf36 rfl rfl rfl) ?_
      refine g_val rfl rfl rfl (y_move rfl) ?_
      refine g_val rfl rfl rfl (y_ldN 2 rfl Try.isAgg43 Try.sizeOf43 rfl rfl rfl) ?_
      refine g_call1 rfl rfl rfl Try.call10 (fun w hS => selects_any _ _ _ _ _ _ _ _ _ _ w) ?_
      refine g_val rfl rfl rfl (y_move rfl) ?_
      refine g_val rfl rfl rfl (y_extract rfl rfl) ?_
      refine g_val rfl rfl rfl (y_extract rfl rfl) ?_
      refine g_val rfl rfl rfl (y_assign rfl) ?_
      refine g_val rfl rfl rfl (y_assign rfl) ?_
      refine g_nil (g_then (g_seq (g_ops ?_)))
      refine g_val rfl rfl rfl (y_ldN 1 rfl Try.isAgg36 Try.sizeOf36 rfl rfl rfl) ?_
      refine g_val rfl rfl rfl (y_move rfl) ?_
      refine g_val rfl rfl rfl (y_ldN 0 rfl Try.isAgg43 Try.sizeOf43 rfl rfl rfl) ?_
      refine g_call1 rfl rfl rfl Try.call10 (fun w hS => selects_any _ _ _ _ _ _ _ _ _ _ w) ?_
      refine g_val rfl rfl rfl (y_move rfl) ?_
      refine g_val rfl rfl rfl (y_extract rfl rfl) ?_
      refine g_val rfl rfl rfl (y_extract rfl rfl) ?_
      refine g_val rfl rfl rfl (y_assign rfl) ?_
      refine g_val rfl rfl rfl (y_assign rfl) ?_
      refine g_nil (g_then (g_seq (g_ops ?_)))
      refine g_call1 rfl rfl rfl Try.call8 (fun w hS => alive_any w) ?_
      refine g_val rfl rfl rfl (y_move rfl) ?_
      first | refine g_casep 51 rfl (fun h3 => ?_) (fun h3 => ?_) | refine g_caseb 51 rfl (fun h3 => ?_) (fun h3 => ?_)
      · skip
        refine g_val rfl rfl rfl (y_move rfl) ?_
        refine g_val rfl rfl rfl (y_move rfl) ?_
        refine g_val rfl rfl rfl (y_beq rfl rfl (by kernel_rfl)) ?_
        refine g_val rfl rfl rfl (y_pick_t rfl rfl) ?_
        refine g_val rfl rfl rfl (y_move rfl) ?_
        first | refine g_casep 56 rfl (fun h4 => ?_) (fun h4 => ?_) | refine g_caseb 56 rfl (fun h4 => ?_) (fun h4 => ?_)
        · skip
          refine g_val rfl rfl rfl (y_move rfl) ?_
          refine g_val rfl rfl rfl (y_move rfl) ?_
          refine g_val rfl rfl rfl (y_beq rfl rfl (by kernel_rfl)) ?_
          refine g_val rfl rfl rfl (y_pick_t rfl rfl) ?_
          refine g_val rfl rfl rfl (y_assign rfl) ?_
          refine g_nil (g_then (g_ret ?_))
          refine g_end1 Try.results7 rfl ?_
          have q0 := needs_law op fk fl tk tl nt num last first second first second
          have q1 := needs_law op fk fl tk tl nt num last first second (!first) second
          have q2 := needs_law op fk fl tk tl nt num last first second first (!second)
          have q3 := needs_law op fk fl tk tl nt num last first second (!first) (!second)
          exact fun w hS => ⟨ret_bool (by simp_all), hS.below⟩
        · skip
          refine g_not rfl rfl rfl ?_
          refine g_not rfl rfl rfl ?_
          refine g_not rfl rfl rfl ?_
          refine g_val rfl rfl rfl (y_pick_f rfl rfl) ?_
          refine g_val rfl rfl rfl (y_assign rfl) ?_
          refine g_nil (g_then (g_ret ?_))
          refine g_end1 Try.results7 rfl ?_
          exfalso
          have q0 := needs_law op fk fl tk tl nt num last first second first second
          have q1 := needs_law op fk fl tk tl nt num last first second (!first) second
          have q2 := needs_law op fk fl tk tl nt num last first second first (!second)
          have q3 := needs_law op fk fl tk tl nt num last first second (!first) (!second)
          simp_all
      · skip
        refine g_not rfl rfl rfl ?_
        refine g_not rfl rfl rfl ?_
        refine g_not rfl rfl rfl ?_
        refine g_val rfl rfl rfl (y_pick_f rfl rfl) ?_
        refine g_val rfl rfl rfl (y_move rfl) ?_
        refine g_not rfl rfl rfl ?_
        refine g_not rfl rfl rfl ?_
        refine g_not rfl rfl rfl ?_
        refine g_val rfl rfl rfl (y_pick_f rfl rfl) ?_
        refine g_val rfl rfl rfl (y_assign rfl) ?_
        refine g_nil (g_then (g_ret ?_))
        refine g_end1 Try.results7 rfl ?_
        exfalso
        have q0 := needs_law op fk fl tk tl nt num last first second first second
        have q1 := needs_law op fk fl tk tl nt num last first second (!first) second
        have q2 := needs_law op fk fl tk tl nt num last first second first (!second)
        have q3 := needs_law op fk fl tk tl nt num last first second (!first) (!second)
        simp_all
    · skip
      refine g_cond_f rfl (g_skip (g_then (g_seq (g_ops ?_))))
      refine g_val rfl rfl rfl (y_ldN 1 rfl Try.isAgg36 Try.sizeOf36 rfl rfl rfl) ?_
      refine g_val rfl rfl rfl (y_move rfl) ?_
      refine g_val rfl rfl rfl (y_ldN 2 rfl Try.isAgg43 Try.sizeOf43 rfl rfl rfl) ?_
      refine g_call1 rfl rfl rfl Try.call10 (fun w hS => selects_any _ _ _ _ _ _ _ _ _ _ w) ?_
      refine g_val rfl rfl rfl (y_move rfl) ?_
      refine g_val rfl rfl rfl (y_extract rfl rfl) ?_
      refine g_val rfl rfl rfl (y_extract rfl rfl) ?_
      refine g_val rfl rfl rfl (y_assign rfl) ?_
      refine g_val rfl rfl rfl (y_assign rfl) ?_
      refine g_nil (g_then (g_seq (g_ops ?_)))
      refine g_val rfl rfl rfl (y_ldN 1 rfl Try.isAgg36 Try.sizeOf36 rfl rfl rfl) ?_
      refine g_val rfl rfl rfl (y_move rfl) ?_
      refine g_val rfl rfl rfl (y_ldN 0 rfl Try.isAgg43 Try.sizeOf43 rfl rfl rfl) ?_
      refine g_call1 rfl rfl rfl Try.call10 (fun w hS => selects_any _ _ _ _ _ _ _ _ _ _ w) ?_
      refine g_val rfl rfl rfl (y_move rfl) ?_
      refine g_val rfl rfl rfl (y_extract rfl rfl) ?_
      refine g_val rfl rfl rfl (y_extract rfl rfl) ?_
      refine g_val rfl rfl rfl (y_assign rfl) ?_
      refine g_val rfl rfl rfl (y_assign rfl) ?_
      refine g_nil (g_then (g_seq (g_ops ?_)))
      refine g_call1 rfl rfl rfl Try.call8 (fun w hS => alive_any w) ?_
      refine g_val rfl rfl rfl (y_move rfl) ?_
      first | refine g_casep 51 rfl (fun h5 => ?_) (fun h5 => ?_) | refine g_caseb 51 rfl (fun h5 => ?_) (fun h5 => ?_)
      · skip
        refine g_val rfl rfl rfl (y_move rfl) ?_
        refine g_val rfl rfl rfl (y_move rfl) ?_
        refine g_val rfl rfl rfl (y_beq rfl rfl (by kernel_rfl)) ?_
        refine g_val rfl rfl rfl (y_pick_t rfl rfl) ?_
        refine g_val rfl rfl rfl (y_move rfl) ?_
        first | refine g_casep 56 rfl (fun h6 => ?_) (fun h6 => ?_) | refine g_caseb 56 rfl (fun h6 => ?_) (fun h6 => ?_)
        · skip
          refine g_val rfl rfl rfl (y_move rfl) ?_
          refine g_val rfl rfl rfl (y_move rfl) ?_
          refine g_val rfl rfl rfl (y_beq rfl rfl (by kernel_rfl)) ?_
          refine g_val rfl rfl rfl (y_pick_t rfl rfl) ?_
          refine g_val rfl rfl rfl (y_assign rfl) ?_
          refine g_nil (g_then (g_ret ?_))
          refine g_end1 Try.results7 rfl ?_
          have q0 := needs_law op fk fl tk tl nt num last first second first second
          have q1 := needs_law op fk fl tk tl nt num last first second (!first) second
          have q2 := needs_law op fk fl tk tl nt num last first second first (!second)
          have q3 := needs_law op fk fl tk tl nt num last first second (!first) (!second)
          exact fun w hS => ⟨ret_bool (by simp_all), hS.below⟩
        · skip
          refine g_not rfl rfl rfl ?_
          refine g_not rfl rfl rfl ?_
          refine g_not rfl rfl rfl ?_
          refine g_val rfl rfl rfl (y_pick_f rfl rfl) ?_
          refine g_val rfl rfl rfl (y_assign rfl) ?_
          refine g_nil (g_then (g_ret ?_))
          refine g_end1 Try.results7 rfl ?_
          exfalso
          have q0 := needs_law op fk fl tk tl nt num last first second first second
          have q1 := needs_law op fk fl tk tl nt num last first second (!first) second
          have q2 := needs_law op fk fl tk tl nt num last first second first (!second)
          have q3 := needs_law op fk fl tk tl nt num last first second (!first) (!second)
          simp_all
      · skip
        refine g_not rfl rfl rfl ?_
        refine g_not rfl rfl rfl ?_
        refine g_not rfl rfl rfl ?_
        refine g_val rfl rfl rfl (y_pick_f rfl rfl) ?_
        refine g_val rfl rfl rfl (y_move rfl) ?_
        refine g_not rfl rfl rfl ?_
        refine g_not rfl rfl rfl ?_
        refine g_not rfl rfl rfl ?_
        refine g_val rfl rfl rfl (y_pick_f rfl rfl) ?_
        refine g_val rfl rfl rfl (y_assign rfl) ?_
        refine g_nil (g_then (g_ret ?_))
        refine g_end1 Try.results7 rfl ?_
        exfalso
        have q0 := needs_law op fk fl tk tl nt num last first second first second
        have q1 := needs_law op fk fl tk tl nt num last first second (!first) second
        have q2 := needs_law op fk fl tk tl nt num last first second first (!second)
        have q3 := needs_law op fk fl tk tl nt num last first second (!first) (!second)
        simp_all
  · skip
    refine g_cond_f rfl (g_skip (g_then (g_seq (g_seq (g_ops ?_)))))
    refine g_val rfl rfl rfl (y_move rfl) ?_
    refine g_val rfl rfl rfl ((by first | exact y_notp rfl | exact y_not rfl)) ?_
    refine g_nil (g_then ?_)
    first | refine g_casep 31 rfl (fun h7 => ?_) (fun h7 => ?_) | refine g_caseb 31 rfl (fun h7 => ?_) (fun h7 => ?_)
    · skip
      refine g_cond_t rfl (g_ops ?_)
      refine g_val rfl rfl rfl (y_fieldAddr (k := 3) (m := 3) rfl (by kernel_rfl) rfl) ?_
      refine g_val rfl rfl rfl (y_ld 0 rfl Try.isAgg4 rfl rfl) ?_
      refine g_val rfl rfl rfl ((by first | exact y_notp rfl | exact y_not rfl)) ?_
      refine g_val rfl rfl rfl (y_fieldAddr (k := 3) (m := 3) rfl (by kernel_rfl) rfl) ?_
      refine g_st 0 rfl rfl rfl Try.sizeOf4 rfl rfl rfl ?_
      simp only [List.set_cons_zero]
      refine g_nil (g_then (g_seq (g_ops ?_)))
      refine g_val rfl rfl rfl (y_ldN 1 rfl Try.isAgg36 Try.sizeOf36 rfl rfl rfl) ?_
      refine g_val rfl rfl rfl (y_move rfl) ?_
      refine g_val rfl rfl rfl (y_ldN 2 rfl Try.isAgg43 Try.sizeOf43 rfl rfl rfl) ?_
      refine g_call1 rfl rfl rfl Try.call10 (fun w hS => selects_any _ _ _ _ _ _ _ _ _ _ w) ?_
      refine g_val rfl rfl rfl (y_move rfl) ?_
      refine g_val rfl rfl rfl (y_extract rfl rfl) ?_
      refine g_val rfl rfl rfl (y_extract rfl rfl) ?_
      refine g_val rfl rfl rfl (y_assign rfl) ?_
      refine g_val rfl rfl rfl (y_assign rfl) ?_
      refine g_nil (g_then (g_seq (g_ops ?_)))
      refine g_val rfl rfl rfl (y_ldN 1 rfl Try.isAgg36 Try.sizeOf36 rfl rfl rfl) ?_
      refine g_val rfl rfl rfl (y_move rfl) ?_
      refine g_val rfl rfl rfl (y_ldN 0 rfl Try.isAgg43 Try.sizeOf43 rfl rfl rfl) ?_
      refine g_call1 rfl rfl rfl Try.call10 (fun w hS => selects_any _ _ _ _ _ _ _ _ _ _ w) ?_
      refine g_val rfl rfl rfl (y_move rfl) ?_
      refine g_val rfl rfl rfl (y_extract rfl rfl) ?_
      refine g_val rfl rfl rfl (y_extract rfl rfl) ?_
      refine g_val rfl rfl rfl (y_assign rfl) ?_
      refine g_val rfl rfl rfl (y_assign rfl) ?_
      refine g_nil (g_then (g_seq (g_ops ?_)))
      refine g_call1 rfl rfl rfl Try.call8 (fun w hS => alive_any w) ?_
      refine g_val rfl rfl rfl (y_move rfl) ?_
      first | refine g_casep 51 rfl (fun h8 => ?_) (fun h8 => ?_) | refine g_caseb 51 rfl (fun h8 => ?_) (fun h8 => ?_)
      · skip
        refine g_val rfl rfl rfl (y_move rfl) ?_
        refine g_val rfl rfl rfl (y_move rfl) ?_
        refine g_val rfl rfl rfl (y_beq rfl rfl (by kernel_rfl)) ?_
        refine g_val rfl rfl rfl (y_pick_t rfl rfl) ?_
        refine g_val rfl rfl rfl (y_move rfl) ?_
        first | refine g_casep 56 rfl (fun h9 => ?_) (fun h9 => ?_) | refine g_caseb 56 rfl (fun h9 => ?_) (fun h9 => ?_)
        · skip
          refine g_val rfl rfl rfl (y_move rfl) ?_
          refine g_val rfl rfl rfl (y_move rfl) ?_
          refine g_val rfl rfl rfl (y_beq rfl rfl (by kernel_rfl)) ?_
          refine g_val rfl rfl rfl (y_pick_t rfl rfl) ?_
          refine g_val rfl rfl rfl (y_assign rfl) ?_
          refine g_nil (g_then (g_ret ?_))
          refine g_end1 Try.results7 rfl ?_
          have q0 := needs_law op fk fl tk tl nt num last first second first second
          have q1 := needs_law op fk fl tk tl nt num last first second (!first) second
          have q2 := needs_law op fk fl tk tl nt num last first second first (!second)
          have q3 := needs_law op fk fl tk tl nt num last first second (!first) (!second)
          exact fun w hS => ⟨ret_bool (by simp_all), hS.below⟩
        · skip
          refine g_not rfl rfl rfl ?_
          refine g_not rfl rfl rfl ?_
          refine g_not rfl rfl rfl ?_
          refine g_val rfl rfl rfl (y_pick_f rfl rfl) ?_
          refine g_val rfl rfl rfl (y_assign rfl) ?_
          refine g_nil (g_then (g_ret ?_))
          refine g_end1 Try.results7 rfl ?_
          exfalso
          have q0 := needs_law op fk fl tk tl nt num last first second first second
          have q1 := needs_law op fk fl tk tl nt num last first second (!first) second
          have q2 := needs_law op fk fl tk tl nt num last first second first (!second)
          have q3 := needs_law op fk fl tk tl nt num last first second (!first) (!second)
          simp_all
      · skip
        refine g_not rfl rfl rfl ?_
        refine g_not rfl rfl rfl ?_
        refine g_not rfl rfl rfl ?_
        refine g_val rfl rfl rfl (y_pick_f rfl rfl) ?_
        refine g_val rfl rfl rfl (y_move rfl) ?_
        refine g_not rfl rfl rfl ?_
        refine g_not rfl rfl rfl ?_
        refine g_not rfl rfl rfl ?_
        refine g_val rfl rfl rfl (y_pick_f rfl rfl) ?_
        refine g_val rfl rfl rfl (y_assign rfl) ?_
        refine g_nil (g_then (g_ret ?_))
        refine g_end1 Try.results7 rfl ?_
        exfalso
        have q0 := needs_law op fk fl tk tl nt num last first second first second
        have q1 := needs_law op fk fl tk tl nt num last first second (!first) second
        have q2 := needs_law op fk fl tk tl nt num last first second first (!second)
        have q3 := needs_law op fk fl tk tl nt num last first second (!first) (!second)
        simp_all
    · skip
      refine g_cond_f rfl (g_skip (g_then (g_seq (g_ops ?_))))
      refine g_val rfl rfl rfl (y_ldN 1 rfl Try.isAgg36 Try.sizeOf36 rfl rfl rfl) ?_
      refine g_val rfl rfl rfl (y_move rfl) ?_
      refine g_val rfl rfl rfl (y_ldN 2 rfl Try.isAgg43 Try.sizeOf43 rfl rfl rfl) ?_
      refine g_call1 rfl rfl rfl Try.call10 (fun w hS => selects_any _ _ _ _ _ _ _ _ _ _ w) ?_
      refine g_val rfl rfl rfl (y_move rfl) ?_
      refine g_val rfl rfl rfl (y_extract rfl rfl) ?_
      refine g_val rfl rfl rfl (y_extract rfl rfl) ?_
      refine g_val rfl rfl rfl (y_assign rfl) ?_
      refine g_val rfl rfl rfl (y_assign rfl) ?_
      refine g_nil (g_then (g_seq (g_ops ?_)))
      refine g_val rfl rfl rfl (y_ldN 1 rfl Try.isAgg36 Try.sizeOf36 rfl rfl rfl) ?_
      refine g_val rfl rfl rfl (y_move rfl) ?_
      refine g_val rfl rfl rfl (y_ldN 0 rfl Try.isAgg43 Try.sizeOf43 rfl rfl rfl) ?_
      refine g_call1 rfl rfl rfl Try.call10 (fun w hS => selects_any _ _ _ _ _ _ _ _ _ _ w) ?_
      refine g_val rfl rfl rfl (y_move rfl) ?_
      refine g_val rfl rfl rfl (y_extract rfl rfl) ?_
      refine g_val rfl rfl rfl (y_extract rfl rfl) ?_
      refine g_val rfl rfl rfl (y_assign rfl) ?_
      refine g_val rfl rfl rfl (y_assign rfl) ?_
      refine g_nil (g_then (g_seq (g_ops ?_)))
      refine g_call1 rfl rfl rfl Try.call8 (fun w hS => alive_any w) ?_
      refine g_val rfl rfl rfl (y_move rfl) ?_
      first | refine g_casep 51 rfl (fun h10 => ?_) (fun h10 => ?_) | refine g_caseb 51 rfl (fun h10 => ?_) (fun h10 => ?_)
      · skip
        refine g_val rfl rfl rfl (y_move rfl) ?_
        refine g_val rfl rfl rfl (y_move rfl) ?_
        refine g_val rfl rfl rfl (y_beq rfl rfl (by kernel_rfl)) ?_
        refine g_val rfl rfl rfl (y_pick_t rfl rfl) ?_
        refine g_val rfl rfl rfl (y_move rfl) ?_
        first | refine g_casep 56 rfl (fun h11 => ?_) (fun h11 => ?_) | refine g_caseb 56 rfl (fun h11 => ?_) (fun h11 => ?_)
        · skip
          refine g_val rfl rfl rfl (y_move rfl) ?_
          refine g_val rfl rfl rfl (y_move rfl) ?_
          refine g_val rfl rfl rfl (y_beq rfl rfl (by kernel_rfl)) ?_
          refine g_val rfl rfl rfl (y_pick_t rfl rfl) ?_
          refine g_val rfl rfl rfl (y_assign rfl) ?_
          refine g_nil (g_then (g_ret ?_))
          refine g_end1 Try.results7 rfl ?_
          have q0 := needs_law op fk fl tk tl nt num last first second first second
          have q1 := needs_law op fk fl tk tl nt num last first second (!first) second
          have q2 := needs_law op fk fl tk tl nt num last first second first (!second)
          have q3 := needs_law op fk fl tk tl nt num last first second (!first) (!second)
          exact fun w hS => ⟨ret_bool (by simp_all), hS.below⟩
        · skip
          refine g_not rfl rfl rfl ?_
          refine g_not rfl rfl rfl ?_
          refine g_not rfl rfl rfl ?_
          refine g_val rfl rfl rfl (y_pick_f rfl rfl) ?_
          refine g_val rfl rfl rfl (y_assign rfl) ?_
          refine g_nil (g_then (g_ret ?_))
          refine g_end1 Try.results7 rfl ?_
          exfalso
          have q0 := needs_law op fk fl tk tl nt num last first second first second
          have q1 := needs_law op fk fl tk tl nt num last first second (!first) second
          have q2 := needs_law op fk fl tk tl nt num last first second first (!second)
          have q3 := needs_law op fk fl tk tl nt num last first second (!first) (!second)
          simp_all
      · skip
        refine g_not rfl rfl rfl ?_
        refine g_not rfl rfl rfl ?_
        refine g_not rfl rfl rfl ?_
        refine g_val rfl rfl rfl (y_pick_f rfl rfl) ?_
        refine g_val rfl rfl rfl (y_move rfl) ?_
        refine g_not rfl rfl rfl ?_
        refine g_not rfl rfl rfl ?_
        refine g_not rfl rfl rfl ?_
        refine g_val rfl rfl rfl (y_pick_f rfl rfl) ?_
        refine g_val rfl rfl rfl (y_assign rfl) ?_
        refine g_nil (g_then (g_ret ?_))
        refine g_end1 Try.results7 rfl ?_
        exfalso
        have q0 := needs_law op fk fl tk tl nt num last first second first second
        have q1 := needs_law op fk fl tk tl nt num last first second (!first) second
        have q2 := needs_law op fk fl tk tl nt num last first second first (!second)
        have q3 := needs_law op fk fl tk tl nt num last first second (!first) (!second)
        simp_all

theorem one_0 (ln : Int) (nt : Bool) (w : World) :
    Calls Try.prog 6 #[.int .i64 ln, .int .i64 0, .bool nt] w fun e w' => e = .returned (.bool true) ∧ Below w.heap.size w w' := by
  refine fn_intro Try.func6 rfl Try.ntmps6 rfl rfl ?_
  refine g_seq (g_ops ?_)
  refine g_val rfl rfl rfl (y_assign rfl) ?_
  refine g_nil (g_then (g_seq (g_seq (g_ops ?_))))
  refine g_val rfl rfl rfl (y_move rfl) ?_
  refine g_val rfl rfl rfl (y_lit false (y_ilt rfl rfl) (by decide)) ?_
  refine g_val rfl rfl rfl (y_move rfl) ?_
  refine g_val rfl rfl rfl (y_move rfl) ?_
  refine g_val rfl rfl rfl (y_lit false (y_igt rfl rfl) (by decide)) ?_
  refine g_val rfl rfl rfl (y_pick_f rfl rfl) ?_
  refine g_nil (g_then (g_cond_f rfl (g_skip (g_then (g_seq (g_ops ?_))))))
  refine g_buildSlice (offs := [0, 1, 2]) rfl rfl Try.underlying48 rfl Try.zeroValue24 (by kernel_rfl) (fun b1 => ?_)
  refine g_val rfl rfl rfl (y_move rfl) ?_
  refine g_val rfl rfl rfl (y_idxAddr rfl rfl Try.underlying48 Try.sizeOf24 (by omega) (by omega) rfl) ?_
  refine g_val rfl rfl rfl (y_ld 0 rfl Try.isAgg24 rfl rfl) ?_
  refine g_val rfl rfl rfl (y_move rfl) ?_
  refine g_val rfl rfl rfl (y_move rfl) ?_
  refine g_val rfl rfl rfl (y_build (offs := [0, 2, 4]) rfl Try.zeroValue38 (by kernel_rfl)) ?_
  refine g_call1 rfl rfl rfl Try.call9 (fun w hS => command_any _ _ _ _ _ w) ?_
  refine g_alloc rfl rfl Try.zeroValue36 rfl (fun b2 => ?_)
  refine g_stN 0 rfl rfl rfl (by kernel_rfl) rfl rfl rfl rfl ?_
  simp only [List.set_cons_zero]
  refine g_nil (g_then (g_seq (g_seq (g_ops ?_))))
  refine g_val rfl rfl rfl (y_assign rfl) ?_
  refine g_nil (g_then (g_block ?_))
  refine g_loop (α := {n : Int // 1 ≤ n ∧ n ≤ 61}) (fun x => [(0, .int .i64 ln), (1, .int .i64 0), (2, .bool nt), (7, .pointer (some ⟨b2, 0, none⟩)), (8, .int .i64 x.1)]) (fun x => St w [] [.cells b2 36 (cmdC 0 ln 0 0 nt).toList]) (fun x => (61 - x.1).toNat) ⟨1, by omega, by omega⟩ [0, 1, 2, 7, 8] rfl (fun w h => h.sub (.cons_cons _ (.cons _ .slnil))) ?_
  rintro ⟨n, hx⟩
  dsimp only
  obtain ⟨hn1, hn2⟩ := hx
  refine g_seq (g_seq (g_ops ?_))
  refine g_val rfl rfl rfl (y_move rfl) ?_
  refine g_val rfl rfl rfl (y_ile rfl rfl) ?_
  refine g_nil (g_then ?_)
  first | refine g_casep 28 rfl (fun h1 => ?_) (fun h1 => ?_) | refine g_caseb 28 rfl (fun h1 => ?_) (fun h1 => ?_)
  · skip
    refine g_cond_t rfl (g_skip (g_then (g_seq (g_block (g_seq (g_ops ?_))))))
    refine g_val rfl rfl rfl (y_ldN 0 rfl Try.isAgg36 Try.sizeOf36 rfl rfl rfl) ?_
    refine g_val rfl rfl rfl (y_move rfl) ?_
    refine g_val rfl rfl rfl (y_move rfl) ?_
    refine g_val rfl rfl rfl (y_ieq rfl rfl) ?_
    refine g_val rfl rfl rfl (y_build (offs := [0, 1]) rfl Try.zeroValue43 (by kernel_rfl)) ?_
    refine g_call1 rfl rfl rfl Try.call10 (fun w hS => selects_any _ _ _ _ _ _ _ _ _ _ w) ?_
    refine g_val rfl rfl rfl (y_move rfl) ?_
    refine g_val rfl rfl rfl (y_extract rfl rfl) ?_
    refine g_val rfl rfl rfl (y_extract rfl rfl) ?_
    refine g_val rfl rfl rfl (y_assign rfl) ?_
    refine g_val rfl rfl rfl (y_assign rfl) ?_
    refine g_nil (g_then (g_seq (g_ops ?_)))
    refine g_val rfl rfl rfl (y_move rfl) ?_
    refine g_val rfl rfl rfl (y_lit true (y_ieq rfl rfl) (by decide)) ?_
    refine g_val rfl rfl rfl (y_move rfl) ?_
    refine g_not rfl rfl rfl ?_
    refine g_not rfl rfl rfl ?_
    refine g_not rfl rfl rfl ?_
    refine g_not rfl rfl rfl ?_
    refine g_not rfl rfl rfl ?_
    refine g_not rfl rfl rfl ?_
    refine g_not rfl rfl rfl ?_
    refine g_val rfl rfl rfl (y_pick_t rfl rfl) ?_
    refine g_val rfl rfl rfl (y_move rfl) ?_
    refine g_not rfl rfl rfl ?_
    refine g_not rfl rfl rfl ?_
    refine g_not rfl rfl rfl ?_
    refine g_not rfl rfl rfl ?_
    refine g_not rfl rfl rfl ?_
    refine g_not rfl rfl rfl ?_
    refine g_val rfl rfl rfl (y_pick_t rfl rfl) ?_
    refine g_val rfl rfl rfl (y_assign rfl) ?_
    refine g_nil (g_then (g_seq (g_ops ?_)))
    refine g_val rfl rfl rfl (y_move rfl) ?_
    refine g_val rfl rfl rfl (y_move rfl) ?_
    refine g_val rfl rfl rfl (y_move rfl) ?_
    refine g_val rfl rfl rfl (y_bne rfl rfl (by kernel_rfl)) ?_
    refine g_val rfl rfl rfl (y_bne rfl rfl (by kernel_rfl)) ?_
    refine g_val rfl rfl rfl (y_move rfl) ?_
    first | refine g_casep 64 rfl (fun h2 => ?_) (fun h2 => ?_) | refine g_caseb 64 rfl (fun h2 => ?_) (fun h2 => ?_)
    · skip
      refine g_not rfl rfl rfl ?_
      refine g_val rfl rfl rfl (y_pick_t rfl rfl) ?_
      refine g_nil (g_then (g_cond_t rfl (g_seq (g_ops ?_))))
      refine g_val rfl rfl rfl (y_assign rfl) ?_
      refine g_nil (g_then (g_ret (g_in_ret (g_then_ret (g_then_ret (g_in_ret (g_then_ret ?_)))))))
      refine g_end1 Try.results6 rfl ?_
      exfalso
      have q : selB false 0 ln 0 0 nt n (decide (n = 60)) false false = (decide (True) != nt, false) := by simp [selB, selC, holdsB]
      simp_all
    · skip
      refine g_val rfl rfl rfl (y_move rfl) ?_
      refine g_val rfl rfl rfl (y_pick_f rfl rfl) ?_
      refine g_nil (g_then ?_)
      first | refine g_casep 66 rfl (fun h3 => ?_) (fun h3 => ?_) | refine g_caseb 66 rfl (fun h3 => ?_) (fun h3 => ?_)
      · skip
        refine g_cond_t rfl (g_seq (g_ops ?_))
        refine g_val rfl rfl rfl (y_assign rfl) ?_
        refine g_nil (g_then (g_ret (g_in_ret (g_then_ret (g_then_ret (g_in_ret (g_then_ret ?_)))))))
        refine g_end1 Try.results6 rfl ?_
        exfalso
        have q : selB false 0 ln 0 0 nt n (decide (n = 60)) false false = (decide (True) != nt, false) := by simp [selB, selC, holdsB]
        simp_all
      · skip
        refine g_cond_f rfl (g_skip (g_in_normal (g_then (g_ops ?_))))
        refine g_val rfl rfl rfl (y_move rfl) ?_
        refine g_val rfl rfl rfl ((by first | exact y_addi rfl rfl (by omega) | exact y_iadd rfl rfl)) ?_
        refine g_val rfl rfl rfl (y_assign rfl) ?_
        refine g_nil ?_
        exact g_again ⟨n + 1, by omega, by omega⟩ [0, 1, 2, 7, 8] (by dsimp only; omega) rfl (fun w h => h.sub (.cons_cons _ .slnil))
  · skip
    refine g_cond_f rfl (g_exit (g_then_exit (g_then_exit (g_in_exit (g_then (g_seq (g_ops ?_)))))))
    refine g_call1 rfl rfl rfl Try.call8 (fun w hS => alive_any w) ?_
    refine g_val rfl rfl rfl (y_assign rfl) ?_
    refine g_nil (g_then (g_ret ?_))
    refine g_end1 Try.results6 rfl ?_
    exact fun w hS => ⟨ret_bool (by simp_all), hS.below⟩

theorem one_1 (ln : Int) (nt : Bool) (w : World) :
    Calls Try.prog 6 #[.int .i64 ln, .int .i64 1, .bool nt] w fun e w' => e = .returned (.bool true) ∧ Below w.heap.size w w' := by
  refine fn_intro Try.func6 rfl Try.ntmps6 rfl rfl ?_
  refine g_seq (g_ops ?_)
  refine g_val rfl rfl rfl (y_assign rfl) ?_
  refine g_nil (g_then (g_seq (g_seq (g_ops ?_))))
  refine g_val rfl rfl rfl (y_move rfl) ?_
  refine g_val rfl rfl rfl (y_lit false (y_ilt rfl rfl) (by decide)) ?_
  refine g_val rfl rfl rfl (y_move rfl) ?_
  refine g_val rfl rfl rfl (y_move rfl) ?_
  refine g_val rfl rfl rfl (y_lit false (y_igt rfl rfl) (by decide)) ?_
  refine g_val rfl rfl rfl (y_pick_f rfl rfl) ?_
  refine g_nil (g_then (g_cond_f rfl (g_skip (g_then (g_seq (g_ops ?_))))))
  refine g_buildSlice (offs := [0, 1, 2]) rfl rfl Try.underlying48 rfl Try.zeroValue24 (by kernel_rfl) (fun b1 => ?_)
  refine g_val rfl rfl rfl (y_move rfl) ?_
  refine g_val rfl rfl rfl (y_idxAddr rfl rfl Try.underlying48 Try.sizeOf24 (by omega) (by omega) rfl) ?_
  refine g_val rfl rfl rfl (y_ld 0 rfl Try.isAgg24 rfl rfl) ?_
  refine g_val rfl rfl rfl (y_move rfl) ?_
  refine g_val rfl rfl rfl (y_move rfl) ?_
  refine g_val rfl rfl rfl (y_build (offs := [0, 2, 4]) rfl Try.zeroValue38 (by kernel_rfl)) ?_
  refine g_call1 rfl rfl rfl Try.call9 (fun w hS => command_any _ _ _ _ _ w) ?_
  refine g_alloc rfl rfl Try.zeroValue36 rfl (fun b2 => ?_)
  refine g_stN 0 rfl rfl rfl (by kernel_rfl) rfl rfl rfl rfl ?_
  simp only [List.set_cons_zero]
  refine g_nil (g_then (g_seq (g_seq (g_ops ?_))))
  refine g_val rfl rfl rfl (y_assign rfl) ?_
  refine g_nil (g_then (g_block ?_))
  refine g_loop (α := {n : Int // 1 ≤ n ∧ n ≤ 61}) (fun x => [(0, .int .i64 ln), (1, .int .i64 1), (2, .bool nt), (7, .pointer (some ⟨b2, 0, none⟩)), (8, .int .i64 x.1)]) (fun x => St w [] [.cells b2 36 (cmdC 1 ln 0 0 nt).toList]) (fun x => (61 - x.1).toNat) ⟨1, by omega, by omega⟩ [0, 1, 2, 7, 8] rfl (fun w h => h.sub (.cons_cons _ (.cons _ .slnil))) ?_
  rintro ⟨n, hx⟩
  dsimp only
  obtain ⟨hn1, hn2⟩ := hx
  refine g_seq (g_seq (g_ops ?_))
  refine g_val rfl rfl rfl (y_move rfl) ?_
  refine g_val rfl rfl rfl (y_ile rfl rfl) ?_
  refine g_nil (g_then ?_)
  first | refine g_casep 28 rfl (fun h1 => ?_) (fun h1 => ?_) | refine g_caseb 28 rfl (fun h1 => ?_) (fun h1 => ?_)
  · skip
    refine g_cond_t rfl (g_skip (g_then (g_seq (g_block (g_seq (g_ops ?_))))))
    refine g_val rfl rfl rfl (y_ldN 0 rfl Try.isAgg36 Try.sizeOf36 rfl rfl rfl) ?_
    refine g_val rfl rfl rfl (y_move rfl) ?_
    refine g_val rfl rfl rfl (y_move rfl) ?_
    refine g_val rfl rfl rfl (y_ieq rfl rfl) ?_
    refine g_val rfl rfl rfl (y_build (offs := [0, 1]) rfl Try.zeroValue43 (by kernel_rfl)) ?_
    refine g_call1 rfl rfl rfl Try.call10 (fun w hS => selects_any _ _ _ _ _ _ _ _ _ _ w) ?_
    refine g_val rfl rfl rfl (y_move rfl) ?_
    refine g_val rfl rfl rfl (y_extract rfl rfl) ?_
    refine g_val rfl rfl rfl (y_extract rfl rfl) ?_
    refine g_val rfl rfl rfl (y_assign rfl) ?_
    refine g_val rfl rfl rfl (y_assign rfl) ?_
    refine g_nil (g_then (g_seq (g_ops ?_)))
    refine g_val rfl rfl rfl (y_move rfl) ?_
    refine g_val rfl rfl rfl (y_lit false (y_ieq rfl rfl) (by decide)) ?_
    refine g_val rfl rfl rfl (y_move rfl) ?_
    refine g_val rfl rfl rfl (y_move rfl) ?_
    refine g_val rfl rfl rfl (y_lit true (y_ieq rfl rfl) (by decide)) ?_
    refine g_val rfl rfl rfl (y_move rfl) ?_
    refine g_val rfl rfl rfl (y_move rfl) ?_
    refine g_val rfl rfl rfl (y_move rfl) ?_
    refine g_val rfl rfl rfl (y_ieq rfl rfl) ?_
    refine g_val rfl rfl rfl (y_pick_t rfl rfl) ?_
    refine g_val rfl rfl rfl (y_pick_f rfl rfl) ?_
    refine g_val rfl rfl rfl (y_move rfl) ?_
    first | refine g_casep 51 rfl (fun h2 => ?_) (fun h2 => ?_) | refine g_caseb 51 rfl (fun h2 => ?_) (fun h2 => ?_)
    · skip
      refine g_not rfl rfl rfl ?_
      refine g_not rfl rfl rfl ?_
      refine g_not rfl rfl rfl ?_
      refine g_not rfl rfl rfl ?_
      refine g_not rfl rfl rfl ?_
      refine g_not rfl rfl rfl ?_
      refine g_val rfl rfl rfl (y_pick_t rfl rfl) ?_
      refine g_val rfl rfl rfl (y_assign rfl) ?_
      refine g_nil (g_then (g_seq (g_ops ?_)))
      refine g_val rfl rfl rfl (y_move rfl) ?_
      refine g_val rfl rfl rfl (y_move rfl) ?_
      refine g_val rfl rfl rfl (y_move rfl) ?_
      refine g_val rfl rfl rfl (y_bne rfl rfl (by kernel_rfl)) ?_
      refine g_val rfl rfl rfl (y_bne rfl rfl (by kernel_rfl)) ?_
      refine g_val rfl rfl rfl (y_move rfl) ?_
      first | refine g_casep 64 rfl (fun h3 => ?_) (fun h3 => ?_) | refine g_caseb 64 rfl (fun h3 => ?_) (fun h3 => ?_)
      · skip
        refine g_not rfl rfl rfl ?_
        refine g_val rfl rfl rfl (y_pick_t rfl rfl) ?_
        refine g_nil (g_then (g_cond_t rfl (g_seq (g_ops ?_))))
        refine g_val rfl rfl rfl (y_assign rfl) ?_
        refine g_nil (g_then (g_ret (g_in_ret (g_then_ret (g_then_ret (g_in_ret (g_then_ret ?_)))))))
        refine g_end1 Try.results6 rfl ?_
        exfalso
        have q : selB false 1 ln 0 0 nt n (decide (n = 60)) false false = (decide (n = ln) != nt, false) := by simp [selB, selC, holdsB]
        simp_all
      · skip
        refine g_val rfl rfl rfl (y_move rfl) ?_
        refine g_val rfl rfl rfl (y_pick_f rfl rfl) ?_
        refine g_nil (g_then ?_)
        first | refine g_casep 66 rfl (fun h4 => ?_) (fun h4 => ?_) | refine g_caseb 66 rfl (fun h4 => ?_) (fun h4 => ?_)
        · skip
          refine g_cond_t rfl (g_seq (g_ops ?_))
          refine g_val rfl rfl rfl (y_assign rfl) ?_
          refine g_nil (g_then (g_ret (g_in_ret (g_then_ret (g_then_ret (g_in_ret (g_then_ret ?_)))))))
          refine g_end1 Try.results6 rfl ?_
          exfalso
          have q : selB false 1 ln 0 0 nt n (decide (n = 60)) false false = (decide (n = ln) != nt, false) := by simp [selB, selC, holdsB]
          simp_all
        · skip
          refine g_cond_f rfl (g_skip (g_in_normal (g_then (g_ops ?_))))
          refine g_val rfl rfl rfl (y_move rfl) ?_
          refine g_val rfl rfl rfl ((by first | exact y_addi rfl rfl (by omega) | exact y_iadd rfl rfl)) ?_
          refine g_val rfl rfl rfl (y_assign rfl) ?_
          refine g_nil ?_
          exact g_again ⟨n + 1, by omega, by omega⟩ [0, 1, 2, 7, 8] (by dsimp only; omega) rfl (fun w h => h.sub (.cons_cons _ .slnil))
    · skip
      refine g_val rfl rfl rfl (y_move rfl) ?_
      refine g_val rfl rfl rfl (y_lit false (y_ieq rfl rfl) (by decide)) ?_
      refine g_val rfl rfl rfl (y_move rfl) ?_
      refine g_not rfl rfl rfl ?_
      refine g_not rfl rfl rfl ?_
      refine g_val rfl rfl rfl (y_pick_f rfl rfl) ?_
      refine g_val rfl rfl rfl (y_pick_f rfl rfl) ?_
      refine g_val rfl rfl rfl (y_assign rfl) ?_
      refine g_nil (g_then (g_seq (g_ops ?_)))
      refine g_val rfl rfl rfl (y_move rfl) ?_
      refine g_val rfl rfl rfl (y_move rfl) ?_
      refine g_val rfl rfl rfl (y_move rfl) ?_
      refine g_val rfl rfl rfl (y_bne rfl rfl (by kernel_rfl)) ?_
      refine g_val rfl rfl rfl (y_bne rfl rfl (by kernel_rfl)) ?_
      refine g_val rfl rfl rfl (y_move rfl) ?_
      first | refine g_casep 64 rfl (fun h5 => ?_) (fun h5 => ?_) | refine g_caseb 64 rfl (fun h5 => ?_) (fun h5 => ?_)
      · skip
        refine g_not rfl rfl rfl ?_
        refine g_val rfl rfl rfl (y_pick_t rfl rfl) ?_
        refine g_nil (g_then (g_cond_t rfl (g_seq (g_ops ?_))))
        refine g_val rfl rfl rfl (y_assign rfl) ?_
        refine g_nil (g_then (g_ret (g_in_ret (g_then_ret (g_then_ret (g_in_ret (g_then_ret ?_)))))))
        refine g_end1 Try.results6 rfl ?_
        exfalso
        have q : selB false 1 ln 0 0 nt n (decide (n = 60)) false false = (decide (n = ln) != nt, false) := by simp [selB, selC, holdsB]
        simp_all
      · skip
        refine g_val rfl rfl rfl (y_move rfl) ?_
        refine g_val rfl rfl rfl (y_pick_f rfl rfl) ?_
        refine g_nil (g_then ?_)
        first | refine g_casep 66 rfl (fun h6 => ?_) (fun h6 => ?_) | refine g_caseb 66 rfl (fun h6 => ?_) (fun h6 => ?_)
        · skip
          refine g_cond_t rfl (g_seq (g_ops ?_))
          refine g_val rfl rfl rfl (y_assign rfl) ?_
          refine g_nil (g_then (g_ret (g_in_ret (g_then_ret (g_then_ret (g_in_ret (g_then_ret ?_)))))))
          refine g_end1 Try.results6 rfl ?_
          exfalso
          have q : selB false 1 ln 0 0 nt n (decide (n = 60)) false false = (decide (n = ln) != nt, false) := by simp [selB, selC, holdsB]
          simp_all
        · skip
          refine g_cond_f rfl (g_skip (g_in_normal (g_then (g_ops ?_))))
          refine g_val rfl rfl rfl (y_move rfl) ?_
          refine g_val rfl rfl rfl ((by first | exact y_addi rfl rfl (by omega) | exact y_iadd rfl rfl)) ?_
          refine g_val rfl rfl rfl (y_assign rfl) ?_
          refine g_nil ?_
          exact g_again ⟨n + 1, by omega, by omega⟩ [0, 1, 2, 7, 8] (by dsimp only; omega) rfl (fun w h => h.sub (.cons_cons _ .slnil))
  · skip
    refine g_cond_f rfl (g_exit (g_then_exit (g_then_exit (g_in_exit (g_then (g_seq (g_ops ?_)))))))
    refine g_call1 rfl rfl rfl Try.call8 (fun w hS => alive_any w) ?_
    refine g_val rfl rfl rfl (y_assign rfl) ?_
    refine g_nil (g_then (g_ret ?_))
    refine g_end1 Try.results6 rfl ?_
    exact fun w hS => ⟨ret_bool (by simp_all), hS.below⟩

theorem one_2 (ln : Int) (nt : Bool) (w : World) :
    Calls Try.prog 6 #[.int .i64 ln, .int .i64 2, .bool nt] w fun e w' => e = .returned (.bool true) ∧ Below w.heap.size w w' := by
  refine fn_intro Try.func6 rfl Try.ntmps6 rfl rfl ?_
  refine g_seq (g_ops ?_)
  refine g_val rfl rfl rfl (y_assign rfl) ?_
  refine g_nil (g_then (g_seq (g_seq (g_ops ?_))))
  refine g_val rfl rfl rfl (y_move rfl) ?_
  refine g_val rfl rfl rfl (y_lit false (y_ilt rfl rfl) (by decide)) ?_
  refine g_val rfl rfl rfl (y_move rfl) ?_
  refine g_val rfl rfl rfl (y_move rfl) ?_
  refine g_val rfl rfl rfl (y_lit false (y_igt rfl rfl) (by decide)) ?_
  refine g_val rfl rfl rfl (y_pick_f rfl rfl) ?_
  refine g_nil (g_then (g_cond_f rfl (g_skip (g_then (g_seq (g_ops ?_))))))
  refine g_buildSlice (offs := [0, 1, 2]) rfl rfl Try.underlying48 rfl Try.zeroValue24 (by kernel_rfl) (fun b1 => ?_)
  refine g_val rfl rfl rfl (y_move rfl) ?_
  refine g_val rfl rfl rfl (y_idxAddr rfl rfl Try.underlying48 Try.sizeOf24 (by omega) (by omega) rfl) ?_
  refine g_val rfl rfl rfl (y_ld 0 rfl Try.isAgg24 rfl rfl) ?_
  refine g_val rfl rfl rfl (y_move rfl) ?_
  refine g_val rfl rfl rfl (y_move rfl) ?_
  refine g_val rfl rfl rfl (y_build (offs := [0, 2, 4]) rfl Try.zeroValue38 (by kernel_rfl)) ?_
  refine g_call1 rfl rfl rfl Try.call9 (fun w hS => command_any _ _ _ _ _ w) ?_
  refine g_alloc rfl rfl Try.zeroValue36 rfl (fun b2 => ?_)
  refine g_stN 0 rfl rfl rfl (by kernel_rfl) rfl rfl rfl rfl ?_
  simp only [List.set_cons_zero]
  refine g_nil (g_then (g_seq (g_seq (g_ops ?_))))
  refine g_val rfl rfl rfl (y_assign rfl) ?_
  refine g_nil (g_then (g_block ?_))
  refine g_loop (α := {n : Int // 1 ≤ n ∧ n ≤ 61}) (fun x => [(0, .int .i64 ln), (1, .int .i64 2), (2, .bool nt), (7, .pointer (some ⟨b2, 0, none⟩)), (8, .int .i64 x.1)]) (fun x => St w [] [.cells b2 36 (cmdC 2 ln 0 0 nt).toList]) (fun x => (61 - x.1).toNat) ⟨1, by omega, by omega⟩ [0, 1, 2, 7, 8] rfl (fun w h => h.sub (.cons_cons _ (.cons _ .slnil))) ?_
  rintro ⟨n, hx⟩
  dsimp only
  obtain ⟨hn1, hn2⟩ := hx
  refine g_seq (g_seq (g_ops ?_))
  refine g_val rfl rfl rfl (y_move rfl) ?_
  refine g_val rfl rfl rfl (y_ile rfl rfl) ?_
  refine g_nil (g_then ?_)
  first | refine g_casep 28 rfl (fun h1 => ?_) (fun h1 => ?_) | refine g_caseb 28 rfl (fun h1 => ?_) (fun h1 => ?_)
  · skip
    refine g_cond_t rfl (g_skip (g_then (g_seq (g_block (g_seq (g_ops ?_))))))
    refine g_val rfl rfl rfl (y_ldN 0 rfl Try.isAgg36 Try.sizeOf36 rfl rfl rfl) ?_
    refine g_val rfl rfl rfl (y_move rfl) ?_
    refine g_val rfl rfl rfl (y_move rfl) ?_
    refine g_val rfl rfl rfl (y_ieq rfl rfl) ?_
    refine g_val rfl rfl rfl (y_build (offs := [0, 1]) rfl Try.zeroValue43 (by kernel_rfl)) ?_
    refine g_call1 rfl rfl rfl Try.call10 (fun w hS => selects_any _ _ _ _ _ _ _ _ _ _ w) ?_
    refine g_val rfl rfl rfl (y_move rfl) ?_
    refine g_val rfl rfl rfl (y_extract rfl rfl) ?_
    refine g_val rfl rfl rfl (y_extract rfl rfl) ?_
    refine g_val rfl rfl rfl (y_assign rfl) ?_
    refine g_val rfl rfl rfl (y_assign rfl) ?_
    refine g_nil (g_then (g_seq (g_ops ?_)))
    refine g_val rfl rfl rfl (y_move rfl) ?_
    refine g_val rfl rfl rfl (y_lit false (y_ieq rfl rfl) (by decide)) ?_
    refine g_val rfl rfl rfl (y_move rfl) ?_
    refine g_val rfl rfl rfl (y_move rfl) ?_
    refine g_val rfl rfl rfl (y_lit false (y_ieq rfl rfl) (by decide)) ?_
    refine g_val rfl rfl rfl (y_move rfl) ?_
    refine g_not rfl rfl rfl ?_
    refine g_not rfl rfl rfl ?_
    refine g_not rfl rfl rfl ?_
    refine g_val rfl rfl rfl (y_pick_f rfl rfl) ?_
    refine g_val rfl rfl rfl (y_pick_f rfl rfl) ?_
    refine g_val rfl rfl rfl (y_move rfl) ?_
    refine g_val rfl rfl rfl (y_move rfl) ?_
    refine g_val rfl rfl rfl (y_lit true (y_ieq rfl rfl) (by decide)) ?_
    refine g_val rfl rfl rfl (y_move rfl) ?_
    refine g_val rfl rfl rfl (y_move rfl) ?_
    refine g_val rfl rfl rfl (y_ieq rfl rfl) ?_
    refine g_val rfl rfl rfl (y_pick_t rfl rfl) ?_
    refine g_val rfl rfl rfl (y_pick_f rfl rfl) ?_
    refine g_val rfl rfl rfl (y_assign rfl) ?_
    refine g_nil (g_then (g_seq (g_ops ?_)))
    refine g_val rfl rfl rfl (y_move rfl) ?_
    refine g_val rfl rfl rfl (y_move rfl) ?_
    refine g_val rfl rfl rfl (y_move rfl) ?_
    refine g_val rfl rfl rfl (y_bne rfl rfl (by kernel_rfl)) ?_
    refine g_val rfl rfl rfl (y_bne rfl rfl (by kernel_rfl)) ?_
    refine g_val rfl rfl rfl (y_move rfl) ?_
    first | refine g_casep 64 rfl (fun h2 => ?_) (fun h2 => ?_) | refine g_caseb 64 rfl (fun h2 => ?_) (fun h2 => ?_)
    · skip
      refine g_not rfl rfl rfl ?_
      refine g_val rfl rfl rfl (y_pick_t rfl rfl) ?_
      refine g_nil (g_then (g_cond_t rfl (g_seq (g_ops ?_))))
      refine g_val rfl rfl rfl (y_assign rfl) ?_
      refine g_nil (g_then (g_ret (g_in_ret (g_then_ret (g_then_ret (g_in_ret (g_then_ret ?_)))))))
      refine g_end1 Try.results6 rfl ?_
      exfalso
      have q : selB false 2 ln 0 0 nt n (decide (n = 60)) false false = (decide (n = 60) != nt, false) := by simp [selB, selC, holdsB]
      simp_all
    · skip
      refine g_val rfl rfl rfl (y_move rfl) ?_
      refine g_val rfl rfl rfl (y_pick_f rfl rfl) ?_
      refine g_nil (g_then ?_)
      first | refine g_casep 66 rfl (fun h3 => ?_) (fun h3 => ?_) | refine g_caseb 66 rfl (fun h3 => ?_) (fun h3 => ?_)
      · skip
        refine g_cond_t rfl (g_seq (g_ops ?_))
        refine g_val rfl rfl rfl (y_assign rfl) ?_
        refine g_nil (g_then (g_ret (g_in_ret (g_then_ret (g_then_ret (g_in_ret (g_then_ret ?_)))))))
        refine g_end1 Try.results6 rfl ?_
        exfalso
        have q : selB false 2 ln 0 0 nt n (decide (n = 60)) false false = (decide (n = 60) != nt, false) := by simp [selB, selC, holdsB]
        simp_all
      · skip
        refine g_cond_f rfl (g_skip (g_in_normal (g_then (g_ops ?_))))
        refine g_val rfl rfl rfl (y_move rfl) ?_
        refine g_val rfl rfl rfl ((by first | exact y_addi rfl rfl (by omega) | exact y_iadd rfl rfl)) ?_
        refine g_val rfl rfl rfl (y_assign rfl) ?_
        refine g_nil ?_
        exact g_again ⟨n + 1, by omega, by omega⟩ [0, 1, 2, 7, 8] (by dsimp only; omega) rfl (fun w h => h.sub (.cons_cons _ .slnil))
  · skip
    refine g_cond_f rfl (g_exit (g_then_exit (g_then_exit (g_in_exit (g_then (g_seq (g_ops ?_)))))))
    refine g_call1 rfl rfl rfl Try.call8 (fun w hS => alive_any w) ?_
    refine g_val rfl rfl rfl (y_assign rfl) ?_
    refine g_nil (g_then (g_ret ?_))
    refine g_end1 Try.results6 rfl ?_
    exact fun w hS => ⟨ret_bool (by simp_all), hS.below⟩

theorem one_out (ln kind : Int) (nt : Bool) (hk : kind < 0 ∨ 2 < kind) (w : World) :
    Calls Try.prog 6 #[.int .i64 ln, .int .i64 kind, .bool nt] w fun e w' => e = .returned (.bool true) ∧ Below w.heap.size w w' := by
  refine fn_intro Try.func6 rfl Try.ntmps6 rfl rfl ?_
  refine g_seq (g_ops ?_)
  refine g_val rfl rfl rfl (y_assign rfl) ?_
  refine g_nil (g_then (g_seq (g_seq (g_ops ?_))))
  refine g_val rfl rfl rfl (y_move rfl) ?_
  refine g_val rfl rfl rfl (y_ilt rfl rfl) ?_
  refine g_val rfl rfl rfl (y_move rfl) ?_
  first | refine g_casep 14 rfl (fun h1 => ?_) (fun h1 => ?_) | refine g_caseb 14 rfl (fun h1 => ?_) (fun h1 => ?_)
  · skip
    refine g_not rfl rfl rfl ?_
    refine g_not rfl rfl rfl ?_
    refine g_val rfl rfl rfl (y_pick_t rfl rfl) ?_
    refine g_nil (g_then (g_cond_t rfl (g_seq (g_ops ?_))))
    refine g_call1 rfl rfl rfl Try.call8 (fun w hS => alive_any w) ?_
    refine g_val rfl rfl rfl (y_assign rfl) ?_
    refine g_nil (g_then (g_ret (g_then_ret ?_)))
    refine g_end1 Try.results6 rfl ?_
    exact fun w hS => ⟨ret_bool (by simp_all), hS.below⟩
  · skip
    refine g_val rfl rfl rfl (y_move rfl) ?_
    refine g_val rfl rfl rfl (y_igt rfl rfl) ?_
    refine g_val rfl rfl rfl (y_pick_f rfl rfl) ?_
    refine g_nil (g_then ?_)
    first | refine g_casep 17 rfl (fun h2 => ?_) (fun h2 => ?_) | refine g_caseb 17 rfl (fun h2 => ?_) (fun h2 => ?_)
    · skip
      refine g_cond_t rfl (g_seq (g_ops ?_))
      refine g_call1 rfl rfl rfl Try.call8 (fun w hS => alive_any w) ?_
      refine g_val rfl rfl rfl (y_assign rfl) ?_
      refine g_nil (g_then (g_ret (g_then_ret ?_)))
      refine g_end1 Try.results6 rfl ?_
      exact fun w hS => ⟨ret_bool (by simp_all), hS.below⟩
    · skip
      omega

theorem one_any (ln kind : Int) (nt : Bool) (w : World) : Calls Try.prog 6 #[.int .i64 ln, .int .i64 kind, .bool nt] w fun e w' => e = .returned (.bool true) ∧ Below w.heap.size w w' := by
  by_cases hk : kind < 0 ∨ 2 < kind
  · exact one_out ln kind nt hk w
  · have : kind = 0 ∨ kind = 1 ∨ kind = 2 := by omega
    rcases this with rfl | rfl | rfl
    · exact one_0 ln nt w
    · exact one_1 ln nt w
    · exact one_2 ln nt w

theorem pats_law (op : Bool) (num : Int) (a b : Bool) : selB op 3 0 3 0 false num false a b = (op || a, (op || a) && (!op || !b)) := by
  cases op <;> cases a <;> cases b <;> simp [selB, selC, holdsB, endsB]

theorem patterns_any (p1 p2 : Option Addr) (n1 c1 n2 c2 : Nat) (f1 f2 : Nat → Bool) (w : World) (r1 : RdSl w p1 n1 1 fun i _ => .bool (f1 i)) (r2 : RdSl w p2 n2 1 fun i _ => .bool (f2 i)) :
    Calls Try.prog 5 #[.slice p1 n1 c1, .slice p2 n2 c2] w fun e w' => e = .returned (.bool true) ∧ Below w.heap.size w w' := by
  refine fn_intro Try.func5 rfl Try.ntmps5 rfl rfl ?_
  refine g_seq (g_ops ?_)
  refine g_val rfl rfl rfl (y_assign rfl) ?_
  refine g_nil (g_then (g_seq (g_ops ?_)))
  refine g_val rfl rfl rfl (y_build (offs := [0, 1]) rfl Try.zeroValue38 (by kernel_rfl)) ?_
  refine g_call1 rfl rfl rfl Try.call9 (fun w hS => command_any _ _ _ _ _ w) ?_
  refine g_alloc rfl rfl Try.zeroValue36 rfl (fun b1 => ?_)
  refine g_stN 0 rfl rfl rfl (by kernel_rfl) rfl rfl rfl rfl ?_
  simp only [List.set_cons_zero]
  refine g_nil (g_then (g_seq (g_ops ?_)))
  refine g_val rfl rfl rfl (y_assign rfl) ?_
  refine g_nil (g_then (g_seq (g_ops ?_)))
  refine g_val rfl rfl rfl (y_assign rfl) ?_
  refine g_nil (g_then (g_seq (g_seq (g_ops ?_))))
  refine g_val rfl rfl rfl (y_assign rfl) ?_
  refine g_nil (g_then (g_block ?_))
  refine g_loop (α := {x : Int × Bool × Bool // 0 ≤ x.1 ∧ x.2.1 = x.2.2}) (fun x => [(0, .slice p1 n1 c1), (1, .slice p2 n2 c2), (5, .pointer (some ⟨b1, 0, none⟩)), (6, .bool x.1.2.1), (7, .bool x.1.2.2), (8, .int .i64 x.1.1)]) (fun x => St w [] [.cells b1 36 (cmdC 3 0 3 0 false).toList]) (fun x => (60 - x.1.1).toNat) ⟨(0, false, false), by omega, rfl⟩ [0, 1, 5, 6, 7, 8] rfl (fun w h => h.sub (.cons_cons _ .slnil)) ?_
  rintro ⟨⟨i, op, was⟩, hx⟩
  dsimp only
  dsimp only at hx
  obtain ⟨hi0, hop⟩ := hx
  refine g_seq (g_seq (g_ops ?_))
  refine g_val rfl rfl rfl (y_move rfl) ?_
  refine g_val rfl rfl rfl (y_move rfl) ?_
  refine g_val rfl rfl rfl (y_llen rfl Try.underlying46) ?_
  refine g_val rfl rfl rfl (y_ilt rfl rfl) ?_
  refine g_val rfl rfl rfl (y_move rfl) ?_
  first | refine g_casep 18 rfl (fun h1 => ?_) (fun h1 => ?_) | refine g_caseb 18 rfl (fun h1 => ?_) (fun h1 => ?_)
  · skip
    refine g_val rfl rfl rfl (y_move rfl) ?_
    refine g_val rfl rfl rfl (y_move rfl) ?_
    refine g_val rfl rfl rfl (y_llen rfl Try.underlying46) ?_
    refine g_val rfl rfl rfl (y_ilt rfl rfl) ?_
    refine g_val rfl rfl rfl (y_pick_t rfl rfl) ?_
    refine g_val rfl rfl rfl (y_move rfl) ?_
    first | refine g_casep 24 rfl (fun h2 => ?_) (fun h2 => ?_) | refine g_caseb 24 rfl (fun h2 => ?_) (fun h2 => ?_)
    · skip
      refine g_val rfl rfl rfl (y_move rfl) ?_
      refine g_val rfl rfl rfl (y_ilt rfl rfl) ?_
      refine g_val rfl rfl rfl (y_pick_t rfl rfl) ?_
      refine g_nil (g_then ?_)
      first | refine g_casep 27 rfl (fun h3 => ?_) (fun h3 => ?_) | refine g_caseb 27 rfl (fun h3 => ?_) (fun h3 => ?_)
      · skip
        refine g_cond_t rfl (g_skip (g_then (g_seq (g_block (g_seq (g_ops ?_))))))
        refine g_val rfl rfl rfl (y_assign rfl) ?_
        refine g_nil (g_then (g_seq ?_))
        refine g_quiet (by kernel_rfl) (by kernel_rfl) ?_
        refine q_val rfl rfl rfl (y_ldN 0 rfl Try.isAgg36 Try.sizeOf36 rfl rfl rfl) ?_
        refine q_val rfl rfl rfl (y_move rfl) ?_
        refine q_val rfl rfl rfl (y_move rfl) ?_
        refine q_val rfl rfl rfl ((by first | exact y_addi rfl rfl (by omega) | exact y_iadd rfl rfl)) ?_
        refine q_val rfl rfl rfl (y_move rfl) ?_
        refine q_val rfl rfl rfl (y_move rfl) ?_
        refine q_val rfl rfl rfl (y_rdAddr r1 rfl rfl Try.underlying46 Try.sizeOf4 (by omega) (by omega)) ?_
        refine q_val rfl rfl rfl (y_rdLd r1 rfl Try.isAgg4 (by omega) (by omega) (by decide)) ?_
        refine q_val rfl rfl rfl (y_move rfl) ?_
        refine q_val rfl rfl rfl (y_move rfl) ?_
        refine q_val rfl rfl rfl (y_rdAddr r2 rfl rfl Try.underlying46 Try.sizeOf4 (by omega) (by omega)) ?_
        refine q_val rfl rfl rfl (y_rdLd r2 rfl Try.isAgg4 (by omega) (by omega) (by decide)) ?_
        refine q_val rfl rfl rfl (y_build (offs := [0, 2, 3]) rfl Try.zeroValue43 (by kernel_rfl)) ?_
        refine q_call1 rfl rfl rfl Try.call10 (fun w hS => selects_any _ _ _ _ _ _ _ _ _ _ w) ?_
        refine q_val rfl rfl rfl (y_move rfl) ?_
        refine q_val rfl rfl rfl (y_extract rfl rfl) ?_
        refine q_val rfl rfl rfl (y_extract rfl rfl) ?_
        refine q_val rfl rfl rfl (y_assign rfl) ?_
        refine q_val rfl rfl rfl (y_assign rfl) ?_
        refine q_nil (g_then (g_seq (g_ops ?_)))
        refine g_val rfl rfl rfl (y_move rfl) ?_
        refine g_val rfl rfl rfl (y_move rfl) ?_
        first | refine g_casep 48 rfl (fun h4 => ?_) (fun h4 => ?_) | refine g_caseb 48 rfl (fun h4 => ?_) (fun h4 => ?_)
        · skip
          refine g_not rfl rfl rfl ?_
          refine g_not rfl rfl rfl ?_
          refine g_not rfl rfl rfl ?_
          refine g_not rfl rfl rfl ?_
          refine g_val rfl rfl rfl (y_pick_t rfl rfl) ?_
          refine g_val rfl rfl rfl (y_assign rfl) ?_
          refine g_nil (g_then (g_seq (g_ops ?_)))
          refine g_val rfl rfl rfl (y_move rfl) ?_
          refine g_val rfl rfl rfl (y_move rfl) ?_
          refine g_val rfl rfl rfl (y_move rfl) ?_
          refine g_val rfl rfl rfl ((by first | exact y_notp rfl | exact y_not rfl)) ?_
          refine g_val rfl rfl rfl (y_move rfl) ?_
          first | refine g_casep 58 rfl (fun h5 => ?_) (fun h5 => ?_) | refine g_caseb 58 rfl (fun h5 => ?_) (fun h5 => ?_)
          · skip
            refine g_not rfl rfl rfl ?_
            refine g_not rfl rfl rfl ?_
            refine g_not rfl rfl rfl ?_
            refine g_not rfl rfl rfl ?_
            refine g_not rfl rfl rfl ?_
            refine g_val rfl rfl rfl (y_pick_t rfl rfl) ?_
            refine g_val rfl rfl rfl (y_pick_t rfl rfl) ?_
            refine g_val rfl rfl rfl (y_assign rfl) ?_
            refine g_nil (g_then (g_seq (g_seq (g_ops ?_))))
            refine g_val rfl rfl rfl (y_move rfl) ?_
            refine g_val rfl rfl rfl (y_move rfl) ?_
            refine g_val rfl rfl rfl (y_bne rfl rfl (by kernel_rfl)) ?_
            refine g_val rfl rfl rfl (y_move rfl) ?_
            first | refine g_casep 69 rfl (fun h6 => ?_) (fun h6 => ?_) | refine g_caseb 69 rfl (fun h6 => ?_) (fun h6 => ?_)
            · skip
              refine g_not rfl rfl rfl ?_
              refine g_not rfl rfl rfl ?_
              refine g_not rfl rfl rfl ?_
              refine g_val rfl rfl rfl (y_pick_t rfl rfl) ?_
              refine g_nil (g_then (g_cond_t rfl (g_seq (g_ops ?_))))
              refine g_val rfl rfl rfl (y_assign rfl) ?_
              refine g_nil (g_then (g_ret (g_then_ret (g_in_ret (g_then_ret (g_then_ret (g_in_ret (g_then_ret ?_))))))))
              refine g_end1 Try.results5 rfl ?_
              exfalso
              rw [pats_law] at *
              simp_all
            · skip
              refine g_val rfl rfl rfl (y_move rfl) ?_
              refine g_val rfl rfl rfl (y_move rfl) ?_
              refine g_val rfl rfl rfl (y_bne rfl rfl (by kernel_rfl)) ?_
              refine g_val rfl rfl rfl (y_pick_f rfl rfl) ?_
              refine g_nil (g_then ?_)
              first | refine g_casep 73 rfl (fun h7 => ?_) (fun h7 => ?_) | refine g_caseb 73 rfl (fun h7 => ?_) (fun h7 => ?_)
              · skip
                refine g_cond_t rfl (g_seq (g_ops ?_))
                refine g_val rfl rfl rfl (y_assign rfl) ?_
                refine g_nil (g_then (g_ret (g_then_ret (g_in_ret (g_then_ret (g_then_ret (g_in_ret (g_then_ret ?_))))))))
                refine g_end1 Try.results5 rfl ?_
                exfalso
                rw [pats_law] at *
                simp_all
              · skip
                refine g_cond_f rfl (g_skip (g_then (g_ops ?_)))
                refine g_val rfl rfl rfl (y_move rfl) ?_
                refine g_val rfl rfl rfl (y_assign rfl) ?_
                refine g_nil (g_in_normal (g_then (g_ops ?_)))
                refine g_val rfl rfl rfl (y_move rfl) ?_
                refine g_val rfl rfl rfl ((by first | exact y_addi rfl rfl (by omega) | exact y_iadd rfl rfl)) ?_
                refine g_val rfl rfl rfl (y_assign rfl) ?_
                refine g_nil ?_
                exact g_again ⟨(i + 1, _, _), by omega, by first | assumption | (simp_all [pats_law]; done) | (cases hq : f2 i.toNat <;> simp_all [pats_law])⟩ [0, 1, 5, 6, 7, 8] (by dsimp only; omega) rfl (fun w h => h.sub (.cons_cons _ .slnil))
          · skip
            refine g_val rfl rfl rfl (y_move rfl) ?_
            refine g_val rfl rfl rfl (y_move rfl) ?_
            refine g_val rfl rfl rfl (y_rdAddr r2 rfl rfl Try.underlying46 Try.sizeOf4 (by omega) (by omega)) ?_
            refine g_val rfl rfl rfl (y_rdLd r2 rfl Try.isAgg4 (by omega) (by omega) (by decide)) ?_
            refine g_val rfl rfl rfl ((by first | exact y_notp rfl | exact y_not rfl)) ?_
            refine g_val rfl rfl rfl (y_pick_f rfl rfl) ?_
            refine g_val rfl rfl rfl (y_pick_t rfl rfl) ?_
            refine g_val rfl rfl rfl (y_assign rfl) ?_
            refine g_nil (g_then (g_seq (g_seq (g_ops ?_))))
            refine g_val rfl rfl rfl (y_move rfl) ?_
            refine g_val rfl rfl rfl (y_move rfl) ?_
            refine g_val rfl rfl rfl (y_bne rfl rfl (by kernel_rfl)) ?_
            refine g_val rfl rfl rfl (y_move rfl) ?_
            first | refine g_casep 69 rfl (fun h8 => ?_) (fun h8 => ?_) | refine g_caseb 69 rfl (fun h8 => ?_) (fun h8 => ?_)
            · skip
              refine g_not rfl rfl rfl ?_
              refine g_not rfl rfl rfl ?_
              refine g_not rfl rfl rfl ?_
              refine g_val rfl rfl rfl (y_pick_t rfl rfl) ?_
              refine g_nil (g_then (g_cond_t rfl (g_seq (g_ops ?_))))
              refine g_val rfl rfl rfl (y_assign rfl) ?_
              refine g_nil (g_then (g_ret (g_then_ret (g_in_ret (g_then_ret (g_then_ret (g_in_ret (g_then_ret ?_))))))))
              refine g_end1 Try.results5 rfl ?_
              exfalso
              rw [pats_law] at *
              simp_all
            · skip
              refine g_val rfl rfl rfl (y_move rfl) ?_
              refine g_val rfl rfl rfl (y_move rfl) ?_
              refine g_val rfl rfl rfl (y_bne rfl rfl (by kernel_rfl)) ?_
              refine g_val rfl rfl rfl (y_pick_f rfl rfl) ?_
              refine g_nil (g_then ?_)
              first | refine g_casep 73 rfl (fun h9 => ?_) (fun h9 => ?_) | refine g_caseb 73 rfl (fun h9 => ?_) (fun h9 => ?_)
              · skip
                refine g_cond_t rfl (g_seq (g_ops ?_))
                refine g_val rfl rfl rfl (y_assign rfl) ?_
                refine g_nil (g_then (g_ret (g_then_ret (g_in_ret (g_then_ret (g_then_ret (g_in_ret (g_then_ret ?_))))))))
                refine g_end1 Try.results5 rfl ?_
                exfalso
                rw [pats_law] at *
                simp_all
              · skip
                refine g_cond_f rfl (g_skip (g_then (g_ops ?_)))
                refine g_val rfl rfl rfl (y_move rfl) ?_
                refine g_val rfl rfl rfl (y_assign rfl) ?_
                refine g_nil (g_in_normal (g_then (g_ops ?_)))
                refine g_val rfl rfl rfl (y_move rfl) ?_
                refine g_val rfl rfl rfl ((by first | exact y_addi rfl rfl (by omega) | exact y_iadd rfl rfl)) ?_
                refine g_val rfl rfl rfl (y_assign rfl) ?_
                refine g_nil ?_
                exact g_again ⟨(i + 1, _, _), by omega, by first | assumption | (simp_all [pats_law]; done) | (cases hq : f2 i.toNat <;> simp_all [pats_law])⟩ [0, 1, 5, 6, 7, 8] (by dsimp only; omega) rfl (fun w h => h.sub (.cons_cons _ .slnil))
        · skip
          refine g_val rfl rfl rfl (y_move rfl) ?_
          refine g_val rfl rfl rfl (y_move rfl) ?_
          refine g_val rfl rfl rfl (y_rdAddr r1 rfl rfl Try.underlying46 Try.sizeOf4 (by omega) (by omega)) ?_
          refine g_val rfl rfl rfl (y_rdLd r1 rfl Try.isAgg4 (by omega) (by omega) (by decide)) ?_
          refine g_val rfl rfl rfl (y_pick_f rfl rfl) ?_
          refine g_val rfl rfl rfl (y_assign rfl) ?_
          refine g_nil (g_then (g_seq (g_ops ?_)))
          refine g_val rfl rfl rfl (y_move rfl) ?_
          refine g_val rfl rfl rfl (y_move rfl) ?_
          first | refine g_casep 55 rfl (fun h10 => ?_) (fun h10 => ?_) | refine g_caseb 55 rfl (fun h10 => ?_) (fun h10 => ?_)
          · skip
            refine g_val rfl rfl rfl (y_move rfl) ?_
            refine g_val rfl rfl rfl ((by first | exact y_notp rfl | exact y_not rfl)) ?_
            refine g_val rfl rfl rfl (y_move rfl) ?_
            first | refine g_casep 58 rfl (fun h11 => ?_) (fun h11 => ?_) | refine g_caseb 58 rfl (fun h11 => ?_) (fun h11 => ?_)
            · skip
              refine g_not rfl rfl rfl ?_
              refine g_not rfl rfl rfl ?_
              refine g_not rfl rfl rfl ?_
              refine g_not rfl rfl rfl ?_
              refine g_not rfl rfl rfl ?_
              refine g_val rfl rfl rfl (y_pick_t rfl rfl) ?_
              refine g_val rfl rfl rfl (y_pick_t rfl rfl) ?_
              refine g_val rfl rfl rfl (y_assign rfl) ?_
              refine g_nil (g_then (g_seq (g_seq (g_ops ?_))))
              refine g_val rfl rfl rfl (y_move rfl) ?_
              refine g_val rfl rfl rfl (y_move rfl) ?_
              refine g_val rfl rfl rfl (y_bne rfl rfl (by kernel_rfl)) ?_
              refine g_val rfl rfl rfl (y_move rfl) ?_
              first | refine g_casep 69 rfl (fun h12 => ?_) (fun h12 => ?_) | refine g_caseb 69 rfl (fun h12 => ?_) (fun h12 => ?_)
              · skip
                refine g_not rfl rfl rfl ?_
                refine g_not rfl rfl rfl ?_
                refine g_not rfl rfl rfl ?_
                refine g_val rfl rfl rfl (y_pick_t rfl rfl) ?_
                refine g_nil (g_then (g_cond_t rfl (g_seq (g_ops ?_))))
                refine g_val rfl rfl rfl (y_assign rfl) ?_
                refine g_nil (g_then (g_ret (g_then_ret (g_in_ret (g_then_ret (g_then_ret (g_in_ret (g_then_ret ?_))))))))
                refine g_end1 Try.results5 rfl ?_
                exfalso
                rw [pats_law] at *
                simp_all
              · skip
                refine g_val rfl rfl rfl (y_move rfl) ?_
                refine g_val rfl rfl rfl (y_move rfl) ?_
                refine g_val rfl rfl rfl (y_bne rfl rfl (by kernel_rfl)) ?_
                refine g_val rfl rfl rfl (y_pick_f rfl rfl) ?_
                refine g_nil (g_then ?_)
                first | refine g_casep 73 rfl (fun h13 => ?_) (fun h13 => ?_) | refine g_caseb 73 rfl (fun h13 => ?_) (fun h13 => ?_)
                · skip
                  refine g_cond_t rfl (g_seq (g_ops ?_))
                  refine g_val rfl rfl rfl (y_assign rfl) ?_
                  refine g_nil (g_then (g_ret (g_then_ret (g_in_ret (g_then_ret (g_then_ret (g_in_ret (g_then_ret ?_))))))))
                  refine g_end1 Try.results5 rfl ?_
                  exfalso
                  rw [pats_law] at *
                  simp_all
                · skip
                  refine g_cond_f rfl (g_skip (g_then (g_ops ?_)))
                  refine g_val rfl rfl rfl (y_move rfl) ?_
                  refine g_val rfl rfl rfl (y_assign rfl) ?_
                  refine g_nil (g_in_normal (g_then (g_ops ?_)))
                  refine g_val rfl rfl rfl (y_move rfl) ?_
                  refine g_val rfl rfl rfl ((by first | exact y_addi rfl rfl (by omega) | exact y_iadd rfl rfl)) ?_
                  refine g_val rfl rfl rfl (y_assign rfl) ?_
                  refine g_nil ?_
                  exact g_again ⟨(i + 1, _, _), by omega, by first | assumption | (simp_all [pats_law]; done) | (cases hq : f2 i.toNat <;> simp_all [pats_law])⟩ [0, 1, 5, 6, 7, 8] (by dsimp only; omega) rfl (fun w h => h.sub (.cons_cons _ .slnil))
            · skip
              refine g_val rfl rfl rfl (y_move rfl) ?_
              refine g_val rfl rfl rfl (y_move rfl) ?_
              refine g_val rfl rfl rfl (y_rdAddr r2 rfl rfl Try.underlying46 Try.sizeOf4 (by omega) (by omega)) ?_
              refine g_val rfl rfl rfl (y_rdLd r2 rfl Try.isAgg4 (by omega) (by omega) (by decide)) ?_
              refine g_val rfl rfl rfl ((by first | exact y_notp rfl | exact y_not rfl)) ?_
              refine g_val rfl rfl rfl (y_pick_f rfl rfl) ?_
              refine g_val rfl rfl rfl (y_pick_t rfl rfl) ?_
              refine g_val rfl rfl rfl (y_assign rfl) ?_
              refine g_nil (g_then (g_seq (g_seq (g_ops ?_))))
              refine g_val rfl rfl rfl (y_move rfl) ?_
              refine g_val rfl rfl rfl (y_move rfl) ?_
              refine g_val rfl rfl rfl (y_bne rfl rfl (by kernel_rfl)) ?_
              refine g_val rfl rfl rfl (y_move rfl) ?_
              first | refine g_casep 69 rfl (fun h14 => ?_) (fun h14 => ?_) | refine g_caseb 69 rfl (fun h14 => ?_) (fun h14 => ?_)
              · skip
                refine g_not rfl rfl rfl ?_
                refine g_not rfl rfl rfl ?_
                refine g_not rfl rfl rfl ?_
                refine g_val rfl rfl rfl (y_pick_t rfl rfl) ?_
                refine g_nil (g_then (g_cond_t rfl (g_seq (g_ops ?_))))
                refine g_val rfl rfl rfl (y_assign rfl) ?_
                refine g_nil (g_then (g_ret (g_then_ret (g_in_ret (g_then_ret (g_then_ret (g_in_ret (g_then_ret ?_))))))))
                refine g_end1 Try.results5 rfl ?_
                exfalso
                rw [pats_law] at *
                simp_all
              · skip
                refine g_val rfl rfl rfl (y_move rfl) ?_
                refine g_val rfl rfl rfl (y_move rfl) ?_
                refine g_val rfl rfl rfl (y_bne rfl rfl (by kernel_rfl)) ?_
                refine g_val rfl rfl rfl (y_pick_f rfl rfl) ?_
                refine g_nil (g_then ?_)
                first | refine g_casep 73 rfl (fun h15 => ?_) (fun h15 => ?_) | refine g_caseb 73 rfl (fun h15 => ?_) (fun h15 => ?_)
                · skip
                  refine g_cond_t rfl (g_seq (g_ops ?_))
                  refine g_val rfl rfl rfl (y_assign rfl) ?_
                  refine g_nil (g_then (g_ret (g_then_ret (g_in_ret (g_then_ret (g_then_ret (g_in_ret (g_then_ret ?_))))))))
                  refine g_end1 Try.results5 rfl ?_
                  exfalso
                  rw [pats_law] at *
                  simp_all
                · skip
                  refine g_cond_f rfl (g_skip (g_then (g_ops ?_)))
                  refine g_val rfl rfl rfl (y_move rfl) ?_
                  refine g_val rfl rfl rfl (y_assign rfl) ?_
                  refine g_nil (g_in_normal (g_then (g_ops ?_)))
                  refine g_val rfl rfl rfl (y_move rfl) ?_
                  refine g_val rfl rfl rfl ((by first | exact y_addi rfl rfl (by omega) | exact y_iadd rfl rfl)) ?_
                  refine g_val rfl rfl rfl (y_assign rfl) ?_
                  refine g_nil ?_
                  exact g_again ⟨(i + 1, _, _), by omega, by first | assumption | (simp_all [pats_law]; done) | (cases hq : f2 i.toNat <;> simp_all [pats_law])⟩ [0, 1, 5, 6, 7, 8] (by dsimp only; omega) rfl (fun w h => h.sub (.cons_cons _ .slnil))
          · skip
            refine g_not rfl rfl rfl ?_
            refine g_not rfl rfl rfl ?_
            refine g_not rfl rfl rfl ?_
            refine g_not rfl rfl rfl ?_
            refine g_not rfl rfl rfl ?_
            refine g_not rfl rfl rfl ?_
            refine g_not rfl rfl rfl ?_
            refine g_not rfl rfl rfl ?_
            refine g_not rfl rfl rfl ?_
            refine g_val rfl rfl rfl (y_pick_f rfl rfl) ?_
            refine g_val rfl rfl rfl (y_assign rfl) ?_
            refine g_nil (g_then (g_seq (g_seq (g_ops ?_))))
            refine g_val rfl rfl rfl (y_move rfl) ?_
            refine g_val rfl rfl rfl (y_move rfl) ?_
            refine g_val rfl rfl rfl (y_bne rfl rfl (by kernel_rfl)) ?_
            refine g_val rfl rfl rfl (y_move rfl) ?_
            first | refine g_casep 69 rfl (fun h16 => ?_) (fun h16 => ?_) | refine g_caseb 69 rfl (fun h16 => ?_) (fun h16 => ?_)
            · skip
              refine g_not rfl rfl rfl ?_
              refine g_not rfl rfl rfl ?_
              refine g_not rfl rfl rfl ?_
              refine g_val rfl rfl rfl (y_pick_t rfl rfl) ?_
              refine g_nil (g_then (g_cond_t rfl (g_seq (g_ops ?_))))
              refine g_val rfl rfl rfl (y_assign rfl) ?_
              refine g_nil (g_then (g_ret (g_then_ret (g_in_ret (g_then_ret (g_then_ret (g_in_ret (g_then_ret ?_))))))))
              refine g_end1 Try.results5 rfl ?_
              exfalso
              rw [pats_law] at *
              simp_all
            · skip
              refine g_val rfl rfl rfl (y_move rfl) ?_
              refine g_val rfl rfl rfl (y_move rfl) ?_
              refine g_val rfl rfl rfl (y_bne rfl rfl (by kernel_rfl)) ?_
              refine g_val rfl rfl rfl (y_pick_f rfl rfl) ?_
              refine g_nil (g_then ?_)
              first | refine g_casep 73 rfl (fun h17 => ?_) (fun h17 => ?_) | refine g_caseb 73 rfl (fun h17 => ?_) (fun h17 => ?_)
              · skip
                refine g_cond_t rfl (g_seq (g_ops ?_))
                refine g_val rfl rfl rfl (y_assign rfl) ?_
                refine g_nil (g_then (g_ret (g_then_ret (g_in_ret (g_then_ret (g_then_ret (g_in_ret (g_then_ret ?_))))))))
                refine g_end1 Try.results5 rfl ?_
                exfalso
                rw [pats_law] at *
                simp_all
              · skip
                refine g_cond_f rfl (g_skip (g_then (g_ops ?_)))
                refine g_val rfl rfl rfl (y_move rfl) ?_
                refine g_val rfl rfl rfl (y_assign rfl) ?_
                refine g_nil (g_in_normal (g_then (g_ops ?_)))
                refine g_val rfl rfl rfl (y_move rfl) ?_
                refine g_val rfl rfl rfl ((by first | exact y_addi rfl rfl (by omega) | exact y_iadd rfl rfl)) ?_
                refine g_val rfl rfl rfl (y_assign rfl) ?_
                refine g_nil ?_
                exact g_again ⟨(i + 1, _, _), by omega, by first | assumption | (simp_all [pats_law]; done) | (cases hq : f2 i.toNat <;> simp_all [pats_law])⟩ [0, 1, 5, 6, 7, 8] (by dsimp only; omega) rfl (fun w h => h.sub (.cons_cons _ .slnil))
      · skip
        refine g_cond_f rfl (g_exit (g_then_exit (g_then_exit (g_in_exit (g_then (g_seq (g_ops ?_)))))))
        refine g_call1 rfl rfl rfl Try.call8 (fun w hS => alive_any w) ?_
        refine g_val rfl rfl rfl (y_assign rfl) ?_
        refine g_nil (g_then (g_ret ?_))
        refine g_end1 Try.results5 rfl ?_
        exact fun w hS => ⟨ret_bool (by simp_all), hS.below⟩
    · skip
      refine g_not rfl rfl rfl ?_
      refine g_not rfl rfl rfl ?_
      refine g_val rfl rfl rfl (y_pick_f rfl rfl) ?_
      refine g_nil (g_then (g_cond_f rfl (g_exit (g_then_exit (g_then_exit (g_in_exit (g_then (g_seq (g_ops ?_)))))))))
      refine g_call1 rfl rfl rfl Try.call8 (fun w hS => alive_any w) ?_
      refine g_val rfl rfl rfl (y_assign rfl) ?_
      refine g_nil (g_then (g_ret ?_))
      refine g_end1 Try.results5 rfl ?_
      exact fun w hS => ⟨ret_bool (by simp_all), hS.below⟩
  · skip
    refine g_not rfl rfl rfl ?_
    refine g_not rfl rfl rfl ?_
    refine g_not rfl rfl rfl ?_
    refine g_not rfl rfl rfl ?_
    refine g_val rfl rfl rfl (y_pick_f rfl rfl) ?_
    refine g_val rfl rfl rfl (y_move rfl) ?_
    refine g_not rfl rfl rfl ?_
    refine g_not rfl rfl rfl ?_
    refine g_val rfl rfl rfl (y_pick_f rfl rfl) ?_
    refine g_nil (g_then (g_cond_f rfl (g_exit (g_then_exit (g_then_exit (g_in_exit (g_then (g_seq (g_ops ?_)))))))))
    refine g_call1 rfl rfl rfl Try.call8 (fun w hS => alive_any w) ?_
    refine g_val rfl rfl rfl (y_assign rfl) ?_
    refine g_nil (g_then (g_ret ?_))
    refine g_end1 Try.results5 rfl ?_
    exact fun w hS => ⟨ret_bool (by simp_all), hS.below⟩

end Go.Proofs.Ytpliolkifnnldaa
