/- The tokens of a text without brackets, backslashes, anchors and braces. -/
import Derived.Test.YtpoelkfncpjmfaaPau
namespace Go.Proofs.Ytpoelkfncpjmfaa
open Go Go.RowKit

def okC (c : UInt8) : Prop := c.toNat ≠ 92 ∧ c.toNat ≠ 91 ∧ c.toNat ≠ 94 ∧ c.toNat ≠ 36 ∧ c.toNat ≠ 123
def dotT : Tok := ⟨0, withS s0 0 256, 0, 0⟩
def timesT (a b : Int) : Tok := ⟨4, s0, a, b⟩
def tokB (c : UInt8) (ts : List Tok) (d : Int) : List Tok × Int :=
  if (c.toNat : Int) = 46 then (ts ++ [dotT], d) else if (c.toNat : Int) = 42 ∧ (startsT ts || begunT ts) = true then (ts ++ [litT c], d) else if (c.toNat : Int) = 42 then (ts ++ [timesT 0 (-1)], d) else (ts ++ [litT c], d)
def tokE (c : UInt8) (ts : List Tok) (d : Int) : List Tok × Int :=
  if (c.toNat : Int) = 46 then (ts ++ [dotT], d) else if (c.toNat : Int) = 42 then (ts ++ [timesT 0 (-1)], d) else if (c.toNat : Int) = 43 then (ts ++ [timesT 1 (-1)], d) else if (c.toNat : Int) = 63 then (ts ++ [timesT 0 1], d) else
  if (c.toNat : Int) = 40 then (ts ++ [kT 1], d + 1) else if (c.toNat : Int) = 41 then (ts ++ [kT 2], d - 1) else if (c.toNat : Int) = 124 then (ts ++ [kT 3], d) else (ts ++ [litT c], d)
def tokF (f : UInt8 → List Tok → Int → List Tok × Int) : List UInt8 → List Tok → Int → Option (List Tok)
  | [], ts, d => if d = 0 then some ts else none
  | c :: l, ts, d => if (f c ts d).2 < 0 then none else tokF f l (f c ts d).1 (f c ts d).2
theorem tok_step {f : UInt8 → List Tok → Int → List Tok × Int} {c : UInt8} {l : List UInt8} {ts ts' : List Tok} {d d' : Int} {R : Option (List Tok)} (hR : tokF f (c :: l) ts d = R) (h : f c ts d = (ts', d')) (h0 : 0 ≤ d') : tokF f l ts' d' = R := by
  rw [← hR]
  show _ = if (f c ts d).2 < 0 then none else tokF f l (f c ts d).1 (f c ts d).2
  rw [h, if_neg (by dsimp only; omega)]
theorem tok_stop {f : UInt8 → List Tok → Int → List Tok × Int} {c : UInt8} {l : List UInt8} {ts ts' : List Tok} {d d' : Int} {R : Option (List Tok)} (hR : tokF f (c :: l) ts d = R) (h : f c ts d = (ts', d')) (h0 : d' < 0) : R = none := by
  rw [← hR]
  show (if (f c ts d).2 < 0 then none else tokF f l (f c ts d).1 (f c ts d).2) = none
  rw [h, if_pos (by dsimp only; omega)]
theorem tok_end {f : UInt8 → List Tok → Int → List Tok × Int} {ts : List Tok} {d : Int} {R : Option (List Tok)} (hR : tokF f [] ts d = R) : decide (d = 0) = R.isSome ∧ ∀ ts', R = some ts' → ts = ts' := by
  rw [← hR]
  show decide (d = 0) = (if d = 0 then some ts else none : Option (List Tok)).isSome ∧ _
  by_cases h : d = 0
  · rw [if_pos h]; exact ⟨by simp [h], fun ts' q => by rw [tokF, if_pos h] at q; exact Option.some.inj q⟩
  · rw [if_neg h]; exact ⟨by simp [h], fun ts' q => by rw [tokF, if_neg h] at q; cases q⟩

set_option maxRecDepth 100000 in
theorem tokens_b (b : Nat) (l0 : List UInt8) (v0 : Value) (hok0 : ∀ c, c ∈ l0 → okC c) (hl0 : l0.length ≤ 400) (F : List Nat) (w : World) (hS0 : St w F [.cells b 50 [st8 l0, .bool false, v0, .int .i64 0], .row 64 7 v0 ([] : List Tok).length (([] : List Tok).flatMap tC)] w) :
    Calls Try.prog 17 #[.pointer (some ⟨b, 0, none⟩)] w fun e w' => ∃ x : {x : Value × List UInt8 × List Tok × Int // ∀ ts, tokF tokB l0 [] 0 = some ts → x.2.2.1 = ts}, e = .returned (.bool (tokF tokB l0 [] 0).isSome) ∧ St w F [.cells b 50 [st8 x.1.2.1, .bool false, x.1.1, .int .i64 x.1.2.2.2], .row 64 7 x.1.1 x.1.2.2.1.length (x.1.2.2.1.flatMap tC)] w' := by
  refine fn_intro_own Try.func17 rfl Try.ntmps17 rfl rfl hS0 ?_
  refine g_seq (g_ops ?_)
  refine g_val rfl rfl rfl (y_assign rfl) ?_
  refine g_nil (g_then ?_)
  refine g_scope_fall (α := {x : List UInt8 × Value × List Tok × Int // (∀ c, c ∈ x.1 → okC c) ∧ x.1.length + x.2.2.1.length ≤ 900 ∧ 0 ≤ x.2.2.2 ∧ x.2.2.2 ≤ x.2.2.1.length ∧ tokF tokB x.1 x.2.2.1 x.2.2.2 = tokF tokB l0 [] 0}) (fun z => match z with | x => [(0, .pointer (some ⟨b, 0, none⟩))]) (fun z => match z with | x => St w F [.cells b 50 [st8 x.1.1, .bool false, x.1.2.1, .int .i64 x.1.2.2.2], .row 64 7 x.1.2.1 x.1.2.2.1.length (x.1.2.2.1.flatMap tC)]) (fun z => match z with | x => 0) (fun z => match z with | x => x.1.1.length) (fun _ => rfl) ?_ ?_
  · intro x
    · skip
      dsimp only
      obtain ⟨⟨rest, v, ts, d⟩, hx⟩ := x
      dsimp only at hx ⊢
      obtain ⟨hok, hlen, hd0, hd1, hR⟩ := hx
      refine g_seq (g_seq ?_)
      rcases rest with _ | ⟨c, l⟩
      · skip
        refine g_ops ?_
        refine g_val rfl rfl rfl (y_move rfl) ?_
        refine g_val rfl rfl rfl (y_nilCheck rfl) ?_
        refine g_val rfl rfl rfl (y_fieldAddr (k := 0) (m := 0) rfl (by kernel_rfl) rfl) ?_
        refine g_val rfl rfl rfl (y_ld 0 rfl Try.isAgg9 rfl rfl) ?_
        refine g_val rfl rfl rfl (y_lit true (y_seq rfl rfl) (decide_eq_true rfl)) ?_
        refine g_nil (g_then (g_cond_t rfl (g_seq (g_ops ?_))))
        refine g_val rfl rfl rfl (y_move rfl) ?_
        refine g_val rfl rfl rfl (y_nilCheck rfl) ?_
        refine g_val rfl rfl rfl (y_fieldAddr (k := 3) (m := 3) rfl (by kernel_rfl) rfl) ?_
        refine g_val rfl rfl rfl (y_ld 0 rfl Try.isAgg3 rfl rfl) ?_
        refine g_val rfl rfl rfl (y_ieq rfl rfl) ?_
        refine g_val rfl rfl rfl (y_assign rfl) ?_
        refine g_nil (g_then (g_ret (g_then_ret (g_jumps_ret ?_))))
        refine g_end1 Try.results17 rfl ?_
        exact fun w hS => ⟨⟨(v, [], ts, d), (tok_end hR).2⟩, ret_bool (tok_end hR).1, hS.sub (.cons_cons _ (.cons_cons _ .slnil))⟩
      · skip
        have hc := hok c (by simp)
        unfold okC at hc
        have hcl := c.toNat_lt
        have hl1 : (c :: l).length = l.length + 1 := rfl
        refine g_ops ?_
        refine g_val rfl rfl rfl (y_move rfl) ?_
        refine g_val rfl rfl rfl (y_nilCheck rfl) ?_
        refine g_val rfl rfl rfl (y_fieldAddr (k := 0) (m := 0) rfl (by kernel_rfl) rfl) ?_
        refine g_val rfl rfl rfl (y_ld 0 rfl Try.isAgg9 rfl rfl) ?_
        refine g_val rfl rfl rfl (y_lit false (y_seq rfl rfl) (decide_eq_false (st8_nil c l))) ?_
        refine g_nil (g_then (g_cond_f rfl (g_skip (g_then (g_seq ?_)))))
        refine a_start (by kernel_rfl) ?_
        refine a_take 0 rfl (by kernel_rfl) (by kernel_rfl) (by kernel_rfl) (fun _ _ _ _ _ h => h) rfl rfl rfl (y_move rfl) ?_
        refine a_take 1 rfl (by kernel_rfl) (by kernel_rfl) (by kernel_rfl) (fun _ _ _ _ _ h => h) rfl rfl rfl (y_move rfl) ?_
        refine a_take 2 rfl (by kernel_rfl) (by kernel_rfl) (by kernel_rfl) (fun _ _ _ _ _ h => h) rfl rfl rfl (y_nilCheck rfl) ?_
        refine a_take 3 rfl (by kernel_rfl) (by kernel_rfl) (by kernel_rfl) (fun _ _ _ _ _ h => h) rfl rfl rfl (y_fieldAddr (k := 0) (m := 0) rfl (by kernel_rfl) rfl) ?_
        refine a_take 6 rfl (by kernel_rfl) (by kernel_rfl) (by kernel_rfl) (fun _ _ _ _ _ h => h) rfl rfl rfl (y_move rfl) ?_
        refine a_take 7 rfl (by kernel_rfl) (by kernel_rfl) (by kernel_rfl) (fun _ _ _ _ _ h => h) rfl rfl rfl (y_nilCheck rfl) ?_
        refine a_take 8 rfl (by kernel_rfl) (by kernel_rfl) (by kernel_rfl) (fun _ _ _ _ _ h => h) rfl rfl rfl (y_fieldAddr (k := 0) (m := 0) rfl (by kernel_rfl) rfl) ?_
        refine a_do2 4 9 (by kernel_rfl) ?_ ?_
        · skip
          refine a_op 4 rfl ?_
          refine g_val rfl rfl rfl (y_ld 0 rfl Try.isAgg9 rfl rfl) ?_
          refine g_nil ?_
          refine a_take (v := .int .u8 (c.toNat : Int)) 5 rfl (by kernel_rfl) (by kernel_rfl) (by kernel_rfl) (fun _ _ _ _ _ h => h) rfl rfl rfl (y_sidx (i := 0) rfl rfl Try.underlying9 (st8_0 c l)) ?_
          refine a_take 11 rfl (by kernel_rfl) (by kernel_rfl) (by kernel_rfl) (fun _ _ _ _ _ h => h) rfl rfl rfl (y_assign rfl) ?_
          refine a_do1 9 (by kernel_rfl) ?_
          refine a_op 9 rfl ?_
          refine g_val rfl rfl rfl (y_ld 0 rfl Try.isAgg9 rfl rfl) ?_
          refine g_nil ?_
          refine a_take (v := st8 l) 10 rfl (by kernel_rfl) (by kernel_rfl) (by kernel_rfl) (fun _ _ _ _ _ h => h) rfl rfl rfl (y_val (y_sfrom (l := 1) rfl rfl Try.underlying9 (by show 1 ≤ (c :: l).toArray.size; simp)) (by rw [st8_1]; rfl)) ?_
          refine a_take 12 rfl (by kernel_rfl) (by kernel_rfl) (by kernel_rfl) (fun _ _ _ _ _ h => h) rfl rfl rfl (y_nilCheck rfl) ?_
          refine a_take 13 rfl (by kernel_rfl) (by kernel_rfl) (by kernel_rfl) (fun _ _ _ _ _ h => h) rfl rfl rfl (y_fieldAddr (k := 0) (m := 0) rfl (by kernel_rfl) rfl) ?_
          refine a_do1 14 (by kernel_rfl) ?_
          refine a_op 14 rfl ?_
          refine g_st 0 rfl rfl rfl Try.sizeOf9 rfl rfl rfl ?_
          simp only [List.set_cons_zero]
          refine g_nil ?_
          refine a_done (by kernel_rfl) ?_
          refine g_then (g_seq (g_block (g_seq (g_ops ?_))))
          refine g_val rfl rfl rfl (y_move rfl) ?_
          refine g_val rfl rfl rfl (y_lit false (y_ieq rfl rfl) (decide_eq_false (by omega))) ?_
          refine g_val rfl rfl rfl (y_assign rfl) ?_
          refine g_nil (g_then (g_cond_f rfl (g_seq (g_ops ?_))))
          refine g_val rfl rfl rfl (y_move rfl) ?_
          refine g_val rfl rfl rfl (y_lit false (y_ieq rfl rfl) (decide_eq_false (by omega))) ?_
          refine g_val rfl rfl rfl (y_assign rfl) ?_
          refine g_nil (g_then (g_cond_f rfl (g_seq (g_ops ?_))))
          refine g_val rfl rfl rfl (y_move rfl) ?_
          refine g_val rfl rfl rfl (y_ieq rfl rfl) ?_
          refine g_val rfl rfl rfl (y_assign rfl) ?_
          refine g_nil (g_then ?_)
          first | refine g_casep 66 rfl (fun h1 => ?_) (fun h1 => ?_) | refine g_caseb 66 rfl (fun h1 => ?_) (fun h1 => ?_)
          · skip
            refine g_cond_t rfl (g_ops ?_)
            refine g_val rfl rfl rfl (y_move rfl) ?_
            refine g_val rfl rfl rfl (y_build (offs := []) rfl Try.zeroValue27 (by kernel_rfl)) ?_
            refine g_call1 rfl rfl rfl Try.call24 (fun w hS => cwith_any s0 0 255 (by decide) (by decide) w) ?_
            refine g_val rfl rfl rfl (y_build (offs := [0, 1]) rfl Try.zeroValue64 (by kernel_rfl)) ?_
            refine g_callAll (fun _ : Value => .tuple #[]) (fun v' => [.cells b 50 [(st8 l), (.bool false), v', (.int .i64 (d))], .row 64 7 v' (ts ++ [dotT]).length ((ts ++ [dotT]).flatMap tC)]) rfl rfl rfl Try.call23 (fun w F' hS => put_any b (st8 l) (.bool false) (.int .i64 (d)) v ts dotT F' w (by first | omega | (simp only [List.length_append, List.length_singleton]; omega)) hS) (fun vq => ?_)
            refine g_nil (g_in_normal (g_then (g_seq (g_seq (g_ops ?_)))))
            refine g_val rfl rfl rfl (y_move rfl) ?_
            refine g_val rfl rfl rfl (y_nilCheck rfl) ?_
            refine g_val rfl rfl rfl (y_fieldAddr (k := 3) (m := 3) rfl (by kernel_rfl) rfl) ?_
            refine g_val rfl rfl rfl (y_ld 0 rfl Try.isAgg3 rfl rfl) ?_
            refine g_val rfl rfl rfl (y_lit false (y_ilt rfl rfl) (decide_eq_false (by omega))) ?_
            refine g_nil (g_then (g_cond_f rfl (g_skip (g_then (g_goto ?_)))))
            exact g_jump ⟨(l, vq, ts ++ [dotT], d), fun x hx => hok x (List.mem_cons_of_mem _ hx), by dsimp only; rw [List.length_append, List.length_singleton]; omega, by dsimp only; omega, by dsimp only; rw [List.length_append, List.length_singleton]; omega, tok_step hR (by unfold tokB; rw [if_pos (by omega)]) (by first | omega | (dsimp only; omega))⟩ [0] rfl (fun j hj => by cases hj; dsimp only; omega) rfl (fun w h => h.sub (.cons_cons _ (.cons_cons _ .slnil)))
          · skip
            refine g_cond_f rfl (g_seq (g_ops ?_))
            refine g_val rfl rfl rfl (y_move rfl) ?_
            refine g_val rfl rfl rfl (y_lit false (y_ieq rfl rfl) (decide_eq_false (by omega))) ?_
            refine g_val rfl rfl rfl (y_move rfl) ?_
            refine g_not rfl rfl rfl ?_
            refine g_not rfl rfl rfl ?_
            refine g_not rfl rfl rfl ?_
            refine g_val rfl rfl rfl (y_pick_f rfl rfl) ?_
            refine g_val rfl rfl rfl (y_assign rfl) ?_
            refine g_nil (g_then (g_cond_f rfl (g_seq (g_ops ?_))))
            refine g_val rfl rfl rfl (y_move rfl) ?_
            refine g_val rfl rfl rfl (y_lit false (y_ieq rfl rfl) (decide_eq_false (by omega))) ?_
            refine g_val rfl rfl rfl (y_move rfl) ?_
            refine g_not rfl rfl rfl ?_
            refine g_not rfl rfl rfl ?_
            refine g_not rfl rfl rfl ?_
            refine g_val rfl rfl rfl (y_pick_f rfl rfl) ?_
            refine g_val rfl rfl rfl (y_assign rfl) ?_
            refine g_nil (g_then (g_cond_f rfl (g_seq (g_ops ?_))))
            refine g_val rfl rfl rfl (y_move rfl) ?_
            refine g_val rfl rfl rfl (y_ieq rfl rfl) ?_
            refine g_val rfl rfl rfl (y_move rfl) ?_
            first | refine g_casep 99 rfl (fun h2 => ?_) (fun h2 => ?_) | refine g_caseb 99 rfl (fun h2 => ?_) (fun h2 => ?_)
            · skip
              refine g_val rfl rfl rfl (y_move rfl) ?_
              refine g_val rfl rfl rfl (y_nilCheck rfl) ?_
              refine g_val rfl rfl rfl (y_fieldAddr (k := 1) (m := 1) rfl (by kernel_rfl) rfl) ?_
              refine g_val rfl rfl rfl (y_ld 0 rfl Try.isAgg4 rfl rfl) ?_
              refine g_val rfl rfl rfl (y_lit true (y_not rfl) rfl) ?_
              refine g_val rfl rfl rfl (y_pick_t rfl rfl) ?_
              refine g_val rfl rfl rfl (y_move rfl) ?_
              refine g_val rfl rfl rfl (y_move rfl) ?_
              refine g_callAll (fun _ : Unit => .bool (startsT ts)) (fun _ => [.cells b 50 [(st8 l), (.bool false), v, (.int .i64 (d))], .row 64 7 v ts.length (ts.flatMap tC)]) rfl rfl rfl Try.call26 (fun w F' hS => starts_any b (st8 l) (.bool false) (.int .i64 (d)) v ts F' w (by omega) hS) (fun _ => ?_)
              refine g_val rfl rfl rfl (y_move rfl) ?_
              first | refine g_casep 109 rfl (fun h3 => ?_) (fun h3 => ?_) | refine g_caseb 109 rfl (fun h3 => ?_) (fun h3 => ?_)
              · skip
                refine g_not rfl rfl rfl ?_
                refine g_not rfl rfl rfl ?_
                refine g_val rfl rfl rfl (y_pick_t rfl rfl) ?_
                refine g_val rfl rfl rfl (y_pick_t rfl rfl) ?_
                refine g_val rfl rfl rfl (y_assign rfl) ?_
                refine g_nil (g_then (g_cond_t rfl (g_ops ?_)))
                refine g_val rfl rfl rfl (y_move rfl) ?_
                refine g_val rfl rfl rfl (y_move rfl) ?_
                refine g_callAll (fun _ : Value => .tuple #[]) (fun v' => [.cells b 50 [(st8 l), (.bool false), v', (.int .i64 (d))], .row 64 7 v' (ts ++ [litT c]).length ((ts ++ [litT c]).flatMap tC)]) rfl rfl rfl Try.call28 (fun w F' hS => literal_any b (st8 l) (.bool false) (.int .i64 (d)) v ts c F' w (by omega) hS) (fun vq => ?_)
                refine g_nil (g_in_normal (g_then (g_seq (g_seq (g_ops ?_)))))
                refine g_val rfl rfl rfl (y_move rfl) ?_
                refine g_val rfl rfl rfl (y_nilCheck rfl) ?_
                refine g_val rfl rfl rfl (y_fieldAddr (k := 3) (m := 3) rfl (by kernel_rfl) rfl) ?_
                refine g_val rfl rfl rfl (y_ld 0 rfl Try.isAgg3 rfl rfl) ?_
                refine g_val rfl rfl rfl (y_lit false (y_ilt rfl rfl) (decide_eq_false (by omega))) ?_
                refine g_nil (g_then (g_cond_f rfl (g_skip (g_then (g_goto ?_)))))
                exact g_jump ⟨(l, vq, ts ++ [(litT c)], d), fun x hx => hok x (List.mem_cons_of_mem _ hx), by dsimp only; rw [List.length_append, List.length_singleton]; omega, by dsimp only; omega, by dsimp only; rw [List.length_append, List.length_singleton]; omega, tok_step hR (by unfold tokB; rw [if_neg (by omega), if_pos ⟨by omega, by simp_all⟩]) (by first | omega | (dsimp only; omega))⟩ [0] rfl (fun j hj => by cases hj; dsimp only; omega) rfl (fun w h => h.sub (.cons_cons _ (.cons_cons _ .slnil)))
              · skip
                refine g_val rfl rfl rfl (y_move rfl) ?_
                refine g_callAll (fun _ : Unit => .bool (begunT ts)) (fun _ => [.cells b 50 [(st8 l), (.bool false), v, (.int .i64 (d))], .row 64 7 v ts.length (ts.flatMap tC)]) rfl rfl rfl Try.call27 (fun w F' hS => begun_any b (st8 l) (.bool false) (.int .i64 (d)) v ts F' w (by omega) hS) (fun _ => ?_)
                refine g_val rfl rfl rfl (y_pick_f rfl rfl) ?_
                refine g_val rfl rfl rfl (y_pick_t rfl rfl) ?_
                refine g_val rfl rfl rfl (y_assign rfl) ?_
                refine g_nil (g_then ?_)
                first | refine g_casep 96 rfl (fun h4 => ?_) (fun h4 => ?_) | refine g_caseb 96 rfl (fun h4 => ?_) (fun h4 => ?_)
                · skip
                  refine g_cond_t rfl (g_ops ?_)
                  refine g_val rfl rfl rfl (y_move rfl) ?_
                  refine g_val rfl rfl rfl (y_move rfl) ?_
                  refine g_callAll (fun _ : Value => .tuple #[]) (fun v' => [.cells b 50 [(st8 l), (.bool false), v', (.int .i64 (d))], .row 64 7 v' (ts ++ [litT c]).length ((ts ++ [litT c]).flatMap tC)]) rfl rfl rfl Try.call28 (fun w F' hS => literal_any b (st8 l) (.bool false) (.int .i64 (d)) v ts c F' w (by omega) hS) (fun vq => ?_)
                  refine g_nil (g_in_normal (g_then (g_seq (g_seq (g_ops ?_)))))
                  refine g_val rfl rfl rfl (y_move rfl) ?_
                  refine g_val rfl rfl rfl (y_nilCheck rfl) ?_
                  refine g_val rfl rfl rfl (y_fieldAddr (k := 3) (m := 3) rfl (by kernel_rfl) rfl) ?_
                  refine g_val rfl rfl rfl (y_ld 0 rfl Try.isAgg3 rfl rfl) ?_
                  refine g_val rfl rfl rfl (y_lit false (y_ilt rfl rfl) (decide_eq_false (by omega))) ?_
                  refine g_nil (g_then (g_cond_f rfl (g_skip (g_then (g_goto ?_)))))
                  exact g_jump ⟨(l, vq, ts ++ [(litT c)], d), fun x hx => hok x (List.mem_cons_of_mem _ hx), by dsimp only; rw [List.length_append, List.length_singleton]; omega, by dsimp only; omega, by dsimp only; rw [List.length_append, List.length_singleton]; omega, tok_step hR (by unfold tokB; rw [if_neg (by omega), if_pos ⟨by omega, by simp_all⟩]) (by first | omega | (dsimp only; omega))⟩ [0] rfl (fun j hj => by cases hj; dsimp only; omega) rfl (fun w h => h.sub (.cons_cons _ (.cons_cons _ .slnil)))
                · skip
                  refine g_cond_f rfl (g_seq (g_ops ?_))
                  refine g_val rfl rfl rfl (y_move rfl) ?_
                  refine g_val rfl rfl rfl (y_ieq rfl rfl) ?_
                  refine g_val rfl rfl rfl (y_assign rfl) ?_
                  refine g_nil (g_then ?_)
                  first | refine g_casep 117 rfl (fun h5 => ?_) (fun h5 => ?_) | refine g_caseb 117 rfl (fun h5 => ?_) (fun h5 => ?_)
                  · skip
                    refine g_cond_t rfl (g_ops ?_)
                    refine g_val rfl rfl rfl (y_move rfl) ?_
                    refine g_val rfl rfl rfl (y_build (offs := [0, 6]) rfl Try.zeroValue64 (by kernel_rfl)) ?_
                    refine g_callAll (fun _ : Value => .tuple #[]) (fun v' => [.cells b 50 [(st8 l), (.bool false), v', (.int .i64 (d))], .row 64 7 v' (ts ++ [(timesT 0 (-1))]).length ((ts ++ [(timesT 0 (-1))]).flatMap tC)]) rfl rfl rfl Try.call23 (fun w F' hS => put_any b (st8 l) (.bool false) (.int .i64 (d)) v ts (timesT 0 (-1)) F' w (by first | omega | (simp only [List.length_append, List.length_singleton]; omega)) hS) (fun vq => ?_)
                    refine g_nil (g_in_normal (g_then (g_seq (g_seq (g_ops ?_)))))
                    refine g_val rfl rfl rfl (y_move rfl) ?_
                    refine g_val rfl rfl rfl (y_nilCheck rfl) ?_
                    refine g_val rfl rfl rfl (y_fieldAddr (k := 3) (m := 3) rfl (by kernel_rfl) rfl) ?_
                    refine g_val rfl rfl rfl (y_ld 0 rfl Try.isAgg3 rfl rfl) ?_
                    refine g_val rfl rfl rfl (y_lit false (y_ilt rfl rfl) (decide_eq_false (by omega))) ?_
                    refine g_nil (g_then (g_cond_f rfl (g_skip (g_then (g_goto ?_)))))
                    exact g_jump ⟨(l, vq, ts ++ [(timesT 0 (-1))], d), fun x hx => hok x (List.mem_cons_of_mem _ hx), by dsimp only; rw [List.length_append, List.length_singleton]; omega, by dsimp only; omega, by dsimp only; rw [List.length_append, List.length_singleton]; omega, tok_step hR (by unfold tokB; rw [if_neg (by omega), if_neg (fun q => by have := q.2; simp_all), if_pos (by omega)]) (by first | omega | (dsimp only; omega))⟩ [0] rfl (fun j hj => by cases hj; dsimp only; omega) rfl (fun w h => h.sub (.cons_cons _ (.cons_cons _ .slnil)))
                  · skip
                    refine g_cond_f rfl (g_seq (g_ops ?_))
                    refine g_val rfl rfl rfl (y_move rfl) ?_
                    refine g_val rfl rfl rfl (y_nilCheck rfl) ?_
                    refine g_val rfl rfl rfl (y_fieldAddr (k := 1) (m := 1) rfl (by kernel_rfl) rfl) ?_
                    refine g_val rfl rfl rfl (y_ld 0 rfl Try.isAgg4 rfl rfl) ?_
                    refine g_val rfl rfl rfl (y_lit true (y_not rfl) rfl) ?_
                    refine g_val rfl rfl rfl (y_assign rfl) ?_
                    refine g_nil (g_then (g_cond_t rfl (g_ops ?_)))
                    refine g_val rfl rfl rfl (y_move rfl) ?_
                    refine g_val rfl rfl rfl (y_move rfl) ?_
                    refine g_callAll (fun _ : Value => .tuple #[]) (fun v' => [.cells b 50 [(st8 l), (.bool false), v', (.int .i64 (d))], .row 64 7 v' (ts ++ [litT c]).length ((ts ++ [litT c]).flatMap tC)]) rfl rfl rfl Try.call28 (fun w F' hS => literal_any b (st8 l) (.bool false) (.int .i64 (d)) v ts c F' w (by omega) hS) (fun vq => ?_)
                    refine g_nil (g_in_normal (g_then (g_seq (g_seq (g_ops ?_)))))
                    refine g_val rfl rfl rfl (y_move rfl) ?_
                    refine g_val rfl rfl rfl (y_nilCheck rfl) ?_
                    refine g_val rfl rfl rfl (y_fieldAddr (k := 3) (m := 3) rfl (by kernel_rfl) rfl) ?_
                    refine g_val rfl rfl rfl (y_ld 0 rfl Try.isAgg3 rfl rfl) ?_
                    refine g_val rfl rfl rfl (y_lit false (y_ilt rfl rfl) (decide_eq_false (by omega))) ?_
                    refine g_nil (g_then (g_cond_f rfl (g_skip (g_then (g_goto ?_)))))
                    exact g_jump ⟨(l, vq, ts ++ [(litT c)], d), fun x hx => hok x (List.mem_cons_of_mem _ hx), by dsimp only; rw [List.length_append, List.length_singleton]; omega, by dsimp only; omega, by dsimp only; rw [List.length_append, List.length_singleton]; omega, tok_step hR (by unfold tokB; rw [if_neg (by omega), if_neg (fun q => by have := q.1; omega), if_neg (by omega)]) (by first | omega | (dsimp only; omega))⟩ [0] rfl (fun j hj => by cases hj; dsimp only; omega) rfl (fun w h => h.sub (.cons_cons _ (.cons_cons _ .slnil)))
            · skip
              refine g_not rfl rfl rfl ?_
              refine g_not rfl rfl rfl ?_
              refine g_not rfl rfl rfl ?_
              refine g_not rfl rfl rfl ?_
              refine g_not rfl rfl rfl ?_
              refine g_val rfl rfl rfl (y_pick_f rfl rfl) ?_
              refine g_val rfl rfl rfl (y_move rfl) ?_
              refine g_not rfl rfl rfl ?_
              refine g_not rfl rfl rfl ?_
              refine g_not rfl rfl rfl ?_
              refine g_not rfl rfl rfl ?_
              refine g_not rfl rfl rfl ?_
              refine g_not rfl rfl rfl ?_
              refine g_val rfl rfl rfl (y_pick_f rfl rfl) ?_
              refine g_val rfl rfl rfl (y_assign rfl) ?_
              refine g_nil (g_then (g_cond_f rfl (g_seq (g_ops ?_))))
              refine g_val rfl rfl rfl (y_move rfl) ?_
              refine g_val rfl rfl rfl (y_ieq rfl rfl) ?_
              refine g_val rfl rfl rfl (y_assign rfl) ?_
              refine g_nil (g_then ?_)
              first | refine g_casep 117 rfl (fun h6 => ?_) (fun h6 => ?_) | refine g_caseb 117 rfl (fun h6 => ?_) (fun h6 => ?_)
              · skip
                refine g_cond_t rfl (g_ops ?_)
                refine g_val rfl rfl rfl (y_move rfl) ?_
                refine g_val rfl rfl rfl (y_build (offs := [0, 6]) rfl Try.zeroValue64 (by kernel_rfl)) ?_
                refine g_callAll (fun _ : Value => .tuple #[]) (fun v' => [.cells b 50 [(st8 l), (.bool false), v', (.int .i64 (d))], .row 64 7 v' (ts ++ [(timesT 0 (-1))]).length ((ts ++ [(timesT 0 (-1))]).flatMap tC)]) rfl rfl rfl Try.call23 (fun w F' hS => put_any b (st8 l) (.bool false) (.int .i64 (d)) v ts (timesT 0 (-1)) F' w (by first | omega | (simp only [List.length_append, List.length_singleton]; omega)) hS) (fun vq => ?_)
                refine g_nil (g_in_normal (g_then (g_seq (g_seq (g_ops ?_)))))
                refine g_val rfl rfl rfl (y_move rfl) ?_
                refine g_val rfl rfl rfl (y_nilCheck rfl) ?_
                refine g_val rfl rfl rfl (y_fieldAddr (k := 3) (m := 3) rfl (by kernel_rfl) rfl) ?_
                refine g_val rfl rfl rfl (y_ld 0 rfl Try.isAgg3 rfl rfl) ?_
                refine g_val rfl rfl rfl (y_lit false (y_ilt rfl rfl) (decide_eq_false (by omega))) ?_
                refine g_nil (g_then (g_cond_f rfl (g_skip (g_then (g_goto ?_)))))
                exact g_jump ⟨(l, vq, ts ++ [(timesT 0 (-1))], d), fun x hx => hok x (List.mem_cons_of_mem _ hx), by dsimp only; rw [List.length_append, List.length_singleton]; omega, by dsimp only; omega, by dsimp only; rw [List.length_append, List.length_singleton]; omega, tok_step hR (by unfold tokB; rw [if_neg (by omega), if_neg (fun q => by have := q.2; simp_all), if_pos (by omega)]) (by first | omega | (dsimp only; omega))⟩ [0] rfl (fun j hj => by cases hj; dsimp only; omega) rfl (fun w h => h.sub (.cons_cons _ (.cons_cons _ .slnil)))
              · skip
                refine g_cond_f rfl (g_seq (g_ops ?_))
                refine g_val rfl rfl rfl (y_move rfl) ?_
                refine g_val rfl rfl rfl (y_nilCheck rfl) ?_
                refine g_val rfl rfl rfl (y_fieldAddr (k := 1) (m := 1) rfl (by kernel_rfl) rfl) ?_
                refine g_val rfl rfl rfl (y_ld 0 rfl Try.isAgg4 rfl rfl) ?_
                refine g_val rfl rfl rfl (y_lit true (y_not rfl) rfl) ?_
                refine g_val rfl rfl rfl (y_assign rfl) ?_
                refine g_nil (g_then (g_cond_t rfl (g_ops ?_)))
                refine g_val rfl rfl rfl (y_move rfl) ?_
                refine g_val rfl rfl rfl (y_move rfl) ?_
                refine g_callAll (fun _ : Value => .tuple #[]) (fun v' => [.cells b 50 [(st8 l), (.bool false), v', (.int .i64 (d))], .row 64 7 v' (ts ++ [litT c]).length ((ts ++ [litT c]).flatMap tC)]) rfl rfl rfl Try.call28 (fun w F' hS => literal_any b (st8 l) (.bool false) (.int .i64 (d)) v ts c F' w (by omega) hS) (fun vq => ?_)
                refine g_nil (g_in_normal (g_then (g_seq (g_seq (g_ops ?_)))))
                refine g_val rfl rfl rfl (y_move rfl) ?_
                refine g_val rfl rfl rfl (y_nilCheck rfl) ?_
                refine g_val rfl rfl rfl (y_fieldAddr (k := 3) (m := 3) rfl (by kernel_rfl) rfl) ?_
                refine g_val rfl rfl rfl (y_ld 0 rfl Try.isAgg3 rfl rfl) ?_
                refine g_val rfl rfl rfl (y_lit false (y_ilt rfl rfl) (decide_eq_false (by omega))) ?_
                refine g_nil (g_then (g_cond_f rfl (g_skip (g_then (g_goto ?_)))))
                exact g_jump ⟨(l, vq, ts ++ [(litT c)], d), fun x hx => hok x (List.mem_cons_of_mem _ hx), by dsimp only; rw [List.length_append, List.length_singleton]; omega, by dsimp only; omega, by dsimp only; rw [List.length_append, List.length_singleton]; omega, tok_step hR (by unfold tokB; rw [if_neg (by omega), if_neg (fun q => by have := q.1; omega), if_neg (by omega)]) (by first | omega | (dsimp only; omega))⟩ [0] rfl (fun j hj => by cases hj; dsimp only; omega) rfl (fun w h => h.sub (.cons_cons _ (.cons_cons _ .slnil)))
        · skip
          refine a_op 9 rfl ?_
          refine g_val rfl rfl rfl (y_ld 0 rfl Try.isAgg9 rfl rfl) ?_
          refine g_nil ?_
          refine a_take (v := st8 l) 10 rfl (by kernel_rfl) (by kernel_rfl) (by kernel_rfl) (fun _ _ _ _ _ h => h) rfl rfl rfl (y_val (y_sfrom (l := 1) rfl rfl Try.underlying9 (by show 1 ≤ (c :: l).toArray.size; simp)) (by rw [st8_1]; rfl)) ?_
          refine a_do1 4 (by kernel_rfl) ?_
          refine a_op 4 rfl ?_
          refine g_val rfl rfl rfl (y_ld 0 rfl Try.isAgg9 rfl rfl) ?_
          refine g_nil ?_
          refine a_take (v := .int .u8 (c.toNat : Int)) 5 rfl (by kernel_rfl) (by kernel_rfl) (by kernel_rfl) (fun _ _ _ _ _ h => h) rfl rfl rfl (y_sidx (i := 0) rfl rfl Try.underlying9 (st8_0 c l)) ?_
          refine a_take 11 rfl (by kernel_rfl) (by kernel_rfl) (by kernel_rfl) (fun _ _ _ _ _ h => h) rfl rfl rfl (y_assign rfl) ?_
          refine a_take 12 rfl (by kernel_rfl) (by kernel_rfl) (by kernel_rfl) (fun _ _ _ _ _ h => h) rfl rfl rfl (y_nilCheck rfl) ?_
          refine a_take 13 rfl (by kernel_rfl) (by kernel_rfl) (by kernel_rfl) (fun _ _ _ _ _ h => h) rfl rfl rfl (y_fieldAddr (k := 0) (m := 0) rfl (by kernel_rfl) rfl) ?_
          refine a_do1 14 (by kernel_rfl) ?_
          refine a_op 14 rfl ?_
          refine g_st 0 rfl rfl rfl Try.sizeOf9 rfl rfl rfl ?_
          simp only [List.set_cons_zero]
          refine g_nil ?_
          refine a_done (by kernel_rfl) ?_
          refine g_then (g_seq (g_block (g_seq (g_ops ?_))))
          refine g_val rfl rfl rfl (y_move rfl) ?_
          refine g_val rfl rfl rfl (y_lit false (y_ieq rfl rfl) (decide_eq_false (by omega))) ?_
          refine g_val rfl rfl rfl (y_assign rfl) ?_
          refine g_nil (g_then (g_cond_f rfl (g_seq (g_ops ?_))))
          refine g_val rfl rfl rfl (y_move rfl) ?_
          refine g_val rfl rfl rfl (y_lit false (y_ieq rfl rfl) (decide_eq_false (by omega))) ?_
          refine g_val rfl rfl rfl (y_assign rfl) ?_
          refine g_nil (g_then (g_cond_f rfl (g_seq (g_ops ?_))))
          refine g_val rfl rfl rfl (y_move rfl) ?_
          refine g_val rfl rfl rfl (y_ieq rfl rfl) ?_
          refine g_val rfl rfl rfl (y_assign rfl) ?_
          refine g_nil (g_then ?_)
          first | refine g_casep 66 rfl (fun h7 => ?_) (fun h7 => ?_) | refine g_caseb 66 rfl (fun h7 => ?_) (fun h7 => ?_)
          · skip
            refine g_cond_t rfl (g_ops ?_)
            refine g_val rfl rfl rfl (y_move rfl) ?_
            refine g_val rfl rfl rfl (y_build (offs := []) rfl Try.zeroValue27 (by kernel_rfl)) ?_
            refine g_call1 rfl rfl rfl Try.call24 (fun w hS => cwith_any s0 0 255 (by decide) (by decide) w) ?_
            refine g_val rfl rfl rfl (y_build (offs := [0, 1]) rfl Try.zeroValue64 (by kernel_rfl)) ?_
            refine g_callAll (fun _ : Value => .tuple #[]) (fun v' => [.cells b 50 [(st8 l), (.bool false), v', (.int .i64 (d))], .row 64 7 v' (ts ++ [dotT]).length ((ts ++ [dotT]).flatMap tC)]) rfl rfl rfl Try.call23 (fun w F' hS => put_any b (st8 l) (.bool false) (.int .i64 (d)) v ts dotT F' w (by first | omega | (simp only [List.length_append, List.length_singleton]; omega)) hS) (fun vq => ?_)
            refine g_nil (g_in_normal (g_then (g_seq (g_seq (g_ops ?_)))))
            refine g_val rfl rfl rfl (y_move rfl) ?_
            refine g_val rfl rfl rfl (y_nilCheck rfl) ?_
            refine g_val rfl rfl rfl (y_fieldAddr (k := 3) (m := 3) rfl (by kernel_rfl) rfl) ?_
            refine g_val rfl rfl rfl (y_ld 0 rfl Try.isAgg3 rfl rfl) ?_
            refine g_val rfl rfl rfl (y_lit false (y_ilt rfl rfl) (decide_eq_false (by omega))) ?_
            refine g_nil (g_then (g_cond_f rfl (g_skip (g_then (g_goto ?_)))))
            exact g_jump ⟨(l, vq, ts ++ [dotT], d), fun x hx => hok x (List.mem_cons_of_mem _ hx), by dsimp only; rw [List.length_append, List.length_singleton]; omega, by dsimp only; omega, by dsimp only; rw [List.length_append, List.length_singleton]; omega, tok_step hR (by unfold tokB; rw [if_pos (by omega)]) (by first | omega | (dsimp only; omega))⟩ [0] rfl (fun j hj => by cases hj; dsimp only; omega) rfl (fun w h => h.sub (.cons_cons _ (.cons_cons _ .slnil)))
          · skip
            refine g_cond_f rfl (g_seq (g_ops ?_))
            refine g_val rfl rfl rfl (y_move rfl) ?_
            refine g_val rfl rfl rfl (y_lit false (y_ieq rfl rfl) (decide_eq_false (by omega))) ?_
            refine g_val rfl rfl rfl (y_move rfl) ?_
            refine g_not rfl rfl rfl ?_
            refine g_not rfl rfl rfl ?_
            refine g_not rfl rfl rfl ?_
            refine g_val rfl rfl rfl (y_pick_f rfl rfl) ?_
            refine g_val rfl rfl rfl (y_assign rfl) ?_
            refine g_nil (g_then (g_cond_f rfl (g_seq (g_ops ?_))))
            refine g_val rfl rfl rfl (y_move rfl) ?_
            refine g_val rfl rfl rfl (y_lit false (y_ieq rfl rfl) (decide_eq_false (by omega))) ?_
            refine g_val rfl rfl rfl (y_move rfl) ?_
            refine g_not rfl rfl rfl ?_
            refine g_not rfl rfl rfl ?_
            refine g_not rfl rfl rfl ?_
            refine g_val rfl rfl rfl (y_pick_f rfl rfl) ?_
            refine g_val rfl rfl rfl (y_assign rfl) ?_
            refine g_nil (g_then (g_cond_f rfl (g_seq (g_ops ?_))))
            refine g_val rfl rfl rfl (y_move rfl) ?_
            refine g_val rfl rfl rfl (y_ieq rfl rfl) ?_
            refine g_val rfl rfl rfl (y_move rfl) ?_
            first | refine g_casep 99 rfl (fun h8 => ?_) (fun h8 => ?_) | refine g_caseb 99 rfl (fun h8 => ?_) (fun h8 => ?_)
            · skip
              refine g_val rfl rfl rfl (y_move rfl) ?_
              refine g_val rfl rfl rfl (y_nilCheck rfl) ?_
              refine g_val rfl rfl rfl (y_fieldAddr (k := 1) (m := 1) rfl (by kernel_rfl) rfl) ?_
              refine g_val rfl rfl rfl (y_ld 0 rfl Try.isAgg4 rfl rfl) ?_
              refine g_val rfl rfl rfl (y_lit true (y_not rfl) rfl) ?_
              refine g_val rfl rfl rfl (y_pick_t rfl rfl) ?_
              refine g_val rfl rfl rfl (y_move rfl) ?_
              refine g_val rfl rfl rfl (y_move rfl) ?_
              refine g_callAll (fun _ : Unit => .bool (startsT ts)) (fun _ => [.cells b 50 [(st8 l), (.bool false), v, (.int .i64 (d))], .row 64 7 v ts.length (ts.flatMap tC)]) rfl rfl rfl Try.call26 (fun w F' hS => starts_any b (st8 l) (.bool false) (.int .i64 (d)) v ts F' w (by omega) hS) (fun _ => ?_)
              refine g_val rfl rfl rfl (y_move rfl) ?_
              first | refine g_casep 109 rfl (fun h9 => ?_) (fun h9 => ?_) | refine g_caseb 109 rfl (fun h9 => ?_) (fun h9 => ?_)
              · skip
                refine g_not rfl rfl rfl ?_
                refine g_not rfl rfl rfl ?_
                refine g_val rfl rfl rfl (y_pick_t rfl rfl) ?_
                refine g_val rfl rfl rfl (y_pick_t rfl rfl) ?_
                refine g_val rfl rfl rfl (y_assign rfl) ?_
                refine g_nil (g_then (g_cond_t rfl (g_ops ?_)))
                refine g_val rfl rfl rfl (y_move rfl) ?_
                refine g_val rfl rfl rfl (y_move rfl) ?_
                refine g_callAll (fun _ : Value => .tuple #[]) (fun v' => [.cells b 50 [(st8 l), (.bool false), v', (.int .i64 (d))], .row 64 7 v' (ts ++ [litT c]).length ((ts ++ [litT c]).flatMap tC)]) rfl rfl rfl Try.call28 (fun w F' hS => literal_any b (st8 l) (.bool false) (.int .i64 (d)) v ts c F' w (by omega) hS) (fun vq => ?_)
                refine g_nil (g_in_normal (g_then (g_seq (g_seq (g_ops ?_)))))
                refine g_val rfl rfl rfl (y_move rfl) ?_
                refine g_val rfl rfl rfl (y_nilCheck rfl) ?_
                refine g_val rfl rfl rfl (y_fieldAddr (k := 3) (m := 3) rfl (by kernel_rfl) rfl) ?_
                refine g_val rfl rfl rfl (y_ld 0 rfl Try.isAgg3 rfl rfl) ?_
                refine g_val rfl rfl rfl (y_lit false (y_ilt rfl rfl) (decide_eq_false (by omega))) ?_
                refine g_nil (g_then (g_cond_f rfl (g_skip (g_then (g_goto ?_)))))
                exact g_jump ⟨(l, vq, ts ++ [(litT c)], d), fun x hx => hok x (List.mem_cons_of_mem _ hx), by dsimp only; rw [List.length_append, List.length_singleton]; omega, by dsimp only; omega, by dsimp only; rw [List.length_append, List.length_singleton]; omega, tok_step hR (by unfold tokB; rw [if_neg (by omega), if_pos ⟨by omega, by simp_all⟩]) (by first | omega | (dsimp only; omega))⟩ [0] rfl (fun j hj => by cases hj; dsimp only; omega) rfl (fun w h => h.sub (.cons_cons _ (.cons_cons _ .slnil)))
              · skip
                refine g_val rfl rfl rfl (y_move rfl) ?_
                refine g_callAll (fun _ : Unit => .bool (begunT ts)) (fun _ => [.cells b 50 [(st8 l), (.bool false), v, (.int .i64 (d))], .row 64 7 v ts.length (ts.flatMap tC)]) rfl rfl rfl Try.call27 (fun w F' hS => begun_any b (st8 l) (.bool false) (.int .i64 (d)) v ts F' w (by omega) hS) (fun _ => ?_)
                refine g_val rfl rfl rfl (y_pick_f rfl rfl) ?_
                refine g_val rfl rfl rfl (y_pick_t rfl rfl) ?_
                refine g_val rfl rfl rfl (y_assign rfl) ?_
                refine g_nil (g_then ?_)
                first | refine g_casep 96 rfl (fun h10 => ?_) (fun h10 => ?_) | refine g_caseb 96 rfl (fun h10 => ?_) (fun h10 => ?_)
                · skip
                  refine g_cond_t rfl (g_ops ?_)
                  refine g_val rfl rfl rfl (y_move rfl) ?_
                  refine g_val rfl rfl rfl (y_move rfl) ?_
                  refine g_callAll (fun _ : Value => .tuple #[]) (fun v' => [.cells b 50 [(st8 l), (.bool false), v', (.int .i64 (d))], .row 64 7 v' (ts ++ [litT c]).length ((ts ++ [litT c]).flatMap tC)]) rfl rfl rfl Try.call28 (fun w F' hS => literal_any b (st8 l) (.bool false) (.int .i64 (d)) v ts c F' w (by omega) hS) (fun vq => ?_)
                  refine g_nil (g_in_normal (g_then (g_seq (g_seq (g_ops ?_)))))
                  refine g_val rfl rfl rfl (y_move rfl) ?_
                  refine g_val rfl rfl rfl (y_nilCheck rfl) ?_
                  refine g_val rfl rfl rfl (y_fieldAddr (k := 3) (m := 3) rfl (by kernel_rfl) rfl) ?_
                  refine g_val rfl rfl rfl (y_ld 0 rfl Try.isAgg3 rfl rfl) ?_
                  refine g_val rfl rfl rfl (y_lit false (y_ilt rfl rfl) (decide_eq_false (by omega))) ?_
                  refine g_nil (g_then (g_cond_f rfl (g_skip (g_then (g_goto ?_)))))
                  exact g_jump ⟨(l, vq, ts ++ [(litT c)], d), fun x hx => hok x (List.mem_cons_of_mem _ hx), by dsimp only; rw [List.length_append, List.length_singleton]; omega, by dsimp only; omega, by dsimp only; rw [List.length_append, List.length_singleton]; omega, tok_step hR (by unfold tokB; rw [if_neg (by omega), if_pos ⟨by omega, by simp_all⟩]) (by first | omega | (dsimp only; omega))⟩ [0] rfl (fun j hj => by cases hj; dsimp only; omega) rfl (fun w h => h.sub (.cons_cons _ (.cons_cons _ .slnil)))
                · skip
                  refine g_cond_f rfl (g_seq (g_ops ?_))
                  refine g_val rfl rfl rfl (y_move rfl) ?_
                  refine g_val rfl rfl rfl (y_ieq rfl rfl) ?_
                  refine g_val rfl rfl rfl (y_assign rfl) ?_
                  refine g_nil (g_then ?_)
                  first | refine g_casep 117 rfl (fun h11 => ?_) (fun h11 => ?_) | refine g_caseb 117 rfl (fun h11 => ?_) (fun h11 => ?_)
                  · skip
                    refine g_cond_t rfl (g_ops ?_)
                    refine g_val rfl rfl rfl (y_move rfl) ?_
                    refine g_val rfl rfl rfl (y_build (offs := [0, 6]) rfl Try.zeroValue64 (by kernel_rfl)) ?_
                    refine g_callAll (fun _ : Value => .tuple #[]) (fun v' => [.cells b 50 [(st8 l), (.bool false), v', (.int .i64 (d))], .row 64 7 v' (ts ++ [(timesT 0 (-1))]).length ((ts ++ [(timesT 0 (-1))]).flatMap tC)]) rfl rfl rfl Try.call23 (fun w F' hS => put_any b (st8 l) (.bool false) (.int .i64 (d)) v ts (timesT 0 (-1)) F' w (by first | omega | (simp only [List.length_append, List.length_singleton]; omega)) hS) (fun vq => ?_)
                    refine g_nil (g_in_normal (g_then (g_seq (g_seq (g_ops ?_)))))
                    refine g_val rfl rfl rfl (y_move rfl) ?_
                    refine g_val rfl rfl rfl (y_nilCheck rfl) ?_
                    refine g_val rfl rfl rfl (y_fieldAddr (k := 3) (m := 3) rfl (by kernel_rfl) rfl) ?_
                    refine g_val rfl rfl rfl (y_ld 0 rfl Try.isAgg3 rfl rfl) ?_
                    refine g_val rfl rfl rfl (y_lit false (y_ilt rfl rfl) (decide_eq_false (by omega))) ?_
                    refine g_nil (g_then (g_cond_f rfl (g_skip (g_then (g_goto ?_)))))
                    exact g_jump ⟨(l, vq, ts ++ [(timesT 0 (-1))], d), fun x hx => hok x (List.mem_cons_of_mem _ hx), by dsimp only; rw [List.length_append, List.length_singleton]; omega, by dsimp only; omega, by dsimp only; rw [List.length_append, List.length_singleton]; omega, tok_step hR (by unfold tokB; rw [if_neg (by omega), if_neg (fun q => by have := q.2; simp_all), if_pos (by omega)]) (by first | omega | (dsimp only; omega))⟩ [0] rfl (fun j hj => by cases hj; dsimp only; omega) rfl (fun w h => h.sub (.cons_cons _ (.cons_cons _ .slnil)))
                  · skip
                    refine g_cond_f rfl (g_seq (g_ops ?_))
                    refine g_val rfl rfl rfl (y_move rfl) ?_
                    refine g_val rfl rfl rfl (y_nilCheck rfl) ?_
                    refine g_val rfl rfl rfl (y_fieldAddr (k := 1) (m := 1) rfl (by kernel_rfl) rfl) ?_
                    refine g_val rfl rfl rfl (y_ld 0 rfl Try.isAgg4 rfl rfl) ?_
                    refine g_val rfl rfl rfl (y_lit true (y_not rfl) rfl) ?_
                    refine g_val rfl rfl rfl (y_assign rfl) ?_
                    refine g_nil (g_then (g_cond_t rfl (g_ops ?_)))
                    refine g_val rfl rfl rfl (y_move rfl) ?_
                    refine g_val rfl rfl rfl (y_move rfl) ?_
                    refine g_callAll (fun _ : Value => .tuple #[]) (fun v' => [.cells b 50 [(st8 l), (.bool false), v', (.int .i64 (d))], .row 64 7 v' (ts ++ [litT c]).length ((ts ++ [litT c]).flatMap tC)]) rfl rfl rfl Try.call28 (fun w F' hS => literal_any b (st8 l) (.bool false) (.int .i64 (d)) v ts c F' w (by omega) hS) (fun vq => ?_)
                    refine g_nil (g_in_normal (g_then (g_seq (g_seq (g_ops ?_)))))
                    refine g_val rfl rfl rfl (y_move rfl) ?_
                    refine g_val rfl rfl rfl (y_nilCheck rfl) ?_
                    refine g_val rfl rfl rfl (y_fieldAddr (k := 3) (m := 3) rfl (by kernel_rfl) rfl) ?_
                    refine g_val rfl rfl rfl (y_ld 0 rfl Try.isAgg3 rfl rfl) ?_
                    refine g_val rfl rfl rfl (y_lit false (y_ilt rfl rfl) (decide_eq_false (by omega))) ?_
                    refine g_nil (g_then (g_cond_f rfl (g_skip (g_then (g_goto ?_)))))
                    exact g_jump ⟨(l, vq, ts ++ [(litT c)], d), fun x hx => hok x (List.mem_cons_of_mem _ hx), by dsimp only; rw [List.length_append, List.length_singleton]; omega, by dsimp only; omega, by dsimp only; rw [List.length_append, List.length_singleton]; omega, tok_step hR (by unfold tokB; rw [if_neg (by omega), if_neg (fun q => by have := q.1; omega), if_neg (by omega)]) (by first | omega | (dsimp only; omega))⟩ [0] rfl (fun j hj => by cases hj; dsimp only; omega) rfl (fun w h => h.sub (.cons_cons _ (.cons_cons _ .slnil)))
            · skip
              refine g_not rfl rfl rfl ?_
              refine g_not rfl rfl rfl ?_
              refine g_not rfl rfl rfl ?_
              refine g_not rfl rfl rfl ?_
              refine g_not rfl rfl rfl ?_
              refine g_val rfl rfl rfl (y_pick_f rfl rfl) ?_
              refine g_val rfl rfl rfl (y_move rfl) ?_
              refine g_not rfl rfl rfl ?_
              refine g_not rfl rfl rfl ?_
              refine g_not rfl rfl rfl ?_
              refine g_not rfl rfl rfl ?_
              refine g_not rfl rfl rfl ?_
              refine g_not rfl rfl rfl ?_
              refine g_val rfl rfl rfl (y_pick_f rfl rfl) ?_
              refine g_val rfl rfl rfl (y_assign rfl) ?_
              refine g_nil (g_then (g_cond_f rfl (g_seq (g_ops ?_))))
              refine g_val rfl rfl rfl (y_move rfl) ?_
              refine g_val rfl rfl rfl (y_ieq rfl rfl) ?_
              refine g_val rfl rfl rfl (y_assign rfl) ?_
              refine g_nil (g_then ?_)
              first | refine g_casep 117 rfl (fun h12 => ?_) (fun h12 => ?_) | refine g_caseb 117 rfl (fun h12 => ?_) (fun h12 => ?_)
              · skip
                refine g_cond_t rfl (g_ops ?_)
                refine g_val rfl rfl rfl (y_move rfl) ?_
                refine g_val rfl rfl rfl (y_build (offs := [0, 6]) rfl Try.zeroValue64 (by kernel_rfl)) ?_
                refine g_callAll (fun _ : Value => .tuple #[]) (fun v' => [.cells b 50 [(st8 l), (.bool false), v', (.int .i64 (d))], .row 64 7 v' (ts ++ [(timesT 0 (-1))]).length ((ts ++ [(timesT 0 (-1))]).flatMap tC)]) rfl rfl rfl Try.call23 (fun w F' hS => put_any b (st8 l) (.bool false) (.int .i64 (d)) v ts (timesT 0 (-1)) F' w (by first | omega | (simp only [List.length_append, List.length_singleton]; omega)) hS) (fun vq => ?_)
                refine g_nil (g_in_normal (g_then (g_seq (g_seq (g_ops ?_)))))
                refine g_val rfl rfl rfl (y_move rfl) ?_
                refine g_val rfl rfl rfl (y_nilCheck rfl) ?_
                refine g_val rfl rfl rfl (y_fieldAddr (k := 3) (m := 3) rfl (by kernel_rfl) rfl) ?_
                refine g_val rfl rfl rfl (y_ld 0 rfl Try.isAgg3 rfl rfl) ?_
                refine g_val rfl rfl rfl (y_lit false (y_ilt rfl rfl) (decide_eq_false (by omega))) ?_
                refine g_nil (g_then (g_cond_f rfl (g_skip (g_then (g_goto ?_)))))
                exact g_jump ⟨(l, vq, ts ++ [(timesT 0 (-1))], d), fun x hx => hok x (List.mem_cons_of_mem _ hx), by dsimp only; rw [List.length_append, List.length_singleton]; omega, by dsimp only; omega, by dsimp only; rw [List.length_append, List.length_singleton]; omega, tok_step hR (by unfold tokB; rw [if_neg (by omega), if_neg (fun q => by have := q.2; simp_all), if_pos (by omega)]) (by first | omega | (dsimp only; omega))⟩ [0] rfl (fun j hj => by cases hj; dsimp only; omega) rfl (fun w h => h.sub (.cons_cons _ (.cons_cons _ .slnil)))
              · skip
                refine g_cond_f rfl (g_seq (g_ops ?_))
                refine g_val rfl rfl rfl (y_move rfl) ?_
                refine g_val rfl rfl rfl (y_nilCheck rfl) ?_
                refine g_val rfl rfl rfl (y_fieldAddr (k := 1) (m := 1) rfl (by kernel_rfl) rfl) ?_
                refine g_val rfl rfl rfl (y_ld 0 rfl Try.isAgg4 rfl rfl) ?_
                refine g_val rfl rfl rfl (y_lit true (y_not rfl) rfl) ?_
                refine g_val rfl rfl rfl (y_assign rfl) ?_
                refine g_nil (g_then (g_cond_t rfl (g_ops ?_)))
                refine g_val rfl rfl rfl (y_move rfl) ?_
                refine g_val rfl rfl rfl (y_move rfl) ?_
                refine g_callAll (fun _ : Value => .tuple #[]) (fun v' => [.cells b 50 [(st8 l), (.bool false), v', (.int .i64 (d))], .row 64 7 v' (ts ++ [litT c]).length ((ts ++ [litT c]).flatMap tC)]) rfl rfl rfl Try.call28 (fun w F' hS => literal_any b (st8 l) (.bool false) (.int .i64 (d)) v ts c F' w (by omega) hS) (fun vq => ?_)
                refine g_nil (g_in_normal (g_then (g_seq (g_seq (g_ops ?_)))))
                refine g_val rfl rfl rfl (y_move rfl) ?_
                refine g_val rfl rfl rfl (y_nilCheck rfl) ?_
                refine g_val rfl rfl rfl (y_fieldAddr (k := 3) (m := 3) rfl (by kernel_rfl) rfl) ?_
                refine g_val rfl rfl rfl (y_ld 0 rfl Try.isAgg3 rfl rfl) ?_
                refine g_val rfl rfl rfl (y_lit false (y_ilt rfl rfl) (decide_eq_false (by omega))) ?_
                refine g_nil (g_then (g_cond_f rfl (g_skip (g_then (g_goto ?_)))))
                exact g_jump ⟨(l, vq, ts ++ [(litT c)], d), fun x hx => hok x (List.mem_cons_of_mem _ hx), by dsimp only; rw [List.length_append, List.length_singleton]; omega, by dsimp only; omega, by dsimp only; rw [List.length_append, List.length_singleton]; omega, tok_step hR (by unfold tokB; rw [if_neg (by omega), if_neg (fun q => by have := q.1; omega), if_neg (by omega)]) (by first | omega | (dsimp only; omega))⟩ [0] rfl (fun j hj => by cases hj; dsimp only; omega) rfl (fun w h => h.sub (.cons_cons _ (.cons_cons _ .slnil)))
  · skip
    intro hp
    refine g_seq (g_ops ?_)
    refine g_val rfl rfl rfl (y_assign rfl) ?_
    refine g_nil (g_then (g_seq (g_label (g_then ?_))))
    exact g_fall (hp (⟨(l0, v0, [], 0), hok0, by simp; omega, by simp, by simp, rfl⟩)) [0] rfl (fun w h => h.sub (.cons_cons _ (.cons_cons _ .slnil)))

set_option maxRecDepth 100000 in
theorem tokens_e (b : Nat) (l0 : List UInt8) (v0 : Value) (hok0 : ∀ c, c ∈ l0 → okC c) (hl0 : l0.length ≤ 400) (F : List Nat) (w : World) (hS0 : St w F [.cells b 50 [st8 l0, .bool true, v0, .int .i64 0], .row 64 7 v0 ([] : List Tok).length (([] : List Tok).flatMap tC)] w) :
    Calls Try.prog 17 #[.pointer (some ⟨b, 0, none⟩)] w fun e w' => ∃ x : {x : Value × List UInt8 × List Tok × Int // ∀ ts, tokF tokE l0 [] 0 = some ts → x.2.2.1 = ts}, e = .returned (.bool (tokF tokE l0 [] 0).isSome) ∧ St w F [.cells b 50 [st8 x.1.2.1, .bool true, x.1.1, .int .i64 x.1.2.2.2], .row 64 7 x.1.1 x.1.2.2.1.length (x.1.2.2.1.flatMap tC)] w' := by
  refine fn_intro_own Try.func17 rfl Try.ntmps17 rfl rfl hS0 ?_
  refine g_seq (g_ops ?_)
  refine g_val rfl rfl rfl (y_assign rfl) ?_
  refine g_nil (g_then ?_)
  refine g_scope_fall (α := {x : List UInt8 × Value × List Tok × Int // (∀ c, c ∈ x.1 → okC c) ∧ x.1.length + x.2.2.1.length ≤ 900 ∧ 0 ≤ x.2.2.2 ∧ x.2.2.2 ≤ x.2.2.1.length ∧ tokF tokE x.1 x.2.2.1 x.2.2.2 = tokF tokE l0 [] 0}) (fun z => match z with | x => [(0, .pointer (some ⟨b, 0, none⟩))]) (fun z => match z with | x => St w F [.cells b 50 [st8 x.1.1, .bool true, x.1.2.1, .int .i64 x.1.2.2.2], .row 64 7 x.1.2.1 x.1.2.2.1.length (x.1.2.2.1.flatMap tC)]) (fun z => match z with | x => 0) (fun z => match z with | x => x.1.1.length) (fun _ => rfl) ?_ ?_
  · intro x
    · skip
      dsimp only
      obtain ⟨⟨rest, v, ts, d⟩, hx⟩ := x
      dsimp only at hx ⊢
      obtain ⟨hok, hlen, hd0, hd1, hR⟩ := hx
      refine g_seq (g_seq ?_)
      rcases rest with _ | ⟨c, l⟩
      · skip
        refine g_ops ?_
        refine g_val rfl rfl rfl (y_move rfl) ?_
        refine g_val rfl rfl rfl (y_nilCheck rfl) ?_
        refine g_val rfl rfl rfl (y_fieldAddr (k := 0) (m := 0) rfl (by kernel_rfl) rfl) ?_
        refine g_val rfl rfl rfl (y_ld 0 rfl Try.isAgg9 rfl rfl) ?_
        refine g_val rfl rfl rfl (y_lit true (y_seq rfl rfl) (decide_eq_true rfl)) ?_
        refine g_nil (g_then (g_cond_t rfl (g_seq (g_ops ?_))))
        refine g_val rfl rfl rfl (y_move rfl) ?_
        refine g_val rfl rfl rfl (y_nilCheck rfl) ?_
        refine g_val rfl rfl rfl (y_fieldAddr (k := 3) (m := 3) rfl (by kernel_rfl) rfl) ?_
        refine g_val rfl rfl rfl (y_ld 0 rfl Try.isAgg3 rfl rfl) ?_
        refine g_val rfl rfl rfl (y_ieq rfl rfl) ?_
        refine g_val rfl rfl rfl (y_assign rfl) ?_
        refine g_nil (g_then (g_ret (g_then_ret (g_jumps_ret ?_))))
        refine g_end1 Try.results17 rfl ?_
        exact fun w hS => ⟨⟨(v, [], ts, d), (tok_end hR).2⟩, ret_bool (tok_end hR).1, hS.sub (.cons_cons _ (.cons_cons _ .slnil))⟩
      · skip
        have hc := hok c (by simp)
        unfold okC at hc
        have hcl := c.toNat_lt
        have hl1 : (c :: l).length = l.length + 1 := rfl
        refine g_ops ?_
        refine g_val rfl rfl rfl (y_move rfl) ?_
        refine g_val rfl rfl rfl (y_nilCheck rfl) ?_
        refine g_val rfl rfl rfl (y_fieldAddr (k := 0) (m := 0) rfl (by kernel_rfl) rfl) ?_
        refine g_val rfl rfl rfl (y_ld 0 rfl Try.isAgg9 rfl rfl) ?_
        refine g_val rfl rfl rfl (y_lit false (y_seq rfl rfl) (decide_eq_false (st8_nil c l))) ?_
        refine g_nil (g_then (g_cond_f rfl (g_skip (g_then (g_seq ?_)))))
        refine a_start (by kernel_rfl) ?_
        refine a_take 0 rfl (by kernel_rfl) (by kernel_rfl) (by kernel_rfl) (fun _ _ _ _ _ h => h) rfl rfl rfl (y_move rfl) ?_
        refine a_take 1 rfl (by kernel_rfl) (by kernel_rfl) (by kernel_rfl) (fun _ _ _ _ _ h => h) rfl rfl rfl (y_move rfl) ?_
        refine a_take 2 rfl (by kernel_rfl) (by kernel_rfl) (by kernel_rfl) (fun _ _ _ _ _ h => h) rfl rfl rfl (y_nilCheck rfl) ?_
        refine a_take 3 rfl (by kernel_rfl) (by kernel_rfl) (by kernel_rfl) (fun _ _ _ _ _ h => h) rfl rfl rfl (y_fieldAddr (k := 0) (m := 0) rfl (by kernel_rfl) rfl) ?_
        refine a_take 6 rfl (by kernel_rfl) (by kernel_rfl) (by kernel_rfl) (fun _ _ _ _ _ h => h) rfl rfl rfl (y_move rfl) ?_
        refine a_take 7 rfl (by kernel_rfl) (by kernel_rfl) (by kernel_rfl) (fun _ _ _ _ _ h => h) rfl rfl rfl (y_nilCheck rfl) ?_
        refine a_take 8 rfl (by kernel_rfl) (by kernel_rfl) (by kernel_rfl) (fun _ _ _ _ _ h => h) rfl rfl rfl (y_fieldAddr (k := 0) (m := 0) rfl (by kernel_rfl) rfl) ?_
        refine a_do2 4 9 (by kernel_rfl) ?_ ?_
        · skip
          refine a_op 4 rfl ?_
          refine g_val rfl rfl rfl (y_ld 0 rfl Try.isAgg9 rfl rfl) ?_
          refine g_nil ?_
          refine a_take (v := .int .u8 (c.toNat : Int)) 5 rfl (by kernel_rfl) (by kernel_rfl) (by kernel_rfl) (fun _ _ _ _ _ h => h) rfl rfl rfl (y_sidx (i := 0) rfl rfl Try.underlying9 (st8_0 c l)) ?_
          refine a_take 11 rfl (by kernel_rfl) (by kernel_rfl) (by kernel_rfl) (fun _ _ _ _ _ h => h) rfl rfl rfl (y_assign rfl) ?_
          refine a_do1 9 (by kernel_rfl) ?_
          refine a_op 9 rfl ?_
          refine g_val rfl rfl rfl (y_ld 0 rfl Try.isAgg9 rfl rfl) ?_
          refine g_nil ?_
          refine a_take (v := st8 l) 10 rfl (by kernel_rfl) (by kernel_rfl) (by kernel_rfl) (fun _ _ _ _ _ h => h) rfl rfl rfl (y_val (y_sfrom (l := 1) rfl rfl Try.underlying9 (by show 1 ≤ (c :: l).toArray.size; simp)) (by rw [st8_1]; rfl)) ?_
          refine a_take 12 rfl (by kernel_rfl) (by kernel_rfl) (by kernel_rfl) (fun _ _ _ _ _ h => h) rfl rfl rfl (y_nilCheck rfl) ?_
          refine a_take 13 rfl (by kernel_rfl) (by kernel_rfl) (by kernel_rfl) (fun _ _ _ _ _ h => h) rfl rfl rfl (y_fieldAddr (k := 0) (m := 0) rfl (by kernel_rfl) rfl) ?_
          refine a_do1 14 (by kernel_rfl) ?_
          refine a_op 14 rfl ?_
          refine g_st 0 rfl rfl rfl Try.sizeOf9 rfl rfl rfl ?_
          simp only [List.set_cons_zero]
          refine g_nil ?_
          refine a_done (by kernel_rfl) ?_
          refine g_then (g_seq (g_block (g_seq (g_ops ?_))))
          refine g_val rfl rfl rfl (y_move rfl) ?_
          refine g_val rfl rfl rfl (y_lit false (y_ieq rfl rfl) (decide_eq_false (by omega))) ?_
          refine g_val rfl rfl rfl (y_assign rfl) ?_
          refine g_nil (g_then (g_cond_f rfl (g_seq (g_ops ?_))))
          refine g_val rfl rfl rfl (y_move rfl) ?_
          refine g_val rfl rfl rfl (y_lit false (y_ieq rfl rfl) (decide_eq_false (by omega))) ?_
          refine g_val rfl rfl rfl (y_assign rfl) ?_
          refine g_nil (g_then (g_cond_f rfl (g_seq (g_ops ?_))))
          refine g_val rfl rfl rfl (y_move rfl) ?_
          refine g_val rfl rfl rfl (y_ieq rfl rfl) ?_
          refine g_val rfl rfl rfl (y_assign rfl) ?_
          refine g_nil (g_then ?_)
          first | refine g_casep 66 rfl (fun h1 => ?_) (fun h1 => ?_) | refine g_caseb 66 rfl (fun h1 => ?_) (fun h1 => ?_)
          · skip
            refine g_cond_t rfl (g_ops ?_)
            refine g_val rfl rfl rfl (y_move rfl) ?_
            refine g_val rfl rfl rfl (y_build (offs := []) rfl Try.zeroValue27 (by kernel_rfl)) ?_
            refine g_call1 rfl rfl rfl Try.call24 (fun w hS => cwith_any s0 0 255 (by decide) (by decide) w) ?_
            refine g_val rfl rfl rfl (y_build (offs := [0, 1]) rfl Try.zeroValue64 (by kernel_rfl)) ?_
            refine g_callAll (fun _ : Value => .tuple #[]) (fun v' => [.cells b 50 [(st8 l), (.bool true), v', (.int .i64 (d))], .row 64 7 v' (ts ++ [dotT]).length ((ts ++ [dotT]).flatMap tC)]) rfl rfl rfl Try.call23 (fun w F' hS => put_any b (st8 l) (.bool true) (.int .i64 (d)) v ts dotT F' w (by first | omega | (simp only [List.length_append, List.length_singleton]; omega)) hS) (fun vq => ?_)
            refine g_nil (g_in_normal (g_then (g_seq (g_seq (g_ops ?_)))))
            refine g_val rfl rfl rfl (y_move rfl) ?_
            refine g_val rfl rfl rfl (y_nilCheck rfl) ?_
            refine g_val rfl rfl rfl (y_fieldAddr (k := 3) (m := 3) rfl (by kernel_rfl) rfl) ?_
            refine g_val rfl rfl rfl (y_ld 0 rfl Try.isAgg3 rfl rfl) ?_
            refine g_val rfl rfl rfl (y_lit false (y_ilt rfl rfl) (decide_eq_false (by omega))) ?_
            refine g_nil (g_then (g_cond_f rfl (g_skip (g_then (g_goto ?_)))))
            exact g_jump ⟨(l, vq, ts ++ [dotT], d), fun x hx => hok x (List.mem_cons_of_mem _ hx), by dsimp only; rw [List.length_append, List.length_singleton]; omega, by dsimp only; omega, by dsimp only; rw [List.length_append, List.length_singleton]; omega, tok_step hR (by unfold tokE; rw [if_pos (by omega)]) (by first | omega | (dsimp only; omega))⟩ [0] rfl (fun j hj => by cases hj; dsimp only; omega) rfl (fun w h => h.sub (.cons_cons _ (.cons_cons _ .slnil)))
          · skip
            refine g_cond_f rfl (g_seq (g_ops ?_))
            refine g_val rfl rfl rfl (y_move rfl) ?_
            refine g_val rfl rfl rfl (y_lit false (y_ieq rfl rfl) (decide_eq_false (by omega))) ?_
            refine g_val rfl rfl rfl (y_move rfl) ?_
            refine g_not rfl rfl rfl ?_
            refine g_not rfl rfl rfl ?_
            refine g_not rfl rfl rfl ?_
            refine g_val rfl rfl rfl (y_pick_f rfl rfl) ?_
            refine g_val rfl rfl rfl (y_assign rfl) ?_
            refine g_nil (g_then (g_cond_f rfl (g_seq (g_ops ?_))))
            refine g_val rfl rfl rfl (y_move rfl) ?_
            refine g_val rfl rfl rfl (y_lit false (y_ieq rfl rfl) (decide_eq_false (by omega))) ?_
            refine g_val rfl rfl rfl (y_move rfl) ?_
            refine g_not rfl rfl rfl ?_
            refine g_not rfl rfl rfl ?_
            refine g_not rfl rfl rfl ?_
            refine g_val rfl rfl rfl (y_pick_f rfl rfl) ?_
            refine g_val rfl rfl rfl (y_assign rfl) ?_
            refine g_nil (g_then (g_cond_f rfl (g_seq (g_ops ?_))))
            refine g_val rfl rfl rfl (y_move rfl) ?_
            refine g_val rfl rfl rfl (y_ieq rfl rfl) ?_
            refine g_val rfl rfl rfl (y_move rfl) ?_
            first | refine g_casep 99 rfl (fun h2 => ?_) (fun h2 => ?_) | refine g_caseb 99 rfl (fun h2 => ?_) (fun h2 => ?_)
            · skip
              refine g_val rfl rfl rfl (y_move rfl) ?_
              refine g_val rfl rfl rfl (y_nilCheck rfl) ?_
              refine g_val rfl rfl rfl (y_fieldAddr (k := 1) (m := 1) rfl (by kernel_rfl) rfl) ?_
              refine g_val rfl rfl rfl (y_ld 0 rfl Try.isAgg4 rfl rfl) ?_
              refine g_val rfl rfl rfl (y_lit false (y_not rfl) rfl) ?_
              refine g_val rfl rfl rfl (y_pick_t rfl rfl) ?_
              refine g_val rfl rfl rfl (y_move rfl) ?_
              refine g_not rfl rfl rfl ?_
              refine g_not rfl rfl rfl ?_
              refine g_not rfl rfl rfl ?_
              refine g_not rfl rfl rfl ?_
              refine g_not rfl rfl rfl ?_
              refine g_not rfl rfl rfl ?_
              refine g_val rfl rfl rfl (y_pick_f rfl rfl) ?_
              refine g_val rfl rfl rfl (y_assign rfl) ?_
              refine g_nil (g_then (g_cond_f rfl (g_seq (g_ops ?_))))
              refine g_val rfl rfl rfl (y_move rfl) ?_
              refine g_val rfl rfl rfl (y_ieq rfl rfl) ?_
              refine g_val rfl rfl rfl (y_assign rfl) ?_
              refine g_nil (g_then ?_)
              first | refine g_casep 117 rfl (fun h3 => ?_) (fun h3 => ?_) | refine g_caseb 117 rfl (fun h3 => ?_) (fun h3 => ?_)
              · skip
                refine g_cond_t rfl (g_ops ?_)
                refine g_val rfl rfl rfl (y_move rfl) ?_
                refine g_val rfl rfl rfl (y_build (offs := [0, 6]) rfl Try.zeroValue64 (by kernel_rfl)) ?_
                refine g_callAll (fun _ : Value => .tuple #[]) (fun v' => [.cells b 50 [(st8 l), (.bool true), v', (.int .i64 (d))], .row 64 7 v' (ts ++ [(timesT 0 (-1))]).length ((ts ++ [(timesT 0 (-1))]).flatMap tC)]) rfl rfl rfl Try.call23 (fun w F' hS => put_any b (st8 l) (.bool true) (.int .i64 (d)) v ts (timesT 0 (-1)) F' w (by first | omega | (simp only [List.length_append, List.length_singleton]; omega)) hS) (fun vq => ?_)
                refine g_nil (g_in_normal (g_then (g_seq (g_seq (g_ops ?_)))))
                refine g_val rfl rfl rfl (y_move rfl) ?_
                refine g_val rfl rfl rfl (y_nilCheck rfl) ?_
                refine g_val rfl rfl rfl (y_fieldAddr (k := 3) (m := 3) rfl (by kernel_rfl) rfl) ?_
                refine g_val rfl rfl rfl (y_ld 0 rfl Try.isAgg3 rfl rfl) ?_
                refine g_val rfl rfl rfl (y_lit false (y_ilt rfl rfl) (decide_eq_false (by omega))) ?_
                refine g_nil (g_then (g_cond_f rfl (g_skip (g_then (g_goto ?_)))))
                exact g_jump ⟨(l, vq, ts ++ [(timesT 0 (-1))], d), fun x hx => hok x (List.mem_cons_of_mem _ hx), by dsimp only; rw [List.length_append, List.length_singleton]; omega, by dsimp only; omega, by dsimp only; rw [List.length_append, List.length_singleton]; omega, tok_step hR (by unfold tokE; rw [if_neg (by omega), if_pos (by omega)]) (by first | omega | (dsimp only; omega))⟩ [0] rfl (fun j hj => by cases hj; dsimp only; omega) rfl (fun w h => h.sub (.cons_cons _ (.cons_cons _ .slnil)))
              · skip
                refine g_cond_f rfl (g_seq (g_ops ?_))
                refine g_val rfl rfl rfl (y_move rfl) ?_
                refine g_val rfl rfl rfl (y_nilCheck rfl) ?_
                refine g_val rfl rfl rfl (y_fieldAddr (k := 1) (m := 1) rfl (by kernel_rfl) rfl) ?_
                refine g_val rfl rfl rfl (y_ld 0 rfl Try.isAgg4 rfl rfl) ?_
                refine g_val rfl rfl rfl (y_lit false (y_not rfl) rfl) ?_
                refine g_val rfl rfl rfl (y_assign rfl) ?_
                refine g_nil (g_then (g_cond_f rfl (g_seq (g_ops ?_))))
                refine g_val rfl rfl rfl (y_move rfl) ?_
                refine g_val rfl rfl rfl (y_ieq rfl rfl) ?_
                refine g_val rfl rfl rfl (y_assign rfl) ?_
                refine g_nil (g_then ?_)
                first | refine g_casep 132 rfl (fun h4 => ?_) (fun h4 => ?_) | refine g_caseb 132 rfl (fun h4 => ?_) (fun h4 => ?_)
                · skip
                  refine g_cond_t rfl (g_ops ?_)
                  refine g_val rfl rfl rfl (y_move rfl) ?_
                  refine g_val rfl rfl rfl (y_build (offs := [0, 5, 6]) rfl Try.zeroValue64 (by kernel_rfl)) ?_
                  refine g_callAll (fun _ : Value => .tuple #[]) (fun v' => [.cells b 50 [(st8 l), (.bool true), v', (.int .i64 (d))], .row 64 7 v' (ts ++ [(timesT 1 (-1))]).length ((ts ++ [(timesT 1 (-1))]).flatMap tC)]) rfl rfl rfl Try.call23 (fun w F' hS => put_any b (st8 l) (.bool true) (.int .i64 (d)) v ts (timesT 1 (-1)) F' w (by first | omega | (simp only [List.length_append, List.length_singleton]; omega)) hS) (fun vq => ?_)
                  refine g_nil (g_in_normal (g_then (g_seq (g_seq (g_ops ?_)))))
                  refine g_val rfl rfl rfl (y_move rfl) ?_
                  refine g_val rfl rfl rfl (y_nilCheck rfl) ?_
                  refine g_val rfl rfl rfl (y_fieldAddr (k := 3) (m := 3) rfl (by kernel_rfl) rfl) ?_
                  refine g_val rfl rfl rfl (y_ld 0 rfl Try.isAgg3 rfl rfl) ?_
                  refine g_val rfl rfl rfl (y_lit false (y_ilt rfl rfl) (decide_eq_false (by omega))) ?_
                  refine g_nil (g_then (g_cond_f rfl (g_skip (g_then (g_goto ?_)))))
                  exact g_jump ⟨(l, vq, ts ++ [(timesT 1 (-1))], d), fun x hx => hok x (List.mem_cons_of_mem _ hx), by dsimp only; rw [List.length_append, List.length_singleton]; omega, by dsimp only; omega, by dsimp only; rw [List.length_append, List.length_singleton]; omega, tok_step hR (by unfold tokE; rw [if_neg (by omega), if_neg (by omega), if_pos (by omega)]) (by first | omega | (dsimp only; omega))⟩ [0] rfl (fun j hj => by cases hj; dsimp only; omega) rfl (fun w h => h.sub (.cons_cons _ (.cons_cons _ .slnil)))
                · skip
                  refine g_cond_f rfl (g_seq (g_ops ?_))
                  refine g_val rfl rfl rfl (y_move rfl) ?_
                  refine g_val rfl rfl rfl (y_ieq rfl rfl) ?_
                  refine g_val rfl rfl rfl (y_assign rfl) ?_
                  refine g_nil (g_then ?_)
                  first | refine g_casep 138 rfl (fun h5 => ?_) (fun h5 => ?_) | refine g_caseb 138 rfl (fun h5 => ?_) (fun h5 => ?_)
                  · skip
                    refine g_cond_t rfl (g_ops ?_)
                    refine g_val rfl rfl rfl (y_move rfl) ?_
                    refine g_val rfl rfl rfl (y_build (offs := [0, 6]) rfl Try.zeroValue64 (by kernel_rfl)) ?_
                    refine g_callAll (fun _ : Value => .tuple #[]) (fun v' => [.cells b 50 [(st8 l), (.bool true), v', (.int .i64 (d))], .row 64 7 v' (ts ++ [(timesT 0 1)]).length ((ts ++ [(timesT 0 1)]).flatMap tC)]) rfl rfl rfl Try.call23 (fun w F' hS => put_any b (st8 l) (.bool true) (.int .i64 (d)) v ts (timesT 0 1) F' w (by first | omega | (simp only [List.length_append, List.length_singleton]; omega)) hS) (fun vq => ?_)
                    refine g_nil (g_in_normal (g_then (g_seq (g_seq (g_ops ?_)))))
                    refine g_val rfl rfl rfl (y_move rfl) ?_
                    refine g_val rfl rfl rfl (y_nilCheck rfl) ?_
                    refine g_val rfl rfl rfl (y_fieldAddr (k := 3) (m := 3) rfl (by kernel_rfl) rfl) ?_
                    refine g_val rfl rfl rfl (y_ld 0 rfl Try.isAgg3 rfl rfl) ?_
                    refine g_val rfl rfl rfl (y_lit false (y_ilt rfl rfl) (decide_eq_false (by omega))) ?_
                    refine g_nil (g_then (g_cond_f rfl (g_skip (g_then (g_goto ?_)))))
                    exact g_jump ⟨(l, vq, ts ++ [(timesT 0 1)], d), fun x hx => hok x (List.mem_cons_of_mem _ hx), by dsimp only; rw [List.length_append, List.length_singleton]; omega, by dsimp only; omega, by dsimp only; rw [List.length_append, List.length_singleton]; omega, tok_step hR (by unfold tokE; rw [if_neg (by omega), if_neg (by omega), if_neg (by omega), if_pos (by omega)]) (by first | omega | (dsimp only; omega))⟩ [0] rfl (fun j hj => by cases hj; dsimp only; omega) rfl (fun w h => h.sub (.cons_cons _ (.cons_cons _ .slnil)))
                  · skip
                    refine g_cond_f rfl (g_seq (g_ops ?_))
                    refine g_val rfl rfl rfl (y_move rfl) ?_
                    refine g_val rfl rfl rfl (y_lit false (y_ieq rfl rfl) (decide_eq_false (by omega))) ?_
                    refine g_val rfl rfl rfl (y_assign rfl) ?_
                    refine g_nil (g_then (g_cond_f rfl (g_seq (g_ops ?_))))
                    refine g_val rfl rfl rfl (y_move rfl) ?_
                    refine g_val rfl rfl rfl (y_ieq rfl rfl) ?_
                    refine g_val rfl rfl rfl (y_assign rfl) ?_
                    refine g_nil (g_then ?_)
                    first | refine g_casep 150 rfl (fun h6 => ?_) (fun h6 => ?_) | refine g_caseb 150 rfl (fun h6 => ?_) (fun h6 => ?_)
                    · skip
                      refine g_cond_t rfl (g_seq (g_ops ?_))
                      refine g_val rfl rfl rfl (y_move rfl) ?_
                      refine g_val rfl rfl rfl (y_nilCheck rfl) ?_
                      refine g_val rfl rfl rfl (y_fieldAddr (k := 3) (m := 3) rfl (by kernel_rfl) rfl) ?_
                      refine g_val rfl rfl rfl (y_ld 0 rfl Try.isAgg3 rfl rfl) ?_
                      refine g_val rfl rfl rfl (by first | exact y_addi rfl rfl (by first | omega | (simp only [size_mk, ByteArray.size_append, ByteArray.size_extract]; omega)) | exact y_iadd rfl rfl) ?_
                      refine g_val rfl rfl rfl (y_nilCheck rfl) ?_
                      refine g_val rfl rfl rfl (y_fieldAddr (k := 3) (m := 3) rfl (by kernel_rfl) rfl) ?_
                      refine g_st 0 rfl rfl rfl Try.sizeOf3 rfl rfl rfl ?_
                      simp only [List.set_cons_zero]
                      refine g_nil (g_then (g_ops ?_))
                      refine g_val rfl rfl rfl (y_move rfl) ?_
                      refine g_val rfl rfl rfl (y_build (offs := [0]) rfl Try.zeroValue64 (by kernel_rfl)) ?_
                      refine g_callAll (fun _ : Value => .tuple #[]) (fun v' => [.cells b 50 [(st8 l), (.bool true), v', (.int .i64 (d + 1))], .row 64 7 v' (ts ++ [(kT 1)]).length ((ts ++ [(kT 1)]).flatMap tC)]) rfl rfl rfl Try.call23 (fun w F' hS => put_any b (st8 l) (.bool true) (.int .i64 (d + 1)) v ts (kT 1) F' w (by first | omega | (simp only [List.length_append, List.length_singleton]; omega)) hS) (fun vq => ?_)
                      refine g_nil (g_in_normal (g_then (g_seq (g_seq (g_ops ?_)))))
                      refine g_val rfl rfl rfl (y_move rfl) ?_
                      refine g_val rfl rfl rfl (y_nilCheck rfl) ?_
                      refine g_val rfl rfl rfl (y_fieldAddr (k := 3) (m := 3) rfl (by kernel_rfl) rfl) ?_
                      refine g_val rfl rfl rfl (y_ld 0 rfl Try.isAgg3 rfl rfl) ?_
                      refine g_val rfl rfl rfl (y_lit false (y_ilt rfl rfl) (decide_eq_false (by omega))) ?_
                      refine g_nil (g_then (g_cond_f rfl (g_skip (g_then (g_goto ?_)))))
                      exact g_jump ⟨(l, vq, ts ++ [(kT 1)], d + 1), fun x hx => hok x (List.mem_cons_of_mem _ hx), by dsimp only; rw [List.length_append, List.length_singleton]; omega, by dsimp only; omega, by dsimp only; rw [List.length_append, List.length_singleton]; omega, tok_step hR (by unfold tokE; rw [if_neg (by omega), if_neg (by omega), if_neg (by omega), if_neg (by omega), if_pos (by omega)]) (by first | omega | (dsimp only; omega))⟩ [0] rfl (fun j hj => by cases hj; dsimp only; omega) rfl (fun w h => h.sub (.cons_cons _ (.cons_cons _ .slnil)))
                    · skip
                      refine g_cond_f rfl (g_seq (g_ops ?_))
                      refine g_val rfl rfl rfl (y_move rfl) ?_
                      refine g_val rfl rfl rfl (y_ieq rfl rfl) ?_
                      refine g_val rfl rfl rfl (y_assign rfl) ?_
                      refine g_nil (g_then ?_)
                      first | refine g_casep 163 rfl (fun h7 => ?_) (fun h7 => ?_) | refine g_caseb 163 rfl (fun h7 => ?_) (fun h7 => ?_)
                      · skip
                        refine g_cond_t rfl (g_seq (g_ops ?_))
                        refine g_val rfl rfl rfl (y_move rfl) ?_
                        refine g_val rfl rfl rfl (y_nilCheck rfl) ?_
                        refine g_val rfl rfl rfl (y_fieldAddr (k := 3) (m := 3) rfl (by kernel_rfl) rfl) ?_
                        refine g_val rfl rfl rfl (y_ld 0 rfl Try.isAgg3 rfl rfl) ?_
                        refine g_val rfl rfl rfl (by first | exact y_subi rfl rfl (by first | omega | (simp only [size_mk, ByteArray.size_append, ByteArray.size_extract]; omega)) | exact y_isub rfl rfl) ?_
                        refine g_val rfl rfl rfl (y_nilCheck rfl) ?_
                        refine g_val rfl rfl rfl (y_fieldAddr (k := 3) (m := 3) rfl (by kernel_rfl) rfl) ?_
                        refine g_st 0 rfl rfl rfl Try.sizeOf3 rfl rfl rfl ?_
                        simp only [List.set_cons_zero]
                        refine g_nil (g_then (g_ops ?_))
                        refine g_val rfl rfl rfl (y_move rfl) ?_
                        refine g_val rfl rfl rfl (y_build (offs := [0]) rfl Try.zeroValue64 (by kernel_rfl)) ?_
                        refine g_callAll (fun _ : Value => .tuple #[]) (fun v' => [.cells b 50 [(st8 l), (.bool true), v', (.int .i64 (d - 1))], .row 64 7 v' (ts ++ [(kT 2)]).length ((ts ++ [(kT 2)]).flatMap tC)]) rfl rfl rfl Try.call23 (fun w F' hS => put_any b (st8 l) (.bool true) (.int .i64 (d - 1)) v ts (kT 2) F' w (by first | omega | (simp only [List.length_append, List.length_singleton]; omega)) hS) (fun vq => ?_)
                        refine g_nil (g_in_normal (g_then (g_seq (g_seq (g_ops ?_)))))
                        refine g_val rfl rfl rfl (y_move rfl) ?_
                        refine g_val rfl rfl rfl (y_nilCheck rfl) ?_
                        refine g_val rfl rfl rfl (y_fieldAddr (k := 3) (m := 3) rfl (by kernel_rfl) rfl) ?_
                        refine g_val rfl rfl rfl (y_ld 0 rfl Try.isAgg3 rfl rfl) ?_
                        refine g_val rfl rfl rfl (y_ilt rfl rfl) ?_
                        refine g_nil (g_then ?_)
                        first | refine g_casep 186 rfl (fun h8 => ?_) (fun h8 => ?_) | refine g_caseb 186 rfl (fun h8 => ?_) (fun h8 => ?_)
                        · skip
                          refine g_cond_t rfl (g_seq (g_ops ?_))
                          refine g_val rfl rfl rfl (y_assign rfl) ?_
                          refine g_nil (g_then (g_ret (g_then_ret (g_jumps_ret ?_))))
                          refine g_end1 Try.results17 rfl ?_
                          have hq := tok_stop hR (by unfold tokE; rw [if_neg (by omega), if_neg (by omega), if_neg (by omega), if_neg (by omega), if_neg (by omega), if_pos (by omega)]) (by omega)
                          exact fun w hS => ⟨⟨(_, l, ts ++ [(kT 2)], d - 1), fun ts' q => by rw [hq] at q; cases q⟩, ret_bool (by rw [hq]; rfl), hS.sub (.cons_cons _ (.cons_cons _ .slnil))⟩
                        · skip
                          refine g_cond_f rfl (g_skip (g_then (g_goto ?_)))
                          exact g_jump ⟨(l, vq, ts ++ [(kT 2)], d - 1), fun x hx => hok x (List.mem_cons_of_mem _ hx), by dsimp only; rw [List.length_append, List.length_singleton]; omega, by dsimp only; omega, by dsimp only; rw [List.length_append, List.length_singleton]; omega, tok_step hR (by unfold tokE; rw [if_neg (by omega), if_neg (by omega), if_neg (by omega), if_neg (by omega), if_neg (by omega), if_pos (by omega)]) (by first | omega | (dsimp only; omega))⟩ [0] rfl (fun j hj => by cases hj; dsimp only; omega) rfl (fun w h => h.sub (.cons_cons _ (.cons_cons _ .slnil)))
                      · skip
                        refine g_cond_f rfl (g_seq (g_ops ?_))
                        refine g_val rfl rfl rfl (y_move rfl) ?_
                        refine g_val rfl rfl rfl (y_ieq rfl rfl) ?_
                        refine g_val rfl rfl rfl (y_assign rfl) ?_
                        refine g_nil (g_then ?_)
                        first | refine g_casep 176 rfl (fun h9 => ?_) (fun h9 => ?_) | refine g_caseb 176 rfl (fun h9 => ?_) (fun h9 => ?_)
                        · skip
                          refine g_cond_t rfl (g_ops ?_)
                          refine g_val rfl rfl rfl (y_move rfl) ?_
                          refine g_val rfl rfl rfl (y_build (offs := [0]) rfl Try.zeroValue64 (by kernel_rfl)) ?_
                          refine g_callAll (fun _ : Value => .tuple #[]) (fun v' => [.cells b 50 [(st8 l), (.bool true), v', (.int .i64 (d))], .row 64 7 v' (ts ++ [(kT 3)]).length ((ts ++ [(kT 3)]).flatMap tC)]) rfl rfl rfl Try.call23 (fun w F' hS => put_any b (st8 l) (.bool true) (.int .i64 (d)) v ts (kT 3) F' w (by first | omega | (simp only [List.length_append, List.length_singleton]; omega)) hS) (fun vq => ?_)
                          refine g_nil (g_in_normal (g_then (g_seq (g_seq (g_ops ?_)))))
                          refine g_val rfl rfl rfl (y_move rfl) ?_
                          refine g_val rfl rfl rfl (y_nilCheck rfl) ?_
                          refine g_val rfl rfl rfl (y_fieldAddr (k := 3) (m := 3) rfl (by kernel_rfl) rfl) ?_
                          refine g_val rfl rfl rfl (y_ld 0 rfl Try.isAgg3 rfl rfl) ?_
                          refine g_val rfl rfl rfl (y_lit false (y_ilt rfl rfl) (decide_eq_false (by omega))) ?_
                          refine g_nil (g_then (g_cond_f rfl (g_skip (g_then (g_goto ?_)))))
                          exact g_jump ⟨(l, vq, ts ++ [(kT 3)], d), fun x hx => hok x (List.mem_cons_of_mem _ hx), by dsimp only; rw [List.length_append, List.length_singleton]; omega, by dsimp only; omega, by dsimp only; rw [List.length_append, List.length_singleton]; omega, tok_step hR (by unfold tokE; rw [if_neg (by omega), if_neg (by omega), if_neg (by omega), if_neg (by omega), if_neg (by omega), if_neg (by omega), if_pos (by omega)]) (by first | omega | (dsimp only; omega))⟩ [0] rfl (fun j hj => by cases hj; dsimp only; omega) rfl (fun w h => h.sub (.cons_cons _ (.cons_cons _ .slnil)))
                        · skip
                          refine g_cond_f rfl (g_ops ?_)
                          refine g_val rfl rfl rfl (y_move rfl) ?_
                          refine g_val rfl rfl rfl (y_move rfl) ?_
                          refine g_callAll (fun _ : Value => .tuple #[]) (fun v' => [.cells b 50 [(st8 l), (.bool true), v', (.int .i64 (d))], .row 64 7 v' (ts ++ [litT c]).length ((ts ++ [litT c]).flatMap tC)]) rfl rfl rfl Try.call28 (fun w F' hS => literal_any b (st8 l) (.bool true) (.int .i64 (d)) v ts c F' w (by omega) hS) (fun vq => ?_)
                          refine g_nil (g_in_normal (g_then (g_seq (g_seq (g_ops ?_)))))
                          refine g_val rfl rfl rfl (y_move rfl) ?_
                          refine g_val rfl rfl rfl (y_nilCheck rfl) ?_
                          refine g_val rfl rfl rfl (y_fieldAddr (k := 3) (m := 3) rfl (by kernel_rfl) rfl) ?_
                          refine g_val rfl rfl rfl (y_ld 0 rfl Try.isAgg3 rfl rfl) ?_
                          refine g_val rfl rfl rfl (y_lit false (y_ilt rfl rfl) (decide_eq_false (by omega))) ?_
                          refine g_nil (g_then (g_cond_f rfl (g_skip (g_then (g_goto ?_)))))
                          exact g_jump ⟨(l, vq, ts ++ [(litT c)], d), fun x hx => hok x (List.mem_cons_of_mem _ hx), by dsimp only; rw [List.length_append, List.length_singleton]; omega, by dsimp only; omega, by dsimp only; rw [List.length_append, List.length_singleton]; omega, tok_step hR (by unfold tokE; rw [if_neg (by omega), if_neg (by omega), if_neg (by omega), if_neg (by omega), if_neg (by omega), if_neg (by omega), if_neg (by omega)]) (by first | omega | (dsimp only; omega))⟩ [0] rfl (fun j hj => by cases hj; dsimp only; omega) rfl (fun w h => h.sub (.cons_cons _ (.cons_cons _ .slnil)))
            · skip
              refine g_not rfl rfl rfl ?_
              refine g_not rfl rfl rfl ?_
              refine g_not rfl rfl rfl ?_
              refine g_not rfl rfl rfl ?_
              refine g_not rfl rfl rfl ?_
              refine g_val rfl rfl rfl (y_pick_f rfl rfl) ?_
              refine g_val rfl rfl rfl (y_move rfl) ?_
              refine g_not rfl rfl rfl ?_
              refine g_not rfl rfl rfl ?_
              refine g_not rfl rfl rfl ?_
              refine g_not rfl rfl rfl ?_
              refine g_not rfl rfl rfl ?_
              refine g_not rfl rfl rfl ?_
              refine g_val rfl rfl rfl (y_pick_f rfl rfl) ?_
              refine g_val rfl rfl rfl (y_assign rfl) ?_
              refine g_nil (g_then (g_cond_f rfl (g_seq (g_ops ?_))))
              refine g_val rfl rfl rfl (y_move rfl) ?_
              refine g_val rfl rfl rfl (y_ieq rfl rfl) ?_
              refine g_val rfl rfl rfl (y_assign rfl) ?_
              refine g_nil (g_then ?_)
              first | refine g_casep 117 rfl (fun h10 => ?_) (fun h10 => ?_) | refine g_caseb 117 rfl (fun h10 => ?_) (fun h10 => ?_)
              · skip
                refine g_cond_t rfl (g_ops ?_)
                refine g_val rfl rfl rfl (y_move rfl) ?_
                refine g_val rfl rfl rfl (y_build (offs := [0, 6]) rfl Try.zeroValue64 (by kernel_rfl)) ?_
                refine g_callAll (fun _ : Value => .tuple #[]) (fun v' => [.cells b 50 [(st8 l), (.bool true), v', (.int .i64 (d))], .row 64 7 v' (ts ++ [(timesT 0 (-1))]).length ((ts ++ [(timesT 0 (-1))]).flatMap tC)]) rfl rfl rfl Try.call23 (fun w F' hS => put_any b (st8 l) (.bool true) (.int .i64 (d)) v ts (timesT 0 (-1)) F' w (by first | omega | (simp only [List.length_append, List.length_singleton]; omega)) hS) (fun vq => ?_)
                refine g_nil (g_in_normal (g_then (g_seq (g_seq (g_ops ?_)))))
                refine g_val rfl rfl rfl (y_move rfl) ?_
                refine g_val rfl rfl rfl (y_nilCheck rfl) ?_
                refine g_val rfl rfl rfl (y_fieldAddr (k := 3) (m := 3) rfl (by kernel_rfl) rfl) ?_
                refine g_val rfl rfl rfl (y_ld 0 rfl Try.isAgg3 rfl rfl) ?_
                refine g_val rfl rfl rfl (y_lit false (y_ilt rfl rfl) (decide_eq_false (by omega))) ?_
                refine g_nil (g_then (g_cond_f rfl (g_skip (g_then (g_goto ?_)))))
                exact g_jump ⟨(l, vq, ts ++ [(timesT 0 (-1))], d), fun x hx => hok x (List.mem_cons_of_mem _ hx), by dsimp only; rw [List.length_append, List.length_singleton]; omega, by dsimp only; omega, by dsimp only; rw [List.length_append, List.length_singleton]; omega, tok_step hR (by unfold tokE; rw [if_neg (by omega), if_pos (by omega)]) (by first | omega | (dsimp only; omega))⟩ [0] rfl (fun j hj => by cases hj; dsimp only; omega) rfl (fun w h => h.sub (.cons_cons _ (.cons_cons _ .slnil)))
              · skip
                refine g_cond_f rfl (g_seq (g_ops ?_))
                refine g_val rfl rfl rfl (y_move rfl) ?_
                refine g_val rfl rfl rfl (y_nilCheck rfl) ?_
                refine g_val rfl rfl rfl (y_fieldAddr (k := 1) (m := 1) rfl (by kernel_rfl) rfl) ?_
                refine g_val rfl rfl rfl (y_ld 0 rfl Try.isAgg4 rfl rfl) ?_
                refine g_val rfl rfl rfl (y_lit false (y_not rfl) rfl) ?_
                refine g_val rfl rfl rfl (y_assign rfl) ?_
                refine g_nil (g_then (g_cond_f rfl (g_seq (g_ops ?_))))
                refine g_val rfl rfl rfl (y_move rfl) ?_
                refine g_val rfl rfl rfl (y_ieq rfl rfl) ?_
                refine g_val rfl rfl rfl (y_assign rfl) ?_
                refine g_nil (g_then ?_)
                first | refine g_casep 132 rfl (fun h11 => ?_) (fun h11 => ?_) | refine g_caseb 132 rfl (fun h11 => ?_) (fun h11 => ?_)
                · skip
                  refine g_cond_t rfl (g_ops ?_)
                  refine g_val rfl rfl rfl (y_move rfl) ?_
                  refine g_val rfl rfl rfl (y_build (offs := [0, 5, 6]) rfl Try.zeroValue64 (by kernel_rfl)) ?_
                  refine g_callAll (fun _ : Value => .tuple #[]) (fun v' => [.cells b 50 [(st8 l), (.bool true), v', (.int .i64 (d))], .row 64 7 v' (ts ++ [(timesT 1 (-1))]).length ((ts ++ [(timesT 1 (-1))]).flatMap tC)]) rfl rfl rfl Try.call23 (fun w F' hS => put_any b (st8 l) (.bool true) (.int .i64 (d)) v ts (timesT 1 (-1)) F' w (by first | omega | (simp only [List.length_append, List.length_singleton]; omega)) hS) (fun vq => ?_)
                  refine g_nil (g_in_normal (g_then (g_seq (g_seq (g_ops ?_)))))
                  refine g_val rfl rfl rfl (y_move rfl) ?_
                  refine g_val rfl rfl rfl (y_nilCheck rfl) ?_
                  refine g_val rfl rfl rfl (y_fieldAddr (k := 3) (m := 3) rfl (by kernel_rfl) rfl) ?_
                  refine g_val rfl rfl rfl (y_ld 0 rfl Try.isAgg3 rfl rfl) ?_
                  refine g_val rfl rfl rfl (y_lit false (y_ilt rfl rfl) (decide_eq_false (by omega))) ?_
                  refine g_nil (g_then (g_cond_f rfl (g_skip (g_then (g_goto ?_)))))
                  exact g_jump ⟨(l, vq, ts ++ [(timesT 1 (-1))], d), fun x hx => hok x (List.mem_cons_of_mem _ hx), by dsimp only; rw [List.length_append, List.length_singleton]; omega, by dsimp only; omega, by dsimp only; rw [List.length_append, List.length_singleton]; omega, tok_step hR (by unfold tokE; rw [if_neg (by omega), if_neg (by omega), if_pos (by omega)]) (by first | omega | (dsimp only; omega))⟩ [0] rfl (fun j hj => by cases hj; dsimp only; omega) rfl (fun w h => h.sub (.cons_cons _ (.cons_cons _ .slnil)))
                · skip
                  refine g_cond_f rfl (g_seq (g_ops ?_))
                  refine g_val rfl rfl rfl (y_move rfl) ?_
                  refine g_val rfl rfl rfl (y_ieq rfl rfl) ?_
                  refine g_val rfl rfl rfl (y_assign rfl) ?_
                  refine g_nil (g_then ?_)
                  first | refine g_casep 138 rfl (fun h12 => ?_) (fun h12 => ?_) | refine g_caseb 138 rfl (fun h12 => ?_) (fun h12 => ?_)
                  · skip
                    refine g_cond_t rfl (g_ops ?_)
                    refine g_val rfl rfl rfl (y_move rfl) ?_
                    refine g_val rfl rfl rfl (y_build (offs := [0, 6]) rfl Try.zeroValue64 (by kernel_rfl)) ?_
                    refine g_callAll (fun _ : Value => .tuple #[]) (fun v' => [.cells b 50 [(st8 l), (.bool true), v', (.int .i64 (d))], .row 64 7 v' (ts ++ [(timesT 0 1)]).length ((ts ++ [(timesT 0 1)]).flatMap tC)]) rfl rfl rfl Try.call23 (fun w F' hS => put_any b (st8 l) (.bool true) (.int .i64 (d)) v ts (timesT 0 1) F' w (by first | omega | (simp only [List.length_append, List.length_singleton]; omega)) hS) (fun vq => ?_)
                    refine g_nil (g_in_normal (g_then (g_seq (g_seq (g_ops ?_)))))
                    refine g_val rfl rfl rfl (y_move rfl) ?_
                    refine g_val rfl rfl rfl (y_nilCheck rfl) ?_
                    refine g_val rfl rfl rfl (y_fieldAddr (k := 3) (m := 3) rfl (by kernel_rfl) rfl) ?_
                    refine g_val rfl rfl rfl (y_ld 0 rfl Try.isAgg3 rfl rfl) ?_
                    refine g_val rfl rfl rfl (y_lit false (y_ilt rfl rfl) (decide_eq_false (by omega))) ?_
                    refine g_nil (g_then (g_cond_f rfl (g_skip (g_then (g_goto ?_)))))
                    exact g_jump ⟨(l, vq, ts ++ [(timesT 0 1)], d), fun x hx => hok x (List.mem_cons_of_mem _ hx), by dsimp only; rw [List.length_append, List.length_singleton]; omega, by dsimp only; omega, by dsimp only; rw [List.length_append, List.length_singleton]; omega, tok_step hR (by unfold tokE; rw [if_neg (by omega), if_neg (by omega), if_neg (by omega), if_pos (by omega)]) (by first | omega | (dsimp only; omega))⟩ [0] rfl (fun j hj => by cases hj; dsimp only; omega) rfl (fun w h => h.sub (.cons_cons _ (.cons_cons _ .slnil)))
                  · skip
                    refine g_cond_f rfl (g_seq (g_ops ?_))
                    refine g_val rfl rfl rfl (y_move rfl) ?_
                    refine g_val rfl rfl rfl (y_lit false (y_ieq rfl rfl) (decide_eq_false (by omega))) ?_
                    refine g_val rfl rfl rfl (y_assign rfl) ?_
                    refine g_nil (g_then (g_cond_f rfl (g_seq (g_ops ?_))))
                    refine g_val rfl rfl rfl (y_move rfl) ?_
                    refine g_val rfl rfl rfl (y_ieq rfl rfl) ?_
                    refine g_val rfl rfl rfl (y_assign rfl) ?_
                    refine g_nil (g_then ?_)
                    first | refine g_casep 150 rfl (fun h13 => ?_) (fun h13 => ?_) | refine g_caseb 150 rfl (fun h13 => ?_) (fun h13 => ?_)
                    · skip
                      refine g_cond_t rfl (g_seq (g_ops ?_))
                      refine g_val rfl rfl rfl (y_move rfl) ?_
                      refine g_val rfl rfl rfl (y_nilCheck rfl) ?_
                      refine g_val rfl rfl rfl (y_fieldAddr (k := 3) (m := 3) rfl (by kernel_rfl) rfl) ?_
                      refine g_val rfl rfl rfl (y_ld 0 rfl Try.isAgg3 rfl rfl) ?_
                      refine g_val rfl rfl rfl (by first | exact y_addi rfl rfl (by first | omega | (simp only [size_mk, ByteArray.size_append, ByteArray.size_extract]; omega)) | exact y_iadd rfl rfl) ?_
                      refine g_val rfl rfl rfl (y_nilCheck rfl) ?_
                      refine g_val rfl rfl rfl (y_fieldAddr (k := 3) (m := 3) rfl (by kernel_rfl) rfl) ?_
                      refine g_st 0 rfl rfl rfl Try.sizeOf3 rfl rfl rfl ?_
                      simp only [List.set_cons_zero]
                      refine g_nil (g_then (g_ops ?_))
                      refine g_val rfl rfl rfl (y_move rfl) ?_
                      refine g_val rfl rfl rfl (y_build (offs := [0]) rfl Try.zeroValue64 (by kernel_rfl)) ?_
                      refine g_callAll (fun _ : Value => .tuple #[]) (fun v' => [.cells b 50 [(st8 l), (.bool true), v', (.int .i64 (d + 1))], .row 64 7 v' (ts ++ [(kT 1)]).length ((ts ++ [(kT 1)]).flatMap tC)]) rfl rfl rfl Try.call23 (fun w F' hS => put_any b (st8 l) (.bool true) (.int .i64 (d + 1)) v ts (kT 1) F' w (by first | omega | (simp only [List.length_append, List.length_singleton]; omega)) hS) (fun vq => ?_)
                      refine g_nil (g_in_normal (g_then (g_seq (g_seq (g_ops ?_)))))
                      refine g_val rfl rfl rfl (y_move rfl) ?_
                      refine g_val rfl rfl rfl (y_nilCheck rfl) ?_
                      refine g_val rfl rfl rfl (y_fieldAddr (k := 3) (m := 3) rfl (by kernel_rfl) rfl) ?_
                      refine g_val rfl rfl rfl (y_ld 0 rfl Try.isAgg3 rfl rfl) ?_
                      refine g_val rfl rfl rfl (y_lit false (y_ilt rfl rfl) (decide_eq_false (by omega))) ?_
                      refine g_nil (g_then (g_cond_f rfl (g_skip (g_then (g_goto ?_)))))
                      exact g_jump ⟨(l, vq, ts ++ [(kT 1)], d + 1), fun x hx => hok x (List.mem_cons_of_mem _ hx), by dsimp only; rw [List.length_append, List.length_singleton]; omega, by dsimp only; omega, by dsimp only; rw [List.length_append, List.length_singleton]; omega, tok_step hR (by unfold tokE; rw [if_neg (by omega), if_neg (by omega), if_neg (by omega), if_neg (by omega), if_pos (by omega)]) (by first | omega | (dsimp only; omega))⟩ [0] rfl (fun j hj => by cases hj; dsimp only; omega) rfl (fun w h => h.sub (.cons_cons _ (.cons_cons _ .slnil)))
                    · skip
                      refine g_cond_f rfl (g_seq (g_ops ?_))
                      refine g_val rfl rfl rfl (y_move rfl) ?_
                      refine g_val rfl rfl rfl (y_ieq rfl rfl) ?_
                      refine g_val rfl rfl rfl (y_assign rfl) ?_
                      refine g_nil (g_then ?_)
                      first | refine g_casep 163 rfl (fun h14 => ?_) (fun h14 => ?_) | refine g_caseb 163 rfl (fun h14 => ?_) (fun h14 => ?_)
                      · skip
                        refine g_cond_t rfl (g_seq (g_ops ?_))
                        refine g_val rfl rfl rfl (y_move rfl) ?_
                        refine g_val rfl rfl rfl (y_nilCheck rfl) ?_
                        refine g_val rfl rfl rfl (y_fieldAddr (k := 3) (m := 3) rfl (by kernel_rfl) rfl) ?_
                        refine g_val rfl rfl rfl (y_ld 0 rfl Try.isAgg3 rfl rfl) ?_
                        refine g_val rfl rfl rfl (by first | exact y_subi rfl rfl (by first | omega | (simp only [size_mk, ByteArray.size_append, ByteArray.size_extract]; omega)) | exact y_isub rfl rfl) ?_
                        refine g_val rfl rfl rfl (y_nilCheck rfl) ?_
                        refine g_val rfl rfl rfl (y_fieldAddr (k := 3) (m := 3) rfl (by kernel_rfl) rfl) ?_
                        refine g_st 0 rfl rfl rfl Try.sizeOf3 rfl rfl rfl ?_
                        simp only [List.set_cons_zero]
                        refine g_nil (g_then (g_ops ?_))
                        refine g_val rfl rfl rfl (y_move rfl) ?_
                        refine g_val rfl rfl rfl (y_build (offs := [0]) rfl Try.zeroValue64 (by kernel_rfl)) ?_
                        refine g_callAll (fun _ : Value => .tuple #[]) (fun v' => [.cells b 50 [(st8 l), (.bool true), v', (.int .i64 (d - 1))], .row 64 7 v' (ts ++ [(kT 2)]).length ((ts ++ [(kT 2)]).flatMap tC)]) rfl rfl rfl Try.call23 (fun w F' hS => put_any b (st8 l) (.bool true) (.int .i64 (d - 1)) v ts (kT 2) F' w (by first | omega | (simp only [List.length_append, List.length_singleton]; omega)) hS) (fun vq => ?_)
                        refine g_nil (g_in_normal (g_then (g_seq (g_seq (g_ops ?_)))))
                        refine g_val rfl rfl rfl (y_move rfl) ?_
                        refine g_val rfl rfl rfl (y_nilCheck rfl) ?_
                        refine g_val rfl rfl rfl (y_fieldAddr (k := 3) (m := 3) rfl (by kernel_rfl) rfl) ?_
                        refine g_val rfl rfl rfl (y_ld 0 rfl Try.isAgg3 rfl rfl) ?_
                        refine g_val rfl rfl rfl (y_ilt rfl rfl) ?_
                        refine g_nil (g_then ?_)
                        first | refine g_casep 186 rfl (fun h15 => ?_) (fun h15 => ?_) | refine g_caseb 186 rfl (fun h15 => ?_) (fun h15 => ?_)
                        · skip
                          refine g_cond_t rfl (g_seq (g_ops ?_))
                          refine g_val rfl rfl rfl (y_assign rfl) ?_
                          refine g_nil (g_then (g_ret (g_then_ret (g_jumps_ret ?_))))
                          refine g_end1 Try.results17 rfl ?_
                          have hq := tok_stop hR (by unfold tokE; rw [if_neg (by omega), if_neg (by omega), if_neg (by omega), if_neg (by omega), if_neg (by omega), if_pos (by omega)]) (by omega)
                          exact fun w hS => ⟨⟨(_, l, ts ++ [(kT 2)], d - 1), fun ts' q => by rw [hq] at q; cases q⟩, ret_bool (by rw [hq]; rfl), hS.sub (.cons_cons _ (.cons_cons _ .slnil))⟩
                        · skip
                          refine g_cond_f rfl (g_skip (g_then (g_goto ?_)))
                          exact g_jump ⟨(l, vq, ts ++ [(kT 2)], d - 1), fun x hx => hok x (List.mem_cons_of_mem _ hx), by dsimp only; rw [List.length_append, List.length_singleton]; omega, by dsimp only; omega, by dsimp only; rw [List.length_append, List.length_singleton]; omega, tok_step hR (by unfold tokE; rw [if_neg (by omega), if_neg (by omega), if_neg (by omega), if_neg (by omega), if_neg (by omega), if_pos (by omega)]) (by first | omega | (dsimp only; omega))⟩ [0] rfl (fun j hj => by cases hj; dsimp only; omega) rfl (fun w h => h.sub (.cons_cons _ (.cons_cons _ .slnil)))
                      · skip
                        refine g_cond_f rfl (g_seq (g_ops ?_))
                        refine g_val rfl rfl rfl (y_move rfl) ?_
                        refine g_val rfl rfl rfl (y_ieq rfl rfl) ?_
                        refine g_val rfl rfl rfl (y_assign rfl) ?_
                        refine g_nil (g_then ?_)
                        first | refine g_casep 176 rfl (fun h16 => ?_) (fun h16 => ?_) | refine g_caseb 176 rfl (fun h16 => ?_) (fun h16 => ?_)
                        · skip
                          refine g_cond_t rfl (g_ops ?_)
                          refine g_val rfl rfl rfl (y_move rfl) ?_
                          refine g_val rfl rfl rfl (y_build (offs := [0]) rfl Try.zeroValue64 (by kernel_rfl)) ?_
                          refine g_callAll (fun _ : Value => .tuple #[]) (fun v' => [.cells b 50 [(st8 l), (.bool true), v', (.int .i64 (d))], .row 64 7 v' (ts ++ [(kT 3)]).length ((ts ++ [(kT 3)]).flatMap tC)]) rfl rfl rfl Try.call23 (fun w F' hS => put_any b (st8 l) (.bool true) (.int .i64 (d)) v ts (kT 3) F' w (by first | omega | (simp only [List.length_append, List.length_singleton]; omega)) hS) (fun vq => ?_)
                          refine g_nil (g_in_normal (g_then (g_seq (g_seq (g_ops ?_)))))
                          refine g_val rfl rfl rfl (y_move rfl) ?_
                          refine g_val rfl rfl rfl (y_nilCheck rfl) ?_
                          refine g_val rfl rfl rfl (y_fieldAddr (k := 3) (m := 3) rfl (by kernel_rfl) rfl) ?_
                          refine g_val rfl rfl rfl (y_ld 0 rfl Try.isAgg3 rfl rfl) ?_
                          refine g_val rfl rfl rfl (y_lit false (y_ilt rfl rfl) (decide_eq_false (by omega))) ?_
                          refine g_nil (g_then (g_cond_f rfl (g_skip (g_then (g_goto ?_)))))
                          exact g_jump ⟨(l, vq, ts ++ [(kT 3)], d), fun x hx => hok x (List.mem_cons_of_mem _ hx), by dsimp only; rw [List.length_append, List.length_singleton]; omega, by dsimp only; omega, by dsimp only; rw [List.length_append, List.length_singleton]; omega, tok_step hR (by unfold tokE; rw [if_neg (by omega), if_neg (by omega), if_neg (by omega), if_neg (by omega), if_neg (by omega), if_neg (by omega), if_pos (by omega)]) (by first | omega | (dsimp only; omega))⟩ [0] rfl (fun j hj => by cases hj; dsimp only; omega) rfl (fun w h => h.sub (.cons_cons _ (.cons_cons _ .slnil)))
                        · skip
                          refine g_cond_f rfl (g_ops ?_)
                          refine g_val rfl rfl rfl (y_move rfl) ?_
                          refine g_val rfl rfl rfl (y_move rfl) ?_
                          refine g_callAll (fun _ : Value => .tuple #[]) (fun v' => [.cells b 50 [(st8 l), (.bool true), v', (.int .i64 (d))], .row 64 7 v' (ts ++ [litT c]).length ((ts ++ [litT c]).flatMap tC)]) rfl rfl rfl Try.call28 (fun w F' hS => literal_any b (st8 l) (.bool true) (.int .i64 (d)) v ts c F' w (by omega) hS) (fun vq => ?_)
                          refine g_nil (g_in_normal (g_then (g_seq (g_seq (g_ops ?_)))))
                          refine g_val rfl rfl rfl (y_move rfl) ?_
                          refine g_val rfl rfl rfl (y_nilCheck rfl) ?_
                          refine g_val rfl rfl rfl (y_fieldAddr (k := 3) (m := 3) rfl (by kernel_rfl) rfl) ?_
                          refine g_val rfl rfl rfl (y_ld 0 rfl Try.isAgg3 rfl rfl) ?_
                          refine g_val rfl rfl rfl (y_lit false (y_ilt rfl rfl) (decide_eq_false (by omega))) ?_
                          refine g_nil (g_then (g_cond_f rfl (g_skip (g_then (g_goto ?_)))))
                          exact g_jump ⟨(l, vq, ts ++ [(litT c)], d), fun x hx => hok x (List.mem_cons_of_mem _ hx), by dsimp only; rw [List.length_append, List.length_singleton]; omega, by dsimp only; omega, by dsimp only; rw [List.length_append, List.length_singleton]; omega, tok_step hR (by unfold tokE; rw [if_neg (by omega), if_neg (by omega), if_neg (by omega), if_neg (by omega), if_neg (by omega), if_neg (by omega), if_neg (by omega)]) (by first | omega | (dsimp only; omega))⟩ [0] rfl (fun j hj => by cases hj; dsimp only; omega) rfl (fun w h => h.sub (.cons_cons _ (.cons_cons _ .slnil)))
        · skip
          refine a_op 9 rfl ?_
          refine g_val rfl rfl rfl (y_ld 0 rfl Try.isAgg9 rfl rfl) ?_
          refine g_nil ?_
          refine a_take (v := st8 l) 10 rfl (by kernel_rfl) (by kernel_rfl) (by kernel_rfl) (fun _ _ _ _ _ h => h) rfl rfl rfl (y_val (y_sfrom (l := 1) rfl rfl Try.underlying9 (by show 1 ≤ (c :: l).toArray.size; simp)) (by rw [st8_1]; rfl)) ?_
          refine a_do1 4 (by kernel_rfl) ?_
          refine a_op 4 rfl ?_
          refine g_val rfl rfl rfl (y_ld 0 rfl Try.isAgg9 rfl rfl) ?_
          refine g_nil ?_
          refine a_take (v := .int .u8 (c.toNat : Int)) 5 rfl (by kernel_rfl) (by kernel_rfl) (by kernel_rfl) (fun _ _ _ _ _ h => h) rfl rfl rfl (y_sidx (i := 0) rfl rfl Try.underlying9 (st8_0 c l)) ?_
          refine a_take 11 rfl (by kernel_rfl) (by kernel_rfl) (by kernel_rfl) (fun _ _ _ _ _ h => h) rfl rfl rfl (y_assign rfl) ?_
          refine a_take 12 rfl (by kernel_rfl) (by kernel_rfl) (by kernel_rfl) (fun _ _ _ _ _ h => h) rfl rfl rfl (y_nilCheck rfl) ?_
          refine a_take 13 rfl (by kernel_rfl) (by kernel_rfl) (by kernel_rfl) (fun _ _ _ _ _ h => h) rfl rfl rfl (y_fieldAddr (k := 0) (m := 0) rfl (by kernel_rfl) rfl) ?_
          refine a_do1 14 (by kernel_rfl) ?_
          refine a_op 14 rfl ?_
          refine g_st 0 rfl rfl rfl Try.sizeOf9 rfl rfl rfl ?_
          simp only [List.set_cons_zero]
          refine g_nil ?_
          refine a_done (by kernel_rfl) ?_
          refine g_then (g_seq (g_block (g_seq (g_ops ?_))))
          refine g_val rfl rfl rfl (y_move rfl) ?_
          refine g_val rfl rfl rfl (y_lit false (y_ieq rfl rfl) (decide_eq_false (by omega))) ?_
          refine g_val rfl rfl rfl (y_assign rfl) ?_
          refine g_nil (g_then (g_cond_f rfl (g_seq (g_ops ?_))))
          refine g_val rfl rfl rfl (y_move rfl) ?_
          refine g_val rfl rfl rfl (y_lit false (y_ieq rfl rfl) (decide_eq_false (by omega))) ?_
          refine g_val rfl rfl rfl (y_assign rfl) ?_
          refine g_nil (g_then (g_cond_f rfl (g_seq (g_ops ?_))))
          refine g_val rfl rfl rfl (y_move rfl) ?_
          refine g_val rfl rfl rfl (y_ieq rfl rfl) ?_
          refine g_val rfl rfl rfl (y_assign rfl) ?_
          refine g_nil (g_then ?_)
          first | refine g_casep 66 rfl (fun h17 => ?_) (fun h17 => ?_) | refine g_caseb 66 rfl (fun h17 => ?_) (fun h17 => ?_)
          · skip
            refine g_cond_t rfl (g_ops ?_)
            refine g_val rfl rfl rfl (y_move rfl) ?_
            refine g_val rfl rfl rfl (y_build (offs := []) rfl Try.zeroValue27 (by kernel_rfl)) ?_
            refine g_call1 rfl rfl rfl Try.call24 (fun w hS => cwith_any s0 0 255 (by decide) (by decide) w) ?_
            refine g_val rfl rfl rfl (y_build (offs := [0, 1]) rfl Try.zeroValue64 (by kernel_rfl)) ?_
            refine g_callAll (fun _ : Value => .tuple #[]) (fun v' => [.cells b 50 [(st8 l), (.bool true), v', (.int .i64 (d))], .row 64 7 v' (ts ++ [dotT]).length ((ts ++ [dotT]).flatMap tC)]) rfl rfl rfl Try.call23 (fun w F' hS => put_any b (st8 l) (.bool true) (.int .i64 (d)) v ts dotT F' w (by first | omega | (simp only [List.length_append, List.length_singleton]; omega)) hS) (fun vq => ?_)
            refine g_nil (g_in_normal (g_then (g_seq (g_seq (g_ops ?_)))))
            refine g_val rfl rfl rfl (y_move rfl) ?_
            refine g_val rfl rfl rfl (y_nilCheck rfl) ?_
            refine g_val rfl rfl rfl (y_fieldAddr (k := 3) (m := 3) rfl (by kernel_rfl) rfl) ?_
            refine g_val rfl rfl rfl (y_ld 0 rfl Try.isAgg3 rfl rfl) ?_
            refine g_val rfl rfl rfl (y_lit false (y_ilt rfl rfl) (decide_eq_false (by omega))) ?_
            refine g_nil (g_then (g_cond_f rfl (g_skip (g_then (g_goto ?_)))))
            exact g_jump ⟨(l, vq, ts ++ [dotT], d), fun x hx => hok x (List.mem_cons_of_mem _ hx), by dsimp only; rw [List.length_append, List.length_singleton]; omega, by dsimp only; omega, by dsimp only; rw [List.length_append, List.length_singleton]; omega, tok_step hR (by unfold tokE; rw [if_pos (by omega)]) (by first | omega | (dsimp only; omega))⟩ [0] rfl (fun j hj => by cases hj; dsimp only; omega) rfl (fun w h => h.sub (.cons_cons _ (.cons_cons _ .slnil)))
          · skip
            refine g_cond_f rfl (g_seq (g_ops ?_))
            refine g_val rfl rfl rfl (y_move rfl) ?_
            refine g_val rfl rfl rfl (y_lit false (y_ieq rfl rfl) (decide_eq_false (by omega))) ?_
            refine g_val rfl rfl rfl (y_move rfl) ?_
            refine g_not rfl rfl rfl ?_
            refine g_not rfl rfl rfl ?_
            refine g_not rfl rfl rfl ?_
            refine g_val rfl rfl rfl (y_pick_f rfl rfl) ?_
            refine g_val rfl rfl rfl (y_assign rfl) ?_
            refine g_nil (g_then (g_cond_f rfl (g_seq (g_ops ?_))))
            refine g_val rfl rfl rfl (y_move rfl) ?_
            refine g_val rfl rfl rfl (y_lit false (y_ieq rfl rfl) (decide_eq_false (by omega))) ?_
            refine g_val rfl rfl rfl (y_move rfl) ?_
            refine g_not rfl rfl rfl ?_
            refine g_not rfl rfl rfl ?_
            refine g_not rfl rfl rfl ?_
            refine g_val rfl rfl rfl (y_pick_f rfl rfl) ?_
            refine g_val rfl rfl rfl (y_assign rfl) ?_
            refine g_nil (g_then (g_cond_f rfl (g_seq (g_ops ?_))))
            refine g_val rfl rfl rfl (y_move rfl) ?_
            refine g_val rfl rfl rfl (y_ieq rfl rfl) ?_
            refine g_val rfl rfl rfl (y_move rfl) ?_
            first | refine g_casep 99 rfl (fun h18 => ?_) (fun h18 => ?_) | refine g_caseb 99 rfl (fun h18 => ?_) (fun h18 => ?_)
            · skip
              refine g_val rfl rfl rfl (y_move rfl) ?_
              refine g_val rfl rfl rfl (y_nilCheck rfl) ?_
              refine g_val rfl rfl rfl (y_fieldAddr (k := 1) (m := 1) rfl (by kernel_rfl) rfl) ?_
              refine g_val rfl rfl rfl (y_ld 0 rfl Try.isAgg4 rfl rfl) ?_
              refine g_val rfl rfl rfl (y_lit false (y_not rfl) rfl) ?_
              refine g_val rfl rfl rfl (y_pick_t rfl rfl) ?_
              refine g_val rfl rfl rfl (y_move rfl) ?_
              refine g_not rfl rfl rfl ?_
              refine g_not rfl rfl rfl ?_
              refine g_not rfl rfl rfl ?_
              refine g_not rfl rfl rfl ?_
              refine g_not rfl rfl rfl ?_
              refine g_not rfl rfl rfl ?_
              refine g_val rfl rfl rfl (y_pick_f rfl rfl) ?_
              refine g_val rfl rfl rfl (y_assign rfl) ?_
              refine g_nil (g_then (g_cond_f rfl (g_seq (g_ops ?_))))
              refine g_val rfl rfl rfl (y_move rfl) ?_
              refine g_val rfl rfl rfl (y_ieq rfl rfl) ?_
              refine g_val rfl rfl rfl (y_assign rfl) ?_
              refine g_nil (g_then ?_)
              first | refine g_casep 117 rfl (fun h19 => ?_) (fun h19 => ?_) | refine g_caseb 117 rfl (fun h19 => ?_) (fun h19 => ?_)
              · skip
                refine g_cond_t rfl (g_ops ?_)
                refine g_val rfl rfl rfl (y_move rfl) ?_
                refine g_val rfl rfl rfl (y_build (offs := [0, 6]) rfl Try.zeroValue64 (by kernel_rfl)) ?_
                refine g_callAll (fun _ : Value => .tuple #[]) (fun v' => [.cells b 50 [(st8 l), (.bool true), v', (.int .i64 (d))], .row 64 7 v' (ts ++ [(timesT 0 (-1))]).length ((ts ++ [(timesT 0 (-1))]).flatMap tC)]) rfl rfl rfl Try.call23 (fun w F' hS => put_any b (st8 l) (.bool true) (.int .i64 (d)) v ts (timesT 0 (-1)) F' w (by first | omega | (simp only [List.length_append, List.length_singleton]; omega)) hS) (fun vq => ?_)
                refine g_nil (g_in_normal (g_then (g_seq (g_seq (g_ops ?_)))))
                refine g_val rfl rfl rfl (y_move rfl) ?_
                refine g_val rfl rfl rfl (y_nilCheck rfl) ?_
                refine g_val rfl rfl rfl (y_fieldAddr (k := 3) (m := 3) rfl (by kernel_rfl) rfl) ?_
                refine g_val rfl rfl rfl (y_ld 0 rfl Try.isAgg3 rfl rfl) ?_
                refine g_val rfl rfl rfl (y_lit false (y_ilt rfl rfl) (decide_eq_false (by omega))) ?_
                refine g_nil (g_then (g_cond_f rfl (g_skip (g_then (g_goto ?_)))))
                exact g_jump ⟨(l, vq, ts ++ [(timesT 0 (-1))], d), fun x hx => hok x (List.mem_cons_of_mem _ hx), by dsimp only; rw [List.length_append, List.length_singleton]; omega, by dsimp only; omega, by dsimp only; rw [List.length_append, List.length_singleton]; omega, tok_step hR (by unfold tokE; rw [if_neg (by omega), if_pos (by omega)]) (by first | omega | (dsimp only; omega))⟩ [0] rfl (fun j hj => by cases hj; dsimp only; omega) rfl (fun w h => h.sub (.cons_cons _ (.cons_cons _ .slnil)))
              · skip
                refine g_cond_f rfl (g_seq (g_ops ?_))
                refine g_val rfl rfl rfl (y_move rfl) ?_
                refine g_val rfl rfl rfl (y_nilCheck rfl) ?_
                refine g_val rfl rfl rfl (y_fieldAddr (k := 1) (m := 1) rfl (by kernel_rfl) rfl) ?_
                refine g_val rfl rfl rfl (y_ld 0 rfl Try.isAgg4 rfl rfl) ?_
                refine g_val rfl rfl rfl (y_lit false (y_not rfl) rfl) ?_
                refine g_val rfl rfl rfl (y_assign rfl) ?_
                refine g_nil (g_then (g_cond_f rfl (g_seq (g_ops ?_))))
                refine g_val rfl rfl rfl (y_move rfl) ?_
                refine g_val rfl rfl rfl (y_ieq rfl rfl) ?_
                refine g_val rfl rfl rfl (y_assign rfl) ?_
                refine g_nil (g_then ?_)
                first | refine g_casep 132 rfl (fun h20 => ?_) (fun h20 => ?_) | refine g_caseb 132 rfl (fun h20 => ?_) (fun h20 => ?_)
                · skip
                  refine g_cond_t rfl (g_ops ?_)
                  refine g_val rfl rfl rfl (y_move rfl) ?_
                  refine g_val rfl rfl rfl (y_build (offs := [0, 5, 6]) rfl Try.zeroValue64 (by kernel_rfl)) ?_
                  refine g_callAll (fun _ : Value => .tuple #[]) (fun v' => [.cells b 50 [(st8 l), (.bool true), v', (.int .i64 (d))], .row 64 7 v' (ts ++ [(timesT 1 (-1))]).length ((ts ++ [(timesT 1 (-1))]).flatMap tC)]) rfl rfl rfl Try.call23 (fun w F' hS => put_any b (st8 l) (.bool true) (.int .i64 (d)) v ts (timesT 1 (-1)) F' w (by first | omega | (simp only [List.length_append, List.length_singleton]; omega)) hS) (fun vq => ?_)
                  refine g_nil (g_in_normal (g_then (g_seq (g_seq (g_ops ?_)))))
                  refine g_val rfl rfl rfl (y_move rfl) ?_
                  refine g_val rfl rfl rfl (y_nilCheck rfl) ?_
                  refine g_val rfl rfl rfl (y_fieldAddr (k := 3) (m := 3) rfl (by kernel_rfl) rfl) ?_
                  refine g_val rfl rfl rfl (y_ld 0 rfl Try.isAgg3 rfl rfl) ?_
                  refine g_val rfl rfl rfl (y_lit false (y_ilt rfl rfl) (decide_eq_false (by omega))) ?_
                  refine g_nil (g_then (g_cond_f rfl (g_skip (g_then (g_goto ?_)))))
                  exact g_jump ⟨(l, vq, ts ++ [(timesT 1 (-1))], d), fun x hx => hok x (List.mem_cons_of_mem _ hx), by dsimp only; rw [List.length_append, List.length_singleton]; omega, by dsimp only; omega, by dsimp only; rw [List.length_append, List.length_singleton]; omega, tok_step hR (by unfold tokE; rw [if_neg (by omega), if_neg (by omega), if_pos (by omega)]) (by first | omega | (dsimp only; omega))⟩ [0] rfl (fun j hj => by cases hj; dsimp only; omega) rfl (fun w h => h.sub (.cons_cons _ (.cons_cons _ .slnil)))
                · skip
                  refine g_cond_f rfl (g_seq (g_ops ?_))
                  refine g_val rfl rfl rfl (y_move rfl) ?_
                  refine g_val rfl rfl rfl (y_ieq rfl rfl) ?_
                  refine g_val rfl rfl rfl (y_assign rfl) ?_
                  refine g_nil (g_then ?_)
                  first | refine g_casep 138 rfl (fun h21 => ?_) (fun h21 => ?_) | refine g_caseb 138 rfl (fun h21 => ?_) (fun h21 => ?_)
                  · skip
                    refine g_cond_t rfl (g_ops ?_)
                    refine g_val rfl rfl rfl (y_move rfl) ?_
                    refine g_val rfl rfl rfl (y_build (offs := [0, 6]) rfl Try.zeroValue64 (by kernel_rfl)) ?_
                    refine g_callAll (fun _ : Value => .tuple #[]) (fun v' => [.cells b 50 [(st8 l), (.bool true), v', (.int .i64 (d))], .row 64 7 v' (ts ++ [(timesT 0 1)]).length ((ts ++ [(timesT 0 1)]).flatMap tC)]) rfl rfl rfl Try.call23 (fun w F' hS => put_any b (st8 l) (.bool true) (.int .i64 (d)) v ts (timesT 0 1) F' w (by first | omega | (simp only [List.length_append, List.length_singleton]; omega)) hS) (fun vq => ?_)
                    refine g_nil (g_in_normal (g_then (g_seq (g_seq (g_ops ?_)))))
                    refine g_val rfl rfl rfl (y_move rfl) ?_
                    refine g_val rfl rfl rfl (y_nilCheck rfl) ?_
                    refine g_val rfl rfl rfl (y_fieldAddr (k := 3) (m := 3) rfl (by kernel_rfl) rfl) ?_
                    refine g_val rfl rfl rfl (y_ld 0 rfl Try.isAgg3 rfl rfl) ?_
                    refine g_val rfl rfl rfl (y_lit false (y_ilt rfl rfl) (decide_eq_false (by omega))) ?_
                    refine g_nil (g_then (g_cond_f rfl (g_skip (g_then (g_goto ?_)))))
                    exact g_jump ⟨(l, vq, ts ++ [(timesT 0 1)], d), fun x hx => hok x (List.mem_cons_of_mem _ hx), by dsimp only; rw [List.length_append, List.length_singleton]; omega, by dsimp only; omega, by dsimp only; rw [List.length_append, List.length_singleton]; omega, tok_step hR (by unfold tokE; rw [if_neg (by omega), if_neg (by omega), if_neg (by omega), if_pos (by omega)]) (by first | omega | (dsimp only; omega))⟩ [0] rfl (fun j hj => by cases hj; dsimp only; omega) rfl (fun w h => h.sub (.cons_cons _ (.cons_cons _ .slnil)))
                  · skip
                    refine g_cond_f rfl (g_seq (g_ops ?_))
                    refine g_val rfl rfl rfl (y_move rfl) ?_
                    refine g_val rfl rfl rfl (y_lit false (y_ieq rfl rfl) (decide_eq_false (by omega))) ?_
                    refine g_val rfl rfl rfl (y_assign rfl) ?_
                    refine g_nil (g_then (g_cond_f rfl (g_seq (g_ops ?_))))
                    refine g_val rfl rfl rfl (y_move rfl) ?_
                    refine g_val rfl rfl rfl (y_ieq rfl rfl) ?_
                    refine g_val rfl rfl rfl (y_assign rfl) ?_
                    refine g_nil (g_then ?_)
                    first | refine g_casep 150 rfl (fun h22 => ?_) (fun h22 => ?_) | refine g_caseb 150 rfl (fun h22 => ?_) (fun h22 => ?_)
                    · skip
                      refine g_cond_t rfl (g_seq (g_ops ?_))
                      refine g_val rfl rfl rfl (y_move rfl) ?_
                      refine g_val rfl rfl rfl (y_nilCheck rfl) ?_
                      refine g_val rfl rfl rfl (y_fieldAddr (k := 3) (m := 3) rfl (by kernel_rfl) rfl) ?_
                      refine g_val rfl rfl rfl (y_ld 0 rfl Try.isAgg3 rfl rfl) ?_
                      refine g_val rfl rfl rfl (by first | exact y_addi rfl rfl (by first | omega | (simp only [size_mk, ByteArray.size_append, ByteArray.size_extract]; omega)) | exact y_iadd rfl rfl) ?_
                      refine g_val rfl rfl rfl (y_nilCheck rfl) ?_
                      refine g_val rfl rfl rfl (y_fieldAddr (k := 3) (m := 3) rfl (by kernel_rfl) rfl) ?_
                      refine g_st 0 rfl rfl rfl Try.sizeOf3 rfl rfl rfl ?_
                      simp only [List.set_cons_zero]
                      refine g_nil (g_then (g_ops ?_))
                      refine g_val rfl rfl rfl (y_move rfl) ?_
                      refine g_val rfl rfl rfl (y_build (offs := [0]) rfl Try.zeroValue64 (by kernel_rfl)) ?_
                      refine g_callAll (fun _ : Value => .tuple #[]) (fun v' => [.cells b 50 [(st8 l), (.bool true), v', (.int .i64 (d + 1))], .row 64 7 v' (ts ++ [(kT 1)]).length ((ts ++ [(kT 1)]).flatMap tC)]) rfl rfl rfl Try.call23 (fun w F' hS => put_any b (st8 l) (.bool true) (.int .i64 (d + 1)) v ts (kT 1) F' w (by first | omega | (simp only [List.length_append, List.length_singleton]; omega)) hS) (fun vq => ?_)
                      refine g_nil (g_in_normal (g_then (g_seq (g_seq (g_ops ?_)))))
                      refine g_val rfl rfl rfl (y_move rfl) ?_
                      refine g_val rfl rfl rfl (y_nilCheck rfl) ?_
                      refine g_val rfl rfl rfl (y_fieldAddr (k := 3) (m := 3) rfl (by kernel_rfl) rfl) ?_
                      refine g_val rfl rfl rfl (y_ld 0 rfl Try.isAgg3 rfl rfl) ?_
                      refine g_val rfl rfl rfl (y_lit false (y_ilt rfl rfl) (decide_eq_false (by omega))) ?_
                      refine g_nil (g_then (g_cond_f rfl (g_skip (g_then (g_goto ?_)))))
                      exact g_jump ⟨(l, vq, ts ++ [(kT 1)], d + 1), fun x hx => hok x (List.mem_cons_of_mem _ hx), by dsimp only; rw [List.length_append, List.length_singleton]; omega, by dsimp only; omega, by dsimp only; rw [List.length_append, List.length_singleton]; omega, tok_step hR (by unfold tokE; rw [if_neg (by omega), if_neg (by omega), if_neg (by omega), if_neg (by omega), if_pos (by omega)]) (by first | omega | (dsimp only; omega))⟩ [0] rfl (fun j hj => by cases hj; dsimp only; omega) rfl (fun w h => h.sub (.cons_cons _ (.cons_cons _ .slnil)))
                    · skip
                      refine g_cond_f rfl (g_seq (g_ops ?_))
                      refine g_val rfl rfl rfl (y_move rfl) ?_
                      refine g_val rfl rfl rfl (y_ieq rfl rfl) ?_
                      refine g_val rfl rfl rfl (y_assign rfl) ?_
                      refine g_nil (g_then ?_)
                      first | refine g_casep 163 rfl (fun h23 => ?_) (fun h23 => ?_) | refine g_caseb 163 rfl (fun h23 => ?_) (fun h23 => ?_)
                      · skip
                        refine g_cond_t rfl (g_seq (g_ops ?_))
                        refine g_val rfl rfl rfl (y_move rfl) ?_
                        refine g_val rfl rfl rfl (y_nilCheck rfl) ?_
                        refine g_val rfl rfl rfl (y_fieldAddr (k := 3) (m := 3) rfl (by kernel_rfl) rfl) ?_
                        refine g_val rfl rfl rfl (y_ld 0 rfl Try.isAgg3 rfl rfl) ?_
                        refine g_val rfl rfl rfl (by first | exact y_subi rfl rfl (by first | omega | (simp only [size_mk, ByteArray.size_append, ByteArray.size_extract]; omega)) | exact y_isub rfl rfl) ?_
                        refine g_val rfl rfl rfl (y_nilCheck rfl) ?_
                        refine g_val rfl rfl rfl (y_fieldAddr (k := 3) (m := 3) rfl (by kernel_rfl) rfl) ?_
                        refine g_st 0 rfl rfl rfl Try.sizeOf3 rfl rfl rfl ?_
                        simp only [List.set_cons_zero]
                        refine g_nil (g_then (g_ops ?_))
                        refine g_val rfl rfl rfl (y_move rfl) ?_
                        refine g_val rfl rfl rfl (y_build (offs := [0]) rfl Try.zeroValue64 (by kernel_rfl)) ?_
                        refine g_callAll (fun _ : Value => .tuple #[]) (fun v' => [.cells b 50 [(st8 l), (.bool true), v', (.int .i64 (d - 1))], .row 64 7 v' (ts ++ [(kT 2)]).length ((ts ++ [(kT 2)]).flatMap tC)]) rfl rfl rfl Try.call23 (fun w F' hS => put_any b (st8 l) (.bool true) (.int .i64 (d - 1)) v ts (kT 2) F' w (by first | omega | (simp only [List.length_append, List.length_singleton]; omega)) hS) (fun vq => ?_)
                        refine g_nil (g_in_normal (g_then (g_seq (g_seq (g_ops ?_)))))
                        refine g_val rfl rfl rfl (y_move rfl) ?_
                        refine g_val rfl rfl rfl (y_nilCheck rfl) ?_
                        refine g_val rfl rfl rfl (y_fieldAddr (k := 3) (m := 3) rfl (by kernel_rfl) rfl) ?_
                        refine g_val rfl rfl rfl (y_ld 0 rfl Try.isAgg3 rfl rfl) ?_
                        refine g_val rfl rfl rfl (y_ilt rfl rfl) ?_
                        refine g_nil (g_then ?_)
                        first | refine g_casep 186 rfl (fun h24 => ?_) (fun h24 => ?_) | refine g_caseb 186 rfl (fun h24 => ?_) (fun h24 => ?_)
                        · skip
                          refine g_cond_t rfl (g_seq (g_ops ?_))
                          refine g_val rfl rfl rfl (y_assign rfl) ?_
                          refine g_nil (g_then (g_ret (g_then_ret (g_jumps_ret ?_))))
                          refine g_end1 Try.results17 rfl ?_
                          have hq := tok_stop hR (by unfold tokE; rw [if_neg (by omega), if_neg (by omega), if_neg (by omega), if_neg (by omega), if_neg (by omega), if_pos (by omega)]) (by omega)
                          exact fun w hS => ⟨⟨(_, l, ts ++ [(kT 2)], d - 1), fun ts' q => by rw [hq] at q; cases q⟩, ret_bool (by rw [hq]; rfl), hS.sub (.cons_cons _ (.cons_cons _ .slnil))⟩
                        · skip
                          refine g_cond_f rfl (g_skip (g_then (g_goto ?_)))
                          exact g_jump ⟨(l, vq, ts ++ [(kT 2)], d - 1), fun x hx => hok x (List.mem_cons_of_mem _ hx), by dsimp only; rw [List.length_append, List.length_singleton]; omega, by dsimp only; omega, by dsimp only; rw [List.length_append, List.length_singleton]; omega, tok_step hR (by unfold tokE; rw [if_neg (by omega), if_neg (by omega), if_neg (by omega), if_neg (by omega), if_neg (by omega), if_pos (by omega)]) (by first | omega | (dsimp only; omega))⟩ [0] rfl (fun j hj => by cases hj; dsimp only; omega) rfl (fun w h => h.sub (.cons_cons _ (.cons_cons _ .slnil)))
                      · skip
                        refine g_cond_f rfl (g_seq (g_ops ?_))
                        refine g_val rfl rfl rfl (y_move rfl) ?_
                        refine g_val rfl rfl rfl (y_ieq rfl rfl) ?_
                        refine g_val rfl rfl rfl (y_assign rfl) ?_
                        refine g_nil (g_then ?_)
                        first | refine g_casep 176 rfl (fun h25 => ?_) (fun h25 => ?_) | refine g_caseb 176 rfl (fun h25 => ?_) (fun h25 => ?_)
                        · skip
                          refine g_cond_t rfl (g_ops ?_)
                          refine g_val rfl rfl rfl (y_move rfl) ?_
                          refine g_val rfl rfl rfl (y_build (offs := [0]) rfl Try.zeroValue64 (by kernel_rfl)) ?_
                          refine g_callAll (fun _ : Value => .tuple #[]) (fun v' => [.cells b 50 [(st8 l), (.bool true), v', (.int .i64 (d))], .row 64 7 v' (ts ++ [(kT 3)]).length ((ts ++ [(kT 3)]).flatMap tC)]) rfl rfl rfl Try.call23 (fun w F' hS => put_any b (st8 l) (.bool true) (.int .i64 (d)) v ts (kT 3) F' w (by first | omega | (simp only [List.length_append, List.length_singleton]; omega)) hS) (fun vq => ?_)
                          refine g_nil (g_in_normal (g_then (g_seq (g_seq (g_ops ?_)))))
                          refine g_val rfl rfl rfl (y_move rfl) ?_
                          refine g_val rfl rfl rfl (y_nilCheck rfl) ?_
                          refine g_val rfl rfl rfl (y_fieldAddr (k := 3) (m := 3) rfl (by kernel_rfl) rfl) ?_
                          refine g_val rfl rfl rfl (y_ld 0 rfl Try.isAgg3 rfl rfl) ?_
                          refine g_val rfl rfl rfl (y_lit false (y_ilt rfl rfl) (decide_eq_false (by omega))) ?_
                          refine g_nil (g_then (g_cond_f rfl (g_skip (g_then (g_goto ?_)))))
                          exact g_jump ⟨(l, vq, ts ++ [(kT 3)], d), fun x hx => hok x (List.mem_cons_of_mem _ hx), by dsimp only; rw [List.length_append, List.length_singleton]; omega, by dsimp only; omega, by dsimp only; rw [List.length_append, List.length_singleton]; omega, tok_step hR (by unfold tokE; rw [if_neg (by omega), if_neg (by omega), if_neg (by omega), if_neg (by omega), if_neg (by omega), if_neg (by omega), if_pos (by omega)]) (by first | omega | (dsimp only; omega))⟩ [0] rfl (fun j hj => by cases hj; dsimp only; omega) rfl (fun w h => h.sub (.cons_cons _ (.cons_cons _ .slnil)))
                        · skip
                          refine g_cond_f rfl (g_ops ?_)
                          refine g_val rfl rfl rfl (y_move rfl) ?_
                          refine g_val rfl rfl rfl (y_move rfl) ?_
                          refine g_callAll (fun _ : Value => .tuple #[]) (fun v' => [.cells b 50 [(st8 l), (.bool true), v', (.int .i64 (d))], .row 64 7 v' (ts ++ [litT c]).length ((ts ++ [litT c]).flatMap tC)]) rfl rfl rfl Try.call28 (fun w F' hS => literal_any b (st8 l) (.bool true) (.int .i64 (d)) v ts c F' w (by omega) hS) (fun vq => ?_)
                          refine g_nil (g_in_normal (g_then (g_seq (g_seq (g_ops ?_)))))
                          refine g_val rfl rfl rfl (y_move rfl) ?_
                          refine g_val rfl rfl rfl (y_nilCheck rfl) ?_
                          refine g_val rfl rfl rfl (y_fieldAddr (k := 3) (m := 3) rfl (by kernel_rfl) rfl) ?_
                          refine g_val rfl rfl rfl (y_ld 0 rfl Try.isAgg3 rfl rfl) ?_
                          refine g_val rfl rfl rfl (y_lit false (y_ilt rfl rfl) (decide_eq_false (by omega))) ?_
                          refine g_nil (g_then (g_cond_f rfl (g_skip (g_then (g_goto ?_)))))
                          exact g_jump ⟨(l, vq, ts ++ [(litT c)], d), fun x hx => hok x (List.mem_cons_of_mem _ hx), by dsimp only; rw [List.length_append, List.length_singleton]; omega, by dsimp only; omega, by dsimp only; rw [List.length_append, List.length_singleton]; omega, tok_step hR (by unfold tokE; rw [if_neg (by omega), if_neg (by omega), if_neg (by omega), if_neg (by omega), if_neg (by omega), if_neg (by omega), if_neg (by omega)]) (by first | omega | (dsimp only; omega))⟩ [0] rfl (fun j hj => by cases hj; dsimp only; omega) rfl (fun w h => h.sub (.cons_cons _ (.cons_cons _ .slnil)))
            · skip
              refine g_not rfl rfl rfl ?_
              refine g_not rfl rfl rfl ?_
              refine g_not rfl rfl rfl ?_
              refine g_not rfl rfl rfl ?_
              refine g_not rfl rfl rfl ?_
              refine g_val rfl rfl rfl (y_pick_f rfl rfl) ?_
              refine g_val rfl rfl rfl (y_move rfl) ?_
              refine g_not rfl rfl rfl ?_
              refine g_not rfl rfl rfl ?_
              refine g_not rfl rfl rfl ?_
              refine g_not rfl rfl rfl ?_
              refine g_not rfl rfl rfl ?_
              refine g_not rfl rfl rfl ?_
              refine g_val rfl rfl rfl (y_pick_f rfl rfl) ?_
              refine g_val rfl rfl rfl (y_assign rfl) ?_
              refine g_nil (g_then (g_cond_f rfl (g_seq (g_ops ?_))))
              refine g_val rfl rfl rfl (y_move rfl) ?_
              refine g_val rfl rfl rfl (y_ieq rfl rfl) ?_
              refine g_val rfl rfl rfl (y_assign rfl) ?_
              refine g_nil (g_then ?_)
              first | refine g_casep 117 rfl (fun h26 => ?_) (fun h26 => ?_) | refine g_caseb 117 rfl (fun h26 => ?_) (fun h26 => ?_)
              · skip
                refine g_cond_t rfl (g_ops ?_)
                refine g_val rfl rfl rfl (y_move rfl) ?_
                refine g_val rfl rfl rfl (y_build (offs := [0, 6]) rfl Try.zeroValue64 (by kernel_rfl)) ?_
                refine g_callAll (fun _ : Value => .tuple #[]) (fun v' => [.cells b 50 [(st8 l), (.bool true), v', (.int .i64 (d))], .row 64 7 v' (ts ++ [(timesT 0 (-1))]).length ((ts ++ [(timesT 0 (-1))]).flatMap tC)]) rfl rfl rfl Try.call23 (fun w F' hS => put_any b (st8 l) (.bool true) (.int .i64 (d)) v ts (timesT 0 (-1)) F' w (by first | omega | (simp only [List.length_append, List.length_singleton]; omega)) hS) (fun vq => ?_)
                refine g_nil (g_in_normal (g_then (g_seq (g_seq (g_ops ?_)))))
                refine g_val rfl rfl rfl (y_move rfl) ?_
                refine g_val rfl rfl rfl (y_nilCheck rfl) ?_
                refine g_val rfl rfl rfl (y_fieldAddr (k := 3) (m := 3) rfl (by kernel_rfl) rfl) ?_
                refine g_val rfl rfl rfl (y_ld 0 rfl Try.isAgg3 rfl rfl) ?_
                refine g_val rfl rfl rfl (y_lit false (y_ilt rfl rfl) (decide_eq_false (by omega))) ?_
                refine g_nil (g_then (g_cond_f rfl (g_skip (g_then (g_goto ?_)))))
                exact g_jump ⟨(l, vq, ts ++ [(timesT 0 (-1))], d), fun x hx => hok x (List.mem_cons_of_mem _ hx), by dsimp only; rw [List.length_append, List.length_singleton]; omega, by dsimp only; omega, by dsimp only; rw [List.length_append, List.length_singleton]; omega, tok_step hR (by unfold tokE; rw [if_neg (by omega), if_pos (by omega)]) (by first | omega | (dsimp only; omega))⟩ [0] rfl (fun j hj => by cases hj; dsimp only; omega) rfl (fun w h => h.sub (.cons_cons _ (.cons_cons _ .slnil)))
              · skip
                refine g_cond_f rfl (g_seq (g_ops ?_))
                refine g_val rfl rfl rfl (y_move rfl) ?_
                refine g_val rfl rfl rfl (y_nilCheck rfl) ?_
                refine g_val rfl rfl rfl (y_fieldAddr (k := 1) (m := 1) rfl (by kernel_rfl) rfl) ?_
                refine g_val rfl rfl rfl (y_ld 0 rfl Try.isAgg4 rfl rfl) ?_
                refine g_val rfl rfl rfl (y_lit false (y_not rfl) rfl) ?_
                refine g_val rfl rfl rfl (y_assign rfl) ?_
                refine g_nil (g_then (g_cond_f rfl (g_seq (g_ops ?_))))
                refine g_val rfl rfl rfl (y_move rfl) ?_
                refine g_val rfl rfl rfl (y_ieq rfl rfl) ?_
                refine g_val rfl rfl rfl (y_assign rfl) ?_
                refine g_nil (g_then ?_)
                first | refine g_casep 132 rfl (fun h27 => ?_) (fun h27 => ?_) | refine g_caseb 132 rfl (fun h27 => ?_) (fun h27 => ?_)
                · skip
                  refine g_cond_t rfl (g_ops ?_)
                  refine g_val rfl rfl rfl (y_move rfl) ?_
                  refine g_val rfl rfl rfl (y_build (offs := [0, 5, 6]) rfl Try.zeroValue64 (by kernel_rfl)) ?_
                  refine g_callAll (fun _ : Value => .tuple #[]) (fun v' => [.cells b 50 [(st8 l), (.bool true), v', (.int .i64 (d))], .row 64 7 v' (ts ++ [(timesT 1 (-1))]).length ((ts ++ [(timesT 1 (-1))]).flatMap tC)]) rfl rfl rfl Try.call23 (fun w F' hS => put_any b (st8 l) (.bool true) (.int .i64 (d)) v ts (timesT 1 (-1)) F' w (by first | omega | (simp only [List.length_append, List.length_singleton]; omega)) hS) (fun vq => ?_)
                  refine g_nil (g_in_normal (g_then (g_seq (g_seq (g_ops ?_)))))
                  refine g_val rfl rfl rfl (y_move rfl) ?_
                  refine g_val rfl rfl rfl (y_nilCheck rfl) ?_
                  refine g_val rfl rfl rfl (y_fieldAddr (k := 3) (m := 3) rfl (by kernel_rfl) rfl) ?_
                  refine g_val rfl rfl rfl (y_ld 0 rfl Try.isAgg3 rfl rfl) ?_
                  refine g_val rfl rfl rfl (y_lit false (y_ilt rfl rfl) (decide_eq_false (by omega))) ?_
                  refine g_nil (g_then (g_cond_f rfl (g_skip (g_then (g_goto ?_)))))
                  exact g_jump ⟨(l, vq, ts ++ [(timesT 1 (-1))], d), fun x hx => hok x (List.mem_cons_of_mem _ hx), by dsimp only; rw [List.length_append, List.length_singleton]; omega, by dsimp only; omega, by dsimp only; rw [List.length_append, List.length_singleton]; omega, tok_step hR (by unfold tokE; rw [if_neg (by omega), if_neg (by omega), if_pos (by omega)]) (by first | omega | (dsimp only; omega))⟩ [0] rfl (fun j hj => by cases hj; dsimp only; omega) rfl (fun w h => h.sub (.cons_cons _ (.cons_cons _ .slnil)))
                · skip
                  refine g_cond_f rfl (g_seq (g_ops ?_))
                  refine g_val rfl rfl rfl (y_move rfl) ?_
                  refine g_val rfl rfl rfl (y_ieq rfl rfl) ?_
                  refine g_val rfl rfl rfl (y_assign rfl) ?_
                  refine g_nil (g_then ?_)
                  first | refine g_casep 138 rfl (fun h28 => ?_) (fun h28 => ?_) | refine g_caseb 138 rfl (fun h28 => ?_) (fun h28 => ?_)
                  · skip
                    refine g_cond_t rfl (g_ops ?_)
                    refine g_val rfl rfl rfl (y_move rfl) ?_
                    refine g_val rfl rfl rfl (y_build (offs := [0, 6]) rfl Try.zeroValue64 (by kernel_rfl)) ?_
                    refine g_callAll (fun _ : Value => .tuple #[]) (fun v' => [.cells b 50 [(st8 l), (.bool true), v', (.int .i64 (d))], .row 64 7 v' (ts ++ [(timesT 0 1)]).length ((ts ++ [(timesT 0 1)]).flatMap tC)]) rfl rfl rfl Try.call23 (fun w F' hS => put_any b (st8 l) (.bool true) (.int .i64 (d)) v ts (timesT 0 1) F' w (by first | omega | (simp only [List.length_append, List.length_singleton]; omega)) hS) (fun vq => ?_)
                    refine g_nil (g_in_normal (g_then (g_seq (g_seq (g_ops ?_)))))
                    refine g_val rfl rfl rfl (y_move rfl) ?_
                    refine g_val rfl rfl rfl (y_nilCheck rfl) ?_
                    refine g_val rfl rfl rfl (y_fieldAddr (k := 3) (m := 3) rfl (by kernel_rfl) rfl) ?_
                    refine g_val rfl rfl rfl (y_ld 0 rfl Try.isAgg3 rfl rfl) ?_
                    refine g_val rfl rfl rfl (y_lit false (y_ilt rfl rfl) (decide_eq_false (by omega))) ?_
                    refine g_nil (g_then (g_cond_f rfl (g_skip (g_then (g_goto ?_)))))
                    exact g_jump ⟨(l, vq, ts ++ [(timesT 0 1)], d), fun x hx => hok x (List.mem_cons_of_mem _ hx), by dsimp only; rw [List.length_append, List.length_singleton]; omega, by dsimp only; omega, by dsimp only; rw [List.length_append, List.length_singleton]; omega, tok_step hR (by unfold tokE; rw [if_neg (by omega), if_neg (by omega), if_neg (by omega), if_pos (by omega)]) (by first | omega | (dsimp only; omega))⟩ [0] rfl (fun j hj => by cases hj; dsimp only; omega) rfl (fun w h => h.sub (.cons_cons _ (.cons_cons _ .slnil)))
                  · skip
                    refine g_cond_f rfl (g_seq (g_ops ?_))
                    refine g_val rfl rfl rfl (y_move rfl) ?_
                    refine g_val rfl rfl rfl (y_lit false (y_ieq rfl rfl) (decide_eq_false (by omega))) ?_
                    refine g_val rfl rfl rfl (y_assign rfl) ?_
                    refine g_nil (g_then (g_cond_f rfl (g_seq (g_ops ?_))))
                    refine g_val rfl rfl rfl (y_move rfl) ?_
                    refine g_val rfl rfl rfl (y_ieq rfl rfl) ?_
                    refine g_val rfl rfl rfl (y_assign rfl) ?_
                    refine g_nil (g_then ?_)
                    first | refine g_casep 150 rfl (fun h29 => ?_) (fun h29 => ?_) | refine g_caseb 150 rfl (fun h29 => ?_) (fun h29 => ?_)
                    · skip
                      refine g_cond_t rfl (g_seq (g_ops ?_))
                      refine g_val rfl rfl rfl (y_move rfl) ?_
                      refine g_val rfl rfl rfl (y_nilCheck rfl) ?_
                      refine g_val rfl rfl rfl (y_fieldAddr (k := 3) (m := 3) rfl (by kernel_rfl) rfl) ?_
                      refine g_val rfl rfl rfl (y_ld 0 rfl Try.isAgg3 rfl rfl) ?_
                      refine g_val rfl rfl rfl (by first | exact y_addi rfl rfl (by first | omega | (simp only [size_mk, ByteArray.size_append, ByteArray.size_extract]; omega)) | exact y_iadd rfl rfl) ?_
                      refine g_val rfl rfl rfl (y_nilCheck rfl) ?_
                      refine g_val rfl rfl rfl (y_fieldAddr (k := 3) (m := 3) rfl (by kernel_rfl) rfl) ?_
                      refine g_st 0 rfl rfl rfl Try.sizeOf3 rfl rfl rfl ?_
                      simp only [List.set_cons_zero]
                      refine g_nil (g_then (g_ops ?_))
                      refine g_val rfl rfl rfl (y_move rfl) ?_
                      refine g_val rfl rfl rfl (y_build (offs := [0]) rfl Try.zeroValue64 (by kernel_rfl)) ?_
                      refine g_callAll (fun _ : Value => .tuple #[]) (fun v' => [.cells b 50 [(st8 l), (.bool true), v', (.int .i64 (d + 1))], .row 64 7 v' (ts ++ [(kT 1)]).length ((ts ++ [(kT 1)]).flatMap tC)]) rfl rfl rfl Try.call23 (fun w F' hS => put_any b (st8 l) (.bool true) (.int .i64 (d + 1)) v ts (kT 1) F' w (by first | omega | (simp only [List.length_append, List.length_singleton]; omega)) hS) (fun vq => ?_)
                      refine g_nil (g_in_normal (g_then (g_seq (g_seq (g_ops ?_)))))
                      refine g_val rfl rfl rfl (y_move rfl) ?_
                      refine g_val rfl rfl rfl (y_nilCheck rfl) ?_
                      refine g_val rfl rfl rfl (y_fieldAddr (k := 3) (m := 3) rfl (by kernel_rfl) rfl) ?_
                      refine g_val rfl rfl rfl (y_ld 0 rfl Try.isAgg3 rfl rfl) ?_
                      refine g_val rfl rfl rfl (y_lit false (y_ilt rfl rfl) (decide_eq_false (by omega))) ?_
                      refine g_nil (g_then (g_cond_f rfl (g_skip (g_then (g_goto ?_)))))
                      exact g_jump ⟨(l, vq, ts ++ [(kT 1)], d + 1), fun x hx => hok x (List.mem_cons_of_mem _ hx), by dsimp only; rw [List.length_append, List.length_singleton]; omega, by dsimp only; omega, by dsimp only; rw [List.length_append, List.length_singleton]; omega, tok_step hR (by unfold tokE; rw [if_neg (by omega), if_neg (by omega), if_neg (by omega), if_neg (by omega), if_pos (by omega)]) (by first | omega | (dsimp only; omega))⟩ [0] rfl (fun j hj => by cases hj; dsimp only; omega) rfl (fun w h => h.sub (.cons_cons _ (.cons_cons _ .slnil)))
                    · skip
                      refine g_cond_f rfl (g_seq (g_ops ?_))
                      refine g_val rfl rfl rfl (y_move rfl) ?_
                      refine g_val rfl rfl rfl (y_ieq rfl rfl) ?_
                      refine g_val rfl rfl rfl (y_assign rfl) ?_
                      refine g_nil (g_then ?_)
                      first | refine g_casep 163 rfl (fun h30 => ?_) (fun h30 => ?_) | refine g_caseb 163 rfl (fun h30 => ?_) (fun h30 => ?_)
                      · skip
                        refine g_cond_t rfl (g_seq (g_ops ?_))
                        refine g_val rfl rfl rfl (y_move rfl) ?_
                        refine g_val rfl rfl rfl (y_nilCheck rfl) ?_
                        refine g_val rfl rfl rfl (y_fieldAddr (k := 3) (m := 3) rfl (by kernel_rfl) rfl) ?_
                        refine g_val rfl rfl rfl (y_ld 0 rfl Try.isAgg3 rfl rfl) ?_
                        refine g_val rfl rfl rfl (by first | exact y_subi rfl rfl (by first | omega | (simp only [size_mk, ByteArray.size_append, ByteArray.size_extract]; omega)) | exact y_isub rfl rfl) ?_
                        refine g_val rfl rfl rfl (y_nilCheck rfl) ?_
                        refine g_val rfl rfl rfl (y_fieldAddr (k := 3) (m := 3) rfl (by kernel_rfl) rfl) ?_
                        refine g_st 0 rfl rfl rfl Try.sizeOf3 rfl rfl rfl ?_
                        simp only [List.set_cons_zero]
                        refine g_nil (g_then (g_ops ?_))
                        refine g_val rfl rfl rfl (y_move rfl) ?_
                        refine g_val rfl rfl rfl (y_build (offs := [0]) rfl Try.zeroValue64 (by kernel_rfl)) ?_
                        refine g_callAll (fun _ : Value => .tuple #[]) (fun v' => [.cells b 50 [(st8 l), (.bool true), v', (.int .i64 (d - 1))], .row 64 7 v' (ts ++ [(kT 2)]).length ((ts ++ [(kT 2)]).flatMap tC)]) rfl rfl rfl Try.call23 (fun w F' hS => put_any b (st8 l) (.bool true) (.int .i64 (d - 1)) v ts (kT 2) F' w (by first | omega | (simp only [List.length_append, List.length_singleton]; omega)) hS) (fun vq => ?_)
                        refine g_nil (g_in_normal (g_then (g_seq (g_seq (g_ops ?_)))))
                        refine g_val rfl rfl rfl (y_move rfl) ?_
                        refine g_val rfl rfl rfl (y_nilCheck rfl) ?_
                        refine g_val rfl rfl rfl (y_fieldAddr (k := 3) (m := 3) rfl (by kernel_rfl) rfl) ?_
                        refine g_val rfl rfl rfl (y_ld 0 rfl Try.isAgg3 rfl rfl) ?_
                        refine g_val rfl rfl rfl (y_ilt rfl rfl) ?_
                        refine g_nil (g_then ?_)
                        first | refine g_casep 186 rfl (fun h31 => ?_) (fun h31 => ?_) | refine g_caseb 186 rfl (fun h31 => ?_) (fun h31 => ?_)
                        · skip
                          refine g_cond_t rfl (g_seq (g_ops ?_))
                          refine g_val rfl rfl rfl (y_assign rfl) ?_
                          refine g_nil (g_then (g_ret (g_then_ret (g_jumps_ret ?_))))
                          refine g_end1 Try.results17 rfl ?_
                          have hq := tok_stop hR (by unfold tokE; rw [if_neg (by omega), if_neg (by omega), if_neg (by omega), if_neg (by omega), if_neg (by omega), if_pos (by omega)]) (by omega)
                          exact fun w hS => ⟨⟨(_, l, ts ++ [(kT 2)], d - 1), fun ts' q => by rw [hq] at q; cases q⟩, ret_bool (by rw [hq]; rfl), hS.sub (.cons_cons _ (.cons_cons _ .slnil))⟩
                        · skip
                          refine g_cond_f rfl (g_skip (g_then (g_goto ?_)))
                          exact g_jump ⟨(l, vq, ts ++ [(kT 2)], d - 1), fun x hx => hok x (List.mem_cons_of_mem _ hx), by dsimp only; rw [List.length_append, List.length_singleton]; omega, by dsimp only; omega, by dsimp only; rw [List.length_append, List.length_singleton]; omega, tok_step hR (by unfold tokE; rw [if_neg (by omega), if_neg (by omega), if_neg (by omega), if_neg (by omega), if_neg (by omega), if_pos (by omega)]) (by first | omega | (dsimp only; omega))⟩ [0] rfl (fun j hj => by cases hj; dsimp only; omega) rfl (fun w h => h.sub (.cons_cons _ (.cons_cons _ .slnil)))
                      · skip
                        refine g_cond_f rfl (g_seq (g_ops ?_))
                        refine g_val rfl rfl rfl (y_move rfl) ?_
                        refine g_val rfl rfl rfl (y_ieq rfl rfl) ?_
                        refine g_val rfl rfl rfl (y_assign rfl) ?_
                        refine g_nil (g_then ?_)
                        first | refine g_casep 176 rfl (fun h32 => ?_) (fun h32 => ?_) | refine g_caseb 176 rfl (fun h32 => ?_) (fun h32 => ?_)
                        · skip
                          refine g_cond_t rfl (g_ops ?_)
                          refine g_val rfl rfl rfl (y_move rfl) ?_
                          refine g_val rfl rfl rfl (y_build (offs := [0]) rfl Try.zeroValue64 (by kernel_rfl)) ?_
                          refine g_callAll (fun _ : Value => .tuple #[]) (fun v' => [.cells b 50 [(st8 l), (.bool true), v', (.int .i64 (d))], .row 64 7 v' (ts ++ [(kT 3)]).length ((ts ++ [(kT 3)]).flatMap tC)]) rfl rfl rfl Try.call23 (fun w F' hS => put_any b (st8 l) (.bool true) (.int .i64 (d)) v ts (kT 3) F' w (by first | omega | (simp only [List.length_append, List.length_singleton]; omega)) hS) (fun vq => ?_)
                          refine g_nil (g_in_normal (g_then (g_seq (g_seq (g_ops ?_)))))
                          refine g_val rfl rfl rfl (y_move rfl) ?_
                          refine g_val rfl rfl rfl (y_nilCheck rfl) ?_
                          refine g_val rfl rfl rfl (y_fieldAddr (k := 3) (m := 3) rfl (by kernel_rfl) rfl) ?_
                          refine g_val rfl rfl rfl (y_ld 0 rfl Try.isAgg3 rfl rfl) ?_
                          refine g_val rfl rfl rfl (y_lit false (y_ilt rfl rfl) (decide_eq_false (by omega))) ?_
                          refine g_nil (g_then (g_cond_f rfl (g_skip (g_then (g_goto ?_)))))
                          exact g_jump ⟨(l, vq, ts ++ [(kT 3)], d), fun x hx => hok x (List.mem_cons_of_mem _ hx), by dsimp only; rw [List.length_append, List.length_singleton]; omega, by dsimp only; omega, by dsimp only; rw [List.length_append, List.length_singleton]; omega, tok_step hR (by unfold tokE; rw [if_neg (by omega), if_neg (by omega), if_neg (by omega), if_neg (by omega), if_neg (by omega), if_neg (by omega), if_pos (by omega)]) (by first | omega | (dsimp only; omega))⟩ [0] rfl (fun j hj => by cases hj; dsimp only; omega) rfl (fun w h => h.sub (.cons_cons _ (.cons_cons _ .slnil)))
                        · skip
                          refine g_cond_f rfl (g_ops ?_)
                          refine g_val rfl rfl rfl (y_move rfl) ?_
                          refine g_val rfl rfl rfl (y_move rfl) ?_
                          refine g_callAll (fun _ : Value => .tuple #[]) (fun v' => [.cells b 50 [(st8 l), (.bool true), v', (.int .i64 (d))], .row 64 7 v' (ts ++ [litT c]).length ((ts ++ [litT c]).flatMap tC)]) rfl rfl rfl Try.call28 (fun w F' hS => literal_any b (st8 l) (.bool true) (.int .i64 (d)) v ts c F' w (by omega) hS) (fun vq => ?_)
                          refine g_nil (g_in_normal (g_then (g_seq (g_seq (g_ops ?_)))))
                          refine g_val rfl rfl rfl (y_move rfl) ?_
                          refine g_val rfl rfl rfl (y_nilCheck rfl) ?_
                          refine g_val rfl rfl rfl (y_fieldAddr (k := 3) (m := 3) rfl (by kernel_rfl) rfl) ?_
                          refine g_val rfl rfl rfl (y_ld 0 rfl Try.isAgg3 rfl rfl) ?_
                          refine g_val rfl rfl rfl (y_lit false (y_ilt rfl rfl) (decide_eq_false (by omega))) ?_
                          refine g_nil (g_then (g_cond_f rfl (g_skip (g_then (g_goto ?_)))))
                          exact g_jump ⟨(l, vq, ts ++ [(litT c)], d), fun x hx => hok x (List.mem_cons_of_mem _ hx), by dsimp only; rw [List.length_append, List.length_singleton]; omega, by dsimp only; omega, by dsimp only; rw [List.length_append, List.length_singleton]; omega, tok_step hR (by unfold tokE; rw [if_neg (by omega), if_neg (by omega), if_neg (by omega), if_neg (by omega), if_neg (by omega), if_neg (by omega), if_neg (by omega)]) (by first | omega | (dsimp only; omega))⟩ [0] rfl (fun j hj => by cases hj; dsimp only; omega) rfl (fun w h => h.sub (.cons_cons _ (.cons_cons _ .slnil)))
  · skip
    intro hp
    refine g_seq (g_ops ?_)
    refine g_val rfl rfl rfl (y_assign rfl) ?_
    refine g_nil (g_then (g_seq (g_label (g_then ?_))))
    exact g_fall (hp (⟨(l0, v0, [], 0), hok0, by simp; omega, by simp, by simp, rfl⟩)) [0] rfl (fun w h => h.sub (.cons_cons _ (.cons_cons _ .slnil)))

end Go.Proofs.Ytpoelkfncpjmfaa
