/- Compile. -/
import Derived.Test.YtpacnggomjepdaaPrh
namespace Go.Proofs.Ytpacnggomjepdaa
open Go Go.RowKit

theorem ins_snoc0 (cs : Nat → Cm) (i : Nat) : insOf cs (fun _ => 0) (i + 1) = insOf cs (fun _ => 0) i ++ [(cs i, 0)] := by unfold insOf; rw [List.range_succ, List.map_append]; rfl
theorem ins_congr {cs : Nat → Cm} {j j' : Nat → Int} {n : Nat} (h : ∀ k, k < n → j k = j' k) : insOf cs j n = insOf cs j' n := by
  unfold insOf
  exact List.map_congr_left fun i hi => by rw [h i (List.mem_range.1 hi)]
def isB (cs : Nat → Cm) (k : Nat) : Prop := (cs k).nm = 98 ∨ (cs k).nm = 116
instance (cs : Nat → Cm) (k : Nat) : Decidable (isB cs k) := inferInstanceAs (Decidable (_ ∨ _))
def finJ (cs : Nat → Cm) (m : ByteArray → Option Int) (j : Nat → Int) (n k : Nat) : Int :=
  if isB cs k then (if (cs k).tx = ⟨#[]⟩ then (n : Int) else (m (cs k).tx).getD 0) else j k
def bad (cs : Nat → Cm) (m : ByteArray → Option Int) (k : Nat) : Prop := isB cs k ∧ (cs k).tx ≠ ⟨#[]⟩ ∧ m (cs k).tx = none
structure CX where
  l : List (Cm × Int)
  re : Nat
  im : Nat
  er : Int
def compV (x : CX × Value) : Value := .tuple #[x.2, .complex .f64 x.1.re x.1.im, .int .i64 x.1.er]
def compR (cs : Nat → Cm) (n : Nat) (x : CX) : Prop :=
  (200 < n ∧ x = ⟨[], 0, 0, 143⟩) ∨ (n ≤ 200 ∧ ∃ ko j, brR cs n (ko, j) ∧ ((∃ k, ko = some k ∧ x = ⟨[], (cs k).re, (cs k).im, 142⟩) ∨ (ko = none ∧
    ((∃ k m, k < n ∧ labI cs k = some m ∧ (cs k).nm = 58 ∧ (m (cs k).tx).isSome = true ∧ x = ⟨[], (cs k).re, (cs k).im, 141⟩) ∨ ∃ m, labI cs n = some m ∧
      ((∃ k, k < n ∧ bad cs m k ∧ (∀ k', k' < k → ¬ bad cs m k') ∧ x = ⟨[], (cs k).re, (cs k).im, 141⟩) ∨ ((∀ k, k < n → ¬ bad cs m k) ∧ ∃ J : Nat → Int, (∀ k, k < n → J k = finJ cs m j n k) ∧ x = ⟨insOf cs J n, 0, 0, 0⟩))))))
theorem finJ_none {cs : Nat → Cm} {m : ByteArray → Option Int} {j : Nat → Int} {n k : Nat} (h1 : (cs k).nm ≠ 98) (h2 : (cs k).nm ≠ 116) : finJ cs m j n k = j k ∧ ¬ bad cs m k := by
  have h : ¬ isB cs k := fun h => h.elim h1 h2
  unfold finJ bad
  rw [if_neg h]
  exact ⟨rfl, fun q => h q.1⟩
theorem finJ_end {cs : Nat → Cm} {m : ByteArray → Option Int} {j : Nat → Int} {n k : Nat} (h : isB cs k) (h2 : (cs k).tx = ⟨#[]⟩) : finJ cs m j n k = n ∧ ¬ bad cs m k := by
  unfold finJ bad
  rw [if_pos h, if_pos h2]
  exact ⟨rfl, fun q => q.2.1 h2⟩
theorem finJ_to {cs : Nat → Cm} {m : ByteArray → Option Int} {j : Nat → Int} {n k : Nat} (h : isB cs k) (h2 : ¬ (cs k).tx = ⟨#[]⟩) (h3 : (m (cs k).tx).isSome = true) : finJ cs m j n k = (m (cs k).tx).getD 0 ∧ ¬ bad cs m k := by
  unfold finJ bad
  rw [if_pos h, if_neg h2]
  exact ⟨rfl, fun q => by rw [q.2.2] at h3; cases h3⟩
theorem stepJ {J fj j : Nat → Int} {n i : Nat} {V : Int} (h : ∀ k, k < n → J k = if k < i then fj k else j k) (hv : fj i = V) : ∀ k, k < n → (if k = i then V else J k) = if k < i + 1 then fj k else j k := fun k hk => by
  by_cases e : k = i
  · subst e; rw [if_pos rfl, if_pos (by omega), hv]
  · rw [if_neg e, h k hk]
    by_cases e2 : k < i
    · rw [if_pos e2, if_pos (by omega)]
    · rw [if_neg e2, if_neg (by omega)]
theorem stepJ0 {J fj j : Nat → Int} {n i : Nat} (h : ∀ k, k < n → J k = if k < i then fj k else j k) (hv : fj i = j i) : ∀ k, k < n → J k = if k < i + 1 then fj k else j k := fun k hk => by
  rw [h k hk]
  by_cases e : k = i
  · subst e; rw [if_neg (by omega), if_pos (by omega), hv]
  · by_cases e2 : k < i
    · rw [if_pos e2, if_pos (by omega)]
    · rw [if_neg e2, if_neg (by omega)]
theorem stepN {p : Nat → Prop} {i : Nat} (h : ∀ k, k < i → ¬ p k) (hi : ¬ p i) : ∀ k, k < i + 1 → ¬ p k := fun k hk => by
  by_cases e : k = i
  · rw [e]; exact hi
  · exact h k (by omega)
theorem str_ne {s u : ByteArray} (h : decide (s = u) = false) : s ≠ u := of_decide_eq_false h

set_option maxRecDepth 100000 in
theorem compile_any (p : Option Addr) (n c : Nat) (cs : Nat → Cm) (w : World) (hn : n ≤ 1000) (ht : ∀ i, i < n → (cs i).tx.size ≤ 1000) (hrd : RdSl w p n 42 (cmF cs)) :
    Calls Try.prog 10 #[.slice p n c] w fun e w' => ∃ x : {x : CX × Value // compR cs n x.1}, e = .returned (compV x.1) ∧ St w [] [.row 47 43 x.1.2 x.1.1.l.length (x.1.1.l.flatMap inC)] w' := by
  refine fn_intro Try.func10 rfl Try.ntmps10 rfl rfl ?_
  refine g_seq (g_ops ?_)
  refine g_val rfl rfl rfl (y_assign rfl) ?_
  refine g_val rfl rfl rfl (y_assign rfl) ?_
  refine g_val rfl rfl rfl (y_assign rfl) ?_
  refine g_nil (g_then (g_seq (g_seq (g_ops ?_))))
  refine g_val rfl rfl rfl (y_move rfl) ?_
  refine g_val rfl rfl rfl (y_llen rfl Try.underlying23) ?_
  refine g_val rfl rfl rfl (y_igt rfl rfl) ?_
  refine g_nil (g_then ?_)
  first | refine g_casep 19 rfl (fun h1 => ?_) (fun h1 => ?_) | refine g_caseb 19 rfl (fun h1 => ?_) (fun h1 => ?_)
  · skip
    try dsimp only at h1
    refine g_cond_t rfl (g_seq (g_ops ?_))
    refine g_val rfl rfl rfl (y_assign rfl) ?_
    refine g_val rfl rfl rfl (y_assign rfl) ?_
    refine g_val rfl rfl rfl (y_assign rfl) ?_
    refine g_nil (g_then (g_ret (g_then_ret ?_)))
    refine g_end3 Try.results10 rfl rfl rfl ?_
    exact fun w hS => ⟨⟨(⟨[], _, _, _⟩, _), .inl ⟨by omega, rfl⟩⟩, rfl, (hS.sub .slnil).nilRow 47 43⟩
  · skip
    try dsimp only at h1
    refine g_cond_f rfl (g_skip (g_then (g_seq (g_ops ?_))))
    refine g_nilRow 47 43 ?_
    refine g_val rfl rfl rfl (y_assign rfl) ?_
    refine g_nil (g_then (g_seq (g_seq (g_ops ?_))))
    refine g_val rfl rfl rfl (y_move rfl) ?_
    refine g_val rfl rfl rfl (y_llen rfl Try.underlying23) ?_
    refine g_val rfl rfl rfl (y_move rfl) ?_
    refine g_nil (g_then (g_block ?_))
    refine g_loop (α := {x : Int × Value // 0 ≤ x.1 ∧ x.1 ≤ n}) (fun x => [(5, x.1.2), (20, .slice p n c), (21, .int .i64 n), (22, .int .i64 x.1.1)]) (fun x => St w [] [.row 47 43 x.1.2 (insOf cs (fun _ => 0) x.1.1.toNat).length ((insOf cs (fun _ => 0) x.1.1.toNat).flatMap inC)]) (fun x => n - x.1.1.toNat) ⟨(0, .slice none 0 0), by dsimp only; omega, by dsimp only; omega⟩ [5, 20, 21, 22] rfl (fun w h => h.sub (.cons_cons _ .slnil)) ?_
    rintro ⟨⟨i, v⟩, hx⟩
    dsimp only
    dsimp only at hx
    obtain ⟨hi0, hi1⟩ := hx
    have hcl := ins_len cs (fun _ => 0) i.toNat
    refine g_seq (g_ops ?_)
    refine g_val rfl rfl rfl (y_ilt rfl rfl) ?_
    refine g_nil (g_then (g_seq ?_))
    first | refine g_casep 23 rfl (fun h2 => ?_) (fun h2 => ?_) | refine g_caseb 23 rfl (fun h2 => ?_) (fun h2 => ?_)
    · skip
      try dsimp only at h2
      refine g_cond_t rfl (g_skip (g_then (g_seq (g_block (g_seq (g_ops ?_))))))
      refine g_val rfl rfl rfl (y_rdAddr hrd rfl rfl Try.underlying23 Try.sizeOf45 (by omega) (by omega)) ?_
      refine g_val rfl rfl rfl (y_rdAgg (i := i) (vs := cmC (cs i.toNat)) hrd rfl Try.isAgg45 Try.sizeOf45 (by omega) (by omega) rfl (fun j hj => cm_get cs i.toNat j hj)) ?_
      refine g_alloc rfl rfl Try.zeroValue45 rfl (fun b1 => ?_)
      refine g_stN 0 rfl rfl rfl (by kernel_rfl) rfl rfl rfl rfl ?_
      simp only [List.set_cons_zero]
      refine g_nil (g_then (g_ops ?_))
      refine g_val rfl rfl rfl (y_move rfl) ?_
      refine g_val rfl rfl rfl (y_ldN 0 rfl Try.isAgg45 Try.sizeOf45 rfl rfl rfl) ?_
      refine g_val rfl rfl rfl (y_build (offs := [0]) rfl Try.zeroValue47 (by kernel_rfl)) ?_
      refine g_buildSlice (offs := [0]) rfl rfl Try.underlying27 rfl Try.zeroValue47 (by kernel_rfl) (fun b2 => ?_)
      refine g_appS (bytes := 432) inC ((cs i.toNat, 0)) 2 (j := 0) rfl rfl rfl rfl Try.underlying27 (by kernel_rfl) rfl rfl inC_len rfl (by omega) (by have : maxLen = 9223372036854775807 := rfl; omega) (fun v3 => ?_)
      simp only [List.set_cons_zero, List.set_cons_succ]
      rw [← ins_snoc0, show i.toNat + 1 = (i + 1).toNat by omega]
      refine g_val rfl rfl rfl (y_assign rfl) ?_
      refine g_nil (g_in_normal (g_then (g_ops ?_)))
      refine g_val rfl rfl rfl (by first | exact y_addi rfl rfl (by first | omega | (simp only [size_mk, ByteArray.size_append, ByteArray.size_extract]; omega)) | exact y_iadd rfl rfl) ?_
      refine g_val rfl rfl rfl (y_move rfl) ?_
      refine g_nil ?_
      exact g_again ⟨(i + 1, _), by dsimp only; omega, by dsimp only; omega⟩ [5, 20, 21, 22] (by dsimp only; omega) rfl (fun w h => h.sub (.cons _ (.cons _ (.cons_cons _ .slnil))))
    · skip
      try dsimp only at h2
      refine g_cond_f rfl (g_exit (g_then_exit (g_then_exit (g_in_exit (g_then (g_seq (g_seq ?_)))))))
      have hin : i.toNat = n := by omega
      rw [ins_len, hin]
      refine g_rowLen 0 rfl (fun pr cr hv => ?_)
      cases hv
      refine g_ops ?_
      refine g_val rfl rfl rfl (y_move rfl) ?_
      refine g_callOwn (L0 := [.row 47 43 (.slice pr n cr) n ((insOf cs (fun _ => 0) n).flatMap inC)]) (Lr := []) (fun x : {x : Option Nat × (Nat → Int) // brR cs n x} => brV cs x.1) (fun x => [.row 47 43 (.slice pr n cr) n ((insOf cs x.1.2 n).flatMap inC)]) rfl rfl rfl Try.call18 (fun w hS => braces_any _ n _ cs _ w (by omega) (St.start _ (fun e he => hS.ok e (List.mem_append_left _ he)) (List.pairwise_singleton _ _))) ?_
      rintro ⟨⟨ko, j⟩, hbr⟩
      simp only [List.cons_append, List.nil_append]
      rcases ko with _ | kb
      · skip
        refine g_val rfl rfl rfl (y_move rfl) ?_
        refine g_val rfl rfl rfl (y_extract rfl rfl) ?_
        refine g_val rfl rfl rfl (y_extract rfl rfl) ?_
        refine g_val rfl rfl rfl (y_assign rfl) ?_
        refine g_val rfl rfl rfl (y_assign rfl) ?_
        refine g_nil (g_then (g_seq (g_ops ?_)))
        refine g_val rfl rfl rfl (y_move rfl) ?_
        refine g_val rfl rfl rfl (y_lit false (y_not rfl) rfl) ?_
        refine g_nil (g_then (g_cond_f rfl (g_skip (g_then (g_seq (g_ops ?_))))))
        refine g_val rfl rfl rfl (y_move rfl) ?_
        refine g_call (α := {x : Lb // labR cs n x}) (fun x => labV cs x.1) (fun x => St w [] (labE x.1 ++ [.row 47 43 (.slice pr n cr) n ((insOf cs j n).flatMap inC)])) rfl rfl rfl Try.call19 (fun w' hS => (labels_any _ n _ cs j w' (by omega) ht (rd_ins (hS.get (i := 0) rfl))).mono fun e w'' ⟨x, he, h⟩ => ⟨x, he, hS.then h⟩) ?_
        rintro ⟨⟨ko, mb, mk, m⟩, hlb⟩
        rcases ko with _ | kl
        · skip
          simp only [labE, List.cons_append, List.nil_append]
          refine g_val rfl rfl rfl (y_move rfl) ?_
          refine g_val rfl rfl rfl (y_extract rfl rfl) ?_
          refine g_val rfl rfl rfl (y_extract rfl rfl) ?_
          refine g_val rfl rfl rfl (y_extract rfl rfl) ?_
          refine g_val rfl rfl rfl (y_assign rfl) ?_
          refine g_val rfl rfl rfl (y_assign rfl) ?_
          refine g_val rfl rfl rfl (y_assign rfl) ?_
          refine g_nil (g_then (g_seq (g_seq (g_ops ?_))))
          refine g_val rfl rfl rfl (y_move rfl) ?_
          refine g_val rfl rfl rfl (y_lit false (y_not rfl) rfl) ?_
          refine g_nil (g_then (g_cond_f rfl (g_skip (g_then (g_seq (g_seq (g_ops ?_)))))))
          refine g_val rfl rfl rfl (y_move rfl) ?_
          refine g_val rfl rfl rfl (y_llen rfl Try.underlying27) ?_
          refine g_val rfl rfl rfl (y_move rfl) ?_
          refine g_nil (g_then (g_block ?_))
          refine g_loop (α := {x : Int × (Nat → Int) // 0 ≤ x.1 ∧ x.1 ≤ n ∧ (∀ k, k < n → x.2 k = if k < x.1.toNat then finJ cs m j n k else j k) ∧ ∀ k, k < x.1.toNat → ¬ bad cs m k}) (fun x => [(5, .slice pr n cr), (10, .map (some mb)), (49, .slice pr n cr), (50, .int .i64 n), (51, .int .i64 x.1.1)]) (fun x => St w [] [.smap Try.prog 9 mb mk m, .row 47 43 (.slice pr n cr) n ((insOf cs x.1.2 n).flatMap inC)]) (fun x => n - x.1.1.toNat) ⟨(0, j), by dsimp only; omega, by dsimp only; omega, by intro k _; dsimp only; rw [if_neg (by omega)], by intro k h; dsimp only at h; omega⟩ [5, 10, 49, 50, 51] rfl (fun w h => h.sub (.cons_cons _ (.cons_cons _ .slnil))) ?_
          rintro ⟨⟨i, J⟩, hx⟩
          dsimp only
          dsimp only at hx
          obtain ⟨hi0, hi1, hJ, hN⟩ := hx
          have hmx : maxLen = 9223372036854775807 := rfl
          have htx : i < n → (cs i.toNat).tx.size ≤ maxLen := fun h => by have := ht i.toNat (by omega); omega
          refine g_seq (g_ops ?_)
          refine g_val rfl rfl rfl (y_ilt rfl rfl) ?_
          refine g_nil (g_then (g_seq ?_))
          first | refine g_casep 52 rfl (fun h3 => ?_) (fun h3 => ?_) | refine g_caseb 52 rfl (fun h3 => ?_) (fun h3 => ?_)
          · skip
            try dsimp only at h3
            refine g_cond_t rfl (g_skip (g_then (g_seq (g_block (g_seq (g_ops ?_))))))
            refine g_val rfl rfl rfl (y_move rfl) ?_
            refine g_rowCase 1 rfl (by omega) (fun gr4 cr4 hv4 => ?_)
            cases hv4
            refine g_val rfl rfl rfl (y_idxAddr (m := (i).toNat * 43 + 0) rfl rfl Try.underlying27 Try.sizeOf47 (by omega) (by omega) (by omega)) ?_
            refine g_val rfl rfl rfl (y_ldRN (k := 43) (vs := inC (cs ((i).toNat), J ((i).toNat))) 1 rfl Try.isAgg47 Try.sizeOf47 rfl (fm_elem inC 43 inC_len _ (i).toNat _ (ins_get cs J n ((i).toNat) (by omega))) (inC_len _)) ?_
            refine g_alloc rfl rfl Try.zeroValue47 rfl (fun b4 => ?_)
            refine g_val rfl rfl rfl (y_assign rfl) ?_
            refine g_stN 0 rfl rfl rfl (by kernel_rfl) rfl rfl rfl rfl ?_
            simp only [List.set_cons_zero]
            refine g_nil (g_then (g_seq (g_seq (g_ops ?_))))
            refine g_val rfl rfl rfl (y_fieldAddr (k := 0) (m := 0) rfl (by kernel_rfl) rfl) ?_
            refine g_val rfl rfl rfl (y_fieldAddr (k := 1) (m := 1) rfl (by kernel_rfl) rfl) ?_
            refine g_val rfl rfl rfl (y_ld 0 rfl Try.isAgg5 rfl rfl) ?_
            refine g_val rfl rfl rfl (y_ine rfl rfl) ?_
            refine g_val rfl rfl rfl (y_move rfl) ?_
            first | refine g_casep 60 rfl (fun h5 => ?_) (fun h5 => ?_) | refine g_caseb 60 rfl (fun h5 => ?_) (fun h5 => ?_)
            · skip
              try dsimp only at h5
              refine g_val rfl rfl rfl (y_fieldAddr (k := 0) (m := 0) rfl (by kernel_rfl) rfl) ?_
              refine g_val rfl rfl rfl (y_fieldAddr (k := 1) (m := 1) rfl (by kernel_rfl) rfl) ?_
              refine g_val rfl rfl rfl (y_ld 0 rfl Try.isAgg5 rfl rfl) ?_
              refine g_val rfl rfl rfl (y_ine rfl rfl) ?_
              refine g_val rfl rfl rfl (y_pick_t rfl rfl) ?_
              refine g_nil (g_then ?_)
              first | refine g_casep 65 rfl (fun h6 => ?_) (fun h6 => ?_) | refine g_caseb 65 rfl (fun h6 => ?_) (fun h6 => ?_)
              · skip
                try dsimp only at h6
                refine g_cond_t rfl (g_exit (g_then_exit (g_in_exit (g_then (g_ops ?_)))))
                refine g_val rfl rfl rfl (by first | exact y_addi rfl rfl (by first | omega | (simp only [size_mk, ByteArray.size_append, ByteArray.size_extract]; omega)) | exact y_iadd rfl rfl) ?_
                refine g_val rfl rfl rfl (y_move rfl) ?_
                refine g_nil ?_
                exact g_again ⟨(i + 1, J), by dsimp only; omega, by dsimp only; omega, by dsimp only; rw [show (i + 1).toNat = i.toNat + 1 by omega]; exact stepJ0 hJ (finJ_none (cs := cs) (by omega) (by omega)).1, by dsimp only; rw [show (i + 1).toNat = i.toNat + 1 by omega]; exact stepN hN (finJ_none (cs := cs) (m := m) (j := j) (n := n) (by omega) (by omega)).2⟩ [5, 10, 49, 50, 51] (by dsimp only; omega) rfl (fun w h => h.sub (.cons _ (.cons_cons _ (.cons_cons _ .slnil))))
              · skip
                try dsimp only at h6
                refine g_cond_f rfl (g_skip (g_then (g_seq (g_ops ?_))))
                refine g_val rfl rfl rfl (y_move rfl) ?_
                refine g_val rfl rfl rfl (y_fieldAddr (k := 0) (m := 0) rfl (by kernel_rfl) rfl) ?_
                refine g_val rfl rfl rfl (y_fieldAddr (k := 25) (m := 25) rfl (by kernel_rfl) rfl) ?_
                refine g_val rfl rfl rfl (y_ld 0 rfl Try.isAgg9 rfl rfl) ?_
                refine g_val rfl rfl rfl (y_lookup 1 rfl rfl Try.underlying61 Try.underlying9 Try.zeroValue3 rfl (htx (by omega))) ?_
                refine g_val rfl rfl rfl (y_move rfl) ?_
                refine g_val (v := .int .i64 ((m (cs i.toNat).tx).getD 0)) rfl rfl rfl (y_extract rfl rfl) ?_
                refine g_val (v := .bool (m (cs i.toNat).tx).isSome) rfl rfl rfl (y_extract rfl rfl) ?_
                refine g_val rfl rfl rfl (y_assign rfl) ?_
                refine g_val rfl rfl rfl (y_assign rfl) ?_
                refine g_nil (g_then (g_seq (g_block (g_seq (g_ops ?_)))))
                refine g_val rfl rfl rfl (y_fieldAddr (k := 0) (m := 0) rfl (by kernel_rfl) rfl) ?_
                refine g_val rfl rfl rfl (y_fieldAddr (k := 25) (m := 25) rfl (by kernel_rfl) rfl) ?_
                refine g_val rfl rfl rfl (y_ld 0 rfl Try.isAgg9 rfl rfl) ?_
                refine g_val rfl rfl rfl (y_seq rfl rfl) ?_
                refine g_val rfl rfl rfl (y_assign rfl) ?_
                refine g_nil (g_then ?_)
                first | refine g_casep 74 rfl (fun h7 => ?_) (fun h7 => ?_) | refine g_caseb 74 rfl (fun h7 => ?_) (fun h7 => ?_)
                · skip
                  try dsimp only at h7
                  refine g_cond_t rfl (g_ops ?_)
                  refine g_val rfl rfl rfl (y_move rfl) ?_
                  refine g_val rfl rfl rfl (y_llen rfl Try.underlying27) ?_
                  refine g_val rfl rfl rfl (y_assign rfl) ?_
                  refine g_nil (g_in_normal (g_then (g_ops ?_)))
                  refine g_val rfl rfl rfl (y_move rfl) ?_
                  refine g_val rfl rfl rfl (y_move rfl) ?_
                  refine g_val rfl rfl rfl (y_move rfl) ?_
                  refine g_val rfl rfl rfl (y_idxAddr (m := (i).toNat * 43 + 0) rfl rfl Try.underlying27 Try.sizeOf47 (by omega) (by omega) (by omega)) ?_
                  refine g_val rfl rfl rfl (y_fieldAddr (k := 42) (m := (i).toNat * 43 + 42) rfl (by kernel_rfl) rfl) ?_
                  refine g_stR 2 rfl rfl rfl Try.sizeOf3 rfl rfl (by rw [fm_len inC 43 inC_len]; rw [ins_len]; omega) ?_
                  simp only [List.set_cons_zero, List.set_cons_succ]
                  rw [ins_jump cs J n i.toNat ((n : Int)) (by omega)]
                  refine g_nil (g_in_normal (g_then (g_ops ?_)))
                  refine g_val rfl rfl rfl (by first | exact y_addi rfl rfl (by first | omega | (simp only [size_mk, ByteArray.size_append, ByteArray.size_extract]; omega)) | exact y_iadd rfl rfl) ?_
                  refine g_val rfl rfl rfl (y_move rfl) ?_
                  refine g_nil ?_
                  exact g_again ⟨(i + 1, fun k => if k = i.toNat then (n : Int) else J k), by dsimp only; omega, by dsimp only; omega, by dsimp only; rw [show (i + 1).toNat = i.toNat + 1 by omega]; have hf := finJ_end (cs := cs) (m := m) (j := j) (n := n) (k := i.toNat) (by unfold isB; omega) (by assumption); exact stepJ hJ hf.1, by dsimp only; rw [show (i + 1).toNat = i.toNat + 1 by omega]; have hf := finJ_end (cs := cs) (m := m) (j := j) (n := n) (k := i.toNat) (by unfold isB; omega) (by assumption); exact stepN hN hf.2⟩ [5, 10, 49, 50, 51] (by dsimp only; omega) rfl (fun w h => h.sub (.cons _ (.cons_cons _ (.cons_cons _ .slnil))))
                · skip
                  try dsimp only at h7
                  refine g_cond_f rfl (g_seq (g_ops ?_))
                  refine g_val rfl rfl rfl (y_move rfl) ?_
                  refine g_val rfl rfl rfl ((by first | exact y_notp rfl | exact y_not rfl)) ?_
                  refine g_val rfl rfl rfl (y_assign rfl) ?_
                  refine g_nil (g_then ?_)
                  first | refine g_casep 81 rfl (fun h8 => ?_) (fun h8 => ?_) | refine g_caseb 81 rfl (fun h8 => ?_) (fun h8 => ?_)
                  · skip
                    try dsimp only at h8
                    refine g_cond_t rfl (g_seq ?_)
                    refine g_quiet (by kernel_rfl) (by kernel_rfl) ?_
                    refine q_val rfl rfl rfl (y_fieldAddr (k := 0) (m := 0) rfl (by kernel_rfl) rfl) ?_
                    refine q_val rfl rfl rfl (y_fieldAddr (k := 0) (m := 0) rfl (by kernel_rfl) rfl) ?_
                    refine q_val rfl rfl rfl (y_ld 0 rfl Try.isAgg28 rfl rfl) ?_
                    refine q_val rfl rfl rfl (y_assign rfl) ?_
                    refine q_val rfl rfl rfl (y_assign rfl) ?_
                    refine q_val rfl rfl rfl (y_assign rfl) ?_
                    refine q_nil (g_then (g_ret (g_in_ret (g_then_ret (g_in_ret (g_then_ret (g_then_ret (g_in_ret (g_then_ret ?_)))))))))
                    refine g_end3 Try.results10 rfl rfl rfl ?_
                    exact fun w hS => ⟨⟨(⟨[], _, _, _⟩, _), .inr ⟨by omega, none, j, hbr, .inr ⟨rfl, .inr ⟨m, hlb, .inl ⟨i.toNat, by omega, ⟨by unfold isB; omega, by assumption, by simpa using ‹(!(m (cs i.toNat).tx).isSome) = true›⟩, hN, rfl⟩⟩⟩⟩⟩, rfl, (hS.sub (.cons _ (.cons _ (.cons _ .slnil)))).nilRow 47 43⟩
                  · skip
                    try dsimp only at h8
                    refine g_cond_f rfl (g_skip (g_in_normal (g_then (g_ops ?_))))
                    refine g_val rfl rfl rfl (y_move rfl) ?_
                    refine g_val rfl rfl rfl (y_move rfl) ?_
                    refine g_val rfl rfl rfl (y_move rfl) ?_
                    refine g_val rfl rfl rfl (y_idxAddr (m := (i).toNat * 43 + 0) rfl rfl Try.underlying27 Try.sizeOf47 (by omega) (by omega) (by omega)) ?_
                    refine g_val rfl rfl rfl (y_fieldAddr (k := 42) (m := (i).toNat * 43 + 42) rfl (by kernel_rfl) rfl) ?_
                    refine g_stR 2 rfl rfl rfl Try.sizeOf3 rfl rfl (by rw [fm_len inC 43 inC_len]; rw [ins_len]; omega) ?_
                    simp only [List.set_cons_zero, List.set_cons_succ]
                    rw [ins_jump cs J n i.toNat (((m (cs i.toNat).tx).getD 0)) (by omega)]
                    refine g_nil (g_in_normal (g_then (g_ops ?_)))
                    refine g_val rfl rfl rfl (by first | exact y_addi rfl rfl (by first | omega | (simp only [size_mk, ByteArray.size_append, ByteArray.size_extract]; omega)) | exact y_iadd rfl rfl) ?_
                    refine g_val rfl rfl rfl (y_move rfl) ?_
                    refine g_nil ?_
                    exact g_again ⟨(i + 1, fun k => if k = i.toNat then ((m (cs i.toNat).tx).getD 0) else J k), by dsimp only; omega, by dsimp only; omega, by dsimp only; rw [show (i + 1).toNat = i.toNat + 1 by omega]; have hf := finJ_to (cs := cs) (m := m) (j := j) (n := n) (k := i.toNat) (by unfold isB; omega) (by assumption) (by simpa using ‹(!(m (cs i.toNat).tx).isSome) = false›); exact stepJ hJ hf.1, by dsimp only; rw [show (i + 1).toNat = i.toNat + 1 by omega]; have hf := finJ_to (cs := cs) (m := m) (j := j) (n := n) (k := i.toNat) (by unfold isB; omega) (by assumption) (by simpa using ‹(!(m (cs i.toNat).tx).isSome) = false›); exact stepN hN hf.2⟩ [5, 10, 49, 50, 51] (by dsimp only; omega) rfl (fun w h => h.sub (.cons _ (.cons_cons _ (.cons_cons _ .slnil))))
            · skip
              try dsimp only at h5
              refine g_not rfl rfl rfl ?_
              refine g_not rfl rfl rfl ?_
              refine g_not rfl rfl rfl ?_
              refine g_not rfl rfl rfl ?_
              refine g_val rfl rfl rfl (y_pick_f rfl rfl) ?_
              refine g_nil (g_then (g_cond_f rfl (g_skip (g_then (g_seq (g_ops ?_))))))
              refine g_val rfl rfl rfl (y_move rfl) ?_
              refine g_val rfl rfl rfl (y_fieldAddr (k := 0) (m := 0) rfl (by kernel_rfl) rfl) ?_
              refine g_val rfl rfl rfl (y_fieldAddr (k := 25) (m := 25) rfl (by kernel_rfl) rfl) ?_
              refine g_val rfl rfl rfl (y_ld 0 rfl Try.isAgg9 rfl rfl) ?_
              refine g_val rfl rfl rfl (y_lookup 1 rfl rfl Try.underlying61 Try.underlying9 Try.zeroValue3 rfl (htx (by omega))) ?_
              refine g_val rfl rfl rfl (y_move rfl) ?_
              refine g_val (v := .int .i64 ((m (cs i.toNat).tx).getD 0)) rfl rfl rfl (y_extract rfl rfl) ?_
              refine g_val (v := .bool (m (cs i.toNat).tx).isSome) rfl rfl rfl (y_extract rfl rfl) ?_
              refine g_val rfl rfl rfl (y_assign rfl) ?_
              refine g_val rfl rfl rfl (y_assign rfl) ?_
              refine g_nil (g_then (g_seq (g_block (g_seq (g_ops ?_)))))
              refine g_val rfl rfl rfl (y_fieldAddr (k := 0) (m := 0) rfl (by kernel_rfl) rfl) ?_
              refine g_val rfl rfl rfl (y_fieldAddr (k := 25) (m := 25) rfl (by kernel_rfl) rfl) ?_
              refine g_val rfl rfl rfl (y_ld 0 rfl Try.isAgg9 rfl rfl) ?_
              refine g_val rfl rfl rfl (y_seq rfl rfl) ?_
              refine g_val rfl rfl rfl (y_assign rfl) ?_
              refine g_nil (g_then ?_)
              first | refine g_casep 74 rfl (fun h9 => ?_) (fun h9 => ?_) | refine g_caseb 74 rfl (fun h9 => ?_) (fun h9 => ?_)
              · skip
                try dsimp only at h9
                refine g_cond_t rfl (g_ops ?_)
                refine g_val rfl rfl rfl (y_move rfl) ?_
                refine g_val rfl rfl rfl (y_llen rfl Try.underlying27) ?_
                refine g_val rfl rfl rfl (y_assign rfl) ?_
                refine g_nil (g_in_normal (g_then (g_ops ?_)))
                refine g_val rfl rfl rfl (y_move rfl) ?_
                refine g_val rfl rfl rfl (y_move rfl) ?_
                refine g_val rfl rfl rfl (y_move rfl) ?_
                refine g_val rfl rfl rfl (y_idxAddr (m := (i).toNat * 43 + 0) rfl rfl Try.underlying27 Try.sizeOf47 (by omega) (by omega) (by omega)) ?_
                refine g_val rfl rfl rfl (y_fieldAddr (k := 42) (m := (i).toNat * 43 + 42) rfl (by kernel_rfl) rfl) ?_
                refine g_stR 2 rfl rfl rfl Try.sizeOf3 rfl rfl (by rw [fm_len inC 43 inC_len]; rw [ins_len]; omega) ?_
                simp only [List.set_cons_zero, List.set_cons_succ]
                rw [ins_jump cs J n i.toNat ((n : Int)) (by omega)]
                refine g_nil (g_in_normal (g_then (g_ops ?_)))
                refine g_val rfl rfl rfl (by first | exact y_addi rfl rfl (by first | omega | (simp only [size_mk, ByteArray.size_append, ByteArray.size_extract]; omega)) | exact y_iadd rfl rfl) ?_
                refine g_val rfl rfl rfl (y_move rfl) ?_
                refine g_nil ?_
                exact g_again ⟨(i + 1, fun k => if k = i.toNat then (n : Int) else J k), by dsimp only; omega, by dsimp only; omega, by dsimp only; rw [show (i + 1).toNat = i.toNat + 1 by omega]; have hf := finJ_end (cs := cs) (m := m) (j := j) (n := n) (k := i.toNat) (by unfold isB; omega) (by assumption); exact stepJ hJ hf.1, by dsimp only; rw [show (i + 1).toNat = i.toNat + 1 by omega]; have hf := finJ_end (cs := cs) (m := m) (j := j) (n := n) (k := i.toNat) (by unfold isB; omega) (by assumption); exact stepN hN hf.2⟩ [5, 10, 49, 50, 51] (by dsimp only; omega) rfl (fun w h => h.sub (.cons _ (.cons_cons _ (.cons_cons _ .slnil))))
              · skip
                try dsimp only at h9
                refine g_cond_f rfl (g_seq (g_ops ?_))
                refine g_val rfl rfl rfl (y_move rfl) ?_
                refine g_val rfl rfl rfl ((by first | exact y_notp rfl | exact y_not rfl)) ?_
                refine g_val rfl rfl rfl (y_assign rfl) ?_
                refine g_nil (g_then ?_)
                first | refine g_casep 81 rfl (fun h10 => ?_) (fun h10 => ?_) | refine g_caseb 81 rfl (fun h10 => ?_) (fun h10 => ?_)
                · skip
                  try dsimp only at h10
                  refine g_cond_t rfl (g_seq ?_)
                  refine g_quiet (by kernel_rfl) (by kernel_rfl) ?_
                  refine q_val rfl rfl rfl (y_fieldAddr (k := 0) (m := 0) rfl (by kernel_rfl) rfl) ?_
                  refine q_val rfl rfl rfl (y_fieldAddr (k := 0) (m := 0) rfl (by kernel_rfl) rfl) ?_
                  refine q_val rfl rfl rfl (y_ld 0 rfl Try.isAgg28 rfl rfl) ?_
                  refine q_val rfl rfl rfl (y_assign rfl) ?_
                  refine q_val rfl rfl rfl (y_assign rfl) ?_
                  refine q_val rfl rfl rfl (y_assign rfl) ?_
                  refine q_nil (g_then (g_ret (g_in_ret (g_then_ret (g_in_ret (g_then_ret (g_then_ret (g_in_ret (g_then_ret ?_)))))))))
                  refine g_end3 Try.results10 rfl rfl rfl ?_
                  exact fun w hS => ⟨⟨(⟨[], _, _, _⟩, _), .inr ⟨by omega, none, j, hbr, .inr ⟨rfl, .inr ⟨m, hlb, .inl ⟨i.toNat, by omega, ⟨by unfold isB; omega, by assumption, by simpa using ‹(!(m (cs i.toNat).tx).isSome) = true›⟩, hN, rfl⟩⟩⟩⟩⟩, rfl, (hS.sub (.cons _ (.cons _ (.cons _ .slnil)))).nilRow 47 43⟩
                · skip
                  try dsimp only at h10
                  refine g_cond_f rfl (g_skip (g_in_normal (g_then (g_ops ?_))))
                  refine g_val rfl rfl rfl (y_move rfl) ?_
                  refine g_val rfl rfl rfl (y_move rfl) ?_
                  refine g_val rfl rfl rfl (y_move rfl) ?_
                  refine g_val rfl rfl rfl (y_idxAddr (m := (i).toNat * 43 + 0) rfl rfl Try.underlying27 Try.sizeOf47 (by omega) (by omega) (by omega)) ?_
                  refine g_val rfl rfl rfl (y_fieldAddr (k := 42) (m := (i).toNat * 43 + 42) rfl (by kernel_rfl) rfl) ?_
                  refine g_stR 2 rfl rfl rfl Try.sizeOf3 rfl rfl (by rw [fm_len inC 43 inC_len]; rw [ins_len]; omega) ?_
                  simp only [List.set_cons_zero, List.set_cons_succ]
                  rw [ins_jump cs J n i.toNat (((m (cs i.toNat).tx).getD 0)) (by omega)]
                  refine g_nil (g_in_normal (g_then (g_ops ?_)))
                  refine g_val rfl rfl rfl (by first | exact y_addi rfl rfl (by first | omega | (simp only [size_mk, ByteArray.size_append, ByteArray.size_extract]; omega)) | exact y_iadd rfl rfl) ?_
                  refine g_val rfl rfl rfl (y_move rfl) ?_
                  refine g_nil ?_
                  exact g_again ⟨(i + 1, fun k => if k = i.toNat then ((m (cs i.toNat).tx).getD 0) else J k), by dsimp only; omega, by dsimp only; omega, by dsimp only; rw [show (i + 1).toNat = i.toNat + 1 by omega]; have hf := finJ_to (cs := cs) (m := m) (j := j) (n := n) (k := i.toNat) (by unfold isB; omega) (by assumption) (by simpa using ‹(!(m (cs i.toNat).tx).isSome) = false›); exact stepJ hJ hf.1, by dsimp only; rw [show (i + 1).toNat = i.toNat + 1 by omega]; have hf := finJ_to (cs := cs) (m := m) (j := j) (n := n) (k := i.toNat) (by unfold isB; omega) (by assumption) (by simpa using ‹(!(m (cs i.toNat).tx).isSome) = false›); exact stepN hN hf.2⟩ [5, 10, 49, 50, 51] (by dsimp only; omega) rfl (fun w h => h.sub (.cons _ (.cons_cons _ (.cons_cons _ .slnil))))
          · skip
            try dsimp only at h3
            refine g_cond_f rfl (g_exit (g_then_exit (g_then_exit (g_in_exit (g_then (g_seq (g_ops ?_)))))))
            refine g_val rfl rfl rfl (y_move rfl) ?_
            refine g_val rfl rfl rfl (y_assign rfl) ?_
            refine g_val rfl rfl rfl (y_assign rfl) ?_
            refine g_val rfl rfl rfl (y_assign rfl) ?_
            refine g_nil (g_then (g_ret ?_))
            refine g_end3 Try.results10 rfl rfl rfl ?_
            have hin : i.toNat = n := by omega
            rw [hin] at hN hJ
            exact fun w hS => ⟨⟨(⟨insOf cs J n, 0, 0, 0⟩, _), .inr ⟨by omega, none, j, hbr, .inr ⟨rfl, .inr ⟨m, hlb, .inr ⟨hN, J, fun k hk => by rw [hJ k hk, if_pos hk], rfl⟩⟩⟩⟩⟩, rfl, by dsimp only; rw [ins_len]; exact hS.sub (.cons _ (.cons_cons _ .slnil))⟩
        · skip
          simp only [labE, List.cons_append, List.nil_append]
          refine g_val rfl rfl rfl (y_move rfl) ?_
          refine g_val rfl rfl rfl (y_extract rfl rfl) ?_
          refine g_val rfl rfl rfl (y_extract rfl rfl) ?_
          refine g_val rfl rfl rfl (y_extract rfl rfl) ?_
          refine g_val rfl rfl rfl (y_assign rfl) ?_
          refine g_val rfl rfl rfl (y_assign rfl) ?_
          refine g_val rfl rfl rfl (y_assign rfl) ?_
          refine g_nil (g_then (g_seq (g_seq (g_ops ?_))))
          refine g_val rfl rfl rfl (y_move rfl) ?_
          refine g_val rfl rfl rfl (y_lit true (y_not rfl) rfl) ?_
          refine g_nil (g_then (g_cond_t rfl (g_seq (g_ops ?_))))
          refine g_val rfl rfl rfl (y_move rfl) ?_
          refine g_val rfl rfl rfl (y_assign rfl) ?_
          refine g_val rfl rfl rfl (y_assign rfl) ?_
          refine g_val rfl rfl rfl (y_assign rfl) ?_
          refine g_nil (g_then (g_ret (g_then_ret ?_)))
          refine g_end3 Try.results10 rfl rfl rfl ?_
          obtain ⟨hk, m0, h1, h2, h3⟩ := hlb
          exact fun w hS => ⟨⟨(⟨[], _, _, _⟩, _), .inr ⟨by omega, none, j, hbr, .inr ⟨rfl, .inl ⟨kl, m0, hk, h1, h2, h3, rfl⟩⟩⟩⟩, rfl, (hS.sub (.cons _ .slnil)).nilRow 47 43⟩
      · skip
        refine g_val rfl rfl rfl (y_move rfl) ?_
        refine g_val rfl rfl rfl (y_extract rfl rfl) ?_
        refine g_val rfl rfl rfl (y_extract rfl rfl) ?_
        refine g_val rfl rfl rfl (y_assign rfl) ?_
        refine g_val rfl rfl rfl (y_assign rfl) ?_
        refine g_nil (g_then (g_seq (g_ops ?_)))
        refine g_val rfl rfl rfl (y_move rfl) ?_
        refine g_val rfl rfl rfl (y_lit true (y_not rfl) rfl) ?_
        refine g_nil (g_then (g_cond_t rfl (g_seq (g_ops ?_))))
        refine g_val rfl rfl rfl (y_move rfl) ?_
        refine g_val rfl rfl rfl (y_assign rfl) ?_
        refine g_val rfl rfl rfl (y_assign rfl) ?_
        refine g_val rfl rfl rfl (y_assign rfl) ?_
        refine g_nil (g_then (g_ret (g_then_ret ?_)))
        refine g_end3 Try.results10 rfl rfl rfl ?_
        exact fun w hS => ⟨⟨(⟨[], _, _, _⟩, _), .inr ⟨by omega, some kb, j, hbr, .inl ⟨kb, rfl, rfl⟩⟩⟩, rfl, (hS.sub (.cons _ .slnil)).nilRow 47 43⟩

end Go.Proofs.Ytpacnggomjepdaa
