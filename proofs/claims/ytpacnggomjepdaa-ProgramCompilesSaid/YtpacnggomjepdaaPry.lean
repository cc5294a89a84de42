/- The document's answer: with, Files. -/
import Derived.Test.YtpacnggomjepdaaPrt
import Derived.Test.YtpacnggomjepdaaPrq
namespace Go.Proofs.Ytpacnggomjepdaa
open Go Go.RowKit

theorem g_buildNil {P : Program} {N : Nat} {R : Regs} {W0 : World} {F : List Nat} {L : List Ent} {Q : Exit → Act → World → Prop} {ops : Array Oper} {rest : List Oper} {ty t e : TypeId} {pos : String} {af : Array Edge} {gd : Option (Nat × Bool)} {d sz : Nat} (hw : want ops R ⟨some d, .buildSlice t 0 #[], ty, pos, af, gd⟩ = some true) (hN : Nat.blt d N = true)
    (hu : P.underlying t = some (.slice e)) (hz : ∀ w, (sizeOf e).run P w = .ok sz w) (h : ∀ b, G N ((d, .slice (some ⟨b, 0, none⟩) 0 0) :: R) (St W0 F (.cells b e [] :: L)) (wpList P ops Q rest)) : G N R (St W0 F L) (wpList P ops Q (⟨some d, .buildSlice t 0 #[], ty, pos, af, gd⟩ :: rest)) :=
  g_one hw fun _ a w hR hS hK => by
    refine Oper.wp_ok (w' := w.alloc (.cells #[] e)) (v := .slice (some ⟨w.heap.size, 0, none⟩) 0 0) ?_ (hK _ _ (h w.heap.size _ _ (hR.put hN) (hS.new e [])))
    simp [execOp, Instr.buildSlice, Sem.run_bind, run_underlying hu, hz, Instr.fill, newRow]
    rw [show (Array.range 0) = #[] by simp [Array.range]]
    simp
theorem y_slt {P : Program} {N : Nat} {R : Regs} {S : World → Prop} {dst : Option Tmp} {ty t t' : TypeId} {pos : String} {af : Array Edge} {gd : Option (Nat × Bool)} {x y : Operand} {s u : ByteArray} (hx : ev R x = some (.string s)) (hy : ev R y = some (.string u)) : Yv P N R S ⟨dst, .binOp .lss t x y t', ty, pos, af, gd⟩ (.bool (Op.bytesLess s.toList u.toList)) := y_bin hx hy fun w => by simp [eqGuard, binOp, Op.stringOp]
theorem less_lt {a b : ByteArray} : Op.bytesLess a.toList b.toList = true ↔ ltB a b := by
  rw [ba_toList, ba_toList, Go.Proofs.bytesLess_eq, decide_eq_true_eq]; rfl
theorem ltB_trans {a b c : ByteArray} (h1 : ltB a b) (h2 : ltB b c) : ltB a c := List.lt_trans h1 h2
theorem ltB_tri {a b : ByteArray} (h1 : ¬ ltB a b) (h2 : b ≠ a) : ltB b a := by
  by_cases h : ltB b a
  · exact h
  · exact absurd (ba_inj (List.le_antisymm (List.not_lt.1 h1) (List.not_lt.1 h))) h2
theorem ltB_irr (a : ByteArray) : ¬ ltB a a := List.lt_irrefl _
/-- One more, at its place. -/
def insB (fs : List ByteArray) (s : ByteArray) (k : Nat) : List ByteArray := fs.take k ++ s :: fs.drop k
theorem insB_len (fs : List ByteArray) (s : ByteArray) (k : Nat) : (insB fs s k).length = fs.length + 1 := by
  unfold insB
  rw [List.length_append, List.length_cons, List.length_take, List.length_drop]; omega
theorem insB_end (fs : List ByteArray) (s : ByteArray) : fs ++ [s] = insB fs s fs.length := by unfold insB; rw [List.take_length, List.drop_length]
theorem insB_at (fs : List ByteArray) (s : ByteArray) (k : Nat) (h : k ≤ fs.length) : (insB fs s k)[k]? = some s := by
  unfold insB
  rw [List.getElem?_append_right (by rw [List.length_take]; omega), List.length_take, Nat.min_eq_left h, Nat.sub_self]; rfl
theorem insB_pre (fs : List ByteArray) (s : ByteArray) (k i : Nat) (hi : i < k) (h : k ≤ fs.length) : (insB fs s k)[i]? = some (fs.getD i ⟨#[]⟩) := by
  unfold insB
  rw [List.getElem?_append_left (by rw [List.length_take]; omega), List.getElem?_take, if_pos hi, getB_get fs i (by omega)]
theorem insB_swap (fs : List ByteArray) (s : ByteArray) (k : Nat) (h0 : 0 < k) (h : k ≤ fs.length) : ((insB fs s k).set k (fs.getD (k - 1) ⟨#[]⟩)).set (k - 1) s = insB fs s (k - 1) := by
  apply List.ext_getElem?
  intro i
  have hg := getB_get fs (k - 1) (by omega)
  rw [List.getElem?_set, List.length_set, insB_len, List.getElem?_set, insB_len]
  by_cases e1 : k - 1 = i
  · subst e1
    rw [if_pos rfl, if_pos (by omega), insB_at fs s (k - 1) (by omega)]
  · rw [if_neg e1]
    by_cases e2 : k = i
    · subst e2
      rw [if_pos rfl, if_pos (by omega)]
      unfold insB
      rw [List.getElem?_append_right (by rw [List.length_take]; omega), List.length_take, Nat.min_eq_left (by omega), show k - (k - 1) = 1 by omega, List.getElem?_cons_succ, List.getElem?_drop, Nat.add_zero, hg]
    · rw [if_neg e2]
      unfold insB
      by_cases e3 : i < k - 1
      · rw [List.getElem?_append_left (by rw [List.length_take]; omega), List.getElem?_append_left (by rw [List.length_take]; omega), List.getElem?_take, List.getElem?_take, if_pos (by omega), if_pos e3]
      · rw [List.getElem?_append_right (by rw [List.length_take]; omega), List.getElem?_append_right (by rw [List.length_take]; omega), List.length_take, List.length_take, Nat.min_eq_left (by omega), Nat.min_eq_left (by omega)]
        rw [show i - k = (i - k - 1) + 1 by omega, show i - (k - 1) = (i - k - 1 + 1) + 1 by omega, List.getElem?_cons_succ, List.getElem?_cons_succ, List.getElem?_drop, List.getElem?_drop]
        congr 1; omega
def withR (fs : List ByteArray) (s : ByteArray) (gs : List ByteArray) : Prop := gs.Pairwise ltB ∧ (∀ u, u ∈ gs ↔ u ∈ fs ∨ u = s) ∧ gs.length ≤ fs.length + 1
theorem with_old {fs : List ByteArray} {s : ByteArray} (hs : fs.Pairwise ltB) {i : Nat} (hi : i < fs.length) (he : fs.getD i ⟨#[]⟩ = s) : withR fs s fs := ⟨hs, fun u => ⟨.inl, fun h => h.elim id fun q => by rw [q, ← he]; exact getB_mem fs i hi⟩, by omega⟩
def gtB (fs : List ByteArray) (s : ByteArray) (k : Nat) : Prop := ∀ i, k ≤ i → i < fs.length → ltB s (fs.getD i ⟨#[]⟩)
theorem with_new {fs : List ByteArray} {s : ByteArray} {k : Nat} (hs : fs.Pairwise ltB) (hk : k ≤ fs.length) (hn : ∀ i, i < fs.length → fs.getD i ⟨#[]⟩ ≠ s) (hg : gtB fs s k) (he : k = 0 ∨ ¬ ltB s (fs.getD (k - 1) ⟨#[]⟩)) : withR fs s (insB fs s k) := by
  have hlt : ∀ a, a ∈ fs.take k → ltB a s := fun a ha => by
    obtain ⟨i, h1⟩ := List.getElem?_of_mem ha
    have hik : i < k := by
      have := (List.getElem?_eq_some_iff.1 h1).1
      rw [List.length_take] at this; omega
    rw [List.getElem?_take, if_pos hik, getB_get fs i (by omega)] at h1
    obtain rfl := Option.some.inj h1
    rcases he with he | he
    · omega
    · have h3 := ltB_tri he (hn (k - 1) (by omega))
      by_cases e : i = k - 1
      · subst e; exact h3
      · exact ltB_trans (inc_get hs (show i < k - 1 by omega) (by omega)) h3
  have hgt : ∀ b, b ∈ fs.drop k → ltB s b := fun b hb => by
    obtain ⟨i, h1⟩ := List.getElem?_of_mem hb
    have hik : k + i < fs.length := by
      have := (List.getElem?_eq_some_iff.1 h1).1
      rw [List.length_drop] at this; omega
    rw [List.getElem?_drop, getB_get fs (k + i) hik] at h1
    obtain rfl := Option.some.inj h1
    exact hg (k + i) (by omega) hik
  refine ⟨?_, fun u => ?_, by rw [insB_len]; omega⟩
  · have hs' : (fs.take k ++ fs.drop k).Pairwise ltB := by rw [List.take_append_drop]; exact hs
    obtain ⟨p1, p2, _⟩ := List.pairwise_append.1 hs'
    refine List.pairwise_append.2 ⟨p1, List.pairwise_cons.2 ⟨hgt, p2⟩, fun a ha b hb => ?_⟩
    rcases List.mem_cons.1 hb with rfl | hb
    · exact hlt a ha
    · exact ltB_trans (hlt a ha) (hgt b hb)
  · unfold insB
    rw [List.mem_append, List.mem_cons]
    have : u ∈ fs ↔ u ∈ fs.take k ∨ u ∈ fs.drop k := by rw [← List.mem_append, List.take_append_drop]
    rw [this]
    constructor
    · rintro (h | h | h)
      · exact .inl (.inl h)
      · exact .inr h
      · exact .inl (.inr h)
    · rintro ((h | h) | h)
      · exact .inl h
      · exact .inr (.inr h)
      · exact .inr (.inl h)
theorem files_one {cs : Nat → Cm} {n : Nat} {a b : List ByteArray} (ha : filesR cs n a) (hb : filesR cs n b) : a = b := by
  have nd : ∀ {l : List ByteArray}, l.Pairwise ltB → l.Nodup := fun h => h.imp fun {x y} q e => by subst e; exact ltB_irr _ q
  refine List.Perm.eq_of_pairwise (le := ltB) (fun x y _ _ h1 h2 => absurd (ltB_trans h1 h2) (ltB_irr _)) ha.1 hb.1 ?_
  exact (List.perm_ext_iff_of_nodup (nd ha.1) (nd hb.1)).2 fun s => by rw [ha.2 s, hb.2 s]
theorem files_with {cs : Nat → Cm} {i : Nat} {fs gs : List ByteArray} {s : ByteArray} (h : filesR cs i fs) (hw : withR fs s gs) (hs : ∀ u, hitF cs i u ↔ u = s) : filesR cs (i + 1) gs := ⟨hw.1, fun u => by
  rw [hw.2.1 u, h.2 u]
  constructor
  · rintro (⟨k, h1, h2⟩ | h)
    · exact ⟨k, by omega, h2⟩
    · exact ⟨i, by omega, (hs u).2 h⟩
  · rintro ⟨k, h1, h2⟩
    by_cases e : k = i
    · subst e; exact .inr ((hs u).1 h2)
    · exact .inl ⟨k, by omega, h2⟩⟩
theorem files_same {cs : Nat → Cm} {i : Nat} {fs : List ByteArray} (h : filesR cs i fs) (hs : ∀ u, ¬ hitF cs i u) : filesR cs (i + 1) fs := ⟨h.1, fun u => by
  rw [h.2 u]
  constructor
  · rintro ⟨k, h1, h2⟩; exact ⟨k, by omega, h2⟩
  · rintro ⟨k, h1, h2⟩
    by_cases e : k = i
    · subst e; exact absurd h2 (hs u)
    · exact ⟨k, by omega, h2⟩⟩

set_option maxRecDepth 100000 in
theorem with_any (p : Option Addr) (c : Nat) (fs : List ByteArray) (s : ByteArray) (F : List Nat) (w : World) (hs : fs.Pairwise ltB) (hm : fs.length ≤ 1000) (hS0 : St w F [.row 9 1 (.slice p fs.length c) fs.length (fs.flatMap sC)] w) :
    Calls Try.prog 26 #[.slice p fs.length c, .string s] w fun e w' => ∃ x : {x : Value × List ByteArray // withR fs s x.2}, e = .returned x.1.1 ∧ St w F [.row 9 1 x.1.1 x.1.2.length (x.1.2.flatMap sC)] w' := by
  refine fn_intro_own Try.func26 rfl Try.ntmps26 rfl rfl hS0 ?_
  refine g_seq (g_ops ?_)
  refine g_val rfl rfl rfl (y_assign rfl) ?_
  refine g_nil (g_then (g_seq (g_seq (g_ops ?_))))
  refine g_val rfl rfl rfl (y_assign rfl) ?_
  refine g_nil (g_then (g_block ?_))
  refine g_loop (α := {x : Int // 0 ≤ x ∧ x ≤ fs.length ∧ ∀ i, i < x.toNat → fs.getD i ⟨#[]⟩ ≠ s}) (fun x => [(0, (.slice p fs.length c)), (1, .string s), (5, .int .i64 x.1)]) (fun x => St w F [.row 9 1 (.slice p fs.length c) fs.length (fs.flatMap sC)]) (fun x => fs.length - x.1.toNat) ⟨0, by omega, by omega, fun i h => absurd h (Nat.not_lt_zero i)⟩ [0, 1, 5] rfl (fun w h => h.sub (.cons_cons _ .slnil)) ?_
  rintro ⟨i, hx⟩
  dsimp only
  obtain ⟨hi0, hi1, hno⟩ := hx
  refine g_seq (g_seq (g_ops ?_))
  refine g_val rfl rfl rfl (y_move rfl) ?_
  refine g_val rfl rfl rfl (y_move rfl) ?_
  refine g_val rfl rfl rfl (y_llen rfl Try.underlying55) ?_
  refine g_val rfl rfl rfl (y_ilt rfl rfl) ?_
  refine g_nil (g_then ?_)
  first | refine g_casep 12 rfl (fun h1 => ?_) (fun h1 => ?_) | refine g_caseb 12 rfl (fun h1 => ?_) (fun h1 => ?_)
  · skip
    refine g_cond_t rfl (g_skip (g_then (g_seq (g_block (g_seq (g_ops ?_))))))
    refine g_val rfl rfl rfl (y_move rfl) ?_
    refine g_val rfl rfl rfl (y_move rfl) ?_
    refine g_rowCase 0 rfl (by omega) (fun gr2 cr2 hv2 => ?_)
    cases hv2
    refine g_val rfl rfl rfl (y_idxAddr (m := (i).toNat * 1 + 0) rfl rfl Try.underlying55 Try.sizeOf9 (by omega) (by omega) (by omega)) ?_
    refine g_val rfl rfl rfl (y_ldR (u := .string (fs.getD ((i).toNat) ⟨#[]⟩)) 0 rfl Try.isAgg9 rfl ((fm_get sC 1 sC_len _ (i).toNat 0 _ (getB_get fs ((i).toNat) (by omega)) (by decide)).trans rfl)) ?_
    refine g_val rfl rfl rfl (y_move rfl) ?_
    refine g_val rfl rfl rfl (y_seq rfl rfl) ?_
    refine g_nil (g_then ?_)
    first | refine g_casep 20 rfl (fun h3 => ?_) (fun h3 => ?_) | refine g_caseb 20 rfl (fun h3 => ?_) (fun h3 => ?_)
    · skip
      refine g_cond_t rfl (g_seq (g_ops ?_))
      refine g_val rfl rfl rfl (y_move rfl) ?_
      refine g_val rfl rfl rfl (y_assign rfl) ?_
      refine g_nil (g_then (g_ret (g_in_ret (g_then_ret (g_then_ret (g_in_ret (g_then_ret ?_)))))))
      refine g_end1 Try.results26 rfl ?_
      exact fun w hS => ⟨⟨(_, fs), with_old (i := i.toNat) hs (by omega) (by assumption)⟩, rfl, hS.sub (.cons_cons _ .slnil)⟩
    · skip
      refine g_cond_f rfl (g_skip (g_in_normal (g_then (g_ops ?_))))
      refine g_val rfl rfl rfl (y_move rfl) ?_
      refine g_val rfl rfl rfl (by first | exact y_addi rfl rfl (by first | omega | (simp only [size_mk, ByteArray.size_append, ByteArray.size_extract]; omega)) | exact y_iadd rfl rfl) ?_
      refine g_val rfl rfl rfl (y_assign rfl) ?_
      refine g_nil ?_
      exact g_again ⟨i + 1, by omega, by omega, by rw [show (i + 1).toNat = i.toNat + 1 by omega]; intro q hq; by_cases e : q = i.toNat; rw [e]; assumption; exact hno q (by omega)⟩ [0, 1, 5] (by dsimp only; omega) rfl (fun w h => h.sub (.cons_cons _ .slnil))
  · skip
    refine g_cond_f rfl (g_exit (g_then_exit (g_then_exit (g_in_exit (g_then (g_seq ?_))))))
    have hno2 : ∀ q, q < fs.length → fs.getD q ⟨#[]⟩ ≠ s := fun q hq => hno q (by omega)
    refine g_ops ?_
    refine g_buildNil rfl rfl Try.underlying55 Try.sizeOf9 (fun b1 => ?_)
    refine g_val rfl rfl rfl (y_move rfl) ?_
    refine g_rowOf sC ([] : List ByteArray) 0 rfl rfl sC_len rfl (by decide) ?_
    simp only [List.set_cons_zero]
    refine g_appRow (bytes := 16) sC (cs := []) (ds := fs) 0 1 rfl rfl rfl rfl Try.underlying55 (by kernel_rfl) rfl rfl rfl sC_len (fun _ => rfl) (by simp only [List.length_nil]; omega) (by simp only [List.length_nil]; have : maxLen = 9223372036854775807 := rfl; omega) (fun v24 => ?_)
    simp only [List.set_cons_zero]
    rw [List.nil_append]
    refine g_val rfl rfl rfl (y_move rfl) ?_
    refine g_buildSlice (offs := [0]) rfl rfl Try.underlying55 rfl Try.zeroValue9 (by kernel_rfl) (fun b2 => ?_)
    refine g_appS (bytes := 16) sC (s) 1 (j := 0) rfl rfl rfl rfl Try.underlying55 (by kernel_rfl) rfl rfl sC_len rfl (by omega) (by have : maxLen = 9223372036854775807 := rfl; omega) (fun v3 => ?_)
    simp only [List.set_cons_zero, List.set_cons_succ]
    rw [insB_end, insB_len]
    refine g_val rfl rfl rfl (y_assign rfl) ?_
    refine g_nil (g_then (g_seq (g_seq (g_ops ?_))))
    refine g_val rfl rfl rfl (y_move rfl) ?_
    refine g_rowLen 1 rfl (fun pr4 cr4 hv4 => ?_)
    cases hv4
    refine g_val rfl rfl rfl (y_llen rfl Try.underlying55) ?_
    refine g_val rfl rfl rfl (y_pred (a := fs.length + 1) (b := fs.length) rfl rfl) ?_
    refine g_val rfl rfl rfl (y_assign rfl) ?_
    refine g_nil (g_then (g_block ?_))
    refine g_loop (α := {x : Int × Value // 0 ≤ x.1 ∧ x.1 ≤ fs.length ∧ gtB fs s x.1.toNat}) (fun x => [(6, x.1.2), (7, .int .i64 x.1.1)]) (fun x => St w F [.row 9 1 x.1.2 (fs.length + 1) ((insB fs s x.1.1.toNat).flatMap sC)]) (fun x => x.1.1.toNat) ⟨((fs.length : Int), (.slice pr4 ((fs.length + 1)) cr4)), by dsimp only; omega, by dsimp only; omega, fun i h1 h2 => by dsimp only at h1; omega⟩ [6, 7] rfl (fun w h => h.sub (.cons _ (.cons_cons _ (.cons _ .slnil)))) ?_
    rintro ⟨⟨k, v⟩, hx⟩
    dsimp only
    dsimp only at hx
    obtain ⟨hk0, hk1, hg⟩ := hx
    refine g_seq (g_seq ?_)
    refine g_rowCase 0 rfl (by omega) (fun gr5 cr5 hv5 => ?_)
    cases hv5
    refine g_quiet (by kernel_rfl) (by kernel_rfl) ?_
    refine q_val rfl rfl rfl (y_move rfl) ?_
    refine q_val rfl rfl rfl (y_igt rfl rfl) ?_
    refine q_val rfl rfl rfl (y_move rfl) ?_
    first | refine q_casep 33 rfl (fun h6 => ?_) (fun h6 => ?_) | refine q_caseb 33 rfl (fun h6 => ?_) (fun h6 => ?_)
    · skip
      refine q_val rfl rfl rfl (y_move rfl) ?_
      refine q_val rfl rfl rfl (y_move rfl) ?_
      refine q_val rfl rfl rfl (y_idxAddr (m := (k).toNat * 1 + 0) rfl rfl Try.underlying55 Try.sizeOf9 (by omega) (by omega) (by omega)) ?_
      refine q_val rfl rfl rfl (y_ldR (u := .string s) 0 rfl Try.isAgg9 rfl ((fm_get sC 1 sC_len _ (k).toNat 0 _ (insB_at fs s k.toNat (by omega)) (by decide)).trans rfl)) ?_
      refine q_val rfl rfl rfl (y_move rfl) ?_
      refine q_val rfl rfl rfl (y_move rfl) ?_
      refine q_val rfl rfl rfl (y_subi rfl rfl (by omega)) ?_
      refine q_val rfl rfl rfl (y_idxAddr (m := (k.toNat - 1) * 1 + 0) rfl rfl Try.underlying55 Try.sizeOf9 (by omega) (by omega) (by omega)) ?_
      refine q_val rfl rfl rfl (y_ldR (u := .string (fs.getD ((k.toNat - 1)) ⟨#[]⟩)) 0 rfl Try.isAgg9 rfl ((fm_get sC 1 sC_len _ (k.toNat - 1) 0 _ (insB_pre fs s k.toNat ((k.toNat - 1)) (by omega) (by omega)) (by decide)).trans rfl)) ?_
      refine q_val rfl rfl rfl (y_slt rfl rfl) ?_
      refine q_val rfl rfl rfl (y_pick_t rfl rfl) ?_
      refine q_nil (g_then ?_)
      first | refine g_casep 44 rfl (fun h7 => ?_) (fun h7 => ?_) | refine g_caseb 44 rfl (fun h7 => ?_) (fun h7 => ?_)
      · skip
        refine g_cond_t rfl (g_skip (g_then (g_seq (g_block (g_seq (g_ops ?_))))))
        refine g_val rfl rfl rfl (y_move rfl) ?_
        refine g_val rfl rfl rfl (y_move rfl) ?_
        refine g_val rfl rfl rfl (y_idxAddr (m := (k).toNat * 1 + 0) rfl rfl Try.underlying55 Try.sizeOf9 (by omega) (by omega) (by omega)) ?_
        refine g_val rfl rfl rfl (y_ldR (u := .string s) 0 rfl Try.isAgg9 rfl ((fm_get sC 1 sC_len _ (k).toNat 0 _ (insB_at fs s k.toNat (by omega)) (by decide)).trans rfl)) ?_
        refine g_val rfl rfl rfl (y_assign rfl) ?_
        refine g_nil (g_then (g_seq (g_ops ?_)))
        refine g_val rfl rfl rfl (y_move rfl) ?_
        refine g_val rfl rfl rfl (y_move rfl) ?_
        refine g_val rfl rfl rfl (y_move rfl) ?_
        refine g_val rfl rfl rfl (y_move rfl) ?_
        refine g_val rfl rfl rfl (y_subi rfl rfl (by omega)) ?_
        refine g_val rfl rfl rfl (y_idxAddr (m := (k.toNat - 1) * 1 + 0) rfl rfl Try.underlying55 Try.sizeOf9 (by omega) (by omega) (by omega)) ?_
        refine g_val rfl rfl rfl (y_ldR (u := .string (fs.getD ((k.toNat - 1)) ⟨#[]⟩)) 0 rfl Try.isAgg9 rfl ((fm_get sC 1 sC_len _ (k.toNat - 1) 0 _ (insB_pre fs s k.toNat ((k.toNat - 1)) (by omega) (by omega)) (by decide)).trans rfl)) ?_
        refine g_val rfl rfl rfl (y_idxAddr (m := (k).toNat * 1 + 0) rfl rfl Try.underlying55 Try.sizeOf9 (by omega) (by omega) (by omega)) ?_
        refine g_stR 0 rfl rfl rfl Try.sizeOf9 rfl rfl (by rw [fm_len sC 1 sC_len]; first | (rw [insB_len]; omega) | (rw [List.length_set, insB_len]; omega)) ?_
        simp only [List.set_cons_zero]
        rw [fm_set sC 1 sC_len _ k.toNat 0 _ (fs.getD ((k.toNat - 1)) ⟨#[]⟩) _ (insB_at fs s k.toNat (by omega)) (by decide) rfl]
        refine g_nil (g_then (g_ops ?_))
        refine g_val rfl rfl rfl (y_move rfl) ?_
        refine g_val rfl rfl rfl (y_move rfl) ?_
        refine g_val rfl rfl rfl (y_subi rfl rfl (by omega)) ?_
        refine g_val rfl rfl rfl (y_move rfl) ?_
        refine g_val rfl rfl rfl (y_idxAddr (m := (k.toNat - 1) * 1 + 0) rfl rfl Try.underlying55 Try.sizeOf9 (by omega) (by omega) (by omega)) ?_
        refine g_stR 0 rfl rfl rfl Try.sizeOf9 rfl rfl (by rw [fm_len sC 1 sC_len]; first | (rw [insB_len]; omega) | (rw [List.length_set, insB_len]; omega)) ?_
        simp only [List.set_cons_zero]
        rw [fm_set sC 1 sC_len _ (k.toNat - 1) 0 _ s _ (by rw [List.getElem?_set, if_neg (by omega)]; exact insB_pre fs s k.toNat ((k.toNat - 1)) (by omega) (by omega)) (by decide) rfl, insB_swap fs s k.toNat (by omega) (by omega), show k.toNat - 1 = (k - 1).toNat by omega]
        refine g_nil (g_in_normal (g_then (g_ops ?_)))
        refine g_val rfl rfl rfl (y_move rfl) ?_
        refine g_val rfl rfl rfl (by first | exact y_subi rfl rfl (by first | omega | (simp only [size_mk, ByteArray.size_append, ByteArray.size_extract]; omega)) | exact y_isub rfl rfl) ?_
        refine g_val rfl rfl rfl (y_assign rfl) ?_
        refine g_nil ?_
        exact g_again ⟨(k - 1, _), by dsimp only; omega, by dsimp only; omega, fun q h1 h2 => by dsimp only at h1; by_cases e : q = k.toNat - 1; subst e; exact less_lt.1 (by assumption); exact hg q (by omega) h2⟩ [6, 7] (by dsimp only; omega) rfl (fun w h => h.sub (.cons_cons _ .slnil))
      · skip
        refine g_cond_f rfl (g_exit (g_then_exit (g_then_exit (g_in_exit (g_then (g_seq (g_ops ?_)))))))
        refine g_val rfl rfl rfl (y_move rfl) ?_
        refine g_val rfl rfl rfl (y_assign rfl) ?_
        refine g_nil (g_then (g_ret ?_))
        refine g_end1 Try.results26 rfl ?_
        exact fun w hS => ⟨⟨(_, insB fs s k.toNat), with_new hs (by omega) hno2 hg (by first | (left; omega) | (right; rw [← less_lt, show k.toNat - 1 = k.toNat - 1 from rfl]; simpa using ‹Op.bytesLess _ _ = false›))⟩, rfl, by rw [insB_len]; exact hS.sub (.cons_cons _ .slnil)⟩
    · skip
      refine q_not rfl rfl rfl ?_
      refine q_not rfl rfl rfl ?_
      refine q_not rfl rfl rfl ?_
      refine q_not rfl rfl rfl ?_
      refine q_not rfl rfl rfl ?_
      refine q_not rfl rfl rfl ?_
      refine q_not rfl rfl rfl ?_
      refine q_not rfl rfl rfl ?_
      refine q_not rfl rfl rfl ?_
      refine q_not rfl rfl rfl ?_
      refine q_val rfl rfl rfl (y_pick_f rfl rfl) ?_
      refine q_nil (g_then (g_cond_f rfl (g_exit (g_then_exit (g_then_exit (g_in_exit (g_then (g_seq (g_ops ?_)))))))))
      refine g_val rfl rfl rfl (y_move rfl) ?_
      refine g_val rfl rfl rfl (y_assign rfl) ?_
      refine g_nil (g_then (g_ret ?_))
      refine g_end1 Try.results26 rfl ?_
      exact fun w hS => ⟨⟨(_, insB fs s k.toNat), with_new hs (by omega) hno2 hg (by first | (left; omega) | (right; rw [← less_lt, show k.toNat - 1 = k.toNat - 1 from rfl]; simpa using ‹Op.bytesLess _ _ = false›))⟩, rfl, by rw [insB_len]; exact hS.sub (.cons_cons _ .slnil)⟩

set_option maxRecDepth 100000 in
theorem rfiles_any (p : Option Addr) (n c : Nat) (cs : Nat → Cm) (w : World) (hn : n ≤ 1000) (hrd : RdSl w p n 42 (cmF cs)) :
    Calls Try.prog 16 #[.slice p n c] w fun e w' => ∃ x : {x : Value × List ByteArray // filesR cs n x.2}, e = .returned x.1.1 ∧ St w [] [.row 9 1 x.1.1 x.1.2.length (x.1.2.flatMap sC)] w' := by
  refine fn_intro Try.func16 rfl Try.ntmps16 rfl rfl ?_
  refine g_seq (g_ops ?_)
  refine g_val rfl rfl rfl (y_assign rfl) ?_
  refine g_nil (g_then (g_seq (g_ops ?_)))
  refine g_nilRow 9 1 ?_
  refine g_val rfl rfl rfl (y_assign rfl) ?_
  refine g_nil (g_then (g_seq (g_seq (g_ops ?_))))
  refine g_val rfl rfl rfl (y_assign rfl) ?_
  refine g_nil (g_then (g_block ?_))
  refine g_loop (α := {x : Int × Value × List ByteArray // 0 ≤ x.1 ∧ x.1 ≤ n ∧ (x.2.2.length : Int) ≤ x.1 ∧ filesR cs x.1.toNat x.2.2}) (fun x => [(0, .slice p n c), (3, x.1.2.1), (4, .int .i64 x.1.1)]) (fun x => St w [] [.row 9 1 x.1.2.1 x.1.2.2.length (x.1.2.2.flatMap sC)]) (fun x => n - x.1.1.toNat) ⟨(0, .slice none 0 0, []), by dsimp only; omega, by dsimp only; omega, by simp, List.Pairwise.nil, fun s => ⟨fun h => (by cases h), fun ⟨k, h, _⟩ => absurd h (Nat.not_lt_zero k)⟩⟩ [0, 3, 4] rfl (fun w h => h.sub (.cons_cons _ .slnil)) ?_
  rintro ⟨⟨i, v, fs⟩, hx⟩
  dsimp only
  dsimp only at hx
  obtain ⟨hi0, hi1, hle, hfs⟩ := hx
  refine g_seq (g_seq (g_ops ?_))
  refine g_val rfl rfl rfl (y_move rfl) ?_
  refine g_val rfl rfl rfl (y_move rfl) ?_
  refine g_val rfl rfl rfl (y_llen rfl Try.underlying23) ?_
  refine g_val rfl rfl rfl (y_ilt rfl rfl) ?_
  refine g_nil (g_then ?_)
  first | refine g_casep 8 rfl (fun h1 => ?_) (fun h1 => ?_) | refine g_caseb 8 rfl (fun h1 => ?_) (fun h1 => ?_)
  · skip
    refine g_cond_t rfl (g_skip (g_then (g_seq (g_block (g_seq (g_seq (g_ops ?_)))))))
    refine g_val rfl rfl rfl (y_move rfl) ?_
    refine g_val rfl rfl rfl (y_move rfl) ?_
    refine g_val rfl rfl rfl (y_rdAddr hrd rfl rfl Try.underlying23 Try.sizeOf45 (by omega) (by omega)) ?_
    refine g_val rfl rfl rfl (y_fieldAt (k := 1) rfl (by kernel_rfl) rfl) ?_
    refine g_val rfl rfl rfl (y_rdField (i := i) (j := 1) hrd rfl rfl Try.isAgg5 (by omega) (by omega) (by decide)) ?_
    refine g_val rfl rfl rfl (y_ieq rfl rfl) ?_
    refine g_nil (g_then ?_)
    first | refine g_casep 16 rfl (fun h2 => ?_) (fun h2 => ?_) | refine g_caseb 16 rfl (fun h2 => ?_) (fun h2 => ?_)
    · skip
      refine g_cond_t rfl (g_ops ?_)
      refine g_val rfl rfl rfl (y_move rfl) ?_
      refine g_val rfl rfl rfl (y_move rfl) ?_
      refine g_val rfl rfl rfl (y_move rfl) ?_
      refine g_val rfl rfl rfl (y_rdAddr hrd rfl rfl Try.underlying23 Try.sizeOf45 (by omega) (by omega)) ?_
      refine g_val rfl rfl rfl (y_fieldAt (k := 25) rfl (by kernel_rfl) rfl) ?_
      refine g_val rfl rfl rfl (y_rdField (i := i) (j := 25) hrd rfl rfl Try.isAgg9 (by omega) (by omega) (by decide)) ?_
      refine g_rowLen 0 rfl (fun pr3 cr3 hv3 => ?_)
      cases hv3
      refine g_callOwn (L0 := [.row 9 1 (.slice pr3 (fs.length) cr3) fs.length (fs.flatMap sC)]) (Lr := []) (fun x : {x : Value × List ByteArray // withR fs (cs i.toNat).tx x.2} => x.1.1) (fun x => [.row 9 1 x.1.1 x.1.2.length (x.1.2.flatMap sC)]) rfl rfl rfl Try.call26 (fun w hS => with_any _ _ fs (cs i.toNat).tx _ w hfs.1 (by omega) (St.start _ (fun e he => hS.ok e (List.mem_append_left _ he)) (List.pairwise_singleton _ _))) ?_
      rintro ⟨⟨v2, gs⟩, hw⟩
      simp only [List.append_nil]
      dsimp only at hw
      refine g_val rfl rfl rfl (y_assign rfl) ?_
      refine g_nil (g_then (g_seq (g_ops ?_)))
      refine g_val rfl rfl rfl (y_move rfl) ?_
      refine g_val rfl rfl rfl (y_move rfl) ?_
      refine g_val rfl rfl rfl (y_rdAddr hrd rfl rfl Try.underlying23 Try.sizeOf45 (by omega) (by omega)) ?_
      refine g_val rfl rfl rfl (y_fieldAt (k := 1) rfl (by kernel_rfl) rfl) ?_
      refine g_val rfl rfl rfl (y_rdField (i := i) (j := 1) hrd rfl rfl Try.isAgg5 (by omega) (by omega) (by decide)) ?_
      refine g_val rfl rfl rfl (y_lit false (y_ieq rfl rfl) (decide_eq_false (by omega))) ?_
      refine g_val rfl rfl rfl (y_move rfl) ?_
      refine g_not rfl rfl rfl ?_
      refine g_not rfl rfl rfl ?_
      refine g_not rfl rfl rfl ?_
      refine g_not rfl rfl rfl ?_
      refine g_not rfl rfl rfl ?_
      refine g_not rfl rfl rfl ?_
      refine g_val rfl rfl rfl (y_pick_f rfl rfl) ?_
      refine g_nil (g_then (g_cond_f rfl (g_skip (g_in_normal (g_then (g_ops ?_))))))
      refine g_val rfl rfl rfl (y_move rfl) ?_
      refine g_val rfl rfl rfl (by first | exact y_addi rfl rfl (by first | omega | (simp only [size_mk, ByteArray.size_append, ByteArray.size_extract]; omega)) | exact y_iadd rfl rfl) ?_
      refine g_val rfl rfl rfl (y_assign rfl) ?_
      refine g_nil ?_
      exact g_again ⟨(i + 1, _, gs), by dsimp only; omega, by dsimp only; omega, by have := hw.2.2; dsimp only; omega, by dsimp only; rw [show (i + 1).toNat = i.toNat + 1 by omega]; exact files_with hfs hw (fun u => ⟨fun q => by rcases q with ⟨q1, q2⟩ | ⟨q1, q2, q3⟩ <;> first | omega | exact q2.symm | exact q3.symm, fun q => .inl ⟨by omega, q.symm⟩⟩)⟩ [0, 3, 4] (by dsimp only; omega) rfl (fun w h => h.sub (.cons_cons _ .slnil))
    · skip
      refine g_cond_f rfl (g_skip (g_then (g_seq (g_ops ?_))))
      refine g_val rfl rfl rfl (y_move rfl) ?_
      refine g_val rfl rfl rfl (y_move rfl) ?_
      refine g_val rfl rfl rfl (y_rdAddr hrd rfl rfl Try.underlying23 Try.sizeOf45 (by omega) (by omega)) ?_
      refine g_val rfl rfl rfl (y_fieldAt (k := 1) rfl (by kernel_rfl) rfl) ?_
      refine g_val rfl rfl rfl (y_rdField (i := i) (j := 1) hrd rfl rfl Try.isAgg5 (by omega) (by omega) (by decide)) ?_
      refine g_val rfl rfl rfl (y_ieq rfl rfl) ?_
      refine g_val rfl rfl rfl (y_move rfl) ?_
      first | refine g_casep 30 rfl (fun h4 => ?_) (fun h4 => ?_) | refine g_caseb 30 rfl (fun h4 => ?_) (fun h4 => ?_)
      · skip
        refine g_val rfl rfl rfl (y_move rfl) ?_
        refine g_val rfl rfl rfl (y_move rfl) ?_
        refine g_val rfl rfl rfl (y_rdAddr hrd rfl rfl Try.underlying23 Try.sizeOf45 (by omega) (by omega)) ?_
        refine g_val rfl rfl rfl (y_fieldAt (k := 41) rfl (by kernel_rfl) rfl) ?_
        refine g_val rfl rfl rfl (y_rdField (i := i) (j := 41) hrd rfl rfl Try.isAgg9 (by omega) (by omega) (by decide)) ?_
        refine g_val rfl rfl rfl (y_sne rfl rfl) ?_
        refine g_val rfl rfl rfl (y_pick_t rfl rfl) ?_
        refine g_nil (g_then ?_)
        first | refine g_casep 37 rfl (fun h5 => ?_) (fun h5 => ?_) | refine g_caseb 37 rfl (fun h5 => ?_) (fun h5 => ?_)
        · skip
          refine g_cond_t rfl (g_ops ?_)
          refine g_val rfl rfl rfl (y_move rfl) ?_
          refine g_val rfl rfl rfl (y_move rfl) ?_
          refine g_val rfl rfl rfl (y_move rfl) ?_
          refine g_val rfl rfl rfl (y_rdAddr hrd rfl rfl Try.underlying23 Try.sizeOf45 (by omega) (by omega)) ?_
          refine g_val rfl rfl rfl (y_fieldAt (k := 41) rfl (by kernel_rfl) rfl) ?_
          refine g_val rfl rfl rfl (y_rdField (i := i) (j := 41) hrd rfl rfl Try.isAgg9 (by omega) (by omega) (by decide)) ?_
          refine g_rowLen 0 rfl (fun pr6 cr6 hv6 => ?_)
          cases hv6
          refine g_callOwn (L0 := [.row 9 1 (.slice pr6 (fs.length) cr6) fs.length (fs.flatMap sC)]) (Lr := []) (fun x : {x : Value × List ByteArray // withR fs (cs i.toNat).fi x.2} => x.1.1) (fun x => [.row 9 1 x.1.1 x.1.2.length (x.1.2.flatMap sC)]) rfl rfl rfl Try.call26 (fun w hS => with_any _ _ fs (cs i.toNat).fi _ w hfs.1 (by omega) (St.start _ (fun e he => hS.ok e (List.mem_append_left _ he)) (List.pairwise_singleton _ _))) ?_
          rintro ⟨⟨v2, gs⟩, hw⟩
          simp only [List.append_nil]
          dsimp only at hw
          refine g_val rfl rfl rfl (y_assign rfl) ?_
          refine g_nil (g_in_normal (g_then (g_ops ?_)))
          refine g_val rfl rfl rfl (y_move rfl) ?_
          refine g_val rfl rfl rfl (by first | exact y_addi rfl rfl (by first | omega | (simp only [size_mk, ByteArray.size_append, ByteArray.size_extract]; omega)) | exact y_iadd rfl rfl) ?_
          refine g_val rfl rfl rfl (y_assign rfl) ?_
          refine g_nil ?_
          exact g_again ⟨(i + 1, _, gs), by dsimp only; omega, by dsimp only; omega, by have := hw.2.2; dsimp only; omega, by dsimp only; rw [show (i + 1).toNat = i.toNat + 1 by omega]; exact files_with hfs hw (fun u => ⟨fun q => by rcases q with ⟨q1, q2⟩ | ⟨q1, q2, q3⟩ <;> first | omega | exact q2.symm | exact q3.symm, fun q => .inr ⟨by omega, by assumption, q.symm⟩⟩)⟩ [0, 3, 4] (by dsimp only; omega) rfl (fun w h => h.sub (.cons_cons _ .slnil))
        · skip
          refine g_cond_f rfl (g_skip (g_in_normal (g_then (g_ops ?_))))
          refine g_val rfl rfl rfl (y_move rfl) ?_
          refine g_val rfl rfl rfl (by first | exact y_addi rfl rfl (by first | omega | (simp only [size_mk, ByteArray.size_append, ByteArray.size_extract]; omega)) | exact y_iadd rfl rfl) ?_
          refine g_val rfl rfl rfl (y_assign rfl) ?_
          refine g_nil ?_
          exact g_again ⟨(i + 1, _, fs), by dsimp only; omega, by dsimp only; omega, by have := hle; dsimp only; omega, by dsimp only; rw [show (i + 1).toNat = i.toNat + 1 by omega]; exact files_same hfs (fun u q => by rcases q with ⟨q1, q2⟩ | ⟨q1, q2, q3⟩ <;> first | omega | (exact absurd q2 (by assumption)))⟩ [0, 3, 4] (by dsimp only; omega) rfl (fun w h => h.sub (.cons_cons _ .slnil))
      · skip
        refine g_not rfl rfl rfl ?_
        refine g_not rfl rfl rfl ?_
        refine g_not rfl rfl rfl ?_
        refine g_not rfl rfl rfl ?_
        refine g_not rfl rfl rfl ?_
        refine g_not rfl rfl rfl ?_
        refine g_val rfl rfl rfl (y_pick_f rfl rfl) ?_
        refine g_nil (g_then (g_cond_f rfl (g_skip (g_in_normal (g_then (g_ops ?_))))))
        refine g_val rfl rfl rfl (y_move rfl) ?_
        refine g_val rfl rfl rfl (by first | exact y_addi rfl rfl (by first | omega | (simp only [size_mk, ByteArray.size_append, ByteArray.size_extract]; omega)) | exact y_iadd rfl rfl) ?_
        refine g_val rfl rfl rfl (y_assign rfl) ?_
        refine g_nil ?_
        exact g_again ⟨(i + 1, _, fs), by dsimp only; omega, by dsimp only; omega, by have := hle; dsimp only; omega, by dsimp only; rw [show (i + 1).toNat = i.toNat + 1 by omega]; exact files_same hfs (fun u q => by rcases q with ⟨q1, q2⟩ | ⟨q1, q2, q3⟩ <;> first | omega | (exact absurd q2 (by assumption)))⟩ [0, 3, 4] (by dsimp only; omega) rfl (fun w h => h.sub (.cons_cons _ .slnil))
  · skip
    refine g_cond_f rfl (g_exit (g_then_exit (g_then_exit (g_in_exit (g_then (g_seq (g_ops ?_)))))))
    refine g_val rfl rfl rfl (y_move rfl) ?_
    refine g_val rfl rfl rfl (y_assign rfl) ?_
    refine g_nil (g_then (g_ret ?_))
    refine g_end1 Try.results16 rfl ?_
    have hin : i.toNat = n := by omega
    rw [hin] at hfs
    exact fun w hS => ⟨⟨(_, fs), hfs⟩, rfl, hS.sub (.cons_cons _ .slnil)⟩

end Go.Proofs.Ytpacnggomjepdaa
