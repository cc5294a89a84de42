/- ProgramFiles: the walk. -/
import Derived.Test.YtpacnggomjepdaaPrs
import Derived.Test.YtpacnggomjepdaaPro
namespace Go.Proofs.Ytpacnggomjepdaa
open Go Go.RowKit

theorem getB_get (E : List ByteArray) (i : Nat) (h : i < E.length) : E[i]? = some (E.getD i ⟨#[]⟩) := by rw [List.getD_eq_getElem?_getD, List.getElem?_eq_getElem h]; rfl
theorem getB_mem (E : List ByteArray) (i : Nat) (h : i < E.length) : E.getD i ⟨#[]⟩ ∈ E := List.mem_of_getElem? (getB_get E i h)
theorem mem_getB {E : List ByteArray} {s : ByteArray} (h : s ∈ E) : ∃ i, i < E.length ∧ E.getD i ⟨#[]⟩ = s := by
  obtain ⟨i, hi⟩ := List.getElem?_of_mem h
  have hl := (List.getElem?_eq_some_iff.1 hi).1
  exact ⟨i, hl, by rw [getB_get E i hl] at hi; exact Option.some.inj hi⟩
theorem inc_get {E : List ByteArray} (h : E.Pairwise ltB) {a b : Nat} (hab : a < b) (hb : b < E.length) : ltB (E.getD a ⟨#[]⟩) (E.getD b ⟨#[]⟩) := by
  have h1 := getB_get E a (by omega)
  have h2 := getB_get E b hb
  have q1 := (List.getElem?_eq_some_iff.1 h1).2
  have q2 := (List.getElem?_eq_some_iff.1 h2).2
  rw [← q1, ← q2]
  exact List.pairwise_iff_getElem.1 h a b (by omega) hb hab
theorem lt_less {a b : ByteArray} (h : ltB a b) : (!(Op.bytesLess a.toList b.toList)) = false := by
  rw [ba_toList, ba_toList, Go.Proofs.bytesLess_eq, decide_eq_true (show a.data.toList < b.data.toList from h)]; rfl
/-- A truth that is gathered: I, or one of those that came. -/
def gath (I : Prop) (p : Nat → Prop) (i : Nat) (b : Bool) : Prop := b = true ↔ (I ∨ ∃ k, k < i ∧ p k)
theorem gath_0 {I : Prop} {p : Nat → Prop} {b : Bool} (h : b = true ↔ I) : gath I p 0 b := ⟨fun q => .inl (h.1 q), fun q => q.elim h.2 fun ⟨_, h, _⟩ => absurd h (Nat.not_lt_zero _)⟩
theorem gath_old {I : Prop} {p : Nat → Prop} {i : Nat} {b : Bool} (h : gath I p i b) (hb : b = true) : gath I p (i + 1) true := ⟨fun _ => (h.1 hb).elim .inl fun ⟨k, h1, h2⟩ => .inr ⟨k, by omega, h2⟩, fun _ => rfl⟩
theorem gath_on {I : Prop} {p : Nat → Prop} {i : Nat} {b : Bool} (_h : gath I p i b) (hp : p i) : gath I p (i + 1) true := ⟨fun _ => .inr ⟨i, by omega, hp⟩, fun _ => rfl⟩
theorem gath_no {I : Prop} {p : Nat → Prop} {i : Nat} {b : Bool} (h : gath I p i b) (hb : b = false) (hp : ¬ p i) : gath I p (i + 1) false := ⟨fun q => (by cases q), fun q => by
  have : b = true := h.2 (q.elim .inl fun ⟨k, h1, h2⟩ => .inr ⟨k, by
    by_cases e : k = i
    · subst e; exact absurd h2 hp
    · omega, h2⟩)
  rw [this] at hb; cases hb⟩

theorem g_rowMax {N : Nat} {R : Regs} {W0 : World} {F : List Nat} {L : List Ent} {X : Act → World → Prop} {e : TypeId} {size n : Nat} {v : Value} {xs : List Value} (i : Nat) (hi : L[i]? = some (.row e size v n xs)) (h : n ≤ maxLen → G N R (St W0 F L) X) : G N R (St W0 F L) X := fun a w hR hS => by
  have ho : w.ownsRow 0 e size v n xs := hS.get hi
  obtain ⟨_, ⟨_, h2⟩ | ⟨g, cap, cur, h1, _, _, h4, h5, _⟩⟩ := ho
  · exact h (by omega) a w hR hS
  · exact h (by omega) a w hR hS

set_option maxRecDepth 100000 in
theorem pfiles_any (p : Option Addr) (n c : Nat) (bs : Nat → Br) (w : World) (hn : n ≤ 9223372036854775807) (hrd : RdSl w p n 4 (brF bs)) :
    Calls Try.prog 7 #[.slice p n c] w fun e w' => e = .returned (.bool true) ∧ Below w.heap.size w w' := by
  refine fn_intro Try.func7 rfl Try.ntmps7 rfl rfl ?_
  refine g_seq (g_ops ?_)
  refine g_val rfl rfl rfl (y_assign rfl) ?_
  refine g_nil (g_then (g_seq (g_ops ?_)))
  refine g_val rfl rfl rfl (y_move rfl) ?_
  refine g_callNew (fun x : {x : Option Value // x ≠ none → fits bs n} => cmdV x.1) (fun x => cmdL bs n x.1) rfl rfl rfl Try.call8 (fun w hS => commands_two p n c bs w hn (hrd.stays hS)) ?_
  rintro ⟨_ | vc, hfit⟩
  · skip
    simp only [cmdL, List.cons_append, List.nil_append]
    refine g_val rfl rfl rfl (y_move rfl) ?_
    refine g_val rfl rfl rfl (y_extract rfl rfl) ?_
    refine g_val rfl rfl rfl (y_extract rfl rfl) ?_
    refine g_val rfl rfl rfl (y_assign rfl) ?_
    refine g_val rfl rfl rfl (y_assign rfl) ?_
    refine g_nil (g_then (g_seq (g_seq (g_ops ?_))))
    refine g_val rfl rfl rfl (y_move rfl) ?_
    refine g_val rfl rfl rfl (y_lit true (y_not rfl) rfl) ?_
    refine g_nil (g_then (g_cond_t rfl (g_seq (g_ops ?_))))
    refine g_call1 rfl rfl rfl Try.call9 (fun w hS => alive_any w) ?_
    refine g_val rfl rfl rfl (y_assign rfl) ?_
    refine g_nil (g_then (g_ret (g_then_ret ?_)))
    refine g_end1 Try.results7 rfl ?_
    exact fun w hS => ⟨rfl, (hS.sub (List.nil_sublist _)).below⟩
  · skip
    simp only [cmdL, List.cons_append, List.nil_append]
    have hfit := hfit (by simp)
    obtain ⟨hn220, hfits⟩ := hfit
    refine g_val rfl rfl rfl (y_move rfl) ?_
    refine g_val rfl rfl rfl (y_extract rfl rfl) ?_
    refine g_val rfl rfl rfl (y_extract rfl rfl) ?_
    refine g_val rfl rfl rfl (y_assign rfl) ?_
    refine g_val rfl rfl rfl (y_assign rfl) ?_
    refine g_nil (g_then (g_seq (g_seq (g_ops ?_))))
    refine g_val rfl rfl rfl (y_move rfl) ?_
    refine g_val rfl rfl rfl (y_lit false (y_not rfl) rfl) ?_
    refine g_nil (g_then (g_cond_f rfl (g_skip (g_then (g_seq (g_ops ?_))))))
    refine g_val rfl rfl rfl (y_move rfl) ?_
    refine g_rowLen 0 rfl (fun pr1 cr1 hv1 => ?_)
    cases hv1
    refine g_callNew (fun x : {x : Value × List ByteArray // filesR (csB bs) (n) x.2} => x.1.1) (fun x => [.row 9 1 x.1.1 x.1.2.length (x.1.2.flatMap sC)]) rfl rfl rfl Try.call15 (fun w hS => files_any _ (n) _ (csB bs) w (by omega) (fun i hi => by have := hfits i hi; exact ⟨Nat.le_trans this.1 (by decide), Nat.le_trans this.2 (by decide)⟩) (rd_cm (hS.get (i := 0) rfl))) ?_
    rintro ⟨⟨vf, fs⟩, hfs⟩
    dsimp only at hfs
    simp only [List.cons_append, List.nil_append]
    have hmxl : maxLen = 9223372036854775807 := rfl
    refine g_rowMax 0 rfl (fun hfl => ?_)
    refine g_val rfl rfl rfl (y_assign rfl) ?_
    refine g_nil (g_then (g_seq (g_seq (g_ops ?_))))
    refine g_val rfl rfl rfl (y_assign rfl) ?_
    refine g_nil (g_then (g_block ?_))
    refine g_loop (α := {x : Int // 0 ≤ x ∧ x ≤ fs.length}) (fun x => [(3, (.slice pr1 (n) cr1)), (5, vf), (6, .int .i64 x.1)]) (fun x => St w [] [.row 9 1 vf fs.length (fs.flatMap sC), .row 45 42 (.slice pr1 (n) cr1) n ((cml (csB bs) n).flatMap cmC)]) (fun x => fs.length - x.1.toNat) ⟨0, by omega, by omega⟩ [3, 5, 6] rfl (fun w h => h.sub (.cons_cons _ (.cons_cons _ .slnil))) ?_
    rintro ⟨i, hx⟩
    dsimp only
    obtain ⟨hi0, hi1⟩ := hx
    refine g_seq (g_seq (g_ops ?_))
    refine g_val rfl rfl rfl (y_move rfl) ?_
    refine g_val rfl rfl rfl (y_move rfl) ?_
    refine g_rowLen 0 rfl (fun pr2 cr2 hv2 => ?_)
    cases hv2
    refine g_val rfl rfl rfl (y_llen rfl Try.underlying55) ?_
    refine g_val rfl rfl rfl (y_ilt rfl rfl) ?_
    refine g_nil (g_then ?_)
    first | refine g_casep 26 rfl (fun h3 => ?_) (fun h3 => ?_) | refine g_caseb 26 rfl (fun h3 => ?_) (fun h3 => ?_)
    · skip
      refine g_cond_t rfl (g_skip (g_then (g_seq (g_block (g_seq (g_ops ?_))))))
      refine g_val rfl rfl rfl (y_assign rfl) ?_
      refine g_nil (g_then (g_seq (g_seq (g_ops ?_))))
      refine g_val rfl rfl rfl (y_assign rfl) ?_
      refine g_nil (g_then (g_block ?_))
      refine g_loop (α := {x : Int × Bool // 0 ≤ x.1 ∧ x.1 ≤ n ∧ gath False (fun k => hitF (csB bs) k (fs.getD i.toNat ⟨#[]⟩)) x.1.toNat x.2}) (fun x => [(3, (.slice pr1 (n) cr1)), (5, (.slice pr2 (fs.length) cr2)), (6, .int .i64 i), (7, .bool x.1.2), (8, .int .i64 x.1.1)]) (fun x => St w [] [.row 9 1 (.slice pr2 (fs.length) cr2) fs.length (fs.flatMap sC), .row 45 42 (.slice pr1 (n) cr1) n ((cml (csB bs) n).flatMap cmC)]) (fun x => n - x.1.1.toNat) ⟨(0, false), by dsimp only; omega, by dsimp only; omega, gath_0 (by simp)⟩ [3, 5, 6, 7, 8] rfl (fun w h => h.sub (.cons_cons _ (.cons_cons _ .slnil))) ?_
      rintro ⟨⟨k, b⟩, hx⟩
      dsimp only
      dsimp only at hx
      obtain ⟨hk0, hk1, hb⟩ := hx
      refine g_seq (g_seq (g_ops ?_))
      refine g_val rfl rfl rfl (y_move rfl) ?_
      refine g_val rfl rfl rfl (y_move rfl) ?_
      refine g_val rfl rfl rfl (y_llen rfl Try.underlying23) ?_
      refine g_val rfl rfl rfl (y_ilt rfl rfl) ?_
      refine g_nil (g_then ?_)
      first | refine g_casep 32 rfl (fun h4 => ?_) (fun h4 => ?_) | refine g_caseb 32 rfl (fun h4 => ?_) (fun h4 => ?_)
      · skip
        refine g_cond_t rfl (g_skip (g_then (g_seq (g_block ?_))))
        refine g_rowCase 1 rfl (by omega) (fun gr5 cr5 hv5 => ?_)
        cases hv5
        refine g_rowCase 0 rfl (by omega) (fun gr6 cr6 hv6 => ?_)
        cases hv6
        refine g_quiet (by kernel_rfl) (by kernel_rfl) ?_
        refine q_val rfl rfl rfl (y_move rfl) ?_
        refine q_val rfl rfl rfl (y_move rfl) ?_
        first | refine q_casep 36 rfl (fun h7 => ?_) (fun h7 => ?_) | refine q_caseb 36 rfl (fun h7 => ?_) (fun h7 => ?_)
        · skip
          refine q_not rfl rfl rfl ?_
          refine q_not rfl rfl rfl ?_
          refine q_not rfl rfl rfl ?_
          refine q_not rfl rfl rfl ?_
          refine q_not rfl rfl rfl ?_
          refine q_not rfl rfl rfl ?_
          refine q_not rfl rfl rfl ?_
          refine q_not rfl rfl rfl ?_
          refine q_not rfl rfl rfl ?_
          refine q_not rfl rfl rfl ?_
          refine q_not rfl rfl rfl ?_
          refine q_not rfl rfl rfl ?_
          refine q_not rfl rfl rfl ?_
          refine q_not rfl rfl rfl ?_
          refine q_not rfl rfl rfl ?_
          refine q_not rfl rfl rfl ?_
          refine q_not rfl rfl rfl ?_
          refine q_not rfl rfl rfl ?_
          refine q_val rfl rfl rfl (y_pick_t rfl rfl) ?_
          refine q_val rfl rfl rfl (y_move rfl) ?_
          refine q_not rfl rfl rfl ?_
          refine q_not rfl rfl rfl ?_
          refine q_not rfl rfl rfl ?_
          refine q_not rfl rfl rfl ?_
          refine q_not rfl rfl rfl ?_
          refine q_not rfl rfl rfl ?_
          refine q_not rfl rfl rfl ?_
          refine q_not rfl rfl rfl ?_
          refine q_not rfl rfl rfl ?_
          refine q_not rfl rfl rfl ?_
          refine q_not rfl rfl rfl ?_
          refine q_not rfl rfl rfl ?_
          refine q_not rfl rfl rfl ?_
          refine q_not rfl rfl rfl ?_
          refine q_not rfl rfl rfl ?_
          refine q_not rfl rfl rfl ?_
          refine q_not rfl rfl rfl ?_
          refine q_not rfl rfl rfl ?_
          refine q_not rfl rfl rfl ?_
          refine q_not rfl rfl rfl ?_
          refine q_not rfl rfl rfl ?_
          refine q_not rfl rfl rfl ?_
          refine q_not rfl rfl rfl ?_
          refine q_not rfl rfl rfl ?_
          refine q_not rfl rfl rfl ?_
          refine q_val rfl rfl rfl (y_pick_t rfl rfl) ?_
          refine q_val rfl rfl rfl (y_assign rfl) ?_
          refine q_nil (g_in_normal (g_then (g_ops ?_)))
          refine g_val rfl rfl rfl (y_move rfl) ?_
          refine g_val rfl rfl rfl (by first | exact y_addi rfl rfl (by first | omega | (simp only [size_mk, ByteArray.size_append, ByteArray.size_extract]; omega)) | exact y_iadd rfl rfl) ?_
          refine g_val rfl rfl rfl (y_assign rfl) ?_
          refine g_nil ?_
          exact g_again ⟨(k + 1, true), by dsimp only; omega, by dsimp only; omega, by dsimp only; rw [show (k + 1).toNat = k.toNat + 1 by omega]; exact (by first | exact gath_old hb (by assumption) | exact gath_on hb (by first | (exact .inl ⟨by omega, by assumption⟩) | (refine .inr ⟨by omega, ?_, by assumption⟩; rw [show (csB bs k.toNat).fi = fs.getD i.toNat ⟨#[]⟩ by assumption]; assumption)))⟩ [3, 5, 6, 7, 8] (by dsimp only; omega) rfl (fun w h => h.sub (.cons_cons _ (.cons_cons _ .slnil)))
        · skip
          refine q_val rfl rfl rfl (y_move rfl) ?_
          refine q_val rfl rfl rfl (y_move rfl) ?_
          refine q_val rfl rfl rfl (y_idxAddr (m := (k).toNat * 42 + 0) rfl rfl Try.underlying23 Try.sizeOf45 (by omega) (by omega) (by omega)) ?_
          refine q_val rfl rfl rfl (y_fieldAddr (k := 1) (m := (k).toNat * 42 + 1) rfl (by kernel_rfl) rfl) ?_
          refine q_val rfl rfl rfl (y_ldR (u := .int .u8 ((csB bs) ((k).toNat)).nm) 1 rfl Try.isAgg5 rfl ((fm_get cmC 42 cmC_len _ (k).toNat 1 _ (cml_get (csB bs) n ((k).toNat) (by omega)) (by decide)).trans rfl)) ?_
          refine q_val rfl rfl rfl (y_ieq rfl rfl) ?_
          refine q_val rfl rfl rfl (y_move rfl) ?_
          first | refine q_casep 43 rfl (fun h8 => ?_) (fun h8 => ?_) | refine q_caseb 43 rfl (fun h8 => ?_) (fun h8 => ?_)
          · skip
            refine q_val rfl rfl rfl (y_move rfl) ?_
            refine q_val rfl rfl rfl (y_move rfl) ?_
            refine q_val rfl rfl rfl (y_idxAddr (m := (k).toNat * 42 + 0) rfl rfl Try.underlying23 Try.sizeOf45 (by omega) (by omega) (by omega)) ?_
            refine q_val rfl rfl rfl (y_fieldAddr (k := 25) (m := (k).toNat * 42 + 25) rfl (by kernel_rfl) rfl) ?_
            refine q_val rfl rfl rfl (y_ldR (u := .string ((csB bs) ((k).toNat)).tx) 1 rfl Try.isAgg9 rfl ((fm_get cmC 42 cmC_len _ (k).toNat 25 _ (cml_get (csB bs) n ((k).toNat) (by omega)) (by decide)).trans rfl)) ?_
            refine q_val rfl rfl rfl (y_move rfl) ?_
            refine q_val rfl rfl rfl (y_move rfl) ?_
            refine q_val rfl rfl rfl (y_idxAddr (m := (i).toNat * 1 + 0) rfl rfl Try.underlying55 Try.sizeOf9 (by omega) (by omega) (by omega)) ?_
            refine q_val rfl rfl rfl (y_ldR (u := .string (fs.getD ((i).toNat) ⟨#[]⟩)) 0 rfl Try.isAgg9 rfl ((fm_get sC 1 sC_len _ (i).toNat 0 _ (getB_get fs ((i).toNat) (by omega)) (by decide)).trans rfl)) ?_
            refine q_val rfl rfl rfl (y_seq rfl rfl) ?_
            refine q_val rfl rfl rfl (y_pick_t rfl rfl) ?_
            refine q_val rfl rfl rfl (y_pick_f rfl rfl) ?_
            refine q_val rfl rfl rfl (y_move rfl) ?_
            first | refine q_casep 56 rfl (fun h9 => ?_) (fun h9 => ?_) | refine q_caseb 56 rfl (fun h9 => ?_) (fun h9 => ?_)
            · skip
              refine q_not rfl rfl rfl ?_
              refine q_not rfl rfl rfl ?_
              refine q_not rfl rfl rfl ?_
              refine q_not rfl rfl rfl ?_
              refine q_not rfl rfl rfl ?_
              refine q_not rfl rfl rfl ?_
              refine q_not rfl rfl rfl ?_
              refine q_not rfl rfl rfl ?_
              refine q_not rfl rfl rfl ?_
              refine q_not rfl rfl rfl ?_
              refine q_not rfl rfl rfl ?_
              refine q_not rfl rfl rfl ?_
              refine q_not rfl rfl rfl ?_
              refine q_not rfl rfl rfl ?_
              refine q_not rfl rfl rfl ?_
              refine q_not rfl rfl rfl ?_
              refine q_not rfl rfl rfl ?_
              refine q_not rfl rfl rfl ?_
              refine q_not rfl rfl rfl ?_
              refine q_not rfl rfl rfl ?_
              refine q_not rfl rfl rfl ?_
              refine q_not rfl rfl rfl ?_
              refine q_not rfl rfl rfl ?_
              refine q_not rfl rfl rfl ?_
              refine q_not rfl rfl rfl ?_
              refine q_val rfl rfl rfl (y_pick_t rfl rfl) ?_
              refine q_val rfl rfl rfl (y_assign rfl) ?_
              refine q_nil (g_in_normal (g_then (g_ops ?_)))
              refine g_val rfl rfl rfl (y_move rfl) ?_
              refine g_val rfl rfl rfl (by first | exact y_addi rfl rfl (by first | omega | (simp only [size_mk, ByteArray.size_append, ByteArray.size_extract]; omega)) | exact y_iadd rfl rfl) ?_
              refine g_val rfl rfl rfl (y_assign rfl) ?_
              refine g_nil ?_
              exact g_again ⟨(k + 1, true), by dsimp only; omega, by dsimp only; omega, by dsimp only; rw [show (k + 1).toNat = k.toNat + 1 by omega]; exact (by first | exact gath_old hb (by assumption) | exact gath_on hb (by first | (exact .inl ⟨by omega, by assumption⟩) | (refine .inr ⟨by omega, ?_, by assumption⟩; rw [show (csB bs k.toNat).fi = fs.getD i.toNat ⟨#[]⟩ by assumption]; assumption)))⟩ [3, 5, 6, 7, 8] (by dsimp only; omega) rfl (fun w h => h.sub (.cons_cons _ (.cons_cons _ .slnil)))
            · skip
              refine q_val rfl rfl rfl (y_move rfl) ?_
              refine q_val rfl rfl rfl (y_move rfl) ?_
              refine q_val rfl rfl rfl (y_idxAddr (m := (k).toNat * 42 + 0) rfl rfl Try.underlying23 Try.sizeOf45 (by omega) (by omega) (by omega)) ?_
              refine q_val rfl rfl rfl (y_fieldAddr (k := 1) (m := (k).toNat * 42 + 1) rfl (by kernel_rfl) rfl) ?_
              refine q_val rfl rfl rfl (y_ldR (u := .int .u8 ((csB bs) ((k).toNat)).nm) 1 rfl Try.isAgg5 rfl ((fm_get cmC 42 cmC_len _ (k).toNat 1 _ (cml_get (csB bs) n ((k).toNat) (by omega)) (by decide)).trans rfl)) ?_
              refine q_val rfl rfl rfl (y_ieq rfl rfl) ?_
              refine q_val rfl rfl rfl (y_move rfl) ?_
              first | refine q_casep 63 rfl (fun h10 => ?_) (fun h10 => ?_) | refine q_caseb 63 rfl (fun h10 => ?_) (fun h10 => ?_)
              · skip
                refine q_val rfl rfl rfl (y_move rfl) ?_
                refine q_val rfl rfl rfl (y_move rfl) ?_
                refine q_val rfl rfl rfl (y_idxAddr (m := (k).toNat * 42 + 0) rfl rfl Try.underlying23 Try.sizeOf45 (by omega) (by omega) (by omega)) ?_
                refine q_val rfl rfl rfl (y_fieldAddr (k := 41) (m := (k).toNat * 42 + 41) rfl (by kernel_rfl) rfl) ?_
                refine q_val rfl rfl rfl (y_ldR (u := .string ((csB bs) ((k).toNat)).fi) 1 rfl Try.isAgg9 rfl ((fm_get cmC 42 cmC_len _ (k).toNat 41 _ (cml_get (csB bs) n ((k).toNat) (by omega)) (by decide)).trans rfl)) ?_
                refine q_val rfl rfl rfl (y_move rfl) ?_
                refine q_val rfl rfl rfl (y_move rfl) ?_
                refine q_val rfl rfl rfl (y_idxAddr (m := (i).toNat * 1 + 0) rfl rfl Try.underlying55 Try.sizeOf9 (by omega) (by omega) (by omega)) ?_
                refine q_val rfl rfl rfl (y_ldR (u := .string (fs.getD ((i).toNat) ⟨#[]⟩)) 0 rfl Try.isAgg9 rfl ((fm_get sC 1 sC_len _ (i).toNat 0 _ (getB_get fs ((i).toNat) (by omega)) (by decide)).trans rfl)) ?_
                refine q_val rfl rfl rfl (y_seq rfl rfl) ?_
                refine q_val rfl rfl rfl (y_pick_t rfl rfl) ?_
                refine q_val rfl rfl rfl (y_move rfl) ?_
                first | refine q_casep 75 rfl (fun h11 => ?_) (fun h11 => ?_) | refine q_caseb 75 rfl (fun h11 => ?_) (fun h11 => ?_)
                · skip
                  refine q_val rfl rfl rfl (y_move rfl) ?_
                  refine q_val rfl rfl rfl (y_move rfl) ?_
                  refine q_val rfl rfl rfl (y_idxAddr (m := (i).toNat * 1 + 0) rfl rfl Try.underlying55 Try.sizeOf9 (by omega) (by omega) (by omega)) ?_
                  refine q_val rfl rfl rfl (y_ldR (u := .string (fs.getD ((i).toNat) ⟨#[]⟩)) 0 rfl Try.isAgg9 rfl ((fm_get sC 1 sC_len _ (i).toNat 0 _ (getB_get fs ((i).toNat) (by omega)) (by decide)).trans rfl)) ?_
                  refine q_val rfl rfl rfl (y_sne rfl rfl) ?_
                  refine q_val rfl rfl rfl (y_pick_t rfl rfl) ?_
                  refine q_val rfl rfl rfl (y_pick_f rfl rfl) ?_
                  refine q_val rfl rfl rfl (y_assign rfl) ?_
                  refine q_nil (g_in_normal (g_then (g_ops ?_)))
                  refine g_val rfl rfl rfl (y_move rfl) ?_
                  refine g_val rfl rfl rfl (by first | exact y_addi rfl rfl (by first | omega | (simp only [size_mk, ByteArray.size_append, ByteArray.size_extract]; omega)) | exact y_iadd rfl rfl) ?_
                  refine g_val rfl rfl rfl (y_assign rfl) ?_
                  refine g_nil ?_
                  first | refine g_casep 7 rfl (fun h12 => ?_) (fun h12 => ?_) | refine g_caseb 7 rfl (fun h12 => ?_) (fun h12 => ?_)
                  · exact g_again ⟨(k + 1, true), by dsimp only; omega, by dsimp only; omega, by dsimp only; rw [show (k + 1).toNat = k.toNat + 1 by omega]; exact (by first | exact gath_old hb (by assumption) | exact gath_on hb (by first | (exact .inl ⟨by omega, by assumption⟩) | (refine .inr ⟨by omega, ?_, by assumption⟩; rw [show (csB bs k.toNat).fi = fs.getD i.toNat ⟨#[]⟩ by assumption]; assumption)))⟩ [3, 5, 6, 7, 8] (by dsimp only; omega) rfl (fun w h => h.sub (.cons_cons _ (.cons_cons _ .slnil)))
                  · exact g_again ⟨(k + 1, false), by dsimp only; omega, by dsimp only; omega, by dsimp only; rw [show (k + 1).toNat = k.toNat + 1 by omega]; exact gath_no hb (by assumption) (fun q => by rcases q with ⟨q1, q2⟩ | ⟨q1, q2, q3⟩ <;> first | omega | (exact absurd q2 (by assumption)) | (exact absurd q3 (by assumption)) | (exact absurd (fun z => q2 (q3.trans z)) (by assumption)))⟩ [3, 5, 6, 7, 8] (by dsimp only; omega) rfl (fun w h => h.sub (.cons_cons _ (.cons_cons _ .slnil)))
                · skip
                  refine q_not rfl rfl rfl ?_
                  refine q_not rfl rfl rfl ?_
                  refine q_not rfl rfl rfl ?_
                  refine q_not rfl rfl rfl ?_
                  refine q_not rfl rfl rfl ?_
                  refine q_val rfl rfl rfl (y_pick_f rfl rfl) ?_
                  refine q_val rfl rfl rfl (y_pick_f rfl rfl) ?_
                  refine q_val rfl rfl rfl (y_assign rfl) ?_
                  refine q_nil (g_in_normal (g_then (g_ops ?_)))
                  refine g_val rfl rfl rfl (y_move rfl) ?_
                  refine g_val rfl rfl rfl (by first | exact y_addi rfl rfl (by first | omega | (simp only [size_mk, ByteArray.size_append, ByteArray.size_extract]; omega)) | exact y_iadd rfl rfl) ?_
                  refine g_val rfl rfl rfl (y_assign rfl) ?_
                  refine g_nil ?_
                  exact g_again ⟨(k + 1, false), by dsimp only; omega, by dsimp only; omega, by dsimp only; rw [show (k + 1).toNat = k.toNat + 1 by omega]; exact gath_no hb (by assumption) (fun q => by rcases q with ⟨q1, q2⟩ | ⟨q1, q2, q3⟩ <;> first | omega | (exact absurd q2 (by assumption)) | (exact absurd q3 (by assumption)) | (exact absurd (fun z => q2 (q3.trans z)) (by assumption)))⟩ [3, 5, 6, 7, 8] (by dsimp only; omega) rfl (fun w h => h.sub (.cons_cons _ (.cons_cons _ .slnil)))
              · skip
                refine q_not rfl rfl rfl ?_
                refine q_not rfl rfl rfl ?_
                refine q_not rfl rfl rfl ?_
                refine q_not rfl rfl rfl ?_
                refine q_not rfl rfl rfl ?_
                refine q_not rfl rfl rfl ?_
                refine q_not rfl rfl rfl ?_
                refine q_not rfl rfl rfl ?_
                refine q_not rfl rfl rfl ?_
                refine q_not rfl rfl rfl ?_
                refine q_val rfl rfl rfl (y_pick_f rfl rfl) ?_
                refine q_val rfl rfl rfl (y_move rfl) ?_
                refine q_not rfl rfl rfl ?_
                refine q_not rfl rfl rfl ?_
                refine q_not rfl rfl rfl ?_
                refine q_not rfl rfl rfl ?_
                refine q_not rfl rfl rfl ?_
                refine q_val rfl rfl rfl (y_pick_f rfl rfl) ?_
                refine q_val rfl rfl rfl (y_pick_f rfl rfl) ?_
                refine q_val rfl rfl rfl (y_assign rfl) ?_
                refine q_nil (g_in_normal (g_then (g_ops ?_)))
                refine g_val rfl rfl rfl (y_move rfl) ?_
                refine g_val rfl rfl rfl (by first | exact y_addi rfl rfl (by first | omega | (simp only [size_mk, ByteArray.size_append, ByteArray.size_extract]; omega)) | exact y_iadd rfl rfl) ?_
                refine g_val rfl rfl rfl (y_assign rfl) ?_
                refine g_nil ?_
                exact g_again ⟨(k + 1, false), by dsimp only; omega, by dsimp only; omega, by dsimp only; rw [show (k + 1).toNat = k.toNat + 1 by omega]; exact gath_no hb (by assumption) (fun q => by rcases q with ⟨q1, q2⟩ | ⟨q1, q2, q3⟩ <;> first | omega | (exact absurd q2 (by assumption)) | (exact absurd q3 (by assumption)) | (exact absurd (fun z => q2 (q3.trans z)) (by assumption)))⟩ [3, 5, 6, 7, 8] (by dsimp only; omega) rfl (fun w h => h.sub (.cons_cons _ (.cons_cons _ .slnil)))
          · skip
            refine q_not rfl rfl rfl ?_
            refine q_not rfl rfl rfl ?_
            refine q_not rfl rfl rfl ?_
            refine q_not rfl rfl rfl ?_
            refine q_not rfl rfl rfl ?_
            refine q_not rfl rfl rfl ?_
            refine q_not rfl rfl rfl ?_
            refine q_not rfl rfl rfl ?_
            refine q_not rfl rfl rfl ?_
            refine q_not rfl rfl rfl ?_
            refine q_val rfl rfl rfl (y_pick_f rfl rfl) ?_
            refine q_val rfl rfl rfl (y_pick_f rfl rfl) ?_
            refine q_val rfl rfl rfl (y_move rfl) ?_
            refine q_val rfl rfl rfl (y_move rfl) ?_
            refine q_val rfl rfl rfl (y_move rfl) ?_
            refine q_val rfl rfl rfl (y_idxAddr (m := (k).toNat * 42 + 0) rfl rfl Try.underlying23 Try.sizeOf45 (by omega) (by omega) (by omega)) ?_
            refine q_val rfl rfl rfl (y_fieldAddr (k := 1) (m := (k).toNat * 42 + 1) rfl (by kernel_rfl) rfl) ?_
            refine q_val rfl rfl rfl (y_ldR (u := .int .u8 ((csB bs) ((k).toNat)).nm) 1 rfl Try.isAgg5 rfl ((fm_get cmC 42 cmC_len _ (k).toNat 1 _ (cml_get (csB bs) n ((k).toNat) (by omega)) (by decide)).trans rfl)) ?_
            refine q_val rfl rfl rfl (y_ieq rfl rfl) ?_
            refine q_val rfl rfl rfl (y_move rfl) ?_
            first | refine q_casep 63 rfl (fun h13 => ?_) (fun h13 => ?_) | refine q_caseb 63 rfl (fun h13 => ?_) (fun h13 => ?_)
            · skip
              refine q_val rfl rfl rfl (y_move rfl) ?_
              refine q_val rfl rfl rfl (y_move rfl) ?_
              refine q_val rfl rfl rfl (y_idxAddr (m := (k).toNat * 42 + 0) rfl rfl Try.underlying23 Try.sizeOf45 (by omega) (by omega) (by omega)) ?_
              refine q_val rfl rfl rfl (y_fieldAddr (k := 41) (m := (k).toNat * 42 + 41) rfl (by kernel_rfl) rfl) ?_
              refine q_val rfl rfl rfl (y_ldR (u := .string ((csB bs) ((k).toNat)).fi) 1 rfl Try.isAgg9 rfl ((fm_get cmC 42 cmC_len _ (k).toNat 41 _ (cml_get (csB bs) n ((k).toNat) (by omega)) (by decide)).trans rfl)) ?_
              refine q_val rfl rfl rfl (y_move rfl) ?_
              refine q_val rfl rfl rfl (y_move rfl) ?_
              refine q_val rfl rfl rfl (y_idxAddr (m := (i).toNat * 1 + 0) rfl rfl Try.underlying55 Try.sizeOf9 (by omega) (by omega) (by omega)) ?_
              refine q_val rfl rfl rfl (y_ldR (u := .string (fs.getD ((i).toNat) ⟨#[]⟩)) 0 rfl Try.isAgg9 rfl ((fm_get sC 1 sC_len _ (i).toNat 0 _ (getB_get fs ((i).toNat) (by omega)) (by decide)).trans rfl)) ?_
              refine q_val rfl rfl rfl (y_seq rfl rfl) ?_
              refine q_val rfl rfl rfl (y_pick_t rfl rfl) ?_
              refine q_val rfl rfl rfl (y_move rfl) ?_
              first | refine q_casep 75 rfl (fun h14 => ?_) (fun h14 => ?_) | refine q_caseb 75 rfl (fun h14 => ?_) (fun h14 => ?_)
              · skip
                refine q_val rfl rfl rfl (y_move rfl) ?_
                refine q_val rfl rfl rfl (y_move rfl) ?_
                refine q_val rfl rfl rfl (y_idxAddr (m := (i).toNat * 1 + 0) rfl rfl Try.underlying55 Try.sizeOf9 (by omega) (by omega) (by omega)) ?_
                refine q_val rfl rfl rfl (y_ldR (u := .string (fs.getD ((i).toNat) ⟨#[]⟩)) 0 rfl Try.isAgg9 rfl ((fm_get sC 1 sC_len _ (i).toNat 0 _ (getB_get fs ((i).toNat) (by omega)) (by decide)).trans rfl)) ?_
                refine q_val rfl rfl rfl (y_sne rfl rfl) ?_
                refine q_val rfl rfl rfl (y_pick_t rfl rfl) ?_
                refine q_val rfl rfl rfl (y_pick_f rfl rfl) ?_
                refine q_val rfl rfl rfl (y_assign rfl) ?_
                refine q_nil (g_in_normal (g_then (g_ops ?_)))
                refine g_val rfl rfl rfl (y_move rfl) ?_
                refine g_val rfl rfl rfl (by first | exact y_addi rfl rfl (by first | omega | (simp only [size_mk, ByteArray.size_append, ByteArray.size_extract]; omega)) | exact y_iadd rfl rfl) ?_
                refine g_val rfl rfl rfl (y_assign rfl) ?_
                refine g_nil ?_
                first | refine g_casep 7 rfl (fun h15 => ?_) (fun h15 => ?_) | refine g_caseb 7 rfl (fun h15 => ?_) (fun h15 => ?_)
                · exact g_again ⟨(k + 1, true), by dsimp only; omega, by dsimp only; omega, by dsimp only; rw [show (k + 1).toNat = k.toNat + 1 by omega]; exact (by first | exact gath_old hb (by assumption) | exact gath_on hb (by first | (exact .inl ⟨by omega, by assumption⟩) | (refine .inr ⟨by omega, ?_, by assumption⟩; rw [show (csB bs k.toNat).fi = fs.getD i.toNat ⟨#[]⟩ by assumption]; assumption)))⟩ [3, 5, 6, 7, 8] (by dsimp only; omega) rfl (fun w h => h.sub (.cons_cons _ (.cons_cons _ .slnil)))
                · exact g_again ⟨(k + 1, false), by dsimp only; omega, by dsimp only; omega, by dsimp only; rw [show (k + 1).toNat = k.toNat + 1 by omega]; exact gath_no hb (by assumption) (fun q => by rcases q with ⟨q1, q2⟩ | ⟨q1, q2, q3⟩ <;> first | omega | (exact absurd q2 (by assumption)) | (exact absurd q3 (by assumption)) | (exact absurd (fun z => q2 (q3.trans z)) (by assumption)))⟩ [3, 5, 6, 7, 8] (by dsimp only; omega) rfl (fun w h => h.sub (.cons_cons _ (.cons_cons _ .slnil)))
              · skip
                refine q_not rfl rfl rfl ?_
                refine q_not rfl rfl rfl ?_
                refine q_not rfl rfl rfl ?_
                refine q_not rfl rfl rfl ?_
                refine q_not rfl rfl rfl ?_
                refine q_val rfl rfl rfl (y_pick_f rfl rfl) ?_
                refine q_val rfl rfl rfl (y_pick_f rfl rfl) ?_
                refine q_val rfl rfl rfl (y_assign rfl) ?_
                refine q_nil (g_in_normal (g_then (g_ops ?_)))
                refine g_val rfl rfl rfl (y_move rfl) ?_
                refine g_val rfl rfl rfl (by first | exact y_addi rfl rfl (by first | omega | (simp only [size_mk, ByteArray.size_append, ByteArray.size_extract]; omega)) | exact y_iadd rfl rfl) ?_
                refine g_val rfl rfl rfl (y_assign rfl) ?_
                refine g_nil ?_
                exact g_again ⟨(k + 1, false), by dsimp only; omega, by dsimp only; omega, by dsimp only; rw [show (k + 1).toNat = k.toNat + 1 by omega]; exact gath_no hb (by assumption) (fun q => by rcases q with ⟨q1, q2⟩ | ⟨q1, q2, q3⟩ <;> first | omega | (exact absurd q2 (by assumption)) | (exact absurd q3 (by assumption)) | (exact absurd (fun z => q2 (q3.trans z)) (by assumption)))⟩ [3, 5, 6, 7, 8] (by dsimp only; omega) rfl (fun w h => h.sub (.cons_cons _ (.cons_cons _ .slnil)))
            · skip
              refine q_not rfl rfl rfl ?_
              refine q_not rfl rfl rfl ?_
              refine q_not rfl rfl rfl ?_
              refine q_not rfl rfl rfl ?_
              refine q_not rfl rfl rfl ?_
              refine q_not rfl rfl rfl ?_
              refine q_not rfl rfl rfl ?_
              refine q_not rfl rfl rfl ?_
              refine q_not rfl rfl rfl ?_
              refine q_not rfl rfl rfl ?_
              refine q_val rfl rfl rfl (y_pick_f rfl rfl) ?_
              refine q_val rfl rfl rfl (y_move rfl) ?_
              refine q_not rfl rfl rfl ?_
              refine q_not rfl rfl rfl ?_
              refine q_not rfl rfl rfl ?_
              refine q_not rfl rfl rfl ?_
              refine q_not rfl rfl rfl ?_
              refine q_val rfl rfl rfl (y_pick_f rfl rfl) ?_
              refine q_val rfl rfl rfl (y_pick_f rfl rfl) ?_
              refine q_val rfl rfl rfl (y_assign rfl) ?_
              refine q_nil (g_in_normal (g_then (g_ops ?_)))
              refine g_val rfl rfl rfl (y_move rfl) ?_
              refine g_val rfl rfl rfl (by first | exact y_addi rfl rfl (by first | omega | (simp only [size_mk, ByteArray.size_append, ByteArray.size_extract]; omega)) | exact y_iadd rfl rfl) ?_
              refine g_val rfl rfl rfl (y_assign rfl) ?_
              refine g_nil ?_
              exact g_again ⟨(k + 1, false), by dsimp only; omega, by dsimp only; omega, by dsimp only; rw [show (k + 1).toNat = k.toNat + 1 by omega]; exact gath_no hb (by assumption) (fun q => by rcases q with ⟨q1, q2⟩ | ⟨q1, q2, q3⟩ <;> first | omega | (exact absurd q2 (by assumption)) | (exact absurd q3 (by assumption)) | (exact absurd (fun z => q2 (q3.trans z)) (by assumption)))⟩ [3, 5, 6, 7, 8] (by dsimp only; omega) rfl (fun w h => h.sub (.cons_cons _ (.cons_cons _ .slnil)))
      · skip
        refine g_cond_f rfl (g_exit (g_then_exit (g_then_exit (g_in_exit (g_then (g_seq ?_))))))
        have hfd : b = true := hb.2 (.inr (by obtain ⟨q, q1, q2⟩ := (hfs.2 _).1 (getB_mem fs i.toNat (by omega)); exact ⟨q, by omega, q2⟩))
        refine g_rowCase 0 rfl (by omega) (fun gr16 cr16 hv16 => ?_)
        cases hv16
        refine g_quiet (by kernel_rfl) (by kernel_rfl) ?_
        refine q_val rfl rfl rfl (y_move rfl) ?_
        refine q_val rfl rfl rfl (y_lit false ((by first | exact y_notp rfl | exact y_not rfl)) (by rw [hfd]; rfl)) ?_
        refine q_val rfl rfl rfl (y_move rfl) ?_
        refine q_val rfl rfl rfl (y_move rfl) ?_
        refine q_val rfl rfl rfl (y_igt rfl rfl) ?_
        refine q_val rfl rfl rfl (y_move rfl) ?_
        first | refine q_casep 88 rfl (fun h17 => ?_) (fun h17 => ?_) | refine q_caseb 88 rfl (fun h17 => ?_) (fun h17 => ?_)
        · skip
          refine q_val rfl rfl rfl (y_move rfl) ?_
          refine q_val rfl rfl rfl (y_move rfl) ?_
          refine q_val rfl rfl rfl (by first | exact y_subi rfl rfl (by first | omega | (simp only [size_mk, ByteArray.size_append, ByteArray.size_extract]; omega)) | exact y_isub rfl rfl) ?_
          refine q_val rfl rfl rfl (y_idxAddr (m := ((i - 1)).toNat * 1 + 0) rfl rfl Try.underlying55 Try.sizeOf9 (by omega) (by omega) (by omega)) ?_
          refine q_val rfl rfl rfl (y_ldR (u := .string (fs.getD (((i - 1)).toNat) ⟨#[]⟩)) 0 rfl Try.isAgg9 rfl ((fm_get sC 1 sC_len _ ((i - 1)).toNat 0 _ (getB_get fs (((i - 1)).toNat) (by omega)) (by decide)).trans rfl)) ?_
          refine q_val rfl rfl rfl (y_move rfl) ?_
          refine q_val rfl rfl rfl (y_move rfl) ?_
          refine q_val rfl rfl rfl (y_idxAddr (m := (i).toNat * 1 + 0) rfl rfl Try.underlying55 Try.sizeOf9 (by omega) (by omega) (by omega)) ?_
          refine q_val rfl rfl rfl (y_ldR (u := .string (fs.getD ((i).toNat) ⟨#[]⟩)) 0 rfl Try.isAgg9 rfl ((fm_get sC 1 sC_len _ (i).toNat 0 _ (getB_get fs ((i).toNat) (by omega)) (by decide)).trans rfl)) ?_
          refine q_val rfl rfl rfl (y_lit false (y_sge rfl rfl) (lt_less (inc_get hfs.1 (by omega) (by omega)))) ?_
          refine q_val rfl rfl rfl (y_pick_t rfl rfl) ?_
          refine q_val rfl rfl rfl (y_pick_f rfl rfl) ?_
          refine q_nil (g_then (g_cond_f rfl (g_skip (g_in_normal (g_then (g_ops ?_))))))
          refine g_val rfl rfl rfl (y_move rfl) ?_
          refine g_val rfl rfl rfl (by first | exact y_addi rfl rfl (by first | omega | (simp only [size_mk, ByteArray.size_append, ByteArray.size_extract]; omega)) | exact y_iadd rfl rfl) ?_
          refine g_val rfl rfl rfl (y_assign rfl) ?_
          refine g_nil ?_
          exact g_again ⟨i + 1, by omega, by omega⟩ [3, 5, 6] (by dsimp only; omega) rfl (fun w h => h.sub (.cons_cons _ (.cons_cons _ .slnil)))
        · skip
          refine q_not rfl rfl rfl ?_
          refine q_not rfl rfl rfl ?_
          refine q_not rfl rfl rfl ?_
          refine q_not rfl rfl rfl ?_
          refine q_not rfl rfl rfl ?_
          refine q_not rfl rfl rfl ?_
          refine q_not rfl rfl rfl ?_
          refine q_not rfl rfl rfl ?_
          refine q_not rfl rfl rfl ?_
          refine q_not rfl rfl rfl ?_
          refine q_val rfl rfl rfl (y_pick_f rfl rfl) ?_
          refine q_val rfl rfl rfl (y_pick_f rfl rfl) ?_
          refine q_nil (g_then (g_cond_f rfl (g_skip (g_in_normal (g_then (g_ops ?_))))))
          refine g_val rfl rfl rfl (y_move rfl) ?_
          refine g_val rfl rfl rfl (by first | exact y_addi rfl rfl (by first | omega | (simp only [size_mk, ByteArray.size_append, ByteArray.size_extract]; omega)) | exact y_iadd rfl rfl) ?_
          refine g_val rfl rfl rfl (y_assign rfl) ?_
          refine g_nil ?_
          exact g_again ⟨i + 1, by omega, by omega⟩ [3, 5, 6] (by dsimp only; omega) rfl (fun w h => h.sub (.cons_cons _ (.cons_cons _ .slnil)))
    · skip
      refine g_cond_f rfl (g_exit (g_then_exit (g_then_exit (g_in_exit (g_then (g_seq (g_seq (g_ops ?_))))))))
      refine g_val rfl rfl rfl (y_assign rfl) ?_
      refine g_nil (g_then (g_block ?_))
      refine g_loop (α := {x : Int // 0 ≤ x ∧ x ≤ n}) (fun x => [(3, (.slice pr1 (n) cr1)), (5, (.slice pr2 (fs.length) cr2)), (9, .int .i64 x.1)]) (fun x => St w [] [.row 9 1 (.slice pr2 (fs.length) cr2) fs.length (fs.flatMap sC), .row 45 42 (.slice pr1 (n) cr1) n ((cml (csB bs) n).flatMap cmC)]) (fun x => n - x.1.toNat) ⟨0, by omega, by omega⟩ [3, 5, 9] rfl (fun w h => h.sub (.cons_cons _ (.cons_cons _ .slnil))) ?_
      rintro ⟨i, hx⟩
      dsimp only
      obtain ⟨hi0, hi1⟩ := hx
      refine g_seq (g_seq (g_ops ?_))
      refine g_val rfl rfl rfl (y_move rfl) ?_
      refine g_val rfl rfl rfl (y_move rfl) ?_
      refine g_val rfl rfl rfl (y_llen rfl Try.underlying23) ?_
      refine g_val rfl rfl rfl (y_ilt rfl rfl) ?_
      refine g_nil (g_then ?_)
      first | refine g_casep 104 rfl (fun h18 => ?_) (fun h18 => ?_) | refine g_caseb 104 rfl (fun h18 => ?_) (fun h18 => ?_)
      · skip
        refine g_cond_t rfl (g_skip (g_then (g_seq (g_block (g_seq (g_ops ?_))))))
        refine g_val rfl rfl rfl (y_move rfl) ?_
        refine g_val rfl rfl rfl (y_move rfl) ?_
        refine g_rowCase 1 rfl (by omega) (fun gr19 cr19 hv19 => ?_)
        cases hv19
        refine g_val rfl rfl rfl (y_idxAddr (m := (i).toNat * 42 + 0) rfl rfl Try.underlying23 Try.sizeOf45 (by omega) (by omega) (by omega)) ?_
        refine g_val rfl rfl rfl (y_fieldAddr (k := 25) (m := (i).toNat * 42 + 25) rfl (by kernel_rfl) rfl) ?_
        refine g_val rfl rfl rfl (y_ldR (u := .string ((csB bs) ((i).toNat)).tx) 1 rfl Try.isAgg9 rfl ((fm_get cmC 42 cmC_len _ (i).toNat 25 _ (cml_get (csB bs) n ((i).toNat) (by omega)) (by decide)).trans rfl)) ?_
        refine g_val rfl rfl rfl (y_assign rfl) ?_
        refine g_nil (g_then (g_seq (g_seq (g_ops ?_))))
        refine g_val rfl rfl rfl (y_move rfl) ?_
        refine g_val rfl rfl rfl (y_move rfl) ?_
        refine g_val rfl rfl rfl (y_idxAddr (m := (i).toNat * 42 + 0) rfl rfl Try.underlying23 Try.sizeOf45 (by omega) (by omega) (by omega)) ?_
        refine g_val rfl rfl rfl (y_fieldAddr (k := 1) (m := (i).toNat * 42 + 1) rfl (by kernel_rfl) rfl) ?_
        refine g_val rfl rfl rfl (y_ldR (u := .int .u8 ((csB bs) ((i).toNat)).nm) 1 rfl Try.isAgg5 rfl ((fm_get cmC 42 cmC_len _ (i).toNat 1 _ (cml_get (csB bs) n ((i).toNat) (by omega)) (by decide)).trans rfl)) ?_
        refine g_val rfl rfl rfl (y_ieq rfl rfl) ?_
        refine g_nil (g_then ?_)
        first | refine g_casep 117 rfl (fun h20 => ?_) (fun h20 => ?_) | refine g_caseb 117 rfl (fun h20 => ?_) (fun h20 => ?_)
        · skip
          refine g_cond_t rfl (g_ops ?_)
          refine g_val rfl rfl rfl (y_move rfl) ?_
          refine g_val rfl rfl rfl (y_move rfl) ?_
          refine g_val rfl rfl rfl (y_idxAddr (m := (i).toNat * 42 + 0) rfl rfl Try.underlying23 Try.sizeOf45 (by omega) (by omega) (by omega)) ?_
          refine g_val rfl rfl rfl (y_fieldAddr (k := 41) (m := (i).toNat * 42 + 41) rfl (by kernel_rfl) rfl) ?_
          refine g_val rfl rfl rfl (y_ldR (u := .string ((csB bs) ((i).toNat)).fi) 1 rfl Try.isAgg9 rfl ((fm_get cmC 42 cmC_len _ (i).toNat 41 _ (cml_get (csB bs) n ((i).toNat) (by omega)) (by decide)).trans rfl)) ?_
          refine g_val rfl rfl rfl (y_assign rfl) ?_
          refine g_nil (g_then (g_seq (g_ops ?_)))
          refine g_val rfl rfl rfl (y_move rfl) ?_
          refine g_val rfl rfl rfl (y_move rfl) ?_
          refine g_val rfl rfl rfl (y_idxAddr (m := (i).toNat * 42 + 0) rfl rfl Try.underlying23 Try.sizeOf45 (by omega) (by omega) (by omega)) ?_
          refine g_val rfl rfl rfl (y_fieldAddr (k := 1) (m := (i).toNat * 42 + 1) rfl (by kernel_rfl) rfl) ?_
          refine g_val rfl rfl rfl (y_ldR (u := .int .u8 ((csB bs) ((i).toNat)).nm) 1 rfl Try.isAgg5 rfl ((fm_get cmC 42 cmC_len _ (i).toNat 1 _ (cml_get (csB bs) n ((i).toNat) (by omega)) (by decide)).trans rfl)) ?_
          refine g_val rfl rfl rfl (y_lit true (y_ine rfl rfl) (decide_eq_true (by omega))) ?_
          refine g_val rfl rfl rfl (y_move rfl) ?_
          refine g_val rfl rfl rfl (y_move rfl) ?_
          refine g_val rfl rfl rfl (y_move rfl) ?_
          refine g_val rfl rfl rfl (y_idxAddr (m := (i).toNat * 42 + 0) rfl rfl Try.underlying23 Try.sizeOf45 (by omega) (by omega) (by omega)) ?_
          refine g_val rfl rfl rfl (y_fieldAddr (k := 1) (m := (i).toNat * 42 + 1) rfl (by kernel_rfl) rfl) ?_
          refine g_val rfl rfl rfl (y_ldR (u := .int .u8 ((csB bs) ((i).toNat)).nm) 1 rfl Try.isAgg5 rfl ((fm_get cmC 42 cmC_len _ (i).toNat 1 _ (cml_get (csB bs) n ((i).toNat) (by omega)) (by decide)).trans rfl)) ?_
          refine g_val rfl rfl rfl (y_lit false (y_ine rfl rfl) (decide_eq_false (by omega))) ?_
          refine g_val rfl rfl rfl (y_move rfl) ?_
          refine g_val rfl rfl rfl (y_move rfl) ?_
          refine g_val rfl rfl rfl (y_seq rfl rfl) ?_
          refine g_val rfl rfl rfl (y_pick_f rfl rfl) ?_
          refine g_val rfl rfl rfl (y_pick_t rfl rfl) ?_
          refine g_val rfl rfl rfl (y_assign rfl) ?_
          refine g_nil (g_then (g_seq (g_seq (g_ops ?_))))
          refine g_val rfl rfl rfl (y_assign rfl) ?_
          refine g_nil (g_then (g_block ?_))
          first | refine g_casep 11 rfl (fun h21 => ?_) (fun h21 => ?_) | refine g_caseb 11 rfl (fun h21 => ?_) (fun h21 => ?_)
          · skip
            refine g_loop (α := {x : Int × Bool // 0 ≤ x.1 ∧ x.1 ≤ fs.length ∧ gath True (fun k => fs.getD k ⟨#[]⟩ = ((csB bs) ((i).toNat)).fi) x.1.toNat x.2}) (fun x => [(3, (.slice (some ⟨gr19, 0, none⟩) (n) cr1)), (5, (.slice pr2 (fs.length) cr2)), (9, .int .i64 i), (10, .string ((csB bs) ((i).toNat)).fi), (11, .bool x.1.2), (12, .int .i64 x.1.1)]) (fun x => St w [] [.row 9 1 (.slice pr2 (fs.length) cr2) fs.length (fs.flatMap sC), .row 45 42 (.slice (some ⟨gr19, 0, none⟩) (n) cr1) n ((cml (csB bs) n).flatMap cmC)]) (fun x => fs.length - x.1.1.toNat) ⟨(0, true), by dsimp only; omega, by dsimp only; omega, gath_0 (by simp)⟩ [3, 5, 9, 10, 11, 12] rfl (fun w h => h.sub (.cons_cons _ (.cons_cons _ .slnil))) ?_
            rintro ⟨⟨k, b⟩, hx⟩
            dsimp only
            dsimp only at hx
            obtain ⟨hk0, hk1, hb⟩ := hx
            refine g_seq (g_seq (g_ops ?_))
            refine g_val rfl rfl rfl (y_move rfl) ?_
            refine g_val rfl rfl rfl (y_move rfl) ?_
            refine g_val rfl rfl rfl (y_llen rfl Try.underlying55) ?_
            refine g_val rfl rfl rfl (y_ilt rfl rfl) ?_
            refine g_nil (g_then ?_)
            first | refine g_casep 144 rfl (fun h22 => ?_) (fun h22 => ?_) | refine g_caseb 144 rfl (fun h22 => ?_) (fun h22 => ?_)
            · skip
              refine g_cond_t rfl (g_skip (g_then (g_seq (g_block (g_ops ?_)))))
              refine g_val rfl rfl rfl (y_move rfl) ?_
              refine g_val rfl rfl rfl (y_move rfl) ?_
              first | refine g_casep 148 rfl (fun h23 => ?_) (fun h23 => ?_) | refine g_caseb 148 rfl (fun h23 => ?_) (fun h23 => ?_)
              · skip
                refine g_not rfl rfl rfl ?_
                refine g_not rfl rfl rfl ?_
                refine g_not rfl rfl rfl ?_
                refine g_not rfl rfl rfl ?_
                refine g_not rfl rfl rfl ?_
                refine g_not rfl rfl rfl ?_
                refine g_val rfl rfl rfl (y_pick_t rfl rfl) ?_
                refine g_val rfl rfl rfl (y_assign rfl) ?_
                refine g_nil (g_in_normal (g_then (g_ops ?_)))
                refine g_val rfl rfl rfl (y_move rfl) ?_
                refine g_val rfl rfl rfl (by first | exact y_addi rfl rfl (by first | omega | (simp only [size_mk, ByteArray.size_append, ByteArray.size_extract]; omega)) | exact y_iadd rfl rfl) ?_
                refine g_val rfl rfl rfl (y_assign rfl) ?_
                refine g_nil ?_
                exact g_again ⟨(k + 1, true), by dsimp only; omega, by dsimp only; omega, by dsimp only; rw [show (k + 1).toNat = k.toNat + 1 by omega]; exact (by first | exact gath_old hb (by assumption) | exact gath_on hb (by assumption))⟩ [3, 5, 9, 10, 11, 12] (by dsimp only; omega) rfl (fun w h => h.sub (.cons_cons _ (.cons_cons _ .slnil)))
              · skip
                refine g_val rfl rfl rfl (y_move rfl) ?_
                refine g_val rfl rfl rfl (y_move rfl) ?_
                refine g_rowCase 0 rfl (by omega) (fun gr24 cr24 hv24 => ?_)
                cases hv24
                refine g_val rfl rfl rfl (y_idxAddr (m := (k).toNat * 1 + 0) rfl rfl Try.underlying55 Try.sizeOf9 (by omega) (by omega) (by omega)) ?_
                refine g_val rfl rfl rfl (y_ldR (u := .string (fs.getD ((k).toNat) ⟨#[]⟩)) 0 rfl Try.isAgg9 rfl ((fm_get sC 1 sC_len _ (k).toNat 0 _ (getB_get fs ((k).toNat) (by omega)) (by decide)).trans rfl)) ?_
                refine g_val rfl rfl rfl (y_move rfl) ?_
                refine g_val rfl rfl rfl (y_seq rfl rfl) ?_
                refine g_val rfl rfl rfl (y_pick_f rfl rfl) ?_
                refine g_val rfl rfl rfl (y_assign rfl) ?_
                refine g_nil (g_in_normal (g_then (g_ops ?_)))
                refine g_val rfl rfl rfl (y_move rfl) ?_
                refine g_val rfl rfl rfl (by first | exact y_addi rfl rfl (by first | omega | (simp only [size_mk, ByteArray.size_append, ByteArray.size_extract]; omega)) | exact y_iadd rfl rfl) ?_
                refine g_val rfl rfl rfl (y_assign rfl) ?_
                refine g_nil ?_
                first | refine g_casep 11 rfl (fun h25 => ?_) (fun h25 => ?_) | refine g_caseb 11 rfl (fun h25 => ?_) (fun h25 => ?_)
                · exact g_again ⟨(k + 1, true), by dsimp only; omega, by dsimp only; omega, by dsimp only; rw [show (k + 1).toNat = k.toNat + 1 by omega]; exact (by first | exact gath_old hb (by assumption) | exact gath_on hb (by assumption))⟩ [3, 5, 9, 10, 11, 12] (by dsimp only; omega) rfl (fun w h => h.sub (.cons_cons _ (.cons_cons _ .slnil)))
                · exact g_again ⟨(k + 1, false), by dsimp only; omega, by dsimp only; omega, by dsimp only; rw [show (k + 1).toNat = k.toNat + 1 by omega]; exact gath_no hb (by assumption) (by assumption)⟩ [3, 5, 9, 10, 11, 12] (by dsimp only; omega) rfl (fun w h => h.sub (.cons_cons _ (.cons_cons _ .slnil)))
            · skip
              refine g_cond_f rfl (g_exit (g_then_exit (g_then_exit (g_in_exit (g_then (g_seq ?_))))))
              have hfd : b = true := hb.2 (.inl trivial)
              refine g_ops ?_
              refine g_val rfl rfl rfl (y_move rfl) ?_
              refine g_val rfl rfl rfl (y_lit false ((by first | exact y_notp rfl | exact y_not rfl)) (by rw [hfd]; rfl)) ?_
              refine g_nil (g_then (g_cond_f rfl (g_skip (g_in_normal (g_then (g_ops ?_))))))
              refine g_val rfl rfl rfl (y_move rfl) ?_
              refine g_val rfl rfl rfl (by first | exact y_addi rfl rfl (by first | omega | (simp only [size_mk, ByteArray.size_append, ByteArray.size_extract]; omega)) | exact y_iadd rfl rfl) ?_
              refine g_val rfl rfl rfl (y_assign rfl) ?_
              refine g_nil ?_
              exact g_again ⟨i + 1, by omega, by omega⟩ [3, 5, 9] (by dsimp only; omega) rfl (fun w h => h.sub (.cons_cons _ (.cons_cons _ .slnil)))
          · skip
            refine g_loop (α := {x : Int × Bool // 0 ≤ x.1 ∧ x.1 ≤ fs.length ∧ gath False (fun k => fs.getD k ⟨#[]⟩ = ((csB bs) ((i).toNat)).fi) x.1.toNat x.2}) (fun x => [(3, (.slice (some ⟨gr19, 0, none⟩) (n) cr1)), (5, (.slice pr2 (fs.length) cr2)), (9, .int .i64 i), (10, .string ((csB bs) ((i).toNat)).fi), (11, .bool x.1.2), (12, .int .i64 x.1.1)]) (fun x => St w [] [.row 9 1 (.slice pr2 (fs.length) cr2) fs.length (fs.flatMap sC), .row 45 42 (.slice (some ⟨gr19, 0, none⟩) (n) cr1) n ((cml (csB bs) n).flatMap cmC)]) (fun x => fs.length - x.1.1.toNat) ⟨(0, false), by dsimp only; omega, by dsimp only; omega, gath_0 (by simp)⟩ [3, 5, 9, 10, 11, 12] rfl (fun w h => h.sub (.cons_cons _ (.cons_cons _ .slnil))) ?_
            rintro ⟨⟨k, b⟩, hx⟩
            dsimp only
            dsimp only at hx
            obtain ⟨hk0, hk1, hb⟩ := hx
            refine g_seq (g_seq (g_ops ?_))
            refine g_val rfl rfl rfl (y_move rfl) ?_
            refine g_val rfl rfl rfl (y_move rfl) ?_
            refine g_val rfl rfl rfl (y_llen rfl Try.underlying55) ?_
            refine g_val rfl rfl rfl (y_ilt rfl rfl) ?_
            refine g_nil (g_then ?_)
            first | refine g_casep 144 rfl (fun h26 => ?_) (fun h26 => ?_) | refine g_caseb 144 rfl (fun h26 => ?_) (fun h26 => ?_)
            · skip
              refine g_cond_t rfl (g_skip (g_then (g_seq (g_block (g_ops ?_)))))
              refine g_val rfl rfl rfl (y_move rfl) ?_
              refine g_val rfl rfl rfl (y_move rfl) ?_
              first | refine g_casep 148 rfl (fun h27 => ?_) (fun h27 => ?_) | refine g_caseb 148 rfl (fun h27 => ?_) (fun h27 => ?_)
              · skip
                refine g_not rfl rfl rfl ?_
                refine g_not rfl rfl rfl ?_
                refine g_not rfl rfl rfl ?_
                refine g_not rfl rfl rfl ?_
                refine g_not rfl rfl rfl ?_
                refine g_not rfl rfl rfl ?_
                refine g_val rfl rfl rfl (y_pick_t rfl rfl) ?_
                refine g_val rfl rfl rfl (y_assign rfl) ?_
                refine g_nil (g_in_normal (g_then (g_ops ?_)))
                refine g_val rfl rfl rfl (y_move rfl) ?_
                refine g_val rfl rfl rfl (by first | exact y_addi rfl rfl (by first | omega | (simp only [size_mk, ByteArray.size_append, ByteArray.size_extract]; omega)) | exact y_iadd rfl rfl) ?_
                refine g_val rfl rfl rfl (y_assign rfl) ?_
                refine g_nil ?_
                exact g_again ⟨(k + 1, true), by dsimp only; omega, by dsimp only; omega, by dsimp only; rw [show (k + 1).toNat = k.toNat + 1 by omega]; exact (by first | exact gath_old hb (by assumption) | exact gath_on hb (by assumption))⟩ [3, 5, 9, 10, 11, 12] (by dsimp only; omega) rfl (fun w h => h.sub (.cons_cons _ (.cons_cons _ .slnil)))
              · skip
                refine g_val rfl rfl rfl (y_move rfl) ?_
                refine g_val rfl rfl rfl (y_move rfl) ?_
                refine g_rowCase 0 rfl (by omega) (fun gr28 cr28 hv28 => ?_)
                cases hv28
                refine g_val rfl rfl rfl (y_idxAddr (m := (k).toNat * 1 + 0) rfl rfl Try.underlying55 Try.sizeOf9 (by omega) (by omega) (by omega)) ?_
                refine g_val rfl rfl rfl (y_ldR (u := .string (fs.getD ((k).toNat) ⟨#[]⟩)) 0 rfl Try.isAgg9 rfl ((fm_get sC 1 sC_len _ (k).toNat 0 _ (getB_get fs ((k).toNat) (by omega)) (by decide)).trans rfl)) ?_
                refine g_val rfl rfl rfl (y_move rfl) ?_
                refine g_val rfl rfl rfl (y_seq rfl rfl) ?_
                refine g_val rfl rfl rfl (y_pick_f rfl rfl) ?_
                refine g_val rfl rfl rfl (y_assign rfl) ?_
                refine g_nil (g_in_normal (g_then (g_ops ?_)))
                refine g_val rfl rfl rfl (y_move rfl) ?_
                refine g_val rfl rfl rfl (by first | exact y_addi rfl rfl (by first | omega | (simp only [size_mk, ByteArray.size_append, ByteArray.size_extract]; omega)) | exact y_iadd rfl rfl) ?_
                refine g_val rfl rfl rfl (y_assign rfl) ?_
                refine g_nil ?_
                first | refine g_casep 11 rfl (fun h29 => ?_) (fun h29 => ?_) | refine g_caseb 11 rfl (fun h29 => ?_) (fun h29 => ?_)
                · exact g_again ⟨(k + 1, true), by dsimp only; omega, by dsimp only; omega, by dsimp only; rw [show (k + 1).toNat = k.toNat + 1 by omega]; exact (by first | exact gath_old hb (by assumption) | exact gath_on hb (by assumption))⟩ [3, 5, 9, 10, 11, 12] (by dsimp only; omega) rfl (fun w h => h.sub (.cons_cons _ (.cons_cons _ .slnil)))
                · exact g_again ⟨(k + 1, false), by dsimp only; omega, by dsimp only; omega, by dsimp only; rw [show (k + 1).toNat = k.toNat + 1 by omega]; exact gath_no hb (by assumption) (by assumption)⟩ [3, 5, 9, 10, 11, 12] (by dsimp only; omega) rfl (fun w h => h.sub (.cons_cons _ (.cons_cons _ .slnil)))
            · skip
              refine g_cond_f rfl (g_exit (g_then_exit (g_then_exit (g_in_exit (g_then (g_seq ?_))))))
              have hfd : b = true := hb.2 (.inr (by obtain ⟨q, q1, q2⟩ := mem_getB ((hfs.2 ((csB bs) ((i).toNat)).fi).2 ⟨i.toNat, by omega, by first | (exact .inl ⟨by omega, rfl⟩) | (exact .inr ⟨by omega, by assumption, rfl⟩)⟩); exact ⟨q, by omega, q2⟩))
              refine g_ops ?_
              refine g_val rfl rfl rfl (y_move rfl) ?_
              refine g_val rfl rfl rfl (y_lit false ((by first | exact y_notp rfl | exact y_not rfl)) (by rw [hfd]; rfl)) ?_
              refine g_nil (g_then (g_cond_f rfl (g_skip (g_in_normal (g_then (g_ops ?_))))))
              refine g_val rfl rfl rfl (y_move rfl) ?_
              refine g_val rfl rfl rfl (by first | exact y_addi rfl rfl (by first | omega | (simp only [size_mk, ByteArray.size_append, ByteArray.size_extract]; omega)) | exact y_iadd rfl rfl) ?_
              refine g_val rfl rfl rfl (y_assign rfl) ?_
              refine g_nil ?_
              exact g_again ⟨i + 1, by omega, by omega⟩ [3, 5, 9] (by dsimp only; omega) rfl (fun w h => h.sub (.cons_cons _ (.cons_cons _ .slnil)))
        · skip
          refine g_cond_f rfl (g_skip (g_then (g_seq (g_ops ?_))))
          refine g_val rfl rfl rfl (y_move rfl) ?_
          refine g_val rfl rfl rfl (y_move rfl) ?_
          refine g_val rfl rfl rfl (y_idxAddr (m := (i).toNat * 42 + 0) rfl rfl Try.underlying23 Try.sizeOf45 (by omega) (by omega) (by omega)) ?_
          refine g_val rfl rfl rfl (y_fieldAddr (k := 1) (m := (i).toNat * 42 + 1) rfl (by kernel_rfl) rfl) ?_
          refine g_val rfl rfl rfl (y_ldR (u := .int .u8 ((csB bs) ((i).toNat)).nm) 1 rfl Try.isAgg5 rfl ((fm_get cmC 42 cmC_len _ (i).toNat 1 _ (cml_get (csB bs) n ((i).toNat) (by omega)) (by decide)).trans rfl)) ?_
          refine g_val rfl rfl rfl (y_ine rfl rfl) ?_
          refine g_val rfl rfl rfl (y_move rfl) ?_
          first | refine g_casep 129 rfl (fun h30 => ?_) (fun h30 => ?_) | refine g_caseb 129 rfl (fun h30 => ?_) (fun h30 => ?_)
          · skip
            refine g_val rfl rfl rfl (y_move rfl) ?_
            refine g_val rfl rfl rfl (y_move rfl) ?_
            refine g_val rfl rfl rfl (y_idxAddr (m := (i).toNat * 42 + 0) rfl rfl Try.underlying23 Try.sizeOf45 (by omega) (by omega) (by omega)) ?_
            refine g_val rfl rfl rfl (y_fieldAddr (k := 1) (m := (i).toNat * 42 + 1) rfl (by kernel_rfl) rfl) ?_
            refine g_val rfl rfl rfl (y_ldR (u := .int .u8 ((csB bs) ((i).toNat)).nm) 1 rfl Try.isAgg5 rfl ((fm_get cmC 42 cmC_len _ (i).toNat 1 _ (cml_get (csB bs) n ((i).toNat) (by omega)) (by decide)).trans rfl)) ?_
            refine g_val rfl rfl rfl (y_lit true (y_ine rfl rfl) (decide_eq_true (by omega))) ?_
            refine g_val rfl rfl rfl (y_move rfl) ?_
            refine g_not rfl rfl rfl ?_
            refine g_not rfl rfl rfl ?_
            refine g_val rfl rfl rfl (y_pick_t rfl rfl) ?_
            refine g_val rfl rfl rfl (y_pick_t rfl rfl) ?_
            refine g_val rfl rfl rfl (y_assign rfl) ?_
            refine g_nil (g_then (g_seq (g_seq (g_ops ?_))))
            refine g_val rfl rfl rfl (y_assign rfl) ?_
            refine g_nil (g_then (g_block ?_))
            refine g_loop (α := {x : Int × Bool // 0 ≤ x.1 ∧ x.1 ≤ fs.length ∧ gath True (fun k => fs.getD k ⟨#[]⟩ = ((csB bs) ((i).toNat)).tx) x.1.toNat x.2}) (fun x => [(3, (.slice (some ⟨gr19, 0, none⟩) (n) cr1)), (5, (.slice pr2 (fs.length) cr2)), (9, .int .i64 i), (10, .string ((csB bs) ((i).toNat)).tx), (11, .bool x.1.2), (12, .int .i64 x.1.1)]) (fun x => St w [] [.row 9 1 (.slice pr2 (fs.length) cr2) fs.length (fs.flatMap sC), .row 45 42 (.slice (some ⟨gr19, 0, none⟩) (n) cr1) n ((cml (csB bs) n).flatMap cmC)]) (fun x => fs.length - x.1.1.toNat) ⟨(0, true), by dsimp only; omega, by dsimp only; omega, gath_0 (by simp)⟩ [3, 5, 9, 10, 11, 12] rfl (fun w h => h.sub (.cons_cons _ (.cons_cons _ .slnil))) ?_
            rintro ⟨⟨k, b⟩, hx⟩
            dsimp only
            dsimp only at hx
            obtain ⟨hk0, hk1, hb⟩ := hx
            refine g_seq (g_seq (g_ops ?_))
            refine g_val rfl rfl rfl (y_move rfl) ?_
            refine g_val rfl rfl rfl (y_move rfl) ?_
            refine g_val rfl rfl rfl (y_llen rfl Try.underlying55) ?_
            refine g_val rfl rfl rfl (y_ilt rfl rfl) ?_
            refine g_nil (g_then ?_)
            first | refine g_casep 144 rfl (fun h31 => ?_) (fun h31 => ?_) | refine g_caseb 144 rfl (fun h31 => ?_) (fun h31 => ?_)
            · skip
              refine g_cond_t rfl (g_skip (g_then (g_seq (g_block (g_ops ?_)))))
              refine g_val rfl rfl rfl (y_move rfl) ?_
              refine g_val rfl rfl rfl (y_move rfl) ?_
              first | refine g_casep 148 rfl (fun h32 => ?_) (fun h32 => ?_) | refine g_caseb 148 rfl (fun h32 => ?_) (fun h32 => ?_)
              · skip
                refine g_not rfl rfl rfl ?_
                refine g_not rfl rfl rfl ?_
                refine g_not rfl rfl rfl ?_
                refine g_not rfl rfl rfl ?_
                refine g_not rfl rfl rfl ?_
                refine g_not rfl rfl rfl ?_
                refine g_val rfl rfl rfl (y_pick_t rfl rfl) ?_
                refine g_val rfl rfl rfl (y_assign rfl) ?_
                refine g_nil (g_in_normal (g_then (g_ops ?_)))
                refine g_val rfl rfl rfl (y_move rfl) ?_
                refine g_val rfl rfl rfl (by first | exact y_addi rfl rfl (by first | omega | (simp only [size_mk, ByteArray.size_append, ByteArray.size_extract]; omega)) | exact y_iadd rfl rfl) ?_
                refine g_val rfl rfl rfl (y_assign rfl) ?_
                refine g_nil ?_
                exact g_again ⟨(k + 1, true), by dsimp only; omega, by dsimp only; omega, by dsimp only; rw [show (k + 1).toNat = k.toNat + 1 by omega]; exact (by first | exact gath_old hb (by assumption) | exact gath_on hb (by assumption))⟩ [3, 5, 9, 10, 11, 12] (by dsimp only; omega) rfl (fun w h => h.sub (.cons_cons _ (.cons_cons _ .slnil)))
              · skip
                refine g_val rfl rfl rfl (y_move rfl) ?_
                refine g_val rfl rfl rfl (y_move rfl) ?_
                refine g_rowCase 0 rfl (by omega) (fun gr33 cr33 hv33 => ?_)
                cases hv33
                refine g_val rfl rfl rfl (y_idxAddr (m := (k).toNat * 1 + 0) rfl rfl Try.underlying55 Try.sizeOf9 (by omega) (by omega) (by omega)) ?_
                refine g_val rfl rfl rfl (y_ldR (u := .string (fs.getD ((k).toNat) ⟨#[]⟩)) 0 rfl Try.isAgg9 rfl ((fm_get sC 1 sC_len _ (k).toNat 0 _ (getB_get fs ((k).toNat) (by omega)) (by decide)).trans rfl)) ?_
                refine g_val rfl rfl rfl (y_move rfl) ?_
                refine g_val rfl rfl rfl (y_seq rfl rfl) ?_
                refine g_val rfl rfl rfl (y_pick_f rfl rfl) ?_
                refine g_val rfl rfl rfl (y_assign rfl) ?_
                refine g_nil (g_in_normal (g_then (g_ops ?_)))
                refine g_val rfl rfl rfl (y_move rfl) ?_
                refine g_val rfl rfl rfl (by first | exact y_addi rfl rfl (by first | omega | (simp only [size_mk, ByteArray.size_append, ByteArray.size_extract]; omega)) | exact y_iadd rfl rfl) ?_
                refine g_val rfl rfl rfl (y_assign rfl) ?_
                refine g_nil ?_
                first | refine g_casep 11 rfl (fun h34 => ?_) (fun h34 => ?_) | refine g_caseb 11 rfl (fun h34 => ?_) (fun h34 => ?_)
                · exact g_again ⟨(k + 1, true), by dsimp only; omega, by dsimp only; omega, by dsimp only; rw [show (k + 1).toNat = k.toNat + 1 by omega]; exact (by first | exact gath_old hb (by assumption) | exact gath_on hb (by assumption))⟩ [3, 5, 9, 10, 11, 12] (by dsimp only; omega) rfl (fun w h => h.sub (.cons_cons _ (.cons_cons _ .slnil)))
                · exact g_again ⟨(k + 1, false), by dsimp only; omega, by dsimp only; omega, by dsimp only; rw [show (k + 1).toNat = k.toNat + 1 by omega]; exact gath_no hb (by assumption) (by assumption)⟩ [3, 5, 9, 10, 11, 12] (by dsimp only; omega) rfl (fun w h => h.sub (.cons_cons _ (.cons_cons _ .slnil)))
            · skip
              refine g_cond_f rfl (g_exit (g_then_exit (g_then_exit (g_in_exit (g_then (g_seq ?_))))))
              have hfd : b = true := hb.2 (.inl trivial)
              refine g_ops ?_
              refine g_val rfl rfl rfl (y_move rfl) ?_
              refine g_val rfl rfl rfl (y_lit false ((by first | exact y_notp rfl | exact y_not rfl)) (by rw [hfd]; rfl)) ?_
              refine g_nil (g_then (g_cond_f rfl (g_skip (g_in_normal (g_then (g_ops ?_))))))
              refine g_val rfl rfl rfl (y_move rfl) ?_
              refine g_val rfl rfl rfl (by first | exact y_addi rfl rfl (by first | omega | (simp only [size_mk, ByteArray.size_append, ByteArray.size_extract]; omega)) | exact y_iadd rfl rfl) ?_
              refine g_val rfl rfl rfl (y_assign rfl) ?_
              refine g_nil ?_
              exact g_again ⟨i + 1, by omega, by omega⟩ [3, 5, 9] (by dsimp only; omega) rfl (fun w h => h.sub (.cons_cons _ (.cons_cons _ .slnil)))
          · skip
            refine g_not rfl rfl rfl ?_
            refine g_not rfl rfl rfl ?_
            refine g_not rfl rfl rfl ?_
            refine g_not rfl rfl rfl ?_
            refine g_not rfl rfl rfl ?_
            refine g_not rfl rfl rfl ?_
            refine g_not rfl rfl rfl ?_
            refine g_not rfl rfl rfl ?_
            refine g_not rfl rfl rfl ?_
            refine g_not rfl rfl rfl ?_
            refine g_val rfl rfl rfl (y_pick_f rfl rfl) ?_
            refine g_val rfl rfl rfl (y_assign rfl) ?_
            refine g_nil (g_then (g_seq (g_seq (g_ops ?_))))
            refine g_val rfl rfl rfl (y_assign rfl) ?_
            refine g_nil (g_then (g_block ?_))
            refine g_loop (α := {x : Int × Bool // 0 ≤ x.1 ∧ x.1 ≤ fs.length ∧ gath False (fun k => fs.getD k ⟨#[]⟩ = ((csB bs) ((i).toNat)).tx) x.1.toNat x.2}) (fun x => [(3, (.slice (some ⟨gr19, 0, none⟩) (n) cr1)), (5, (.slice pr2 (fs.length) cr2)), (9, .int .i64 i), (10, .string ((csB bs) ((i).toNat)).tx), (11, .bool x.1.2), (12, .int .i64 x.1.1)]) (fun x => St w [] [.row 9 1 (.slice pr2 (fs.length) cr2) fs.length (fs.flatMap sC), .row 45 42 (.slice (some ⟨gr19, 0, none⟩) (n) cr1) n ((cml (csB bs) n).flatMap cmC)]) (fun x => fs.length - x.1.1.toNat) ⟨(0, false), by dsimp only; omega, by dsimp only; omega, gath_0 (by simp)⟩ [3, 5, 9, 10, 11, 12] rfl (fun w h => h.sub (.cons_cons _ (.cons_cons _ .slnil))) ?_
            rintro ⟨⟨k, b⟩, hx⟩
            dsimp only
            dsimp only at hx
            obtain ⟨hk0, hk1, hb⟩ := hx
            refine g_seq (g_seq (g_ops ?_))
            refine g_val rfl rfl rfl (y_move rfl) ?_
            refine g_val rfl rfl rfl (y_move rfl) ?_
            refine g_val rfl rfl rfl (y_llen rfl Try.underlying55) ?_
            refine g_val rfl rfl rfl (y_ilt rfl rfl) ?_
            refine g_nil (g_then ?_)
            first | refine g_casep 144 rfl (fun h35 => ?_) (fun h35 => ?_) | refine g_caseb 144 rfl (fun h35 => ?_) (fun h35 => ?_)
            · skip
              refine g_cond_t rfl (g_skip (g_then (g_seq (g_block (g_ops ?_)))))
              refine g_val rfl rfl rfl (y_move rfl) ?_
              refine g_val rfl rfl rfl (y_move rfl) ?_
              first | refine g_casep 148 rfl (fun h36 => ?_) (fun h36 => ?_) | refine g_caseb 148 rfl (fun h36 => ?_) (fun h36 => ?_)
              · skip
                refine g_not rfl rfl rfl ?_
                refine g_not rfl rfl rfl ?_
                refine g_not rfl rfl rfl ?_
                refine g_not rfl rfl rfl ?_
                refine g_not rfl rfl rfl ?_
                refine g_not rfl rfl rfl ?_
                refine g_val rfl rfl rfl (y_pick_t rfl rfl) ?_
                refine g_val rfl rfl rfl (y_assign rfl) ?_
                refine g_nil (g_in_normal (g_then (g_ops ?_)))
                refine g_val rfl rfl rfl (y_move rfl) ?_
                refine g_val rfl rfl rfl (by first | exact y_addi rfl rfl (by first | omega | (simp only [size_mk, ByteArray.size_append, ByteArray.size_extract]; omega)) | exact y_iadd rfl rfl) ?_
                refine g_val rfl rfl rfl (y_assign rfl) ?_
                refine g_nil ?_
                exact g_again ⟨(k + 1, true), by dsimp only; omega, by dsimp only; omega, by dsimp only; rw [show (k + 1).toNat = k.toNat + 1 by omega]; exact (by first | exact gath_old hb (by assumption) | exact gath_on hb (by assumption))⟩ [3, 5, 9, 10, 11, 12] (by dsimp only; omega) rfl (fun w h => h.sub (.cons_cons _ (.cons_cons _ .slnil)))
              · skip
                refine g_val rfl rfl rfl (y_move rfl) ?_
                refine g_val rfl rfl rfl (y_move rfl) ?_
                refine g_rowCase 0 rfl (by omega) (fun gr37 cr37 hv37 => ?_)
                cases hv37
                refine g_val rfl rfl rfl (y_idxAddr (m := (k).toNat * 1 + 0) rfl rfl Try.underlying55 Try.sizeOf9 (by omega) (by omega) (by omega)) ?_
                refine g_val rfl rfl rfl (y_ldR (u := .string (fs.getD ((k).toNat) ⟨#[]⟩)) 0 rfl Try.isAgg9 rfl ((fm_get sC 1 sC_len _ (k).toNat 0 _ (getB_get fs ((k).toNat) (by omega)) (by decide)).trans rfl)) ?_
                refine g_val rfl rfl rfl (y_move rfl) ?_
                refine g_val rfl rfl rfl (y_seq rfl rfl) ?_
                refine g_val rfl rfl rfl (y_pick_f rfl rfl) ?_
                refine g_val rfl rfl rfl (y_assign rfl) ?_
                refine g_nil (g_in_normal (g_then (g_ops ?_)))
                refine g_val rfl rfl rfl (y_move rfl) ?_
                refine g_val rfl rfl rfl (by first | exact y_addi rfl rfl (by first | omega | (simp only [size_mk, ByteArray.size_append, ByteArray.size_extract]; omega)) | exact y_iadd rfl rfl) ?_
                refine g_val rfl rfl rfl (y_assign rfl) ?_
                refine g_nil ?_
                first | refine g_casep 11 rfl (fun h38 => ?_) (fun h38 => ?_) | refine g_caseb 11 rfl (fun h38 => ?_) (fun h38 => ?_)
                · exact g_again ⟨(k + 1, true), by dsimp only; omega, by dsimp only; omega, by dsimp only; rw [show (k + 1).toNat = k.toNat + 1 by omega]; exact (by first | exact gath_old hb (by assumption) | exact gath_on hb (by assumption))⟩ [3, 5, 9, 10, 11, 12] (by dsimp only; omega) rfl (fun w h => h.sub (.cons_cons _ (.cons_cons _ .slnil)))
                · exact g_again ⟨(k + 1, false), by dsimp only; omega, by dsimp only; omega, by dsimp only; rw [show (k + 1).toNat = k.toNat + 1 by omega]; exact gath_no hb (by assumption) (by assumption)⟩ [3, 5, 9, 10, 11, 12] (by dsimp only; omega) rfl (fun w h => h.sub (.cons_cons _ (.cons_cons _ .slnil)))
            · skip
              refine g_cond_f rfl (g_exit (g_then_exit (g_then_exit (g_in_exit (g_then (g_seq ?_))))))
              have hfd : b = true := hb.2 (.inr (by obtain ⟨q, q1, q2⟩ := mem_getB ((hfs.2 ((csB bs) ((i).toNat)).tx).2 ⟨i.toNat, by omega, by first | (exact .inl ⟨by omega, rfl⟩) | (exact .inr ⟨by omega, by assumption, rfl⟩)⟩); exact ⟨q, by omega, q2⟩))
              refine g_ops ?_
              refine g_val rfl rfl rfl (y_move rfl) ?_
              refine g_val rfl rfl rfl (y_lit false ((by first | exact y_notp rfl | exact y_not rfl)) (by rw [hfd]; rfl)) ?_
              refine g_nil (g_then (g_cond_f rfl (g_skip (g_in_normal (g_then (g_ops ?_))))))
              refine g_val rfl rfl rfl (y_move rfl) ?_
              refine g_val rfl rfl rfl (by first | exact y_addi rfl rfl (by first | omega | (simp only [size_mk, ByteArray.size_append, ByteArray.size_extract]; omega)) | exact y_iadd rfl rfl) ?_
              refine g_val rfl rfl rfl (y_assign rfl) ?_
              refine g_nil ?_
              exact g_again ⟨i + 1, by omega, by omega⟩ [3, 5, 9] (by dsimp only; omega) rfl (fun w h => h.sub (.cons_cons _ (.cons_cons _ .slnil)))
      · skip
        refine g_cond_f rfl (g_exit (g_then_exit (g_then_exit (g_in_exit (g_then (g_seq (g_ops ?_)))))))
        refine g_call1 rfl rfl rfl Try.call9 (fun w hS => alive_any w) ?_
        refine g_val rfl rfl rfl (y_assign rfl) ?_
        refine g_nil (g_then (g_ret ?_))
        refine g_end1 Try.results7 rfl ?_
        exact fun w hS => ⟨rfl, (hS.sub (List.nil_sublist _)).below⟩

end Go.Proofs.Ytpacnggomjepdaa
