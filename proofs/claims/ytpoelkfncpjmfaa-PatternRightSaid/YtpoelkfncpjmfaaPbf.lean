/- Plain texts: headgatelaw09.plain, PatternPlain. -/
import Derived.Test.YtpoelkfncpjmfaaPbe
import Derived.Laws.StructEq
namespace Go.Proofs.Ytpoelkfncpjmfaa
open Go Go.RowKit

/-- Are two sets one? -/
def eq4 (s t : Nat → Int) : Bool := s 0 == t 0 && (s 1 == t 1 && (s 2 == t 2 && s 3 == t 3))
theorem eq4_self (s : Nat → Int) : (!eq4 s s) = false := by simp [eq4]
theorem run_eq4 (s t : Nat → Int) (w : World) : (Op.equalIn 10000 27 (.agg (s4C s).toArray) (.agg (s4C t).toArray)).run Try.prog w = .ok (s 0 == t 0 && (s 1 == t 1 && (s 2 == t 2 && s 3 == t 3))) w := by
  have u3 := Try.underlying25
  have a3 := Try.isAgg25
  have z3 := Try.sizeOf25
  rw [show (10000 : Nat) = 9999 + 1 from rfl, Op.equalIn]
  unfold s4C
  simp only [Sem.run_bind, run_underlying Try.underlying27, Result.andThen_ok]
  simp only [Std.Legacy.Range.forIn_eq_forIn_range', Std.Legacy.Range.size, Nat.sub_zero, Nat.add_sub_cancel, Nat.div_one, List.range'_succ, List.range'_zero, List.forIn_cons, List.forIn_nil]
  go_simp
  by_cases h1 : s 0 = t 0 <;> by_cases h2 : s 1 = t 1 <;> by_cases h3 : s 2 = t 2 <;> by_cases h4 : s 3 = t 3 <;> simp [h1, h2, h3, h4]
section
variable {N : Nat} {R : Regs} {S : World → Prop} {dst : Option Tmp} {ty t' : TypeId} {pos : String} {af : Array Edge} {gd : Option (Nat × Bool)} {x y : Operand}
theorem y_setNe (s t : Nat → Int) (hx : ev R x = some (.agg (s4C s).toArray)) (hy : ev R y = some (.agg (s4C t).toArray)) : Yv Try.prog N R S ⟨dst, .binOp .neq 27 x y t', ty, pos, af, gd⟩ (.bool (!eq4 s t)) :=
  y_bin hx hy fun w => by
    rw [Sem.run_bind, run_eqGuard_agg w _ _ _ _ _ _ (by kernel_rfl), Result.andThen_ok, run_neq_struct, run_eq4]; rfl
end
theorem fm_sub {α : Type} (f : α → List Value) (sz : Nat) (hf : ∀ a, (f a).length = sz) (l : List α) (i j k : Nat) (a : α) (hi : l[i]? = some a) (hjk : j + k ≤ sz) : ((l.flatMap f).drop (i * sz + j)).take k = ((f a).drop j).take k := by
  rw [← fm_elem f sz hf l i a hi, List.drop_take, List.take_take, Nat.min_eq_left (by omega), List.drop_drop]
theorem ref_one (c : UInt8) (w : World) : Calls Try.prog 10 #[.agg (s4C s0).toArray, .int .u8 (c.toNat : Int), .int .u8 (c.toNat : Int)] w fun e w' => e = .returned (.agg (s4C (withS s0 c.toNat 1)).toArray) ∧ Below w.heap.size w w' := by
  have := rwith_any s0 c.toNat c.toNat (by have := c.toNat_lt; omega) (by have := c.toNat_lt; omega) w
  rwa [Nat.add_sub_cancel_left] at this
theorem g_kidsRow {N : Nat} {R : Regs} {W0 : World} {F : List Nat} {L : List Ent} {X : Act → World → Prop} {k : Int} {s : Nat → Int} {mi ma nu : Int} {v : Value} {kids : List MT} (i : Nat) (hi : L[i]? = some (.forest [.mk k s mi ma nu v kids]))
    (h : G N R (St W0 F (L.set i (.row 30 9 v kids.length (kids.flatMap nC)))) X) : G N R (St W0 F L) X :=
  g_turn i hi (fun w ho => (ok_mk.1 (okL_cons.1 ho).1).1) (fun k hk => by
    show k ∈ fpL _
    rw [fpL_cons, fp_mk]
    exact List.mem_append_left _ (List.mem_append_left _ hk)) h
theorem st8_get {l : List UInt8} {i : Nat} (h : i < l.length) : ∃ c, l[i]? = some c ∧ (⟨l.toArray⟩ : ByteArray)[i]? = some c := by
  refine ⟨l[i], List.getElem?_eq_getElem h, ?_⟩
  rw [getElem?_pos _ _ (by rw [size_mk]; exact h)]
  rfl
theorem plain_step {l : List UInt8} {i : Int} (h0 : 0 ≤ i) (h1 : ∀ (j : Nat) c, l[j]? = some c → j < i.toNat → plainC c) {c : UInt8} (hc : l[i.toNat]? = some c) (hp : plainC c) : ∀ (j : Nat) c, l[j]? = some c → j < (i + 1).toNat → plainC c := fun j d hd hj => by
  by_cases hji : j = i.toNat
  · subst hji; rw [hc] at hd; cases hd; exact hp
  · exact h1 j d hd (by omega)
def plainS (l : List UInt8) : Prop := (∀ c, c ∈ l → plainC c) ∧ 1 ≤ l.length ∧ l.length ≤ 200

set_option maxRecDepth 100000 in
theorem plain_any (l : List UInt8) (hl : l.length ≤ maxLen) (w : World) :
    Calls Try.prog 7 #[st8 l] w fun e w' => ∃ x : {b : Bool // b = true ↔ plainS l}, e = .returned (.bool x.1) ∧ Below w.heap.size w w' := by
  have hmax : maxLen = 9223372036854775807 := rfl
  have hsz := size_mk l
  refine fn_intro Try.func7 rfl Try.ntmps7 rfl rfl ?_
  refine g_seq (g_ops ?_)
  refine g_val rfl rfl rfl (y_assign rfl) ?_
  refine g_nil (g_then (g_seq (g_seq (g_ops ?_))))
  refine g_val rfl rfl rfl (y_assign rfl) ?_
  refine g_nil (g_then (g_block ?_))
  refine g_loop (α := {x : Int // 0 ≤ x ∧ x ≤ l.length ∧ ∀ (j : Nat) c, l[j]? = some c → j < x.toNat → plainC c}) (fun x => [(0, st8 l), (3, .int .i64 x.1)]) (fun x => St w [] []) (fun x => (l.length : Int).toNat - x.1.toNat) ⟨0, by omega, by omega, fun _ _ _ h => by omega⟩ [0, 3] rfl (fun w h => h.sub .slnil) ?_
  rintro ⟨i, hi0, hi1, hpl⟩
  dsimp only
  refine g_seq (g_seq (g_ops ?_))
  refine g_val rfl rfl rfl (y_move rfl) ?_
  refine g_val rfl rfl rfl (y_move rfl) ?_
  refine g_val rfl rfl rfl (y_slen rfl Try.underlying9) ?_
  refine g_val rfl rfl rfl (y_ilt rfl rfl) ?_
  refine g_nil (g_then ?_)
  first | refine g_casep 8 rfl (fun h1 => ?_) (fun h1 => ?_) | refine g_caseb 8 rfl (fun h1 => ?_) (fun h1 => ?_)
  · skip
    try rw [hsz] at h1
    refine g_cond_t rfl (g_skip (g_then (g_seq (g_block (g_seq (g_ops ?_))))))
    refine g_val rfl rfl rfl (y_move rfl) ?_
    refine g_val rfl rfl rfl (y_move rfl) ?_
    obtain ⟨c, hc, hc8⟩ := st8_get (show i.toNat < l.length by omega)
    refine g_val rfl rfl rfl (y_sidxI rfl rfl Try.underlying9 hi0 hc8) ?_
    have hc256 := c.toNat_lt
    refine g_val rfl rfl rfl (y_assign rfl) ?_
    refine g_nil (g_then (g_seq (g_ops ?_)))
    refine g_val rfl rfl rfl (y_move rfl) ?_
    refine g_val rfl rfl rfl (y_ilt rfl rfl) ?_
    refine g_val rfl rfl rfl (y_move rfl) ?_
    first | refine g_casep 16 rfl (fun h2 => ?_) (fun h2 => ?_) | refine g_caseb 16 rfl (fun h2 => ?_) (fun h2 => ?_)
    · skip
      try rw [hsz] at h2
      refine g_not rfl rfl rfl ?_
      refine g_not rfl rfl rfl ?_
      refine g_val rfl rfl rfl (y_pick_t rfl rfl) ?_
      refine g_val rfl rfl rfl (y_move rfl) ?_
      refine g_val rfl rfl rfl (y_move rfl) ?_
      refine g_val rfl rfl rfl (y_ilt rfl rfl) ?_
      refine g_val rfl rfl rfl (y_move rfl) ?_
      first | refine g_casep 23 rfl (fun h3 => ?_) (fun h3 => ?_) | refine g_caseb 23 rfl (fun h3 => ?_) (fun h3 => ?_)
      · skip
        try rw [hsz] at h3
        refine g_not rfl rfl rfl ?_
        refine g_not rfl rfl rfl ?_
        refine g_val rfl rfl rfl (y_pick_t rfl rfl) ?_
        refine g_val rfl rfl rfl (y_pick_t rfl rfl) ?_
        refine g_val rfl rfl rfl (y_move rfl) ?_
        refine g_val rfl rfl rfl (y_move rfl) ?_
        refine g_val rfl rfl rfl (y_ilt rfl rfl) ?_
        refine g_val rfl rfl rfl (y_move rfl) ?_
        first | refine g_casep 31 rfl (fun h4 => ?_) (fun h4 => ?_) | refine g_caseb 31 rfl (fun h4 => ?_) (fun h4 => ?_)
        · skip
          try rw [hsz] at h4
          refine g_not rfl rfl rfl ?_
          refine g_not rfl rfl rfl ?_
          refine g_val rfl rfl rfl (y_pick_t rfl rfl) ?_
          refine g_val rfl rfl rfl (y_pick_t rfl rfl) ?_
          refine g_nil (g_then (g_cond_t rfl (g_seq (g_ops ?_))))
          refine g_val rfl rfl rfl (y_assign rfl) ?_
          refine g_nil (g_then (g_ret (g_in_ret (g_then_ret (g_then_ret (g_in_ret (g_then_ret ?_)))))))
          refine g_end1 Try.results7 rfl ?_
          exact fun w hS => ⟨⟨false, ⟨fun h => (by cases h), fun h => absurd (h.1 c (List.mem_of_getElem? hc)) (by unfold plainC; omega)⟩⟩, rfl, (hS.sub (List.nil_sublist _)).below⟩
        · skip
          try rw [hsz] at h4
          refine g_val rfl rfl rfl (y_move rfl) ?_
          refine g_val rfl rfl rfl (y_igt rfl rfl) ?_
          refine g_val rfl rfl rfl (y_pick_f rfl rfl) ?_
          refine g_val rfl rfl rfl (y_pick_t rfl rfl) ?_
          refine g_nil (g_then ?_)
          first | refine g_casep 35 rfl (fun h5 => ?_) (fun h5 => ?_) | refine g_caseb 35 rfl (fun h5 => ?_) (fun h5 => ?_)
          · skip
            try rw [hsz] at h5
            refine g_cond_t rfl (g_seq (g_ops ?_))
            refine g_val rfl rfl rfl (y_assign rfl) ?_
            refine g_nil (g_then (g_ret (g_in_ret (g_then_ret (g_then_ret (g_in_ret (g_then_ret ?_)))))))
            refine g_end1 Try.results7 rfl ?_
            exact fun w hS => ⟨⟨false, ⟨fun h => (by cases h), fun h => absurd (h.1 c (List.mem_of_getElem? hc)) (by unfold plainC; omega)⟩⟩, rfl, (hS.sub (List.nil_sublist _)).below⟩
          · skip
            try rw [hsz] at h5
            refine g_cond_f rfl (g_skip (g_in_normal (g_then (g_ops ?_))))
            refine g_val rfl rfl rfl (y_move rfl) ?_
            refine g_val rfl rfl rfl (by first | exact y_addi rfl rfl (by first | omega | (simp only [size_mk, ByteArray.size_append, ByteArray.size_extract]; omega)) | exact y_iadd rfl rfl) ?_
            refine g_val rfl rfl rfl (y_assign rfl) ?_
            refine g_nil ?_
            exact g_again ⟨i + 1, by omega, by omega, plain_step hi0 hpl hc (by unfold plainC; omega)⟩ [0, 3] (by dsimp only; omega) rfl (fun w h => h.sub .slnil)
      · skip
        try rw [hsz] at h3
        refine g_val rfl rfl rfl (y_move rfl) ?_
        refine g_val rfl rfl rfl (y_igt rfl rfl) ?_
        refine g_val rfl rfl rfl (y_pick_f rfl rfl) ?_
        refine g_val rfl rfl rfl (y_pick_t rfl rfl) ?_
        refine g_val rfl rfl rfl (y_move rfl) ?_
        first | refine g_casep 28 rfl (fun h6 => ?_) (fun h6 => ?_) | refine g_caseb 28 rfl (fun h6 => ?_) (fun h6 => ?_)
        · skip
          try rw [hsz] at h6
          refine g_val rfl rfl rfl (y_move rfl) ?_
          refine g_val rfl rfl rfl (y_ilt rfl rfl) ?_
          refine g_val rfl rfl rfl (y_move rfl) ?_
          first | refine g_casep 31 rfl (fun h7 => ?_) (fun h7 => ?_) | refine g_caseb 31 rfl (fun h7 => ?_) (fun h7 => ?_)
          · skip
            try rw [hsz] at h7
            refine g_not rfl rfl rfl ?_
            refine g_not rfl rfl rfl ?_
            refine g_val rfl rfl rfl (y_pick_t rfl rfl) ?_
            refine g_val rfl rfl rfl (y_pick_t rfl rfl) ?_
            refine g_nil (g_then (g_cond_t rfl (g_seq (g_ops ?_))))
            refine g_val rfl rfl rfl (y_assign rfl) ?_
            refine g_nil (g_then (g_ret (g_in_ret (g_then_ret (g_then_ret (g_in_ret (g_then_ret ?_)))))))
            refine g_end1 Try.results7 rfl ?_
            exact fun w hS => ⟨⟨false, ⟨fun h => (by cases h), fun h => absurd (h.1 c (List.mem_of_getElem? hc)) (by unfold plainC; omega)⟩⟩, rfl, (hS.sub (List.nil_sublist _)).below⟩
          · skip
            try rw [hsz] at h7
            refine g_val rfl rfl rfl (y_move rfl) ?_
            refine g_val rfl rfl rfl (y_igt rfl rfl) ?_
            refine g_val rfl rfl rfl (y_pick_f rfl rfl) ?_
            refine g_val rfl rfl rfl (y_pick_t rfl rfl) ?_
            refine g_nil (g_then ?_)
            first | refine g_casep 35 rfl (fun h8 => ?_) (fun h8 => ?_) | refine g_caseb 35 rfl (fun h8 => ?_) (fun h8 => ?_)
            · skip
              try rw [hsz] at h8
              refine g_cond_t rfl (g_seq (g_ops ?_))
              refine g_val rfl rfl rfl (y_assign rfl) ?_
              refine g_nil (g_then (g_ret (g_in_ret (g_then_ret (g_then_ret (g_in_ret (g_then_ret ?_)))))))
              refine g_end1 Try.results7 rfl ?_
              exact fun w hS => ⟨⟨false, ⟨fun h => (by cases h), fun h => absurd (h.1 c (List.mem_of_getElem? hc)) (by unfold plainC; omega)⟩⟩, rfl, (hS.sub (List.nil_sublist _)).below⟩
            · skip
              try rw [hsz] at h8
              refine g_cond_f rfl (g_skip (g_in_normal (g_then (g_ops ?_))))
              refine g_val rfl rfl rfl (y_move rfl) ?_
              refine g_val rfl rfl rfl (by first | exact y_addi rfl rfl (by first | omega | (simp only [size_mk, ByteArray.size_append, ByteArray.size_extract]; omega)) | exact y_iadd rfl rfl) ?_
              refine g_val rfl rfl rfl (y_assign rfl) ?_
              refine g_nil ?_
              exact g_again ⟨i + 1, by omega, by omega, plain_step hi0 hpl hc (by unfold plainC; omega)⟩ [0, 3] (by dsimp only; omega) rfl (fun w h => h.sub .slnil)
        · skip
          try rw [hsz] at h6
          refine g_not rfl rfl rfl ?_
          refine g_not rfl rfl rfl ?_
          refine g_not rfl rfl rfl ?_
          refine g_not rfl rfl rfl ?_
          refine g_not rfl rfl rfl ?_
          refine g_not rfl rfl rfl ?_
          refine g_val rfl rfl rfl (y_pick_f rfl rfl) ?_
          refine g_nil (g_then (g_cond_f rfl (g_skip (g_in_normal (g_then (g_ops ?_))))))
          refine g_val rfl rfl rfl (y_move rfl) ?_
          refine g_val rfl rfl rfl (by first | exact y_addi rfl rfl (by first | omega | (simp only [size_mk, ByteArray.size_append, ByteArray.size_extract]; omega)) | exact y_iadd rfl rfl) ?_
          refine g_val rfl rfl rfl (y_assign rfl) ?_
          refine g_nil ?_
          exact g_again ⟨i + 1, by omega, by omega, plain_step hi0 hpl hc (by unfold plainC; omega)⟩ [0, 3] (by dsimp only; omega) rfl (fun w h => h.sub .slnil)
    · skip
      try rw [hsz] at h2
      refine g_val rfl rfl rfl (y_move rfl) ?_
      refine g_val rfl rfl rfl (y_igt rfl rfl) ?_
      refine g_val rfl rfl rfl (y_pick_f rfl rfl) ?_
      refine g_val rfl rfl rfl (y_move rfl) ?_
      first | refine g_casep 20 rfl (fun h9 => ?_) (fun h9 => ?_) | refine g_caseb 20 rfl (fun h9 => ?_) (fun h9 => ?_)
      · skip
        try rw [hsz] at h9
        refine g_val rfl rfl rfl (y_move rfl) ?_
        refine g_val rfl rfl rfl (y_ilt rfl rfl) ?_
        refine g_val rfl rfl rfl (y_move rfl) ?_
        first | refine g_casep 23 rfl (fun h10 => ?_) (fun h10 => ?_) | refine g_caseb 23 rfl (fun h10 => ?_) (fun h10 => ?_)
        · skip
          try rw [hsz] at h10
          refine g_not rfl rfl rfl ?_
          refine g_not rfl rfl rfl ?_
          refine g_val rfl rfl rfl (y_pick_t rfl rfl) ?_
          refine g_val rfl rfl rfl (y_pick_t rfl rfl) ?_
          refine g_val rfl rfl rfl (y_move rfl) ?_
          refine g_val rfl rfl rfl (y_move rfl) ?_
          refine g_val rfl rfl rfl (y_ilt rfl rfl) ?_
          refine g_val rfl rfl rfl (y_move rfl) ?_
          first | refine g_casep 31 rfl (fun h11 => ?_) (fun h11 => ?_) | refine g_caseb 31 rfl (fun h11 => ?_) (fun h11 => ?_)
          · skip
            try rw [hsz] at h11
            refine g_not rfl rfl rfl ?_
            refine g_not rfl rfl rfl ?_
            refine g_val rfl rfl rfl (y_pick_t rfl rfl) ?_
            refine g_val rfl rfl rfl (y_pick_t rfl rfl) ?_
            refine g_nil (g_then (g_cond_t rfl (g_seq (g_ops ?_))))
            refine g_val rfl rfl rfl (y_assign rfl) ?_
            refine g_nil (g_then (g_ret (g_in_ret (g_then_ret (g_then_ret (g_in_ret (g_then_ret ?_)))))))
            refine g_end1 Try.results7 rfl ?_
            exact fun w hS => ⟨⟨false, ⟨fun h => (by cases h), fun h => absurd (h.1 c (List.mem_of_getElem? hc)) (by unfold plainC; omega)⟩⟩, rfl, (hS.sub (List.nil_sublist _)).below⟩
          · skip
            try rw [hsz] at h11
            refine g_val rfl rfl rfl (y_move rfl) ?_
            refine g_val rfl rfl rfl (y_igt rfl rfl) ?_
            refine g_val rfl rfl rfl (y_pick_f rfl rfl) ?_
            refine g_val rfl rfl rfl (y_pick_t rfl rfl) ?_
            refine g_nil (g_then ?_)
            first | refine g_casep 35 rfl (fun h12 => ?_) (fun h12 => ?_) | refine g_caseb 35 rfl (fun h12 => ?_) (fun h12 => ?_)
            · skip
              try rw [hsz] at h12
              refine g_cond_t rfl (g_seq (g_ops ?_))
              refine g_val rfl rfl rfl (y_assign rfl) ?_
              refine g_nil (g_then (g_ret (g_in_ret (g_then_ret (g_then_ret (g_in_ret (g_then_ret ?_)))))))
              refine g_end1 Try.results7 rfl ?_
              exact fun w hS => ⟨⟨false, ⟨fun h => (by cases h), fun h => absurd (h.1 c (List.mem_of_getElem? hc)) (by unfold plainC; omega)⟩⟩, rfl, (hS.sub (List.nil_sublist _)).below⟩
            · skip
              try rw [hsz] at h12
              refine g_cond_f rfl (g_skip (g_in_normal (g_then (g_ops ?_))))
              refine g_val rfl rfl rfl (y_move rfl) ?_
              refine g_val rfl rfl rfl (by first | exact y_addi rfl rfl (by first | omega | (simp only [size_mk, ByteArray.size_append, ByteArray.size_extract]; omega)) | exact y_iadd rfl rfl) ?_
              refine g_val rfl rfl rfl (y_assign rfl) ?_
              refine g_nil ?_
              exact g_again ⟨i + 1, by omega, by omega, plain_step hi0 hpl hc (by unfold plainC; omega)⟩ [0, 3] (by dsimp only; omega) rfl (fun w h => h.sub .slnil)
        · skip
          try rw [hsz] at h10
          refine g_val rfl rfl rfl (y_move rfl) ?_
          refine g_val rfl rfl rfl (y_igt rfl rfl) ?_
          refine g_val rfl rfl rfl (y_pick_f rfl rfl) ?_
          refine g_val rfl rfl rfl (y_pick_t rfl rfl) ?_
          refine g_val rfl rfl rfl (y_move rfl) ?_
          first | refine g_casep 28 rfl (fun h13 => ?_) (fun h13 => ?_) | refine g_caseb 28 rfl (fun h13 => ?_) (fun h13 => ?_)
          · skip
            try rw [hsz] at h13
            refine g_val rfl rfl rfl (y_move rfl) ?_
            refine g_val rfl rfl rfl (y_ilt rfl rfl) ?_
            refine g_val rfl rfl rfl (y_move rfl) ?_
            first | refine g_casep 31 rfl (fun h14 => ?_) (fun h14 => ?_) | refine g_caseb 31 rfl (fun h14 => ?_) (fun h14 => ?_)
            · skip
              try rw [hsz] at h14
              refine g_not rfl rfl rfl ?_
              refine g_not rfl rfl rfl ?_
              refine g_val rfl rfl rfl (y_pick_t rfl rfl) ?_
              refine g_val rfl rfl rfl (y_pick_t rfl rfl) ?_
              refine g_nil (g_then (g_cond_t rfl (g_seq (g_ops ?_))))
              refine g_val rfl rfl rfl (y_assign rfl) ?_
              refine g_nil (g_then (g_ret (g_in_ret (g_then_ret (g_then_ret (g_in_ret (g_then_ret ?_)))))))
              refine g_end1 Try.results7 rfl ?_
              exact fun w hS => ⟨⟨false, ⟨fun h => (by cases h), fun h => absurd (h.1 c (List.mem_of_getElem? hc)) (by unfold plainC; omega)⟩⟩, rfl, (hS.sub (List.nil_sublist _)).below⟩
            · skip
              try rw [hsz] at h14
              refine g_val rfl rfl rfl (y_move rfl) ?_
              refine g_val rfl rfl rfl (y_igt rfl rfl) ?_
              refine g_val rfl rfl rfl (y_pick_f rfl rfl) ?_
              refine g_val rfl rfl rfl (y_pick_t rfl rfl) ?_
              refine g_nil (g_then ?_)
              first | refine g_casep 35 rfl (fun h15 => ?_) (fun h15 => ?_) | refine g_caseb 35 rfl (fun h15 => ?_) (fun h15 => ?_)
              · skip
                try rw [hsz] at h15
                refine g_cond_t rfl (g_seq (g_ops ?_))
                refine g_val rfl rfl rfl (y_assign rfl) ?_
                refine g_nil (g_then (g_ret (g_in_ret (g_then_ret (g_then_ret (g_in_ret (g_then_ret ?_)))))))
                refine g_end1 Try.results7 rfl ?_
                exact fun w hS => ⟨⟨false, ⟨fun h => (by cases h), fun h => absurd (h.1 c (List.mem_of_getElem? hc)) (by unfold plainC; omega)⟩⟩, rfl, (hS.sub (List.nil_sublist _)).below⟩
              · skip
                try rw [hsz] at h15
                refine g_cond_f rfl (g_skip (g_in_normal (g_then (g_ops ?_))))
                refine g_val rfl rfl rfl (y_move rfl) ?_
                refine g_val rfl rfl rfl (by first | exact y_addi rfl rfl (by first | omega | (simp only [size_mk, ByteArray.size_append, ByteArray.size_extract]; omega)) | exact y_iadd rfl rfl) ?_
                refine g_val rfl rfl rfl (y_assign rfl) ?_
                refine g_nil ?_
                exact g_again ⟨i + 1, by omega, by omega, plain_step hi0 hpl hc (by unfold plainC; omega)⟩ [0, 3] (by dsimp only; omega) rfl (fun w h => h.sub .slnil)
          · skip
            try rw [hsz] at h13
            refine g_not rfl rfl rfl ?_
            refine g_not rfl rfl rfl ?_
            refine g_not rfl rfl rfl ?_
            refine g_not rfl rfl rfl ?_
            refine g_not rfl rfl rfl ?_
            refine g_not rfl rfl rfl ?_
            refine g_val rfl rfl rfl (y_pick_f rfl rfl) ?_
            refine g_nil (g_then (g_cond_f rfl (g_skip (g_in_normal (g_then (g_ops ?_))))))
            refine g_val rfl rfl rfl (y_move rfl) ?_
            refine g_val rfl rfl rfl (by first | exact y_addi rfl rfl (by first | omega | (simp only [size_mk, ByteArray.size_append, ByteArray.size_extract]; omega)) | exact y_iadd rfl rfl) ?_
            refine g_val rfl rfl rfl (y_assign rfl) ?_
            refine g_nil ?_
            exact g_again ⟨i + 1, by omega, by omega, plain_step hi0 hpl hc (by unfold plainC; omega)⟩ [0, 3] (by dsimp only; omega) rfl (fun w h => h.sub .slnil)
      · skip
        try rw [hsz] at h9
        refine g_not rfl rfl rfl ?_
        refine g_not rfl rfl rfl ?_
        refine g_not rfl rfl rfl ?_
        refine g_not rfl rfl rfl ?_
        refine g_not rfl rfl rfl ?_
        refine g_not rfl rfl rfl ?_
        refine g_val rfl rfl rfl (y_pick_f rfl rfl) ?_
        refine g_val rfl rfl rfl (y_move rfl) ?_
        refine g_not rfl rfl rfl ?_
        refine g_not rfl rfl rfl ?_
        refine g_not rfl rfl rfl ?_
        refine g_not rfl rfl rfl ?_
        refine g_not rfl rfl rfl ?_
        refine g_not rfl rfl rfl ?_
        refine g_val rfl rfl rfl (y_pick_f rfl rfl) ?_
        refine g_nil (g_then (g_cond_f rfl (g_skip (g_in_normal (g_then (g_ops ?_))))))
        refine g_val rfl rfl rfl (y_move rfl) ?_
        refine g_val rfl rfl rfl (by first | exact y_addi rfl rfl (by first | omega | (simp only [size_mk, ByteArray.size_append, ByteArray.size_extract]; omega)) | exact y_iadd rfl rfl) ?_
        refine g_val rfl rfl rfl (y_assign rfl) ?_
        refine g_nil ?_
        exact g_again ⟨i + 1, by omega, by omega, plain_step hi0 hpl hc (by unfold plainC; omega)⟩ [0, 3] (by dsimp only; omega) rfl (fun w h => h.sub .slnil)
  · skip
    try rw [hsz] at h1
    refine g_cond_f rfl (g_exit (g_then_exit (g_then_exit (g_in_exit (g_then (g_seq (g_ops ?_)))))))
    refine g_val rfl rfl rfl (y_move rfl) ?_
    refine g_val rfl rfl rfl (y_slen rfl Try.underlying9) ?_
    refine g_val rfl rfl rfl (y_ige rfl rfl) ?_
    refine g_val rfl rfl rfl (y_move rfl) ?_
    first | refine g_casep 39 rfl (fun h16 => ?_) (fun h16 => ?_) | refine g_caseb 39 rfl (fun h16 => ?_) (fun h16 => ?_)
    · skip
      try rw [hsz] at h16
      refine g_val rfl rfl rfl (y_move rfl) ?_
      refine g_val rfl rfl rfl (y_slen rfl Try.underlying9) ?_
      refine g_val rfl rfl rfl (y_ile rfl rfl) ?_
      refine g_val rfl rfl rfl (y_pick_t rfl rfl) ?_
      refine g_val rfl rfl rfl (y_assign rfl) ?_
      refine g_nil (g_then (g_ret ?_))
      refine g_end1 Try.results7 rfl ?_
      refine fun w hS => ⟨⟨_, ?_⟩, rfl, (hS.sub (List.nil_sublist _)).below⟩
      have hall : ∀ c, c ∈ l → plainC c := fun c hc => by
        obtain ⟨j, hj, rfl⟩ := List.mem_iff_getElem.1 hc
        exact hpl j _ (List.getElem?_eq_getElem hj) (by omega)
      unfold plainS
      first | exact ⟨fun h => (by cases h), fun h => absurd h.2.1 (by omega)⟩ | (show decide (((⟨l.toArray⟩ : ByteArray).size : Int) ≤ 200) = true ↔ _; rw [decide_eq_true_eq]; exact ⟨fun h => ⟨hall, by omega, by omega⟩, fun h => by have := h.2.2; omega⟩)
    · skip
      try rw [hsz] at h16
      refine g_not rfl rfl rfl ?_
      refine g_not rfl rfl rfl ?_
      refine g_not rfl rfl rfl ?_
      refine g_val rfl rfl rfl (y_pick_f rfl rfl) ?_
      refine g_val rfl rfl rfl (y_assign rfl) ?_
      refine g_nil (g_then (g_ret ?_))
      refine g_end1 Try.results7 rfl ?_
      refine fun w hS => ⟨⟨_, ?_⟩, rfl, (hS.sub (List.nil_sublist _)).below⟩
      have hall : ∀ c, c ∈ l → plainC c := fun c hc => by
        obtain ⟨j, hj, rfl⟩ := List.mem_iff_getElem.1 hc
        exact hpl j _ (List.getElem?_eq_getElem hj) (by omega)
      unfold plainS
      first | exact ⟨fun h => (by cases h), fun h => absurd h.2.1 (by omega)⟩ | (show decide (((⟨l.toArray⟩ : ByteArray).size : Int) ≤ 200) = true ↔ _; rw [decide_eq_true_eq]; exact ⟨fun h => ⟨hall, by omega, by omega⟩, fun h => by have := h.2.2; omega⟩)

set_option maxRecDepth 100000 in
theorem pplain_any (l : List UInt8) (ext : Bool) (hl : l.length ≤ maxLen) (w : World) :
    Calls Try.prog 3 #[st8 l, .bool ext] w fun e w' => e = .returned (.bool true) ∧ Below w.heap.size w w' := by
  have hmax : maxLen = 9223372036854775807 := rfl
  have hsz := size_mk l
  refine fn_intro Try.func3 rfl Try.ntmps3 rfl rfl ?_
  refine g_seq ?_
  cases ext
  · skip
    refine g_ops ?_
    refine g_val rfl rfl rfl (y_assign rfl) ?_
    refine g_nil (g_then (g_seq (g_ops ?_)))
    refine g_val rfl rfl rfl (y_move rfl) ?_
    refine g_call (fun x : {b : Bool // b = true ↔ plainS l} => .bool x.1) (fun _ => _) rfl rfl rfl Try.call7 (fun w hS => (plain_any l hl w).mono fun _ _ ⟨x, he, hb⟩ => ⟨x, he, by simpa using hS.then (St.of_below hb)⟩) ?_
    rintro ⟨b, hb⟩
    dsimp only
    rcases b with _ | _
    · skip
      refine g_val rfl rfl rfl (y_assign rfl) ?_
      refine g_nil (g_then (g_seq (g_seq (g_ops ?_))))
      refine g_val rfl rfl rfl (y_move rfl) ?_
      refine g_val rfl rfl rfl (y_lit true (y_not rfl) rfl) ?_
      refine g_nil (g_then (g_cond_t rfl (g_seq (g_ops ?_))))
      refine g_call1 rfl rfl rfl Try.call8 (fun w hS => alive_any w) ?_
      refine g_val rfl rfl rfl (y_assign rfl) ?_
      refine g_nil (g_then (g_ret (g_then_ret ?_)))
      refine g_end1 Try.results3 rfl ?_
      exact fun w hS => ⟨rfl, (hS.sub (List.nil_sublist _)).below⟩
    · skip
      obtain ⟨hp, h1, h200⟩ := hb.1 rfl
      have hne : l ≠ [] := fun h => by subst h; simp at h1
      refine g_val rfl rfl rfl (y_assign rfl) ?_
      refine g_nil (g_then (g_seq (g_seq (g_ops ?_))))
      refine g_val rfl rfl rfl (y_move rfl) ?_
      refine g_val rfl rfl rfl (y_lit false (y_not rfl) rfl) ?_
      refine g_nil (g_then (g_cond_f rfl (g_skip (g_then (g_seq (g_ops ?_))))))
      refine g_val rfl rfl rfl (y_move rfl) ?_
      refine g_val rfl rfl rfl (y_move rfl) ?_
      refine g_callNew (fun x : {x : MT × Int // parR tokB l x} => .tuple #[.agg (nC x.1.1).toArray, .int .i64 x.1.2]) (fun x => [.forest [x.1.1]]) rfl rfl rfl Try.call9 (fun w hS => parse_b l (fun c hc => plain_ok (hp c hc)) w) ?_
      rintro ⟨⟨t, er⟩, hpar⟩
      obtain ⟨h0, htree⟩ := parse_plain (fun c ts d h => tokB_plain h ts d) hp hne h200 hpar
      dsimp only at h0 htree
      subst h0
      simp only [List.cons_append, List.nil_append]
      rcases htree with ⟨c1, hl1, ht⟩ | ⟨hn1, v, ht⟩ <;> subst ht
      · skip
        have hll : l.length = 1 := by rw [hl1]; rfl
        refine g_val rfl rfl rfl (y_move rfl) ?_
        refine g_val (v := .agg (nC (oneM c1)).toArray) rfl rfl rfl (y_extract rfl rfl) ?_
        refine g_val (v := .int .i64 0) rfl rfl rfl (y_extract rfl rfl) ?_
        refine g_alloc rfl rfl Try.zeroValue30 rfl (fun b1 => ?_)
        refine g_stN 0 rfl rfl rfl (by kernel_rfl) rfl rfl rfl (nC_len _) ?_
        simp only [List.set_cons_zero]
        refine g_val rfl rfl rfl (y_assign rfl) ?_
        refine g_nil (g_then (g_seq (g_seq (g_ops ?_))))
        refine g_val rfl rfl rfl (y_move rfl) ?_
        refine g_val rfl rfl rfl (y_lit false (y_ine rfl rfl) (by decide)) ?_
        refine g_nil (g_then (g_cond_f rfl (g_skip (g_then (g_seq (g_ops ?_))))))
        refine g_val rfl rfl rfl (y_fieldAddr (k := 8) (m := 8) rfl (by kernel_rfl) rfl) ?_
        refine g_val rfl rfl rfl (y_ld 0 rfl Try.isAgg28 rfl rfl) ?_
        refine g_val rfl rfl rfl (y_assign rfl) ?_
        refine g_nil (g_then (g_seq (g_seq (g_ops ?_))))
        refine g_val rfl rfl rfl (y_move rfl) ?_
        refine g_val rfl rfl rfl (y_slen rfl Try.underlying9) ?_
        refine g_val rfl rfl rfl (y_lit true (y_ieq rfl rfl) (decide_eq_true (by rw [size_mk, hl1]; rfl))) ?_
        refine g_nil (g_then (g_cond_t rfl (g_ops ?_)))
        refine g_val rfl rfl rfl (y_ldN 0 rfl Try.isAgg30 Try.sizeOf30 rfl rfl rfl) ?_
        refine g_buildSlice (offs := [0]) rfl rfl Try.underlying28 rfl Try.zeroValue30 (by kernel_rfl) (fun b2 => ?_)
        refine g_val rfl rfl rfl (y_assign rfl) ?_
        refine g_rowOf (n := 1) nC [oneM c1] 0 rfl rfl nC_len rfl (by decide) ?_
        simp only [List.set_cons_zero]
        rw [show [oneM c1] = l.map oneM by rw [hl1]; rfl]
        refine g_nil (g_then (g_seq (g_seq (g_ops ?_))))
        refine g_val rfl rfl rfl (y_move rfl) ?_
        refine g_val rfl rfl rfl (y_llen rfl Try.underlying28) ?_
        refine g_val rfl rfl rfl (y_move rfl) ?_
        refine g_val rfl rfl rfl (y_slen rfl Try.underlying9) ?_
        refine g_val rfl rfl rfl (y_lit false (y_ine rfl rfl) (decide_eq_false (by rw [size_mk]; omega))) ?_
        refine g_nil (g_then (g_cond_f rfl (g_skip (g_then (g_seq (g_seq (g_ops ?_)))))))
        refine g_val rfl rfl rfl (y_assign rfl) ?_
        refine g_nil (g_then (g_block ?_))
        refine g_loop (α := {x : Int // 0 ≤ x ∧ x ≤ l.length}) (fun x => [(0, st8 l), (8, (.slice (some ⟨b2, 0, none⟩) 1 1)), (9, .int .i64 x.1)]) (fun x => St w [] [.row 30 9 (.slice (some ⟨b2, 0, none⟩) 1 1) 1 ((l.map oneM).flatMap nC)]) (fun x => (l.length : Int).toNat - x.1.toNat) ⟨0, by omega, by omega⟩ [0, 8, 9] rfl (fun w h => h.sub (.cons_cons _ (.cons _ (.cons _ .slnil)))) ?_
        rintro ⟨i, hi0, hi1⟩
        dsimp only
        refine g_seq (g_seq (g_ops ?_))
        refine g_val rfl rfl rfl (y_move rfl) ?_
        refine g_val rfl rfl rfl (y_move rfl) ?_
        refine g_val rfl rfl rfl (y_slen rfl Try.underlying9) ?_
        refine g_val rfl rfl rfl (y_ilt rfl rfl) ?_
        refine g_nil (g_then ?_)
        first | refine g_casep 41 rfl (fun h1 => ?_) (fun h1 => ?_) | refine g_caseb 41 rfl (fun h1 => ?_) (fun h1 => ?_)
        · skip
          try rw [hsz] at h1
          refine g_cond_t rfl (g_skip (g_then (g_seq (g_block (g_seq ?_)))))
          obtain ⟨cc, hcc, hc8⟩ := st8_get (show i.toNat < l.length by omega)
          have hkk : (l.map oneM)[i.toNat]? = some (oneM cc) := by rw [List.getElem?_map, hcc]; rfl
          refine g_quiet (by kernel_rfl) (by kernel_rfl) ?_
          refine q_val rfl rfl rfl (y_move rfl) ?_
          refine q_val rfl rfl rfl (y_move rfl) ?_
          refine q_val rfl rfl rfl (y_idxAddr (m := (i).toNat * 9 + 0) rfl rfl Try.underlying28 Try.sizeOf30 (by omega) (by omega) (by omega)) ?_
          refine q_val rfl rfl rfl (y_fieldAddr (k := 0) (m := (i).toNat * 9 + 0) rfl (by kernel_rfl) rfl) ?_
          refine q_val rfl rfl rfl (y_ldR (u := .int .i64 1) 0 rfl Try.isAgg24 rfl ((fm_get nC 9 nC_len _ (i).toNat 0 _ (hkk) (by decide)).trans rfl)) ?_
          refine q_val rfl rfl rfl (y_lit false (y_ine rfl rfl) (by decide)) ?_
          refine q_val rfl rfl rfl (y_move rfl) ?_
          refine q_val rfl rfl rfl (y_move rfl) ?_
          refine q_val rfl rfl rfl (y_move rfl) ?_
          refine q_val rfl rfl rfl (y_idxAddr (m := (i).toNat * 9 + 0) rfl rfl Try.underlying28 Try.sizeOf30 (by omega) (by omega) (by omega)) ?_
          refine q_val rfl rfl rfl (y_fieldAddr (k := 1) (m := (i).toNat * 9 + 1) rfl (by kernel_rfl) rfl) ?_
          refine q_val rfl rfl rfl (y_ldRN (k := 4) (vs := s4C (withS s0 cc.toNat 1)) 0 rfl Try.isAgg27 Try.sizeOf27 rfl ((fm_sub nC 9 nC_len _ _ 1 4 _ hkk (by decide)).trans rfl) rfl) ?_
          refine q_val (v := .agg (s4C s0).toArray) rfl rfl rfl (y_build (offs := []) rfl Try.zeroValue27 (by kernel_rfl)) ?_
          refine q_val rfl rfl rfl (y_move rfl) ?_
          refine q_val rfl rfl rfl (y_move rfl) ?_
          refine q_val rfl rfl rfl (y_sidxI rfl rfl Try.underlying9 hi0 hc8) ?_
          refine q_val rfl rfl rfl (y_move rfl) ?_
          refine q_val rfl rfl rfl (y_move rfl) ?_
          refine q_val rfl rfl rfl (y_sidxI rfl rfl Try.underlying9 hi0 hc8) ?_
          refine q_call1 rfl rfl rfl Try.call10 (fun w hS => ref_one cc w) ?_
          refine q_val rfl rfl rfl (y_lit false (y_setNe _ _ rfl rfl) (eq4_self _)) ?_
          refine q_val rfl rfl rfl (y_pick_f rfl rfl) ?_
          refine q_val rfl rfl rfl (y_move rfl) ?_
          refine q_val rfl rfl rfl (y_move rfl) ?_
          refine q_val rfl rfl rfl (y_move rfl) ?_
          refine q_val rfl rfl rfl (y_idxAddr (m := (i).toNat * 9 + 0) rfl rfl Try.underlying28 Try.sizeOf30 (by omega) (by omega) (by omega)) ?_
          refine q_val rfl rfl rfl (y_fieldAddr (k := 8) (m := (i).toNat * 9 + 8) rfl (by kernel_rfl) rfl) ?_
          refine q_val rfl rfl rfl (y_ldR (u := nilS) 0 rfl Try.isAgg28 rfl ((fm_get nC 9 nC_len _ (i).toNat 8 _ (hkk) (by decide)).trans rfl)) ?_
          refine q_val rfl rfl rfl (y_llen rfl Try.underlying28) ?_
          refine q_val rfl rfl rfl (y_lit false (y_ine rfl rfl) (decide_eq_false (by decide))) ?_
          refine q_val rfl rfl rfl (y_pick_f rfl rfl) ?_
          refine q_nil (g_then (g_cond_f rfl (g_skip (g_in_normal (g_then (g_ops ?_))))))
          refine g_val rfl rfl rfl (y_move rfl) ?_
          refine g_val rfl rfl rfl (by first | exact y_addi rfl rfl (by first | omega | (simp only [size_mk, ByteArray.size_append, ByteArray.size_extract]; omega)) | exact y_iadd rfl rfl) ?_
          refine g_val rfl rfl rfl (y_assign rfl) ?_
          refine g_nil ?_
          exact g_again ⟨i + 1, by omega, by omega⟩ [0, 8, 9] (by dsimp only; omega) rfl (fun w h => h.sub (.cons_cons _ .slnil))
        · skip
          try rw [hsz] at h1
          refine g_cond_f rfl (g_exit (g_then_exit (g_then_exit (g_in_exit (g_then (g_seq (g_ops ?_)))))))
          refine g_call1 rfl rfl rfl Try.call8 (fun w hS => alive_any w) ?_
          refine g_val rfl rfl rfl (y_assign rfl) ?_
          refine g_nil (g_then (g_ret ?_))
          refine g_end1 Try.results3 rfl ?_
          exact fun w hS => ⟨rfl, (hS.sub (List.nil_sublist _)).below⟩
      · skip
        have hml : (l.map oneM).length = l.length := List.length_map ..
        refine g_kidsP 0 rfl (by rw [hml]; omega) (fun gv cv hv => ?_)
        cases hv
        refine g_val rfl rfl rfl (y_move rfl) ?_
        refine g_val (v := .agg (nC (.mk 2 s0 0 0 0 (.slice (some ⟨gv, 0, none⟩) (l.map oneM).length cv) (l.map oneM))).toArray) rfl rfl rfl (y_extract rfl rfl) ?_
        refine g_val (v := .int .i64 0) rfl rfl rfl (y_extract rfl rfl) ?_
        refine g_alloc rfl rfl Try.zeroValue30 rfl (fun b3 => ?_)
        refine g_stN 0 rfl rfl rfl (by kernel_rfl) rfl rfl rfl (nC_len _) ?_
        simp only [List.set_cons_zero]
        refine g_val rfl rfl rfl (y_assign rfl) ?_
        refine g_nil (g_then (g_seq (g_seq (g_ops ?_))))
        refine g_val rfl rfl rfl (y_move rfl) ?_
        refine g_val rfl rfl rfl (y_lit false (y_ine rfl rfl) (by decide)) ?_
        refine g_nil (g_then (g_cond_f rfl (g_skip (g_then (g_seq (g_ops ?_))))))
        refine g_val rfl rfl rfl (y_fieldAddr (k := 8) (m := 8) rfl (by kernel_rfl) rfl) ?_
        refine g_val rfl rfl rfl (y_ld 0 rfl Try.isAgg28 rfl rfl) ?_
        refine g_val rfl rfl rfl (y_assign rfl) ?_
        refine g_kidsRow 1 rfl ?_
        simp only [List.set_cons_zero, List.set_cons_succ]
        refine g_nil (g_then (g_seq (g_seq (g_ops ?_))))
        refine g_val rfl rfl rfl (y_move rfl) ?_
        refine g_val rfl rfl rfl (y_slen rfl Try.underlying9) ?_
        refine g_val rfl rfl rfl (y_lit false (y_ieq rfl rfl) (decide_eq_false (by rw [size_mk]; omega))) ?_
        refine g_nil (g_then (g_cond_f rfl (g_seq (g_ops ?_))))
        refine g_val rfl rfl rfl (y_fieldAddr (k := 0) (m := 0) rfl (by kernel_rfl) rfl) ?_
        refine g_val rfl rfl rfl (y_ld 0 rfl Try.isAgg24 rfl rfl) ?_
        refine g_val rfl rfl rfl (y_lit false (y_ine rfl rfl) (decide_eq_false (by decide))) ?_
        refine g_nil (g_then (g_cond_f rfl (g_skip (g_then (g_seq (g_seq (g_ops ?_)))))))
        refine g_val rfl rfl rfl (y_move rfl) ?_
        refine g_val rfl rfl rfl (y_llen rfl Try.underlying28) ?_
        refine g_val rfl rfl rfl (y_move rfl) ?_
        refine g_val rfl rfl rfl (y_slen rfl Try.underlying9) ?_
        refine g_val rfl rfl rfl (y_lit false (y_ine rfl rfl) (decide_eq_false (by rw [size_mk]; omega))) ?_
        refine g_nil (g_then (g_cond_f rfl (g_skip (g_then (g_seq (g_seq (g_ops ?_)))))))
        refine g_val rfl rfl rfl (y_assign rfl) ?_
        refine g_nil (g_then (g_block ?_))
        refine g_loop (α := {x : Int // 0 ≤ x ∧ x ≤ l.length}) (fun x => [(0, st8 l), (8, (.slice (some ⟨gv, 0, none⟩) (l.map oneM).length cv)), (9, .int .i64 x.1)]) (fun x => St w [] [.row 30 9 (.slice (some ⟨gv, 0, none⟩) (l.map oneM).length cv) (l.map oneM).length ((l.map oneM).flatMap nC)]) (fun x => (l.length : Int).toNat - x.1.toNat) ⟨0, by omega, by omega⟩ [0, 8, 9] rfl (fun w h => h.sub (.cons _ (.cons_cons _ .slnil))) ?_
        rintro ⟨i, hi0, hi1⟩
        dsimp only
        refine g_seq (g_seq (g_ops ?_))
        refine g_val rfl rfl rfl (y_move rfl) ?_
        refine g_val rfl rfl rfl (y_move rfl) ?_
        refine g_val rfl rfl rfl (y_slen rfl Try.underlying9) ?_
        refine g_val rfl rfl rfl (y_ilt rfl rfl) ?_
        refine g_nil (g_then ?_)
        first | refine g_casep 41 rfl (fun h2 => ?_) (fun h2 => ?_) | refine g_caseb 41 rfl (fun h2 => ?_) (fun h2 => ?_)
        · skip
          try rw [hsz] at h2
          refine g_cond_t rfl (g_skip (g_then (g_seq (g_block (g_seq ?_)))))
          obtain ⟨cc, hcc, hc8⟩ := st8_get (show i.toNat < l.length by omega)
          have hkk : (l.map oneM)[i.toNat]? = some (oneM cc) := by rw [List.getElem?_map, hcc]; rfl
          refine g_quiet (by kernel_rfl) (by kernel_rfl) ?_
          refine q_val rfl rfl rfl (y_move rfl) ?_
          refine q_val rfl rfl rfl (y_move rfl) ?_
          refine q_val rfl rfl rfl (y_idxAddr (m := (i).toNat * 9 + 0) rfl rfl Try.underlying28 Try.sizeOf30 (by omega) (by omega) (by omega)) ?_
          refine q_val rfl rfl rfl (y_fieldAddr (k := 0) (m := (i).toNat * 9 + 0) rfl (by kernel_rfl) rfl) ?_
          refine q_val rfl rfl rfl (y_ldR (u := .int .i64 1) 0 rfl Try.isAgg24 rfl ((fm_get nC 9 nC_len _ (i).toNat 0 _ (hkk) (by decide)).trans rfl)) ?_
          refine q_val rfl rfl rfl (y_lit false (y_ine rfl rfl) (by decide)) ?_
          refine q_val rfl rfl rfl (y_move rfl) ?_
          refine q_val rfl rfl rfl (y_move rfl) ?_
          refine q_val rfl rfl rfl (y_move rfl) ?_
          refine q_val rfl rfl rfl (y_idxAddr (m := (i).toNat * 9 + 0) rfl rfl Try.underlying28 Try.sizeOf30 (by omega) (by omega) (by omega)) ?_
          refine q_val rfl rfl rfl (y_fieldAddr (k := 1) (m := (i).toNat * 9 + 1) rfl (by kernel_rfl) rfl) ?_
          refine q_val rfl rfl rfl (y_ldRN (k := 4) (vs := s4C (withS s0 cc.toNat 1)) 0 rfl Try.isAgg27 Try.sizeOf27 rfl ((fm_sub nC 9 nC_len _ _ 1 4 _ hkk (by decide)).trans rfl) rfl) ?_
          refine q_val (v := .agg (s4C s0).toArray) rfl rfl rfl (y_build (offs := []) rfl Try.zeroValue27 (by kernel_rfl)) ?_
          refine q_val rfl rfl rfl (y_move rfl) ?_
          refine q_val rfl rfl rfl (y_move rfl) ?_
          refine q_val rfl rfl rfl (y_sidxI rfl rfl Try.underlying9 hi0 hc8) ?_
          refine q_val rfl rfl rfl (y_move rfl) ?_
          refine q_val rfl rfl rfl (y_move rfl) ?_
          refine q_val rfl rfl rfl (y_sidxI rfl rfl Try.underlying9 hi0 hc8) ?_
          refine q_call1 rfl rfl rfl Try.call10 (fun w hS => ref_one cc w) ?_
          refine q_val rfl rfl rfl (y_lit false (y_setNe _ _ rfl rfl) (eq4_self _)) ?_
          refine q_val rfl rfl rfl (y_pick_f rfl rfl) ?_
          refine q_val rfl rfl rfl (y_move rfl) ?_
          refine q_val rfl rfl rfl (y_move rfl) ?_
          refine q_val rfl rfl rfl (y_move rfl) ?_
          refine q_val rfl rfl rfl (y_idxAddr (m := (i).toNat * 9 + 0) rfl rfl Try.underlying28 Try.sizeOf30 (by omega) (by omega) (by omega)) ?_
          refine q_val rfl rfl rfl (y_fieldAddr (k := 8) (m := (i).toNat * 9 + 8) rfl (by kernel_rfl) rfl) ?_
          refine q_val rfl rfl rfl (y_ldR (u := nilS) 0 rfl Try.isAgg28 rfl ((fm_get nC 9 nC_len _ (i).toNat 8 _ (hkk) (by decide)).trans rfl)) ?_
          refine q_val rfl rfl rfl (y_llen rfl Try.underlying28) ?_
          refine q_val rfl rfl rfl (y_lit false (y_ine rfl rfl) (decide_eq_false (by decide))) ?_
          refine q_val rfl rfl rfl (y_pick_f rfl rfl) ?_
          refine q_nil (g_then (g_cond_f rfl (g_skip (g_in_normal (g_then (g_ops ?_))))))
          refine g_val rfl rfl rfl (y_move rfl) ?_
          refine g_val rfl rfl rfl (by first | exact y_addi rfl rfl (by first | omega | (simp only [size_mk, ByteArray.size_append, ByteArray.size_extract]; omega)) | exact y_iadd rfl rfl) ?_
          refine g_val rfl rfl rfl (y_assign rfl) ?_
          refine g_nil ?_
          exact g_again ⟨i + 1, by omega, by omega⟩ [0, 8, 9] (by dsimp only; omega) rfl (fun w h => h.sub (.cons_cons _ .slnil))
        · skip
          try rw [hsz] at h2
          refine g_cond_f rfl (g_exit (g_then_exit (g_then_exit (g_in_exit (g_then (g_seq (g_ops ?_)))))))
          refine g_call1 rfl rfl rfl Try.call8 (fun w hS => alive_any w) ?_
          refine g_val rfl rfl rfl (y_assign rfl) ?_
          refine g_nil (g_then (g_ret ?_))
          refine g_end1 Try.results3 rfl ?_
          exact fun w hS => ⟨rfl, (hS.sub (List.nil_sublist _)).below⟩
  · skip
    refine g_ops ?_
    refine g_val rfl rfl rfl (y_assign rfl) ?_
    refine g_nil (g_then (g_seq (g_ops ?_)))
    refine g_val rfl rfl rfl (y_move rfl) ?_
    refine g_call (fun x : {b : Bool // b = true ↔ plainS l} => .bool x.1) (fun _ => _) rfl rfl rfl Try.call7 (fun w hS => (plain_any l hl w).mono fun _ _ ⟨x, he, hb⟩ => ⟨x, he, by simpa using hS.then (St.of_below hb)⟩) ?_
    rintro ⟨b, hb⟩
    dsimp only
    rcases b with _ | _
    · skip
      refine g_val rfl rfl rfl (y_assign rfl) ?_
      refine g_nil (g_then (g_seq (g_seq (g_ops ?_))))
      refine g_val rfl rfl rfl (y_move rfl) ?_
      refine g_val rfl rfl rfl (y_lit true (y_not rfl) rfl) ?_
      refine g_nil (g_then (g_cond_t rfl (g_seq (g_ops ?_))))
      refine g_call1 rfl rfl rfl Try.call8 (fun w hS => alive_any w) ?_
      refine g_val rfl rfl rfl (y_assign rfl) ?_
      refine g_nil (g_then (g_ret (g_then_ret ?_)))
      refine g_end1 Try.results3 rfl ?_
      exact fun w hS => ⟨rfl, (hS.sub (List.nil_sublist _)).below⟩
    · skip
      obtain ⟨hp, h1, h200⟩ := hb.1 rfl
      have hne : l ≠ [] := fun h => by subst h; simp at h1
      refine g_val rfl rfl rfl (y_assign rfl) ?_
      refine g_nil (g_then (g_seq (g_seq (g_ops ?_))))
      refine g_val rfl rfl rfl (y_move rfl) ?_
      refine g_val rfl rfl rfl (y_lit false (y_not rfl) rfl) ?_
      refine g_nil (g_then (g_cond_f rfl (g_skip (g_then (g_seq (g_ops ?_))))))
      refine g_val rfl rfl rfl (y_move rfl) ?_
      refine g_val rfl rfl rfl (y_move rfl) ?_
      refine g_callNew (fun x : {x : MT × Int // parR tokE l x} => .tuple #[.agg (nC x.1.1).toArray, .int .i64 x.1.2]) (fun x => [.forest [x.1.1]]) rfl rfl rfl Try.call9 (fun w hS => parse_e l (fun c hc => plain_ok (hp c hc)) w) ?_
      rintro ⟨⟨t, er⟩, hpar⟩
      obtain ⟨h0, htree⟩ := parse_plain (fun c ts d h => tokE_plain h ts d) hp hne h200 hpar
      dsimp only at h0 htree
      subst h0
      simp only [List.cons_append, List.nil_append]
      rcases htree with ⟨c1, hl1, ht⟩ | ⟨hn1, v, ht⟩ <;> subst ht
      · skip
        have hll : l.length = 1 := by rw [hl1]; rfl
        refine g_val rfl rfl rfl (y_move rfl) ?_
        refine g_val (v := .agg (nC (oneM c1)).toArray) rfl rfl rfl (y_extract rfl rfl) ?_
        refine g_val (v := .int .i64 0) rfl rfl rfl (y_extract rfl rfl) ?_
        refine g_alloc rfl rfl Try.zeroValue30 rfl (fun b4 => ?_)
        refine g_stN 0 rfl rfl rfl (by kernel_rfl) rfl rfl rfl (nC_len _) ?_
        simp only [List.set_cons_zero]
        refine g_val rfl rfl rfl (y_assign rfl) ?_
        refine g_nil (g_then (g_seq (g_seq (g_ops ?_))))
        refine g_val rfl rfl rfl (y_move rfl) ?_
        refine g_val rfl rfl rfl (y_lit false (y_ine rfl rfl) (by decide)) ?_
        refine g_nil (g_then (g_cond_f rfl (g_skip (g_then (g_seq (g_ops ?_))))))
        refine g_val rfl rfl rfl (y_fieldAddr (k := 8) (m := 8) rfl (by kernel_rfl) rfl) ?_
        refine g_val rfl rfl rfl (y_ld 0 rfl Try.isAgg28 rfl rfl) ?_
        refine g_val rfl rfl rfl (y_assign rfl) ?_
        refine g_nil (g_then (g_seq (g_seq (g_ops ?_))))
        refine g_val rfl rfl rfl (y_move rfl) ?_
        refine g_val rfl rfl rfl (y_slen rfl Try.underlying9) ?_
        refine g_val rfl rfl rfl (y_lit true (y_ieq rfl rfl) (decide_eq_true (by rw [size_mk, hl1]; rfl))) ?_
        refine g_nil (g_then (g_cond_t rfl (g_ops ?_)))
        refine g_val rfl rfl rfl (y_ldN 0 rfl Try.isAgg30 Try.sizeOf30 rfl rfl rfl) ?_
        refine g_buildSlice (offs := [0]) rfl rfl Try.underlying28 rfl Try.zeroValue30 (by kernel_rfl) (fun b5 => ?_)
        refine g_val rfl rfl rfl (y_assign rfl) ?_
        refine g_rowOf (n := 1) nC [oneM c1] 0 rfl rfl nC_len rfl (by decide) ?_
        simp only [List.set_cons_zero]
        rw [show [oneM c1] = l.map oneM by rw [hl1]; rfl]
        refine g_nil (g_then (g_seq (g_seq (g_ops ?_))))
        refine g_val rfl rfl rfl (y_move rfl) ?_
        refine g_val rfl rfl rfl (y_llen rfl Try.underlying28) ?_
        refine g_val rfl rfl rfl (y_move rfl) ?_
        refine g_val rfl rfl rfl (y_slen rfl Try.underlying9) ?_
        refine g_val rfl rfl rfl (y_lit false (y_ine rfl rfl) (decide_eq_false (by rw [size_mk]; omega))) ?_
        refine g_nil (g_then (g_cond_f rfl (g_skip (g_then (g_seq (g_seq (g_ops ?_)))))))
        refine g_val rfl rfl rfl (y_assign rfl) ?_
        refine g_nil (g_then (g_block ?_))
        refine g_loop (α := {x : Int // 0 ≤ x ∧ x ≤ l.length}) (fun x => [(0, st8 l), (8, (.slice (some ⟨b5, 0, none⟩) 1 1)), (9, .int .i64 x.1)]) (fun x => St w [] [.row 30 9 (.slice (some ⟨b5, 0, none⟩) 1 1) 1 ((l.map oneM).flatMap nC)]) (fun x => (l.length : Int).toNat - x.1.toNat) ⟨0, by omega, by omega⟩ [0, 8, 9] rfl (fun w h => h.sub (.cons_cons _ (.cons _ (.cons _ .slnil)))) ?_
        rintro ⟨i, hi0, hi1⟩
        dsimp only
        refine g_seq (g_seq (g_ops ?_))
        refine g_val rfl rfl rfl (y_move rfl) ?_
        refine g_val rfl rfl rfl (y_move rfl) ?_
        refine g_val rfl rfl rfl (y_slen rfl Try.underlying9) ?_
        refine g_val rfl rfl rfl (y_ilt rfl rfl) ?_
        refine g_nil (g_then ?_)
        first | refine g_casep 41 rfl (fun h3 => ?_) (fun h3 => ?_) | refine g_caseb 41 rfl (fun h3 => ?_) (fun h3 => ?_)
        · skip
          try rw [hsz] at h3
          refine g_cond_t rfl (g_skip (g_then (g_seq (g_block (g_seq ?_)))))
          obtain ⟨cc, hcc, hc8⟩ := st8_get (show i.toNat < l.length by omega)
          have hkk : (l.map oneM)[i.toNat]? = some (oneM cc) := by rw [List.getElem?_map, hcc]; rfl
          refine g_quiet (by kernel_rfl) (by kernel_rfl) ?_
          refine q_val rfl rfl rfl (y_move rfl) ?_
          refine q_val rfl rfl rfl (y_move rfl) ?_
          refine q_val rfl rfl rfl (y_idxAddr (m := (i).toNat * 9 + 0) rfl rfl Try.underlying28 Try.sizeOf30 (by omega) (by omega) (by omega)) ?_
          refine q_val rfl rfl rfl (y_fieldAddr (k := 0) (m := (i).toNat * 9 + 0) rfl (by kernel_rfl) rfl) ?_
          refine q_val rfl rfl rfl (y_ldR (u := .int .i64 1) 0 rfl Try.isAgg24 rfl ((fm_get nC 9 nC_len _ (i).toNat 0 _ (hkk) (by decide)).trans rfl)) ?_
          refine q_val rfl rfl rfl (y_lit false (y_ine rfl rfl) (by decide)) ?_
          refine q_val rfl rfl rfl (y_move rfl) ?_
          refine q_val rfl rfl rfl (y_move rfl) ?_
          refine q_val rfl rfl rfl (y_move rfl) ?_
          refine q_val rfl rfl rfl (y_idxAddr (m := (i).toNat * 9 + 0) rfl rfl Try.underlying28 Try.sizeOf30 (by omega) (by omega) (by omega)) ?_
          refine q_val rfl rfl rfl (y_fieldAddr (k := 1) (m := (i).toNat * 9 + 1) rfl (by kernel_rfl) rfl) ?_
          refine q_val rfl rfl rfl (y_ldRN (k := 4) (vs := s4C (withS s0 cc.toNat 1)) 0 rfl Try.isAgg27 Try.sizeOf27 rfl ((fm_sub nC 9 nC_len _ _ 1 4 _ hkk (by decide)).trans rfl) rfl) ?_
          refine q_val (v := .agg (s4C s0).toArray) rfl rfl rfl (y_build (offs := []) rfl Try.zeroValue27 (by kernel_rfl)) ?_
          refine q_val rfl rfl rfl (y_move rfl) ?_
          refine q_val rfl rfl rfl (y_move rfl) ?_
          refine q_val rfl rfl rfl (y_sidxI rfl rfl Try.underlying9 hi0 hc8) ?_
          refine q_val rfl rfl rfl (y_move rfl) ?_
          refine q_val rfl rfl rfl (y_move rfl) ?_
          refine q_val rfl rfl rfl (y_sidxI rfl rfl Try.underlying9 hi0 hc8) ?_
          refine q_call1 rfl rfl rfl Try.call10 (fun w hS => ref_one cc w) ?_
          refine q_val rfl rfl rfl (y_lit false (y_setNe _ _ rfl rfl) (eq4_self _)) ?_
          refine q_val rfl rfl rfl (y_pick_f rfl rfl) ?_
          refine q_val rfl rfl rfl (y_move rfl) ?_
          refine q_val rfl rfl rfl (y_move rfl) ?_
          refine q_val rfl rfl rfl (y_move rfl) ?_
          refine q_val rfl rfl rfl (y_idxAddr (m := (i).toNat * 9 + 0) rfl rfl Try.underlying28 Try.sizeOf30 (by omega) (by omega) (by omega)) ?_
          refine q_val rfl rfl rfl (y_fieldAddr (k := 8) (m := (i).toNat * 9 + 8) rfl (by kernel_rfl) rfl) ?_
          refine q_val rfl rfl rfl (y_ldR (u := nilS) 0 rfl Try.isAgg28 rfl ((fm_get nC 9 nC_len _ (i).toNat 8 _ (hkk) (by decide)).trans rfl)) ?_
          refine q_val rfl rfl rfl (y_llen rfl Try.underlying28) ?_
          refine q_val rfl rfl rfl (y_lit false (y_ine rfl rfl) (decide_eq_false (by decide))) ?_
          refine q_val rfl rfl rfl (y_pick_f rfl rfl) ?_
          refine q_nil (g_then (g_cond_f rfl (g_skip (g_in_normal (g_then (g_ops ?_))))))
          refine g_val rfl rfl rfl (y_move rfl) ?_
          refine g_val rfl rfl rfl (by first | exact y_addi rfl rfl (by first | omega | (simp only [size_mk, ByteArray.size_append, ByteArray.size_extract]; omega)) | exact y_iadd rfl rfl) ?_
          refine g_val rfl rfl rfl (y_assign rfl) ?_
          refine g_nil ?_
          exact g_again ⟨i + 1, by omega, by omega⟩ [0, 8, 9] (by dsimp only; omega) rfl (fun w h => h.sub (.cons_cons _ .slnil))
        · skip
          try rw [hsz] at h3
          refine g_cond_f rfl (g_exit (g_then_exit (g_then_exit (g_in_exit (g_then (g_seq (g_ops ?_)))))))
          refine g_call1 rfl rfl rfl Try.call8 (fun w hS => alive_any w) ?_
          refine g_val rfl rfl rfl (y_assign rfl) ?_
          refine g_nil (g_then (g_ret ?_))
          refine g_end1 Try.results3 rfl ?_
          exact fun w hS => ⟨rfl, (hS.sub (List.nil_sublist _)).below⟩
      · skip
        have hml : (l.map oneM).length = l.length := List.length_map ..
        refine g_kidsP 0 rfl (by rw [hml]; omega) (fun gv cv hv => ?_)
        cases hv
        refine g_val rfl rfl rfl (y_move rfl) ?_
        refine g_val (v := .agg (nC (.mk 2 s0 0 0 0 (.slice (some ⟨gv, 0, none⟩) (l.map oneM).length cv) (l.map oneM))).toArray) rfl rfl rfl (y_extract rfl rfl) ?_
        refine g_val (v := .int .i64 0) rfl rfl rfl (y_extract rfl rfl) ?_
        refine g_alloc rfl rfl Try.zeroValue30 rfl (fun b6 => ?_)
        refine g_stN 0 rfl rfl rfl (by kernel_rfl) rfl rfl rfl (nC_len _) ?_
        simp only [List.set_cons_zero]
        refine g_val rfl rfl rfl (y_assign rfl) ?_
        refine g_nil (g_then (g_seq (g_seq (g_ops ?_))))
        refine g_val rfl rfl rfl (y_move rfl) ?_
        refine g_val rfl rfl rfl (y_lit false (y_ine rfl rfl) (by decide)) ?_
        refine g_nil (g_then (g_cond_f rfl (g_skip (g_then (g_seq (g_ops ?_))))))
        refine g_val rfl rfl rfl (y_fieldAddr (k := 8) (m := 8) rfl (by kernel_rfl) rfl) ?_
        refine g_val rfl rfl rfl (y_ld 0 rfl Try.isAgg28 rfl rfl) ?_
        refine g_val rfl rfl rfl (y_assign rfl) ?_
        refine g_kidsRow 1 rfl ?_
        simp only [List.set_cons_zero, List.set_cons_succ]
        refine g_nil (g_then (g_seq (g_seq (g_ops ?_))))
        refine g_val rfl rfl rfl (y_move rfl) ?_
        refine g_val rfl rfl rfl (y_slen rfl Try.underlying9) ?_
        refine g_val rfl rfl rfl (y_lit false (y_ieq rfl rfl) (decide_eq_false (by rw [size_mk]; omega))) ?_
        refine g_nil (g_then (g_cond_f rfl (g_seq (g_ops ?_))))
        refine g_val rfl rfl rfl (y_fieldAddr (k := 0) (m := 0) rfl (by kernel_rfl) rfl) ?_
        refine g_val rfl rfl rfl (y_ld 0 rfl Try.isAgg24 rfl rfl) ?_
        refine g_val rfl rfl rfl (y_lit false (y_ine rfl rfl) (decide_eq_false (by decide))) ?_
        refine g_nil (g_then (g_cond_f rfl (g_skip (g_then (g_seq (g_seq (g_ops ?_)))))))
        refine g_val rfl rfl rfl (y_move rfl) ?_
        refine g_val rfl rfl rfl (y_llen rfl Try.underlying28) ?_
        refine g_val rfl rfl rfl (y_move rfl) ?_
        refine g_val rfl rfl rfl (y_slen rfl Try.underlying9) ?_
        refine g_val rfl rfl rfl (y_lit false (y_ine rfl rfl) (decide_eq_false (by rw [size_mk]; omega))) ?_
        refine g_nil (g_then (g_cond_f rfl (g_skip (g_then (g_seq (g_seq (g_ops ?_)))))))
        refine g_val rfl rfl rfl (y_assign rfl) ?_
        refine g_nil (g_then (g_block ?_))
        refine g_loop (α := {x : Int // 0 ≤ x ∧ x ≤ l.length}) (fun x => [(0, st8 l), (8, (.slice (some ⟨gv, 0, none⟩) (l.map oneM).length cv)), (9, .int .i64 x.1)]) (fun x => St w [] [.row 30 9 (.slice (some ⟨gv, 0, none⟩) (l.map oneM).length cv) (l.map oneM).length ((l.map oneM).flatMap nC)]) (fun x => (l.length : Int).toNat - x.1.toNat) ⟨0, by omega, by omega⟩ [0, 8, 9] rfl (fun w h => h.sub (.cons _ (.cons_cons _ .slnil))) ?_
        rintro ⟨i, hi0, hi1⟩
        dsimp only
        refine g_seq (g_seq (g_ops ?_))
        refine g_val rfl rfl rfl (y_move rfl) ?_
        refine g_val rfl rfl rfl (y_move rfl) ?_
        refine g_val rfl rfl rfl (y_slen rfl Try.underlying9) ?_
        refine g_val rfl rfl rfl (y_ilt rfl rfl) ?_
        refine g_nil (g_then ?_)
        first | refine g_casep 41 rfl (fun h4 => ?_) (fun h4 => ?_) | refine g_caseb 41 rfl (fun h4 => ?_) (fun h4 => ?_)
        · skip
          try rw [hsz] at h4
          refine g_cond_t rfl (g_skip (g_then (g_seq (g_block (g_seq ?_)))))
          obtain ⟨cc, hcc, hc8⟩ := st8_get (show i.toNat < l.length by omega)
          have hkk : (l.map oneM)[i.toNat]? = some (oneM cc) := by rw [List.getElem?_map, hcc]; rfl
          refine g_quiet (by kernel_rfl) (by kernel_rfl) ?_
          refine q_val rfl rfl rfl (y_move rfl) ?_
          refine q_val rfl rfl rfl (y_move rfl) ?_
          refine q_val rfl rfl rfl (y_idxAddr (m := (i).toNat * 9 + 0) rfl rfl Try.underlying28 Try.sizeOf30 (by omega) (by omega) (by omega)) ?_
          refine q_val rfl rfl rfl (y_fieldAddr (k := 0) (m := (i).toNat * 9 + 0) rfl (by kernel_rfl) rfl) ?_
          refine q_val rfl rfl rfl (y_ldR (u := .int .i64 1) 0 rfl Try.isAgg24 rfl ((fm_get nC 9 nC_len _ (i).toNat 0 _ (hkk) (by decide)).trans rfl)) ?_
          refine q_val rfl rfl rfl (y_lit false (y_ine rfl rfl) (by decide)) ?_
          refine q_val rfl rfl rfl (y_move rfl) ?_
          refine q_val rfl rfl rfl (y_move rfl) ?_
          refine q_val rfl rfl rfl (y_move rfl) ?_
          refine q_val rfl rfl rfl (y_idxAddr (m := (i).toNat * 9 + 0) rfl rfl Try.underlying28 Try.sizeOf30 (by omega) (by omega) (by omega)) ?_
          refine q_val rfl rfl rfl (y_fieldAddr (k := 1) (m := (i).toNat * 9 + 1) rfl (by kernel_rfl) rfl) ?_
          refine q_val rfl rfl rfl (y_ldRN (k := 4) (vs := s4C (withS s0 cc.toNat 1)) 0 rfl Try.isAgg27 Try.sizeOf27 rfl ((fm_sub nC 9 nC_len _ _ 1 4 _ hkk (by decide)).trans rfl) rfl) ?_
          refine q_val (v := .agg (s4C s0).toArray) rfl rfl rfl (y_build (offs := []) rfl Try.zeroValue27 (by kernel_rfl)) ?_
          refine q_val rfl rfl rfl (y_move rfl) ?_
          refine q_val rfl rfl rfl (y_move rfl) ?_
          refine q_val rfl rfl rfl (y_sidxI rfl rfl Try.underlying9 hi0 hc8) ?_
          refine q_val rfl rfl rfl (y_move rfl) ?_
          refine q_val rfl rfl rfl (y_move rfl) ?_
          refine q_val rfl rfl rfl (y_sidxI rfl rfl Try.underlying9 hi0 hc8) ?_
          refine q_call1 rfl rfl rfl Try.call10 (fun w hS => ref_one cc w) ?_
          refine q_val rfl rfl rfl (y_lit false (y_setNe _ _ rfl rfl) (eq4_self _)) ?_
          refine q_val rfl rfl rfl (y_pick_f rfl rfl) ?_
          refine q_val rfl rfl rfl (y_move rfl) ?_
          refine q_val rfl rfl rfl (y_move rfl) ?_
          refine q_val rfl rfl rfl (y_move rfl) ?_
          refine q_val rfl rfl rfl (y_idxAddr (m := (i).toNat * 9 + 0) rfl rfl Try.underlying28 Try.sizeOf30 (by omega) (by omega) (by omega)) ?_
          refine q_val rfl rfl rfl (y_fieldAddr (k := 8) (m := (i).toNat * 9 + 8) rfl (by kernel_rfl) rfl) ?_
          refine q_val rfl rfl rfl (y_ldR (u := nilS) 0 rfl Try.isAgg28 rfl ((fm_get nC 9 nC_len _ (i).toNat 8 _ (hkk) (by decide)).trans rfl)) ?_
          refine q_val rfl rfl rfl (y_llen rfl Try.underlying28) ?_
          refine q_val rfl rfl rfl (y_lit false (y_ine rfl rfl) (decide_eq_false (by decide))) ?_
          refine q_val rfl rfl rfl (y_pick_f rfl rfl) ?_
          refine q_nil (g_then (g_cond_f rfl (g_skip (g_in_normal (g_then (g_ops ?_))))))
          refine g_val rfl rfl rfl (y_move rfl) ?_
          refine g_val rfl rfl rfl (by first | exact y_addi rfl rfl (by first | omega | (simp only [size_mk, ByteArray.size_append, ByteArray.size_extract]; omega)) | exact y_iadd rfl rfl) ?_
          refine g_val rfl rfl rfl (y_assign rfl) ?_
          refine g_nil ?_
          exact g_again ⟨i + 1, by omega, by omega⟩ [0, 8, 9] (by dsimp only; omega) rfl (fun w h => h.sub (.cons_cons _ .slnil))
        · skip
          try rw [hsz] at h4
          refine g_cond_f rfl (g_exit (g_then_exit (g_then_exit (g_in_exit (g_then (g_seq (g_ops ?_)))))))
          refine g_call1 rfl rfl rfl Try.call8 (fun w hS => alive_any w) ?_
          refine g_val rfl rfl rfl (y_assign rfl) ?_
          refine g_nil (g_then (g_ret ?_))
          refine g_end1 Try.results3 rfl ?_
          exact fun w hS => ⟨rfl, (hS.sub (List.nil_sublist _)).below⟩

theorem pplain_law (t : ByteArray) (x : Bool) (ht : t.size ≤ maxLen) (w : World) : Calls Try.prog 3 #[.string t, .bool x] w fun e w' => e = .returned (.bool true) ∧ Below w.heap.size w w' := by
  have h := pplain_any t.data.toList x (by rw [Array.length_toList]; exact ht) w
  unfold st8 at h
  rw [Array.toArray_toList] at h
  exact h
end Go.Proofs.Ytpoelkfncpjmfaa
