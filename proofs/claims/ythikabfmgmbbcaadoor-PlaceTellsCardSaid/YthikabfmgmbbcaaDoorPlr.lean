/- There and back; all places in one line. -/
import Derived.Test.YthikabfmgmbbcaaDoorPlw
namespace Go.Proofs.YthikabfmgmbbcaaDoor
open Go Go.RowKit


/-- A datum's rank: below all, a number (its word's value, in units of the least place), above all. -/
def rank : Ieee.Datum → Int × Int
  | .number s m i => (0, Ieee.signed s m (i + 1074).toNat)
  | .infinity s => (if s then -1 else 1, 0)
  | .nan _ _ => (0, 0)
theorem signed_lift (s : Bool) (m a b : Nat) : Ieee.signed s m (a + b) = Ieee.signed s m a * ((2 ^ b : Nat) : Int) := by
  unfold Ieee.signed
  cases s
  · simp only [Bool.false_eq_true, if_false, Nat.shiftLeft_eq, Nat.pow_add]
    rw [← Int.natCast_mul, Nat.mul_assoc]
  · simp only [if_true, Nat.shiftLeft_eq, Nat.pow_add]
    rw [← Int.neg_mul_eq_neg_mul, ← Int.natCast_mul, Nat.mul_assoc]
theorem cmp_mul (x y : Int) (k : Int) (hk : 0 < k) : compare (x * k) (y * k) = compare x y := by
  rcases Int.lt_trichotomy x y with q | q | q
  · rw [cmp_lt q, cmp_lt (Int.mul_lt_mul_of_pos_right q hk)]
  · rw [q, cmp_eq, cmp_eq]
  · rw [cmp_gt q, cmp_gt (Int.mul_lt_mul_of_pos_right q hk)]
/-- The order of two data, none of which is a NaN, both of whose places are the format's. -/
theorem order_num (s t : Bool) (m n : Nat) (i j : Int) (hi : -1074 ≤ i) (hj : -1074 ≤ j) : Ieee.Datum.order (.number s m i) (.number t n j) = some (compare (Ieee.signed s m (i + 1074).toNat) (Ieee.signed t n (j + 1074).toNat)) := by
  unfold Ieee.Datum.order
  dsimp only
  obtain ⟨k, hk, h1, h2⟩ : ∃ k : Nat, min i j = (k : Int) - 1074 ∧ (k : Int) - 1074 ≤ i ∧ (k : Int) - 1074 ≤ j := ⟨(min i j + 1074).toNat, by omega, by omega, by omega⟩
  rw [hk]
  have e1 : (i + 1074).toNat = (i - ((k : Int) - 1074)).toNat + k := by omega
  have e2 : (j + 1074).toNat = (j - ((k : Int) - 1074)).toNat + k := by omega
  rw [e1, e2, signed_lift, signed_lift, cmp_mul _ _ _ (by have := Nat.two_pow_pos k; omega)]
def isNum : Ieee.Datum → Prop
  | .number _ _ i => -1074 ≤ i
  | .infinity _ => True
  | .nan _ _ => False
def rlt (p q : Int × Int) : Prop := p.1 < q.1 ∨ (p.1 = q.1 ∧ p.2 < q.2)
theorem order_rank (d e : Ieee.Datum) (hd : isNum d) (he : isNum e) : (rlt (rank d) (rank e) ∧ d.order e = some .lt) ∨ (rank d = rank e ∧ d.order e = some .eq) ∨ (rlt (rank e) (rank d) ∧ d.order e = some .gt) := by
  unfold rlt
  match d, e, hd, he with
  | .number s m i, .number t n j, hd, he =>
    rw [order_num s t m n i j hd he]
    simp only [rank]
    rcases Int.lt_trichotomy (Ieee.signed s m (i + 1074).toNat) (Ieee.signed t n (j + 1074).toNat) with q | q | q
    · exact .inl ⟨.inr ⟨trivial, q⟩, by rw [cmp_lt q]⟩
    · exact .inr (.inl ⟨by rw [q], by rw [q, cmp_eq]⟩)
    · exact .inr (.inr ⟨.inr ⟨trivial, q⟩, by rw [cmp_gt q]⟩)
  | .infinity s, .infinity t, _, _ => cases s <;> cases t <;> simp [rank, Ieee.Datum.order] <;> decide
  | .infinity s, .number t n j, _, _ => cases s <;> simp [rank, Ieee.Datum.order]
  | .number t n j, .infinity s, _, _ => cases s <;> simp [rank, Ieee.Datum.order]
theorem read_num (u : Nat) : isNum (Ieee.double.read u) ∨ ∃ s f, Ieee.double.read u = .nan s f := by
  unfold Ieee.Format.read
  have e1 : Ieee.double.leastPlace = -1074 := by decide
  dsimp only
  rw [e1]
  split
  · exact .inl (by unfold isNum; dsimp only; omega)
  · split
    · exact .inl (by unfold isNum; dsimp only; omega)
    · split
      · exact .inl trivial
      · exact .inr ⟨_, _, rfl⟩
/-- What the order of two words is: by their ranks; a NaN ahead of all. -/
def key (u : Nat) : Int × Int × Int := match Ieee.double.read u with
  | .nan _ _ => (-1, 0, 0)
  | d => (0, (rank d).1, (rank d).2)
def klt (p q : Int × Int × Int) : Prop := p.1 < q.1 ∨ (p.1 = q.1 ∧ (p.2.1 < q.2.1 ∨ (p.2.1 = q.2.1 ∧ p.2.2 < q.2.2)))
theorem key_num (u : Nat) (h : isNum (Ieee.double.read u)) : key u = (0, (rank (Ieee.double.read u)).1, (rank (Ieee.double.read u)).2) := by
  unfold key
  generalize Ieee.double.read u = d at h ⊢
  cases d with
  | number s m i => rfl
  | infinity s => rfl
  | nan s f => exact h.elim
theorem feq_num (u : Nat) (h : isNum (Ieee.double.read u)) : feq u u = true := by
  unfold feq Ieee.Format.order
  rcases order_rank _ _ h h with q | q | q
  · exact absurd q.1 (by unfold rlt; omega)
  · rw [q.2]; rfl
  · exact absurd q.1 (by unfold rlt; omega)
theorem feq_nan (u : Nat) (h : ∃ s f, Ieee.double.read u = .nan s f) : feq u u = false := by
  obtain ⟨s, f, h⟩ := h
  unfold feq Ieee.Format.order
  rw [h]; rfl
theorem ord_key (u v : Nat) : (klt (key u) (key v) ∧ ordI u v = -1) ∨ (key u = key v ∧ ordI u v = 0) ∨ (klt (key v) (key u) ∧ ordI u v = 1) := by
  unfold ordI
  rcases read_num u with hu | hu <;> rcases read_num v with hv | hv
  · rw [feq_num u hu, feq_num v hv, key_num u hu, key_num v hv]
    unfold flt fgt Ieee.Format.order klt
    rcases order_rank _ _ hu hv with q | q | q
    · refine .inl ⟨?_, by rw [q.2]; rfl⟩
      have := q.1; unfold rlt at this; dsimp only; omega
    · refine .inr (.inl ⟨by rw [q.1], by rw [q.2]; rfl⟩)
    · refine .inr (.inr ⟨?_, by rw [q.2]; rfl⟩)
      have := q.1; unfold rlt at this; dsimp only; omega
  · rw [feq_num u hu, feq_nan v hv, key_num u hu]
    obtain ⟨s, f, hv⟩ := hv
    refine .inr (.inr ⟨?_, rfl⟩)
    unfold klt key; rw [hv]; dsimp only; omega
  · rw [feq_nan u hu, feq_num v hv, key_num v hv]
    obtain ⟨s, f, hu⟩ := hu
    refine .inl ⟨?_, rfl⟩
    unfold klt key; rw [hu]; dsimp only; omega
  · rw [feq_nan u hu, feq_nan v hv]
    obtain ⟨s, f, hu⟩ := hu
    obtain ⟨s', f', hv⟩ := hv
    refine .inr (.inl ⟨?_, rfl⟩)
    unfold key; rw [hu, hv]
theorem klt_irr (p q : Int × Int × Int) (h : klt p q) (h2 : klt q p) : False := by unfold klt at h h2; omega
theorem klt_ne (p : Int × Int × Int) (h : klt p p) : False := by unfold klt at h; omega
theorem klt_tr (p q r : Int × Int × Int) (h : klt p q) (h2 : klt q r) : klt p r := by unfold klt at *; omega
theorem ord_anti (u v : Nat) : ordI u v = - ordI v u ∧ -1 ≤ ordI u v ∧ ordI u v ≤ 1 := by
  rcases ord_key u v with ⟨q, e⟩ | ⟨q, e⟩ | ⟨q, e⟩ <;> rcases ord_key v u with ⟨q', e'⟩ | ⟨q', e'⟩ | ⟨q', e'⟩
  · exact (klt_irr _ _ q q').elim
  · rw [q'] at q; exact (klt_ne _ q).elim
  · omega
  · rw [q] at q'; exact (klt_ne _ q').elim
  · omega
  · rw [q] at q'; exact (klt_ne _ q').elim
  · omega
  · rw [q'] at q; exact (klt_ne _ q).elim
  · exact (klt_irr _ _ q q').elim
theorem ord_tr (u v x : Nat) : (0 < ordI u v ∨ 0 < ordI v x ∨ ordI u x ≤ 0) ∧ (0 ≤ ordI u v ∨ 0 < ordI v x ∨ ordI u x < 0) ∧ (0 < ordI u v ∨ 0 ≤ ordI v x ∨ ordI u x < 0) := by
  rcases ord_key u v with ⟨q, e⟩ | ⟨q, e⟩ | ⟨q, e⟩ <;> rcases ord_key v x with ⟨q', e'⟩ | ⟨q', e'⟩ | ⟨q', e'⟩ <;> (try omega) <;> rcases ord_key u x with ⟨q2, e2⟩ | ⟨q2, e2⟩ | ⟨q2, e2⟩ <;> (try omega) <;> exfalso
  · rw [q2] at q; exact klt_irr _ _ q q'
  · exact klt_ne _ (klt_tr _ _ _ (klt_tr _ _ _ q q') q2)
  · rw [q2, ← q'] at q; exact klt_ne _ q
  · rw [q'] at q; exact klt_irr _ _ q q2
  · rw [← q, ← q2] at q'; exact klt_ne _ q'
  · rw [← q] at q'; exact klt_irr _ _ q' q2
  · rw [q, q'] at q2; exact klt_ne _ q2
theorem ord_0 (u v x : Nat) (h : ordI u v = 0) (h2 : ordI v x = 0) : ordI u x = 0 := by
  have a1 := (ord_tr u v x).1
  have a2 := (ord_tr x v u).1
  have b1 := ord_anti u v; have b2 := ord_anti v x; have b3 := ord_anti u x
  omega
theorem lex (x y z x' y' z' : Int) (h1 : x ≤ 0 → y ≤ 0 → z ≤ 0) (h2 : x < 0 → y ≤ 0 → z < 0) (h3 : x ≤ 0 → y < 0 → z < 0) (h0 : x = 0 → y = 0 → z = 0) (k1 : x' ≤ 0 → y' ≤ 0 → z' ≤ 0) (k2 : x' < 0 → y' ≤ 0 → z' < 0) :
    ((if x ≠ 0 then x else x') ≤ 0 → (if y ≠ 0 then y else y') ≤ 0 → (if z ≠ 0 then z else z') ≤ 0) ∧ ((if x ≠ 0 then x else x') < 0 → (if y ≠ 0 then y else y') ≤ 0 → (if z ≠ 0 then z else z') < 0) := by
  by_cases hx : x = 0
  · by_cases hy : y = 0
    · have hz := h0 hx hy
      simp only [hx, hy, hz, ne_eq, not_true_eq_false, if_false]
      exact ⟨k1, k2⟩
    · rw [if_neg (show ¬ x ≠ 0 by omega), if_pos hy]
      refine ⟨fun _ q => ?_, fun _ q => ?_⟩
      · have := h3 (by omega) (by omega); rw [if_pos (by omega)]; omega
      · have := h3 (by omega) (by omega); rw [if_pos (by omega)]; omega
  · rw [if_pos hx]
    refine ⟨fun p q => ?_, fun p q => ?_⟩
    · have hy : y ≤ 0 := by split at q <;> omega
      have := h2 (by omega) hy; rw [if_pos (by omega)]; omega
    · have hy : y ≤ 0 := by split at q <;> omega
      have := h2 (by omega) hy; rw [if_pos (by omega)]; omega
/-- The facts of the line. -/
theorem cmp_line (a b c d e f : Nat) : cmpI a b c d = - cmpI c d a b ∧ -1 ≤ cmpI a b c d ∧ cmpI a b c d ≤ 1 ∧ (0 < cmpI a b c d ∨ 0 < cmpI c d e f ∨ cmpI a b e f ≤ 0) ∧ (0 ≤ cmpI a b c d ∨ 0 < cmpI c d e f ∨ cmpI a b e f < 0) := by
  have h1 := ord_anti a c; have h2 := ord_anti b d
  have h3 := ord_tr a c e; have h4 := ord_tr b d f
  have hl := lex (ordI a c) (ordI c e) (ordI a e) (ordI b d) (ordI d f) (ordI b f) (fun p q => by omega) (fun p q => by omega) (fun p q => by omega) (ord_0 a c e) (fun p q => by omega) (fun p q => by omega)
  refine ⟨?_, ?_, ?_, ?_, ?_⟩
  · unfold cmpI; split <;> split <;> omega
  · unfold cmpI; split <;> omega
  · unfold cmpI; split <;> omega
  · have := hl.1; unfold cmpI; clear hl h1 h2 h3 h4; omega
  · have := hl.2; unfold cmpI; clear hl h1 h2 h3 h4; omega


theorem ord_fl {a b : Int} (ha : 0 ≤ a ∧ a < 9007199254740992) (hb : 0 ≤ b ∧ b < 9007199254740992) : ordI (fl a) (fl b) = if a < b then -1 else if b < a then 1 else 0 := by
  unfold ordI
  rw [feq_fl ha ha, feq_fl hb hb, flt_fl ha hb, fgt_fl ha hb]
  simp
theorem plc_lt (s : ByteArray) (n : Int) (h0 : 0 ≤ n) : ∀ d : Nat, n + 1 + d ≤ s.size → (plc (pre s n)).1 < (plc (pre s (n + 1 + d))).1 ∨ ((plc (pre s n)).1 = (plc (pre s (n + 1 + d))).1 ∧ (plc (pre s n)).2 < (plc (pre s (n + 1 + d))).2) := by
  intro d
  induction d with
  | zero =>
    intro h
    rw [show n + 1 + ((0 : Nat) : Int) = n + 1 by omega]
    unfold plc
    by_cases hc : bt s n = 10
    · rw [lc_10 s n h0 (by omega) hc]; dsimp only; omega
    · rw [lc_n s n h0 (by omega) hc]; dsimp only; omega
  | succ d ih =>
    intro h
    have h1 := ih (by omega)
    rw [show n + 1 + ((d + 1 : Nat) : Int) = (n + 1 + d) + 1 by omega]
    unfold plc at h1 ⊢
    dsimp only at h1
    by_cases hc : bt s (n + 1 + d) = 10
    · rw [lc_10 s (n + 1 + d) (by omega) (by omega) hc]; dsimp only; omega
    · rw [lc_n s (n + 1 + d) (by omega) (by omega) hc]; dsimp only; omega
theorem at_lt (s : ByteArray) (n m : Int) (h0 : 0 ≤ n) (h : n < m) (h1 : m ≤ s.size) : (atR s n).1 < (atR s m).1 ∨ ((atR s n).1 = (atR s m).1 ∧ (atR s n).2.1 < (atR s m).2.1) := by
  have := plc_lt s n h0 (m - n - 1).toNat (by omega)
  rw [show n + 1 + ((m - n - 1).toNat : Int) = m by omega] at this
  rw [at_in s n ⟨h0, by omega⟩, at_in s m ⟨by omega, h1⟩]
  exact this
theorem at_fact (s : ByteArray) (n : Int) : (0 ≤ n ∧ n ≤ s.size ∧ (atR s n).2.2 = 0 ∧ 1 ≤ (atR s n).1 ∧ 1 ≤ (atR s n).2.1) ∨ (¬ (0 ≤ n ∧ n ≤ s.size) ∧ (atR s n).2.2 = 11 ∧ (atR s n).1 = 0 ∧ (atR s n).2.1 = 0) := by
  by_cases h : 0 ≤ n ∧ n ≤ s.size
  · left
    have := lc_bd (pre s n)
    rw [at_in s n h]
    refine ⟨h.1, h.2, rfl, ?_, ?_⟩ <;> (unfold plc; dsimp only; omega)
  · right; rw [at_out s n h]; exact ⟨h, rfl, rfl, rfl⟩
theorem cmp_at (s : ByteArray) (n m : Int) (hs : s.size ≤ 1073741824) (hn : 0 ≤ n ∧ n ≤ s.size) (hm : 0 ≤ m ∧ m ≤ s.size) : cmpI (fl (atR s n).1) (fl (atR s n).2.1) (fl (atR s m).1) (fl (atR s m).2.1) = if n < m then -1 else if m < n then 1 else 0 := by
  have h1 := at_bd s n hs
  have h2 := at_bd s m hs
  unfold cmpI
  rw [ord_fl (by omega) (by omega), ord_fl (by omega) (by omega)]
  rcases Int.lt_trichotomy n m with q | q | q
  · have := at_lt s n m hn.1 q hm.2
    rw [if_pos q]; grind
  · subst q; simp
  · have := at_lt s m n hm.1 q hn.2
    rw [if_neg (show ¬ n < m by omega), if_pos q]; grind
theorem idx_at (s : ByteArray) (n : Int) (hs : s.size ≤ 1073741824) (hn : 0 ≤ n ∧ n ≤ s.size) : idxR s (fl (atR s n).1) (fl (atR s n).2.1) = (n, 0) := by
  have h1 := at_bd s n hs
  refine idx_hit s _ _ n hn.1 hn.2 ?_ fun k h0 hk => ?_
  · unfold hit; rw [feq_fl (by omega) (by omega), feq_fl (by omega) (by omega)]; simp
  · have h2 := at_bd s k hs
    have := at_lt s k n h0 hk hn.2
    unfold hit; rw [feq_fl (by omega) (by omega), feq_fl (by omega) (by omega)]
    simp; omega

theorem back_law (s : ByteArray) (n m : Int) (w : World) :
    Calls Tryd.prog 8 #[.string s, .agg #[.int .i64 n, .int .i64 m]] w fun e w' => e = .returned (.bool true) ∧ Below w.heap.size w w' := by
  refine fn_intro Tryd.func8 rfl Tryd.ntmps8 rfl rfl ?_
  refine g_seq (g_ops ?_)
  refine g_box rfl rfl rfl rfl (fun b1 => ?_)
  refine g_val rfl rfl rfl (y_assign rfl) ?_
  refine g_nil (g_then (g_seq (g_seq (g_ops ?_))))
  refine g_val rfl rfl rfl (y_move rfl) ?_
  refine g_val rfl rfl rfl (y_slen rfl Tryd.underlying9) ?_
  refine g_val rfl rfl rfl (y_igt rfl rfl) ?_
  refine g_nil (g_then ?_)
  first | refine g_casep 15 rfl (fun h1 => ?_) (fun h1 => ?_) | refine g_caseb 15 rfl (fun h1 => ?_) (fun h1 => ?_)
  · skip
    refine g_cond_t rfl (g_seq (g_ops ?_))
    refine g_call1 rfl rfl rfl Tryd.call9 (fun w hS => alive_any w) ?_
    refine g_val rfl rfl rfl (y_assign rfl) ?_
    refine g_nil (g_then (g_ret (g_then_ret ?_)))
    refine g_end1 Tryd.results8 rfl ?_
    exact fun w hS => ⟨ret_bool (by first | (simp; omega) | (simp_all; done) | grind), hS.below⟩
  · skip
    refine g_cond_f rfl (g_skip (g_then (g_seq (g_ops ?_))))
    refine g_val rfl rfl rfl (y_move rfl) ?_
    refine g_val rfl rfl rfl (y_idxArr (m := 0) rfl rfl Tryd.underlying41 Tryd.sizeOf3 (by decide) (by decide) rfl) ?_
    refine g_val rfl rfl rfl (y_ld 0 rfl Tryd.isAgg3 rfl rfl) ?_
    have hf_n := at_fact s n
    have hb_n := at_bd s n (by omega)
    refine g_call1 rfl rfl rfl Tryd.call10 (fun w hS => at_any s n _ (by omega) rfl w) ?_
    refine g_val rfl rfl rfl (y_move rfl) ?_
    refine g_val rfl rfl rfl (y_extract rfl rfl) ?_
    refine g_val rfl rfl rfl (y_extract rfl rfl) ?_
    refine g_val rfl rfl rfl (y_assign rfl) ?_
    refine g_val rfl rfl rfl (y_assign rfl) ?_
    refine g_nil (g_then (g_seq (g_ops ?_)))
    refine g_val rfl rfl rfl (y_move rfl) ?_
    refine g_val rfl rfl rfl (y_idxArr (m := 1) rfl rfl Tryd.underlying41 Tryd.sizeOf3 (by decide) (by decide) rfl) ?_
    refine g_val rfl rfl rfl (y_ld 0 rfl Tryd.isAgg3 rfl rfl) ?_
    have hf_m := at_fact s m
    have hb_m := at_bd s m (by omega)
    refine g_call1 rfl rfl rfl Tryd.call10 (fun w hS => at_any s m _ (by omega) rfl w) ?_
    refine g_val rfl rfl rfl (y_move rfl) ?_
    refine g_val rfl rfl rfl (y_extract rfl rfl) ?_
    refine g_val rfl rfl rfl (y_extract rfl rfl) ?_
    refine g_val rfl rfl rfl (y_assign rfl) ?_
    refine g_val rfl rfl rfl (y_assign rfl) ?_
    refine g_nil (g_then (g_seq (g_ops ?_)))
    refine g_val rfl rfl rfl (y_idxArr (m := 0) rfl rfl Tryd.underlying41 Tryd.sizeOf3 (by decide) (by decide) rfl) ?_
    refine g_val rfl rfl rfl (y_ld 0 rfl Tryd.isAgg3 rfl rfl) ?_
    refine g_val rfl rfl rfl (y_ige rfl rfl) ?_
    refine g_val rfl rfl rfl (y_move rfl) ?_
    first | refine g_casep 34 rfl (fun h2 => ?_) (fun h2 => ?_) | refine g_caseb 34 rfl (fun h2 => ?_) (fun h2 => ?_)
    · skip
      refine g_val rfl rfl rfl (y_idxArr (m := 0) rfl rfl Tryd.underlying41 Tryd.sizeOf3 (by decide) (by decide) rfl) ?_
      refine g_val rfl rfl rfl (y_ld 0 rfl Tryd.isAgg3 rfl rfl) ?_
      refine g_val rfl rfl rfl (y_move rfl) ?_
      refine g_val rfl rfl rfl (y_slen rfl Tryd.underlying9) ?_
      refine g_val rfl rfl rfl (y_ile rfl rfl) ?_
      refine g_val rfl rfl rfl (y_pick_t rfl rfl) ?_
      refine g_val rfl rfl rfl (y_assign rfl) ?_
      refine g_nil (g_then (g_seq (g_seq (g_ops ?_))))
      refine g_val rfl rfl rfl (y_move rfl) ?_
      refine g_val rfl rfl rfl ((by first | exact y_notp rfl | exact y_not rfl)) ?_
      refine g_val rfl rfl rfl (y_move rfl) ?_
      first | refine g_casep 43 rfl (fun h3 => ?_) (fun h3 => ?_) | refine g_caseb 43 rfl (fun h3 => ?_) (fun h3 => ?_)
      · skip
        refine g_not rfl rfl rfl ?_
        refine g_not rfl rfl rfl ?_
        refine g_val rfl rfl rfl (y_pick_t rfl rfl) ?_
        refine g_nil (g_then (g_cond_t rfl (g_seq (g_ops ?_))))
        refine g_call1 rfl rfl rfl Tryd.call9 (fun w hS => alive_any w) ?_
        refine g_val rfl rfl rfl (y_move rfl) ?_
        first | refine g_casep 48 rfl (fun h4 => ?_) (fun h4 => ?_) | refine g_caseb 48 rfl (fun h4 => ?_) (fun h4 => ?_)
        · skip
          refine g_val rfl rfl rfl (y_move rfl) ?_
          refine g_val rfl rfl rfl ((by first | exact y_notp rfl | exact y_not rfl)) ?_
          refine g_val rfl rfl rfl (y_pick_t rfl rfl) ?_
          refine g_val rfl rfl rfl (y_move rfl) ?_
          first | refine g_casep 52 rfl (fun h5 => ?_) (fun h5 => ?_) | refine g_caseb 52 rfl (fun h5 => ?_) (fun h5 => ?_)
          · skip
            refine g_val rfl rfl rfl (y_move rfl) ?_
            refine g_val rfl rfl rfl (y_ieq rfl rfl) ?_
            refine g_val rfl rfl rfl (y_pick_t rfl rfl) ?_
            refine g_val rfl rfl rfl (y_move rfl) ?_
            first | refine g_casep 56 rfl (fun h6 => ?_) (fun h6 => ?_) | refine g_caseb 56 rfl (fun h6 => ?_) (fun h6 => ?_)
            · skip
              refine g_val rfl rfl rfl (y_move rfl) ?_
              refine g_val rfl rfl rfl ((by first | exact y_ceqI rfl cx_0 (by omega) (by omega) (by omega) (by omega) | exact y_ceq rfl rfl)) ?_
              refine g_val rfl rfl rfl (y_pick_t rfl rfl) ?_
              refine g_val rfl rfl rfl (y_assign rfl) ?_
              refine g_nil (g_then (g_ret (g_then_ret ?_)))
              refine g_end1 Tryd.results8 rfl ?_
              exact fun w hS => ⟨ret_bool (by first | (simp; omega) | (simp_all; done) | grind), hS.below⟩
            · skip
              refine g_not rfl rfl rfl ?_
              refine g_not rfl rfl rfl ?_
              refine g_val rfl rfl rfl (y_pick_f rfl rfl) ?_
              refine g_val rfl rfl rfl (y_assign rfl) ?_
              refine g_nil (g_then (g_ret (g_then_ret ?_)))
              refine g_end1 Tryd.results8 rfl ?_
              exfalso
              first | omega | (simp_all; done) | grind
          · skip
            refine g_not rfl rfl rfl ?_
            refine g_not rfl rfl rfl ?_
            refine g_val rfl rfl rfl (y_pick_f rfl rfl) ?_
            refine g_val rfl rfl rfl (y_move rfl) ?_
            refine g_not rfl rfl rfl ?_
            refine g_not rfl rfl rfl ?_
            refine g_val rfl rfl rfl (y_pick_f rfl rfl) ?_
            refine g_val rfl rfl rfl (y_assign rfl) ?_
            refine g_nil (g_then (g_ret (g_then_ret ?_)))
            refine g_end1 Tryd.results8 rfl ?_
            exfalso
            first | omega | (simp_all; done) | grind
        · skip
          refine g_not rfl rfl rfl ?_
          refine g_not rfl rfl rfl ?_
          refine g_val rfl rfl rfl (y_pick_f rfl rfl) ?_
          refine g_val rfl rfl rfl (y_move rfl) ?_
          refine g_not rfl rfl rfl ?_
          refine g_not rfl rfl rfl ?_
          refine g_val rfl rfl rfl (y_pick_f rfl rfl) ?_
          refine g_val rfl rfl rfl (y_move rfl) ?_
          refine g_not rfl rfl rfl ?_
          refine g_not rfl rfl rfl ?_
          refine g_val rfl rfl rfl (y_pick_f rfl rfl) ?_
          refine g_val rfl rfl rfl (y_assign rfl) ?_
          refine g_nil (g_then (g_ret (g_then_ret ?_)))
          refine g_end1 Tryd.results8 rfl ?_
          exfalso
          first | omega | (simp_all; done) | grind
      · skip
        refine g_val rfl rfl rfl (y_move rfl) ?_
        refine g_val rfl rfl rfl (y_ine rfl rfl) ?_
        refine g_val rfl rfl rfl (y_pick_f rfl rfl) ?_
        refine g_nil (g_then ?_)
        first | refine g_casep 46 rfl (fun h7 => ?_) (fun h7 => ?_) | refine g_caseb 46 rfl (fun h7 => ?_) (fun h7 => ?_)
        · skip
          refine g_cond_t rfl (g_seq (g_ops ?_))
          refine g_call1 rfl rfl rfl Tryd.call9 (fun w hS => alive_any w) ?_
          refine g_val rfl rfl rfl (y_move rfl) ?_
          first | refine g_casep 48 rfl (fun h8 => ?_) (fun h8 => ?_) | refine g_caseb 48 rfl (fun h8 => ?_) (fun h8 => ?_)
          · skip
            refine g_val rfl rfl rfl (y_move rfl) ?_
            refine g_val rfl rfl rfl ((by first | exact y_notp rfl | exact y_not rfl)) ?_
            refine g_val rfl rfl rfl (y_pick_t rfl rfl) ?_
            refine g_val rfl rfl rfl (y_move rfl) ?_
            first | refine g_casep 52 rfl (fun h9 => ?_) (fun h9 => ?_) | refine g_caseb 52 rfl (fun h9 => ?_) (fun h9 => ?_)
            · skip
              refine g_val rfl rfl rfl (y_move rfl) ?_
              refine g_val rfl rfl rfl (y_ieq rfl rfl) ?_
              refine g_val rfl rfl rfl (y_pick_t rfl rfl) ?_
              refine g_val rfl rfl rfl (y_move rfl) ?_
              first | refine g_casep 56 rfl (fun h10 => ?_) (fun h10 => ?_) | refine g_caseb 56 rfl (fun h10 => ?_) (fun h10 => ?_)
              · skip
                refine g_val rfl rfl rfl (y_move rfl) ?_
                refine g_val rfl rfl rfl ((by first | exact y_ceqI rfl cx_0 (by omega) (by omega) (by omega) (by omega) | exact y_ceq rfl rfl)) ?_
                refine g_val rfl rfl rfl (y_pick_t rfl rfl) ?_
                refine g_val rfl rfl rfl (y_assign rfl) ?_
                refine g_nil (g_then (g_ret (g_then_ret ?_)))
                refine g_end1 Tryd.results8 rfl ?_
                exact fun w hS => ⟨ret_bool (by first | (simp; omega) | (simp_all; done) | grind), hS.below⟩
              · skip
                refine g_not rfl rfl rfl ?_
                refine g_not rfl rfl rfl ?_
                refine g_val rfl rfl rfl (y_pick_f rfl rfl) ?_
                refine g_val rfl rfl rfl (y_assign rfl) ?_
                refine g_nil (g_then (g_ret (g_then_ret ?_)))
                refine g_end1 Tryd.results8 rfl ?_
                exfalso
                first | omega | (simp_all; done) | grind
            · skip
              refine g_not rfl rfl rfl ?_
              refine g_not rfl rfl rfl ?_
              refine g_val rfl rfl rfl (y_pick_f rfl rfl) ?_
              refine g_val rfl rfl rfl (y_move rfl) ?_
              refine g_not rfl rfl rfl ?_
              refine g_not rfl rfl rfl ?_
              refine g_val rfl rfl rfl (y_pick_f rfl rfl) ?_
              refine g_val rfl rfl rfl (y_assign rfl) ?_
              refine g_nil (g_then (g_ret (g_then_ret ?_)))
              refine g_end1 Tryd.results8 rfl ?_
              exfalso
              first | omega | (simp_all; done) | grind
          · skip
            refine g_not rfl rfl rfl ?_
            refine g_not rfl rfl rfl ?_
            refine g_val rfl rfl rfl (y_pick_f rfl rfl) ?_
            refine g_val rfl rfl rfl (y_move rfl) ?_
            refine g_not rfl rfl rfl ?_
            refine g_not rfl rfl rfl ?_
            refine g_val rfl rfl rfl (y_pick_f rfl rfl) ?_
            refine g_val rfl rfl rfl (y_move rfl) ?_
            refine g_not rfl rfl rfl ?_
            refine g_not rfl rfl rfl ?_
            refine g_val rfl rfl rfl (y_pick_f rfl rfl) ?_
            refine g_val rfl rfl rfl (y_assign rfl) ?_
            refine g_nil (g_then (g_ret (g_then_ret ?_)))
            refine g_end1 Tryd.results8 rfl ?_
            exfalso
            first | omega | (simp_all; done) | grind
        · skip
          refine g_cond_f rfl (g_skip (g_then (g_seq (g_ops ?_))))
          refine g_val rfl rfl rfl (y_move rfl) ?_
          refine g_val rfl rfl rfl (y_move rfl) ?_
          refine g_call1 (v := .tuple #[.int .i64 n, .int .i64 0]) rfl rfl rfl Tryd.call13 (fun w hS => index_any s _ _ (n, 0) (by omega) (idx_at s n (by omega) (by omega)) w) ?_
          refine g_val rfl rfl rfl (y_move rfl) ?_
          refine g_val rfl rfl rfl (y_extract rfl rfl) ?_
          refine g_val rfl rfl rfl (y_extract rfl rfl) ?_
          refine g_val rfl rfl rfl (y_assign rfl) ?_
          refine g_val rfl rfl rfl (y_assign rfl) ?_
          refine g_nil (g_then (g_seq (g_seq (g_ops ?_))))
          refine g_val rfl rfl rfl (y_move rfl) ?_
          refine g_val rfl rfl rfl (y_ine rfl rfl) ?_
          refine g_val rfl rfl rfl (y_move rfl) ?_
          first | refine g_casep 68 rfl (fun h11 => ?_) (fun h11 => ?_) | refine g_caseb 68 rfl (fun h11 => ?_) (fun h11 => ?_)
          · skip
            refine g_not rfl rfl rfl ?_
            refine g_not rfl rfl rfl ?_
            refine g_not rfl rfl rfl ?_
            refine g_not rfl rfl rfl ?_
            refine g_val rfl rfl rfl (y_pick_t rfl rfl) ?_
            refine g_nil (g_then (g_cond_t rfl (g_seq (g_ops ?_))))
            refine g_val rfl rfl rfl (y_assign rfl) ?_
            refine g_nil (g_then (g_ret (g_then_ret ?_)))
            refine g_end1 Tryd.results8 rfl ?_
            exfalso
            first | omega | (simp_all; done) | grind
          · skip
            refine g_val rfl rfl rfl (y_move rfl) ?_
            refine g_val rfl rfl rfl (y_idxArr (m := 0) rfl rfl Tryd.underlying41 Tryd.sizeOf3 (by decide) (by decide) rfl) ?_
            refine g_val rfl rfl rfl (y_ld 0 rfl Tryd.isAgg3 rfl rfl) ?_
            refine g_val rfl rfl rfl (y_ine rfl rfl) ?_
            refine g_val rfl rfl rfl (y_pick_f rfl rfl) ?_
            refine g_nil (g_then ?_)
            first | refine g_casep 73 rfl (fun h12 => ?_) (fun h12 => ?_) | refine g_caseb 73 rfl (fun h12 => ?_) (fun h12 => ?_)
            · skip
              refine g_cond_t rfl (g_seq (g_ops ?_))
              refine g_val rfl rfl rfl (y_assign rfl) ?_
              refine g_nil (g_then (g_ret (g_then_ret ?_)))
              refine g_end1 Tryd.results8 rfl ?_
              exfalso
              first | omega | (simp_all; done) | grind
            · skip
              refine g_cond_f rfl (g_skip (g_then (g_seq (g_seq (g_ops ?_)))))
              refine g_val rfl rfl rfl (y_move rfl) ?_
              refine g_val rfl rfl rfl (y_ine rfl rfl) ?_
              refine g_nil (g_then ?_)
              first | refine g_casep 75 rfl (fun h13 => ?_) (fun h13 => ?_) | refine g_caseb 75 rfl (fun h13 => ?_) (fun h13 => ?_)
              · skip
                refine g_cond_t rfl (g_seq (g_ops ?_))
                refine g_call1 rfl rfl rfl Tryd.call9 (fun w hS => alive_any w) ?_
                refine g_val rfl rfl rfl (y_move rfl) ?_
                first | refine g_casep 77 rfl (fun h14 => ?_) (fun h14 => ?_) | refine g_caseb 77 rfl (fun h14 => ?_) (fun h14 => ?_)
                · skip
                  refine g_val rfl rfl rfl (y_idxArr (m := 1) rfl rfl Tryd.underlying41 Tryd.sizeOf3 (by decide) (by decide) rfl) ?_
                  refine g_val rfl rfl rfl (y_ld 0 rfl Tryd.isAgg3 rfl rfl) ?_
                  refine g_val rfl rfl rfl (y_ilt rfl rfl) ?_
                  refine g_val rfl rfl rfl (y_move rfl) ?_
                  first | refine g_casep 81 rfl (fun h15 => ?_) (fun h15 => ?_) | refine g_caseb 81 rfl (fun h15 => ?_) (fun h15 => ?_)
                  · skip
                    refine g_not rfl rfl rfl ?_
                    refine g_not rfl rfl rfl ?_
                    refine g_not rfl rfl rfl ?_
                    refine g_not rfl rfl rfl ?_
                    refine g_not rfl rfl rfl ?_
                    refine g_val rfl rfl rfl (y_pick_t rfl rfl) ?_
                    refine g_val rfl rfl rfl (y_pick_t rfl rfl) ?_
                    refine g_val rfl rfl rfl (y_assign rfl) ?_
                    refine g_nil (g_then (g_ret (g_then_ret ?_)))
                    refine g_end1 Tryd.results8 rfl ?_
                    exact fun w hS => ⟨rfl, hS.below⟩
                  · skip
                    refine g_val rfl rfl rfl (y_idxArr (m := 1) rfl rfl Tryd.underlying41 Tryd.sizeOf3 (by decide) (by decide) rfl) ?_
                    refine g_val rfl rfl rfl (y_ld 0 rfl Tryd.isAgg3 rfl rfl) ?_
                    refine g_val rfl rfl rfl (y_move rfl) ?_
                    refine g_val rfl rfl rfl (y_slen rfl Tryd.underlying9) ?_
                    refine g_val rfl rfl rfl (y_igt rfl rfl) ?_
                    refine g_val rfl rfl rfl (y_pick_f rfl rfl) ?_
                    refine g_val rfl rfl rfl (y_pick_t rfl rfl) ?_
                    refine g_val rfl rfl rfl (y_assign rfl) ?_
                    refine g_nil (g_then (g_ret (g_then_ret ?_)))
                    refine g_end1 Tryd.results8 rfl ?_
                    exact fun w hS => ⟨ret_bool (by first | (simp; omega) | (simp_all; done) | grind), hS.below⟩
                · skip
                  refine g_not rfl rfl rfl ?_
                  refine g_not rfl rfl rfl ?_
                  refine g_not rfl rfl rfl ?_
                  refine g_not rfl rfl rfl ?_
                  refine g_not rfl rfl rfl ?_
                  refine g_not rfl rfl rfl ?_
                  refine g_not rfl rfl rfl ?_
                  refine g_not rfl rfl rfl ?_
                  refine g_not rfl rfl rfl ?_
                  refine g_not rfl rfl rfl ?_
                  refine g_val rfl rfl rfl (y_pick_f rfl rfl) ?_
                  refine g_val rfl rfl rfl (y_assign rfl) ?_
                  refine g_nil (g_then (g_ret (g_then_ret ?_)))
                  refine g_end1 Tryd.results8 rfl ?_
                  exfalso
                  first | omega | (simp_all; done) | grind
              · skip
                refine g_cond_f rfl (g_skip (g_then (g_seq (g_ops ?_))))
                refine g_val rfl rfl rfl (y_assign rfl) ?_
                refine g_nil (g_then (g_seq (g_seq (g_ops ?_))))
                refine g_val rfl rfl rfl (y_idxArr (m := 0) rfl rfl Tryd.underlying41 Tryd.sizeOf3 (by decide) (by decide) rfl) ?_
                refine g_val rfl rfl rfl (y_ld 0 rfl Tryd.isAgg3 rfl rfl) ?_
                refine g_val rfl rfl rfl (y_idxArr (m := 1) rfl rfl Tryd.underlying41 Tryd.sizeOf3 (by decide) (by decide) rfl) ?_
                refine g_val rfl rfl rfl (y_ld 0 rfl Tryd.isAgg3 rfl rfl) ?_
                refine g_val rfl rfl rfl (y_ilt rfl rfl) ?_
                refine g_nil (g_then ?_)
                first | refine g_casep 93 rfl (fun h16 => ?_) (fun h16 => ?_) | refine g_caseb 93 rfl (fun h16 => ?_) (fun h16 => ?_)
                · skip
                  refine g_cond_t rfl (g_ops ?_)
                  refine g_val rfl rfl rfl (y_assign rfl) ?_
                  refine g_nil (g_then (g_seq (g_seq (g_ops ?_))))
                  refine g_val rfl rfl rfl (y_idxArr (m := 0) rfl rfl Tryd.underlying41 Tryd.sizeOf3 (by decide) (by decide) rfl) ?_
                  refine g_val rfl rfl rfl (y_ld 0 rfl Tryd.isAgg3 rfl rfl) ?_
                  refine g_val rfl rfl rfl (y_idxArr (m := 1) rfl rfl Tryd.underlying41 Tryd.sizeOf3 (by decide) (by decide) rfl) ?_
                  refine g_val rfl rfl rfl (y_ld 0 rfl Tryd.isAgg3 rfl rfl) ?_
                  refine g_val rfl rfl rfl (y_igt rfl rfl) ?_
                  refine g_nil (g_then ?_)
                  first | refine g_casep 98 rfl (fun h17 => ?_) (fun h17 => ?_) | refine g_caseb 98 rfl (fun h17 => ?_) (fun h17 => ?_)
                  · skip
                    refine g_cond_t rfl (g_ops ?_)
                    refine g_val rfl rfl rfl (y_assign rfl) ?_
                    refine g_nil (g_then (g_seq (g_ops ?_)))
                    refine g_call1 rfl rfl rfl Tryd.call9 (fun w hS => alive_any w) ?_
                    refine g_val rfl rfl rfl (y_move rfl) ?_
                    first | refine g_casep 100 rfl (fun h18 => ?_) (fun h18 => ?_) | refine g_caseb 100 rfl (fun h18 => ?_) (fun h18 => ?_)
                    · skip
                      refine g_val rfl rfl rfl (y_move rfl) ?_
                      refine g_val rfl rfl rfl (y_move rfl) ?_
                      have hcm := cmp_at s n m (by omega) (by omega) (by omega)
                      refine g_call1 (v := .int .i64 (if n < m then -1 else if m < n then 1 else 0)) rfl rfl rfl Tryd.call17 (fun w hS => hcm ▸ compare_any _ _ _ _ w) ?_
                      refine g_val rfl rfl rfl (y_move rfl) ?_
                      refine g_val rfl rfl rfl (y_ieq rfl rfl) ?_
                      refine g_val rfl rfl rfl (y_pick_t rfl rfl) ?_
                      refine g_val rfl rfl rfl (y_assign rfl) ?_
                      refine g_nil (g_then (g_ret ?_))
                      refine g_end1 Tryd.results8 rfl ?_
                      exact fun w hS => ⟨ret_bool (by first | (simp; omega) | (simp_all; done) | grind), hS.below⟩
                    · skip
                      refine g_not rfl rfl rfl ?_
                      refine g_not rfl rfl rfl ?_
                      refine g_not rfl rfl rfl ?_
                      refine g_not rfl rfl rfl ?_
                      refine g_not rfl rfl rfl ?_
                      refine g_val rfl rfl rfl (y_pick_f rfl rfl) ?_
                      refine g_val rfl rfl rfl (y_assign rfl) ?_
                      refine g_nil (g_then (g_ret ?_))
                      refine g_end1 Tryd.results8 rfl ?_
                      exfalso
                      first | omega | (simp_all; done) | grind
                  · skip
                    refine g_cond_f rfl (g_skip (g_then (g_seq (g_ops ?_))))
                    refine g_call1 rfl rfl rfl Tryd.call9 (fun w hS => alive_any w) ?_
                    refine g_val rfl rfl rfl (y_move rfl) ?_
                    first | refine g_casep 100 rfl (fun h19 => ?_) (fun h19 => ?_) | refine g_caseb 100 rfl (fun h19 => ?_) (fun h19 => ?_)
                    · skip
                      refine g_val rfl rfl rfl (y_move rfl) ?_
                      refine g_val rfl rfl rfl (y_move rfl) ?_
                      have hcm := cmp_at s n m (by omega) (by omega) (by omega)
                      refine g_call1 (v := .int .i64 (if n < m then -1 else if m < n then 1 else 0)) rfl rfl rfl Tryd.call17 (fun w hS => hcm ▸ compare_any _ _ _ _ w) ?_
                      refine g_val rfl rfl rfl (y_move rfl) ?_
                      refine g_val rfl rfl rfl (y_ieq rfl rfl) ?_
                      refine g_val rfl rfl rfl (y_pick_t rfl rfl) ?_
                      refine g_val rfl rfl rfl (y_assign rfl) ?_
                      refine g_nil (g_then (g_ret ?_))
                      refine g_end1 Tryd.results8 rfl ?_
                      exact fun w hS => ⟨ret_bool (by first | (simp; omega) | (simp_all; done) | grind), hS.below⟩
                    · skip
                      refine g_not rfl rfl rfl ?_
                      refine g_not rfl rfl rfl ?_
                      refine g_not rfl rfl rfl ?_
                      refine g_not rfl rfl rfl ?_
                      refine g_not rfl rfl rfl ?_
                      refine g_val rfl rfl rfl (y_pick_f rfl rfl) ?_
                      refine g_val rfl rfl rfl (y_assign rfl) ?_
                      refine g_nil (g_then (g_ret ?_))
                      refine g_end1 Tryd.results8 rfl ?_
                      exfalso
                      first | omega | (simp_all; done) | grind
                · skip
                  refine g_cond_f rfl (g_skip (g_then (g_seq (g_seq (g_ops ?_)))))
                  refine g_val rfl rfl rfl (y_idxArr (m := 0) rfl rfl Tryd.underlying41 Tryd.sizeOf3 (by decide) (by decide) rfl) ?_
                  refine g_val rfl rfl rfl (y_ld 0 rfl Tryd.isAgg3 rfl rfl) ?_
                  refine g_val rfl rfl rfl (y_idxArr (m := 1) rfl rfl Tryd.underlying41 Tryd.sizeOf3 (by decide) (by decide) rfl) ?_
                  refine g_val rfl rfl rfl (y_ld 0 rfl Tryd.isAgg3 rfl rfl) ?_
                  refine g_val rfl rfl rfl (y_igt rfl rfl) ?_
                  refine g_nil (g_then ?_)
                  first | refine g_casep 98 rfl (fun h20 => ?_) (fun h20 => ?_) | refine g_caseb 98 rfl (fun h20 => ?_) (fun h20 => ?_)
                  · skip
                    refine g_cond_t rfl (g_ops ?_)
                    refine g_val rfl rfl rfl (y_assign rfl) ?_
                    refine g_nil (g_then (g_seq (g_ops ?_)))
                    refine g_call1 rfl rfl rfl Tryd.call9 (fun w hS => alive_any w) ?_
                    refine g_val rfl rfl rfl (y_move rfl) ?_
                    first | refine g_casep 100 rfl (fun h21 => ?_) (fun h21 => ?_) | refine g_caseb 100 rfl (fun h21 => ?_) (fun h21 => ?_)
                    · skip
                      refine g_val rfl rfl rfl (y_move rfl) ?_
                      refine g_val rfl rfl rfl (y_move rfl) ?_
                      have hcm := cmp_at s n m (by omega) (by omega) (by omega)
                      refine g_call1 (v := .int .i64 (if n < m then -1 else if m < n then 1 else 0)) rfl rfl rfl Tryd.call17 (fun w hS => hcm ▸ compare_any _ _ _ _ w) ?_
                      refine g_val rfl rfl rfl (y_move rfl) ?_
                      refine g_val rfl rfl rfl (y_ieq rfl rfl) ?_
                      refine g_val rfl rfl rfl (y_pick_t rfl rfl) ?_
                      refine g_val rfl rfl rfl (y_assign rfl) ?_
                      refine g_nil (g_then (g_ret ?_))
                      refine g_end1 Tryd.results8 rfl ?_
                      exact fun w hS => ⟨ret_bool (by first | (simp; omega) | (simp_all; done) | grind), hS.below⟩
                    · skip
                      refine g_not rfl rfl rfl ?_
                      refine g_not rfl rfl rfl ?_
                      refine g_not rfl rfl rfl ?_
                      refine g_not rfl rfl rfl ?_
                      refine g_not rfl rfl rfl ?_
                      refine g_val rfl rfl rfl (y_pick_f rfl rfl) ?_
                      refine g_val rfl rfl rfl (y_assign rfl) ?_
                      refine g_nil (g_then (g_ret ?_))
                      refine g_end1 Tryd.results8 rfl ?_
                      exfalso
                      first | omega | (simp_all; done) | grind
                  · skip
                    refine g_cond_f rfl (g_skip (g_then (g_seq (g_ops ?_))))
                    refine g_call1 rfl rfl rfl Tryd.call9 (fun w hS => alive_any w) ?_
                    refine g_val rfl rfl rfl (y_move rfl) ?_
                    first | refine g_casep 100 rfl (fun h22 => ?_) (fun h22 => ?_) | refine g_caseb 100 rfl (fun h22 => ?_) (fun h22 => ?_)
                    · skip
                      refine g_val rfl rfl rfl (y_move rfl) ?_
                      refine g_val rfl rfl rfl (y_move rfl) ?_
                      have hcm := cmp_at s n m (by omega) (by omega) (by omega)
                      refine g_call1 (v := .int .i64 (if n < m then -1 else if m < n then 1 else 0)) rfl rfl rfl Tryd.call17 (fun w hS => hcm ▸ compare_any _ _ _ _ w) ?_
                      refine g_val rfl rfl rfl (y_move rfl) ?_
                      refine g_val rfl rfl rfl (y_ieq rfl rfl) ?_
                      refine g_val rfl rfl rfl (y_pick_t rfl rfl) ?_
                      refine g_val rfl rfl rfl (y_assign rfl) ?_
                      refine g_nil (g_then (g_ret ?_))
                      refine g_end1 Tryd.results8 rfl ?_
                      exact fun w hS => ⟨ret_bool (by first | (simp; omega) | (simp_all; done) | grind), hS.below⟩
                    · skip
                      refine g_not rfl rfl rfl ?_
                      refine g_not rfl rfl rfl ?_
                      refine g_not rfl rfl rfl ?_
                      refine g_not rfl rfl rfl ?_
                      refine g_not rfl rfl rfl ?_
                      refine g_val rfl rfl rfl (y_pick_f rfl rfl) ?_
                      refine g_val rfl rfl rfl (y_assign rfl) ?_
                      refine g_nil (g_then (g_ret ?_))
                      refine g_end1 Tryd.results8 rfl ?_
                      exfalso
                      first | omega | (simp_all; done) | grind
    · skip
      refine g_not rfl rfl rfl ?_
      refine g_not rfl rfl rfl ?_
      refine g_not rfl rfl rfl ?_
      refine g_not rfl rfl rfl ?_
      refine g_not rfl rfl rfl ?_
      refine g_val rfl rfl rfl (y_pick_f rfl rfl) ?_
      refine g_val rfl rfl rfl (y_assign rfl) ?_
      refine g_nil (g_then (g_seq (g_seq (g_ops ?_))))
      refine g_val rfl rfl rfl (y_move rfl) ?_
      refine g_val rfl rfl rfl ((by first | exact y_notp rfl | exact y_not rfl)) ?_
      refine g_val rfl rfl rfl (y_move rfl) ?_
      first | refine g_casep 43 rfl (fun h23 => ?_) (fun h23 => ?_) | refine g_caseb 43 rfl (fun h23 => ?_) (fun h23 => ?_)
      · skip
        refine g_not rfl rfl rfl ?_
        refine g_not rfl rfl rfl ?_
        refine g_val rfl rfl rfl (y_pick_t rfl rfl) ?_
        refine g_nil (g_then (g_cond_t rfl (g_seq (g_ops ?_))))
        refine g_call1 rfl rfl rfl Tryd.call9 (fun w hS => alive_any w) ?_
        refine g_val rfl rfl rfl (y_move rfl) ?_
        first | refine g_casep 48 rfl (fun h24 => ?_) (fun h24 => ?_) | refine g_caseb 48 rfl (fun h24 => ?_) (fun h24 => ?_)
        · skip
          refine g_val rfl rfl rfl (y_move rfl) ?_
          refine g_val rfl rfl rfl ((by first | exact y_notp rfl | exact y_not rfl)) ?_
          refine g_val rfl rfl rfl (y_pick_t rfl rfl) ?_
          refine g_val rfl rfl rfl (y_move rfl) ?_
          first | refine g_casep 52 rfl (fun h25 => ?_) (fun h25 => ?_) | refine g_caseb 52 rfl (fun h25 => ?_) (fun h25 => ?_)
          · skip
            refine g_val rfl rfl rfl (y_move rfl) ?_
            refine g_val rfl rfl rfl (y_ieq rfl rfl) ?_
            refine g_val rfl rfl rfl (y_pick_t rfl rfl) ?_
            refine g_val rfl rfl rfl (y_move rfl) ?_
            first | refine g_casep 56 rfl (fun h26 => ?_) (fun h26 => ?_) | refine g_caseb 56 rfl (fun h26 => ?_) (fun h26 => ?_)
            · skip
              refine g_val rfl rfl rfl (y_move rfl) ?_
              refine g_val rfl rfl rfl ((by first | exact y_ceqI rfl cx_0 (by omega) (by omega) (by omega) (by omega) | exact y_ceq rfl rfl)) ?_
              refine g_val rfl rfl rfl (y_pick_t rfl rfl) ?_
              refine g_val rfl rfl rfl (y_assign rfl) ?_
              refine g_nil (g_then (g_ret (g_then_ret ?_)))
              refine g_end1 Tryd.results8 rfl ?_
              exact fun w hS => ⟨ret_bool (by first | (simp; omega) | (simp_all; done) | grind), hS.below⟩
            · skip
              refine g_not rfl rfl rfl ?_
              refine g_not rfl rfl rfl ?_
              refine g_val rfl rfl rfl (y_pick_f rfl rfl) ?_
              refine g_val rfl rfl rfl (y_assign rfl) ?_
              refine g_nil (g_then (g_ret (g_then_ret ?_)))
              refine g_end1 Tryd.results8 rfl ?_
              exfalso
              first | omega | (simp_all; done) | grind
          · skip
            refine g_not rfl rfl rfl ?_
            refine g_not rfl rfl rfl ?_
            refine g_val rfl rfl rfl (y_pick_f rfl rfl) ?_
            refine g_val rfl rfl rfl (y_move rfl) ?_
            refine g_not rfl rfl rfl ?_
            refine g_not rfl rfl rfl ?_
            refine g_val rfl rfl rfl (y_pick_f rfl rfl) ?_
            refine g_val rfl rfl rfl (y_assign rfl) ?_
            refine g_nil (g_then (g_ret (g_then_ret ?_)))
            refine g_end1 Tryd.results8 rfl ?_
            exfalso
            first | omega | (simp_all; done) | grind
        · skip
          refine g_not rfl rfl rfl ?_
          refine g_not rfl rfl rfl ?_
          refine g_val rfl rfl rfl (y_pick_f rfl rfl) ?_
          refine g_val rfl rfl rfl (y_move rfl) ?_
          refine g_not rfl rfl rfl ?_
          refine g_not rfl rfl rfl ?_
          refine g_val rfl rfl rfl (y_pick_f rfl rfl) ?_
          refine g_val rfl rfl rfl (y_move rfl) ?_
          refine g_not rfl rfl rfl ?_
          refine g_not rfl rfl rfl ?_
          refine g_val rfl rfl rfl (y_pick_f rfl rfl) ?_
          refine g_val rfl rfl rfl (y_assign rfl) ?_
          refine g_nil (g_then (g_ret (g_then_ret ?_)))
          refine g_end1 Tryd.results8 rfl ?_
          exfalso
          first | omega | (simp_all; done) | grind
      · skip
        refine g_val rfl rfl rfl (y_move rfl) ?_
        refine g_val rfl rfl rfl (y_ine rfl rfl) ?_
        refine g_val rfl rfl rfl (y_pick_f rfl rfl) ?_
        refine g_nil (g_then ?_)
        first | refine g_casep 46 rfl (fun h27 => ?_) (fun h27 => ?_) | refine g_caseb 46 rfl (fun h27 => ?_) (fun h27 => ?_)
        · skip
          refine g_cond_t rfl (g_seq (g_ops ?_))
          refine g_call1 rfl rfl rfl Tryd.call9 (fun w hS => alive_any w) ?_
          refine g_val rfl rfl rfl (y_move rfl) ?_
          first | refine g_casep 48 rfl (fun h28 => ?_) (fun h28 => ?_) | refine g_caseb 48 rfl (fun h28 => ?_) (fun h28 => ?_)
          · skip
            refine g_val rfl rfl rfl (y_move rfl) ?_
            refine g_val rfl rfl rfl ((by first | exact y_notp rfl | exact y_not rfl)) ?_
            refine g_val rfl rfl rfl (y_pick_t rfl rfl) ?_
            refine g_val rfl rfl rfl (y_move rfl) ?_
            first | refine g_casep 52 rfl (fun h29 => ?_) (fun h29 => ?_) | refine g_caseb 52 rfl (fun h29 => ?_) (fun h29 => ?_)
            · skip
              refine g_val rfl rfl rfl (y_move rfl) ?_
              refine g_val rfl rfl rfl (y_ieq rfl rfl) ?_
              refine g_val rfl rfl rfl (y_pick_t rfl rfl) ?_
              refine g_val rfl rfl rfl (y_move rfl) ?_
              first | refine g_casep 56 rfl (fun h30 => ?_) (fun h30 => ?_) | refine g_caseb 56 rfl (fun h30 => ?_) (fun h30 => ?_)
              · skip
                refine g_val rfl rfl rfl (y_move rfl) ?_
                refine g_val rfl rfl rfl ((by first | exact y_ceqI rfl cx_0 (by omega) (by omega) (by omega) (by omega) | exact y_ceq rfl rfl)) ?_
                refine g_val rfl rfl rfl (y_pick_t rfl rfl) ?_
                refine g_val rfl rfl rfl (y_assign rfl) ?_
                refine g_nil (g_then (g_ret (g_then_ret ?_)))
                refine g_end1 Tryd.results8 rfl ?_
                exact fun w hS => ⟨ret_bool (by first | (simp; omega) | (simp_all; done) | grind), hS.below⟩
              · skip
                refine g_not rfl rfl rfl ?_
                refine g_not rfl rfl rfl ?_
                refine g_val rfl rfl rfl (y_pick_f rfl rfl) ?_
                refine g_val rfl rfl rfl (y_assign rfl) ?_
                refine g_nil (g_then (g_ret (g_then_ret ?_)))
                refine g_end1 Tryd.results8 rfl ?_
                exfalso
                first | omega | (simp_all; done) | grind
            · skip
              refine g_not rfl rfl rfl ?_
              refine g_not rfl rfl rfl ?_
              refine g_val rfl rfl rfl (y_pick_f rfl rfl) ?_
              refine g_val rfl rfl rfl (y_move rfl) ?_
              refine g_not rfl rfl rfl ?_
              refine g_not rfl rfl rfl ?_
              refine g_val rfl rfl rfl (y_pick_f rfl rfl) ?_
              refine g_val rfl rfl rfl (y_assign rfl) ?_
              refine g_nil (g_then (g_ret (g_then_ret ?_)))
              refine g_end1 Tryd.results8 rfl ?_
              exfalso
              first | omega | (simp_all; done) | grind
          · skip
            refine g_not rfl rfl rfl ?_
            refine g_not rfl rfl rfl ?_
            refine g_val rfl rfl rfl (y_pick_f rfl rfl) ?_
            refine g_val rfl rfl rfl (y_move rfl) ?_
            refine g_not rfl rfl rfl ?_
            refine g_not rfl rfl rfl ?_
            refine g_val rfl rfl rfl (y_pick_f rfl rfl) ?_
            refine g_val rfl rfl rfl (y_move rfl) ?_
            refine g_not rfl rfl rfl ?_
            refine g_not rfl rfl rfl ?_
            refine g_val rfl rfl rfl (y_pick_f rfl rfl) ?_
            refine g_val rfl rfl rfl (y_assign rfl) ?_
            refine g_nil (g_then (g_ret (g_then_ret ?_)))
            refine g_end1 Tryd.results8 rfl ?_
            exfalso
            first | omega | (simp_all; done) | grind
        · skip
          refine g_cond_f rfl (g_skip (g_then (g_seq (g_ops ?_))))
          refine g_val rfl rfl rfl (y_move rfl) ?_
          refine g_val rfl rfl rfl (y_move rfl) ?_
          refine g_call1 (v := .tuple #[.int .i64 n, .int .i64 0]) rfl rfl rfl Tryd.call13 (fun w hS => index_any s _ _ (n, 0) (by omega) (idx_at s n (by omega) (by omega)) w) ?_
          refine g_val rfl rfl rfl (y_move rfl) ?_
          refine g_val rfl rfl rfl (y_extract rfl rfl) ?_
          refine g_val rfl rfl rfl (y_extract rfl rfl) ?_
          refine g_val rfl rfl rfl (y_assign rfl) ?_
          refine g_val rfl rfl rfl (y_assign rfl) ?_
          refine g_nil (g_then (g_seq (g_seq (g_ops ?_))))
          refine g_val rfl rfl rfl (y_move rfl) ?_
          refine g_val rfl rfl rfl (y_ine rfl rfl) ?_
          refine g_val rfl rfl rfl (y_move rfl) ?_
          first | refine g_casep 68 rfl (fun h31 => ?_) (fun h31 => ?_) | refine g_caseb 68 rfl (fun h31 => ?_) (fun h31 => ?_)
          · skip
            refine g_not rfl rfl rfl ?_
            refine g_not rfl rfl rfl ?_
            refine g_not rfl rfl rfl ?_
            refine g_not rfl rfl rfl ?_
            refine g_val rfl rfl rfl (y_pick_t rfl rfl) ?_
            refine g_nil (g_then (g_cond_t rfl (g_seq (g_ops ?_))))
            refine g_val rfl rfl rfl (y_assign rfl) ?_
            refine g_nil (g_then (g_ret (g_then_ret ?_)))
            refine g_end1 Tryd.results8 rfl ?_
            exfalso
            first | omega | (simp_all; done) | grind
          · skip
            refine g_val rfl rfl rfl (y_move rfl) ?_
            refine g_val rfl rfl rfl (y_idxArr (m := 0) rfl rfl Tryd.underlying41 Tryd.sizeOf3 (by decide) (by decide) rfl) ?_
            refine g_val rfl rfl rfl (y_ld 0 rfl Tryd.isAgg3 rfl rfl) ?_
            refine g_val rfl rfl rfl (y_ine rfl rfl) ?_
            refine g_val rfl rfl rfl (y_pick_f rfl rfl) ?_
            refine g_nil (g_then ?_)
            first | refine g_casep 73 rfl (fun h32 => ?_) (fun h32 => ?_) | refine g_caseb 73 rfl (fun h32 => ?_) (fun h32 => ?_)
            · skip
              refine g_cond_t rfl (g_seq (g_ops ?_))
              refine g_val rfl rfl rfl (y_assign rfl) ?_
              refine g_nil (g_then (g_ret (g_then_ret ?_)))
              refine g_end1 Tryd.results8 rfl ?_
              exfalso
              first | omega | (simp_all; done) | grind
            · skip
              refine g_cond_f rfl (g_skip (g_then (g_seq (g_seq (g_ops ?_)))))
              refine g_val rfl rfl rfl (y_move rfl) ?_
              refine g_val rfl rfl rfl (y_ine rfl rfl) ?_
              refine g_nil (g_then ?_)
              first | refine g_casep 75 rfl (fun h33 => ?_) (fun h33 => ?_) | refine g_caseb 75 rfl (fun h33 => ?_) (fun h33 => ?_)
              · skip
                refine g_cond_t rfl (g_seq (g_ops ?_))
                refine g_call1 rfl rfl rfl Tryd.call9 (fun w hS => alive_any w) ?_
                refine g_val rfl rfl rfl (y_move rfl) ?_
                first | refine g_casep 77 rfl (fun h34 => ?_) (fun h34 => ?_) | refine g_caseb 77 rfl (fun h34 => ?_) (fun h34 => ?_)
                · skip
                  refine g_val rfl rfl rfl (y_idxArr (m := 1) rfl rfl Tryd.underlying41 Tryd.sizeOf3 (by decide) (by decide) rfl) ?_
                  refine g_val rfl rfl rfl (y_ld 0 rfl Tryd.isAgg3 rfl rfl) ?_
                  refine g_val rfl rfl rfl (y_ilt rfl rfl) ?_
                  refine g_val rfl rfl rfl (y_move rfl) ?_
                  first | refine g_casep 81 rfl (fun h35 => ?_) (fun h35 => ?_) | refine g_caseb 81 rfl (fun h35 => ?_) (fun h35 => ?_)
                  · skip
                    refine g_not rfl rfl rfl ?_
                    refine g_not rfl rfl rfl ?_
                    refine g_not rfl rfl rfl ?_
                    refine g_not rfl rfl rfl ?_
                    refine g_not rfl rfl rfl ?_
                    refine g_val rfl rfl rfl (y_pick_t rfl rfl) ?_
                    refine g_val rfl rfl rfl (y_pick_t rfl rfl) ?_
                    refine g_val rfl rfl rfl (y_assign rfl) ?_
                    refine g_nil (g_then (g_ret (g_then_ret ?_)))
                    refine g_end1 Tryd.results8 rfl ?_
                    exact fun w hS => ⟨rfl, hS.below⟩
                  · skip
                    refine g_val rfl rfl rfl (y_idxArr (m := 1) rfl rfl Tryd.underlying41 Tryd.sizeOf3 (by decide) (by decide) rfl) ?_
                    refine g_val rfl rfl rfl (y_ld 0 rfl Tryd.isAgg3 rfl rfl) ?_
                    refine g_val rfl rfl rfl (y_move rfl) ?_
                    refine g_val rfl rfl rfl (y_slen rfl Tryd.underlying9) ?_
                    refine g_val rfl rfl rfl (y_igt rfl rfl) ?_
                    refine g_val rfl rfl rfl (y_pick_f rfl rfl) ?_
                    refine g_val rfl rfl rfl (y_pick_t rfl rfl) ?_
                    refine g_val rfl rfl rfl (y_assign rfl) ?_
                    refine g_nil (g_then (g_ret (g_then_ret ?_)))
                    refine g_end1 Tryd.results8 rfl ?_
                    exact fun w hS => ⟨ret_bool (by first | (simp; omega) | (simp_all; done) | grind), hS.below⟩
                · skip
                  refine g_not rfl rfl rfl ?_
                  refine g_not rfl rfl rfl ?_
                  refine g_not rfl rfl rfl ?_
                  refine g_not rfl rfl rfl ?_
                  refine g_not rfl rfl rfl ?_
                  refine g_not rfl rfl rfl ?_
                  refine g_not rfl rfl rfl ?_
                  refine g_not rfl rfl rfl ?_
                  refine g_not rfl rfl rfl ?_
                  refine g_not rfl rfl rfl ?_
                  refine g_val rfl rfl rfl (y_pick_f rfl rfl) ?_
                  refine g_val rfl rfl rfl (y_assign rfl) ?_
                  refine g_nil (g_then (g_ret (g_then_ret ?_)))
                  refine g_end1 Tryd.results8 rfl ?_
                  exfalso
                  first | omega | (simp_all; done) | grind
              · skip
                refine g_cond_f rfl (g_skip (g_then (g_seq (g_ops ?_))))
                refine g_val rfl rfl rfl (y_assign rfl) ?_
                refine g_nil (g_then (g_seq (g_seq (g_ops ?_))))
                refine g_val rfl rfl rfl (y_idxArr (m := 0) rfl rfl Tryd.underlying41 Tryd.sizeOf3 (by decide) (by decide) rfl) ?_
                refine g_val rfl rfl rfl (y_ld 0 rfl Tryd.isAgg3 rfl rfl) ?_
                refine g_val rfl rfl rfl (y_idxArr (m := 1) rfl rfl Tryd.underlying41 Tryd.sizeOf3 (by decide) (by decide) rfl) ?_
                refine g_val rfl rfl rfl (y_ld 0 rfl Tryd.isAgg3 rfl rfl) ?_
                refine g_val rfl rfl rfl (y_ilt rfl rfl) ?_
                refine g_nil (g_then ?_)
                first | refine g_casep 93 rfl (fun h36 => ?_) (fun h36 => ?_) | refine g_caseb 93 rfl (fun h36 => ?_) (fun h36 => ?_)
                · skip
                  refine g_cond_t rfl (g_ops ?_)
                  refine g_val rfl rfl rfl (y_assign rfl) ?_
                  refine g_nil (g_then (g_seq (g_seq (g_ops ?_))))
                  refine g_val rfl rfl rfl (y_idxArr (m := 0) rfl rfl Tryd.underlying41 Tryd.sizeOf3 (by decide) (by decide) rfl) ?_
                  refine g_val rfl rfl rfl (y_ld 0 rfl Tryd.isAgg3 rfl rfl) ?_
                  refine g_val rfl rfl rfl (y_idxArr (m := 1) rfl rfl Tryd.underlying41 Tryd.sizeOf3 (by decide) (by decide) rfl) ?_
                  refine g_val rfl rfl rfl (y_ld 0 rfl Tryd.isAgg3 rfl rfl) ?_
                  refine g_val rfl rfl rfl (y_igt rfl rfl) ?_
                  refine g_nil (g_then ?_)
                  first | refine g_casep 98 rfl (fun h37 => ?_) (fun h37 => ?_) | refine g_caseb 98 rfl (fun h37 => ?_) (fun h37 => ?_)
                  · skip
                    refine g_cond_t rfl (g_ops ?_)
                    refine g_val rfl rfl rfl (y_assign rfl) ?_
                    refine g_nil (g_then (g_seq (g_ops ?_)))
                    refine g_call1 rfl rfl rfl Tryd.call9 (fun w hS => alive_any w) ?_
                    refine g_val rfl rfl rfl (y_move rfl) ?_
                    first | refine g_casep 100 rfl (fun h38 => ?_) (fun h38 => ?_) | refine g_caseb 100 rfl (fun h38 => ?_) (fun h38 => ?_)
                    · skip
                      refine g_val rfl rfl rfl (y_move rfl) ?_
                      refine g_val rfl rfl rfl (y_move rfl) ?_
                      have hcm := cmp_at s n m (by omega) (by omega) (by omega)
                      refine g_call1 (v := .int .i64 (if n < m then -1 else if m < n then 1 else 0)) rfl rfl rfl Tryd.call17 (fun w hS => hcm ▸ compare_any _ _ _ _ w) ?_
                      refine g_val rfl rfl rfl (y_move rfl) ?_
                      refine g_val rfl rfl rfl (y_ieq rfl rfl) ?_
                      refine g_val rfl rfl rfl (y_pick_t rfl rfl) ?_
                      refine g_val rfl rfl rfl (y_assign rfl) ?_
                      refine g_nil (g_then (g_ret ?_))
                      refine g_end1 Tryd.results8 rfl ?_
                      exact fun w hS => ⟨ret_bool (by first | (simp; omega) | (simp_all; done) | grind), hS.below⟩
                    · skip
                      refine g_not rfl rfl rfl ?_
                      refine g_not rfl rfl rfl ?_
                      refine g_not rfl rfl rfl ?_
                      refine g_not rfl rfl rfl ?_
                      refine g_not rfl rfl rfl ?_
                      refine g_val rfl rfl rfl (y_pick_f rfl rfl) ?_
                      refine g_val rfl rfl rfl (y_assign rfl) ?_
                      refine g_nil (g_then (g_ret ?_))
                      refine g_end1 Tryd.results8 rfl ?_
                      exfalso
                      first | omega | (simp_all; done) | grind
                  · skip
                    refine g_cond_f rfl (g_skip (g_then (g_seq (g_ops ?_))))
                    refine g_call1 rfl rfl rfl Tryd.call9 (fun w hS => alive_any w) ?_
                    refine g_val rfl rfl rfl (y_move rfl) ?_
                    first | refine g_casep 100 rfl (fun h39 => ?_) (fun h39 => ?_) | refine g_caseb 100 rfl (fun h39 => ?_) (fun h39 => ?_)
                    · skip
                      refine g_val rfl rfl rfl (y_move rfl) ?_
                      refine g_val rfl rfl rfl (y_move rfl) ?_
                      have hcm := cmp_at s n m (by omega) (by omega) (by omega)
                      refine g_call1 (v := .int .i64 (if n < m then -1 else if m < n then 1 else 0)) rfl rfl rfl Tryd.call17 (fun w hS => hcm ▸ compare_any _ _ _ _ w) ?_
                      refine g_val rfl rfl rfl (y_move rfl) ?_
                      refine g_val rfl rfl rfl (y_ieq rfl rfl) ?_
                      refine g_val rfl rfl rfl (y_pick_t rfl rfl) ?_
                      refine g_val rfl rfl rfl (y_assign rfl) ?_
                      refine g_nil (g_then (g_ret ?_))
                      refine g_end1 Tryd.results8 rfl ?_
                      exact fun w hS => ⟨ret_bool (by first | (simp; omega) | (simp_all; done) | grind), hS.below⟩
                    · skip
                      refine g_not rfl rfl rfl ?_
                      refine g_not rfl rfl rfl ?_
                      refine g_not rfl rfl rfl ?_
                      refine g_not rfl rfl rfl ?_
                      refine g_not rfl rfl rfl ?_
                      refine g_val rfl rfl rfl (y_pick_f rfl rfl) ?_
                      refine g_val rfl rfl rfl (y_assign rfl) ?_
                      refine g_nil (g_then (g_ret ?_))
                      refine g_end1 Tryd.results8 rfl ?_
                      exfalso
                      first | omega | (simp_all; done) | grind
                · skip
                  refine g_cond_f rfl (g_skip (g_then (g_seq (g_seq (g_ops ?_)))))
                  refine g_val rfl rfl rfl (y_idxArr (m := 0) rfl rfl Tryd.underlying41 Tryd.sizeOf3 (by decide) (by decide) rfl) ?_
                  refine g_val rfl rfl rfl (y_ld 0 rfl Tryd.isAgg3 rfl rfl) ?_
                  refine g_val rfl rfl rfl (y_idxArr (m := 1) rfl rfl Tryd.underlying41 Tryd.sizeOf3 (by decide) (by decide) rfl) ?_
                  refine g_val rfl rfl rfl (y_ld 0 rfl Tryd.isAgg3 rfl rfl) ?_
                  refine g_val rfl rfl rfl (y_igt rfl rfl) ?_
                  refine g_nil (g_then ?_)
                  first | refine g_casep 98 rfl (fun h40 => ?_) (fun h40 => ?_) | refine g_caseb 98 rfl (fun h40 => ?_) (fun h40 => ?_)
                  · skip
                    refine g_cond_t rfl (g_ops ?_)
                    refine g_val rfl rfl rfl (y_assign rfl) ?_
                    refine g_nil (g_then (g_seq (g_ops ?_)))
                    refine g_call1 rfl rfl rfl Tryd.call9 (fun w hS => alive_any w) ?_
                    refine g_val rfl rfl rfl (y_move rfl) ?_
                    first | refine g_casep 100 rfl (fun h41 => ?_) (fun h41 => ?_) | refine g_caseb 100 rfl (fun h41 => ?_) (fun h41 => ?_)
                    · skip
                      refine g_val rfl rfl rfl (y_move rfl) ?_
                      refine g_val rfl rfl rfl (y_move rfl) ?_
                      have hcm := cmp_at s n m (by omega) (by omega) (by omega)
                      refine g_call1 (v := .int .i64 (if n < m then -1 else if m < n then 1 else 0)) rfl rfl rfl Tryd.call17 (fun w hS => hcm ▸ compare_any _ _ _ _ w) ?_
                      refine g_val rfl rfl rfl (y_move rfl) ?_
                      refine g_val rfl rfl rfl (y_ieq rfl rfl) ?_
                      refine g_val rfl rfl rfl (y_pick_t rfl rfl) ?_
                      refine g_val rfl rfl rfl (y_assign rfl) ?_
                      refine g_nil (g_then (g_ret ?_))
                      refine g_end1 Tryd.results8 rfl ?_
                      exact fun w hS => ⟨ret_bool (by first | (simp; omega) | (simp_all; done) | grind), hS.below⟩
                    · skip
                      refine g_not rfl rfl rfl ?_
                      refine g_not rfl rfl rfl ?_
                      refine g_not rfl rfl rfl ?_
                      refine g_not rfl rfl rfl ?_
                      refine g_not rfl rfl rfl ?_
                      refine g_val rfl rfl rfl (y_pick_f rfl rfl) ?_
                      refine g_val rfl rfl rfl (y_assign rfl) ?_
                      refine g_nil (g_then (g_ret ?_))
                      refine g_end1 Tryd.results8 rfl ?_
                      exfalso
                      first | omega | (simp_all; done) | grind
                  · skip
                    refine g_cond_f rfl (g_skip (g_then (g_seq (g_ops ?_))))
                    refine g_call1 rfl rfl rfl Tryd.call9 (fun w hS => alive_any w) ?_
                    refine g_val rfl rfl rfl (y_move rfl) ?_
                    first | refine g_casep 100 rfl (fun h42 => ?_) (fun h42 => ?_) | refine g_caseb 100 rfl (fun h42 => ?_) (fun h42 => ?_)
                    · skip
                      refine g_val rfl rfl rfl (y_move rfl) ?_
                      refine g_val rfl rfl rfl (y_move rfl) ?_
                      have hcm := cmp_at s n m (by omega) (by omega) (by omega)
                      refine g_call1 (v := .int .i64 (if n < m then -1 else if m < n then 1 else 0)) rfl rfl rfl Tryd.call17 (fun w hS => hcm ▸ compare_any _ _ _ _ w) ?_
                      refine g_val rfl rfl rfl (y_move rfl) ?_
                      refine g_val rfl rfl rfl (y_ieq rfl rfl) ?_
                      refine g_val rfl rfl rfl (y_pick_t rfl rfl) ?_
                      refine g_val rfl rfl rfl (y_assign rfl) ?_
                      refine g_nil (g_then (g_ret ?_))
                      refine g_end1 Tryd.results8 rfl ?_
                      exact fun w hS => ⟨ret_bool (by first | (simp; omega) | (simp_all; done) | grind), hS.below⟩
                    · skip
                      refine g_not rfl rfl rfl ?_
                      refine g_not rfl rfl rfl ?_
                      refine g_not rfl rfl rfl ?_
                      refine g_not rfl rfl rfl ?_
                      refine g_not rfl rfl rfl ?_
                      refine g_val rfl rfl rfl (y_pick_f rfl rfl) ?_
                      refine g_val rfl rfl rfl (y_assign rfl) ?_
                      refine g_nil (g_then (g_ret ?_))
                      refine g_end1 Tryd.results8 rfl ?_
                      exfalso
                      first | omega | (simp_all; done) | grind

theorem line_law (a b c d e f : Nat) (w : World) :
    Calls Tryd.prog 7 #[.agg #[.float .f64 a, .float .f64 b, .float .f64 c, .float .f64 d, .float .f64 e, .float .f64 f]] w fun e w' => e = .returned (.bool true) ∧ Below w.heap.size w w' := by
  refine fn_intro Tryd.func7 rfl Tryd.ntmps7 rfl rfl ?_
  refine g_seq (g_ops ?_)
  refine g_box rfl rfl rfl rfl (fun b1 => ?_)
  refine g_val rfl rfl rfl (y_assign rfl) ?_
  refine g_nil (g_then (g_seq (g_ops ?_)))
  refine g_val rfl rfl rfl (y_idxArr (m := 0) rfl rfl Tryd.underlying39 Tryd.sizeOf31 (by decide) (by decide) rfl) ?_
  refine g_val rfl rfl rfl (y_idxArr (m := 0) rfl rfl Tryd.underlying31 Tryd.sizeOf29 (by decide) (by decide) rfl) ?_
  refine g_val rfl rfl rfl (y_ld 0 rfl Tryd.isAgg29 rfl rfl) ?_
  refine g_val rfl rfl rfl (y_idxArr (m := 0) rfl rfl Tryd.underlying39 Tryd.sizeOf31 (by decide) (by decide) rfl) ?_
  refine g_val rfl rfl rfl (y_idxArr (m := 1) rfl rfl Tryd.underlying31 Tryd.sizeOf29 (by decide) (by decide) rfl) ?_
  refine g_val rfl rfl rfl (y_ld 0 rfl Tryd.isAgg29 rfl rfl) ?_
  refine g_val rfl rfl rfl (y_cplx rfl rfl) ?_
  refine g_val rfl rfl rfl (y_assign rfl) ?_
  refine g_nil (g_then (g_seq (g_ops ?_)))
  refine g_val rfl rfl rfl (y_idxArr (m := 2) rfl rfl Tryd.underlying39 Tryd.sizeOf31 (by decide) (by decide) rfl) ?_
  refine g_val rfl rfl rfl (y_idxArr (m := 2) rfl rfl Tryd.underlying31 Tryd.sizeOf29 (by decide) (by decide) rfl) ?_
  refine g_val rfl rfl rfl (y_ld 0 rfl Tryd.isAgg29 rfl rfl) ?_
  refine g_val rfl rfl rfl (y_idxArr (m := 2) rfl rfl Tryd.underlying39 Tryd.sizeOf31 (by decide) (by decide) rfl) ?_
  refine g_val rfl rfl rfl (y_idxArr (m := 3) rfl rfl Tryd.underlying31 Tryd.sizeOf29 (by decide) (by decide) rfl) ?_
  refine g_val rfl rfl rfl (y_ld 0 rfl Tryd.isAgg29 rfl rfl) ?_
  refine g_val rfl rfl rfl (y_cplx rfl rfl) ?_
  refine g_val rfl rfl rfl (y_assign rfl) ?_
  refine g_nil (g_then (g_seq (g_ops ?_)))
  refine g_val rfl rfl rfl (y_idxArr (m := 4) rfl rfl Tryd.underlying39 Tryd.sizeOf31 (by decide) (by decide) rfl) ?_
  refine g_val rfl rfl rfl (y_idxArr (m := 4) rfl rfl Tryd.underlying31 Tryd.sizeOf29 (by decide) (by decide) rfl) ?_
  refine g_val rfl rfl rfl (y_ld 0 rfl Tryd.isAgg29 rfl rfl) ?_
  refine g_val rfl rfl rfl (y_idxArr (m := 4) rfl rfl Tryd.underlying39 Tryd.sizeOf31 (by decide) (by decide) rfl) ?_
  refine g_val rfl rfl rfl (y_idxArr (m := 5) rfl rfl Tryd.underlying31 Tryd.sizeOf29 (by decide) (by decide) rfl) ?_
  refine g_val rfl rfl rfl (y_ld 0 rfl Tryd.isAgg29 rfl rfl) ?_
  refine g_val rfl rfl rfl (y_cplx rfl rfl) ?_
  refine g_val rfl rfl rfl (y_assign rfl) ?_
  refine g_nil (g_then (g_seq (g_ops ?_)))
  refine g_val rfl rfl rfl (y_move rfl) ?_
  refine g_val rfl rfl rfl (y_move rfl) ?_
  have hl := cmp_line a b c d e f
  have hs := cmp_self a b
  refine g_call1 rfl rfl rfl Tryd.call17 (fun w hS => compare_any _ _ _ _ w) ?_
  refine g_val rfl rfl rfl (y_assign rfl) ?_
  refine g_nil (g_then (g_seq (g_ops ?_)))
  refine g_val rfl rfl rfl (y_move rfl) ?_
  refine g_val rfl rfl rfl (y_move rfl) ?_
  refine g_call1 rfl rfl rfl Tryd.call17 (fun w hS => compare_any _ _ _ _ w) ?_
  refine g_val rfl rfl rfl (y_assign rfl) ?_
  refine g_nil (g_then (g_seq (g_ops ?_)))
  refine g_val rfl rfl rfl (y_move rfl) ?_
  refine g_val rfl rfl rfl (y_move rfl) ?_
  refine g_call1 rfl rfl rfl Tryd.call17 (fun w hS => compare_any _ _ _ _ w) ?_
  refine g_val rfl rfl rfl (y_assign rfl) ?_
  refine g_nil (g_then (g_seq (g_ops ?_)))
  refine g_call1 rfl rfl rfl Tryd.call9 (fun w hS => alive_any w) ?_
  refine g_val rfl rfl rfl (y_move rfl) ?_
  first | refine g_casep 40 rfl (fun h1 => ?_) (fun h1 => ?_) | refine g_caseb 40 rfl (fun h1 => ?_) (fun h1 => ?_)
  · skip
    refine g_val rfl rfl rfl (y_move rfl) ?_
    refine g_val rfl rfl rfl (y_move rfl) ?_
    refine g_val rfl rfl rfl (y_move rfl) ?_
    refine g_call1 rfl rfl rfl Tryd.call17 (fun w hS => compare_any _ _ _ _ w) ?_
    refine g_val rfl rfl rfl (by first | exact y_negi rfl (by omega) | exact y_neg rfl) ?_
    refine g_val rfl rfl rfl (y_ieq rfl rfl) ?_
    refine g_val rfl rfl rfl (y_pick_t rfl rfl) ?_
    refine g_val rfl rfl rfl (y_move rfl) ?_
    first | refine g_casep 48 rfl (fun h2 => ?_) (fun h2 => ?_) | refine g_caseb 48 rfl (fun h2 => ?_) (fun h2 => ?_)
    · skip
      refine g_val rfl rfl rfl (y_move rfl) ?_
      refine g_val rfl rfl rfl (y_ige rfl rfl) ?_
      refine g_val rfl rfl rfl (y_pick_t rfl rfl) ?_
      refine g_val rfl rfl rfl (y_move rfl) ?_
      first | refine g_casep 52 rfl (fun h3 => ?_) (fun h3 => ?_) | refine g_caseb 52 rfl (fun h3 => ?_) (fun h3 => ?_)
      · skip
        refine g_val rfl rfl rfl (y_move rfl) ?_
        refine g_val rfl rfl rfl (y_ile rfl rfl) ?_
        refine g_val rfl rfl rfl (y_pick_t rfl rfl) ?_
        refine g_val rfl rfl rfl (y_move rfl) ?_
        first | refine g_casep 56 rfl (fun h4 => ?_) (fun h4 => ?_) | refine g_caseb 56 rfl (fun h4 => ?_) (fun h4 => ?_)
        · skip
          refine g_val rfl rfl rfl (y_move rfl) ?_
          refine g_val rfl rfl rfl (y_move rfl) ?_
          refine g_call1 rfl rfl rfl Tryd.call17 (fun w hS => compare_any _ _ _ _ w) ?_
          refine g_val rfl rfl rfl (y_ieq rfl rfl) ?_
          refine g_val rfl rfl rfl (y_pick_t rfl rfl) ?_
          refine g_val rfl rfl rfl (y_move rfl) ?_
          first | refine g_casep 62 rfl (fun h5 => ?_) (fun h5 => ?_) | refine g_caseb 62 rfl (fun h5 => ?_) (fun h5 => ?_)
          · skip
            refine g_val rfl rfl rfl (y_move rfl) ?_
            refine g_val rfl rfl rfl (y_igt rfl rfl) ?_
            refine g_val rfl rfl rfl (y_move rfl) ?_
            first | refine g_casep 65 rfl (fun h6 => ?_) (fun h6 => ?_) | refine g_caseb 65 rfl (fun h6 => ?_) (fun h6 => ?_)
            · skip
              refine g_not rfl rfl rfl ?_
              refine g_not rfl rfl rfl ?_
              refine g_val rfl rfl rfl (y_pick_t rfl rfl) ?_
              refine g_val rfl rfl rfl (y_move rfl) ?_
              refine g_not rfl rfl rfl ?_
              refine g_not rfl rfl rfl ?_
              refine g_val rfl rfl rfl (y_pick_t rfl rfl) ?_
              refine g_val rfl rfl rfl (y_pick_t rfl rfl) ?_
              refine g_val rfl rfl rfl (y_move rfl) ?_
              refine g_val rfl rfl rfl (y_move rfl) ?_
              refine g_val rfl rfl rfl (y_ige rfl rfl) ?_
              refine g_val rfl rfl rfl (y_move rfl) ?_
              first | refine g_casep 77 rfl (fun h7 => ?_) (fun h7 => ?_) | refine g_caseb 77 rfl (fun h7 => ?_) (fun h7 => ?_)
              · skip
                refine g_not rfl rfl rfl ?_
                refine g_not rfl rfl rfl ?_
                refine g_val rfl rfl rfl (y_pick_t rfl rfl) ?_
                refine g_val rfl rfl rfl (y_move rfl) ?_
                refine g_not rfl rfl rfl ?_
                refine g_not rfl rfl rfl ?_
                refine g_val rfl rfl rfl (y_pick_t rfl rfl) ?_
                refine g_val rfl rfl rfl (y_pick_t rfl rfl) ?_
                refine g_val rfl rfl rfl (y_assign rfl) ?_
                refine g_nil (g_then (g_ret ?_))
                refine g_end1 Tryd.results7 rfl ?_
                exact fun w hS => ⟨rfl, hS.below⟩
              · skip
                refine g_val rfl rfl rfl (y_move rfl) ?_
                refine g_val rfl rfl rfl (y_igt rfl rfl) ?_
                refine g_val rfl rfl rfl (y_pick_f rfl rfl) ?_
                refine g_val rfl rfl rfl (y_move rfl) ?_
                first | refine g_casep 81 rfl (fun h8 => ?_) (fun h8 => ?_) | refine g_caseb 81 rfl (fun h8 => ?_) (fun h8 => ?_)
                · skip
                  refine g_not rfl rfl rfl ?_
                  refine g_not rfl rfl rfl ?_
                  refine g_val rfl rfl rfl (y_pick_t rfl rfl) ?_
                  refine g_val rfl rfl rfl (y_pick_t rfl rfl) ?_
                  refine g_val rfl rfl rfl (y_assign rfl) ?_
                  refine g_nil (g_then (g_ret ?_))
                  refine g_end1 Tryd.results7 rfl ?_
                  exact fun w hS => ⟨rfl, hS.below⟩
                · skip
                  refine g_val rfl rfl rfl (y_move rfl) ?_
                  refine g_val rfl rfl rfl (y_ilt rfl rfl) ?_
                  refine g_val rfl rfl rfl (y_pick_f rfl rfl) ?_
                  refine g_val rfl rfl rfl (y_pick_t rfl rfl) ?_
                  refine g_val rfl rfl rfl (y_assign rfl) ?_
                  refine g_nil (g_then (g_ret ?_))
                  refine g_end1 Tryd.results7 rfl ?_
                  exact fun w hS => ⟨ret_bool (by first | (simp; omega) | (simp_all; done)), hS.below⟩
            · skip
              refine g_val rfl rfl rfl (y_move rfl) ?_
              refine g_val rfl rfl rfl (y_igt rfl rfl) ?_
              refine g_val rfl rfl rfl (y_pick_f rfl rfl) ?_
              refine g_val rfl rfl rfl (y_move rfl) ?_
              first | refine g_casep 69 rfl (fun h9 => ?_) (fun h9 => ?_) | refine g_caseb 69 rfl (fun h9 => ?_) (fun h9 => ?_)
              · skip
                refine g_not rfl rfl rfl ?_
                refine g_not rfl rfl rfl ?_
                refine g_val rfl rfl rfl (y_pick_t rfl rfl) ?_
                refine g_val rfl rfl rfl (y_pick_t rfl rfl) ?_
                refine g_val rfl rfl rfl (y_move rfl) ?_
                refine g_val rfl rfl rfl (y_move rfl) ?_
                refine g_val rfl rfl rfl (y_ige rfl rfl) ?_
                refine g_val rfl rfl rfl (y_move rfl) ?_
                first | refine g_casep 77 rfl (fun h10 => ?_) (fun h10 => ?_) | refine g_caseb 77 rfl (fun h10 => ?_) (fun h10 => ?_)
                · skip
                  refine g_not rfl rfl rfl ?_
                  refine g_not rfl rfl rfl ?_
                  refine g_val rfl rfl rfl (y_pick_t rfl rfl) ?_
                  refine g_val rfl rfl rfl (y_move rfl) ?_
                  refine g_not rfl rfl rfl ?_
                  refine g_not rfl rfl rfl ?_
                  refine g_val rfl rfl rfl (y_pick_t rfl rfl) ?_
                  refine g_val rfl rfl rfl (y_pick_t rfl rfl) ?_
                  refine g_val rfl rfl rfl (y_assign rfl) ?_
                  refine g_nil (g_then (g_ret ?_))
                  refine g_end1 Tryd.results7 rfl ?_
                  exact fun w hS => ⟨rfl, hS.below⟩
                · skip
                  refine g_val rfl rfl rfl (y_move rfl) ?_
                  refine g_val rfl rfl rfl (y_igt rfl rfl) ?_
                  refine g_val rfl rfl rfl (y_pick_f rfl rfl) ?_
                  refine g_val rfl rfl rfl (y_move rfl) ?_
                  first | refine g_casep 81 rfl (fun h11 => ?_) (fun h11 => ?_) | refine g_caseb 81 rfl (fun h11 => ?_) (fun h11 => ?_)
                  · skip
                    refine g_not rfl rfl rfl ?_
                    refine g_not rfl rfl rfl ?_
                    refine g_val rfl rfl rfl (y_pick_t rfl rfl) ?_
                    refine g_val rfl rfl rfl (y_pick_t rfl rfl) ?_
                    refine g_val rfl rfl rfl (y_assign rfl) ?_
                    refine g_nil (g_then (g_ret ?_))
                    refine g_end1 Tryd.results7 rfl ?_
                    exact fun w hS => ⟨rfl, hS.below⟩
                  · skip
                    refine g_val rfl rfl rfl (y_move rfl) ?_
                    refine g_val rfl rfl rfl (y_ilt rfl rfl) ?_
                    refine g_val rfl rfl rfl (y_pick_f rfl rfl) ?_
                    refine g_val rfl rfl rfl (y_pick_t rfl rfl) ?_
                    refine g_val rfl rfl rfl (y_assign rfl) ?_
                    refine g_nil (g_then (g_ret ?_))
                    refine g_end1 Tryd.results7 rfl ?_
                    exact fun w hS => ⟨ret_bool (by first | (simp; omega) | (simp_all; done)), hS.below⟩
              · skip
                refine g_val rfl rfl rfl (y_move rfl) ?_
                refine g_val rfl rfl rfl (y_ile rfl rfl) ?_
                refine g_val rfl rfl rfl (y_pick_f rfl rfl) ?_
                refine g_val rfl rfl rfl (y_pick_t rfl rfl) ?_
                refine g_val rfl rfl rfl (y_move rfl) ?_
                first | refine g_casep 74 rfl (fun h12 => ?_) (fun h12 => ?_) | refine g_caseb 74 rfl (fun h12 => ?_) (fun h12 => ?_)
                · skip
                  refine g_val rfl rfl rfl (y_move rfl) ?_
                  refine g_val rfl rfl rfl (y_ige rfl rfl) ?_
                  refine g_val rfl rfl rfl (y_move rfl) ?_
                  first | refine g_casep 77 rfl (fun h13 => ?_) (fun h13 => ?_) | refine g_caseb 77 rfl (fun h13 => ?_) (fun h13 => ?_)
                  · skip
                    refine g_not rfl rfl rfl ?_
                    refine g_not rfl rfl rfl ?_
                    refine g_val rfl rfl rfl (y_pick_t rfl rfl) ?_
                    refine g_val rfl rfl rfl (y_move rfl) ?_
                    refine g_not rfl rfl rfl ?_
                    refine g_not rfl rfl rfl ?_
                    refine g_val rfl rfl rfl (y_pick_t rfl rfl) ?_
                    refine g_val rfl rfl rfl (y_pick_t rfl rfl) ?_
                    refine g_val rfl rfl rfl (y_assign rfl) ?_
                    refine g_nil (g_then (g_ret ?_))
                    refine g_end1 Tryd.results7 rfl ?_
                    exact fun w hS => ⟨rfl, hS.below⟩
                  · skip
                    refine g_val rfl rfl rfl (y_move rfl) ?_
                    refine g_val rfl rfl rfl (y_igt rfl rfl) ?_
                    refine g_val rfl rfl rfl (y_pick_f rfl rfl) ?_
                    refine g_val rfl rfl rfl (y_move rfl) ?_
                    first | refine g_casep 81 rfl (fun h14 => ?_) (fun h14 => ?_) | refine g_caseb 81 rfl (fun h14 => ?_) (fun h14 => ?_)
                    · skip
                      refine g_not rfl rfl rfl ?_
                      refine g_not rfl rfl rfl ?_
                      refine g_val rfl rfl rfl (y_pick_t rfl rfl) ?_
                      refine g_val rfl rfl rfl (y_pick_t rfl rfl) ?_
                      refine g_val rfl rfl rfl (y_assign rfl) ?_
                      refine g_nil (g_then (g_ret ?_))
                      refine g_end1 Tryd.results7 rfl ?_
                      exact fun w hS => ⟨rfl, hS.below⟩
                    · skip
                      refine g_val rfl rfl rfl (y_move rfl) ?_
                      refine g_val rfl rfl rfl (y_ilt rfl rfl) ?_
                      refine g_val rfl rfl rfl (y_pick_f rfl rfl) ?_
                      refine g_val rfl rfl rfl (y_pick_t rfl rfl) ?_
                      refine g_val rfl rfl rfl (y_assign rfl) ?_
                      refine g_nil (g_then (g_ret ?_))
                      refine g_end1 Tryd.results7 rfl ?_
                      exact fun w hS => ⟨ret_bool (by first | (simp; omega) | (simp_all; done)), hS.below⟩
                · skip
                  refine g_not rfl rfl rfl ?_
                  refine g_not rfl rfl rfl ?_
                  refine g_not rfl rfl rfl ?_
                  refine g_not rfl rfl rfl ?_
                  refine g_not rfl rfl rfl ?_
                  refine g_not rfl rfl rfl ?_
                  refine g_not rfl rfl rfl ?_
                  refine g_not rfl rfl rfl ?_
                  refine g_not rfl rfl rfl ?_
                  refine g_not rfl rfl rfl ?_
                  refine g_val rfl rfl rfl (y_pick_f rfl rfl) ?_
                  refine g_val rfl rfl rfl (y_assign rfl) ?_
                  refine g_nil (g_then (g_ret ?_))
                  refine g_end1 Tryd.results7 rfl ?_
                  exfalso
                  first | omega | (simp_all; done)
          · skip
            refine g_not rfl rfl rfl ?_
            refine g_not rfl rfl rfl ?_
            refine g_not rfl rfl rfl ?_
            refine g_not rfl rfl rfl ?_
            refine g_not rfl rfl rfl ?_
            refine g_not rfl rfl rfl ?_
            refine g_not rfl rfl rfl ?_
            refine g_not rfl rfl rfl ?_
            refine g_not rfl rfl rfl ?_
            refine g_not rfl rfl rfl ?_
            refine g_val rfl rfl rfl (y_pick_f rfl rfl) ?_
            refine g_val rfl rfl rfl (y_move rfl) ?_
            refine g_not rfl rfl rfl ?_
            refine g_not rfl rfl rfl ?_
            refine g_not rfl rfl rfl ?_
            refine g_not rfl rfl rfl ?_
            refine g_not rfl rfl rfl ?_
            refine g_not rfl rfl rfl ?_
            refine g_not rfl rfl rfl ?_
            refine g_not rfl rfl rfl ?_
            refine g_not rfl rfl rfl ?_
            refine g_not rfl rfl rfl ?_
            refine g_val rfl rfl rfl (y_pick_f rfl rfl) ?_
            refine g_val rfl rfl rfl (y_assign rfl) ?_
            refine g_nil (g_then (g_ret ?_))
            refine g_end1 Tryd.results7 rfl ?_
            exfalso
            first | omega | (simp_all; done)
        · skip
          refine g_not rfl rfl rfl ?_
          refine g_not rfl rfl rfl ?_
          refine g_not rfl rfl rfl ?_
          refine g_not rfl rfl rfl ?_
          refine g_val rfl rfl rfl (y_pick_f rfl rfl) ?_
          refine g_val rfl rfl rfl (y_move rfl) ?_
          refine g_not rfl rfl rfl ?_
          refine g_not rfl rfl rfl ?_
          refine g_not rfl rfl rfl ?_
          refine g_not rfl rfl rfl ?_
          refine g_not rfl rfl rfl ?_
          refine g_not rfl rfl rfl ?_
          refine g_not rfl rfl rfl ?_
          refine g_not rfl rfl rfl ?_
          refine g_not rfl rfl rfl ?_
          refine g_not rfl rfl rfl ?_
          refine g_val rfl rfl rfl (y_pick_f rfl rfl) ?_
          refine g_val rfl rfl rfl (y_move rfl) ?_
          refine g_not rfl rfl rfl ?_
          refine g_not rfl rfl rfl ?_
          refine g_not rfl rfl rfl ?_
          refine g_not rfl rfl rfl ?_
          refine g_not rfl rfl rfl ?_
          refine g_not rfl rfl rfl ?_
          refine g_not rfl rfl rfl ?_
          refine g_not rfl rfl rfl ?_
          refine g_not rfl rfl rfl ?_
          refine g_not rfl rfl rfl ?_
          refine g_val rfl rfl rfl (y_pick_f rfl rfl) ?_
          refine g_val rfl rfl rfl (y_assign rfl) ?_
          refine g_nil (g_then (g_ret ?_))
          refine g_end1 Tryd.results7 rfl ?_
          exfalso
          first | omega | (simp_all; done)
      · skip
        refine g_not rfl rfl rfl ?_
        refine g_not rfl rfl rfl ?_
        refine g_val rfl rfl rfl (y_pick_f rfl rfl) ?_
        refine g_val rfl rfl rfl (y_move rfl) ?_
        refine g_not rfl rfl rfl ?_
        refine g_not rfl rfl rfl ?_
        refine g_not rfl rfl rfl ?_
        refine g_not rfl rfl rfl ?_
        refine g_val rfl rfl rfl (y_pick_f rfl rfl) ?_
        refine g_val rfl rfl rfl (y_move rfl) ?_
        refine g_not rfl rfl rfl ?_
        refine g_not rfl rfl rfl ?_
        refine g_not rfl rfl rfl ?_
        refine g_not rfl rfl rfl ?_
        refine g_not rfl rfl rfl ?_
        refine g_not rfl rfl rfl ?_
        refine g_not rfl rfl rfl ?_
        refine g_not rfl rfl rfl ?_
        refine g_not rfl rfl rfl ?_
        refine g_not rfl rfl rfl ?_
        refine g_val rfl rfl rfl (y_pick_f rfl rfl) ?_
        refine g_val rfl rfl rfl (y_move rfl) ?_
        refine g_not rfl rfl rfl ?_
        refine g_not rfl rfl rfl ?_
        refine g_not rfl rfl rfl ?_
        refine g_not rfl rfl rfl ?_
        refine g_not rfl rfl rfl ?_
        refine g_not rfl rfl rfl ?_
        refine g_not rfl rfl rfl ?_
        refine g_not rfl rfl rfl ?_
        refine g_not rfl rfl rfl ?_
        refine g_not rfl rfl rfl ?_
        refine g_val rfl rfl rfl (y_pick_f rfl rfl) ?_
        refine g_val rfl rfl rfl (y_assign rfl) ?_
        refine g_nil (g_then (g_ret ?_))
        refine g_end1 Tryd.results7 rfl ?_
        exfalso
        first | omega | (simp_all; done)
    · skip
      refine g_not rfl rfl rfl ?_
      refine g_not rfl rfl rfl ?_
      refine g_val rfl rfl rfl (y_pick_f rfl rfl) ?_
      refine g_val rfl rfl rfl (y_move rfl) ?_
      refine g_not rfl rfl rfl ?_
      refine g_not rfl rfl rfl ?_
      refine g_val rfl rfl rfl (y_pick_f rfl rfl) ?_
      refine g_val rfl rfl rfl (y_move rfl) ?_
      refine g_not rfl rfl rfl ?_
      refine g_not rfl rfl rfl ?_
      refine g_not rfl rfl rfl ?_
      refine g_not rfl rfl rfl ?_
      refine g_val rfl rfl rfl (y_pick_f rfl rfl) ?_
      refine g_val rfl rfl rfl (y_move rfl) ?_
      refine g_not rfl rfl rfl ?_
      refine g_not rfl rfl rfl ?_
      refine g_not rfl rfl rfl ?_
      refine g_not rfl rfl rfl ?_
      refine g_not rfl rfl rfl ?_
      refine g_not rfl rfl rfl ?_
      refine g_not rfl rfl rfl ?_
      refine g_not rfl rfl rfl ?_
      refine g_not rfl rfl rfl ?_
      refine g_not rfl rfl rfl ?_
      refine g_val rfl rfl rfl (y_pick_f rfl rfl) ?_
      refine g_val rfl rfl rfl (y_move rfl) ?_
      refine g_not rfl rfl rfl ?_
      refine g_not rfl rfl rfl ?_
      refine g_not rfl rfl rfl ?_
      refine g_not rfl rfl rfl ?_
      refine g_not rfl rfl rfl ?_
      refine g_not rfl rfl rfl ?_
      refine g_not rfl rfl rfl ?_
      refine g_not rfl rfl rfl ?_
      refine g_not rfl rfl rfl ?_
      refine g_not rfl rfl rfl ?_
      refine g_val rfl rfl rfl (y_pick_f rfl rfl) ?_
      refine g_val rfl rfl rfl (y_assign rfl) ?_
      refine g_nil (g_then (g_ret ?_))
      refine g_end1 Tryd.results7 rfl ?_
      exfalso
      first | omega | (simp_all; done)
  · skip
    refine g_not rfl rfl rfl ?_
    refine g_not rfl rfl rfl ?_
    refine g_not rfl rfl rfl ?_
    refine g_not rfl rfl rfl ?_
    refine g_not rfl rfl rfl ?_
    refine g_not rfl rfl rfl ?_
    refine g_val rfl rfl rfl (y_pick_f rfl rfl) ?_
    refine g_val rfl rfl rfl (y_move rfl) ?_
    refine g_not rfl rfl rfl ?_
    refine g_not rfl rfl rfl ?_
    refine g_val rfl rfl rfl (y_pick_f rfl rfl) ?_
    refine g_val rfl rfl rfl (y_move rfl) ?_
    refine g_not rfl rfl rfl ?_
    refine g_not rfl rfl rfl ?_
    refine g_val rfl rfl rfl (y_pick_f rfl rfl) ?_
    refine g_val rfl rfl rfl (y_move rfl) ?_
    refine g_not rfl rfl rfl ?_
    refine g_not rfl rfl rfl ?_
    refine g_not rfl rfl rfl ?_
    refine g_not rfl rfl rfl ?_
    refine g_val rfl rfl rfl (y_pick_f rfl rfl) ?_
    refine g_val rfl rfl rfl (y_move rfl) ?_
    refine g_not rfl rfl rfl ?_
    refine g_not rfl rfl rfl ?_
    refine g_not rfl rfl rfl ?_
    refine g_not rfl rfl rfl ?_
    refine g_not rfl rfl rfl ?_
    refine g_not rfl rfl rfl ?_
    refine g_not rfl rfl rfl ?_
    refine g_not rfl rfl rfl ?_
    refine g_not rfl rfl rfl ?_
    refine g_not rfl rfl rfl ?_
    refine g_val rfl rfl rfl (y_pick_f rfl rfl) ?_
    refine g_val rfl rfl rfl (y_move rfl) ?_
    refine g_not rfl rfl rfl ?_
    refine g_not rfl rfl rfl ?_
    refine g_not rfl rfl rfl ?_
    refine g_not rfl rfl rfl ?_
    refine g_not rfl rfl rfl ?_
    refine g_not rfl rfl rfl ?_
    refine g_not rfl rfl rfl ?_
    refine g_not rfl rfl rfl ?_
    refine g_not rfl rfl rfl ?_
    refine g_not rfl rfl rfl ?_
    refine g_val rfl rfl rfl (y_pick_f rfl rfl) ?_
    refine g_val rfl rfl rfl (y_assign rfl) ?_
    refine g_nil (g_then (g_ret ?_))
    refine g_end1 Tryd.results7 rfl ?_
    exfalso
    first | omega | (simp_all; done)

end Go.Proofs.YthikabfmgmbbcaaDoor
