/- Digits, figures, texts; moved at any bits; PlaceTells. -/
import Derived.Test.YthikabfmgmbbcaaDoorPlt
import Derived.Lib.AppendIntMem
namespace Go.Proofs.YthikabfmgmbbcaaDoor
open Go Go.RowKit


theorem dec_small (u : Nat) (h : u < 10) : Lib.decDigits u = [UInt8.ofNat (48 + u)] := by rw [Lib.decDigits, dif_pos h]
theorem dec_big (u : Nat) (h : ¬ u < 10) : Lib.decDigits u = Lib.decDigits (u / 10) ++ [UInt8.ofNat (48 + u % 10)] := by rw [Lib.decDigits, dif_neg h]
theorem dec_len (u : Nat) : (Lib.decDigits u).length ≤ u + 1 ∧ 1 ≤ (Lib.decDigits u).length := by
  induction u using Nat.strongRecOn with
  | ind u ih =>
    by_cases h : u < 10
    · rw [dec_small u h]; simp
    · rw [dec_big u h, List.length_append, List.length_singleton]
      have := ih (u / 10) (by omega)
      omega
theorem dig_byte (k : Int) (h0 : 0 ≤ k) : ((⟨#[48, 49, 50, 51, 52, 53, 54, 55, 56, 57]⟩ : ByteArray).extract (k.tmod 10).toNat (k.tmod 10 + 1).toNat).data.toList = [UInt8.ofNat (48 + k.toNat % 10)] := by
  have e : k.tmod 10 = k % 10 := by rw [Int.tmod_eq_emod_of_nonneg h0]
  rw [e]
  have h : k.toNat % 10 = (k % 10).toNat := by omega
  rw [h]
  have h : k % 10 = 0 ∨ k % 10 = 1 ∨ k % 10 = 2 ∨ k % 10 = 3 ∨ k % 10 = 4 ∨ k % 10 = 5 ∨ k % 10 = 6 ∨ k % 10 = 7 ∨ k % 10 = 8 ∨ k % 10 = 9 := by omega
  rcases h with h | h | h | h | h | h | h | h | h | h <;> rw [h] <;> rfl
theorem ba_ext {t : ByteArray} {l : List UInt8} (h : t.data.toList = l) : t = ⟨l.toArray⟩ := by
  subst h; cases t; simp
theorem mk_data (l : List UInt8) : (⟨l.toArray⟩ : ByteArray).data.toList = l := by simp
theorem dig_sz (k : Int) (t : ByteArray) (h0 : 0 ≤ k) : ((⟨#[48, 49, 50, 51, 52, 53, 54, 55, 56, 57]⟩ : ByteArray).extract (k.tmod 10).toNat (k.tmod 10 + 1).toNat ++ t).size = t.size + 1 := by
  rw [← dlen, app_data, dig_byte k h0]; simp only [List.length_append, List.length_singleton, dlen]; omega
/-- What is put ahead, and what is still to come. -/
def digI (n k : Int) (t : List UInt8) : Prop := (t = [] ∧ k = n) ∨ (t ≠ [] ∧ ((k = 0 ∧ Lib.decDigits n.toNat = t) ∨ (0 < k ∧ Lib.decDigits n.toNat = Lib.decDigits k.toNat ++ t)))
theorem dig_step (n k : Int) (t : List UInt8) (h0 : 0 ≤ k) (h : digI n k t) (hk : 0 < k ∨ t = []) : digI n (k / 10) (UInt8.ofNat (48 + k.toNat % 10) :: t) := by
  have e : Lib.decDigits n.toNat = Lib.decDigits k.toNat ++ t := by
    rcases h with ⟨h1, h2⟩ | ⟨h1, ⟨h2, h3⟩ | ⟨h2, h3⟩⟩
    · rw [h1, h2, List.append_nil]
    · rcases hk with q | q
      · omega
      · exact absurd q h1
    · exact h3
  refine .inr ⟨by simp, ?_⟩
  by_cases q : k < 10
  · left
    refine ⟨by omega, ?_⟩
    rw [e, dec_small k.toNat (by omega), show k.toNat % 10 = k.toNat by omega]; rfl
  · right
    refine ⟨by omega, ?_⟩
    rw [e, dec_big k.toNat (by omega), show (k / 10).toNat = k.toNat / 10 by omega]; simp
theorem dig_end (n k : Int) (t : List UInt8) (h0 : 0 ≤ k) (h : digI n k t) (hk : ¬ 0 < k) (ht : t ≠ []) : Lib.decDigits n.toNat = t := by
  rcases h with ⟨h1, h2⟩ | ⟨h1, ⟨h2, h3⟩ | ⟨h2, h3⟩⟩
  · exact absurd h1 ht
  · exact h3
  · omega
theorem dig_size (n k : Int) (t : List UInt8) (hn : 0 ≤ n ∧ n ≤ 9007199254740992) (h : digI n k t) : t.length ≤ 9007199254740993 := by
  have hl := (dec_len n.toNat).1
  rcases h with ⟨h1, h2⟩ | ⟨h1, ⟨h2, h3⟩ | ⟨h2, h3⟩⟩
  · rw [h1]; simp
  · rw [h3] at hl; omega
  · rw [h3, List.length_append] at hl; omega

theorem digits_any (n : Int) (hn : 0 ≤ n ∧ n ≤ 9007199254740992) (w : World) :
    Calls Tryd.prog 29 #[.int .i64 n] w fun e w' => e = .returned (.string ⟨(Lib.decDigits n.toNat).toArray⟩) ∧ Below w.heap.size w w' := by
  refine fn_intro Tryd.func29 rfl Tryd.ntmps29 rfl rfl ?_
  refine g_seq (g_ops ?_)
  refine g_val rfl rfl rfl (y_assign rfl) ?_
  refine g_nil (g_then (g_seq (g_ops ?_)))
  refine g_val rfl rfl rfl (y_assign rfl) ?_
  refine g_nil (g_then (g_seq (g_block ?_)))
  refine g_loop (α := {x : Int × ByteArray // 0 ≤ x.1 ∧ x.1 ≤ 9007199254740992 ∧ digI n x.1 x.2.data.toList}) (fun x => [(0, .int .i64 x.1.1), (3, .string x.1.2)]) (fun x => St w [] []) (fun x => 2 * x.1.1.toNat + (if x.1.2.size = 0 then 1 else 0)) ⟨(n, ⟨#[]⟩), by omega, by omega, .inl ⟨rfl, rfl⟩⟩ [0, 3] rfl (fun w h => h.sub .slnil) ?_
  rintro ⟨⟨k, t⟩, hx⟩
  dsimp only
  dsimp only at hx
  obtain ⟨hk0, hk1, hd⟩ := hx
  have hm10 : k.tmod 10 = k % 10 := Int.tmod_eq_emod_of_nonneg hk0
  have hq10 : k.tdiv 10 = k / 10 := Int.tdiv_eq_ediv_of_nonneg hk0
  have hsz := dig_sz k t hk0
  have hts := dig_size n k t.data.toList hn hd
  rw [dlen] at hts
  refine g_seq (g_seq (g_ops ?_))
  refine g_val rfl rfl rfl (y_move rfl) ?_
  refine g_val rfl rfl rfl (y_igt rfl rfl) ?_
  refine g_val rfl rfl rfl (y_move rfl) ?_
  first | refine g_casep 6 rfl (fun h1 => ?_) (fun h1 => ?_) | refine g_caseb 6 rfl (fun h1 => ?_) (fun h1 => ?_)
  · skip
    refine g_not rfl rfl rfl ?_
    refine g_not rfl rfl rfl ?_
    refine g_val rfl rfl rfl (y_pick_t rfl rfl) ?_
    refine g_nil (g_then (g_cond_t rfl (g_skip (g_then (g_block (g_seq (g_ops ?_)))))))
    refine g_val rfl rfl rfl (y_move rfl) ?_
    refine g_val rfl rfl rfl (y_irem rfl rfl (by decide)) ?_
    refine g_val rfl rfl rfl (y_move rfl) ?_
    refine g_val rfl rfl rfl (y_irem rfl rfl (by decide)) ?_
    refine g_val rfl rfl rfl (by first | exact y_addi rfl rfl (by first | omega | (simp only [size_mk, ByteArray.size_append, ByteArray.size_extract]; omega)) | exact y_iadd rfl rfl) ?_
    refine g_val rfl rfl rfl (y_ssl rfl rfl rfl Tryd.underlying9 (by omega) (by omega) (by first | omega | (simp only [size_mk, List.length_cons, List.length_nil]; omega))) ?_
    refine g_val rfl rfl rfl (y_move rfl) ?_
    refine g_val rfl rfl rfl (y_scat rfl rfl (by first | omega | decide | (simp only [ByteArray.size_extract, ByteArray.size_append, size_mk, List.length_append, List.length_cons, List.length_nil] <;> omega))) ?_
    refine g_val rfl rfl rfl (y_assign rfl) ?_
    refine g_nil (g_then (g_ops ?_))
    refine g_val rfl rfl rfl (y_move rfl) ?_
    refine g_val rfl rfl rfl (by first | exact y_quoi rfl rfl (by decide) (by omega) | exact y_iquo rfl rfl (by decide)) ?_
    refine g_val rfl rfl rfl (y_assign rfl) ?_
    refine g_nil (g_in_normal ?_)
    exact g_again ⟨(k.tdiv 10, _), by dsimp only; omega, by dsimp only; omega, by dsimp only; rw [app_data, dig_byte k (by omega), hq10, List.singleton_append]; exact dig_step n k _ (by omega) hd (by first | (left; omega) | (right; rw [‹t = _›]))⟩ [0, 3] (by dsimp only; rw [hsz, if_neg (by omega)]; first | (split <;> omega) | (rw [if_pos (by rw [‹t = _›]; rfl)]; omega)) rfl (fun w h => h.sub .slnil)
  · skip
    refine g_val rfl rfl rfl (y_move rfl) ?_
    refine g_val rfl rfl rfl (y_seq rfl rfl) ?_
    refine g_val rfl rfl rfl (y_pick_f rfl rfl) ?_
    refine g_nil (g_then ?_)
    first | refine g_casep 9 rfl (fun h2 => ?_) (fun h2 => ?_) | refine g_caseb 9 rfl (fun h2 => ?_) (fun h2 => ?_)
    · skip
      refine g_cond_t rfl (g_skip (g_then (g_block (g_seq (g_ops ?_)))))
      refine g_val rfl rfl rfl (y_move rfl) ?_
      refine g_val rfl rfl rfl (y_irem rfl rfl (by decide)) ?_
      refine g_val rfl rfl rfl (y_move rfl) ?_
      refine g_val rfl rfl rfl (y_irem rfl rfl (by decide)) ?_
      refine g_val rfl rfl rfl (by first | exact y_addi rfl rfl (by first | omega | (simp only [size_mk, ByteArray.size_append, ByteArray.size_extract]; omega)) | exact y_iadd rfl rfl) ?_
      refine g_val rfl rfl rfl (y_ssl rfl rfl rfl Tryd.underlying9 (by omega) (by omega) (by first | omega | (simp only [size_mk, List.length_cons, List.length_nil]; omega))) ?_
      refine g_val rfl rfl rfl (y_move rfl) ?_
      refine g_val rfl rfl rfl (y_scat rfl rfl (by first | omega | decide | (simp only [ByteArray.size_extract, ByteArray.size_append, size_mk, List.length_append, List.length_cons, List.length_nil] <;> omega))) ?_
      refine g_val rfl rfl rfl (y_assign rfl) ?_
      refine g_nil (g_then (g_ops ?_))
      refine g_val rfl rfl rfl (y_move rfl) ?_
      refine g_val rfl rfl rfl (by first | exact y_quoi rfl rfl (by decide) (by omega) | exact y_iquo rfl rfl (by decide)) ?_
      refine g_val rfl rfl rfl (y_assign rfl) ?_
      refine g_nil (g_in_normal ?_)
      exact g_again ⟨(k.tdiv 10, _), by dsimp only; omega, by dsimp only; omega, by dsimp only; rw [app_data, dig_byte k (by omega), hq10, List.singleton_append]; exact dig_step n k _ (by omega) hd (by first | (left; omega) | (right; rw [‹t = _›]))⟩ [0, 3] (by dsimp only; rw [hsz, if_neg (by omega)]; first | (split <;> omega) | (rw [if_pos (by rw [‹t = _›]; rfl)]; omega)) rfl (fun w h => h.sub .slnil)
    · skip
      refine g_cond_f rfl (g_exit (g_then_exit (g_then_exit (g_in_exit (g_then (g_seq (g_ops ?_)))))))
      refine g_val rfl rfl rfl (y_move rfl) ?_
      refine g_val rfl rfl rfl (y_assign rfl) ?_
      refine g_nil (g_then (g_ret ?_))
      refine g_end1 Tryd.results29 rfl ?_
      exact fun w hS => ⟨by rw [dig_end n k t.data.toList (by omega) hd (by omega) (fun q => ‹¬ t = _› (ba_inj q))], hS.below⟩


/-- A word as text: its whole part's digits, or a question mark. -/
def figT (u : Nat) : ByteArray := if (fgt u 0 || feq u 0) = true ∧ (flt u 4845873199050653696 || feq u 4845873199050653696) = true then (match (FloatKind.f64.decode u).toInt .zero with
  | some n => if feq (fl n) u = true then ⟨(Lib.decDigits n.toNat).toArray⟩ else ⟨#[63]⟩
  | none => ⟨#[63]⟩) else ⟨#[63]⟩
theorem fig_q (u : Nat) (h : ¬ ((fgt u 0 || feq u 0) = true ∧ (flt u 4845873199050653696 || feq u 4845873199050653696) = true)) : figT u = ⟨#[63]⟩ := by unfold figT; rw [if_neg h]
theorem fig_n (u : Nat) (n : Int) (h1 : (fgt u 0 || feq u 0) = true) (h2 : (flt u 4845873199050653696 || feq u 4845873199050653696) = true) (hn : (FloatKind.f64.decode u).toInt .zero = some n) : figT u = if feq (fl n) u = true then ⟨(Lib.decDigits n.toNat).toArray⟩ else ⟨#[63]⟩ := by
  unfold figT; rw [if_pos ⟨h1, h2⟩, hn]
theorem fig_size (u : Nat) : (figT u).size ≤ 9007199254740993 := by
  by_cases h : (fgt u 0 || feq u 0) = true ∧ (flt u 4845873199050653696 || feq u 4845873199050653696) = true
  · obtain ⟨n, hn, h0, h1⟩ := fig_cond u h.1 h.2
    rw [fig_n u n h.1 h.2 hn]
    have := (dec_len n.toNat).1
    split
    · rw [size_mk]; omega
    · decide
  · rw [fig_q u h]; decide
theorem ret_str {a b : ByteArray} (h : a = b) : Ending.returned (.string a) = .returned (.string b) := by rw [h]
section
variable {P : Program} {N : Nat} {R : Regs} {S : World → Prop} {Q : Exit → Act → World → Prop} {ops : Array Oper} {rest : List Oper} {W0 : World} {F : List Nat} {L : List Ent}
variable {dst : Option Tmp} {ty t t' : TypeId} {pos : String} {af : Array Edge} {gd : Option (Nat × Bool)} {x y : Operand}
theorem y_fromG {u : Nat} {a : Int} (hx : ev R x = some (.float .f64 u)) (hs : P.underlying t = some (.float .f64)) (hd : P.underlying t' = some (.int .i64)) (hn : (FloatKind.f64.decode u).toInt .zero = some a) (ha : 0 ≤ a ∧ a ≤ 9007199254740992) : Yv P N R S ⟨dst, .convert t t' x, ty, pos, af, gd⟩ (.int .i64 a) := y_conv hx fun w => by
  have e1 : IntKind.i64.max = 9223372036854775807 := by decide
  have e2 : IntKind.i64.min = -9223372036854775808 := by decide
  have h1 : IntKind.i64.min ≤ a ∧ a ≤ IntKind.i64.max := by omega
  simp [convert, Sem.run_bind, run_underlying hs w, run_underlying hd w, Conv.floatToInt, hn, h1]
  intro hh; omega
theorem notf {b : Bool} (h : (!b) = false) : b = true := by simpa using h
theorem g_callx {α : Type} {d : Nat} {f : FuncId} {xs : List Operand} {ats : Array TypeId} {vs : List Value} (r : α → Value)
    (hw : want ops R ⟨some d, .call { callee := .value (.func f), args := xs.toArray, argTypes := ats }, ty, pos, af, gd⟩ = some true) (hN : Nat.blt d N = true)
    (hx : xs.mapM (ev R) = some vs) (hf : ∀ args w, (callFunc f args).run P w = .ok (.enter f args) w) (hc : ∀ w, St W0 F L w → Calls P f vs.toArray w (fun e w' => ∃ x, e = .returned (r x) ∧ Below w.heap.size w w'))
    (h : ∀ x, G N ((d, r x) :: R) (St W0 F L) (wpList P ops Q rest)) : G N R (St W0 F L) (wpList P ops Q (⟨some d, .call { callee := .value (.func f), args := xs.toArray, argTypes := ats }, ty, pos, af, gd⟩ :: rest)) :=
  g_call r (fun _ => St W0 F L) hw hN hx hf (fun w hS => (hc w hS).mono fun _ _ ⟨x, he, hb⟩ => ⟨x, he, by simpa using hS.then (St.of_below hb)⟩) h
end
/-- What a place, moved by a text, may be, whatever its parts. -/
def mvR (u v : Nat) (x : List UInt8) (r r' : Nat) : Prop := if (lcL x).1 = 0 then r = u ∧ addR v (fl (lcL x).2) r' else addR u (fl (lcL x).1) r ∧ r' = fl ((lcL x).2 + 1)
theorem mv_same (u v : Nat) (x : List UInt8) (r r' q q' : Nat) (h : mvR u v x r r') (h' : mvR u v x q q') : cmpI r r' q q' = 0 := by
  unfold mvR at h h'
  unfold cmpI
  split at h <;> split at h' <;> (try contradiction)
  · rw [h.1, h'.1, ord_self, add_ord _ _ _ _ h.2 h'.2]; simp
  · rw [add_ord _ _ _ _ h.1 h'.1, h.2, h'.2, ord_self]; simp
abbrev Pow (w : World) : Prop := Lib.TabIs Tryd.prog w "internal/strconv.uint64pow10" .u64 Lib.pow10Tab
theorem itoa_any (n : Int) (h0 : 0 ≤ n) (h1 : n ≤ 9007199254740992) (w : World) (hT : Pow w) : Calls Tryd.prog 28 #[.int .i64 n] w fun e w' => e = .returned (.string ⟨(Lib.decDigits n.toNat).toArray⟩) ∧ Below w.heap.size w w' :=
  (Tryd.strconv_Itoa n (by omega) (by omega) w hT).mono fun e w' ⟨he, k, os, hw⟩ => ⟨he.trans (by unfold Lib.itoa; rw [if_neg (by omega)]), hw ▸ Lib.below_grow _ _ (Nat.le_refl _) _ _⟩
theorem pow_stays {w w' : World} (h : Pow w) (hb : Below w.heap.size w w') : Pow w' := Lib.tabBelow_of_tabIs h w' hb

theorem fig_any (u : Nat) (w : World) (hT : Pow w) :
    Calls Tryd.prog 25 #[.float .f64 u] w fun e w' => e = .returned (.string (figT u)) ∧ Below w.heap.size w w' := by
  refine fn_intro Tryd.func25 rfl Tryd.ntmps25 rfl rfl ?_
  refine g_seq (g_ops ?_)
  refine g_val rfl rfl rfl (y_assign rfl) ?_
  refine g_nil (g_then (g_seq (g_seq (g_ops ?_))))
  refine g_val rfl rfl rfl (y_move rfl) ?_
  refine g_val rfl rfl rfl ((by first | exact y_fgeI rfl (fl_c fl_0) (by omega) (by omega) | exact y_fge rfl rfl)) ?_
  refine g_val rfl rfl rfl (y_move rfl) ?_
  first | refine g_casep 5 rfl (fun h1 => ?_) (fun h1 => ?_) | refine g_caseb 5 rfl (fun h1 => ?_) (fun h1 => ?_)
  · skip
    refine g_val rfl rfl rfl (y_move rfl) ?_
    refine g_val rfl rfl rfl ((by first | exact y_fleI rfl (fl_c fl_m) (by omega) (by omega) | exact y_fle rfl rfl)) ?_
    refine g_val rfl rfl rfl (y_pick_t rfl rfl) ?_
    refine g_val rfl rfl rfl ((by first | exact y_notp rfl | exact y_not rfl)) ?_
    refine g_val rfl rfl rfl (y_move rfl) ?_
    first | refine g_casep 10 rfl (fun h2 => ?_) (fun h2 => ?_) | refine g_caseb 10 rfl (fun h2 => ?_) (fun h2 => ?_)
    · skip
      refine g_not rfl rfl rfl ?_
      refine g_not rfl rfl rfl ?_
      refine g_not rfl rfl rfl ?_
      refine g_not rfl rfl rfl ?_
      refine g_not rfl rfl rfl ?_
      refine g_val rfl rfl rfl (y_pick_t rfl rfl) ?_
      refine g_nil (g_then (g_cond_t rfl (g_seq (g_ops ?_))))
      refine g_val rfl rfl rfl (y_assign rfl) ?_
      refine g_nil (g_then (g_ret (g_then_ret ?_)))
      refine g_end1 Tryd.results25 rfl ?_
      exact fun w hS => ⟨ret_str (by first | (rw [fig_n u n (by first | assumption | exact notf (by assumption)) (by first | assumption | exact notf (by assumption)) hn]; simp_all; done) | (rw [fig_q u (by rintro ⟨q1, q2⟩; simp_all)]; done)), hS.below⟩
    · skip
      refine g_val rfl rfl rfl (y_move rfl) ?_
      obtain ⟨n, hn, hn0, hn1⟩ := fig_cond u (by first | assumption | exact notf (by assumption)) (by first | assumption | exact notf (by assumption))
      refine g_val rfl rfl rfl (y_fromG rfl Tryd.underlying29 Tryd.underlying3 hn ⟨hn0, hn1⟩) ?_
      refine g_val rfl rfl rfl (y_toF rfl Tryd.underlying3 Tryd.underlying29) ?_
      refine g_val rfl rfl rfl (y_move rfl) ?_
      refine g_val rfl rfl rfl ((by first | exact y_fneI rfl rfl (by omega) (by omega) | exact y_fne rfl rfl)) ?_
      refine g_val rfl rfl rfl (y_pick_f rfl rfl) ?_
      refine g_nil (g_then ?_)
      first | refine g_casep 16 rfl (fun h3 => ?_) (fun h3 => ?_) | refine g_caseb 16 rfl (fun h3 => ?_) (fun h3 => ?_)
      · skip
        refine g_cond_t rfl (g_seq (g_ops ?_))
        refine g_val rfl rfl rfl (y_assign rfl) ?_
        refine g_nil (g_then (g_ret (g_then_ret ?_)))
        refine g_end1 Tryd.results25 rfl ?_
        exact fun w hS => ⟨ret_str (by first | (rw [fig_n u n (by first | assumption | exact notf (by assumption)) (by first | assumption | exact notf (by assumption)) hn]; simp_all; done) | (rw [fig_q u (by rintro ⟨q1, q2⟩; simp_all)]; done)), hS.below⟩
      · skip
        refine g_cond_f rfl (g_skip (g_then (g_seq (g_ops ?_))))
        refine g_val rfl rfl rfl (y_move rfl) ?_
        refine g_val rfl rfl rfl (y_fromG rfl Tryd.underlying29 Tryd.underlying3 hn ⟨hn0, hn1⟩) ?_
        refine g_call1 rfl rfl rfl Tryd.call28 (fun w hS => itoa_any n hn0 hn1 w (pow_stays hT hS.below)) ?_
        refine g_val rfl rfl rfl (y_assign rfl) ?_
        refine g_nil (g_then (g_ret ?_))
        refine g_end1 Tryd.results25 rfl ?_
        exact fun w hS => ⟨ret_str (by first | (rw [fig_n u n (by first | assumption | exact notf (by assumption)) (by first | assumption | exact notf (by assumption)) hn]; simp_all; done) | (rw [fig_q u (by rintro ⟨q1, q2⟩; simp_all)]; done)), hS.below⟩
  · skip
    refine g_not rfl rfl rfl ?_
    refine g_not rfl rfl rfl ?_
    refine g_val rfl rfl rfl (y_pick_f rfl rfl) ?_
    refine g_val rfl rfl rfl ((by first | exact y_notp rfl | exact y_not rfl)) ?_
    refine g_val rfl rfl rfl (y_move rfl) ?_
    first | refine g_casep 10 rfl (fun h4 => ?_) (fun h4 => ?_) | refine g_caseb 10 rfl (fun h4 => ?_) (fun h4 => ?_)
    · skip
      refine g_not rfl rfl rfl ?_
      refine g_not rfl rfl rfl ?_
      refine g_not rfl rfl rfl ?_
      refine g_not rfl rfl rfl ?_
      refine g_not rfl rfl rfl ?_
      refine g_val rfl rfl rfl (y_pick_t rfl rfl) ?_
      refine g_nil (g_then (g_cond_t rfl (g_seq (g_ops ?_))))
      refine g_val rfl rfl rfl (y_assign rfl) ?_
      refine g_nil (g_then (g_ret (g_then_ret ?_)))
      refine g_end1 Tryd.results25 rfl ?_
      exact fun w hS => ⟨ret_str (by first | (rw [fig_n u n (by first | assumption | exact notf (by assumption)) (by first | assumption | exact notf (by assumption)) hn]; simp_all; done) | (rw [fig_q u (by rintro ⟨q1, q2⟩; simp_all)]; done)), hS.below⟩
    · skip
      exact absurd h4 (by decide)

theorem rfig_any (u : Nat) (w : World) :
    Calls Tryd.prog 26 #[.float .f64 u] w fun e w' => e = .returned (.string (figT u)) ∧ Below w.heap.size w w' := by
  refine fn_intro Tryd.func26 rfl Tryd.ntmps26 rfl rfl ?_
  refine g_seq (g_ops ?_)
  refine g_val rfl rfl rfl (y_assign rfl) ?_
  refine g_nil (g_then (g_seq (g_seq (g_ops ?_))))
  refine g_val rfl rfl rfl (y_move rfl) ?_
  refine g_val rfl rfl rfl ((by first | exact y_fgeI rfl (fl_c fl_0) (by omega) (by omega) | exact y_fge rfl rfl)) ?_
  refine g_val rfl rfl rfl (y_move rfl) ?_
  first | refine g_casep 5 rfl (fun h1 => ?_) (fun h1 => ?_) | refine g_caseb 5 rfl (fun h1 => ?_) (fun h1 => ?_)
  · skip
    refine g_val rfl rfl rfl (y_move rfl) ?_
    refine g_val rfl rfl rfl ((by first | exact y_fleI rfl (fl_c fl_m) (by omega) (by omega) | exact y_fle rfl rfl)) ?_
    refine g_val rfl rfl rfl (y_pick_t rfl rfl) ?_
    refine g_val rfl rfl rfl ((by first | exact y_notp rfl | exact y_not rfl)) ?_
    refine g_val rfl rfl rfl (y_move rfl) ?_
    first | refine g_casep 10 rfl (fun h2 => ?_) (fun h2 => ?_) | refine g_caseb 10 rfl (fun h2 => ?_) (fun h2 => ?_)
    · skip
      refine g_not rfl rfl rfl ?_
      refine g_not rfl rfl rfl ?_
      refine g_not rfl rfl rfl ?_
      refine g_not rfl rfl rfl ?_
      refine g_not rfl rfl rfl ?_
      refine g_val rfl rfl rfl (y_pick_t rfl rfl) ?_
      refine g_nil (g_then (g_cond_t rfl (g_seq (g_ops ?_))))
      refine g_val rfl rfl rfl (y_assign rfl) ?_
      refine g_nil (g_then (g_ret (g_then_ret ?_)))
      refine g_end1 Tryd.results26 rfl ?_
      exact fun w hS => ⟨ret_str (by first | (rw [fig_n u n (by first | assumption | exact notf (by assumption)) (by first | assumption | exact notf (by assumption)) hn]; simp_all; done) | (rw [fig_q u (by rintro ⟨q1, q2⟩; simp_all)]; done)), hS.below⟩
    · skip
      refine g_val rfl rfl rfl (y_move rfl) ?_
      obtain ⟨n, hn, hn0, hn1⟩ := fig_cond u (by first | assumption | exact notf (by assumption)) (by first | assumption | exact notf (by assumption))
      refine g_val rfl rfl rfl (y_fromG rfl Tryd.underlying29 Tryd.underlying3 hn ⟨hn0, hn1⟩) ?_
      refine g_val rfl rfl rfl (y_toF rfl Tryd.underlying3 Tryd.underlying29) ?_
      refine g_val rfl rfl rfl (y_move rfl) ?_
      refine g_val rfl rfl rfl ((by first | exact y_fneI rfl rfl (by omega) (by omega) | exact y_fne rfl rfl)) ?_
      refine g_val rfl rfl rfl (y_pick_f rfl rfl) ?_
      refine g_nil (g_then ?_)
      first | refine g_casep 16 rfl (fun h3 => ?_) (fun h3 => ?_) | refine g_caseb 16 rfl (fun h3 => ?_) (fun h3 => ?_)
      · skip
        refine g_cond_t rfl (g_seq (g_ops ?_))
        refine g_val rfl rfl rfl (y_assign rfl) ?_
        refine g_nil (g_then (g_ret (g_then_ret ?_)))
        refine g_end1 Tryd.results26 rfl ?_
        exact fun w hS => ⟨ret_str (by first | (rw [fig_n u n (by first | assumption | exact notf (by assumption)) (by first | assumption | exact notf (by assumption)) hn]; simp_all; done) | (rw [fig_q u (by rintro ⟨q1, q2⟩; simp_all)]; done)), hS.below⟩
      · skip
        refine g_cond_f rfl (g_skip (g_then (g_seq (g_ops ?_))))
        refine g_val rfl rfl rfl (y_move rfl) ?_
        refine g_val rfl rfl rfl (y_fromG rfl Tryd.underlying29 Tryd.underlying3 hn ⟨hn0, hn1⟩) ?_
        refine g_call1 rfl rfl rfl Tryd.call29 (fun w hS => digits_any n ⟨hn0, hn1⟩ w) ?_
        refine g_val rfl rfl rfl (y_assign rfl) ?_
        refine g_nil (g_then (g_ret ?_))
        refine g_end1 Tryd.results26 rfl ?_
        exact fun w hS => ⟨ret_str (by first | (rw [fig_n u n (by first | assumption | exact notf (by assumption)) (by first | assumption | exact notf (by assumption)) hn]; simp_all; done) | (rw [fig_q u (by rintro ⟨q1, q2⟩; simp_all)]; done)), hS.below⟩
  · skip
    refine g_not rfl rfl rfl ?_
    refine g_not rfl rfl rfl ?_
    refine g_val rfl rfl rfl (y_pick_f rfl rfl) ?_
    refine g_val rfl rfl rfl ((by first | exact y_notp rfl | exact y_not rfl)) ?_
    refine g_val rfl rfl rfl (y_move rfl) ?_
    first | refine g_casep 10 rfl (fun h4 => ?_) (fun h4 => ?_) | refine g_caseb 10 rfl (fun h4 => ?_) (fun h4 => ?_)
    · skip
      refine g_not rfl rfl rfl ?_
      refine g_not rfl rfl rfl ?_
      refine g_not rfl rfl rfl ?_
      refine g_not rfl rfl rfl ?_
      refine g_not rfl rfl rfl ?_
      refine g_val rfl rfl rfl (y_pick_t rfl rfl) ?_
      refine g_nil (g_then (g_cond_t rfl (g_seq (g_ops ?_))))
      refine g_val rfl rfl rfl (y_assign rfl) ?_
      refine g_nil (g_then (g_ret (g_then_ret ?_)))
      refine g_end1 Tryd.results26 rfl ?_
      exact fun w hS => ⟨ret_str (by first | (rw [fig_n u n (by first | assumption | exact notf (by assumption)) (by first | assumption | exact notf (by assumption)) hn]; simp_all; done) | (rw [fig_q u (by rintro ⟨q1, q2⟩; simp_all)]; done)), hS.below⟩
    · skip
      exact absurd h4 (by decide)

theorem text_any (u v : Nat) (w : World) (hT : Pow w) :
    Calls Tryd.prog 19 #[.complex .f64 u v] w fun e w' => e = .returned (.string (figT u ++ (⟨#[58]⟩ : ByteArray) ++ figT v)) ∧ Below w.heap.size w w' := by
  have hz1 := fig_size u
  have hz2 := fig_size v
  have hz3 : (⟨#[58]⟩ : ByteArray).size = 1 := rfl
  refine fn_intro Tryd.func19 rfl Tryd.ntmps19 rfl rfl ?_
  refine g_seq (g_ops ?_)
  refine g_val rfl rfl rfl (y_assign rfl) ?_
  refine g_nil (g_then (g_seq (g_ops ?_)))
  refine g_val rfl rfl rfl (y_move rfl) ?_
  refine g_val rfl rfl rfl (y_real rfl) ?_
  refine g_call1 rfl rfl rfl Tryd.call25 (fun w hS => fig_any _ w (pow_stays hT hS.below)) ?_
  refine g_val rfl rfl rfl (y_scat rfl rfl (by first | omega | decide | (simp only [ByteArray.size_extract, ByteArray.size_append, size_mk, List.length_append, List.length_cons, List.length_nil] <;> omega))) ?_
  refine g_val rfl rfl rfl (y_move rfl) ?_
  refine g_val rfl rfl rfl (y_imag rfl) ?_
  refine g_call1 rfl rfl rfl Tryd.call25 (fun w hS => fig_any _ w (pow_stays hT hS.below)) ?_
  refine g_val rfl rfl rfl (y_scat rfl rfl (by first | omega | decide | (simp only [ByteArray.size_extract, ByteArray.size_append, size_mk, List.length_append, List.length_cons, List.length_nil] <;> omega))) ?_
  refine g_val rfl rfl rfl (y_assign rfl) ?_
  refine g_nil (g_then (g_ret ?_))
  refine g_end1 Tryd.results19 rfl ?_
  exact fun w hS => ⟨rfl, hS.below⟩

theorem rtext_any (u v : Nat) (w : World) :
    Calls Tryd.prog 20 #[.complex .f64 u v] w fun e w' => e = .returned (.string (figT u ++ (⟨#[58]⟩ : ByteArray) ++ figT v)) ∧ Below w.heap.size w w' := by
  have hz1 := fig_size u
  have hz2 := fig_size v
  have hz3 : (⟨#[58]⟩ : ByteArray).size = 1 := rfl
  refine fn_intro Tryd.func20 rfl Tryd.ntmps20 rfl rfl ?_
  refine g_seq (g_ops ?_)
  refine g_val rfl rfl rfl (y_assign rfl) ?_
  refine g_nil (g_then (g_seq (g_ops ?_)))
  refine g_val rfl rfl rfl (y_move rfl) ?_
  refine g_val rfl rfl rfl (y_real rfl) ?_
  refine g_call1 rfl rfl rfl Tryd.call26 (fun w hS => rfig_any _ w) ?_
  refine g_val rfl rfl rfl (y_scat rfl rfl (by first | omega | decide | (simp only [ByteArray.size_extract, ByteArray.size_append, size_mk, List.length_append, List.length_cons, List.length_nil] <;> omega))) ?_
  refine g_val rfl rfl rfl (y_move rfl) ?_
  refine g_val rfl rfl rfl (y_imag rfl) ?_
  refine g_call1 rfl rfl rfl Tryd.call26 (fun w hS => rfig_any _ w) ?_
  refine g_val rfl rfl rfl (y_scat rfl rfl (by first | omega | decide | (simp only [ByteArray.size_extract, ByteArray.size_append, size_mk, List.length_append, List.length_cons, List.length_nil] <;> omega))) ?_
  refine g_val rfl rfl rfl (y_assign rfl) ?_
  refine g_nil (g_then (g_ret ?_))
  refine g_end1 Tryd.results20 rfl ?_
  exact fun w hS => ⟨rfl, hS.below⟩

end Go.Proofs.YthikabfmgmbbcaaDoor
