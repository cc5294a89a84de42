/- ProgramPlain: the walk. -/
import Derived.Test.YtpacnggomjepdaaPro
namespace Go.Proofs.Ytpacnggomjepdaa
open Go Go.RowKit

section
variable {P : Program} {N : Nat} {R : Regs} {Q : Exit → Act → World → Prop} {ops : Array Oper} {rest : List Oper} {W0 : World} {F : List Nat} {L : List Ent}
variable {ty e : TypeId} {pos : String} {af : Array Edge} {gd : Option (Nat × Bool)} {x y : Operand}
theorem set_same {α : Type} {L : List α} {i : Nat} {a : α} (h : L[i]? = some a) : L.set i a = L := by
  apply List.ext_getElem?
  intro j
  rw [List.getElem?_set]
  by_cases e : i = j
  · subst e; rw [if_pos rfl, h, if_pos (List.getElem?_eq_some_iff.1 h).1]
  · rw [if_neg e]
/-- append: a row that is owned, to another one. -/
theorem g_appRow {α : Type} (f : α → List Value) {d : Nat} {tt : TypeId} {size bytes m c : Nat} {v : Value} {p : Option Addr} {cs ds : List α} (i k : Nat)
    (hw : want ops R ⟨some d, .call { callee := .builtin .append, args := #[x, y], argTypes := #[tt, tt] }, ty, pos, af, gd⟩ = some true) (hN : Nat.blt d N = true)
    (hx : ev R x = some v) (hy : ev R y = some (.slice p m c)) (ht : P.underlying tt = some (.slice e)) (he : elemInfo P e = some (size, bytes))
    (hi : L[i]? = some (.row e size v cs.length (cs.flatMap f))) (hk : L[k]? = some (.row e size (.slice p m c) m (ds.flatMap f))) (hm : ds.length = m) (hl : ∀ a, (f a).length = size) (h1 : ∀ a, (f a).all (·.oneCell') = true)
    (hb : (cs.length + m) * bytes ≤ 140737488355328) (h63 : cs.length + m ≤ maxLen)
    (h : ∀ v', G N ((d, v') :: R) (St W0 F (L.set i (.row e size v' (cs ++ ds).length ((cs ++ ds).flatMap f)))) (wpList P ops Q rest)) :
    G N R (St W0 F L) (wpList P ops Q (⟨some d, .call { callee := .builtin .append, args := #[x, y], argTypes := #[tt, tt] }, ty, pos, af, gd⟩ :: rest)) := fun a w hR hS => by
  have ho : w.ownsRow 0 e size (.slice p m c) m (ds.flatMap f) := hS.get hk
  rcases ho.2 with ⟨q1, q2⟩ | ⟨g, cap, cur, q1, _⟩
  · cases q1
    obtain rfl : ds = [] := List.length_eq_zero_iff.1 hm
    refine (g_one hw fun K a w hR hS hK => ?_) a w hR hS
    obtain ⟨inf, z, q1, _⟩ := elemInfo_spec he
    have hr := run_append_owned_none (P := P) (w := w) 0 tt ty e inf size ht q1 v cs.length (cs.flatMap f) (hS.get hi)
    refine Oper.wp_ok (w' := w) (v := v) (by simp [execOp, resolve, invoke, builtin, hR.eval hx, hR.eval hy, hr]) (hK _ _ (h v _ _ (hR.put hN) ?_))
    rw [List.append_nil, set_same hi]
    exact hS
  · cases q1
    refine (g_append (n := cs.length) (m := m) (xs := cs.flatMap f) (news := ds.flatMap f) i hw hN hx hy ht he hi (by rw [fm_len f size hl, hm]) (fun w hS j u hu => ?_) ?_ hb h63 fun v' => ?_) a w hR hS
    · rw [Addr.add_mid, Nat.zero_add]
      exact row_cell (hS.get hk) hu
    · rw [List.all_eq_true]
      intro u hu
      obtain ⟨b, _, hb⟩ := List.mem_flatMap.1 hu
      exact List.all_eq_true.1 (h1 b) u hb
    · have := h v'
      rwa [List.length_append, hm, List.flatMap_append] at this
end
/-! ### The commands -/
def nmP (z : Int) : Int := bt ⟨#[100, 68, 103, 71, 104, 72, 108, 110, 78, 112, 80, 120, 98, 116]⟩ (z.tmod 14)
theorem nmP_all : ∀ n : Fin 256, nmP (n.val : Int) ≠ 123 ∧ nmP (n.val : Int) ≠ 125 ∧ nmP (n.val : Int) ≠ 58 := by decide +kernel
theorem nmP_set {z : Int} (h : 0 ≤ z ∧ z ≤ 255) : nmP z ≠ 123 ∧ nmP z ≠ 125 ∧ nmP z ≠ 58 := by
  have := nmP_all ⟨z.toNat, by omega⟩
  rwa [show (((⟨z.toNat, by omega⟩ : Fin 256).val : Nat) : Int) = z by show ((z.toNat : Nat) : Int) = z; omega] at this
def csP (f : Nat → Int) (k : Nat) : Cm := ⟨fl 1, fl ((k : Int) + 1), nmP (f k), ⟨#[]⟩, ⟨#[]⟩⟩
def c0Q : Cm := ⟨0, 0, 123, ⟨#[]⟩, ⟨#[]⟩⟩
def c1Q : Cm := ⟨0, 0, 125, ⟨#[]⟩, ⟨#[]⟩⟩
def csQ (f : Nat → Int) (M k : Nat) : Cm := match k with
  | 0 => c0Q
  | k + 1 => if k < M then csP f k else c1Q
theorem csQ_mid (f : Nat → Int) {M k : Nat} (h : k < M) : csQ f M (k + 1) = csP f k := by show (if k < M then _ else _) = _; rw [if_pos h]
theorem csQ_end (f : Nat → Int) (M : Nat) : csQ f M (M + 1) = c1Q := by show (if M < M then _ else _) = _; rw [if_neg (Nat.lt_irrefl _)]
theorem csQ_tx (f : Nat → Int) (M k : Nat) : (csQ f M k).tx = ⟨#[]⟩ := by
  unfold csQ
  split
  · rfl
  · split <;> rfl
theorem cml_snoc (cs : Nat → Cm) (i : Nat) : cml cs (i + 1) = cml cs i ++ [cs i] := by unfold cml; rw [List.range_succ, List.map_append]; rfl
theorem cml_Q (f : Nat → Int) (M : Nat) : [c0Q] ++ cml (csP f) M ++ [c1Q] = cml (csQ f M) (M + 2) := by
  rw [cml_snoc, csQ_end]
  congr 1
  have : ∀ k, k ≤ M → [c0Q] ++ cml (csP f) k = cml (csQ f M) (k + 1) := by
    intro k
    induction k with
    | zero => intro _; rfl
    | succ k ih => intro h; rw [cml_snoc (csQ f M), ← ih (by omega), csQ_mid f h, cml_snoc, List.append_assoc]
  exact this M (Nat.le_refl _)
section
variable {f : Nat → Int} {M : Nat} (hf : ∀ k, k < M → 0 ≤ f k ∧ f k ≤ 255)
include hf
theorem br_P : ∀ k, k ≤ M → brI (csP f) k = some ([], fun _ => 0) := by
  intro k
  induction k with
  | zero => intro _; rfl
  | succ k ih => intro h; exact bri_else (ih (by omega)) (nmP_set (hf k h)).1 (nmP_set (hf k h)).2.1
theorem lab_P : ∀ k, k ≤ M → labI (csP f) k = some (fun _ => none) := by
  intro k
  induction k with
  | zero => intro _; rfl
  | succ k ih => intro h; exact lab_else (ih (by omega)) (nmP_set (hf k h)).2.2
theorem comp_P {x : CX} (hM : M ≤ 180) (h : compR (csP f) M x) : ∃ J, x = ⟨insOf (csP f) J M, 0, 0, 0⟩ ∧ (∀ k, k < M → isB (csP f) k → J k = M) ∧ ∀ k, k < M → ¬ isB (csP f) k → J k = 0 := by
  obtain ⟨J, h1, h2⟩ := comp_is (by omega) (br_P hf M (Nat.le_refl _)) (lab_P hf M (Nat.le_refl _)) (fun k _ q => q.2.1 rfl) h
  refine ⟨J, h1, fun k hk hb => ?_, fun k hk hb => ?_⟩
  · rw [h2 k hk]; exact (finJ_end hb rfl).1
  · rw [h2 k hk]; unfold finJ; rw [if_neg hb]
theorem br_Q : ∀ k, k ≤ M → brI (csQ f M) (k + 1) = some ([0], fun _ => 0) := by
  intro k
  induction k with
  | zero => intro _; rfl
  | succ k ih =>
    intro h
    exact bri_else (ih (by omega)) (by rw [csQ_mid f h]; exact (nmP_set (hf k h)).1) (by rw [csQ_mid f h]; exact (nmP_set (hf k h)).2.1)
theorem lab_Q : ∀ k, k ≤ M → labI (csQ f M) (k + 1) = some (fun _ => none) := by
  intro k
  induction k with
  | zero => intro _; rfl
  | succ k ih => intro h; exact lab_else (ih (by omega)) (by rw [csQ_mid f h]; exact (nmP_set (hf k h)).2.2)
theorem comp_Q {x : CX} (hM : M ≤ 180) (h : compR (csQ f M) (M + 2) x) : ∃ J, x = ⟨insOf (csQ f M) J (M + 2), 0, 0, 0⟩ ∧ J 0 = (M : Int) + 1 ∧ (∀ k, k < M → isB (csP f) k → J (k + 1) = (M : Int) + 2) ∧ ∀ k, k < M → ¬ isB (csP f) k → J (k + 1) = 0 := by
  have hb : brI (csQ f M) (M + 2) = some ([], fun k => if k = 0 then ((M + 1 : Nat) : Int) else 0) := bri_shut (st := []) (t := 0) (br_Q hf M (Nat.le_refl _)) (by rw [csQ_end]; rfl)
  have hl : labI (csQ f M) (M + 2) = some (fun _ => none) := lab_else (lab_Q hf M (Nat.le_refl _)) (by rw [csQ_end]; decide)
  obtain ⟨J, h1, h2⟩ := comp_is (by omega) hb hl (fun k _ q => q.2.1 (csQ_tx f M k)) h
  refine ⟨J, h1, ?_, fun k hk hb => ?_, fun k hk hb => ?_⟩
  · rw [h2 0 (by omega)]
    unfold finJ
    rw [if_neg (show ¬ isB (csQ f M) 0 from fun q => by rcases (show (c0Q.nm = 98 ∨ c0Q.nm = 116) from q) with q | q <;> exact absurd q (by decide))]
    show (if (0 : Nat) = 0 then ((M + 1 : Nat) : Int) else 0) = _
    rw [if_pos rfl]; rfl
  · rw [h2 (k + 1) (by omega), (finJ_end (show isB (csQ f M) (k + 1) by unfold isB; rw [csQ_mid f hk]; exact hb) (csQ_tx f M _)).1]; rfl
  · rw [h2 (k + 1) (by omega)]
    unfold finJ
    rw [if_neg (show ¬ isB (csQ f M) (k + 1) by unfold isB; rw [csQ_mid f hk]; exact hb)]
    show (if k + 1 = 0 then ((M + 1 : Nat) : Int) else 0) = 0
    rw [if_neg (by omega)]
theorem deep_P : ∀ k, k ≤ M → deepI (csP f) k = (0, 0) := by
  intro k
  induction k with
  | zero => intro _; rfl
  | succ k ih =>
    intro h
    have a1 : (csP f k).nm ≠ 123 := (nmP_set (hf k h)).1
    have a2 : (csP f k).nm ≠ 125 := (nmP_set (hf k h)).2.1
    have e : deepO (csP f k).nm 0 = 0 := by unfold deepO; rw [if_neg a1, if_neg (fun q => a2 q.1)]
    unfold deepI
    rw [ih (by omega)]
    dsimp only
    rw [e]; rfl
theorem deep_Q : ∀ k, k ≤ M → deepI (csQ f M) (k + 1) = (1, 1) := by
  intro k
  induction k with
  | zero => intro _; rfl
  | succ k ih =>
    intro h
    have a1 : (csP f k).nm ≠ 123 := (nmP_set (hf k h)).1
    have a2 : (csP f k).nm ≠ 125 := (nmP_set (hf k h)).2.1
    have e : deepO (csQ f M (k + 1)).nm 1 = 1 := by rw [csQ_mid f h]; unfold deepO; rw [if_neg a1, if_neg (fun q => a2 q.1)]
    unfold deepI
    rw [ih (by omega)]
    dsimp only
    rw [e]; rfl
theorem deep_Q2 : (deepI (csQ f M) (M + 2)).2 = 1 := by
  unfold deepI
  rw [deep_Q hf M (Nat.le_refl _), csQ_end]; rfl
end
theorem place_eq (f : Nat → Int) {M k : Nat} (h : k < M) (hM : M ≤ 180) : (!(feq (csQ f M (k + 1)).re (csP f k).re && feq (csQ f M (k + 1)).im (csP f k).im)) = false := by
  rw [csQ_mid f h]
  show (!(feq (fl 1) (fl 1) && feq (fl ((k : Int) + 1)) (fl ((k : Int) + 1)))) = false
  rw [feq_fl (by decide) (by decide), feq_fl (by omega) (by omega)]
  simp

theorem y_rem14 {P : Program} {N : Nat} {R : Regs} {S : World → Prop} {dst : Option Tmp} {ty t t' : TypeId} {pos : String} {af : Array Edge} {gd : Option (Nat × Bool)} {x : Operand} {a : Int} (h : 0 ≤ a.tmod 14 ∧ a.tmod 14 < 14) (hx : ev R x = some (.int .i64 a)) :
    Yv P N R S ⟨dst, .binOp .rem t x (.const (.int .i64 14)) t', ty, pos, af, gd⟩ (.int .i64 (a.tmod 14)) := y_irem hx rfl (by decide)

set_option maxRecDepth 100000 in
theorem plain_any (p : Option Addr) (n c : Nat) (f : Nat → Int) (w : World) (hn : n ≤ 9223372036854775807) (hf : ∀ k, k < n → 0 ≤ f k ∧ f k ≤ 255) (hrd : RdSl w p n 1 (fun i _ => .int .u8 (f i))) :
    Calls Try.prog 5 #[.slice p n c] w fun e w' => e = .returned (.bool true) ∧ Below w.heap.size w w' := by
  refine fn_intro Try.func5 rfl Try.ntmps5 rfl rfl ?_
  refine g_seq (g_ops ?_)
  refine g_val rfl rfl rfl (y_assign rfl) ?_
  refine g_nil (g_then (g_seq (g_ops ?_)))
  refine g_nilRow 45 42 ?_
  refine g_val rfl rfl rfl (y_assign rfl) ?_
  refine g_nil (g_then (g_seq (g_seq (g_ops ?_))))
  refine g_val rfl rfl rfl (y_assign rfl) ?_
  refine g_nil (g_then (g_block ?_))
  refine g_loop (α := {x : Nat × Value // x.1 ≤ n ∧ x.1 ≤ 180}) (fun x => [(0, .slice p n c), (3, x.1.2), (4, .int .i64 (x.1.1 : Int))]) (fun x => St w [] [.row 45 42 x.1.2 (cml (csP f) x.1.1).length ((cml (csP f) x.1.1).flatMap cmC)]) (fun x => n - x.1.1) ⟨(0, .slice none 0 0), Nat.zero_le _, Nat.zero_le _⟩ [0, 3, 4] rfl (fun w h => h.sub (.cons_cons _ .slnil)) ?_
  rintro ⟨⟨i, v⟩, hx⟩
  dsimp only
  dsimp only at hx
  obtain ⟨hi0, hi1⟩ := hx
  have hcl := cml_len (csP f) i
  refine g_seq (g_seq (g_ops ?_))
  refine g_val rfl rfl rfl (y_move rfl) ?_
  refine g_val rfl rfl rfl (y_move rfl) ?_
  refine g_val rfl rfl rfl (y_llen rfl Try.underlying50) ?_
  refine g_val rfl rfl rfl (y_ilt rfl rfl) ?_
  refine g_val rfl rfl rfl (y_move rfl) ?_
  first | refine g_casep 21 rfl (fun h1 => ?_) (fun h1 => ?_) | refine g_caseb 21 rfl (fun h1 => ?_) (fun h1 => ?_)
  · skip
    refine g_val rfl rfl rfl (y_move rfl) ?_
    refine g_val rfl rfl rfl (y_ilt rfl rfl) ?_
    refine g_val rfl rfl rfl (y_pick_t rfl rfl) ?_
    refine g_nil (g_then ?_)
    first | refine g_casep 24 rfl (fun h2 => ?_) (fun h2 => ?_) | refine g_caseb 24 rfl (fun h2 => ?_) (fun h2 => ?_)
    · skip
      refine g_cond_t rfl (g_skip (g_then (g_seq (g_block (g_seq ?_)))))
      have hfi := hf i (by omega)
      have htm : 0 ≤ (f i).tmod 14 ∧ (f i).tmod 14 < 14 := ⟨Int.tmod_nonneg _ hfi.1, Int.tmod_lt_of_pos _ (by decide)⟩
      refine g_ops ?_
      refine g_val rfl rfl rfl (y_move rfl) ?_
      refine g_val rfl rfl rfl (y_move rfl) ?_
      refine g_val rfl rfl rfl (y_rdAddr hrd rfl rfl Try.underlying50 Try.sizeOf5 (by omega) (by omega)) ?_
      refine g_val (v := .int .u8 (f i)) rfl rfl rfl (y_rdLd (i := (i : Int)) hrd rfl Try.isAgg5 (by omega) (by omega) (by decide)) ?_
      refine g_val rfl rfl rfl (by first | exact y_toI64 rfl Try.underlying5 Try.underlying3 (by omega) | exact y_toInt rfl Try.underlying5 Try.underlying3) ?_
      refine g_val (v := .int .i64 ((f i).tmod 14)) rfl rfl rfl (y_rem14 htm rfl) ?_
      refine g_val (v := .int .u8 (nmP (f i))) rfl rfl rfl (y_sat rfl rfl Try.underlying9 (by omega) (show (f i).tmod 14 < 14 from htm.2)) ?_
      refine g_val rfl rfl rfl (y_assign rfl) ?_
      refine g_nil (g_then (g_ops ?_))
      refine g_val rfl rfl rfl (y_move rfl) ?_
      refine g_val rfl rfl rfl (y_move rfl) ?_
      refine g_val rfl rfl rfl (y_move rfl) ?_
      refine g_val rfl rfl rfl (by first | exact y_addi rfl rfl (by first | omega | (simp only [size_mk, ByteArray.size_append, ByteArray.size_extract]; omega)) | exact y_iadd rfl rfl) ?_
      refine g_val rfl rfl rfl (y_toF rfl Try.underlying3 Try.underlying51) ?_
      refine g_val rfl rfl rfl (y_cplx (fl_c fl_1) rfl) ?_
      refine g_val rfl rfl rfl (y_build (offs := [1, 0]) rfl Try.zeroValue45 (by kernel_rfl)) ?_
      refine g_buildSlice (offs := [0]) rfl rfl Try.underlying23 rfl Try.zeroValue45 (by kernel_rfl) (fun b1 => ?_)
      refine g_appS (bytes := 424) cmC ((csP f i)) 1 (j := 0) rfl rfl rfl rfl Try.underlying23 (by kernel_rfl) rfl rfl cmC_len rfl (by omega) (by have : maxLen = 9223372036854775807 := rfl; omega) (fun v2 => ?_)
      simp only [List.set_cons_zero, List.set_cons_succ]
      rw [← cml_snoc]
      refine g_val rfl rfl rfl (y_assign rfl) ?_
      refine g_nil (g_in_normal (g_then (g_ops ?_)))
      refine g_val rfl rfl rfl (y_move rfl) ?_
      refine g_val rfl rfl rfl (by first | exact y_addi rfl rfl (by first | omega | (simp only [size_mk, ByteArray.size_append, ByteArray.size_extract]; omega)) | exact y_iadd rfl rfl) ?_
      refine g_val rfl rfl rfl (y_assign rfl) ?_
      refine g_nil ?_
      exact g_again ⟨(i + 1, _), by dsimp only; omega, by dsimp only; omega⟩ [0, 3, 4] (by dsimp only; omega) rfl (fun w h => h.sub (.cons _ (.cons_cons _ .slnil)))
    · skip
      refine g_cond_f rfl (g_exit (g_then_exit (g_then_exit (g_in_exit (g_then (g_seq ?_))))))
      rw [cml_len]
      have hfi : ∀ k, k < i → 0 ≤ f k ∧ f k ≤ 255 := fun k hk => hf k (by omega)
      refine g_ops ?_
      refine g_val rfl rfl rfl (y_move rfl) ?_
      refine g_rowLen 0 rfl (fun pr3 cr3 hv3 => ?_)
      cases hv3
      refine g_callNew (fun x : {x : CX × Value // compR (csP f) (i) x.1} => compV x.1) (fun x => [.row 47 43 x.1.2 x.1.1.l.length (x.1.1.l.flatMap inC)]) rfl rfl rfl Try.call10 (fun w hS => compile_any _ (i) _ (csP f) w (by omega) ((fun k _ => show (⟨#[]⟩ : ByteArray).size ≤ 1000 by decide)) (rd_cm (hS.get (i := 0) rfl))) ?_
      rintro ⟨⟨cx_rp, v_rp⟩, hcx_rp⟩
      simp only [List.cons_append, List.nil_append]
      obtain ⟨J, rfl, hJb, hJn⟩ := comp_P hfi hi1 hcx_rp
      dsimp only
      rw [ins_len]
      refine g_val rfl rfl rfl (y_move rfl) ?_
      refine g_val (v := v_rp) rfl rfl rfl (y_extract rfl rfl) ?_
      refine g_val (v := .complex .f64 0 0) rfl rfl rfl (y_extract rfl rfl) ?_
      refine g_val (v := .int .i64 0) rfl rfl rfl (y_extract rfl rfl) ?_
      refine g_val rfl rfl rfl (y_assign rfl) ?_
      refine g_val rfl rfl rfl (y_assign rfl) ?_
      refine g_val rfl rfl rfl (y_assign rfl) ?_
      refine g_nil (g_then (g_seq (g_ops ?_)))
      refine g_val rfl rfl rfl (y_build (offs := [1]) rfl Try.zeroValue45 (by kernel_rfl)) ?_
      refine g_buildSlice (offs := [0]) rfl rfl Try.underlying23 rfl Try.zeroValue45 (by kernel_rfl) (fun b3 => ?_)
      refine g_val rfl rfl rfl (y_move rfl) ?_
      refine g_rowOf cmC [c0Q] 0 rfl rfl cmC_len rfl (by decide) ?_
      simp only [List.set_cons_zero]
      refine g_appRow (bytes := 424) cmC (cs := [c0Q]) (ds := cml (csP f) i) 0 2 rfl rfl rfl rfl Try.underlying23 (by kernel_rfl) rfl rfl (cml_len _ _) cmC_len cmC_one (by rw [List.length_singleton]; omega) (by rw [List.length_singleton]; have : maxLen = 9223372036854775807 := rfl; omega) (fun v9 => ?_)
      simp only [List.set_cons_zero]
      have hl9 : ([c0Q] ++ cml (csP f) i).length = i + 1 := by rw [List.length_append, List.length_singleton, cml_len]; omega
      refine g_val rfl rfl rfl (y_assign rfl) ?_
      refine g_nil (g_then (g_seq (g_ops ?_)))
      refine g_val rfl rfl rfl (y_move rfl) ?_
      refine g_val rfl rfl rfl (y_build (offs := [1]) rfl Try.zeroValue45 (by kernel_rfl)) ?_
      refine g_buildSlice (offs := [0]) rfl rfl Try.underlying23 rfl Try.zeroValue45 (by kernel_rfl) (fun b4 => ?_)
      refine g_appS (bytes := 424) cmC (c1Q) 1 (j := 0) rfl rfl rfl rfl Try.underlying23 (by kernel_rfl) rfl rfl cmC_len rfl (by omega) (by have : maxLen = 9223372036854775807 := rfl; omega) (fun v5 => ?_)
      simp only [List.set_cons_zero, List.set_cons_succ]
      rw [cml_Q, cml_len]
      refine g_val rfl rfl rfl (y_assign rfl) ?_
      refine g_nil (g_then (g_seq (g_ops ?_)))
      refine g_val rfl rfl rfl (y_move rfl) ?_
      refine g_rowLen 1 rfl (fun pr4 cr4 hv4 => ?_)
      cases hv4
      refine g_callNew (fun x : {x : CX × Value // compR (csQ f i) ((i + 2)) x.1} => compV x.1) (fun x => [.row 47 43 x.1.2 x.1.1.l.length (x.1.1.l.flatMap inC)]) rfl rfl rfl Try.call10 (fun w hS => compile_any _ ((i + 2)) _ (csQ f i) w (by omega) ((fun k _ => by rw [csQ_tx]; decide)) (rd_cm (hS.get (i := 1) rfl))) ?_
      rintro ⟨⟨cx_rq, v_rq⟩, hcx_rq⟩
      simp only [List.cons_append, List.nil_append]
      obtain ⟨J2, rfl, hQ0, hQb, hQn⟩ := comp_Q hfi hi1 hcx_rq
      dsimp only
      rw [ins_len]
      refine g_val rfl rfl rfl (y_move rfl) ?_
      refine g_val (v := v_rq) rfl rfl rfl (y_extract rfl rfl) ?_
      refine g_val (v := .complex .f64 0 0) rfl rfl rfl (y_extract rfl rfl) ?_
      refine g_val (v := .int .i64 0) rfl rfl rfl (y_extract rfl rfl) ?_
      refine g_val rfl rfl rfl (y_assign rfl) ?_
      refine g_val rfl rfl rfl (y_assign rfl) ?_
      refine g_val rfl rfl rfl (y_assign rfl) ?_
      refine g_nil (g_then (g_seq (g_seq (g_ops ?_))))
      refine g_val rfl rfl rfl (y_move rfl) ?_
      refine g_val rfl rfl rfl (y_lit false (y_ine rfl rfl) (by decide)) ?_
      refine g_val rfl rfl rfl (y_move rfl) ?_
      refine g_val rfl rfl rfl (y_move rfl) ?_
      refine g_val rfl rfl rfl (y_lit false (y_ine rfl rfl) (by decide)) ?_
      refine g_val rfl rfl rfl (y_pick_f rfl rfl) ?_
      refine g_val rfl rfl rfl (y_move rfl) ?_
      refine g_val rfl rfl rfl (y_move rfl) ?_
      refine g_rowLen 3 rfl (fun pr5 cr5 hv5 => ?_)
      cases hv5
      refine g_val rfl rfl rfl (y_llen rfl Try.underlying27) ?_
      refine g_val rfl rfl rfl (y_move rfl) ?_
      refine g_val rfl rfl rfl (y_llen rfl Try.underlying23) ?_
      refine g_val rfl rfl rfl (y_lit false (y_ine rfl rfl) (decide_eq_false (fun h => h rfl))) ?_
      refine g_val rfl rfl rfl (y_pick_f rfl rfl) ?_
      refine g_val rfl rfl rfl (y_move rfl) ?_
      refine g_val rfl rfl rfl (y_move rfl) ?_
      refine g_rowLen 0 rfl (fun pr6 cr6 hv6 => ?_)
      cases hv6
      refine g_val rfl rfl rfl (y_llen rfl Try.underlying27) ?_
      refine g_val rfl rfl rfl (y_move rfl) ?_
      refine g_val rfl rfl rfl (y_llen rfl Try.underlying23) ?_
      refine g_val rfl rfl rfl (by first | exact y_addi rfl rfl (by first | omega | (simp only [size_mk, ByteArray.size_append, ByteArray.size_extract]; omega)) | exact y_iadd rfl rfl) ?_
      refine g_val rfl rfl rfl (y_lit false (y_ine rfl rfl) (decide_eq_false (by omega))) ?_
      refine g_val rfl rfl rfl (y_pick_f rfl rfl) ?_
      refine g_val rfl rfl rfl (y_move rfl) ?_
      refine g_val rfl rfl rfl (y_move rfl) ?_
      refine g_rowCase 0 rfl (by omega) (fun gr7 cr7 hv7 => ?_)
      cases hv7
      refine g_val rfl rfl rfl (y_idxAddr (m := 0 * 43 + 0) rfl rfl Try.underlying27 Try.sizeOf47 (by omega) (by omega) (by omega)) ?_
      refine g_val rfl rfl rfl (y_fieldAddr (k := 42) (m := 0 * 43 + 42) rfl (by kernel_rfl) rfl) ?_
      refine g_val rfl rfl rfl (y_ldR (u := .int .i64 (J2 (0))) 0 rfl Try.isAgg3 rfl ((fm_get inC 43 inC_len _ 0 42 _ (ins_get (csQ f i) J2 (i + 2) (0) (by omega)) (by decide)).trans rfl)) ?_
      refine g_val rfl rfl rfl (y_move rfl) ?_
      refine g_val rfl rfl rfl (y_llen rfl Try.underlying23) ?_
      refine g_val rfl rfl rfl (by first | exact y_addi rfl rfl (by first | omega | (simp only [size_mk, ByteArray.size_append, ByteArray.size_extract]; omega)) | exact y_iadd rfl rfl) ?_
      refine g_val rfl rfl rfl (y_lit false (y_ine rfl rfl) (decide_eq_false (by omega))) ?_
      refine g_val rfl rfl rfl (y_pick_f rfl rfl) ?_
      refine g_nil (g_then (g_cond_f rfl (g_skip (g_then (g_seq (g_seq (g_ops ?_)))))))
      refine g_val rfl rfl rfl (y_assign rfl) ?_
      refine g_nil (g_then (g_block ?_))
      refine g_loop (α := {x : Nat // x ≤ i}) (fun x => [(3, (.slice pr3 (i) cr3)), (6, (.slice pr5 (i) cr5)), (9, (.slice pr4 ((i + 2)) cr4)), (10, (.slice (some ⟨gr7, 0, none⟩) ((i + 2)) cr6)), (13, .int .i64 (x.1 : Int))]) (fun x => St w [] [.row 47 43 (.slice (some ⟨gr7, 0, none⟩) ((i + 2)) cr6) (i + 2) ((insOf (csQ f i) J2 (i + 2)).flatMap inC), .row 45 42 (.slice pr4 ((i + 2)) cr4) (i + 2) ((cml (csQ f i) (i + 2)).flatMap cmC), .row 47 43 (.slice pr5 (i) cr5) i ((insOf (csP f) J i).flatMap inC), .row 45 42 (.slice pr3 (i) cr3) i ((cml (csP f) i).flatMap cmC)]) (fun x => i - x.1) ⟨0, Nat.zero_le _⟩ [3, 6, 9, 10, 13] rfl (fun w h => h.sub (.cons_cons _ (.cons _ (.cons_cons _ (.cons_cons _ (.cons_cons _ .slnil)))))) ?_
      rintro ⟨k, hk⟩
      dsimp only
      refine g_seq (g_seq (g_ops ?_))
      refine g_val rfl rfl rfl (y_move rfl) ?_
      refine g_val rfl rfl rfl (y_move rfl) ?_
      refine g_val rfl rfl rfl (y_llen rfl Try.underlying23) ?_
      refine g_val rfl rfl rfl (y_ilt rfl rfl) ?_
      refine g_nil (g_then ?_)
      first | refine g_casep 97 rfl (fun h8 => ?_) (fun h8 => ?_) | refine g_caseb 97 rfl (fun h8 => ?_) (fun h8 => ?_)
      · skip
        refine g_cond_t rfl (g_skip (g_then (g_seq (g_block (g_seq (g_ops ?_))))))
        refine g_val rfl rfl rfl (y_move rfl) ?_
        refine g_val rfl rfl rfl (y_move rfl) ?_
        refine g_rowCase 3 rfl (by omega) (fun gr9 cr9 hv9 => ?_)
        cases hv9
        refine g_val rfl rfl rfl (y_idxAddr (m := k * 42 + 0) rfl rfl Try.underlying23 Try.sizeOf45 (by omega) (by omega) (by omega)) ?_
        refine g_val rfl rfl rfl (y_fieldAddr (k := 1) (m := k * 42 + 1) rfl (by kernel_rfl) rfl) ?_
        refine g_val rfl rfl rfl (y_ldR (u := .int .u8 ((csP f) (k)).nm) 3 rfl Try.isAgg5 rfl ((fm_get cmC 42 cmC_len _ k 1 _ (cml_get (csP f) i (k) (by omega)) (by decide)).trans rfl)) ?_
        refine g_val rfl rfl rfl (y_ieq rfl rfl) ?_
        refine g_val rfl rfl rfl (y_move rfl) ?_
        first | refine g_casep 106 rfl (fun h10 => ?_) (fun h10 => ?_) | refine g_caseb 106 rfl (fun h10 => ?_) (fun h10 => ?_)
        · skip
          refine g_not rfl rfl rfl ?_
          refine g_not rfl rfl rfl ?_
          refine g_not rfl rfl rfl ?_
          refine g_not rfl rfl rfl ?_
          refine g_not rfl rfl rfl ?_
          refine g_not rfl rfl rfl ?_
          refine g_val rfl rfl rfl (y_pick_t rfl rfl) ?_
          refine g_val rfl rfl rfl (y_assign rfl) ?_
          refine g_nil (g_then (g_seq (g_ops ?_)))
          refine g_val rfl rfl rfl (y_assign rfl) ?_
          refine g_nil (g_then (g_seq (g_ops ?_)))
          refine g_val rfl rfl rfl (y_assign rfl) ?_
          refine g_nil (g_then (g_seq (g_seq (g_ops ?_))))
          refine g_val rfl rfl rfl (y_move rfl) ?_
          refine g_nil (g_then (g_cond_t rfl (g_seq (g_ops ?_))))
          refine g_val rfl rfl rfl (y_move rfl) ?_
          refine g_val rfl rfl rfl (y_llen rfl Try.underlying23) ?_
          refine g_val rfl rfl rfl (y_assign rfl) ?_
          refine g_nil (g_then (g_ops ?_))
          refine g_val rfl rfl rfl (y_move rfl) ?_
          refine g_val rfl rfl rfl (y_llen rfl Try.underlying23) ?_
          refine g_val rfl rfl rfl (by first | exact y_addi rfl rfl (by first | omega | (simp only [size_mk, ByteArray.size_append, ByteArray.size_extract]; omega)) | exact y_iadd rfl rfl) ?_
          refine g_val rfl rfl rfl (y_assign rfl) ?_
          refine g_nil (g_then (g_seq ?_))
          refine g_rowCase 2 rfl (by omega) (fun gr11 cr11 hv11 => ?_)
          cases hv11
          refine g_quiet (by kernel_rfl) (by kernel_rfl) ?_
          refine q_val rfl rfl rfl (y_move rfl) ?_
          refine q_val rfl rfl rfl (y_move rfl) ?_
          refine q_val rfl rfl rfl (y_idxAddr (m := k * 43 + 0) rfl rfl Try.underlying27 Try.sizeOf47 (by omega) (by omega) (by omega)) ?_
          refine q_val rfl rfl rfl (y_fieldAddr (k := 42) (m := k * 43 + 42) rfl (by kernel_rfl) rfl) ?_
          refine q_val rfl rfl rfl (y_ldR (u := .int .i64 (J (k))) 2 rfl Try.isAgg3 rfl ((fm_get inC 43 inC_len _ k 42 _ (ins_get (csP f) J i (k) (by omega)) (by decide)).trans rfl)) ?_
          refine q_val rfl rfl rfl (y_move rfl) ?_
          refine q_val rfl rfl rfl (y_lit false (y_ine rfl rfl) (decide_eq_false (by first | (have := hJb k (by omega) (by unfold isB; omega); omega) | (have := hJn k (by omega) (by unfold isB; omega); omega)))) ?_
          refine q_val rfl rfl rfl (y_move rfl) ?_
          refine q_val rfl rfl rfl (y_move rfl) ?_
          refine q_val rfl rfl rfl (y_move rfl) ?_
          refine q_val (v := .int .i64 ((k : Int) + 1)) rfl rfl rfl (y_addi rfl rfl (by omega)) ?_
          refine q_val rfl rfl rfl (y_idxAddr (m := (k + 1) * 43 + 0) rfl rfl Try.underlying27 Try.sizeOf47 (by omega) (by omega) (by omega)) ?_
          refine q_val rfl rfl rfl (y_fieldAddr (k := 42) (m := (k + 1) * 43 + 42) rfl (by kernel_rfl) rfl) ?_
          refine q_val rfl rfl rfl (y_ldR (u := .int .i64 (J2 ((k + 1)))) 0 rfl Try.isAgg3 rfl ((fm_get inC 43 inC_len _ (k + 1) 42 _ (ins_get (csQ f i) J2 (i + 2) ((k + 1)) (by omega)) (by decide)).trans rfl)) ?_
          refine q_val rfl rfl rfl (y_move rfl) ?_
          refine q_val rfl rfl rfl (y_lit false (y_ine rfl rfl) (decide_eq_false (by first | (have := hQb k (by omega) (by unfold isB; omega); omega) | (have := hQn k (by omega) (by unfold isB; omega); omega)))) ?_
          refine q_val rfl rfl rfl (y_pick_f rfl rfl) ?_
          refine q_val rfl rfl rfl (y_move rfl) ?_
          refine q_val rfl rfl rfl (y_move rfl) ?_
          refine q_val rfl rfl rfl (y_move rfl) ?_
          refine q_val rfl rfl rfl (y_idxAddr (m := k * 43 + 0) rfl rfl Try.underlying27 Try.sizeOf47 (by omega) (by omega) (by omega)) ?_
          refine q_val rfl rfl rfl (y_fieldAddr (k := 0) (m := k * 43 + 0) rfl (by kernel_rfl) rfl) ?_
          refine q_val rfl rfl rfl (y_fieldAddr (k := 1) (m := k * 43 + 1) rfl (by kernel_rfl) rfl) ?_
          refine q_val rfl rfl rfl (y_ldR (u := .int .u8 ((csP f) (k)).nm) 2 rfl Try.isAgg5 rfl ((fm_get inC 43 inC_len _ k 1 _ (ins_get (csP f) J i (k) (by omega)) (by decide)).trans rfl)) ?_
          refine q_val rfl rfl rfl (y_move rfl) ?_
          refine q_val rfl rfl rfl (y_move rfl) ?_
          refine q_val rfl rfl rfl (y_idxAddr (m := k * 42 + 0) rfl rfl Try.underlying23 Try.sizeOf45 (by omega) (by omega) (by omega)) ?_
          refine q_val rfl rfl rfl (y_fieldAddr (k := 1) (m := k * 42 + 1) rfl (by kernel_rfl) rfl) ?_
          refine q_val rfl rfl rfl (y_ldR (u := .int .u8 ((csP f) (k)).nm) 3 rfl Try.isAgg5 rfl ((fm_get cmC 42 cmC_len _ k 1 _ (cml_get (csP f) i (k) (by omega)) (by decide)).trans rfl)) ?_
          refine q_val rfl rfl rfl (y_lit false (y_ine rfl rfl) (decide_eq_false (fun h => h rfl))) ?_
          refine q_val rfl rfl rfl (y_pick_f rfl rfl) ?_
          refine q_val rfl rfl rfl (y_move rfl) ?_
          refine q_val rfl rfl rfl (y_move rfl) ?_
          refine q_val rfl rfl rfl (y_move rfl) ?_
          refine q_val (v := .int .i64 ((k : Int) + 1)) rfl rfl rfl (y_addi rfl rfl (by omega)) ?_
          refine q_val rfl rfl rfl (y_idxAddr (m := (k + 1) * 43 + 0) rfl rfl Try.underlying27 Try.sizeOf47 (by omega) (by omega) (by omega)) ?_
          refine q_val rfl rfl rfl (y_fieldAddr (k := 0) (m := (k + 1) * 43 + 0) rfl (by kernel_rfl) rfl) ?_
          refine q_val rfl rfl rfl (y_fieldAddr (k := 0) (m := (k + 1) * 43 + 0) rfl (by kernel_rfl) rfl) ?_
          refine q_val rfl rfl rfl (y_ldR (u := .complex .f64 ((csQ f i) ((k + 1))).re ((csQ f i) ((k + 1))).im) 0 rfl Try.isAgg28 rfl ((fm_get inC 43 inC_len _ (k + 1) 0 _ (ins_get (csQ f i) J2 (i + 2) ((k + 1)) (by omega)) (by decide)).trans rfl)) ?_
          refine q_val rfl rfl rfl (y_move rfl) ?_
          refine q_val rfl rfl rfl (y_move rfl) ?_
          refine q_val rfl rfl rfl (y_idxAddr (m := k * 42 + 0) rfl rfl Try.underlying23 Try.sizeOf45 (by omega) (by omega) (by omega)) ?_
          refine q_val rfl rfl rfl (y_fieldAddr (k := 0) (m := k * 42 + 0) rfl (by kernel_rfl) rfl) ?_
          refine q_val rfl rfl rfl (y_ldR (u := .complex .f64 ((csP f) (k)).re ((csP f) (k)).im) 3 rfl Try.isAgg28 rfl ((fm_get cmC 42 cmC_len _ k 0 _ (cml_get (csP f) i (k) (by omega)) (by decide)).trans rfl)) ?_
          refine q_val rfl rfl rfl (y_lit false (y_cne rfl rfl) (place_eq f (by omega) hi1)) ?_
          refine q_val rfl rfl rfl (y_pick_f rfl rfl) ?_
          refine q_nil (g_then (g_cond_f rfl (g_skip (g_in_normal (g_then (g_ops ?_))))))
          refine g_val rfl rfl rfl (y_move rfl) ?_
          refine g_val rfl rfl rfl (by first | exact y_addi rfl rfl (by first | omega | (simp only [size_mk, ByteArray.size_append, ByteArray.size_extract]; omega)) | exact y_iadd rfl rfl) ?_
          refine g_val rfl rfl rfl (y_assign rfl) ?_
          refine g_nil ?_
          exact g_again ⟨k + 1, by omega⟩ [3, 6, 9, 10, 13] (by dsimp only; omega) rfl (fun w h => h.sub (.cons_cons _ (.cons_cons _ (.cons_cons _ (.cons_cons _ .slnil)))))
        · skip
          refine g_val rfl rfl rfl (y_move rfl) ?_
          refine g_val rfl rfl rfl (y_move rfl) ?_
          refine g_val rfl rfl rfl (y_idxAddr (m := k * 42 + 0) rfl rfl Try.underlying23 Try.sizeOf45 (by omega) (by omega) (by omega)) ?_
          refine g_val rfl rfl rfl (y_fieldAddr (k := 1) (m := k * 42 + 1) rfl (by kernel_rfl) rfl) ?_
          refine g_val rfl rfl rfl (y_ldR (u := .int .u8 ((csP f) (k)).nm) 3 rfl Try.isAgg5 rfl ((fm_get cmC 42 cmC_len _ k 1 _ (cml_get (csP f) i (k) (by omega)) (by decide)).trans rfl)) ?_
          refine g_val rfl rfl rfl (y_ieq rfl rfl) ?_
          refine g_val rfl rfl rfl (y_pick_f rfl rfl) ?_
          refine g_val rfl rfl rfl (y_assign rfl) ?_
          refine g_nil (g_then (g_seq (g_ops ?_)))
          refine g_val rfl rfl rfl (y_assign rfl) ?_
          refine g_nil (g_then (g_seq (g_ops ?_)))
          refine g_val rfl rfl rfl (y_assign rfl) ?_
          refine g_nil (g_then (g_seq (g_seq (g_ops ?_))))
          refine g_val rfl rfl rfl (y_move rfl) ?_
          refine g_nil (g_then ?_)
          first | refine g_casep 114 rfl (fun h12 => ?_) (fun h12 => ?_) | refine g_caseb 114 rfl (fun h12 => ?_) (fun h12 => ?_)
          · skip
            refine g_cond_t rfl (g_seq (g_ops ?_))
            refine g_val rfl rfl rfl (y_move rfl) ?_
            refine g_val rfl rfl rfl (y_llen rfl Try.underlying23) ?_
            refine g_val rfl rfl rfl (y_assign rfl) ?_
            refine g_nil (g_then (g_ops ?_))
            refine g_val rfl rfl rfl (y_move rfl) ?_
            refine g_val rfl rfl rfl (y_llen rfl Try.underlying23) ?_
            refine g_val rfl rfl rfl (by first | exact y_addi rfl rfl (by first | omega | (simp only [size_mk, ByteArray.size_append, ByteArray.size_extract]; omega)) | exact y_iadd rfl rfl) ?_
            refine g_val rfl rfl rfl (y_assign rfl) ?_
            refine g_nil (g_then (g_seq ?_))
            refine g_rowCase 2 rfl (by omega) (fun gr13 cr13 hv13 => ?_)
            cases hv13
            refine g_quiet (by kernel_rfl) (by kernel_rfl) ?_
            refine q_val rfl rfl rfl (y_move rfl) ?_
            refine q_val rfl rfl rfl (y_move rfl) ?_
            refine q_val rfl rfl rfl (y_idxAddr (m := k * 43 + 0) rfl rfl Try.underlying27 Try.sizeOf47 (by omega) (by omega) (by omega)) ?_
            refine q_val rfl rfl rfl (y_fieldAddr (k := 42) (m := k * 43 + 42) rfl (by kernel_rfl) rfl) ?_
            refine q_val rfl rfl rfl (y_ldR (u := .int .i64 (J (k))) 2 rfl Try.isAgg3 rfl ((fm_get inC 43 inC_len _ k 42 _ (ins_get (csP f) J i (k) (by omega)) (by decide)).trans rfl)) ?_
            refine q_val rfl rfl rfl (y_move rfl) ?_
            refine q_val rfl rfl rfl (y_lit false (y_ine rfl rfl) (decide_eq_false (by first | (have := hJb k (by omega) (by unfold isB; omega); omega) | (have := hJn k (by omega) (by unfold isB; omega); omega)))) ?_
            refine q_val rfl rfl rfl (y_move rfl) ?_
            refine q_val rfl rfl rfl (y_move rfl) ?_
            refine q_val rfl rfl rfl (y_move rfl) ?_
            refine q_val (v := .int .i64 ((k : Int) + 1)) rfl rfl rfl (y_addi rfl rfl (by omega)) ?_
            refine q_val rfl rfl rfl (y_idxAddr (m := (k + 1) * 43 + 0) rfl rfl Try.underlying27 Try.sizeOf47 (by omega) (by omega) (by omega)) ?_
            refine q_val rfl rfl rfl (y_fieldAddr (k := 42) (m := (k + 1) * 43 + 42) rfl (by kernel_rfl) rfl) ?_
            refine q_val rfl rfl rfl (y_ldR (u := .int .i64 (J2 ((k + 1)))) 0 rfl Try.isAgg3 rfl ((fm_get inC 43 inC_len _ (k + 1) 42 _ (ins_get (csQ f i) J2 (i + 2) ((k + 1)) (by omega)) (by decide)).trans rfl)) ?_
            refine q_val rfl rfl rfl (y_move rfl) ?_
            refine q_val rfl rfl rfl (y_lit false (y_ine rfl rfl) (decide_eq_false (by first | (have := hQb k (by omega) (by unfold isB; omega); omega) | (have := hQn k (by omega) (by unfold isB; omega); omega)))) ?_
            refine q_val rfl rfl rfl (y_pick_f rfl rfl) ?_
            refine q_val rfl rfl rfl (y_move rfl) ?_
            refine q_val rfl rfl rfl (y_move rfl) ?_
            refine q_val rfl rfl rfl (y_move rfl) ?_
            refine q_val rfl rfl rfl (y_idxAddr (m := k * 43 + 0) rfl rfl Try.underlying27 Try.sizeOf47 (by omega) (by omega) (by omega)) ?_
            refine q_val rfl rfl rfl (y_fieldAddr (k := 0) (m := k * 43 + 0) rfl (by kernel_rfl) rfl) ?_
            refine q_val rfl rfl rfl (y_fieldAddr (k := 1) (m := k * 43 + 1) rfl (by kernel_rfl) rfl) ?_
            refine q_val rfl rfl rfl (y_ldR (u := .int .u8 ((csP f) (k)).nm) 2 rfl Try.isAgg5 rfl ((fm_get inC 43 inC_len _ k 1 _ (ins_get (csP f) J i (k) (by omega)) (by decide)).trans rfl)) ?_
            refine q_val rfl rfl rfl (y_move rfl) ?_
            refine q_val rfl rfl rfl (y_move rfl) ?_
            refine q_val rfl rfl rfl (y_idxAddr (m := k * 42 + 0) rfl rfl Try.underlying23 Try.sizeOf45 (by omega) (by omega) (by omega)) ?_
            refine q_val rfl rfl rfl (y_fieldAddr (k := 1) (m := k * 42 + 1) rfl (by kernel_rfl) rfl) ?_
            refine q_val rfl rfl rfl (y_ldR (u := .int .u8 ((csP f) (k)).nm) 3 rfl Try.isAgg5 rfl ((fm_get cmC 42 cmC_len _ k 1 _ (cml_get (csP f) i (k) (by omega)) (by decide)).trans rfl)) ?_
            refine q_val rfl rfl rfl (y_lit false (y_ine rfl rfl) (decide_eq_false (fun h => h rfl))) ?_
            refine q_val rfl rfl rfl (y_pick_f rfl rfl) ?_
            refine q_val rfl rfl rfl (y_move rfl) ?_
            refine q_val rfl rfl rfl (y_move rfl) ?_
            refine q_val rfl rfl rfl (y_move rfl) ?_
            refine q_val (v := .int .i64 ((k : Int) + 1)) rfl rfl rfl (y_addi rfl rfl (by omega)) ?_
            refine q_val rfl rfl rfl (y_idxAddr (m := (k + 1) * 43 + 0) rfl rfl Try.underlying27 Try.sizeOf47 (by omega) (by omega) (by omega)) ?_
            refine q_val rfl rfl rfl (y_fieldAddr (k := 0) (m := (k + 1) * 43 + 0) rfl (by kernel_rfl) rfl) ?_
            refine q_val rfl rfl rfl (y_fieldAddr (k := 0) (m := (k + 1) * 43 + 0) rfl (by kernel_rfl) rfl) ?_
            refine q_val rfl rfl rfl (y_ldR (u := .complex .f64 ((csQ f i) ((k + 1))).re ((csQ f i) ((k + 1))).im) 0 rfl Try.isAgg28 rfl ((fm_get inC 43 inC_len _ (k + 1) 0 _ (ins_get (csQ f i) J2 (i + 2) ((k + 1)) (by omega)) (by decide)).trans rfl)) ?_
            refine q_val rfl rfl rfl (y_move rfl) ?_
            refine q_val rfl rfl rfl (y_move rfl) ?_
            refine q_val rfl rfl rfl (y_idxAddr (m := k * 42 + 0) rfl rfl Try.underlying23 Try.sizeOf45 (by omega) (by omega) (by omega)) ?_
            refine q_val rfl rfl rfl (y_fieldAddr (k := 0) (m := k * 42 + 0) rfl (by kernel_rfl) rfl) ?_
            refine q_val rfl rfl rfl (y_ldR (u := .complex .f64 ((csP f) (k)).re ((csP f) (k)).im) 3 rfl Try.isAgg28 rfl ((fm_get cmC 42 cmC_len _ k 0 _ (cml_get (csP f) i (k) (by omega)) (by decide)).trans rfl)) ?_
            refine q_val rfl rfl rfl (y_lit false (y_cne rfl rfl) (place_eq f (by omega) hi1)) ?_
            refine q_val rfl rfl rfl (y_pick_f rfl rfl) ?_
            refine q_nil (g_then (g_cond_f rfl (g_skip (g_in_normal (g_then (g_ops ?_))))))
            refine g_val rfl rfl rfl (y_move rfl) ?_
            refine g_val rfl rfl rfl (by first | exact y_addi rfl rfl (by first | omega | (simp only [size_mk, ByteArray.size_append, ByteArray.size_extract]; omega)) | exact y_iadd rfl rfl) ?_
            refine g_val rfl rfl rfl (y_assign rfl) ?_
            refine g_nil ?_
            exact g_again ⟨k + 1, by omega⟩ [3, 6, 9, 10, 13] (by dsimp only; omega) rfl (fun w h => h.sub (.cons_cons _ (.cons_cons _ (.cons_cons _ (.cons_cons _ .slnil)))))
          · skip
            refine g_cond_f rfl (g_skip (g_then (g_seq ?_)))
            refine g_rowCase 2 rfl (by omega) (fun gr14 cr14 hv14 => ?_)
            cases hv14
            refine g_quiet (by kernel_rfl) (by kernel_rfl) ?_
            refine q_val rfl rfl rfl (y_move rfl) ?_
            refine q_val rfl rfl rfl (y_move rfl) ?_
            refine q_val rfl rfl rfl (y_idxAddr (m := k * 43 + 0) rfl rfl Try.underlying27 Try.sizeOf47 (by omega) (by omega) (by omega)) ?_
            refine q_val rfl rfl rfl (y_fieldAddr (k := 42) (m := k * 43 + 42) rfl (by kernel_rfl) rfl) ?_
            refine q_val rfl rfl rfl (y_ldR (u := .int .i64 (J (k))) 2 rfl Try.isAgg3 rfl ((fm_get inC 43 inC_len _ k 42 _ (ins_get (csP f) J i (k) (by omega)) (by decide)).trans rfl)) ?_
            refine q_val rfl rfl rfl (y_move rfl) ?_
            refine q_val rfl rfl rfl (y_lit false (y_ine rfl rfl) (decide_eq_false (by first | (have := hJb k (by omega) (by unfold isB; omega); omega) | (have := hJn k (by omega) (by unfold isB; omega); omega)))) ?_
            refine q_val rfl rfl rfl (y_move rfl) ?_
            refine q_val rfl rfl rfl (y_move rfl) ?_
            refine q_val rfl rfl rfl (y_move rfl) ?_
            refine q_val (v := .int .i64 ((k : Int) + 1)) rfl rfl rfl (y_addi rfl rfl (by omega)) ?_
            refine q_val rfl rfl rfl (y_idxAddr (m := (k + 1) * 43 + 0) rfl rfl Try.underlying27 Try.sizeOf47 (by omega) (by omega) (by omega)) ?_
            refine q_val rfl rfl rfl (y_fieldAddr (k := 42) (m := (k + 1) * 43 + 42) rfl (by kernel_rfl) rfl) ?_
            refine q_val rfl rfl rfl (y_ldR (u := .int .i64 (J2 ((k + 1)))) 0 rfl Try.isAgg3 rfl ((fm_get inC 43 inC_len _ (k + 1) 42 _ (ins_get (csQ f i) J2 (i + 2) ((k + 1)) (by omega)) (by decide)).trans rfl)) ?_
            refine q_val rfl rfl rfl (y_move rfl) ?_
            refine q_val rfl rfl rfl (y_lit false (y_ine rfl rfl) (decide_eq_false (by first | (have := hQb k (by omega) (by unfold isB; omega); omega) | (have := hQn k (by omega) (by unfold isB; omega); omega)))) ?_
            refine q_val rfl rfl rfl (y_pick_f rfl rfl) ?_
            refine q_val rfl rfl rfl (y_move rfl) ?_
            refine q_val rfl rfl rfl (y_move rfl) ?_
            refine q_val rfl rfl rfl (y_move rfl) ?_
            refine q_val rfl rfl rfl (y_idxAddr (m := k * 43 + 0) rfl rfl Try.underlying27 Try.sizeOf47 (by omega) (by omega) (by omega)) ?_
            refine q_val rfl rfl rfl (y_fieldAddr (k := 0) (m := k * 43 + 0) rfl (by kernel_rfl) rfl) ?_
            refine q_val rfl rfl rfl (y_fieldAddr (k := 1) (m := k * 43 + 1) rfl (by kernel_rfl) rfl) ?_
            refine q_val rfl rfl rfl (y_ldR (u := .int .u8 ((csP f) (k)).nm) 2 rfl Try.isAgg5 rfl ((fm_get inC 43 inC_len _ k 1 _ (ins_get (csP f) J i (k) (by omega)) (by decide)).trans rfl)) ?_
            refine q_val rfl rfl rfl (y_move rfl) ?_
            refine q_val rfl rfl rfl (y_move rfl) ?_
            refine q_val rfl rfl rfl (y_idxAddr (m := k * 42 + 0) rfl rfl Try.underlying23 Try.sizeOf45 (by omega) (by omega) (by omega)) ?_
            refine q_val rfl rfl rfl (y_fieldAddr (k := 1) (m := k * 42 + 1) rfl (by kernel_rfl) rfl) ?_
            refine q_val rfl rfl rfl (y_ldR (u := .int .u8 ((csP f) (k)).nm) 3 rfl Try.isAgg5 rfl ((fm_get cmC 42 cmC_len _ k 1 _ (cml_get (csP f) i (k) (by omega)) (by decide)).trans rfl)) ?_
            refine q_val rfl rfl rfl (y_lit false (y_ine rfl rfl) (decide_eq_false (fun h => h rfl))) ?_
            refine q_val rfl rfl rfl (y_pick_f rfl rfl) ?_
            refine q_val rfl rfl rfl (y_move rfl) ?_
            refine q_val rfl rfl rfl (y_move rfl) ?_
            refine q_val rfl rfl rfl (y_move rfl) ?_
            refine q_val (v := .int .i64 ((k : Int) + 1)) rfl rfl rfl (y_addi rfl rfl (by omega)) ?_
            refine q_val rfl rfl rfl (y_idxAddr (m := (k + 1) * 43 + 0) rfl rfl Try.underlying27 Try.sizeOf47 (by omega) (by omega) (by omega)) ?_
            refine q_val rfl rfl rfl (y_fieldAddr (k := 0) (m := (k + 1) * 43 + 0) rfl (by kernel_rfl) rfl) ?_
            refine q_val rfl rfl rfl (y_fieldAddr (k := 0) (m := (k + 1) * 43 + 0) rfl (by kernel_rfl) rfl) ?_
            refine q_val rfl rfl rfl (y_ldR (u := .complex .f64 ((csQ f i) ((k + 1))).re ((csQ f i) ((k + 1))).im) 0 rfl Try.isAgg28 rfl ((fm_get inC 43 inC_len _ (k + 1) 0 _ (ins_get (csQ f i) J2 (i + 2) ((k + 1)) (by omega)) (by decide)).trans rfl)) ?_
            refine q_val rfl rfl rfl (y_move rfl) ?_
            refine q_val rfl rfl rfl (y_move rfl) ?_
            refine q_val rfl rfl rfl (y_idxAddr (m := k * 42 + 0) rfl rfl Try.underlying23 Try.sizeOf45 (by omega) (by omega) (by omega)) ?_
            refine q_val rfl rfl rfl (y_fieldAddr (k := 0) (m := k * 42 + 0) rfl (by kernel_rfl) rfl) ?_
            refine q_val rfl rfl rfl (y_ldR (u := .complex .f64 ((csP f) (k)).re ((csP f) (k)).im) 3 rfl Try.isAgg28 rfl ((fm_get cmC 42 cmC_len _ k 0 _ (cml_get (csP f) i (k) (by omega)) (by decide)).trans rfl)) ?_
            refine q_val rfl rfl rfl (y_lit false (y_cne rfl rfl) (place_eq f (by omega) hi1)) ?_
            refine q_val rfl rfl rfl (y_pick_f rfl rfl) ?_
            refine q_nil (g_then (g_cond_f rfl (g_skip (g_in_normal (g_then (g_ops ?_))))))
            refine g_val rfl rfl rfl (y_move rfl) ?_
            refine g_val rfl rfl rfl (by first | exact y_addi rfl rfl (by first | omega | (simp only [size_mk, ByteArray.size_append, ByteArray.size_extract]; omega)) | exact y_iadd rfl rfl) ?_
            refine g_val rfl rfl rfl (y_assign rfl) ?_
            refine g_nil ?_
            exact g_again ⟨k + 1, by omega⟩ [3, 6, 9, 10, 13] (by dsimp only; omega) rfl (fun w h => h.sub (.cons_cons _ (.cons_cons _ (.cons_cons _ (.cons_cons _ .slnil)))))
      · skip
        refine g_cond_f rfl (g_exit (g_then_exit (g_then_exit (g_in_exit (g_then (g_seq (g_ops ?_)))))))
        refine g_call1 rfl rfl rfl Try.call9 (fun w hS => alive_any w) ?_
        refine g_val rfl rfl rfl (y_move rfl) ?_
        refine g_val rfl rfl rfl (y_move rfl) ?_
        refine g_call1 rfl rfl rfl Try.call11 (fun w hS => deep_any _ (i) _ (csP f) w (by omega) (rd_cm (hS.get (i := 3) rfl))) ?_
        refine g_val rfl rfl rfl (y_lit true (y_ieq rfl rfl) (decide_eq_true (by rw [deep_P hfi i (Nat.le_refl _)]))) ?_
        refine g_val rfl rfl rfl (y_pick_t rfl rfl) ?_
        refine g_val rfl rfl rfl (y_move rfl) ?_
        refine g_val rfl rfl rfl (y_move rfl) ?_
        refine g_call1 rfl rfl rfl Try.call11 (fun w hS => deep_any _ ((i + 2)) _ (csQ f i) w (by omega) (rd_cm (hS.get (i := 1) rfl))) ?_
        refine g_val rfl rfl rfl (y_lit true (y_ieq rfl rfl) (decide_eq_true (deep_Q2 hfi))) ?_
        refine g_val rfl rfl rfl (y_pick_t rfl rfl) ?_
        refine g_val rfl rfl rfl (y_assign rfl) ?_
        refine g_nil (g_then (g_ret ?_))
        refine g_end1 Try.results5 rfl ?_
        exact fun w hS => ⟨rfl, (hS.sub (List.nil_sublist _)).below⟩
  · skip
    refine g_not rfl rfl rfl ?_
    refine g_not rfl rfl rfl ?_
    refine g_val rfl rfl rfl (y_pick_f rfl rfl) ?_
    refine g_nil (g_then (g_cond_f rfl (g_exit (g_then_exit (g_then_exit (g_in_exit (g_then (g_seq ?_))))))))
    rw [cml_len]
    have hfi : ∀ k, k < i → 0 ≤ f k ∧ f k ≤ 255 := fun k hk => hf k (by omega)
    refine g_ops ?_
    refine g_val rfl rfl rfl (y_move rfl) ?_
    refine g_rowLen 0 rfl (fun pr15 cr15 hv15 => ?_)
    cases hv15
    refine g_callNew (fun x : {x : CX × Value // compR (csP f) (i) x.1} => compV x.1) (fun x => [.row 47 43 x.1.2 x.1.1.l.length (x.1.1.l.flatMap inC)]) rfl rfl rfl Try.call10 (fun w hS => compile_any _ (i) _ (csP f) w (by omega) ((fun k _ => show (⟨#[]⟩ : ByteArray).size ≤ 1000 by decide)) (rd_cm (hS.get (i := 0) rfl))) ?_
    rintro ⟨⟨cx_rp, v_rp⟩, hcx_rp⟩
    simp only [List.cons_append, List.nil_append]
    obtain ⟨J, rfl, hJb, hJn⟩ := comp_P hfi hi1 hcx_rp
    dsimp only
    rw [ins_len]
    refine g_val rfl rfl rfl (y_move rfl) ?_
    refine g_val (v := v_rp) rfl rfl rfl (y_extract rfl rfl) ?_
    refine g_val (v := .complex .f64 0 0) rfl rfl rfl (y_extract rfl rfl) ?_
    refine g_val (v := .int .i64 0) rfl rfl rfl (y_extract rfl rfl) ?_
    refine g_val rfl rfl rfl (y_assign rfl) ?_
    refine g_val rfl rfl rfl (y_assign rfl) ?_
    refine g_val rfl rfl rfl (y_assign rfl) ?_
    refine g_nil (g_then (g_seq (g_ops ?_)))
    refine g_val rfl rfl rfl (y_build (offs := [1]) rfl Try.zeroValue45 (by kernel_rfl)) ?_
    refine g_buildSlice (offs := [0]) rfl rfl Try.underlying23 rfl Try.zeroValue45 (by kernel_rfl) (fun b6 => ?_)
    refine g_val rfl rfl rfl (y_move rfl) ?_
    refine g_rowOf cmC [c0Q] 0 rfl rfl cmC_len rfl (by decide) ?_
    simp only [List.set_cons_zero]
    refine g_appRow (bytes := 424) cmC (cs := [c0Q]) (ds := cml (csP f) i) 0 2 rfl rfl rfl rfl Try.underlying23 (by kernel_rfl) rfl rfl (cml_len _ _) cmC_len cmC_one (by rw [List.length_singleton]; omega) (by rw [List.length_singleton]; have : maxLen = 9223372036854775807 := rfl; omega) (fun v9 => ?_)
    simp only [List.set_cons_zero]
    have hl9 : ([c0Q] ++ cml (csP f) i).length = i + 1 := by rw [List.length_append, List.length_singleton, cml_len]; omega
    refine g_val rfl rfl rfl (y_assign rfl) ?_
    refine g_nil (g_then (g_seq (g_ops ?_)))
    refine g_val rfl rfl rfl (y_move rfl) ?_
    refine g_val rfl rfl rfl (y_build (offs := [1]) rfl Try.zeroValue45 (by kernel_rfl)) ?_
    refine g_buildSlice (offs := [0]) rfl rfl Try.underlying23 rfl Try.zeroValue45 (by kernel_rfl) (fun b7 => ?_)
    refine g_appS (bytes := 424) cmC (c1Q) 1 (j := 0) rfl rfl rfl rfl Try.underlying23 (by kernel_rfl) rfl rfl cmC_len rfl (by omega) (by have : maxLen = 9223372036854775807 := rfl; omega) (fun v8 => ?_)
    simp only [List.set_cons_zero, List.set_cons_succ]
    rw [cml_Q, cml_len]
    refine g_val rfl rfl rfl (y_assign rfl) ?_
    refine g_nil (g_then (g_seq (g_ops ?_)))
    refine g_val rfl rfl rfl (y_move rfl) ?_
    refine g_rowLen 1 rfl (fun pr16 cr16 hv16 => ?_)
    cases hv16
    refine g_callNew (fun x : {x : CX × Value // compR (csQ f i) ((i + 2)) x.1} => compV x.1) (fun x => [.row 47 43 x.1.2 x.1.1.l.length (x.1.1.l.flatMap inC)]) rfl rfl rfl Try.call10 (fun w hS => compile_any _ ((i + 2)) _ (csQ f i) w (by omega) ((fun k _ => by rw [csQ_tx]; decide)) (rd_cm (hS.get (i := 1) rfl))) ?_
    rintro ⟨⟨cx_rq, v_rq⟩, hcx_rq⟩
    simp only [List.cons_append, List.nil_append]
    obtain ⟨J2, rfl, hQ0, hQb, hQn⟩ := comp_Q hfi hi1 hcx_rq
    dsimp only
    rw [ins_len]
    refine g_val rfl rfl rfl (y_move rfl) ?_
    refine g_val (v := v_rq) rfl rfl rfl (y_extract rfl rfl) ?_
    refine g_val (v := .complex .f64 0 0) rfl rfl rfl (y_extract rfl rfl) ?_
    refine g_val (v := .int .i64 0) rfl rfl rfl (y_extract rfl rfl) ?_
    refine g_val rfl rfl rfl (y_assign rfl) ?_
    refine g_val rfl rfl rfl (y_assign rfl) ?_
    refine g_val rfl rfl rfl (y_assign rfl) ?_
    refine g_nil (g_then (g_seq (g_seq (g_ops ?_))))
    refine g_val rfl rfl rfl (y_move rfl) ?_
    refine g_val rfl rfl rfl (y_lit false (y_ine rfl rfl) (by decide)) ?_
    refine g_val rfl rfl rfl (y_move rfl) ?_
    refine g_val rfl rfl rfl (y_move rfl) ?_
    refine g_val rfl rfl rfl (y_lit false (y_ine rfl rfl) (by decide)) ?_
    refine g_val rfl rfl rfl (y_pick_f rfl rfl) ?_
    refine g_val rfl rfl rfl (y_move rfl) ?_
    refine g_val rfl rfl rfl (y_move rfl) ?_
    refine g_rowLen 3 rfl (fun pr17 cr17 hv17 => ?_)
    cases hv17
    refine g_val rfl rfl rfl (y_llen rfl Try.underlying27) ?_
    refine g_val rfl rfl rfl (y_move rfl) ?_
    refine g_val rfl rfl rfl (y_llen rfl Try.underlying23) ?_
    refine g_val rfl rfl rfl (y_lit false (y_ine rfl rfl) (decide_eq_false (fun h => h rfl))) ?_
    refine g_val rfl rfl rfl (y_pick_f rfl rfl) ?_
    refine g_val rfl rfl rfl (y_move rfl) ?_
    refine g_val rfl rfl rfl (y_move rfl) ?_
    refine g_rowLen 0 rfl (fun pr18 cr18 hv18 => ?_)
    cases hv18
    refine g_val rfl rfl rfl (y_llen rfl Try.underlying27) ?_
    refine g_val rfl rfl rfl (y_move rfl) ?_
    refine g_val rfl rfl rfl (y_llen rfl Try.underlying23) ?_
    refine g_val rfl rfl rfl (by first | exact y_addi rfl rfl (by first | omega | (simp only [size_mk, ByteArray.size_append, ByteArray.size_extract]; omega)) | exact y_iadd rfl rfl) ?_
    refine g_val rfl rfl rfl (y_lit false (y_ine rfl rfl) (decide_eq_false (by omega))) ?_
    refine g_val rfl rfl rfl (y_pick_f rfl rfl) ?_
    refine g_val rfl rfl rfl (y_move rfl) ?_
    refine g_val rfl rfl rfl (y_move rfl) ?_
    refine g_rowCase 0 rfl (by omega) (fun gr19 cr19 hv19 => ?_)
    cases hv19
    refine g_val rfl rfl rfl (y_idxAddr (m := 0 * 43 + 0) rfl rfl Try.underlying27 Try.sizeOf47 (by omega) (by omega) (by omega)) ?_
    refine g_val rfl rfl rfl (y_fieldAddr (k := 42) (m := 0 * 43 + 42) rfl (by kernel_rfl) rfl) ?_
    refine g_val rfl rfl rfl (y_ldR (u := .int .i64 (J2 (0))) 0 rfl Try.isAgg3 rfl ((fm_get inC 43 inC_len _ 0 42 _ (ins_get (csQ f i) J2 (i + 2) (0) (by omega)) (by decide)).trans rfl)) ?_
    refine g_val rfl rfl rfl (y_move rfl) ?_
    refine g_val rfl rfl rfl (y_llen rfl Try.underlying23) ?_
    refine g_val rfl rfl rfl (by first | exact y_addi rfl rfl (by first | omega | (simp only [size_mk, ByteArray.size_append, ByteArray.size_extract]; omega)) | exact y_iadd rfl rfl) ?_
    refine g_val rfl rfl rfl (y_lit false (y_ine rfl rfl) (decide_eq_false (by omega))) ?_
    refine g_val rfl rfl rfl (y_pick_f rfl rfl) ?_
    refine g_nil (g_then (g_cond_f rfl (g_skip (g_then (g_seq (g_seq (g_ops ?_)))))))
    refine g_val rfl rfl rfl (y_assign rfl) ?_
    refine g_nil (g_then (g_block ?_))
    refine g_loop (α := {x : Nat // x ≤ i}) (fun x => [(3, (.slice pr15 (i) cr15)), (6, (.slice pr17 (i) cr17)), (9, (.slice pr16 ((i + 2)) cr16)), (10, (.slice (some ⟨gr19, 0, none⟩) ((i + 2)) cr18)), (13, .int .i64 (x.1 : Int))]) (fun x => St w [] [.row 47 43 (.slice (some ⟨gr19, 0, none⟩) ((i + 2)) cr18) (i + 2) ((insOf (csQ f i) J2 (i + 2)).flatMap inC), .row 45 42 (.slice pr16 ((i + 2)) cr16) (i + 2) ((cml (csQ f i) (i + 2)).flatMap cmC), .row 47 43 (.slice pr17 (i) cr17) i ((insOf (csP f) J i).flatMap inC), .row 45 42 (.slice pr15 (i) cr15) i ((cml (csP f) i).flatMap cmC)]) (fun x => i - x.1) ⟨0, Nat.zero_le _⟩ [3, 6, 9, 10, 13] rfl (fun w h => h.sub (.cons_cons _ (.cons _ (.cons_cons _ (.cons_cons _ (.cons_cons _ .slnil)))))) ?_
    rintro ⟨k, hk⟩
    dsimp only
    refine g_seq (g_seq (g_ops ?_))
    refine g_val rfl rfl rfl (y_move rfl) ?_
    refine g_val rfl rfl rfl (y_move rfl) ?_
    refine g_val rfl rfl rfl (y_llen rfl Try.underlying23) ?_
    refine g_val rfl rfl rfl (y_ilt rfl rfl) ?_
    refine g_nil (g_then ?_)
    first | refine g_casep 97 rfl (fun h20 => ?_) (fun h20 => ?_) | refine g_caseb 97 rfl (fun h20 => ?_) (fun h20 => ?_)
    · skip
      refine g_cond_t rfl (g_skip (g_then (g_seq (g_block (g_seq (g_ops ?_))))))
      refine g_val rfl rfl rfl (y_move rfl) ?_
      refine g_val rfl rfl rfl (y_move rfl) ?_
      refine g_rowCase 3 rfl (by omega) (fun gr21 cr21 hv21 => ?_)
      cases hv21
      refine g_val rfl rfl rfl (y_idxAddr (m := k * 42 + 0) rfl rfl Try.underlying23 Try.sizeOf45 (by omega) (by omega) (by omega)) ?_
      refine g_val rfl rfl rfl (y_fieldAddr (k := 1) (m := k * 42 + 1) rfl (by kernel_rfl) rfl) ?_
      refine g_val rfl rfl rfl (y_ldR (u := .int .u8 ((csP f) (k)).nm) 3 rfl Try.isAgg5 rfl ((fm_get cmC 42 cmC_len _ k 1 _ (cml_get (csP f) i (k) (by omega)) (by decide)).trans rfl)) ?_
      refine g_val rfl rfl rfl (y_ieq rfl rfl) ?_
      refine g_val rfl rfl rfl (y_move rfl) ?_
      first | refine g_casep 106 rfl (fun h22 => ?_) (fun h22 => ?_) | refine g_caseb 106 rfl (fun h22 => ?_) (fun h22 => ?_)
      · skip
        refine g_not rfl rfl rfl ?_
        refine g_not rfl rfl rfl ?_
        refine g_not rfl rfl rfl ?_
        refine g_not rfl rfl rfl ?_
        refine g_not rfl rfl rfl ?_
        refine g_not rfl rfl rfl ?_
        refine g_val rfl rfl rfl (y_pick_t rfl rfl) ?_
        refine g_val rfl rfl rfl (y_assign rfl) ?_
        refine g_nil (g_then (g_seq (g_ops ?_)))
        refine g_val rfl rfl rfl (y_assign rfl) ?_
        refine g_nil (g_then (g_seq (g_ops ?_)))
        refine g_val rfl rfl rfl (y_assign rfl) ?_
        refine g_nil (g_then (g_seq (g_seq (g_ops ?_))))
        refine g_val rfl rfl rfl (y_move rfl) ?_
        refine g_nil (g_then (g_cond_t rfl (g_seq (g_ops ?_))))
        refine g_val rfl rfl rfl (y_move rfl) ?_
        refine g_val rfl rfl rfl (y_llen rfl Try.underlying23) ?_
        refine g_val rfl rfl rfl (y_assign rfl) ?_
        refine g_nil (g_then (g_ops ?_))
        refine g_val rfl rfl rfl (y_move rfl) ?_
        refine g_val rfl rfl rfl (y_llen rfl Try.underlying23) ?_
        refine g_val rfl rfl rfl (by first | exact y_addi rfl rfl (by first | omega | (simp only [size_mk, ByteArray.size_append, ByteArray.size_extract]; omega)) | exact y_iadd rfl rfl) ?_
        refine g_val rfl rfl rfl (y_assign rfl) ?_
        refine g_nil (g_then (g_seq ?_))
        refine g_rowCase 2 rfl (by omega) (fun gr23 cr23 hv23 => ?_)
        cases hv23
        refine g_quiet (by kernel_rfl) (by kernel_rfl) ?_
        refine q_val rfl rfl rfl (y_move rfl) ?_
        refine q_val rfl rfl rfl (y_move rfl) ?_
        refine q_val rfl rfl rfl (y_idxAddr (m := k * 43 + 0) rfl rfl Try.underlying27 Try.sizeOf47 (by omega) (by omega) (by omega)) ?_
        refine q_val rfl rfl rfl (y_fieldAddr (k := 42) (m := k * 43 + 42) rfl (by kernel_rfl) rfl) ?_
        refine q_val rfl rfl rfl (y_ldR (u := .int .i64 (J (k))) 2 rfl Try.isAgg3 rfl ((fm_get inC 43 inC_len _ k 42 _ (ins_get (csP f) J i (k) (by omega)) (by decide)).trans rfl)) ?_
        refine q_val rfl rfl rfl (y_move rfl) ?_
        refine q_val rfl rfl rfl (y_lit false (y_ine rfl rfl) (decide_eq_false (by first | (have := hJb k (by omega) (by unfold isB; omega); omega) | (have := hJn k (by omega) (by unfold isB; omega); omega)))) ?_
        refine q_val rfl rfl rfl (y_move rfl) ?_
        refine q_val rfl rfl rfl (y_move rfl) ?_
        refine q_val rfl rfl rfl (y_move rfl) ?_
        refine q_val (v := .int .i64 ((k : Int) + 1)) rfl rfl rfl (y_addi rfl rfl (by omega)) ?_
        refine q_val rfl rfl rfl (y_idxAddr (m := (k + 1) * 43 + 0) rfl rfl Try.underlying27 Try.sizeOf47 (by omega) (by omega) (by omega)) ?_
        refine q_val rfl rfl rfl (y_fieldAddr (k := 42) (m := (k + 1) * 43 + 42) rfl (by kernel_rfl) rfl) ?_
        refine q_val rfl rfl rfl (y_ldR (u := .int .i64 (J2 ((k + 1)))) 0 rfl Try.isAgg3 rfl ((fm_get inC 43 inC_len _ (k + 1) 42 _ (ins_get (csQ f i) J2 (i + 2) ((k + 1)) (by omega)) (by decide)).trans rfl)) ?_
        refine q_val rfl rfl rfl (y_move rfl) ?_
        refine q_val rfl rfl rfl (y_lit false (y_ine rfl rfl) (decide_eq_false (by first | (have := hQb k (by omega) (by unfold isB; omega); omega) | (have := hQn k (by omega) (by unfold isB; omega); omega)))) ?_
        refine q_val rfl rfl rfl (y_pick_f rfl rfl) ?_
        refine q_val rfl rfl rfl (y_move rfl) ?_
        refine q_val rfl rfl rfl (y_move rfl) ?_
        refine q_val rfl rfl rfl (y_move rfl) ?_
        refine q_val rfl rfl rfl (y_idxAddr (m := k * 43 + 0) rfl rfl Try.underlying27 Try.sizeOf47 (by omega) (by omega) (by omega)) ?_
        refine q_val rfl rfl rfl (y_fieldAddr (k := 0) (m := k * 43 + 0) rfl (by kernel_rfl) rfl) ?_
        refine q_val rfl rfl rfl (y_fieldAddr (k := 1) (m := k * 43 + 1) rfl (by kernel_rfl) rfl) ?_
        refine q_val rfl rfl rfl (y_ldR (u := .int .u8 ((csP f) (k)).nm) 2 rfl Try.isAgg5 rfl ((fm_get inC 43 inC_len _ k 1 _ (ins_get (csP f) J i (k) (by omega)) (by decide)).trans rfl)) ?_
        refine q_val rfl rfl rfl (y_move rfl) ?_
        refine q_val rfl rfl rfl (y_move rfl) ?_
        refine q_val rfl rfl rfl (y_idxAddr (m := k * 42 + 0) rfl rfl Try.underlying23 Try.sizeOf45 (by omega) (by omega) (by omega)) ?_
        refine q_val rfl rfl rfl (y_fieldAddr (k := 1) (m := k * 42 + 1) rfl (by kernel_rfl) rfl) ?_
        refine q_val rfl rfl rfl (y_ldR (u := .int .u8 ((csP f) (k)).nm) 3 rfl Try.isAgg5 rfl ((fm_get cmC 42 cmC_len _ k 1 _ (cml_get (csP f) i (k) (by omega)) (by decide)).trans rfl)) ?_
        refine q_val rfl rfl rfl (y_lit false (y_ine rfl rfl) (decide_eq_false (fun h => h rfl))) ?_
        refine q_val rfl rfl rfl (y_pick_f rfl rfl) ?_
        refine q_val rfl rfl rfl (y_move rfl) ?_
        refine q_val rfl rfl rfl (y_move rfl) ?_
        refine q_val rfl rfl rfl (y_move rfl) ?_
        refine q_val (v := .int .i64 ((k : Int) + 1)) rfl rfl rfl (y_addi rfl rfl (by omega)) ?_
        refine q_val rfl rfl rfl (y_idxAddr (m := (k + 1) * 43 + 0) rfl rfl Try.underlying27 Try.sizeOf47 (by omega) (by omega) (by omega)) ?_
        refine q_val rfl rfl rfl (y_fieldAddr (k := 0) (m := (k + 1) * 43 + 0) rfl (by kernel_rfl) rfl) ?_
        refine q_val rfl rfl rfl (y_fieldAddr (k := 0) (m := (k + 1) * 43 + 0) rfl (by kernel_rfl) rfl) ?_
        refine q_val rfl rfl rfl (y_ldR (u := .complex .f64 ((csQ f i) ((k + 1))).re ((csQ f i) ((k + 1))).im) 0 rfl Try.isAgg28 rfl ((fm_get inC 43 inC_len _ (k + 1) 0 _ (ins_get (csQ f i) J2 (i + 2) ((k + 1)) (by omega)) (by decide)).trans rfl)) ?_
        refine q_val rfl rfl rfl (y_move rfl) ?_
        refine q_val rfl rfl rfl (y_move rfl) ?_
        refine q_val rfl rfl rfl (y_idxAddr (m := k * 42 + 0) rfl rfl Try.underlying23 Try.sizeOf45 (by omega) (by omega) (by omega)) ?_
        refine q_val rfl rfl rfl (y_fieldAddr (k := 0) (m := k * 42 + 0) rfl (by kernel_rfl) rfl) ?_
        refine q_val rfl rfl rfl (y_ldR (u := .complex .f64 ((csP f) (k)).re ((csP f) (k)).im) 3 rfl Try.isAgg28 rfl ((fm_get cmC 42 cmC_len _ k 0 _ (cml_get (csP f) i (k) (by omega)) (by decide)).trans rfl)) ?_
        refine q_val rfl rfl rfl (y_lit false (y_cne rfl rfl) (place_eq f (by omega) hi1)) ?_
        refine q_val rfl rfl rfl (y_pick_f rfl rfl) ?_
        refine q_nil (g_then (g_cond_f rfl (g_skip (g_in_normal (g_then (g_ops ?_))))))
        refine g_val rfl rfl rfl (y_move rfl) ?_
        refine g_val rfl rfl rfl (by first | exact y_addi rfl rfl (by first | omega | (simp only [size_mk, ByteArray.size_append, ByteArray.size_extract]; omega)) | exact y_iadd rfl rfl) ?_
        refine g_val rfl rfl rfl (y_assign rfl) ?_
        refine g_nil ?_
        exact g_again ⟨k + 1, by omega⟩ [3, 6, 9, 10, 13] (by dsimp only; omega) rfl (fun w h => h.sub (.cons_cons _ (.cons_cons _ (.cons_cons _ (.cons_cons _ .slnil)))))
      · skip
        refine g_val rfl rfl rfl (y_move rfl) ?_
        refine g_val rfl rfl rfl (y_move rfl) ?_
        refine g_val rfl rfl rfl (y_idxAddr (m := k * 42 + 0) rfl rfl Try.underlying23 Try.sizeOf45 (by omega) (by omega) (by omega)) ?_
        refine g_val rfl rfl rfl (y_fieldAddr (k := 1) (m := k * 42 + 1) rfl (by kernel_rfl) rfl) ?_
        refine g_val rfl rfl rfl (y_ldR (u := .int .u8 ((csP f) (k)).nm) 3 rfl Try.isAgg5 rfl ((fm_get cmC 42 cmC_len _ k 1 _ (cml_get (csP f) i (k) (by omega)) (by decide)).trans rfl)) ?_
        refine g_val rfl rfl rfl (y_ieq rfl rfl) ?_
        refine g_val rfl rfl rfl (y_pick_f rfl rfl) ?_
        refine g_val rfl rfl rfl (y_assign rfl) ?_
        refine g_nil (g_then (g_seq (g_ops ?_)))
        refine g_val rfl rfl rfl (y_assign rfl) ?_
        refine g_nil (g_then (g_seq (g_ops ?_)))
        refine g_val rfl rfl rfl (y_assign rfl) ?_
        refine g_nil (g_then (g_seq (g_seq (g_ops ?_))))
        refine g_val rfl rfl rfl (y_move rfl) ?_
        refine g_nil (g_then ?_)
        first | refine g_casep 114 rfl (fun h24 => ?_) (fun h24 => ?_) | refine g_caseb 114 rfl (fun h24 => ?_) (fun h24 => ?_)
        · skip
          refine g_cond_t rfl (g_seq (g_ops ?_))
          refine g_val rfl rfl rfl (y_move rfl) ?_
          refine g_val rfl rfl rfl (y_llen rfl Try.underlying23) ?_
          refine g_val rfl rfl rfl (y_assign rfl) ?_
          refine g_nil (g_then (g_ops ?_))
          refine g_val rfl rfl rfl (y_move rfl) ?_
          refine g_val rfl rfl rfl (y_llen rfl Try.underlying23) ?_
          refine g_val rfl rfl rfl (by first | exact y_addi rfl rfl (by first | omega | (simp only [size_mk, ByteArray.size_append, ByteArray.size_extract]; omega)) | exact y_iadd rfl rfl) ?_
          refine g_val rfl rfl rfl (y_assign rfl) ?_
          refine g_nil (g_then (g_seq ?_))
          refine g_rowCase 2 rfl (by omega) (fun gr25 cr25 hv25 => ?_)
          cases hv25
          refine g_quiet (by kernel_rfl) (by kernel_rfl) ?_
          refine q_val rfl rfl rfl (y_move rfl) ?_
          refine q_val rfl rfl rfl (y_move rfl) ?_
          refine q_val rfl rfl rfl (y_idxAddr (m := k * 43 + 0) rfl rfl Try.underlying27 Try.sizeOf47 (by omega) (by omega) (by omega)) ?_
          refine q_val rfl rfl rfl (y_fieldAddr (k := 42) (m := k * 43 + 42) rfl (by kernel_rfl) rfl) ?_
          refine q_val rfl rfl rfl (y_ldR (u := .int .i64 (J (k))) 2 rfl Try.isAgg3 rfl ((fm_get inC 43 inC_len _ k 42 _ (ins_get (csP f) J i (k) (by omega)) (by decide)).trans rfl)) ?_
          refine q_val rfl rfl rfl (y_move rfl) ?_
          refine q_val rfl rfl rfl (y_lit false (y_ine rfl rfl) (decide_eq_false (by first | (have := hJb k (by omega) (by unfold isB; omega); omega) | (have := hJn k (by omega) (by unfold isB; omega); omega)))) ?_
          refine q_val rfl rfl rfl (y_move rfl) ?_
          refine q_val rfl rfl rfl (y_move rfl) ?_
          refine q_val rfl rfl rfl (y_move rfl) ?_
          refine q_val (v := .int .i64 ((k : Int) + 1)) rfl rfl rfl (y_addi rfl rfl (by omega)) ?_
          refine q_val rfl rfl rfl (y_idxAddr (m := (k + 1) * 43 + 0) rfl rfl Try.underlying27 Try.sizeOf47 (by omega) (by omega) (by omega)) ?_
          refine q_val rfl rfl rfl (y_fieldAddr (k := 42) (m := (k + 1) * 43 + 42) rfl (by kernel_rfl) rfl) ?_
          refine q_val rfl rfl rfl (y_ldR (u := .int .i64 (J2 ((k + 1)))) 0 rfl Try.isAgg3 rfl ((fm_get inC 43 inC_len _ (k + 1) 42 _ (ins_get (csQ f i) J2 (i + 2) ((k + 1)) (by omega)) (by decide)).trans rfl)) ?_
          refine q_val rfl rfl rfl (y_move rfl) ?_
          refine q_val rfl rfl rfl (y_lit false (y_ine rfl rfl) (decide_eq_false (by first | (have := hQb k (by omega) (by unfold isB; omega); omega) | (have := hQn k (by omega) (by unfold isB; omega); omega)))) ?_
          refine q_val rfl rfl rfl (y_pick_f rfl rfl) ?_
          refine q_val rfl rfl rfl (y_move rfl) ?_
          refine q_val rfl rfl rfl (y_move rfl) ?_
          refine q_val rfl rfl rfl (y_move rfl) ?_
          refine q_val rfl rfl rfl (y_idxAddr (m := k * 43 + 0) rfl rfl Try.underlying27 Try.sizeOf47 (by omega) (by omega) (by omega)) ?_
          refine q_val rfl rfl rfl (y_fieldAddr (k := 0) (m := k * 43 + 0) rfl (by kernel_rfl) rfl) ?_
          refine q_val rfl rfl rfl (y_fieldAddr (k := 1) (m := k * 43 + 1) rfl (by kernel_rfl) rfl) ?_
          refine q_val rfl rfl rfl (y_ldR (u := .int .u8 ((csP f) (k)).nm) 2 rfl Try.isAgg5 rfl ((fm_get inC 43 inC_len _ k 1 _ (ins_get (csP f) J i (k) (by omega)) (by decide)).trans rfl)) ?_
          refine q_val rfl rfl rfl (y_move rfl) ?_
          refine q_val rfl rfl rfl (y_move rfl) ?_
          refine q_val rfl rfl rfl (y_idxAddr (m := k * 42 + 0) rfl rfl Try.underlying23 Try.sizeOf45 (by omega) (by omega) (by omega)) ?_
          refine q_val rfl rfl rfl (y_fieldAddr (k := 1) (m := k * 42 + 1) rfl (by kernel_rfl) rfl) ?_
          refine q_val rfl rfl rfl (y_ldR (u := .int .u8 ((csP f) (k)).nm) 3 rfl Try.isAgg5 rfl ((fm_get cmC 42 cmC_len _ k 1 _ (cml_get (csP f) i (k) (by omega)) (by decide)).trans rfl)) ?_
          refine q_val rfl rfl rfl (y_lit false (y_ine rfl rfl) (decide_eq_false (fun h => h rfl))) ?_
          refine q_val rfl rfl rfl (y_pick_f rfl rfl) ?_
          refine q_val rfl rfl rfl (y_move rfl) ?_
          refine q_val rfl rfl rfl (y_move rfl) ?_
          refine q_val rfl rfl rfl (y_move rfl) ?_
          refine q_val (v := .int .i64 ((k : Int) + 1)) rfl rfl rfl (y_addi rfl rfl (by omega)) ?_
          refine q_val rfl rfl rfl (y_idxAddr (m := (k + 1) * 43 + 0) rfl rfl Try.underlying27 Try.sizeOf47 (by omega) (by omega) (by omega)) ?_
          refine q_val rfl rfl rfl (y_fieldAddr (k := 0) (m := (k + 1) * 43 + 0) rfl (by kernel_rfl) rfl) ?_
          refine q_val rfl rfl rfl (y_fieldAddr (k := 0) (m := (k + 1) * 43 + 0) rfl (by kernel_rfl) rfl) ?_
          refine q_val rfl rfl rfl (y_ldR (u := .complex .f64 ((csQ f i) ((k + 1))).re ((csQ f i) ((k + 1))).im) 0 rfl Try.isAgg28 rfl ((fm_get inC 43 inC_len _ (k + 1) 0 _ (ins_get (csQ f i) J2 (i + 2) ((k + 1)) (by omega)) (by decide)).trans rfl)) ?_
          refine q_val rfl rfl rfl (y_move rfl) ?_
          refine q_val rfl rfl rfl (y_move rfl) ?_
          refine q_val rfl rfl rfl (y_idxAddr (m := k * 42 + 0) rfl rfl Try.underlying23 Try.sizeOf45 (by omega) (by omega) (by omega)) ?_
          refine q_val rfl rfl rfl (y_fieldAddr (k := 0) (m := k * 42 + 0) rfl (by kernel_rfl) rfl) ?_
          refine q_val rfl rfl rfl (y_ldR (u := .complex .f64 ((csP f) (k)).re ((csP f) (k)).im) 3 rfl Try.isAgg28 rfl ((fm_get cmC 42 cmC_len _ k 0 _ (cml_get (csP f) i (k) (by omega)) (by decide)).trans rfl)) ?_
          refine q_val rfl rfl rfl (y_lit false (y_cne rfl rfl) (place_eq f (by omega) hi1)) ?_
          refine q_val rfl rfl rfl (y_pick_f rfl rfl) ?_
          refine q_nil (g_then (g_cond_f rfl (g_skip (g_in_normal (g_then (g_ops ?_))))))
          refine g_val rfl rfl rfl (y_move rfl) ?_
          refine g_val rfl rfl rfl (by first | exact y_addi rfl rfl (by first | omega | (simp only [size_mk, ByteArray.size_append, ByteArray.size_extract]; omega)) | exact y_iadd rfl rfl) ?_
          refine g_val rfl rfl rfl (y_assign rfl) ?_
          refine g_nil ?_
          exact g_again ⟨k + 1, by omega⟩ [3, 6, 9, 10, 13] (by dsimp only; omega) rfl (fun w h => h.sub (.cons_cons _ (.cons_cons _ (.cons_cons _ (.cons_cons _ .slnil)))))
        · skip
          refine g_cond_f rfl (g_skip (g_then (g_seq ?_)))
          refine g_rowCase 2 rfl (by omega) (fun gr26 cr26 hv26 => ?_)
          cases hv26
          refine g_quiet (by kernel_rfl) (by kernel_rfl) ?_
          refine q_val rfl rfl rfl (y_move rfl) ?_
          refine q_val rfl rfl rfl (y_move rfl) ?_
          refine q_val rfl rfl rfl (y_idxAddr (m := k * 43 + 0) rfl rfl Try.underlying27 Try.sizeOf47 (by omega) (by omega) (by omega)) ?_
          refine q_val rfl rfl rfl (y_fieldAddr (k := 42) (m := k * 43 + 42) rfl (by kernel_rfl) rfl) ?_
          refine q_val rfl rfl rfl (y_ldR (u := .int .i64 (J (k))) 2 rfl Try.isAgg3 rfl ((fm_get inC 43 inC_len _ k 42 _ (ins_get (csP f) J i (k) (by omega)) (by decide)).trans rfl)) ?_
          refine q_val rfl rfl rfl (y_move rfl) ?_
          refine q_val rfl rfl rfl (y_lit false (y_ine rfl rfl) (decide_eq_false (by first | (have := hJb k (by omega) (by unfold isB; omega); omega) | (have := hJn k (by omega) (by unfold isB; omega); omega)))) ?_
          refine q_val rfl rfl rfl (y_move rfl) ?_
          refine q_val rfl rfl rfl (y_move rfl) ?_
          refine q_val rfl rfl rfl (y_move rfl) ?_
          refine q_val (v := .int .i64 ((k : Int) + 1)) rfl rfl rfl (y_addi rfl rfl (by omega)) ?_
          refine q_val rfl rfl rfl (y_idxAddr (m := (k + 1) * 43 + 0) rfl rfl Try.underlying27 Try.sizeOf47 (by omega) (by omega) (by omega)) ?_
          refine q_val rfl rfl rfl (y_fieldAddr (k := 42) (m := (k + 1) * 43 + 42) rfl (by kernel_rfl) rfl) ?_
          refine q_val rfl rfl rfl (y_ldR (u := .int .i64 (J2 ((k + 1)))) 0 rfl Try.isAgg3 rfl ((fm_get inC 43 inC_len _ (k + 1) 42 _ (ins_get (csQ f i) J2 (i + 2) ((k + 1)) (by omega)) (by decide)).trans rfl)) ?_
          refine q_val rfl rfl rfl (y_move rfl) ?_
          refine q_val rfl rfl rfl (y_lit false (y_ine rfl rfl) (decide_eq_false (by first | (have := hQb k (by omega) (by unfold isB; omega); omega) | (have := hQn k (by omega) (by unfold isB; omega); omega)))) ?_
          refine q_val rfl rfl rfl (y_pick_f rfl rfl) ?_
          refine q_val rfl rfl rfl (y_move rfl) ?_
          refine q_val rfl rfl rfl (y_move rfl) ?_
          refine q_val rfl rfl rfl (y_move rfl) ?_
          refine q_val rfl rfl rfl (y_idxAddr (m := k * 43 + 0) rfl rfl Try.underlying27 Try.sizeOf47 (by omega) (by omega) (by omega)) ?_
          refine q_val rfl rfl rfl (y_fieldAddr (k := 0) (m := k * 43 + 0) rfl (by kernel_rfl) rfl) ?_
          refine q_val rfl rfl rfl (y_fieldAddr (k := 1) (m := k * 43 + 1) rfl (by kernel_rfl) rfl) ?_
          refine q_val rfl rfl rfl (y_ldR (u := .int .u8 ((csP f) (k)).nm) 2 rfl Try.isAgg5 rfl ((fm_get inC 43 inC_len _ k 1 _ (ins_get (csP f) J i (k) (by omega)) (by decide)).trans rfl)) ?_
          refine q_val rfl rfl rfl (y_move rfl) ?_
          refine q_val rfl rfl rfl (y_move rfl) ?_
          refine q_val rfl rfl rfl (y_idxAddr (m := k * 42 + 0) rfl rfl Try.underlying23 Try.sizeOf45 (by omega) (by omega) (by omega)) ?_
          refine q_val rfl rfl rfl (y_fieldAddr (k := 1) (m := k * 42 + 1) rfl (by kernel_rfl) rfl) ?_
          refine q_val rfl rfl rfl (y_ldR (u := .int .u8 ((csP f) (k)).nm) 3 rfl Try.isAgg5 rfl ((fm_get cmC 42 cmC_len _ k 1 _ (cml_get (csP f) i (k) (by omega)) (by decide)).trans rfl)) ?_
          refine q_val rfl rfl rfl (y_lit false (y_ine rfl rfl) (decide_eq_false (fun h => h rfl))) ?_
          refine q_val rfl rfl rfl (y_pick_f rfl rfl) ?_
          refine q_val rfl rfl rfl (y_move rfl) ?_
          refine q_val rfl rfl rfl (y_move rfl) ?_
          refine q_val rfl rfl rfl (y_move rfl) ?_
          refine q_val (v := .int .i64 ((k : Int) + 1)) rfl rfl rfl (y_addi rfl rfl (by omega)) ?_
          refine q_val rfl rfl rfl (y_idxAddr (m := (k + 1) * 43 + 0) rfl rfl Try.underlying27 Try.sizeOf47 (by omega) (by omega) (by omega)) ?_
          refine q_val rfl rfl rfl (y_fieldAddr (k := 0) (m := (k + 1) * 43 + 0) rfl (by kernel_rfl) rfl) ?_
          refine q_val rfl rfl rfl (y_fieldAddr (k := 0) (m := (k + 1) * 43 + 0) rfl (by kernel_rfl) rfl) ?_
          refine q_val rfl rfl rfl (y_ldR (u := .complex .f64 ((csQ f i) ((k + 1))).re ((csQ f i) ((k + 1))).im) 0 rfl Try.isAgg28 rfl ((fm_get inC 43 inC_len _ (k + 1) 0 _ (ins_get (csQ f i) J2 (i + 2) ((k + 1)) (by omega)) (by decide)).trans rfl)) ?_
          refine q_val rfl rfl rfl (y_move rfl) ?_
          refine q_val rfl rfl rfl (y_move rfl) ?_
          refine q_val rfl rfl rfl (y_idxAddr (m := k * 42 + 0) rfl rfl Try.underlying23 Try.sizeOf45 (by omega) (by omega) (by omega)) ?_
          refine q_val rfl rfl rfl (y_fieldAddr (k := 0) (m := k * 42 + 0) rfl (by kernel_rfl) rfl) ?_
          refine q_val rfl rfl rfl (y_ldR (u := .complex .f64 ((csP f) (k)).re ((csP f) (k)).im) 3 rfl Try.isAgg28 rfl ((fm_get cmC 42 cmC_len _ k 0 _ (cml_get (csP f) i (k) (by omega)) (by decide)).trans rfl)) ?_
          refine q_val rfl rfl rfl (y_lit false (y_cne rfl rfl) (place_eq f (by omega) hi1)) ?_
          refine q_val rfl rfl rfl (y_pick_f rfl rfl) ?_
          refine q_nil (g_then (g_cond_f rfl (g_skip (g_in_normal (g_then (g_ops ?_))))))
          refine g_val rfl rfl rfl (y_move rfl) ?_
          refine g_val rfl rfl rfl (by first | exact y_addi rfl rfl (by first | omega | (simp only [size_mk, ByteArray.size_append, ByteArray.size_extract]; omega)) | exact y_iadd rfl rfl) ?_
          refine g_val rfl rfl rfl (y_assign rfl) ?_
          refine g_nil ?_
          exact g_again ⟨k + 1, by omega⟩ [3, 6, 9, 10, 13] (by dsimp only; omega) rfl (fun w h => h.sub (.cons_cons _ (.cons_cons _ (.cons_cons _ (.cons_cons _ .slnil)))))
    · skip
      refine g_cond_f rfl (g_exit (g_then_exit (g_then_exit (g_in_exit (g_then (g_seq (g_ops ?_)))))))
      refine g_call1 rfl rfl rfl Try.call9 (fun w hS => alive_any w) ?_
      refine g_val rfl rfl rfl (y_move rfl) ?_
      refine g_val rfl rfl rfl (y_move rfl) ?_
      refine g_call1 rfl rfl rfl Try.call11 (fun w hS => deep_any _ (i) _ (csP f) w (by omega) (rd_cm (hS.get (i := 3) rfl))) ?_
      refine g_val rfl rfl rfl (y_lit true (y_ieq rfl rfl) (decide_eq_true (by rw [deep_P hfi i (Nat.le_refl _)]))) ?_
      refine g_val rfl rfl rfl (y_pick_t rfl rfl) ?_
      refine g_val rfl rfl rfl (y_move rfl) ?_
      refine g_val rfl rfl rfl (y_move rfl) ?_
      refine g_call1 rfl rfl rfl Try.call11 (fun w hS => deep_any _ ((i + 2)) _ (csQ f i) w (by omega) (rd_cm (hS.get (i := 1) rfl))) ?_
      refine g_val rfl rfl rfl (y_lit true (y_ieq rfl rfl) (decide_eq_true (deep_Q2 hfi))) ?_
      refine g_val rfl rfl rfl (y_pick_t rfl rfl) ?_
      refine g_val rfl rfl rfl (y_assign rfl) ?_
      refine g_nil (g_then (g_ret ?_))
      refine g_end1 Try.results5 rfl ?_
      exact fun w hS => ⟨rfl, (hS.sub (List.nil_sublist _)).below⟩

end Go.Proofs.Ytpacnggomjepdaa
