/- Tokens. -/
import Derived.Test.YtpoelkfncpjmfaaPat
import Derived.Test.YtpoelkfncpjmfaaU
namespace Go.Proofs.Ytpoelkfncpjmfaa
open Go Go.RowKit

structure Tok where
  k : Int
  s : Nat → Int
  mi : Int
  ma : Int
def tC (t : Tok) : List Value := [.int .i64 t.k, .int .u64 (t.s 0), .int .u64 (t.s 1), .int .u64 (t.s 2), .int .u64 (t.s 3), .int .i64 t.mi, .int .i64 t.ma]
theorem tC_len (t : Tok) : (tC t).length = 7 := rfl
theorem fm_get {α : Type} (f : α → List Value) (sz : Nat) (hf : ∀ a, (f a).length = sz) (l : List α) (i j : Nat) (a : α) (hi : l[i]? = some a) (hj : j < sz) : (l.flatMap f)[i * sz + j]? = (f a)[j]? := by
  induction l generalizing i with
  | nil => simp at hi
  | cons b l ih =>
    rw [List.flatMap_cons]
    cases i with
    | zero =>
      simp only [List.getElem?_cons_zero, Option.some.injEq] at hi
      subst hi
      rw [Nat.zero_mul, Nat.zero_add, List.getElem?_append_left (by rw [hf]; exact hj)]
    | succ i =>
      rw [List.getElem?_cons_succ] at hi
      rw [List.getElem?_append_right (by rw [hf, Nat.succ_mul]; omega), hf, show (i + 1) * sz + j - sz = i * sz + j by rw [Nat.succ_mul]; omega]
      exact ih i hi
theorem fm_len {α : Type} (f : α → List Value) (sz : Nat) (hf : ∀ a, (f a).length = sz) (l : List α) : (l.flatMap f).length = l.length * sz := by
  induction l with
  | nil => simp
  | cons a l ih => rw [List.flatMap_cons, List.length_append, hf, ih, List.length_cons, Nat.succ_mul]; omega
/-- append: one struct more. -/
theorem g_appS {P : Program} {N : Nat} {R : Regs} {Q : Exit → Act → World → Prop} {ops : Array Oper} {rest : List Oper} {W0 : World} {F : List Nat} {L : List Ent} {ty e : TypeId} {pos : String} {af : Array Edge} {gd : Option (Nat × Bool)} {x y : Operand} {α : Type} (f : α → List Value) {d : Nat} {tt : TypeId} {size bytes cap : Nat} {v : Value} {cs : List α} {b j : Nat} {t' : TypeId} (c : α) (i : Nat)
    (hw : want ops R ⟨some d, .call { callee := .builtin .append, args := #[x, y], argTypes := #[tt, tt] }, ty, pos, af, gd⟩ = some true) (hN : Nat.blt d N = true)
    (hx : ev R x = some v) (hy : ev R y = some (.slice (some ⟨b, 0, none⟩) 1 cap)) (ht : P.underlying tt = some (.slice e)) (he : elemInfo P e = some (size, bytes))
    (hi : L[i]? = some (.row e size v cs.length (cs.flatMap f))) (hj : L[j]? = some (.cells b t' (f c))) (hl : ∀ a, (f a).length = size) (h1 : (f c).all (·.oneCell') = true)
    (hb : (cs.length + 1) * bytes ≤ 140737488355328) (h63 : cs.length + 1 ≤ maxLen)
    (h : ∀ v', G N ((d, v') :: R) (St W0 F (L.set i (.row e size v' (cs ++ [c]).length ((cs ++ [c]).flatMap f)))) (wpList P ops Q rest)) :
    G N R (St W0 F L) (wpList P ops Q (⟨some d, .call { callee := .builtin .append, args := #[x, y], argTypes := #[tt, tt] }, ty, pos, af, gd⟩ :: rest)) := by
  refine g_append (n := cs.length) (m := 1) (xs := cs.flatMap f) (news := f c) i hw hN hx hy ht he hi (by rw [hl]; omega) (news_of_cells hj) h1 hb h63 fun v' => ?_
  have e1 : (cs ++ [c]).length = cs.length + 1 := by simp
  have e2 : (cs ++ [c]).flatMap f = cs.flatMap f ++ f c := by simp
  have := h v'
  rwa [e1, e2] at this
/-- A text, by its bytes. -/
def st8 (l : List UInt8) : Value := .string ⟨l.toArray⟩
theorem st8_nil (c : UInt8) (l : List UInt8) : ¬ ((⟨(c :: l).toArray⟩ : ByteArray) = ⟨#[]⟩) := fun h => by
  have := congrArg (fun b : ByteArray => b.data.size) h
  simp at this
theorem st8_0 (c : UInt8) (l : List UInt8) : (⟨(c :: l).toArray⟩ : ByteArray)[0]? = some c := rfl
theorem st8_1 (c : UInt8) (l : List UInt8) : (⟨(c :: l).toArray⟩ : ByteArray).extract 1 (⟨(c :: l).toArray⟩ : ByteArray).size = ⟨l.toArray⟩ := by
  apply ByteArray.ext
  rw [ByteArray.data_extract]
  apply Array.ext'
  rw [Array.toList_extract]
  show ((c :: l).drop 1).take ((c :: l).toArray.size - 1) = l
  simp
theorem st8_get {l : List UInt8} {i : Nat} (h : i < l.length) : ∃ c, l[i]? = some c ∧ (⟨l.toArray⟩ : ByteArray)[i]? = some c := by
  refine ⟨l[i], List.getElem?_eq_getElem h, ?_⟩
  rw [getElem?_pos _ _ (by rw [size_mk]; exact h)]
  rfl
def litT (c : UInt8) : Tok := ⟨0, withS s0 c.toNat 1, 0, 0⟩
def kT (k : Int) : Tok := ⟨k, s0, 0, 0⟩
def startsT (ts : List Tok) : Bool := match ts.getLast? with
  | none => true
  | some t => decide (t.k = 1 ∨ t.k = 3)
def begunT (ts : List Tok) : Bool := match ts.getLast? with
  | none => false
  | some t => decide (t.k = 5)
theorem last_get {ts : List Tok} (i : Nat) (h : i + 1 = ts.length) : ∃ t, ts[i]? = some t ∧ ts.getLast? = some t := by
  refine ⟨ts[i]'(by omega), List.getElem?_eq_getElem (by omega), ?_⟩
  rw [List.getLast?_eq_getElem?, show ts.length - 1 = i by omega, List.getElem?_eq_getElem (show i < ts.length by omega)]
theorem last_none {ts : List Tok} (h : ts.length = 0) : ts.getLast? = none := by rw [List.length_eq_zero_iff.1 h]; rfl
theorem St.mine {W0 w : World} {F : List Nat} {L : List Ent} (h : St W0 F L w) : St w (L.flatMap Ent.fp) L w := St.start L (fun e he => h.ok e he) h.apart
/-- A callee that is handed all that is owned. -/
theorem g_callAll {P : Program} {N : Nat} {R : Regs} {Q : Exit → Act → World → Prop} {ops : Array Oper} {rest : List Oper} {W0 : World} {F : List Nat} {L : List Ent} {ty : TypeId} {pos : String} {af : Array Edge} {gd : Option (Nat × Bool)} {α : Type} {d : Nat} {f : FuncId} {xs : List Operand} {ats : Array TypeId} {vs : List Value} (r : α → Value) (L1 : α → List Ent)
    (hw : want ops R ⟨some d, .call { callee := .value (.func f), args := xs.toArray, argTypes := ats }, ty, pos, af, gd⟩ = some true) (hN : Nat.blt d N = true)
    (hx : xs.mapM (ev R) = some vs) (hf : ∀ args w, (callFunc f args).run P w = .ok (.enter f args) w)
    (hc : ∀ w F', St w F' L w → Calls P f vs.toArray w (fun e w' => ∃ x, e = .returned (r x) ∧ St w F' (L1 x) w'))
    (h : ∀ x, G N ((d, r x) :: R) (St W0 F (L1 x)) (wpList P ops Q rest)) : G N R (St W0 F L) (wpList P ops Q (⟨some d, .call { callee := .value (.func f), args := xs.toArray, argTypes := ats }, ty, pos, af, gd⟩ :: rest)) :=
  g_call r (fun x => St W0 F (L1 x)) hw hN hx hf (fun w hS => (hc w _ hS.mine).mono fun _ _ ⟨x, he, hb⟩ => ⟨x, he, by
    have := St.join (Lr := []) (by simpa using hS) (fun k hk => by obtain ⟨e, he, hk⟩ := List.mem_flatMap.1 hk; exact ⟨e, he, hk⟩) hb
    simpa using this⟩) h

set_option maxRecDepth 100000 in
theorem put_any (b : Nat) (r e0 d v : Value) (ts : List Tok) (t : Tok) (F : List Nat) (w : World) (hts : ts.length ≤ 1000) (hS0 : St w F [.cells b 50 [r, e0, v, d], .row 64 7 v ts.length (ts.flatMap tC)] w) :
    Calls Try.prog 23 #[.pointer (some ⟨b, 0, none⟩), .agg (tC t).toArray] w fun e w' => ∃ v' : Value, e = .returned (.tuple #[]) ∧ St w F [.cells b 50 [r, e0, v', d], .row 64 7 v' (ts ++ [t]).length ((ts ++ [t]).flatMap tC)] w' := by
 refine fn_intro_own Try.func23 rfl Try.ntmps23 rfl rfl hS0 ?_
 refine s_ (o_ ?_)
 refine g_box rfl rfl rfl rfl (fun b1 => ?_)
 refine n_ (t_ ?_)
 refine k_go [0] rfl (by kernel_rfl) (fun _ _ _ _ _ h => h) fun hQ => ?_
 refine k_x 0 [0] [] hQ (by kernel_rfl) rfl rfl rfl rfl rfl rfl ?_
 refine k_x 1 [0] [] hQ (by kernel_rfl) rfl rfl rfl rfl rfl rfl ?_
 refine k_x 2 [0] [] hQ (by kernel_rfl) rfl rfl rfl rfl rfl rfl ?_
 refine k_x 3 [0] [] hQ (by kernel_rfl) rfl rfl rfl rfl rfl rfl ?_
 refine k_xc 5 [0] [0] hQ (by kernel_rfl) rfl rfl rfl rfl rfl rfl (by omega) ?_
 refine k_all [4,6] (by kernel_rfl) (by simp) ⟨?_, ?_, trivial⟩
 ·refine k_op 4 rfl ?_
  refine xg 1 [1] rfl (by omega) ?_
  refine n_ ?_
  refine k_end (fun _ h => h.pick [0] rfl) ?_
  refine k_one 6 (by kernel_rfl) ?_
  refine k_op 6 rfl ?_
  refine g_buildSlice (offs := [0]) rfl rfl Try.underlying48 rfl Try.zeroValue64 (by kernel_rfl) (fun b2 => ?_)
  refine n_ ?_
  refine k_end (fun _ h => h.pick [1] rfl) ?_
  refine k_one 7 (by kernel_rfl) ?_
  refine k_op 7 rfl ?_
  refine g_appS (bytes := 56) tC (t) 3 (j := 0) rfl rfl rfl rfl Try.underlying48 (by kernel_rfl) rfl rfl tC_len rfl (by omega) (by have : maxLen = 9223372036854775807 := rfl; omega) (fun v3 => ?_)
  simp only [List.set_cons_zero, List.set_cons_succ]
  refine n_ ?_
  refine k_end (fun _ h => h.pick [1] rfl) ?_
  refine k_x 8 [1] [] hQ (by kernel_rfl) rfl rfl rfl rfl rfl rfl ?_
  refine k_x 9 [1] [] hQ (by kernel_rfl) rfl rfl rfl rfl rfl rfl ?_
  refine k_one 10 (by kernel_rfl) ?_
  refine k_op 10 rfl ?_
  refine g_rowLen 3 rfl (fun pr1 cr1 hv1 => ?_)
  cases hv1
  refine g_st 2 rfl rfl rfl Try.sizeOf48 rfl rfl rfl ?_
  simp only [List.set_cons_zero, List.set_cons_succ]
  refine n_ ?_
  refine k_end (fun _ h => h.pick [1] rfl) ?_
  refine k_done (by kernel_rfl) ?_
  refine g_end_normal ?_
  refine g_end0 Try.results23 ?_
  exact fun w hS => ⟨_, rfl, hS.pick [2,2] rfl⟩
 refine k_op 6 rfl ?_
 refine g_buildSlice (offs := [0]) rfl rfl Try.underlying48 rfl Try.zeroValue64 (by kernel_rfl) (fun b4 => ?_)
 refine n_ ?_
 refine k_end (fun _ h => h.pick [1] rfl) ?_
 refine k_one 4 (by kernel_rfl) ?_
 refine k_op 4 rfl ?_
 refine xg 1 [2] rfl (by omega) ?_
 refine n_ ?_
 refine k_end (fun _ h => h.pick [1] rfl) ?_
 refine k_one 7 (by kernel_rfl) ?_
 refine k_op 7 rfl ?_
 refine g_appS (bytes := 56) tC (t) 3 (j := 0) rfl rfl rfl rfl Try.underlying48 (by kernel_rfl) rfl rfl tC_len rfl (by omega) (by have : maxLen = 9223372036854775807 := rfl; omega) (fun v5 => ?_)
 simp only [List.set_cons_zero, List.set_cons_succ]
 refine n_ ?_
 refine k_end (fun _ h => h.pick [1] rfl) ?_
 refine k_x 8 [1] [] hQ (by kernel_rfl) rfl rfl rfl rfl rfl rfl ?_
 refine k_x 9 [1] [] hQ (by kernel_rfl) rfl rfl rfl rfl rfl rfl ?_
 refine k_one 10 (by kernel_rfl) ?_
 refine k_op 10 rfl ?_
 refine g_rowLen 3 rfl (fun pr2 cr2 hv2 => ?_)
 cases hv2
 refine g_st 2 rfl rfl rfl Try.sizeOf48 rfl rfl rfl ?_
 simp only [List.set_cons_zero, List.set_cons_succ]
 refine n_ ?_
 refine k_end (fun _ h => h.pick [1] rfl) ?_
 refine k_done (by kernel_rfl) ?_
 refine g_end_normal ?_
 refine g_end0 Try.results23 ?_
 exact fun w hS => ⟨_, rfl, hS.pick [2,2] rfl⟩

set_option maxRecDepth 100000 in
theorem literal_any (b : Nat) (r e0 d v : Value) (ts : List Tok) (c : UInt8) (F : List Nat) (w : World) (hts : ts.length ≤ 1000) (hS0 : St w F [.cells b 50 [r, e0, v, d], .row 64 7 v ts.length (ts.flatMap tC)] w) :
    Calls Try.prog 28 #[.pointer (some ⟨b, 0, none⟩), .int .u8 (c.toNat : Int)] w fun e w' => ∃ v' : Value, e = .returned (.tuple #[]) ∧ St w F [.cells b 50 [r, e0, v', d], .row 64 7 v' (ts ++ [litT c]).length ((ts ++ [litT c]).flatMap tC)] w' := by
 have hcl := c.toNat_lt
 refine fn_intro_own Try.func28 rfl Try.ntmps28 rfl rfl hS0 ?_
 refine o_ ?_
 refine xg 4 [] rfl rfl ?_
 refine g_call1 rfl rfl rfl Try.call24 (fun w hS => (by have := cwith_any s0 c.toNat c.toNat (by omega) (by omega) w; rwa [show c.toNat + 1 - c.toNat = 1 by omega] at this)) ?_
 refine xg 1 [] rfl rfl ?_
 refine g_callAll (fun _ : Value => .tuple #[]) (fun v' => [.cells b 50 [r, e0, v', d], .row 64 7 v' (ts ++ [(litT c)]).length ((ts ++ [(litT c)]).flatMap tC)]) rfl rfl rfl Try.call23 (fun w F' hS => put_any b r e0 d v ts (litT c) F' w (by first | omega | (simp only [List.length_append, List.length_singleton]; omega)) hS) (fun vq => ?_)
 refine n_ (g_end_normal ?_)
 refine g_end0 Try.results28 ?_
 exact fun w hS => ⟨_, rfl, hS.pick [0,0] rfl⟩

set_option maxRecDepth 100000 in
theorem starts_any (b : Nat) (r e0 d v : Value) (ts : List Tok) (F : List Nat) (w : World) (hts : ts.length ≤ 1000) (hS0 : St w F [.cells b 50 [r, e0, v, d], .row 64 7 v ts.length (ts.flatMap tC)] w) :
    Calls Try.prog 26 #[.pointer (some ⟨b, 0, none⟩)] w fun e w' => ∃ _ : Unit, e = .returned (.bool (startsT ts)) ∧ St w F [.cells b 50 [r, e0, v, d], .row 64 7 v ts.length (ts.flatMap tC)] w' := by
 refine fn_intro_own Try.func26 rfl Try.ntmps26 rfl rfl hS0 ?_
 refine s_ (o_ ?_)
 refine xg 1 [] rfl rfl ?_
 refine ntso_ ?_
 refine xg 4 [0] rfl (by omega) ?_
 refine g_rowLen 1 rfl (fun pr1 cr1 hv1 => ?_)
 cases hv1
 refine g_val rfl rfl rfl (y_llen rfl Try.underlying48) ?_
 refine xg 1 [] rfl rfl ?_
 refine ntso_ ?_
 refine xg 3 [0] rfl rfl ?_
 refine g_casep 11 rfl (fun h2 => ?_) fun h2 => ?_
 ·refine xg 24 [] rfl rfl ?_
  refine n_ (t_ (g_ret ?_))
  refine g_end1 Try.results26 rfl ?_
  exact fun w hS => ⟨(), ret_bool (by unfold startsT; rw [last_none (by omega)]), hS.pick [0,0] rfl⟩
 refine xg 5 [0] rfl (by omega) ?_
 obtain ⟨tk, htk, hlk⟩ := last_get (ts := ts) (ts.length - 1) (by omega)
 refine g_val rfl rfl rfl (y_subi rfl rfl (by omega)) ?_
 refine g_rowCase 1 rfl (by omega) (fun gr3 cr3 hv3 => ?_)
 cases hv3
 refine g_val rfl rfl rfl (y_idxAddr (m := (ts.length - 1) * 7 + 0) rfl rfl Try.underlying48 Try.sizeOf64 (by omega) (by omega) (by omega)) ?_
 refine xg 1 [] rfl rfl ?_
 refine g_val rfl rfl rfl (y_ldR (u := .int .i64 tk.k) 1 rfl Try.isAgg3 rfl ((fm_get tC 7 tC_len _ (ts.length - 1) 0 _ (htk) (by decide)).trans rfl)) ?_
 refine xg 3 [0] rfl rfl ?_
 refine g_casep 23 rfl (fun h4 => ?_) fun h4 => ?_
 ·refine xg 12 [] rfl rfl ?_
  refine n_ (t_ (g_ret ?_))
  refine g_end1 Try.results26 rfl ?_
  exact fun w hS => ⟨(), ret_bool (by unfold startsT; first | (rw [hlk]; done) | (rw [hlk]; dsimp only; exact (decide_eq_true (by omega)).symm)), hS.pick [0,0] rfl⟩
 refine xg 5 [0] rfl (by omega) ?_
 refine g_val rfl rfl rfl (y_subi rfl rfl (by omega)) ?_
 refine g_val rfl rfl rfl (y_idxAddr (m := (ts.length - 1) * 7 + 0) rfl rfl Try.underlying48 Try.sizeOf64 (by omega) (by omega) (by omega)) ?_
 refine xg 1 [] rfl rfl ?_
 refine g_val rfl rfl rfl (y_ldR (u := .int .i64 tk.k) 1 rfl Try.isAgg3 rfl ((fm_get tC 7 tC_len _ (ts.length - 1) 0 _ (htk) (by decide)).trans rfl)) ?_
 refine xg 3 [0] rfl rfl ?_
 refine n_ (t_ (g_ret ?_))
 refine g_end1 Try.results26 rfl ?_
 exact fun w hS => ⟨(), ret_bool (by unfold startsT; first | (rw [hlk]; done) | (rw [hlk]; dsimp only; exact decide_eq_decide.2 (by omega))), hS.pick [0,0] rfl⟩

set_option maxRecDepth 100000 in
theorem begun_any (b : Nat) (r e0 d v : Value) (ts : List Tok) (F : List Nat) (w : World) (hts : ts.length ≤ 1000) (hS0 : St w F [.cells b 50 [r, e0, v, d], .row 64 7 v ts.length (ts.flatMap tC)] w) :
    Calls Try.prog 27 #[.pointer (some ⟨b, 0, none⟩)] w fun e w' => ∃ _ : Unit, e = .returned (.bool (begunT ts)) ∧ St w F [.cells b 50 [r, e0, v, d], .row 64 7 v ts.length (ts.flatMap tC)] w' := by
 refine fn_intro_own Try.func27 rfl Try.ntmps27 rfl rfl hS0 ?_
 refine s_ (o_ ?_)
 refine xg 1 [] rfl rfl ?_
 refine ntso_ ?_
 refine xg 4 [0] rfl (by omega) ?_
 refine g_rowLen 1 rfl (fun pr1 cr1 hv1 => ?_)
 cases hv1
 refine g_val rfl rfl rfl (y_llen rfl Try.underlying48) ?_
 refine xg 1 [] rfl rfl ?_
 refine ntso_ ?_
 refine xg 3 [0] rfl rfl ?_
 refine g_casep 11 rfl (fun h2 => ?_) fun h2 => ?_
 ·refine xg 5 [0] rfl (by omega) ?_
  obtain ⟨tk, htk, hlk⟩ := last_get (ts := ts) (ts.length - 1) (by omega)
  refine g_val rfl rfl rfl (y_subi rfl rfl (by omega)) ?_
  refine g_rowCase 1 rfl (by omega) (fun gr3 cr3 hv3 => ?_)
  cases hv3
  refine g_val rfl rfl rfl (y_idxAddr (m := (ts.length - 1) * 7 + 0) rfl rfl Try.underlying48 Try.sizeOf64 (by omega) (by omega) (by omega)) ?_
  refine xg 1 [] rfl rfl ?_
  refine g_val rfl rfl rfl (y_ldR (u := .int .i64 tk.k) 1 rfl Try.isAgg3 rfl ((fm_get tC 7 tC_len _ (ts.length - 1) 0 _ (htk) (by decide)).trans rfl)) ?_
  refine xg 3 [0] rfl rfl ?_
  refine n_ (t_ (g_ret ?_))
  refine g_end1 Try.results27 rfl ?_
  exact fun w hS => ⟨(), ret_bool (by unfold begunT; first | (rw [hlk]; done) | (rw [hlk]; dsimp only; exact decide_eq_decide.2 (by omega))), hS.pick [0,0] rfl⟩
 refine xg 12 [] rfl rfl ?_
 refine n_ (t_ (g_ret ?_))
 refine g_end1 Try.results27 rfl ?_
 exact fun w hS => ⟨(), ret_bool (by unfold begunT; rw [last_none (by omega)]), hS.pick [0,0] rfl⟩

end Go.Proofs.Ytpoelkfncpjmfaa
