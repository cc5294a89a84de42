/- PatternEither. -/
import Derived.Test.YtpoelkfncpjmfaaPbt
namespace Go.Proofs.Ytpoelkfncpjmfaa
open Go Go.RowKit

theorem st8_app (a b : List UInt8) : (⟨a.toArray⟩ : ByteArray) ++ ⟨b.toArray⟩ = ⟨(a ++ b).toArray⟩ := ba_inj (by rw [ByteArray.data_append]; simp)
theorem y_cat8 {P : Program} {N : Nat} {R : Regs} {S : World → Prop} {dst : Option Tmp} {ty t t' : TypeId} {pos : String} {af : Array Edge} {gd : Option (Nat × Bool)} {x y : Operand} (a b : List UInt8) (hx : ev R x = some (st8 a)) (hy : ev R y = some (st8 b)) (h : a.length + b.length ≤ 9223372036854775807) :
    Yv P N R S ⟨dst, .binOp .add t x y t', ty, pos, af, gd⟩ (st8 (a ++ b)) := y_val (y_scat hx hy (by rw [size_mk, size_mk]; exact h)) (by rw [st8_app]; rfl)
def onesP (l : List UInt8) : List PT := l.map .one
theorem tk_ones (l : List UInt8) : tkL (onesP l) = l.map litT := by
  induction l with
  | nil => exact tkL_nil
  | cons c l ih =>
    show tkL (.one c :: onesP l) = _
    rw [tkL_cons, tkP_one, ih]; rfl
theorem wf_ones (l : List UInt8) (g : Int) : wfL (onesP l) g g := by
  induction l with
  | nil => exact wfL_nil.2 rfl
  | cons c l ih => exact wfL_cons.2 ⟨g, wfP_one.2 rfl, ih⟩
theorem ones_ne {l : List UInt8} (h : l ≠ []) : onesP l ≠ [] := by cases l with | nil => exact absurd rfl h | cons c l => exact List.cons_ne_nil _ _
def rowO (l : List UInt8) : MT := rowM (mtL (onesP l))
theorem lex_ones {x : Bool} {l : List UInt8} (hp : ∀ c, c ∈ l → plainC c) : ∀ o, Lex x l [] 0 o → o = some (tkL (onesP l)) := fun o h => by
  have := lex_all (lex_lits hp (Int.le_refl 0) (by rw [List.append_nil]; exact h))
  rw [this, tk_ones]; rfl
theorem par_ones {x : Bool} {l : List UInt8} (hp : plainS l) {y : MT × Int} (h : parX x l y) : y.2 = 0 ∧ er y.1 = er (rowO l) := by
  have hne : l ≠ [] := List.length_pos_iff.1 hp.2.1
  exact parX_is hne hp.2.2 (lex_ones hp.1) (d_all (wf_ones l 0) (ones_ne hne)) h
theorem par_bar {a b : List UInt8} (ha : plainS a) (hb : plainS b) (hl : a.length ≤ 9 ∧ b.length ≤ 9) {y : MT × Int} (h : parX true ((a ++ [124]) ++ b) y) : y.2 = 0 ∧ er y.1 = er (.mk 3 s0 0 0 0 nilS [rowO a, rowO b]) := by
  have hna : a ≠ [] := List.length_pos_iff.1 ha.2.1
  have hnb : b ≠ [] := List.length_pos_iff.1 hb.2.1
  refine parX_is (by simp) (by simp; omega) (fun o h => ?_) (d_bar (wf_ones a 0) (wf_ones b 0) (ones_ne hna) (ones_ne hnb)) h
  rw [List.append_assoc] at h
  have h1 := lex_lits ha.1 (Int.le_refl 0) h
  have h2 := lex_e (d' := 0) (ts' := ([] ++ a.map litT) ++ [kT 3]) (by unfold okC; decide) rfl (by decide) h1
  have h3 := lex_all (lex_lits hb.1 (Int.le_refl 0) (by rw [List.append_nil]; exact h2))
  rw [h3, tk_ones, tk_ones]; simp
/-- (a) and (b), each repeated. -/
def twoP (a b : List UInt8) (m1 x1 m2 x2 : Int) : List PT := [.rep m1 x1 (.grp 1 (onesP a)), .rep m2 x2 (.grp 2 (onesP b))]
theorem tk_two (a b : List UInt8) (m1 x1 m2 x2 : Int) : tkL (twoP a b m1 x1 m2 x2) = kT 1 :: (a.map litT ++ (kT 2 :: timesT m1 x1 :: kT 1 :: (b.map litT ++ [kT 2, timesT m2 x2]))) := by
  unfold twoP
  rw [tkL_cons, tkL_cons, tkL_nil, tkP_rep, tkP_rep, tkP_grp, tkP_grp, tk_ones, tk_ones]; simp
theorem wf_two {a b : List UInt8} (m1 x1 m2 x2 : Int) (ha : a ≠ []) (hb : b ≠ []) : wfL (twoP a b m1 x1 m2 x2) 0 2 :=
  wfL_cons.2 ⟨1, wfP_rep.2 ⟨trivial, wfP_grp.2 ⟨rfl, by decide, ones_ne ha, wf_ones a _⟩⟩, wfL_cons.2 ⟨2, wfP_rep.2 ⟨trivial, wfP_grp.2 ⟨rfl, by decide, ones_ne hb, wf_ones b _⟩⟩, wfL_nil.2 rfl⟩⟩
def twoM (a b : List UInt8) (m1 x1 m2 x2 : Int) : MT := .mk 2 s0 0 0 0 nilS [.mk 4 s0 m1 x1 0 nilS [.mk 5 s0 0 0 1 nilS [rowO a]], .mk 4 s0 m2 x2 0 nilS [.mk 5 s0 0 0 2 nilS [rowO b]]]
theorem mt_two (a b : List UInt8) (m1 x1 m2 x2 : Int) : rowM (mtL (twoP a b m1 x1 m2 x2)) = twoM a b m1 x1 m2 x2 := by
  unfold twoP
  rw [mtL_cons, mtL_cons, mtL_nil, mtP_rep, mtP_rep, mtP_grp, mtP_grp]; rfl
theorem lex_grp {a r : List UInt8} {ts : List Tok} {o : Option (List Tok)} (ha : ∀ c, c ∈ a → plainC c) (h : Lex true (40 :: (a ++ 41 :: r)) ts 0 o) : Lex true r (((ts ++ [kT 1]) ++ a.map litT) ++ [kT 2]) 0 o := by
  have h1 := lex_open (x := true) (Int.le_refl 0) h
  have h2 := lex_lits ha (by decide) h1
  exact lex_shut (x := true) (by decide) h2
theorem par_times {a b : List UInt8} {n : Int} (ha : plainS a) (hb : plainS b) (hl : a.length ≤ 9 ∧ b.length ≤ 9) (hn : 0 ≤ n ∧ n ≤ 20) {y : MT × Int} (h : parX true ((((((([40] ++ a) ++ [41, 42, 40]) ++ b) ++ [41, 123]) ++ digs n.toNat) ++ [125])) y) : y.2 = 0 ∧ er y.1 = er (twoM a b 0 (-1) n n) := by
  have hna : a ≠ [] := List.length_pos_iff.1 ha.2.1
  have hnb : b ≠ [] := List.length_pos_iff.1 hb.2.1
  have hd := (digs_ok ⟨n.toNat, by omega⟩).2.2.2
  dsimp only at hd
  rw [← mt_two]
  refine parX_is (by simp) (by simp; omega) (fun o h => ?_) (d_all (wf_two _ _ _ _ hna hnb) (by unfold twoP; simp)) h
  have e : (((((([40] ++ a) ++ [41, 42, 40]) ++ b) ++ [41, 123]) ++ digs n.toNat) ++ [125] : List UInt8) = 40 :: (a ++ 41 :: (42 :: (40 :: (b ++ 41 :: (123 :: (ivW n n ++ ([125] ++ []))))))) := by unfold ivW; rw [if_pos rfl]; simp
  rw [e] at h
  have h1 := lex_grp ha.1 h
  have h2 := lex_star (starts_last ⟨by decide, by decide⟩) (begun_last (by decide)) (Int.le_refl 0) h1
  have h3 := lex_grp hb.1 h2
  have h4 := lex_all (lex_times (x := true) hn ⟨hn.2, .inr (Int.le_refl n)⟩ (starts_last ⟨by decide, by decide⟩) (Int.le_refl 0) h3)
  rw [h4, tk_two]; simp
theorem par_more {a b : List UInt8} (ha : plainS a) (hb : plainS b) (hl : a.length ≤ 9 ∧ b.length ≤ 9) {y : MT × Int} (h : parX true (((([40] ++ a) ++ [41, 43, 40]) ++ b) ++ [41, 63]) y) : y.2 = 0 ∧ er y.1 = er (twoM a b 1 (-1) 0 1) := by
  have hna : a ≠ [] := List.length_pos_iff.1 ha.2.1
  have hnb : b ≠ [] := List.length_pos_iff.1 hb.2.1
  rw [← mt_two]
  refine parX_is (by simp) (by simp; omega) (fun o h => ?_) (d_all (wf_two _ _ _ _ hna hnb) (by unfold twoP; simp)) h
  have e : (((([40] ++ a) ++ [41, 43, 40]) ++ b) ++ [41, 63] : List UInt8) = 40 :: (a ++ 41 :: (43 :: (40 :: (b ++ 41 :: (63 :: []))))) := by simp
  rw [e] at h
  have h1 := lex_grp ha.1 h
  have h2 := lex_e (d' := 0) (ts' := (([] ++ [kT 1]) ++ a.map litT ++ [kT 2]) ++ [timesT 1 (-1)]) (by unfold okC; decide) rfl (by decide) h1
  have h3 := lex_grp hb.1 h2
  have h4 := lex_all (lex_e (d' := 0) (ts' := _ ++ [timesT 0 1]) (by unfold okC; decide) rfl (by decide) h3)
  rw [h4, tk_two]; simp
theorem er_bar {x y x' y' : MT} {v : Value} (h : er x = er x') (h2 : er y = er y') : er (.mk 3 s0 0 0 0 v [x, y]) = er (.mk 3 s0 0 0 0 nilS [x', y']) := by simp only [er_mk, erL_cons, erL_nil, h, h2]
theorem er_two {x y : MT} {a b : List UInt8} {m1 x1 m2 x2 : Int} {v v1 v2 v3 v4 : Value} (h : er x = er (rowO a)) (h2 : er y = er (rowO b)) : er (.mk 2 s0 0 0 0 v [.mk 4 s0 m1 x1 0 v1 [.mk 5 s0 0 0 1 v2 [x]], .mk 4 s0 m2 x2 0 v3 [.mk 5 s0 0 0 2 v4 [y]]]) = er (twoM a b m1 x1 m2 x2) := by
  unfold twoM; simp only [er_mk, erL_cons, erL_nil, h, h2]
theorem same_yes {t u : MT} (h : er t = er u) (w : World) (h1 : t.ok w) (h2 : u.ok w) : Calls Try.prog 13 #[.agg (nC t).toArray, .agg (nC u).toArray] w fun e w' => e = .returned (.bool true) ∧ Below w.heap.size w w' := by
  have := same_any (szT t) t u w (Nat.le_refl _) h1 h2
  rwa [sameT_er t u h] at this
theorem dig1 : ∀ n : Fin 10, (⟨#[48, 49, 50, 51, 52, 53, 54, 55, 56, 57]⟩ : ByteArray).extract n.val (n.val + 1) = ⟨(digs n.val).toArray⟩ := by decide +kernel
theorem dig2 : ∀ n : Fin 100, ¬ n.val < 10 → digs (n.val / 10) ++ digs (n.val % 10) = digs n.val := by decide +kernel

set_option maxRecDepth 100000 in
theorem digits_1 (n : Nat) (hn : n < 10) (w : World) :
    Calls Try.prog 15 #[.int .i64 (n : Int)] w fun e w' => e = .returned (st8 (digs n)) ∧ Below w.heap.size w w' := by
 refine fn_intro Try.func15 rfl Try.ntmps15 rfl rfl ?_
 refine s_ (o_ ?_)
 refine xg 1 [] rfl rfl ?_
 refine n_ (t_ (s_ (s_ (o_ ?_))))
 refine xg 2 [1] rfl (by omega) ?_
 refine n_ (t_ (g_cond_t rfl (s_ (o_ ?_))))
 refine xg 3 [] rfl (by omega) ?_
 refine g_val (v := st8 (digs n)) rfl rfl rfl (y_val (y_ssl rfl rfl rfl Try.underlying9 (by omega) (by omega) (by show (n : Int) + 1 ≤ 10; omega)) (by rw [show ((n : Int)).toNat = n from rfl, show ((n : Int) + 1).toNat = n + 1 by omega]; exact congrArg Value.string (dig1 ⟨n, by omega⟩))) ?_
 refine xg 1 [] rfl rfl ?_
 refine n_ (t_ (g_ret (g_then_ret ?_)))
 refine g_end1 Try.results15 rfl ?_
 exact fun w hS => ⟨rfl, hS.below⟩

theorem digits_m1 (n : Nat) (hn : n < 10) : Meets Try.prog (fun _ => True) 15 [.int .i64 (n : Int)] (fun _ : Unit => st8 (digs n)) [] (fun _ => []) := meets1 Try.call15 (fun w hI => digits_1 n hn w)
set_option maxRecDepth 100000 in
theorem digits_any (n : Nat) (hn : n < 100) (w : World) :
    Calls Try.prog 15 #[.int .i64 (n : Int)] w fun e w' => e = .returned (st8 (digs n)) ∧ Below w.heap.size w w' := by
 refine fn_intro Try.func15 rfl Try.ntmps15 rfl rfl ?_
 refine s_ (o_ ?_)
 refine xg 1 [] rfl rfl ?_
 refine n_ (t_ (s_ (s_ (o_ ?_))))
 refine xg 2 [0] rfl rfl ?_
 refine n_ (t_ ?_)
 refine g_casep 4 rfl (fun h1 => ?_) fun h1 => ?_
 ·refine g_cond_t rfl (s_ (o_ ?_))
  refine xg 3 [] rfl (by omega) ?_
  refine g_val (v := st8 (digs n)) rfl rfl rfl (y_val (y_ssl rfl rfl rfl Try.underlying9 (by omega) (by omega) (by show (n : Int) + 1 ≤ 10; omega)) (by rw [show ((n : Int)).toNat = n from rfl, show ((n : Int) + 1).toNat = n + 1 by omega]; exact congrArg Value.string (dig1 ⟨n, by omega⟩))) ?_
  refine xg 1 [] rfl rfl ?_
  refine n_ (t_ (g_ret (g_then_ret ?_)))
  refine g_end1 Try.results15 rfl ?_
  exact fun w hS => ⟨rfl, hS.below⟩
 refine g_cond_f rfl (g_skip (t_ (s_ (o_ ?_))))
 refine xg 1 [] rfl rfl ?_
 refine g_val (v := .int .i64 ((n / 10 : Nat) : Int)) rfl rfl rfl (y_eqv (y_quoi rfl rfl (by decide) (by rw [Int.tdiv_eq_ediv_of_nonneg (by omega)]; omega)) (by rw [Int.tdiv_eq_ediv_of_nonneg (by omega)]; rfl)) ?_
 refine g_c1 (digits_m1 (n / 10) (by omega)) any_I rfl rfl rfl ?_
 refine xg 1 [] rfl rfl ?_
 refine g_val (v := .int .i64 ((n % 10 : Nat) : Int)) rfl rfl rfl (y_eqv (y_irem rfl rfl (by decide)) (by rw [Int.tmod_eq_emod_of_nonneg (by omega)]; rfl)) ?_
 refine g_c1 (digits_m1 (n % 10) (by omega)) any_I rfl rfl rfl ?_
 refine g_val (v := st8 (digs n)) rfl rfl rfl (y_eqv (y_cat8 (digs (n / 10)) (digs (n % 10)) rfl rfl (by have := (digs_ok ⟨n / 10, by omega⟩).2.2.2; have := (digs_ok ⟨n % 10, by omega⟩).2.2.2; dsimp only at *; omega)) (congrArg st8 (dig2 ⟨n, by omega⟩ (by dsimp only; omega)))) ?_
 refine xg 1 [] rfl rfl ?_
 refine n_ (t_ (g_ret ?_))
 refine g_end1 Try.results15 rfl ?_
 exact fun w hS => ⟨rfl, hS.below⟩

theorem digits_m (n : Nat) (hn : n < 100) : Meets Try.prog (fun _ => True) 15 [.int .i64 (n : Int)] (fun _ : Unit => st8 (digs n)) [] (fun _ => []) := meets1 Try.call15 (fun w hI => digits_any n hn w)
set_option maxRecDepth 100000 in
theorem peither_any (a b : List UInt8) (n : Int) (hla : a.length ≤ maxLen) (hlb : b.length ≤ maxLen) (w : World) (hz : MaxHere w) :
    Calls Try.prog 6 #[st8 a, st8 b, .int .i64 n] w fun e w' => e = .returned (.bool true) ∧ Below w.heap.size w w' := by
 have hmax : maxLen = 9223372036854775807 := rfl
 have hsa := size_mk a
 have hsb := size_mk b
 refine fn_intro Try.func6 rfl Try.ntmps6 rfl rfl ?_
 refine s_ (o_ ?_)
 refine xg 1 [] rfl rfl ?_
 refine ntso_ ?_
 refine xg 1 [] rfl rfl ?_
 refine g_call (fun x : {z : Bool // z = true ↔ plainS a} => .bool x.1) (fun _ => _) rfl rfl rfl Try.call7 (fun w hS => (plain_any a hla w).mono fun _ _ ⟨x, he, hb⟩ => ⟨x, he, by simpa using hS.then (St.of_below hb)⟩) ?_
 rintro ⟨ba, hba⟩
 dsimp only
 rcases ba with _ | _
 ·refine xg 1 [] rfl rfl ?_
  refine ntso_ ?_
  refine xg 1 [] rfl rfl ?_
  refine g_call (fun x : {z : Bool // z = true ↔ plainS b} => .bool x.1) (fun _ => _) rfl rfl rfl Try.call7 (fun w hS => (plain_any b hlb w).mono fun _ _ ⟨x, he, hb⟩ => ⟨x, he, by simpa using hS.then (St.of_below hb)⟩) ?_
  rintro ⟨bb, hbb⟩
  dsimp only
  rcases bb with _ | _
  ·refine xg 1 [] rfl rfl ?_
   refine n_ (t_ (s_ (s_ (o_ ?_))))
   refine xg 24 [] rfl rfl ?_
   refine n_ (t_ (g_cond_t rfl (s_ (o_ ?_))))
   refine g_call1 rfl rfl rfl Try.call8 (fun w hS => alive_any w (hS.maxHere hz (by simp))) ?_
   refine xg 1 [] rfl rfl ?_
   refine n_ (t_ (g_ret (g_then_ret ?_)))
   refine g_end1 Try.results6 rfl ?_
   exact fun w hS => ⟨rfl, hS.below⟩
  have hpb := hbb.1 rfl
  refine xg 1 [] rfl rfl ?_
  refine n_ (t_ (s_ (s_ (o_ ?_))))
  refine xg 24 [] rfl rfl ?_
  refine n_ (t_ (g_cond_t rfl (s_ (o_ ?_))))
  refine g_call1 rfl rfl rfl Try.call8 (fun w hS => alive_any w (hS.maxHere hz (by simp))) ?_
  refine xg 1 [] rfl rfl ?_
  refine n_ (t_ (g_ret (g_then_ret ?_)))
  refine g_end1 Try.results6 rfl ?_
  exact fun w hS => ⟨rfl, hS.below⟩
 have hpa := hba.1 rfl
 refine xg 1 [] rfl rfl ?_
 refine ntso_ ?_
 refine xg 1 [] rfl rfl ?_
 refine g_call (fun x : {z : Bool // z = true ↔ plainS b} => .bool x.1) (fun _ => _) rfl rfl rfl Try.call7 (fun w hS => (plain_any b hlb w).mono fun _ _ ⟨x, he, hb⟩ => ⟨x, he, by simpa using hS.then (St.of_below hb)⟩) ?_
 rintro ⟨bb, hbb⟩
 dsimp only
 rcases bb with _ | _
 ·refine xg 1 [] rfl rfl ?_
  refine n_ (t_ (s_ (s_ (o_ ?_))))
  refine xg 24 [] rfl rfl ?_
  refine n_ (t_ (g_cond_t rfl (s_ (o_ ?_))))
  refine g_call1 rfl rfl rfl Try.call8 (fun w hS => alive_any w (hS.maxHere hz (by simp))) ?_
  refine xg 1 [] rfl rfl ?_
  refine n_ (t_ (g_ret (g_then_ret ?_)))
  refine g_end1 Try.results6 rfl ?_
  exact fun w hS => ⟨rfl, hS.below⟩
 have hpb := hbb.1 rfl
 refine xg 1 [] rfl rfl ?_
 refine n_ (t_ (s_ (s_ (o_ ?_))))
 refine xg 12 [0] rfl rfl ?_
 refine g_casep 39 rfl (fun h1 => ?_) fun h1 => ?_
 ·refine xg 12 [] rfl rfl ?_
  refine n_ (t_ (g_cond_t rfl (s_ (o_ ?_))))
  refine g_call1 rfl rfl rfl Try.call8 (fun w hS => alive_any w (hS.maxHere hz (by simp))) ?_
  refine xg 1 [] rfl rfl ?_
  refine n_ (t_ (g_ret (g_then_ret ?_)))
  refine g_end1 Try.results6 rfl ?_
  exact fun w hS => ⟨rfl, hS.below⟩
 refine xg 5 [0] rfl rfl ?_
 refine g_casep 44 rfl (fun h2 => ?_) fun h2 => ?_
 ·refine xg 7 [] rfl rfl ?_
  refine n_ (t_ (g_cond_t rfl (s_ (o_ ?_))))
  refine g_call1 rfl rfl rfl Try.call8 (fun w hS => alive_any w (hS.maxHere hz (by simp))) ?_
  refine xg 1 [] rfl rfl ?_
  refine n_ (t_ (g_ret (g_then_ret ?_)))
  refine g_end1 Try.results6 rfl ?_
  exact fun w hS => ⟨rfl, hS.below⟩
 refine xg 4 [0] rfl rfl ?_
 refine g_casep 48 rfl (fun h3 => ?_) fun h3 => ?_
 ·refine xg 3 [] rfl rfl ?_
  refine n_ (t_ (g_cond_t rfl (s_ (o_ ?_))))
  refine g_call1 rfl rfl rfl Try.call8 (fun w hS => alive_any w (hS.maxHere hz (by simp))) ?_
  refine xg 1 [] rfl rfl ?_
  refine n_ (t_ (g_ret (g_then_ret ?_)))
  refine g_end1 Try.results6 rfl ?_
  exact fun w hS => ⟨rfl, hS.below⟩
 refine xg 3 [0] rfl rfl ?_
 refine n_ (t_ ?_)
 refine g_casep 51 rfl (fun h4 => ?_) fun h4 => ?_
 ·refine g_cond_t rfl (s_ (o_ ?_))
  refine g_call1 rfl rfl rfl Try.call8 (fun w hS => alive_any w (hS.maxHere hz (by simp))) ?_
  refine xg 1 [] rfl rfl ?_
  refine n_ (t_ (g_ret (g_then_ret ?_)))
  refine g_end1 Try.results6 rfl ?_
  exact fun w hS => ⟨rfl, hS.below⟩
 refine g_cond_f rfl (g_skip (t_ (s_ (o_ ?_))))
 refine xg 1 [] rfl rfl ?_
 refine g_callNew (fun x : {x : MT × Int // parX true a x} => .tuple #[.agg (nC x.1.1).toArray, .int .i64 x.1.2]) (fun x => [.forest [x.1.1]]) rfl rfl rfl Try.call9 (fun w hS => parse_xe a w (hS.maxHere hz (by simp))) ?_
 rintro ⟨⟨⟨kx, sx, mx, xx, ux, vx, qx⟩, erx⟩, hpar⟩
 obtain ⟨h0, hex⟩ := par_ones hpa hpar
 dsimp only at h0 hex
 subst h0
 simp only [List.cons_append, List.nil_append]
 refine g_kids 0 rfl (fun px cx hv => ?_)
 cases hv
 refine xg 1 [] rfl rfl ?_
 refine g_val (v := .agg (nC (.mk kx sx mx xx ux (.slice px qx.length cx) qx)).toArray) rfl rfl rfl (y_extract rfl rfl) ?_
 refine xg 1 [] rfl rfl ?_
 refine g_alloc rfl rfl Try.zeroValue30 rfl (fun b1 => ?_)
 refine g_stN 0 rfl rfl rfl (by kernel_rfl) rfl rfl rfl (nC_len _) ?_
 simp only [List.set_cons_zero]
 refine xg 1 [] rfl rfl ?_
 refine ntso_ ?_
 refine xg 1 [] rfl rfl ?_
 refine g_callNew (fun x : {x : MT × Int // parX true b x} => .tuple #[.agg (nC x.1.1).toArray, .int .i64 x.1.2]) (fun x => [.forest [x.1.1]]) rfl rfl rfl Try.call9 (fun w hS => parse_xe b w (hS.maxHere hz (by simp))) ?_
 rintro ⟨⟨⟨ky, sy, my, xy, uy, vy, qy⟩, ery⟩, hpar⟩
 obtain ⟨h0, hey⟩ := par_ones hpb hpar
 dsimp only at h0 hey
 subst h0
 simp only [List.cons_append, List.nil_append]
 refine g_kids 0 rfl (fun py cy hv => ?_)
 cases hv
 refine xg 1 [] rfl rfl ?_
 refine g_val (v := .agg (nC (.mk ky sy my xy uy (.slice py qy.length cy) qy)).toArray) rfl rfl rfl (y_extract rfl rfl) ?_
 refine xg 1 [] rfl rfl ?_
 refine g_alloc rfl rfl Try.zeroValue30 rfl (fun b2 => ?_)
 refine g_stN 0 rfl rfl rfl (by kernel_rfl) rfl rfl rfl (nC_len _) ?_
 simp only [List.set_cons_zero]
 refine xg 1 [] rfl rfl ?_
 refine ntso_ ?_
 refine xg 1 [] rfl rfl ?_
 refine g_val (v := st8 (a ++ [124])) rfl rfl rfl (y_cat8 (a) ([124]) rfl rfl (by simp only [List.length_append, List.length_cons, List.length_nil]; omega)) ?_
 refine xg 1 [] rfl rfl ?_
 refine g_val (v := st8 ((a ++ [124]) ++ b)) rfl rfl rfl (y_cat8 ((a ++ [124])) (b) rfl rfl (by simp only [List.length_append, List.length_cons, List.length_nil]; omega)) ?_
 refine g_callNew (fun x : {x : MT × Int // parX true ((a ++ [124]) ++ b) x} => .tuple #[.agg (nC x.1.1).toArray, .int .i64 x.1.2]) (fun x => [.forest [x.1.1]]) rfl rfl rfl Try.call9 (fun w hS => parse_xe ((a ++ [124]) ++ b) w (hS.maxHere hz (by simp))) ?_
 rintro ⟨⟨⟨ke, se, me, xe, ue, ve, qe⟩, ere⟩, hpar⟩
 obtain ⟨h0, hee⟩ := par_bar hpa hpb ⟨by omega, by omega⟩ hpar
 dsimp only at h0 hee
 subst h0
 simp only [List.cons_append, List.nil_append]
 refine g_kids 0 rfl (fun pe ce hv => ?_)
 cases hv
 refine xg 1 [] rfl rfl ?_
 refine g_val (v := .agg (nC (.mk ke se me xe ue (.slice pe qe.length ce) qe)).toArray) rfl rfl rfl (y_extract rfl rfl) ?_
 refine xg 1 [] rfl rfl ?_
 refine g_alloc rfl rfl Try.zeroValue30 rfl (fun b3 => ?_)
 refine g_stN 0 rfl rfl rfl (by kernel_rfl) rfl rfl rfl (nC_len _) ?_
 simp only [List.set_cons_zero]
 refine xg 1 [] rfl rfl ?_
 refine n_ (t_ (s_ ?_))
 have hdg := (digs_ok ⟨n.toNat, by omega⟩).2.2.2
 dsimp only at hdg
 refine o_ ?_
 refine xg 1 [] rfl rfl ?_
 refine g_val (v := st8 ([40] ++ a)) rfl rfl rfl (y_cat8 ([40]) (a) rfl rfl (by simp only [List.length_append, List.length_cons, List.length_nil]; omega)) ?_
 refine g_val (v := st8 (([40] ++ a) ++ [41, 42, 40])) rfl rfl rfl (y_cat8 (([40] ++ a)) ([41, 42, 40]) rfl rfl (by simp only [List.length_append, List.length_cons, List.length_nil]; omega)) ?_
 refine xg 1 [] rfl rfl ?_
 refine g_val (v := st8 ((([40] ++ a) ++ [41, 42, 40]) ++ b)) rfl rfl rfl (y_cat8 ((([40] ++ a) ++ [41, 42, 40])) (b) rfl rfl (by simp only [List.length_append, List.length_cons, List.length_nil]; omega)) ?_
 refine g_val (v := st8 (((([40] ++ a) ++ [41, 42, 40]) ++ b) ++ [41, 123])) rfl rfl rfl (y_cat8 (((([40] ++ a) ++ [41, 42, 40]) ++ b)) ([41, 123]) rfl rfl (by simp only [List.length_append, List.length_cons, List.length_nil]; omega)) ?_
 refine xg 1 [] rfl rfl ?_
 refine g_call1 rfl rfl rfl Try.call15 (fun w hS => by have := digits_any n.toNat (by omega) w; rwa [show ((n.toNat : Nat) : Int) = n by omega] at this) ?_
 refine g_val (v := st8 ((((([40] ++ a) ++ [41, 42, 40]) ++ b) ++ [41, 123]) ++ digs n.toNat)) rfl rfl rfl (y_cat8 ((((([40] ++ a) ++ [41, 42, 40]) ++ b) ++ [41, 123])) (digs n.toNat) rfl rfl (by simp only [List.length_append, List.length_cons, List.length_nil]; omega)) ?_
 refine g_val (v := st8 (((((([40] ++ a) ++ [41, 42, 40]) ++ b) ++ [41, 123]) ++ digs n.toNat) ++ [125])) rfl rfl rfl (y_cat8 (((((([40] ++ a) ++ [41, 42, 40]) ++ b) ++ [41, 123]) ++ digs n.toNat)) ([125]) rfl rfl (by simp only [List.length_append, List.length_cons, List.length_nil]; omega)) ?_
 refine g_callNew (fun x : {x : MT × Int // parX true ((((((([40] ++ a) ++ [41, 42, 40]) ++ b) ++ [41, 123]) ++ digs n.toNat) ++ [125])) x} => .tuple #[.agg (nC x.1.1).toArray, .int .i64 x.1.2]) (fun x => [.forest [x.1.1]]) rfl rfl rfl Try.call9 (fun w hS => parse_xe ((((((([40] ++ a) ++ [41, 42, 40]) ++ b) ++ [41, 123]) ++ digs n.toNat) ++ [125])) w (hS.maxHere hz (by simp))) ?_
 rintro ⟨⟨⟨kt, st, mt, xt, ut, vt, qt⟩, ert⟩, hpar⟩
 obtain ⟨h0, het⟩ := par_times hpa hpb ⟨by omega, by omega⟩ ⟨by omega, by omega⟩ hpar
 dsimp only at h0 het
 subst h0
 simp only [List.cons_append, List.nil_append]
 refine g_kids 0 rfl (fun pt ct hv => ?_)
 cases hv
 refine xg 1 [] rfl rfl ?_
 refine g_val (v := .agg (nC (.mk kt st mt xt ut (.slice pt qt.length ct) qt)).toArray) rfl rfl rfl (y_extract rfl rfl) ?_
 refine xg 1 [] rfl rfl ?_
 refine g_alloc rfl rfl Try.zeroValue30 rfl (fun b4 => ?_)
 refine g_stN 0 rfl rfl rfl (by kernel_rfl) rfl rfl rfl (nC_len _) ?_
 simp only [List.set_cons_zero]
 refine xg 1 [] rfl rfl ?_
 refine ntso_ ?_
 refine xg 1 [] rfl rfl ?_
 refine g_val (v := st8 ([40] ++ a)) rfl rfl rfl (y_cat8 ([40]) (a) rfl rfl (by simp only [List.length_append, List.length_cons, List.length_nil]; omega)) ?_
 refine g_val (v := st8 (([40] ++ a) ++ [41, 43, 40])) rfl rfl rfl (y_cat8 (([40] ++ a)) ([41, 43, 40]) rfl rfl (by simp only [List.length_append, List.length_cons, List.length_nil]; omega)) ?_
 refine xg 1 [] rfl rfl ?_
 refine g_val (v := st8 ((([40] ++ a) ++ [41, 43, 40]) ++ b)) rfl rfl rfl (y_cat8 ((([40] ++ a) ++ [41, 43, 40])) (b) rfl rfl (by simp only [List.length_append, List.length_cons, List.length_nil]; omega)) ?_
 refine g_val (v := st8 (((([40] ++ a) ++ [41, 43, 40]) ++ b) ++ [41, 63])) rfl rfl rfl (y_cat8 (((([40] ++ a) ++ [41, 43, 40]) ++ b)) ([41, 63]) rfl rfl (by simp only [List.length_append, List.length_cons, List.length_nil]; omega)) ?_
 refine g_callNew (fun x : {x : MT × Int // parX true (((([40] ++ a) ++ [41, 43, 40]) ++ b) ++ [41, 63]) x} => .tuple #[.agg (nC x.1.1).toArray, .int .i64 x.1.2]) (fun x => [.forest [x.1.1]]) rfl rfl rfl Try.call9 (fun w hS => parse_xe (((([40] ++ a) ++ [41, 43, 40]) ++ b) ++ [41, 63]) w (hS.maxHere hz (by simp))) ?_
 rintro ⟨⟨⟨km, sm, mm, xm, um, vm, qm⟩, erm⟩, hpar⟩
 obtain ⟨h0, hem⟩ := par_more hpa hpb ⟨by omega, by omega⟩ hpar
 dsimp only at h0 hem
 subst h0
 simp only [List.cons_append, List.nil_append]
 refine g_kids 0 rfl (fun pm cm hv => ?_)
 cases hv
 refine xg 1 [] rfl rfl ?_
 refine g_val (v := .agg (nC (.mk km sm mm xm um (.slice pm qm.length cm) qm)).toArray) rfl rfl rfl (y_extract rfl rfl) ?_
 refine xg 1 [] rfl rfl ?_
 refine g_alloc rfl rfl Try.zeroValue30 rfl (fun b5 => ?_)
 refine g_stN 0 rfl rfl rfl (by kernel_rfl) rfl rfl rfl (nC_len _) ?_
 simp only [List.set_cons_zero]
 refine xg 1 [] rfl rfl ?_
 refine ntso_ ?_
 refine g_val rfl rfl rfl (y_ldN (vs := nC (.mk kx sx mx xx ux (.slice px qx.length cx) qx)) 8 rfl Try.isAgg30 Try.sizeOf30 rfl rfl rfl) ?_
 refine g_buildSlice (offs := [0]) rfl rfl Try.underlying28 rfl Try.zeroValue30 (by kernel_rfl) (fun b6 => ?_)
 refine g_val (v := .agg (nC (.mk 5 s0 0 0 1 (.slice (some ⟨b6, 0, none⟩) 1 1) [(.mk kx sx mx xx ux (.slice px qx.length cx) qx)])).toArray) rfl rfl rfl (y_builtE (z := nC (.mk 5 s0 0 0 1 (.slice (some ⟨b6, 0, none⟩) 1 1) [(.mk kx sx mx xx ux (.slice px qx.length cx) qx)])) rfl (by kernel_rfl)) ?_
 refine g_alloc rfl rfl Try.zeroValue30 rfl (fun b7 => ?_)
 refine g_stN 0 rfl rfl rfl (by kernel_rfl) rfl rfl rfl (nC_len _) ?_
 simp only [List.set_cons_zero]
 refine ntso_ ?_
 refine g_val rfl rfl rfl (y_ldN (vs := nC (.mk ky sy my xy uy (.slice py qy.length cy) qy)) 8 rfl Try.isAgg30 Try.sizeOf30 rfl rfl rfl) ?_
 refine g_buildSlice (offs := [0]) rfl rfl Try.underlying28 rfl Try.zeroValue30 (by kernel_rfl) (fun b8 => ?_)
 refine g_val (v := .agg (nC (.mk 5 s0 0 0 2 (.slice (some ⟨b8, 0, none⟩) 1 1) [(.mk ky sy my xy uy (.slice py qy.length cy) qy)])).toArray) rfl rfl rfl (y_builtE (z := nC (.mk 5 s0 0 0 2 (.slice (some ⟨b8, 0, none⟩) 1 1) [(.mk ky sy my xy uy (.slice py qy.length cy) qy)])) rfl (by kernel_rfl)) ?_
 refine g_alloc rfl rfl Try.zeroValue30 rfl (fun b9 => ?_)
 refine g_stN 0 rfl rfl rfl (by kernel_rfl) rfl rfl rfl (nC_len _) ?_
 simp only [List.set_cons_zero]
 refine ntso_ ?_
 refine g_val rfl rfl rfl (y_ldN (vs := nC (.mk ke se me xe ue (.slice pe qe.length ce) qe)) 8 rfl Try.isAgg30 Try.sizeOf30 rfl rfl rfl) ?_
 refine g_val rfl rfl rfl (y_ldN (vs := nC (.mk kx sx mx xx ux (.slice px qx.length cx) qx)) 12 rfl Try.isAgg30 Try.sizeOf30 rfl rfl rfl) ?_
 refine g_val rfl rfl rfl (y_ldN (vs := nC (.mk ky sy my xy uy (.slice py qy.length cy) qy)) 10 rfl Try.isAgg30 Try.sizeOf30 rfl rfl rfl) ?_
 refine g_buildSlice (offs := [0, 9]) rfl rfl Try.underlying28 rfl Try.zeroValue30 (by kernel_rfl) (fun b10 => ?_)
 refine g_val (v := .agg (nC (.mk 3 s0 0 0 0 (.slice (some ⟨b10, 0, none⟩) 2 2) [(.mk kx sx mx xx ux (.slice px qx.length cx) qx), (.mk ky sy my xy uy (.slice py qy.length cy) qy)])).toArray) rfl rfl rfl (y_builtE (z := nC (.mk 3 s0 0 0 0 (.slice (some ⟨b10, 0, none⟩) 2 2) [(.mk kx sx mx xx ux (.slice px qx.length cx) qx), (.mk ky sy my xy uy (.slice py qy.length cy) qy)])) rfl (by kernel_rfl)) ?_
 refine g_call1 rfl rfl rfl Try.call13 (fun w hS => same_yes (t := (.mk ke se me xe ue (.slice pe qe.length ce) qe)) (u := (.mk 3 s0 0 0 0 (.slice (some ⟨b10, 0, none⟩) 2 2) [(.mk kx sx mx xx ux (.slice px qx.length cx) qx), (.mk ky sy my xy uy (.slice py qy.length cy) qy)])) (hee.trans (er_bar hex hey).symm) w (okL_cons.1 (hS.get (i := 10) rfl)).1 (ok_mk.2 ⟨row_of_cells (hS.cells (i := 0) rfl) rfl (by decide), (okL_cons.2 ⟨(okL_cons.1 (hS.get (i := 14) rfl)).1, (okL_cons.2 ⟨(okL_cons.1 (hS.get (i := 12) rfl)).1, okL_nil⟩)⟩)⟩)) ?_
 refine xg 1 [] rfl rfl ?_
 refine ntso_ ?_
 refine g_val rfl rfl rfl (y_ldN (vs := nC (.mk kt st mt xt ut (.slice pt qt.length ct) qt)) 7 rfl Try.isAgg30 Try.sizeOf30 rfl rfl rfl) ?_
 refine g_val rfl rfl rfl (y_ldN (vs := nC (.mk 5 s0 0 0 1 (.slice (some ⟨b6, 0, none⟩) 1 1) [(.mk kx sx mx xx ux (.slice px qx.length cx) qx)])) 3 rfl Try.isAgg30 Try.sizeOf30 rfl rfl rfl) ?_
 refine g_buildSlice (offs := [0]) rfl rfl Try.underlying28 rfl Try.zeroValue30 (by kernel_rfl) (fun b11 => ?_)
 refine g_val (v := .agg (nC (.mk 4 s0 0 (-1) 0 (.slice (some ⟨b11, 0, none⟩) 1 1) [(.mk 5 s0 0 0 1 (.slice (some ⟨b6, 0, none⟩) 1 1) [(.mk kx sx mx xx ux (.slice px qx.length cx) qx)])])).toArray) rfl rfl rfl (y_builtE (z := nC (.mk 4 s0 0 (-1) 0 (.slice (some ⟨b11, 0, none⟩) 1 1) [(.mk 5 s0 0 0 1 (.slice (some ⟨b6, 0, none⟩) 1 1) [(.mk kx sx mx xx ux (.slice px qx.length cx) qx)])])) rfl (by kernel_rfl)) ?_
 refine xg 2 [] rfl rfl ?_
 refine g_val rfl rfl rfl (y_ldN (vs := nC (.mk 5 s0 0 0 2 (.slice (some ⟨b8, 0, none⟩) 1 1) [(.mk ky sy my xy uy (.slice py qy.length cy) qy)])) 2 rfl Try.isAgg30 Try.sizeOf30 rfl rfl rfl) ?_
 refine g_buildSlice (offs := [0]) rfl rfl Try.underlying28 rfl Try.zeroValue30 (by kernel_rfl) (fun b12 => ?_)
 refine g_val (v := .agg (nC (.mk 4 s0 n n 0 (.slice (some ⟨b12, 0, none⟩) 1 1) [(.mk 5 s0 0 0 2 (.slice (some ⟨b8, 0, none⟩) 1 1) [(.mk ky sy my xy uy (.slice py qy.length cy) qy)])])).toArray) rfl rfl rfl (y_builtE (z := nC (.mk 4 s0 n n 0 (.slice (some ⟨b12, 0, none⟩) 1 1) [(.mk 5 s0 0 0 2 (.slice (some ⟨b8, 0, none⟩) 1 1) [(.mk ky sy my xy uy (.slice py qy.length cy) qy)])])) rfl (by kernel_rfl)) ?_
 refine g_buildSlice (offs := [0, 9]) rfl rfl Try.underlying28 rfl Try.zeroValue30 (by kernel_rfl) (fun b13 => ?_)
 refine g_val (v := .agg (nC (.mk 2 s0 0 0 0 (.slice (some ⟨b13, 0, none⟩) 2 2) [(.mk 4 s0 0 (-1) 0 (.slice (some ⟨b11, 0, none⟩) 1 1) [(.mk 5 s0 0 0 1 (.slice (some ⟨b6, 0, none⟩) 1 1) [(.mk kx sx mx xx ux (.slice px qx.length cx) qx)])]), (.mk 4 s0 n n 0 (.slice (some ⟨b12, 0, none⟩) 1 1) [(.mk 5 s0 0 0 2 (.slice (some ⟨b8, 0, none⟩) 1 1) [(.mk ky sy my xy uy (.slice py qy.length cy) qy)])])])).toArray) rfl rfl rfl (y_builtE (z := nC (.mk 2 s0 0 0 0 (.slice (some ⟨b13, 0, none⟩) 2 2) [(.mk 4 s0 0 (-1) 0 (.slice (some ⟨b11, 0, none⟩) 1 1) [(.mk 5 s0 0 0 1 (.slice (some ⟨b6, 0, none⟩) 1 1) [(.mk kx sx mx xx ux (.slice px qx.length cx) qx)])]), (.mk 4 s0 n n 0 (.slice (some ⟨b12, 0, none⟩) 1 1) [(.mk 5 s0 0 0 2 (.slice (some ⟨b8, 0, none⟩) 1 1) [(.mk ky sy my xy uy (.slice py qy.length cy) qy)])])])) rfl (by kernel_rfl)) ?_
 refine g_call1 rfl rfl rfl Try.call13 (fun w hS => same_yes (t := (.mk kt st mt xt ut (.slice pt qt.length ct) qt)) (u := (.mk 2 s0 0 0 0 (.slice (some ⟨b13, 0, none⟩) 2 2) [(.mk 4 s0 0 (-1) 0 (.slice (some ⟨b11, 0, none⟩) 1 1) [(.mk 5 s0 0 0 1 (.slice (some ⟨b6, 0, none⟩) 1 1) [(.mk kx sx mx xx ux (.slice px qx.length cx) qx)])]), (.mk 4 s0 n n 0 (.slice (some ⟨b12, 0, none⟩) 1 1) [(.mk 5 s0 0 0 2 (.slice (some ⟨b8, 0, none⟩) 1 1) [(.mk ky sy my xy uy (.slice py qy.length cy) qy)])])])) (het.trans (er_two hex hey).symm) w (okL_cons.1 (hS.get (i := 11) rfl)).1 (ok_mk.2 ⟨row_of_cells (hS.cells (i := 0) rfl) rfl (by decide), (okL_cons.2 ⟨(ok_mk.2 ⟨row_of_cells (hS.cells (i := 2) rfl) rfl (by decide), (okL_cons.2 ⟨(ok_mk.2 ⟨row_of_cells (hS.cells (i := 7) rfl) rfl (by decide), (okL_cons.2 ⟨(okL_cons.1 (hS.get (i := 17) rfl)).1, okL_nil⟩)⟩), okL_nil⟩)⟩), (okL_cons.2 ⟨(ok_mk.2 ⟨row_of_cells (hS.cells (i := 1) rfl) rfl (by decide), (okL_cons.2 ⟨(ok_mk.2 ⟨row_of_cells (hS.cells (i := 5) rfl) rfl (by decide), (okL_cons.2 ⟨(okL_cons.1 (hS.get (i := 15) rfl)).1, okL_nil⟩)⟩), okL_nil⟩)⟩), okL_nil⟩)⟩)⟩)) ?_
 refine xg 1 [] rfl rfl ?_
 refine ntso_ ?_
 refine g_val rfl rfl rfl (y_ldN (vs := nC (.mk km sm mm xm um (.slice pm qm.length cm) qm)) 8 rfl Try.isAgg30 Try.sizeOf30 rfl rfl rfl) ?_
 refine g_val rfl rfl rfl (y_ldN (vs := nC (.mk 5 s0 0 0 1 (.slice (some ⟨b6, 0, none⟩) 1 1) [(.mk kx sx mx xx ux (.slice px qx.length cx) qx)])) 6 rfl Try.isAgg30 Try.sizeOf30 rfl rfl rfl) ?_
 refine g_buildSlice (offs := [0]) rfl rfl Try.underlying28 rfl Try.zeroValue30 (by kernel_rfl) (fun b14 => ?_)
 refine g_val (v := .agg (nC (.mk 4 s0 1 (-1) 0 (.slice (some ⟨b14, 0, none⟩) 1 1) [(.mk 5 s0 0 0 1 (.slice (some ⟨b6, 0, none⟩) 1 1) [(.mk kx sx mx xx ux (.slice px qx.length cx) qx)])])).toArray) rfl rfl rfl (y_builtE (z := nC (.mk 4 s0 1 (-1) 0 (.slice (some ⟨b14, 0, none⟩) 1 1) [(.mk 5 s0 0 0 1 (.slice (some ⟨b6, 0, none⟩) 1 1) [(.mk kx sx mx xx ux (.slice px qx.length cx) qx)])])) rfl (by kernel_rfl)) ?_
 refine g_val rfl rfl rfl (y_ldN (vs := nC (.mk 5 s0 0 0 2 (.slice (some ⟨b8, 0, none⟩) 1 1) [(.mk ky sy my xy uy (.slice py qy.length cy) qy)])) 5 rfl Try.isAgg30 Try.sizeOf30 rfl rfl rfl) ?_
 refine g_buildSlice (offs := [0]) rfl rfl Try.underlying28 rfl Try.zeroValue30 (by kernel_rfl) (fun b15 => ?_)
 refine g_val (v := .agg (nC (.mk 4 s0 0 1 0 (.slice (some ⟨b15, 0, none⟩) 1 1) [(.mk 5 s0 0 0 2 (.slice (some ⟨b8, 0, none⟩) 1 1) [(.mk ky sy my xy uy (.slice py qy.length cy) qy)])])).toArray) rfl rfl rfl (y_builtE (z := nC (.mk 4 s0 0 1 0 (.slice (some ⟨b15, 0, none⟩) 1 1) [(.mk 5 s0 0 0 2 (.slice (some ⟨b8, 0, none⟩) 1 1) [(.mk ky sy my xy uy (.slice py qy.length cy) qy)])])) rfl (by kernel_rfl)) ?_
 refine g_buildSlice (offs := [0, 9]) rfl rfl Try.underlying28 rfl Try.zeroValue30 (by kernel_rfl) (fun b16 => ?_)
 refine g_val (v := .agg (nC (.mk 2 s0 0 0 0 (.slice (some ⟨b16, 0, none⟩) 2 2) [(.mk 4 s0 1 (-1) 0 (.slice (some ⟨b14, 0, none⟩) 1 1) [(.mk 5 s0 0 0 1 (.slice (some ⟨b6, 0, none⟩) 1 1) [(.mk kx sx mx xx ux (.slice px qx.length cx) qx)])]), (.mk 4 s0 0 1 0 (.slice (some ⟨b15, 0, none⟩) 1 1) [(.mk 5 s0 0 0 2 (.slice (some ⟨b8, 0, none⟩) 1 1) [(.mk ky sy my xy uy (.slice py qy.length cy) qy)])])])).toArray) rfl rfl rfl (y_builtE (z := nC (.mk 2 s0 0 0 0 (.slice (some ⟨b16, 0, none⟩) 2 2) [(.mk 4 s0 1 (-1) 0 (.slice (some ⟨b14, 0, none⟩) 1 1) [(.mk 5 s0 0 0 1 (.slice (some ⟨b6, 0, none⟩) 1 1) [(.mk kx sx mx xx ux (.slice px qx.length cx) qx)])]), (.mk 4 s0 0 1 0 (.slice (some ⟨b15, 0, none⟩) 1 1) [(.mk 5 s0 0 0 2 (.slice (some ⟨b8, 0, none⟩) 1 1) [(.mk ky sy my xy uy (.slice py qy.length cy) qy)])])])) rfl (by kernel_rfl)) ?_
 refine g_call1 rfl rfl rfl Try.call13 (fun w hS => same_yes (t := (.mk km sm mm xm um (.slice pm qm.length cm) qm)) (u := (.mk 2 s0 0 0 0 (.slice (some ⟨b16, 0, none⟩) 2 2) [(.mk 4 s0 1 (-1) 0 (.slice (some ⟨b14, 0, none⟩) 1 1) [(.mk 5 s0 0 0 1 (.slice (some ⟨b6, 0, none⟩) 1 1) [(.mk kx sx mx xx ux (.slice px qx.length cx) qx)])]), (.mk 4 s0 0 1 0 (.slice (some ⟨b15, 0, none⟩) 1 1) [(.mk 5 s0 0 0 2 (.slice (some ⟨b8, 0, none⟩) 1 1) [(.mk ky sy my xy uy (.slice py qy.length cy) qy)])])])) (hem.trans (er_two hex hey).symm) w (okL_cons.1 (hS.get (i := 12) rfl)).1 (ok_mk.2 ⟨row_of_cells (hS.cells (i := 0) rfl) rfl (by decide), (okL_cons.2 ⟨(ok_mk.2 ⟨row_of_cells (hS.cells (i := 2) rfl) rfl (by decide), (okL_cons.2 ⟨(ok_mk.2 ⟨row_of_cells (hS.cells (i := 10) rfl) rfl (by decide), (okL_cons.2 ⟨(okL_cons.1 (hS.get (i := 20) rfl)).1, okL_nil⟩)⟩), okL_nil⟩)⟩), (okL_cons.2 ⟨(ok_mk.2 ⟨row_of_cells (hS.cells (i := 1) rfl) rfl (by decide), (okL_cons.2 ⟨(ok_mk.2 ⟨row_of_cells (hS.cells (i := 8) rfl) rfl (by decide), (okL_cons.2 ⟨(okL_cons.1 (hS.get (i := 18) rfl)).1, okL_nil⟩)⟩), okL_nil⟩)⟩), okL_nil⟩)⟩)⟩)) ?_
 refine xg 1 [] rfl rfl ?_
 refine ntso_ ?_
 refine g_call1 rfl rfl rfl Try.call8 (fun w hS => alive_any w (hS.maxHere hz (by simp))) ?_
 refine xg 22 [1,1,1] rfl (by omega) ?_
 refine n_ (t_ (g_ret ?_))
 refine g_end1 Try.results6 rfl ?_
 exact fun w hS => ⟨rfl, hS.below⟩

theorem peither_law (s t : ByteArray) (n : Int) (hs : s.size ≤ maxLen) (ht : t.size ≤ maxLen) (w : World) (hsh : w.ShapedOpen Try.prog) : Calls Try.prog 6 #[.string s, .string t, .int .i64 n] w fun e w' => e = .returned (.bool true) ∧ Below w.heap.size w w' := by
  have h := peither_any s.data.toList t.data.toList n (by rw [Array.length_toList]; exact hs) (by rw [Array.length_toList]; exact ht) w (maxHere_of hsh)
  unfold st8 at h
  rw [Array.toArray_toList, Array.toArray_toList] at h
  exact h
end Go.Proofs.Ytpoelkfncpjmfaa
