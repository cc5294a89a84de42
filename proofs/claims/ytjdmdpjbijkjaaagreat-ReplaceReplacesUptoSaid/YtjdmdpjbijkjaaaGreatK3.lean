/- The texts that the proof leans on, one behind the other (3 of 7). -/
import Derived.DeepKeys3
import Derived.WideMake
import Derived.Laws.OwnMore
import Derived.Test.YtjdmdpjbijkjaaaGreatK2
namespace Go.Proofs.YtjdmdpjbijkjaaaGreat
open Go Go.RowKit
def setT (s : Nat → Int) : Tok := ⟨0, s, 0, 0⟩
def tokX (ext : Bool) : UInt8 → List Tok → Int → List Tok × Int := match ext with
  | true => tokE
  | false => tokB
def okX (ext : Bool) (c : UInt8) : Prop := c.toNat ≠ 92 ∧ c.toNat ≠ 91 ∧ c.toNat ≠ 94 ∧ c.toNat ≠ 36 ∧ (ext = true → c.toNat ≠ 123)
inductive LStep (ext : Bool) : List UInt8 → List Tok → Int → Option (List UInt8 × List Tok × Int) → Prop
  | esc {c : UInt8} {l : List UInt8} {ts : List Tok} {d : Int} {r : List UInt8} {ts' : List Tok} {d' : Int} (h : (c.toNat : Int) = 92) (he : EscR ext l ts d r ts' d' true) : LStep ext (c :: l) ts d (some (r, ts', d'))
  | esc0 {c : UInt8} {l : List UInt8} {ts : List Tok} {d : Int} {r : List UInt8} {ts' : List Tok} {d' : Int} (h : (c.toNat : Int) = 92) (he : EscR ext l ts d r ts' d' false) : LStep ext (c :: l) ts d none
  | brack {c : UInt8} {l : List UInt8} {ts : List Tok} {d : Int} {s : Nat → Int} {n : Nat} (h : (c.toNat : Int) = 91) (hn : n ≤ l.length) : LStep ext (c :: l) ts d (some (l.drop n, ts ++ [(setT s)], d))
  | brack0 {c : UInt8} {l : List UInt8} {ts : List Tok} {d : Int} (h : (c.toNat : Int) = 91) : LStep ext (c :: l) ts d none
  | begins {c : UInt8} {l : List UInt8} {ts : List Tok} {d : Int} (h : (c.toNat : Int) = 94) (ha : anchT ext c l ts d = true) : LStep ext (c :: l) ts d (some (l, ts ++ [kT 5], d))
  | ends {c : UInt8} {l : List UInt8} {ts : List Tok} {d : Int} (h : (c.toNat : Int) = 36) (ha : anchT ext c l ts d = true) : LStep ext (c :: l) ts d (some (l, ts ++ [kT 6], d))
  | lits {c : UInt8} {l : List UInt8} {ts : List Tok} {d : Int} (h : (c.toNat : Int) = 94 ∨ (c.toNat : Int) = 36) (he : ext = false) (ha : anchT ext c l ts d = false) : LStep ext (c :: l) ts d (some (l, ts ++ [litT c], d))
  | iv {c : UInt8} {l : List UInt8} {ts : List Tok} {d : Int} {t : Tok} {r : List UInt8} (h : (c.toNat : Int) = 123) (he : ext = true) (hi : IvR [125] l t r true) : LStep ext (c :: l) ts d (some (r, ts ++ [t], d))
  | iv0 {c : UInt8} {l : List UInt8} {ts : List Tok} {d : Int} {t : Tok} {r : List UInt8} (h : (c.toNat : Int) = 123) (he : ext = true) (hi : IvR [125] l t r false) : LStep ext (c :: l) ts d none
  | plain {c : UInt8} {l : List UInt8} {ts : List Tok} {d : Int} {ts' : List Tok} {d' : Int} (h : okX ext c) (e : tokX ext c ts d = (ts', d')) : LStep ext (c :: l) ts d (some (l, ts', d'))
inductive Lex (ext : Bool) : List UInt8 → List Tok → Int → Option (List Tok) → Prop
  | done {ts : List Tok} {d : Int} (h : d = 0) : Lex ext [] ts d (some ts)
  | deep {ts : List Tok} {d : Int} (h : d ≠ 0) : Lex ext [] ts d none
  | fail {l : List UInt8} {ts : List Tok} {d : Int} (h : LStep ext l ts d none) : Lex ext l ts d none
  | neg {l : List UInt8} {ts : List Tok} {d : Int} {r : List UInt8} {ts' : List Tok} {d' : Int} (h : LStep ext l ts d (some (r, ts', d'))) (hd : d' < 0) : Lex ext l ts d none
  | next {l : List UInt8} {ts : List Tok} {d : Int} {r : List UInt8} {ts' : List Tok} {d' : Int} {o : Option (List Tok)} (h : LStep ext l ts d (some (r, ts', d'))) (hd : 0 ≤ d') (ho : Lex ext r ts' d' o) : Lex ext l ts d o
theorem lex_end {ext : Bool} {ts : List Tok} {d : Int} : Lex ext [] ts d (if d = 0 then some ts else none) := by
  split
  · exact .done (by assumption)
  · exact .deep (by assumption)
theorem IvR_len {cl l r : List UInt8} {t : Tok} {ok : Bool} (h : IvR cl l t r ok) : r.length ≤ l.length := by
  cases h with
  | one h hc ho => exact Nat.le_trans (Lib.trimPrefix_le _ _) (Nat.le_trans (Lib.trimPrefix_le _ _) (by rw [List.length_drop]; omega))
  | two h hc h2 ho => exact Nat.le_trans (Lib.trimPrefix_le _ _) (Nat.le_trans (by rw [List.length_drop]; exact Nat.sub_le _ _) (Nat.le_trans (Lib.trimPrefix_le _ _) (by rw [List.length_drop]; omega)))
theorem EscR_len {ext : Bool} {l r : List UInt8} {ts ts' : List Tok} {d d' : Int} (h : EscR ext l ts d r ts' d' true) : ts'.length = ts.length + 1 ∧ r.length ≤ l.length ∧ d' ≤ d + 1 ∧ d - 1 ≤ d' := by
  cases h with
  | nl h => simp; omega
  | known h hk => simp; omega
  | opens he h => simp; omega
  | shuts he h => simp; omega
  | iv he h hs hi => have := IvR_len hi; simp; omega
set_option maxRecDepth 100000 in
theorem tokens_xb (b : Nat) (l0 : List UInt8) (v0 : Value) (hl0 : l0.length ≤ 400) (F : List Nat) (w : World) (hz : MaxHere w) (hF0 : 0 ∉ F) (hS0 : St w F [.cells b 73 [st8 l0, .bool false, v0, .int .i64 0], .row 91 7 v0 ([] : List Tok).length (([] : List Tok).flatMap tC)] w) :
    Calls Tryz.prog 22 #[.pointer (some ⟨b, 0, none⟩)] w fun e w' => ∃ x : {x : Value × List UInt8 × List Tok × Int × Option (List Tok) // Lex false l0 [] 0 x.2.2.2.2 ∧ ∀ ts, x.2.2.2.2 = some ts → x.2.2.1 = ts ∧ ts.length ≤ l0.length}, e = .returned (.bool x.1.2.2.2.2.isSome) ∧ St w F [.cells b 73 [st8 x.1.2.1, .bool false, x.1.1, .int .i64 x.1.2.2.2.1], .row 91 7 x.1.1 x.1.2.2.1.length (x.1.2.2.1.flatMap tC)] w' := by
 refine fn_intro_own Tryz.func22 rfl Tryz.ntmps22 rfl rfl hS0 (s_ (o_ ?_));refine xg 1 [] rfl rfl (n_ (t_ ?_));refine g_scope_fall (α := {x : List UInt8 × Value × List Tok × Int // x.1.length + x.2.2.1.length ≤ l0.length ∧ 0 ≤ x.2.2.2 ∧ x.2.2.2 ≤ x.2.2.1.length ∧ ∀ o, Lex false x.1 x.2.2.1 x.2.2.2 o → Lex false l0 [] 0 o}) (fun z => match z with | x => [(0, .pointer (some ⟨b, 0, none⟩))]) (fun z => match z with | x => St w F [.cells b 73 [st8 x.1.1, .bool false, x.1.2.1, .int .i64 x.1.2.2.2], .row 91 7 x.1.2.1 x.1.2.2.1.length (x.1.2.2.1.flatMap tC)]) (fun z => match z with | x => 0) (fun z => match z with | x => x.1.1.length) (fun _ => rfl) ?_ ?_
 ·intro x;dsimp only;obtain ⟨⟨rest, v, ts, d⟩, hx⟩ := x;dsimp only at hx ⊢;obtain ⟨hlen, hd0, hd1, hR⟩ := hx;refine s_ (s_ ?_);rcases rest with _ | ⟨c, l⟩
  ·refine o_ (xg 5 [0] rfl (by omega) ?_);refine g_lit 11 true rfl (decide_eq_true rfl) (n_ (t_ (g_cond_t rfl (s_ (o_ ?_)))));refine xg 6 [0,0] rfl (by omega) (n_ (t_ (g_ret (g_then_ret (g_jumps_ret ?_)))));refine g_end1 Tryz.results22 rfl (fun w hS => ⟨⟨(v, [], ts, d, if d = 0 then some ts else none), hR _ lex_end, fun ts' q => ?_⟩, ret_bool (by dsimp only; split <;> simp_all), hS.pick [0,0] rfl⟩)
   dsimp only at q;split at q
   · cases q; exact ⟨rfl, by simp at hlen; omega⟩
   · cases q
  have hcl := c.toNat_lt;have hl1 : (c :: l).length = l.length + 1 := rfl;refine o_ (xg 5 [0] rfl (by omega) ?_);refine g_lit 11 false rfl (decide_eq_false (st8_nil c l)) (n_ (t_ (g_cond_f rfl (g_skip (t_ (s_ ?_))))));refine k_go [] rfl (by kernel_rfl) (fun _ _ _ _ _ h => h) fun hQ => (k_x 0 [] [] hQ (by kernel_rfl) rfl rfl rfl rfl rfl rfl ?_);refine k_x 1 [] [] hQ (by kernel_rfl) rfl rfl rfl rfl rfl rfl (k_x 2 [] [] hQ (by kernel_rfl) rfl rfl rfl rfl rfl rfl ?_);refine k_x 3 [] [] hQ (by kernel_rfl) rfl rfl rfl rfl rfl rfl (k_x 6 [] [] hQ (by kernel_rfl) rfl rfl rfl rfl rfl rfl ?_);refine k_x 7 [] [] hQ (by kernel_rfl) rfl rfl rfl rfl rfl rfl (k_x 8 [] [] hQ (by kernel_rfl) rfl rfl rfl rfl rfl rfl ?_);refine k_all [4,9] (by kernel_rfl) (by simp) ⟨?_, ?_, trivial⟩
  ·refine k_op 4 rfl (xg 1 [0] rfl (by omega) ?_);refine n_ (k_end (zpk [] rfl) ?_);refine k_take (v := .int .u8 (c.toNat : Int)) 5 rfl (by kernel_rfl) hQ rfl rfl rfl (zpk [] rfl) (y_sidx (i := 0) rfl rfl Tryz.underlying9 (st8_0 c l)) (k_x 11 [] [] hQ (by kernel_rfl) rfl rfl rfl rfl rfl rfl ?_);refine k_one 9 (by kernel_rfl) (k_op 9 rfl ?_);refine xg 1 [0] rfl (by omega) (n_ ?_);refine k_end (zpk [] rfl) (k_take (v := st8 l) 10 rfl (by kernel_rfl) hQ rfl rfl rfl (zpk [] rfl) (y_val (y_sfrom (l := 1) rfl rfl Tryz.underlying9 (by show 1 ≤ (c :: l).toArray.size; simp)) (by rw [st8_1]; rfl)) ?_);refine k_x 12 [] [] hQ (by kernel_rfl) rfl rfl rfl rfl rfl rfl (k_x 13 [] [] hQ (by kernel_rfl) rfl rfl rfl rfl rfl rfl ?_);refine k_one 14 (by kernel_rfl) (k_op 14 rfl ?_);refine xg 1 [0] rfl (by omega) (n_ ?_);refine k_end (zpk [] rfl) (k_done (by kernel_rfl) ?_);refine t_ (s_ (g_block (s_ (o_ (xg 3 [0] rfl rfl ?_)))));refine n_ (t_ (g_casep 33 rfl (fun h1 => ?_) fun h1 => ?_))
   ·refine g_cond_t rfl (s_ (o_ (xg 1 [] rfl rfl ?_)));refine g_callAll (fun x : {x : List UInt8 × List Tok × Int × Bool × Value // EscR false l ts d x.1 x.2.1 x.2.2.1 x.2.2.2.1} => .bool x.1.2.2.2.1) (fun x => [.cells b 73 [st8 x.1.1, .bool false, x.1.2.2.2.2, .int .i64 x.1.2.2.1], .row 91 7 x.1.2.2.2.2 x.1.2.1.length (x.1.2.1.flatMap tC)]) rfl rfl rfl Tryz.call35 (fun w F' hS => escaped_any b false l d v ts F' w (by omega) (by omega) (by omega) hS) ?_;rintro ⟨⟨r, ts1, d1, ok, ve⟩, hesc⟩;try dsimp only
    dsimp only at hesc;refine xg 1 [] rfl rfl (n_ (t_ ?_));first | refine g_casep 38 rfl (fun h2 => ?_) fun h2 => ?_ | refine g_caseb 38 rfl (fun h2 => ?_) fun h2 => ?_
    ·refine g_cond_t rfl (s_ ?_);obtain rfl : ok = false := by simpa using ‹(!ok) = true›
     refine o_ (xg 1 [] rfl rfl ?_);refine n_ (t_ (g_ret (g_in_ret (g_then_ret (g_jumps_ret (g_end1 Tryz.results22 rfl ?_))))));exact fun w hS => ⟨⟨(ve, r, ts1, d1, none), hR _ (.fail (.esc0 (by omega) hesc)), fun ts' q => by cases q⟩, rfl, hS.pick [0,0] rfl⟩
    refine g_cond_f rfl (g_skip (g_in_normal (t_ (s_ (s_ ?_)))));obtain rfl : ok = true := by simpa using ‹(!ok) = false›
    have hel := EscR_len hesc;refine o_ (xg 5 [0,0] rfl (by omega) ?_);refine n_ (t_ (g_casep 186 rfl (fun h3 => ?_) fun h3 => ?_))
    ·refine g_cond_t rfl (s_ (o_ (xg 1 [] rfl rfl ?_)));refine n_ (t_ (g_ret (g_then_ret (g_jumps_ret (g_end1 Tryz.results22 rfl ?_)))));exact fun w hS => ⟨⟨(ve, r, ts1, d1, none), hR _ (.neg (.esc (by omega) hesc) (by omega)), fun ts' q => by cases q⟩, rfl, hS.pick [0,0] rfl⟩
    refine g_cond_f rfl (g_skip (t_ (g_goto ?_)));exact g_jump ⟨(r, ve, ts1, d1), by dsimp only; (try rw [List.length_append, List.length_singleton]); omega, by dsimp only; omega, by dsimp only; (try rw [List.length_append, List.length_singleton]); omega, fun o h => hR o (.next (.esc (by omega) hesc) (by first | omega | (dsimp only; omega)) h)⟩ [0] rfl (fun j hj => by cases hj; dsimp only; omega) rfl (zpk [0,0] rfl)
   refine g_cond_f rfl (s_ (o_ (xg 3 [0] rfl rfl ?_)));refine n_ (t_ (g_casep 39 rfl (fun h4 => ?_) fun h4 => ?_))
   ·refine g_cond_t rfl (s_ (o_ (xg 4 [0] rfl (by omega) ?_)));refine g_callE (fun x : {x : (Nat → Int) × Int × Int // x.2.2 = 0 → 0 ≤ x.2.1 ∧ x.2.1 ≤ l.length} => .tuple #[.agg (s4C x.1.1).toArray, .int .i64 x.1.2.1, .int .i64 x.1.2.2]) rfl rfl rfl Tryz.call36 (fun w hS => bracket_any l (by omega) w (hS.maxHere hz hF0)) ?_;rintro ⟨⟨s, n, er⟩, hb⟩;dsimp only at hb ⊢;refine xg 1 [] rfl rfl (g_val (v := .agg (s4C s).toArray) rfl rfl rfl (y_extract rfl rfl) ?_);refine g_val (v := .int .i64 n) rfl rfl rfl (y_extract rfl rfl) (g_val (v := .int .i64 er) rfl rfl rfl (y_extract rfl rfl) ?_);refine g_alloc rfl rfl Tryz.zeroValue28 rfl (fun b1 => (g_stN 0 rfl rfl rfl (by kernel_rfl) rfl rfl rfl rfl ?_));simp only [zs0];refine xg 2 [] rfl rfl (n_ (t_ (s_ (s_ (o_ ?_)))));refine xg 2 [0] rfl rfl (n_ (t_ ?_));refine g_casep 52 rfl (fun h5 => ?_) fun h5 => ?_
    ·refine g_cond_t rfl (s_ (o_ (xg 1 [] rfl rfl ?_)));refine n_ (t_ (g_ret (g_then_ret (g_in_ret (g_then_ret (g_jumps_ret (g_end1 Tryz.results22 rfl ?_)))))));exact fun w hS => ⟨⟨(v, l, ts, d, none), hR _ (.fail (.brack0 (by omega))), fun ts' q => by cases q⟩, rfl, hS.pick [1,1] rfl⟩
    refine g_cond_f rfl (g_skip (t_ (s_ ?_)));obtain ⟨hn0, hn1⟩ := hb (by omega);obtain ⟨n, rfl⟩ := Int.eq_ofNat_of_zero_le hn0;have hld := List.length_drop (l := l) (i := n);refine o_ (xg 1 [] rfl rfl ?_);refine g_val rfl rfl rfl (y_ldN (vs := (s4C s)) 0 rfl Tryz.isAgg28 Tryz.sizeOf28 rfl rfl rfl) (g_val (v := .agg (tC (setT s)).toArray) rfl rfl rfl (y_val (y_build (offs := [0, 1]) rfl Tryz.zeroValue91 (by kernel_rfl)) rfl) ?_);refine g_perm (.trans (.swap _ _ _) (.cons _ (.swap _ _ _))) (g_callOwn (L0 := [.cells b 73 [st8 l, (.bool false), v, (.int .i64 d)], .row 91 7 v ts.length (ts.flatMap tC)]) (fun _ : Value => .tuple #[]) (fun v' => [.cells b 73 [st8 l, (.bool false), v', (.int .i64 d)], .row 91 7 v' (ts ++ [(setT s)]).length ((ts ++ [(setT s)]).flatMap tC)]) rfl rfl rfl Tryz.call37 (fun w hS => put_any b (st8 l) (.bool false) (.int .i64 d) v ts (setT s) _ w (by omega) hS.part) ?_);intro vq;try dsimp only
    simp only [zc0,zc1];refine nto_ (xg 6 [0] rfl (by omega) ?_);refine g_val (v := st8 (l.drop n)) rfl rfl rfl (y_val (y_sfrom (l := n) rfl rfl Tryz.underlying9 (by rw [size_mk]; omega)) (by rw [st8_drop]; rfl)) (xg 3 [0] rfl (by omega) ?_);refine n_ (g_in_normal (t_ (s_ (s_ (o_ (xg 5 [0,2] rfl (by omega) ?_))))));refine n_ (t_ (g_cond_f rfl (g_skip (t_ (g_goto ?_)))));exact g_jump ⟨((l.drop n), vq, (ts ++ [(setT s)]), d), by dsimp only; (try rw [List.length_append, List.length_singleton]); omega, by dsimp only; omega, by dsimp only; (try rw [List.length_append, List.length_singleton]); omega, fun o h => hR o (.next (.brack (by omega) (by omega)) (by first | omega | (dsimp only; omega)) h)⟩ [0] rfl (fun j hj => by cases hj; dsimp only; omega) rfl (zpk [0,0] rfl)
   refine g_cond_f rfl (s_ (o_ (xg 3 [0] rfl rfl ?_)));refine n_ (t_ (g_casep 66 rfl (fun h6 => ?_) fun h6 => ?_))
   ·refine g_cond_t rfl (o_ (xg 2 [] rfl rfl ?_));refine g_call1 rfl rfl rfl Tryz.call38 (fun w hS => cwith_any s0 0 255 (by decide) (by decide) w) (xg 1 [] rfl rfl ?_);refine g_callAll (fun _ : Value => .tuple #[]) (fun v' => [.cells b 73 [st8 l, (.bool false), v', (.int .i64 d)], .row 91 7 v' (ts ++ [dotT]).length ((ts ++ [dotT]).flatMap tC)]) rfl rfl rfl Tryz.call37 (fun w F' hS => put_any b (st8 l) (.bool false) (.int .i64 d) v ts dotT F' w (by omega) hS) ?_;intro vq;try dsimp only
    refine n_ (g_in_normal (t_ (s_ (s_ (o_ (xg 5 [0,2] rfl (by omega) ?_))))));refine n_ (t_ (g_cond_f rfl (g_skip (t_ (g_goto ?_)))));exact g_jump ⟨(l, vq, (ts ++ [dotT]), d), by dsimp only; (try rw [List.length_append, List.length_singleton]); omega, by dsimp only; omega, by dsimp only; (try rw [List.length_append, List.length_singleton]); omega, fun o h => hR o (.next (.plain (by unfold okX; refine ⟨by omega, by omega, by omega, by omega, fun q => ?_⟩; first | omega | cases q) (by show tokB c ts d = _; unfold tokB; rw [if_pos (by omega)])) (by first | omega | (dsimp only; omega)) h)⟩ [0] rfl (fun j hj => by cases hj; dsimp only; omega) rfl (zpk [0,0] rfl)
   refine g_cond_f rfl (s_ (o_ (xg 3 [0] rfl rfl ?_)));refine g_casep 77 rfl (fun h7 => ?_) fun h7 => ?_
   ·refine xg 2 [] rfl rfl (g_callAll (fun _ : Unit => .bool (anchT false c l ts d)) (fun _ => [.cells b 73 [st8 l, .bool false, v, .int .i64 d], .row 91 7 v ts.length (ts.flatMap tC)]) rfl rfl rfl Tryz.call39 (fun w F' hS => anchored_any b false l d v ts c F' w (by omega) (by omega) (by omega) hS) ?_);intro _;try dsimp only
    refine xg 2 [] rfl rfl (n_ (t_ ?_));first | refine g_casep 74 rfl (fun h8 => ?_) fun h8 => ?_ | refine g_caseb 74 rfl (fun h8 => ?_) fun h8 => ?_
    ·refine g_cond_t rfl (o_ (xg 2 [] rfl rfl ?_));refine g_callAll (fun _ : Value => .tuple #[]) (fun v' => [.cells b 73 [st8 l, (.bool false), v', (.int .i64 d)], .row 91 7 v' (ts ++ [(kT 5)]).length ((ts ++ [(kT 5)]).flatMap tC)]) rfl rfl rfl Tryz.call37 (fun w F' hS => put_any b (st8 l) (.bool false) (.int .i64 d) v ts (kT 5) F' w (by omega) hS) ?_;intro vq;try dsimp only
     refine n_ (g_in_normal (t_ (s_ (s_ (o_ (xg 5 [0,2] rfl (by omega) ?_))))));refine n_ (t_ (g_cond_f rfl (g_skip (t_ (g_goto ?_)))));exact g_jump ⟨(l, vq, (ts ++ [(kT 5)]), d), by dsimp only; (try rw [List.length_append, List.length_singleton]); omega, by dsimp only; omega, by dsimp only; (try rw [List.length_append, List.length_singleton]); omega, fun o h => hR o (.next (.begins (by omega) (by assumption)) (by first | omega | (dsimp only; omega)) h)⟩ [0] rfl (fun j hj => by cases hj; dsimp only; omega) rfl (zpk [0,0] rfl)
    refine g_cond_f rfl (s_ (o_ (xg 8 [2] rfl (by omega) ?_)));refine n_ (t_ (g_cond_f rfl (s_ (o_ (xg 18 [2] rfl (by omega) ?_)))));refine n_ (t_ (g_cond_f rfl (s_ (o_ (xg 3 [2] rfl (by omega) ?_)))));refine n_ (t_ (g_cond_f rfl (s_ (o_ (xg 6 [0] rfl (by omega) ?_)))));refine n_ (t_ (g_cond_t rfl (o_ (xg 2 [] rfl rfl ?_))));refine g_callAll (fun _ : Value => .tuple #[]) (fun v' => [.cells b 73 [st8 l, (.bool false), v', (.int .i64 d)], .row 91 7 v' (ts ++ [litT c]).length ((ts ++ [litT c]).flatMap tC)]) rfl rfl rfl Tryz.call42 (fun w F' hS => literal_any b (st8 l) (.bool false) (.int .i64 d) v ts c F' w (by omega) hS) ?_;intro vq;try dsimp only
    refine n_ (g_in_normal (t_ (s_ (s_ (o_ (xg 5 [0,2] rfl (by omega) ?_))))));refine n_ (t_ (g_cond_f rfl (g_skip (t_ (g_goto ?_)))));exact g_jump ⟨(l, vq, (ts ++ [litT c]), d), by dsimp only; (try rw [List.length_append, List.length_singleton]); omega, by dsimp only; omega, by dsimp only; (try rw [List.length_append, List.length_singleton]); omega, fun o h => hR o (.next (.lits (by omega) rfl (by assumption)) (by first | omega | (dsimp only; omega)) h)⟩ [0] rfl (fun j hj => by cases hj; dsimp only; omega) rfl (zpk [0,0] rfl)
   refine xg 5 [] rfl rfl (n_ (t_ (g_cond_f rfl (s_ (o_ ?_)))));refine xg 3 [0] rfl rfl (g_casep 88 rfl (fun h9 => ?_) fun h9 => ?_)
   ·refine xg 2 [] rfl rfl (g_callAll (fun _ : Unit => .bool (anchT false c l ts d)) (fun _ => [.cells b 73 [st8 l, .bool false, v, .int .i64 d], .row 91 7 v ts.length (ts.flatMap tC)]) rfl rfl rfl Tryz.call39 (fun w F' hS => anchored_any b false l d v ts c F' w (by omega) (by omega) (by omega) hS) ?_);intro _;try dsimp only
    refine xg 2 [] rfl rfl (n_ (t_ ?_));first | refine g_casep 85 rfl (fun h10 => ?_) fun h10 => ?_ | refine g_caseb 85 rfl (fun h10 => ?_) fun h10 => ?_
    ·refine g_cond_t rfl (o_ (xg 2 [] rfl rfl ?_));refine g_callAll (fun _ : Value => .tuple #[]) (fun v' => [.cells b 73 [st8 l, (.bool false), v', (.int .i64 d)], .row 91 7 v' (ts ++ [(kT 6)]).length ((ts ++ [(kT 6)]).flatMap tC)]) rfl rfl rfl Tryz.call37 (fun w F' hS => put_any b (st8 l) (.bool false) (.int .i64 d) v ts (kT 6) F' w (by omega) hS) ?_;intro vq;try dsimp only
     refine n_ (g_in_normal (t_ (s_ (s_ (o_ (xg 5 [0,2] rfl (by omega) ?_))))));refine n_ (t_ (g_cond_f rfl (g_skip (t_ (g_goto ?_)))));exact g_jump ⟨(l, vq, (ts ++ [(kT 6)]), d), by dsimp only; (try rw [List.length_append, List.length_singleton]); omega, by dsimp only; omega, by dsimp only; (try rw [List.length_append, List.length_singleton]); omega, fun o h => hR o (.next (.ends (by omega) (by assumption)) (by first | omega | (dsimp only; omega)) h)⟩ [0] rfl (fun j hj => by cases hj; dsimp only; omega) rfl (zpk [0,0] rfl)
    refine g_cond_f rfl (s_ (o_ (xg 18 [2] rfl (by omega) ?_)));refine n_ (t_ (g_cond_f rfl (s_ (o_ (xg 3 [2] rfl (by omega) ?_)))));refine n_ (t_ (g_cond_f rfl (s_ (o_ (xg 6 [0] rfl (by omega) ?_)))));refine n_ (t_ (g_cond_t rfl (o_ (xg 2 [] rfl rfl ?_))));refine g_callAll (fun _ : Value => .tuple #[]) (fun v' => [.cells b 73 [st8 l, (.bool false), v', (.int .i64 d)], .row 91 7 v' (ts ++ [litT c]).length ((ts ++ [litT c]).flatMap tC)]) rfl rfl rfl Tryz.call42 (fun w F' hS => literal_any b (st8 l) (.bool false) (.int .i64 d) v ts c F' w (by omega) hS) ?_;intro vq;try dsimp only
    refine n_ (g_in_normal (t_ (s_ (s_ (o_ (xg 5 [0,2] rfl (by omega) ?_))))));refine n_ (t_ (g_cond_f rfl (g_skip (t_ (g_goto ?_)))));exact g_jump ⟨(l, vq, (ts ++ [litT c]), d), by dsimp only; (try rw [List.length_append, List.length_singleton]); omega, by dsimp only; omega, by dsimp only; (try rw [List.length_append, List.length_singleton]); omega, fun o h => hR o (.next (.lits (by omega) rfl (by assumption)) (by first | omega | (dsimp only; omega)) h)⟩ [0] rfl (fun j hj => by cases hj; dsimp only; omega) rfl (zpk [0,0] rfl)
   refine xg 5 [] rfl rfl (n_ (t_ (g_cond_f rfl (s_ (o_ ?_)))));refine xg 3 [0] rfl rfl (g_casep 99 rfl (fun h11 => ?_) fun h11 => ?_)
   ·refine xg 8 [0] rfl (by omega) (g_callAll (fun _ : Unit => .bool (startsT ts)) (fun _ => [.cells b 73 [st8 l, (.bool false), v, (.int .i64 d)], .row 91 7 v ts.length (ts.flatMap tC)]) rfl rfl rfl Tryz.call40 (fun w F' hS => starts_any b (st8 l) (.bool false) (.int .i64 d) v ts F' w (by omega) hS) ?_);intro _;try dsimp only
    refine xg 1 [] rfl rfl ?_;first | refine g_casep 109 rfl (fun h12 => ?_) fun h12 => ?_ | refine g_caseb 109 rfl (fun h12 => ?_) fun h12 => ?_
    ·refine xg 5 [] rfl rfl (n_ (t_ (g_cond_t rfl (o_ ?_))));refine xg 2 [] rfl rfl (g_callAll (fun _ : Value => .tuple #[]) (fun v' => [.cells b 73 [st8 l, (.bool false), v', (.int .i64 d)], .row 91 7 v' (ts ++ [litT c]).length ((ts ++ [litT c]).flatMap tC)]) rfl rfl rfl Tryz.call42 (fun w F' hS => literal_any b (st8 l) (.bool false) (.int .i64 d) v ts c F' w (by omega) hS) ?_);intro vq;try dsimp only
     refine n_ (g_in_normal (t_ (s_ (s_ (o_ (xg 5 [0,2] rfl (by omega) ?_))))));refine n_ (t_ (g_cond_f rfl (g_skip (t_ (g_goto ?_)))));exact g_jump ⟨(l, vq, (ts ++ [litT c]), d), by dsimp only; (try rw [List.length_append, List.length_singleton]); omega, by dsimp only; omega, by dsimp only; (try rw [List.length_append, List.length_singleton]); omega, fun o h => hR o (.next (.plain (by unfold okX; refine ⟨by omega, by omega, by omega, by omega, fun q => ?_⟩; first | omega | cases q) (by show tokB c ts d = _; unfold tokB; rw [if_neg (by omega), if_pos ⟨by omega, by simp_all⟩])) (by first | omega | (dsimp only; omega)) h)⟩ [0] rfl (fun j hj => by cases hj; dsimp only; omega) rfl (zpk [0,0] rfl)
    refine xg 1 [] rfl rfl (g_callAll (fun _ : Unit => .bool (begunT ts)) (fun _ => [.cells b 73 [st8 l, (.bool false), v, (.int .i64 d)], .row 91 7 v ts.length (ts.flatMap tC)]) rfl rfl rfl Tryz.call41 (fun w F' hS => begun_any b (st8 l) (.bool false) (.int .i64 d) v ts F' w (by omega) hS) ?_);intro _;try dsimp only
    refine xg 3 [] rfl rfl (n_ (t_ ?_));first | refine g_casep 96 rfl (fun h13 => ?_) fun h13 => ?_ | refine g_caseb 96 rfl (fun h13 => ?_) fun h13 => ?_
    ·refine g_cond_t rfl (o_ (xg 2 [] rfl rfl ?_));refine g_callAll (fun _ : Value => .tuple #[]) (fun v' => [.cells b 73 [st8 l, (.bool false), v', (.int .i64 d)], .row 91 7 v' (ts ++ [litT c]).length ((ts ++ [litT c]).flatMap tC)]) rfl rfl rfl Tryz.call42 (fun w F' hS => literal_any b (st8 l) (.bool false) (.int .i64 d) v ts c F' w (by omega) hS) ?_;intro vq;try dsimp only
     refine n_ (g_in_normal (t_ (s_ (s_ (o_ (xg 5 [0,2] rfl (by omega) ?_))))));refine n_ (t_ (g_cond_f rfl (g_skip (t_ (g_goto ?_)))));exact g_jump ⟨(l, vq, (ts ++ [litT c]), d), by dsimp only; (try rw [List.length_append, List.length_singleton]); omega, by dsimp only; omega, by dsimp only; (try rw [List.length_append, List.length_singleton]); omega, fun o h => hR o (.next (.plain (by unfold okX; refine ⟨by omega, by omega, by omega, by omega, fun q => ?_⟩; first | omega | cases q) (by show tokB c ts d = _; unfold tokB; rw [if_neg (by omega), if_pos ⟨by omega, by simp_all⟩])) (by first | omega | (dsimp only; omega)) h)⟩ [0] rfl (fun j hj => by cases hj; dsimp only; omega) rfl (zpk [0,0] rfl)
    refine g_cond_f rfl (s_ (o_ (xg 3 [1] rfl (by omega) ?_)));refine n_ (t_ (g_cond_t rfl (o_ (xg 2 [] rfl rfl ?_))));refine g_callAll (fun _ : Value => .tuple #[]) (fun v' => [.cells b 73 [st8 l, (.bool false), v', (.int .i64 d)], .row 91 7 v' (ts ++ [(timesT 0 (-1))]).length ((ts ++ [(timesT 0 (-1))]).flatMap tC)]) rfl rfl rfl Tryz.call37 (fun w F' hS => put_any b (st8 l) (.bool false) (.int .i64 d) v ts (timesT 0 (-1)) F' w (by omega) hS) ?_;intro vq;try dsimp only
    refine n_ (g_in_normal (t_ (s_ (s_ (o_ (xg 5 [0,2] rfl (by omega) ?_))))));refine n_ (t_ (g_cond_f rfl (g_skip (t_ (g_goto ?_)))));exact g_jump ⟨(l, vq, (ts ++ [(timesT 0 (-1))]), d), by dsimp only; (try rw [List.length_append, List.length_singleton]); omega, by dsimp only; omega, by dsimp only; (try rw [List.length_append, List.length_singleton]); omega, fun o h => hR o (.next (.plain (by unfold okX; refine ⟨by omega, by omega, by omega, by omega, fun q => ?_⟩; first | omega | cases q) (by show tokB c ts d = _; unfold tokB; rw [if_neg (by omega), if_neg (fun q => by have := q.2; simp_all), if_pos (by omega)])) (by first | omega | (dsimp only; omega)) h)⟩ [0] rfl (fun j hj => by cases hj; dsimp only; omega) rfl (zpk [0,0] rfl)
   refine xg 15 [] rfl rfl (n_ (t_ (g_cond_f rfl (s_ (o_ ?_)))));refine xg 3 [2] rfl (by omega) (n_ (t_ (g_cond_f rfl (s_ (o_ ?_)))));refine xg 6 [0] rfl (by omega) (n_ (t_ (g_cond_t rfl (o_ ?_))));refine xg 2 [] rfl rfl (g_callAll (fun _ : Value => .tuple #[]) (fun v' => [.cells b 73 [st8 l, (.bool false), v', (.int .i64 d)], .row 91 7 v' (ts ++ [litT c]).length ((ts ++ [litT c]).flatMap tC)]) rfl rfl rfl Tryz.call42 (fun w F' hS => literal_any b (st8 l) (.bool false) (.int .i64 d) v ts c F' w (by omega) hS) ?_);intro vq;try dsimp only
   refine n_ (g_in_normal (t_ (s_ (s_ (o_ (xg 5 [0,2] rfl (by omega) ?_))))));refine n_ (t_ (g_cond_f rfl (g_skip (t_ (g_goto ?_)))));exact g_jump ⟨(l, vq, (ts ++ [litT c]), d), by dsimp only; (try rw [List.length_append, List.length_singleton]); omega, by dsimp only; omega, by dsimp only; (try rw [List.length_append, List.length_singleton]); omega, fun o h => hR o (.next (.plain (by unfold okX; refine ⟨by omega, by omega, by omega, by omega, fun q => ?_⟩; first | omega | cases q) (by show tokB c ts d = _; unfold tokB; rw [if_neg (by omega), if_neg (fun q => by have := q.1; omega), if_neg (by omega)])) (by first | omega | (dsimp only; omega)) h)⟩ [0] rfl (fun j hj => by cases hj; dsimp only; omega) rfl (zpk [0,0] rfl)
  refine k_op 9 rfl (xg 1 [0] rfl (by omega) ?_);refine n_ (k_end (zpk [] rfl) ?_);refine k_take (v := st8 l) 10 rfl (by kernel_rfl) hQ rfl rfl rfl (zpk [] rfl) (y_val (y_sfrom (l := 1) rfl rfl Tryz.underlying9 (by show 1 ≤ (c :: l).toArray.size; simp)) (by rw [st8_1]; rfl)) (k_one 4 (by kernel_rfl) ?_);refine k_op 4 rfl (xg 1 [0] rfl (by omega) ?_);refine n_ (k_end (zpk [] rfl) ?_);refine k_take (v := .int .u8 (c.toNat : Int)) 5 rfl (by kernel_rfl) hQ rfl rfl rfl (zpk [] rfl) (y_sidx (i := 0) rfl rfl Tryz.underlying9 (st8_0 c l)) (k_x 11 [] [] hQ (by kernel_rfl) rfl rfl rfl rfl rfl rfl ?_);refine k_x 12 [] [] hQ (by kernel_rfl) rfl rfl rfl rfl rfl rfl (k_x 13 [] [] hQ (by kernel_rfl) rfl rfl rfl rfl rfl rfl ?_);refine k_one 14 (by kernel_rfl) (k_op 14 rfl ?_);refine xg 1 [0] rfl (by omega) (n_ ?_);refine k_end (zpk [] rfl) (k_done (by kernel_rfl) ?_);refine t_ (s_ (g_block (s_ (o_ (xg 3 [0] rfl rfl ?_)))));refine n_ (t_ (g_casep 33 rfl (fun h14 => ?_) fun h14 => ?_))
  ·refine g_cond_t rfl (s_ (o_ (xg 1 [] rfl rfl ?_)));refine g_callAll (fun x : {x : List UInt8 × List Tok × Int × Bool × Value // EscR false l ts d x.1 x.2.1 x.2.2.1 x.2.2.2.1} => .bool x.1.2.2.2.1) (fun x => [.cells b 73 [st8 x.1.1, .bool false, x.1.2.2.2.2, .int .i64 x.1.2.2.1], .row 91 7 x.1.2.2.2.2 x.1.2.1.length (x.1.2.1.flatMap tC)]) rfl rfl rfl Tryz.call35 (fun w F' hS => escaped_any b false l d v ts F' w (by omega) (by omega) (by omega) hS) ?_;rintro ⟨⟨r, ts1, d1, ok, ve⟩, hesc⟩;try dsimp only
   dsimp only at hesc;refine xg 1 [] rfl rfl (n_ (t_ ?_));first | refine g_casep 38 rfl (fun h15 => ?_) fun h15 => ?_ | refine g_caseb 38 rfl (fun h15 => ?_) fun h15 => ?_
   ·refine g_cond_t rfl (s_ ?_);obtain rfl : ok = false := by simpa using ‹(!ok) = true›
    refine o_ (xg 1 [] rfl rfl ?_);refine n_ (t_ (g_ret (g_in_ret (g_then_ret (g_jumps_ret (g_end1 Tryz.results22 rfl ?_))))));exact fun w hS => ⟨⟨(ve, r, ts1, d1, none), hR _ (.fail (.esc0 (by omega) hesc)), fun ts' q => by cases q⟩, rfl, hS.pick [0,0] rfl⟩
   refine g_cond_f rfl (g_skip (g_in_normal (t_ (s_ (s_ ?_)))));obtain rfl : ok = true := by simpa using ‹(!ok) = false›
   have hel := EscR_len hesc;refine o_ (xg 5 [0,0] rfl (by omega) ?_);refine n_ (t_ (g_casep 186 rfl (fun h16 => ?_) fun h16 => ?_))
   ·refine g_cond_t rfl (s_ (o_ (xg 1 [] rfl rfl ?_)));refine n_ (t_ (g_ret (g_then_ret (g_jumps_ret (g_end1 Tryz.results22 rfl ?_)))));exact fun w hS => ⟨⟨(ve, r, ts1, d1, none), hR _ (.neg (.esc (by omega) hesc) (by omega)), fun ts' q => by cases q⟩, rfl, hS.pick [0,0] rfl⟩
   refine g_cond_f rfl (g_skip (t_ (g_goto ?_)));exact g_jump ⟨(r, ve, ts1, d1), by dsimp only; (try rw [List.length_append, List.length_singleton]); omega, by dsimp only; omega, by dsimp only; (try rw [List.length_append, List.length_singleton]); omega, fun o h => hR o (.next (.esc (by omega) hesc) (by first | omega | (dsimp only; omega)) h)⟩ [0] rfl (fun j hj => by cases hj; dsimp only; omega) rfl (zpk [0,0] rfl)
  refine g_cond_f rfl (s_ (o_ (xg 3 [0] rfl rfl ?_)));refine n_ (t_ (g_casep 39 rfl (fun h17 => ?_) fun h17 => ?_))
  ·refine g_cond_t rfl (s_ (o_ (xg 4 [0] rfl (by omega) ?_)));refine g_callE (fun x : {x : (Nat → Int) × Int × Int // x.2.2 = 0 → 0 ≤ x.2.1 ∧ x.2.1 ≤ l.length} => .tuple #[.agg (s4C x.1.1).toArray, .int .i64 x.1.2.1, .int .i64 x.1.2.2]) rfl rfl rfl Tryz.call36 (fun w hS => bracket_any l (by omega) w (hS.maxHere hz hF0)) ?_;rintro ⟨⟨s, n, er⟩, hb⟩;dsimp only at hb ⊢;refine xg 1 [] rfl rfl (g_val (v := .agg (s4C s).toArray) rfl rfl rfl (y_extract rfl rfl) ?_);refine g_val (v := .int .i64 n) rfl rfl rfl (y_extract rfl rfl) (g_val (v := .int .i64 er) rfl rfl rfl (y_extract rfl rfl) ?_);refine g_alloc rfl rfl Tryz.zeroValue28 rfl (fun b2 => (g_stN 0 rfl rfl rfl (by kernel_rfl) rfl rfl rfl rfl ?_));simp only [zs0];refine xg 2 [] rfl rfl (n_ (t_ (s_ (s_ (o_ ?_)))));refine xg 2 [0] rfl rfl (n_ (t_ ?_));refine g_casep 52 rfl (fun h18 => ?_) fun h18 => ?_
   ·refine g_cond_t rfl (s_ (o_ (xg 1 [] rfl rfl ?_)));refine n_ (t_ (g_ret (g_then_ret (g_in_ret (g_then_ret (g_jumps_ret (g_end1 Tryz.results22 rfl ?_)))))));exact fun w hS => ⟨⟨(v, l, ts, d, none), hR _ (.fail (.brack0 (by omega))), fun ts' q => by cases q⟩, rfl, hS.pick [1,1] rfl⟩
   refine g_cond_f rfl (g_skip (t_ (s_ ?_)));obtain ⟨hn0, hn1⟩ := hb (by omega);obtain ⟨n, rfl⟩ := Int.eq_ofNat_of_zero_le hn0;have hld := List.length_drop (l := l) (i := n);refine o_ (xg 1 [] rfl rfl ?_);refine g_val rfl rfl rfl (y_ldN (vs := (s4C s)) 0 rfl Tryz.isAgg28 Tryz.sizeOf28 rfl rfl rfl) (g_val (v := .agg (tC (setT s)).toArray) rfl rfl rfl (y_val (y_build (offs := [0, 1]) rfl Tryz.zeroValue91 (by kernel_rfl)) rfl) ?_);refine g_perm (.trans (.swap _ _ _) (.cons _ (.swap _ _ _))) (g_callOwn (L0 := [.cells b 73 [st8 l, (.bool false), v, (.int .i64 d)], .row 91 7 v ts.length (ts.flatMap tC)]) (fun _ : Value => .tuple #[]) (fun v' => [.cells b 73 [st8 l, (.bool false), v', (.int .i64 d)], .row 91 7 v' (ts ++ [(setT s)]).length ((ts ++ [(setT s)]).flatMap tC)]) rfl rfl rfl Tryz.call37 (fun w hS => put_any b (st8 l) (.bool false) (.int .i64 d) v ts (setT s) _ w (by omega) hS.part) ?_);intro vq;try dsimp only
   simp only [zc0,zc1];refine nto_ (xg 6 [0] rfl (by omega) ?_);refine g_val (v := st8 (l.drop n)) rfl rfl rfl (y_val (y_sfrom (l := n) rfl rfl Tryz.underlying9 (by rw [size_mk]; omega)) (by rw [st8_drop]; rfl)) (xg 3 [0] rfl (by omega) ?_);refine n_ (g_in_normal (t_ (s_ (s_ (o_ (xg 5 [0,2] rfl (by omega) ?_))))));refine n_ (t_ (g_cond_f rfl (g_skip (t_ (g_goto ?_)))));exact g_jump ⟨((l.drop n), vq, (ts ++ [(setT s)]), d), by dsimp only; (try rw [List.length_append, List.length_singleton]); omega, by dsimp only; omega, by dsimp only; (try rw [List.length_append, List.length_singleton]); omega, fun o h => hR o (.next (.brack (by omega) (by omega)) (by first | omega | (dsimp only; omega)) h)⟩ [0] rfl (fun j hj => by cases hj; dsimp only; omega) rfl (zpk [0,0] rfl)
  refine g_cond_f rfl (s_ (o_ (xg 3 [0] rfl rfl ?_)));refine n_ (t_ (g_casep 66 rfl (fun h19 => ?_) fun h19 => ?_))
  ·refine g_cond_t rfl (o_ (xg 2 [] rfl rfl ?_));refine g_call1 rfl rfl rfl Tryz.call38 (fun w hS => cwith_any s0 0 255 (by decide) (by decide) w) (xg 1 [] rfl rfl ?_);refine g_callAll (fun _ : Value => .tuple #[]) (fun v' => [.cells b 73 [st8 l, (.bool false), v', (.int .i64 d)], .row 91 7 v' (ts ++ [dotT]).length ((ts ++ [dotT]).flatMap tC)]) rfl rfl rfl Tryz.call37 (fun w F' hS => put_any b (st8 l) (.bool false) (.int .i64 d) v ts dotT F' w (by omega) hS) ?_;intro vq;try dsimp only
   refine n_ (g_in_normal (t_ (s_ (s_ (o_ (xg 5 [0,2] rfl (by omega) ?_))))));refine n_ (t_ (g_cond_f rfl (g_skip (t_ (g_goto ?_)))));exact g_jump ⟨(l, vq, (ts ++ [dotT]), d), by dsimp only; (try rw [List.length_append, List.length_singleton]); omega, by dsimp only; omega, by dsimp only; (try rw [List.length_append, List.length_singleton]); omega, fun o h => hR o (.next (.plain (by unfold okX; refine ⟨by omega, by omega, by omega, by omega, fun q => ?_⟩; first | omega | cases q) (by show tokB c ts d = _; unfold tokB; rw [if_pos (by omega)])) (by first | omega | (dsimp only; omega)) h)⟩ [0] rfl (fun j hj => by cases hj; dsimp only; omega) rfl (zpk [0,0] rfl)
  refine g_cond_f rfl (s_ (o_ (xg 3 [0] rfl rfl ?_)));refine g_casep 77 rfl (fun h20 => ?_) fun h20 => ?_
  ·refine xg 2 [] rfl rfl (g_callAll (fun _ : Unit => .bool (anchT false c l ts d)) (fun _ => [.cells b 73 [st8 l, .bool false, v, .int .i64 d], .row 91 7 v ts.length (ts.flatMap tC)]) rfl rfl rfl Tryz.call39 (fun w F' hS => anchored_any b false l d v ts c F' w (by omega) (by omega) (by omega) hS) ?_);intro _;try dsimp only
   refine xg 2 [] rfl rfl (n_ (t_ ?_));first | refine g_casep 74 rfl (fun h21 => ?_) fun h21 => ?_ | refine g_caseb 74 rfl (fun h21 => ?_) fun h21 => ?_
   ·refine g_cond_t rfl (o_ (xg 2 [] rfl rfl ?_));refine g_callAll (fun _ : Value => .tuple #[]) (fun v' => [.cells b 73 [st8 l, (.bool false), v', (.int .i64 d)], .row 91 7 v' (ts ++ [(kT 5)]).length ((ts ++ [(kT 5)]).flatMap tC)]) rfl rfl rfl Tryz.call37 (fun w F' hS => put_any b (st8 l) (.bool false) (.int .i64 d) v ts (kT 5) F' w (by omega) hS) ?_;intro vq;try dsimp only
    refine n_ (g_in_normal (t_ (s_ (s_ (o_ (xg 5 [0,2] rfl (by omega) ?_))))));refine n_ (t_ (g_cond_f rfl (g_skip (t_ (g_goto ?_)))));exact g_jump ⟨(l, vq, (ts ++ [(kT 5)]), d), by dsimp only; (try rw [List.length_append, List.length_singleton]); omega, by dsimp only; omega, by dsimp only; (try rw [List.length_append, List.length_singleton]); omega, fun o h => hR o (.next (.begins (by omega) (by assumption)) (by first | omega | (dsimp only; omega)) h)⟩ [0] rfl (fun j hj => by cases hj; dsimp only; omega) rfl (zpk [0,0] rfl)
   refine g_cond_f rfl (s_ (o_ (xg 8 [2] rfl (by omega) ?_)));refine n_ (t_ (g_cond_f rfl (s_ (o_ (xg 18 [2] rfl (by omega) ?_)))));refine n_ (t_ (g_cond_f rfl (s_ (o_ (xg 3 [2] rfl (by omega) ?_)))));refine n_ (t_ (g_cond_f rfl (s_ (o_ (xg 6 [0] rfl (by omega) ?_)))));refine n_ (t_ (g_cond_t rfl (o_ (xg 2 [] rfl rfl ?_))));refine g_callAll (fun _ : Value => .tuple #[]) (fun v' => [.cells b 73 [st8 l, (.bool false), v', (.int .i64 d)], .row 91 7 v' (ts ++ [litT c]).length ((ts ++ [litT c]).flatMap tC)]) rfl rfl rfl Tryz.call42 (fun w F' hS => literal_any b (st8 l) (.bool false) (.int .i64 d) v ts c F' w (by omega) hS) ?_;intro vq;try dsimp only
   refine n_ (g_in_normal (t_ (s_ (s_ (o_ (xg 5 [0,2] rfl (by omega) ?_))))));refine n_ (t_ (g_cond_f rfl (g_skip (t_ (g_goto ?_)))));exact g_jump ⟨(l, vq, (ts ++ [litT c]), d), by dsimp only; (try rw [List.length_append, List.length_singleton]); omega, by dsimp only; omega, by dsimp only; (try rw [List.length_append, List.length_singleton]); omega, fun o h => hR o (.next (.lits (by omega) rfl (by assumption)) (by first | omega | (dsimp only; omega)) h)⟩ [0] rfl (fun j hj => by cases hj; dsimp only; omega) rfl (zpk [0,0] rfl)
  refine xg 5 [] rfl rfl (n_ (t_ (g_cond_f rfl (s_ (o_ ?_)))));refine xg 3 [0] rfl rfl (g_casep 88 rfl (fun h22 => ?_) fun h22 => ?_)
  ·refine xg 2 [] rfl rfl (g_callAll (fun _ : Unit => .bool (anchT false c l ts d)) (fun _ => [.cells b 73 [st8 l, .bool false, v, .int .i64 d], .row 91 7 v ts.length (ts.flatMap tC)]) rfl rfl rfl Tryz.call39 (fun w F' hS => anchored_any b false l d v ts c F' w (by omega) (by omega) (by omega) hS) ?_);intro _;try dsimp only
   refine xg 2 [] rfl rfl (n_ (t_ ?_));first | refine g_casep 85 rfl (fun h23 => ?_) fun h23 => ?_ | refine g_caseb 85 rfl (fun h23 => ?_) fun h23 => ?_
   ·refine g_cond_t rfl (o_ (xg 2 [] rfl rfl ?_));refine g_callAll (fun _ : Value => .tuple #[]) (fun v' => [.cells b 73 [st8 l, (.bool false), v', (.int .i64 d)], .row 91 7 v' (ts ++ [(kT 6)]).length ((ts ++ [(kT 6)]).flatMap tC)]) rfl rfl rfl Tryz.call37 (fun w F' hS => put_any b (st8 l) (.bool false) (.int .i64 d) v ts (kT 6) F' w (by omega) hS) ?_;intro vq;try dsimp only
    refine n_ (g_in_normal (t_ (s_ (s_ (o_ (xg 5 [0,2] rfl (by omega) ?_))))));refine n_ (t_ (g_cond_f rfl (g_skip (t_ (g_goto ?_)))));exact g_jump ⟨(l, vq, (ts ++ [(kT 6)]), d), by dsimp only; (try rw [List.length_append, List.length_singleton]); omega, by dsimp only; omega, by dsimp only; (try rw [List.length_append, List.length_singleton]); omega, fun o h => hR o (.next (.ends (by omega) (by assumption)) (by first | omega | (dsimp only; omega)) h)⟩ [0] rfl (fun j hj => by cases hj; dsimp only; omega) rfl (zpk [0,0] rfl)
   refine g_cond_f rfl (s_ (o_ (xg 18 [2] rfl (by omega) ?_)));refine n_ (t_ (g_cond_f rfl (s_ (o_ (xg 3 [2] rfl (by omega) ?_)))));refine n_ (t_ (g_cond_f rfl (s_ (o_ (xg 6 [0] rfl (by omega) ?_)))));refine n_ (t_ (g_cond_t rfl (o_ (xg 2 [] rfl rfl ?_))));refine g_callAll (fun _ : Value => .tuple #[]) (fun v' => [.cells b 73 [st8 l, (.bool false), v', (.int .i64 d)], .row 91 7 v' (ts ++ [litT c]).length ((ts ++ [litT c]).flatMap tC)]) rfl rfl rfl Tryz.call42 (fun w F' hS => literal_any b (st8 l) (.bool false) (.int .i64 d) v ts c F' w (by omega) hS) ?_;intro vq;try dsimp only
   refine n_ (g_in_normal (t_ (s_ (s_ (o_ (xg 5 [0,2] rfl (by omega) ?_))))));refine n_ (t_ (g_cond_f rfl (g_skip (t_ (g_goto ?_)))));exact g_jump ⟨(l, vq, (ts ++ [litT c]), d), by dsimp only; (try rw [List.length_append, List.length_singleton]); omega, by dsimp only; omega, by dsimp only; (try rw [List.length_append, List.length_singleton]); omega, fun o h => hR o (.next (.lits (by omega) rfl (by assumption)) (by first | omega | (dsimp only; omega)) h)⟩ [0] rfl (fun j hj => by cases hj; dsimp only; omega) rfl (zpk [0,0] rfl)
  refine xg 5 [] rfl rfl (n_ (t_ (g_cond_f rfl (s_ (o_ ?_)))));refine xg 3 [0] rfl rfl (g_casep 99 rfl (fun h24 => ?_) fun h24 => ?_)
  ·refine xg 8 [0] rfl (by omega) (g_callAll (fun _ : Unit => .bool (startsT ts)) (fun _ => [.cells b 73 [st8 l, (.bool false), v, (.int .i64 d)], .row 91 7 v ts.length (ts.flatMap tC)]) rfl rfl rfl Tryz.call40 (fun w F' hS => starts_any b (st8 l) (.bool false) (.int .i64 d) v ts F' w (by omega) hS) ?_);intro _;try dsimp only
   refine xg 1 [] rfl rfl ?_;first | refine g_casep 109 rfl (fun h25 => ?_) fun h25 => ?_ | refine g_caseb 109 rfl (fun h25 => ?_) fun h25 => ?_
   ·refine xg 5 [] rfl rfl (n_ (t_ (g_cond_t rfl (o_ ?_))));refine xg 2 [] rfl rfl (g_callAll (fun _ : Value => .tuple #[]) (fun v' => [.cells b 73 [st8 l, (.bool false), v', (.int .i64 d)], .row 91 7 v' (ts ++ [litT c]).length ((ts ++ [litT c]).flatMap tC)]) rfl rfl rfl Tryz.call42 (fun w F' hS => literal_any b (st8 l) (.bool false) (.int .i64 d) v ts c F' w (by omega) hS) ?_);intro vq;try dsimp only
    refine n_ (g_in_normal (t_ (s_ (s_ (o_ (xg 5 [0,2] rfl (by omega) ?_))))));refine n_ (t_ (g_cond_f rfl (g_skip (t_ (g_goto ?_)))));exact g_jump ⟨(l, vq, (ts ++ [litT c]), d), by dsimp only; (try rw [List.length_append, List.length_singleton]); omega, by dsimp only; omega, by dsimp only; (try rw [List.length_append, List.length_singleton]); omega, fun o h => hR o (.next (.plain (by unfold okX; refine ⟨by omega, by omega, by omega, by omega, fun q => ?_⟩; first | omega | cases q) (by show tokB c ts d = _; unfold tokB; rw [if_neg (by omega), if_pos ⟨by omega, by simp_all⟩])) (by first | omega | (dsimp only; omega)) h)⟩ [0] rfl (fun j hj => by cases hj; dsimp only; omega) rfl (zpk [0,0] rfl)
   refine xg 1 [] rfl rfl (g_callAll (fun _ : Unit => .bool (begunT ts)) (fun _ => [.cells b 73 [st8 l, (.bool false), v, (.int .i64 d)], .row 91 7 v ts.length (ts.flatMap tC)]) rfl rfl rfl Tryz.call41 (fun w F' hS => begun_any b (st8 l) (.bool false) (.int .i64 d) v ts F' w (by omega) hS) ?_);intro _;try dsimp only
   refine xg 3 [] rfl rfl (n_ (t_ ?_));first | refine g_casep 96 rfl (fun h26 => ?_) fun h26 => ?_ | refine g_caseb 96 rfl (fun h26 => ?_) fun h26 => ?_
   ·refine g_cond_t rfl (o_ (xg 2 [] rfl rfl ?_));refine g_callAll (fun _ : Value => .tuple #[]) (fun v' => [.cells b 73 [st8 l, (.bool false), v', (.int .i64 d)], .row 91 7 v' (ts ++ [litT c]).length ((ts ++ [litT c]).flatMap tC)]) rfl rfl rfl Tryz.call42 (fun w F' hS => literal_any b (st8 l) (.bool false) (.int .i64 d) v ts c F' w (by omega) hS) ?_;intro vq;try dsimp only
    refine n_ (g_in_normal (t_ (s_ (s_ (o_ (xg 5 [0,2] rfl (by omega) ?_))))));refine n_ (t_ (g_cond_f rfl (g_skip (t_ (g_goto ?_)))));exact g_jump ⟨(l, vq, (ts ++ [litT c]), d), by dsimp only; (try rw [List.length_append, List.length_singleton]); omega, by dsimp only; omega, by dsimp only; (try rw [List.length_append, List.length_singleton]); omega, fun o h => hR o (.next (.plain (by unfold okX; refine ⟨by omega, by omega, by omega, by omega, fun q => ?_⟩; first | omega | cases q) (by show tokB c ts d = _; unfold tokB; rw [if_neg (by omega), if_pos ⟨by omega, by simp_all⟩])) (by first | omega | (dsimp only; omega)) h)⟩ [0] rfl (fun j hj => by cases hj; dsimp only; omega) rfl (zpk [0,0] rfl)
   refine g_cond_f rfl (s_ (o_ (xg 3 [1] rfl (by omega) ?_)));refine n_ (t_ (g_cond_t rfl (o_ (xg 2 [] rfl rfl ?_))));refine g_callAll (fun _ : Value => .tuple #[]) (fun v' => [.cells b 73 [st8 l, (.bool false), v', (.int .i64 d)], .row 91 7 v' (ts ++ [(timesT 0 (-1))]).length ((ts ++ [(timesT 0 (-1))]).flatMap tC)]) rfl rfl rfl Tryz.call37 (fun w F' hS => put_any b (st8 l) (.bool false) (.int .i64 d) v ts (timesT 0 (-1)) F' w (by omega) hS) ?_;intro vq;try dsimp only
   refine n_ (g_in_normal (t_ (s_ (s_ (o_ (xg 5 [0,2] rfl (by omega) ?_))))));refine n_ (t_ (g_cond_f rfl (g_skip (t_ (g_goto ?_)))));exact g_jump ⟨(l, vq, (ts ++ [(timesT 0 (-1))]), d), by dsimp only; (try rw [List.length_append, List.length_singleton]); omega, by dsimp only; omega, by dsimp only; (try rw [List.length_append, List.length_singleton]); omega, fun o h => hR o (.next (.plain (by unfold okX; refine ⟨by omega, by omega, by omega, by omega, fun q => ?_⟩; first | omega | cases q) (by show tokB c ts d = _; unfold tokB; rw [if_neg (by omega), if_neg (fun q => by have := q.2; simp_all), if_pos (by omega)])) (by first | omega | (dsimp only; omega)) h)⟩ [0] rfl (fun j hj => by cases hj; dsimp only; omega) rfl (zpk [0,0] rfl)
  refine xg 15 [] rfl rfl (n_ (t_ (g_cond_f rfl (s_ (o_ ?_)))));refine xg 3 [2] rfl (by omega) (n_ (t_ (g_cond_f rfl (s_ (o_ ?_)))));refine xg 6 [0] rfl (by omega) (n_ (t_ (g_cond_t rfl (o_ ?_))));refine xg 2 [] rfl rfl (g_callAll (fun _ : Value => .tuple #[]) (fun v' => [.cells b 73 [st8 l, (.bool false), v', (.int .i64 d)], .row 91 7 v' (ts ++ [litT c]).length ((ts ++ [litT c]).flatMap tC)]) rfl rfl rfl Tryz.call42 (fun w F' hS => literal_any b (st8 l) (.bool false) (.int .i64 d) v ts c F' w (by omega) hS) ?_);intro vq;try dsimp only
  refine n_ (g_in_normal (t_ (s_ (s_ (o_ (xg 5 [0,2] rfl (by omega) ?_))))));refine n_ (t_ (g_cond_f rfl (g_skip (t_ (g_goto ?_)))));exact g_jump ⟨(l, vq, (ts ++ [litT c]), d), by dsimp only; (try rw [List.length_append, List.length_singleton]); omega, by dsimp only; omega, by dsimp only; (try rw [List.length_append, List.length_singleton]); omega, fun o h => hR o (.next (.plain (by unfold okX; refine ⟨by omega, by omega, by omega, by omega, fun q => ?_⟩; first | omega | cases q) (by show tokB c ts d = _; unfold tokB; rw [if_neg (by omega), if_neg (fun q => by have := q.1; omega), if_neg (by omega)])) (by first | omega | (dsimp only; omega)) h)⟩ [0] rfl (fun j hj => by cases hj; dsimp only; omega) rfl (zpk [0,0] rfl)
 ·intro hp;refine s_ (o_ (xg 1 [] rfl rfl ?_));refine n_ (t_ (s_ (g_label (t_ ?_))));exact g_fall (hp (⟨(l0, v0, [], 0), by simp, by simp, by simp, fun _ h => h⟩)) [0] rfl (zpk [0,0] rfl)
end Go.Proofs.YtjdmdpjbijkjaaaGreat

namespace Go.Proofs.YtjdmdpjbijkjaaaGreat
open Go Go.RowKit
theorem St.no0 {W0 w : World} {L : List Ent} (h : St W0 [] L w) (hz : MaxHere W0) : 0 ∉ L.flatMap Ent.fp := fun hk => by
  obtain ⟨e, he, hk⟩ := List.mem_flatMap.1 hk;rcases h.own e he 0 hk with h1 | h1
  · have := hz.pos; omega
  · cases h1
theorem LStep_len {ext : Bool} {l : List UInt8} {ts : List Tok} {d : Int} {o : Option (List UInt8 × List Tok × Int)} (h : LStep ext l ts d o) : ∀ r ts' d', o = some (r, ts', d') → ts'.length = ts.length + 1 := by
  intro r ts' d' ho;cases h with
  | esc h he => cases ho; exact (EscR_len he).1
  | esc0 h he => cases ho
  | brack h hn => cases ho; simp
  | brack0 h => cases ho
  | begins h ha => cases ho; simp
  | ends h ha => cases ho; simp
  | lits h he ha => cases ho; simp
  | iv h he hi => cases ho; simp
  | iv0 h he hi => cases ho
  | plain h e =>
    cases ho;cases ext with
    | true => rename_i c; have := tokE_len c ts d; rw [show tokE c ts d = _ from e] at this; exact this
    | false => rename_i c; have := tokB_len c ts d; rw [show tokB c ts d = _ from e] at this; exact this
theorem Lex_len {ext : Bool} {l : List UInt8} {ts : List Tok} {d : Int} {o : Option (List Tok)} (h : Lex ext l ts d o) : ∀ ts', o = some ts' → ts.length ≤ ts'.length ∧ (l ≠ [] → ts.length < ts'.length) := by
  induction h with
  | done h => intro ts' q; cases q; exact ⟨Nat.le_refl _, fun h => absurd rfl h⟩
  | deep h => intro ts' q; cases q
  | fail h => intro ts' q; cases q
  | neg h hd => intro ts' q; cases q
  | next h hd ho ih =>
    intro ts' q;have h1 := LStep_len h _ _ _ rfl;have h2 := (ih ts' q).1;exact ⟨by omega, fun _ => by omega⟩
def parX (ext : Bool) (l0 : List UInt8) (x : MT × Int) : Prop :=
  (x = (zMT, 91) ∧ (l0 = [] ∨ 200 < l0.length ∨ Lex ext l0 [] 0 none ∨ ∃ ts t k g b, Lex ext l0 [] 0 (some ts) ∧ RAll ts 0 0 false t k g b ∧ (b = true ∨ k < ts.length))) ∨
  (x.2 = 0 ∧ ∃ ts k g, Lex ext l0 [] 0 (some ts) ∧ l0 ≠ [] ∧ l0.length ≤ 200 ∧ RAll ts 0 0 false x.1 k g false ∧ ts.length ≤ k)
set_option maxRecDepth 100000 in
theorem parse_xb (l0 : List UInt8) (w : World) (hz : MaxHere w) :
    Calls Tryz.prog 11 #[st8 l0, .bool false] w fun e w' => ∃ x : {x : MT × Int // parX false l0 x}, e = .returned (.tuple #[.agg (nC x.1.1).toArray, .int .i64 x.1.2]) ∧ St w [] [.forest [x.1.1]] w' := by
 refine fn_intro Tryz.func11 rfl Tryz.ntmps11 rfl rfl (s_ (o_ ?_));refine g_alloc rfl rfl Tryz.zeroValue31 rfl (fun b1 => (xg 1 [] rfl rfl ?_));refine n_ (t_ (s_ ?_));have hsz := size_mk l0;refine o_ (xg 3 [] rfl rfl ?_);refine g_box rfl rfl rfl rfl (fun b2 => (g_val rfl rfl rfl (y_assign rfl) ?_));refine g_nilRow 91 7 (n_ (t_ (s_ (s_ (o_ ?_)))));refine xg 3 [] rfl rfl (g_casep 15 rfl (fun h1 => ?_) fun h1 => ?_)
 ·refine xg 9 [] rfl rfl (n_ (t_ (g_cond_t rfl (s_ ?_))));refine g_leaf 0 s0 0 0 0 (o_ ?_);refine xg 3 [3] rfl (by omega) (n_ (t_ (g_ret (g_then_ret ?_))));refine g_end_cell2 3 Tryz.results11 rfl rfl rfl Tryz.isAgg31 Tryz.sizeOf31 rfl ?_;exact fun w hS => ⟨⟨(zMT, 91), .inl ⟨rfl, (by first | exact .inr (.inl (by omega)) | exact .inl (by have h := congrArg (fun b : ByteArray => b.data.toList) (show (⟨l0.toArray⟩ : ByteArray) = ⟨#[]⟩ by assumption); simpa using h))⟩⟩, rfl, hS.pick [0] rfl⟩
 refine xg 5 [0] rfl rfl (g_casep 20 rfl (fun h2 => ?_) fun h2 => ?_)
 ·refine xg 4 [] rfl rfl (n_ (t_ (g_cond_t rfl (s_ ?_))));refine g_leaf 0 s0 0 0 0 (o_ ?_);refine xg 3 [3] rfl (by omega) (n_ (t_ (g_ret (g_then_ret ?_))));refine g_end_cell2 3 Tryz.results11 rfl rfl rfl Tryz.isAgg31 Tryz.sizeOf31 rfl ?_;exact fun w hS => ⟨⟨(zMT, 91), .inl ⟨rfl, (by first | exact .inr (.inl (by omega)) | exact .inl (by have h := congrArg (fun b : ByteArray => b.data.toList) (show (⟨l0.toArray⟩ : ByteArray) = ⟨#[]⟩ by assumption); simpa using h))⟩⟩, rfl, hS.pick [0] rfl⟩
 refine xg 1 [] rfl rfl (g_perm (.swap _ _ _) ?_);refine g_callOwn (L0 := [.cells b2 73 [st8 l0, .bool false, .slice none 0 0, .int .i64 0], .row 91 7 (.slice none 0 0) ([] : List Tok).length (([] : List Tok).flatMap tC)]) (fun x : {x : Value × List UInt8 × List Tok × Int × Option (List Tok) // Lex false l0 [] 0 x.2.2.2.2 ∧ ∀ ts, x.2.2.2.2 = some ts → x.2.2.1 = ts ∧ ts.length ≤ l0.length} => .bool x.1.2.2.2.2.isSome) (fun x => [.cells b2 73 [st8 x.1.2.1, .bool false, x.1.1, .int .i64 x.1.2.2.2.1], .row 91 7 x.1.1 x.1.2.2.1.length (x.1.2.2.1.flatMap tC)]) rfl rfl rfl Tryz.call22 (fun w hS => tokens_xb b2 l0 _ (by omega) _ w (hS.maxHere hz (by simp)) (fun hk => hS.no0 hz (by rw [List.flatMap_append]; exact List.mem_append_left _ hk)) hS.part) ?_;rintro ⟨⟨vt, rest, ts, dx, ot⟩, hlx, htk⟩;dsimp only at hlx htk;simp only [zc0,zc1];refine xg 2 [] rfl rfl (n_ (t_ ?_));first | refine g_casep 24 rfl (fun h3 => ?_) fun h3 => ?_ | refine g_caseb 24 rfl (fun h3 => ?_) fun h3 => ?_
 ·refine g_cond_t rfl (s_ (g_leaf 0 s0 0 0 0 ?_));refine o_ (xg 3 [3] rfl (by omega) ?_);refine n_ (t_ (g_ret (g_then_ret (g_end_cell2 3 Tryz.results11 rfl rfl rfl Tryz.isAgg31 Tryz.sizeOf31 rfl ?_))));have hno : ot = none := by simpa using ‹(!ot.isSome) = true›
  subst hno;exact fun w hS => ⟨⟨(zMT, 91), .inl ⟨rfl, .inr (.inr (.inl hlx))⟩⟩, rfl, hS.pick [0] rfl⟩
 refine g_cond_f rfl (g_skip (t_ (s_ ?_)));obtain ⟨ts0, hts0⟩ := Option.isSome_iff_exists.1 (show ot.isSome = true by simpa using ‹(!ot.isSome) = false›);obtain ⟨rfl, hlen⟩ := htk ts0 hts0;subst hts0;have hne : 0 < l0.length := List.length_pos_iff.2 (fun q => by subst q; exact absurd rfl ‹¬ _ = _›);have hpt : 0 < ts.length := (Lex_len hlx ts rfl).2 (List.length_pos_iff.1 hne);refine g_rowCase 1 rfl (by omega) (fun gr4 cr4 hv4 => ?_);cases hv4;refine g_rowCap 1 rfl (fun hcap => (o_ ?_));refine xg 5 [0] rfl (by omega) (g_box rfl rfl rfl rfl (fun b3 => ?_));refine xg 1 [] rfl rfl (ntso_ ?_);refine xg 1 [] rfl rfl (g_perm (.cons _ (.swap _ _ _)) ?_);refine g_callOwn (L0 := [PEnt b3 gr4 ts 0 0 false 0 cr4, TEnt gr4 cr4 ts]) (fun x : {x : PX // RAll ts 0 0 false x.t x.k x.g x.b ∧ Pos ts x.k x.off x.c ∧ GB x.g x.b ∧ 0 ≤ x.k} => .agg (nC x.1.t).toArray) (fun x => [PEnt b3 gr4 ts x.1.k x.1.g x.1.b x.1.off x.1.c, TEnt gr4 cr4 ts, .forest [x.1.t]]) rfl rfl rfl Tryz.call23 (fun w hS => all_ok (ts.length + 1) b3 gr4 cr4 0 0 cr4 ts 0 false _ w trivial ⟨Nat.zero_le _, fun _ => rfl, hcap⟩ ⟨by decide, by decide, fun _ => by decide⟩ (by omega) (by omega) hS.part) ?_;rintro ⟨⟨⟨nk, ns, nm, nx, nu, nv, nq⟩, k1, g1, b1, off1, c1⟩, hr, hpos1, hgb1, hk1⟩;dsimp only at hr hpos1 hgb1 hk1;simp only [zc0,zc1];refine g_kids 2 rfl (fun pv cv hv => ?_);cases hv;refine g_alloc rfl rfl Tryz.zeroValue31 rfl (fun b4 => (xg 1 [0] rfl (by omega) ?_));refine n_ (t_ (s_ (s_ (o_ (xg 5 [1] rfl (by omega) ?_)))));first | refine g_casep 38 rfl (fun h5 => ?_) fun h5 => ?_ | refine g_caseb 38 rfl (fun h5 => ?_) fun h5 => ?_
 ·refine xg 7 [] rfl rfl (n_ (t_ (g_cond_t rfl (s_ ?_))));refine g_leaf 0 s0 0 0 0 (o_ ?_);refine xg 3 [6] rfl (by omega) (n_ (t_ (g_ret (g_then_ret ?_))));refine g_end_cell2 6 Tryz.results11 rfl rfl rfl Tryz.isAgg31 Tryz.sizeOf31 rfl ?_;exact fun w hS => ⟨⟨(zMT, 91), .inl ⟨rfl, .inr (.inr (.inr ⟨ts, _, k1, g1, b1, hlx, hr, by first | exact .inl (by assumption) | exact .inr (by omega)⟩))⟩⟩, rfl, hS.pick [0] rfl⟩
 refine xg 7 [1,0] rfl (by omega) (n_ (t_ ?_));refine g_casep 45 rfl (fun h6 => ?_) fun h6 => ?_
 ·refine g_cond_t rfl (s_ (g_leaf 0 s0 0 0 0 ?_));refine o_ (xg 3 [6] rfl (by omega) ?_);refine n_ (t_ (g_ret (g_then_ret (g_end_cell2 6 Tryz.results11 rfl rfl rfl Tryz.isAgg31 Tryz.sizeOf31 rfl ?_))));exact fun w hS => ⟨⟨(zMT, 91), .inl ⟨rfl, .inr (.inr (.inr ⟨ts, _, k1, g1, b1, hlx, hr, by first | exact .inl (by assumption) | exact .inr (by omega)⟩))⟩⟩, rfl, hS.pick [0] rfl⟩
 refine g_cond_f rfl (g_skip (t_ (s_ (o_ (xg 3 [0,5] rfl (by omega) ?_)))));refine n_ (t_ (g_ret (g_end_cell2 5 Tryz.results11 rfl rfl rfl Tryz.isAgg31 Tryz.sizeOf31 rfl ?_)));have hbb : b1 = false := by assumption
 subst hbb;exact fun w hS => ⟨⟨(.mk nk ns nm nx nu _ nq, 0), .inr ⟨rfl, ts, k1, g1, hlx, List.length_pos_iff.1 hne, by omega, hr, by omega⟩⟩, rfl, hS.pick [3] rfl⟩
end Go.Proofs.YtjdmdpjbijkjaaaGreat

namespace Go.Proofs.YtjdmdpjbijkjaaaGreat
open Go Go.RowKit
theorem okX_of {ext : Bool} {c : UInt8} (h : okC c) : okX ext c := by unfold okC at h; unfold okX; exact ⟨h.1, h.2.1, h.2.2.1, h.2.2.2.1, fun _ => h.2.2.2.2⟩
theorem LStep_plain {ext : Bool} {c : UInt8} {l : List UInt8} {ts : List Tok} {d : Int} {o : Option (List UInt8 × List Tok × Int)} (hc : okX ext c) (h : LStep ext (c :: l) ts d o) : o = some (l, tokX ext c ts d) := by
  unfold okX at hc
  cases h with
  | plain _ e => rw [e]
  | iv h he hi => have := hc.2.2.2.2 he; omega
  | iv0 h he hi => have := hc.2.2.2.2 he; omega
  | lits h he ha => omega
  | _ => omega
theorem Lex_plain {ext : Bool} : ∀ (l : List UInt8) (ts : List Tok) (d : Int) (o : Option (List Tok)), (∀ c, c ∈ l → okX ext c) → Lex ext l ts d o → o = tokF (tokX ext) l ts d
  | [], ts, d, o, _, h => by
    cases h with
    | done h => rw [tokF, if_pos h]
    | deep h => rw [tokF, if_neg h]
    | fail h => cases h
    | neg h hd => cases h
    | next h hd ho => cases h
  | c :: l, ts, d, o, hc, h => by
    have h1 := hc c (List.mem_cons_self ..);cases h with
    | fail h => cases LStep_plain h1 h
    | neg h hd =>
      injection LStep_plain h1 h with e
      injection e with _ e2
      rw [tokF, ← e2, if_pos hd]
    | next h hd ho =>
      injection LStep_plain h1 h with e
      injection e with e1 e2
      subst e1;rw [tokF, ← e2, if_neg (Int.not_lt.2 hd)];exact Lex_plain _ _ _ _ (fun x hx => hc x (List.mem_cons_of_mem _ hx)) ho
theorem parX_R {ext : Bool} {l : List UInt8} {x : MT × Int} (hc : ∀ c, c ∈ l → okC c) (h : parX ext l x) : parR (tokX ext) l x := by
  have hx : ∀ c, c ∈ l → okX ext c := fun c h => okX_of (hc c h);rcases h with ⟨h1, h | h | h | ⟨ts, t, k, g, b, h2, h3⟩⟩ | ⟨h0, ts, k, g, h1, h2⟩
  · exact .inl ⟨h1, .inl h⟩
  · exact .inl ⟨h1, .inr (.inl h)⟩
  · exact .inl ⟨h1, .inr (.inr (.inl (Lex_plain l _ _ _ hx h).symm))⟩
  · exact .inl ⟨h1, .inr (.inr (.inr ⟨ts, t, k, g, b, (Lex_plain l _ _ _ hx h2).symm, h3⟩))⟩
  · exact .inr ⟨h0, ts, k, g, (Lex_plain l _ _ _ hx h1).symm, h2⟩
def oneM (c : UInt8) : MT := .mk 1 (withS s0 c.toNat 1) 0 0 0 nilS []
end Go.Proofs.YtjdmdpjbijkjaaaGreat

namespace Go.Proofs.YtjdmdpjbijkjaaaGreat
open Go Go.RowKit
theorem add_add2 (a : Addr) (x y : Nat) : (a.add x).add y = a.add (x + y) := by
  unfold Addr.add
  cases a with
  | mk b o s => by_cases hx : x = 0 <;> by_cases hy : y = 0 <;> simp_all [Nat.add_assoc]
section
variable {P : Program} {N : Nat} {R : Regs} {S : World → Prop} {Q : Exit → Act → World → Prop} {ops : Array Oper} {rest : List Oper} {W0 : World} {F : List Nat} {L : List Ent} {X : Act → World → Prop}
variable {dst : Option Tmp} {ty t t' k e : TypeId} {pos : String} {af : Array Edge} {gd : Option (Nat × Bool)} {x y z : Operand} {o : Oper}
theorem y_fieldAt {t : TypeId} {i k a m : Nat} {p : Addr} (hx : ev R x = some (.pointer (some (p.add a)))) (hk : fieldOff P t i = some k) (hm : a + k = m) : Yv P N R S ⟨dst, .fieldAddr t x i, ty, pos, af, gd⟩ (.pointer (some (p.add m))) := fun a' w hR _ => by
  subst hm;simp [execOp, hR.eval hx, run_fieldAt hk, add_add2]
theorem rd_cell {W : World} {p : Option Addr} {n sz : Nat} {f : Nat → Nat → Value} (hr : RdSl W p n sz f) {i j : Nat} (hi : i < n) (hj : j < sz) {L : List Ent} : ∀ w, St W [] L w → w.cell? ((p.getD default).add (i * sz + j)) = some (f i j) := fun w hS => by
  have hb := hr.blk (by omega);have hc := hr.cell i j hi hj;rw [← hc];have e : ((p.getD default).add (i * sz + j)).block = (p.getD default).block := by unfold Addr.add; split <;> rfl
  exact World.cell?_of_block (w := W) (hS.keep _ (by rw [e]; exact hb) (by simp))
theorem y_rdField {t : TypeId} {p : Option Addr} {n sz j m : Nat} {i : Int} {f : Nat → Nat → Value} (hr : RdSl W0 p n sz f) (hx : ev R x = some (.pointer (some ((p.getD default).add m)))) (hm : i.toNat * sz + j = m) (ha : ∀ w, (isAgg t).run P w = .ok false w) (h0 : 0 ≤ i) (h1 : i < n) (hj : j < sz) :
    Yv P N R (St W0 [] L) ⟨dst, .load t x, ty, pos, af, gd⟩ (f i.toNat j) := by
  subst hm;exact y_load1 hx ha (rd_cell hr (by omega) hj)
theorem y_rdAgg {t : TypeId} {p : Option Addr} {n sz : Nat} {i : Int} {f : Nat → Nat → Value} {vs : List Value} (hr : RdSl W0 p n sz f) (hx : ev R x = some (.pointer (some ((p.getD default).add (i.toNat * sz))))) (ha : ∀ w, (isAgg t).run P w = .ok true w) (hz : ∀ w, (sizeOf t).run P w = .ok sz w) (h0 : 0 ≤ i) (h1 : i < n) (hl : vs.length = sz) (hv : ∀ j, j < sz → vs[j]? = some (f i.toNat j)) :
    Yv P N R (St W0 [] L) ⟨dst, .load t x, ty, pos, af, gd⟩ (.agg vs.toArray) := fun a w hR hS => by
  have hl2 : (loadCells ((p.getD default).add (i.toNat * sz)) vs.length).run P w = .ok vs.toArray w :=
    run_loadCells_list (P := P) w _ vs (fun j v hj => by
      have hlt : j < vs.length := (List.getElem?_eq_some_iff.1 hj).1;rw [add_add2, rd_cell hr (by omega) (by omega) w hS, ← hv j (by omega), hj])
  rw [hl] at hl2;simp [execOp, hR.eval hx, Instr.loadAt, Instr.sureAddr, loadVar, Sem.run_bind, ha, hz, hl2]
theorem rd_of_row {α : Type} [Inhabited α] (f : α → List Value) {w : World} {e : TypeId} {size n c : Nat} {p : Option Addr} {cs : List α} (hl : ∀ a, (f a).length = size) (hn : n = cs.length) (h : w.ownsRow 0 e size (.slice p n c) cs.length (cs.flatMap f)) : RdSl w p n size (fun i j => ((f (cs.getD i default))[j]?).getD default) := by
  subst hn;refine ⟨fun hpos => ?_, fun hpos => ?_, fun i j hi hj => ?_⟩
  · obtain ⟨_, h2 | ⟨g, cap, cur, q, _⟩⟩ := h
    · omega
    · cases q; rfl
  · obtain ⟨_, h2 | ⟨g, cap, cur, q, _, q2, _⟩⟩ := h
    · omega
    · cases q; exact lt_of_some q2
  · have hg : cs[i]? = some (cs.getD i default) := by rw [List.getD_eq_getElem?_getD, List.getElem?_eq_getElem hi]; rfl
    have hv := fm_get f size hl cs i j _ hg hj;have hjl : j < (f (cs.getD i default)).length := by rw [hl]; exact hj
    rw [List.getElem?_eq_getElem hjl] at hv ⊢;have h' := h;obtain ⟨q0, h2 | ⟨g, cap, cur, q, _⟩⟩ := h
    · omega
    · cases q;have := row_cell h' hv;simpa [Addr.add_mid] using this
end
end Go.Proofs.YtjdmdpjbijkjaaaGreat

namespace Go.Proofs.YtjdmdpjbijkjaaaGreat
open Go Go.RowKit Go.WideMaps Go.MapKept Go.ChangeMaps
def wdN (c : Nat → Bool) (k : Nat) : Nat → Nat
  | 0 => 0
  | m + 1 => wdN c k m ||| (if c (64 * k + m) then 2 ^ m else 0)
def wd (c : Nat → Bool) (k : Nat) : Nat := wdN c k 64
theorem wdN_bit (c : Nat → Bool) (k : Nat) : ∀ m j, (wdN c k m).testBit j = (decide (j < m) && c (64 * k + j))
  | 0, j => by simp [wdN]
  | m + 1, j => by
    rw [wdN, Nat.testBit_or, wdN_bit c k m j];by_cases h : c (64 * k + m) = true
    · rw [if_pos h, Nat.testBit_two_pow];by_cases e : m = j
      · subst e; simp [h]
      · have : (decide (j < m + 1)) = decide (j < m) := by congr 1; apply propext; omega
        simp [e, this]
    · rw [if_neg h, Nat.zero_testBit, Bool.or_false];by_cases e : m = j
      · subst e; simp [h]
      · have : (decide (j < m + 1)) = decide (j < m) := by congr 1; apply propext; omega
        rw [this]
theorem wd_bit (c : Nat → Bool) (k j : Nat) : (wd c k).testBit j = (decide (j < 64) && c (64 * k + j)) := wdN_bit c k 64 j
theorem wd_lt (c : Nat → Bool) (k : Nat) : wd c k < 18446744073709551616 := by
  have : wd c k < 2 ^ 64 := Nat.lt_pow_two_of_testBit _ fun i hi => by rw [wd_bit, decide_eq_false (by omega)]; rfl
  omega
def addP (c : Nat → Bool) (i : Nat) : Nat → Bool := fun j => c j || decide (j = i)
def orP (c d : Nat → Bool) : Nat → Bool := fun j => c j || d j
theorem wd_add (c : Nat → Bool) (i : Nat) : wd c (i / 64) ||| 2 ^ (i % 64) = wd (addP c i) (i / 64) := by
  refine Nat.eq_of_testBit_eq fun j => ?_;rw [Nat.testBit_or, wd_bit, wd_bit, Nat.testBit_two_pow];unfold addP
  by_cases h : j < 64
  · have : decide (i % 64 = j) = decide (64 * (i / 64) + j = i) := by congr 1; apply propext; omega
    simp [h, this]
  · have : ¬ i % 64 = j := by omega
    simp [h, this]
theorem wd_other (c : Nat → Bool) {i k : Nat} (h : k ≠ i / 64) : wd (addP c i) k = wd c k := by
  refine Nat.eq_of_testBit_eq fun j => ?_;rw [wd_bit, wd_bit];unfold addP
  by_cases hj : j < 64
  · have : ¬ 64 * k + j = i := by omega
    simp [this]
  · simp [hj]
theorem wd_or (c d : Nat → Bool) (k : Nat) : wd c k ||| wd d k = wd (orP c d) k := by
  refine Nat.eq_of_testBit_eq fun j => ?_;rw [Nat.testBit_or, wd_bit, wd_bit, wd_bit];unfold orP
  cases decide (j < 64) <;> simp
theorem wd_has (c : Nat → Bool) (i : Nat) : wd c (i / 64) / 2 ^ (i % 64) % 2 = if c i then 1 else 0 := by
  have h := wd_bit c (i / 64) (i % 64);rw [decide_eq_true (Nat.mod_lt _ (by decide)), Bool.true_and, Nat.div_add_mod, Nat.testBit_eq_decide_div_mod_eq] at h;by_cases q : c i = true
  · rw [q] at h; rw [if_pos q]; exact of_decide_eq_true h
  · rw [Bool.not_eq_true] at q; rw [q] at h; rw [q];have := of_decide_eq_false h;have := Nat.mod_lt (wd c (i / 64) / 2 ^ (i % 64)) (show 0 < 2 by decide);simp; omega
theorem wd_zero {c : Nat → Bool} {k : Nat} (h : ∀ j, j < 64 → c (64 * k + j) = false) : wd c k = 0 := by
  refine Nat.eq_of_testBit_eq fun j => ?_;rw [wd_bit, Nat.zero_testBit];by_cases hj : j < 64
  · rw [h j hj]; simp
  · simp [hj]
theorem wd_zero' {c : Nat → Bool} {k : Nat} (h : wd c k = 0) (j : Nat) (hj : j < 64) : c (64 * k + j) = false := by
  have := wd_bit c k j;rw [h, Nat.zero_testBit, decide_eq_true hj, Bool.true_and] at this;exact this.symm
def wcs (W : Nat) (c : Nat → Bool) : List Value := (List.range W).map fun k => .int .u64 (wd c k : Int)
theorem wcs_len (W : Nat) (c : Nat → Bool) : (wcs W c).length = W := by simp [wcs]
theorem wcs_get (W : Nat) (c : Nat → Bool) (k : Nat) (h : k < W) : (wcs W c)[k]? = some (.int .u64 (wd c k : Int)) := by simp [wcs, h]
theorem wcs_set (W : Nat) (c d : Nat → Bool) (k : Nat) (h : ∀ j, j ≠ k → j < W → wd c j = wd d j) : (wcs W c).set k (.int .u64 (wd d k : Int)) = wcs W d := by
  refine List.ext_getElem? fun j => ?_;rw [List.getElem?_set];by_cases e : k = j
  · subst e;by_cases hl : k < W
    · rw [if_pos rfl, if_pos (by rw [wcs_len]; exact hl), wcs_get W d k hl]
    · rw [if_pos rfl, if_neg (by rw [wcs_len]; exact hl), List.getElem?_eq_none (by rw [wcs_len]; omega)]
  · rw [if_neg e];by_cases hl : j < W
    · rw [wcs_get W c j hl, wcs_get W d j hl, h j (fun q => e q.symm) hl]
    · rw [List.getElem?_eq_none (by rw [wcs_len]; omega), List.getElem?_eq_none (by rw [wcs_len]; omega)]
section
variable {P : Program} {N : Nat} {R : Regs} {S : World → Prop} {Q : Exit → Act → World → Prop} {ops : Array Oper} {rest : List Oper} {W0 : World} {F : List Nat} {L : List Ent} {X : Act → World → Prop}
variable {dst : Option Tmp} {ty t t' k e : TypeId} {pos : String} {af : Array Edge} {gd : Option (Nat × Bool)} {x y z : Operand} {o : Oper} {i n : Nat} {kd : IntKind}
theorem fdiv_nat (a b : Nat) : ((a : Int)).fdiv (b : Int) = ((a / b : Nat) : Int) := by
  rw [Int.fdiv_eq_ediv_of_nonneg _ (by omega)]; exact (Int.natCast_ediv a b).symm
theorem j_sh6 (hx : ev R x = some (.int .i64 (i : Int))) : Yv P N R S ⟨dst, .binOp .shr t x (.const (.int .u64 6)) t', ty, pos, af, gd⟩ (.int .i64 ((i / 64 : Nat) : Int)) :=
  y_val (y_shr hx rfl (by decide)) (by rw [show ((i : Int)).fdiv (2 ^ min (6 : Int).toNat IntKind.i64.bits) = ((i / 64 : Nat) : Int) from fdiv_nat i 64])
theorem andI63 (i : Nat) (h : i < 2 ^ 62) : IntKind.i64.wrap ((BitVec.ofInt 64 (i : Int) &&& BitVec.ofInt 64 63).toNat : Int) = ((i % 64 : Nat) : Int) := by
  have e1 : (BitVec.ofInt 64 (i : Int)) = BitVec.ofNat 64 i := by simp
  have e2 : (BitVec.ofInt 64 63) = BitVec.ofNat 64 63 := rfl;rw [e1, e2, BitVec.toNat_and, BitVec.toNat_ofNat, BitVec.toNat_ofNat, Nat.mod_eq_of_lt (show i < 2 ^ 64 by omega), Nat.mod_eq_of_lt (show 63 < 2 ^ 64 by decide), show (63 : Nat) = 2 ^ 6 - 1 from rfl, Nat.and_two_pow_sub_one_eq_mod];have : i % 2 ^ 6 < 64 := Nat.mod_lt _ (by decide);exact wrap_in (by omega)
theorem j_an63 (h : i < 2 ^ 62) (hx : ev R x = some (.int .i64 (i : Int))) : Yv P N R S ⟨dst, .binOp .and t x (.const (.int .i64 63)) t', ty, pos, af, gd⟩ (.int .i64 ((i % 64 : Nat) : Int)) :=
  y_val (y_and hx rfl) (by rw [show IntKind.i64.bits = 64 from rfl, andI63 i h])
theorem j_shr {a : Nat} (hn : n < 64) (hx : ev R x = some (.int .u64 (a : Int))) (hy : ev R y = some (.int kd (n : Int))) : Yv P N R S ⟨dst, .binOp .shr t x y t', ty, pos, af, gd⟩ (.int .u64 ((a / 2 ^ n : Nat) : Int)) :=
  y_val (y_shr hx hy (by omega)) (by
    have := fdiv_nat a (2 ^ n);rw [Int.toNat_natCast, show IntKind.u64.bits = 64 from rfl, Nat.min_eq_left (by omega), ← this, Int.natCast_pow]; rfl)
theorem u64_bit {a : Nat} (h : a < 18446744073709551616) : (BitVec.ofInt 64 (a : Int)).toNat = a := by
  have e1 : (BitVec.ofInt 64 (a : Int)) = BitVec.ofNat 64 a := by simp
  rw [e1, BitVec.toNat_ofNat, Nat.mod_eq_of_lt (by omega)]
theorem u64_wrap {a : Nat} (h : a < 18446744073709551616) : IntKind.u64.wrap (a : Int) = (a : Int) := by
  simp [IntKind.wrap, IntKind.bits, IntKind.signed]; omega
theorem j_an1 {a : Nat} (h : a < 18446744073709551616) (hx : ev R x = some (.int .u64 (a : Int))) : Yv P N R S ⟨dst, .binOp .and t x (.const (.int .u64 1)) t', ty, pos, af, gd⟩ (.int .u64 ((a % 2 : Nat) : Int)) :=
  y_val (y_and hx rfl) (by
    rw [show IntKind.u64.bits = 64 from rfl, BitVec.toNat_and, u64_bit h, show (BitVec.ofInt 64 1).toNat = 2 ^ 1 - 1 from rfl, Nat.and_two_pow_sub_one_eq_mod];rw [u64_wrap (by omega)])
theorem j_shl (hn : n < 64) (hy : ev R y = some (.int kd (n : Int))) : Yv P N R S ⟨dst, .binOp .shl t (.const (.int .u64 1)) y t', ty, pos, af, gd⟩ (.int .u64 ((2 ^ n : Nat) : Int)) :=
  y_val (y_shl rfl hy (by omega)) (by
    have h2 : 2 ^ n < 2 ^ 64 := Nat.pow_lt_pow_right (by decide) hn;rw [Int.toNat_natCast, show IntKind.u64.bits = 64 from rfl, Nat.min_eq_left (by omega), Int.one_mul, show (2 : Int) ^ n = ((2 ^ n : Nat) : Int) from (Int.natCast_pow 2 n).symm, u64_wrap (by omega)])
theorem j_or {a b : Nat} (ha : a < 18446744073709551616) (hb : b < 18446744073709551616) (hx : ev R x = some (.int .u64 (a : Int))) (hy : ev R y = some (.int .u64 (b : Int))) : Yv P N R S ⟨dst, .binOp .or t x y t', ty, pos, af, gd⟩ (.int .u64 ((a ||| b : Nat) : Int)) :=
  y_val (y_or hx hy) (by
    have := Nat.or_lt_two_pow (n := 64) (show a < 2 ^ 64 by omega) (show b < 2 ^ 64 by omega);rw [show IntKind.u64.bits = 64 from rfl, BitVec.toNat_or, u64_bit ha, u64_bit hb, u64_wrap (by omega)])
end
section
variable {P : Program} {N : Nat} {R : Regs} {S : World → Prop} {dst : Option Tmp} {ty tt tu : TypeId} {pos : String} {af : Array Edge} {gd : Option (Nat × Bool)} {x y : Operand} {k : IntKind} {a b : Int}
theorem y_maxi (hx : ev R x = some (.int k a)) (hy : ev R y = some (.int k b)) : Yv P N R S ⟨dst, .call { callee := .builtin .max, args := #[x, y], argTypes := #[tt, tu] }, ty, pos, af, gd⟩ (.int k (max a b)) :=
  y_builtin (xs := [x, y]) (vs := [.int k a, .int k b]) (by simp [hx, hy]) fun _ w _ => by
    have e : max a b = if b > a then b else a := by by_cases h : b > a <;> simp [h] <;> omega
    rw [e]; rfl
theorem y_mini (hx : ev R x = some (.int k a)) (hy : ev R y = some (.int k b)) : Yv P N R S ⟨dst, .call { callee := .builtin .min, args := #[x, y], argTypes := #[tt, tu] }, ty, pos, af, gd⟩ (.int k (min a b)) :=
  y_builtin (xs := [x, y]) (vs := [.int k a, .int k b]) (by simp [hx, hy]) fun _ w _ => by
    have e : min a b = if b < a then b else a := by by_cases h : b < a <;> simp [h] <;> omega
    rw [e]; rfl
end
section
variable {P : Program} {N : Nat} {R : Regs} {S : World → Prop} {Q : Exit → Act → World → Prop} {ops : Array Oper} {rest : List Oper} {W0 : World} {F : List Nat} {L : List Ent} {X : Act → World → Prop}
variable {dst : Option Tmp} {ty t t' k e : TypeId} {pos : String} {af : Array Edge} {gd : Option (Nat × Bool)} {x y z : Operand} {o : Oper}
theorem made_u64 (n : Nat) : (madeCells (Value.int .u64 0).cells (n * 1)).toList = wcs n fun _ => false := by
  refine List.ext_getElem? fun j => ?_;by_cases h : j < n
  · rw [wcs_get n _ j h, wd_zero (fun _ _ => rfl)];simp [madeCells, Value.cells, h, Nat.mod_one]
  · rw [List.getElem?_eq_none (by simp [madeCells]; omega), List.getElem?_eq_none (by rw [wcs_len]; omega)]
theorem g_makeWords {d c : Nat} {i : TypeInfo} (hw : want ops R ⟨some d, .makeSlice t x y, ty, pos, af, gd⟩ = some true) (hN : Nat.blt d N = true) (hx : ev R x = some (.int .i64 (c : Int))) (hy : ev R y = some (.int .i64 (c : Int)))
    (ht : P.underlying t = some (.slice e)) (hi : P.info? e = some i) (hz : i.zero = some (.int .u64 0)) (hs : i.size = 1) (hb : i.bytes = 8) (hc : c ≤ 1000000)
    (h : ∀ g, G N ((d, .slice (some ⟨g, 0, none⟩) c c) :: R) (St W0 F (.row e 1 (.slice (some ⟨g, 0, none⟩) c c) c (wcs c fun _ => false) :: L)) (wpList P ops Q rest)) : G N R (St W0 F L) (wpList P ops Q (⟨some d, .makeSlice t x y, ty, pos, af, gd⟩ :: rest)) :=
  g_one hw fun K a w hR hS hK => by
    have hm : maxLen = 9223372036854775807 := rfl;obtain ⟨w', h1, h2, h3⟩ := run_makeSlice_full (P := P) (w := w) 0 t e i _ 1 ht hi hz hs .i64 .i64 c (by omega) (by rw [hb]; omega) (by omega) (Nat.zero_le _);rw [made_u64] at h2;refine Oper.wp_ok (w' := w') (v := .slice (some ⟨w.heap.size, 0, none⟩) c c) (by simp [execOp, hR.eval hx, hR.eval hy, Sem.run_bind, h1]) (hK _ _ (h w.heap.size _ _ (hR.put hN) ?_));obtain ⟨g1, g2, g3, g4, g5⟩ := h3;have hold : ∀ j, j < w.heap.size → w'.heap[j]? = w.heap[j]? := fun j hj => g5 j hj (by simp);refine ⟨by rw [g1]; exact hS.os, by rw [g2]; exact hS.tape, by rw [g3]; exact hS.output, by have := hS.size; omega, fun j hj hF => ?_, fun u hu => ?_, fun u hu j hj => ?_, ?_⟩
    · rw [hold j (by have := hS.size; omega)]; exact hS.keep j hj hF
    · rcases List.mem_cons.1 hu with rfl | hu
      · exact h2
      · exact u.stable w _ (fun j hj => hold j (u.inb w (hS.ok u hu) j hj)) (hS.ok u hu)
    · rcases List.mem_cons.1 hu with rfl | hu
      · have : j = w.heap.size := by simpa [Ent.row, Ent.fp, Value.ownBlock] using hj
        subst this; exact .inl hS.size
      · exact hS.own u hu j hj
    · refine List.pairwise_cons.2 ⟨fun u hu j hj hj' => ?_, hS.apart⟩;have : j = w.heap.size := by simpa [Ent.row, Ent.fp, Value.ownBlock] using hj
      subst this;exact Nat.lt_irrefl _ (u.inb w (hS.ok u hu) _ hj')
theorem y_makeFunc {f : FuncId} {xs : List Operand} {vs : List Value} (hx : xs.mapM (ev R) = some vs) : Yv P N R S ⟨dst, .makeFunc (.func f) #[] xs.toArray, ty, pos, af, gd⟩ (.func (.func f) #[] vs.toArray) := fun a w hR _ => by
  have e := evs_map hR xs vs hx;simp [execOp, Instr.makeFunc, ← e]
theorem run_callV {f : FuncId} {xs : List Operand} {ats : Array TypeId} {vs : List Value} {cs : Array Value} {a : Act} {w : World} (hR : Rf N R a) (hx : xs.mapM (ev R) = some vs) (hxf : ev R x = some (.func (.func f) #[] cs)) (hf : ∀ args w, (callFunc f args).run P w = .ok (.enter f args) w) :
    (execOp a.eval ⟨dst, .call { callee := .value x, args := xs.toArray, argTypes := ats }, ty, pos, af, gd⟩).run P w = .ok (.enter f (vs.toArray ++ cs)) w := by
  have e := evs_map hR xs vs hx;simp [execOp, resolve, Deferred.ofValue, invoke, hR.eval hxf, hf, ← e]
theorem g_callV {α : Type} {d : Nat} {f : FuncId} {xs : List Operand} {ats : Array TypeId} {vs : List Value} {cs : Array Value} (r : α → Value) (Sx : α → World → Prop)
    (hw : want ops R ⟨some d, .call { callee := .value x, args := xs.toArray, argTypes := ats }, ty, pos, af, gd⟩ = some true) (hN : Nat.blt d N = true)
    (hx : xs.mapM (ev R) = some vs) (hxf : ev R x = some (.func (.func f) #[] cs)) (hf : ∀ args w, (callFunc f args).run P w = .ok (.enter f args) w) (hc : ∀ w, S w → Calls P f (vs.toArray ++ cs) w (fun e w' => ∃ x, e = .returned (r x) ∧ Sx x w'))
    (h : ∀ x, G N ((d, r x) :: R) (Sx x) (wpList P ops Q rest)) : G N R S (wpList P ops Q (⟨some d, .call { callee := .value x, args := xs.toArray, argTypes := ats }, ty, pos, af, gd⟩ :: rest)) :=
  g_one hw fun K a w hR hS hK => by
    unfold Oper.wp
    rw [run_callV hR hx hxf hf];refine (hc w hS).mono fun e w' ⟨x, he, hS'⟩ => ?_;subst he;exact hK _ _ (h x _ _ (hR.put hN) hS')
theorem fn_intro_S {f : FuncId} {fn : Func} {c : Code} {vs : List Value} {w : World} {Rr : Ending → World → Prop} {N : Nat} {R : Regs} (hf : P.funcs[f]? = some fn) (hb : fn.body = some c) (hN : fn.ntmps = N) (hn : Nat.ble vs.length N = true)
    (hR : regsFrom 0 vs = R) (hS : S w) (h : G N R S (c.wp P (bodyPost P fn Rr))) : Calls P f vs.toArray w Rr := by
  subst hR;have hn' : vs.length ≤ N := Nat.le_of_ble_eq_true hn;refine calls_of_wp hf hb (h _ w ⟨?_, rfl, fun i v hi => ?_⟩ hS)
  · simp [hN]; omega
  · obtain ⟨_, h2⟩ := lookup_regsFrom vs 0 i v hi;simp only [Nat.sub_zero] at h2;have hlt : i < vs.length := (List.getElem?_eq_some_iff.1 h2).1;simp [Array.getElem?_append, hlt]
    exact (List.getElem?_eq_some_iff.1 h2).2
theorem g_callS {d : Nat} {f : FuncId} {xs : List Operand} {ats : Array TypeId} {vs : List Value} {v : Value} (hB : ∀ w w', S w → Below w.heap.size w w' → S w')
    (hw : want ops R ⟨some d, .call { callee := .value (.func f), args := xs.toArray, argTypes := ats }, ty, pos, af, gd⟩ = some true) (hN : Nat.blt d N = true)
    (hx : xs.mapM (ev R) = some vs) (hf : ∀ args w, (callFunc f args).run P w = .ok (.enter f args) w) (hc : ∀ w, S w → Calls P f vs.toArray w (fun e w' => e = .returned v ∧ Below w.heap.size w w'))
    (h : G N ((d, v) :: R) S (wpList P ops Q rest)) : G N R S (wpList P ops Q (⟨some d, .call { callee := .value (.func f), args := xs.toArray, argTypes := ats }, ty, pos, af, gd⟩ :: rest)) :=
  g_call (α := Unit) (fun _ => v) (fun _ => S) hw hN hx hf (fun w hS => (hc w hS).mono fun _ _ ⟨he, hb⟩ => ⟨(), he, hB _ _ hS hb⟩) fun _ => h
abbrev slW (W g : Nat) : Value := .slice (some ⟨g, 0, none⟩) W W
def memoOk (e : TypeId) (b W : Nat) (Sp : Value → Nat → Bool) (Ks : Value → Prop) (M : Value → Option Nat) (E : List (Value × Nat)) (w : World) : Prop :=
  (∃ es clock, w.heap[b]? = some (.map es clock) ∧ Stamped es clock ∧ (∀ x ∈ es.toList, Ks x.key ∧ ∃ g, x.val = slW W g ∧ M x.key = some g) ∧ (∀ q g, M q = some g → (q, g) ∈ E ∧ ∃ x ∈ es.toList, x.key = q ∧ x.val = slW W g)) ∧
  ∀ p ∈ E, w.ownsRow 0 e 1 (slW W p.2) W (wcs W (Sp p.1))
def Ent.memo (e : TypeId) (b W : Nat) (Sp : Value → Nat → Bool) (Ks : Value → Prop) (M : Value → Option Nat) (E : List (Value × Nat)) : Ent := .own {
  fp := b :: E.map (·.2)
  holds := memoOk e b W Sp Ks M E
  stable := fun w w' hk h => by
    obtain ⟨h1, h2⟩ := h;refine ⟨by rw [hk b (by simp)]; exact h1, fun p hp => ownsRow_stable (fun j hj => hk j ?_) (h2 p hp)⟩;have : j = p.2 := by simpa [Value.ownBlock] using hj
    subst this; exact List.mem_cons_of_mem _ (List.mem_map_of_mem hp)
  inb := fun w h j hj => by
    obtain ⟨⟨es, clock, h1, _⟩, h2⟩ := h;rcases List.mem_cons.1 hj with rfl | hj
    · exact lt_of_some h1
    · obtain ⟨p, hp, rfl⟩ := List.mem_map.1 hj;exact ((h2 p hp).lt p.2 (by simp [Value.ownBlock])).2 }
end
section
variable {P : Program} {N : Nat} {R : Regs} {S : World → Prop} {Q : Exit → Act → World → Prop} {ops : Array Oper} {rest : List Oper} {W0 : World} {F : List Nat} {L Lr : List Ent} {X : Act → World → Prop}
variable {dst : Option Tmp} {ty t t' k e e' : TypeId} {pos : String} {af : Array Edge} {gd : Option (Nat × Bool)} {x y z : Operand} {o : Oper}
variable {b W g : Nat} {Sp : Value → Nat → Bool} {Ks : Value → Prop} {M : Value → Option Nat} {E : List (Value × Nat)} {q : Value}
theorem y_memo0 (i : Nat) (hx : ev R x = some (.map (some b))) (hy : ev R y = some q) (ht : P.underlying t = some (.map k e')) (Kl : KeyLaw P k) (hz : ∀ w, (zeroValue e').run P w = .ok (.slice none 0 0) w) (hi : L[i]? = some (.memo e b W Sp Ks M E))
    (hK : ∀ v, Ks v → ∃ l, keyOf P k v = some l) (hq : Ks q) (hM : M q = none) : Yv P N R (St W0 F L) ⟨dst, .lookup t x y true, ty, pos, af, gd⟩ (.tuple #[.slice none 0 0, .bool false]) := fun a w hR hS => by
  obtain ⟨⟨es, clock, hb, _, h1, h2⟩, _⟩ := hS.get hi;obtain ⟨kl, hkl⟩ := hK q hq;rcases Kl.find w hkl es.toList (fun x hx => hK _ (h1 x hx).1) with ⟨h3, _⟩ | ⟨j, x0, _, h4, h5⟩
  · simp [execOp, hR.eval hx, hR.eval hy, Instr.lookup, Sem.run_bind, run_underlying ht, MapKept.run_getObj_map hb, Kl.check w _ hkl, h3, hz]
  · obtain ⟨_, g, _, hg⟩ := h1 x0 (List.mem_of_getElem? h4);rw [h5, hM] at hg; cases hg
theorem y_memo1 (i : Nat) (hx : ev R x = some (.map (some b))) (hy : ev R y = some q) (ht : P.underlying t = some (.map k e')) (Kl : KeyLaw P k) (hi : L[i]? = some (.memo e b W Sp Ks M E))
    (hK : ∀ v, Ks v → ∃ l, keyOf P k v = some l) (hq : Ks q) (hM : M q = some g) : Yv P N R (St W0 F L) ⟨dst, .lookup t x y true, ty, pos, af, gd⟩ (.tuple #[slW W g, .bool true]) := fun a w hR hS => by
  obtain ⟨⟨es, clock, hb, _, h1, h2⟩, _⟩ := hS.get hi;obtain ⟨kl, hkl⟩ := hK q hq;rcases Kl.find w hkl es.toList (fun x hx => hK _ (h1 x hx).1) with ⟨h3, h4⟩ | ⟨j, x0, h3, h4, h5⟩
  · obtain ⟨_, x0, hx0, hk0, _⟩ := h2 q g hM;exact absurd hk0 (h4 x0 hx0)
  · obtain ⟨_, g', hv, hg⟩ := h1 x0 (List.mem_of_getElem? h4);rw [h5, hM] at hg; cases hg;rw [hv] at h3;simp [execOp, hR.eval hx, hR.eval hy, Instr.lookup, Sem.run_bind, run_underlying ht, MapKept.run_getObj_map hb, Kl.check w _ hkl, h3]
open Classical in
noncomputable def mput (M : Value → Option Nat) (q : Value) (g : Nat) : Value → Option Nat := fun u => if u = q then some g else M u
theorem mput_self : mput M q g q = some g := if_pos rfl
theorem mput_ne {u : Value} (h : u ≠ q) : mput M q g u = M u := if_neg h
theorem g_memoPut (i : Nat) (hw : want ops R ⟨none, .mapUpdate t x y z, ty, pos, af, gd⟩ = some true) (hx : ev R x = some (.map (some b))) (hy : ev R y = some q) (hz : ev R z = some (slW W g)) (ht : P.underlying t = some (.map k e')) (Kl : KeyLaw P k)
    (hK : ∀ v, Ks v → ∃ l, keyOf P k v = some l) (hq : Ks q) (hE : (q, g) ∈ E) (hi : L[i]? = some (.memo e b W Sp Ks M E))
    (h : G N R (St W0 F (L.set i (.memo e b W Sp Ks (mput M q g) E))) (wpList P ops Q rest)) : G N R (St W0 F L) (wpList P ops Q (⟨none, .mapUpdate t x y z, ty, pos, af, gd⟩ :: rest)) :=
  g_one hw fun K a w hR hS hK' => by
    obtain ⟨⟨es, clock, hb, Ft, h1, h2⟩, hrows⟩ := hS.get hi;obtain ⟨kl, hkl⟩ := hK q hq;have hblt : b < w.heap.size := lt_of_some hb
    have hbE : ∀ p, p ∈ E → p.2 ≠ b := fun p hp hh => by
      obtain ⟨_, h3 | ⟨g', cap, cur, q1, _, q3, _⟩⟩ := hrows p hp
      · cases h3.1
      · cases q1; rw [hh, hb] at q3; cases q3
    have hfin : ∀ es' clock', (Instr.mapUpdate t (.map (some b)) q (slW W g)).run P w = .ok () (setBlock w b (.map es' clock')) → Stamped es' clock' → (∀ x ∈ es'.toList, Ks x.key ∧ ∃ g', x.val = slW W g' ∧ mput M q g x.key = some g') →
        (∀ u g', mput M q g u = some g' → ∃ x ∈ es'.toList, x.key = u ∧ x.val = slW W g') → Oper.wp P ⟨none, .mapUpdate t x y z, ty, pos, af, gd⟩ a w K Q := by
      intro es' clock' hrun hst h1' h2';have hoth : ∀ j, j ≠ b → (setBlock w b (.map es' clock')).heap[j]? = w.heap[j]? := fun j hj => by simp [setBlock, Array.getElem?_setIfInBounds_ne (fun q => hj q.symm)]
      refine Oper.wp_skip (w' := setBlock w b (.map es' clock')) ?_ (hK' _ _ (h _ _ hR (hS.write hi rfl rfl rfl (by simp [setBlock]) (fun j _ hj => ?_) ⟨⟨es', clock', ?_, hst, h1', fun u g' hu => ⟨?_, h2' u g' hu⟩⟩, fun p hp => ownsRow_stable (fun j hj => hoth j ?_) (hrows p hp)⟩ (fun j hj => .inl hj))))
      · simp [execOp, hR.eval hx, hR.eval hy, hR.eval hz, Sem.run_bind, hrun]
      · refine hoth j fun e => hj ?_;rw [e]; exact List.mem_cons_self ..
      · simp [setBlock, hblt]
      · by_cases hh : u = q
        · subst hh; rw [mput_self] at hu; cases hu; exact hE
        · rw [mput_ne hh] at hu; exact (h2 u g' hu).1
      · have : j = p.2 := by simpa [Value.ownBlock] using hj
        rw [this]; exact hbE p hp
    rcases Kl.find w hkl es.toList (fun x hx => hK _ (h1 x hx).1) with ⟨h3, h4⟩ | ⟨j, e0, h3, h4, h5⟩
    · refine hfin (es.push ⟨q, slW W g, clock⟩) (clock + 1) ?_ (stamped_push Ft h4) ?_ ?_
      · simp [Instr.mapUpdate, run_underlying ht, MapKept.run_getObj_map hb, Kl.check w false hkl, h3, MapKept.run_setObj_map _ hb, Result.andThen, setBlock]
      · intro u hu;simp only [Array.toList_push, List.mem_append, List.mem_singleton] at hu;rcases hu with hu | rfl
        · obtain ⟨a1, g', a2, a3⟩ := h1 u hu;exact ⟨a1, g', a2, by rw [mput_ne (h4 u hu)]; exact a3⟩
        · exact ⟨hq, g, rfl, mput_self⟩
      · intro u g' hu;by_cases hh : u = q
        · subst hh; rw [mput_self] at hu; cases hu;exact ⟨⟨u, slW W g, clock⟩, by rw [Array.toList_push]; exact List.mem_append_right _ (List.mem_singleton.2 rfl), rfl, rfl⟩
        · rw [mput_ne hh] at hu;obtain ⟨_, x0, a1, a2, a3⟩ := h2 u g' hu;exact ⟨x0, by rw [Array.toList_push]; exact List.mem_append_left _ a1, a2, a3⟩
    · have hj : es[j]? = some e0 := by simpa using h4
      have hkeyf : ∀ u, es[j]? = some u → ({ u with key := q, val := slW W g } : MapEntry).key = u.key := fun u hu => by rw [hj] at hu; cases hu; exact h5.symm
      have hset : (es.modify j (fun u => { u with key := q, val := slW W g })).toList = es.toList.set j { e0 with key := q, val := slW W g } := by
        rw [Array.toList_modify, modify_eq_set _ _ _ _ h4]
      have hjl := (List.getElem?_eq_some_iff.1 h4);refine hfin (es.modify j (fun u => { u with key := q, val := slW W g })) clock ?_ (stamped_modify Ft _ _ (fun _ _ => rfl) (fun u _ hu => hkeyf u hu)) ?_ ?_
      · simp [Instr.mapUpdate, run_underlying ht, MapKept.run_getObj_map hb, Kl.check w false hkl, h3, hj, h5, Kl.stays w hkl, MapKept.run_setObj_map _ hb, Result.andThen, setBlock]
      · intro u hu;rw [hset] at hu;obtain ⟨p, hp⟩ := List.getElem?_of_mem hu;rw [List.getElem?_set] at hp;by_cases hpj : j = p
        · rw [if_pos hpj] at hp;split at hp
          · obtain rfl := (Option.some.inj hp).symm;exact ⟨hq, g, rfl, mput_self⟩
          · cases hp
        · rw [if_neg hpj] at hp;have hpl := (List.getElem?_eq_some_iff.1 hp);obtain ⟨a1, g', a2, a3⟩ := h1 u (List.mem_of_getElem? hp);refine ⟨a1, g', a2, ?_⟩;rw [mput_ne]; exact a3;intro hk';have hpw := ((stamped_iff es clock).1 Ft).2.2;rcases Nat.lt_or_ge j p with lt | ge
          · exact (List.pairwise_iff_getElem.1 hpw j p hjl.1 hpl.1 lt) (by rw [hjl.2, hpl.2, h5, hk'])
          · exact (List.pairwise_iff_getElem.1 hpw p j hpl.1 hjl.1 (by omega)) (by rw [hjl.2, hpl.2, h5, hk'])
      · intro u g' hu;rw [hset];by_cases hh : u = q
        · subst hh; rw [mput_self] at hu; cases hu;exact ⟨{ e0 with key := u, val := slW W g }, List.mem_iff_getElem?.2 ⟨j, by rw [List.getElem?_set, if_pos rfl, if_pos hjl.1]⟩, rfl, rfl⟩
        · rw [mput_ne hh] at hu;obtain ⟨_, x0, a1, a2, a3⟩ := h2 u g' hu;obtain ⟨p, hp⟩ := List.getElem?_of_mem a1
          have hpj : j ≠ p := fun hh' => by
            subst hh';rw [h4] at hp;obtain rfl := Option.some.inj hp;exact hh (a2.symm.trans h5)
          exact ⟨x0, List.mem_of_getElem? (i := p) (by rw [List.getElem?_set, if_neg hpj]; exact hp), a2, a3⟩
theorem g_makeMemo {d : Nat} (hw : want ops R ⟨some d, .makeMap t none, ty, pos, af, gd⟩ = some true) (hN : Nat.blt d N = true) (e : TypeId) (W : Nat) (Sp : Value → Nat → Bool) (Ks : Value → Prop)
    (h : ∀ b, G N ((d, .map (some b)) :: R) (St W0 F (.memo e b W Sp Ks (fun _ => none) [] :: L)) (wpList P ops Q rest)) : G N R (St W0 F L) (wpList P ops Q (⟨some d, .makeMap t none, ty, pos, af, gd⟩ :: rest)) :=
  g_one hw fun K a w hR hS hK => by
    refine Oper.wp_ok (w' := w.alloc (.map #[] 0)) (v := .map (some w.heap.size)) (by simp [execOp, Sem.run_bind, run_makeMap_plain]) (hK _ _ (h w.heap.size _ _ (hR.put hN) ?_));have hold : ∀ j, j < w.heap.size → (w.alloc (.map #[] 0)).heap[j]? = w.heap[j]? := fun j hj => Below.heap_alloc _ _ _ hj
    have hfp : ∀ j, j ∈ (Ent.memo e w.heap.size W Sp Ks (fun _ => none) []).fp → j = w.heap.size := fun j hj => by
      rcases List.mem_cons.1 (show j ∈ w.heap.size :: List.map (·.2) ([] : List (Value × Nat)) from hj) with h | h
      · exact h
      · cases h
    refine ⟨hS.os, hS.tape, hS.output, ?_, fun j hj hF => ?_, fun u hu => ?_, fun u hu j hj => ?_, ?_⟩
    · have := hS.size; simp; omega
    · rw [hold j (by have := hS.size; omega)]; exact hS.keep j hj hF
    · rcases List.mem_cons.1 hu with rfl | hu
      · exact ⟨⟨#[], 0, heap_alloc_new _ _, stamped_empty 0, by simp, fun q g h => by cases h⟩, by simp⟩
      · exact u.stable w _ (fun j hj => hold j (u.inb w (hS.ok u hu) j hj)) (hS.ok u hu)
    · rcases List.mem_cons.1 hu with rfl | hu
      · rw [hfp j hj]; exact .inl hS.size
      · exact hS.own u hu j hj
    · refine List.pairwise_cons.2 ⟨fun u hu j hj hj' => ?_, hS.apart⟩;rw [hfp j hj] at hj';exact Nat.lt_irrefl _ (u.inb w (hS.ok u hu) _ hj')
theorem g_memoAdd {c : Nat → Bool} (hc : c = Sp q) (h : G N R (St W0 F (.memo e b W Sp Ks M ((q, g) :: E) :: Lr)) X) : G N R (St W0 F (.memo e b W Sp Ks M E :: .row e 1 (slW W g) W (wcs W c) :: Lr)) X := by
  subst hc;refine g_merge _ (fun w h1 h2 => ?_) (fun j hj => ?_) h
  · obtain ⟨⟨es, clock, a1, a2, a3, a4⟩, a5⟩ := h1;refine ⟨⟨es, clock, a1, a2, a3, fun u g' hu => ⟨List.mem_cons_of_mem _ (a4 u g' hu).1, (a4 u g' hu).2⟩⟩, fun p hp => ?_⟩;rcases List.mem_cons.1 hp with rfl | hp
    · exact h2
    · exact a5 p hp
  · rcases List.mem_cons.1 (show j ∈ b :: List.map (·.2) ((q, g) :: E) from hj) with h | h
    · exact .inl (h ▸ List.mem_cons_self ..)
    · rcases List.mem_cons.1 h with h | h
      · refine .inr ?_;show j ∈ (slW W g).ownBlock.toList
        simp [Value.ownBlock, h]
      · exact .inl (List.mem_cons_of_mem _ h)
theorem rd_cellF {W : World} {p : Option Addr} {n sz : Nat} {f : Nat → Nat → Value} (hr : RdSl W p n sz f) (hF : (p.getD default).block ∉ F) {i j : Nat} (hi : i < n) (hj : j < sz) : ∀ w, St W F L w → w.cell? ((p.getD default).add (i * sz + j)) = some (f i j) := fun w hS => by
  have hb := hr.blk (by omega);have hc := hr.cell i j hi hj;rw [← hc];have e : ((p.getD default).add (i * sz + j)).block = (p.getD default).block := by unfold Addr.add; split <;> rfl
  exact World.cell?_of_block (w := W) (hS.keep _ (by rw [e]; exact hb) (by rw [e]; exact hF))
theorem y_rdFieldF {p : Option Addr} {n sz j m : Nat} {i : Int} {f : Nat → Nat → Value} (hr : RdSl W0 p n sz f) (hF : (p.getD default).block ∉ F) (hx : ev R x = some (.pointer (some ((p.getD default).add m)))) (hm : i.toNat * sz + j = m) (ha : ∀ w, (isAgg t).run P w = .ok false w) (h0 : 0 ≤ i) (h1 : i < n) (hj : j < sz) :
    Yv P N R (St W0 F L) ⟨dst, .load t x, ty, pos, af, gd⟩ (f i.toNat j) := by
  subst hm;exact y_load1 hx ha (rd_cellF hr hF (by omega) hj)
theorem rd_keepF {W w : World} {p : Option Addr} {n sz : Nat} {f : Nat → Nat → Value} (hr : RdSl W p n sz f) (hF : (p.getD default).block ∉ F) (hS : St W F L w) : RdSl w p n sz f :=
  ⟨hr.addr, fun h => Nat.lt_of_lt_of_le (hr.blk h) hS.size, fun i j hi hj => rd_cellF hr hF hi hj w hS⟩
theorem memo_rd {w : World} (h : memoOk e b W Sp Ks M E w) (hE : (q, g) ∈ E) : RdSl w (some ⟨g, 0, none⟩) W 1 (fun k _ => .int .u64 (wd (Sp q) k : Int)) := by
  have ho := h.2 _ hE;refine ⟨fun _ => rfl, fun _ => ?_, fun i j hi hj => ?_⟩
  · exact (ho.lt g (by simp [Value.ownBlock])).2
  · have := row_cell ho (wcs_get W (Sp q) i hi);simpa [Addr.add_mid, show j = 0 by omega] using this
theorem memo_apart {w : World} {i j : Nat} (hS : St W0 F L w) (hi : L[i]? = some (.memo e b W Sp Ks M E)) (hE : (q, g) ∈ E) {u : Ent} (hj : L[j]? = some u) (hne : i ≠ j) : g ∉ u.fp := fun hk => by
  have hm : g ∈ (Ent.memo e b W Sp Ks M E).fp := List.mem_cons_of_mem _ (List.mem_map_of_mem (f := (·.2)) hE);have hil := List.getElem?_eq_some_iff.1 hi;have hjl := List.getElem?_eq_some_iff.1 hj;rcases Nat.lt_or_ge i j with lt | ge
  · exact (List.pairwise_iff_getElem.1 hS.apart i j hil.1 hjl.1 lt) g (by rw [hil.2]; exact hm) (by rw [hjl.2]; exact hk)
  · exact (List.pairwise_iff_getElem.1 hS.apart j i hjl.1 hil.1 (by omega)) g (by rw [hjl.2]; exact hk) (by rw [hil.2]; exact hm)
end
end Go.Proofs.YtjdmdpjbijkjaaaGreat

namespace Go.Proofs.YtjdmdpjbijkjaaaGreat
open Go Go.RowKit
structure Tx where
  l : List UInt8
  bg : Bool
def Tx.n (x : Tx) : Nat := x.l.length
def hasB (s : Nat → Int) (c : Nat) : Bool := decide (((s (c / 64)).fdiv (2 ^ (c % 64))) % 2 = 1)
def rep (n : Nat) (K : Nat → Nat → Bool) : Nat → Int → Int → Nat → Nat → Bool
  | 0, _, _, _, _ => false
  | f + 1, lo, hi, i, j => (decide (j = i) && (decide (lo = 0) || K i i)) || (decide (hi ≠ 0) && (List.range (n + 1)).any fun m => decide (i < m) && K i m && rep n K f (max (lo - 1) 0) (if 0 < hi then hi - 1 else hi) m j)
def cLo (n : Nat) (mi : Int) : Int := min (max mi 0) (n + 1)
def cHi (n : Nat) (ma : Int) : Int := min (max ma (-1)) (n + 1)
mutual
def mM (x : Tx) : MT → Nat → Nat → Bool
  | .mk k s mi ma _ _ q, i, j =>
    if k = 1 then decide (j = i + 1) && (match x.l[i]? with
      | some c => hasB s c.toNat
      | none => false)
    else if k = 6 then decide (i = 0) && x.bg && decide (j = 0)
    else if k = 7 then decide (i = x.n) && decide (j = i)
    else if k = 2 then mRow x q i j
    else if k = 3 then mAny x q i j
    else if k = 5 then mKid x q i j
    else if k = 4 then rep x.n (fun a b => mKid x q a b) (x.n + 1) (cLo x.n mi) (cHi x.n ma) i j
    else decide (j = i)
def mRow (x : Tx) : List MT → Nat → Nat → Bool
  | [], i, j => decide (j = i)
  | t :: q, i, j => (List.range (x.n + 1)).any fun k => decide (i ≤ k) && mM x t i k && mRow x q k j
def mAny (x : Tx) : List MT → Nat → Nat → Bool
  | [], _, _ => false
  | t :: q, i, j => mM x t i j || mAny x q i j
def mKid (x : Tx) : List MT → Nat → Nat → Bool
  | [], i, j => decide (j = i)
  | t :: _, i, j => mM x t i j
end
theorem mM_mk {x : Tx} {k : Int} {s : Nat → Int} {mi ma nu : Int} {v : Value} {q : List MT} {i j : Nat} : mM x (.mk k s mi ma nu v q) i j = (if k = 1 then decide (j = i + 1) && (match x.l[i]? with
      | some c => hasB s c.toNat
      | none => false)
    else if k = 6 then decide (i = 0) && x.bg && decide (j = 0)
    else if k = 7 then decide (i = x.n) && decide (j = i)
    else if k = 2 then mRow x q i j
    else if k = 3 then mAny x q i j
    else if k = 5 then mKid x q i j
    else if k = 4 then rep x.n (fun a b => mKid x q a b) (x.n + 1) (cLo x.n mi) (cHi x.n ma) i j
    else decide (j = i)) := by rw [mM]
theorem mRow_nil {x : Tx} {i j : Nat} : mRow x [] i j = decide (j = i) := by rw [mRow]
theorem mRow_cons {x : Tx} {t : MT} {q : List MT} {i j : Nat} : mRow x (t :: q) i j = (List.range (x.n + 1)).any fun k => decide (i ≤ k) && mM x t i k && mRow x q k j := by rw [mRow]
theorem mAny_nil {x : Tx} {i j : Nat} : mAny x [] i j = false := by rw [mAny]
theorem mAny_cons {x : Tx} {t : MT} {q : List MT} {i j : Nat} : mAny x (t :: q) i j = (mM x t i j || mAny x q i j) := by rw [mAny]
theorem mKid_nil {x : Tx} {i j : Nat} : mKid x [] i j = decide (j = i) := by rw [mKid]
theorem mKid_cons {x : Tx} {t : MT} {q : List MT} {i j : Nat} : mKid x (t :: q) i j = mM x t i j := by rw [mKid]
theorem any_range {n : Nat} {p : Nat → Bool} : (List.range n).any p = true ↔ ∃ k, k < n ∧ p k = true := by simp [List.any_eq_true]
theorem rep_in {n : Nat} {K : Nat → Nat → Bool} (hK : ∀ i j, i ≤ n → K i j = true → i ≤ j ∧ j ≤ n) : ∀ (f : Nat) (lo hi : Int) (i j : Nat), i ≤ n → rep n K f lo hi i j = true → i ≤ j ∧ j ≤ n := by
  intro f;induction f with
  | zero => intro lo hi i j _ h; rw [rep] at h; cases h
  | succ f ih =>
    intro lo hi i j hi' h;rw [rep] at h;simp only [Bool.or_eq_true, Bool.and_eq_true, decide_eq_true_eq, any_range] at h;rcases h with ⟨h, _⟩ | ⟨_, m, h1, ⟨h2, h3⟩, h4⟩
    · omega
    · have := ih _ _ m j (by omega) h4; omega
mutual
theorem mM_in {x : Tx} : ∀ (t : MT) {i j : Nat}, i ≤ x.n → mM x t i j = true → i ≤ j ∧ j ≤ x.n
  | .mk k s mi ma nu v q, i, j, hi, h => by
    rw [mM_mk] at h;split at h
    · simp only [Bool.and_eq_true, decide_eq_true_eq] at h;have h2 := h.2;split at h2
      · rename_i c hc
        have : i < x.l.length := (List.getElem?_eq_some_iff.1 hc).1;unfold Tx.n; omega
      · cases h2
    · split at h
      · simp only [Bool.and_eq_true, decide_eq_true_eq] at h; omega
      · split at h
        · simp only [Bool.and_eq_true, decide_eq_true_eq] at h; omega
        · split at h
          · exact mRow_in q hi h
          · split at h
            · exact mAny_in q hi h
            · split at h
              · exact mKid_in q hi h
              · split at h
                · exact rep_in (fun a b ha hb => mKid_in q ha hb) _ _ _ _ _ hi h
                · simp only [decide_eq_true_eq] at h; omega
theorem mRow_in {x : Tx} : ∀ (q : List MT) {i j : Nat}, i ≤ x.n → mRow x q i j = true → i ≤ j ∧ j ≤ x.n
  | [], i, j, hi, h => by rw [mRow_nil] at h; simp only [decide_eq_true_eq] at h; omega
  | t :: q, i, j, hi, h => by
    rw [mRow_cons] at h;obtain ⟨k, h1, h2⟩ := any_range.1 h;simp only [Bool.and_eq_true, decide_eq_true_eq] at h2;have := mRow_in q (by omega) h2.2;omega
theorem mAny_in {x : Tx} : ∀ (q : List MT) {i j : Nat}, i ≤ x.n → mAny x q i j = true → i ≤ j ∧ j ≤ x.n
  | [], i, j, hi, h => by rw [mAny_nil] at h; cases h
  | t :: q, i, j, hi, h => by
    rw [mAny_cons, Bool.or_eq_true] at h;rcases h with h | h
    · exact mM_in t hi h
    · exact mAny_in q hi h
theorem mKid_in {x : Tx} : ∀ (q : List MT) {i j : Nat}, i ≤ x.n → mKid x q i j = true → i ≤ j ∧ j ≤ x.n
  | [], i, j, hi, h => by rw [mKid_nil] at h; simp only [decide_eq_true_eq] at h; omega
  | t :: q, i, j, hi, h => by rw [mKid_cons] at h; exact mM_in t hi h
end
theorem rep_fuel {n : Nat} {K : Nat → Nat → Bool} : ∀ (f f' : Nat) (lo hi : Int) (i j : Nat), n + 1 ≤ f + i → n + 1 ≤ f' + i → i ≤ n → rep n K f lo hi i j = rep n K f' lo hi i j := by
  intro f;induction f with
  | zero => intro f' lo hi i j h _ h3; omega
  | succ f ih =>
    intro f' lo hi i j h h2 h3;cases f' with
    | zero => omega
    | succ f' =>
      rw [rep, rep];congr 2
      rw [Bool.eq_iff_iff, any_range, any_range];refine exists_congr fun m => and_congr_right fun hm => ?_;by_cases hlt : i < m
      · rw [ih f' _ _ m j (by omega) (by omega) (by omega)]
      · simp [hlt]
theorem rep_step {n : Nat} {K : Nat → Nat → Bool} {lo hi : Int} {i j : Nat} (hi' : i ≤ n) : rep n K (n + 1) lo hi i j = ((decide (j = i) && (decide (lo = 0) || K i i)) || (decide (hi ≠ 0) && (List.range (n + 1)).any fun m => decide (i < m) && K i m && rep n K (n + 1) (max (lo - 1) 0) (if 0 < hi then hi - 1 else hi) m j)) := by
  rw [rep];congr 2
  rw [Bool.eq_iff_iff, any_range, any_range];refine exists_congr fun m => and_congr_right fun hm => ?_;by_cases hlt : i < m
  · rw [rep_fuel n (n + 1) _ _ m j (by omega) (by omega) (by omega)]
  · simp [hlt]
abbrev Nd := MT × Value × List Nat
def fC (p : Nd) : List Value := nC p.1 ++ [p.2.1]
theorem fC_len (p : Nd) : (fC p).length = 10 := by unfold fC; rw [List.length_append, nC_len]; rfl
def MT.k : MT → Int
  | .mk k _ _ _ _ _ _ => k
mutual
def laidT (ns : List Nd) : MT → Nat → Prop
  | .mk k s mi ma nu v q, a => ∃ kv ks, ns[a]? = some (.mk k s mi ma nu v q, kv, ks) ∧ (∀ b ∈ ks, a < b) ∧ (if k = 5 ∨ k = 4 then laidH ns q ks else laidL ns q ks)
def laidL (ns : List Nd) : List MT → List Nat → Prop
  | [], ks => ks = []
  | t :: q, ks => ∃ b r, ks = b :: r ∧ laidT ns t b ∧ laidL ns q r
def laidH (ns : List Nd) : List MT → List Nat → Prop
  | [], ks => ks = []
  | t :: _, ks => ∃ b, ks = [b] ∧ laidT ns t b
end
theorem laidT_mk {ns : List Nd} {k : Int} {s : Nat → Int} {mi ma nu : Int} {v : Value} {q : List MT} {a : Nat} : laidT ns (.mk k s mi ma nu v q) a ↔ ∃ kv ks, ns[a]? = some (.mk k s mi ma nu v q, kv, ks) ∧ (∀ b ∈ ks, a < b) ∧ (if k = 5 ∨ k = 4 then laidH ns q ks else laidL ns q ks) := by rw [laidT]
theorem laidL_nil {ns : List Nd} {ks : List Nat} : laidL ns [] ks ↔ ks = [] := by rw [laidL]
theorem laidL_cons {ns : List Nd} {t : MT} {q : List MT} {ks : List Nat} : laidL ns (t :: q) ks ↔ ∃ b r, ks = b :: r ∧ laidT ns t b ∧ laidL ns q r := by rw [laidL]
theorem laidH_nil {ns : List Nd} {ks : List Nat} : laidH ns [] ks ↔ ks = [] := by rw [laidH]
theorem laidH_cons {ns : List Nd} {t : MT} {q : List MT} {ks : List Nat} : laidH ns (t :: q) ks ↔ ∃ b, ks = [b] ∧ laidT ns t b := by rw [laidH]
mutual
theorem laidT_mono {ns ms : List Nd} (a : Nat) (h : ∀ b, a < b → b < ns.length → ms[b]? = ns[b]?) : ∀ (t : MT) (b : Nat), a < b → laidT ns t b → laidT ms t b
  | .mk k s mi ma nu v q, b, hb, hl => by
    obtain ⟨kv, ks, h1, h2, h3⟩ := laidT_mk.1 hl;refine laidT_mk.2 ⟨kv, ks, by rw [h b hb (List.getElem?_eq_some_iff.1 h1).1]; exact h1, h2, ?_⟩;split
    · rename_i hk; rw [if_pos hk] at h3; exact laidH_mono a h q ks (fun c hc => Nat.lt_trans hb (h2 c hc)) h3
    · rename_i hk; rw [if_neg hk] at h3; exact laidL_mono a h q ks (fun c hc => Nat.lt_trans hb (h2 c hc)) h3
theorem laidL_mono {ns ms : List Nd} (a : Nat) (h : ∀ b, a < b → b < ns.length → ms[b]? = ns[b]?) : ∀ (q : List MT) (ks : List Nat), (∀ b ∈ ks, a < b) → laidL ns q ks → laidL ms q ks
  | [], ks, _, hl => laidL_nil.2 (laidL_nil.1 hl)
  | t :: q, ks, hk, hl => by
    obtain ⟨b, r, rfl, h1, h2⟩ := laidL_cons.1 hl;exact laidL_cons.2 ⟨b, r, rfl, laidT_mono a h t b (hk b (List.mem_cons_self ..)) h1, laidL_mono a h q r (fun c hc => hk c (List.mem_cons_of_mem _ hc)) h2⟩
theorem laidH_mono {ns ms : List Nd} (a : Nat) (h : ∀ b, a < b → b < ns.length → ms[b]? = ns[b]?) : ∀ (q : List MT) (ks : List Nat), (∀ b ∈ ks, a < b) → laidH ns q ks → laidH ms q ks
  | [], ks, _, hl => laidH_nil.2 (laidH_nil.1 hl)
  | t :: q, ks, hk, hl => by
    obtain ⟨b, rfl, h1⟩ := laidH_cons.1 hl;exact laidH_cons.2 ⟨b, rfl, laidT_mono a h t b (hk b (List.mem_cons_self ..)) h1⟩
end
theorem laidL_snoc {ns : List Nd} : ∀ {q : List MT} {ks : List Nat} {t : MT} {b : Nat}, laidL ns q ks → laidT ns t b → laidL ns (q ++ [t]) (ks ++ [b])
  | [], ks, t, b, h, ht => by rw [laidL_nil.1 h]; exact laidL_cons.2 ⟨b, [], rfl, ht, laidL_nil.2 rfl⟩
  | u :: q, ks, t, b, h, ht => by
    obtain ⟨c, r, rfl, h1, h2⟩ := laidL_cons.1 h;exact laidL_cons.2 ⟨c, r ++ [b], rfl, h1, laidL_snoc h2 ht⟩
theorem laidL_len {ns : List Nd} : ∀ {q : List MT} {ks : List Nat}, laidL ns q ks → ks.length = q.length
  | [], ks, h => by rw [laidL_nil.1 h]; rfl
  | t :: q, ks, h => by obtain ⟨b, r, rfl, _, h2⟩ := laidL_cons.1 h; simp [laidL_len h2]
theorem laidL_get {ns : List Nd} : ∀ {q : List MT} {ks : List Nat} {p : Nat}, laidL ns q ks → p < ks.length → ∃ t b, q[p]? = some t ∧ ks[p]? = some b ∧ laidT ns t b
  | [], ks, p, h, hp => by rw [laidL_nil.1 h] at hp; simp at hp
  | t :: q, ks, p, h, hp => by
    obtain ⟨b, r, rfl, h1, h2⟩ := laidL_cons.1 h;cases p with
    | zero => exact ⟨t, b, rfl, rfl, h1⟩
    | succ p => exact laidL_get (q := q) (ks := r) (p := p) h2 (by simpa using hp)
mutual
def wT : MT → Nat
  | .mk _ _ _ _ _ _ q => 1 + wL q
def wL : List MT → Nat
  | [] => 0
  | t :: q => wT t + wL q
end
theorem wT_mem : ∀ {q : List MT} {t : MT}, t ∈ q → wT t ≤ wL q
  | u :: q, t, h => by
    rw [wL];rcases List.mem_cons.1 h with rfl | h
    · omega
    · have := wT_mem h; omega
theorem wT_mk {k : Int} {s : Nat → Int} {mi ma nu : Int} {v : Value} {q : List MT} : wT (.mk k s mi ma nu v q) = 1 + wL q := by rw [wT]
structure Sta where
  a : Nat
  p : Nat
  mi : Int
  ma : Int
  i : Nat
def kvC (s : Sta) : List Value := [.int .i64 (s.a : Int), .int .i64 (s.p : Int), .int .i64 s.mi, .int .i64 s.ma, .int .i64 (s.i : Int)]
def kv (s : Sta) : Value := .agg (kvC s).toArray
def spec (x : Tx) (ns : List Nd) (s : Sta) (j : Nat) : Bool := match ns[s.a]? with
  | some (.mk k c mi ma nu v q, _, _) => if k = 2 then mRow x (q.drop s.p) s.i j else if k = 4 then rep x.n (fun a b => mKid x q a b) (x.n + 1) s.mi s.ma s.i j else mM x (.mk k c mi ma nu v q) s.i j
  | none => false
def Sp (x : Tx) (ns : List Nd) : Value → Nat → Bool
  | .agg a => match a.toList with
    | [.int _ a, .int _ p, .int _ mi, .int _ ma, .int _ i] => spec x ns ⟨a.toNat, p.toNat, mi, ma, i.toNat⟩
    | _ => fun _ => false
  | .int _ i => fun j => decide (j = i.toNat)
  | _ => fun _ => false
theorem Sp_kv (x : Tx) (ns : List Nd) (s : Sta) : Sp x ns (kv s) = spec x ns s := rfl
def beg (x : Tx) (ns : List Nd) (a i : Nat) : Sta := match ns[a]? with
  | some (.mk k _ mi ma _ _ _, _, _) => if k = 4 then ⟨a, 0, cLo x.n mi, cHi x.n ma, i⟩ else ⟨a, 0, 0, 0, i⟩
  | none => ⟨a, 0, 0, 0, i⟩
theorem spec_beg {x : Tx} {ns : List Nd} {t : MT} {a i : Nat} (h : laidT ns t a) : spec x ns (beg x ns a i) = mM x t i := by
  cases t with | mk k s mi ma nu v q =>
  obtain ⟨kv, ks, h1, _⟩ := laidT_mk.1 h;funext j
  unfold beg spec
  rw [h1];dsimp only;by_cases h4 : k = 4
  · rw [if_pos h4]; dsimp only; rw [h1]; dsimp only;rw [if_neg (by omega), if_pos h4, mM_mk, if_neg (by omega), if_neg (by omega), if_neg (by omega), if_neg (by omega), if_neg (by omega), if_neg (by omega), if_pos h4]
  · rw [if_neg h4]; dsimp only; rw [h1]; dsimp only;by_cases h2 : k = 2
    · rw [if_pos h2, mM_mk, if_neg (by omega), if_neg (by omega), if_neg (by omega), if_pos h2]; rfl
    · rw [if_neg h2, if_neg h4]
def round (s : Sta) (to : Nat) : Sta := ⟨s.a, s.p, max (s.mi - 1) 0, if 0 < s.ma then s.ma - 1 else s.ma, to⟩
end Go.Proofs.YtjdmdpjbijkjaaaGreat

namespace Go.Proofs.YtjdmdpjbijkjaaaGreat
open Go Go.RowKit
theorem g_callNew {P : Program} {N : Nat} {R : Regs} {Q : Exit → Act → World → Prop} {ops : Array Oper} {rest : List Oper} {W0 : World} {F : List Nat} {L : List Ent} {ty : TypeId} {pos : String} {af : Array Edge} {gd : Option (Nat × Bool)} {α : Type} {d : Nat} {f : FuncId} {xs : List Operand} {ats : Array TypeId} {vs : List Value} (r : α → Value) (L1 : α → List Ent)
    (hw : want ops R ⟨some d, .call { callee := .value (.func f), args := xs.toArray, argTypes := ats }, ty, pos, af, gd⟩ = some true) (hN : Nat.blt d N = true)
    (hx : xs.mapM (ev R) = some vs) (hf : ∀ args w, (callFunc f args).run P w = .ok (.enter f args) w)
    (hc : ∀ w, St W0 F L w → Calls P f vs.toArray w (fun e w' => ∃ x, e = .returned (r x) ∧ St w [] (L1 x) w'))
    (h : ∀ x, G N ((d, r x) :: R) (St W0 F (L1 x ++ L)) (wpList P ops Q rest)) : G N R (St W0 F L) (wpList P ops Q (⟨some d, .call { callee := .value (.func f), args := xs.toArray, argTypes := ats }, ty, pos, af, gd⟩ :: rest)) :=
  g_call r (fun x => St W0 F (L1 x ++ L)) hw hN hx hf (fun w hS => (hc w hS).mono fun _ _ ⟨x, he, hb⟩ => ⟨x, he, hS.then hb⟩) h
section
variable {P : Program} {N : Nat} {R : Regs} {W0 : World} {F : List Nat} {L : List Ent} {X : Act → World → Prop} {k : Int} {s : Nat → Int} {mi ma nu : Int} {v : Value} {kids ts : List MT}
end
mutual
def GoodT : MT → Int → Int → Prop
  | .mk k _ mi ma nu _ kids, g, g' =>
    ((k = 1 ∨ k = 6 ∨ k = 7) ∧ kids.length = 0 ∧ g' = g) ∨
    ((k = 2 ∨ k = 3) ∧ 1 < kids.length ∧ GoodL kids g g') ∨
    (k = 5 ∧ kids.length = 1 ∧ nu = g + 1 ∧ g + 1 ≤ 9 ∧ GoodL kids (g + 1) g') ∨
    (k = 4 ∧ kids.length = 1 ∧ 0 ≤ mi ∧ mi ≤ 20 ∧ ma ≤ 20 ∧ (ma = -1 ∨ mi ≤ ma) ∧ OneK kids ∧ GoodL kids g g')
def GoodL : List MT → Int → Int → Prop
  | [], g, g' => g' = g
  | t :: ts, g, g' => ∃ g1, GoodT t g g1 ∧ GoodL ts g1 g'
def OneK : List MT → Prop
  | [.mk k _ _ _ _ _ _] => k = 1 ∨ k = 5
  | _ => True
end
theorem GoodT_mk {k : Int} {s : Nat → Int} {mi ma nu : Int} {v : Value} {kids : List MT} {g g' : Int} : GoodT (.mk k s mi ma nu v kids) g g' ↔
    ((k = 1 ∨ k = 6 ∨ k = 7) ∧ kids.length = 0 ∧ g' = g) ∨ ((k = 2 ∨ k = 3) ∧ 1 < kids.length ∧ GoodL kids g g') ∨ (k = 5 ∧ kids.length = 1 ∧ nu = g + 1 ∧ g + 1 ≤ 9 ∧ GoodL kids (g + 1) g') ∨
    (k = 4 ∧ kids.length = 1 ∧ 0 ≤ mi ∧ mi ≤ 20 ∧ ma ≤ 20 ∧ (ma = -1 ∨ mi ≤ ma) ∧ OneK kids ∧ GoodL kids g g') := by rw [GoodT]
theorem GoodL_nil {g g' : Int} : GoodL [] g g' ↔ g' = g := by rw [GoodL]
theorem GoodL_cons {t : MT} {ts : List MT} {g g' : Int} : GoodL (t :: ts) g g' ↔ ∃ g1, GoodT t g g1 ∧ GoodL ts g1 g' := by rw [GoodL]
mutual
theorem GoodT_le : ∀ (t : MT) (g g' : Int), GoodT t g g' → g ≤ g'
  | .mk k s mi ma nu v kids, g, g', h => by
    rcases GoodT_mk.1 h with ⟨_, _, h⟩ | ⟨_, _, h⟩ | ⟨_, _, _, _, h⟩ | ⟨_, _, _, _, _, _, _, h⟩
    · omega
    · exact GoodL_le kids g g' h
    · have := GoodL_le kids (g + 1) g' h; omega
    · exact GoodL_le kids g g' h
theorem GoodL_le : ∀ (ts : List MT) (g g' : Int), GoodL ts g g' → g ≤ g'
  | [], g, g', h => by rw [GoodL_nil.1 h]; exact Int.le_refl _
  | t :: ts, g, g', h => by
    obtain ⟨g1, h1, h2⟩ := GoodL_cons.1 h;have := GoodT_le t g g1 h1;have := GoodL_le ts g1 g' h2;omega
end
mutual
theorem GoodT_max : ∀ (t : MT) (g g' : Int), GoodT t g g' → g ≤ 9 → g' ≤ 9
  | .mk k s mi ma nu v kids, g, g', h, h9 => by
    rcases GoodT_mk.1 h with ⟨_, _, h⟩ | ⟨_, _, h⟩ | ⟨_, _, _, h10, h⟩ | ⟨_, _, _, _, _, _, _, h⟩
    · omega
    · exact GoodL_max kids g g' h h9
    · exact GoodL_max kids (g + 1) g' h h10
    · exact GoodL_max kids g g' h h9
theorem GoodL_max : ∀ (ts : List MT) (g g' : Int), GoodL ts g g' → g ≤ 9 → g' ≤ 9
  | [], g, g', h, h9 => by rw [GoodL_nil.1 h]; exact h9
  | t :: ts, g, g', h, h9 => by
    obtain ⟨g1, h1, h2⟩ := GoodL_cons.1 h;exact GoodL_max ts g1 g' h2 (GoodT_max t g g1 h1 h9)
end
def nm4 (s : Nat → Int) : Nat → Int := fun i => if i < 4 then s i else 0
mutual
def er : MT → MT
  | .mk k s mi ma nu _ q => .mk k (nm4 s) mi ma nu nilS (erL q)
def erL : List MT → List MT
  | [] => []
  | t :: q => er t :: erL q
end
theorem er_mk {k : Int} {s : Nat → Int} {mi ma nu : Int} {v : Value} {q : List MT} : er (.mk k s mi ma nu v q) = .mk k (nm4 s) mi ma nu nilS (erL q) := by rw [er]
theorem erL_nil : erL [] = [] := by rw [erL]
theorem erL_cons {t : MT} {q : List MT} : erL (t :: q) = er t :: erL q := by rw [erL]
theorem erL_map (q : List MT) : erL q = q.map er := by
  induction q with
  | nil => rw [erL_nil]; rfl
  | cons t q ih => rw [erL_cons, ih]; rfl
theorem erL_append (a b : List MT) : erL (a ++ b) = erL a ++ erL b := by simp [erL_map]
theorem erL_len {a b : List MT} (h : erL a = erL b) : a.length = b.length := by
  have := congrArg List.length h;simpa [erL_map] using this
theorem isK_2 {ts : List Tok} {k : Nat} {q : Int} {t : Tok} (h : ts[k]? = some t) (hq : t.k ≠ q) : isK ts k q = false := by rw [isK_of h]; exact decide_eq_false hq
theorem atom_tok {ts : List Tok} {k : Nat} {g : Int} {n : MT} {k1 : Nat} {g1 : Int} {b1 : Bool} (h : RAtom ts k g n k1 g1 b1) : ∃ t, ts[k]? = some t ∧ t.k ≠ 5 ∧ t.k ≠ 6 := by
  cases h with
  | set h1 h2 => exact ⟨_, h1, by omega, by omega⟩
  | times h1 h2 => exact ⟨_, h1, by omega, by omega⟩
  | group h1 h2 h3 _ _ _ => exact ⟨_, h1, h2, h3⟩
theorem piece_tok {ts : List Tok} {k : Nat} {g : Int} {n : MT} {k1 : Nat} {g1 : Int} {b1 : Bool} (h : RPiece ts k g n k1 g1 b1) : ∃ t, ts[k]? = some t ∧ t.k ≠ 5 ∧ t.k ≠ 6 := by
  cases h with
  | plain h _ => exact atom_tok h
  | rep h _ _ => exact atom_tok h
theorem tok_eq {ts : List Tok} {k : Nat} {t u : Tok} (h : ts[k]? = some t) (h2 : ts[k]? = some u) : t = u := Option.some.inj (h.symm.trans h2)
theorem stop_no {ts : List Tok} {k : Nat} {b : Bool} {t : Tok} (hs : ts.length ≤ k ∨ b = true ∨ isK ts k 3 = true ∨ isK ts k 2 = true) (hb : b = false) (ht : ts[k]? = some t) (h3 : t.k ≠ 3) (h2 : t.k ≠ 2) : False := by
  rcases hs with h | h | h | h
  · rw [List.getElem?_eq_none h] at ht; cases ht
  · rw [hb] at h; cases h
  · exact h3 (isK_tok h ht)
  · exact h2 (isK_tok h ht)
theorem stop_no2 {ts : List Tok} {k : Nat} {b : Bool} {t : Tok} (hs : ts.length ≤ k ∨ b = true ∨ isK ts k 3 = true ∨ isK ts k 2 = true) (hb : b = false) (ht : ts[k]? = some t) (h3 : isK ts k 3 = false) (h2 : isK ts k 2 = false) : False :=
  stop_no hs hb ht (fun h => by rw [isK_of ht, decide_eq_true h] at h3; cases h3) (fun h => by rw [isK_of ht, decide_eq_true h] at h2; cases h2)
theorem rdet {ts : List Tok} {k : Nat} {g : Int} {b : Bool} {t : MT} {k1 : Nat} {g1 : Int} {b1 : Bool} (h : RAll ts k g b t k1 g1 b1) : ∀ t' k' g' b', RAll ts k g b t' k' g' b' → er t' = er t ∧ k' = k1 ∧ g' = g1 ∧ b' = b1 := by
  refine RAll.rec (ts := ts) (motive_1 := fun k g b t k1 g1 b1 _ => ∀ t' k' g' b', RAll ts k g b t' k' g' b' → er t' = er t ∧ k' = k1 ∧ g' = g1 ∧ b' = b1)
    (motive_2 := fun k g b rows rows' k1 g1 b1 _ => ∀ r r' k' g' b', erL r = erL rows → RBars ts k g b r r' k' g' b' → erL r' = erL rows' ∧ k' = k1 ∧ g' = g1 ∧ b' = b1)
    (motive_3 := fun k g b t k1 g1 b1 _ => ∀ t' k' g' b', RRow ts k g b t' k' g' b' → er t' = er t ∧ k' = k1 ∧ g' = g1 ∧ b' = b1)
    (motive_4 := fun k g b ms ms' k1 g1 b1 _ => ∀ m m' k' g' b', erL m = erL ms → RPcs ts k g b m m' k' g' b' → erL m' = erL ms' ∧ k' = k1 ∧ g' = g1 ∧ b' = b1)
    (motive_5 := fun k g n k1 g1 b1 _ => ∀ n' k' g' b', RPiece ts k g n' k' g' b' → er n' = er n ∧ k' = k1 ∧ g' = g1 ∧ b' = b1)
    (motive_6 := fun k g n k1 g1 b1 _ => ∀ n' k' g' b', RAtom ts k g n' k' g' b' → er n' = er n ∧ k' = k1 ∧ g' = g1 ∧ b' = b1)
    (motive_7 := fun k g n k1 g1 b1 _ => ∀ n' k' g' b', RGrp ts k g n' k' g' b' → er n' = er n ∧ k' = k1 ∧ g' = g1 ∧ b' = b1) ?_ ?_ ?_ ?_ ?_ ?_ ?_ ?_ ?_ ?_ ?_ ?_ ?_ ?_ ?_ ?_ ?_ h
  · intro k g b t k1 g1 b1 r k2 g2 b2 _ _ ih1 ih2 t' k' g' b' h;cases h with
    | one h1 h2 =>
      obtain ⟨e, rfl, rfl, rfl⟩ := ih1 _ _ _ _ h1;obtain ⟨e2, h3⟩ := ih2 _ _ _ _ _ (by rw [erL_cons, erL_cons, e]) h2;rw [erL_cons, erL_cons] at e2;injection e2 with e2 _
      exact ⟨e2, h3⟩
    | many h1 h2 hne =>
      obtain ⟨e, rfl, rfl, rfl⟩ := ih1 _ _ _ _ h1;obtain ⟨e2, h3⟩ := ih2 _ _ _ _ _ (by rw [erL_cons, erL_cons, e]) h2;exact absurd (erL_len e2) hne
  · intro k g b t k1 g1 b1 rows v k2 g2 b2 _ _ hne ih1 ih2 t' k' g' b' h;cases h with
    | one h1 h2 =>
      obtain ⟨e, rfl, rfl, rfl⟩ := ih1 _ _ _ _ h1;obtain ⟨e2, h3⟩ := ih2 _ _ _ _ _ (by rw [erL_cons, erL_cons, e]) h2;exact absurd (erL_len e2).symm hne
    | many h1 h2 _ =>
      obtain ⟨e, rfl, rfl, rfl⟩ := ih1 _ _ _ _ h1;obtain ⟨e2, h3⟩ := ih2 _ _ _ _ _ (by rw [erL_cons, erL_cons, e]) h2;exact ⟨by rw [er_mk, er_mk, e2], h3⟩
  · intro k g b rows hs r r' k' g' b' e h;cases h with
    | stop _ => exact ⟨e, rfl, rfl, rfl⟩
    | more h1 _ _ => rcases hs with q | q <;> simp_all
  · intro k g t k1 g1 b1 rows rows' k2 g2 b2 h3 _ _ ih1 ih2 r r' k' g' b' e h;cases h with
    | stop hs => rcases hs with q | q <;> simp_all
    | more _ h1 h2 =>
      obtain ⟨e1, rfl, rfl, rfl⟩ := ih1 _ _ _ _ h1;exact ih2 _ _ _ _ _ (by rw [erL_append, erL_append, e, erL_cons, erL_cons, e1]) h2
  · intro k g b t k1 g1 b1 _ ih t' k' g' b' h;cases h with
    | one h1 =>
      obtain ⟨e, h2⟩ := ih _ _ _ _ _ rfl h1;rw [erL_cons, erL_cons] at e;injection e with e _
      exact ⟨e, h2⟩
    | many h1 hne =>
      obtain ⟨e, h2⟩ := ih _ _ _ _ _ rfl h1;exact absurd (erL_len e) hne
  · intro k g b ms v k1 g1 b1 _ hne ih t' k' g' b' h;cases h with
    | one h1 =>
      obtain ⟨e, h2⟩ := ih _ _ _ _ _ rfl h1;exact absurd (erL_len e).symm hne
    | many h1 _ =>
      obtain ⟨e, rfl, rfl, rfl⟩ := ih _ _ _ _ _ rfl h1;exact ⟨by rw [er_mk, er_mk, e], rfl, rfl, by rw [erL_len e]⟩
  · intro k g b ms hs m m' k' g' b' e h;cases h with
    | stop _ => exact ⟨e, rfl, rfl, rfl⟩
    | anchor h1 h2 _ => exact (stop_no hs rfl h1 (by omega) (by omega)).elim
    | piece h3 h2 hp _ => obtain ⟨t, ht, _⟩ := piece_tok hp; exact (stop_no2 hs rfl ht h3 h2).elim
  · intro k g t q ms ms' k2 g2 b2 ht hq _ ih m m' k' g' b' e h;cases h with
    | stop hs => exact (stop_no hs rfl ht (by omega) (by omega)).elim
    | @anchor _ _ t' q' _ _ _ _ _ h1 h2 h3 =>
      cases tok_eq ht h1;obtain rfl : q = q' := by omega
      exact ih _ _ _ _ _ (by rw [erL_append, erL_append, e]) h3
    | piece _ _ hp _ => obtain ⟨u, hu, h5, h6⟩ := piece_tok hp; cases tok_eq ht hu; omega
  · intro k g n k1 g1 b1 ms ms' k2 g2 b2 h3 h2 hp _ ih1 ih2 m m' k' g' b' e h;cases h with
    | stop hs => obtain ⟨t, ht, _⟩ := piece_tok hp; exact (stop_no2 hs rfl ht h3 h2).elim
    | anchor q1 q2 _ => obtain ⟨u, hu, h5, h6⟩ := piece_tok hp; cases tok_eq q1 hu; omega
    | piece _ _ hp2 h4 =>
      obtain ⟨e1, rfl, rfl, rfl⟩ := ih1 _ _ _ _ hp2;exact ih2 _ _ _ _ _ (by rw [erL_append, erL_append, e, erL_cons, erL_cons, e1]) h4
  · intro k g n k1 g1 b1 _ h4 ih n' k' g' b' h;cases h with
    | plain h1 _ => exact ih _ _ _ _ h1
    | rep h1 hu hk =>
      obtain ⟨_, rfl, rfl, rfl⟩ := ih _ _ _ _ h1;rw [isK_of hu, decide_eq_true hk] at h4; cases h4
  · intro k g n k1 g1 b1 u v _ hu hk ih n' k' g' b' h;cases h with
    | plain h1 h4 =>
      obtain ⟨_, rfl, rfl, rfl⟩ := ih _ _ _ _ h1;rw [isK_of hu, decide_eq_true hk] at h4; cases h4
    | rep h1 hu2 _ =>
      obtain ⟨e, rfl, rfl, rfl⟩ := ih _ _ _ _ h1;cases tok_eq hu hu2;exact ⟨by rw [er_mk, er_mk, erL_cons, erL_cons, e], rfl, rfl, rfl⟩
  · intro k g t ht hk n' k' g' b' h;cases h with
    | set h1 _ => cases tok_eq ht h1; exact ⟨rfl, rfl, rfl, rfl⟩
    | times h1 h2 => cases tok_eq ht h1; omega
    | group h1 _ _ _ h2 _ => cases tok_eq ht h1; omega
  · intro k g t ht hk n' k' g' b' h;cases h with
    | set h1 h2 => cases tok_eq ht h1; omega
    | times h1 _ => exact ⟨rfl, rfl, rfl, rfl⟩
    | group h1 _ _ h2 _ _ => cases tok_eq ht h1; omega
  · intro k g t n k1 g1 b1 ht _ _ h4 h0 _ ih n' k' g' b' h;cases h with
    | set h1 h2 => cases tok_eq ht h1; omega
    | times h1 h2 => cases tok_eq ht h1; omega
    | group _ _ _ _ _ h2 => exact ih _ _ _ _ h2
  · intro k g h9 n' k' g' b' h;cases h with
    | full _ => exact ⟨rfl, rfl, rfl, rfl⟩
    | gone h1 _ _ => omega
    | shut h1 _ _ => omega
  · intro k g t k1 g1 b1 v h9 _ h2 ih n' k' g' b' h;cases h with
    | full h1 => omega
    | gone _ h1 _ =>
      obtain ⟨e, rfl, rfl, rfl⟩ := ih _ _ _ _ h1;exact ⟨by rw [er_mk, er_mk, erL_cons, erL_cons, e], rfl, rfl, rfl⟩
    | shut _ h1 h3 =>
      obtain ⟨e, rfl, rfl, rfl⟩ := ih _ _ _ _ h1;rw [h2] at h3; cases h3
  · intro k g t k1 g1 b1 v h9 _ h2 ih n' k' g' b' h;cases h with
    | full h1 => omega
    | gone _ h1 h3 =>
      obtain ⟨e, rfl, rfl, rfl⟩ := ih _ _ _ _ h1;rw [h2] at h3; cases h3
    | shut _ h1 _ =>
      obtain ⟨e, rfl, rfl, rfl⟩ := ih _ _ _ _ h1;exact ⟨by rw [er_mk, er_mk, erL_cons, erL_cons, e], rfl, rfl, rfl⟩
theorem wL_app : ∀ (a b : List MT), wL (a ++ b) = wL a + wL b
  | [], b => by rw [wL]; simp
  | t :: a, b => by rw [List.cons_append, wL, wL, wL_app a b]; omega
theorem wL_one (t : MT) : wL [t] = wT t := by rw [wL, wL]; rfl
theorem isK_in {ts : List Tok} {k : Nat} {q : Int} (h : isK ts k q = true) : k < ts.length := by
  by_cases hk : k < ts.length
  · exact hk
  · rw [isK_end (by omega)] at h; cases h
theorem tok_in {ts : List Tok} {k : Nat} {t : Tok} (h : ts[k]? = some t) : k < ts.length := (List.getElem?_eq_some_iff.1 h).1
theorem rall_size {ts : List Tok} {k : Nat} {g : Int} {b : Bool} {t : MT} {k' : Nat} {g' : Int} {b' : Bool} (h : RAll ts k g b t k' g' b') : k ≤ ts.length → k ≤ k' ∧ k' ≤ ts.length ∧ wT t + 3 * k ≤ 3 * k' + 2 := by
  refine RAll.rec (ts := ts) (motive_1 := fun k _ _ t k' _ _ _ => k ≤ ts.length → k ≤ k' ∧ k' ≤ ts.length ∧ wT t + 3 * k ≤ 3 * k' + 2)
    (motive_2 := fun k _ _ rows rows' k' _ _ _ => k ≤ ts.length → k ≤ k' ∧ k' ≤ ts.length ∧ wL rows' + 3 * k ≤ 3 * k' + wL rows)
    (motive_3 := fun k _ _ t k' _ _ _ => k ≤ ts.length → k ≤ k' ∧ k' ≤ ts.length ∧ wT t + 3 * k ≤ 3 * k' + 1)
    (motive_4 := fun k _ _ ms ms' k' _ _ _ => k ≤ ts.length → k ≤ k' ∧ k' ≤ ts.length ∧ wL ms' + 3 * k ≤ 3 * k' + wL ms)
    (motive_5 := fun k _ n k' _ _ _ => k ≤ ts.length → k ≤ k' ∧ k' ≤ ts.length ∧ wT n + 3 * k ≤ 3 * k')
    (motive_6 := fun k _ n k' _ _ _ => k ≤ ts.length → k ≤ k' ∧ k' ≤ ts.length ∧ wT n + 3 * k ≤ 3 * k')
    (motive_7 := fun k _ n k' _ _ _ => k ≤ ts.length → k ≤ k' ∧ k' ≤ ts.length ∧ wT n + 3 * k ≤ 3 * k' + 3) ?_ ?_ ?_ ?_ ?_ ?_ ?_ ?_ ?_ ?_ ?_ ?_ ?_ ?_ ?_ ?_ ?_ h
  · intro k g b t k1 g1 b1 r k2 g2 b2 _ _ ih1 ih2 hk;have h1 := ih1 hk;have h2 := ih2 h1.2.1;rw [wL_one, wL_one] at h2; omega
  · intro k g b t k1 g1 b1 rows v k2 g2 b2 _ _ _ ih1 ih2 hk;have h1 := ih1 hk;have h2 := ih2 h1.2.1;rw [wL_one] at h2; rw [wT_mk]; omega
  · intro k g b rows _ hk; omega
  · intro k g t k1 g1 b1 rows rows' k2 g2 b2 h3 _ _ ih1 ih2 hk;have := isK_in h3;have h1 := ih1 (by omega);have h2 := ih2 h1.2.1;rw [wL_app, wL_one] at h2; omega
  · intro k g b t k1 g1 b1 _ ih hk;have h1 := ih hk;rw [wL_one, wL] at h1; omega
  · intro k g b ms v k1 g1 b1 _ _ ih hk;have h1 := ih hk;rw [wL] at h1; rw [wT_mk]; omega
  · intro k g b ms _ hk; omega
  · intro k g t q ms ms' k2 g2 b2 ht _ _ ih hk;have := tok_in ht;have h1 := ih (by omega);rw [wL_app, wL_one, wT_mk, wL] at h1; omega
  · intro k g n k1 g1 b1 ms ms' k2 g2 b2 _ _ _ _ ih1 ih2 hk;have h1 := ih1 hk;have h2 := ih2 h1.2.1;rw [wL_app, wL_one] at h2; omega
  · intro k g n k1 g1 b1 _ _ ih hk; exact ih hk
  · intro k g n k1 g1 b1 u v _ hu _ ih hk;have := tok_in hu;have h1 := ih hk;rw [wT_mk, wL_one]; omega
  · intro k g t ht _ hk;have := tok_in ht;rw [wT_mk, wL]; omega
  · intro k g t ht _ hk;have := tok_in ht;rw [wT_mk, wL]; omega
  · intro k g t n k1 g1 b1 ht _ _ _ _ _ ih hk;have := tok_in ht;have h1 := ih (by omega);omega
  · intro k g _ hk; rw [wT_mk, wL]; omega
  · intro k g t k1 g1 b1 v _ _ _ ih hk;have h1 := ih hk;rw [wT_mk, wL_one]; omega
  · intro k g t k1 g1 b1 v _ _ h2 ih hk;have := isK_in h2;have h1 := ih hk;rw [wT_mk, wL_one]; omega
theorem LStep_le {ext : Bool} {l : List UInt8} {ts : List Tok} {d : Int} {o : Option (List UInt8 × List Tok × Int)} (h : LStep ext l ts d o) : ∀ r ts' d', o = some (r, ts', d') → ts'.length = ts.length + 1 ∧ r.length + 1 ≤ l.length := by
  intro r ts' d' ho;refine ⟨LStep_len h r ts' d' ho, ?_⟩;cases h with
  | esc h he => cases ho; have := (EscR_len he).2.1; simp; omega
  | esc0 h he => cases ho
  | brack h hn => cases ho; simp
  | brack0 h => cases ho
  | begins h ha => cases ho; simp
  | ends h ha => cases ho; simp
  | lits h he ha => cases ho; simp
  | iv h he hi => cases ho; have := IvR_len hi; simp; omega
  | iv0 h he hi => cases ho
  | plain h e => cases ho; simp
theorem Lex_le {ext : Bool} {l : List UInt8} {ts : List Tok} {d : Int} {o : Option (List Tok)} (h : Lex ext l ts d o) : ∀ ts', o = some ts' → ts'.length ≤ ts.length + l.length := by
  induction h with
  | done h => intro ts' q; cases q; simp
  | deep h => intro ts' q; cases q
  | fail h => intro ts' q; cases q
  | neg h hd => intro ts' q; cases q
  | next h hd ho ih =>
    intro ts' q;have h1 := LStep_le h _ _ _ rfl;have h2 := ih ts' q;omega
theorem parX_size {ext : Bool} {l : List UInt8} {x : MT × Int} (h : parX ext l x) : wT x.1 ≤ 1000 := by
  rcases h with ⟨h, _⟩ | ⟨h0, ts, k, g, hl, hne, h2, hr, _⟩
  · rw [h]; unfold zMT; rw [wT_mk, wL]; decide
  · have h3 := (Lex_le hl ts rfl);have h4 := rall_size hr (Nat.zero_le _);simp only [List.length_nil] at h3;omega
theorem parX_is {ext : Bool} {l : List UInt8} {x : MT × Int} {ts : List Tok} {t0 : MT} {k : Nat} {g : Int} (h : parX ext l x) (hc : ∀ c, c ∈ l → okC c) (hne : l ≠ []) (h2 : l.length ≤ 200) (ht : tokF (tokX ext) l [] 0 = some ts) (hr : RAll ts 0 0 false t0 k g false) (hk : ts.length ≤ k) : x.2 = 0 ∧ er x.1 = er t0 := by
  rcases parX_R hc h with ⟨_, h | h | h | ⟨ts', t, k', g', b, h1, h3, h4⟩⟩ | ⟨h0, ts', k', g', h1, _, _, h3, _⟩
  · exact absurd h hne
  · omega
  · rw [ht] at h; cases h
  · rw [ht] at h1;obtain rfl := Option.some.inj h1;obtain ⟨_, e1, _, e2⟩ := rdet hr _ _ _ _ h3;rcases h4 with q | q
    · rw [e2] at q; cases q
    · omega
  · rw [ht] at h1;obtain rfl := Option.some.inj h1;exact ⟨h0, (rdet hr _ _ _ _ h3).1⟩
theorem hasB_nm (s : Nat → Int) (c : UInt8) : hasB (nm4 s) c.toNat = hasB s c.toNat := by
  unfold hasB nm4
  have := c.toNat_lt;rw [if_pos (by omega)]
mutual
theorem mM_er (x : Tx) : ∀ (t : MT) (i j : Nat), mM x (er t) i j = mM x t i j
  | .mk k s mi ma nu v q, i, j => by
    rw [er_mk, mM_mk, mM_mk, mRow_er x q, mAny_er x q, mKid_er x q];have e2 : (fun a b => mKid x (erL q) a b) = fun a b => mKid x q a b := by funext a b; exact mKid_er x q a b
    rw [e2];congr 1
    congr 1
    generalize x.l[i]? = o
    cases o with
    | none => rfl
    | some c => exact hasB_nm s c
theorem mRow_er (x : Tx) : ∀ (q : List MT) (i j : Nat), mRow x (erL q) i j = mRow x q i j
  | [], i, j => by rw [erL_nil]
  | t :: q, i, j => by
    rw [erL_cons, mRow_cons, mRow_cons];congr 1
    funext k
    rw [mM_er x t, mRow_er x q]
theorem mAny_er (x : Tx) : ∀ (q : List MT) (i j : Nat), mAny x (erL q) i j = mAny x q i j
  | [], i, j => by rw [erL_nil]
  | t :: q, i, j => by rw [erL_cons, mAny_cons, mAny_cons, mM_er x t, mAny_er x q]
theorem mKid_er (x : Tx) : ∀ (q : List MT) (i j : Nat), mKid x (erL q) i j = mKid x q i j
  | [], i, j => by rw [erL_nil]
  | t :: q, i, j => by rw [erL_cons, mKid_cons, mKid_cons, mM_er x t]
end
end Go.Proofs.YtjdmdpjbijkjaaaGreat

namespace Go.Proofs.YtjdmdpjbijkjaaaGreat
open Go Go.RowKit
set_option maxRecDepth 100000 in
theorem has_any (c : Nat → Bool) (g W i : Nat) (hi : i < 64 * W) (hW : W ≤ 1000000) (w : World) (hr : RdSl w (some ⟨g, 0, none⟩) W 1 (fun k _ => .int .u64 (wd c k : Int))) :
    Calls Tryz.prog 79 #[slW W g, .int .i64 (i : Int)] w fun e w' => e = .returned (.bool (c i)) ∧ Below w.heap.size w w' := by
 refine fn_intro Tryz.func79 rfl Tryz.ntmps79 rfl rfl (s_ (o_ ?_));refine xg 1 [] rfl rfl (ntso_ ?_);refine xg 2 [] rfl rfl (g_val (v := .int .i64 ((i / 64 : Nat) : Int)) rfl rfl rfl (j_sh6 rfl) ?_);refine g_val (v := .pointer (some (((some ⟨g, 0, none⟩ : Option Addr).getD default).add (i / 64)))) rfl rfl rfl (y_val (y_rdAddr hr rfl rfl Tryz.underlying104 Tryz.sizeOf26 (by omega) (by omega)) (by rw [Int.toNat_natCast, Nat.mul_one])) (g_val (v := .int .u64 (wd c (i / 64) : Int)) rfl rfl rfl (y_val (y_rdFieldF (i := ((i / 64 : Nat) : Int)) (j := 0) hr List.not_mem_nil rfl (by rw [Int.toNat_natCast]; omega) Tryz.isAgg26 (by omega) (by omega) (by decide)) rfl) ?_);refine xg 1 [] rfl rfl (g_val (v := .int .i64 ((i % 64 : Nat) : Int)) rfl rfl rfl (j_an63 (by omega) rfl) ?_);refine g_val (v := .int .u64 ((wd c (i / 64) / 2 ^ (i % 64) : Nat) : Int)) rfl rfl rfl (j_shr (by omega) rfl rfl) (g_val (v := .int .u64 ((wd c (i / 64) / 2 ^ (i % 64) % 2 : Nat) : Int)) rfl rfl rfl (j_an1 (Nat.lt_of_le_of_lt (Nat.div_le_self _ _) (wd_lt _ _)) rfl) ?_);refine g_val (v := .bool (c i)) rfl rfl rfl (y_val (y_ieq rfl rfl) (by rw [wd_has]; cases c i <;> rfl)) ?_
 refine xg 1 [] rfl rfl (n_ (t_ (g_ret ?_)));refine g_end1 Tryz.results79 rfl ?_;exact fun w hS => ⟨rfl, hS.below⟩
theorem andU63 : ∀ c : Fin 256, IntKind.u8.wrap ((BitVec.ofInt IntKind.u8.bits (c.val : Int) &&& BitVec.ofInt IntKind.u8.bits 63).toNat : Int) = ((c.val % 64 : Nat) : Int) := by decide +kernel
theorem and1I (a : Int) : IntKind.u64.wrap ((BitVec.ofInt IntKind.u64.bits a &&& BitVec.ofInt IntKind.u64.bits 1).toNat : Int) = a % 2 := by
  have e : (BitVec.ofInt 64 a &&& BitVec.ofInt 64 1).toNat = (a % 18446744073709551616).toNat % 2 := by
    rw [BitVec.toNat_and, show (BitVec.ofInt 64 1).toNat = 2 ^ 1 - 1 from rfl, Nat.and_two_pow_sub_one_eq_mod, BitVec.toNat_ofInt]; rfl
  show IntKind.u64.wrap ((BitVec.ofInt 64 a &&& BitVec.ofInt 64 1).toNat : Int) = a % 2
  rw [e, u64_wrap (by omega)];omega
set_option maxRecDepth 100000 in
theorem chas_any (s : Nat → Int) (c : Nat) (hc : c ≤ 255) (w : World) :
    Calls Tryz.prog 73 #[.agg (s4C s).toArray, .int .u8 (c : Int)] w fun e w' => e = .returned (.bool (hasB s c)) ∧ Below w.heap.size w w' := by
 refine fn_intro Tryz.func73 rfl Tryz.ntmps73 rfl rfl (s_ (o_ ?_));refine g_box rfl rfl rfl rfl (fun b1 => (xg 1 [] rfl rfl ?_));refine ntso_ (xg 1 [] rfl rfl ?_);refine g_val (v := .int .u8 ((c / 64 : Nat) : Int)) rfl rfl rfl (y_val (y_shr rfl rfl (by decide)) (by rw [show ((c : Int)).fdiv (2 ^ min (6 : Int).toNat IntKind.u8.bits) = ((c / 64 : Nat) : Int) from fdiv_nat c 64])) (g_val rfl rfl rfl (y_idxArr (m := c / 64) rfl rfl Tryz.underlying28 Tryz.sizeOf26 (by omega) (by omega) (by omega)) ?_);refine g_val (v := .int .u64 (s (c / 64))) rfl rfl rfl (y_ld (off := c / 64) 0 rfl Tryz.isAgg26 rfl (s4_get _ _ (by omega))) (xg 1 [] rfl rfl ?_);refine g_val (v := .int .u8 ((c % 64 : Nat) : Int)) rfl rfl rfl (y_val (y_and rfl rfl) (andU63 ⟨c, by omega⟩ ▸ rfl)) (g_val (v := .int .u64 ((s (c / 64)).fdiv (2 ^ (c % 64)))) rfl rfl rfl (y_val (y_shr rfl rfl (by omega)) (by rw [Int.toNat_natCast, show IntKind.u64.bits = 64 from rfl, Nat.min_eq_left (by omega)])) ?_);refine g_val (v := .int .u64 ((s (c / 64)).fdiv (2 ^ (c % 64)) % 2)) rfl rfl rfl (y_val (y_and rfl rfl) (by rw [and1I])) (g_val (v := .bool (hasB s c)) rfl rfl rfl (y_ieq rfl rfl) ?_);refine xg 1 [] rfl rfl (n_ (t_ (g_ret ?_)));refine g_end1 Tryz.results73 rfl ?_;exact fun w hS => ⟨rfl, hS.below⟩
theorem m_chas (s : Nat → Int) (c : Nat) (hc : c ≤ 255) : Meets Tryz.prog (fun _ => True) 73 [.agg (s4C s).toArray, .int .u8 (c : Int)] (fun _ : Unit => .bool (hasB s c)) [] (fun _ => []) := meets1 Tryz.call73 (fun w hI => chas_any s c hc w)
set_option maxRecDepth 100000 in
theorem add_any (c : Nat → Bool) (g W i : Nat) (hi : i < 64 * W) (hW : W ≤ 1000000) (F : List Nat) (w : World) (hS0 : St w F [.row 26 1 (slW W g) W (wcs W c)] w) :
    Calls Tryz.prog 74 #[slW W g, .int .i64 (i : Int)] w fun e w' => ∃ _x : Unit, e = .returned (.tuple #[]) ∧ St w F [.row 26 1 (slW W g) W (wcs W (addP c i))] w' := by
 refine fn_intro_own Tryz.func74 rfl Tryz.ntmps74 rfl rfl hS0 (k_go [] rfl (by kernel_rfl) (fun _ _ _ _ _ h => h) fun hQ => ?_);refine k_x 0 [] [] hQ (by kernel_rfl) rfl rfl rfl rfl rfl rfl (k_x 1 [] [] hQ (by kernel_rfl) rfl rfl rfl rfl rfl rfl ?_);refine k_take 2 rfl (by kernel_rfl) hQ rfl rfl rfl (zpk [] rfl) (j_sh6 rfl) (k_take 3 rfl (by kernel_rfl) hQ rfl rfl rfl (zpk [] rfl) (y_idxAddr (m := i / 64) rfl rfl Tryz.underlying104 Tryz.sizeOf26 (by omega) (by omega) (by omega)) ?_);refine k_x 5 [] [] hQ (by kernel_rfl) rfl rfl rfl rfl rfl rfl (k_take 6 rfl (by kernel_rfl) hQ rfl rfl rfl (zpk [] rfl) (j_an63 (by omega) rfl) ?_);refine k_take 7 rfl (by kernel_rfl) hQ rfl rfl rfl (zpk [] rfl) (j_shl (n := i % 64) (by omega) rfl) (k_one 4 (by kernel_rfl) ?_);refine k_op 4 rfl (g_val (v := .int .u64 (wd c (i / 64) : Int)) rfl rfl rfl (y_ldR (off := i / 64) 0 rfl Tryz.isAgg26 rfl (wcs_get W c _ (by omega))) ?_);refine n_ (k_end (zpk [] rfl) ?_);refine k_take 8 rfl (by kernel_rfl) hQ rfl rfl rfl (zpk [] rfl) (y_val (j_or (b := 2 ^ (i % 64)) (wd_lt _ _) (Nat.lt_of_lt_of_le (Nat.pow_lt_pow_right (by decide) (show i % 64 < 64 by omega)) (by decide)) rfl rfl) (by rw [wd_add])) (k_take 9 rfl (by kernel_rfl) hQ rfl rfl rfl (zpk [] rfl) (y_idxAddr (m := i / 64) rfl rfl Tryz.underlying104 Tryz.sizeOf26 (by omega) (by omega) (by omega)) ?_);refine k_one 10 (by kernel_rfl) (k_op 10 rfl ?_);refine g_stR (off := i / 64) 0 rfl rfl rfl Tryz.sizeOf26 rfl rfl (by rw [wcs_len]; omega) ?_;rw [wcs_set W c (addP c i) (i / 64) (fun j hj _ => (wd_other c hj).symm)];simp only [zs0];refine n_ (k_end (zpk [] rfl) ?_);refine k_done (by kernel_rfl) (g_end_normal ?_);refine g_end0 Tryz.results74 ?_;exact fun w hS => ⟨(), rfl, hS.pick [0] rfl⟩
def mixP (k : Nat) (c d : Nat → Bool) : Nat → Bool := fun j => c j || (decide (j < 64 * k) && d j)
theorem wcs_congr {W : Nat} {c d : Nat → Bool} (h : ∀ j, j < 64 * W → c j = d j) : wcs W c = wcs W d := by
  refine List.map_congr_left fun k hk => ?_;rw [List.mem_range] at hk
  have e : wd c k = wd d k := by
    refine Nat.eq_of_testBit_eq fun j => ?_;rw [wd_bit, wd_bit];by_cases hj : j < 64
    · rw [h _ (by omega)]
    · simp [hj]
  rw [e]
theorem mix_next {W k : Nat} {c d : Nat → Bool} (h : k < W) : (wcs W (mixP k c d)).set k (.int .u64 ((wd (mixP k c d) k ||| wd d k : Nat) : Int)) = wcs W (mixP (k + 1) c d) := by
  rw [wd_or]
  have e : wd (orP (mixP k c d) d) k = wd (mixP (k + 1) c d) k := by
    refine Nat.eq_of_testBit_eq fun j => ?_;rw [wd_bit, wd_bit];by_cases hj : j < 64
    · have h1 : ¬ 64 * k + j < 64 * k := by omega
      have h2 : 64 * k + j < 64 * (k + 1) := by omega
      simp [orP, mixP, h1, h2]
    · simp [hj]
  rw [e];refine wcs_set W _ _ k fun i hi _ => Nat.eq_of_testBit_eq fun j => ?_;rw [wd_bit, wd_bit];by_cases hj : j < 64
  · have : decide (64 * i + j < 64 * k) = decide (64 * i + j < 64 * (k + 1)) := by congr 1; apply propext; omega
    simp [mixP, this]
  · simp [hj]
theorem mix0 {W : Nat} {c d : Nat → Bool} : wcs W (mixP 0 c d) = wcs W c := wcs_congr fun j _ => by simp [mixP]
theorem mixW {W : Nat} {c d : Nat → Bool} : wcs W (mixP W c d) = wcs W (orP c d) := wcs_congr fun j hj => by simp [mixP, orP, hj]
set_option maxRecDepth 100000 in
theorem join_any (c d : Nat → Bool) (g g2 W : Nat) (hW : W ≤ 1000000) (F : List Nat) (w : World) (hg2 : g2 ∉ F) (hr : RdSl w (some ⟨g2, 0, none⟩) W 1 (fun k _ => .int .u64 (wd d k : Int))) (hS0 : St w F [.row 26 1 (slW W g) W (wcs W c)] w) :
    Calls Tryz.prog 77 #[slW W g, slW W g2] w fun e w' => ∃ _x : Unit, e = .returned (.tuple #[]) ∧ St w F [.row 26 1 (slW W g) W (wcs W (orP c d))] w' := by
 rw [← mix0 (d := d)] at hS0;refine fn_intro_own Tryz.func77 rfl Tryz.ntmps77 rfl rfl hS0 (s_ (o_ ?_));refine xg 1 [] rfl rfl (g_val (v := .int .i64 (W : Int)) rfl rfl rfl (y_llen rfl Tryz.underlying104) ?_);refine xg 1 [] rfl rfl (n_ (t_ (g_block ?_)));refine g_loop (α := {x : Nat // x ≤ W}) (fun x => [(0, slW W g), (6, slW W g2), (7, .int .i64 (W : Int)), (8, .int .i64 (x.1 : Int))]) (fun x => St w F [.row 26 1 (slW W g) W (wcs W (mixP x.1 c d))]) (fun x => W - x.1) ⟨0, Nat.zero_le _⟩ [0, 6, 7, 8] rfl (zpk [0] rfl) ?_;rintro ⟨k, hk⟩;dsimp only;refine s_ (o_ (xg 1 [0] rfl rfl ?_));refine n_ (t_ (s_ (g_casep 9 rfl (fun h1 => ?_) fun h1 => ?_)))
 ·refine g_cond_t rfl (g_skip (t_ (s_ (g_block (s_ (o_ (xg 1 [] rfl rfl ?_)))))));refine g_val (v := .pointer (some (((some ⟨g2, 0, none⟩ : Option Addr).getD default).add k))) rfl rfl rfl (y_val (y_rdAddr hr rfl rfl Tryz.underlying104 Tryz.sizeOf26 (by omega) (by omega)) (by rw [Int.toNat_natCast, Nat.mul_one])) (g_val (v := .int .u64 (wd d k : Int)) rfl rfl rfl (y_val (y_rdFieldF (i := (k : Int)) (j := 0) hr hg2 rfl (by rw [Int.toNat_natCast]; omega) Tryz.isAgg26 (by omega) (by omega) (by decide)) rfl) ?_);refine xg 2 [] rfl rfl (nto_ ?_);refine xg 2 [] rfl rfl (g_val rfl rfl rfl (y_idxAddr (m := k) rfl rfl Tryz.underlying104 Tryz.sizeOf26 (by omega) (by omega) (by omega)) ?_);refine g_val (v := .int .u64 (wd (mixP k c d) k : Int)) rfl rfl rfl (y_ldR (off := k) 0 rfl Tryz.isAgg26 rfl (wcs_get W _ _ (by omega))) (xg 1 [] rfl rfl ?_);refine g_val rfl rfl rfl (j_or (wd_lt _ _) (wd_lt _ _) rfl rfl) (g_val rfl rfl rfl (y_idxAddr (m := k) rfl rfl Tryz.underlying104 Tryz.sizeOf26 (by omega) (by omega) (by omega)) ?_);refine g_stR (off := k) 0 rfl rfl rfl Tryz.sizeOf26 rfl rfl (by rw [wcs_len]; omega) ?_;rw [mix_next (by omega)];simp only [zs0];refine n_ (g_in_normal (t_ (o_ (xg 2 [] rfl (by omega) ?_))));refine n_ ?_;exact g_again ⟨k + 1, by omega⟩ [0, 6, 7, 8] (by dsimp only; omega) rfl (zpk [0] rfl)
 refine g_cond_f rfl (g_exit (g_then_exit (g_then_exit (g_in_exit (g_end_normal (g_end0 Tryz.results77 ?_))))));have hkW : k = W := by omega
 subst hkW;rw [mixW];exact fun w hS => ⟨(), rfl, hS.pick [0] rfl⟩
set_option maxRecDepth 100000 in
theorem each_any (c : Nat → Bool) (g W fr : Nat) (f : FuncId) (cs : Array Value) (J : Nat → World → Prop) (hW : W ≤ 1000000) (hf : ∀ args w, (callFunc f args).run Tryz.prog w = .ok (.enter f args) w) (hrd : ∀ k w, J k w → RdSl w (some ⟨g, 0, none⟩) W 1 (fun k _ => .int .u64 (wd c k : Int))) (hB : ∀ k w w', J k w → Below w.heap.size w w' → J k w') (hskip : ∀ k w, fr ≤ k → k < 64 * W → c k = false → J k w → J (k + 1) w) (hcall : ∀ k w, fr ≤ k → k < 64 * W → c k = true → J k w → Calls Tryz.prog f (#[.int .i64 (k : Int)] ++ cs) w fun e w' => e = .returned (.tuple #[]) ∧ J (k + 1) w') (hfr : fr ≤ 64 * W) (w : World) (hJ : J fr w) :
    Calls Tryz.prog 75 #[slW W g, .int .i64 (fr : Int), .func (.func f) #[] cs] w fun e w' => e = .returned (.tuple #[]) ∧ J (64 * W) w' := by
 refine fn_intro_S Tryz.func75 rfl Tryz.ntmps75 rfl rfl hJ (s_ (o_ ?_));refine g_val rfl rfl rfl (y_move rfl) (g_val rfl rfl rfl (y_assign rfl) ?_);refine n_ (t_ (g_block (g_loop (α := {x : Nat // fr ≤ x ∧ x ≤ 64 * W}) (fun x => [(0, slW W g), (2, .func (.func f) #[] cs), (6, .int .i64 (x.1 : Int))]) (fun x => J x.1) (fun x => 64 * W - x.1) ⟨fr, Nat.le_refl _, hfr⟩ [0, 2, 6] rfl (fun w h => h) ?_)));rintro ⟨k, hk, hk2⟩;dsimp only;refine s_ (s_ (o_ (g_val rfl rfl rfl (y_move rfl) ?_)));refine g_val rfl rfl rfl (y_move rfl) (g_val (v := .int .i64 (W : Int)) rfl rfl rfl (y_llen rfl Tryz.underlying104) ?_);refine g_val (v := .int .i64 ((64 * W : Nat) : Int)) rfl rfl rfl (y_val (y_imul rfl rfl) (by rw [wrap_in (by omega)]; congr 1; omega)) (g_val rfl rfl rfl (y_ilt rfl rfl) ?_);refine n_ (t_ ?_);first | refine g_casep 12 rfl (fun h1 => ?_) fun h1 => ?_ | refine g_caseb 12 rfl (fun h1 => ?_) fun h1 => ?_
 ·refine g_cond_t rfl (g_skip (t_ (s_ (g_block (s_ (o_ (g_val rfl rfl rfl (y_move rfl) ?_)))))));refine g_val rfl rfl rfl (y_move rfl) (g_callS (v := .bool (c k)) (hB k) rfl rfl rfl Tryz.call79 (fun w hS => has_any c g W k (by omega) hW w (hrd k w hS)) ?_);refine n_ (t_ ?_);first | refine g_casep 17 rfl (fun h2 => ?_) fun h2 => ?_ | refine g_caseb 17 rfl (fun h2 => ?_) fun h2 => ?_
  ·refine g_cond_t rfl (o_ (g_val rfl rfl rfl (y_move rfl) ?_));refine g_val rfl rfl rfl (y_move rfl) (g_callV (fun _ : Unit => .tuple #[]) (fun _ => J (k + 1)) rfl rfl rfl rfl hf (fun w hS => (hcall k w (by omega) (by omega) (by assumption) hS).mono fun e w' ⟨he, hj⟩ => ⟨(), he, hj⟩) (fun _ => ?_));refine n_ (g_in_normal (t_ (o_ (g_val rfl rfl rfl (y_move rfl) ?_))));refine g_val rfl rfl rfl (by first | exact y_addi rfl rfl (by first | omega | (simp only [size_mk, ByteArray.size_append, ByteArray.size_extract]; omega)) | exact y_iadd rfl rfl) (g_val rfl rfl rfl (y_assign rfl) ?_);refine n_ ?_;exact g_again ⟨k + 1, by omega, by omega⟩ [0, 2, 6] (by dsimp only; omega) rfl (fun w h => h)
  refine g_cond_f rfl (g_skip (g_in_normal (t_ (G.weaken (fun w hS => hskip k w (by omega) (by omega) (by assumption) hS) ?_))));refine o_ (g_val rfl rfl rfl (y_move rfl) ?_);refine g_val rfl rfl rfl (by first | exact y_addi rfl rfl (by first | omega | (simp only [size_mk, ByteArray.size_append, ByteArray.size_extract]; omega)) | exact y_iadd rfl rfl) (g_val rfl rfl rfl (y_assign rfl) ?_);refine n_ ?_;exact g_again ⟨k + 1, by omega, by omega⟩ [0, 2, 6] (by dsimp only; omega) rfl (fun w h => h)
 refine g_cond_f rfl (g_exit (g_then_exit (g_then_exit (g_in_exit (g_end_normal (g_end0 Tryz.results75 ?_))))));have hkW : k = 64 * W := by omega
 subst hkW;exact fun w hS => ⟨rfl, hS⟩
end Go.Proofs.YtjdmdpjbijkjaaaGreat

namespace Go.Proofs.YtjdmdpjbijkjaaaGreat
open Go Go.RowKit
def mtC (vn : Value) (mp : Nat) (x : Tx) : List Value := [vn, st8 x.l, .bool x.bg, .map (some mp)]
instance : Inhabited MT := ⟨zMT⟩
structure MI (b : Nat) (vn : Value) (mp : Nat) (x : Tx) (ns : List Nd) (w : World) : Prop where
  m : w.heap[b]? = some (.cells (mtC vn mp x).toArray 136 (0, 0))
  n : w.ownsRow 0 140 10 vn ns.length (ns.flatMap fC)
theorem MI.rd {b mp : Nat} {vn : Value} {x : Tx} {ns : List Nd} {w : World} (h : MI b vn mp x ns w) : RdSl w (some ⟨b, 0, none⟩) 1 4 (fun _ j => ((mtC vn mp x)[j]?).getD default) := by
  refine ⟨fun _ => rfl, fun _ => lt_of_some h.m, fun i j hi hj => ?_⟩;obtain rfl : i = 0 := by omega
  have e : ((some (⟨b, 0, none⟩ : Addr)).getD default).add (0 * 4 + j) = ⟨b, j, none⟩ := by simp [Addr.add_mid]
  rw [e, cell_of_row w b j (mtC vn mp x).toArray 136 (0, 0) h.m];have : j < (mtC vn mp x).length := hj;simp [this]
theorem row_le' {w : World} {e : TypeId} {sz : Nat} {v : Value} {n : Nat} {xs : List Value} (h : w.ownsRow 0 e sz v n xs) : n ≤ maxLen := by
  obtain ⟨_, ⟨h1, h2⟩ | ⟨g, cap, cur, h1, _, h3, h4, h5, _⟩⟩ := h
  · omega
  · omega
theorem MI.sl {b mp : Nat} {vn : Value} {x : Tx} {ns : List Nd} {w : World} (h : MI b vn mp x ns w) : ∃ p c, vn = .slice p ns.length c ∧ RdSl w p ns.length 10 (fun i j => ((fC (ns.getD i default))[j]?).getD default) ∧ ns.length ≤ maxLen := by
  have hn := h.n;obtain ⟨_, ⟨h1, h2⟩ | ⟨g, cap, cur, h1, _⟩⟩ := h.n
  · refine ⟨none, 0, by rw [h1, h2], ?_, by rw [h2]; exact Nat.zero_le _⟩;rw [h1] at hn;exact ⟨fun q => by omega, fun q => by omega, fun i j hi => by omega⟩
  · rw [h1] at hn;exact ⟨_, cap, h1, rd_of_row fC fC_len rfl hn, row_le' hn⟩
set_option maxRecDepth 100000 in
theorem round_any (a p i to : Nat) (mi ma : Int) (h : 0 ≤ mi ∧ mi ≤ 4611686018427387904 ∧ -1 ≤ ma ∧ ma ≤ 4611686018427387904) (w : World) :
    Calls Tryz.prog 81 #[.agg ([.int .i64 (a : Int), .int .i64 (p : Int), .int .i64 mi, .int .i64 ma, .int .i64 (i : Int)]).toArray, .int .i64 (to : Int)] w fun e w' => e = .returned (.agg ([.int .i64 (a : Int), .int .i64 (p : Int), .int .i64 (max (mi - 1) 0), .int .i64 (if 0 < ma then ma - 1 else ma), .int .i64 (to : Int)]).toArray) ∧ Below w.heap.size w w' := by
 refine fn_intro Tryz.func81 rfl Tryz.ntmps81 rfl rfl (s_ (o_ ?_));refine g_box rfl rfl rfl rfl (fun b1 => (g_alloc rfl rfl Tryz.zeroValue101 rfl (fun b2 => ?_)));refine ntso_ (xg 3 [1] rfl (by omega) ?_);refine g_val (v := .int .i64 (max (mi - 1) 0)) rfl rfl rfl (y_maxi rfl rfl) (xg 5 [1,1] rfl (by omega) ?_);refine n_ (t_ (s_ (s_ (o_ (xg 3 [1,0] rfl (by omega) ?_)))));refine n_ (t_ (g_casep 14 rfl (fun h1 => ?_) fun h1 => ?_))
 ·refine g_cond_t rfl (o_ (xg 5 [1,1] rfl (by omega) ?_));refine ntso_ (xg 2 [1,0] rfl (by omega) ?_);refine n_ (t_ (g_ret (g_end_cell 0 Tryz.results81 rfl rfl Tryz.isAgg101 Tryz.sizeOf101 rfl ?_)));first | rw [if_pos (by omega)] | rw [if_neg (by omega)]
  exact fun w hS => ⟨rfl, hS.below⟩
 refine g_cond_f rfl (g_skip (t_ (s_ (o_ (xg 2 [1,0] rfl (by omega) ?_)))));refine n_ (t_ (g_ret (g_end_cell 0 Tryz.results81 rfl rfl Tryz.isAgg101 Tryz.sizeOf101 rfl ?_)));first | rw [if_pos (by omega)] | rw [if_neg (by omega)]
 exact fun w hS => ⟨rfl, hS.below⟩
theorem m_round (a p i to : Nat) (mi ma : Int) (h : 0 ≤ mi ∧ mi ≤ 4611686018427387904 ∧ -1 ≤ ma ∧ ma ≤ 4611686018427387904) : Meets Tryz.prog (fun _ => True) 81 [.agg ([.int .i64 (a : Int), .int .i64 (p : Int), .int .i64 mi, .int .i64 ma, .int .i64 (i : Int)]).toArray, .int .i64 (to : Int)] (fun _ : Unit => .agg ([.int .i64 (a : Int), .int .i64 (p : Int), .int .i64 (max (mi - 1) 0), .int .i64 (if 0 < ma then ma - 1 else ma), .int .i64 (to : Int)]).toArray) [] (fun _ => []) := meets1 Tryz.call81 (fun w hI => round_any a p i to mi ma h w)
theorem nd_get {ns : List Nd} {a : Nat} {d : Nd} (h : ns[a]? = some d) : a < ns.length ∧ ns.getD a default = d := by
  refine ⟨(List.getElem?_eq_some_iff.1 h).1, ?_⟩;rw [List.getD_eq_getElem?_getD, h]; rfl
theorem kvC_beg {x : Tx} {ns : List Nd} {a i : Nat} {k : Int} {s : Nat → Int} {mi ma nu : Int} {v kv : Value} {q : List MT} {ks : List Nat} (h : ns[a]? = some (.mk k s mi ma nu v q, kv, ks)) :
    kvC (beg x ns a i) = [.int .i64 (a : Int), .int .i64 ((0 : Nat) : Int), .int .i64 (if k = 4 then cLo x.n mi else 0), .int .i64 (if k = 4 then cHi x.n ma else 0), .int .i64 (i : Int)] := by
  unfold beg
  rw [h];dsimp only;by_cases h4 : k = 4
  · rw [if_pos h4, if_pos h4, if_pos h4]; rfl
  · rw [if_neg h4, if_neg h4, if_neg h4]; rfl
set_option maxRecDepth 100000 in
theorem begin_any (b mp a i : Nat) (vn : Value) (x : Tx) (ns : List Nd) (k : Int) (s : Nat → Int) (mi ma nu : Int) (v1 u1 : Option Addr) (v2 v3 u2 u3 : Nat) (q : List MT) (ks : List Nat) (ha : ns[a]? = some (.mk k s mi ma nu (.slice v1 v2 v3) q, .slice u1 u2 u3, ks)) (hx : x.n ≤ 1000000) (w : World) (hI : MI b vn mp x ns w) :
    Calls Tryz.prog 48 #[.pointer (some ⟨b, 0, none⟩), .int .i64 (a : Int), .int .i64 (i : Int)] w fun e w' => e = .returned (.agg (kvC (beg x ns a i)).toArray) ∧ Below w.heap.size w w' := by
 obtain ⟨hal, hd⟩ := nd_get ha;rw [kvC_beg ha];refine fn_intro Tryz.func48 rfl Tryz.ntmps48 rfl rfl (s_ (o_ ?_));refine g_alloc rfl rfl Tryz.zeroValue101 rfl (fun b1 => (ntso_ ?_));refine xg 3 [] rfl rfl (g_alloc rfl rfl Tryz.zeroValue101 rfl (fun b2 => ?_));refine xg 1 [0] rfl (by omega) (n_ (t_ (s_ (s_ (o_ ?_)))));refine xg 3 [] rfl rfl (g_val (v := vn) rfl rfl rfl (y_val (y_rdFieldF (i := 0) (j := 0) (m := 0) hI.rd List.not_mem_nil rfl (by rfl) Tryz.isAgg134 (by decide) (by decide) (by decide)) rfl) ?_);obtain ⟨pn, cn, rfl, hrn, hle⟩ := hI.sl;refine xg 1 [] rfl rfl (g_val rfl rfl rfl (y_rdAddr hrn rfl rfl Tryz.underlying134 Tryz.sizeOf140 (by omega) (by omega)) ?_);refine g_val (v := .agg ([.int .i64 k, .int .u64 (s 0), .int .u64 (s 1), .int .u64 (s 2), .int .u64 (s 3), .int .i64 mi, .int .i64 ma, .int .i64 nu, .slice v1 v2 v3, .slice u1 u2 u3]).toArray) rfl rfl rfl (y_val (y_rdAgg (i := (a : Int)) (vs := fC (.mk k s mi ma nu (.slice v1 v2 v3) q, .slice u1 u2 u3, ks)) hrn rfl Tryz.isAgg140 Tryz.sizeOf140 (by omega) (by omega) (fC_len _) (fun j hj => by rw [Int.toNat_natCast, hd]; rw [List.getElem?_eq_getElem (show j < (fC (.mk k s mi ma nu (.slice v1 v2 v3) q, .slice u1 u2 u3, ks)).length by rw [fC_len]; exact hj)]; rfl)) rfl) ?_;refine g_alloc rfl rfl Tryz.zeroValue140 rfl (fun b3 => (xg 1 [0] rfl (by omega) ?_));refine ntso_ (xg 4 [0,0] rfl (by omega) ?_);refine n_ (t_ (g_casep 23 rfl (fun h1 => ?_) fun h1 => ?_))
 ·refine g_cond_t rfl (s_ (o_ (xg 3 [] rfl rfl ?_)));refine g_val (v := st8 x.l) rfl rfl rfl (y_val (y_rdFieldF (i := 0) (j := 1) (m := 1) hI.rd List.not_mem_nil rfl (by rfl) Tryz.isAgg9 (by decide) (by decide) (by decide)) rfl) (g_val (v := .int .i64 (x.n : Int)) rfl rfl rfl (y_val (y_slen rfl Tryz.underlying9) (by rw [size_mk]; rfl)) ?_);refine xg 2 [] rfl (by omega) (n_ (t_ ?_));refine k_go [0,1] rfl (by kernel_rfl) (fun _ _ _ _ _ h => h) fun hQ => (k_x 0 [0,1] [] hQ (by kernel_rfl) rfl rfl rfl rfl rfl rfl ?_);refine k_x 1 [0,1] [] hQ (by kernel_rfl) rfl rfl rfl rfl rfl rfl (k_xc 2 [0,1] [0] hQ (by kernel_rfl) rfl rfl rfl rfl rfl rfl (by omega) ?_);refine k_take 3 rfl (by kernel_rfl) hQ rfl rfl rfl (zpk [0,1] rfl) (y_maxi rfl rfl) (k_x 4 [0,1] [] hQ (by kernel_rfl) rfl rfl rfl rfl rfl rfl ?_);refine k_take 5 rfl (by kernel_rfl) hQ rfl rfl rfl (zpk [0,1] rfl) (y_mini rfl rfl) (k_x 6 [0,1] [] hQ (by kernel_rfl) rfl rfl rfl rfl rfl rfl ?_);refine k_x 7 [0,1] [] hQ (by kernel_rfl) rfl rfl rfl rfl rfl rfl (k_xc 8 [0,1] [0] hQ (by kernel_rfl) rfl rfl rfl rfl rfl rfl (by omega) ?_);refine k_take 9 rfl (by kernel_rfl) hQ rfl rfl rfl (zpk [0,1] rfl) (y_maxi rfl rfl) (k_x 10 [0,1] [] hQ (by kernel_rfl) rfl rfl rfl rfl rfl rfl ?_);refine k_take 11 rfl (by kernel_rfl) hQ rfl rfl rfl (zpk [0,1] rfl) (y_mini rfl rfl) (k_x 12 [0,1] [] hQ (by kernel_rfl) rfl rfl rfl rfl rfl rfl ?_);refine k_one 13 (by kernel_rfl) (k_op 13 rfl ?_);refine xg 1 [1] rfl (by omega) (n_ ?_);refine k_end (zpk [0,1] rfl) (k_x 14 [0,1] [] hQ (by kernel_rfl) rfl rfl rfl rfl rfl rfl ?_);refine k_one 15 (by kernel_rfl) (k_op 15 rfl ?_);refine xg 1 [1] rfl (by omega) (n_ ?_);refine k_end (zpk [0,1] rfl) (k_done (by kernel_rfl) ?_);refine t_ (s_ (o_ (xg 2 [1,2] rfl (by omega) ?_)));refine n_ (t_ (g_ret (g_end_cell 2 Tryz.results48 rfl rfl Tryz.isAgg101 Tryz.sizeOf101 rfl ?_)));first | rw [if_pos (by omega), if_pos (by omega)] | rw [if_neg (by omega), if_neg (by omega)]
  exact fun w hS => ⟨rfl, hS.below⟩
 refine g_cond_f rfl (g_skip (t_ (s_ (o_ (xg 2 [1,2] rfl (by omega) ?_)))));refine n_ (t_ (g_ret (g_end_cell 2 Tryz.results48 rfl rfl Tryz.isAgg101 Tryz.sizeOf101 rfl ?_)));first | rw [if_pos (by omega), if_pos (by omega)] | rw [if_neg (by omega), if_neg (by omega)]
 exact fun w hS => ⟨rfl, hS.below⟩
theorem m_begin (b mp a i : Nat) (vn : Value) (x : Tx) (ns : List Nd) (k : Int) (s : Nat → Int) (mi ma nu : Int) (v1 u1 : Option Addr) (v2 v3 u2 u3 : Nat) (q : List MT) (ks : List Nat) (ha : ns[a]? = some (.mk k s mi ma nu (.slice v1 v2 v3) q, .slice u1 u2 u3, ks)) (hx : x.n ≤ 1000000) : Meets Tryz.prog (MI b vn mp x ns) 48 [.pointer (some ⟨b, 0, none⟩), .int .i64 (a : Int), .int .i64 (i : Int)] (fun _ : Unit => .agg (kvC (beg x ns a i)).toArray) [] (fun _ => []) := meets1 Tryz.call48 (fun w hI => begin_any b mp a i vn x ns k s mi ma nu v1 u1 v2 v3 u2 u3 q ks ha hx w hI)
end Go.Proofs.YtjdmdpjbijkjaaaGreat

namespace Go.Proofs.YtjdmdpjbijkjaaaGreat
open Go Go.RowKit
theorem st_law : WideMaps.KeyLaw Tryz.prog 101 := deep_law (m := 2) (by decide) (by kernel_rfl) (by kernel_rfl) (by kernel_rfl)
def okS (s : Sta) : Prop := s.a < 4611686018427387904 ∧ s.p < 4611686018427387904 ∧ s.i < 4611686018427387904 ∧ 0 ≤ s.mi ∧ s.mi ≤ 4611686018427387904 ∧ -1 ≤ s.ma ∧ s.ma ≤ 4611686018427387904
def Kp (v : Value) : Prop := ∃ l, keyOf Tryz.prog 101 v = some l
theorem kv_key {s : Sta} (h : okS s) : Kp (kv s) := by
  obtain ⟨a, p, mi, ma, i⟩ := s;obtain ⟨h1, h2, h3, h4, h5, h6, h7⟩ := h;dsimp only at h1 h2 h3 h4 h5 h6 h7;unfold Kp kv kvC
  dsimp only;have w1 : (Lit.int .i64 (a : Int)).wf = true := by simp [Lit.wf, IntKind.min, IntKind.max, IntKind.bits, IntKind.signed]; omega
  have w2 : (Lit.int .i64 (p : Int)).wf = true := by simp [Lit.wf, IntKind.min, IntKind.max, IntKind.bits, IntKind.signed]; omega
  have w3 : (Lit.int .i64 mi).wf = true := by simp [Lit.wf, IntKind.min, IntKind.max, IntKind.bits, IntKind.signed]; omega
  have w4 : (Lit.int .i64 ma).wf = true := by simp [Lit.wf, IntKind.min, IntKind.max, IntKind.bits, IntKind.signed]; omega
  have w5 : (Lit.int .i64 (i : Int)).wf = true := by simp [Lit.wf, IntKind.min, IntKind.max, IntKind.bits, IntKind.signed]; omega
  have hf : (Tryz.prog.keyType 101 && (Value.agg [Value.int .i64 (a : Int), .int .i64 (p : Int), .int .i64 mi, .int .i64 ma, .int .i64 (i : Int)].toArray).formed Tryz.prog 101) = true := by kernel_rfl
  unfold keyOf
  rw [Tryz.underlying101];dsimp only;rw [if_pos hf];obtain ⟨d, hd⟩ : ∃ d, Tryz.prog.types.size + 1 = d + 2 := ⟨_, rfl⟩;rw [hd]
  have h1 : ∀ n : Int, (Lit.int .i64 n).wf = true → Tryz.prog.keyLits (d + 1) 3 [.int .i64 n] = some [.int .i64 n] := fun n hn => by
    unfold Program.keyLits
    rw [Tryz.underlying3];simp [hn]
  unfold Program.keyLits
  rw [Tryz.underlying101];have hc : Tryz.prog.cellsOf 101 = 5 := by kernel_rfl
  have hc3 : Tryz.prog.cellsOf 3 = 1 := by kernel_rfl
  simp [hc, hc3, Value.cells, h1 _ w1, h1 _ w2, h1 _ w3, h1 _ w4, h1 _ w5]
def kidsOk (ns : List Nd) (w : World) : Prop := ∀ d ∈ ns, w.ownsRow 0 3 1 d.2.1 d.2.2.length (d.2.2.map fun k : Nat => .int .i64 (k : Int))
def Ent.kids (ns : List Nd) : Ent := .own {
  fp := ns.flatMap fun d => d.2.1.ownBlock.toList
  holds := kidsOk ns
  stable := fun w w' hk h d hd => ownsRow_stable (fun j hj => hk j (List.mem_flatMap.2 ⟨d, hd, hj⟩)) (h d hd)
  inb := fun w h j hj => by
    obtain ⟨d, hd, hj⟩ := List.mem_flatMap.1 hj;exact ((h d hd).lt j (by simpa using hj)).2 }
structure Cx where
  b : Nat
  mp : Nat
  gn : Nat
  cn : Nat
  x : Tx
  ns : List Nd
  hx : x.n ≤ 1000000
  hv : ∀ d ∈ ns, ∃ p n c, d.1.v = .slice p n c
  hk : ∀ d ∈ ns, ∃ p n c, d.2.1 = .slice p n c
  hl : ns.length ≤ 1000000
  hn : ∀ d ∈ ns, d.2.2.length ≤ 1000000
def Cx.W (C : Cx) : Nat := C.x.n / 64 + 1
abbrev Cx.mt (C : Cx) : Ent := .cells C.b 136 [.slice (some ⟨C.gn, 0, none⟩) C.ns.length C.cn, st8 C.x.l, .bool C.x.bg, .map (some C.mp)]
abbrev Cx.nd (C : Cx) : Ent := .row 140 10 (.slice (some ⟨C.gn, 0, none⟩) C.ns.length C.cn) C.ns.length (C.ns.flatMap fC)
abbrev Cx.mo (C : Cx) (M : Value → Option Nat) (E : List (Value × Nat)) : Ent := .memo 26 C.mp C.W (Sp C.x C.ns) Kp M E
def AllOk (C : Cx) (s : Sta) : Prop := ∀ (M : Value → Option Nat) (E : List (Value × Nat)) (F : List Nat) (w : World), St w F [C.mt, C.nd, .kids C.ns, C.mo M E] w →
  Calls Tryz.prog 49 #[.pointer (some ⟨C.b, 0, none⟩), kv s] w fun e w' => ∃ y : {y : (Value → Option Nat) × List (Value × Nat) × Nat // (∀ p, p ∈ E → p ∈ y.2.1) ∧ (kv s, y.2.2) ∈ y.2.1}, e = .returned (slW C.W y.1.2.2) ∧ St w F [C.mt, C.nd, .kids C.ns, C.mo y.1.1 y.1.2.1] w'
theorem Cx.mi {C : Cx} {W0 w : World} {F : List Nat} {L : List Ent} (hS : St W0 F L w) {i j : Nat} (hi : L[i]? = some C.mt) (hj : L[j]? = some C.nd) : MI C.b (.slice (some ⟨C.gn, 0, none⟩) C.ns.length C.cn) C.mp C.x C.ns w := ⟨hS.get hi, hS.get hj⟩
theorem Cx.node {C : Cx} {a : Nat} {t : MT} (h : laidT C.ns t a) : ∃ k s mi ma nu v1 u1 v2 v3 u2 u3 q ks, t = .mk k s mi ma nu (.slice v1 v2 v3) q ∧ C.ns[a]? = some (.mk k s mi ma nu (.slice v1 v2 v3) q, .slice u1 u2 u3, ks) ∧ (∀ c ∈ ks, a < c) ∧ (if k = 5 ∨ k = 4 then laidH C.ns q ks else laidL C.ns q ks) := by
  cases t with | mk k s mi ma nu v q =>
  obtain ⟨kv, ks, h1, h2, h3⟩ := laidT_mk.1 h;obtain ⟨p, n, c, hv⟩ := C.hv _ (List.mem_of_getElem? h1);obtain ⟨p', n', c', hv'⟩ := C.hk _ (List.mem_of_getElem? h1);obtain rfl : v = .slice p n c := hv;obtain rfl : kv = .slice p' n' c' := hv';exact ⟨k, s, mi, ma, nu, p, p', n, c, n', c', q, ks, rfl, h1, h2, h3⟩
end Go.Proofs.YtjdmdpjbijkjaaaGreat

namespace Go.Proofs.YtjdmdpjbijkjaaaGreat
open Go Go.RowKit
theorem fC_set : ∀ (ns : List Nd) (a : Nat) (t : MT) (v0 v : Value) (k0 ks : List Nat), ns[a]? = some (t, v0, k0) → (ns.flatMap fC).set (a * 10 + 9) v = (ns.set a (t, v, ks)).flatMap fC
  | [], a, t, v0, v, k0, ks, h => by simp at h
  | d :: ns, 0, t, v0, v, k0, ks, h => by
    have hd : d = (t, v0, k0) := by simpa using h
    subst hd;rw [List.flatMap_cons, List.set_cons_zero, List.flatMap_cons, List.set_append, if_pos (by rw [fC_len]; decide)];congr 1
    unfold fC
    rw [List.set_append, if_neg (by rw [nC_len]; decide), nC_len]; rfl
  | d :: ns, a + 1, t, v0, v, k0, ks, h => by
    have hd : ns[a]? = some (t, v0, k0) := by simpa using h
    rw [List.flatMap_cons, List.set_cons_succ, List.flatMap_cons, List.set_append, if_neg (by rw [fC_len]; omega), fC_len, show (a + 1) * 10 + 9 - 10 = a * 10 + 9 by omega, fC_set ns a t v0 v k0 ks hd]
section
variable {N : Nat} {R : Regs} {W0 : World} {F : List Nat} {L Lr : List Ent} {X : Act → World → Prop} {ns : List Nd}
theorem nilRowOk (w : World) : w.ownsRow 0 3 1 (.slice none 0 0) 0 [] := ⟨rfl, .inl ⟨rfl, rfl⟩⟩
theorem g_kidsNil {t : MT} (h : G N R (St W0 F (.kids (ns ++ [(t, .slice none 0 0, [])]) :: Lr)) X) : G N R (St W0 F (.kids ns :: Lr)) X := by
  refine g_nilRow 3 1 (g_perm (.swap _ _ _) (g_merge (.kids (ns ++ [(t, .slice none 0 0, [])])) (fun w h1 _ d hd => ?_) (fun k hk => ?_) h))
  · rcases List.mem_append.1 hd with hd | hd
    · exact h1 d hd
    · obtain rfl := List.mem_singleton.1 hd; exact nilRowOk w
  · obtain ⟨d, hd, hk⟩ := List.mem_flatMap.1 hk;rcases List.mem_append.1 hd with hd | hd
    · exact .inl (List.mem_flatMap.2 ⟨d, hd, hk⟩)
    · obtain rfl := List.mem_singleton.1 hd; simp [Value.ownBlock] at hk
theorem g_kidsSet {a n : Nat} {t : MT} {v : Value} {ks : List Nat} (hn : n = ks.length) (h : G N R (St W0 F (.kids (ns.set a (t, v, ks)) :: Lr)) X) : G N R (St W0 F (.kids ns :: .row 3 1 v n (ks.map fun k : Nat => .int .i64 (k : Int)) :: Lr)) X := by
  subst hn;refine g_merge (.kids (ns.set a (t, v, ks))) (fun w h1 h2 d hd => ?_) (fun k hk => ?_) h
  · rcases List.mem_or_eq_of_mem_set hd with hd | rfl
    · exact h1 d hd
    · exact h2
  · obtain ⟨d, hd, hk⟩ := List.mem_flatMap.1 hk;rcases List.mem_or_eq_of_mem_set hd with hd | rfl
    · exact .inl (List.mem_flatMap.2 ⟨d, hd, hk⟩)
    · exact .inr hk
end
theorem RdSl.stable {w w' : World} {p : Option Addr} {n sz : Nat} {f : Nat → Nat → Value} (hr : RdSl w p n sz f) (hk : 0 < n → w'.heap[(p.getD default).block]? = w.heap[(p.getD default).block]?) : RdSl w' p n sz f := by
  refine ⟨hr.addr, fun h => ?_, fun i j hi hj => ?_⟩
  · have h1 := hr.blk h;have h2 := hk h;rw [Array.getElem?_eq_getElem h1] at h2;exact (Array.getElem?_eq_some_iff.1 h2).1
  · rw [← hr.cell i j hi hj];have e : ((p.getD default).add (i * sz + j)).block = (p.getD default).block := by unfold Addr.add; split <;> rfl
    exact World.cell?_of_block (w := w) (by rw [e]; exact hk (by omega))
def rdV (w : World) (v : Value) (q : List MT) : Prop := ∃ p c, v = .slice p q.length c ∧ RdSl w p q.length 9 (fun i j => ((nC (q.getD i default))[j]?).getD default)
def bkV (v : Value) (n : Nat) : List Nat := match v, n with
  | .slice p _ _, _ + 1 => [(p.getD default).block]
  | _, _ => []
mutual
def MT.rd (w : World) : MT → Prop
  | .mk _ _ _ _ _ v q => rdV w v q ∧ rdL w q
def rdL (w : World) : List MT → Prop
  | [] => True
  | t :: q => t.rd w ∧ rdL w q
end
mutual
def MT.bk : MT → List Nat
  | .mk _ _ _ _ _ v q => bkV v q.length ++ bkL q
def bkL : List MT → List Nat
  | [] => []
  | t :: q => t.bk ++ bkL q
end
theorem rd_mk {w : World} {k : Int} {s : Nat → Int} {mi ma nu : Int} {v : Value} {q : List MT} : (MT.mk k s mi ma nu v q).rd w ↔ rdV w v q ∧ rdL w q := by rw [MT.rd]
theorem rdL_nil {w : World} : rdL w [] := by rw [rdL]; trivial
theorem rdL_cons {w : World} {t : MT} {q : List MT} : rdL w (t :: q) ↔ t.rd w ∧ rdL w q := by rw [rdL]
theorem bk_mk {k : Int} {s : Nat → Int} {mi ma nu : Int} {v : Value} {q : List MT} : (MT.mk k s mi ma nu v q).bk = bkV v q.length ++ bkL q := by rw [MT.bk]
theorem bkL_cons {t : MT} {q : List MT} : bkL (t :: q) = t.bk ++ bkL q := by rw [bkL]
theorem bkL_nil : bkL [] = [] := by rw [bkL]
theorem rdV_stable {w w' : World} {v : Value} {q : List MT} (hk : ∀ b, b ∈ bkV v q.length → w'.heap[b]? = w.heap[b]?) (h : rdV w v q) : rdV w' v q := by
  obtain ⟨p, c, rfl, hr⟩ := h;refine ⟨p, c, rfl, hr.stable fun h0 => hk _ ?_⟩;obtain ⟨n, hn⟩ : ∃ n, q.length = n + 1 := ⟨q.length - 1, by omega⟩;rw [hn]; exact List.mem_singleton.2 rfl
theorem rdV_inb {w : World} {v : Value} {q : List MT} (h : rdV w v q) : ∀ b, b ∈ bkV v q.length → b < w.heap.size := by
  obtain ⟨p, c, rfl, hr⟩ := h;intro b hb;cases q with
  | nil => cases hb
  | cons t q => rw [List.mem_singleton.1 hb]; exact hr.blk (by simp)
mutual
theorem MT.rd_stable {w w' : World} : ∀ (t : MT), (∀ k, k ∈ t.bk → w'.heap[k]? = w.heap[k]?) → t.rd w → t.rd w'
  | .mk k s mi ma nu v q, hk, h => by
    rw [bk_mk] at hk;rw [rd_mk] at h ⊢;exact ⟨rdV_stable (fun b hb => hk b (List.mem_append_left _ hb)) h.1, rdL_stable q (fun b hb => hk b (List.mem_append_right _ hb)) h.2⟩
theorem rdL_stable {w w' : World} : ∀ (q : List MT), (∀ k, k ∈ bkL q → w'.heap[k]? = w.heap[k]?) → rdL w q → rdL w' q
  | [], _, _ => rdL_nil
  | t :: q, hk, h => by
    rw [bkL_cons] at hk;rw [rdL_cons] at h ⊢;exact ⟨MT.rd_stable t (fun b hb => hk b (List.mem_append_left _ hb)) h.1, rdL_stable q (fun b hb => hk b (List.mem_append_right _ hb)) h.2⟩
end
mutual
theorem MT.rd_inb {w : World} : ∀ (t : MT), t.rd w → ∀ k, k ∈ t.bk → k < w.heap.size
  | .mk k s mi ma nu v q, h, b, hb => by
    rw [bk_mk] at hb;rw [rd_mk] at h;rcases List.mem_append.1 hb with hb | hb
    · exact rdV_inb h.1 b hb
    · exact rdL_inb q h.2 b hb
theorem rdL_inb {w : World} : ∀ (q : List MT), rdL w q → ∀ k, k ∈ bkL q → k < w.heap.size
  | [], _, b, hb => by rw [bkL_nil] at hb; cases hb
  | t :: q, h, b, hb => by
    rw [bkL_cons] at hb;rw [rdL_cons] at h;rcases List.mem_append.1 hb with hb | hb
    · exact MT.rd_inb t h.1 b hb
    · exact rdL_inb q h.2 b hb
end
mutual
theorem MT.ok_rd {w : World} : ∀ (t : MT), t.ok w → t.rd w ∧ ∀ k, k ∈ t.bk → k ∈ t.fp
  | .mk k s mi ma nu v q, h => by
    obtain ⟨h1, h2⟩ := ok_mk.1 h;obtain ⟨h3, h4⟩ := okL_rd q h2;rw [rd_mk, bk_mk, fp_mk]
    obtain ⟨p, c, rfl⟩ : ∃ p c, v = .slice p q.length c := by
      obtain ⟨_, ⟨h4, h5⟩ | ⟨g, c, cur, h4, _⟩⟩ := h1
      · exact ⟨none, 0, by rw [h4, h5]⟩
      · exact ⟨_, _, h4⟩
    refine ⟨⟨⟨p, c, rfl, rd_of_row nC nC_len rfl h1⟩, h3⟩, fun b hb => ?_⟩;rcases List.mem_append.1 hb with hb | hb
    · refine List.mem_append_left _ ?_;cases q with
      | nil => cases hb
      | cons t q =>
        rw [List.mem_singleton.1 hb];obtain ⟨_, ⟨h4, h5⟩ | ⟨g, c, cur, h4, _⟩⟩ := h1
        · cases h5
        · cases h4; simp [Value.ownBlock]
    · exact List.mem_append_right _ (h4 b hb)
theorem okL_rd {w : World} : ∀ (q : List MT), okL w q → rdL w q ∧ ∀ k, k ∈ bkL q → k ∈ fpL q
  | [], _ => ⟨rdL_nil, fun b hb => by rw [bkL_nil] at hb; cases hb⟩
  | t :: q, h => by
    obtain ⟨h1, h2⟩ := okL_cons.1 h;obtain ⟨h3, h4⟩ := MT.ok_rd t h1;obtain ⟨h5, h6⟩ := okL_rd q h2;refine ⟨rdL_cons.2 ⟨h3, h5⟩, fun b hb => ?_⟩;rw [bkL_cons] at hb;rw [fpL_cons];rcases List.mem_append.1 hb with hb | hb
    · exact List.mem_append_left _ (h4 b hb)
    · exact List.mem_append_right _ (h6 b hb)
end
theorem rdL_mem {w : World} : ∀ {q : List MT} {t : MT}, rdL w q → t ∈ q → t.rd w
  | u :: q, t, h, ht => by
    rcases List.mem_cons.1 ht with rfl | ht
    · exact (rdL_cons.1 h).1
    · exact rdL_mem (rdL_cons.1 h).2 ht
theorem bkL_mem : ∀ {q : List MT} {t : MT}, t ∈ q → ∀ k, k ∈ t.bk → k ∈ bkL q
  | u :: q, t, ht, k, hk => by
    rw [bkL_cons];rcases List.mem_cons.1 ht with rfl | ht
    · exact List.mem_append_left _ hk
    · exact List.mem_append_right _ (bkL_mem ht k hk)
def Nice (d : Nd) : Prop := (∃ p n c, d.1.v = .slice p n c) ∧ (∃ p n c, d.2.1 = .slice p n c) ∧ d.2.2.length ≤ 1000000
def LayOk (b mp : Nat) (x : Tx) (t : MT) : Prop := ∀ (ns : List Nd) (vn : Value) (F : List Nat) (w : World), t.rd w → (∀ k, k ∈ t.bk → k ∉ F) → ns.length + wT t ≤ 1000000 → St w F [.cells b 136 [vn, st8 x.l, .bool x.bg, .map (some mp)], .row 140 10 vn ns.length (ns.flatMap fC), .kids ns] w →
  Calls Tryz.prog 72 #[.pointer (some ⟨b, 0, none⟩), .agg (nC t).toArray] w fun e w' => ∃ y : {y : Value × List Nd // laidT (ns ++ y.2) t ns.length ∧ y.2.length ≤ wT t ∧ ∀ d ∈ y.2, Nice d}, e = .returned (.int .i64 (ns.length : Int)) ∧ St w F [.cells b 136 [y.1.1, st8 x.l, .bool x.bg, .map (some mp)], .row 140 10 y.1.1 (ns ++ y.1.2).length ((ns ++ y.1.2).flatMap fC), .kids (ns ++ y.1.2)] w'
structure LI (ns : List Nd) (t : MT) (q : List MT) (k : Int) (j : Nat) (m : List Nd) (ks : List Nat) : Prop where
  le : j ≤ q.length
  one : k = 5 ∨ k = 4 → j ≤ 1
  laid : laidL (ns ++ (t, .slice none 0 0, []) :: m) (q.take j) ks
  gt : ∀ b ∈ ks, ns.length < b
  len : m.length ≤ wL (q.take j)
  nice : ∀ d ∈ m, Nice d
theorem wL_append : ∀ {a b : List MT}, wL (a ++ b) = wL a + wL b
  | [], b => by rw [wL]; simp
  | t :: a, b => by rw [List.cons_append, wL, wL, wL_append]; omega
theorem wL_take {q : List MT} (j : Nat) : wL (q.take j) ≤ wL q := by
  have h := wL_append (a := q.take j) (b := q.drop j);rw [List.take_append_drop] at h; omega
theorem wL_len : ∀ (q : List MT), q.length ≤ wL q
  | [] => Nat.zero_le _
  | t :: q => by have := wL_len q; cases t; rw [wL, wT_mk, List.length_cons]; omega
theorem LI.next {ns : List Nd} {t u : MT} {q : List MT} {k : Int} {j : Nat} {m m2 : List Nd} {ks : List Nat} (h : LI ns t q k j m ks) (hu : q[j]? = some u) (hone : k = 5 ∨ k = 4 → j = 0) (hl : laidT (ns ++ (t, .slice none 0 0, []) :: m ++ m2) u (ns ++ (t, .slice none 0 0, []) :: m).length) (hlen : m2.length ≤ wT u) (hn : ∀ d ∈ m2, Nice d) :
    LI ns t q k (j + 1) (m ++ m2) (ks ++ [ns.length + m.length + 1]) := by
  have hj := (List.getElem?_eq_some_iff.1 hu);have ht : q.take (j + 1) = q.take j ++ [u] := by rw [List.take_add_one, hu]; rfl
  have e : ns ++ (t, .slice none 0 0, []) :: m ++ m2 = ns ++ (t, .slice none 0 0, []) :: (m ++ m2) := by simp
  refine ⟨hj.1, fun hk => by have := hone hk; omega, ?_, fun b hb => ?_, ?_, fun d hd => ?_⟩
  · rw [ht];refine laidL_snoc (laidL_mono ns.length (fun c _ hc => ?_) _ _ h.gt h.laid) ?_
    · rw [← e, List.getElem?_append_left hc]
    · rw [e] at hl; simpa [Nat.add_assoc] using hl
  · rcases List.mem_append.1 hb with hb | hb
    · exact h.gt b hb
    · rw [List.mem_singleton.1 hb]; omega
  · rw [ht, wL_append, List.length_append];have := h.len;have e1 : wL [u] = wT u := by rw [wL, wL]; rfl
    omega
  · rcases List.mem_append.1 hd with hd | hd
    · exact h.nice d hd
    · exact hn d hd
theorem LI.done {ns : List Nd} {s : Nat → Int} {mi ma nu : Int} {v kv : Value} {q : List MT} {k : Int} {j : Nat} {m : List Nd} {ks : List Nat} (h : LI ns (.mk k s mi ma nu v q) q k j m ks) (hj : j = q.length ∨ (k = 5 ∨ k = 4) ∧ 1 ≤ j) :
    laidT (ns ++ (.mk k s mi ma nu v q, kv, ks) :: m) (.mk k s mi ma nu v q) ns.length := by
  have hm : ∀ b, ns.length < b → b < (ns ++ (MT.mk k s mi ma nu v q, Value.slice none 0 0, []) :: m).length → (ns ++ (MT.mk k s mi ma nu v q, kv, ks) :: m)[b]? = (ns ++ (MT.mk k s mi ma nu v q, Value.slice none 0 0, []) :: m)[b]? := fun b hb _ => by
    rw [List.getElem?_append_right (by omega), List.getElem?_append_right (by omega)];obtain ⟨c, hc⟩ : ∃ c, b - ns.length = c + 1 := ⟨b - ns.length - 1, by omega⟩;rw [hc]; rfl
  have hl := laidL_mono ns.length hm _ _ h.gt h.laid;refine laidT_mk.2 ⟨kv, ks, by rw [List.getElem?_append_right (Nat.le_refl _), Nat.sub_self]; rfl, h.gt, ?_⟩;split
  · rename_i hk
    have h1 := h.one hk;match q, j, hl, hj, h1, h.le with
    | [], 0, hl, _, _, _ => exact laidH_nil.2 (laidL_nil.1 hl)
    | u :: r, 0, _, hj, _, _ => rcases hj with hj | hj <;> simp at hj
    | u :: r, 1, hl, _, _, _ =>
      obtain ⟨b, r', h5, h6, h7⟩ := laidL_cons.1 hl;rw [laidL_nil.1 h7] at h5;exact laidH_cons.2 ⟨b, h5, h6⟩
    | [], 1, _, _, _, h8 => simp at h8
  · rename_i hk
    rcases hj with rfl | hj
    · rwa [List.take_length] at hl
    · exact absurd hj.1 hk
end Go.Proofs.YtjdmdpjbijkjaaaGreat

namespace Go.Proofs.YtjdmdpjbijkjaaaGreat
open Go Go.RowKit
theorem Cx.hW (C : Cx) : C.W ≤ 1000000 := by have := C.hx; unfold Cx.W; omega
section
variable {N : Nat} {R : Regs} {Q : Exit → Act → World → Prop} {ops : Array Oper} {rest : List Oper} {W0 : World} {F : List Nat} {L Lr : List Ent} {X : Act → World → Prop}
variable {ty : TypeId} {pos : String} {af : Array Edge} {gd : Option (Nat × Bool)} {C : Cx} {M : Value → Option Nat} {E : List (Value × Nat)} {d : Nat} {xs : List Operand} {ats : Array TypeId}
theorem g_all {s : Sta} (hall : AllOk C s) (hw : want ops R ⟨some d, .call { callee := .value (.func 49), args := xs.toArray, argTypes := ats }, ty, pos, af, gd⟩ = some true) (hN : Nat.blt d N = true) (hx : xs.mapM (ev R) = some [.pointer (some ⟨C.b, 0, none⟩), kv s])
    (h : ∀ M' E' g, (∀ p, p ∈ E → p ∈ E') → (kv s, g) ∈ E' → G N ((d, slW C.W g) :: R) (St W0 F (C.mt :: C.nd :: .kids C.ns :: C.mo M' E' :: Lr)) (wpList Tryz.prog ops Q rest)) :
    G N R (St W0 F (C.mt :: C.nd :: .kids C.ns :: C.mo M E :: Lr)) (wpList Tryz.prog ops Q (⟨some d, .call { callee := .value (.func 49), args := xs.toArray, argTypes := ats }, ty, pos, af, gd⟩ :: rest)) :=
  g_callOwn (L0 := [C.mt, C.nd, .kids C.ns, C.mo M E]) (fun y : {y : (Value → Option Nat) × List (Value × Nat) × Nat // (∀ p, p ∈ E → p ∈ y.2.1) ∧ (kv s, y.2.2) ∈ y.2.1} => slW C.W y.1.2.2) (fun y => [C.mt, C.nd, .kids C.ns, C.mo y.1.1 y.1.2.1]) hw hN hx Tryz.call49 (fun w hS => hall M E _ w hS.part) fun ⟨⟨M', E', g⟩, h1, h2⟩ => h M' E' g h1 h2
theorem g_joinM {c : Nat → Bool} {g g2 : Nat} {q : Value} (i : Nat) (hw : want ops R ⟨some d, .call { callee := .value (.func 77), args := xs.toArray, argTypes := ats }, ty, pos, af, gd⟩ = some true) (hN : Nat.blt d N = true) (hx : xs.mapM (ev R) = some [slW C.W g, slW C.W g2])
    (hi : Lr[i]? = some (C.mo M E)) (hE : (q, g2) ∈ E) (h : G N ((d, .tuple #[]) :: R) (St W0 F (.row 26 1 (slW C.W g) C.W (wcs C.W (orP c (Sp C.x C.ns q))) :: Lr)) (wpList Tryz.prog ops Q rest)) :
    G N R (St W0 F (.row 26 1 (slW C.W g) C.W (wcs C.W c) :: Lr)) (wpList Tryz.prog ops Q (⟨some d, .call { callee := .value (.func 77), args := xs.toArray, argTypes := ats }, ty, pos, af, gd⟩ :: rest)) :=
  g_callOwn (L0 := [.row 26 1 (slW C.W g) C.W (wcs C.W c)]) (fun _ : Unit => .tuple #[]) (fun _ => [.row 26 1 (slW C.W g) C.W (wcs C.W (orP c (Sp C.x C.ns q)))]) hw hN hx Tryz.call77 (fun w hS => join_any c (Sp C.x C.ns q) g g2 C.W C.hW _ w (by
    have := memo_apart hS (i := i + 1) (j := 0) hi hE rfl (by omega);simpa [List.flatMap_cons] using this) (memo_rd (hS.get (i := i + 1) hi) hE) hS.part) fun _ => h
theorem g_add {c : Nat → Bool} {g k : Nat} (hk : k < 64 * C.W) (hw : want ops R ⟨some d, .call { callee := .value (.func 74), args := xs.toArray, argTypes := ats }, ty, pos, af, gd⟩ = some true) (hN : Nat.blt d N = true) (hx : xs.mapM (ev R) = some [slW C.W g, .int .i64 (k : Int)])
    (h : G N ((d, .tuple #[]) :: R) (St W0 F (.row 26 1 (slW C.W g) C.W (wcs C.W (addP c k)) :: Lr)) (wpList Tryz.prog ops Q rest)) :
    G N R (St W0 F (.row 26 1 (slW C.W g) C.W (wcs C.W c) :: Lr)) (wpList Tryz.prog ops Q (⟨some d, .call { callee := .value (.func 74), args := xs.toArray, argTypes := ats }, ty, pos, af, gd⟩ :: rest)) :=
  g_callOwn (L0 := [.row 26 1 (slW C.W g) C.W (wcs C.W c)]) (fun _ : Unit => .tuple #[]) (fun _ => [.row 26 1 (slW C.W g) C.W (wcs C.W (addP c k))]) hw hN hx Tryz.call74 (fun w hS => add_any c g C.W k hk C.hW _ w hS.part) fun _ => h
end
set_option maxRecDepth 100000 in
theorem clo1_any (C : Cx) (bp bm bs g k a p i : Nat) (mi ma : Int) (c : Nat → Bool) (hr : okS ⟨a, p, mi, ma, i⟩) (hall : AllOk C ⟨a, p + 1, 0, 0, k⟩) (M : Value → Option Nat) (E : List (Value × Nat)) (F : List Nat) (w : World) (hS0 : St w F [.cells bp 104 [slW C.W g], .cells bm 97 [.pointer (some ⟨C.b, 0, none⟩)], .cells bs 101 [.int .i64 (a : Int), .int .i64 (p : Int), .int .i64 mi, .int .i64 ma, .int .i64 (i : Int)], C.mt, C.nd, .kids C.ns, C.mo M E, .row 26 1 (slW C.W g) C.W (wcs C.W c)] w) :
    Calls Tryz.prog 76 #[.int .i64 (k : Int), .pointer (some ⟨bp, 0, none⟩), .pointer (some ⟨bm, 0, none⟩), .pointer (some ⟨bs, 0, none⟩)] w fun e w' => ∃ y : {y : (Value → Option Nat) × List (Value × Nat) // ∀ p, p ∈ E → p ∈ y.2}, e = .returned (.tuple #[]) ∧ St w F [.cells bp 104 [slW C.W g], .cells bm 97 [.pointer (some ⟨C.b, 0, none⟩)], .cells bs 101 [.int .i64 (a : Int), .int .i64 (p : Int), .int .i64 mi, .int .i64 ma, .int .i64 (i : Int)], C.mt, C.nd, .kids C.ns, C.mo y.1.1 y.1.2, .row 26 1 (slW C.W g) C.W (wcs C.W (orP c (Sp C.x C.ns (kv ⟨a, p + 1, 0, 0, k⟩))))] w' := by
 obtain ⟨r1, r2, r3, r4, r5, r6, r7⟩ := id hr;dsimp only at r1 r2 r3 r4 r5 r6 r7;refine fn_intro_own Tryz.func76 rfl Tryz.ntmps76 rfl rfl hS0 (k_go [0,0,0,0,0,0] rfl (by kernel_rfl) (fun _ _ _ _ _ h => h) fun hQ => ?_);refine k_xc 0 [0,0,0,0,0,0] [0] hQ (by kernel_rfl) rfl rfl rfl rfl rfl rfl (by omega) (k_xc 1 [0,0,0,0,0,0] [1] hQ (by kernel_rfl) rfl rfl rfl rfl rfl rfl (by omega) ?_);refine k_x 2 [0,0,0,0,0,0] [] hQ (by kernel_rfl) rfl rfl rfl rfl rfl rfl (k_xc 3 [0,0,0,0,0,0] [2] hQ (by kernel_rfl) rfl rfl rfl rfl rfl rfl (by omega) ?_);refine k_x 4 [0,0,0,0,0,0] [] hQ (by kernel_rfl) rfl rfl rfl rfl rfl rfl (k_xc 5 [0,0,0,0,0,0] [2] hQ (by kernel_rfl) rfl rfl rfl rfl rfl rfl (by omega) ?_);refine k_xc 6 [0,0,0,0,0,0] [] hQ (by kernel_rfl) rfl rfl rfl rfl rfl rfl (by omega) (k_x 7 [0,0,0,0,0,0] [] hQ (by kernel_rfl) rfl rfl rfl rfl rfl rfl ?_);refine k_x 8 [0,0,0,0,0,0] [] hQ (by kernel_rfl) rfl rfl rfl rfl rfl rfl (k_one 9 (by kernel_rfl) ?_);refine k_op 9 rfl (g_ahead [3,3,3,3] rfl ?_);simp only [zc0,zc1];refine g_all (hall) rfl rfl rfl (fun M1 E1 g1 hs1 hm1 => (n_ ?_));refine k_end (zpk [4,4,4,0,0,0] rfl) (k_one 10 (by kernel_rfl) ?_);refine k_op 10 rfl (g_ahead [7] rfl ?_);simp only [zc0,zc1];refine g_joinM 3 rfl rfl rfl rfl hm1 (n_ ?_);refine k_end (zpk [5,5,5,1,1,1] rfl) (k_done (by kernel_rfl) ?_);refine g_end_normal (g_end0 Tryz.results76 ?_);exact fun w hS => ⟨⟨(M1, E1), hs1⟩, rfl, hS.pick [5,5,5,1,1,1,1,0] rfl⟩
set_option maxRecDepth 100000 in
theorem clo2_any (C : Cx) (bp bm bs g k a p i : Nat) (mi ma : Int) (c : Nat → Bool) (hr : okS ⟨a, p, mi, ma, i⟩) (hall : AllOk C (round ⟨a, p, mi, ma, i⟩ k)) (M : Value → Option Nat) (E : List (Value × Nat)) (F : List Nat) (w : World) (hS0 : St w F [.cells bp 104 [slW C.W g], .cells bm 97 [.pointer (some ⟨C.b, 0, none⟩)], .cells bs 101 [.int .i64 (a : Int), .int .i64 (p : Int), .int .i64 mi, .int .i64 ma, .int .i64 (i : Int)], C.mt, C.nd, .kids C.ns, C.mo M E, .row 26 1 (slW C.W g) C.W (wcs C.W c)] w) :
    Calls Tryz.prog 80 #[.int .i64 (k : Int), .pointer (some ⟨bp, 0, none⟩), .pointer (some ⟨bm, 0, none⟩), .pointer (some ⟨bs, 0, none⟩)] w fun e w' => ∃ y : {y : (Value → Option Nat) × List (Value × Nat) // ∀ p, p ∈ E → p ∈ y.2}, e = .returned (.tuple #[]) ∧ St w F [.cells bp 104 [slW C.W g], .cells bm 97 [.pointer (some ⟨C.b, 0, none⟩)], .cells bs 101 [.int .i64 (a : Int), .int .i64 (p : Int), .int .i64 mi, .int .i64 ma, .int .i64 (i : Int)], C.mt, C.nd, .kids C.ns, C.mo y.1.1 y.1.2, .row 26 1 (slW C.W g) C.W (wcs C.W (orP c (Sp C.x C.ns (kv (round ⟨a, p, mi, ma, i⟩ k)))))] w' := by
 obtain ⟨r1, r2, r3, r4, r5, r6, r7⟩ := id hr;dsimp only at r1 r2 r3 r4 r5 r6 r7;refine fn_intro_own Tryz.func80 rfl Tryz.ntmps80 rfl rfl hS0 (k_go [0,0,0,0,0,0] rfl (by kernel_rfl) (fun _ _ _ _ _ h => h) fun hQ => ?_);refine k_xc 0 [0,0,0,0,0,0] [0] hQ (by kernel_rfl) rfl rfl rfl rfl rfl rfl (by omega) (k_xc 1 [0,0,0,0,0,0] [1] hQ (by kernel_rfl) rfl rfl rfl rfl rfl rfl (by omega) ?_);refine k_xc 2 [0,0,0,0,0,0] [2] hQ (by kernel_rfl) rfl rfl rfl rfl rfl rfl (by omega) (k_x 3 [0,0,0,0,0,0] [] hQ (by kernel_rfl) rfl rfl rfl rfl rfl rfl ?_);refine k_call 4 (m_round a p i k mi ma ⟨r4, r5, r6, r7⟩) any_I rfl (by kernel_rfl) hQ rfl rfl rfl (zpk [0,0,0,0,0,0] rfl) (k_one 5 (by kernel_rfl) ?_);refine k_op 5 rfl (g_ahead [3,3,3,3] rfl ?_);simp only [zc0,zc1];refine g_all (hall) rfl rfl rfl (fun M1 E1 g1 hs1 hm1 => (n_ ?_));refine k_end (zpk [4,4,4,0,0,0] rfl) (k_one 6 (by kernel_rfl) ?_);refine k_op 6 rfl (g_ahead [7] rfl ?_);simp only [zc0,zc1];refine g_joinM 3 rfl rfl rfl rfl hm1 (n_ ?_);refine k_end (zpk [5,5,5,1,1,1] rfl) (k_done (by kernel_rfl) ?_);refine g_end_normal (g_end0 Tryz.results80 ?_);exact fun w hS => ⟨⟨(M1, E1), hs1⟩, rfl, hS.pick [5,5,5,1,1,1,1,0] rfl⟩
end Go.Proofs.YtjdmdpjbijkjaaaGreat

namespace Go.Proofs.YtjdmdpjbijkjaaaGreat
open Go Go.RowKit
def foldP (cq : Nat → Bool) (f : Nat → Nat → Bool) (c0 : Nat → Bool) (fr m : Nat) : Nat → Bool := fun j => c0 j || (List.range m).any fun k => decide (fr ≤ k) && cq k && f k j
theorem foldP_zero {cq : Nat → Bool} {f : Nat → Nat → Bool} {c0 : Nat → Bool} {fr : Nat} : foldP cq f c0 fr fr = c0 := by
  funext j
  unfold foldP
  have : ((List.range fr).any fun k => decide (fr ≤ k) && cq k && f k j) = false := by
    rw [Bool.eq_false_iff]; intro h;obtain ⟨k, h1, h2⟩ := any_range.1 h;simp only [Bool.and_eq_true, decide_eq_true_eq] at h2; omega
  rw [this, Bool.or_false]
theorem foldP_succ {cq : Nat → Bool} {f : Nat → Nat → Bool} {c0 : Nat → Bool} {fr m : Nat} (h : cq m = true) (hm : fr ≤ m) : foldP cq f c0 fr (m + 1) = orP (foldP cq f c0 fr m) (f m) := by
  funext j
  unfold foldP orP
  rw [List.range_succ, List.any_append];simp [h, hm, Bool.or_assoc]
theorem foldP_skip {cq : Nat → Bool} {f : Nat → Nat → Bool} {c0 : Nat → Bool} {fr m : Nat} (h : cq m = false) : foldP cq f c0 fr (m + 1) = foldP cq f c0 fr m := by
  funext j
  unfold foldP
  rw [List.range_succ, List.any_append];simp [h]
section
variable {N : Nat} {R : Regs} {Q : Exit → Act → World → Prop} {ops : Array Oper} {rest : List Oper} {W0 : World} {F : List Nat} {Lr : List Ent}
variable {ty : TypeId} {pos : String} {af : Array Edge} {gd : Option (Nat × Bool)} {C : Cx} {M : Value → Option Nat} {E : List (Value × Nat)} {d bp bm bs g g2 fr : Nat} {xs : List Operand} {ats : Array TypeId} {f : FuncId} {cs : List Value} {c : Nat → Bool} {q : Value}
theorem g_each (fk : Nat → Nat → Bool) (hE : (q, g2) ∈ E)
    (hclo : ∀ k, fr ≤ k → k < 64 * C.W → Sp C.x C.ns q k = true → ∀ (c : Nat → Bool) (M : Value → Option Nat) (E : List (Value × Nat)) (F : List Nat) (w : World), St w F [.cells bp 104 [slW C.W g], .cells bm 97 [.pointer (some ⟨C.b, 0, none⟩)], .cells bs 101 cs, C.mt, C.nd, .kids C.ns, C.mo M E, .row 26 1 (slW C.W g) C.W (wcs C.W c)] w →
      Calls Tryz.prog f #[.int .i64 (k : Int), .pointer (some ⟨bp, 0, none⟩), .pointer (some ⟨bm, 0, none⟩), .pointer (some ⟨bs, 0, none⟩)] w fun e w' => ∃ y : {y : (Value → Option Nat) × List (Value × Nat) // ∀ p, p ∈ E → p ∈ y.2}, e = .returned (.tuple #[]) ∧ St w F [.cells bp 104 [slW C.W g], .cells bm 97 [.pointer (some ⟨C.b, 0, none⟩)], .cells bs 101 cs, C.mt, C.nd, .kids C.ns, C.mo y.1.1 y.1.2, .row 26 1 (slW C.W g) C.W (wcs C.W (orP c (fk k)))] w')
    (hf : ∀ args w, (callFunc f args).run Tryz.prog w = .ok (.enter f args) w) (hfr : fr ≤ 64 * C.W)
    (hw : want ops R ⟨some d, .call { callee := .value (.func 75), args := xs.toArray, argTypes := ats }, ty, pos, af, gd⟩ = some true) (hN : Nat.blt d N = true) (hx : xs.mapM (ev R) = some [slW C.W g2, .int .i64 (fr : Int), .func (.func f) #[] #[.pointer (some ⟨bp, 0, none⟩), .pointer (some ⟨bm, 0, none⟩), .pointer (some ⟨bs, 0, none⟩)]])
    (h : ∀ M' E', (∀ p, p ∈ E → p ∈ E') → G N ((d, .tuple #[]) :: R) (St W0 F (.cells bp 104 [slW C.W g] :: .cells bm 97 [.pointer (some ⟨C.b, 0, none⟩)] :: .cells bs 101 cs :: C.mt :: C.nd :: .kids C.ns :: C.mo M' E' :: .row 26 1 (slW C.W g) C.W (wcs C.W (foldP (Sp C.x C.ns q) fk c fr (64 * C.W))) :: Lr)) (wpList Tryz.prog ops Q rest)) :
    G N R (St W0 F (.cells bp 104 [slW C.W g] :: .cells bm 97 [.pointer (some ⟨C.b, 0, none⟩)] :: .cells bs 101 cs :: C.mt :: C.nd :: .kids C.ns :: C.mo M E :: .row 26 1 (slW C.W g) C.W (wcs C.W c) :: Lr)) (wpList Tryz.prog ops Q (⟨some d, .call { callee := .value (.func 75), args := xs.toArray, argTypes := ats }, ty, pos, af, gd⟩ :: rest)) := by
  let J : Nat → World → Prop := fun m w => ∃ M' E', (∀ p, p ∈ E → p ∈ E') ∧ St W0 F ([.cells bp 104 [slW C.W g], .cells bm 97 [.pointer (some ⟨C.b, 0, none⟩)], .cells bs 101 cs, C.mt, C.nd, .kids C.ns, C.mo M' E', .row 26 1 (slW C.W g) C.W (wcs C.W (foldP (Sp C.x C.ns q) fk c fr m))] ++ Lr) w
  refine g_call (α := {y : (Value → Option Nat) × List (Value × Nat) // ∀ p, p ∈ E → p ∈ y.2}) (fun _ => .tuple #[]) (fun y => St W0 F (.cells bp 104 [slW C.W g] :: .cells bm 97 [.pointer (some ⟨C.b, 0, none⟩)] :: .cells bs 101 cs :: C.mt :: C.nd :: .kids C.ns :: C.mo y.1.1 y.1.2 :: .row 26 1 (slW C.W g) C.W (wcs C.W (foldP (Sp C.x C.ns q) fk c fr (64 * C.W))) :: Lr)) hw hN hx Tryz.call75 (fun w hS => ?_) fun y => h y.1.1 y.1.2 y.2;refine (each_any (Sp C.x C.ns q) g2 C.W fr f #[.pointer (some ⟨bp, 0, none⟩), .pointer (some ⟨bm, 0, none⟩), .pointer (some ⟨bs, 0, none⟩)] J C.hW hf ?_ ?_ ?_ ?_ hfr w ⟨M, E, fun _ h => h, by rw [foldP_zero]; exact hS⟩).mono fun e w' hh => ?_
  · rintro m w ⟨M', E', hs, hS⟩;exact memo_rd (hS.get (i := 6) rfl) (hs _ hE)
  · rintro m w w' ⟨M', E', hs, hS⟩ hb;exact ⟨M', E', hs, by simpa using hS.then (St.of_below hb)⟩
  · rintro m w _ _ hc ⟨M', E', hs, hS⟩;exact ⟨M', E', hs, by rw [foldP_skip hc]; exact hS⟩
  · rintro m w hm1 hm2 hc ⟨M', E', hs, hS⟩;refine (hclo m hm1 hm2 hc _ M' E' _ w hS.part).mono ?_;rintro e w' ⟨⟨⟨M2, E2⟩, hs2⟩, he, hS2⟩;refine ⟨he, M2, E2, fun p hp => hs2 p (hs p hp), ?_⟩;rw [foldP_succ hc hm1];exact St.join hS (fun k hk => by obtain ⟨u, hu, hk⟩ := List.mem_flatMap.1 hk; exact ⟨u, hu, hk⟩) hS2
  · obtain ⟨he, M', E', hs, hS'⟩ := hh;exact ⟨⟨(M', E'), hs⟩, he, hS'⟩
end
end Go.Proofs.YtjdmdpjbijkjaaaGreat

namespace Go.Proofs.YtjdmdpjbijkjaaaGreat
open Go Go.RowKit
theorem kid_sl {ns : List Nd} {w : World} {a : Nat} {t : MT} {v : Value} {ks : List Nat} (h : kidsOk ns w) (ha : ns[a]? = some (t, v, ks)) : ks.length ≤ maxLen ∧ ((ks = [] ∧ v = .slice none 0 0) ∨ ∃ g c, v = .slice (some ⟨g, 0, none⟩) ks.length c) := by
  have ho := h _ (List.mem_of_getElem? ha);refine ⟨row_le' ho, ?_⟩;obtain ⟨_, ⟨h1, h2⟩ | ⟨g, cap, cur, h1, _⟩⟩ := ho
  · exact .inl ⟨List.length_eq_zero_iff.1 h2, h1⟩
  · exact .inr ⟨g, cap, h1⟩
section
variable {N : Nat} {R : Regs} {Q : Exit → Act → World → Prop} {ops : Array Oper} {rest : List Oper} {W0 : World} {F : List Nat} {L Lr : List Ent}
variable {dst : Option Tmp} {ty ti : TypeId} {pos : String} {af : Array Edge} {gd : Option (Nat × Bool)} {C : Cx} {M : Value → Option Nat} {E : List (Value × Nat)} {d : Nat} {x : Operand} {xs : List Operand} {ats : Array TypeId}
theorem y_ldK {ns : List Nd} {a n c g p kk : Nat} {t : MT} {ks : List Nat} (i : Nat) (hi : L[i]? = some (.kids ns)) (ha : ns[a]? = some (t, .slice (some ⟨g, 0, none⟩) n c, ks)) (hp : ks[p]? = some kk) (hx : ev R x = some (.pointer (some ⟨g, p, none⟩))) (hg : ∀ w, (isAgg ti).run Tryz.prog w = .ok false w) :
    Yv Tryz.prog N R (St W0 F L) ⟨dst, .load ti x, ty, pos, af, gd⟩ (.int .i64 (kk : Int)) :=
  y_load1 hx hg fun w hS => row_cell ((hS.get hi : kidsOk ns w) _ (List.mem_of_getElem? ha)) (by simp [hp])
def KidOk (C : Cx) (cs : List Value) (q : List MT) (i : Nat) : Prop := ∀ (M : Value → Option Nat) (E : List (Value × Nat)) (F : List Nat) (w : World), St w F [C.mt, C.nd, .kids C.ns, C.mo M E] w →
  Calls Tryz.prog 78 #[.pointer (some ⟨C.b, 0, none⟩), .agg cs.toArray, .int .i64 (i : Int)] w fun e w' => ∃ y : {y : (Value → Option Nat) × List (Value × Nat) × Value × Nat // (∀ p, p ∈ E → p ∈ y.2.1) ∧ (y.2.2.1, y.2.2.2) ∈ y.2.1 ∧ Sp C.x C.ns y.2.2.1 = mKid C.x q i}, e = .returned (slW C.W y.1.2.2.2) ∧ St w F [C.mt, C.nd, .kids C.ns, C.mo y.1.1 y.1.2.1] w'
theorem g_kid {cs : List Value} {q : List MT} {i : Nat} (hkid : KidOk C cs q i) (hw : want ops R ⟨some d, .call { callee := .value (.func 78), args := xs.toArray, argTypes := ats }, ty, pos, af, gd⟩ = some true) (hN : Nat.blt d N = true) (hx : xs.mapM (ev R) = some [.pointer (some ⟨C.b, 0, none⟩), .agg cs.toArray, .int .i64 (i : Int)])
    (h : ∀ M' E' q' g, (∀ p, p ∈ E → p ∈ E') → (q', g) ∈ E' → Sp C.x C.ns q' = mKid C.x q i → G N ((d, slW C.W g) :: R) (St W0 F (C.mt :: C.nd :: .kids C.ns :: C.mo M' E' :: Lr)) (wpList Tryz.prog ops Q rest)) :
    G N R (St W0 F (C.mt :: C.nd :: .kids C.ns :: C.mo M E :: Lr)) (wpList Tryz.prog ops Q (⟨some d, .call { callee := .value (.func 78), args := xs.toArray, argTypes := ats }, ty, pos, af, gd⟩ :: rest)) :=
  g_callOwn (L0 := [C.mt, C.nd, .kids C.ns, C.mo M E]) (fun y : {y : (Value → Option Nat) × List (Value × Nat) × Value × Nat // (∀ p, p ∈ E → p ∈ y.2.1) ∧ (y.2.2.1, y.2.2.2) ∈ y.2.1 ∧ Sp C.x C.ns y.2.2.1 = mKid C.x q i} => slW C.W y.1.2.2.2) (fun y => [C.mt, C.nd, .kids C.ns, C.mo y.1.1 y.1.2.1]) hw hN hx Tryz.call78 (fun w hS => hkid M E _ w hS.part) fun ⟨⟨M', E', q', g⟩, h1, h2, h3⟩ => h M' E' q' g h1 h2 h3
end
theorem single_eq {x : Tx} {ns : List Nd} {i : Nat} : addP (fun _ => false) i = Sp x ns (.int .i64 (i : Int)) := by
  funext j; show (false || decide (j = i)) = decide (j = (i : Int).toNat); simp
set_option maxRecDepth 100000 in
theorem kid_nil (C : Cx) (k : Int) (s : Nat → Int) (nmi nma nnu : Int) (v1 : Option Addr) (v2 v3 i : Nat) (hi : i ≤ C.x.n) (u1 : Option Addr) (u3 : Nat) (M : Value → Option Nat) (E : List (Value × Nat)) (F : List Nat) (w : World) (hS0 : St w F [C.mt, C.nd, .kids C.ns, C.mo M E] w) :
    Calls Tryz.prog 78 #[.pointer (some ⟨C.b, 0, none⟩), .agg ([.int .i64 k, .int .u64 (s 0), .int .u64 (s 1), .int .u64 (s 2), .int .u64 (s 3), .int .i64 nmi, .int .i64 nma, .int .i64 nnu, .slice v1 v2 v3, .slice u1 0 u3]).toArray, .int .i64 (i : Int)] w fun e w' => ∃ y : {y : (Value → Option Nat) × List (Value × Nat) × Value × Nat // (∀ p, p ∈ E → p ∈ y.2.1) ∧ (y.2.2.1, y.2.2.2) ∈ y.2.1 ∧ Sp C.x C.ns y.2.2.1 = mKid C.x [] i}, e = .returned (slW C.W y.1.2.2.2) ∧ St w F [C.mt, C.nd, .kids C.ns, C.mo y.1.1 y.1.2.1] w' := by
 have hx := C.hx;have hW := C.hW;refine fn_intro_own Tryz.func78 rfl Tryz.ntmps78 rfl rfl hS0 (s_ (o_ ?_));refine g_box rfl rfl rfl rfl (fun b1 => (xg 1 [] rfl rfl ?_));refine n_ (t_ (s_ (s_ (o_ (xg 2 [0] rfl (by omega) ?_)))));refine g_val (v := .int .i64 0) rfl rfl rfl (y_llen rfl Tryz.underlying138) (xg 1 [1] rfl (by omega) ?_);refine n_ (t_ (g_cond_t rfl (s_ (o_ (xg 4 [1] rfl (by omega) ?_)))));refine g_val (v := .int .i64 (C.x.n : Int)) rfl rfl rfl (y_val (y_slen rfl Tryz.underlying9) (by rw [size_mk]; rfl)) (g_val (v := .int .i64 ((C.x.n / 64 : Nat) : Int)) rfl rfl rfl (y_val (y_iquo rfl rfl (by decide)) (by rw [quo64, wrap_in (by omega)])) ?_);refine g_val (v := .int .i64 (C.W : Int)) rfl rfl rfl (y_val (y_iadd rfl rfl) (by rw [wrap_in (by omega)]; rfl)) (g_makeWords rfl rfl rfl rfl Tryz.underlying104 rfl rfl rfl rfl C.hW (fun gp => ?_));refine xg 1 [] rfl rfl (ntso_ ?_);refine xg 2 [] rfl rfl (g_add (k := i) (by unfold Cx.W; omega) rfl rfl rfl ?_);refine n_ (t_ (s_ (g_ahead [5,0] rfl ?_)));simp only [zc0,zc1];refine g_memoAdd (q := .int .i64 (i : Int)) single_eq (o_ ?_);refine xg 2 [] rfl rfl (n_ (t_ (g_ret (g_then_ret ?_))));refine g_end1 Tryz.results78 rfl ?_;exact fun w hS => ⟨⟨(M, (.int .i64 (i : Int), gp) :: E, .int .i64 (i : Int), gp), fun p hp => List.mem_cons_of_mem _ hp, List.mem_cons_self .., by rw [← single_eq]; funext j; rw [mKid_nil]; simp [addP]⟩, rfl, hS.pick [2,2,2,0] rfl⟩
set_option maxRecDepth 100000 in
theorem kid_some (C : Cx) (k : Int) (s : Nat → Int) (nmi nma nnu : Int) (v1 : Option Addr) (v2 v3 i : Nat) (hi : i ≤ C.x.n) (gk ck a kk : Nat) (ks : List Nat) (t u : MT) (r : List MT) (ha : C.ns[a]? = some (t, .slice (some ⟨gk, 0, none⟩) ks.length ck, ks)) (hkk : ks[0]? = some kk) (hlen : 0 < ks.length ∧ ks.length ≤ maxLen) (hlu : laidT C.ns u kk) (hall : AllOk C (beg C.x C.ns kk i)) (M : Value → Option Nat) (E : List (Value × Nat)) (F : List Nat) (w : World) (hS0 : St w F [C.mt, C.nd, .kids C.ns, C.mo M E] w) :
    Calls Tryz.prog 78 #[.pointer (some ⟨C.b, 0, none⟩), .agg ([.int .i64 k, .int .u64 (s 0), .int .u64 (s 1), .int .u64 (s 2), .int .u64 (s 3), .int .i64 nmi, .int .i64 nma, .int .i64 nnu, .slice v1 v2 v3, .slice (some ⟨gk, 0, none⟩) ks.length ck]).toArray, .int .i64 (i : Int)] w fun e w' => ∃ y : {y : (Value → Option Nat) × List (Value × Nat) × Value × Nat // (∀ p, p ∈ E → p ∈ y.2.1) ∧ (y.2.2.1, y.2.2.2) ∈ y.2.1 ∧ Sp C.x C.ns y.2.2.1 = mKid C.x (u :: r) i}, e = .returned (slW C.W y.1.2.2.2) ∧ St w F [C.mt, C.nd, .kids C.ns, C.mo y.1.1 y.1.2.1] w' := by
 have hx := C.hx;have hW := C.hW;obtain ⟨k2, s2, mi2, ma2, nu2, v12, u12, v22, v32, u22, u32, q2, ks2, rfl, hb, _, _⟩ := Cx.node hlu;refine fn_intro_own Tryz.func78 rfl Tryz.ntmps78 rfl rfl hS0 (s_ (o_ ?_));refine g_box rfl rfl rfl rfl (fun b1 => (xg 1 [] rfl rfl ?_));refine n_ (t_ (s_ (s_ (o_ (xg 2 [0] rfl (by omega) ?_)))));refine g_val (v := .int .i64 ((ks.length : Nat) : Int)) rfl rfl rfl (y_llen rfl Tryz.underlying138) (xg 1 [2] rfl (by omega) ?_);refine n_ (t_ (g_cond_f rfl (g_skip (t_ (s_ (o_ (xg 4 [0] rfl (by omega) ?_)))))));refine g_val rfl rfl rfl (y_idxAddr (m := 0) rfl rfl Tryz.underlying138 Tryz.sizeOf3 (by decide) (by omega) rfl) (g_val (v := .int .i64 (kk : Int)) rfl rfl rfl (y_ldK (p := 0) 3 rfl ha hkk rfl Tryz.isAgg3) ?_);refine xg 1 [] rfl rfl (g_c1 (m_begin C.b C.mp kk i _ C.x C.ns k2 s2 mi2 ma2 nu2 v12 u12 v22 v32 u22 u32 q2 ks2 hb C.hx) (fun w hS => Cx.mi hS (i := 1) (j := 2) rfl rfl) rfl rfl rfl ?_);refine g_ahead [1,1,1,1] rfl ?_;simp only [zc0,zc1];refine g_all (hall) rfl rfl rfl (fun M1 E1 g1 hs1 hm1 => (xg 1 [] rfl rfl ?_));refine n_ (t_ (g_ret (g_end1 Tryz.results78 rfl ?_)));exact fun w hS => ⟨⟨(M1, E1, kv (beg C.x C.ns kk i), g1), hs1, hm1, by rw [Sp_kv, spec_beg hlu]; funext j; rw [mKid_cons]⟩, rfl, hS.pick [0,0,0,0] rfl⟩
set_option maxRecDepth 100000 in
theorem kid_ok {C : Cx} {k : Int} {s : Nat → Int} {nmi nma nnu : Int} {v1 : Option Addr} {v2 v3 i a : Nat} {q : List MT} {ks : List Nat} (hi : i ≤ C.x.n) {u1 : Option Addr} {u2 u3 : Nat} {t : MT} (ha : C.ns[a]? = some (t, .slice u1 u2 u3, ks)) (hl : laidH C.ns q ks) (hall : ∀ u r c, q = u :: r → laidT C.ns u c → AllOk C (beg C.x C.ns c i)) :
    KidOk C [.int .i64 k, .int .u64 (s 0), .int .u64 (s 1), .int .u64 (s 2), .int .u64 (s 3), .int .i64 nmi, .int .i64 nma, .int .i64 nnu, .slice v1 v2 v3, .slice u1 u2 u3] q i := fun M E F w hS0 => by
  obtain ⟨hle, ⟨h1, h2⟩ | ⟨g, c, h2⟩⟩ := kid_sl (hS0.get (i := 2) rfl) ha
  · cases h2;subst h1;cases q with
    | nil => exact kid_nil C k s nmi nma nnu v1 v2 v3 i hi none 0 M E F w hS0
    | cons u r => obtain ⟨b, h, _⟩ := laidH_cons.1 hl; cases h
  · cases h2;cases q with
    | nil =>
      obtain rfl := laidH_nil.1 hl;exact kid_nil C k s nmi nma nnu v1 v2 v3 i hi (some ⟨g, 0, none⟩) _ M E F w hS0
    | cons u r =>
      obtain ⟨b, rfl, h3⟩ := laidH_cons.1 hl;exact kid_some C k s nmi nma nnu v1 v2 v3 i hi g _ a b [b] t u r ha rfl ⟨by simp, hle⟩ h3 (hall u r b rfl h3) M E F w hS0
end Go.Proofs.YtjdmdpjbijkjaaaGreat

namespace Go.Proofs.YtjdmdpjbijkjaaaGreat
open Go Go.RowKit
def kC (k : Nat) : List Value := [.int .i64 (k : Int)]
theorem kC_len (k : Nat) : (kC k).length = 1 := rfl
theorem kC_map (ks : List Nat) : ks.flatMap kC = ks.map fun k : Nat => .int .i64 (k : Int) := by
  induction ks with
  | nil => rfl
  | cons k ks ih => rw [List.flatMap_cons, ih]; rfl
theorem y_rdAggF {P : Program} {N : Nat} {R : Regs} {W0 : World} {F : List Nat} {L : List Ent} {dst : Option Tmp} {ty t : TypeId} {pos : String} {af : Array Edge} {gd : Option (Nat × Bool)} {x : Operand} {p : Option Addr} {n sz : Nat} {i : Int} {f : Nat → Nat → Value} {vs : List Value} (hr : RdSl W0 p n sz f) (hF : (p.getD default).block ∉ F) (hx : ev R x = some (.pointer (some ((p.getD default).add (i.toNat * sz))))) (ha : ∀ w, (isAgg t).run P w = .ok true w) (hz : ∀ w, (sizeOf t).run P w = .ok sz w) (h0 : 0 ≤ i) (h1 : i < n) (hl : vs.length = sz) (hv : ∀ j, j < sz → vs[j]? = some (f i.toNat j)) :
    Yv P N R (St W0 F L) ⟨dst, .load t x, ty, pos, af, gd⟩ (.agg vs.toArray) := fun a w hR hS => by
  have hl2 : (loadCells ((p.getD default).add (i.toNat * sz)) vs.length).run P w = .ok vs.toArray w :=
    run_loadCells_list (P := P) w _ vs (fun j v hj => by
      have hlt : j < vs.length := (List.getElem?_eq_some_iff.1 hj).1;rw [add_add2, rd_cellF hr hF (by omega) (by omega) w hS, ← hv j (by omega), hj])
  rw [hl] at hl2;simp [execOp, hR.eval hx, Instr.loadAt, Instr.sureAddr, loadVar, Sem.run_bind, ha, hz, hl2]
theorem rd_facts {w : World} {k : Int} {s : Nat → Int} {mi ma nu : Int} {pq : Option Addr} {cq : Nat} {q : List MT} {F : List Nat} (h : (MT.mk k s mi ma nu (.slice pq q.length cq) q).rd w) (hd : ∀ j, j ∈ (MT.mk k s mi ma nu (.slice pq q.length cq) q).bk → j ∉ F) :
    RdSl w pq q.length 9 (fun i j => ((nC (q.getD i default))[j]?).getD default) ∧ (0 < q.length → (pq.getD default).block ∉ F) ∧ (∀ (i : Nat) (u : MT), q[i]? = some u → u.rd w ∧ (∀ j, j ∈ u.bk → j ∉ F) ∧ ∃ p n c, u.v = .slice p n c) := by
  obtain ⟨⟨p, c, hv, hr⟩, h2⟩ := rd_mk.1 h;cases hv;rw [bk_mk] at hd;refine ⟨hr, fun h0 => ?_, fun i u hu => ?_⟩
  · refine hd _ (List.mem_append_left _ ?_);obtain ⟨n, hn⟩ : ∃ n, q.length = n + 1 := ⟨q.length - 1, by omega⟩;rw [hn]; exact List.mem_singleton.2 rfl
  · have hm := List.mem_of_getElem? hu;refine ⟨rdL_mem h2 hm, fun j hj => hd j (List.mem_append_right _ (bkL_mem hm j hj)), ?_⟩;have := rdL_mem h2 hm;cases u with | mk k s mi ma nu v q' =>
    obtain ⟨⟨p, c, hv, _⟩, _⟩ := rd_mk.1 this;exact ⟨_, _, _, hv⟩
theorem St.okOf {W w : World} {F : List Nat} {L : List Ent} {u : MT} (hS : St W F L w) (h : u.rd W) (hd : ∀ j, j ∈ u.bk → j ∉ F) : u.rd w := MT.rd_stable u (fun k hk => hS.keep k (MT.rd_inb u h k hk) (hd k hk)) h
theorem St.outOf {W w : World} {F : List Nat} {L0 Lr : List Ent} {u : MT} (hS : St W F (L0 ++ Lr) w) (h : u.rd W) (hd : ∀ j, j ∈ u.bk → j ∉ F) (k : Nat) (hk : k ∈ u.bk) : k ∉ L0.flatMap Ent.fp := fun hk2 => by
  obtain ⟨e, he, hk2⟩ := List.mem_flatMap.1 hk2;rcases hS.own e (List.mem_append_left _ he) k hk2 with h1 | h1
  · have := MT.rd_inb u h k hk; omega
  · exact hd k hk h1
theorem wT_take {q : List MT} {j : Nat} {u : MT} (h : q[j]? = some u) : wL (q.take j) + wT u ≤ wL q := by
  have h1 := wL_take (q := q) (j + 1);rw [List.take_add_one, h, wL_append] at h1;have e1 : wL [u] = wT u := by rw [wL, wL]; rfl
  have : wL (some u).toList = wT u := e1;omega
theorem set_mid (ns m : List Nd) (a b : Nd) : (ns ++ a :: m).set ns.length b = ns ++ b :: m := by
  rw [List.set_append, if_neg (Nat.lt_irrefl _), Nat.sub_self]; rfl
theorem get_mid (ns m : List Nd) (a : Nd) : (ns ++ a :: m)[ns.length]? = some a := by
  rw [List.getElem?_append_right (Nat.le_refl _), Nat.sub_self]; rfl
theorem len_mid (ns m : List Nd) (a : Nd) : (ns ++ a :: m).length = ns.length + m.length + 1 := by simp; omega
theorem app_mid (ns m m2 : List Nd) (a : Nd) : ns ++ a :: m ++ m2 = ns ++ a :: (m ++ m2) := by simp
end Go.Proofs.YtjdmdpjbijkjaaaGreat

namespace Go.Proofs.YtjdmdpjbijkjaaaGreat
open Go Go.RowKit
set_option maxRecDepth 100000 in
theorem lay_any (b mp : Nat) (tx : Tx) (k : Int) (s : Nat → Int) (nmi nma nnu : Int) (pq : Option Addr) (cq : Nat) (q : List MT) (ih : ∀ u, u ∈ q → LayOk b mp tx u) (ns : List Nd) (vn : Value) (F : List Nat) (w : World) (hok : MT.rd w (MT.mk k s nmi nma nnu (Value.slice pq q.length cq) q)) (hdis : ∀ kk, kk ∈ MT.bk (MT.mk k s nmi nma nnu (Value.slice pq q.length cq) q) → kk ∉ F) (hle : ns.length + (1 + wL q) ≤ 1000000) (hS0 : St w F [.cells b 136 [vn, st8 tx.l, .bool tx.bg, .map (some mp)], .row 140 10 vn ns.length (ns.flatMap fC), .kids ns] w) :
    Calls Tryz.prog 72 #[.pointer (some ⟨b, 0, none⟩), .agg (nC (MT.mk k s nmi nma nnu (Value.slice pq q.length cq) q)).toArray] w fun e w' => ∃ y : {y : Value × List Nd // laidT (ns ++ y.2) (MT.mk k s nmi nma nnu (Value.slice pq q.length cq) q) ns.length ∧ y.2.length ≤ 1 + wL q ∧ ∀ d ∈ y.2, Nice d}, e = .returned (.int .i64 (ns.length : Int)) ∧ St w F [.cells b 136 [y.1.1, st8 tx.l, .bool tx.bg, .map (some mp)], .row 140 10 y.1.1 (ns ++ y.1.2).length ((ns ++ y.1.2).flatMap fC), .kids (ns ++ y.1.2)] w' := by
 obtain ⟨hrq, hFq, hqk⟩ := rd_facts hok hdis;have hql := wL_len q;refine fn_intro_own Tryz.func72 rfl Tryz.ntmps72 rfl rfl hS0 (s_ (o_ ?_));refine g_box rfl rfl rfl rfl (fun b1 => (xg 1 [] rfl rfl ?_));refine ntso_ (xg 4 [1] rfl (by omega) ?_);refine g_rowLen 2 rfl (fun pr1 cr1 hv1 => ?_);cases hv1;refine g_val rfl rfl rfl (y_llen rfl Tryz.underlying134) (xg 1 [] rfl rfl ?_);refine n_ (t_ (s_ (k_go [0,2] rfl (by kernel_rfl) (fun _ _ _ _ _ h => h) fun hQ => ?_)));refine k_x 0 [0,2] [] hQ (by kernel_rfl) rfl rfl rfl rfl rfl rfl (k_x 1 [0,2] [] hQ (by kernel_rfl) rfl rfl rfl rfl rfl rfl ?_);refine k_x 2 [0,2] [] hQ (by kernel_rfl) rfl rfl rfl rfl rfl rfl (k_x 3 [0,2] [] hQ (by kernel_rfl) rfl rfl rfl rfl rfl rfl ?_);refine k_xc 5 [0,2] [0] hQ (by kernel_rfl) rfl rfl rfl rfl rfl rfl (by omega) (k_take (v := .agg (fC ((MT.mk k s nmi nma nnu (Value.slice pq q.length cq) q), .slice none 0 0, [])).toArray) 6 rfl (by kernel_rfl) hQ rfl rfl rfl (zpk [0,2] rfl) (y_builtE (z := fC ((MT.mk k s nmi nma nnu (Value.slice pq q.length cq) q), .slice none 0 0, [])) rfl (by kernel_rfl)) ?_);refine k_all [4,7] (by kernel_rfl) (by simp) ⟨?_, ?_, trivial⟩
 ·refine k_op 4 rfl (xg 1 [1] rfl (by omega) ?_);refine n_ (k_end (zpk [0,2] rfl) ?_);refine k_one 7 (by kernel_rfl) (k_op 7 rfl ?_);refine g_buildSlice (offs := [0]) rfl rfl Tryz.underlying134 rfl Tryz.zeroValue140 (by kernel_rfl) (fun b2 => (n_ ?_));refine k_end (zpk [1,3] rfl) (k_one 8 (by kernel_rfl) ?_);refine k_op 8 rfl (g_appS (bytes := 112) fC (((MT.mk k s nmi nma nnu (Value.slice pq q.length cq) q), Value.slice none 0 0, [])) 3 (j := 0) rfl rfl rfl rfl Tryz.underlying134 (by kernel_rfl) rfl rfl fC_len rfl (by omega) (by have : maxLen = 9223372036854775807 := rfl; omega) (fun v3 => ?_));simp only [zs0,zs1];refine n_ (k_end (zpk [1,3] rfl) ?_);refine k_x 9 [1,3] [] hQ (by kernel_rfl) rfl rfl rfl rfl rfl rfl (k_x 10 [1,3] [] hQ (by kernel_rfl) rfl rfl rfl rfl rfl rfl ?_);refine k_one 11 (by kernel_rfl) (k_op 11 rfl ?_);refine g_rowLen 3 rfl (fun pr2 cr2 hv2 => ?_);cases hv2;refine g_st 2 rfl rfl rfl Tryz.sizeOf134 rfl rfl rfl ?_;simp only [zs0,zs1];refine n_ (k_end (zpk [1,3] rfl) ?_);refine k_done (by kernel_rfl) (t_ (s_ ?_));refine g_ahead [4] rfl ?_;simp only [zc0,zc1];refine g_kidsNil (t := (MT.mk k s nmi nma nnu (Value.slice pq q.length cq) q)) (o_ ?_);refine g_nilRow 3 1 (g_val rfl rfl rfl (y_assign rfl) ?_);refine n_ (t_ (s_ (s_ (o_ (xg 2 [3] rfl (by omega) ?_)))));refine g_val (v := .int .i64 ((q.length : Nat) : Int)) rfl rfl rfl (y_llen rfl Tryz.underlying29) (xg 1 [] rfl rfl ?_);refine n_ (t_ (g_block (g_loop (α := {x : Nat × Value × List Nd × Value × List Nat // LI ns (MT.mk k s nmi nma nnu (Value.slice pq q.length cq) q) q k x.1 x.2.2.1 x.2.2.2.2}) (fun x => [(0, .pointer (some ⟨b, 0, none⟩)), (3, .pointer (some ⟨b1, 0, none⟩)), (5, .int .i64 (ns.length : Int)), (6, x.1.2.2.2.1), (26, .slice pq q.length cq), (27, .int .i64 ((q.length : Nat) : Int)), (28, .int .i64 (x.1.1 : Int))]) (fun x => St w F [.cells b1 31 (nC (MT.mk k s nmi nma nnu (Value.slice pq q.length cq) q)), .cells b 136 [x.1.2.1, st8 tx.l, .bool tx.bg, .map (some mp)], .row 140 10 x.1.2.1 (ns ++ ((MT.mk k s nmi nma nnu (Value.slice pq q.length cq) q), Value.slice none 0 0, []) :: x.1.2.2.1).length ((ns ++ ((MT.mk k s nmi nma nnu (Value.slice pq q.length cq) q), Value.slice none 0 0, []) :: x.1.2.2.1).flatMap fC), .kids (ns ++ ((MT.mk k s nmi nma nnu (Value.slice pq q.length cq) q), Value.slice none 0 0, []) :: x.1.2.2.1), .row 3 1 x.1.2.2.2.1 x.1.2.2.2.2.length (x.1.2.2.2.2.flatMap kC)]) (fun x => q.length - x.1.1) ⟨(0, (.slice pr2 ((ns ++ [((MT.mk k s nmi nma nnu (Value.slice pq q.length cq) q), Value.slice none 0 0, [])]).length) cr2), [], Value.slice none 0 0, []), ⟨Nat.zero_le _, fun _ => Nat.zero_le _, laidL_nil.2 rfl, (fun b hb => by cases hb), Nat.zero_le _, fun d hd => by cases hd⟩⟩ [0, 3, 5, 6, 26, 27, 28] rfl (zpk [3,3,3,1,0] rfl) ?_)));rintro ⟨⟨j, vn1, m, vi, ks⟩, hli⟩;dsimp only;dsimp only at hli;have hlj := hli.le;have hlen := hli.len;have hwj := wL_take (q := q) j;refine s_ (o_ (xg 1 [0] rfl rfl ?_));refine n_ (t_ (s_ (g_casep 29 rfl (fun h3 => ?_) fun h3 => ?_)))
  ·refine g_cond_t rfl (g_skip (t_ (s_ (g_block (s_ ?_)))));obtain ⟨u, hu⟩ : ∃ u, q[j]? = some u := ⟨_, List.getElem?_eq_getElem (by omega)⟩;have huk := hqk j u hu;obtain ⟨v12, v22, v32, huv⟩ := huk.2.2;obtain ⟨k2, s2, mi2, ma2, nu2, v2, q2⟩ := u;obtain rfl : v2 = .slice v12 v22 v32 := huv;refine o_ (xg 1 [] rfl rfl ?_);refine g_val rfl rfl rfl (y_rdAddr hrq rfl rfl Tryz.underlying29 Tryz.sizeOf31 (by omega) (by omega)) (g_val (v := .agg (nC (.mk k2 s2 mi2 ma2 nu2 (.slice v12 v22 v32) q2)).toArray) rfl rfl rfl (y_rdAggF (i := (j : Int)) (vs := nC (.mk k2 s2 mi2 ma2 nu2 (.slice v12 v22 v32) q2)) hrq (hFq (by omega)) rfl Tryz.isAgg31 Tryz.sizeOf31 (by omega) (by omega) (nC_len _) (fun jj hjj => by rw [Int.toNat_natCast, List.getD_eq_getElem?_getD, hu]; rw [Option.getD_some, List.getElem?_eq_getElem (show jj < (nC (.mk k2 s2 mi2 ma2 nu2 (.slice v12 v22 v32) q2)).length by rw [nC_len]; exact hjj)]; rfl)) ?_);refine g_alloc rfl rfl Tryz.zeroValue31 rfl (fun b4 => (xg 2 [0] rfl (by omega) ?_));refine n_ (t_ (s_ (s_ (o_ (xg 3 [0] rfl rfl ?_)))));refine g_casep 35 rfl (fun h4 => ?_) fun h4 => ?_
   ·refine xg 4 [1,0] rfl (by omega) (g_casep 39 rfl (fun h5 => ?_) fun h5 => ?_)
    ·refine xg 5 [] rfl rfl (n_ (t_ (g_cond_t rfl (g_exit (g_then_exit (g_in_exit_ne rfl (g_then_exit (g_then_exit (g_in_exit (t_ (s_ (s_ (o_ ?_)))))))))))));refine xg 1 [] rfl rfl (g_rowLen 5 rfl (fun pr6 cr6 hv6 => ?_));cases hv6;refine g_val rfl rfl rfl (y_llen rfl Tryz.underlying138) (xg 1 [0] rfl rfl ?_);refine n_ (t_ (g_casep 54 rfl (fun h7 => ?_) fun h7 => ?_))
     ·refine g_cond_t rfl (o_ (g_nilRow 3 1 ?_));have hks : ks = [] := List.length_eq_zero_iff.1 (by omega);refine g_val rfl rfl rfl (y_assign rfl) (ntso_ ?_);refine xg 6 [3] rfl (by omega) (g_rowCase 4 rfl (by rw [len_mid]; omega) (fun gr8 cr8 hv8 => ?_));cases hv8;refine g_val rfl rfl rfl (y_idxAddr (m := ns.length * 10) rfl rfl Tryz.underlying134 Tryz.sizeOf140 (by omega) (by rw [len_mid]; omega) (by rw [Int.toNat_natCast]; omega)) (g_val (v := .pointer (some ⟨gr8, ns.length * 10 + 9, none⟩)) rfl rfl rfl (y_fieldAddr rfl (by kernel_rfl) rfl) ?_);refine g_stR (off := ns.length * 10 + 9) 4 rfl rfl rfl Tryz.sizeOf138 rfl rfl (by rw [fm_len fC 10 fC_len, len_mid]; omega) ?_;simp only [zs0,zs1];rw [fC_set _ _ _ _ _ _ [] (get_mid ns m _), set_mid];refine g_ahead [5,0] rfl ?_;simp only [zc0,zc1];rw [kC_map];refine g_kidsSet (a := ns.length) (t := (MT.mk k s nmi nma nnu (Value.slice pq q.length cq) q)) (ks := []) rfl ?_;rw [set_mid];refine ntso_ (xg 2 [] rfl rfl ?_);refine n_ (t_ (g_ret (g_end1 Tryz.results72 rfl ?_)));subst hks;rw [show (ns ++ ((MT.mk k s nmi nma nnu (Value.slice pq q.length cq) q), Value.slice none 0 0, []) :: m).length = (ns ++ ((MT.mk k s nmi nma nnu (Value.slice pq q.length cq) q), (Value.slice none 0 0), []) :: m).length by simp only [len_mid]];exact fun w hS => ⟨⟨(_, ((MT.mk k s nmi nma nnu (Value.slice pq q.length cq) q), (Value.slice none 0 0), []) :: m), hli.done (by omega), by rw [List.length_cons]; omega, fun d hd => (List.mem_cons.1 hd).elim (fun h => by subst h; exact ⟨⟨_, _, _, rfl⟩, ⟨_, _, _, rfl⟩, by have := laidL_len hli.laid; rw [List.length_take] at this; simp only [List.length_nil]; omega⟩) (hli.nice d)⟩, rfl, hS.pick [3,3,0] rfl⟩
     refine g_cond_f rfl (g_skip (t_ (s_ (o_ (xg 6 [2] rfl (by omega) ?_)))));refine g_rowCase 3 rfl (by rw [len_mid]; omega) (fun gr9 cr9 hv9 => ?_);cases hv9;refine g_val rfl rfl rfl (y_idxAddr (m := ns.length * 10) rfl rfl Tryz.underlying134 Tryz.sizeOf140 (by omega) (by rw [len_mid]; omega) (by rw [Int.toNat_natCast]; omega)) (g_val (v := .pointer (some ⟨gr9, ns.length * 10 + 9, none⟩)) rfl rfl rfl (y_fieldAddr rfl (by kernel_rfl) rfl) ?_);refine g_stR (off := ns.length * 10 + 9) 3 rfl rfl rfl Tryz.sizeOf138 rfl rfl (by rw [fm_len fC 10 fC_len, len_mid]; omega) ?_;simp only [zs0,zs1];rw [fC_set _ _ _ _ _ _ ks (get_mid ns m _), set_mid];refine g_ahead [4,4] rfl ?_;simp only [zc0,zc1];rw [kC_map];refine g_kidsSet (a := ns.length) (t := (MT.mk k s nmi nma nnu (Value.slice pq q.length cq) q)) (ks := ks) rfl ?_;rw [set_mid];refine ntso_ (xg 2 [] rfl rfl ?_);refine n_ (t_ (g_ret (g_end1 Tryz.results72 rfl ?_)));rw [show (ns ++ ((MT.mk k s nmi nma nnu (Value.slice pq q.length cq) q), Value.slice none 0 0, []) :: m).length = (ns ++ ((MT.mk k s nmi nma nnu (Value.slice pq q.length cq) q), (.slice pr6 (ks.length) cr6), ks) :: m).length by simp only [len_mid]];exact fun w hS => ⟨⟨(_, ((MT.mk k s nmi nma nnu (Value.slice pq q.length cq) q), (.slice pr6 (ks.length) cr6), ks) :: m), hli.done (by omega), by rw [List.length_cons]; omega, fun d hd => (List.mem_cons.1 hd).elim (fun h => by subst h; exact ⟨⟨_, _, _, rfl⟩, ⟨_, _, _, rfl⟩, by have := laidL_len hli.laid; rw [List.length_take] at this; simp only [List.length_nil]; omega⟩) (hli.nice d)⟩, rfl, hS.pick [3,3,0] rfl⟩
    refine xg 5 [1,0] rfl (by omega) (n_ (t_ ?_));refine g_casep 44 rfl (fun h10 => ?_) fun h10 => ?_
    ·refine g_cond_t rfl (g_exit (g_then_exit (g_in_exit_ne rfl (g_then_exit (g_then_exit (g_in_exit (t_ (s_ (s_ (o_ (xg 1 [] rfl rfl ?_)))))))))));refine g_rowLen 5 rfl (fun pr11 cr11 hv11 => ?_);cases hv11;refine g_val rfl rfl rfl (y_llen rfl Tryz.underlying138) (xg 1 [0] rfl rfl ?_);refine n_ (t_ (g_casep 54 rfl (fun h12 => ?_) fun h12 => ?_))
     ·refine g_cond_t rfl (o_ (g_nilRow 3 1 ?_));have hks : ks = [] := List.length_eq_zero_iff.1 (by omega);refine g_val rfl rfl rfl (y_assign rfl) (ntso_ ?_);refine xg 6 [3] rfl (by omega) (g_rowCase 4 rfl (by rw [len_mid]; omega) (fun gr13 cr13 hv13 => ?_));cases hv13;refine g_val rfl rfl rfl (y_idxAddr (m := ns.length * 10) rfl rfl Tryz.underlying134 Tryz.sizeOf140 (by omega) (by rw [len_mid]; omega) (by rw [Int.toNat_natCast]; omega)) (g_val (v := .pointer (some ⟨gr13, ns.length * 10 + 9, none⟩)) rfl rfl rfl (y_fieldAddr rfl (by kernel_rfl) rfl) ?_);refine g_stR (off := ns.length * 10 + 9) 4 rfl rfl rfl Tryz.sizeOf138 rfl rfl (by rw [fm_len fC 10 fC_len, len_mid]; omega) ?_;simp only [zs0,zs1];rw [fC_set _ _ _ _ _ _ [] (get_mid ns m _), set_mid];refine g_ahead [5,0] rfl ?_;simp only [zc0,zc1];rw [kC_map];refine g_kidsSet (a := ns.length) (t := (MT.mk k s nmi nma nnu (Value.slice pq q.length cq) q)) (ks := []) rfl ?_;rw [set_mid];refine ntso_ (xg 2 [] rfl rfl ?_);refine n_ (t_ (g_ret (g_end1 Tryz.results72 rfl ?_)));subst hks;rw [show (ns ++ ((MT.mk k s nmi nma nnu (Value.slice pq q.length cq) q), Value.slice none 0 0, []) :: m).length = (ns ++ ((MT.mk k s nmi nma nnu (Value.slice pq q.length cq) q), (Value.slice none 0 0), []) :: m).length by simp only [len_mid]];exact fun w hS => ⟨⟨(_, ((MT.mk k s nmi nma nnu (Value.slice pq q.length cq) q), (Value.slice none 0 0), []) :: m), hli.done (by omega), by rw [List.length_cons]; omega, fun d hd => (List.mem_cons.1 hd).elim (fun h => by subst h; exact ⟨⟨_, _, _, rfl⟩, ⟨_, _, _, rfl⟩, by have := laidL_len hli.laid; rw [List.length_take] at this; simp only [List.length_nil]; omega⟩) (hli.nice d)⟩, rfl, hS.pick [3,3,0] rfl⟩
     refine g_cond_f rfl (g_skip (t_ (s_ (o_ (xg 6 [2] rfl (by omega) ?_)))));refine g_rowCase 3 rfl (by rw [len_mid]; omega) (fun gr14 cr14 hv14 => ?_);cases hv14;refine g_val rfl rfl rfl (y_idxAddr (m := ns.length * 10) rfl rfl Tryz.underlying134 Tryz.sizeOf140 (by omega) (by rw [len_mid]; omega) (by rw [Int.toNat_natCast]; omega)) (g_val (v := .pointer (some ⟨gr14, ns.length * 10 + 9, none⟩)) rfl rfl rfl (y_fieldAddr rfl (by kernel_rfl) rfl) ?_);refine g_stR (off := ns.length * 10 + 9) 3 rfl rfl rfl Tryz.sizeOf138 rfl rfl (by rw [fm_len fC 10 fC_len, len_mid]; omega) ?_;simp only [zs0,zs1];rw [fC_set _ _ _ _ _ _ ks (get_mid ns m _), set_mid];refine g_ahead [4,4] rfl ?_;simp only [zc0,zc1];rw [kC_map];refine g_kidsSet (a := ns.length) (t := (MT.mk k s nmi nma nnu (Value.slice pq q.length cq) q)) (ks := ks) rfl ?_;rw [set_mid];refine ntso_ (xg 2 [] rfl rfl ?_);refine n_ (t_ (g_ret (g_end1 Tryz.results72 rfl ?_)));rw [show (ns ++ ((MT.mk k s nmi nma nnu (Value.slice pq q.length cq) q), Value.slice none 0 0, []) :: m).length = (ns ++ ((MT.mk k s nmi nma nnu (Value.slice pq q.length cq) q), (.slice pr11 (ks.length) cr11), ks) :: m).length by simp only [len_mid]];exact fun w hS => ⟨⟨(_, ((MT.mk k s nmi nma nnu (Value.slice pq q.length cq) q), (.slice pr11 (ks.length) cr11), ks) :: m), hli.done (by omega), by rw [List.length_cons]; omega, fun d hd => (List.mem_cons.1 hd).elim (fun h => by subst h; exact ⟨⟨_, _, _, rfl⟩, ⟨_, _, _, rfl⟩, by have := laidL_len hli.laid; rw [List.length_take] at this; simp only [List.length_nil]; omega⟩) (hli.nice d)⟩, rfl, hS.pick [3,3,0] rfl⟩
    refine g_cond_f rfl (g_skip (t_ (o_ (xg 3 [0] rfl (by omega) ?_))));refine g_ahead [2,2,2] rfl ?_;simp only [zc0,zc1];refine g_callOwn (L0 := [.cells b 136 [vn1, st8 tx.l, .bool tx.bg, .map (some mp)], .row 140 10 vn1 (ns ++ ((MT.mk k s nmi nma nnu (Value.slice pq q.length cq) q), Value.slice none 0 0, []) :: m).length ((ns ++ ((MT.mk k s nmi nma nnu (Value.slice pq q.length cq) q), Value.slice none 0 0, []) :: m).flatMap fC), .kids (ns ++ ((MT.mk k s nmi nma nnu (Value.slice pq q.length cq) q), Value.slice none 0 0, []) :: m)]) (fun _ : {y : Value × List Nd // laidT ((ns ++ ((MT.mk k s nmi nma nnu (Value.slice pq q.length cq) q), Value.slice none 0 0, []) :: m) ++ y.2) (.mk k2 s2 mi2 ma2 nu2 (.slice v12 v22 v32) q2) (ns ++ ((MT.mk k s nmi nma nnu (Value.slice pq q.length cq) q), Value.slice none 0 0, []) :: m).length ∧ y.2.length ≤ wT (.mk k2 s2 mi2 ma2 nu2 (.slice v12 v22 v32) q2) ∧ ∀ d ∈ y.2, Nice d} => .int .i64 ((ns.length + m.length + 1 : Nat) : Int)) (fun y => [.cells b 136 [y.1.1, st8 tx.l, .bool tx.bg, .map (some mp)], .row 140 10 y.1.1 ((ns ++ ((MT.mk k s nmi nma nnu (Value.slice pq q.length cq) q), Value.slice none 0 0, []) :: m) ++ y.1.2).length (((ns ++ ((MT.mk k s nmi nma nnu (Value.slice pq q.length cq) q), Value.slice none 0 0, []) :: m) ++ y.1.2).flatMap fC), .kids ((ns ++ ((MT.mk k s nmi nma nnu (Value.slice pq q.length cq) q), Value.slice none 0 0, []) :: m) ++ y.1.2)]) rfl rfl rfl Tryz.call72 (fun w' hS => (ih _ (List.mem_of_getElem? hu) (ns ++ ((MT.mk k s nmi nma nnu (Value.slice pq q.length cq) q), Value.slice none 0 0, []) :: m) _ _ w' (hS.okOf huk.1 huk.2.1) (hS.outOf huk.1 huk.2.1) (by have := wT_take hu; have := hli.len; rw [len_mid]; omega) hS.part).mono fun e w1 ⟨y, h8, h9⟩ => ⟨y, by rw [h8, len_mid], h9⟩) ?_;rintro ⟨⟨vn2, m2⟩, hl2, hm2, hn2⟩;dsimp only at hl2 hm2 hn2;simp only [zc0,zc1];rw [app_mid] at hl2;rw [app_mid];refine g_buildSlice (offs := [0]) rfl rfl Tryz.underlying138 rfl Tryz.zeroValue3 (by kernel_rfl) (fun b5 => (g_appS (bytes := 8) kC ((ns.length + m.length + 1)) 6 (j := 0) rfl rfl rfl rfl Tryz.underlying138 (by kernel_rfl) rfl rfl kC_len rfl (by have := hli.len; have := laidL_len hli.laid; rw [List.length_take] at this; omega) (by have : maxLen = 9223372036854775807 := rfl; have := laidL_len hli.laid; rw [List.length_take] at this; omega) (fun v6 => ?_)));simp only [zs0,zs1];refine xg 1 [] rfl rfl (n_ (g_in_normal (t_ (o_ ?_))));refine xg 2 [] rfl (by omega) (n_ ?_);exact g_again ⟨(j + 1, vn2, m ++ m2, v6, ks ++ [ns.length + m.length + 1]), hli.next hu (fun hk => by omega) (by rw [app_mid]; exact hl2) hm2 hn2⟩ [0, 3, 5, 6, 26, 27, 28] (by dsimp only; omega) rfl (zpk [5,1,1,1,2] rfl)
   refine xg 9 [] rfl rfl (n_ (t_ (g_cond_f rfl (g_skip (t_ (o_ ?_))))));refine xg 3 [0] rfl (by omega) (g_ahead [2,2,2] rfl ?_);simp only [zc0,zc1];refine g_callOwn (L0 := [.cells b 136 [vn1, st8 tx.l, .bool tx.bg, .map (some mp)], .row 140 10 vn1 (ns ++ ((MT.mk k s nmi nma nnu (Value.slice pq q.length cq) q), Value.slice none 0 0, []) :: m).length ((ns ++ ((MT.mk k s nmi nma nnu (Value.slice pq q.length cq) q), Value.slice none 0 0, []) :: m).flatMap fC), .kids (ns ++ ((MT.mk k s nmi nma nnu (Value.slice pq q.length cq) q), Value.slice none 0 0, []) :: m)]) (fun _ : {y : Value × List Nd // laidT ((ns ++ ((MT.mk k s nmi nma nnu (Value.slice pq q.length cq) q), Value.slice none 0 0, []) :: m) ++ y.2) (.mk k2 s2 mi2 ma2 nu2 (.slice v12 v22 v32) q2) (ns ++ ((MT.mk k s nmi nma nnu (Value.slice pq q.length cq) q), Value.slice none 0 0, []) :: m).length ∧ y.2.length ≤ wT (.mk k2 s2 mi2 ma2 nu2 (.slice v12 v22 v32) q2) ∧ ∀ d ∈ y.2, Nice d} => .int .i64 ((ns.length + m.length + 1 : Nat) : Int)) (fun y => [.cells b 136 [y.1.1, st8 tx.l, .bool tx.bg, .map (some mp)], .row 140 10 y.1.1 ((ns ++ ((MT.mk k s nmi nma nnu (Value.slice pq q.length cq) q), Value.slice none 0 0, []) :: m) ++ y.1.2).length (((ns ++ ((MT.mk k s nmi nma nnu (Value.slice pq q.length cq) q), Value.slice none 0 0, []) :: m) ++ y.1.2).flatMap fC), .kids ((ns ++ ((MT.mk k s nmi nma nnu (Value.slice pq q.length cq) q), Value.slice none 0 0, []) :: m) ++ y.1.2)]) rfl rfl rfl Tryz.call72 (fun w' hS => (ih _ (List.mem_of_getElem? hu) (ns ++ ((MT.mk k s nmi nma nnu (Value.slice pq q.length cq) q), Value.slice none 0 0, []) :: m) _ _ w' (hS.okOf huk.1 huk.2.1) (hS.outOf huk.1 huk.2.1) (by have := wT_take hu; have := hli.len; rw [len_mid]; omega) hS.part).mono fun e w1 ⟨y, h8, h9⟩ => ⟨y, by rw [h8, len_mid], h9⟩) ?_;rintro ⟨⟨vn2, m2⟩, hl2, hm2, hn2⟩;dsimp only at hl2 hm2 hn2;simp only [zc0,zc1];rw [app_mid] at hl2;rw [app_mid];refine g_buildSlice (offs := [0]) rfl rfl Tryz.underlying138 rfl Tryz.zeroValue3 (by kernel_rfl) (fun b7 => (g_appS (bytes := 8) kC ((ns.length + m.length + 1)) 6 (j := 0) rfl rfl rfl rfl Tryz.underlying138 (by kernel_rfl) rfl rfl kC_len rfl (by have := hli.len; have := laidL_len hli.laid; rw [List.length_take] at this; omega) (by have : maxLen = 9223372036854775807 := rfl; have := laidL_len hli.laid; rw [List.length_take] at this; omega) (fun v8 => ?_)));simp only [zs0,zs1];refine xg 1 [] rfl rfl (n_ (g_in_normal (t_ (o_ ?_))));refine xg 2 [] rfl (by omega) (n_ ?_);exact g_again ⟨(j + 1, vn2, m ++ m2, v8, ks ++ [ns.length + m.length + 1]), hli.next hu (fun hk => by omega) (by rw [app_mid]; exact hl2) hm2 hn2⟩ [0, 3, 5, 6, 26, 27, 28] (by dsimp only; omega) rfl (zpk [5,1,1,1,2] rfl)
  refine g_cond_f rfl (g_exit (g_then_exit (g_then_exit (g_in_exit (t_ (s_ (s_ (o_ (xg 1 [] rfl rfl ?_)))))))));refine g_rowLen 4 rfl (fun pr15 cr15 hv15 => ?_);cases hv15;refine g_val rfl rfl rfl (y_llen rfl Tryz.underlying138) (xg 1 [0] rfl rfl ?_);refine n_ (t_ (g_casep 54 rfl (fun h16 => ?_) fun h16 => ?_))
  ·refine g_cond_t rfl (o_ (g_nilRow 3 1 ?_));have hks : ks = [] := List.length_eq_zero_iff.1 (by omega);refine g_val rfl rfl rfl (y_assign rfl) (ntso_ ?_);refine xg 6 [2] rfl (by omega) (g_rowCase 3 rfl (by rw [len_mid]; omega) (fun gr17 cr17 hv17 => ?_));cases hv17;refine g_val rfl rfl rfl (y_idxAddr (m := ns.length * 10) rfl rfl Tryz.underlying134 Tryz.sizeOf140 (by omega) (by rw [len_mid]; omega) (by rw [Int.toNat_natCast]; omega)) (g_val (v := .pointer (some ⟨gr17, ns.length * 10 + 9, none⟩)) rfl rfl rfl (y_fieldAddr rfl (by kernel_rfl) rfl) ?_);refine g_stR (off := ns.length * 10 + 9) 3 rfl rfl rfl Tryz.sizeOf138 rfl rfl (by rw [fm_len fC 10 fC_len, len_mid]; omega) ?_;simp only [zs0,zs1];rw [fC_set _ _ _ _ _ _ [] (get_mid ns m _), set_mid];refine g_ahead [4,0] rfl ?_;simp only [zc0,zc1];rw [kC_map];refine g_kidsSet (a := ns.length) (t := (MT.mk k s nmi nma nnu (Value.slice pq q.length cq) q)) (ks := []) rfl ?_;rw [set_mid];refine ntso_ (xg 2 [] rfl rfl ?_);refine n_ (t_ (g_ret (g_end1 Tryz.results72 rfl ?_)));subst hks;rw [show (ns ++ ((MT.mk k s nmi nma nnu (Value.slice pq q.length cq) q), Value.slice none 0 0, []) :: m).length = (ns ++ ((MT.mk k s nmi nma nnu (Value.slice pq q.length cq) q), (Value.slice none 0 0), []) :: m).length by simp only [len_mid]];exact fun w hS => ⟨⟨(_, ((MT.mk k s nmi nma nnu (Value.slice pq q.length cq) q), (Value.slice none 0 0), []) :: m), hli.done (by omega), by rw [List.length_cons]; omega, fun d hd => (List.mem_cons.1 hd).elim (fun h => by subst h; exact ⟨⟨_, _, _, rfl⟩, ⟨_, _, _, rfl⟩, by have := laidL_len hli.laid; rw [List.length_take] at this; simp only [List.length_nil]; omega⟩) (hli.nice d)⟩, rfl, hS.pick [2,2,0] rfl⟩
  refine g_cond_f rfl (g_skip (t_ (s_ (o_ (xg 6 [1] rfl (by omega) ?_)))));refine g_rowCase 2 rfl (by rw [len_mid]; omega) (fun gr18 cr18 hv18 => ?_);cases hv18;refine g_val rfl rfl rfl (y_idxAddr (m := ns.length * 10) rfl rfl Tryz.underlying134 Tryz.sizeOf140 (by omega) (by rw [len_mid]; omega) (by rw [Int.toNat_natCast]; omega)) (g_val (v := .pointer (some ⟨gr18, ns.length * 10 + 9, none⟩)) rfl rfl rfl (y_fieldAddr rfl (by kernel_rfl) rfl) ?_);refine g_stR (off := ns.length * 10 + 9) 2 rfl rfl rfl Tryz.sizeOf138 rfl rfl (by rw [fm_len fC 10 fC_len, len_mid]; omega) ?_;simp only [zs0,zs1];rw [fC_set _ _ _ _ _ _ ks (get_mid ns m _), set_mid];refine g_ahead [3,3] rfl ?_;simp only [zc0,zc1];rw [kC_map];refine g_kidsSet (a := ns.length) (t := (MT.mk k s nmi nma nnu (Value.slice pq q.length cq) q)) (ks := ks) rfl ?_;rw [set_mid];refine ntso_ (xg 2 [] rfl rfl ?_);refine n_ (t_ (g_ret (g_end1 Tryz.results72 rfl ?_)));rw [show (ns ++ ((MT.mk k s nmi nma nnu (Value.slice pq q.length cq) q), Value.slice none 0 0, []) :: m).length = (ns ++ ((MT.mk k s nmi nma nnu (Value.slice pq q.length cq) q), (.slice pr15 (ks.length) cr15), ks) :: m).length by simp only [len_mid]];exact fun w hS => ⟨⟨(_, ((MT.mk k s nmi nma nnu (Value.slice pq q.length cq) q), (.slice pr15 (ks.length) cr15), ks) :: m), hli.done (by omega), by rw [List.length_cons]; omega, fun d hd => (List.mem_cons.1 hd).elim (fun h => by subst h; exact ⟨⟨_, _, _, rfl⟩, ⟨_, _, _, rfl⟩, by have := laidL_len hli.laid; rw [List.length_take] at this; simp only [List.length_nil]; omega⟩) (hli.nice d)⟩, rfl, hS.pick [2,2,0] rfl⟩
 refine k_op 7 rfl (g_buildSlice (offs := [0]) rfl rfl Tryz.underlying134 rfl Tryz.zeroValue140 (by kernel_rfl) (fun b9 => ?_));refine n_ (k_end (zpk [1,3] rfl) ?_);refine k_one 4 (by kernel_rfl) (k_op 4 rfl ?_);refine xg 1 [2] rfl (by omega) (n_ ?_);refine k_end (zpk [1,3] rfl) (k_one 8 (by kernel_rfl) ?_);refine k_op 8 rfl (g_appS (bytes := 112) fC (((MT.mk k s nmi nma nnu (Value.slice pq q.length cq) q), Value.slice none 0 0, [])) 3 (j := 0) rfl rfl rfl rfl Tryz.underlying134 (by kernel_rfl) rfl rfl fC_len rfl (by omega) (by have : maxLen = 9223372036854775807 := rfl; omega) (fun v10 => ?_));simp only [zs0,zs1];refine n_ (k_end (zpk [1,3] rfl) ?_);refine k_x 9 [1,3] [] hQ (by kernel_rfl) rfl rfl rfl rfl rfl rfl (k_x 10 [1,3] [] hQ (by kernel_rfl) rfl rfl rfl rfl rfl rfl ?_);refine k_one 11 (by kernel_rfl) (k_op 11 rfl ?_);refine g_rowLen 3 rfl (fun pr19 cr19 hv19 => ?_);cases hv19;refine g_st 2 rfl rfl rfl Tryz.sizeOf134 rfl rfl rfl ?_;simp only [zs0,zs1];refine n_ (k_end (zpk [1,3] rfl) ?_);refine k_done (by kernel_rfl) (t_ (s_ ?_));refine g_ahead [4] rfl ?_;simp only [zc0,zc1];refine g_kidsNil (t := (MT.mk k s nmi nma nnu (Value.slice pq q.length cq) q)) (o_ ?_);refine g_nilRow 3 1 (g_val rfl rfl rfl (y_assign rfl) ?_);refine n_ (t_ (s_ (s_ (o_ (xg 2 [3] rfl (by omega) ?_)))));refine g_val (v := .int .i64 ((q.length : Nat) : Int)) rfl rfl rfl (y_llen rfl Tryz.underlying29) (xg 1 [] rfl rfl ?_);refine n_ (t_ (g_block (g_loop (α := {x : Nat × Value × List Nd × Value × List Nat // LI ns (MT.mk k s nmi nma nnu (Value.slice pq q.length cq) q) q k x.1 x.2.2.1 x.2.2.2.2}) (fun x => [(0, .pointer (some ⟨b, 0, none⟩)), (3, .pointer (some ⟨b1, 0, none⟩)), (5, .int .i64 (ns.length : Int)), (6, x.1.2.2.2.1), (26, .slice pq q.length cq), (27, .int .i64 ((q.length : Nat) : Int)), (28, .int .i64 (x.1.1 : Int))]) (fun x => St w F [.cells b1 31 (nC (MT.mk k s nmi nma nnu (Value.slice pq q.length cq) q)), .cells b 136 [x.1.2.1, st8 tx.l, .bool tx.bg, .map (some mp)], .row 140 10 x.1.2.1 (ns ++ ((MT.mk k s nmi nma nnu (Value.slice pq q.length cq) q), Value.slice none 0 0, []) :: x.1.2.2.1).length ((ns ++ ((MT.mk k s nmi nma nnu (Value.slice pq q.length cq) q), Value.slice none 0 0, []) :: x.1.2.2.1).flatMap fC), .kids (ns ++ ((MT.mk k s nmi nma nnu (Value.slice pq q.length cq) q), Value.slice none 0 0, []) :: x.1.2.2.1), .row 3 1 x.1.2.2.2.1 x.1.2.2.2.2.length (x.1.2.2.2.2.flatMap kC)]) (fun x => q.length - x.1.1) ⟨(0, (.slice pr19 ((ns ++ [((MT.mk k s nmi nma nnu (Value.slice pq q.length cq) q), Value.slice none 0 0, [])]).length) cr19), [], Value.slice none 0 0, []), ⟨Nat.zero_le _, fun _ => Nat.zero_le _, laidL_nil.2 rfl, (fun b hb => by cases hb), Nat.zero_le _, fun d hd => by cases hd⟩⟩ [0, 3, 5, 6, 26, 27, 28] rfl (zpk [3,3,3,1,0] rfl) ?_)));rintro ⟨⟨j, vn1, m, vi, ks⟩, hli⟩;dsimp only;dsimp only at hli;have hlj := hli.le;have hlen := hli.len;have hwj := wL_take (q := q) j;refine s_ (o_ (xg 1 [0] rfl rfl ?_));refine n_ (t_ (s_ (g_casep 29 rfl (fun h20 => ?_) fun h20 => ?_)))
 ·refine g_cond_t rfl (g_skip (t_ (s_ (g_block (s_ ?_)))));obtain ⟨u, hu⟩ : ∃ u, q[j]? = some u := ⟨_, List.getElem?_eq_getElem (by omega)⟩;have huk := hqk j u hu;obtain ⟨v12, v22, v32, huv⟩ := huk.2.2;obtain ⟨k2, s2, mi2, ma2, nu2, v2, q2⟩ := u;obtain rfl : v2 = .slice v12 v22 v32 := huv;refine o_ (xg 1 [] rfl rfl ?_);refine g_val rfl rfl rfl (y_rdAddr hrq rfl rfl Tryz.underlying29 Tryz.sizeOf31 (by omega) (by omega)) (g_val (v := .agg (nC (.mk k2 s2 mi2 ma2 nu2 (.slice v12 v22 v32) q2)).toArray) rfl rfl rfl (y_rdAggF (i := (j : Int)) (vs := nC (.mk k2 s2 mi2 ma2 nu2 (.slice v12 v22 v32) q2)) hrq (hFq (by omega)) rfl Tryz.isAgg31 Tryz.sizeOf31 (by omega) (by omega) (nC_len _) (fun jj hjj => by rw [Int.toNat_natCast, List.getD_eq_getElem?_getD, hu]; rw [Option.getD_some, List.getElem?_eq_getElem (show jj < (nC (.mk k2 s2 mi2 ma2 nu2 (.slice v12 v22 v32) q2)).length by rw [nC_len]; exact hjj)]; rfl)) ?_);refine g_alloc rfl rfl Tryz.zeroValue31 rfl (fun b11 => (xg 2 [0] rfl (by omega) ?_));refine n_ (t_ (s_ (s_ (o_ (xg 3 [0] rfl rfl ?_)))));refine g_casep 35 rfl (fun h21 => ?_) fun h21 => ?_
  ·refine xg 4 [1,0] rfl (by omega) (g_casep 39 rfl (fun h22 => ?_) fun h22 => ?_)
   ·refine xg 5 [] rfl rfl (n_ (t_ (g_cond_t rfl (g_exit (g_then_exit (g_in_exit_ne rfl (g_then_exit (g_then_exit (g_in_exit (t_ (s_ (s_ (o_ ?_)))))))))))));refine xg 1 [] rfl rfl (g_rowLen 5 rfl (fun pr23 cr23 hv23 => ?_));cases hv23;refine g_val rfl rfl rfl (y_llen rfl Tryz.underlying138) (xg 1 [0] rfl rfl ?_);refine n_ (t_ (g_casep 54 rfl (fun h24 => ?_) fun h24 => ?_))
    ·refine g_cond_t rfl (o_ (g_nilRow 3 1 ?_));have hks : ks = [] := List.length_eq_zero_iff.1 (by omega);refine g_val rfl rfl rfl (y_assign rfl) (ntso_ ?_);refine xg 6 [3] rfl (by omega) (g_rowCase 4 rfl (by rw [len_mid]; omega) (fun gr25 cr25 hv25 => ?_));cases hv25;refine g_val rfl rfl rfl (y_idxAddr (m := ns.length * 10) rfl rfl Tryz.underlying134 Tryz.sizeOf140 (by omega) (by rw [len_mid]; omega) (by rw [Int.toNat_natCast]; omega)) (g_val (v := .pointer (some ⟨gr25, ns.length * 10 + 9, none⟩)) rfl rfl rfl (y_fieldAddr rfl (by kernel_rfl) rfl) ?_);refine g_stR (off := ns.length * 10 + 9) 4 rfl rfl rfl Tryz.sizeOf138 rfl rfl (by rw [fm_len fC 10 fC_len, len_mid]; omega) ?_;simp only [zs0,zs1];rw [fC_set _ _ _ _ _ _ [] (get_mid ns m _), set_mid];refine g_ahead [5,0] rfl ?_;simp only [zc0,zc1];rw [kC_map];refine g_kidsSet (a := ns.length) (t := (MT.mk k s nmi nma nnu (Value.slice pq q.length cq) q)) (ks := []) rfl ?_;rw [set_mid];refine ntso_ (xg 2 [] rfl rfl ?_);refine n_ (t_ (g_ret (g_end1 Tryz.results72 rfl ?_)));subst hks;rw [show (ns ++ ((MT.mk k s nmi nma nnu (Value.slice pq q.length cq) q), Value.slice none 0 0, []) :: m).length = (ns ++ ((MT.mk k s nmi nma nnu (Value.slice pq q.length cq) q), (Value.slice none 0 0), []) :: m).length by simp only [len_mid]];exact fun w hS => ⟨⟨(_, ((MT.mk k s nmi nma nnu (Value.slice pq q.length cq) q), (Value.slice none 0 0), []) :: m), hli.done (by omega), by rw [List.length_cons]; omega, fun d hd => (List.mem_cons.1 hd).elim (fun h => by subst h; exact ⟨⟨_, _, _, rfl⟩, ⟨_, _, _, rfl⟩, by have := laidL_len hli.laid; rw [List.length_take] at this; simp only [List.length_nil]; omega⟩) (hli.nice d)⟩, rfl, hS.pick [3,3,0] rfl⟩
    refine g_cond_f rfl (g_skip (t_ (s_ (o_ (xg 6 [2] rfl (by omega) ?_)))));refine g_rowCase 3 rfl (by rw [len_mid]; omega) (fun gr26 cr26 hv26 => ?_);cases hv26;refine g_val rfl rfl rfl (y_idxAddr (m := ns.length * 10) rfl rfl Tryz.underlying134 Tryz.sizeOf140 (by omega) (by rw [len_mid]; omega) (by rw [Int.toNat_natCast]; omega)) (g_val (v := .pointer (some ⟨gr26, ns.length * 10 + 9, none⟩)) rfl rfl rfl (y_fieldAddr rfl (by kernel_rfl) rfl) ?_);refine g_stR (off := ns.length * 10 + 9) 3 rfl rfl rfl Tryz.sizeOf138 rfl rfl (by rw [fm_len fC 10 fC_len, len_mid]; omega) ?_;simp only [zs0,zs1];rw [fC_set _ _ _ _ _ _ ks (get_mid ns m _), set_mid];refine g_ahead [4,4] rfl ?_;simp only [zc0,zc1];rw [kC_map];refine g_kidsSet (a := ns.length) (t := (MT.mk k s nmi nma nnu (Value.slice pq q.length cq) q)) (ks := ks) rfl ?_;rw [set_mid];refine ntso_ (xg 2 [] rfl rfl ?_);refine n_ (t_ (g_ret (g_end1 Tryz.results72 rfl ?_)));rw [show (ns ++ ((MT.mk k s nmi nma nnu (Value.slice pq q.length cq) q), Value.slice none 0 0, []) :: m).length = (ns ++ ((MT.mk k s nmi nma nnu (Value.slice pq q.length cq) q), (.slice pr23 (ks.length) cr23), ks) :: m).length by simp only [len_mid]];exact fun w hS => ⟨⟨(_, ((MT.mk k s nmi nma nnu (Value.slice pq q.length cq) q), (.slice pr23 (ks.length) cr23), ks) :: m), hli.done (by omega), by rw [List.length_cons]; omega, fun d hd => (List.mem_cons.1 hd).elim (fun h => by subst h; exact ⟨⟨_, _, _, rfl⟩, ⟨_, _, _, rfl⟩, by have := laidL_len hli.laid; rw [List.length_take] at this; simp only [List.length_nil]; omega⟩) (hli.nice d)⟩, rfl, hS.pick [3,3,0] rfl⟩
   refine xg 5 [1,0] rfl (by omega) (n_ (t_ ?_));refine g_casep 44 rfl (fun h27 => ?_) fun h27 => ?_
   ·refine g_cond_t rfl (g_exit (g_then_exit (g_in_exit_ne rfl (g_then_exit (g_then_exit (g_in_exit (t_ (s_ (s_ (o_ (xg 1 [] rfl rfl ?_)))))))))));refine g_rowLen 5 rfl (fun pr28 cr28 hv28 => ?_);cases hv28;refine g_val rfl rfl rfl (y_llen rfl Tryz.underlying138) (xg 1 [0] rfl rfl ?_);refine n_ (t_ (g_casep 54 rfl (fun h29 => ?_) fun h29 => ?_))
    ·refine g_cond_t rfl (o_ (g_nilRow 3 1 ?_));have hks : ks = [] := List.length_eq_zero_iff.1 (by omega);refine g_val rfl rfl rfl (y_assign rfl) (ntso_ ?_);refine xg 6 [3] rfl (by omega) (g_rowCase 4 rfl (by rw [len_mid]; omega) (fun gr30 cr30 hv30 => ?_));cases hv30;refine g_val rfl rfl rfl (y_idxAddr (m := ns.length * 10) rfl rfl Tryz.underlying134 Tryz.sizeOf140 (by omega) (by rw [len_mid]; omega) (by rw [Int.toNat_natCast]; omega)) (g_val (v := .pointer (some ⟨gr30, ns.length * 10 + 9, none⟩)) rfl rfl rfl (y_fieldAddr rfl (by kernel_rfl) rfl) ?_);refine g_stR (off := ns.length * 10 + 9) 4 rfl rfl rfl Tryz.sizeOf138 rfl rfl (by rw [fm_len fC 10 fC_len, len_mid]; omega) ?_;simp only [zs0,zs1];rw [fC_set _ _ _ _ _ _ [] (get_mid ns m _), set_mid];refine g_ahead [5,0] rfl ?_;simp only [zc0,zc1];rw [kC_map];refine g_kidsSet (a := ns.length) (t := (MT.mk k s nmi nma nnu (Value.slice pq q.length cq) q)) (ks := []) rfl ?_;rw [set_mid];refine ntso_ (xg 2 [] rfl rfl ?_);refine n_ (t_ (g_ret (g_end1 Tryz.results72 rfl ?_)));subst hks;rw [show (ns ++ ((MT.mk k s nmi nma nnu (Value.slice pq q.length cq) q), Value.slice none 0 0, []) :: m).length = (ns ++ ((MT.mk k s nmi nma nnu (Value.slice pq q.length cq) q), (Value.slice none 0 0), []) :: m).length by simp only [len_mid]];exact fun w hS => ⟨⟨(_, ((MT.mk k s nmi nma nnu (Value.slice pq q.length cq) q), (Value.slice none 0 0), []) :: m), hli.done (by omega), by rw [List.length_cons]; omega, fun d hd => (List.mem_cons.1 hd).elim (fun h => by subst h; exact ⟨⟨_, _, _, rfl⟩, ⟨_, _, _, rfl⟩, by have := laidL_len hli.laid; rw [List.length_take] at this; simp only [List.length_nil]; omega⟩) (hli.nice d)⟩, rfl, hS.pick [3,3,0] rfl⟩
    refine g_cond_f rfl (g_skip (t_ (s_ (o_ (xg 6 [2] rfl (by omega) ?_)))));refine g_rowCase 3 rfl (by rw [len_mid]; omega) (fun gr31 cr31 hv31 => ?_);cases hv31;refine g_val rfl rfl rfl (y_idxAddr (m := ns.length * 10) rfl rfl Tryz.underlying134 Tryz.sizeOf140 (by omega) (by rw [len_mid]; omega) (by rw [Int.toNat_natCast]; omega)) (g_val (v := .pointer (some ⟨gr31, ns.length * 10 + 9, none⟩)) rfl rfl rfl (y_fieldAddr rfl (by kernel_rfl) rfl) ?_);refine g_stR (off := ns.length * 10 + 9) 3 rfl rfl rfl Tryz.sizeOf138 rfl rfl (by rw [fm_len fC 10 fC_len, len_mid]; omega) ?_;simp only [zs0,zs1];rw [fC_set _ _ _ _ _ _ ks (get_mid ns m _), set_mid];refine g_ahead [4,4] rfl ?_;simp only [zc0,zc1];rw [kC_map];refine g_kidsSet (a := ns.length) (t := (MT.mk k s nmi nma nnu (Value.slice pq q.length cq) q)) (ks := ks) rfl ?_;rw [set_mid];refine ntso_ (xg 2 [] rfl rfl ?_);refine n_ (t_ (g_ret (g_end1 Tryz.results72 rfl ?_)));rw [show (ns ++ ((MT.mk k s nmi nma nnu (Value.slice pq q.length cq) q), Value.slice none 0 0, []) :: m).length = (ns ++ ((MT.mk k s nmi nma nnu (Value.slice pq q.length cq) q), (.slice pr28 (ks.length) cr28), ks) :: m).length by simp only [len_mid]];exact fun w hS => ⟨⟨(_, ((MT.mk k s nmi nma nnu (Value.slice pq q.length cq) q), (.slice pr28 (ks.length) cr28), ks) :: m), hli.done (by omega), by rw [List.length_cons]; omega, fun d hd => (List.mem_cons.1 hd).elim (fun h => by subst h; exact ⟨⟨_, _, _, rfl⟩, ⟨_, _, _, rfl⟩, by have := laidL_len hli.laid; rw [List.length_take] at this; simp only [List.length_nil]; omega⟩) (hli.nice d)⟩, rfl, hS.pick [3,3,0] rfl⟩
   refine g_cond_f rfl (g_skip (t_ (o_ (xg 3 [0] rfl (by omega) ?_))));refine g_ahead [2,2,2] rfl ?_;simp only [zc0,zc1];refine g_callOwn (L0 := [.cells b 136 [vn1, st8 tx.l, .bool tx.bg, .map (some mp)], .row 140 10 vn1 (ns ++ ((MT.mk k s nmi nma nnu (Value.slice pq q.length cq) q), Value.slice none 0 0, []) :: m).length ((ns ++ ((MT.mk k s nmi nma nnu (Value.slice pq q.length cq) q), Value.slice none 0 0, []) :: m).flatMap fC), .kids (ns ++ ((MT.mk k s nmi nma nnu (Value.slice pq q.length cq) q), Value.slice none 0 0, []) :: m)]) (fun _ : {y : Value × List Nd // laidT ((ns ++ ((MT.mk k s nmi nma nnu (Value.slice pq q.length cq) q), Value.slice none 0 0, []) :: m) ++ y.2) (.mk k2 s2 mi2 ma2 nu2 (.slice v12 v22 v32) q2) (ns ++ ((MT.mk k s nmi nma nnu (Value.slice pq q.length cq) q), Value.slice none 0 0, []) :: m).length ∧ y.2.length ≤ wT (.mk k2 s2 mi2 ma2 nu2 (.slice v12 v22 v32) q2) ∧ ∀ d ∈ y.2, Nice d} => .int .i64 ((ns.length + m.length + 1 : Nat) : Int)) (fun y => [.cells b 136 [y.1.1, st8 tx.l, .bool tx.bg, .map (some mp)], .row 140 10 y.1.1 ((ns ++ ((MT.mk k s nmi nma nnu (Value.slice pq q.length cq) q), Value.slice none 0 0, []) :: m) ++ y.1.2).length (((ns ++ ((MT.mk k s nmi nma nnu (Value.slice pq q.length cq) q), Value.slice none 0 0, []) :: m) ++ y.1.2).flatMap fC), .kids ((ns ++ ((MT.mk k s nmi nma nnu (Value.slice pq q.length cq) q), Value.slice none 0 0, []) :: m) ++ y.1.2)]) rfl rfl rfl Tryz.call72 (fun w' hS => (ih _ (List.mem_of_getElem? hu) (ns ++ ((MT.mk k s nmi nma nnu (Value.slice pq q.length cq) q), Value.slice none 0 0, []) :: m) _ _ w' (hS.okOf huk.1 huk.2.1) (hS.outOf huk.1 huk.2.1) (by have := wT_take hu; have := hli.len; rw [len_mid]; omega) hS.part).mono fun e w1 ⟨y, h8, h9⟩ => ⟨y, by rw [h8, len_mid], h9⟩) ?_;rintro ⟨⟨vn2, m2⟩, hl2, hm2, hn2⟩;dsimp only at hl2 hm2 hn2;simp only [zc0,zc1];rw [app_mid] at hl2;rw [app_mid];refine g_buildSlice (offs := [0]) rfl rfl Tryz.underlying138 rfl Tryz.zeroValue3 (by kernel_rfl) (fun b12 => (g_appS (bytes := 8) kC ((ns.length + m.length + 1)) 6 (j := 0) rfl rfl rfl rfl Tryz.underlying138 (by kernel_rfl) rfl rfl kC_len rfl (by have := hli.len; have := laidL_len hli.laid; rw [List.length_take] at this; omega) (by have : maxLen = 9223372036854775807 := rfl; have := laidL_len hli.laid; rw [List.length_take] at this; omega) (fun v13 => ?_)));simp only [zs0,zs1];refine xg 1 [] rfl rfl (n_ (g_in_normal (t_ (o_ ?_))));refine xg 2 [] rfl (by omega) (n_ ?_);exact g_again ⟨(j + 1, vn2, m ++ m2, v13, ks ++ [ns.length + m.length + 1]), hli.next hu (fun hk => by omega) (by rw [app_mid]; exact hl2) hm2 hn2⟩ [0, 3, 5, 6, 26, 27, 28] (by dsimp only; omega) rfl (zpk [5,1,1,1,2] rfl)
  refine xg 9 [] rfl rfl (n_ (t_ (g_cond_f rfl (g_skip (t_ (o_ ?_))))));refine xg 3 [0] rfl (by omega) (g_ahead [2,2,2] rfl ?_);simp only [zc0,zc1];refine g_callOwn (L0 := [.cells b 136 [vn1, st8 tx.l, .bool tx.bg, .map (some mp)], .row 140 10 vn1 (ns ++ ((MT.mk k s nmi nma nnu (Value.slice pq q.length cq) q), Value.slice none 0 0, []) :: m).length ((ns ++ ((MT.mk k s nmi nma nnu (Value.slice pq q.length cq) q), Value.slice none 0 0, []) :: m).flatMap fC), .kids (ns ++ ((MT.mk k s nmi nma nnu (Value.slice pq q.length cq) q), Value.slice none 0 0, []) :: m)]) (fun _ : {y : Value × List Nd // laidT ((ns ++ ((MT.mk k s nmi nma nnu (Value.slice pq q.length cq) q), Value.slice none 0 0, []) :: m) ++ y.2) (.mk k2 s2 mi2 ma2 nu2 (.slice v12 v22 v32) q2) (ns ++ ((MT.mk k s nmi nma nnu (Value.slice pq q.length cq) q), Value.slice none 0 0, []) :: m).length ∧ y.2.length ≤ wT (.mk k2 s2 mi2 ma2 nu2 (.slice v12 v22 v32) q2) ∧ ∀ d ∈ y.2, Nice d} => .int .i64 ((ns.length + m.length + 1 : Nat) : Int)) (fun y => [.cells b 136 [y.1.1, st8 tx.l, .bool tx.bg, .map (some mp)], .row 140 10 y.1.1 ((ns ++ ((MT.mk k s nmi nma nnu (Value.slice pq q.length cq) q), Value.slice none 0 0, []) :: m) ++ y.1.2).length (((ns ++ ((MT.mk k s nmi nma nnu (Value.slice pq q.length cq) q), Value.slice none 0 0, []) :: m) ++ y.1.2).flatMap fC), .kids ((ns ++ ((MT.mk k s nmi nma nnu (Value.slice pq q.length cq) q), Value.slice none 0 0, []) :: m) ++ y.1.2)]) rfl rfl rfl Tryz.call72 (fun w' hS => (ih _ (List.mem_of_getElem? hu) (ns ++ ((MT.mk k s nmi nma nnu (Value.slice pq q.length cq) q), Value.slice none 0 0, []) :: m) _ _ w' (hS.okOf huk.1 huk.2.1) (hS.outOf huk.1 huk.2.1) (by have := wT_take hu; have := hli.len; rw [len_mid]; omega) hS.part).mono fun e w1 ⟨y, h8, h9⟩ => ⟨y, by rw [h8, len_mid], h9⟩) ?_;rintro ⟨⟨vn2, m2⟩, hl2, hm2, hn2⟩;dsimp only at hl2 hm2 hn2;simp only [zc0,zc1];rw [app_mid] at hl2;rw [app_mid];refine g_buildSlice (offs := [0]) rfl rfl Tryz.underlying138 rfl Tryz.zeroValue3 (by kernel_rfl) (fun b14 => (g_appS (bytes := 8) kC ((ns.length + m.length + 1)) 6 (j := 0) rfl rfl rfl rfl Tryz.underlying138 (by kernel_rfl) rfl rfl kC_len rfl (by have := hli.len; have := laidL_len hli.laid; rw [List.length_take] at this; omega) (by have : maxLen = 9223372036854775807 := rfl; have := laidL_len hli.laid; rw [List.length_take] at this; omega) (fun v15 => ?_)));simp only [zs0,zs1];refine xg 1 [] rfl rfl (n_ (g_in_normal (t_ (o_ ?_))));refine xg 2 [] rfl (by omega) (n_ ?_);exact g_again ⟨(j + 1, vn2, m ++ m2, v15, ks ++ [ns.length + m.length + 1]), hli.next hu (fun hk => by omega) (by rw [app_mid]; exact hl2) hm2 hn2⟩ [0, 3, 5, 6, 26, 27, 28] (by dsimp only; omega) rfl (zpk [5,1,1,1,2] rfl)
 refine g_cond_f rfl (g_exit (g_then_exit (g_then_exit (g_in_exit (t_ (s_ (s_ (o_ (xg 1 [] rfl rfl ?_)))))))));refine g_rowLen 4 rfl (fun pr32 cr32 hv32 => ?_);cases hv32;refine g_val rfl rfl rfl (y_llen rfl Tryz.underlying138) (xg 1 [0] rfl rfl ?_);refine n_ (t_ (g_casep 54 rfl (fun h33 => ?_) fun h33 => ?_))
 ·refine g_cond_t rfl (o_ (g_nilRow 3 1 ?_));have hks : ks = [] := List.length_eq_zero_iff.1 (by omega);refine g_val rfl rfl rfl (y_assign rfl) (ntso_ ?_);refine xg 6 [2] rfl (by omega) (g_rowCase 3 rfl (by rw [len_mid]; omega) (fun gr34 cr34 hv34 => ?_));cases hv34;refine g_val rfl rfl rfl (y_idxAddr (m := ns.length * 10) rfl rfl Tryz.underlying134 Tryz.sizeOf140 (by omega) (by rw [len_mid]; omega) (by rw [Int.toNat_natCast]; omega)) (g_val (v := .pointer (some ⟨gr34, ns.length * 10 + 9, none⟩)) rfl rfl rfl (y_fieldAddr rfl (by kernel_rfl) rfl) ?_);refine g_stR (off := ns.length * 10 + 9) 3 rfl rfl rfl Tryz.sizeOf138 rfl rfl (by rw [fm_len fC 10 fC_len, len_mid]; omega) ?_;simp only [zs0,zs1];rw [fC_set _ _ _ _ _ _ [] (get_mid ns m _), set_mid];refine g_ahead [4,0] rfl ?_;simp only [zc0,zc1];rw [kC_map];refine g_kidsSet (a := ns.length) (t := (MT.mk k s nmi nma nnu (Value.slice pq q.length cq) q)) (ks := []) rfl ?_;rw [set_mid];refine ntso_ (xg 2 [] rfl rfl ?_);refine n_ (t_ (g_ret (g_end1 Tryz.results72 rfl ?_)));subst hks;rw [show (ns ++ ((MT.mk k s nmi nma nnu (Value.slice pq q.length cq) q), Value.slice none 0 0, []) :: m).length = (ns ++ ((MT.mk k s nmi nma nnu (Value.slice pq q.length cq) q), (Value.slice none 0 0), []) :: m).length by simp only [len_mid]];exact fun w hS => ⟨⟨(_, ((MT.mk k s nmi nma nnu (Value.slice pq q.length cq) q), (Value.slice none 0 0), []) :: m), hli.done (by omega), by rw [List.length_cons]; omega, fun d hd => (List.mem_cons.1 hd).elim (fun h => by subst h; exact ⟨⟨_, _, _, rfl⟩, ⟨_, _, _, rfl⟩, by have := laidL_len hli.laid; rw [List.length_take] at this; simp only [List.length_nil]; omega⟩) (hli.nice d)⟩, rfl, hS.pick [2,2,0] rfl⟩
 refine g_cond_f rfl (g_skip (t_ (s_ (o_ (xg 6 [1] rfl (by omega) ?_)))));refine g_rowCase 2 rfl (by rw [len_mid]; omega) (fun gr35 cr35 hv35 => ?_);cases hv35;refine g_val rfl rfl rfl (y_idxAddr (m := ns.length * 10) rfl rfl Tryz.underlying134 Tryz.sizeOf140 (by omega) (by rw [len_mid]; omega) (by rw [Int.toNat_natCast]; omega)) (g_val (v := .pointer (some ⟨gr35, ns.length * 10 + 9, none⟩)) rfl rfl rfl (y_fieldAddr rfl (by kernel_rfl) rfl) ?_);refine g_stR (off := ns.length * 10 + 9) 2 rfl rfl rfl Tryz.sizeOf138 rfl rfl (by rw [fm_len fC 10 fC_len, len_mid]; omega) ?_;simp only [zs0,zs1];rw [fC_set _ _ _ _ _ _ ks (get_mid ns m _), set_mid];refine g_ahead [3,3] rfl ?_;simp only [zc0,zc1];rw [kC_map];refine g_kidsSet (a := ns.length) (t := (MT.mk k s nmi nma nnu (Value.slice pq q.length cq) q)) (ks := ks) rfl ?_;rw [set_mid];refine ntso_ (xg 2 [] rfl rfl ?_);refine n_ (t_ (g_ret (g_end1 Tryz.results72 rfl ?_)));rw [show (ns ++ ((MT.mk k s nmi nma nnu (Value.slice pq q.length cq) q), Value.slice none 0 0, []) :: m).length = (ns ++ ((MT.mk k s nmi nma nnu (Value.slice pq q.length cq) q), (.slice pr32 (ks.length) cr32), ks) :: m).length by simp only [len_mid]];exact fun w hS => ⟨⟨(_, ((MT.mk k s nmi nma nnu (Value.slice pq q.length cq) q), (.slice pr32 (ks.length) cr32), ks) :: m), hli.done (by omega), by rw [List.length_cons]; omega, fun d hd => (List.mem_cons.1 hd).elim (fun h => by subst h; exact ⟨⟨_, _, _, rfl⟩, ⟨_, _, _, rfl⟩, by have := laidL_len hli.laid; rw [List.length_take] at this; simp only [List.length_nil]; omega⟩) (hli.nice d)⟩, rfl, hS.pick [2,2,0] rfl⟩
theorem lay_ok (b mp : Nat) (tx : Tx) : ∀ (D : Nat) (t : MT), wT t ≤ D → LayOk b mp tx t := by
  intro D;induction D with
  | zero => intro t h; cases t; rw [wT_mk] at h; omega
  | succ D ihD =>
    intro t hD ns vn F w hok hdis hle hS0;cases t with | mk k s mi ma nu v q =>
    rw [wT_mk] at hle hD
    obtain ⟨p, c, rfl⟩ : ∃ p c, v = .slice p q.length c := by
      obtain ⟨p, c, h4, _⟩ := (rd_mk.1 hok).1;exact ⟨_, _, h4⟩
    have := lay_any b mp tx k s mi ma nu p c q (fun u hu => ihD u (by have := wT_mem hu; omega)) ns vn F w hok hdis hle hS0;rw [wT_mk];exact this
end Go.Proofs.YtjdmdpjbijkjaaaGreat

