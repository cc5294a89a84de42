/- The tokens of any text. -/
import Derived.Test.YtpoelkfncpjmfaaPbk
namespace Go.Proofs.Ytpoelkfncpjmfaa
open Go Go.RowKit

def setT (s : Nat → Int) : Tok := ⟨0, s, 0, 0⟩
def tokX (ext : Bool) : UInt8 → List Tok → Int → List Tok × Int := match ext with
  | true => tokE
  | false => tokB
def okX (ext : Bool) (c : UInt8) : Prop := c.toNat ≠ 92 ∧ c.toNat ≠ 91 ∧ c.toNat ≠ 94 ∧ c.toNat ≠ 36 ∧ (ext = true → c.toNat ≠ 123)
inductive LStep (ext : Bool) : List UInt8 → List Tok → Int → Option (List UInt8 × List Tok × Int) → Prop
  | esc {c : UInt8} {l : List UInt8} {ts : List Tok} {d : Int} {r : List UInt8} {ts' : List Tok} {d' : Int} (h : (c.toNat : Int) = 92) (he : EscR ext l ts d r ts' d' true) : LStep ext (c :: l) ts d (some (r, ts', d'))
  | esc0 {c : UInt8} {l : List UInt8} {ts : List Tok} {d : Int} {r : List UInt8} {ts' : List Tok} {d' : Int} (h : (c.toNat : Int) = 92) (he : EscR ext l ts d r ts' d' false) : LStep ext (c :: l) ts d none
  | brack {c : UInt8} {l : List UInt8} {ts : List Tok} {d : Int} {s : Nat → Int} {n : Nat} (h : (c.toNat : Int) = 91) (hn : n ≤ l.length) : LStep ext (c :: l) ts d (some (l.drop n, ts ++ [(setT s)], d))
  | brack0 {c : UInt8} {l : List UInt8} {ts : List Tok} {d : Int} (h : (c.toNat : Int) = 91) : LStep ext (c :: l) ts d none
  | begins {c : UInt8} {l : List UInt8} {ts : List Tok} {d : Int} (h : (c.toNat : Int) = 94) (ha : anchT ext c l ts d = true) : LStep ext (c :: l) ts d (some (l, ts ++ [kT 5], d))
  | ends {c : UInt8} {l : List UInt8} {ts : List Tok} {d : Int} (h : (c.toNat : Int) = 36) (ha : anchT ext c l ts d = true) : LStep ext (c :: l) ts d (some (l, ts ++ [kT 6], d))
  | lits {c : UInt8} {l : List UInt8} {ts : List Tok} {d : Int} (h : (c.toNat : Int) = 94 ∨ (c.toNat : Int) = 36) (he : ext = false) (ha : anchT ext c l ts d = false) : LStep ext (c :: l) ts d (some (l, ts ++ [litT c], d))
  | iv {c : UInt8} {l : List UInt8} {ts : List Tok} {d : Int} {t : Tok} {r : List UInt8} (h : (c.toNat : Int) = 123) (he : ext = true) (hi : IvR [125] l t r true) : LStep ext (c :: l) ts d (some (r, ts ++ [t], d))
  | iv0 {c : UInt8} {l : List UInt8} {ts : List Tok} {d : Int} {t : Tok} {r : List UInt8} (h : (c.toNat : Int) = 123) (he : ext = true) (hi : IvR [125] l t r false) : LStep ext (c :: l) ts d none
  | plain {c : UInt8} {l : List UInt8} {ts : List Tok} {d : Int} {ts' : List Tok} {d' : Int} (h : okX ext c) (e : tokX ext c ts d = (ts', d')) : LStep ext (c :: l) ts d (some (l, ts', d'))
/-- The tokens of a text, or none. -/
inductive Lex (ext : Bool) : List UInt8 → List Tok → Int → Option (List Tok) → Prop
  | done {ts : List Tok} {d : Int} (h : d = 0) : Lex ext [] ts d (some ts)
  | deep {ts : List Tok} {d : Int} (h : d ≠ 0) : Lex ext [] ts d none
  | fail {l : List UInt8} {ts : List Tok} {d : Int} (h : LStep ext l ts d none) : Lex ext l ts d none
  | neg {l : List UInt8} {ts : List Tok} {d : Int} {r : List UInt8} {ts' : List Tok} {d' : Int} (h : LStep ext l ts d (some (r, ts', d'))) (hd : d' < 0) : Lex ext l ts d none
  | next {l : List UInt8} {ts : List Tok} {d : Int} {r : List UInt8} {ts' : List Tok} {d' : Int} {o : Option (List Tok)} (h : LStep ext l ts d (some (r, ts', d'))) (hd : 0 ≤ d') (ho : Lex ext r ts' d' o) : Lex ext l ts d o
theorem lex_end {ext : Bool} {ts : List Tok} {d : Int} : Lex ext [] ts d (if d = 0 then some ts else none) := by
  split
  · exact .done (by assumption)
  · exact .deep (by assumption)
theorem IvR_len {cl l r : List UInt8} {t : Tok} {ok : Bool} (h : IvR cl l t r ok) : r.length ≤ l.length := by
  cases h with
  | one h hc ho => exact Nat.le_trans (Lib.trimPrefix_le _ _) (Nat.le_trans (Lib.trimPrefix_le _ _) (by rw [List.length_drop]; omega))
  | two h hc h2 ho => exact Nat.le_trans (Lib.trimPrefix_le _ _) (Nat.le_trans (by rw [List.length_drop]; exact Nat.sub_le _ _) (Nat.le_trans (Lib.trimPrefix_le _ _) (by rw [List.length_drop]; omega)))
theorem EscR_len {ext : Bool} {l r : List UInt8} {ts ts' : List Tok} {d d' : Int} (h : EscR ext l ts d r ts' d' true) : ts'.length = ts.length + 1 ∧ r.length ≤ l.length ∧ d' ≤ d + 1 ∧ d - 1 ≤ d' := by
  cases h with
  | nl h => simp; omega
  | known h hk => simp; omega
  | opens he h => simp; omega
  | shuts he h => simp; omega
  | iv he h hs hi => have := IvR_len hi; simp; omega

set_option maxRecDepth 100000 in
theorem tokens_xb (b : Nat) (l0 : List UInt8) (v0 : Value) (hl0 : l0.length ≤ 400) (F : List Nat) (w : World) (hz : MaxHere w) (hF0 : 0 ∉ F) (hS0 : St w F [.cells b 50 [st8 l0, .bool false, v0, .int .i64 0], .row 64 7 v0 ([] : List Tok).length (([] : List Tok).flatMap tC)] w) :
    Calls Try.prog 17 #[.pointer (some ⟨b, 0, none⟩)] w fun e w' => ∃ x : {x : Value × List UInt8 × List Tok × Int × Option (List Tok) // Lex false l0 [] 0 x.2.2.2.2 ∧ ∀ ts, x.2.2.2.2 = some ts → x.2.2.1 = ts ∧ ts.length ≤ l0.length}, e = .returned (.bool x.1.2.2.2.2.isSome) ∧ St w F [.cells b 50 [st8 x.1.2.1, .bool false, x.1.1, .int .i64 x.1.2.2.2.1], .row 64 7 x.1.1 x.1.2.2.1.length (x.1.2.2.1.flatMap tC)] w' := by
 refine fn_intro_own Try.func17 rfl Try.ntmps17 rfl rfl hS0 ?_
 refine s_ (o_ ?_)
 refine xg 1 [] rfl rfl ?_
 refine n_ (t_ ?_)
 refine g_scope_fall (α := {x : List UInt8 × Value × List Tok × Int // x.1.length + x.2.2.1.length ≤ l0.length ∧ 0 ≤ x.2.2.2 ∧ x.2.2.2 ≤ x.2.2.1.length ∧ ∀ o, Lex false x.1 x.2.2.1 x.2.2.2 o → Lex false l0 [] 0 o}) (fun z => match z with | x => [(0, .pointer (some ⟨b, 0, none⟩))]) (fun z => match z with | x => St w F [.cells b 50 [st8 x.1.1, .bool false, x.1.2.1, .int .i64 x.1.2.2.2], .row 64 7 x.1.2.1 x.1.2.2.1.length (x.1.2.2.1.flatMap tC)]) (fun z => match z with | x => 0) (fun z => match z with | x => x.1.1.length) (fun _ => rfl) ?_ ?_
 ·intro x
  dsimp only
  obtain ⟨⟨rest, v, ts, d⟩, hx⟩ := x
  dsimp only at hx ⊢
  obtain ⟨hlen, hd0, hd1, hR⟩ := hx
  refine s_ (s_ ?_)
  rcases rest with _ | ⟨c, l⟩
  ·refine o_ ?_
   refine xg 5 [0] rfl (by omega) ?_
   refine g_lit 11 true rfl (decide_eq_true rfl) ?_
   refine n_ (t_ (g_cond_t rfl (s_ (o_ ?_))))
   refine xg 6 [0,0] rfl (by omega) ?_
   refine n_ (t_ (g_ret (g_then_ret (g_jumps_ret ?_))))
   refine g_end1 Try.results17 rfl ?_
   refine fun w hS => ⟨⟨(v, [], ts, d, if d = 0 then some ts else none), hR _ lex_end, fun ts' q => ?_⟩, ret_bool (by dsimp only; split <;> simp_all), hS.pick [0,0] rfl⟩
   dsimp only at q
   split at q
   · cases q; exact ⟨rfl, by simp at hlen; omega⟩
   · cases q
  have hcl := c.toNat_lt
  have hl1 : (c :: l).length = l.length + 1 := rfl
  refine o_ ?_
  refine xg 5 [0] rfl (by omega) ?_
  refine g_lit 11 false rfl (decide_eq_false (st8_nil c l)) ?_
  refine n_ (t_ (g_cond_f rfl (g_skip (t_ (s_ ?_)))))
  refine k_go [] rfl (by kernel_rfl) (fun _ _ _ _ _ h => h) fun hQ => ?_
  refine k_x 0 [] [] hQ (by kernel_rfl) rfl rfl rfl rfl rfl rfl ?_
  refine k_x 1 [] [] hQ (by kernel_rfl) rfl rfl rfl rfl rfl rfl ?_
  refine k_x 2 [] [] hQ (by kernel_rfl) rfl rfl rfl rfl rfl rfl ?_
  refine k_x 3 [] [] hQ (by kernel_rfl) rfl rfl rfl rfl rfl rfl ?_
  refine k_x 6 [] [] hQ (by kernel_rfl) rfl rfl rfl rfl rfl rfl ?_
  refine k_x 7 [] [] hQ (by kernel_rfl) rfl rfl rfl rfl rfl rfl ?_
  refine k_x 8 [] [] hQ (by kernel_rfl) rfl rfl rfl rfl rfl rfl ?_
  refine k_all [4,9] (by kernel_rfl) (by simp) ⟨?_, ?_, trivial⟩
  ·refine k_op 4 rfl ?_
   refine xg 1 [0] rfl (by omega) ?_
   refine n_ ?_
   refine k_end (fun _ h => h.pick [] rfl) ?_
   refine k_take (v := .int .u8 (c.toNat : Int)) 5 rfl (by kernel_rfl) hQ rfl rfl rfl (fun _ h => h.pick [] rfl) (y_sidx (i := 0) rfl rfl Try.underlying9 (st8_0 c l)) ?_
   refine k_x 11 [] [] hQ (by kernel_rfl) rfl rfl rfl rfl rfl rfl ?_
   refine k_one 9 (by kernel_rfl) ?_
   refine k_op 9 rfl ?_
   refine xg 1 [0] rfl (by omega) ?_
   refine n_ ?_
   refine k_end (fun _ h => h.pick [] rfl) ?_
   refine k_take (v := st8 l) 10 rfl (by kernel_rfl) hQ rfl rfl rfl (fun _ h => h.pick [] rfl) (y_val (y_sfrom (l := 1) rfl rfl Try.underlying9 (by show 1 ≤ (c :: l).toArray.size; simp)) (by rw [st8_1]; rfl)) ?_
   refine k_x 12 [] [] hQ (by kernel_rfl) rfl rfl rfl rfl rfl rfl ?_
   refine k_x 13 [] [] hQ (by kernel_rfl) rfl rfl rfl rfl rfl rfl ?_
   refine k_one 14 (by kernel_rfl) ?_
   refine k_op 14 rfl ?_
   refine xg 1 [0] rfl (by omega) ?_
   refine n_ ?_
   refine k_end (fun _ h => h.pick [] rfl) ?_
   refine k_done (by kernel_rfl) ?_
   refine t_ (s_ (g_block (s_ (o_ ?_))))
   refine xg 3 [0] rfl rfl ?_
   refine n_ (t_ ?_)
   refine g_casep 33 rfl (fun h1 => ?_) fun h1 => ?_
   ·refine g_cond_t rfl (s_ (o_ ?_))
    refine xg 1 [] rfl rfl ?_
    refine g_callAll (fun x : {x : List UInt8 × List Tok × Int × Bool × Value // EscR false l ts d x.1 x.2.1 x.2.2.1 x.2.2.2.1} => .bool x.1.2.2.2.1) (fun x => [.cells b 50 [st8 x.1.1, .bool false, x.1.2.2.2.2, .int .i64 x.1.2.2.1], .row 64 7 x.1.2.2.2.2 x.1.2.1.length (x.1.2.1.flatMap tC)]) rfl rfl rfl Try.call21 (fun w F' hS => escaped_any b false l d v ts F' w (by omega) (by omega) (by omega) hS) ?_
    rintro ⟨⟨r, ts1, d1, ok, ve⟩, hesc⟩
    try dsimp only
    dsimp only at hesc
    refine xg 1 [] rfl rfl ?_
    refine n_ (t_ ?_)
    first | refine g_casep 38 rfl (fun h2 => ?_) fun h2 => ?_ | refine g_caseb 38 rfl (fun h2 => ?_) fun h2 => ?_
    ·refine g_cond_t rfl (s_ ?_)
     obtain rfl : ok = false := by simpa using ‹(!ok) = true›
     refine o_ ?_
     refine xg 1 [] rfl rfl ?_
     refine n_ (t_ (g_ret (g_in_ret (g_then_ret (g_jumps_ret ?_)))))
     refine g_end1 Try.results17 rfl ?_
     exact fun w hS => ⟨⟨(ve, r, ts1, d1, none), hR _ (.fail (.esc0 (by omega) hesc)), fun ts' q => by cases q⟩, rfl, hS.pick [0,0] rfl⟩
    refine g_cond_f rfl (g_skip (g_in_normal (t_ (s_ (s_ ?_)))))
    obtain rfl : ok = true := by simpa using ‹(!ok) = false›
    have hel := EscR_len hesc
    refine o_ ?_
    refine xg 5 [0,0] rfl (by omega) ?_
    refine n_ (t_ ?_)
    refine g_casep 186 rfl (fun h3 => ?_) fun h3 => ?_
    ·refine g_cond_t rfl (s_ (o_ ?_))
     refine xg 1 [] rfl rfl ?_
     refine n_ (t_ (g_ret (g_then_ret (g_jumps_ret ?_))))
     refine g_end1 Try.results17 rfl ?_
     exact fun w hS => ⟨⟨(ve, r, ts1, d1, none), hR _ (.neg (.esc (by omega) hesc) (by omega)), fun ts' q => by cases q⟩, rfl, hS.pick [0,0] rfl⟩
    refine g_cond_f rfl (g_skip (t_ (g_goto ?_)))
    exact g_jump ⟨(r, ve, ts1, d1), by dsimp only; (try rw [List.length_append, List.length_singleton]); omega, by dsimp only; omega, by dsimp only; (try rw [List.length_append, List.length_singleton]); omega, fun o h => hR o (.next (.esc (by omega) hesc) (by first | omega | (dsimp only; omega)) h)⟩ [0] rfl (fun j hj => by cases hj; dsimp only; omega) rfl (fun w h => h.pick [0,0] rfl)
   refine g_cond_f rfl (s_ (o_ ?_))
   refine xg 3 [0] rfl rfl ?_
   refine n_ (t_ ?_)
   refine g_casep 39 rfl (fun h4 => ?_) fun h4 => ?_
   ·refine g_cond_t rfl (s_ (o_ ?_))
    refine xg 4 [0] rfl (by omega) ?_
    refine g_callE (fun x : {x : (Nat → Int) × Int × Int // x.2.2 = 0 → 0 ≤ x.2.1 ∧ x.2.1 ≤ l.length} => .tuple #[.agg (s4C x.1.1).toArray, .int .i64 x.1.2.1, .int .i64 x.1.2.2]) rfl rfl rfl Try.call22 (fun w hS => bracket_any l (by omega) w (hS.maxHere hz hF0)) ?_
    rintro ⟨⟨s, n, er⟩, hb⟩
    dsimp only at hb ⊢
    refine xg 1 [] rfl rfl ?_
    refine g_val (v := .agg (s4C s).toArray) rfl rfl rfl (y_extract rfl rfl) ?_
    refine g_val (v := .int .i64 n) rfl rfl rfl (y_extract rfl rfl) ?_
    refine g_val (v := .int .i64 er) rfl rfl rfl (y_extract rfl rfl) ?_
    refine g_alloc rfl rfl Try.zeroValue27 rfl (fun b1 => ?_)
    refine g_stN 0 rfl rfl rfl (by kernel_rfl) rfl rfl rfl rfl ?_
    simp only [List.set_cons_zero]
    refine xg 2 [] rfl rfl ?_
    refine n_ (t_ (s_ (s_ (o_ ?_))))
    refine xg 2 [0] rfl rfl ?_
    refine n_ (t_ ?_)
    refine g_casep 52 rfl (fun h5 => ?_) fun h5 => ?_
    ·refine g_cond_t rfl (s_ (o_ ?_))
     refine xg 1 [] rfl rfl ?_
     refine n_ (t_ (g_ret (g_then_ret (g_in_ret (g_then_ret (g_jumps_ret ?_))))))
     refine g_end1 Try.results17 rfl ?_
     exact fun w hS => ⟨⟨(v, l, ts, d, none), hR _ (.fail (.brack0 (by omega))), fun ts' q => by cases q⟩, rfl, hS.pick [1,1] rfl⟩
    refine g_cond_f rfl (g_skip (t_ (s_ ?_)))
    obtain ⟨hn0, hn1⟩ := hb (by omega)
    obtain ⟨n, rfl⟩ := Int.eq_ofNat_of_zero_le hn0
    have hld := List.length_drop (l := l) (i := n)
    refine o_ ?_
    refine xg 1 [] rfl rfl ?_
    refine g_val rfl rfl rfl (y_ldN (vs := (s4C s)) 0 rfl Try.isAgg27 Try.sizeOf27 rfl rfl rfl) ?_
    refine g_val (v := .agg (tC (setT s)).toArray) rfl rfl rfl (y_val (y_build (offs := [0, 1]) rfl Try.zeroValue64 (by kernel_rfl)) rfl) ?_
    refine g_perm (.trans (.swap _ _ _) (.cons _ (.swap _ _ _))) ?_
    refine g_callOwn (L0 := [.cells b 50 [st8 l, (.bool false), v, (.int .i64 d)], .row 64 7 v ts.length (ts.flatMap tC)]) (fun _ : Value => .tuple #[]) (fun v' => [.cells b 50 [st8 l, (.bool false), v', (.int .i64 d)], .row 64 7 v' (ts ++ [(setT s)]).length ((ts ++ [(setT s)]).flatMap tC)]) rfl rfl rfl Try.call23 (fun w hS => put_any b (st8 l) (.bool false) (.int .i64 d) v ts (setT s) _ w (by omega) hS.part) ?_
    intro vq
    try dsimp only
    simp only [List.cons_append, List.nil_append]
    refine nto_ ?_
    refine xg 6 [0] rfl (by omega) ?_
    refine g_val (v := st8 (l.drop n)) rfl rfl rfl (y_val (y_sfrom (l := n) rfl rfl Try.underlying9 (by rw [size_mk]; omega)) (by rw [st8_drop]; rfl)) ?_
    refine xg 3 [0] rfl (by omega) ?_
    refine n_ (g_in_normal (t_ (s_ (s_ (o_ ?_)))))
    refine xg 5 [0,2] rfl (by omega) ?_
    refine n_ (t_ (g_cond_f rfl (g_skip (t_ (g_goto ?_)))))
    exact g_jump ⟨((l.drop n), vq, (ts ++ [(setT s)]), d), by dsimp only; (try rw [List.length_append, List.length_singleton]); omega, by dsimp only; omega, by dsimp only; (try rw [List.length_append, List.length_singleton]); omega, fun o h => hR o (.next (.brack (by omega) (by omega)) (by first | omega | (dsimp only; omega)) h)⟩ [0] rfl (fun j hj => by cases hj; dsimp only; omega) rfl (fun w h => h.pick [0,0] rfl)
   refine g_cond_f rfl (s_ (o_ ?_))
   refine xg 3 [0] rfl rfl ?_
   refine n_ (t_ ?_)
   refine g_casep 66 rfl (fun h6 => ?_) fun h6 => ?_
   ·refine g_cond_t rfl (o_ ?_)
    refine xg 2 [] rfl rfl ?_
    refine g_call1 rfl rfl rfl Try.call24 (fun w hS => cwith_any s0 0 255 (by decide) (by decide) w) ?_
    refine xg 1 [] rfl rfl ?_
    refine g_callAll (fun _ : Value => .tuple #[]) (fun v' => [.cells b 50 [st8 l, (.bool false), v', (.int .i64 d)], .row 64 7 v' (ts ++ [dotT]).length ((ts ++ [dotT]).flatMap tC)]) rfl rfl rfl Try.call23 (fun w F' hS => put_any b (st8 l) (.bool false) (.int .i64 d) v ts dotT F' w (by omega) hS) ?_
    intro vq
    try dsimp only
    refine n_ (g_in_normal (t_ (s_ (s_ (o_ ?_)))))
    refine xg 5 [0,2] rfl (by omega) ?_
    refine n_ (t_ (g_cond_f rfl (g_skip (t_ (g_goto ?_)))))
    exact g_jump ⟨(l, vq, (ts ++ [dotT]), d), by dsimp only; (try rw [List.length_append, List.length_singleton]); omega, by dsimp only; omega, by dsimp only; (try rw [List.length_append, List.length_singleton]); omega, fun o h => hR o (.next (.plain (by unfold okX; refine ⟨by omega, by omega, by omega, by omega, fun q => ?_⟩; first | omega | cases q) (by show tokB c ts d = _; unfold tokB; rw [if_pos (by omega)])) (by first | omega | (dsimp only; omega)) h)⟩ [0] rfl (fun j hj => by cases hj; dsimp only; omega) rfl (fun w h => h.pick [0,0] rfl)
   refine g_cond_f rfl (s_ (o_ ?_))
   refine xg 3 [0] rfl rfl ?_
   refine g_casep 77 rfl (fun h7 => ?_) fun h7 => ?_
   ·refine xg 2 [] rfl rfl ?_
    refine g_callAll (fun _ : Unit => .bool (anchT false c l ts d)) (fun _ => [.cells b 50 [st8 l, .bool false, v, .int .i64 d], .row 64 7 v ts.length (ts.flatMap tC)]) rfl rfl rfl Try.call25 (fun w F' hS => anchored_any b false l d v ts c F' w (by omega) (by omega) (by omega) hS) ?_
    intro _
    try dsimp only
    refine xg 2 [] rfl rfl ?_
    refine n_ (t_ ?_)
    first | refine g_casep 74 rfl (fun h8 => ?_) fun h8 => ?_ | refine g_caseb 74 rfl (fun h8 => ?_) fun h8 => ?_
    ·refine g_cond_t rfl (o_ ?_)
     refine xg 2 [] rfl rfl ?_
     refine g_callAll (fun _ : Value => .tuple #[]) (fun v' => [.cells b 50 [st8 l, (.bool false), v', (.int .i64 d)], .row 64 7 v' (ts ++ [(kT 5)]).length ((ts ++ [(kT 5)]).flatMap tC)]) rfl rfl rfl Try.call23 (fun w F' hS => put_any b (st8 l) (.bool false) (.int .i64 d) v ts (kT 5) F' w (by omega) hS) ?_
     intro vq
     try dsimp only
     refine n_ (g_in_normal (t_ (s_ (s_ (o_ ?_)))))
     refine xg 5 [0,2] rfl (by omega) ?_
     refine n_ (t_ (g_cond_f rfl (g_skip (t_ (g_goto ?_)))))
     exact g_jump ⟨(l, vq, (ts ++ [(kT 5)]), d), by dsimp only; (try rw [List.length_append, List.length_singleton]); omega, by dsimp only; omega, by dsimp only; (try rw [List.length_append, List.length_singleton]); omega, fun o h => hR o (.next (.begins (by omega) (by assumption)) (by first | omega | (dsimp only; omega)) h)⟩ [0] rfl (fun j hj => by cases hj; dsimp only; omega) rfl (fun w h => h.pick [0,0] rfl)
    refine g_cond_f rfl (s_ (o_ ?_))
    refine xg 8 [2] rfl (by omega) ?_
    refine n_ (t_ (g_cond_f rfl (s_ (o_ ?_))))
    refine xg 18 [2] rfl (by omega) ?_
    refine n_ (t_ (g_cond_f rfl (s_ (o_ ?_))))
    refine xg 3 [2] rfl (by omega) ?_
    refine n_ (t_ (g_cond_f rfl (s_ (o_ ?_))))
    refine xg 6 [0] rfl (by omega) ?_
    refine n_ (t_ (g_cond_t rfl (o_ ?_)))
    refine xg 2 [] rfl rfl ?_
    refine g_callAll (fun _ : Value => .tuple #[]) (fun v' => [.cells b 50 [st8 l, (.bool false), v', (.int .i64 d)], .row 64 7 v' (ts ++ [litT c]).length ((ts ++ [litT c]).flatMap tC)]) rfl rfl rfl Try.call28 (fun w F' hS => literal_any b (st8 l) (.bool false) (.int .i64 d) v ts c F' w (by omega) hS) ?_
    intro vq
    try dsimp only
    refine n_ (g_in_normal (t_ (s_ (s_ (o_ ?_)))))
    refine xg 5 [0,2] rfl (by omega) ?_
    refine n_ (t_ (g_cond_f rfl (g_skip (t_ (g_goto ?_)))))
    exact g_jump ⟨(l, vq, (ts ++ [litT c]), d), by dsimp only; (try rw [List.length_append, List.length_singleton]); omega, by dsimp only; omega, by dsimp only; (try rw [List.length_append, List.length_singleton]); omega, fun o h => hR o (.next (.lits (by omega) rfl (by assumption)) (by first | omega | (dsimp only; omega)) h)⟩ [0] rfl (fun j hj => by cases hj; dsimp only; omega) rfl (fun w h => h.pick [0,0] rfl)
   refine xg 5 [] rfl rfl ?_
   refine n_ (t_ (g_cond_f rfl (s_ (o_ ?_))))
   refine xg 3 [0] rfl rfl ?_
   refine g_casep 88 rfl (fun h9 => ?_) fun h9 => ?_
   ·refine xg 2 [] rfl rfl ?_
    refine g_callAll (fun _ : Unit => .bool (anchT false c l ts d)) (fun _ => [.cells b 50 [st8 l, .bool false, v, .int .i64 d], .row 64 7 v ts.length (ts.flatMap tC)]) rfl rfl rfl Try.call25 (fun w F' hS => anchored_any b false l d v ts c F' w (by omega) (by omega) (by omega) hS) ?_
    intro _
    try dsimp only
    refine xg 2 [] rfl rfl ?_
    refine n_ (t_ ?_)
    first | refine g_casep 85 rfl (fun h10 => ?_) fun h10 => ?_ | refine g_caseb 85 rfl (fun h10 => ?_) fun h10 => ?_
    ·refine g_cond_t rfl (o_ ?_)
     refine xg 2 [] rfl rfl ?_
     refine g_callAll (fun _ : Value => .tuple #[]) (fun v' => [.cells b 50 [st8 l, (.bool false), v', (.int .i64 d)], .row 64 7 v' (ts ++ [(kT 6)]).length ((ts ++ [(kT 6)]).flatMap tC)]) rfl rfl rfl Try.call23 (fun w F' hS => put_any b (st8 l) (.bool false) (.int .i64 d) v ts (kT 6) F' w (by omega) hS) ?_
     intro vq
     try dsimp only
     refine n_ (g_in_normal (t_ (s_ (s_ (o_ ?_)))))
     refine xg 5 [0,2] rfl (by omega) ?_
     refine n_ (t_ (g_cond_f rfl (g_skip (t_ (g_goto ?_)))))
     exact g_jump ⟨(l, vq, (ts ++ [(kT 6)]), d), by dsimp only; (try rw [List.length_append, List.length_singleton]); omega, by dsimp only; omega, by dsimp only; (try rw [List.length_append, List.length_singleton]); omega, fun o h => hR o (.next (.ends (by omega) (by assumption)) (by first | omega | (dsimp only; omega)) h)⟩ [0] rfl (fun j hj => by cases hj; dsimp only; omega) rfl (fun w h => h.pick [0,0] rfl)
    refine g_cond_f rfl (s_ (o_ ?_))
    refine xg 18 [2] rfl (by omega) ?_
    refine n_ (t_ (g_cond_f rfl (s_ (o_ ?_))))
    refine xg 3 [2] rfl (by omega) ?_
    refine n_ (t_ (g_cond_f rfl (s_ (o_ ?_))))
    refine xg 6 [0] rfl (by omega) ?_
    refine n_ (t_ (g_cond_t rfl (o_ ?_)))
    refine xg 2 [] rfl rfl ?_
    refine g_callAll (fun _ : Value => .tuple #[]) (fun v' => [.cells b 50 [st8 l, (.bool false), v', (.int .i64 d)], .row 64 7 v' (ts ++ [litT c]).length ((ts ++ [litT c]).flatMap tC)]) rfl rfl rfl Try.call28 (fun w F' hS => literal_any b (st8 l) (.bool false) (.int .i64 d) v ts c F' w (by omega) hS) ?_
    intro vq
    try dsimp only
    refine n_ (g_in_normal (t_ (s_ (s_ (o_ ?_)))))
    refine xg 5 [0,2] rfl (by omega) ?_
    refine n_ (t_ (g_cond_f rfl (g_skip (t_ (g_goto ?_)))))
    exact g_jump ⟨(l, vq, (ts ++ [litT c]), d), by dsimp only; (try rw [List.length_append, List.length_singleton]); omega, by dsimp only; omega, by dsimp only; (try rw [List.length_append, List.length_singleton]); omega, fun o h => hR o (.next (.lits (by omega) rfl (by assumption)) (by first | omega | (dsimp only; omega)) h)⟩ [0] rfl (fun j hj => by cases hj; dsimp only; omega) rfl (fun w h => h.pick [0,0] rfl)
   refine xg 5 [] rfl rfl ?_
   refine n_ (t_ (g_cond_f rfl (s_ (o_ ?_))))
   refine xg 3 [0] rfl rfl ?_
   refine g_casep 99 rfl (fun h11 => ?_) fun h11 => ?_
   ·refine xg 8 [0] rfl (by omega) ?_
    refine g_callAll (fun _ : Unit => .bool (startsT ts)) (fun _ => [.cells b 50 [st8 l, (.bool false), v, (.int .i64 d)], .row 64 7 v ts.length (ts.flatMap tC)]) rfl rfl rfl Try.call26 (fun w F' hS => starts_any b (st8 l) (.bool false) (.int .i64 d) v ts F' w (by omega) hS) ?_
    intro _
    try dsimp only
    refine xg 1 [] rfl rfl ?_
    first | refine g_casep 109 rfl (fun h12 => ?_) fun h12 => ?_ | refine g_caseb 109 rfl (fun h12 => ?_) fun h12 => ?_
    ·refine xg 5 [] rfl rfl ?_
     refine n_ (t_ (g_cond_t rfl (o_ ?_)))
     refine xg 2 [] rfl rfl ?_
     refine g_callAll (fun _ : Value => .tuple #[]) (fun v' => [.cells b 50 [st8 l, (.bool false), v', (.int .i64 d)], .row 64 7 v' (ts ++ [litT c]).length ((ts ++ [litT c]).flatMap tC)]) rfl rfl rfl Try.call28 (fun w F' hS => literal_any b (st8 l) (.bool false) (.int .i64 d) v ts c F' w (by omega) hS) ?_
     intro vq
     try dsimp only
     refine n_ (g_in_normal (t_ (s_ (s_ (o_ ?_)))))
     refine xg 5 [0,2] rfl (by omega) ?_
     refine n_ (t_ (g_cond_f rfl (g_skip (t_ (g_goto ?_)))))
     exact g_jump ⟨(l, vq, (ts ++ [litT c]), d), by dsimp only; (try rw [List.length_append, List.length_singleton]); omega, by dsimp only; omega, by dsimp only; (try rw [List.length_append, List.length_singleton]); omega, fun o h => hR o (.next (.plain (by unfold okX; refine ⟨by omega, by omega, by omega, by omega, fun q => ?_⟩; first | omega | cases q) (by show tokB c ts d = _; unfold tokB; rw [if_neg (by omega), if_pos ⟨by omega, by simp_all⟩])) (by first | omega | (dsimp only; omega)) h)⟩ [0] rfl (fun j hj => by cases hj; dsimp only; omega) rfl (fun w h => h.pick [0,0] rfl)
    refine xg 1 [] rfl rfl ?_
    refine g_callAll (fun _ : Unit => .bool (begunT ts)) (fun _ => [.cells b 50 [st8 l, (.bool false), v, (.int .i64 d)], .row 64 7 v ts.length (ts.flatMap tC)]) rfl rfl rfl Try.call27 (fun w F' hS => begun_any b (st8 l) (.bool false) (.int .i64 d) v ts F' w (by omega) hS) ?_
    intro _
    try dsimp only
    refine xg 3 [] rfl rfl ?_
    refine n_ (t_ ?_)
    first | refine g_casep 96 rfl (fun h13 => ?_) fun h13 => ?_ | refine g_caseb 96 rfl (fun h13 => ?_) fun h13 => ?_
    ·refine g_cond_t rfl (o_ ?_)
     refine xg 2 [] rfl rfl ?_
     refine g_callAll (fun _ : Value => .tuple #[]) (fun v' => [.cells b 50 [st8 l, (.bool false), v', (.int .i64 d)], .row 64 7 v' (ts ++ [litT c]).length ((ts ++ [litT c]).flatMap tC)]) rfl rfl rfl Try.call28 (fun w F' hS => literal_any b (st8 l) (.bool false) (.int .i64 d) v ts c F' w (by omega) hS) ?_
     intro vq
     try dsimp only
     refine n_ (g_in_normal (t_ (s_ (s_ (o_ ?_)))))
     refine xg 5 [0,2] rfl (by omega) ?_
     refine n_ (t_ (g_cond_f rfl (g_skip (t_ (g_goto ?_)))))
     exact g_jump ⟨(l, vq, (ts ++ [litT c]), d), by dsimp only; (try rw [List.length_append, List.length_singleton]); omega, by dsimp only; omega, by dsimp only; (try rw [List.length_append, List.length_singleton]); omega, fun o h => hR o (.next (.plain (by unfold okX; refine ⟨by omega, by omega, by omega, by omega, fun q => ?_⟩; first | omega | cases q) (by show tokB c ts d = _; unfold tokB; rw [if_neg (by omega), if_pos ⟨by omega, by simp_all⟩])) (by first | omega | (dsimp only; omega)) h)⟩ [0] rfl (fun j hj => by cases hj; dsimp only; omega) rfl (fun w h => h.pick [0,0] rfl)
    refine g_cond_f rfl (s_ (o_ ?_))
    refine xg 3 [1] rfl (by omega) ?_
    refine n_ (t_ (g_cond_t rfl (o_ ?_)))
    refine xg 2 [] rfl rfl ?_
    refine g_callAll (fun _ : Value => .tuple #[]) (fun v' => [.cells b 50 [st8 l, (.bool false), v', (.int .i64 d)], .row 64 7 v' (ts ++ [(timesT 0 (-1))]).length ((ts ++ [(timesT 0 (-1))]).flatMap tC)]) rfl rfl rfl Try.call23 (fun w F' hS => put_any b (st8 l) (.bool false) (.int .i64 d) v ts (timesT 0 (-1)) F' w (by omega) hS) ?_
    intro vq
    try dsimp only
    refine n_ (g_in_normal (t_ (s_ (s_ (o_ ?_)))))
    refine xg 5 [0,2] rfl (by omega) ?_
    refine n_ (t_ (g_cond_f rfl (g_skip (t_ (g_goto ?_)))))
    exact g_jump ⟨(l, vq, (ts ++ [(timesT 0 (-1))]), d), by dsimp only; (try rw [List.length_append, List.length_singleton]); omega, by dsimp only; omega, by dsimp only; (try rw [List.length_append, List.length_singleton]); omega, fun o h => hR o (.next (.plain (by unfold okX; refine ⟨by omega, by omega, by omega, by omega, fun q => ?_⟩; first | omega | cases q) (by show tokB c ts d = _; unfold tokB; rw [if_neg (by omega), if_neg (fun q => by have := q.2; simp_all), if_pos (by omega)])) (by first | omega | (dsimp only; omega)) h)⟩ [0] rfl (fun j hj => by cases hj; dsimp only; omega) rfl (fun w h => h.pick [0,0] rfl)
   refine xg 15 [] rfl rfl ?_
   refine n_ (t_ (g_cond_f rfl (s_ (o_ ?_))))
   refine xg 3 [2] rfl (by omega) ?_
   refine n_ (t_ (g_cond_f rfl (s_ (o_ ?_))))
   refine xg 6 [0] rfl (by omega) ?_
   refine n_ (t_ (g_cond_t rfl (o_ ?_)))
   refine xg 2 [] rfl rfl ?_
   refine g_callAll (fun _ : Value => .tuple #[]) (fun v' => [.cells b 50 [st8 l, (.bool false), v', (.int .i64 d)], .row 64 7 v' (ts ++ [litT c]).length ((ts ++ [litT c]).flatMap tC)]) rfl rfl rfl Try.call28 (fun w F' hS => literal_any b (st8 l) (.bool false) (.int .i64 d) v ts c F' w (by omega) hS) ?_
   intro vq
   try dsimp only
   refine n_ (g_in_normal (t_ (s_ (s_ (o_ ?_)))))
   refine xg 5 [0,2] rfl (by omega) ?_
   refine n_ (t_ (g_cond_f rfl (g_skip (t_ (g_goto ?_)))))
   exact g_jump ⟨(l, vq, (ts ++ [litT c]), d), by dsimp only; (try rw [List.length_append, List.length_singleton]); omega, by dsimp only; omega, by dsimp only; (try rw [List.length_append, List.length_singleton]); omega, fun o h => hR o (.next (.plain (by unfold okX; refine ⟨by omega, by omega, by omega, by omega, fun q => ?_⟩; first | omega | cases q) (by show tokB c ts d = _; unfold tokB; rw [if_neg (by omega), if_neg (fun q => by have := q.1; omega), if_neg (by omega)])) (by first | omega | (dsimp only; omega)) h)⟩ [0] rfl (fun j hj => by cases hj; dsimp only; omega) rfl (fun w h => h.pick [0,0] rfl)
  refine k_op 9 rfl ?_
  refine xg 1 [0] rfl (by omega) ?_
  refine n_ ?_
  refine k_end (fun _ h => h.pick [] rfl) ?_
  refine k_take (v := st8 l) 10 rfl (by kernel_rfl) hQ rfl rfl rfl (fun _ h => h.pick [] rfl) (y_val (y_sfrom (l := 1) rfl rfl Try.underlying9 (by show 1 ≤ (c :: l).toArray.size; simp)) (by rw [st8_1]; rfl)) ?_
  refine k_one 4 (by kernel_rfl) ?_
  refine k_op 4 rfl ?_
  refine xg 1 [0] rfl (by omega) ?_
  refine n_ ?_
  refine k_end (fun _ h => h.pick [] rfl) ?_
  refine k_take (v := .int .u8 (c.toNat : Int)) 5 rfl (by kernel_rfl) hQ rfl rfl rfl (fun _ h => h.pick [] rfl) (y_sidx (i := 0) rfl rfl Try.underlying9 (st8_0 c l)) ?_
  refine k_x 11 [] [] hQ (by kernel_rfl) rfl rfl rfl rfl rfl rfl ?_
  refine k_x 12 [] [] hQ (by kernel_rfl) rfl rfl rfl rfl rfl rfl ?_
  refine k_x 13 [] [] hQ (by kernel_rfl) rfl rfl rfl rfl rfl rfl ?_
  refine k_one 14 (by kernel_rfl) ?_
  refine k_op 14 rfl ?_
  refine xg 1 [0] rfl (by omega) ?_
  refine n_ ?_
  refine k_end (fun _ h => h.pick [] rfl) ?_
  refine k_done (by kernel_rfl) ?_
  refine t_ (s_ (g_block (s_ (o_ ?_))))
  refine xg 3 [0] rfl rfl ?_
  refine n_ (t_ ?_)
  refine g_casep 33 rfl (fun h14 => ?_) fun h14 => ?_
  ·refine g_cond_t rfl (s_ (o_ ?_))
   refine xg 1 [] rfl rfl ?_
   refine g_callAll (fun x : {x : List UInt8 × List Tok × Int × Bool × Value // EscR false l ts d x.1 x.2.1 x.2.2.1 x.2.2.2.1} => .bool x.1.2.2.2.1) (fun x => [.cells b 50 [st8 x.1.1, .bool false, x.1.2.2.2.2, .int .i64 x.1.2.2.1], .row 64 7 x.1.2.2.2.2 x.1.2.1.length (x.1.2.1.flatMap tC)]) rfl rfl rfl Try.call21 (fun w F' hS => escaped_any b false l d v ts F' w (by omega) (by omega) (by omega) hS) ?_
   rintro ⟨⟨r, ts1, d1, ok, ve⟩, hesc⟩
   try dsimp only
   dsimp only at hesc
   refine xg 1 [] rfl rfl ?_
   refine n_ (t_ ?_)
   first | refine g_casep 38 rfl (fun h15 => ?_) fun h15 => ?_ | refine g_caseb 38 rfl (fun h15 => ?_) fun h15 => ?_
   ·refine g_cond_t rfl (s_ ?_)
    obtain rfl : ok = false := by simpa using ‹(!ok) = true›
    refine o_ ?_
    refine xg 1 [] rfl rfl ?_
    refine n_ (t_ (g_ret (g_in_ret (g_then_ret (g_jumps_ret ?_)))))
    refine g_end1 Try.results17 rfl ?_
    exact fun w hS => ⟨⟨(ve, r, ts1, d1, none), hR _ (.fail (.esc0 (by omega) hesc)), fun ts' q => by cases q⟩, rfl, hS.pick [0,0] rfl⟩
   refine g_cond_f rfl (g_skip (g_in_normal (t_ (s_ (s_ ?_)))))
   obtain rfl : ok = true := by simpa using ‹(!ok) = false›
   have hel := EscR_len hesc
   refine o_ ?_
   refine xg 5 [0,0] rfl (by omega) ?_
   refine n_ (t_ ?_)
   refine g_casep 186 rfl (fun h16 => ?_) fun h16 => ?_
   ·refine g_cond_t rfl (s_ (o_ ?_))
    refine xg 1 [] rfl rfl ?_
    refine n_ (t_ (g_ret (g_then_ret (g_jumps_ret ?_))))
    refine g_end1 Try.results17 rfl ?_
    exact fun w hS => ⟨⟨(ve, r, ts1, d1, none), hR _ (.neg (.esc (by omega) hesc) (by omega)), fun ts' q => by cases q⟩, rfl, hS.pick [0,0] rfl⟩
   refine g_cond_f rfl (g_skip (t_ (g_goto ?_)))
   exact g_jump ⟨(r, ve, ts1, d1), by dsimp only; (try rw [List.length_append, List.length_singleton]); omega, by dsimp only; omega, by dsimp only; (try rw [List.length_append, List.length_singleton]); omega, fun o h => hR o (.next (.esc (by omega) hesc) (by first | omega | (dsimp only; omega)) h)⟩ [0] rfl (fun j hj => by cases hj; dsimp only; omega) rfl (fun w h => h.pick [0,0] rfl)
  refine g_cond_f rfl (s_ (o_ ?_))
  refine xg 3 [0] rfl rfl ?_
  refine n_ (t_ ?_)
  refine g_casep 39 rfl (fun h17 => ?_) fun h17 => ?_
  ·refine g_cond_t rfl (s_ (o_ ?_))
   refine xg 4 [0] rfl (by omega) ?_
   refine g_callE (fun x : {x : (Nat → Int) × Int × Int // x.2.2 = 0 → 0 ≤ x.2.1 ∧ x.2.1 ≤ l.length} => .tuple #[.agg (s4C x.1.1).toArray, .int .i64 x.1.2.1, .int .i64 x.1.2.2]) rfl rfl rfl Try.call22 (fun w hS => bracket_any l (by omega) w (hS.maxHere hz hF0)) ?_
   rintro ⟨⟨s, n, er⟩, hb⟩
   dsimp only at hb ⊢
   refine xg 1 [] rfl rfl ?_
   refine g_val (v := .agg (s4C s).toArray) rfl rfl rfl (y_extract rfl rfl) ?_
   refine g_val (v := .int .i64 n) rfl rfl rfl (y_extract rfl rfl) ?_
   refine g_val (v := .int .i64 er) rfl rfl rfl (y_extract rfl rfl) ?_
   refine g_alloc rfl rfl Try.zeroValue27 rfl (fun b2 => ?_)
   refine g_stN 0 rfl rfl rfl (by kernel_rfl) rfl rfl rfl rfl ?_
   simp only [List.set_cons_zero]
   refine xg 2 [] rfl rfl ?_
   refine n_ (t_ (s_ (s_ (o_ ?_))))
   refine xg 2 [0] rfl rfl ?_
   refine n_ (t_ ?_)
   refine g_casep 52 rfl (fun h18 => ?_) fun h18 => ?_
   ·refine g_cond_t rfl (s_ (o_ ?_))
    refine xg 1 [] rfl rfl ?_
    refine n_ (t_ (g_ret (g_then_ret (g_in_ret (g_then_ret (g_jumps_ret ?_))))))
    refine g_end1 Try.results17 rfl ?_
    exact fun w hS => ⟨⟨(v, l, ts, d, none), hR _ (.fail (.brack0 (by omega))), fun ts' q => by cases q⟩, rfl, hS.pick [1,1] rfl⟩
   refine g_cond_f rfl (g_skip (t_ (s_ ?_)))
   obtain ⟨hn0, hn1⟩ := hb (by omega)
   obtain ⟨n, rfl⟩ := Int.eq_ofNat_of_zero_le hn0
   have hld := List.length_drop (l := l) (i := n)
   refine o_ ?_
   refine xg 1 [] rfl rfl ?_
   refine g_val rfl rfl rfl (y_ldN (vs := (s4C s)) 0 rfl Try.isAgg27 Try.sizeOf27 rfl rfl rfl) ?_
   refine g_val (v := .agg (tC (setT s)).toArray) rfl rfl rfl (y_val (y_build (offs := [0, 1]) rfl Try.zeroValue64 (by kernel_rfl)) rfl) ?_
   refine g_perm (.trans (.swap _ _ _) (.cons _ (.swap _ _ _))) ?_
   refine g_callOwn (L0 := [.cells b 50 [st8 l, (.bool false), v, (.int .i64 d)], .row 64 7 v ts.length (ts.flatMap tC)]) (fun _ : Value => .tuple #[]) (fun v' => [.cells b 50 [st8 l, (.bool false), v', (.int .i64 d)], .row 64 7 v' (ts ++ [(setT s)]).length ((ts ++ [(setT s)]).flatMap tC)]) rfl rfl rfl Try.call23 (fun w hS => put_any b (st8 l) (.bool false) (.int .i64 d) v ts (setT s) _ w (by omega) hS.part) ?_
   intro vq
   try dsimp only
   simp only [List.cons_append, List.nil_append]
   refine nto_ ?_
   refine xg 6 [0] rfl (by omega) ?_
   refine g_val (v := st8 (l.drop n)) rfl rfl rfl (y_val (y_sfrom (l := n) rfl rfl Try.underlying9 (by rw [size_mk]; omega)) (by rw [st8_drop]; rfl)) ?_
   refine xg 3 [0] rfl (by omega) ?_
   refine n_ (g_in_normal (t_ (s_ (s_ (o_ ?_)))))
   refine xg 5 [0,2] rfl (by omega) ?_
   refine n_ (t_ (g_cond_f rfl (g_skip (t_ (g_goto ?_)))))
   exact g_jump ⟨((l.drop n), vq, (ts ++ [(setT s)]), d), by dsimp only; (try rw [List.length_append, List.length_singleton]); omega, by dsimp only; omega, by dsimp only; (try rw [List.length_append, List.length_singleton]); omega, fun o h => hR o (.next (.brack (by omega) (by omega)) (by first | omega | (dsimp only; omega)) h)⟩ [0] rfl (fun j hj => by cases hj; dsimp only; omega) rfl (fun w h => h.pick [0,0] rfl)
  refine g_cond_f rfl (s_ (o_ ?_))
  refine xg 3 [0] rfl rfl ?_
  refine n_ (t_ ?_)
  refine g_casep 66 rfl (fun h19 => ?_) fun h19 => ?_
  ·refine g_cond_t rfl (o_ ?_)
   refine xg 2 [] rfl rfl ?_
   refine g_call1 rfl rfl rfl Try.call24 (fun w hS => cwith_any s0 0 255 (by decide) (by decide) w) ?_
   refine xg 1 [] rfl rfl ?_
   refine g_callAll (fun _ : Value => .tuple #[]) (fun v' => [.cells b 50 [st8 l, (.bool false), v', (.int .i64 d)], .row 64 7 v' (ts ++ [dotT]).length ((ts ++ [dotT]).flatMap tC)]) rfl rfl rfl Try.call23 (fun w F' hS => put_any b (st8 l) (.bool false) (.int .i64 d) v ts dotT F' w (by omega) hS) ?_
   intro vq
   try dsimp only
   refine n_ (g_in_normal (t_ (s_ (s_ (o_ ?_)))))
   refine xg 5 [0,2] rfl (by omega) ?_
   refine n_ (t_ (g_cond_f rfl (g_skip (t_ (g_goto ?_)))))
   exact g_jump ⟨(l, vq, (ts ++ [dotT]), d), by dsimp only; (try rw [List.length_append, List.length_singleton]); omega, by dsimp only; omega, by dsimp only; (try rw [List.length_append, List.length_singleton]); omega, fun o h => hR o (.next (.plain (by unfold okX; refine ⟨by omega, by omega, by omega, by omega, fun q => ?_⟩; first | omega | cases q) (by show tokB c ts d = _; unfold tokB; rw [if_pos (by omega)])) (by first | omega | (dsimp only; omega)) h)⟩ [0] rfl (fun j hj => by cases hj; dsimp only; omega) rfl (fun w h => h.pick [0,0] rfl)
  refine g_cond_f rfl (s_ (o_ ?_))
  refine xg 3 [0] rfl rfl ?_
  refine g_casep 77 rfl (fun h20 => ?_) fun h20 => ?_
  ·refine xg 2 [] rfl rfl ?_
   refine g_callAll (fun _ : Unit => .bool (anchT false c l ts d)) (fun _ => [.cells b 50 [st8 l, .bool false, v, .int .i64 d], .row 64 7 v ts.length (ts.flatMap tC)]) rfl rfl rfl Try.call25 (fun w F' hS => anchored_any b false l d v ts c F' w (by omega) (by omega) (by omega) hS) ?_
   intro _
   try dsimp only
   refine xg 2 [] rfl rfl ?_
   refine n_ (t_ ?_)
   first | refine g_casep 74 rfl (fun h21 => ?_) fun h21 => ?_ | refine g_caseb 74 rfl (fun h21 => ?_) fun h21 => ?_
   ·refine g_cond_t rfl (o_ ?_)
    refine xg 2 [] rfl rfl ?_
    refine g_callAll (fun _ : Value => .tuple #[]) (fun v' => [.cells b 50 [st8 l, (.bool false), v', (.int .i64 d)], .row 64 7 v' (ts ++ [(kT 5)]).length ((ts ++ [(kT 5)]).flatMap tC)]) rfl rfl rfl Try.call23 (fun w F' hS => put_any b (st8 l) (.bool false) (.int .i64 d) v ts (kT 5) F' w (by omega) hS) ?_
    intro vq
    try dsimp only
    refine n_ (g_in_normal (t_ (s_ (s_ (o_ ?_)))))
    refine xg 5 [0,2] rfl (by omega) ?_
    refine n_ (t_ (g_cond_f rfl (g_skip (t_ (g_goto ?_)))))
    exact g_jump ⟨(l, vq, (ts ++ [(kT 5)]), d), by dsimp only; (try rw [List.length_append, List.length_singleton]); omega, by dsimp only; omega, by dsimp only; (try rw [List.length_append, List.length_singleton]); omega, fun o h => hR o (.next (.begins (by omega) (by assumption)) (by first | omega | (dsimp only; omega)) h)⟩ [0] rfl (fun j hj => by cases hj; dsimp only; omega) rfl (fun w h => h.pick [0,0] rfl)
   refine g_cond_f rfl (s_ (o_ ?_))
   refine xg 8 [2] rfl (by omega) ?_
   refine n_ (t_ (g_cond_f rfl (s_ (o_ ?_))))
   refine xg 18 [2] rfl (by omega) ?_
   refine n_ (t_ (g_cond_f rfl (s_ (o_ ?_))))
   refine xg 3 [2] rfl (by omega) ?_
   refine n_ (t_ (g_cond_f rfl (s_ (o_ ?_))))
   refine xg 6 [0] rfl (by omega) ?_
   refine n_ (t_ (g_cond_t rfl (o_ ?_)))
   refine xg 2 [] rfl rfl ?_
   refine g_callAll (fun _ : Value => .tuple #[]) (fun v' => [.cells b 50 [st8 l, (.bool false), v', (.int .i64 d)], .row 64 7 v' (ts ++ [litT c]).length ((ts ++ [litT c]).flatMap tC)]) rfl rfl rfl Try.call28 (fun w F' hS => literal_any b (st8 l) (.bool false) (.int .i64 d) v ts c F' w (by omega) hS) ?_
   intro vq
   try dsimp only
   refine n_ (g_in_normal (t_ (s_ (s_ (o_ ?_)))))
   refine xg 5 [0,2] rfl (by omega) ?_
   refine n_ (t_ (g_cond_f rfl (g_skip (t_ (g_goto ?_)))))
   exact g_jump ⟨(l, vq, (ts ++ [litT c]), d), by dsimp only; (try rw [List.length_append, List.length_singleton]); omega, by dsimp only; omega, by dsimp only; (try rw [List.length_append, List.length_singleton]); omega, fun o h => hR o (.next (.lits (by omega) rfl (by assumption)) (by first | omega | (dsimp only; omega)) h)⟩ [0] rfl (fun j hj => by cases hj; dsimp only; omega) rfl (fun w h => h.pick [0,0] rfl)
  refine xg 5 [] rfl rfl ?_
  refine n_ (t_ (g_cond_f rfl (s_ (o_ ?_))))
  refine xg 3 [0] rfl rfl ?_
  refine g_casep 88 rfl (fun h22 => ?_) fun h22 => ?_
  ·refine xg 2 [] rfl rfl ?_
   refine g_callAll (fun _ : Unit => .bool (anchT false c l ts d)) (fun _ => [.cells b 50 [st8 l, .bool false, v, .int .i64 d], .row 64 7 v ts.length (ts.flatMap tC)]) rfl rfl rfl Try.call25 (fun w F' hS => anchored_any b false l d v ts c F' w (by omega) (by omega) (by omega) hS) ?_
   intro _
   try dsimp only
   refine xg 2 [] rfl rfl ?_
   refine n_ (t_ ?_)
   first | refine g_casep 85 rfl (fun h23 => ?_) fun h23 => ?_ | refine g_caseb 85 rfl (fun h23 => ?_) fun h23 => ?_
   ·refine g_cond_t rfl (o_ ?_)
    refine xg 2 [] rfl rfl ?_
    refine g_callAll (fun _ : Value => .tuple #[]) (fun v' => [.cells b 50 [st8 l, (.bool false), v', (.int .i64 d)], .row 64 7 v' (ts ++ [(kT 6)]).length ((ts ++ [(kT 6)]).flatMap tC)]) rfl rfl rfl Try.call23 (fun w F' hS => put_any b (st8 l) (.bool false) (.int .i64 d) v ts (kT 6) F' w (by omega) hS) ?_
    intro vq
    try dsimp only
    refine n_ (g_in_normal (t_ (s_ (s_ (o_ ?_)))))
    refine xg 5 [0,2] rfl (by omega) ?_
    refine n_ (t_ (g_cond_f rfl (g_skip (t_ (g_goto ?_)))))
    exact g_jump ⟨(l, vq, (ts ++ [(kT 6)]), d), by dsimp only; (try rw [List.length_append, List.length_singleton]); omega, by dsimp only; omega, by dsimp only; (try rw [List.length_append, List.length_singleton]); omega, fun o h => hR o (.next (.ends (by omega) (by assumption)) (by first | omega | (dsimp only; omega)) h)⟩ [0] rfl (fun j hj => by cases hj; dsimp only; omega) rfl (fun w h => h.pick [0,0] rfl)
   refine g_cond_f rfl (s_ (o_ ?_))
   refine xg 18 [2] rfl (by omega) ?_
   refine n_ (t_ (g_cond_f rfl (s_ (o_ ?_))))
   refine xg 3 [2] rfl (by omega) ?_
   refine n_ (t_ (g_cond_f rfl (s_ (o_ ?_))))
   refine xg 6 [0] rfl (by omega) ?_
   refine n_ (t_ (g_cond_t rfl (o_ ?_)))
   refine xg 2 [] rfl rfl ?_
   refine g_callAll (fun _ : Value => .tuple #[]) (fun v' => [.cells b 50 [st8 l, (.bool false), v', (.int .i64 d)], .row 64 7 v' (ts ++ [litT c]).length ((ts ++ [litT c]).flatMap tC)]) rfl rfl rfl Try.call28 (fun w F' hS => literal_any b (st8 l) (.bool false) (.int .i64 d) v ts c F' w (by omega) hS) ?_
   intro vq
   try dsimp only
   refine n_ (g_in_normal (t_ (s_ (s_ (o_ ?_)))))
   refine xg 5 [0,2] rfl (by omega) ?_
   refine n_ (t_ (g_cond_f rfl (g_skip (t_ (g_goto ?_)))))
   exact g_jump ⟨(l, vq, (ts ++ [litT c]), d), by dsimp only; (try rw [List.length_append, List.length_singleton]); omega, by dsimp only; omega, by dsimp only; (try rw [List.length_append, List.length_singleton]); omega, fun o h => hR o (.next (.lits (by omega) rfl (by assumption)) (by first | omega | (dsimp only; omega)) h)⟩ [0] rfl (fun j hj => by cases hj; dsimp only; omega) rfl (fun w h => h.pick [0,0] rfl)
  refine xg 5 [] rfl rfl ?_
  refine n_ (t_ (g_cond_f rfl (s_ (o_ ?_))))
  refine xg 3 [0] rfl rfl ?_
  refine g_casep 99 rfl (fun h24 => ?_) fun h24 => ?_
  ·refine xg 8 [0] rfl (by omega) ?_
   refine g_callAll (fun _ : Unit => .bool (startsT ts)) (fun _ => [.cells b 50 [st8 l, (.bool false), v, (.int .i64 d)], .row 64 7 v ts.length (ts.flatMap tC)]) rfl rfl rfl Try.call26 (fun w F' hS => starts_any b (st8 l) (.bool false) (.int .i64 d) v ts F' w (by omega) hS) ?_
   intro _
   try dsimp only
   refine xg 1 [] rfl rfl ?_
   first | refine g_casep 109 rfl (fun h25 => ?_) fun h25 => ?_ | refine g_caseb 109 rfl (fun h25 => ?_) fun h25 => ?_
   ·refine xg 5 [] rfl rfl ?_
    refine n_ (t_ (g_cond_t rfl (o_ ?_)))
    refine xg 2 [] rfl rfl ?_
    refine g_callAll (fun _ : Value => .tuple #[]) (fun v' => [.cells b 50 [st8 l, (.bool false), v', (.int .i64 d)], .row 64 7 v' (ts ++ [litT c]).length ((ts ++ [litT c]).flatMap tC)]) rfl rfl rfl Try.call28 (fun w F' hS => literal_any b (st8 l) (.bool false) (.int .i64 d) v ts c F' w (by omega) hS) ?_
    intro vq
    try dsimp only
    refine n_ (g_in_normal (t_ (s_ (s_ (o_ ?_)))))
    refine xg 5 [0,2] rfl (by omega) ?_
    refine n_ (t_ (g_cond_f rfl (g_skip (t_ (g_goto ?_)))))
    exact g_jump ⟨(l, vq, (ts ++ [litT c]), d), by dsimp only; (try rw [List.length_append, List.length_singleton]); omega, by dsimp only; omega, by dsimp only; (try rw [List.length_append, List.length_singleton]); omega, fun o h => hR o (.next (.plain (by unfold okX; refine ⟨by omega, by omega, by omega, by omega, fun q => ?_⟩; first | omega | cases q) (by show tokB c ts d = _; unfold tokB; rw [if_neg (by omega), if_pos ⟨by omega, by simp_all⟩])) (by first | omega | (dsimp only; omega)) h)⟩ [0] rfl (fun j hj => by cases hj; dsimp only; omega) rfl (fun w h => h.pick [0,0] rfl)
   refine xg 1 [] rfl rfl ?_
   refine g_callAll (fun _ : Unit => .bool (begunT ts)) (fun _ => [.cells b 50 [st8 l, (.bool false), v, (.int .i64 d)], .row 64 7 v ts.length (ts.flatMap tC)]) rfl rfl rfl Try.call27 (fun w F' hS => begun_any b (st8 l) (.bool false) (.int .i64 d) v ts F' w (by omega) hS) ?_
   intro _
   try dsimp only
   refine xg 3 [] rfl rfl ?_
   refine n_ (t_ ?_)
   first | refine g_casep 96 rfl (fun h26 => ?_) fun h26 => ?_ | refine g_caseb 96 rfl (fun h26 => ?_) fun h26 => ?_
   ·refine g_cond_t rfl (o_ ?_)
    refine xg 2 [] rfl rfl ?_
    refine g_callAll (fun _ : Value => .tuple #[]) (fun v' => [.cells b 50 [st8 l, (.bool false), v', (.int .i64 d)], .row 64 7 v' (ts ++ [litT c]).length ((ts ++ [litT c]).flatMap tC)]) rfl rfl rfl Try.call28 (fun w F' hS => literal_any b (st8 l) (.bool false) (.int .i64 d) v ts c F' w (by omega) hS) ?_
    intro vq
    try dsimp only
    refine n_ (g_in_normal (t_ (s_ (s_ (o_ ?_)))))
    refine xg 5 [0,2] rfl (by omega) ?_
    refine n_ (t_ (g_cond_f rfl (g_skip (t_ (g_goto ?_)))))
    exact g_jump ⟨(l, vq, (ts ++ [litT c]), d), by dsimp only; (try rw [List.length_append, List.length_singleton]); omega, by dsimp only; omega, by dsimp only; (try rw [List.length_append, List.length_singleton]); omega, fun o h => hR o (.next (.plain (by unfold okX; refine ⟨by omega, by omega, by omega, by omega, fun q => ?_⟩; first | omega | cases q) (by show tokB c ts d = _; unfold tokB; rw [if_neg (by omega), if_pos ⟨by omega, by simp_all⟩])) (by first | omega | (dsimp only; omega)) h)⟩ [0] rfl (fun j hj => by cases hj; dsimp only; omega) rfl (fun w h => h.pick [0,0] rfl)
   refine g_cond_f rfl (s_ (o_ ?_))
   refine xg 3 [1] rfl (by omega) ?_
   refine n_ (t_ (g_cond_t rfl (o_ ?_)))
   refine xg 2 [] rfl rfl ?_
   refine g_callAll (fun _ : Value => .tuple #[]) (fun v' => [.cells b 50 [st8 l, (.bool false), v', (.int .i64 d)], .row 64 7 v' (ts ++ [(timesT 0 (-1))]).length ((ts ++ [(timesT 0 (-1))]).flatMap tC)]) rfl rfl rfl Try.call23 (fun w F' hS => put_any b (st8 l) (.bool false) (.int .i64 d) v ts (timesT 0 (-1)) F' w (by omega) hS) ?_
   intro vq
   try dsimp only
   refine n_ (g_in_normal (t_ (s_ (s_ (o_ ?_)))))
   refine xg 5 [0,2] rfl (by omega) ?_
   refine n_ (t_ (g_cond_f rfl (g_skip (t_ (g_goto ?_)))))
   exact g_jump ⟨(l, vq, (ts ++ [(timesT 0 (-1))]), d), by dsimp only; (try rw [List.length_append, List.length_singleton]); omega, by dsimp only; omega, by dsimp only; (try rw [List.length_append, List.length_singleton]); omega, fun o h => hR o (.next (.plain (by unfold okX; refine ⟨by omega, by omega, by omega, by omega, fun q => ?_⟩; first | omega | cases q) (by show tokB c ts d = _; unfold tokB; rw [if_neg (by omega), if_neg (fun q => by have := q.2; simp_all), if_pos (by omega)])) (by first | omega | (dsimp only; omega)) h)⟩ [0] rfl (fun j hj => by cases hj; dsimp only; omega) rfl (fun w h => h.pick [0,0] rfl)
  refine xg 15 [] rfl rfl ?_
  refine n_ (t_ (g_cond_f rfl (s_ (o_ ?_))))
  refine xg 3 [2] rfl (by omega) ?_
  refine n_ (t_ (g_cond_f rfl (s_ (o_ ?_))))
  refine xg 6 [0] rfl (by omega) ?_
  refine n_ (t_ (g_cond_t rfl (o_ ?_)))
  refine xg 2 [] rfl rfl ?_
  refine g_callAll (fun _ : Value => .tuple #[]) (fun v' => [.cells b 50 [st8 l, (.bool false), v', (.int .i64 d)], .row 64 7 v' (ts ++ [litT c]).length ((ts ++ [litT c]).flatMap tC)]) rfl rfl rfl Try.call28 (fun w F' hS => literal_any b (st8 l) (.bool false) (.int .i64 d) v ts c F' w (by omega) hS) ?_
  intro vq
  try dsimp only
  refine n_ (g_in_normal (t_ (s_ (s_ (o_ ?_)))))
  refine xg 5 [0,2] rfl (by omega) ?_
  refine n_ (t_ (g_cond_f rfl (g_skip (t_ (g_goto ?_)))))
  exact g_jump ⟨(l, vq, (ts ++ [litT c]), d), by dsimp only; (try rw [List.length_append, List.length_singleton]); omega, by dsimp only; omega, by dsimp only; (try rw [List.length_append, List.length_singleton]); omega, fun o h => hR o (.next (.plain (by unfold okX; refine ⟨by omega, by omega, by omega, by omega, fun q => ?_⟩; first | omega | cases q) (by show tokB c ts d = _; unfold tokB; rw [if_neg (by omega), if_neg (fun q => by have := q.1; omega), if_neg (by omega)])) (by first | omega | (dsimp only; omega)) h)⟩ [0] rfl (fun j hj => by cases hj; dsimp only; omega) rfl (fun w h => h.pick [0,0] rfl)
 ·intro hp
  refine s_ (o_ ?_)
  refine xg 1 [] rfl rfl ?_
  refine n_ (t_ (s_ (g_label (t_ ?_))))
  exact g_fall (hp (⟨(l0, v0, [], 0), by simp, by simp, by simp, fun _ h => h⟩)) [0] rfl (fun w h => h.pick [0,0] rfl)

set_option maxRecDepth 100000 in
theorem tokens_xe (b : Nat) (l0 : List UInt8) (v0 : Value) (hl0 : l0.length ≤ 400) (F : List Nat) (w : World) (hz : MaxHere w) (hF0 : 0 ∉ F) (hS0 : St w F [.cells b 50 [st8 l0, .bool true, v0, .int .i64 0], .row 64 7 v0 ([] : List Tok).length (([] : List Tok).flatMap tC)] w) :
    Calls Try.prog 17 #[.pointer (some ⟨b, 0, none⟩)] w fun e w' => ∃ x : {x : Value × List UInt8 × List Tok × Int × Option (List Tok) // Lex true l0 [] 0 x.2.2.2.2 ∧ ∀ ts, x.2.2.2.2 = some ts → x.2.2.1 = ts ∧ ts.length ≤ l0.length}, e = .returned (.bool x.1.2.2.2.2.isSome) ∧ St w F [.cells b 50 [st8 x.1.2.1, .bool true, x.1.1, .int .i64 x.1.2.2.2.1], .row 64 7 x.1.1 x.1.2.2.1.length (x.1.2.2.1.flatMap tC)] w' := by
 refine fn_intro_own Try.func17 rfl Try.ntmps17 rfl rfl hS0 ?_
 refine s_ (o_ ?_)
 refine xg 1 [] rfl rfl ?_
 refine n_ (t_ ?_)
 refine g_scope_fall (α := {x : List UInt8 × Value × List Tok × Int // x.1.length + x.2.2.1.length ≤ l0.length ∧ 0 ≤ x.2.2.2 ∧ x.2.2.2 ≤ x.2.2.1.length ∧ ∀ o, Lex true x.1 x.2.2.1 x.2.2.2 o → Lex true l0 [] 0 o}) (fun z => match z with | x => [(0, .pointer (some ⟨b, 0, none⟩))]) (fun z => match z with | x => St w F [.cells b 50 [st8 x.1.1, .bool true, x.1.2.1, .int .i64 x.1.2.2.2], .row 64 7 x.1.2.1 x.1.2.2.1.length (x.1.2.2.1.flatMap tC)]) (fun z => match z with | x => 0) (fun z => match z with | x => x.1.1.length) (fun _ => rfl) ?_ ?_
 ·intro x
  dsimp only
  obtain ⟨⟨rest, v, ts, d⟩, hx⟩ := x
  dsimp only at hx ⊢
  obtain ⟨hlen, hd0, hd1, hR⟩ := hx
  refine s_ (s_ ?_)
  rcases rest with _ | ⟨c, l⟩
  ·refine o_ ?_
   refine xg 5 [0] rfl (by omega) ?_
   refine g_lit 11 true rfl (decide_eq_true rfl) ?_
   refine n_ (t_ (g_cond_t rfl (s_ (o_ ?_))))
   refine xg 6 [0,0] rfl (by omega) ?_
   refine n_ (t_ (g_ret (g_then_ret (g_jumps_ret ?_))))
   refine g_end1 Try.results17 rfl ?_
   refine fun w hS => ⟨⟨(v, [], ts, d, if d = 0 then some ts else none), hR _ lex_end, fun ts' q => ?_⟩, ret_bool (by dsimp only; split <;> simp_all), hS.pick [0,0] rfl⟩
   dsimp only at q
   split at q
   · cases q; exact ⟨rfl, by simp at hlen; omega⟩
   · cases q
  have hcl := c.toNat_lt
  have hl1 : (c :: l).length = l.length + 1 := rfl
  refine o_ ?_
  refine xg 5 [0] rfl (by omega) ?_
  refine g_lit 11 false rfl (decide_eq_false (st8_nil c l)) ?_
  refine n_ (t_ (g_cond_f rfl (g_skip (t_ (s_ ?_)))))
  refine k_go [] rfl (by kernel_rfl) (fun _ _ _ _ _ h => h) fun hQ => ?_
  refine k_x 0 [] [] hQ (by kernel_rfl) rfl rfl rfl rfl rfl rfl ?_
  refine k_x 1 [] [] hQ (by kernel_rfl) rfl rfl rfl rfl rfl rfl ?_
  refine k_x 2 [] [] hQ (by kernel_rfl) rfl rfl rfl rfl rfl rfl ?_
  refine k_x 3 [] [] hQ (by kernel_rfl) rfl rfl rfl rfl rfl rfl ?_
  refine k_x 6 [] [] hQ (by kernel_rfl) rfl rfl rfl rfl rfl rfl ?_
  refine k_x 7 [] [] hQ (by kernel_rfl) rfl rfl rfl rfl rfl rfl ?_
  refine k_x 8 [] [] hQ (by kernel_rfl) rfl rfl rfl rfl rfl rfl ?_
  refine k_all [4,9] (by kernel_rfl) (by simp) ⟨?_, ?_, trivial⟩
  ·refine k_op 4 rfl ?_
   refine xg 1 [0] rfl (by omega) ?_
   refine n_ ?_
   refine k_end (fun _ h => h.pick [] rfl) ?_
   refine k_take (v := .int .u8 (c.toNat : Int)) 5 rfl (by kernel_rfl) hQ rfl rfl rfl (fun _ h => h.pick [] rfl) (y_sidx (i := 0) rfl rfl Try.underlying9 (st8_0 c l)) ?_
   refine k_x 11 [] [] hQ (by kernel_rfl) rfl rfl rfl rfl rfl rfl ?_
   refine k_one 9 (by kernel_rfl) ?_
   refine k_op 9 rfl ?_
   refine xg 1 [0] rfl (by omega) ?_
   refine n_ ?_
   refine k_end (fun _ h => h.pick [] rfl) ?_
   refine k_take (v := st8 l) 10 rfl (by kernel_rfl) hQ rfl rfl rfl (fun _ h => h.pick [] rfl) (y_val (y_sfrom (l := 1) rfl rfl Try.underlying9 (by show 1 ≤ (c :: l).toArray.size; simp)) (by rw [st8_1]; rfl)) ?_
   refine k_x 12 [] [] hQ (by kernel_rfl) rfl rfl rfl rfl rfl rfl ?_
   refine k_x 13 [] [] hQ (by kernel_rfl) rfl rfl rfl rfl rfl rfl ?_
   refine k_one 14 (by kernel_rfl) ?_
   refine k_op 14 rfl ?_
   refine xg 1 [0] rfl (by omega) ?_
   refine n_ ?_
   refine k_end (fun _ h => h.pick [] rfl) ?_
   refine k_done (by kernel_rfl) ?_
   refine t_ (s_ (g_block (s_ (o_ ?_))))
   refine xg 3 [0] rfl rfl ?_
   refine n_ (t_ ?_)
   refine g_casep 33 rfl (fun h1 => ?_) fun h1 => ?_
   ·refine g_cond_t rfl (s_ (o_ ?_))
    refine xg 1 [] rfl rfl ?_
    refine g_callAll (fun x : {x : List UInt8 × List Tok × Int × Bool × Value // EscR true l ts d x.1 x.2.1 x.2.2.1 x.2.2.2.1} => .bool x.1.2.2.2.1) (fun x => [.cells b 50 [st8 x.1.1, .bool true, x.1.2.2.2.2, .int .i64 x.1.2.2.1], .row 64 7 x.1.2.2.2.2 x.1.2.1.length (x.1.2.1.flatMap tC)]) rfl rfl rfl Try.call21 (fun w F' hS => escaped_any b true l d v ts F' w (by omega) (by omega) (by omega) hS) ?_
    rintro ⟨⟨r, ts1, d1, ok, ve⟩, hesc⟩
    try dsimp only
    dsimp only at hesc
    refine xg 1 [] rfl rfl ?_
    refine n_ (t_ ?_)
    first | refine g_casep 38 rfl (fun h2 => ?_) fun h2 => ?_ | refine g_caseb 38 rfl (fun h2 => ?_) fun h2 => ?_
    ·refine g_cond_t rfl (s_ ?_)
     obtain rfl : ok = false := by simpa using ‹(!ok) = true›
     refine o_ ?_
     refine xg 1 [] rfl rfl ?_
     refine n_ (t_ (g_ret (g_in_ret (g_then_ret (g_jumps_ret ?_)))))
     refine g_end1 Try.results17 rfl ?_
     exact fun w hS => ⟨⟨(ve, r, ts1, d1, none), hR _ (.fail (.esc0 (by omega) hesc)), fun ts' q => by cases q⟩, rfl, hS.pick [0,0] rfl⟩
    refine g_cond_f rfl (g_skip (g_in_normal (t_ (s_ (s_ ?_)))))
    obtain rfl : ok = true := by simpa using ‹(!ok) = false›
    have hel := EscR_len hesc
    refine o_ ?_
    refine xg 5 [0,0] rfl (by omega) ?_
    refine n_ (t_ ?_)
    refine g_casep 186 rfl (fun h3 => ?_) fun h3 => ?_
    ·refine g_cond_t rfl (s_ (o_ ?_))
     refine xg 1 [] rfl rfl ?_
     refine n_ (t_ (g_ret (g_then_ret (g_jumps_ret ?_))))
     refine g_end1 Try.results17 rfl ?_
     exact fun w hS => ⟨⟨(ve, r, ts1, d1, none), hR _ (.neg (.esc (by omega) hesc) (by omega)), fun ts' q => by cases q⟩, rfl, hS.pick [0,0] rfl⟩
    refine g_cond_f rfl (g_skip (t_ (g_goto ?_)))
    exact g_jump ⟨(r, ve, ts1, d1), by dsimp only; (try rw [List.length_append, List.length_singleton]); omega, by dsimp only; omega, by dsimp only; (try rw [List.length_append, List.length_singleton]); omega, fun o h => hR o (.next (.esc (by omega) hesc) (by first | omega | (dsimp only; omega)) h)⟩ [0] rfl (fun j hj => by cases hj; dsimp only; omega) rfl (fun w h => h.pick [0,0] rfl)
   refine g_cond_f rfl (s_ (o_ ?_))
   refine xg 3 [0] rfl rfl ?_
   refine n_ (t_ ?_)
   refine g_casep 39 rfl (fun h4 => ?_) fun h4 => ?_
   ·refine g_cond_t rfl (s_ (o_ ?_))
    refine xg 4 [0] rfl (by omega) ?_
    refine g_callE (fun x : {x : (Nat → Int) × Int × Int // x.2.2 = 0 → 0 ≤ x.2.1 ∧ x.2.1 ≤ l.length} => .tuple #[.agg (s4C x.1.1).toArray, .int .i64 x.1.2.1, .int .i64 x.1.2.2]) rfl rfl rfl Try.call22 (fun w hS => bracket_any l (by omega) w (hS.maxHere hz hF0)) ?_
    rintro ⟨⟨s, n, er⟩, hb⟩
    dsimp only at hb ⊢
    refine xg 1 [] rfl rfl ?_
    refine g_val (v := .agg (s4C s).toArray) rfl rfl rfl (y_extract rfl rfl) ?_
    refine g_val (v := .int .i64 n) rfl rfl rfl (y_extract rfl rfl) ?_
    refine g_val (v := .int .i64 er) rfl rfl rfl (y_extract rfl rfl) ?_
    refine g_alloc rfl rfl Try.zeroValue27 rfl (fun b1 => ?_)
    refine g_stN 0 rfl rfl rfl (by kernel_rfl) rfl rfl rfl rfl ?_
    simp only [List.set_cons_zero]
    refine xg 2 [] rfl rfl ?_
    refine n_ (t_ (s_ (s_ (o_ ?_))))
    refine xg 2 [0] rfl rfl ?_
    refine n_ (t_ ?_)
    refine g_casep 52 rfl (fun h5 => ?_) fun h5 => ?_
    ·refine g_cond_t rfl (s_ (o_ ?_))
     refine xg 1 [] rfl rfl ?_
     refine n_ (t_ (g_ret (g_then_ret (g_in_ret (g_then_ret (g_jumps_ret ?_))))))
     refine g_end1 Try.results17 rfl ?_
     exact fun w hS => ⟨⟨(v, l, ts, d, none), hR _ (.fail (.brack0 (by omega))), fun ts' q => by cases q⟩, rfl, hS.pick [1,1] rfl⟩
    refine g_cond_f rfl (g_skip (t_ (s_ ?_)))
    obtain ⟨hn0, hn1⟩ := hb (by omega)
    obtain ⟨n, rfl⟩ := Int.eq_ofNat_of_zero_le hn0
    have hld := List.length_drop (l := l) (i := n)
    refine o_ ?_
    refine xg 1 [] rfl rfl ?_
    refine g_val rfl rfl rfl (y_ldN (vs := (s4C s)) 0 rfl Try.isAgg27 Try.sizeOf27 rfl rfl rfl) ?_
    refine g_val (v := .agg (tC (setT s)).toArray) rfl rfl rfl (y_val (y_build (offs := [0, 1]) rfl Try.zeroValue64 (by kernel_rfl)) rfl) ?_
    refine g_perm (.trans (.swap _ _ _) (.cons _ (.swap _ _ _))) ?_
    refine g_callOwn (L0 := [.cells b 50 [st8 l, (.bool true), v, (.int .i64 d)], .row 64 7 v ts.length (ts.flatMap tC)]) (fun _ : Value => .tuple #[]) (fun v' => [.cells b 50 [st8 l, (.bool true), v', (.int .i64 d)], .row 64 7 v' (ts ++ [(setT s)]).length ((ts ++ [(setT s)]).flatMap tC)]) rfl rfl rfl Try.call23 (fun w hS => put_any b (st8 l) (.bool true) (.int .i64 d) v ts (setT s) _ w (by omega) hS.part) ?_
    intro vq
    try dsimp only
    simp only [List.cons_append, List.nil_append]
    refine nto_ ?_
    refine xg 6 [0] rfl (by omega) ?_
    refine g_val (v := st8 (l.drop n)) rfl rfl rfl (y_val (y_sfrom (l := n) rfl rfl Try.underlying9 (by rw [size_mk]; omega)) (by rw [st8_drop]; rfl)) ?_
    refine xg 3 [0] rfl (by omega) ?_
    refine n_ (g_in_normal (t_ (s_ (s_ (o_ ?_)))))
    refine xg 5 [0,2] rfl (by omega) ?_
    refine n_ (t_ (g_cond_f rfl (g_skip (t_ (g_goto ?_)))))
    exact g_jump ⟨((l.drop n), vq, (ts ++ [(setT s)]), d), by dsimp only; (try rw [List.length_append, List.length_singleton]); omega, by dsimp only; omega, by dsimp only; (try rw [List.length_append, List.length_singleton]); omega, fun o h => hR o (.next (.brack (by omega) (by omega)) (by first | omega | (dsimp only; omega)) h)⟩ [0] rfl (fun j hj => by cases hj; dsimp only; omega) rfl (fun w h => h.pick [0,0] rfl)
   refine g_cond_f rfl (s_ (o_ ?_))
   refine xg 3 [0] rfl rfl ?_
   refine n_ (t_ ?_)
   refine g_casep 66 rfl (fun h6 => ?_) fun h6 => ?_
   ·refine g_cond_t rfl (o_ ?_)
    refine xg 2 [] rfl rfl ?_
    refine g_call1 rfl rfl rfl Try.call24 (fun w hS => cwith_any s0 0 255 (by decide) (by decide) w) ?_
    refine xg 1 [] rfl rfl ?_
    refine g_callAll (fun _ : Value => .tuple #[]) (fun v' => [.cells b 50 [st8 l, (.bool true), v', (.int .i64 d)], .row 64 7 v' (ts ++ [dotT]).length ((ts ++ [dotT]).flatMap tC)]) rfl rfl rfl Try.call23 (fun w F' hS => put_any b (st8 l) (.bool true) (.int .i64 d) v ts dotT F' w (by omega) hS) ?_
    intro vq
    try dsimp only
    refine n_ (g_in_normal (t_ (s_ (s_ (o_ ?_)))))
    refine xg 5 [0,2] rfl (by omega) ?_
    refine n_ (t_ (g_cond_f rfl (g_skip (t_ (g_goto ?_)))))
    exact g_jump ⟨(l, vq, (ts ++ [dotT]), d), by dsimp only; (try rw [List.length_append, List.length_singleton]); omega, by dsimp only; omega, by dsimp only; (try rw [List.length_append, List.length_singleton]); omega, fun o h => hR o (.next (.plain (by unfold okX; refine ⟨by omega, by omega, by omega, by omega, fun q => ?_⟩; first | omega | cases q) (by show tokE c ts d = _; unfold tokE; rw [if_pos (by omega)])) (by first | omega | (dsimp only; omega)) h)⟩ [0] rfl (fun j hj => by cases hj; dsimp only; omega) rfl (fun w h => h.pick [0,0] rfl)
   refine g_cond_f rfl (s_ (o_ ?_))
   refine xg 3 [0] rfl rfl ?_
   refine g_casep 77 rfl (fun h7 => ?_) fun h7 => ?_
   ·refine xg 2 [] rfl rfl ?_
    refine g_callAll (fun _ : Unit => .bool true) (fun _ => [.cells b 50 [st8 l, .bool true, v, .int .i64 d], .row 64 7 v ts.length (ts.flatMap tC)]) rfl rfl rfl Try.call25 (fun w F' hS => anchored_any b true l d v ts c F' w (by omega) (by omega) (by omega) hS) ?_
    intro _
    try dsimp only
    refine xg 2 [] rfl rfl ?_
    refine n_ (t_ (g_cond_t rfl (o_ ?_)))
    refine xg 2 [] rfl rfl ?_
    refine g_callAll (fun _ : Value => .tuple #[]) (fun v' => [.cells b 50 [st8 l, (.bool true), v', (.int .i64 d)], .row 64 7 v' (ts ++ [(kT 5)]).length ((ts ++ [(kT 5)]).flatMap tC)]) rfl rfl rfl Try.call23 (fun w F' hS => put_any b (st8 l) (.bool true) (.int .i64 d) v ts (kT 5) F' w (by omega) hS) ?_
    intro vq
    try dsimp only
    refine n_ (g_in_normal (t_ (s_ (s_ (o_ ?_)))))
    refine xg 5 [0,2] rfl (by omega) ?_
    refine n_ (t_ (g_cond_f rfl (g_skip (t_ (g_goto ?_)))))
    exact g_jump ⟨(l, vq, (ts ++ [(kT 5)]), d), by dsimp only; (try rw [List.length_append, List.length_singleton]); omega, by dsimp only; omega, by dsimp only; (try rw [List.length_append, List.length_singleton]); omega, fun o h => hR o (.next (.begins (by omega) rfl) (by first | omega | (dsimp only; omega)) h)⟩ [0] rfl (fun j hj => by cases hj; dsimp only; omega) rfl (fun w h => h.pick [0,0] rfl)
   refine xg 5 [] rfl rfl ?_
   refine n_ (t_ (g_cond_f rfl (s_ (o_ ?_))))
   refine xg 3 [0] rfl rfl ?_
   refine g_casep 88 rfl (fun h8 => ?_) fun h8 => ?_
   ·refine xg 2 [] rfl rfl ?_
    refine g_callAll (fun _ : Unit => .bool true) (fun _ => [.cells b 50 [st8 l, .bool true, v, .int .i64 d], .row 64 7 v ts.length (ts.flatMap tC)]) rfl rfl rfl Try.call25 (fun w F' hS => anchored_any b true l d v ts c F' w (by omega) (by omega) (by omega) hS) ?_
    intro _
    try dsimp only
    refine xg 2 [] rfl rfl ?_
    refine n_ (t_ (g_cond_t rfl (o_ ?_)))
    refine xg 2 [] rfl rfl ?_
    refine g_callAll (fun _ : Value => .tuple #[]) (fun v' => [.cells b 50 [st8 l, (.bool true), v', (.int .i64 d)], .row 64 7 v' (ts ++ [(kT 6)]).length ((ts ++ [(kT 6)]).flatMap tC)]) rfl rfl rfl Try.call23 (fun w F' hS => put_any b (st8 l) (.bool true) (.int .i64 d) v ts (kT 6) F' w (by omega) hS) ?_
    intro vq
    try dsimp only
    refine n_ (g_in_normal (t_ (s_ (s_ (o_ ?_)))))
    refine xg 5 [0,2] rfl (by omega) ?_
    refine n_ (t_ (g_cond_f rfl (g_skip (t_ (g_goto ?_)))))
    exact g_jump ⟨(l, vq, (ts ++ [(kT 6)]), d), by dsimp only; (try rw [List.length_append, List.length_singleton]); omega, by dsimp only; omega, by dsimp only; (try rw [List.length_append, List.length_singleton]); omega, fun o h => hR o (.next (.ends (by omega) rfl) (by first | omega | (dsimp only; omega)) h)⟩ [0] rfl (fun j hj => by cases hj; dsimp only; omega) rfl (fun w h => h.pick [0,0] rfl)
   refine xg 5 [] rfl rfl ?_
   refine n_ (t_ (g_cond_f rfl (s_ (o_ ?_))))
   refine xg 3 [0] rfl rfl ?_
   refine g_casep 99 rfl (fun h9 => ?_) fun h9 => ?_
   ·refine xg 15 [0] rfl (by omega) ?_
    refine n_ (t_ (g_cond_f rfl (s_ (o_ ?_))))
    refine xg 3 [1] rfl (by omega) ?_
    refine n_ (t_ (g_cond_t rfl (o_ ?_)))
    refine xg 2 [] rfl rfl ?_
    refine g_callAll (fun _ : Value => .tuple #[]) (fun v' => [.cells b 50 [st8 l, (.bool true), v', (.int .i64 d)], .row 64 7 v' (ts ++ [(timesT 0 (-1))]).length ((ts ++ [(timesT 0 (-1))]).flatMap tC)]) rfl rfl rfl Try.call23 (fun w F' hS => put_any b (st8 l) (.bool true) (.int .i64 d) v ts (timesT 0 (-1)) F' w (by omega) hS) ?_
    intro vq
    try dsimp only
    refine n_ (g_in_normal (t_ (s_ (s_ (o_ ?_)))))
    refine xg 5 [0,2] rfl (by omega) ?_
    refine n_ (t_ (g_cond_f rfl (g_skip (t_ (g_goto ?_)))))
    exact g_jump ⟨(l, vq, (ts ++ [(timesT 0 (-1))]), d), by dsimp only; (try rw [List.length_append, List.length_singleton]); omega, by dsimp only; omega, by dsimp only; (try rw [List.length_append, List.length_singleton]); omega, fun o h => hR o (.next (.plain (by unfold okX; refine ⟨by omega, by omega, by omega, by omega, fun q => ?_⟩; first | omega | cases q) (by show tokE c ts d = _; unfold tokE; rw [if_neg (by omega), if_pos (by omega)])) (by first | omega | (dsimp only; omega)) h)⟩ [0] rfl (fun j hj => by cases hj; dsimp only; omega) rfl (fun w h => h.pick [0,0] rfl)
   refine xg 15 [] rfl rfl ?_
   refine n_ (t_ (g_cond_f rfl (s_ (o_ ?_))))
   refine xg 3 [2] rfl (by omega) ?_
   refine n_ (t_ (g_cond_f rfl (s_ (o_ ?_))))
   refine xg 6 [0] rfl (by omega) ?_
   refine n_ (t_ (g_cond_f rfl (s_ (o_ ?_))))
   refine xg 3 [0] rfl rfl ?_
   refine n_ (t_ ?_)
   refine g_casep 132 rfl (fun h10 => ?_) fun h10 => ?_
   ·refine g_cond_t rfl (o_ ?_)
    refine xg 2 [] rfl rfl ?_
    refine g_callAll (fun _ : Value => .tuple #[]) (fun v' => [.cells b 50 [st8 l, (.bool true), v', (.int .i64 d)], .row 64 7 v' (ts ++ [(timesT 1 (-1))]).length ((ts ++ [(timesT 1 (-1))]).flatMap tC)]) rfl rfl rfl Try.call23 (fun w F' hS => put_any b (st8 l) (.bool true) (.int .i64 d) v ts (timesT 1 (-1)) F' w (by omega) hS) ?_
    intro vq
    try dsimp only
    refine n_ (g_in_normal (t_ (s_ (s_ (o_ ?_)))))
    refine xg 5 [0,2] rfl (by omega) ?_
    refine n_ (t_ (g_cond_f rfl (g_skip (t_ (g_goto ?_)))))
    exact g_jump ⟨(l, vq, (ts ++ [(timesT 1 (-1))]), d), by dsimp only; (try rw [List.length_append, List.length_singleton]); omega, by dsimp only; omega, by dsimp only; (try rw [List.length_append, List.length_singleton]); omega, fun o h => hR o (.next (.plain (by unfold okX; refine ⟨by omega, by omega, by omega, by omega, fun q => ?_⟩; first | omega | cases q) (by show tokE c ts d = _; unfold tokE; rw [if_neg (by omega), if_neg (by omega), if_pos (by omega)])) (by first | omega | (dsimp only; omega)) h)⟩ [0] rfl (fun j hj => by cases hj; dsimp only; omega) rfl (fun w h => h.pick [0,0] rfl)
   refine g_cond_f rfl (s_ (o_ ?_))
   refine xg 3 [0] rfl rfl ?_
   refine n_ (t_ ?_)
   refine g_casep 138 rfl (fun h11 => ?_) fun h11 => ?_
   ·refine g_cond_t rfl (o_ ?_)
    refine xg 2 [] rfl rfl ?_
    refine g_callAll (fun _ : Value => .tuple #[]) (fun v' => [.cells b 50 [st8 l, (.bool true), v', (.int .i64 d)], .row 64 7 v' (ts ++ [(timesT 0 1)]).length ((ts ++ [(timesT 0 1)]).flatMap tC)]) rfl rfl rfl Try.call23 (fun w F' hS => put_any b (st8 l) (.bool true) (.int .i64 d) v ts (timesT 0 1) F' w (by omega) hS) ?_
    intro vq
    try dsimp only
    refine n_ (g_in_normal (t_ (s_ (s_ (o_ ?_)))))
    refine xg 5 [0,2] rfl (by omega) ?_
    refine n_ (t_ (g_cond_f rfl (g_skip (t_ (g_goto ?_)))))
    exact g_jump ⟨(l, vq, (ts ++ [(timesT 0 1)]), d), by dsimp only; (try rw [List.length_append, List.length_singleton]); omega, by dsimp only; omega, by dsimp only; (try rw [List.length_append, List.length_singleton]); omega, fun o h => hR o (.next (.plain (by unfold okX; refine ⟨by omega, by omega, by omega, by omega, fun q => ?_⟩; first | omega | cases q) (by show tokE c ts d = _; unfold tokE; rw [if_neg (by omega), if_neg (by omega), if_neg (by omega), if_pos (by omega)])) (by first | omega | (dsimp only; omega)) h)⟩ [0] rfl (fun j hj => by cases hj; dsimp only; omega) rfl (fun w h => h.pick [0,0] rfl)
   refine g_cond_f rfl (s_ (o_ ?_))
   refine xg 3 [0] rfl rfl ?_
   refine n_ (t_ ?_)
   refine g_casep 144 rfl (fun h12 => ?_) fun h12 => ?_
   ·refine g_cond_t rfl (s_ (o_ ?_))
    refine xg 1 [] rfl rfl ?_
    refine g_callAll (fun x : {x : Tok × List UInt8 × Bool × Value // IvR [125] l x.1 x.2.1 x.2.2.1} => .bool x.1.2.2.1) (fun x => [.cells b 50 [st8 x.1.2.1, (.bool true), x.1.2.2.2, (.int .i64 d)], .row 64 7 x.1.2.2.2 (ts ++ [x.1.1]).length ((ts ++ [x.1.1]).flatMap tC)]) rfl rfl rfl Try.call29 (fun w F' hS => interval_any b l (.bool true) (.int .i64 d) v ts [125] F' w (by omega) (by omega) hS) ?_
    rintro ⟨⟨t, r, ok, vi⟩, hiv⟩
    try dsimp only
    dsimp only at hiv
    refine xg 1 [] rfl rfl ?_
    refine n_ (t_ ?_)
    first | refine g_casep 149 rfl (fun h13 => ?_) fun h13 => ?_ | refine g_caseb 149 rfl (fun h13 => ?_) fun h13 => ?_
    ·refine g_cond_t rfl (s_ ?_)
     obtain rfl : ok = false := by simpa using ‹(!ok) = true›
     refine o_ ?_
     refine xg 1 [] rfl rfl ?_
     refine n_ (t_ (g_ret (g_in_ret (g_then_ret (g_jumps_ret ?_)))))
     refine g_end1 Try.results17 rfl ?_
     exact fun w hS => ⟨⟨(vi, r, (ts ++ [t]), d, none), hR _ (.fail (.iv0 (by omega) rfl hiv)), fun ts' q => by cases q⟩, rfl, hS.pick [0,0] rfl⟩
    refine g_cond_f rfl (g_skip (g_in_normal (t_ (s_ (s_ ?_)))))
    obtain rfl : ok = true := by simpa using ‹(!ok) = false›
    have hel := IvR_len hiv
    refine o_ ?_
    refine xg 5 [0,2] rfl (by omega) ?_
    refine n_ (t_ (g_cond_f rfl (g_skip (t_ (g_goto ?_)))))
    exact g_jump ⟨(r, vi, (ts ++ [t]), d), by dsimp only; (try rw [List.length_append, List.length_singleton]); omega, by dsimp only; omega, by dsimp only; (try rw [List.length_append, List.length_singleton]); omega, fun o h => hR o (.next (.iv (by omega) rfl hiv) (by first | omega | (dsimp only; omega)) h)⟩ [0] rfl (fun j hj => by cases hj; dsimp only; omega) rfl (fun w h => h.pick [0,0] rfl)
   refine g_cond_f rfl (s_ (o_ ?_))
   refine xg 3 [0] rfl rfl ?_
   refine n_ (t_ ?_)
   refine g_casep 150 rfl (fun h14 => ?_) fun h14 => ?_
   ·refine g_cond_t rfl (s_ (o_ ?_))
    refine xg 8 [0,0] rfl (by omega) ?_
    refine nto_ ?_
    refine xg 2 [] rfl rfl ?_
    refine g_callAll (fun _ : Value => .tuple #[]) (fun v' => [.cells b 50 [st8 l, (.bool true), v', (.int .i64 (d + 1))], .row 64 7 v' (ts ++ [(kT 1)]).length ((ts ++ [(kT 1)]).flatMap tC)]) rfl rfl rfl Try.call23 (fun w F' hS => put_any b (st8 l) (.bool true) (.int .i64 (d + 1)) v ts (kT 1) F' w (by omega) hS) ?_
    intro vq
    try dsimp only
    refine n_ (g_in_normal (t_ (s_ (s_ (o_ ?_)))))
    refine xg 5 [0,2] rfl (by omega) ?_
    refine n_ (t_ (g_cond_f rfl (g_skip (t_ (g_goto ?_)))))
    exact g_jump ⟨(l, vq, (ts ++ [(kT 1)]), (d + 1)), by dsimp only; (try rw [List.length_append, List.length_singleton]); omega, by dsimp only; omega, by dsimp only; (try rw [List.length_append, List.length_singleton]); omega, fun o h => hR o (.next (.plain (by unfold okX; refine ⟨by omega, by omega, by omega, by omega, fun q => ?_⟩; first | omega | cases q) (by show tokE c ts d = _; unfold tokE; rw [if_neg (by omega), if_neg (by omega), if_neg (by omega), if_neg (by omega), if_pos (by omega)])) (by first | omega | (dsimp only; omega)) h)⟩ [0] rfl (fun j hj => by cases hj; dsimp only; omega) rfl (fun w h => h.pick [0,0] rfl)
   refine g_cond_f rfl (s_ (o_ ?_))
   refine xg 3 [0] rfl rfl ?_
   refine n_ (t_ ?_)
   refine g_casep 163 rfl (fun h15 => ?_) fun h15 => ?_
   ·refine g_cond_t rfl (s_ (o_ ?_))
    refine xg 8 [0,0] rfl (by omega) ?_
    refine nto_ ?_
    refine xg 2 [] rfl rfl ?_
    refine g_callAll (fun _ : Value => .tuple #[]) (fun v' => [.cells b 50 [st8 l, (.bool true), v', (.int .i64 (d - 1))], .row 64 7 v' (ts ++ [(kT 2)]).length ((ts ++ [(kT 2)]).flatMap tC)]) rfl rfl rfl Try.call23 (fun w F' hS => put_any b (st8 l) (.bool true) (.int .i64 (d - 1)) v ts (kT 2) F' w (by omega) hS) ?_
    intro vq
    try dsimp only
    refine n_ (g_in_normal (t_ (s_ (s_ (o_ ?_)))))
    refine xg 5 [0,0] rfl (by omega) ?_
    refine n_ (t_ ?_)
    refine g_casep 186 rfl (fun h16 => ?_) fun h16 => ?_
    ·refine g_cond_t rfl (s_ (o_ ?_))
     refine xg 1 [] rfl rfl ?_
     refine n_ (t_ (g_ret (g_then_ret (g_jumps_ret ?_))))
     refine g_end1 Try.results17 rfl ?_
     exact fun w hS => ⟨⟨(vq, l, (ts ++ [(kT 2)]), (d - 1), none), hR _ (.neg (.plain (by unfold okX; refine ⟨by omega, by omega, by omega, by omega, fun q => ?_⟩; first | omega | cases q) (by show tokE c ts d = _; unfold tokE; rw [if_neg (by omega), if_neg (by omega), if_neg (by omega), if_neg (by omega), if_neg (by omega), if_pos (by omega)])) (by omega)), fun ts' q => by cases q⟩, rfl, hS.pick [0,0] rfl⟩
    refine g_cond_f rfl (g_skip (t_ (g_goto ?_)))
    exact g_jump ⟨(l, vq, (ts ++ [(kT 2)]), (d - 1)), by dsimp only; (try rw [List.length_append, List.length_singleton]); omega, by dsimp only; omega, by dsimp only; (try rw [List.length_append, List.length_singleton]); omega, fun o h => hR o (.next (.plain (by unfold okX; refine ⟨by omega, by omega, by omega, by omega, fun q => ?_⟩; first | omega | cases q) (by show tokE c ts d = _; unfold tokE; rw [if_neg (by omega), if_neg (by omega), if_neg (by omega), if_neg (by omega), if_neg (by omega), if_pos (by omega)])) (by first | omega | (dsimp only; omega)) h)⟩ [0] rfl (fun j hj => by cases hj; dsimp only; omega) rfl (fun w h => h.pick [0,0] rfl)
   refine g_cond_f rfl (s_ (o_ ?_))
   refine xg 3 [0] rfl rfl ?_
   refine n_ (t_ ?_)
   refine g_casep 176 rfl (fun h17 => ?_) fun h17 => ?_
   ·refine g_cond_t rfl (o_ ?_)
    refine xg 2 [] rfl rfl ?_
    refine g_callAll (fun _ : Value => .tuple #[]) (fun v' => [.cells b 50 [st8 l, (.bool true), v', (.int .i64 d)], .row 64 7 v' (ts ++ [(kT 3)]).length ((ts ++ [(kT 3)]).flatMap tC)]) rfl rfl rfl Try.call23 (fun w F' hS => put_any b (st8 l) (.bool true) (.int .i64 d) v ts (kT 3) F' w (by omega) hS) ?_
    intro vq
    try dsimp only
    refine n_ (g_in_normal (t_ (s_ (s_ (o_ ?_)))))
    refine xg 5 [0,2] rfl (by omega) ?_
    refine n_ (t_ (g_cond_f rfl (g_skip (t_ (g_goto ?_)))))
    exact g_jump ⟨(l, vq, (ts ++ [(kT 3)]), d), by dsimp only; (try rw [List.length_append, List.length_singleton]); omega, by dsimp only; omega, by dsimp only; (try rw [List.length_append, List.length_singleton]); omega, fun o h => hR o (.next (.plain (by unfold okX; refine ⟨by omega, by omega, by omega, by omega, fun q => ?_⟩; first | omega | cases q) (by show tokE c ts d = _; unfold tokE; rw [if_neg (by omega), if_neg (by omega), if_neg (by omega), if_neg (by omega), if_neg (by omega), if_neg (by omega), if_pos (by omega)])) (by first | omega | (dsimp only; omega)) h)⟩ [0] rfl (fun j hj => by cases hj; dsimp only; omega) rfl (fun w h => h.pick [0,0] rfl)
   refine g_cond_f rfl (o_ ?_)
   refine xg 2 [] rfl rfl ?_
   refine g_callAll (fun _ : Value => .tuple #[]) (fun v' => [.cells b 50 [st8 l, (.bool true), v', (.int .i64 d)], .row 64 7 v' (ts ++ [litT c]).length ((ts ++ [litT c]).flatMap tC)]) rfl rfl rfl Try.call28 (fun w F' hS => literal_any b (st8 l) (.bool true) (.int .i64 d) v ts c F' w (by omega) hS) ?_
   intro vq
   try dsimp only
   refine n_ (g_in_normal (t_ (s_ (s_ (o_ ?_)))))
   refine xg 5 [0,2] rfl (by omega) ?_
   refine n_ (t_ (g_cond_f rfl (g_skip (t_ (g_goto ?_)))))
   exact g_jump ⟨(l, vq, (ts ++ [litT c]), d), by dsimp only; (try rw [List.length_append, List.length_singleton]); omega, by dsimp only; omega, by dsimp only; (try rw [List.length_append, List.length_singleton]); omega, fun o h => hR o (.next (.plain (by unfold okX; refine ⟨by omega, by omega, by omega, by omega, fun q => ?_⟩; first | omega | cases q) (by show tokE c ts d = _; unfold tokE; rw [if_neg (by omega), if_neg (by omega), if_neg (by omega), if_neg (by omega), if_neg (by omega), if_neg (by omega), if_neg (by omega)])) (by first | omega | (dsimp only; omega)) h)⟩ [0] rfl (fun j hj => by cases hj; dsimp only; omega) rfl (fun w h => h.pick [0,0] rfl)
  refine k_op 9 rfl ?_
  refine xg 1 [0] rfl (by omega) ?_
  refine n_ ?_
  refine k_end (fun _ h => h.pick [] rfl) ?_
  refine k_take (v := st8 l) 10 rfl (by kernel_rfl) hQ rfl rfl rfl (fun _ h => h.pick [] rfl) (y_val (y_sfrom (l := 1) rfl rfl Try.underlying9 (by show 1 ≤ (c :: l).toArray.size; simp)) (by rw [st8_1]; rfl)) ?_
  refine k_one 4 (by kernel_rfl) ?_
  refine k_op 4 rfl ?_
  refine xg 1 [0] rfl (by omega) ?_
  refine n_ ?_
  refine k_end (fun _ h => h.pick [] rfl) ?_
  refine k_take (v := .int .u8 (c.toNat : Int)) 5 rfl (by kernel_rfl) hQ rfl rfl rfl (fun _ h => h.pick [] rfl) (y_sidx (i := 0) rfl rfl Try.underlying9 (st8_0 c l)) ?_
  refine k_x 11 [] [] hQ (by kernel_rfl) rfl rfl rfl rfl rfl rfl ?_
  refine k_x 12 [] [] hQ (by kernel_rfl) rfl rfl rfl rfl rfl rfl ?_
  refine k_x 13 [] [] hQ (by kernel_rfl) rfl rfl rfl rfl rfl rfl ?_
  refine k_one 14 (by kernel_rfl) ?_
  refine k_op 14 rfl ?_
  refine xg 1 [0] rfl (by omega) ?_
  refine n_ ?_
  refine k_end (fun _ h => h.pick [] rfl) ?_
  refine k_done (by kernel_rfl) ?_
  refine t_ (s_ (g_block (s_ (o_ ?_))))
  refine xg 3 [0] rfl rfl ?_
  refine n_ (t_ ?_)
  refine g_casep 33 rfl (fun h18 => ?_) fun h18 => ?_
  ·refine g_cond_t rfl (s_ (o_ ?_))
   refine xg 1 [] rfl rfl ?_
   refine g_callAll (fun x : {x : List UInt8 × List Tok × Int × Bool × Value // EscR true l ts d x.1 x.2.1 x.2.2.1 x.2.2.2.1} => .bool x.1.2.2.2.1) (fun x => [.cells b 50 [st8 x.1.1, .bool true, x.1.2.2.2.2, .int .i64 x.1.2.2.1], .row 64 7 x.1.2.2.2.2 x.1.2.1.length (x.1.2.1.flatMap tC)]) rfl rfl rfl Try.call21 (fun w F' hS => escaped_any b true l d v ts F' w (by omega) (by omega) (by omega) hS) ?_
   rintro ⟨⟨r, ts1, d1, ok, ve⟩, hesc⟩
   try dsimp only
   dsimp only at hesc
   refine xg 1 [] rfl rfl ?_
   refine n_ (t_ ?_)
   first | refine g_casep 38 rfl (fun h19 => ?_) fun h19 => ?_ | refine g_caseb 38 rfl (fun h19 => ?_) fun h19 => ?_
   ·refine g_cond_t rfl (s_ ?_)
    obtain rfl : ok = false := by simpa using ‹(!ok) = true›
    refine o_ ?_
    refine xg 1 [] rfl rfl ?_
    refine n_ (t_ (g_ret (g_in_ret (g_then_ret (g_jumps_ret ?_)))))
    refine g_end1 Try.results17 rfl ?_
    exact fun w hS => ⟨⟨(ve, r, ts1, d1, none), hR _ (.fail (.esc0 (by omega) hesc)), fun ts' q => by cases q⟩, rfl, hS.pick [0,0] rfl⟩
   refine g_cond_f rfl (g_skip (g_in_normal (t_ (s_ (s_ ?_)))))
   obtain rfl : ok = true := by simpa using ‹(!ok) = false›
   have hel := EscR_len hesc
   refine o_ ?_
   refine xg 5 [0,0] rfl (by omega) ?_
   refine n_ (t_ ?_)
   refine g_casep 186 rfl (fun h20 => ?_) fun h20 => ?_
   ·refine g_cond_t rfl (s_ (o_ ?_))
    refine xg 1 [] rfl rfl ?_
    refine n_ (t_ (g_ret (g_then_ret (g_jumps_ret ?_))))
    refine g_end1 Try.results17 rfl ?_
    exact fun w hS => ⟨⟨(ve, r, ts1, d1, none), hR _ (.neg (.esc (by omega) hesc) (by omega)), fun ts' q => by cases q⟩, rfl, hS.pick [0,0] rfl⟩
   refine g_cond_f rfl (g_skip (t_ (g_goto ?_)))
   exact g_jump ⟨(r, ve, ts1, d1), by dsimp only; (try rw [List.length_append, List.length_singleton]); omega, by dsimp only; omega, by dsimp only; (try rw [List.length_append, List.length_singleton]); omega, fun o h => hR o (.next (.esc (by omega) hesc) (by first | omega | (dsimp only; omega)) h)⟩ [0] rfl (fun j hj => by cases hj; dsimp only; omega) rfl (fun w h => h.pick [0,0] rfl)
  refine g_cond_f rfl (s_ (o_ ?_))
  refine xg 3 [0] rfl rfl ?_
  refine n_ (t_ ?_)
  refine g_casep 39 rfl (fun h21 => ?_) fun h21 => ?_
  ·refine g_cond_t rfl (s_ (o_ ?_))
   refine xg 4 [0] rfl (by omega) ?_
   refine g_callE (fun x : {x : (Nat → Int) × Int × Int // x.2.2 = 0 → 0 ≤ x.2.1 ∧ x.2.1 ≤ l.length} => .tuple #[.agg (s4C x.1.1).toArray, .int .i64 x.1.2.1, .int .i64 x.1.2.2]) rfl rfl rfl Try.call22 (fun w hS => bracket_any l (by omega) w (hS.maxHere hz hF0)) ?_
   rintro ⟨⟨s, n, er⟩, hb⟩
   dsimp only at hb ⊢
   refine xg 1 [] rfl rfl ?_
   refine g_val (v := .agg (s4C s).toArray) rfl rfl rfl (y_extract rfl rfl) ?_
   refine g_val (v := .int .i64 n) rfl rfl rfl (y_extract rfl rfl) ?_
   refine g_val (v := .int .i64 er) rfl rfl rfl (y_extract rfl rfl) ?_
   refine g_alloc rfl rfl Try.zeroValue27 rfl (fun b2 => ?_)
   refine g_stN 0 rfl rfl rfl (by kernel_rfl) rfl rfl rfl rfl ?_
   simp only [List.set_cons_zero]
   refine xg 2 [] rfl rfl ?_
   refine n_ (t_ (s_ (s_ (o_ ?_))))
   refine xg 2 [0] rfl rfl ?_
   refine n_ (t_ ?_)
   refine g_casep 52 rfl (fun h22 => ?_) fun h22 => ?_
   ·refine g_cond_t rfl (s_ (o_ ?_))
    refine xg 1 [] rfl rfl ?_
    refine n_ (t_ (g_ret (g_then_ret (g_in_ret (g_then_ret (g_jumps_ret ?_))))))
    refine g_end1 Try.results17 rfl ?_
    exact fun w hS => ⟨⟨(v, l, ts, d, none), hR _ (.fail (.brack0 (by omega))), fun ts' q => by cases q⟩, rfl, hS.pick [1,1] rfl⟩
   refine g_cond_f rfl (g_skip (t_ (s_ ?_)))
   obtain ⟨hn0, hn1⟩ := hb (by omega)
   obtain ⟨n, rfl⟩ := Int.eq_ofNat_of_zero_le hn0
   have hld := List.length_drop (l := l) (i := n)
   refine o_ ?_
   refine xg 1 [] rfl rfl ?_
   refine g_val rfl rfl rfl (y_ldN (vs := (s4C s)) 0 rfl Try.isAgg27 Try.sizeOf27 rfl rfl rfl) ?_
   refine g_val (v := .agg (tC (setT s)).toArray) rfl rfl rfl (y_val (y_build (offs := [0, 1]) rfl Try.zeroValue64 (by kernel_rfl)) rfl) ?_
   refine g_perm (.trans (.swap _ _ _) (.cons _ (.swap _ _ _))) ?_
   refine g_callOwn (L0 := [.cells b 50 [st8 l, (.bool true), v, (.int .i64 d)], .row 64 7 v ts.length (ts.flatMap tC)]) (fun _ : Value => .tuple #[]) (fun v' => [.cells b 50 [st8 l, (.bool true), v', (.int .i64 d)], .row 64 7 v' (ts ++ [(setT s)]).length ((ts ++ [(setT s)]).flatMap tC)]) rfl rfl rfl Try.call23 (fun w hS => put_any b (st8 l) (.bool true) (.int .i64 d) v ts (setT s) _ w (by omega) hS.part) ?_
   intro vq
   try dsimp only
   simp only [List.cons_append, List.nil_append]
   refine nto_ ?_
   refine xg 6 [0] rfl (by omega) ?_
   refine g_val (v := st8 (l.drop n)) rfl rfl rfl (y_val (y_sfrom (l := n) rfl rfl Try.underlying9 (by rw [size_mk]; omega)) (by rw [st8_drop]; rfl)) ?_
   refine xg 3 [0] rfl (by omega) ?_
   refine n_ (g_in_normal (t_ (s_ (s_ (o_ ?_)))))
   refine xg 5 [0,2] rfl (by omega) ?_
   refine n_ (t_ (g_cond_f rfl (g_skip (t_ (g_goto ?_)))))
   exact g_jump ⟨((l.drop n), vq, (ts ++ [(setT s)]), d), by dsimp only; (try rw [List.length_append, List.length_singleton]); omega, by dsimp only; omega, by dsimp only; (try rw [List.length_append, List.length_singleton]); omega, fun o h => hR o (.next (.brack (by omega) (by omega)) (by first | omega | (dsimp only; omega)) h)⟩ [0] rfl (fun j hj => by cases hj; dsimp only; omega) rfl (fun w h => h.pick [0,0] rfl)
  refine g_cond_f rfl (s_ (o_ ?_))
  refine xg 3 [0] rfl rfl ?_
  refine n_ (t_ ?_)
  refine g_casep 66 rfl (fun h23 => ?_) fun h23 => ?_
  ·refine g_cond_t rfl (o_ ?_)
   refine xg 2 [] rfl rfl ?_
   refine g_call1 rfl rfl rfl Try.call24 (fun w hS => cwith_any s0 0 255 (by decide) (by decide) w) ?_
   refine xg 1 [] rfl rfl ?_
   refine g_callAll (fun _ : Value => .tuple #[]) (fun v' => [.cells b 50 [st8 l, (.bool true), v', (.int .i64 d)], .row 64 7 v' (ts ++ [dotT]).length ((ts ++ [dotT]).flatMap tC)]) rfl rfl rfl Try.call23 (fun w F' hS => put_any b (st8 l) (.bool true) (.int .i64 d) v ts dotT F' w (by omega) hS) ?_
   intro vq
   try dsimp only
   refine n_ (g_in_normal (t_ (s_ (s_ (o_ ?_)))))
   refine xg 5 [0,2] rfl (by omega) ?_
   refine n_ (t_ (g_cond_f rfl (g_skip (t_ (g_goto ?_)))))
   exact g_jump ⟨(l, vq, (ts ++ [dotT]), d), by dsimp only; (try rw [List.length_append, List.length_singleton]); omega, by dsimp only; omega, by dsimp only; (try rw [List.length_append, List.length_singleton]); omega, fun o h => hR o (.next (.plain (by unfold okX; refine ⟨by omega, by omega, by omega, by omega, fun q => ?_⟩; first | omega | cases q) (by show tokE c ts d = _; unfold tokE; rw [if_pos (by omega)])) (by first | omega | (dsimp only; omega)) h)⟩ [0] rfl (fun j hj => by cases hj; dsimp only; omega) rfl (fun w h => h.pick [0,0] rfl)
  refine g_cond_f rfl (s_ (o_ ?_))
  refine xg 3 [0] rfl rfl ?_
  refine g_casep 77 rfl (fun h24 => ?_) fun h24 => ?_
  ·refine xg 2 [] rfl rfl ?_
   refine g_callAll (fun _ : Unit => .bool true) (fun _ => [.cells b 50 [st8 l, .bool true, v, .int .i64 d], .row 64 7 v ts.length (ts.flatMap tC)]) rfl rfl rfl Try.call25 (fun w F' hS => anchored_any b true l d v ts c F' w (by omega) (by omega) (by omega) hS) ?_
   intro _
   try dsimp only
   refine xg 2 [] rfl rfl ?_
   refine n_ (t_ (g_cond_t rfl (o_ ?_)))
   refine xg 2 [] rfl rfl ?_
   refine g_callAll (fun _ : Value => .tuple #[]) (fun v' => [.cells b 50 [st8 l, (.bool true), v', (.int .i64 d)], .row 64 7 v' (ts ++ [(kT 5)]).length ((ts ++ [(kT 5)]).flatMap tC)]) rfl rfl rfl Try.call23 (fun w F' hS => put_any b (st8 l) (.bool true) (.int .i64 d) v ts (kT 5) F' w (by omega) hS) ?_
   intro vq
   try dsimp only
   refine n_ (g_in_normal (t_ (s_ (s_ (o_ ?_)))))
   refine xg 5 [0,2] rfl (by omega) ?_
   refine n_ (t_ (g_cond_f rfl (g_skip (t_ (g_goto ?_)))))
   exact g_jump ⟨(l, vq, (ts ++ [(kT 5)]), d), by dsimp only; (try rw [List.length_append, List.length_singleton]); omega, by dsimp only; omega, by dsimp only; (try rw [List.length_append, List.length_singleton]); omega, fun o h => hR o (.next (.begins (by omega) rfl) (by first | omega | (dsimp only; omega)) h)⟩ [0] rfl (fun j hj => by cases hj; dsimp only; omega) rfl (fun w h => h.pick [0,0] rfl)
  refine xg 5 [] rfl rfl ?_
  refine n_ (t_ (g_cond_f rfl (s_ (o_ ?_))))
  refine xg 3 [0] rfl rfl ?_
  refine g_casep 88 rfl (fun h25 => ?_) fun h25 => ?_
  ·refine xg 2 [] rfl rfl ?_
   refine g_callAll (fun _ : Unit => .bool true) (fun _ => [.cells b 50 [st8 l, .bool true, v, .int .i64 d], .row 64 7 v ts.length (ts.flatMap tC)]) rfl rfl rfl Try.call25 (fun w F' hS => anchored_any b true l d v ts c F' w (by omega) (by omega) (by omega) hS) ?_
   intro _
   try dsimp only
   refine xg 2 [] rfl rfl ?_
   refine n_ (t_ (g_cond_t rfl (o_ ?_)))
   refine xg 2 [] rfl rfl ?_
   refine g_callAll (fun _ : Value => .tuple #[]) (fun v' => [.cells b 50 [st8 l, (.bool true), v', (.int .i64 d)], .row 64 7 v' (ts ++ [(kT 6)]).length ((ts ++ [(kT 6)]).flatMap tC)]) rfl rfl rfl Try.call23 (fun w F' hS => put_any b (st8 l) (.bool true) (.int .i64 d) v ts (kT 6) F' w (by omega) hS) ?_
   intro vq
   try dsimp only
   refine n_ (g_in_normal (t_ (s_ (s_ (o_ ?_)))))
   refine xg 5 [0,2] rfl (by omega) ?_
   refine n_ (t_ (g_cond_f rfl (g_skip (t_ (g_goto ?_)))))
   exact g_jump ⟨(l, vq, (ts ++ [(kT 6)]), d), by dsimp only; (try rw [List.length_append, List.length_singleton]); omega, by dsimp only; omega, by dsimp only; (try rw [List.length_append, List.length_singleton]); omega, fun o h => hR o (.next (.ends (by omega) rfl) (by first | omega | (dsimp only; omega)) h)⟩ [0] rfl (fun j hj => by cases hj; dsimp only; omega) rfl (fun w h => h.pick [0,0] rfl)
  refine xg 5 [] rfl rfl ?_
  refine n_ (t_ (g_cond_f rfl (s_ (o_ ?_))))
  refine xg 3 [0] rfl rfl ?_
  refine g_casep 99 rfl (fun h26 => ?_) fun h26 => ?_
  ·refine xg 15 [0] rfl (by omega) ?_
   refine n_ (t_ (g_cond_f rfl (s_ (o_ ?_))))
   refine xg 3 [1] rfl (by omega) ?_
   refine n_ (t_ (g_cond_t rfl (o_ ?_)))
   refine xg 2 [] rfl rfl ?_
   refine g_callAll (fun _ : Value => .tuple #[]) (fun v' => [.cells b 50 [st8 l, (.bool true), v', (.int .i64 d)], .row 64 7 v' (ts ++ [(timesT 0 (-1))]).length ((ts ++ [(timesT 0 (-1))]).flatMap tC)]) rfl rfl rfl Try.call23 (fun w F' hS => put_any b (st8 l) (.bool true) (.int .i64 d) v ts (timesT 0 (-1)) F' w (by omega) hS) ?_
   intro vq
   try dsimp only
   refine n_ (g_in_normal (t_ (s_ (s_ (o_ ?_)))))
   refine xg 5 [0,2] rfl (by omega) ?_
   refine n_ (t_ (g_cond_f rfl (g_skip (t_ (g_goto ?_)))))
   exact g_jump ⟨(l, vq, (ts ++ [(timesT 0 (-1))]), d), by dsimp only; (try rw [List.length_append, List.length_singleton]); omega, by dsimp only; omega, by dsimp only; (try rw [List.length_append, List.length_singleton]); omega, fun o h => hR o (.next (.plain (by unfold okX; refine ⟨by omega, by omega, by omega, by omega, fun q => ?_⟩; first | omega | cases q) (by show tokE c ts d = _; unfold tokE; rw [if_neg (by omega), if_pos (by omega)])) (by first | omega | (dsimp only; omega)) h)⟩ [0] rfl (fun j hj => by cases hj; dsimp only; omega) rfl (fun w h => h.pick [0,0] rfl)
  refine xg 15 [] rfl rfl ?_
  refine n_ (t_ (g_cond_f rfl (s_ (o_ ?_))))
  refine xg 3 [2] rfl (by omega) ?_
  refine n_ (t_ (g_cond_f rfl (s_ (o_ ?_))))
  refine xg 6 [0] rfl (by omega) ?_
  refine n_ (t_ (g_cond_f rfl (s_ (o_ ?_))))
  refine xg 3 [0] rfl rfl ?_
  refine n_ (t_ ?_)
  refine g_casep 132 rfl (fun h27 => ?_) fun h27 => ?_
  ·refine g_cond_t rfl (o_ ?_)
   refine xg 2 [] rfl rfl ?_
   refine g_callAll (fun _ : Value => .tuple #[]) (fun v' => [.cells b 50 [st8 l, (.bool true), v', (.int .i64 d)], .row 64 7 v' (ts ++ [(timesT 1 (-1))]).length ((ts ++ [(timesT 1 (-1))]).flatMap tC)]) rfl rfl rfl Try.call23 (fun w F' hS => put_any b (st8 l) (.bool true) (.int .i64 d) v ts (timesT 1 (-1)) F' w (by omega) hS) ?_
   intro vq
   try dsimp only
   refine n_ (g_in_normal (t_ (s_ (s_ (o_ ?_)))))
   refine xg 5 [0,2] rfl (by omega) ?_
   refine n_ (t_ (g_cond_f rfl (g_skip (t_ (g_goto ?_)))))
   exact g_jump ⟨(l, vq, (ts ++ [(timesT 1 (-1))]), d), by dsimp only; (try rw [List.length_append, List.length_singleton]); omega, by dsimp only; omega, by dsimp only; (try rw [List.length_append, List.length_singleton]); omega, fun o h => hR o (.next (.plain (by unfold okX; refine ⟨by omega, by omega, by omega, by omega, fun q => ?_⟩; first | omega | cases q) (by show tokE c ts d = _; unfold tokE; rw [if_neg (by omega), if_neg (by omega), if_pos (by omega)])) (by first | omega | (dsimp only; omega)) h)⟩ [0] rfl (fun j hj => by cases hj; dsimp only; omega) rfl (fun w h => h.pick [0,0] rfl)
  refine g_cond_f rfl (s_ (o_ ?_))
  refine xg 3 [0] rfl rfl ?_
  refine n_ (t_ ?_)
  refine g_casep 138 rfl (fun h28 => ?_) fun h28 => ?_
  ·refine g_cond_t rfl (o_ ?_)
   refine xg 2 [] rfl rfl ?_
   refine g_callAll (fun _ : Value => .tuple #[]) (fun v' => [.cells b 50 [st8 l, (.bool true), v', (.int .i64 d)], .row 64 7 v' (ts ++ [(timesT 0 1)]).length ((ts ++ [(timesT 0 1)]).flatMap tC)]) rfl rfl rfl Try.call23 (fun w F' hS => put_any b (st8 l) (.bool true) (.int .i64 d) v ts (timesT 0 1) F' w (by omega) hS) ?_
   intro vq
   try dsimp only
   refine n_ (g_in_normal (t_ (s_ (s_ (o_ ?_)))))
   refine xg 5 [0,2] rfl (by omega) ?_
   refine n_ (t_ (g_cond_f rfl (g_skip (t_ (g_goto ?_)))))
   exact g_jump ⟨(l, vq, (ts ++ [(timesT 0 1)]), d), by dsimp only; (try rw [List.length_append, List.length_singleton]); omega, by dsimp only; omega, by dsimp only; (try rw [List.length_append, List.length_singleton]); omega, fun o h => hR o (.next (.plain (by unfold okX; refine ⟨by omega, by omega, by omega, by omega, fun q => ?_⟩; first | omega | cases q) (by show tokE c ts d = _; unfold tokE; rw [if_neg (by omega), if_neg (by omega), if_neg (by omega), if_pos (by omega)])) (by first | omega | (dsimp only; omega)) h)⟩ [0] rfl (fun j hj => by cases hj; dsimp only; omega) rfl (fun w h => h.pick [0,0] rfl)
  refine g_cond_f rfl (s_ (o_ ?_))
  refine xg 3 [0] rfl rfl ?_
  refine n_ (t_ ?_)
  refine g_casep 144 rfl (fun h29 => ?_) fun h29 => ?_
  ·refine g_cond_t rfl (s_ (o_ ?_))
   refine xg 1 [] rfl rfl ?_
   refine g_callAll (fun x : {x : Tok × List UInt8 × Bool × Value // IvR [125] l x.1 x.2.1 x.2.2.1} => .bool x.1.2.2.1) (fun x => [.cells b 50 [st8 x.1.2.1, (.bool true), x.1.2.2.2, (.int .i64 d)], .row 64 7 x.1.2.2.2 (ts ++ [x.1.1]).length ((ts ++ [x.1.1]).flatMap tC)]) rfl rfl rfl Try.call29 (fun w F' hS => interval_any b l (.bool true) (.int .i64 d) v ts [125] F' w (by omega) (by omega) hS) ?_
   rintro ⟨⟨t, r, ok, vi⟩, hiv⟩
   try dsimp only
   dsimp only at hiv
   refine xg 1 [] rfl rfl ?_
   refine n_ (t_ ?_)
   first | refine g_casep 149 rfl (fun h30 => ?_) fun h30 => ?_ | refine g_caseb 149 rfl (fun h30 => ?_) fun h30 => ?_
   ·refine g_cond_t rfl (s_ ?_)
    obtain rfl : ok = false := by simpa using ‹(!ok) = true›
    refine o_ ?_
    refine xg 1 [] rfl rfl ?_
    refine n_ (t_ (g_ret (g_in_ret (g_then_ret (g_jumps_ret ?_)))))
    refine g_end1 Try.results17 rfl ?_
    exact fun w hS => ⟨⟨(vi, r, (ts ++ [t]), d, none), hR _ (.fail (.iv0 (by omega) rfl hiv)), fun ts' q => by cases q⟩, rfl, hS.pick [0,0] rfl⟩
   refine g_cond_f rfl (g_skip (g_in_normal (t_ (s_ (s_ ?_)))))
   obtain rfl : ok = true := by simpa using ‹(!ok) = false›
   have hel := IvR_len hiv
   refine o_ ?_
   refine xg 5 [0,2] rfl (by omega) ?_
   refine n_ (t_ (g_cond_f rfl (g_skip (t_ (g_goto ?_)))))
   exact g_jump ⟨(r, vi, (ts ++ [t]), d), by dsimp only; (try rw [List.length_append, List.length_singleton]); omega, by dsimp only; omega, by dsimp only; (try rw [List.length_append, List.length_singleton]); omega, fun o h => hR o (.next (.iv (by omega) rfl hiv) (by first | omega | (dsimp only; omega)) h)⟩ [0] rfl (fun j hj => by cases hj; dsimp only; omega) rfl (fun w h => h.pick [0,0] rfl)
  refine g_cond_f rfl (s_ (o_ ?_))
  refine xg 3 [0] rfl rfl ?_
  refine n_ (t_ ?_)
  refine g_casep 150 rfl (fun h31 => ?_) fun h31 => ?_
  ·refine g_cond_t rfl (s_ (o_ ?_))
   refine xg 8 [0,0] rfl (by omega) ?_
   refine nto_ ?_
   refine xg 2 [] rfl rfl ?_
   refine g_callAll (fun _ : Value => .tuple #[]) (fun v' => [.cells b 50 [st8 l, (.bool true), v', (.int .i64 (d + 1))], .row 64 7 v' (ts ++ [(kT 1)]).length ((ts ++ [(kT 1)]).flatMap tC)]) rfl rfl rfl Try.call23 (fun w F' hS => put_any b (st8 l) (.bool true) (.int .i64 (d + 1)) v ts (kT 1) F' w (by omega) hS) ?_
   intro vq
   try dsimp only
   refine n_ (g_in_normal (t_ (s_ (s_ (o_ ?_)))))
   refine xg 5 [0,2] rfl (by omega) ?_
   refine n_ (t_ (g_cond_f rfl (g_skip (t_ (g_goto ?_)))))
   exact g_jump ⟨(l, vq, (ts ++ [(kT 1)]), (d + 1)), by dsimp only; (try rw [List.length_append, List.length_singleton]); omega, by dsimp only; omega, by dsimp only; (try rw [List.length_append, List.length_singleton]); omega, fun o h => hR o (.next (.plain (by unfold okX; refine ⟨by omega, by omega, by omega, by omega, fun q => ?_⟩; first | omega | cases q) (by show tokE c ts d = _; unfold tokE; rw [if_neg (by omega), if_neg (by omega), if_neg (by omega), if_neg (by omega), if_pos (by omega)])) (by first | omega | (dsimp only; omega)) h)⟩ [0] rfl (fun j hj => by cases hj; dsimp only; omega) rfl (fun w h => h.pick [0,0] rfl)
  refine g_cond_f rfl (s_ (o_ ?_))
  refine xg 3 [0] rfl rfl ?_
  refine n_ (t_ ?_)
  refine g_casep 163 rfl (fun h32 => ?_) fun h32 => ?_
  ·refine g_cond_t rfl (s_ (o_ ?_))
   refine xg 8 [0,0] rfl (by omega) ?_
   refine nto_ ?_
   refine xg 2 [] rfl rfl ?_
   refine g_callAll (fun _ : Value => .tuple #[]) (fun v' => [.cells b 50 [st8 l, (.bool true), v', (.int .i64 (d - 1))], .row 64 7 v' (ts ++ [(kT 2)]).length ((ts ++ [(kT 2)]).flatMap tC)]) rfl rfl rfl Try.call23 (fun w F' hS => put_any b (st8 l) (.bool true) (.int .i64 (d - 1)) v ts (kT 2) F' w (by omega) hS) ?_
   intro vq
   try dsimp only
   refine n_ (g_in_normal (t_ (s_ (s_ (o_ ?_)))))
   refine xg 5 [0,0] rfl (by omega) ?_
   refine n_ (t_ ?_)
   refine g_casep 186 rfl (fun h33 => ?_) fun h33 => ?_
   ·refine g_cond_t rfl (s_ (o_ ?_))
    refine xg 1 [] rfl rfl ?_
    refine n_ (t_ (g_ret (g_then_ret (g_jumps_ret ?_))))
    refine g_end1 Try.results17 rfl ?_
    exact fun w hS => ⟨⟨(vq, l, (ts ++ [(kT 2)]), (d - 1), none), hR _ (.neg (.plain (by unfold okX; refine ⟨by omega, by omega, by omega, by omega, fun q => ?_⟩; first | omega | cases q) (by show tokE c ts d = _; unfold tokE; rw [if_neg (by omega), if_neg (by omega), if_neg (by omega), if_neg (by omega), if_neg (by omega), if_pos (by omega)])) (by omega)), fun ts' q => by cases q⟩, rfl, hS.pick [0,0] rfl⟩
   refine g_cond_f rfl (g_skip (t_ (g_goto ?_)))
   exact g_jump ⟨(l, vq, (ts ++ [(kT 2)]), (d - 1)), by dsimp only; (try rw [List.length_append, List.length_singleton]); omega, by dsimp only; omega, by dsimp only; (try rw [List.length_append, List.length_singleton]); omega, fun o h => hR o (.next (.plain (by unfold okX; refine ⟨by omega, by omega, by omega, by omega, fun q => ?_⟩; first | omega | cases q) (by show tokE c ts d = _; unfold tokE; rw [if_neg (by omega), if_neg (by omega), if_neg (by omega), if_neg (by omega), if_neg (by omega), if_pos (by omega)])) (by first | omega | (dsimp only; omega)) h)⟩ [0] rfl (fun j hj => by cases hj; dsimp only; omega) rfl (fun w h => h.pick [0,0] rfl)
  refine g_cond_f rfl (s_ (o_ ?_))
  refine xg 3 [0] rfl rfl ?_
  refine n_ (t_ ?_)
  refine g_casep 176 rfl (fun h34 => ?_) fun h34 => ?_
  ·refine g_cond_t rfl (o_ ?_)
   refine xg 2 [] rfl rfl ?_
   refine g_callAll (fun _ : Value => .tuple #[]) (fun v' => [.cells b 50 [st8 l, (.bool true), v', (.int .i64 d)], .row 64 7 v' (ts ++ [(kT 3)]).length ((ts ++ [(kT 3)]).flatMap tC)]) rfl rfl rfl Try.call23 (fun w F' hS => put_any b (st8 l) (.bool true) (.int .i64 d) v ts (kT 3) F' w (by omega) hS) ?_
   intro vq
   try dsimp only
   refine n_ (g_in_normal (t_ (s_ (s_ (o_ ?_)))))
   refine xg 5 [0,2] rfl (by omega) ?_
   refine n_ (t_ (g_cond_f rfl (g_skip (t_ (g_goto ?_)))))
   exact g_jump ⟨(l, vq, (ts ++ [(kT 3)]), d), by dsimp only; (try rw [List.length_append, List.length_singleton]); omega, by dsimp only; omega, by dsimp only; (try rw [List.length_append, List.length_singleton]); omega, fun o h => hR o (.next (.plain (by unfold okX; refine ⟨by omega, by omega, by omega, by omega, fun q => ?_⟩; first | omega | cases q) (by show tokE c ts d = _; unfold tokE; rw [if_neg (by omega), if_neg (by omega), if_neg (by omega), if_neg (by omega), if_neg (by omega), if_neg (by omega), if_pos (by omega)])) (by first | omega | (dsimp only; omega)) h)⟩ [0] rfl (fun j hj => by cases hj; dsimp only; omega) rfl (fun w h => h.pick [0,0] rfl)
  refine g_cond_f rfl (o_ ?_)
  refine xg 2 [] rfl rfl ?_
  refine g_callAll (fun _ : Value => .tuple #[]) (fun v' => [.cells b 50 [st8 l, (.bool true), v', (.int .i64 d)], .row 64 7 v' (ts ++ [litT c]).length ((ts ++ [litT c]).flatMap tC)]) rfl rfl rfl Try.call28 (fun w F' hS => literal_any b (st8 l) (.bool true) (.int .i64 d) v ts c F' w (by omega) hS) ?_
  intro vq
  try dsimp only
  refine n_ (g_in_normal (t_ (s_ (s_ (o_ ?_)))))
  refine xg 5 [0,2] rfl (by omega) ?_
  refine n_ (t_ (g_cond_f rfl (g_skip (t_ (g_goto ?_)))))
  exact g_jump ⟨(l, vq, (ts ++ [litT c]), d), by dsimp only; (try rw [List.length_append, List.length_singleton]); omega, by dsimp only; omega, by dsimp only; (try rw [List.length_append, List.length_singleton]); omega, fun o h => hR o (.next (.plain (by unfold okX; refine ⟨by omega, by omega, by omega, by omega, fun q => ?_⟩; first | omega | cases q) (by show tokE c ts d = _; unfold tokE; rw [if_neg (by omega), if_neg (by omega), if_neg (by omega), if_neg (by omega), if_neg (by omega), if_neg (by omega), if_neg (by omega)])) (by first | omega | (dsimp only; omega)) h)⟩ [0] rfl (fun j hj => by cases hj; dsimp only; omega) rfl (fun w h => h.pick [0,0] rfl)
 ·intro hp
  refine s_ (o_ ?_)
  refine xg 1 [] rfl rfl ?_
  refine n_ (t_ (s_ (g_label (t_ ?_))))
  exact g_fall (hp (⟨(l0, v0, [], 0), by simp, by simp, by simp, fun _ h => h⟩)) [0] rfl (fun w h => h.pick [0,0] rfl)

end Go.Proofs.Ytpoelkfncpjmfaa
