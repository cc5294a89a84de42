/- pattern.Parse, of any text. -/
import Derived.Test.YtpoelkfncpjmfaaPbl
import Derived.Test.YtpoelkfncpjmfaaPbb
namespace Go.Proofs.Ytpoelkfncpjmfaa
open Go Go.RowKit

theorem St.no0 {W0 w : World} {L : List Ent} (h : St W0 [] L w) (hz : MaxHere W0) : 0 ∉ L.flatMap Ent.fp := fun hk => by
  obtain ⟨e, he, hk⟩ := List.mem_flatMap.1 hk
  rcases h.own e he 0 hk with h1 | h1
  · have := hz.pos; omega
  · cases h1
theorem LStep_len {ext : Bool} {l : List UInt8} {ts : List Tok} {d : Int} {o : Option (List UInt8 × List Tok × Int)} (h : LStep ext l ts d o) : ∀ r ts' d', o = some (r, ts', d') → ts'.length = ts.length + 1 := by
  intro r ts' d' ho
  cases h with
  | esc h he => cases ho; exact (EscR_len he).1
  | esc0 h he => cases ho
  | brack h hn => cases ho; simp
  | brack0 h => cases ho
  | begins h ha => cases ho; simp
  | ends h ha => cases ho; simp
  | lits h he ha => cases ho; simp
  | iv h he hi => cases ho; simp
  | iv0 h he hi => cases ho
  | plain h e =>
    cases ho
    cases ext with
    | true => rename_i c; have := tokE_len c ts d; rw [show tokE c ts d = _ from e] at this; exact this
    | false => rename_i c; have := tokB_len c ts d; rw [show tokB c ts d = _ from e] at this; exact this
theorem Lex_len {ext : Bool} {l : List UInt8} {ts : List Tok} {d : Int} {o : Option (List Tok)} (h : Lex ext l ts d o) : ∀ ts', o = some ts' → ts.length ≤ ts'.length ∧ (l ≠ [] → ts.length < ts'.length) := by
  induction h with
  | done h => intro ts' q; cases q; exact ⟨Nat.le_refl _, fun h => absurd rfl h⟩
  | deep h => intro ts' q; cases q
  | fail h => intro ts' q; cases q
  | neg h hd => intro ts' q; cases q
  | next h hd ho ih =>
    intro ts' q
    have h1 := LStep_len h _ _ _ rfl
    have h2 := (ih ts' q).1
    exact ⟨by omega, fun _ => by omega⟩
/-- What Parse answers. -/
def parX (ext : Bool) (l0 : List UInt8) (x : MT × Int) : Prop :=
  (x = (zMT, 91) ∧ (l0 = [] ∨ 200 < l0.length ∨ Lex ext l0 [] 0 none ∨ ∃ ts t k g b, Lex ext l0 [] 0 (some ts) ∧ RAll ts 0 0 false t k g b ∧ (b = true ∨ k < ts.length))) ∨
  (x.2 = 0 ∧ ∃ ts k g, Lex ext l0 [] 0 (some ts) ∧ l0 ≠ [] ∧ l0.length ≤ 200 ∧ RAll ts 0 0 false x.1 k g false ∧ ts.length ≤ k)

set_option maxRecDepth 100000 in
theorem parse_xb (l0 : List UInt8) (w : World) (hz : MaxHere w) :
    Calls Try.prog 9 #[st8 l0, .bool false] w fun e w' => ∃ x : {x : MT × Int // parX false l0 x}, e = .returned (.tuple #[.agg (nC x.1.1).toArray, .int .i64 x.1.2]) ∧ St w [] [.forest [x.1.1]] w' := by
 refine fn_intro Try.func9 rfl Try.ntmps9 rfl rfl ?_
 refine s_ (o_ ?_)
 refine g_alloc rfl rfl Try.zeroValue30 rfl (fun b1 => ?_)
 refine xg 1 [] rfl rfl ?_
 refine n_ (t_ (s_ ?_))
 have hsz := size_mk l0
 refine o_ ?_
 refine xg 3 [] rfl rfl ?_
 refine g_box rfl rfl rfl rfl (fun b2 => ?_)
 refine g_val rfl rfl rfl (y_assign rfl) ?_
 refine g_nilRow 64 7 ?_
 refine n_ (t_ (s_ (s_ (o_ ?_))))
 refine xg 3 [] rfl rfl ?_
 refine g_casep 15 rfl (fun h1 => ?_) fun h1 => ?_
 ·refine xg 9 [] rfl rfl ?_
  refine n_ (t_ (g_cond_t rfl (s_ ?_)))
  refine g_leaf 0 s0 0 0 0 ?_
  refine o_ ?_
  refine xg 3 [3] rfl (by omega) ?_
  refine n_ (t_ (g_ret (g_then_ret ?_)))
  refine g_end_cell2 3 Try.results9 rfl rfl rfl Try.isAgg30 Try.sizeOf30 rfl ?_
  exact fun w hS => ⟨⟨(zMT, 91), .inl ⟨rfl, (by first | exact .inr (.inl (by omega)) | exact .inl (by have h := congrArg (fun b : ByteArray => b.data.toList) (show (⟨l0.toArray⟩ : ByteArray) = ⟨#[]⟩ by assumption); simpa using h))⟩⟩, rfl, hS.pick [0] rfl⟩
 refine xg 5 [0] rfl rfl ?_
 refine g_casep 20 rfl (fun h2 => ?_) fun h2 => ?_
 ·refine xg 4 [] rfl rfl ?_
  refine n_ (t_ (g_cond_t rfl (s_ ?_)))
  refine g_leaf 0 s0 0 0 0 ?_
  refine o_ ?_
  refine xg 3 [3] rfl (by omega) ?_
  refine n_ (t_ (g_ret (g_then_ret ?_)))
  refine g_end_cell2 3 Try.results9 rfl rfl rfl Try.isAgg30 Try.sizeOf30 rfl ?_
  exact fun w hS => ⟨⟨(zMT, 91), .inl ⟨rfl, (by first | exact .inr (.inl (by omega)) | exact .inl (by have h := congrArg (fun b : ByteArray => b.data.toList) (show (⟨l0.toArray⟩ : ByteArray) = ⟨#[]⟩ by assumption); simpa using h))⟩⟩, rfl, hS.pick [0] rfl⟩
 refine xg 1 [] rfl rfl ?_
 refine g_perm (.swap _ _ _) ?_
 refine g_callOwn (L0 := [.cells b2 50 [st8 l0, .bool false, .slice none 0 0, .int .i64 0], .row 64 7 (.slice none 0 0) ([] : List Tok).length (([] : List Tok).flatMap tC)]) (fun x : {x : Value × List UInt8 × List Tok × Int × Option (List Tok) // Lex false l0 [] 0 x.2.2.2.2 ∧ ∀ ts, x.2.2.2.2 = some ts → x.2.2.1 = ts ∧ ts.length ≤ l0.length} => .bool x.1.2.2.2.2.isSome) (fun x => [.cells b2 50 [st8 x.1.2.1, .bool false, x.1.1, .int .i64 x.1.2.2.2.1], .row 64 7 x.1.1 x.1.2.2.1.length (x.1.2.2.1.flatMap tC)]) rfl rfl rfl Try.call17 (fun w hS => tokens_xb b2 l0 _ (by omega) _ w (hS.maxHere hz (by simp)) (fun hk => hS.no0 hz (by rw [List.flatMap_append]; exact List.mem_append_left _ hk)) hS.part) ?_
 rintro ⟨⟨vt, rest, ts, dx, ot⟩, hlx, htk⟩
 dsimp only at hlx htk
 simp only [List.cons_append, List.nil_append]
 refine xg 2 [] rfl rfl ?_
 refine n_ (t_ ?_)
 first | refine g_casep 24 rfl (fun h3 => ?_) fun h3 => ?_ | refine g_caseb 24 rfl (fun h3 => ?_) fun h3 => ?_
 ·refine g_cond_t rfl (s_ ?_)
  refine g_leaf 0 s0 0 0 0 ?_
  refine o_ ?_
  refine xg 3 [3] rfl (by omega) ?_
  refine n_ (t_ (g_ret (g_then_ret ?_)))
  refine g_end_cell2 3 Try.results9 rfl rfl rfl Try.isAgg30 Try.sizeOf30 rfl ?_
  have hno : ot = none := by simpa using ‹(!ot.isSome) = true›
  subst hno
  exact fun w hS => ⟨⟨(zMT, 91), .inl ⟨rfl, .inr (.inr (.inl hlx))⟩⟩, rfl, hS.pick [0] rfl⟩
 refine g_cond_f rfl (g_skip (t_ (s_ ?_)))
 obtain ⟨ts0, hts0⟩ := Option.isSome_iff_exists.1 (show ot.isSome = true by simpa using ‹(!ot.isSome) = false›)
 obtain ⟨rfl, hlen⟩ := htk ts0 hts0
 subst hts0
 have hne : 0 < l0.length := List.length_pos_iff.2 (fun q => by subst q; exact absurd rfl ‹¬ _ = _›)
 have hpt : 0 < ts.length := (Lex_len hlx ts rfl).2 (List.length_pos_iff.1 hne)
 refine g_rowCase 1 rfl (by omega) (fun gr4 cr4 hv4 => ?_)
 cases hv4
 refine g_rowCap 1 rfl (fun hcap => ?_)
 refine o_ ?_
 refine xg 5 [0] rfl (by omega) ?_
 refine g_box rfl rfl rfl rfl (fun b3 => ?_)
 refine xg 1 [] rfl rfl ?_
 refine ntso_ ?_
 refine xg 1 [] rfl rfl ?_
 refine g_perm (.cons _ (.swap _ _ _)) ?_
 refine g_callOwn (L0 := [PEnt b3 gr4 ts 0 0 false 0 cr4, TEnt gr4 cr4 ts]) (fun x : {x : PX // RAll ts 0 0 false x.t x.k x.g x.b ∧ Pos ts x.k x.off x.c ∧ GB x.g x.b ∧ 0 ≤ x.k} => .agg (nC x.1.t).toArray) (fun x => [PEnt b3 gr4 ts x.1.k x.1.g x.1.b x.1.off x.1.c, TEnt gr4 cr4 ts, .forest [x.1.t]]) rfl rfl rfl Try.call18 (fun w hS => all_ok (ts.length + 1) b3 gr4 cr4 0 0 cr4 ts 0 false _ w trivial ⟨Nat.zero_le _, fun _ => rfl, hcap⟩ ⟨by decide, by decide, fun _ => by decide⟩ (by omega) (by omega) hS.part) ?_
 rintro ⟨⟨⟨nk, ns, nm, nx, nu, nv, nq⟩, k1, g1, b1, off1, c1⟩, hr, hpos1, hgb1, hk1⟩
 dsimp only at hr hpos1 hgb1 hk1
 simp only [List.cons_append, List.nil_append]
 refine g_kids 2 rfl (fun pv cv hv => ?_)
 cases hv
 refine g_alloc rfl rfl Try.zeroValue30 rfl (fun b4 => ?_)
 refine xg 1 [0] rfl (by omega) ?_
 refine n_ (t_ (s_ (s_ (o_ ?_))))
 refine xg 5 [1] rfl (by omega) ?_
 first | refine g_casep 38 rfl (fun h5 => ?_) fun h5 => ?_ | refine g_caseb 38 rfl (fun h5 => ?_) fun h5 => ?_
 ·refine xg 7 [] rfl rfl ?_
  refine n_ (t_ (g_cond_t rfl (s_ ?_)))
  refine g_leaf 0 s0 0 0 0 ?_
  refine o_ ?_
  refine xg 3 [6] rfl (by omega) ?_
  refine n_ (t_ (g_ret (g_then_ret ?_)))
  refine g_end_cell2 6 Try.results9 rfl rfl rfl Try.isAgg30 Try.sizeOf30 rfl ?_
  exact fun w hS => ⟨⟨(zMT, 91), .inl ⟨rfl, .inr (.inr (.inr ⟨ts, _, k1, g1, b1, hlx, hr, by first | exact .inl (by assumption) | exact .inr (by omega)⟩))⟩⟩, rfl, hS.pick [0] rfl⟩
 refine xg 7 [1,0] rfl (by omega) ?_
 refine n_ (t_ ?_)
 refine g_casep 45 rfl (fun h6 => ?_) fun h6 => ?_
 ·refine g_cond_t rfl (s_ ?_)
  refine g_leaf 0 s0 0 0 0 ?_
  refine o_ ?_
  refine xg 3 [6] rfl (by omega) ?_
  refine n_ (t_ (g_ret (g_then_ret ?_)))
  refine g_end_cell2 6 Try.results9 rfl rfl rfl Try.isAgg30 Try.sizeOf30 rfl ?_
  exact fun w hS => ⟨⟨(zMT, 91), .inl ⟨rfl, .inr (.inr (.inr ⟨ts, _, k1, g1, b1, hlx, hr, by first | exact .inl (by assumption) | exact .inr (by omega)⟩))⟩⟩, rfl, hS.pick [0] rfl⟩
 refine g_cond_f rfl (g_skip (t_ (s_ (o_ ?_))))
 refine xg 3 [0,5] rfl (by omega) ?_
 refine n_ (t_ (g_ret ?_))
 refine g_end_cell2 5 Try.results9 rfl rfl rfl Try.isAgg30 Try.sizeOf30 rfl ?_
 have hbb : b1 = false := by assumption
 subst hbb
 exact fun w hS => ⟨⟨(.mk nk ns nm nx nu _ nq, 0), .inr ⟨rfl, ts, k1, g1, hlx, List.length_pos_iff.1 hne, by omega, hr, by omega⟩⟩, rfl, hS.pick [3] rfl⟩

set_option maxRecDepth 100000 in
theorem parse_xe (l0 : List UInt8) (w : World) (hz : MaxHere w) :
    Calls Try.prog 9 #[st8 l0, .bool true] w fun e w' => ∃ x : {x : MT × Int // parX true l0 x}, e = .returned (.tuple #[.agg (nC x.1.1).toArray, .int .i64 x.1.2]) ∧ St w [] [.forest [x.1.1]] w' := by
 refine fn_intro Try.func9 rfl Try.ntmps9 rfl rfl ?_
 refine s_ (o_ ?_)
 refine g_alloc rfl rfl Try.zeroValue30 rfl (fun b1 => ?_)
 refine xg 1 [] rfl rfl ?_
 refine n_ (t_ (s_ ?_))
 have hsz := size_mk l0
 refine o_ ?_
 refine xg 3 [] rfl rfl ?_
 refine g_box rfl rfl rfl rfl (fun b2 => ?_)
 refine g_val rfl rfl rfl (y_assign rfl) ?_
 refine g_nilRow 64 7 ?_
 refine n_ (t_ (s_ (s_ (o_ ?_))))
 refine xg 3 [] rfl rfl ?_
 refine g_casep 15 rfl (fun h1 => ?_) fun h1 => ?_
 ·refine xg 9 [] rfl rfl ?_
  refine n_ (t_ (g_cond_t rfl (s_ ?_)))
  refine g_leaf 0 s0 0 0 0 ?_
  refine o_ ?_
  refine xg 3 [3] rfl (by omega) ?_
  refine n_ (t_ (g_ret (g_then_ret ?_)))
  refine g_end_cell2 3 Try.results9 rfl rfl rfl Try.isAgg30 Try.sizeOf30 rfl ?_
  exact fun w hS => ⟨⟨(zMT, 91), .inl ⟨rfl, (by first | exact .inr (.inl (by omega)) | exact .inl (by have h := congrArg (fun b : ByteArray => b.data.toList) (show (⟨l0.toArray⟩ : ByteArray) = ⟨#[]⟩ by assumption); simpa using h))⟩⟩, rfl, hS.pick [0] rfl⟩
 refine xg 5 [0] rfl rfl ?_
 refine g_casep 20 rfl (fun h2 => ?_) fun h2 => ?_
 ·refine xg 4 [] rfl rfl ?_
  refine n_ (t_ (g_cond_t rfl (s_ ?_)))
  refine g_leaf 0 s0 0 0 0 ?_
  refine o_ ?_
  refine xg 3 [3] rfl (by omega) ?_
  refine n_ (t_ (g_ret (g_then_ret ?_)))
  refine g_end_cell2 3 Try.results9 rfl rfl rfl Try.isAgg30 Try.sizeOf30 rfl ?_
  exact fun w hS => ⟨⟨(zMT, 91), .inl ⟨rfl, (by first | exact .inr (.inl (by omega)) | exact .inl (by have h := congrArg (fun b : ByteArray => b.data.toList) (show (⟨l0.toArray⟩ : ByteArray) = ⟨#[]⟩ by assumption); simpa using h))⟩⟩, rfl, hS.pick [0] rfl⟩
 refine xg 1 [] rfl rfl ?_
 refine g_perm (.swap _ _ _) ?_
 refine g_callOwn (L0 := [.cells b2 50 [st8 l0, .bool true, .slice none 0 0, .int .i64 0], .row 64 7 (.slice none 0 0) ([] : List Tok).length (([] : List Tok).flatMap tC)]) (fun x : {x : Value × List UInt8 × List Tok × Int × Option (List Tok) // Lex true l0 [] 0 x.2.2.2.2 ∧ ∀ ts, x.2.2.2.2 = some ts → x.2.2.1 = ts ∧ ts.length ≤ l0.length} => .bool x.1.2.2.2.2.isSome) (fun x => [.cells b2 50 [st8 x.1.2.1, .bool true, x.1.1, .int .i64 x.1.2.2.2.1], .row 64 7 x.1.1 x.1.2.2.1.length (x.1.2.2.1.flatMap tC)]) rfl rfl rfl Try.call17 (fun w hS => tokens_xe b2 l0 _ (by omega) _ w (hS.maxHere hz (by simp)) (fun hk => hS.no0 hz (by rw [List.flatMap_append]; exact List.mem_append_left _ hk)) hS.part) ?_
 rintro ⟨⟨vt, rest, ts, dx, ot⟩, hlx, htk⟩
 dsimp only at hlx htk
 simp only [List.cons_append, List.nil_append]
 refine xg 2 [] rfl rfl ?_
 refine n_ (t_ ?_)
 first | refine g_casep 24 rfl (fun h3 => ?_) fun h3 => ?_ | refine g_caseb 24 rfl (fun h3 => ?_) fun h3 => ?_
 ·refine g_cond_t rfl (s_ ?_)
  refine g_leaf 0 s0 0 0 0 ?_
  refine o_ ?_
  refine xg 3 [3] rfl (by omega) ?_
  refine n_ (t_ (g_ret (g_then_ret ?_)))
  refine g_end_cell2 3 Try.results9 rfl rfl rfl Try.isAgg30 Try.sizeOf30 rfl ?_
  have hno : ot = none := by simpa using ‹(!ot.isSome) = true›
  subst hno
  exact fun w hS => ⟨⟨(zMT, 91), .inl ⟨rfl, .inr (.inr (.inl hlx))⟩⟩, rfl, hS.pick [0] rfl⟩
 refine g_cond_f rfl (g_skip (t_ (s_ ?_)))
 obtain ⟨ts0, hts0⟩ := Option.isSome_iff_exists.1 (show ot.isSome = true by simpa using ‹(!ot.isSome) = false›)
 obtain ⟨rfl, hlen⟩ := htk ts0 hts0
 subst hts0
 have hne : 0 < l0.length := List.length_pos_iff.2 (fun q => by subst q; exact absurd rfl ‹¬ _ = _›)
 have hpt : 0 < ts.length := (Lex_len hlx ts rfl).2 (List.length_pos_iff.1 hne)
 refine g_rowCase 1 rfl (by omega) (fun gr4 cr4 hv4 => ?_)
 cases hv4
 refine g_rowCap 1 rfl (fun hcap => ?_)
 refine o_ ?_
 refine xg 5 [0] rfl (by omega) ?_
 refine g_box rfl rfl rfl rfl (fun b3 => ?_)
 refine xg 1 [] rfl rfl ?_
 refine ntso_ ?_
 refine xg 1 [] rfl rfl ?_
 refine g_perm (.cons _ (.swap _ _ _)) ?_
 refine g_callOwn (L0 := [PEnt b3 gr4 ts 0 0 false 0 cr4, TEnt gr4 cr4 ts]) (fun x : {x : PX // RAll ts 0 0 false x.t x.k x.g x.b ∧ Pos ts x.k x.off x.c ∧ GB x.g x.b ∧ 0 ≤ x.k} => .agg (nC x.1.t).toArray) (fun x => [PEnt b3 gr4 ts x.1.k x.1.g x.1.b x.1.off x.1.c, TEnt gr4 cr4 ts, .forest [x.1.t]]) rfl rfl rfl Try.call18 (fun w hS => all_ok (ts.length + 1) b3 gr4 cr4 0 0 cr4 ts 0 false _ w trivial ⟨Nat.zero_le _, fun _ => rfl, hcap⟩ ⟨by decide, by decide, fun _ => by decide⟩ (by omega) (by omega) hS.part) ?_
 rintro ⟨⟨⟨nk, ns, nm, nx, nu, nv, nq⟩, k1, g1, b1, off1, c1⟩, hr, hpos1, hgb1, hk1⟩
 dsimp only at hr hpos1 hgb1 hk1
 simp only [List.cons_append, List.nil_append]
 refine g_kids 2 rfl (fun pv cv hv => ?_)
 cases hv
 refine g_alloc rfl rfl Try.zeroValue30 rfl (fun b4 => ?_)
 refine xg 1 [0] rfl (by omega) ?_
 refine n_ (t_ (s_ (s_ (o_ ?_))))
 refine xg 5 [1] rfl (by omega) ?_
 first | refine g_casep 38 rfl (fun h5 => ?_) fun h5 => ?_ | refine g_caseb 38 rfl (fun h5 => ?_) fun h5 => ?_
 ·refine xg 7 [] rfl rfl ?_
  refine n_ (t_ (g_cond_t rfl (s_ ?_)))
  refine g_leaf 0 s0 0 0 0 ?_
  refine o_ ?_
  refine xg 3 [6] rfl (by omega) ?_
  refine n_ (t_ (g_ret (g_then_ret ?_)))
  refine g_end_cell2 6 Try.results9 rfl rfl rfl Try.isAgg30 Try.sizeOf30 rfl ?_
  exact fun w hS => ⟨⟨(zMT, 91), .inl ⟨rfl, .inr (.inr (.inr ⟨ts, _, k1, g1, b1, hlx, hr, by first | exact .inl (by assumption) | exact .inr (by omega)⟩))⟩⟩, rfl, hS.pick [0] rfl⟩
 refine xg 7 [1,0] rfl (by omega) ?_
 refine n_ (t_ ?_)
 refine g_casep 45 rfl (fun h6 => ?_) fun h6 => ?_
 ·refine g_cond_t rfl (s_ ?_)
  refine g_leaf 0 s0 0 0 0 ?_
  refine o_ ?_
  refine xg 3 [6] rfl (by omega) ?_
  refine n_ (t_ (g_ret (g_then_ret ?_)))
  refine g_end_cell2 6 Try.results9 rfl rfl rfl Try.isAgg30 Try.sizeOf30 rfl ?_
  exact fun w hS => ⟨⟨(zMT, 91), .inl ⟨rfl, .inr (.inr (.inr ⟨ts, _, k1, g1, b1, hlx, hr, by first | exact .inl (by assumption) | exact .inr (by omega)⟩))⟩⟩, rfl, hS.pick [0] rfl⟩
 refine g_cond_f rfl (g_skip (t_ (s_ (o_ ?_))))
 refine xg 3 [0,5] rfl (by omega) ?_
 refine n_ (t_ (g_ret ?_))
 refine g_end_cell2 5 Try.results9 rfl rfl rfl Try.isAgg30 Try.sizeOf30 rfl ?_
 have hbb : b1 = false := by assumption
 subst hbb
 exact fun w hS => ⟨⟨(.mk nk ns nm nx nu _ nq, 0), .inr ⟨rfl, ts, k1, g1, hlx, List.length_pos_iff.1 hne, by omega, hr, by omega⟩⟩, rfl, hS.pick [3] rfl⟩

end Go.Proofs.Ytpoelkfncpjmfaa
