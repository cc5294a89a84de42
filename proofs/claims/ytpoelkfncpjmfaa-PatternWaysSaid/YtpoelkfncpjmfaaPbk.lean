/- The lexer: anchors, what is escaped. -/
import Derived.Test.YtpoelkfncpjmfaaPbj
namespace Go.Proofs.Ytpoelkfncpjmfaa
open Go Go.RowKit

def anchT (ext : Bool) (c : UInt8) (l : List UInt8) (ts : List Tok) (d : Int) : Bool := ext || (if (c.toNat : Int) = 94 then startsT ts else (l.isEmpty || (decide (0 < d) && Lib.hasPrefix l [92, 41])))
def knL (ext : Bool) : List UInt8 := if ext = true then [46, 91, 93, 92, 42, 94, 36, 47, 40, 41, 124, 43, 63, 123, 125] else [46, 91, 93, 92, 42, 94, 36, 47]
def isKn (ext : Bool) (c : UInt8) : Prop := 0 ≤ Lib.indexByte (knL ext) c
/-- What a backslash is followed by: what is left, the tokens, how deep; whether it is something. -/
inductive EscR (ext : Bool) : List UInt8 → List Tok → Int → List UInt8 → List Tok → Int → Bool → Prop
  | nil {ts : List Tok} {d : Int} {r : List UInt8} {ts' : List Tok} {d' : Int} : EscR ext [] ts d r ts' d' false
  | nl {c : UInt8} {l : List UInt8} {ts : List Tok} {d : Int} (h : (c.toNat : Int) = 110) : EscR ext (c :: l) ts d l (ts ++ [litT 10]) d true
  | known {c : UInt8} {l : List UInt8} {ts : List Tok} {d : Int} (h : ¬ (c.toNat : Int) = 110) (hk : isKn ext c) : EscR ext (c :: l) ts d l (ts ++ [litT c]) d true
  | unknown {c : UInt8} {l : List UInt8} {ts : List Tok} {d : Int} {r : List UInt8} {ts' : List Tok} {d' : Int} (he : ext = true) (h : ¬ (c.toNat : Int) = 110) (hk : ¬ isKn ext c) : EscR ext (c :: l) ts d r ts' d' false
  | opens {c : UInt8} {l : List UInt8} {ts : List Tok} {d : Int} (he : ext = false) (h : (c.toNat : Int) = 40) : EscR ext (c :: l) ts d l (ts ++ [kT 1]) (d + 1) true
  | shuts {c : UInt8} {l : List UInt8} {ts : List Tok} {d : Int} (he : ext = false) (h : (c.toNat : Int) = 41) : EscR ext (c :: l) ts d l (ts ++ [kT 2]) (d - 1) true
  | iv {c : UInt8} {l : List UInt8} {ts : List Tok} {d : Int} {t : Tok} {r : List UInt8} {ok : Bool} (he : ext = false) (h : (c.toNat : Int) = 123) (hs : startsT ts = false) (hi : IvR [92, 125] l t r ok) : EscR ext (c :: l) ts d r (ts ++ [t]) d ok
  | ivs {c : UInt8} {l : List UInt8} {ts : List Tok} {d : Int} {r : List UInt8} {ts' : List Tok} {d' : Int} (he : ext = false) (h : (c.toNat : Int) = 123) (hs : startsT ts = true) : EscR ext (c :: l) ts d r ts' d' false
  | other {c : UInt8} {l : List UInt8} {ts : List Tok} {d : Int} {r : List UInt8} {ts' : List Tok} {d' : Int} (he : ext = false) (h : ¬ (c.toNat : Int) = 110) (hk : ¬ isKn ext c) (h1 : ¬ (c.toNat : Int) = 40) (h2 : ¬ (c.toNat : Int) = 41) (h3 : ¬ (c.toNat : Int) = 123) : EscR ext (c :: l) ts d r ts' d' false
theorem indexByte8 (s : List UInt8) (c : UInt8) (w : World) : Calls Try.prog 33 #[.string ⟨s.toArray⟩, .int .u8 (c.toNat : Int)] w fun e w' => e = .returned (.int .i64 (Lib.indexByte s c)) ∧ Below w.heap.size w w' :=
  (Try.strings_IndexByte ⟨s.toArray⟩ (c.toNat : Int) w).mono fun e w' ⟨he, hw⟩ => ⟨by rw [he]; simp, hw ▸ Below.refl _ _⟩

set_option maxRecDepth 100000 in
theorem anchored_any (b : Nat) (ext : Bool) (l : List UInt8) (d : Int) (v : Value) (ts : List Tok) (c : UInt8) (F : List Nat) (w : World) (hl : l.length ≤ 1000) (hts : ts.length ≤ 900) (hd : -1000 ≤ d ∧ d ≤ 1000) (hS0 : St w F [.cells b 50 [st8 l, .bool ext, v, .int .i64 d], .row 64 7 v ts.length (ts.flatMap tC)] w) :
    Calls Try.prog 25 #[.pointer (some ⟨b, 0, none⟩), .int .u8 (c.toNat : Int)] w fun e w' => ∃ _ : Unit, e = .returned (.bool (anchT ext c l ts d)) ∧ St w F [.cells b 50 [st8 l, .bool ext, v, .int .i64 d], .row 64 7 v ts.length (ts.flatMap tC)] w' := by
 refine fn_intro_own Try.func25 rfl Try.ntmps25 rfl rfl hS0 ?_
 refine s_ (o_ ?_)
 refine xg 1 [] rfl rfl ?_
 refine n_ (t_ (s_ (s_ (o_ ?_))))
 refine xg 4 [0] rfl (by omega) ?_
 refine n_ (t_ ?_)
 first | refine g_casep 8 rfl (fun h1 => ?_) fun h1 => ?_ | refine g_caseb 8 rfl (fun h1 => ?_) fun h1 => ?_
 ·refine g_cond_t rfl (s_ (o_ ?_))
  refine xg 1 [] rfl rfl ?_
  refine n_ (t_ (g_ret (g_then_ret ?_)))
  refine g_end1 Try.results25 rfl ?_
  exact fun w hS => ⟨(), ret_bool (by unfold anchT; simp_all <;> (intros; omega)), hS.pick [0,0] rfl⟩
 refine g_cond_f rfl (g_skip (t_ (s_ (s_ (o_ ?_)))))
 refine xg 2 [0] rfl rfl ?_
 refine n_ (t_ ?_)
 refine g_casep 10 rfl (fun h2 => ?_) fun h2 => ?_
 ·refine g_cond_t rfl (s_ (o_ ?_))
  refine xg 1 [] rfl rfl ?_
  refine g_callAll (fun _ : Unit => .bool (startsT ts)) (fun _ => [.cells b 50 [st8 l, (.bool ext), v, (.int .i64 d)], .row 64 7 v ts.length (ts.flatMap tC)]) rfl rfl rfl Try.call26 (fun w F' hS => starts_any b (st8 l) (.bool ext) (.int .i64 d) v ts F' w (by omega) hS) ?_
  intro _
  try dsimp only
  refine xg 1 [] rfl rfl ?_
  refine n_ (t_ (g_ret (g_then_ret ?_)))
  refine g_end1 Try.results25 rfl ?_
  exact fun w hS => ⟨(), ret_bool (by unfold anchT; simp_all <;> (intros; omega)), hS.pick [0,0] rfl⟩
 refine g_cond_f rfl (g_skip (t_ (s_ ?_)))
 rcases l with _ | ⟨c1, l⟩
 ·refine o_ ?_
  refine xg 5 [0] rfl (by omega) ?_
  refine g_lit 17 true rfl (decide_eq_true rfl) ?_
  refine xg 15 [] rfl rfl ?_
  refine n_ (t_ (g_ret ?_))
  refine g_end1 Try.results25 rfl ?_
  exact fun w hS => ⟨(), ret_bool (by unfold anchT; simp_all <;> (intros; omega)), hS.pick [0,0] rfl⟩
 refine o_ ?_
 refine xg 5 [0] rfl (by omega) ?_
 refine g_lit 17 false rfl (decide_eq_false (st8_nil c1 l)) ?_
 refine xg 7 [0,0] rfl (by omega) ?_
 refine g_casep 24 rfl (fun h3 => ?_) fun h3 => ?_
 ·refine xg 4 [0] rfl (by omega) ?_
  refine g_call1 rfl rfl rfl Try.call35 (fun w hS => hasPrefix8 (c1 :: l) [92, 41] w) ?_
  refine xg 3 [] rfl rfl ?_
  refine n_ (t_ (g_ret ?_))
  refine g_end1 Try.results25 rfl ?_
  exact fun w hS => ⟨(), ret_bool (by unfold anchT; simp_all <;> (intros; omega)), hS.pick [0,0] rfl⟩
 refine xg 8 [] rfl rfl ?_
 refine n_ (t_ (g_ret ?_))
 refine g_end1 Try.results25 rfl ?_
 exact fun w hS => ⟨(), ret_bool (by unfold anchT; simp_all <;> (intros; omega)), hS.pick [0,0] rfl⟩

set_option maxRecDepth 100000 in
theorem escaped_any (b : Nat) (ext : Bool) (l : List UInt8) (d : Int) (v : Value) (ts : List Tok) (F : List Nat) (w : World) (hl : l.length ≤ 1000) (hts : ts.length ≤ 900) (hd : -1000 ≤ d ∧ d ≤ 1000) (hS0 : St w F [.cells b 50 [st8 l, .bool ext, v, .int .i64 d], .row 64 7 v ts.length (ts.flatMap tC)] w) :
    Calls Try.prog 21 #[.pointer (some ⟨b, 0, none⟩)] w fun e w' => ∃ x : {x : List UInt8 × List Tok × Int × Bool × Value // EscR ext l ts d x.1 x.2.1 x.2.2.1 x.2.2.2.1}, e = .returned (.bool x.1.2.2.2.1) ∧ St w F [.cells b 50 [st8 x.1.1, .bool ext, x.1.2.2.2.2, .int .i64 x.1.2.2.1], .row 64 7 x.1.2.2.2.2 x.1.2.1.length (x.1.2.1.flatMap tC)] w' := by
 refine fn_intro_own Try.func21 rfl Try.ntmps21 rfl rfl hS0 ?_
 refine s_ (o_ ?_)
 refine xg 1 [] rfl rfl ?_
 refine n_ (t_ (s_ (s_ ?_)))
 rcases l with _ | ⟨c, l⟩ <;> cases ext
 ·refine o_ ?_
  refine xg 5 [0] rfl (by omega) ?_
  refine g_lit 9 true rfl (decide_eq_true rfl) ?_
  refine n_ (t_ (g_cond_t rfl (s_ (o_ ?_))))
  refine xg 1 [] rfl rfl ?_
  refine n_ (t_ (g_ret (g_then_ret ?_)))
  refine g_end1 Try.results21 rfl ?_
  exact fun w hS => ⟨⟨(([] : List UInt8), ts, d, _, v), .nil⟩, rfl, hS.pick [0,0] rfl⟩
 ·refine o_ ?_
  refine xg 5 [0] rfl (by omega) ?_
  refine g_lit 9 true rfl (decide_eq_true rfl) ?_
  refine n_ (t_ (g_cond_t rfl (s_ (o_ ?_))))
  refine xg 1 [] rfl rfl ?_
  refine n_ (t_ (g_ret (g_then_ret ?_)))
  refine g_end1 Try.results21 rfl ?_
  exact fun w hS => ⟨⟨(([] : List UInt8), ts, d, _, v), .nil⟩, rfl, hS.pick [0,0] rfl⟩
 ·have hcl := c.toNat_lt
  have hl1 : (c :: l).length = l.length + 1 := rfl
  refine o_ ?_
  refine xg 5 [0] rfl (by omega) ?_
  refine g_lit 9 false rfl (decide_eq_false (st8_nil c l)) ?_
  refine n_ (t_ (g_cond_f rfl (g_skip (t_ (s_ (o_ ?_))))))
  refine xg 4 [0] rfl (by omega) ?_
  refine g_val (v := .int .u8 (c.toNat : Int)) rfl rfl rfl (y_sidx (i := 0) rfl rfl Try.underlying9 (st8_0 c l)) ?_
  refine xg 1 [] rfl rfl ?_
  refine ntso_ ?_
  refine xg 5 [0] rfl (by omega) ?_
  refine g_val (v := st8 l) rfl rfl rfl (y_val (y_sfrom (l := 1) rfl rfl Try.underlying9 (by show 1 ≤ (c :: l).toArray.size; simp)) (by rw [st8_1]; rfl)) ?_
  refine xg 3 [0] rfl (by omega) ?_
  refine ntso_ ?_
  refine g_val (v := .string ⟨([46, 91, 93, 92, 42, 94, 36, 47] : List UInt8).toArray⟩) rfl rfl rfl (y_assign rfl) ?_
  refine n_ (t_ (s_ (s_ (o_ ?_))))
  refine xg 3 [] rfl rfl ?_
  refine g_val rfl rfl rfl (y_ld 0 rfl Try.isAgg4 rfl rfl) ?_
  refine n_ (t_ (g_cond_f rfl (g_skip (t_ (s_ (g_block (s_ (o_ ?_))))))))
  refine xg 3 [0] rfl rfl ?_
  refine n_ (t_ ?_)
  refine g_casep 29 rfl (fun h1 => ?_) fun h1 => ?_
  ·refine g_cond_t rfl (o_ ?_)
   refine xg 1 [] rfl rfl ?_
   refine g_callAll (fun _ : Value => .tuple #[]) (fun v' => [.cells b 50 [st8 l, (.bool false), v', (.int .i64 d)], .row 64 7 v' (ts ++ [litT (10 : UInt8)]).length ((ts ++ [litT (10 : UInt8)]).flatMap tC)]) rfl rfl rfl Try.call28 (fun w F' hS => literal_any b (st8 l) (.bool false) (.int .i64 d) v ts (10 : UInt8) F' w (by omega) hS) ?_
   intro vq
   try dsimp only
   refine n_ (g_in_normal (t_ (s_ (o_ ?_))))
   refine xg 1 [] rfl rfl ?_
   refine n_ (t_ (g_ret ?_))
   refine g_end1 Try.results21 rfl ?_
   exact fun w hS => ⟨⟨(l, (ts ++ [litT (10 : UInt8)]), d, _, vq), .nl (by assumption)⟩, rfl, hS.pick [0,0] rfl⟩
  refine g_cond_f rfl (s_ (o_ ?_))
  refine xg 2 [] rfl rfl ?_
  refine g_call1 rfl rfl rfl Try.call33 (fun w hS => indexByte8 [46, 91, 93, 92, 42, 94, 36, 47] c w) ?_
  refine xg 2 [0] rfl rfl ?_
  refine n_ (t_ ?_)
  refine g_casep 34 rfl (fun h2 => ?_) fun h2 => ?_
  ·refine g_cond_t rfl (o_ ?_)
   refine xg 2 [] rfl rfl ?_
   refine g_callAll (fun _ : Value => .tuple #[]) (fun v' => [.cells b 50 [st8 l, (.bool false), v', (.int .i64 d)], .row 64 7 v' (ts ++ [litT c]).length ((ts ++ [litT c]).flatMap tC)]) rfl rfl rfl Try.call28 (fun w F' hS => literal_any b (st8 l) (.bool false) (.int .i64 d) v ts c F' w (by omega) hS) ?_
   intro vq
   try dsimp only
   refine n_ (g_in_normal (t_ (s_ (o_ ?_))))
   refine xg 1 [] rfl rfl ?_
   refine n_ (t_ (g_ret ?_))
   refine g_end1 Try.results21 rfl ?_
   exact fun w hS => ⟨⟨(l, (ts ++ [litT c]), d, _, vq), .known (by assumption) (by show (0 ≤ Lib.indexByte [46, 91, 93, 92, 42, 94, 36, 47] c); omega)⟩, rfl, hS.pick [0,0] rfl⟩
  refine g_cond_f rfl (s_ (o_ ?_))
  refine xg 3 [] rfl rfl ?_
  refine g_val rfl rfl rfl (y_ld 0 rfl Try.isAgg4 rfl rfl) ?_
  refine xg 1 [] rfl rfl ?_
  refine n_ (t_ (g_cond_f rfl (s_ (o_ ?_))))
  refine xg 3 [0] rfl rfl ?_
  refine n_ (t_ ?_)
  refine g_casep 47 rfl (fun h3 => ?_) fun h3 => ?_
  ·refine g_cond_t rfl (s_ (o_ ?_))
   refine xg 4 [0] rfl (by omega) ?_
   refine g_val rfl rfl rfl (y_addi rfl rfl (by omega)) ?_
   refine xg 3 [0] rfl (by omega) ?_
   refine nto_ ?_
   refine xg 1 [] rfl rfl ?_
   refine g_val (v := .agg (tC (kT 1)).toArray) rfl rfl rfl (y_val (y_build (offs := [0]) rfl Try.zeroValue64 (by kernel_rfl)) rfl) ?_
   refine g_callAll (fun _ : Value => .tuple #[]) (fun v' => [.cells b 50 [st8 l, (.bool false), v', (.int .i64 (d + 1))], .row 64 7 v' (ts ++ [(kT 1)]).length ((ts ++ [(kT 1)]).flatMap tC)]) rfl rfl rfl Try.call23 (fun w F' hS => put_any b (st8 l) (.bool false) (.int .i64 (d + 1)) v ts (kT 1) F' w (by omega) hS) ?_
   intro vq
   try dsimp only
   refine n_ (g_in_normal (t_ (s_ (o_ ?_))))
   refine xg 1 [] rfl rfl ?_
   refine n_ (t_ (g_ret ?_))
   refine g_end1 Try.results21 rfl ?_
   exact fun w hS => ⟨⟨(l, (ts ++ [(kT 1)]), (d + 1), _, vq), .opens rfl (by assumption)⟩, rfl, hS.pick [0,0] rfl⟩
  refine g_cond_f rfl (s_ (o_ ?_))
  refine xg 3 [0] rfl rfl ?_
  refine n_ (t_ ?_)
  refine g_casep 60 rfl (fun h4 => ?_) fun h4 => ?_
  ·refine g_cond_t rfl (s_ (o_ ?_))
   refine xg 4 [0] rfl (by omega) ?_
   refine g_val rfl rfl rfl (y_subi rfl rfl (by omega)) ?_
   refine xg 3 [0] rfl (by omega) ?_
   refine nto_ ?_
   refine xg 1 [] rfl rfl ?_
   refine g_val (v := .agg (tC (kT 2)).toArray) rfl rfl rfl (y_val (y_build (offs := [0]) rfl Try.zeroValue64 (by kernel_rfl)) rfl) ?_
   refine g_callAll (fun _ : Value => .tuple #[]) (fun v' => [.cells b 50 [st8 l, (.bool false), v', (.int .i64 (d - 1))], .row 64 7 v' (ts ++ [(kT 2)]).length ((ts ++ [(kT 2)]).flatMap tC)]) rfl rfl rfl Try.call23 (fun w F' hS => put_any b (st8 l) (.bool false) (.int .i64 (d - 1)) v ts (kT 2) F' w (by omega) hS) ?_
   intro vq
   try dsimp only
   refine n_ (g_in_normal (t_ (s_ (o_ ?_))))
   refine xg 1 [] rfl rfl ?_
   refine n_ (t_ (g_ret ?_))
   refine g_end1 Try.results21 rfl ?_
   exact fun w hS => ⟨⟨(l, (ts ++ [(kT 2)]), (d - 1), _, vq), .shuts rfl (by assumption)⟩, rfl, hS.pick [0,0] rfl⟩
  refine g_cond_f rfl (s_ (o_ ?_))
  refine xg 3 [0] rfl rfl ?_
  refine n_ (t_ ?_)
  refine g_casep 73 rfl (fun h5 => ?_) fun h5 => ?_
  ·refine g_cond_t rfl (s_ (o_ ?_))
   refine xg 1 [] rfl rfl ?_
   refine g_callAll (fun _ : Unit => .bool (startsT ts)) (fun _ => [.cells b 50 [st8 l, (.bool false), v, (.int .i64 d)], .row 64 7 v ts.length (ts.flatMap tC)]) rfl rfl rfl Try.call26 (fun w F' hS => starts_any b (st8 l) (.bool false) (.int .i64 d) v ts F' w (by omega) hS) ?_
   intro _
   try dsimp only
   refine xg 2 [] rfl rfl ?_
   first | refine g_casep 79 rfl (fun h6 => ?_) fun h6 => ?_ | refine g_caseb 79 rfl (fun h6 => ?_) fun h6 => ?_
   ·refine xg 1 [] rfl rfl ?_
    refine g_callAll (fun x : {x : Tok × List UInt8 × Bool × Value // IvR [92, 125] l x.1 x.2.1 x.2.2.1} => .bool x.1.2.2.1) (fun x => [.cells b 50 [st8 x.1.2.1, (.bool false), x.1.2.2.2, (.int .i64 d)], .row 64 7 x.1.2.2.2 (ts ++ [x.1.1]).length ((ts ++ [x.1.1]).flatMap tC)]) rfl rfl rfl Try.call29 (fun w F' hS => interval_any b l (.bool false) (.int .i64 d) v ts [92, 125] F' w (by omega) (by omega) hS) ?_
    rintro ⟨⟨t, r, ok, vi⟩, hiv⟩
    try dsimp only
    dsimp only at hiv
    refine xg 2 [] rfl rfl ?_
    refine n_ (t_ (g_ret (g_in_ret (g_then_ret ?_))))
    refine g_end1 Try.results21 rfl ?_
    exact fun w hS => ⟨⟨(r, (ts ++ [t]), d, _, vi), .iv rfl (by assumption) (by simp_all) hiv⟩, rfl, hS.pick [0,0] rfl⟩
   refine xg 4 [] rfl rfl ?_
   refine n_ (t_ (g_ret (g_in_ret (g_then_ret ?_))))
   refine g_end1 Try.results21 rfl ?_
   exact fun w hS => ⟨⟨(l, ts, d, _, v), .ivs rfl (by assumption) (by simp_all)⟩, rfl, hS.pick [0,0] rfl⟩
  refine g_cond_f rfl (s_ (o_ ?_))
  refine xg 1 [] rfl rfl ?_
  refine n_ (t_ (g_ret (g_in_ret (g_then_ret ?_))))
  refine g_end1 Try.results21 rfl ?_
  exact fun w hS => ⟨⟨(l, ts, d, _, v), .other rfl (by assumption) (by show ¬ (0 ≤ Lib.indexByte [46, 91, 93, 92, 42, 94, 36, 47] c); omega) (by assumption) (by assumption) (by assumption)⟩, rfl, hS.pick [0,0] rfl⟩
 have hcl := c.toNat_lt
 have hl1 : (c :: l).length = l.length + 1 := rfl
 refine o_ ?_
 refine xg 5 [0] rfl (by omega) ?_
 refine g_lit 9 false rfl (decide_eq_false (st8_nil c l)) ?_
 refine n_ (t_ (g_cond_f rfl (g_skip (t_ (s_ (o_ ?_))))))
 refine xg 4 [0] rfl (by omega) ?_
 refine g_val (v := .int .u8 (c.toNat : Int)) rfl rfl rfl (y_sidx (i := 0) rfl rfl Try.underlying9 (st8_0 c l)) ?_
 refine xg 1 [] rfl rfl ?_
 refine ntso_ ?_
 refine xg 5 [0] rfl (by omega) ?_
 refine g_val (v := st8 l) rfl rfl rfl (y_val (y_sfrom (l := 1) rfl rfl Try.underlying9 (by show 1 ≤ (c :: l).toArray.size; simp)) (by rw [st8_1]; rfl)) ?_
 refine xg 3 [0] rfl (by omega) ?_
 refine ntso_ ?_
 refine g_val (v := .string ⟨([46, 91, 93, 92, 42, 94, 36, 47] : List UInt8).toArray⟩) rfl rfl rfl (y_assign rfl) ?_
 refine n_ (t_ (s_ (s_ (o_ ?_))))
 refine xg 3 [] rfl rfl ?_
 refine g_val rfl rfl rfl (y_ld 0 rfl Try.isAgg4 rfl rfl) ?_
 refine n_ (t_ (g_cond_t rfl (o_ ?_)))
 refine xg 1 [] rfl rfl ?_
 refine g_val (v := .string ⟨([46, 91, 93, 92, 42, 94, 36, 47, 40, 41, 124, 43, 63, 123, 125] : List UInt8).toArray⟩) rfl rfl rfl (y_val (y_scat rfl rfl (by decide)) (by kernel_rfl)) ?_
 refine xg 1 [] rfl rfl ?_
 refine n_ (t_ (s_ (g_block (s_ (o_ ?_)))))
 refine xg 3 [0] rfl rfl ?_
 refine n_ (t_ ?_)
 refine g_casep 29 rfl (fun h7 => ?_) fun h7 => ?_
 ·refine g_cond_t rfl (o_ ?_)
  refine xg 1 [] rfl rfl ?_
  refine g_callAll (fun _ : Value => .tuple #[]) (fun v' => [.cells b 50 [st8 l, (.bool true), v', (.int .i64 d)], .row 64 7 v' (ts ++ [litT (10 : UInt8)]).length ((ts ++ [litT (10 : UInt8)]).flatMap tC)]) rfl rfl rfl Try.call28 (fun w F' hS => literal_any b (st8 l) (.bool true) (.int .i64 d) v ts (10 : UInt8) F' w (by omega) hS) ?_
  intro vq
  try dsimp only
  refine n_ (g_in_normal (t_ (s_ (o_ ?_))))
  refine xg 1 [] rfl rfl ?_
  refine n_ (t_ (g_ret ?_))
  refine g_end1 Try.results21 rfl ?_
  exact fun w hS => ⟨⟨(l, (ts ++ [litT (10 : UInt8)]), d, _, vq), .nl (by assumption)⟩, rfl, hS.pick [0,0] rfl⟩
 refine g_cond_f rfl (s_ (o_ ?_))
 refine xg 2 [] rfl rfl ?_
 refine g_call1 rfl rfl rfl Try.call33 (fun w hS => indexByte8 [46, 91, 93, 92, 42, 94, 36, 47, 40, 41, 124, 43, 63, 123, 125] c w) ?_
 refine xg 2 [0] rfl rfl ?_
 refine n_ (t_ ?_)
 refine g_casep 34 rfl (fun h8 => ?_) fun h8 => ?_
 ·refine g_cond_t rfl (o_ ?_)
  refine xg 2 [] rfl rfl ?_
  refine g_callAll (fun _ : Value => .tuple #[]) (fun v' => [.cells b 50 [st8 l, (.bool true), v', (.int .i64 d)], .row 64 7 v' (ts ++ [litT c]).length ((ts ++ [litT c]).flatMap tC)]) rfl rfl rfl Try.call28 (fun w F' hS => literal_any b (st8 l) (.bool true) (.int .i64 d) v ts c F' w (by omega) hS) ?_
  intro vq
  try dsimp only
  refine n_ (g_in_normal (t_ (s_ (o_ ?_))))
  refine xg 1 [] rfl rfl ?_
  refine n_ (t_ (g_ret ?_))
  refine g_end1 Try.results21 rfl ?_
  exact fun w hS => ⟨⟨(l, (ts ++ [litT c]), d, _, vq), .known (by assumption) (by show (0 ≤ Lib.indexByte [46, 91, 93, 92, 42, 94, 36, 47, 40, 41, 124, 43, 63, 123, 125] c); omega)⟩, rfl, hS.pick [0,0] rfl⟩
 refine g_cond_f rfl (s_ (o_ ?_))
 refine xg 3 [] rfl rfl ?_
 refine g_val rfl rfl rfl (y_ld 0 rfl Try.isAgg4 rfl rfl) ?_
 refine xg 1 [] rfl rfl ?_
 refine n_ (t_ (g_cond_t rfl (s_ (o_ ?_))))
 refine xg 1 [] rfl rfl ?_
 refine n_ (t_ (g_ret (g_in_ret (g_then_ret ?_))))
 refine g_end1 Try.results21 rfl ?_
 exact fun w hS => ⟨⟨(l, ts, d, _, v), .unknown rfl (by assumption) (by show ¬ (0 ≤ Lib.indexByte [46, 91, 93, 92, 42, 94, 36, 47, 40, 41, 124, 43, 63, 123, 125] c); omega)⟩, rfl, hS.pick [0,0] rfl⟩

end Go.Proofs.Ytpoelkfncpjmfaa
