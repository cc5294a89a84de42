/- The parser: group, row, all. -/
import Derived.Test.YtpoelkfncpjmfaaPax
namespace Go.Proofs.Ytpoelkfncpjmfaa
open Go Go.RowKit

structure PX where
  t : MT
  k : Nat
  g : Int
  b : Bool
  off : Nat
  c : Nat
def GB (g : Int) (b : Bool) : Prop := 0 ≤ g ∧ g ≤ 10 ∧ (b = false → g ≤ 9)
theorem isK_lt {ts : List Tok} {k : Nat} {q : Int} (h : isK ts k q = true) : k < ts.length := by
  unfold isK at h
  split at h
  · cases h
  · rename_i t ht; exact (List.getElem?_eq_some_iff.1 ht).1
theorem isK_tok {ts : List Tok} {k : Nat} {q : Int} {t : Tok} (h : isK ts k q = true) (ht : ts[k]? = some t) : t.k = q := by
  rw [isK_of ht] at h; exact of_decide_eq_true h
def PEnt (pb gb : Nat) (ts : List Tok) (k : Nat) (g : Int) (b : Bool) (off c : Nat) : Ent := .cells pb 53 [.slice (some ⟨gb, off, none⟩) (ts.length - k) c, .int .i64 g, .bool b]
def TEnt (gb c0 : Nat) (ts : List Tok) : Ent := .row 64 7 (.slice (some ⟨gb, 0, none⟩) ts.length c0) ts.length (ts.flatMap tC)
/-- What a method of the parser promises: R tells what it does. -/
def Meth (f : FuncId) (R : List Tok → Nat → Int → Bool → MT → Nat → Int → Bool → Prop) (B : Bool → Prop) (m : Nat) : Prop :=
  ∀ (pb gb c0 k off c : Nat) (ts : List Tok) (g : Int) (b : Bool) (F : List Nat) (w : World), B b → Pos ts k off c → GB g b → ts.length ≤ 900 → ts.length - k < m → St w F [PEnt pb gb ts k g b off c, TEnt gb c0 ts] w →
    Calls Try.prog f #[.pointer (some ⟨pb, 0, none⟩)] w fun e w' => ∃ x : {x : PX // R ts k g b x.t x.k x.g x.b ∧ Pos ts x.k x.off x.c ∧ GB x.g x.b ∧ k ≤ x.k}, e = .returned (.agg (nC x.1.t).toArray) ∧ St w F [PEnt pb gb ts x.1.k x.1.g x.1.b x.1.off x.1.c, TEnt gb c0 ts, .forest [x.1.t]] w'

theorem g_rowOf {N : Nat} {R : Regs} {W0 : World} {F : List Nat} {L : List Ent} {X : Act → World → Prop} {e : TypeId} {α : Type} (f : α → List Value) {size b n : Nat} {cs : List Value} (l : List α) (i : Nat) (hi : L[i]? = some (.cells b e cs)) (hcs : cs = l.flatMap f) (hf : ∀ a, (f a).length = size) (hn : l.length = n) (hm : n ≤ maxLen)
    (h : G N R (St W0 F (L.set i (.row e size (.slice (some ⟨b, 0, none⟩) n n) n (l.flatMap f)))) X) : G N R (St W0 F L) X :=
  g_turn i hi (fun w h => by
    have h' : w.heap[b]? = some (.cells cs.toArray e (0, 0)) := h
    rw [hcs] at h'
    exact row_of_cells h' (by rw [fm_len f size hf, hn]) hm) (fun k hk => by simpa [Ent.fp, Value.ownBlock] using hk) h

set_option maxRecDepth 100000 in
theorem grp_step (m : Nat) (hall : Meth 18 RAll (fun _ => True) m) : Meth 43 (fun ts k g _ t k' g' b' => RGrp ts k g t k' g' b') (fun b => b = false) m := by
 intro pb gb c0 k off c ts g b F w hb hpos hgb hts hm hS0
 subst hb
 have hg0 := hgb.1
 have hg1 := hgb.2.1
 refine fn_intro_own Try.func43 rfl Try.ntmps43 rfl rfl hS0 ?_
 refine s_ (o_ ?_)
 refine g_alloc rfl rfl Try.zeroValue30 rfl (fun b1 => ?_)
 refine ntso_ ?_
 refine xg 7 [1] rfl (by omega) ?_
 refine g_st 1 rfl rfl rfl Try.sizeOf3 rfl rfl rfl ?_
 simp only [List.set_cons_zero, List.set_cons_succ]
 refine ntso_ ?_
 refine xg 5 [1] rfl (by omega) ?_
 refine g_alloc rfl rfl Try.zeroValue30 rfl (fun b2 => ?_)
 refine xg 1 [0] rfl (by omega) ?_
 refine n_ (t_ (s_ (s_ ?_)))
 by_cases h9 : 9 < g + 1
 ·refine o_ ?_
  refine xg 5 [2] rfl (by omega) ?_
  refine g_lit 20 false rfl (rfl) ?_
  refine xg 6 [2,0] rfl (by omega) ?_
  refine g_lit 26 true rfl (decide_eq_true h9) ?_
  refine xg 3 [] rfl rfl ?_
  refine g_st 2 rfl rfl rfl Try.sizeOf4 rfl rfl rfl ?_
  simp only [List.set_cons_zero, List.set_cons_succ]
  refine ntso_ ?_
  refine xg 4 [2] rfl (by omega) ?_
  refine g_lit 33 true rfl (rfl) ?_
  refine n_ (t_ (g_cond_t rfl (s_ ?_)))
  refine g_leaf 5 s0 0 0 (g + 1) ?_
  refine g_perm (.trans (.cons _ (.cons _ (.swap _ _ _))) (.trans (.cons _ (.swap _ _ _)) (.trans (.swap _ _ _) (.trans (.cons _ (.cons _ (.cons _ (.swap _ _ _)))) (.trans (.cons _ (.cons _ (.swap _ _ _))) (.cons _ (.swap _ _ _))))))) ?_
  refine o_ ?_
  refine xg 2 [3,4] rfl (by omega) ?_
  refine n_ (t_ (g_ret (g_then_ret ?_)))
  refine g_end_cell 4 Try.results43 rfl rfl Try.isAgg30 Try.sizeOf30 rfl ?_
  exact fun w hS => ⟨⟨⟨.mk 5 s0 0 0 (g + 1) nilS [], k, g + 1, true, off, c⟩, .full h9, hpos, ⟨by dsimp only; omega, by have := hgb.2.2 rfl; dsimp only; omega, fun h => by cases h⟩, Nat.le_refl _⟩, rfl, hS.pick [0,0,0] rfl⟩
 have hgb1 : GB (g + 1) false := ⟨by have := hgb.1; omega, by omega, fun _ => by omega⟩
 refine o_ ?_
 refine xg 5 [2] rfl (by omega) ?_
 refine g_lit 20 false rfl (rfl) ?_
 refine xg 6 [2,0] rfl (by omega) ?_
 refine g_lit 26 false rfl (decide_eq_false h9) ?_
 refine xg 3 [] rfl rfl ?_
 refine g_st 2 rfl rfl rfl Try.sizeOf4 rfl rfl rfl ?_
 simp only [List.set_cons_zero, List.set_cons_succ]
 refine ntso_ ?_
 refine xg 4 [2] rfl (by omega) ?_
 refine g_lit 33 false rfl (rfl) ?_
 refine n_ (t_ (g_cond_f rfl (g_skip (t_ (s_ (o_ ?_))))))
 refine xg 1 [] rfl rfl ?_
 refine g_perm (.trans (.cons _ (.swap _ _ _)) (.trans (.swap _ _ _) (.trans (.cons _ (.cons _ (.swap _ _ _))) (.cons _ (.swap _ _ _))))) ?_
 refine g_callOwn (L0 := [.cells pb 53 [.slice (some ⟨gb, off, none⟩) (ts.length - k) c, .int .i64 (g + 1), .bool false], .row 64 7 (.slice (some ⟨gb, 0, none⟩) ts.length c0) ts.length (ts.flatMap tC)]) (fun x : {x : PX // RAll ts k (g + 1) false x.t x.k x.g x.b ∧ Pos ts x.k x.off x.c ∧ GB x.g x.b ∧ k ≤ x.k} => .agg (nC x.1.t).toArray) (fun x => [PEnt pb gb ts x.1.k x.1.g x.1.b x.1.off x.1.c, TEnt gb c0 ts, .forest [x.1.t]]) rfl rfl rfl Try.call18 (fun w hS => hall pb gb c0 k off c ts (g + 1) false _ w (by first | trivial | rfl) hpos hgb1 hts (by omega) hS.part) ?_
 rintro ⟨⟨⟨nk_a, ns_a, nm_a, nx_a, nu_a, nv_a, nq_a⟩, k_a, g_a, b_a, off_a, c_a⟩, hr_a, hpos_a, hgb_a, hk_a⟩
 dsimp only at hr_a hpos_a hgb_a hk_a
 simp only [List.cons_append, List.nil_append]
 refine g_kids 2 rfl (fun pv_a cv_a hv_a => ?_)
 cases hv_a
 refine g_buildSlice (offs := [0]) rfl rfl Try.underlying28 rfl Try.zeroValue30 (by kernel_rfl) (fun b3 => ?_)
 refine xg 1 [] rfl rfl ?_
 refine g_st 4 rfl rfl rfl Try.sizeOf28 rfl rfl rfl ?_
 simp only [List.set_cons_zero, List.set_cons_succ]
 refine g_rowOf (n := 1) nC [(.mk nk_a ns_a nm_a nx_a nu_a (.slice pv_a nq_a.length cv_a) nq_a)] 0 rfl rfl nC_len rfl (by decide) ?_
 simp only [List.set_cons_zero]
 refine g_perm (.trans (.cons _ (.cons _ (.swap _ _ _))) (.cons _ (.swap _ _ _))) ?_
 refine g_node 5 s0 0 0 (g + 1) rfl ?_
 refine n_ (t_ (s_ (s_ (o_ ?_))))
 refine xg 1 [] rfl rfl ?_
 refine g_perm (.trans (.swap _ _ _) (.cons _ (.swap _ _ _))) ?_
 refine g_callOwn (L0 := [.cells pb 53 [.slice (some ⟨gb, off_a, none⟩) (ts.length - k_a) c_a, .int .i64 g_a, .bool b_a], .row 64 7 (.slice (some ⟨gb, 0, none⟩) ts.length c0) ts.length (ts.flatMap tC)]) (fun _ : Unit => .bool (isK ts k_a 2)) (fun _ => [.cells pb 53 [.slice (some ⟨gb, off_a, none⟩) (ts.length - k_a) c_a, .int .i64 g_a, .bool b_a], .row 64 7 (.slice (some ⟨gb, 0, none⟩) ts.length c0) ts.length (ts.flatMap tC)]) rfl rfl rfl Try.call31 (fun w hS => is_any pb gb c0 k_a off_a c_a ts _ _ 2 _ w hpos_a hS.part) (fun _ => ?_)
 simp only [List.cons_append, List.nil_append]
 refine xg 1 [] rfl rfl ?_
 refine n_ (t_ ?_)
 first | refine g_casep 41 rfl (fun h1 => ?_) fun h1 => ?_ | refine g_caseb 41 rfl (fun h1 => ?_) fun h1 => ?_
 ·refine g_cond_t rfl (s_ (o_ ?_))
  refine xg 3 [] rfl rfl ?_
  refine g_st 0 rfl rfl rfl Try.sizeOf4 rfl rfl rfl ?_
  simp only [List.set_cons_zero]
  refine ntso_ ?_
  refine xg 2 [3,4] rfl (by omega) ?_
  refine n_ (t_ (g_ret (g_then_ret ?_)))
  refine g_end_cell 4 Try.results43 rfl rfl Try.isAgg30 Try.sizeOf30 rfl ?_
  exact fun w hS => ⟨⟨⟨.mk 5 s0 0 0 (g + 1) _ [(.mk nk_a ns_a nm_a nx_a nu_a (.slice pv_a nq_a.length cv_a) nq_a)], k_a, g_a, true, off_a, c_a⟩, .gone (by omega) hr_a (by simpa using ‹(!isK ts k_a 2) = true›), hpos_a, ⟨hgb_a.1, hgb_a.2.1, fun h => by cases h⟩, hk_a⟩, rfl, hS.pick [0,0,0] rfl⟩
 refine g_cond_f rfl (g_skip (t_ (s_ ?_)))
 have hk2 : isK ts k_a 2 = true := by simpa using ‹(!isK ts k_a 2) = false›
 refine o_ ?_
 refine xg 1 [] rfl rfl ?_
 refine g_callOwn (L0 := [.cells pb 53 [.slice (some ⟨gb, off_a, none⟩) (ts.length - k_a) c_a, .int .i64 g_a, .bool b_a], .row 64 7 (.slice (some ⟨gb, 0, none⟩) ts.length c0) ts.length (ts.flatMap tC)]) (fun x : {x : Tok × Nat × Nat // ts[k_a]? = some x.1 ∧ Pos ts (k_a + 1) x.2.1 x.2.2} => .agg (tC x.1.1).toArray) (fun x => [.cells pb 53 [.slice (some ⟨gb, x.1.2.1, none⟩) (ts.length - (k_a + 1)) x.1.2.2, .int .i64 g_a, .bool b_a], .row 64 7 (.slice (some ⟨gb, 0, none⟩) ts.length c0) ts.length (ts.flatMap tC)]) rfl rfl rfl Try.call32 (fun w hS => take_any pb gb c0 k_a off_a c_a ts _ _ (by first | omega | exact isK_lt (by assumption)) _ w hpos_a hS.part) ?_
 rintro ⟨⟨t_t, off_t, c_t⟩, ht_t, hpos_t⟩
 dsimp only at ht_t hpos_t
 simp only [List.cons_append, List.nil_append]
 refine ntso_ ?_
 refine xg 2 [3,4] rfl (by omega) ?_
 refine n_ (t_ (g_ret ?_))
 refine g_end_cell 4 Try.results43 rfl rfl Try.isAgg30 Try.sizeOf30 rfl ?_
 exact fun w hS => ⟨⟨⟨.mk 5 s0 0 0 (g + 1) _ [(.mk nk_a ns_a nm_a nx_a nu_a (.slice pv_a nq_a.length cv_a) nq_a)], k_a + 1, g_a, b_a, off_t, c_t⟩, .shut (by omega) hr_a hk2, hpos_t, hgb_a, by dsimp only; omega⟩, rfl, hS.pick [0,0,0] rfl⟩

end Go.Proofs.Ytpoelkfncpjmfaa
