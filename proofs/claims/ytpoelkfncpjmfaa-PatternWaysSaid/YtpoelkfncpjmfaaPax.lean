/- The parser: what it does; is, take. -/
import Derived.Test.YtpoelkfncpjmfaaPaw
import Derived.Test.YtpoelkfncpjmfaaN
namespace Go.Proofs.Ytpoelkfncpjmfaa
open Go Go.RowKit

def isK (ts : List Tok) (k : Nat) (q : Int) : Bool := match ts[k]? with
  | none => false
  | some t => decide (t.k = q)
abbrev nilS : Value := .slice none 0 0
mutual
inductive RAll (ts : List Tok) : Nat → Int → Bool → MT → Nat → Int → Bool → Prop
  | one {k g b t k1 g1 b1 r k2 g2 b2} : RRow ts k g b t k1 g1 b1 → RBars ts k1 g1 b1 [t] [r] k2 g2 b2 → RAll ts k g b r k2 g2 b2
  | many {k g b t k1 g1 b1 rows v k2 g2 b2} : RRow ts k g b t k1 g1 b1 → RBars ts k1 g1 b1 [t] rows k2 g2 b2 → rows.length ≠ 1 → RAll ts k g b (.mk 3 s0 0 0 0 v rows) k2 g2 b2
inductive RBars (ts : List Tok) : Nat → Int → Bool → List MT → List MT → Nat → Int → Bool → Prop
  | stop {k g b rows} : (b = true ∨ isK ts k 3 = false) → RBars ts k g b rows rows k g b
  | more {k g t k1 g1 b1 rows rows' k2 g2 b2} : isK ts k 3 = true → RRow ts (k + 1) g false t k1 g1 b1 → RBars ts k1 g1 b1 (rows ++ [t]) rows' k2 g2 b2 → RBars ts k g false rows rows' k2 g2 b2
inductive RRow (ts : List Tok) : Nat → Int → Bool → MT → Nat → Int → Bool → Prop
  | one {k g b t k1 g1 b1} : RPcs ts k g b [] [t] k1 g1 b1 → RRow ts k g b t k1 g1 b1
  | many {k g b ms v k1 g1 b1} : RPcs ts k g b [] ms k1 g1 b1 → ms.length ≠ 1 → RRow ts k g b (.mk 2 s0 0 0 0 v ms) k1 g1 (b1 || decide (ms.length = 0))
inductive RPcs (ts : List Tok) : Nat → Int → Bool → List MT → List MT → Nat → Int → Bool → Prop
  | stop {k g b ms} : (ts.length ≤ k ∨ b = true ∨ isK ts k 3 = true ∨ isK ts k 2 = true) → RPcs ts k g b ms ms k g b
  | anchor {k g t q ms ms' k2 g2 b2} : ts[k]? = some t → (t.k = 5 ∧ q = 6 ∨ t.k = 6 ∧ q = 7) → RPcs ts (k + 1) g false (ms ++ [.mk q s0 0 0 0 nilS []]) ms' k2 g2 b2 → RPcs ts k g false ms ms' k2 g2 b2
  | piece {k g n k1 g1 b1 ms ms' k2 g2 b2} : isK ts k 3 = false → isK ts k 2 = false → RPiece ts k g n k1 g1 b1 → RPcs ts k1 g1 b1 (ms ++ [n]) ms' k2 g2 b2 → RPcs ts k g false ms ms' k2 g2 b2
inductive RPiece (ts : List Tok) : Nat → Int → MT → Nat → Int → Bool → Prop
  | plain {k g n k1 g1 b1} : RAtom ts k g n k1 g1 b1 → isK ts k1 4 = false → RPiece ts k g n k1 g1 b1
  | rep {k g n k1 g1 b1 u v} : RAtom ts k g n k1 g1 b1 → ts[k1]? = some u → u.k = 4 → RPiece ts k g (.mk 4 s0 u.mi u.ma 0 v [n]) (k1 + 1) g1 b1
inductive RAtom (ts : List Tok) : Nat → Int → MT → Nat → Int → Bool → Prop
  | set {k g t} : ts[k]? = some t → t.k = 0 → RAtom ts k g (.mk 1 t.s 0 0 0 nilS []) (k + 1) g false
  | times {k g t} : ts[k]? = some t → t.k = 4 → RAtom ts k g (.mk 0 s0 0 0 0 nilS []) (k + 1) g true
  | group {k g t n k1 g1 b1} : ts[k]? = some t → t.k ≠ 5 → t.k ≠ 6 → t.k ≠ 4 → t.k ≠ 0 → RGrp ts (k + 1) g n k1 g1 b1 → RAtom ts k g n k1 g1 b1
inductive RGrp (ts : List Tok) : Nat → Int → MT → Nat → Int → Bool → Prop
  | full {k g} : 9 < g + 1 → RGrp ts k g (.mk 5 s0 0 0 (g + 1) nilS []) k (g + 1) true
  | gone {k g t k1 g1 b1 v} : g + 1 ≤ 9 → RAll ts k (g + 1) false t k1 g1 b1 → isK ts k1 2 = false → RGrp ts k g (.mk 5 s0 0 0 (g + 1) v [t]) k1 g1 true
  | shut {k g t k1 g1 b1 v} : g + 1 ≤ 9 → RAll ts k (g + 1) false t k1 g1 b1 → isK ts k1 2 = true → RGrp ts k g (.mk 5 s0 0 0 (g + 1) v [t]) (k1 + 1) g1 b1
end
/-- Where the parser stands: token k. -/
def Pos (ts : List Tok) (k off c : Nat) : Prop := k ≤ ts.length ∧ (k < ts.length → off = k * 7) ∧ ts.length - k ≤ c
theorem fm_elem {α : Type} (f : α → List Value) (sz : Nat) (hf : ∀ a, (f a).length = sz) (l : List α) (i : Nat) (a : α) (hi : l[i]? = some a) : ((l.flatMap f).drop (i * sz)).take sz = f a := by
  induction l generalizing i with
  | nil => simp at hi
  | cons b l ih =>
    rw [List.flatMap_cons]
    cases i with
    | zero =>
      simp only [List.getElem?_cons_zero, Option.some.injEq] at hi
      subst hi
      rw [Nat.zero_mul, List.drop_zero, ← hf b, List.take_left]
    | succ i =>
      rw [List.getElem?_cons_succ] at hi
      rw [show (i + 1) * sz = (f b).length + i * sz by rw [hf, Nat.succ_mul]; omega, ← List.drop_drop, List.drop_left]
      exact ih i hi
theorem tok_at (ts : List Tok) (k : Nat) (h : k < ts.length) : ∃ t, ts[k]? = some t := ⟨ts[k], List.getElem?_eq_getElem h⟩
theorem isK_of {ts : List Tok} {k : Nat} {t : Tok} {q : Int} (h : ts[k]? = some t) : isK ts k q = decide (t.k = q) := by unfold isK; rw [h]
theorem isK_end {ts : List Tok} {k : Nat} {q : Int} (h : ts.length ≤ k) : isK ts k q = false := by unfold isK; rw [List.getElem?_eq_none h]
theorem pos_next {ts : List Tok} {k off c : Nat} (h : Pos ts k off c) (hk : k < ts.length) : Pos ts (k + 1) (if c = 1 then off else off + 7) (c - 1) := by
  obtain ⟨h1, h2, h3⟩ := h
  have := h2 hk
  refine ⟨by omega, fun h => ?_, by omega⟩
  rw [if_neg (by omega)]; omega
theorem y_lfrom {P : Program} {N : Nat} {R : Regs} {S : World → Prop} {dst : Option Tmp} {ty t e : TypeId} {pos : String} {af : Array Edge} {gd : Option (Nat × Bool)} {x : Operand} {g off n c sz : Nat} (hz : ∀ w, (sizeOf e).run P w = .ok sz w) (hx : ev R x = some (.slice (some ⟨g, off, none⟩) n c)) (ht : P.underlying t = some (.slice e)) (h1 : 1 ≤ n) (h2 : n ≤ c) :
    Yv P N R S ⟨dst, .slice t x (some (.const (.int .i64 1))) none none, ty, pos, af, gd⟩ (.slice (some ⟨g, if c = 1 then off else off + sz, none⟩) (n - 1) (c - 1)) := fun a' w hR _ => by
  have hb : (0 : Int) ≤ 1 ∧ (1 : Int) ≤ n := ⟨by decide, by exact_mod_cast h1⟩
  have hr : (Instr.sliceBound (.int .i64 1) n .sliceB).run P w = .ok 1 w := by simp [Instr.sliceBound, asIntOf, hb.2]
  have he : a'.eval (.const (.int .i64 1)) = .int .i64 1 := rfl
  by_cases hc : c = 1
  · simp [execOp, hR.eval hx, he, Instr.sliceAt, Instr.slice, Instr.sliceBounds, Sem.run_bind, run_underlying ht w, hr, hz, hc]
  · by_cases hs : sz = 0 <;> simp [execOp, hR.eval hx, he, Instr.sliceAt, Instr.slice, Instr.sliceBounds, Sem.run_bind, run_underlying ht w, hr, hz, Addr.add, hc, hs]

set_option maxRecDepth 100000 in
theorem is_any (pb gb c0 k off c : Nat) (ts : List Tok) (gv bv : Value) (q : Int) (F : List Nat) (w : World) (hpos : Pos ts k off c) (hS0 : St w F [.cells pb 53 [.slice (some ⟨gb, off, none⟩) (ts.length - k) c, gv, bv], .row 64 7 (.slice (some ⟨gb, 0, none⟩) ts.length c0) ts.length (ts.flatMap tC)] w) :
    Calls Try.prog 31 #[.pointer (some ⟨pb, 0, none⟩), .int .i64 q] w fun e w' => ∃ _ : Unit, e = .returned (.bool (isK ts k q)) ∧ St w F [.cells pb 53 [.slice (some ⟨gb, off, none⟩) (ts.length - k) c, gv, bv], .row 64 7 (.slice (some ⟨gb, 0, none⟩) ts.length c0) ts.length (ts.flatMap tC)] w' := by
 refine fn_intro_own Try.func31 rfl Try.ntmps31 rfl rfl hS0 ?_
 refine s_ (o_ ?_)
 refine xg 1 [] rfl rfl ?_
 refine ntso_ ?_
 refine xg 7 [0,0] rfl (by omega) ?_
 refine g_casep 11 rfl (fun h1 => ?_) fun h1 => ?_
 ·refine xg 4 [0] rfl (by omega) ?_
  obtain ⟨tk, htk⟩ := tok_at ts k (by omega)
  have hoff := hpos.2.1 (by omega)
  refine g_val rfl rfl rfl (y_idxAddr (m := k * 7 + 0) rfl rfl Try.underlying48 Try.sizeOf64 (by omega) (by omega) (by omega)) ?_
  refine xg 1 [] rfl rfl ?_
  refine g_val rfl rfl rfl (y_ldR (u := .int .i64 tk.k) 1 rfl Try.isAgg3 rfl ((fm_get tC 7 tC_len _ k 0 _ (htk) (by decide)).trans rfl)) ?_
  refine xg 4 [0] rfl rfl ?_
  refine n_ (t_ (g_ret ?_))
  refine g_end1 Try.results31 rfl ?_
  exact fun w hS => ⟨(), ret_bool (isK_of htk).symm, hS.pick [0,0] rfl⟩
 refine xg 11 [] rfl rfl ?_
 refine n_ (t_ (g_ret ?_))
 refine g_end1 Try.results31 rfl ?_
 exact fun w hS => ⟨(), ret_bool (isK_end (by omega)).symm, hS.pick [0,0] rfl⟩

set_option maxRecDepth 100000 in
theorem take_any (pb gb c0 k off c : Nat) (ts : List Tok) (gv bv : Value) (hk : k < ts.length) (F : List Nat) (w : World) (hpos : Pos ts k off c) (hS0 : St w F [.cells pb 53 [.slice (some ⟨gb, off, none⟩) (ts.length - k) c, gv, bv], .row 64 7 (.slice (some ⟨gb, 0, none⟩) ts.length c0) ts.length (ts.flatMap tC)] w) :
    Calls Try.prog 32 #[.pointer (some ⟨pb, 0, none⟩)] w fun e w' => ∃ x : {x : Tok × Nat × Nat // ts[k]? = some x.1 ∧ Pos ts (k + 1) x.2.1 x.2.2}, e = .returned (.agg (tC x.1.1).toArray) ∧ St w F [.cells pb 53 [.slice (some ⟨gb, x.1.2.1, none⟩) (ts.length - (k + 1)) x.1.2.2, gv, bv], .row 64 7 (.slice (some ⟨gb, 0, none⟩) ts.length c0) ts.length (ts.flatMap tC)] w' := by
 refine fn_intro_own Try.func32 rfl Try.ntmps32 rfl rfl hS0 ?_
 refine s_ (o_ ?_)
 refine g_alloc rfl rfl Try.zeroValue64 rfl (fun b1 => ?_)
 refine ntso_ ?_
 refine xg 4 [1] rfl (by omega) ?_
 obtain ⟨tk, htk⟩ := tok_at ts k (by omega)
 have hoff := hpos.2.1 (by omega)
 refine g_val rfl rfl rfl (y_idxAddr (m := k * 7 + 0) rfl rfl Try.underlying48 Try.sizeOf64 (by omega) (by omega) (by omega)) ?_
 refine g_val rfl rfl rfl (y_ldRN (k := 7) (vs := tC tk) 2 rfl Try.isAgg64 Try.sizeOf64 rfl (fm_elem tC 7 tC_len _ k _ (htk)) (tC_len _)) ?_
 refine g_alloc rfl rfl Try.zeroValue64 rfl (fun b2 => ?_)
 refine xg 1 [0] rfl (by omega) ?_
 refine ntso_ ?_
 refine xg 5 [2] rfl (by omega) ?_
 refine g_val rfl rfl rfl (y_lfrom Try.sizeOf64 rfl Try.underlying48 (by omega) (by have := hpos.2.2; omega)) ?_
 refine xg 3 [2] rfl (by omega) ?_
 refine ntso_ ?_
 refine xg 2 [0,1] rfl (by omega) ?_
 refine n_ (t_ (g_ret ?_))
 refine g_end_cell 1 Try.results32 rfl rfl Try.isAgg64 Try.sizeOf64 rfl ?_
 exact fun w hS => ⟨⟨(tk, if c = 1 then off else off + 7, c - 1), htk, pos_next hpos hk⟩, rfl, by have := hS.pick [2,2] rfl; exact this⟩

end Go.Proofs.Ytpoelkfncpjmfaa
