/- A live question. -/
import Derived.Test.YtpoelkfncpjmfaaPbd
namespace Go.Proofs.Ytpoelkfncpjmfaa
open Go Go.RowKit

theorem g_callNew {P : Program} {N : Nat} {R : Regs} {Q : Exit → Act → World → Prop} {ops : Array Oper} {rest : List Oper} {W0 : World} {F : List Nat} {L : List Ent} {ty : TypeId} {pos : String} {af : Array Edge} {gd : Option (Nat × Bool)} {α : Type} {d : Nat} {f : FuncId} {xs : List Operand} {ats : Array TypeId} {vs : List Value} (r : α → Value) (L1 : α → List Ent)
    (hw : want ops R ⟨some d, .call { callee := .value (.func f), args := xs.toArray, argTypes := ats }, ty, pos, af, gd⟩ = some true) (hN : Nat.blt d N = true)
    (hx : xs.mapM (ev R) = some vs) (hf : ∀ args w, (callFunc f args).run P w = .ok (.enter f args) w)
    (hc : ∀ w, St W0 F L w → Calls P f vs.toArray w (fun e w' => ∃ x, e = .returned (r x) ∧ St w [] (L1 x) w'))
    (h : ∀ x, G N ((d, r x) :: R) (St W0 F (L1 x ++ L)) (wpList P ops Q rest)) : G N R (St W0 F L) (wpList P ops Q (⟨some d, .call { callee := .value (.func f), args := xs.toArray, argTypes := ats }, ty, pos, af, gd⟩ :: rest)) :=
  g_call r (fun x => St W0 F (L1 x ++ L)) hw hN hx hf (fun w hS => (hc w hS).mono fun _ _ ⟨x, he, hb⟩ => ⟨x, he, hS.then hb⟩) h
section
variable {P : Program} {N : Nat} {R : Regs} {W0 : World} {F : List Nat} {L : List Ent} {X : Act → World → Prop} {k : Int} {s : Nat → Int} {mi ma nu : Int} {v : Value} {kids ts : List MT}
theorem g_kidsP (i : Nat) (hi : L[i]? = some (.forest (.mk k s mi ma nu v kids :: ts))) (hn : 0 < kids.length) (h : ∀ g c, v = .slice (some ⟨g, 0, none⟩) kids.length c → G N R (St W0 F L) X) : G N R (St W0 F L) X := fun a w hR hS => by
  have ho : okL w (.mk k s mi ma nu v kids :: ts) := hS.get hi
  obtain ⟨_, ⟨_, h2⟩ | ⟨g, cap, cur, h1, _⟩⟩ := (ok_mk.1 (okL_cons.1 ho).1).1
  · omega
  · exact h _ cap h1 a w hR hS
theorem y_ldF {t ty : TypeId} {dst : Option Tmp} {pos : String} {af : Array Edge} {gd : Option (Nat × Bool)} {x : Operand} {g off n c : Nat} {u : Value} (i : Nat) (hx : ev R x = some (.pointer (some ⟨g, off, none⟩))) (ha : ∀ w, (isAgg t).run P w = .ok false w) (hi : L[i]? = some (.forest (.mk k s mi ma nu (.slice (some ⟨g, 0, none⟩) n c) kids :: ts))) (hv : (kids.flatMap nC)[off]? = some u) :
    Yv P N R (St W0 F L) ⟨dst, .load t x, ty, pos, af, gd⟩ u := y_load1 hx ha fun w hS => by
  have ho : okL w (.mk k s mi ma nu (.slice (some ⟨g, 0, none⟩) n c) kids :: ts) := hS.get hi
  exact row_cell (ok_mk.1 (okL_cons.1 ho).1).1 hv
end
def alTs : List Tok := [litT 97, timesT 0 (-1), litT 98]
theorem al_tok : tokF (tokX false) [97, 42, 98] [] 0 = some alTs := rfl
theorem al_ok : ∀ c : UInt8, c ∈ [97, 42, 98] → okC c := by
  intro c hc
  simp only [List.mem_cons, List.not_mem_nil, or_false] at hc
  rcases hc with rfl | rfl | rfl <;> (unfold okC; decide)
theorem al_3 {g : Int} {ms ms' : List MT} {k2 : Nat} {g2 : Int} {b2 : Bool} (h : RPcs alTs 3 g false ms ms' k2 g2 b2) : k2 = 3 ∧ b2 = false ∧ ms' = ms := by
  cases h with
  | stop _ => exact ⟨rfl, rfl, rfl⟩
  | anchor h1 _ _ => cases h1
  | piece _ _ hp _ => cases hp with
    | plain ha _ => cases ha with
      | set h1 _ => cases h1
      | times h1 _ => cases h1
      | group h1 _ _ _ _ _ => cases h1
    | rep ha _ _ => cases ha with
      | set h1 _ => cases h1
      | times h1 _ => cases h1
      | group h1 _ _ _ _ _ => cases h1
theorem al_2 {g : Int} {ms ms' : List MT} {k2 : Nat} {g2 : Int} {b2 : Bool} (h : RPcs alTs 2 g false ms ms' k2 g2 b2) : k2 = 3 ∧ b2 = false ∧ ms' = ms ++ [oneM 98] := by
  cases h with
  | stop hs => rcases hs with q | q | q | q <;> first | (exact absurd q (by decide)) | cases q
  | anchor h1 h2 _ => cases h1; rcases h2 with ⟨q, _⟩ | ⟨q, _⟩ <;> cases q
  | piece _ _ hp hr => cases hp with
    | plain ha _ => cases ha with
      | set h1 _ => cases h1; exact al_3 hr
      | times h1 h2 => cases h1; cases h2
      | group h1 _ _ _ h2 _ => cases h1; exact absurd rfl h2
    | rep ha h1 _ => cases ha with
      | set _ _ => cases h1
      | times q1 q2 => cases q1; cases q2
      | group q1 _ _ _ q2 _ => cases q1; exact absurd rfl q2
theorem al_0 {g : Int} {ms' : List MT} {k2 : Nat} {g2 : Int} {b2 : Bool} (h : RPcs alTs 0 g false [] ms' k2 g2 b2) : k2 = 3 ∧ b2 = false ∧ ∃ v, ms' = [.mk 4 s0 0 (-1) 0 v [oneM 97], oneM 98] := by
  cases h with
  | stop hs => rcases hs with q | q | q | q <;> first | (exact absurd q (by decide)) | cases q
  | anchor h1 h2 _ => cases h1; rcases h2 with ⟨q, _⟩ | ⟨q, _⟩ <;> cases q
  | piece _ _ hp hr => cases hp with
    | plain ha h4 => cases ha with
      | set h1 _ => cases h4
      | times h1 h2 => cases h1; cases h2
      | group h1 _ _ _ h2 _ => cases h1; exact absurd rfl h2
    | rep ha h1 h2 => cases ha with
      | set h3 _ => cases h3; cases h1; obtain ⟨a1, a2, a3⟩ := al_2 hr; exact ⟨a1, a2, _, a3⟩
      | times q1 q2 => cases q1; cases q2
      | group q1 _ _ _ q2 _ => cases q1; exact absurd rfl q2
theorem alive_tree {x : MT × Int} (h : parR (tokX false) [97, 42, 98] x) : x.2 = 0 ∧ ∃ v v2, x.1 = .mk 2 s0 0 0 0 v [.mk 4 s0 0 (-1) 0 v2 [oneM 97], oneM 98] := by
  have key : ∀ {t : MT} {k : Nat} {g : Int} {b : Bool}, RAll alTs 0 0 false t k g b → k = 3 ∧ b = false ∧ ∃ v v2, t = .mk 2 s0 0 0 0 v [.mk 4 s0 0 (-1) 0 v2 [oneM 97], oneM 98] := by
    intro t k g b h
    have row : ∀ {t : MT} {k : Nat} {g : Int} {b : Bool}, RRow alTs 0 0 false t k g b → k = 3 ∧ b = false ∧ ∃ v v2, t = .mk 2 s0 0 0 0 v [.mk 4 s0 0 (-1) 0 v2 [oneM 97], oneM 98] := by
      intro t k g b h
      cases h with
      | one hp => obtain ⟨_, _, v, h3⟩ := al_0 hp; cases h3
      | many hp _ => obtain ⟨h1, h2, v, h3⟩ := al_0 hp; subst h1 h2 h3; exact ⟨rfl, rfl, _, _, rfl⟩
    cases h with
    | one hr hb =>
      obtain ⟨h1, h2, h3⟩ := row hr
      subst h1 h2
      cases hb with
      | stop _ => exact ⟨rfl, rfl, h3⟩
      | more q _ _ => cases q
    | many hr hb hne =>
      obtain ⟨h1, h2, h3⟩ := row hr
      subst h1 h2
      cases hb with
      | stop _ => exact absurd rfl hne
      | more q _ _ => cases q
  rcases h with ⟨_, h | h | h | ⟨ts, t, k, g, b, h1, h2, h3⟩⟩ | ⟨h0, ts, k, g, h1, _, _, h2, _⟩
  · cases h
  · exact absurd h (by decide)
  · rw [al_tok] at h; cases h
  · rw [al_tok] at h1
    obtain rfl := Option.some.inj h1
    obtain ⟨a1, a2, _⟩ := key h2
    rcases h3 with q | q
    · rw [a2] at q; cases q
    · rw [a1] at q; exact absurd q (by decide)
  · rw [al_tok] at h1
    obtain rfl := Option.some.inj h1
    exact ⟨h0, (key h2).2.2⟩
theorem al_size (v v2 : Value) : szT (.mk 2 s0 0 0 0 v [.mk 4 s0 0 (-1) 0 v2 [oneM 97], oneM 98]) = 4 := by
  simp only [oneM, szT_mk, szL_cons, szL_nil]

set_option maxRecDepth 100000 in
theorem alive_any (w : World) (hz : MaxHere w) :
    Calls Try.prog 8 #[] w fun e w' => e = .returned (.bool true) ∧ Below w.heap.size w w' := by
 refine fn_intro Try.func8 rfl Try.ntmps8 rfl rfl ?_
 refine s_ (o_ ?_)
 refine xg 1 [] rfl rfl ?_
 refine ntso_ ?_
 refine g_callNew (fun x : {x : MT × Int // parX false [97, 42, 98] x} => .tuple #[.agg (nC x.1.1).toArray, .int .i64 x.1.2]) (fun x => [.forest [x.1.1]]) rfl rfl rfl Try.call9 (fun w hS => parse_xb [97, 42, 98] w (hS.maxHere hz (by simp))) ?_
 rintro ⟨⟨t, er⟩, hpar⟩
 obtain ⟨h0, v, v2, ht⟩ := alive_tree (parX_R al_ok hpar)
 dsimp only at h0 ht
 subst h0 ht
 simp only [List.cons_append, List.nil_append]
 refine g_kidsP 0 rfl (Nat.zero_lt_succ _) (fun gv cv hv => ?_)
 cases hv
 have hsz := al_size (.slice (some ⟨gv, 0, none⟩) 2 cv) v2
 refine xg 1 [] rfl rfl ?_
 refine g_val (v := .agg (nC (.mk 2 s0 0 0 0 (.slice (some ⟨gv, 0, none⟩) 2 cv) [.mk 4 s0 0 (-1) 0 v2 [oneM 97], oneM 98])).toArray) rfl rfl rfl (y_extract rfl rfl) ?_
 refine g_val (v := .int .i64 0) rfl rfl rfl (y_extract rfl rfl) ?_
 refine g_alloc rfl rfl Try.zeroValue30 rfl (fun b1 => ?_)
 refine xg 2 [0] rfl (by omega) ?_
 refine ntso_ ?_
 refine xg 6 [1,0,0] rfl (by omega) ?_
 refine g_lit 12 true rfl (by first | rfl | exact decide_eq_true rfl) ?_
 refine xg 6 [0,0] rfl (by omega) ?_
 refine g_lit 18 true rfl (by first | rfl | exact decide_eq_true rfl) ?_
 refine xg 4 [0] rfl (by omega) ?_
 refine g_val rfl rfl rfl (y_idxAddr (m := 0) rfl rfl Try.underlying28 Try.sizeOf30 (by decide) (by decide) rfl) ?_
 refine xg 1 [] rfl rfl ?_
 refine g_val (v := .int .i64 4) rfl rfl rfl (y_ldF 1 rfl Try.isAgg24 rfl rfl) ?_
 refine xg 1 [0] rfl rfl ?_
 refine g_lit 26 true rfl (by first | rfl | exact decide_eq_true rfl) ?_
 refine xg 4 [0] rfl (by omega) ?_
 refine g_val rfl rfl rfl (y_idxAddr (m := 0) rfl rfl Try.underlying28 Try.sizeOf30 (by decide) (by decide) rfl) ?_
 refine xg 1 [] rfl rfl ?_
 refine g_val (v := .int .i64 (-1)) rfl rfl rfl (y_ldF 1 rfl Try.isAgg3 rfl rfl) ?_
 refine xg 1 [0] rfl rfl ?_
 refine g_lit 34 true rfl (by first | rfl | exact decide_eq_true rfl) ?_
 refine xg 3 [0] rfl (by omega) ?_
 refine g_call1 rfl rfl rfl Try.call16 (fun w hS => size_any 10 (.mk 2 s0 0 0 0 (.slice (some ⟨gv, 0, none⟩) 2 cv) [.mk 4 s0 0 (-1) 0 v2 [oneM 97], oneM 98]) w (by rw [hsz]; decide) (by decide) (okL_cons.1 (hS.get (i := 1) rfl)).1) ?_
 refine xg 1 [0] rfl rfl ?_
 refine g_lit 39 true rfl (decide_eq_true (by rw [hsz]; rfl)) ?_
 refine xg 2 [] rfl rfl ?_
 refine n_ (t_ (g_ret ?_))
 refine g_end1 Try.results8 rfl ?_
 exact fun w hS => ⟨rfl, hS.below⟩

end Go.Proofs.Ytpoelkfncpjmfaa
