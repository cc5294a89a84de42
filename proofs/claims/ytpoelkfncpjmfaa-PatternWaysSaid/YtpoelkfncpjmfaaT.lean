/-
  A shorter row; an entry seen otherwise; a callee that writes what its caller owns.
-/
import Derived.Test.YtpoelkfncpjmfaaR
import Derived.Laws.Slices
namespace Go.Proofs.Ytpoelkfncpjmfaa
open Go Go.RowKit
section
variable {P : Program} {N : Nat} {R : Regs} {Q : Exit → Act → World → Prop} {ops : Array Oper} {rest : List Oper} {W0 : World} {F : List Nat} {L : List Ent} {X : Act → World → Prop} {S : World → Prop}
variable {dst : Option Tmp} {ty t t' : TypeId} {pos : String} {af : Array Edge} {gd : Option (Nat × Bool)} {x y : Operand} {k : IntKind}
theorem g_turn {e e' : Ent} (i : Nat) (hi : L[i]? = some e) (hh : ∀ w, e.holds w → e'.holds w) (hfp : ∀ k, k ∈ e'.fp → k ∈ e.fp) (h : G N R (St W0 F (L.set i e')) X) : G N R (St W0 F L) X := fun a w hR hS =>
  h a w hR (hS.write hi rfl rfl rfl (Nat.le_refl _) (fun _ _ _ => rfl) (hh w (hS.get hi)) (fun k hk => .inl (hfp k hk)))
theorem row_short {w : World} {e : TypeId} {size g n m c : Nat} {xs : List Value} (hm : m ≤ n) (h : w.ownsRow 0 e size (.slice (some ⟨g, 0, none⟩) n c) n xs) : w.ownsRow 0 e size (.slice (some ⟨g, 0, none⟩) m c) m (xs.take (m * size)) := by
  obtain ⟨hl, h2 | ⟨g', cap, cur, q1, q2, q3, q4, q5, q6, q7⟩⟩ := h
  · cases h2.1
  · cases q1
    have hle : m * size ≤ n * size := Nat.mul_le_mul_right _ hm
    refine ⟨by rw [List.length_take]; omega, .inr ⟨g, c, cur, rfl, q2, q3, by omega, q5, q6, ?_⟩⟩
    rw [← q7, List.take_take, Nat.min_eq_left hle]
theorem y_lto {t e : TypeId} {a : Addr} {n c m sz : Nat} {hi : Operand} (hz : ∀ w, (sizeOf e).run P w = .ok sz w) (hx : ev R x = some (.slice (some a) n c)) (hy : ev R hi = some (.int .i64 m)) (ht : P.underlying t = some (.slice e)) (hm : m ≤ c) : Yv P N R S ⟨dst, .slice t x none (some hi) none, ty, pos, af, gd⟩ (.slice (some a) m c) := fun a' w hR _ => by
  have h1 : (0 : Int) ≤ m ∧ (m : Int) ≤ c := ⟨by omega, by exact_mod_cast hm⟩
  simp [execOp, hR.eval hx, hR.eval hy, Instr.sliceAt, Instr.slice, Instr.sliceBounds, Sem.run_bind, run_underlying ht w, run_sliceBound, h1, hz, Addr.add]
/-- A callee that is handed some entries and leaves others in their place. -/
theorem g_callOwn {α : Type} {d : Nat} {f : FuncId} {xs : List Operand} {ats : Array TypeId} {vs : List Value} {L0 Lr : List Ent} (r : α → Value) (L1 : α → List Ent)
    (hw : want ops R ⟨some d, .call { callee := .value (.func f), args := xs.toArray, argTypes := ats }, ty, pos, af, gd⟩ = some true) (hN : Nat.blt d N = true)
    (hx : xs.mapM (ev R) = some vs) (hf : ∀ args w, (callFunc f args).run P w = .ok (.enter f args) w)
    (hc : ∀ w, St W0 F (L0 ++ Lr) w → Calls P f vs.toArray w (fun e w' => ∃ x, e = .returned (r x) ∧ St w (L0.flatMap Ent.fp) (L1 x) w'))
    (h : ∀ x, G N ((d, r x) :: R) (St W0 F (L1 x ++ Lr)) (wpList P ops Q rest)) : G N R (St W0 F (L0 ++ Lr)) (wpList P ops Q (⟨some d, .call { callee := .value (.func f), args := xs.toArray, argTypes := ats }, ty, pos, af, gd⟩ :: rest)) :=
  g_call r (fun x => St W0 F (L1 x ++ Lr)) hw hN hx hf (fun w hS => (hc w hS).mono fun _ _ ⟨x, he, hb⟩ => ⟨x, he, St.join hS (fun k hk => by obtain ⟨e, he, hk⟩ := List.mem_flatMap.1 hk; exact ⟨e, he, hk⟩) hb⟩) h
theorem g_rowCap {e : TypeId} {size n c : Nat} {p : Option Addr} {xs : List Value} (i : Nat) (hi : L[i]? = some (.row e size (.slice p n c) n xs)) (h : n ≤ c → G N R (St W0 F L) X) : G N R (St W0 F L) X := fun a w hR hS => by
  have ho : w.ownsRow 0 e size (.slice p n c) n xs := hS.get hi
  obtain ⟨_, ⟨h1, h2⟩ | ⟨g, cap, cur, h1, _, _, h4, _⟩⟩ := ho
  · exact h (by omega) a w hR hS
  · cases h1; exact h h4 a w hR hS
/-- A scope whose label is reached from above, too. -/
theorem g_scope_fall {α : Type} {c tail : Code} (Rl : α → Regs) (Sl : α → World → Prop) (lab m : α → Nat) (hf : ∀ x, findLabel c (lab x) = some (.seq .skip tail))
    (pass : ∀ x, G N (Rl x) (Sl x) (tail.wp P (Exit.jumps (At N Rl Sl lab m) (some (m x)) Q)))
    (first : (∀ x, G N (Rl x) (Sl x) (tail.wp P (Exit.jumps (At N Rl Sl lab m) none Q))) → G N R S (c.wp P (Exit.jumps (At N Rl Sl lab m) none Q))) : G N R S ((Code.scope c).wp P Q) := by
  refine g_scope Rl Sl lab m (first fun x a w hR hS => wp_mono (pass x a w hR hS) ?_) fun x => ⟨_, hf x, g_seq (g_skip (g_then (pass x)))⟩
  intro e a' w' h
  cases e with
  | goto l => obtain ⟨k, _, hJ⟩ := h; exact ⟨k, (fun _ h => by cases h), hJ⟩
  | _ => exact h
theorem g_fall {R' : Regs} {S' : World → Prop} (h : G N R' S' X) (ks : List Nat) (hR : R.only ks = R') (hS : ∀ w, S w → S' w) : G N R S X := (h.weaken hS).keep ks hR
end
end Go.Proofs.Ytpoelkfncpjmfaa
