/-
  The engine (28): what is run, is so.
-/
import Derived.Test.YtkjhjgokaeiopaaGreatDoorEb
namespace Go.Proofs.YtkjhjgokaeiopaaGreatDoor.E
open Go Go.RowKit
section
variable {P : Program} {σ : Nat → Value} {tb : Tb} {ft : T Func} {xt : T Xt} {c : Nat} {h : T O} {w : World} {D : Nat → Prop} {C : Nm}
structure All (P : Program) (tb : Tb) (ft : T Func) (xt : T Xt) : Prop where
  tb : tb.ok P
  ft : FtOk P ft
  xt : XtOk P xt
  mix : P.follows .mixedOrders = true
theorem All.body (A : All P tb ft xt) (fu : Nat) : BodyOk P σ (bodyK P tb ft xt fu) := bodyK_ok A.tb A.ft A.xt (region_ok A.tb A.mix) fu
/-- A run from nothing: what the function hands back; memory as it was. -/
theorem run_calls {f : FuncId} {fu : Nat} {args : List V} {k : K1} (A : All P tb ft xt) (hx : xt.get f = none) (hD : ∀ i, D i → i < c) (hm : At D C fun ρ => Mem σ ρ h w) (hargs : At D C fun ρ => denL σ ρ args = denL σ C args) (hk : runK P tb ft xt fu f args h c k = true) :
    ∃ u v D' C' c' h' w', Calls P f (denL σ C args).toArray w (fun e w1 => e = .returned u ∧ w1 = w') ∧ Ext D D' C C' c c' h h' w w' ∧ At D' C' (fun ρ => u = v.den σ ρ ∧ Mem σ ρ h' w') ∧ k v h' c' = true := by
  unfold runK at hk
  simp only [callK, hx] at hk
  split at hk
  · rename_i fn hfn
    split at hk
    · rename_i code hb
      cases hl : Nat.ble args.length fn.ntmps with
      | false => rw [hl] at hk; cases hk
      | true =>
        rw [hl] at hk
        simp only [cond_true, nK_eq] at hk
        obtain ⟨u', v', D'', C'', c'', h'', w'', fl, p1, p2, p3, p4, p5, p6⟩ := fn_ok A.tb A.ft (A.body fu) hfn hb (Nat.le_of_ble_eq_true hl) hD hm hargs hk
        exact ⟨u', v', D'', C'', c'', h'', w'', fun cs => ⟨.returned u', w'', fl, ⟨rfl, rfl⟩, p1 cs, p6, p5⟩, p2, p3, p4⟩
    · cases hk
  · cases hk
def isTrue : V → Bool
  | .bool b => b
  | _ => false
/-- A run from nothing that ends in 'true'. -/
theorem run_true {f : FuncId} {fu : Nat} (A : All P tb ft xt) (hx : xt.get f = none) (hk : runK P tb ft xt fu f [] .leaf 1 (fun v _ _ => isTrue v) = true) (w : World) :
    Calls P f #[] w (fun e w' => e = .returned (.bool true) ∧ Below w.heap.size w w') := by
  obtain ⟨u, v, D', C', c', h', w', q1, q2, q3, q4⟩ := run_calls (σ := fun _ => undef) (D := fun _ => False) (C := fun _ => ⟨0, 0, 0⟩) (w := w) A hx (fun _ z => z.elim) (fun ρ _ => ⟨(fun i o hi => by rw [T.get_leaf] at hi; cases hi), (fun i j o o' hi => by rw [T.get_leaf] at hi; cases hi)⟩) (fun _ _ => rfl) hk
  refine Calls.mono (by simpa [denL] using q1) ?_
  rintro e w1 ⟨rfl, rfl⟩
  have hv : v = .bool true := by
    cases v <;> simp [isTrue] at q4
    subst q4; rfl
  refine ⟨by rw [(q3.self).1, hv]; rfl, ?_⟩
  have hk := q2.keeps
  refine Keeps.below ⟨hk.os, hk.tape, hk.output, hk.size, fun k hl _ => hk.keep k hl fun ⟨i, o, hi, _⟩ => by rw [T.get_leaf] at hi; cases hi⟩
/-- The same, of a function of one argument of n cells that nobody looks into. -/
def opsV (n : Nat) : List V := (List.range n).map V.op
theorem opsV_den {ρ : Nm} (vs : List Value) (h1 : vs.all (·.oneCell') = true) : denL (fun i => vs.getD i undef) ρ (opsV vs.length) = vs := by
  rw [denL_map, opsV, List.map_map]
  refine List.ext_getElem (by simp) fun i hi _ => ?_
  have hi' : i < vs.length := by simpa using hi
  have := List.all_eq_true.1 h1 _ (List.getElem_mem hi')
  simp [V.den, hi']
  cases hv : vs[i] <;> simp_all [oneV, Value.oneCell']
theorem run_true1 {f : FuncId} {fu n : Nat} (A : All P tb ft xt) (hx : xt.get f = none) (hk : runK P tb ft xt fu f [.agg (opsV n)] .leaf 1 (fun v _ _ => isTrue v) = true) (vs : List Value) (hn : vs.length = n) (h1 : vs.all (·.oneCell') = true) (w : World) :
    Calls P f #[.agg vs.toArray] w (fun e w' => e = .returned (.bool true) ∧ Below w.heap.size w w') := by
  subst hn
  have hden : ∀ ρ, denL (fun i => vs.getD i undef) ρ [.agg (opsV vs.length)] = [.agg vs.toArray] := fun ρ => by simp only [denL, V.den, opsV_den vs h1]
  obtain ⟨u, v, D', C', c', h', w', q1, q2, q3, q4⟩ := run_calls (σ := fun i => vs.getD i undef) (D := fun _ => False) (C := fun _ => ⟨0, 0, 0⟩) (w := w) A hx (fun _ z => z.elim) (fun ρ _ => ⟨(fun i o hi => by rw [T.get_leaf] at hi; cases hi), (fun i j o o' hi => by rw [T.get_leaf] at hi; cases hi)⟩) (fun ρ _ => (hden ρ).trans (hden _).symm) hk
  rw [hden] at q1
  refine Calls.mono (by simpa using q1) ?_
  rintro e w1 ⟨rfl, rfl⟩
  have hv : v = .bool true := by
    cases v <;> simp [isTrue] at q4
    subst q4; rfl
  refine ⟨by rw [(q3.self).1, hv]; rfl, ?_⟩
  have hk := q2.keeps
  refine Keeps.below ⟨hk.os, hk.tape, hk.output, hk.size, fun k hl _ => hk.keep k hl fun ⟨i, o, hi, _⟩ => by rw [T.get_leaf] at hi; cases hi⟩
/-- The same, of a function of n arguments of one cell that nobody looks into. -/
theorem run_trueN {f : FuncId} {fu n : Nat} (A : All P tb ft xt) (hx : xt.get f = none) (hk : runK P tb ft xt fu f (opsV n) .leaf 1 (fun v _ _ => isTrue v) = true) (vs : List Value) (hn : vs.length = n) (h1 : vs.all (·.oneCell') = true) (w : World) :
    Calls P f vs.toArray w (fun e w' => e = .returned (.bool true) ∧ Below w.heap.size w w') := by
  subst hn
  have hden : ∀ ρ, denL (fun i => vs.getD i undef) ρ (opsV vs.length) = vs := fun ρ => opsV_den vs h1
  obtain ⟨u, v, D', C', c', h', w', q1, q2, q3, q4⟩ := run_calls (σ := fun i => vs.getD i undef) (D := fun _ => False) (C := fun _ => ⟨0, 0, 0⟩) (w := w) A hx (fun _ z => z.elim) (fun ρ _ => ⟨(fun i o hi => by rw [T.get_leaf] at hi; cases hi), (fun i j o o' hi => by rw [T.get_leaf] at hi; cases hi)⟩) (fun ρ _ => (hden ρ).trans (hden _).symm) hk
  rw [hden] at q1
  refine Calls.mono (by simpa using q1) ?_
  rintro e w1 ⟨rfl, rfl⟩
  have hv : v = .bool true := by
    cases v <;> simp [isTrue] at q4
    subst q4; rfl
  refine ⟨by rw [(q3.self).1, hv]; rfl, ?_⟩
  have hk := q2.keeps
  refine Keeps.below ⟨hk.os, hk.tape, hk.output, hk.size, fun k hl _ => hk.keep k hl fun ⟨i, o, hi, _⟩ => by rw [T.get_leaf] at hi; cases hi⟩
end
end Go.Proofs.YtkjhjgokaeiopaaGreatDoor.E
