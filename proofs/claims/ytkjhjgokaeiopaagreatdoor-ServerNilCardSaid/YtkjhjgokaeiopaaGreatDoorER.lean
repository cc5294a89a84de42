/-
  The engine (18): tables.
-/
import Derived.Test.YtkjhjgokaeiopaaGreatDoorEQ
namespace Go.Proofs.YtkjhjgokaeiopaaGreatDoor.E
open Go Go.RowKit
def T.All {α : Type} (Q : Nat → α → Prop) : T α → (Nat → Nat) → Prop
  | .leaf, _ => True
  | .node l v r, f => (match v with
    | none => True
    | some a => Q (f 0) a) ∧ T.All Q l (fun j => f (2 * j + 1)) ∧ T.All Q r (fun j => f (2 * j + 2))
theorem T.all_get {α : Type} {Q : Nat → α → Prop} : ∀ {t : T α} {f : Nat → Nat} {k : Nat} {a : α}, T.All Q t f → t.get k = some a → Q (f k) a
  | .leaf, _, k, _, _, h => by rw [T.get_leaf] at h; cases h
  | .node l v r, f, 0, a, h, hg => by
    simp only [T.get] at hg
    subst hg
    exact h.1
  | .node l v r, f, k + 1, a, h, hg => by
    simp only [T.get] at hg
    cases hb : Nat.beq (k % 2) 0 with
    | true =>
      rw [hb] at hg
      have := T.all_get h.2.1 hg
      have hk : k % 2 = 0 := Nat.eq_of_beq_eq_true hb
      rwa [show 2 * (k / 2) + 1 = k + 1 by omega] at this
    | false =>
      rw [hb] at hg
      have := T.all_get h.2.2 hg
      have hk : k % 2 ≠ 0 := Nat.ne_of_beq_eq_false hb
      rwa [show 2 * (k / 2) + 2 = k + 1 by omega] at this
def zo (t : TypeInfo) : Value := t.zero.getD undef
def fnOk (P : Program) (f : Nat) (fn : Func) : Prop := P.funcs[f]? = some fn ∧ ∀ args w, (callFunc f args).run P w = .ok (.enter f args) w
section
variable {P : Program} {t : TypeId} {i : I}
theorem I.of (h1 : ∀ w, (isAgg t).run P w = .ok i.agg w) (h2 : ∀ w, (sizeOf t).run P w = .ok i.sz w) (h3 : P.underlying t = some i.d) (h4 : ∀ w, (zeroValue t).run P w = .ok i.z w) (h5 : (P.info? t).map (·.bytes) = some i.by_)
    (h6 : (List.range i.fs.length).map (fieldOff P t) = i.fs.map fun x => if Nat.beq x.2 0 then none else some x.1)
    (h7 : match i.d with
      | .struct _ => ∀ vs, P.built t vs = Instr.fill (i.fs.toArray[·]?) i.z.cells vs
      | .array _ e => (∀ vs, P.built t vs = Instr.fill (fun k => some (k * i.esz, i.esz)) i.z.cells vs) ∧ ∀ w, (sizeOf e).run P w = .ok i.esz w
      | .slice e => ∀ w, (sizeOf e).run P w = .ok i.esz w
      | _ => True) (h8 : i.kl = true → KeyOk P t i.sz) : i.ok P t :=
  ⟨h1, h2, h3, h4, h5, fun j o n h => fieldOff_of h6 h, fun f hf => by rw [hf] at h7; exact h7, fun n e hf => by rw [hf] at h7; exact h7.1, fun e hf => by rw [hf] at h7; exact h7, fun n e hf => by rw [hf] at h7; exact h7.2, h8⟩
theorem wf64 {z : Int} (h : -9223372036854775808 ≤ z ∧ z ≤ 9223372036854775807) : (Lit.int .i64 z).wf = true := by simp [Lit.wf, IntKind.min, IntKind.max, IntKind.bits, IntKind.signed]; omega
end
end Go.Proofs.YtkjhjgokaeiopaaGreatDoor.E
