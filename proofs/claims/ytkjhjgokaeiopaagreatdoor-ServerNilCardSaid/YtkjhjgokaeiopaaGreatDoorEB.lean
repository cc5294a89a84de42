/-
  The engine (2): operations that leave memory alone.
-/
import Derived.Test.YtkjhjgokaeiopaaGreatDoorEA
import Derived.Deep.MidRow
import Derived.DeepKeys3
import Derived.WideKeyMaps
namespace Go.Proofs.YtkjhjgokaeiopaaGreatDoor.E
open Go Go.RowKit

/-! ### The types' table -/
structure I where
  agg : Bool
  sz : Nat
  d : TypeDesc
  z : Value
  by_ : Nat
  fs : List (Nat × Nat)
  esz : Nat
  kl : Bool := false
/-- Keys of several whole numbers: what a map asks of them is well. -/
def KeyOk (P : Program) (t : TypeId) (n : Nat) : Prop := WideMaps.KeyLaw P t ∧ ∀ zs : List Int, zs.length = n → (∀ z ∈ zs, -9223372036854775808 ≤ z ∧ z ≤ 9223372036854775807) → ∃ l, keyOf P t (.agg (zs.map (Value.int .i64)).toArray) = some l
structure I.ok (P : Program) (t : TypeId) (i : I) : Prop where
  agg : ∀ w, (isAgg t).run P w = .ok i.agg w
  sz : ∀ w, (sizeOf t).run P w = .ok i.sz w
  d : P.underlying t = some i.d
  z : ∀ w, (zeroValue t).run P w = .ok i.z w
  by_ : (P.info? t).map (·.bytes) = some i.by_
  fld : ∀ j o n, nth i.fs j = some (o, n + 1) → fieldOff P t j = some o
  bst : ∀ f, i.d = .struct f → ∀ vs, P.built t vs = Instr.fill (i.fs.toArray[·]?) i.z.cells vs
  barr : ∀ n e, i.d = .array n e → ∀ vs, P.built t vs = Instr.fill (fun k => some (k * i.esz, i.esz)) i.z.cells vs
  els : ∀ e, i.d = .slice e → ∀ w, (sizeOf e).run P w = .ok i.esz w
  ela : ∀ n e, i.d = .array n e → ∀ w, (sizeOf e).run P w = .ok i.esz w
  kl : i.kl = true → KeyOk P t i.sz
abbrev Tb := T I
def Tb.ok (P : Program) (tb : Tb) : Prop := ∀ t i, tb.get t = some i → i.ok P t

/-! ### Operands -/
def ov (rs : T V) : Operand → Option V
  | .tmp t => rs.get t
  | .const v => some (V.hd (.c v))
  | .global g => some (.c (.pointer (some ⟨g, 0, none⟩)))
  | .func f => some (.func f [])
def K (a : Act) (x : Operand) (v : Value) : Prop := a.eval x = v ∧ ∀ t, x = .tmp t → a.tmps[t]? = some v
section
variable {P : Program} {σ : Nat → Value} {ρ : Nm} {n : Nat} {rs : T V} {h : T O} {a : Act} {w : World} {tb : Tb}
theorem ov_ok {x : Operand} {v : V} (hr : RegsOk σ ρ n rs a.tmps) (hx : ov rs x = some v) : K a x (v.den σ ρ) := by
  cases x with
  | tmp t =>
    have := hr.get t v hx
    exact ⟨by simp [Act.eval, this], fun u hu => by cases hu; exact this⟩
  | const u =>
    simp only [ov, Option.some.injEq] at hx; subst hx
    exact ⟨by rw [V.hd_den]; simp [Act.eval, V.den], fun _ h => by cases h⟩
  | global g => simp only [ov, Option.some.injEq] at hx; subst hx; exact ⟨by simp [Act.eval, V.den], fun _ h => by cases h⟩
  | func f => simp only [ov, Option.some.injEq] at hx; subst hx; exact ⟨by simp [Act.eval, V.den, denL], fun _ h => by cases h⟩
theorem ov_ev {x : Operand} {v : V} (hr : RegsOk σ ρ n rs a.tmps) (hx : ov rs x = some v) : a.eval x = v.den σ ρ := (ov_ok hr hx).1

/-- The registers, as a list: so that the logic's laws are at hand. -/
theorem viaY {o : Oper} {v : Value} (h : ∀ N R, (∀ x v, K a x v → ev R x = some v) → Yv P N R (· = w) o v) : (execOp a.eval o).run P w = .ok (.value v) w := by
  have e : a.eval = ({ a with defers := [] } : Act).eval := by funext x; cases x <;> rfl
  rw [e]
  refine h a.tmps.size ((List.range a.tmps.size).map fun i => (i, a.tmps[i]?.getD undef)) (fun x v hx => ?_) _ w ⟨rfl, rfl, fun i v hi => ?_⟩ rfl
  · cases x with
    | tmp t =>
      have ht := hx.2 t rfl
      have hl : t < a.tmps.size := (Array.getElem?_eq_some_iff.1 ht).1
      simp only [ev]
      have key : ∀ (l : List Nat) (f : Nat → Value), t ∈ l → (l.map fun i => (i, f i)).lookup t = some (f t) := by
        intro l f
        induction l with
        | nil => intro h; cases h
        | cons i l ih =>
          intro hm
          simp only [List.map_cons, List.lookup_cons]
          by_cases e : t = i
          · subst e; simp
          · have e' : (t == i) = false := by simpa using e
            rw [e']
            exact ih ((List.mem_cons.1 hm).resolve_left e)
      rw [key _ (fun i => a.tmps[i]?.getD undef) (by simpa using hl)]
      simp [ht]
    | const u => have := hx.1; simp [Act.eval] at this; simp [ev, this]
    | global g => have := hx.1; simp [Act.eval] at this; simp [ev, this]
    | func f => have := hx.1; simp [Act.eval] at this; simp [ev, this]
  · have key : ∀ (l : List Nat) (f : Nat → Value) u, (l.map fun i => (i, f i)).lookup i = some u → i ∈ l ∧ f i = u := by
      intro l f
      induction l with
      | nil => intro u h; simp at h
      | cons j l ih =>
        intro u hu
        simp only [List.map_cons, List.lookup_cons] at hu
        by_cases e : i = j
        · subst e; simp at hu; exact ⟨by simp, hu⟩
        · have e' : (i == j) = false := by simpa using e
          rw [e'] at hu
          obtain ⟨h1, h2⟩ := ih u hu
          exact ⟨List.mem_cons_of_mem _ h1, h2⟩
    obtain ⟨h1, h2⟩ := key _ (fun i => a.tmps[i]?.getD undef) v hi
    have hl : i < a.tmps.size := by simpa using h1
    show a.tmps[i]? = some v
    rw [Array.getElem?_eq_getElem hl] at h2 ⊢
    simpa using h2

/-! ### Numbers and bytes, told apart fast -/
def ieq : Int → Int → Bool
  | .ofNat a, .ofNat b => Nat.beq a b
  | .negSucc a, .negSucc b => Nat.beq a b
  | _, _ => false
def ilt : Int → Int → Bool
  | .ofNat a, .ofNat b => Nat.blt a b
  | .negSucc _, .ofNat _ => true
  | .ofNat _, .negSucc _ => false
  | .negSucc a, .negSucc b => Nat.blt b a
theorem blt_dec (a b : Nat) : Nat.blt a b = decide (a < b) := by rw [Bool.eq_iff_iff]; simp [Nat.blt_eq]
theorem beq_dec (a b : Nat) : Nat.beq a b = decide (a = b) := by rw [Bool.eq_iff_iff]; simp [Nat.beq_eq]
theorem ieq_eq (a b : Int) : ieq a b = decide (a = b) := by
  rw [Bool.eq_iff_iff]
  cases a <;> cases b <;> simp only [ieq, beq_dec, Int.negSucc_eq, Int.ofNat_eq_natCast, decide_eq_true_eq, Bool.false_eq_true, false_iff] <;> omega
theorem ilt_eq (a b : Int) : ilt a b = decide (a < b) := by
  rw [Bool.eq_iff_iff]
  cases a <;> cases b <;> simp only [ilt, blt_dec, Int.negSucc_eq, Int.ofNat_eq_natCast, decide_eq_true_eq, Bool.false_eq_true, false_iff, true_iff] <;> omega
def seqB : List Nat → List Nat → Bool
  | [], [] => true
  | a :: l, b :: m => bif Nat.beq (a % 256) (b % 256) then seqB l m else false
  | _, _ => false
def sltB : List Nat → List Nat → Bool
  | _, [] => false
  | [], _ :: _ => true
  | a :: l, b :: m => bif Nat.blt (a % 256) (b % 256) then true else bif Nat.beq (a % 256) (b % 256) then sltB l m else false
theorem ofNat_inj {a b : Nat} : UInt8.ofNat a = UInt8.ofNat b ↔ a % 256 = b % 256 := by
  rw [← UInt8.toNat_inj, UInt8.toNat_ofNat', UInt8.toNat_ofNat']
theorem seqB_eq : ∀ (l m : List Nat), seqB l m = (l.map UInt8.ofNat == m.map UInt8.ofNat)
  | [], [] => rfl
  | [], _ :: _ => rfl
  | _ :: _, [] => rfl
  | a :: l, b :: m => by
    simp only [seqB, List.map_cons, List.cons_beq_cons]
    rw [← seqB_eq l m]
    cases hb : Nat.beq (a % 256) (b % 256) with
    | true =>
      have : UInt8.ofNat a = UInt8.ofNat b := ofNat_inj.2 (Nat.eq_of_beq_eq_true hb)
      simp [this]
    | false =>
      have : UInt8.ofNat a ≠ UInt8.ofNat b := fun h => Nat.ne_of_beq_eq_false hb (ofNat_inj.1 h)
      simp [this]
theorem sltB_eq : ∀ (l m : List Nat), sltB l m = Op.bytesLess (l.map UInt8.ofNat) (m.map UInt8.ofNat)
  | [], [] => rfl
  | [], _ :: _ => rfl
  | _ :: _, [] => rfl
  | a :: l, b :: m => by
    simp only [sltB, List.map_cons, Op.bytesLess]
    rw [← sltB_eq l m]
    have e1 : (decide (UInt8.ofNat a < UInt8.ofNat b)) = Nat.blt (a % 256) (b % 256) := by
      rw [blt_dec]
      simp only [UInt8.lt_iff_toNat_lt, UInt8.toNat_ofNat']
    have e2 : (UInt8.ofNat a == UInt8.ofNat b) = Nat.beq (a % 256) (b % 256) := by
      cases hb : Nat.beq (a % 256) (b % 256) with
      | true => have : UInt8.ofNat a = UInt8.ofNat b := ofNat_inj.2 (Nat.eq_of_beq_eq_true hb); simp [this]
      | false => have : UInt8.ofNat a ≠ UInt8.ofNat b := fun h => Nat.ne_of_beq_eq_false hb (ofNat_inj.1 h); simp [this]
    rw [e1, e2]
    cases Nat.blt (a % 256) (b % 256) <;> cases Nat.beq (a % 256) (b % 256) <;> simp
theorem mkS_toList (l : List Nat) : (mkS l).toList = l.map UInt8.ofNat := by
  unfold mkS
  rw [ByteArray.toList_eq]
theorem mkS_size (l : List Nat) : (mkS l).size = l.length := by simp [mkS, ByteArray.size]
end
end Go.Proofs.YtkjhjgokaeiopaaGreatDoor.E
