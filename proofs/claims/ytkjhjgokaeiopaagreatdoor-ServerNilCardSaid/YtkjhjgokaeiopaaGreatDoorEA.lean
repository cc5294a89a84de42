/-
  The engine (1): a machine of its own that runs the program on known values; tries, values, what is in memory.
-/
import Derived.Test.YtkjhjgokaeiopaaGreatDoorB
import Derived.Test.YtkjhjgokaeiopaaGreatDoorX
namespace Go.Proofs.YtkjhjgokaeiopaaGreatDoor.E
open Go Go.RowKit

/-! ### Tries -/
inductive T (α : Type) where
  | leaf
  | node (l : T α) (v : Option α) (r : T α)
def T.get {α : Type} : T α → Nat → Option α
  | .leaf, _ => none
  | .node _ v _, 0 => v
  | .node l _ r, k + 1 => bif Nat.beq (k % 2) 0 then l.get (k / 2) else r.get (k / 2)
/-- v is laid at k (or taken away): what follows is handed the trie, whole. -/
def T.set {α : Type} (v : Option α) : Nat → T α → Nat → (T α → Bool) → Bool
  | 0, _, _, _ => false
  | _ + 1, .leaf, 0, c => c (.node .leaf v .leaf)
  | _ + 1, .node l _ r, 0, c => c (.node l v r)
  | d + 1, .leaf, k + 1, c => bif Nat.beq (k % 2) 0 then T.set v d .leaf (k / 2) (fun l => c (.node l none .leaf)) else T.set v d .leaf (k / 2) (fun r => c (.node .leaf none r))
  | d + 1, .node l u r, k + 1, c => bif Nat.beq (k % 2) 0 then T.set v d l (k / 2) (fun l => c (.node l u r)) else T.set v d r (k / 2) (fun r => c (.node l u r))
theorem T.get_leaf {α : Type} (k : Nat) : (T.leaf : T α).get k = none := by cases k <;> rfl
theorem half_ne {j k : Nat} (h : j ≠ k) (hp : j % 2 = k % 2) : j / 2 ≠ k / 2 := by omega
theorem T.set_ok {α : Type} {v : Option α} : ∀ {d : Nat} {t : T α} {k : Nat} {c : T α → Bool}, T.set v d t k c = true → ∃ t', (∀ j, t'.get j = if j = k then v else t.get j) ∧ c t' = true
  | 0, _, _, _, h => by simp [T.set] at h
  | _ + 1, .leaf, 0, c, h => ⟨_, fun j => by cases j <;> simp [T.get], h⟩
  | _ + 1, .node l u r, 0, c, h => ⟨_, fun j => by cases j <;> simp [T.get], h⟩
  | d + 1, .leaf, k + 1, c, h => by
    simp only [T.set] at h
    cases hb : Nat.beq (k % 2) 0 with
    | true =>
      rw [hb] at h
      obtain ⟨l, h1, h2⟩ := T.set_ok (d := d) h
      refine ⟨_, fun j => ?_, h2⟩
      have hk : k % 2 = 0 := Nat.eq_of_beq_eq_true hb
      cases j with
      | zero => simp [T.get]
      | succ j =>
        simp only [T.get]
        cases hj : Nat.beq (j % 2) 0 with
        | true =>
          have hj' : j % 2 = 0 := Nat.eq_of_beq_eq_true hj
          simp only [cond_true, h1, T.get_leaf]
          by_cases e : j = k
          · simp [e]
          · rw [if_neg (half_ne e (by omega)), if_neg (by omega)]
        | false =>
          have hj' : j % 2 ≠ 0 := Nat.ne_of_beq_eq_false hj
          simp only [cond_false]
          rw [if_neg (by omega)]
    | false =>
      rw [hb] at h
      obtain ⟨l, h1, h2⟩ := T.set_ok (d := d) h
      refine ⟨_, fun j => ?_, h2⟩
      have hk : k % 2 ≠ 0 := Nat.ne_of_beq_eq_false hb
      cases j with
      | zero => simp [T.get]
      | succ j =>
        simp only [T.get]
        cases hj : Nat.beq (j % 2) 0 with
        | true =>
          have hj' : j % 2 = 0 := Nat.eq_of_beq_eq_true hj
          simp only [cond_true]
          rw [if_neg (by omega)]
        | false =>
          have hj' : j % 2 ≠ 0 := Nat.ne_of_beq_eq_false hj
          simp only [cond_false, h1, T.get_leaf]
          by_cases e : j = k
          · simp [e]
          · rw [if_neg (half_ne e (by omega)), if_neg (by omega)]
  | d + 1, .node l0 u r0, k + 1, c, h => by
    simp only [T.set] at h
    cases hb : Nat.beq (k % 2) 0 with
    | true =>
      rw [hb] at h
      obtain ⟨l, h1, h2⟩ := T.set_ok (d := d) h
      refine ⟨_, fun j => ?_, h2⟩
      have hk : k % 2 = 0 := Nat.eq_of_beq_eq_true hb
      cases j with
      | zero => simp [T.get]
      | succ j =>
        simp only [T.get]
        cases hj : Nat.beq (j % 2) 0 with
        | true =>
          have hj' : j % 2 = 0 := Nat.eq_of_beq_eq_true hj
          simp only [cond_true, h1]
          by_cases e : j = k
          · simp [e]
          · rw [if_neg (half_ne e (by omega)), if_neg (by omega)]
        | false =>
          have hj' : j % 2 ≠ 0 := Nat.ne_of_beq_eq_false hj
          simp only [cond_false]
          rw [if_neg (by omega)]
    | false =>
      rw [hb] at h
      obtain ⟨l, h1, h2⟩ := T.set_ok (d := d) h
      refine ⟨_, fun j => ?_, h2⟩
      have hk : k % 2 ≠ 0 := Nat.ne_of_beq_eq_false hb
      cases j with
      | zero => simp [T.get]
      | succ j =>
        simp only [T.get]
        cases hj : Nat.beq (j % 2) 0 with
        | true =>
          have hj' : j % 2 = 0 := Nat.eq_of_beq_eq_true hj
          simp only [cond_true]
          rw [if_neg (by omega)]
        | false =>
          have hj' : j % 2 ≠ 0 := Nat.ne_of_beq_eq_false hj
          simp only [cond_false, h1]
          by_cases e : j = k
          · simp [e]
          · rw [if_neg (half_ne e (by omega)), if_neg (by omega)]

/-! ### Values -/
/-- A slice's room: known, or the room of a row less what was cut off. -/
inductive Cp where
  | k (n : Nat)
  | v (id m : Nat)
/-- Values that are known but for where they lie: 'id' is a block's name. c: a constant of the program's text; op: a value whose insides do not matter. -/
inductive V where
  | c (v : Value)
  | op (i : Nat)
  | bool (b : Bool)
  | int (k : IntKind) (n : Int)
  | str (l : List Nat)
  | ptr (id off : Nat)
  | sl (id off n : Nat) (cp : Cp)
  | es (id : Nat)
  | map (id : Nat)
  | func (f : FuncId) (l : List V)
  | yield (id : Nat)
  | iface (t : TypeId) (v : V)
  | agg (l : List V)
  | tuple (l : List V)
/-- What a name stands for: a block, a place in it, a room. -/
structure A where
  b : Nat
  o : Nat
  c : Nat
/-- What the names stand for, and what the values stand for whose insides do not matter. -/
structure Env where
  σ : Nat → Value
abbrev Nm := Nat → A
/-- One cell. -/
def oneV : Value → Value
  | .agg _ => .bool false
  | .tuple _ => .bool false
  | v => v
def mkS (l : List Nat) : ByteArray := ⟨(l.map UInt8.ofNat).toArray⟩
def Cp.den (ρ : Nm) : Cp → Nat
  | .k n => n
  | .v id m => (ρ id).c - m
mutual
def V.den (σ : Nat → Value) (ρ : Nm) : V → Value
  | .c v => v
  | .op i => oneV (σ i)
  | .bool b => .bool b
  | .int k n => .int k n
  | .str l => .string (mkS l)
  | .ptr id off => .pointer (some ⟨(ρ id).b, (ρ id).o + off, none⟩)
  | .sl id off n cp => .slice (some ⟨(ρ id).b, (ρ id).o + off, none⟩) n (cp.den ρ)
  | .es id => .slice (some ⟨(ρ id).b, (ρ id).o, none⟩) 0 (ρ id).c
  | .map id => .map (some (ρ id).b)
  | .func f l => .func (.func f) #[] (denL σ ρ l).toArray
  | .yield id => .func (.yield (ρ id).b) #[] #[]
  | .iface t v => .iface t (v.den σ ρ)
  | .agg l => .agg (denL σ ρ l).toArray
  | .tuple l => .tuple (denL σ ρ l).toArray
def denL (σ : Nat → Value) (ρ : Nm) : List V → List Value
  | [] => []
  | v :: l => v.den σ ρ :: denL σ ρ l
end
theorem denL_map (σ : Nat → Value) (ρ : Nm) : ∀ l, denL σ ρ l = l.map (V.den σ ρ)
  | [] => rfl
  | v :: l => by rw [denL, denL_map σ ρ l]; rfl
theorem denL_len (σ : Nat → Value) (ρ : Nm) (l : List V) : (denL σ ρ l).length = l.length := by rw [denL_map]; simp

/-- A constant, opened. -/
def bytesOf (s : ByteArray) : List Nat := s.data.toList.map UInt8.toNat
theorem mkS_bytesOf (s : ByteArray) : mkS (bytesOf s) = s := by
  unfold mkS bytesOf
  simp [List.map_map, Function.comp_def]
def V.at : Value → V
  | .bool b => .bool b
  | .int k n => .int k n
  | .string s => .str (bytesOf s)
  | .func (.func f) ⟨[]⟩ ⟨[]⟩ => .func f []
  | v => .c v
def V.hd : V → V
  | .c (.agg a) => .agg (a.toList.map V.at)
  | .c (.tuple a) => .tuple (a.toList.map V.at)
  | .c v => V.at v
  | v => v
theorem V.at_den {σ : Nat → Value} {ρ : Nm} (v : Value) : (V.at v).den σ ρ = v := by
  unfold V.at
  split <;> simp [V.den, mkS_bytesOf, denL]
theorem denL_at (σ : Nat → Value) (ρ : Nm) (l : List Value) : denL σ ρ (l.map V.at) = l := by
  rw [denL_map, List.map_map]
  have : V.den σ ρ ∘ V.at = id := by funext v; exact V.at_den v
  rw [this]; simp
theorem V.hd_den {σ : Nat → Value} {ρ : Nm} (v : V) : v.hd.den σ ρ = v.den σ ρ := by
  unfold V.hd
  split <;> simp [V.den, denL_at, V.at_den]

/-! ### What is in memory -/
inductive O where
  /-- A block, whole (its frozen part from lo to hi); or, with tl = some z: the last part of a block of things of z cells, of which these are known. -/
  | cells (cs : List V) (e : TypeId) (lo hi : Nat) (tl : Option Nat)
  | map (es : List (V × V × Nat)) (clock : Nat)
  | iter (m : Nat) (since : Nat) (seen : List Nat) (stepped : Nat)
  | loop (st : LoopState) (pending : Option Code) (fn : FuncId) (rs : T V) (n : Nat) (params : List Tmp) (assign body : Code) (defers : Nat)
  | defd (calls : Option Unit)

structure RegsOk (σ : Nat → Value) (ρ : Nm) (n : Nat) (rs : T V) (tmps : Array Value) : Prop where
  size : tmps.size = n
  get : ∀ i v, rs.get i = some v → tmps[i]? = some (v.den σ ρ)

def O.holds (σ : Nat → Value) (ρ : Nm) (a : A) (w : World) : O → Prop
  | .cells cs e lo hi none => a.o = 0 ∧ w.heap[a.b]? = some (.cells (denL σ ρ cs).toArray e (lo, hi))
  | .cells cs e _ _ (some z) => ∃ (pre suf : List Value) (fz : Nat × Nat), w.heap[a.b]? = some (.cells (pre ++ (denL σ ρ cs ++ suf)).toArray e fz) ∧ (fz.2 ≤ fz.1 ∨ pre.length + cs.length + suf.length ≤ fz.1) ∧ pre.length = a.o ∧ cs.length + suf.length = a.c * z
  | .map es clock => w.heap[a.b]? = some (.map (es.map fun (k, v, n) => ⟨k.den σ ρ, v.den σ ρ, n⟩).toArray clock)
  | .iter m since seen st => a.o = 0 ∧ w.heap[a.b]? = some (.mapIter (some (ρ m).b) since seen.toArray st)
  | .loop st pending fn rs n params assign body d => ∃ tmps, w.heap[a.b]? = some (.loop { state := st, pending, fn, tmps, params := params.toArray, assign, body, defers := (ρ d).b }) ∧ RegsOk σ ρ n rs tmps
  | .defd none => w.heap[a.b]? = some (.deferred none)
  | .defd (some _) => w.heap[a.b]? = some (.deferred (some []))
theorem O.holds_lt {σ : Nat → Value} {ρ : Nm} {a : A} {w : World} {o : O} (h : o.holds σ ρ a w) : a.b < w.heap.size := by
  unfold O.holds at h
  split at h
  · exact lt_of_some h.2
  · obtain ⟨_, _, _, h, _⟩ := h; exact lt_of_some h
  · exact lt_of_some h
  · exact lt_of_some h.2
  · obtain ⟨_, h, _⟩ := h; exact lt_of_some h
  · exact lt_of_some h
  · exact lt_of_some h
theorem O.holds_of {σ : Nat → Value} {ρ : Nm} {a : A} {w w' : World} {o : O} (hb : w'.heap[a.b]? = w.heap[a.b]?) (h : o.holds σ ρ a w) : o.holds σ ρ a w' := by
  unfold O.holds at *
  split at h <;> simpa only [hb] using h

/-- Memory: what each name's block holds; no two names have one block. -/
structure Mem (σ : Nat → Value) (ρ : Nm) (h : T O) (w : World) : Prop where
  ok : ∀ i o, h.get i = some o → o.holds σ ρ (ρ i) w
  apart : ∀ i j o o', h.get i = some o → h.get j = some o' → i ≠ j → (ρ i).b ≠ (ρ j).b
/-- Which blocks are ours. -/
def Ours (ρ : Nm) (h : T O) (k : Nat) : Prop := ∃ i o, h.get i = some o ∧ (ρ i).b = k
/-- Nothing else turned. -/
structure Keeps (w w' : World) (F : Nat → Prop) : Prop where
  os : w'.os = w.os
  tape : w'.tape = w.tape
  output : w'.output = w.output
  size : w.heap.size ≤ w'.heap.size
  keep : ∀ k, k < w.heap.size → ¬ F k → w'.heap[k]? = w.heap[k]?
theorem Keeps.refl (w : World) (F : Nat → Prop) : Keeps w w F := ⟨rfl, rfl, rfl, Nat.le_refl _, fun _ _ _ => rfl⟩
theorem Keeps.trans {w w1 w2 : World} {F F1 : Nat → Prop} (h : Keeps w w1 F) (h1 : Keeps w1 w2 F1) (hF : ∀ k, k < w.heap.size → F1 k → F k) : Keeps w w2 F :=
  ⟨h1.os.trans h.os, h1.tape.trans h.tape, h1.output.trans h.output, Nat.le_trans h.size h1.size, fun k hk hn => (h1.keep k (Nat.lt_of_lt_of_le hk h.size) (fun q => hn (hF k hk q))).trans (h.keep k hk hn)⟩
theorem Keeps.below {w w' : World} (h : Keeps w w' (fun _ => False)) : Below w.heap.size w w' := ⟨h.os, h.tape, h.output, h.size, fun k hk => h.keep k hk (by simp)⟩
end Go.Proofs.YtkjhjgokaeiopaaGreatDoor.E
