/-
  The engine (24): regions that draw their order: what holds on the way.
-/
import Derived.Test.YtkjhjgokaeiopaaGreatDoorEX
namespace Go.Proofs.YtkjhjgokaeiopaaGreatDoor.E
open Go Go.RowKit
def Lt (n : Nat) (rs : T V) : Prop := ∀ t v, rs.get t = some v → t < n
theorem putK_raw {n : Nat} {rs : T V} {d : Option Tmp} {v : V} {k : T V → Bool} (hk : putK n rs d v k = true) : ∃ rs', k rs' = true ∧ (∀ e, d = some e → e < n) ∧ ∀ t, rs'.get t = if d = some t then some v else rs.get t := by
  cases d with
  | none => exact ⟨rs, hk, (fun _ h => by cases h), (fun t => by simp)⟩
  | some d =>
    unfold putK at hk
    dsimp only at hk
    cases hb : Nat.blt d n with
    | false => rw [hb] at hk; cases hk
    | true =>
      rw [hb] at hk
      rw [Nat.blt_eq] at hb
      obtain ⟨rs', h1, h2⟩ := T.set_ok hk
      refine ⟨rs', h2, fun e h => by cases h; exact hb, fun t => ?_⟩
      rw [h1]
      by_cases e : t = d
      · simp [e]
      · have : d ≠ t := fun q => e q.symm
        simp [e, this]
theorem T.put_ex {α : Type} : ∀ (k : Nat) (t : T α) (v : Option α), ∃ t' : T α, ∀ j, t'.get j = if j = k then v else t.get j := by
  intro k
  induction k using Nat.strongRecOn with
  | ind k ih =>
    intro t v
    have split : ∃ l u r, ∀ j, t.get j = (T.node l u r).get j := by
      cases t with
      | leaf => exact ⟨.leaf, none, .leaf, fun j => by cases j <;> simp [T.get]⟩
      | node l u r => exact ⟨l, u, r, fun _ => rfl⟩
    obtain ⟨l, u, r, hs⟩ := split
    cases k with
    | zero => exact ⟨.node l v r, fun j => by rw [hs]; cases j <;> simp [T.get]⟩
    | succ k =>
      by_cases hk : k % 2 = 0
      · obtain ⟨l', h'⟩ := ih (k / 2) (by omega) l v
        refine ⟨.node l' u r, fun j => ?_⟩
        rw [hs]
        cases j with
        | zero => simp [T.get]
        | succ j =>
          simp only [T.get]
          cases hj : Nat.beq (j % 2) 0 with
          | true =>
            have hj' := Nat.eq_of_beq_eq_true hj
            simp only [cond_true, h']
            by_cases e : j = k
            · simp [e]
            · rw [if_neg (half_ne e (by omega)), if_neg (by omega)]
          | false =>
            have hj' : j % 2 ≠ 0 := Nat.ne_of_beq_eq_false hj
            simp only [cond_false]
            rw [if_neg (by omega)]
      · obtain ⟨r', h'⟩ := ih (k / 2) (by omega) r v
        refine ⟨.node l u r', fun j => ?_⟩
        rw [hs]
        cases j with
        | zero => simp [T.get]
        | succ j =>
          simp only [T.get]
          cases hj : Nat.beq (j % 2) 0 with
          | true =>
            have hj' := Nat.eq_of_beq_eq_true hj
            simp only [cond_true]
            rw [if_neg (by omega)]
          | false =>
            have hj' : j % 2 ≠ 0 := Nat.ne_of_beq_eq_false hj
            simp only [cond_false, h']
            by_cases e : j = k
            · simp [e]
            · rw [if_neg (half_ne e (by omega)), if_neg (by omega)]
theorem MSpec.ex (b : Nat → Bool) : ∀ (G : Gm) (h : T O), ∃ h', MSpec b G h h'
  | [], h => ⟨h, fun j => .inr ⟨by simp, rfl⟩⟩
  | (i, o, x) :: G, h => by
    cases hb : b i with
    | false =>
      obtain ⟨h', m⟩ := MSpec.ex b G h
      exact ⟨h', m.skip fun q => by dsimp only at q; rw [hb] at q; cases q⟩
    | true =>
      cases x with
      | un => obtain ⟨h', m⟩ := MSpec.ex b G h; exact ⟨h', m.skip fun _ _ _ _ q => by cases q⟩
      | q v => obtain ⟨h', m⟩ := MSpec.ex b G h; exact ⟨h', m.skip fun _ _ _ _ q => by cases q⟩
      | a v id ob =>
        obtain ⟨h1, t1⟩ := T.put_ex id h (some ob)
        obtain ⟨h', m⟩ := MSpec.ex b G h1
        exact ⟨h', m.put hb t1⟩
theorem tmpsOf_mem {t : Nat} : ∀ {l : List Operand}, Operand.tmp t ∈ l → t ∈ tmpsOf l
  | [], h => by cases h
  | x :: l, h => by
    rcases List.mem_cons.1 h with rfl | h
    · exact List.mem_cons_self ..
    · have := tmpsOf_mem h
      cases x <;> simp [tmpsOf, this]
theorem looks_op {ops : Array Oper} {o : Oper} {t : Nat} (h : Operand.tmp t ∈ o.op.operands) : t ∈ looks ops o := by
  have h1 := tmpsOf_mem (Array.mem_toList_iff.2 h)
  unfold looks
  split
  · exact h1
  · split
    · exact List.mem_cons_of_mem _ h1
    · exact h1
theorem looks_guard {ops : Array Oper} {o : Oper} {g : Nat} {b : Bool} {t : Tmp} (h : o.guard = some (g, b)) (ht : (ops[g]?).bind (·.dst) = some t) : t ∈ looks ops o := by
  unfold looks
  rw [h]
  dsimp only
  rw [ht]
  exact List.mem_cons_self ..
theorem wantV_congr {ops : Array Oper} {o : Oper} {rs rs' : T V} (h : ∀ t ∈ looks ops o, rs.get t = rs'.get t) : wantV ops rs o = wantV ops rs' o := by
  unfold wantV
  cases hg : o.guard with
  | none => rfl
  | some gb =>
    obtain ⟨g, b⟩ := gb
    dsimp only
    cases ht : (ops[g]?).bind (·.dst) with
    | none => rfl
    | some t => dsimp only; rw [h t (looks_guard hg ht)]
section
variable {P : Program} {σ : Nat → Value} {tb : Tb} {ops : Array Oper} {n : Nat}
def plusA (σ : Nat → Value) (ρ : Nm) (n : Nat) (rs : T V) (tmps : Array Value) : Array Value := Array.ofFn (n := n) fun t => match rs.get t.val with
  | some v => v.den σ ρ
  | none => tmps.getD t.val undef
/-- Registers that are as they are to be: what an operation does depends on those that it looks at. -/
theorem run_plus {ρ : Nm} {o : Oper} {rs : T V} {tmps : Array Value} (hs : notSel o.op = true) (hsz : tmps.size = n) (hlt : Lt n rs) (hag : ∀ t ∈ looks ops o, ∀ v, rs.get t = some v → tmps[t]? = some (v.den σ ρ)) :
    RegsOk σ ρ n rs (plusA σ ρ n rs tmps) ∧ execOp (⟨plusA σ ρ n rs tmps, []⟩ : Act).eval o = execOp (⟨tmps, []⟩ : Act).eval o ∧ Region.wanted o (yielded ops (plusA σ ρ n rs tmps)) = Region.wanted o (yielded ops tmps) := by
  have hget : ∀ t, t < n → (plusA σ ρ n rs tmps)[t]? = some (match rs.get t with
      | some v => v.den σ ρ
      | none => tmps.getD t undef) := fun t ht => by simp [plusA, ht]
  have hsize : (plusA σ ρ n rs tmps).size = n := by simp [plusA]
  have hsame : ∀ t ∈ looks ops o, (plusA σ ρ n rs tmps)[t]? = tmps[t]? := fun t ht => by
    by_cases hl : t < n
    · rw [hget t hl]
      cases hr : rs.get t with
      | some v => exact (hag t ht v hr).symm
      | none => simp [hsz, hl]
    · rw [Array.getElem?_eq_none (by omega), Array.getElem?_eq_none (by omega)]
  refine ⟨⟨hsize, fun t v ht => ?_⟩, ?_, ?_⟩
  · rw [hget t (hlt t v ht), ht]
  · refine execOp_congr o (fun cs b e => by rw [e] at hs; cases hs) fun x hx => ?_
    cases x with
    | tmp t =>
      have := hsame t (looks_op hx)
      simp only [Act.eval, Array.getD_eq_getD_getElem?, this]
    | const v => rfl
    | global g => rfl
    | func f => rfl
  · unfold Region.wanted
    cases hg : o.guard with
    | none => rfl
    | some gb =>
      obtain ⟨g, b⟩ := gb
      dsimp only
      unfold yielded
      cases ht : (ops[g]?).bind (·.dst) with
      | none => rfl
      | some t => simp only [Option.bind_some, hsame t (looks_guard hg ht)]
/-- What is told of an entry that is not yet done. -/
def Told (P : Program) (tb : Tb) (ops : Array Oper) (rs : T V) (h : T O) (D : Nat → Prop) (e : Nat × Oper × W) : Prop := match e.2.2 with
  | .un => wantV ops rs e.2.1 = some false
  | .q v => wantV ops rs e.2.1 = some true ∧ pv P tb rs h e.2.1 = some v
  | .a v id ob => wantV ops rs e.2.1 = some true ∧ afx tb rs id e.2.1 = some ⟨v, none, some (id, ob)⟩ ∧ ¬ D id
def Ordd (S : Nat → Bool) : Gm → Prop
  | [] => True
  | e :: G => Ahead (fun p => S p = true ∨ ∃ e' ∈ G, e'.1 = p) e.2.1 ∧ Ordd S G
structure RI (P : Program) (σ : Nat → Value) (tb : Tb) (ops : Array Oper) (n : Nat) (D0 : Nat → Prop) (C0 : Nm) (c0 : Nat) (h0 : T O) (w0 : World) (S : Nat → Bool) (m : Nat) (rs : T V) (h : T O) (c : Nat) (G : Gm) (D : Nat → Prop) (C : Nm) (tmps : Array Value) (w : World) : Prop where
  sub : ∀ i, S i = true → Nat.testBit m i = true
  out : ∀ i, Nat.testBit m i = true → S i = true ∨ ∃ e ∈ G, e.1 = i
  dnS : ∀ j b, S j = true → (masks ops.toList [])[j]? = some b → ∀ i, Nat.testBit b i = true → S i = true
  dnm : ∀ j b, Nat.testBit m j = true → (masks ops.toList [])[j]? = some b → ∀ i, Nat.testBit b i = true → Nat.testBit m i = true
  ent : ∀ e ∈ G, ops[e.1]? = some e.2.1 ∧ Nat.testBit m e.1 = true ∧ ∀ d, e.2.1.dst = some d → barq ops e.1 d ops.toList (masks ops.toList []) = false ∧ rs.get d = some e.2.2.val
  ids : ∀ e ∈ G, ∀ v id ob, e.2.2 = .a v id ob → c0 ≤ id ∧ id < c ∧ h.get id = none
  one : ∀ e ∈ G, ∀ e' ∈ G, e.1 = e'.1 → e = e'
  uniq : ∀ e ∈ G, ∀ e' ∈ G, ∀ v v' id ob ob', e.2.2 = .a v id ob → e'.2.2 = .a v' id ob' → e = e'
  ord : Ordd S G
  pend : ∀ e ∈ G, S e.1 = false → ∃ rsi, (∀ t ∈ looks ops e.2.1, rsi.get t = rs.get t) ∧ Lt n rsi ∧ Told P tb ops rsi h D e
  regs : At D C fun ρ => ∀ t v, rs.get t = some v → (∀ e ∈ G, S e.1 = false → e.2.1.dst ≠ some t) → tmps[t]? = some (v.den σ ρ)
  size : tmps.size = n
  ltn : Lt n rs
  mem : ∃ hS, MSpec S G h hS ∧ At D C (fun ρ => Mem σ ρ hS w) ∧ Ext D0 D C0 C c0 c h0 hS w0 w
theorem Ordd.mono {S S' : Nat → Bool} (hS : ∀ i, S i = true → S' i = true) : ∀ {G : Gm}, Ordd S G → Ordd S' G
  | [], _ => trivial
  | _ :: _, ⟨h1, h2⟩ => ⟨fun e he hb => (h1 e he hb).imp (hS _) id, Ordd.mono hS h2⟩
theorem Ordd.filter {S : Nat → Bool} {b : Nat → Bool} (hb : ∀ i, b i = true → S i = true) : ∀ {G : Gm}, Ordd S G → Ordd S (G.filter fun e => !b e.1)
  | [], _ => trivial
  | e :: G, ⟨h1, h2⟩ => by
    have ih := Ordd.filter hb h2
    cases he : b e.1 with
    | true => simp [he]; simpa using ih
    | false =>
      simp only [List.filter_cons, he, Bool.not_false, if_true]
      refine ⟨fun x hx hxb => ?_, ih⟩
      rcases h1 x hx hxb with q | ⟨e', q1, q2⟩
      · exact .inl q
      · cases hb' : b e'.1 with
        | true => exact .inl (by rw [← q2]; exact hb _ hb')
        | false => exact .inr ⟨e', List.mem_filter.2 ⟨q1, by simp [hb']⟩, q2⟩
/-- If something is not done, then something that is not done may be done. -/
theorem Ordd.next {S : Nat → Bool} : ∀ {G : Gm}, Ordd S G → (∃ e ∈ G, S e.1 = false) → ∃ e ∈ G, S e.1 = false ∧ Ahead (fun p => S p = true) e.2.1
  | [], _, ⟨e, he, _⟩ => by cases he
  | e :: G, ⟨h1, h2⟩, hx => by
    by_cases hG : ∃ e' ∈ G, S e'.1 = false
    · obtain ⟨e', q1, q2⟩ := Ordd.next h2 hG
      exact ⟨e', List.mem_cons_of_mem _ q1, q2⟩
    · obtain ⟨e', q1, q2⟩ := hx
      rcases List.mem_cons.1 q1 with rfl | q1
      · refine ⟨e', List.mem_cons_self .., q2, fun x hx hxb => ?_⟩
        rcases h1 x hx hxb with q | ⟨e'', r1, r2⟩
        · exact q
        · cases hs : S e''.1 with
          | true => rw [← r2]; exact hs
          | false => exact absurd ⟨e'', r1, hs⟩ hG
      · exact absurd ⟨e', q1, q2⟩ hG
theorem Mem.congr {ρ : Nm} {h h' : T O} {w : World} (hm : Mem σ ρ h w) (hh : ∀ j o, h'.get j = some o → h.get j = some o) : Mem σ ρ h' w :=
  ⟨fun i o hi => hm.ok i o (hh i o hi), fun i j o o' hi hj => hm.apart i j o o' (hh i o hi) (hh j o' hj)⟩
end
end Go.Proofs.YtkjhjgokaeiopaaGreatDoor.E
