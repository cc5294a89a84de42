/-
  A region that draws its order: what only reads, and calls that leave what was there alone, are taken first; the rest comes up in any order.
-/
import Derived.Test.YtpoelkfncpjmfaaG
import Derived.Test.YtpoelkfncpjmfaaX
namespace Go.Proofs.Ytpoelkfncpjmfaa
open Go Go.RowKit
section
variable {P : Program} {ops : Array Oper} {Q : Exit → Act → World → Prop} {J : World → Prop}
/-- What holds may hold in a world that has grown, too. -/
def Clo (A : Act → World → Prop) : Prop := ∀ a w w', A a w → Below w.heap.size w w' → A a w'
/-- All orders from here on, by what holds behind each operation. -/
def GA (P : Program) (ops : Array Oper) (Q : Exit → Act → World → Prop) (J : World → Prop) : Nat → Array Bool → (Act → World → Prop) → Prop
  | 0, listed, A => ∀ a w, A a w → Region.ready .any ops listed = [] ∧ Q .normal a w
  | n + 1, listed, A => (Region.ready .any ops listed = [] → ∀ a w, A a w → Q .normal a w) ∧
    ∀ i ∈ Region.ready .any ops listed, ∃ B : Act → World → Prop, Clo B ∧ (∀ a w, B a w → J w) ∧ (∀ a w, A a w → wpOp P ops Q i B a w) ∧ GA P ops Q J n (listed.setIfInBounds i true) B
theorem GA.mono {A A' : Act → World → Prop} (hA : ∀ a w, A' a w → A a w) : ∀ {n : Nat} {listed : Array Bool}, GA P ops Q J n listed A → GA P ops Q J n listed A'
  | 0, _, h => fun a w ha => h a w (hA a w ha)
  | _ + 1, _, h => ⟨fun hr a w ha => h.1 hr a w (hA a w ha), fun i hi => by
      obtain ⟨B, h1, h2, h3, h4⟩ := h.2 i hi
      exact ⟨B, h1, h2, fun a w ha => h3 a w (hA a w ha), h4⟩⟩
theorem GA.sound : ∀ {n : Nat} {listed : Array Bool} {A : Act → World → Prop}, GA P ops Q J n listed A → ∀ a w, A a w → wpAny P .any ops Q n listed a w
  | 0, _, _, h, a, w, ha => h a w ha
  | _ + 1, _, _, h, a, w, ha => ⟨fun hr => h.1 hr a w ha, fun i hi => by
      obtain ⟨B, _, _, h3, h4⟩ := h.2 i hi
      exact wpOp_mono (fun a w hb => h4.sound a w hb) (h3 a w ha)⟩

/-- The operation is wanted, and Y tells of what it does. -/
def Sees (ops : Array Oper) (Y : Bool → Sem Next → Prop) (o : Oper) (a : Act) : Prop := Y (Region.wanted o (yielded ops a.tmps)) (execOp a.eval o)
theorem Sees.same {Y : Bool → Sem Next → Prop} {o : Oper} {a a' : Act} (h : Sees ops Y o a) (he : execOp a'.eval o = execOp a.eval o) (hw : Region.wanted o (yielded ops a'.tmps) = Region.wanted o (yielded ops a.tmps)) : Sees ops Y o a' := by
  unfold Sees at *
  rw [he, hw]; exact h
/-- Another operation goes ahead of one that is apart from it. -/
theorem wpOp_ahead {j : Nat} {oi oj : Oper} {v : Value} {Y : Bool → Sem Next → Prop} (hj : ops[j]? = some oj) (hap : oi.apart ops oj = true) (hsi : ∀ cs b, oi.op ≠ .select cs b) (hsj : ∀ cs b, oj.op ≠ .select cs b)
    (hQ : ∀ c a w, Q (.panic c) (a.put oi.dst v) w → Q (.panic c) a w) {K : Act → World → Prop} {a : Act} {w : World} (hy : Sees ops Y oi a) (h : wpOp P ops Q j K (a.put oi.dst v) w) :
    wpOp P ops Q j (fun b w' => Sees ops Y oi b ∧ K (b.put oi.dst v) w') a w := by
  obtain ⟨h1, h2, h3⟩ := Oper.apart_spec hap
  have hk : ∀ b u, Sees ops Y oi b → Sees ops Y oi (b.put oj.dst u) := fun b u hb => hb.same (execOp_put oi hsi b oj.dst u h3) (wanted_put oi b oj.dst u h3)
  have hd : ∀ d, Sees ops Y oi { a with defers := d :: a.defers } := fun d => hy.same rfl rfl
  have he := execOp_put oj hsj a oi.dst v h1
  have hw := wanted_put oj a oi.dst v h1
  unfold wpOp at *
  rw [hj] at h ⊢
  dsimp only at h ⊢
  rw [hw] at h
  by_cases hwt : Region.wanted oj (yielded ops a.tmps) = true
  · rw [if_pos hwt] at h ⊢
    rcases h with h | ⟨hasks, hlets⟩
    · left
      unfold Oper.wp at *
      rw [he] at h
      generalize (execOp a.eval oj).run P w = r at *
      match r, h with
      | .ok (.value u) w', h => exact ⟨hk a u hy, by rw [← Act.put_comm a v u h2]; exact h⟩
      | .ok .skip w', h => exact ⟨hk a undef hy, by rw [← Act.put_comm a v undef h2]; exact h⟩
      | .ok (.defer d) w', h => exact ⟨hk _ undef (hd d), by rw [← Act.put_comm _ v undef h2, ← Act.put_defers]; exact h⟩
      | .ok (.enter f args) w', h =>
        refine Calls.mono h fun e w2 hx => ?_
        match e, hx with
        | .returned u, hx => exact ⟨hk a u hy, by rw [← Act.put_comm a v u h2]; exact hx⟩
        | .panicked c, hx => exact hQ _ _ _ hx
        | .outgrown, hx => exact hx
      | .ok (.row r args) w', h => exact Rows.mono h fun u w2 hx => ⟨hk a u hy, by rw [← Act.put_comm a v u h2]; exact hx⟩
      | .ok (.spawn _) _, h => exact h
      | .ok (.comm _ _ _) _, h => exact h
      | .halt x _, h => cases x <;> first | exact hQ _ _ _ h | exact h
    · exact .inr ⟨by unfold Oper.asks at *; rw [he] at hasks; exact hasks, hlets⟩
  · rw [if_neg hwt] at h ⊢
    exact ⟨hk a undef hy, by rw [← Act.put_comm a v undef h2]; exact h⟩
/-- In every world that meets J: it yields v, and leaves the world alone; or it is a call that does, but for what it lays anew. -/
def Tells (P : Program) (J : World → Prop) (v : Value) (b : Bool) (s : Sem Next) : Prop :=
  (b = false ∧ v = undef) ∨ b = true ∧ ((∀ w, J w → s.run P w = .ok (.value v) w) ∨ ∃ f args, (∀ w, s.run P w = .ok (.enter f args) w) ∧ ∀ w, J w → Calls P f args w fun e w' => e = .returned v ∧ Below w.heap.size w w')
theorem GA.take {i : Nat} {oi : Oper} {v : Value} (hi : ops[i]? = some oi) (hsel : ∀ (j : Nat) (o : Oper) cs b, ops[j]? = some o → o.op ≠ .select cs b) (hQ : ∀ c a w, Q (.panic c) (a.put oi.dst v) w → Q (.panic c) a w) :
    ∀ {n : Nat} {listed : Array Bool} {A : Act → World → Prop}, (∀ j oj, ops[j]? = some oj → j ≠ i → listed.getD j true = false → (∀ e ∈ oj.after, Region.binds .any e = true → e.on ≠ i) → oi.apart ops oj = true) →
      i ∈ Region.ready .any ops listed → Clo A → (∀ a w, A a w → J w ∧ Sees ops (Tells P J v) oi a) →
      GA P ops Q J n (listed.setIfInBounds i true) (fun a w => ∃ a0, a = a0.put oi.dst v ∧ A a0 w) → GA P ops Q J (n + 1) listed A := by
  intro n
  have own : ∀ {listed : Array Bool} {A : Act → World → Prop}, Clo A → (∀ a w, A a w → J w ∧ Sees ops (Tells P J v) oi a) → ∀ a w, A a w → wpOp P ops Q i (fun a w => ∃ a0, a = a0.put oi.dst v ∧ A a0 w) a w := by
    intro listed A hC hA a w ha
    obtain ⟨hJ, ht⟩ := hA a w ha
    unfold wpOp
    rw [hi]
    dsimp only
    rcases ht with ⟨hw, rfl⟩ | ⟨hw, ht⟩
    · rw [if_neg (by rw [hw]; simp)]; exact ⟨a, rfl, ha⟩
    rw [if_pos hw]
    left
    unfold Oper.wp
    rcases ht with ht | ⟨f, args, h1, h2⟩
    · rw [ht w hJ]; exact ⟨a, rfl, ha⟩
    · rw [h1 w]
      exact (h2 w hJ).mono fun e w' ⟨he, hb⟩ => by subst he; exact ⟨a, rfl, hC a w w' ha hb⟩
  have cloP : ∀ {A : Act → World → Prop}, Clo A → Clo (fun a w => ∃ a0, a = a0.put oi.dst v ∧ A a0 w) := fun hC a w w' ⟨a0, h1, h2⟩ hb => ⟨a0, h1, hC a0 w w' h2 hb⟩
  induction n with
  | zero =>
    intro listed A hfree hr hC hA H
    refine ⟨fun h => (by rw [h] at hr; cases hr), fun j hj => ?_⟩
    by_cases hji : j = i
    · subst hji
      exact ⟨_, cloP hC, fun a w ⟨a0, _, h⟩ => (hA a0 w h).1, own (listed := listed) hC hA, H⟩
    · refine ⟨fun _ _ => False, fun _ _ _ h => h.elim, fun _ _ h => h.elim, fun a w ha => ?_, fun _ _ h => h.elim⟩
      have := ready_mono hj hji
      rw [(H _ _ ⟨a, rfl, ha⟩).1] at this; cases this
  | succ n ih =>
    intro listed A hfree hr hC hA H
    refine ⟨fun h => (by rw [h] at hr; cases hr), fun j hj => ?_⟩
    by_cases hji : j = i
    · subst hji
      exact ⟨_, cloP hC, fun a w ⟨a0, _, h⟩ => (hA a0 w h).1, own (listed := listed) hC hA, H⟩
    · obtain ⟨B, hB, hBJ, hAB, hG⟩ := H.2 j (ready_mono hj hji)
      obtain ⟨hjun, oj, hoj, hall⟩ := mem_ready.1 hj
      have hnot : ∀ e ∈ oj.after, Region.binds .any e = true → e.on ≠ i := fun e he hb heq => by
        have h1 := hall e he hb
        have h0 := (mem_ready.1 hr).1
        rw [heq] at h1
        rcases Nat.lt_or_ge i listed.size with h' | h'
        · simp [h'] at h0 h1; rw [h0] at h1; cases h1
        · simp [Array.getElem?_eq_none h'] at h1
      have hap := hfree j oj hoj hji hjun hnot
      refine ⟨fun a w => (J w ∧ Sees ops (Tells P J v) oi a) ∧ B (a.put oi.dst v) w, fun a w w' ⟨⟨_, h2⟩, h3⟩ hb => ⟨⟨hBJ _ _ (hB _ _ _ h3 hb), h2⟩, hB _ _ _ h3 hb⟩, fun a w h => h.1.1, fun a w ha => ?_, ?_⟩
      · have := wpOp_ahead hoj hap (fun cs b => hsel i oi cs b hi) (fun cs b => hsel j oj cs b hoj) hQ (hA a w ha).2 (hAB _ _ ⟨a, rfl, ha⟩)
        exact wpOp_mono (fun a w h => ⟨⟨hBJ _ _ h.2, h.1⟩, h.2⟩) this
      · refine ih (fun k ok hk hki hun hno => ?_) (ready_mono hr (Ne.symm hji)) (fun a w w' ⟨⟨_, h2⟩, h3⟩ hb => ⟨⟨hBJ _ _ (hB _ _ _ h3 hb), h2⟩, hB _ _ _ h3 hb⟩) (fun a w h => h.1) ?_
        · refine hfree k ok hk hki ?_ hno
          by_cases hjk : j = k
          · subst hjk; exact hjun
          · rw [getD_set_ne true hjk] at hun; exact hun
        · rw [Array.setIfInBounds_comm _ _ hji]
          exact hG.mono fun a w ⟨a0, h1, h2⟩ => by subst h1; exact h2.2
end
section
variable {P : Program} {N : Nat} {R : Regs} {Q : Exit → Act → World → Prop} {ops : Array Oper} {W0 : World} {F : List Nat} {L : List Ent} {o : Oper} {fuel : Nat} {listed : Array Bool} {J : World → Prop}
def GR (N : Nat) (R : Regs) (W0 : World) (F : List Nat) (L : List Ent) : Act → World → Prop := fun a w => Rf N R a ∧ St W0 F L w
theorem GR.clo : Clo (GR N R W0 F L) := fun _ _ _ ⟨h1, h2⟩ hb => ⟨h1, by simpa using h2.then (St.of_below hb)⟩
theorem k_start {id : Nat} {l : List Oper} (J : World → Prop) (hm : P.follows .mixedOrders = true) (h : GA P l.toArray Q J l.length (Array.replicate l.length false) (GR N R W0 F L)) : G N R (St W0 F L) ((Code.region id l.toArray true).wp P Q) :=
  fun a w hR hS => wp_region_any hm (by simpa using h.sound a _ ⟨hR, hS.drew⟩)
theorem GA.ex {α : Type} {A : α → Act → World → Prop} : ∀ {n : Nat} {listed : Array Bool}, (∀ x, GA P ops Q J n listed (A x)) → GA P ops Q J n listed (fun a w => ∃ x, A x a w)
  | 0, _, h => fun a w ⟨x, hx⟩ => h x a w hx
  | n + 1, _, h => ⟨fun hr a w ⟨x, hx⟩ => (h x).1 hr a w hx, fun i hi => by
      have key := fun x => (h x).2 i hi
      exact ⟨fun a w => ∃ x, Classical.choose (key x) a w, fun a w w' ⟨x, hx⟩ hb => ⟨x, (Classical.choose_spec (key x)).1 a w w' hx hb⟩, fun a w ⟨x, hx⟩ => (Classical.choose_spec (key x)).2.1 a w hx,
        fun a w ⟨x, hx⟩ => wpOp_mono (fun a w hb => ⟨x, hb⟩) ((Classical.choose_spec (key x)).2.2.1 a w hx), GA.ex (fun x => (Classical.choose_spec (key x)).2.2.2)⟩⟩
/-- The three tests of what is taken first, as one. -/
def may (ops : Array Oper) (listed : Array Bool) (k : Nat) : Bool := Region.noSelect ops && (Region.free .any ops listed k && (Region.ready .any ops listed).contains k)
theorem k_taken (k : Nat) {d : Nat} {v : Value} (hk : ops[k]? = some o) (hm : may ops listed k = true) (hQ : ∀ c a w d v, Q (.panic c) (a.put (some d) v) w → Q (.panic c) a w) (hw : want ops R o = some true) (hd : o.dst = some d) (hN : Nat.blt d N = true)
    (hJ : ∀ w, St W0 F L w → J w) (ht : ∀ a, Rf N R a → Tells P J v true (execOp a.eval o)) (h : GA P ops Q J fuel (listed.setIfInBounds k true) (GR N ((d, v) :: R) W0 F L)) : GA P ops Q J (fuel + 1) listed (GR N R W0 F L) := by
  unfold may at hm
  rw [Bool.and_eq_true, Bool.and_eq_true] at hm
  refine GA.take (v := v) hk (Region.noSelect_spec hm.1) (fun c a w h => hQ c a w d v (by rw [hd] at h; exact h)) (Region.free_spec hk hm.2.1) (by simpa using hm.2.2) GR.clo (fun a w ha => ⟨hJ w ha.2, by unfold Sees; rw [wanted_of hw ha.1]; exact ht a ha.1⟩) (h.mono fun a w ⟨a0, h1, h2⟩ => ?_)
  subst h1
  rw [hd]
  exact ⟨h2.1.put hN, h2.2⟩
theorem k_untold (k : Nat) {d : Nat} (hk : ops[k]? = some o) (hm : may ops listed k = true) (hQ : ∀ c a w d v, Q (.panic c) (a.put (some d) v) w → Q (.panic c) a w) (hw : want ops R o = some false) (hd : o.dst = some d) (hN : Nat.blt d N = true)
    (hJ : ∀ w, St W0 F L w → J w) (h : GA P ops Q J fuel (listed.setIfInBounds k true) (GR N ((d, undef) :: R) W0 F L)) : GA P ops Q J (fuel + 1) listed (GR N R W0 F L) := by
  unfold may at hm
  rw [Bool.and_eq_true, Bool.and_eq_true] at hm
  refine GA.take (v := undef) hk (Region.noSelect_spec hm.1) (fun c a w h => hQ c a w d undef (by rw [hd] at h; exact h)) (Region.free_spec hk hm.2.1) (by simpa using hm.2.2) GR.clo (fun a w ha => ⟨hJ w ha.2, by unfold Sees; rw [wanted_of hw ha.1]; exact .inl ⟨rfl, rfl⟩⟩) (h.mono fun a w ⟨a0, h1, h2⟩ => ?_)
  subst h1
  rw [hd]
  exact ⟨h2.1.put hN, h2.2⟩
theorem k_take (k : Nat) {d : Nat} {v : Value} (hk : ops[k]? = some o) (hm : may ops listed k = true) (hQ : ∀ c a w d v, Q (.panic c) (a.put (some d) v) w → Q (.panic c) a w) (hw : want ops R o = some true) (hd : o.dst = some d) (hN : Nat.blt d N = true)
    (hJ : ∀ w, St W0 F L w → J w) (hv : Yv P N R J o v) (h : GA P ops Q J fuel (listed.setIfInBounds k true) (GR N ((d, v) :: R) W0 F L)) : GA P ops Q J (fuel + 1) listed (GR N R W0 F L) :=
  k_taken k hk hm hQ hw hd hN hJ (fun a hR => .inr ⟨rfl, .inl fun w hw => hv a w hR hw⟩) h
theorem k_call {I : World → Prop} {ty : TypeId} {pos : String} {af : Array Edge} {gd : Option (Nat × Bool)} (k : Nat) {d : Nat} {v : Value} {f : FuncId} {xs : List Operand} {ats : Array TypeId} {vs : List Value} (m : Meets P I f vs (fun _ : Unit => v) [] (fun _ => [])) (hI : ∀ w, J w → I w)
    (hk : ops[k]? = some ⟨some d, .call { callee := .value (.func f), args := xs.toArray, argTypes := ats }, ty, pos, af, gd⟩) (hm : may ops listed k = true) (hQ : ∀ c a w d v, Q (.panic c) (a.put (some d) v) w → Q (.panic c) a w)
    (hw : want ops R ⟨some d, .call { callee := .value (.func f), args := xs.toArray, argTypes := ats }, ty, pos, af, gd⟩ = some true) (hN : Nat.blt d N = true) (hx : xs.mapM (ev R) = some vs)
    (hJ : ∀ w, St W0 F L w → J w) (h : GA P ops Q J fuel (listed.setIfInBounds k true) (GR N ((d, v) :: R) W0 F L)) : GA P ops Q J (fuel + 1) listed (GR N R W0 F L) :=
  k_taken k hk hm hQ hw rfl hN hJ (fun a hR => .inr ⟨rfl, .inr ⟨f, vs.toArray, fun w => run_call hR hx m.1, fun w hw => (m.2 w [] (hI w hw) (St.refl w)).mono fun _ _ ⟨_, he, hb⟩ => ⟨he, hb.below⟩⟩⟩) h
def Step (P : Program) (ops : Array Oper) (Q : Exit → Act → World → Prop) (J : World → Prop) (n : Nat) (listed : Array Bool) (A : Act → World → Prop) (i : Nat) : Prop :=
  ∃ B : Act → World → Prop, Clo B ∧ (∀ a w, B a w → J w) ∧ (∀ a w, A a w → wpOp P ops Q i B a w) ∧ GA P ops Q J n (listed.setIfInBounds i true) B
theorem k_all (rs : List Nat) (hr : Region.ready .any ops listed = rs) (hne : rs ≠ []) (h : AllL (Step P ops Q J fuel listed (GR N R W0 F L)) rs) : GA P ops Q J (fuel + 1) listed (GR N R W0 F L) :=
  ⟨fun h0 => absurd (hr.symm.trans h0) hne, fun i hi => AllL.get h i (hr ▸ hi)⟩
theorem k_one (k : Nat) (hr : Region.ready .any ops listed = [k]) (h : Step P ops Q J fuel listed (GR N R W0 F L) k) : GA P ops Q J (fuel + 1) listed (GR N R W0 F L) := k_all [k] hr (by simp) ⟨h, trivial⟩
/-- Whatever the operation leads to: from there on all orders are well. -/
def KB (P : Program) (ops : Array Oper) (Q : Exit → Act → World → Prop) (J : World → Prop) (n : Nat) (listed : Array Bool) (N : Nat) (W0 : World) (F : List Nat) : Act → World → Prop :=
  fun a w => ∃ R L, GR N R W0 F L a w ∧ (∀ w, St W0 F L w → J w) ∧ GA P ops Q J n listed (GR N R W0 F L)
theorem k_op (k : Nat) (hk : ops[k]? = some o) (h : G N R (St W0 F L) (wpList P ops (Qn (KB P ops Q J fuel (listed.setIfInBounds k true) N W0 F) Q) [o])) : Step P ops Q J fuel listed (GR N R W0 F L) k :=
  ⟨_, fun _ _ _ ⟨R, L, h1, h2⟩ hb => ⟨R, L, GR.clo _ _ _ h1 hb, h2⟩, fun _ _ ⟨_, _, h1, h2, _⟩ => h2 _ h1.2, fun a w ha => w_op k hk h a w ha.1 ha.2,
    (GA.ex (A := fun (x : {x : Regs × List Ent // GA P ops Q J fuel (listed.setIfInBounds k true) (GR N x.1 W0 F x.2)}) => GR N x.1.1 W0 F x.1.2) (fun x => x.2)).mono fun _ _ ⟨R, L, h1, _, h3⟩ => ⟨⟨(R, L), h3⟩, h1⟩⟩
theorem k_end (hJ : ∀ w, St W0 F L w → J w) (h : GA P ops Q J fuel listed (GR N R W0 F L)) : G N R (St W0 F L) (Qn (KB P ops Q J fuel listed N W0 F) Q .normal) := fun _ _ hR hS => ⟨R, L, ⟨hR, hS⟩, hJ, h⟩
theorem k_done (hr : Region.ready .any ops listed = []) (h : G N R (St W0 F L) (Q .normal)) : ∀ {n : Nat}, GA P ops Q J n listed (GR N R W0 F L)
  | 0 => fun a w ha => ⟨hr, h a w ha.1 ha.2⟩
  | _ + 1 => ⟨fun _ a w ha => h a w ha.1 ha.2, fun i hi => by rw [hr] at hi; cases hi⟩
end
end Go.Proofs.Ytpoelkfncpjmfaa
