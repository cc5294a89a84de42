/- Plain texts and what they are parsed to. -/
import Derived.Test.YtpoelkfncpjmfaaPbm
namespace Go.Proofs.Ytpoelkfncpjmfaa
open Go Go.RowKit

def plainC (c : UInt8) : Prop := (97 ≤ c.toNat ∧ c.toNat ≤ 122) ∨ (65 ≤ c.toNat ∧ c.toNat ≤ 90) ∨ (48 ≤ c.toNat ∧ c.toNat ≤ 57)
theorem okX_of {ext : Bool} {c : UInt8} (h : okC c) : okX ext c := by unfold okC at h; unfold okX; exact ⟨h.1, h.2.1, h.2.2.1, h.2.2.2.1, fun _ => h.2.2.2.2⟩
theorem LStep_plain {ext : Bool} {c : UInt8} {l : List UInt8} {ts : List Tok} {d : Int} {o : Option (List UInt8 × List Tok × Int)} (hc : okX ext c) (h : LStep ext (c :: l) ts d o) : o = some (l, tokX ext c ts d) := by
  unfold okX at hc
  cases h with
  | plain _ e => rw [e]
  | iv h he hi => have := hc.2.2.2.2 he; omega
  | iv0 h he hi => have := hc.2.2.2.2 he; omega
  | lits h he ha => omega
  | _ => omega
theorem Lex_plain {ext : Bool} : ∀ (l : List UInt8) (ts : List Tok) (d : Int) (o : Option (List Tok)), (∀ c, c ∈ l → okX ext c) → Lex ext l ts d o → o = tokF (tokX ext) l ts d
  | [], ts, d, o, _, h => by
    cases h with
    | done h => rw [tokF, if_pos h]
    | deep h => rw [tokF, if_neg h]
    | fail h => cases h
    | neg h hd => cases h
    | next h hd ho => cases h
  | c :: l, ts, d, o, hc, h => by
    have h1 := hc c (List.mem_cons_self ..)
    cases h with
    | fail h => cases LStep_plain h1 h
    | neg h hd =>
      injection LStep_plain h1 h with e
      injection e with _ e2
      rw [tokF, ← e2, if_pos hd]
    | next h hd ho =>
      injection LStep_plain h1 h with e
      injection e with e1 e2
      subst e1
      rw [tokF, ← e2, if_neg (Int.not_lt.2 hd)]
      exact Lex_plain _ _ _ _ (fun x hx => hc x (List.mem_cons_of_mem _ hx)) ho
theorem parX_R {ext : Bool} {l : List UInt8} {x : MT × Int} (hc : ∀ c, c ∈ l → okC c) (h : parX ext l x) : parR (tokX ext) l x := by
  have hx : ∀ c, c ∈ l → okX ext c := fun c h => okX_of (hc c h)
  rcases h with ⟨h1, h | h | h | ⟨ts, t, k, g, b, h2, h3⟩⟩ | ⟨h0, ts, k, g, h1, h2⟩
  · exact .inl ⟨h1, .inl h⟩
  · exact .inl ⟨h1, .inr (.inl h)⟩
  · exact .inl ⟨h1, .inr (.inr (.inl (Lex_plain l _ _ _ hx h).symm))⟩
  · exact .inl ⟨h1, .inr (.inr (.inr ⟨ts, t, k, g, b, (Lex_plain l _ _ _ hx h2).symm, h3⟩))⟩
  · exact .inr ⟨h0, ts, k, g, (Lex_plain l _ _ _ hx h1).symm, h2⟩
theorem plain_ok {c : UInt8} (h : plainC c) : okC c := by unfold plainC at h; unfold okC; omega
theorem tokB_plain {c : UInt8} (h : plainC c) (ts : List Tok) (d : Int) : tokB c ts d = (ts ++ [litT c], d) := by
  unfold plainC at h; unfold tokB
  rw [if_neg (by omega), if_neg (fun q => by have := q.1; omega), if_neg (by omega)]
theorem tokE_plain {c : UInt8} (h : plainC c) (ts : List Tok) (d : Int) : tokE c ts d = (ts ++ [litT c], d) := by
  unfold plainC at h; unfold tokE
  rw [if_neg (by omega), if_neg (by omega), if_neg (by omega), if_neg (by omega), if_neg (by omega), if_neg (by omega), if_neg (by omega)]
theorem tokF_plain {f : UInt8 → List Tok → Int → List Tok × Int} (hf : ∀ c ts d, plainC c → f c ts d = (ts ++ [litT c], d)) : ∀ (l : List UInt8) (ts : List Tok), (∀ c, c ∈ l → plainC c) → tokF f l ts 0 = some (ts ++ l.map litT) := by
  intro l
  induction l with
  | nil => intro ts _; simp [tokF]
  | cons c l ih =>
    intro ts h
    have h1 := hf c ts 0 (h c (by simp))
    simp only [tokF, h1]
    rw [if_neg (by decide), ih _ (fun x hx => h x (by simp [hx])), List.append_assoc]; rfl
def oneM (c : UInt8) : MT := .mk 1 (withS s0 c.toNat 1) 0 0 0 nilS []
theorem isK_lit {l : List UInt8} {k : Nat} {q : Int} (hq : q ≠ 0) : isK (l.map litT) k q = false := by
  unfold isK
  rw [List.getElem?_map]
  cases l[k]? with
  | none => rfl
  | some c => exact decide_eq_false (fun h => hq h.symm)
theorem tok_lit {l : List UInt8} {k : Nat} {t : Tok} (h : (l.map litT)[k]? = some t) : ∃ c, l[k]? = some c ∧ t = litT c := by
  rw [List.getElem?_map] at h
  cases hc : l[k]? with
  | none => rw [hc] at h; cases h
  | some c => rw [hc] at h; exact ⟨c, rfl, (Option.some.inj h).symm⟩
theorem pcs_lit (l : List UInt8) : ∀ (n k : Nat) (g : Int) (ms ms' : List MT) (k2 : Nat) (g2 : Int) (b2 : Bool), l.length - k = n → k ≤ l.length → RPcs (l.map litT) k g false ms ms' k2 g2 b2 → k2 = l.length ∧ g2 = g ∧ b2 = false ∧ ms' = ms ++ (l.drop k).map oneM := by
  intro n
  induction n with
  | zero =>
    intro k g ms ms' k2 g2 b2 hn hk h
    have hkl : k = l.length := by omega
    have hno : (l.map litT)[k]? = none := List.getElem?_eq_none (by rw [List.length_map]; omega)
    cases h with
    | stop _ => exact ⟨hkl, rfl, rfl, by rw [hkl, List.drop_length]; simp⟩
    | anchor h1 _ _ => rw [hno] at h1; cases h1
    | piece _ _ hp _ =>
      cases hp with
      | plain ha _ => cases ha with
        | set h1 _ => rw [hno] at h1; cases h1
        | times h1 _ => rw [hno] at h1; cases h1
        | group h1 _ _ _ _ _ => rw [hno] at h1; cases h1
      | rep ha _ _ => cases ha with
        | set h1 _ => rw [hno] at h1; cases h1
        | times h1 _ => rw [hno] at h1; cases h1
        | group h1 _ _ _ _ _ => rw [hno] at h1; cases h1
  | succ n ih =>
    intro k g ms ms' k2 g2 b2 hn hk h
    cases h with
    | stop hs =>
      rcases hs with q | q | q | q
      · rw [List.length_map] at q; omega
      · cases q
      · rw [isK_lit (by decide)] at q; cases q
      · rw [isK_lit (by decide)] at q; cases q
    | anchor h1 h2 _ =>
      obtain ⟨c, _, rfl⟩ := tok_lit h1
      rcases h2 with ⟨q, _⟩ | ⟨q, _⟩ <;> cases q
    | piece _ _ hp hr =>
      cases hp with
      | plain ha _ => cases ha with
        | set h1 _ =>
          obtain ⟨c, hc, rfl⟩ := tok_lit h1
          obtain ⟨a1, a2, a3, a4⟩ := ih (k + 1) g _ ms' k2 g2 b2 (by omega) (by omega) hr
          refine ⟨a1, a2, a3, ?_⟩
          rw [a4, List.drop_eq_getElem_cons (show k < l.length by omega), List.map_cons, (List.getElem?_eq_some_iff.1 hc).2, List.append_assoc]
          rfl
        | times h1 h2 => obtain ⟨c, _, rfl⟩ := tok_lit h1; cases h2
        | group h1 _ _ _ h2 _ => obtain ⟨c, _, rfl⟩ := tok_lit h1; exact absurd rfl h2
      | rep _ h1 h2 => obtain ⟨c, _, rfl⟩ := tok_lit h1; cases h2
theorem plain_tree {l : List UInt8} (hl : l ≠ []) {t : MT} {k : Nat} {g : Int} {b : Bool} (h : RAll (l.map litT) 0 0 false t k g b) : b = false ∧ k = l.length ∧ ((∃ c, l = [c] ∧ t = oneM c) ∨ (l.length ≠ 1 ∧ ∃ v, t = .mk 2 s0 0 0 0 v (l.map oneM))) := by
  have key : ∀ {t : MT} {k : Nat} {g : Int} {b : Bool}, RRow (l.map litT) 0 0 false t k g b → b = false ∧ k = l.length ∧ ((∃ c, l = [c] ∧ t = oneM c) ∨ (l.length ≠ 1 ∧ ∃ v, t = .mk 2 s0 0 0 0 v (l.map oneM))) := by
    intro t k g b h
    cases h with
    | one hp =>
      obtain ⟨a1, _, a3, a4⟩ := pcs_lit l _ 0 0 [] _ _ _ _ rfl (Nat.zero_le _) hp
      refine ⟨a3, a1, .inl ?_⟩
      rw [List.nil_append, List.drop_zero] at a4
      match l, a4 with
      | [c], a4 => simp only [List.map_cons, List.map_nil, List.cons.injEq, and_true] at a4; exact ⟨c, rfl, a4⟩
    | many hp hne =>
      obtain ⟨a1, _, a3, a4⟩ := pcs_lit l _ 0 0 [] _ _ _ _ rfl (Nat.zero_le _) hp
      rw [List.nil_append, List.drop_zero] at a4
      subst a4
      rw [List.length_map] at hne
      have h0 : l.length ≠ 0 := fun q => hl (List.length_eq_zero_iff.1 q)
      refine ⟨by rw [a3, List.length_map]; simp [h0], a1, .inr ⟨hne, _, rfl⟩⟩
  cases h with
  | one hr hb =>
    obtain ⟨a1, a2, a3⟩ := key hr
    cases hb with
    | stop _ => exact ⟨a1, a2, a3⟩
    | more h1 _ _ => rw [isK_lit (by decide)] at h1; cases h1
  | many hr hb hne =>
    cases hb with
    | stop _ => exact absurd rfl hne
    | more h1 _ _ => rw [isK_lit (by decide)] at h1; cases h1
/-- What Parse answers of a plain text. -/
theorem parse_plain {f : UInt8 → List Tok → Int → List Tok × Int} (hf : ∀ c ts d, plainC c → f c ts d = (ts ++ [litT c], d)) {l : List UInt8} (hp : ∀ c, c ∈ l → plainC c) (hl : l ≠ []) (h200 : l.length ≤ 200) {x : MT × Int} (h : parR f l x) :
    x.2 = 0 ∧ ((∃ c, l = [c] ∧ x.1 = oneM c) ∨ (l.length ≠ 1 ∧ ∃ v, x.1 = .mk 2 s0 0 0 0 v (l.map oneM))) := by
  have ht := tokF_plain hf l [] hp
  rw [List.nil_append] at ht
  rcases h with ⟨_, h | h | h | ⟨ts, t, k, g, b, h1, h2, h3⟩⟩ | ⟨h0, ts, k, g, h1, _, _, h2, _⟩
  · exact absurd h hl
  · omega
  · rw [ht] at h; cases h
  · rw [ht] at h1
    obtain rfl := Option.some.inj h1
    obtain ⟨a1, a2, _⟩ := plain_tree hl h2
    rcases h3 with q | q
    · rw [a1] at q; cases q
    · rw [a2, List.length_map] at q; omega
  · rw [ht] at h1
    obtain rfl := Option.some.inj h1
    exact ⟨h0, (plain_tree hl h2).2.2⟩

end Go.Proofs.Ytpoelkfncpjmfaa
