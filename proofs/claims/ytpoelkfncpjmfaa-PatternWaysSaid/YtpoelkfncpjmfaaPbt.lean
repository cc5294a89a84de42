/- Texts of letters, groups, repeats: their tokens. -/
import Derived.Test.YtpoelkfncpjmfaaPbs
namespace Go.Proofs.Ytpoelkfncpjmfaa
open Go Go.RowKit

theorem lex_1 {x : Bool} {c : UInt8} {l : List UInt8} {ts ts' : List Tok} {d d' : Int} {o : Option (List Tok)} (hc : okX x c) (e : tokX x c ts d = (ts', d')) (hd : 0 ≤ d') (h : Lex x (c :: l) ts d o) : Lex x l ts' d' o := by
  cases h with
  | fail h => cases LStep_plain hc h
  | neg h h0 => injection LStep_plain hc h with q; injection q with _ q2; rw [e] at q2; injection q2 with _ q3; omega
  | next h _ ho => injection LStep_plain hc h with q; injection q with q1 q2; rw [e] at q2; injection q2 with q3 q4; subst q1 q3 q4; exact ho
theorem okX_c {x : Bool} {c : UInt8} (h : okC c) : okX x c := okX_of h
theorem tokX_plain {x : Bool} {c : UInt8} (h : plainC c) (ts : List Tok) (d : Int) : tokX x c ts d = (ts ++ [litT c], d) := by
  cases x with
  | true => exact tokE_plain h ts d
  | false => exact tokB_plain h ts d
theorem lex_lit {x : Bool} {c : UInt8} {l : List UInt8} {ts : List Tok} {d : Int} {o : Option (List Tok)} (hc : plainC c) (hd : 0 ≤ d) (h : Lex x (c :: l) ts d o) : Lex x l (ts ++ [litT c]) d o := lex_1 (okX_of (plain_ok hc)) (tokX_plain hc ts d) hd h
theorem lex_e {c : UInt8} {l : List UInt8} {ts ts' : List Tok} {d d' : Int} {o : Option (List Tok)} (hc : okC c) (e : tokE c ts d = (ts', d')) (hd : 0 ≤ d') (h : Lex true (c :: l) ts d o) : Lex true l ts' d' o := lex_1 (okX_of hc) e hd h
theorem lex_star {x : Bool} {l : List UInt8} {ts : List Tok} {d : Int} {o : Option (List Tok)} (hs : startsT ts = false) (hb : begunT ts = false) (hd : 0 ≤ d) (h : Lex x (42 :: l) ts d o) : Lex x l (ts ++ [timesT 0 (-1)]) d o := by
  refine lex_1 (okX_of (by unfold okC; decide)) ?_ hd h
  cases x with
  | true => rfl
  | false => show tokB 42 ts d = _; unfold tokB; rw [hs, hb]; rfl
/-- What a backslash is followed by, where that is an opening or a closing. -/
theorem esc_b {c : UInt8} {l r : List UInt8} {ts ts' : List Tok} {d d' : Int} {ok : Bool} (hc : c = 40 ∨ c = 41) (h : EscR false (c :: l) ts d r ts' d' ok) : ok = true ∧ r = l ∧ (c = 40 ∧ ts' = ts ++ [kT 1] ∧ d' = d + 1 ∨ c = 41 ∧ ts' = ts ++ [kT 2] ∧ d' = d - 1) := by
  have hk : ¬ isKn false c := by rcases hc with rfl | rfl <;> (unfold isKn; decide)
  have hn : ¬ (c.toNat : Int) = 110 := by rcases hc with rfl | rfl <;> decide
  have hi : ¬ (c.toNat : Int) = 123 := by rcases hc with rfl | rfl <;> decide
  have hc' : (c.toNat : Int) = 40 ∨ (c.toNat : Int) = 41 := by rcases hc with rfl | rfl <;> decide
  have h40 : (c.toNat : Int) = 40 → c = 40 := fun q => by rcases hc with rfl | rfl; rfl; exact absurd q (by decide)
  have h41 : (c.toNat : Int) = 41 → c = 41 := fun q => by rcases hc with rfl | rfl; exact absurd q (by decide); rfl
  cases h with
  | nl h => exact absurd h hn
  | known _ h => exact absurd h hk
  | unknown h _ _ => cases h
  | opens _ h => exact ⟨rfl, rfl, .inl ⟨h40 h, rfl, rfl⟩⟩
  | shuts _ h => exact ⟨rfl, rfl, .inr ⟨h41 h, rfl, rfl⟩⟩
  | iv _ h _ _ => exact absurd h hi
  | ivs _ h _ => exact absurd h hi
  | other _ _ _ h1 h2 _ => omega
theorem lstep_esc {x : Bool} {l : List UInt8} {ts : List Tok} {d : Int} {o : Option (List UInt8 × List Tok × Int)} (h : LStep x (92 :: l) ts d o) : (∃ r ts' d', o = some (r, ts', d') ∧ EscR x l ts d r ts' d' true) ∨ (o = none ∧ ∃ r ts' d', EscR x l ts d r ts' d' false) := by
  have h92 : ((92 : UInt8).toNat : Int) = 92 := by decide
  cases h with
  | esc _ he => exact .inl ⟨_, _, _, rfl, he⟩
  | esc0 _ he => exact .inr ⟨rfl, _, _, _, he⟩
  | brack h _ => rw [h92] at h; omega
  | brack0 h => rw [h92] at h; omega
  | begins h _ => rw [h92] at h; omega
  | ends h _ => rw [h92] at h; omega
  | lits h _ _ => rw [h92] at h; omega
  | iv h _ _ => rw [h92] at h; omega
  | iv0 h _ _ => rw [h92] at h; omega
  | plain h _ => exact absurd rfl h.1
theorem lex_esc {x : Bool} {l r : List UInt8} {ts ts' : List Tok} {d d' : Int} {o : Option (List Tok)} (he : ∀ r0 ts0 d0 ok, EscR x l ts d r0 ts0 d0 ok → ok = true ∧ r0 = r ∧ ts0 = ts' ∧ d0 = d') (hd : 0 ≤ d') (h : Lex x (92 :: l) ts d o) : Lex x r ts' d' o := by
  cases h with
  | fail h =>
    rcases lstep_esc h with ⟨_, _, _, q, _⟩ | ⟨_, _, _, _, q⟩
    · cases q
    · cases (he _ _ _ _ q).1
  | neg h h0 =>
    rcases lstep_esc h with ⟨_, _, _, q, q2⟩ | ⟨q, _⟩
    · cases q; obtain ⟨_, _, _, rfl⟩ := he _ _ _ _ q2; omega
    · cases q
  | next h _ ho =>
    rcases lstep_esc h with ⟨_, _, _, q, q2⟩ | ⟨q, _⟩
    · cases q; obtain ⟨_, rfl, rfl, rfl⟩ := he _ _ _ _ q2; exact ho
    · cases q
def slash (x : Bool) : List UInt8 := if x = true then [] else [92]
theorem lex_open {x : Bool} {l : List UInt8} {ts : List Tok} {d : Int} {o : Option (List Tok)} (hd : 0 ≤ d) (h : Lex x (slash x ++ (40 :: l)) ts d o) : Lex x l (ts ++ [kT 1]) (d + 1) o := by
  cases x with
  | true => exact lex_e (by unfold okC; decide) rfl (by omega) h
  | false =>
    refine lex_esc (fun r0 ts0 d0 ok q => ?_) (by omega) h
    obtain ⟨h1, h2, ⟨_, h3, h4⟩ | ⟨h5, _⟩⟩ := esc_b (.inl rfl) q
    · exact ⟨h1, h2, h3, h4⟩
    · cases h5
theorem lex_shut {x : Bool} {l : List UInt8} {ts : List Tok} {d : Int} {o : Option (List Tok)} (hd : 1 ≤ d) (h : Lex x (slash x ++ (41 :: l)) ts d o) : Lex x l (ts ++ [kT 2]) (d - 1) o := by
  cases x with
  | true => exact lex_e (by unfold okC; decide) rfl (by omega) h
  | false =>
    refine lex_esc (fun r0 ts0 d0 ok q => ?_) (by omega) h
    obtain ⟨h1, h2, ⟨h5, _⟩ | ⟨_, h3, h4⟩⟩ := esc_b (.inr rfl) q
    · cases h5
    · exact ⟨h1, h2, h3, h4⟩
/-- An interval, whatever it is. -/
theorem lex_iv {x : Bool} {w r : List UInt8} {t : Tok} {ts : List Tok} {d : Int} {o : Option (List Tok)} (hs : startsT ts = false) (hi : ∀ t0 r0 ok, IvR (slash x ++ [125]) w t0 r0 ok → ok = true ∧ t0 = t ∧ r0 = r) (hd : 0 ≤ d) (h : Lex x (slash x ++ (123 :: w)) ts d o) : Lex x r (ts ++ [t]) d o := by
  cases x with
  | true =>
    have key : ∀ {p : Option (List UInt8 × List Tok × Int)}, LStep true (123 :: w) ts d p → p = some (r, ts ++ [t], d) := by
      intro p h
      have h123 : ((123 : UInt8).toNat : Int) = 123 := by decide
      cases h with
      | iv _ _ q => obtain ⟨_, rfl, rfl⟩ := hi _ _ _ q; rfl
      | iv0 _ _ q => cases (hi _ _ _ q).1
      | esc h _ => rw [h123] at h; omega
      | esc0 h _ => rw [h123] at h; omega
      | brack h _ => rw [h123] at h; omega
      | brack0 h => rw [h123] at h; omega
      | begins h _ => rw [h123] at h; omega
      | ends h _ => rw [h123] at h; omega
      | lits h _ _ => rw [h123] at h; omega
      | plain h _ => exact absurd rfl (h.2.2.2.2 rfl)
    cases h with
    | fail h => cases key h
    | neg h h0 => cases key h; omega
    | next h _ ho => cases key h; exact ho
  | false =>
    refine lex_esc (fun r0 ts0 d0 ok q => ?_) hd h
    have h123 : ((123 : UInt8).toNat : Int) = 123 := by decide
    cases q with
    | iv _ _ _ q => obtain ⟨h1, rfl, rfl⟩ := hi _ _ _ q; exact ⟨h1, rfl, rfl, rfl⟩
    | ivs _ _ h => rw [hs] at h; cases h
    | nl h => rw [h123] at h; omega
    | known _ h => exact absurd h (by unfold isKn; decide)
    | unknown h _ _ => cases h
    | opens _ h => rw [h123] at h; omega
    | shuts _ h => rw [h123] at h; omega
    | other _ _ _ _ _ h => exact absurd h123 h
def digs (n : Nat) : List UInt8 := if n < 10 then [UInt8.ofNat (48 + n)] else [UInt8.ofNat (48 + n / 10), UInt8.ofNat (48 + n % 10)]
theorem digs_ok : ∀ n : Fin 100, (∀ c, c ∈ digs n.val → isDig c) ∧ numV (digs n.val) = (n.val : Int) ∧ 1 ≤ (digs n.val).length ∧ (digs n.val).length ≤ 2 := by unfold isDig; decide +kernel
/-- The figures ahead are taken, all of them. -/
theorem num_is {ds r : List UInt8} {k : Nat} {n : Int} (hd : ∀ c, c ∈ ds → isDig c) (hl : ds.length ≤ 2) (hr : ∀ c r', r = c :: r' → ¬ isDig c) (h : NumR (ds ++ r) k n) : k = ds.length ∧ n = numV ds := by
  obtain ⟨h1, h2, h3, h4, rfl⟩ := h
  have hk : k = ds.length := by
    rcases Nat.lt_trichotomy k ds.length with q | q | q
    · exact absurd (hd _ (List.getElem_mem q)) (h4 (by omega) ds[k] (by rw [List.getElem?_append_left q]; exact List.getElem?_eq_getElem q))
    · exact q
    · cases r with
      | nil => rw [List.append_nil] at h2; omega
      | cons c r' =>
        refine absurd (h3 c ?_) (hr c r' rfl)
        rw [show k = ds.length + (k - ds.length - 1 + 1) by omega, List.take_length_add_append]
        simp
  subst hk
  exact ⟨rfl, by rw [List.take_left]⟩
theorem hp_self (a b : List UInt8) : Lib.hasPrefix (a ++ b) a = true := List.isPrefixOf_iff_prefix.2 ⟨b, rfl⟩
theorem trim_self (a b : List UInt8) : Lib.trimPrefix (a ++ b) a = b := by
  unfold Lib.trimPrefix
  rw [if_pos (hp_self a b), List.drop_left]
theorem hp_ne {c c' : UInt8} (l : List UInt8) (h : c ≠ c') : Lib.hasPrefix (c :: l) [c'] = false := by
  rw [Bool.eq_false_iff]
  intro q
  obtain ⟨r, hr⟩ := List.isPrefixOf_iff_prefix.1 q
  injection hr with h1 _
  exact h h1.symm
theorem trim_ne {c c' : UInt8} (l : List UInt8) (h : c ≠ c') : Lib.trimPrefix (c :: l) [c'] = c :: l := by
  unfold Lib.trimPrefix
  rw [if_neg (by rw [hp_ne l h]; simp)]
/-- An interval as it is written. -/
def ivW (mi ma : Int) : List UInt8 := digs mi.toNat ++ (if ma = mi then [] else 44 :: (if 0 ≤ ma then digs ma.toNat else []))
theorem iv_is {cl : List UInt8} {c0 : UInt8} (hcl : ∃ r, cl = c0 :: r) (h0 : ¬ isDig c0 ∧ c0 ≠ 44) {mi ma : Int} (hm : 0 ≤ mi ∧ mi ≤ 20) (hx : ma ≤ 20 ∧ (ma = -1 ∨ mi ≤ ma)) {rest : List UInt8} {t : Tok} {r : List UInt8} {ok : Bool}
    (h : IvR cl (ivW mi ma ++ (cl ++ rest)) t r ok) : ok = true ∧ t = timesT mi ma ∧ r = rest := by
  obtain ⟨cr, rfl⟩ := hcl
  obtain ⟨d1, d2, d3, d4⟩ := digs_ok ⟨mi.toNat, by omega⟩
  have hmi : ((mi.toNat : Nat) : Int) = mi := by omega
  dsimp only at d1 d2 d3 d4
  rw [hmi] at d2
  have hnd : ∀ (c : UInt8) r', (c0 :: cr) ++ rest = c :: r' → ¬ isDig c := fun c r' q => by injection q with q _; subst q; exact h0.1
  unfold ivW at h
  by_cases he : ma = mi
  · subst he
    rw [if_pos rfl, List.append_nil] at h
    cases h with
    | one hn hc ho =>
      obtain ⟨rfl, rfl⟩ := num_is d1 d4 hnd hn
      have hv : nv (digs ma.toNat).length (numV (digs ma.toNat)) = ma := by unfold nv; rw [if_neg (by omega), d2]
      rw [List.drop_left] at ho ⊢
      rw [hv] at ho ⊢
      have e1 : Lib.trimPrefix ((c0 :: cr) ++ rest) [44] = (c0 :: cr) ++ rest := trim_ne _ h0.2
      rw [e1] at ho ⊢
      rw [trim_self]
      exact ⟨ho.2 ⟨hp_self _ _, by omega, by omega, by omega, by omega⟩, rfl, rfl⟩
    | two hn hc _ _ =>
      obtain ⟨rfl, rfl⟩ := num_is d1 d4 hnd hn
      rw [List.drop_left] at hc
      exact absurd hc (by rw [show (c0 :: cr) ++ rest = c0 :: (cr ++ rest) from rfl, hp_ne _ h0.2]; simp)
  · rw [if_neg he, List.append_assoc] at h
    have hn44 : ∀ (c : UInt8) r' (a : List UInt8), (44 :: a : List UInt8) = c :: r' → ¬ isDig c := fun c r' a q => by injection q with q _; subst q; unfold isDig; decide
    cases h with
    | one hn hc ho =>
      obtain ⟨rfl, rfl⟩ := num_is d1 d4 (fun c r' q => hn44 c r' _ q) hn
      rw [List.drop_left] at hc
      have h7 : Lib.hasPrefix ([44] ++ ((if 0 ≤ ma then digs ma.toNat else []) ++ ((c0 :: cr) ++ rest))) [44] = true := hp_self _ _
      exact absurd (h7.symm.trans (show _ = false from hc)) (by simp)
    | two hn hc h2 ho =>
      obtain ⟨rfl, rfl⟩ := num_is d1 d4 (fun c r' q => hn44 c r' _ q) hn
      have hv : nv (digs mi.toNat).length (numV (digs mi.toNat)) = mi := by unfold nv; rw [if_neg (by omega), d2]
      rw [List.drop_left, show (44 :: (if 0 ≤ ma then digs ma.toNat else []) ++ ((c0 :: cr) ++ rest) : List UInt8) = [44] ++ ((if 0 ≤ ma then digs ma.toNat else []) ++ ((c0 :: cr) ++ rest)) from rfl, trim_self] at h2 ho ⊢
      rw [hv] at ho ⊢
      by_cases hma : 0 ≤ ma
      · rw [if_pos hma] at h2 ho ⊢
        obtain ⟨f1, f2, f3, f4⟩ := digs_ok ⟨ma.toNat, by omega⟩
        dsimp only at f1 f2 f3 f4
        obtain ⟨rfl, rfl⟩ := num_is f1 f4 hnd h2
        have hv2 : nv (digs ma.toNat).length (numV (digs ma.toNat)) = ma := by unfold nv; rw [if_neg (by omega), f2]; omega
        rw [List.drop_left] at ho ⊢
        rw [hv2] at ho ⊢
        rw [trim_self]
        exact ⟨ho.2 ⟨hp_self _ _, by omega, by omega, by omega, by omega⟩, rfl, rfl⟩
      · rw [if_neg hma] at h2 ho ⊢
        obtain ⟨rfl, rfl⟩ := num_is (ds := []) (fun _ q => by cases q) (by simp) hnd h2
        have hv2 : nv ([] : List UInt8).length (numV []) = ma := by unfold nv; rw [List.length_nil, if_pos (show (0 : Nat) = 0 from rfl)]; omega
        rw [hv2] at ho ⊢
        rw [List.nil_append, List.length_nil, List.drop_zero] at ho ⊢
        rw [trim_self]
        exact ⟨ho.2 ⟨hp_self _ _, by omega, by omega, by omega, by omega⟩, rfl, rfl⟩
theorem slash_cl (x : Bool) : ∃ c0 r, slash x ++ [125] = c0 :: r ∧ ¬ isDig c0 ∧ c0 ≠ 44 := by
  cases x
  · exact ⟨92, [125], rfl, by unfold isDig; decide, by decide⟩
  · exact ⟨125, [], rfl, by unfold isDig; decide, by decide⟩
theorem lex_times {x : Bool} {mi ma : Int} (hm : 0 ≤ mi ∧ mi ≤ 20) (hx : ma ≤ 20 ∧ (ma = -1 ∨ mi ≤ ma)) {l : List UInt8} {ts : List Tok} {d : Int} {o : Option (List Tok)} (hs : startsT ts = false) (hd : 0 ≤ d)
    (h : Lex x (slash x ++ (123 :: (ivW mi ma ++ ((slash x ++ [125]) ++ l)))) ts d o) : Lex x l (ts ++ [timesT mi ma]) d o := by
  obtain ⟨c0, r, h1, h2⟩ := slash_cl x
  exact lex_iv hs (fun t0 r0 ok q => iv_is ⟨r, h1⟩ h2 hm hx q) hd h
theorem lex_all {x : Bool} {ts : List Tok} {o : Option (List Tok)} (h : Lex x [] ts 0 o) : o = some ts := by
  cases h with
  | done _ => rfl
  | deep h => exact absurd rfl h
  | fail h => cases h
  | neg h _ => cases h
  | next h _ _ => cases h
theorem starts_last {ts : List Tok} {t : Tok} (h : t.k ≠ 1 ∧ t.k ≠ 3) : startsT (ts ++ [t]) = false := by
  unfold startsT; rw [List.getLast?_append]; exact decide_eq_false (fun q => q.elim h.1 h.2)
theorem begun_last {ts : List Tok} {t : Tok} (h : t.k ≠ 5) : begunT (ts ++ [t]) = false := by
  unfold begunT; rw [List.getLast?_append]; exact decide_eq_false h
theorem lex_lits {x : Bool} {l r : List UInt8} {ts : List Tok} {d : Int} {o : Option (List Tok)} (hp : ∀ c, c ∈ l → plainC c) (hd : 0 ≤ d) (h : Lex x (l ++ r) ts d o) : Lex x r (ts ++ l.map litT) d o := by
  induction l generalizing ts with
  | nil => simpa using h
  | cons c l ih =>
    have := ih (fun c hc => hp c (List.mem_cons_of_mem _ hc)) (lex_lit (hp c (List.mem_cons_self ..)) hd h)
    rwa [List.append_assoc] at this

end Go.Proofs.Ytpoelkfncpjmfaa
