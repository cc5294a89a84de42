/- The lexer: numbers, intervals. -/
import Derived.Test.YtpoelkfncpjmfaaPbh
import Derived.Test.YtpoelkfncpjmfaaPav
namespace Go.Proofs.Ytpoelkfncpjmfaa
open Go Go.RowKit

def isDig (c : UInt8) : Prop := 48 ≤ c.toNat ∧ c.toNat ≤ 57
def numV (l : List UInt8) : Int := l.foldl (fun n c => 10 * n + (c.toNat - 48)) 0
/-- k figures stand ahead, three at most: the number n. -/
def NumR (l : List UInt8) (k : Nat) (n : Int) : Prop := k ≤ 3 ∧ k ≤ l.length ∧ (∀ c, c ∈ l.take k → isDig c) ∧ (k < 3 → ∀ c, l[k]? = some c → ¬ isDig c) ∧ n = numV (l.take k)
def nv (k : Nat) (n : Int) : Int := if k = 0 then -1 else n
theorem take_more {l : List UInt8} {k : Nat} {c : UInt8} (hc : l[k]? = some c) : l.take (k + 1) = l.take k ++ [c] := by rw [List.take_add_one, hc]; rfl
theorem numV_more {l : List UInt8} {k : Nat} {c : UInt8} (hc : l[k]? = some c) : numV (l.take (k + 1)) = 10 * numV (l.take k) + (c.toNat - 48) := by
  rw [take_more hc]; unfold numV; rw [List.foldl_append]; rfl
theorem dig_more {l : List UInt8} {k : Nat} {c : UInt8} (hc : l[k]? = some c) (h : ∀ c, c ∈ l.take k → isDig c) (hd : isDig c) : ∀ c, c ∈ l.take (k + 1) → isDig c := by
  rw [take_more hc]
  intro d hq
  rcases List.mem_append.1 hq with q | q
  · exact h d q
  · rw [List.mem_singleton.1 q]; exact hd
/-- An interval's token; what is behind it; whether it is one. -/
inductive IvR (cl l : List UInt8) : Tok → List UInt8 → Bool → Prop
  | one {k : Nat} {n : Int} {ok : Bool} (h : NumR l k n) (hc : Lib.hasPrefix (l.drop k) [44] = false)
      (ho : ok = true ↔ (Lib.hasPrefix (Lib.trimPrefix (l.drop k) [44]) cl = true ∧ 0 ≤ nv k n ∧ nv k n ≤ 20 ∧ nv k n ≤ 20 ∧ (nv k n < 0 ∨ nv k n ≤ nv k n))) : IvR cl l (timesT (nv k n) (nv k n)) (Lib.trimPrefix (Lib.trimPrefix (l.drop k) [44]) cl) ok
  | two {k k2 : Nat} {n n2 : Int} {ok : Bool} (h : NumR l k n) (hc : Lib.hasPrefix (l.drop k) [44] = true) (h2 : NumR (Lib.trimPrefix (l.drop k) [44]) k2 n2)
      (ho : ok = true ↔ (Lib.hasPrefix ((Lib.trimPrefix (l.drop k) [44]).drop k2) cl = true ∧ 0 ≤ nv k n ∧ nv k n ≤ 20 ∧ nv k2 n2 ≤ 20 ∧ (nv k2 n2 < 0 ∨ nv k n ≤ nv k2 n2))) : IvR cl l (timesT (nv k n) (nv k2 n2)) (Lib.trimPrefix ((Lib.trimPrefix (l.drop k) [44]).drop k2) cl) ok

set_option maxRecDepth 100000 in
theorem number_any (b : Nat) (l : List UInt8) (e0 d v : Value) (ts : List Tok) (F : List Nat) (w : World) (hl : l.length ≤ 1000) (hts : ts.length ≤ 1000) (hS0 : St w F [.cells b 50 [st8 l, e0, v, d], .row 64 7 v ts.length (ts.flatMap tC)] w) :
    Calls Try.prog 41 #[.pointer (some ⟨b, 0, none⟩)] w fun e w' => ∃ x : {x : Nat × Int // NumR l x.1 x.2}, e = .returned (.int .i64 (nv x.1.1 x.1.2)) ∧ St w F [.cells b 50 [st8 (l.drop x.1.1), e0, v, d], .row 64 7 v ts.length (ts.flatMap tC)] w' := by
 have hsz := size_mk l
 refine fn_intro_own Try.func41 rfl Try.ntmps41 rfl rfl hS0 ?_
 refine s_ (o_ ?_)
 refine xg 1 [] rfl rfl ?_
 refine ntso_ ?_
 refine xg 2 [] rfl rfl ?_
 refine n_ (t_ (s_ (g_block ?_)))
 refine g_loop (α := {x : Int × Nat // x.2 ≤ 3 ∧ x.2 ≤ l.length ∧ (∀ c, c ∈ l.take x.2 → isDig c) ∧ x.1 = numV (l.take x.2) ∧ 0 ≤ x.1 ∧ (x.2 = 0 → x.1 = 0) ∧ (x.2 = 1 → x.1 ≤ 9) ∧ (x.2 = 2 → x.1 ≤ 99) ∧ (x.2 = 3 → x.1 ≤ 999)}) (fun x => [(0, .pointer (some ⟨b, 0, none⟩)), (3, .int .i64 x.1.1), (4, .int .i64 (x.1.2 : Int))]) (fun x => St w F [.cells b 50 [st8 l, e0, v, d], .row 64 7 v ts.length (ts.flatMap tC)]) (fun x => 3 - x.1.2) ⟨(0, 0), by decide, Nat.zero_le _, by simp, by simp [numV], by decide, by decide, by decide, by decide, by decide⟩ [0, 3, 4] rfl (fun w h => h.pick [0,0] rfl) ?_
 rintro ⟨⟨n, k⟩, hx⟩
 dsimp only
 dsimp only at hx
 obtain ⟨hk3, hkl, hdig, hn, hn0, hn1, hn2, hn3, hn4⟩ := hx
 refine s_ (s_ (o_ ?_))
 refine xg 3 [0] rfl rfl ?_
 refine g_casep 7 rfl (fun h1 => ?_) fun h1 => ?_
 ·refine xg 9 [0,0] rfl (by omega) ?_
  refine g_casep 16 rfl (fun h2 => ?_) fun h2 => ?_
  ·refine xg 5 [0] rfl (by omega) ?_
   obtain ⟨c, hc, hc8⟩ := st8_get (l := l) (i := k) (by omega)
   have hcm := c.toNat_lt
   refine g_val rfl rfl rfl (y_sidx (i := k) rfl rfl Try.underlying9 hc8) ?_
   refine xg 3 [0] rfl rfl ?_
   refine g_casep 25 rfl (fun h3 => ?_) fun h3 => ?_
   ·refine xg 5 [0] rfl (by omega) ?_
    refine g_val rfl rfl rfl (y_sidx (i := k) rfl rfl Try.underlying9 hc8) ?_
    refine xg 2 [0] rfl rfl ?_
    refine n_ (t_ ?_)
    refine g_casep 33 rfl (fun h4 => ?_) fun h4 => ?_
    ·refine g_cond_t rfl (g_skip (t_ (s_ (g_block (o_ ?_)))))
     refine xg 7 [0] rfl (by omega) ?_
     refine g_val rfl rfl rfl (y_sidx (i := k) rfl rfl Try.underlying9 hc8) ?_
     refine xg 4 [] rfl (by omega) ?_
     refine n_ (g_in_normal (t_ (o_ ?_)))
     refine xg 3 [] rfl (by omega) ?_
     refine n_ ?_
     exact g_again ⟨(10 * n + ((c.toNat : Int) - 48), k + 1), by dsimp only; omega, by dsimp only; omega, dig_more hc hdig (by unfold isDig; omega), by dsimp only; rw [numV_more hc, ← hn], by dsimp only; omega, by dsimp only; omega, by dsimp only; omega, by dsimp only; omega, by dsimp only; omega⟩ [0, 3, 4] (by dsimp only; omega) rfl (fun w h => h.pick [0,0] rfl)
    refine g_cond_f rfl (g_exit (g_then_exit (g_then_exit (g_in_exit (t_ (s_ ?_))))))
    have hstop : k < 3 → ∀ c', l[k]? = some c' → ¬ isDig c' := fun h3 c' hc' => by first | omega | (rw [List.getElem?_eq_none (by omega)] at hc'; cases hc') | (rw [hc] at hc'; cases hc'; unfold isDig; omega)
    refine o_ ?_
    refine xg 6 [0] rfl (by omega) ?_
    refine g_val (v := st8 (l.drop k)) rfl rfl rfl (y_val (y_sfrom (l := k) rfl rfl Try.underlying9 (by rw [size_mk]; omega)) (by rw [st8_drop]; rfl)) ?_
    refine xg 3 [0] rfl (by omega) ?_
    refine n_ (t_ (s_ (s_ (o_ ?_))))
    refine xg 2 [0] rfl rfl ?_
    refine n_ (t_ ?_)
    refine g_casep 57 rfl (fun h5 => ?_) fun h5 => ?_
    ·refine g_cond_t rfl (s_ (o_ ?_))
     refine xg 1 [] rfl rfl ?_
     refine n_ (t_ (g_ret (g_then_ret ?_)))
     refine g_end1 Try.results41 rfl ?_
     exact fun w hS => ⟨⟨(k, n), hk3, hkl, hdig, hstop, hn⟩, ret_int (by show _ = nv k n; unfold nv; split <;> omega), hS.pick [0,0] rfl⟩
    refine g_cond_f rfl (g_skip (t_ (s_ (o_ ?_))))
    refine xg 2 [] rfl rfl ?_
    refine n_ (t_ (g_ret ?_))
    refine g_end1 Try.results41 rfl ?_
    exact fun w hS => ⟨⟨(k, n), hk3, hkl, hdig, hstop, hn⟩, ret_int (by show _ = nv k n; unfold nv; split <;> omega), hS.pick [0,0] rfl⟩
   refine xg 8 [] rfl rfl ?_
   refine n_ (t_ (g_cond_f rfl (g_exit (g_then_exit (g_then_exit (g_in_exit (t_ (s_ ?_))))))))
   have hstop : k < 3 → ∀ c', l[k]? = some c' → ¬ isDig c' := fun h3 c' hc' => by first | omega | (rw [List.getElem?_eq_none (by omega)] at hc'; cases hc') | (rw [hc] at hc'; cases hc'; unfold isDig; omega)
   refine o_ ?_
   refine xg 6 [0] rfl (by omega) ?_
   refine g_val (v := st8 (l.drop k)) rfl rfl rfl (y_val (y_sfrom (l := k) rfl rfl Try.underlying9 (by rw [size_mk]; omega)) (by rw [st8_drop]; rfl)) ?_
   refine xg 3 [0] rfl (by omega) ?_
   refine n_ (t_ (s_ (s_ (o_ ?_))))
   refine xg 2 [0] rfl rfl ?_
   refine n_ (t_ ?_)
   refine g_casep 57 rfl (fun h6 => ?_) fun h6 => ?_
   ·refine g_cond_t rfl (s_ (o_ ?_))
    refine xg 1 [] rfl rfl ?_
    refine n_ (t_ (g_ret (g_then_ret ?_)))
    refine g_end1 Try.results41 rfl ?_
    exact fun w hS => ⟨⟨(k, n), hk3, hkl, hdig, hstop, hn⟩, ret_int (by show _ = nv k n; unfold nv; split <;> omega), hS.pick [0,0] rfl⟩
   refine g_cond_f rfl (g_skip (t_ (s_ (o_ ?_))))
   refine xg 2 [] rfl rfl ?_
   refine n_ (t_ (g_ret ?_))
   refine g_end1 Try.results41 rfl ?_
   exact fun w hS => ⟨⟨(k, n), hk3, hkl, hdig, hstop, hn⟩, ret_int (by show _ = nv k n; unfold nv; split <;> omega), hS.pick [0,0] rfl⟩
  refine xg 17 [] rfl rfl ?_
  refine n_ (t_ (g_cond_f rfl (g_exit (g_then_exit (g_then_exit (g_in_exit (t_ (s_ ?_))))))))
  have hstop : k < 3 → ∀ c', l[k]? = some c' → ¬ isDig c' := fun h3 c' hc' => by first | omega | (rw [List.getElem?_eq_none (by omega)] at hc'; cases hc') | (rw [hc] at hc'; cases hc'; unfold isDig; omega)
  refine o_ ?_
  refine xg 6 [0] rfl (by omega) ?_
  refine g_val (v := st8 (l.drop k)) rfl rfl rfl (y_val (y_sfrom (l := k) rfl rfl Try.underlying9 (by rw [size_mk]; omega)) (by rw [st8_drop]; rfl)) ?_
  refine xg 3 [0] rfl (by omega) ?_
  refine n_ (t_ (s_ (s_ (o_ ?_))))
  refine xg 2 [0] rfl rfl ?_
  refine n_ (t_ ?_)
  refine g_casep 57 rfl (fun h7 => ?_) fun h7 => ?_
  ·refine g_cond_t rfl (s_ (o_ ?_))
   refine xg 1 [] rfl rfl ?_
   refine n_ (t_ (g_ret (g_then_ret ?_)))
   refine g_end1 Try.results41 rfl ?_
   exact fun w hS => ⟨⟨(k, n), hk3, hkl, hdig, hstop, hn⟩, ret_int (by show _ = nv k n; unfold nv; split <;> omega), hS.pick [0,0] rfl⟩
  refine g_cond_f rfl (g_skip (t_ (s_ (o_ ?_))))
  refine xg 2 [] rfl rfl ?_
  refine n_ (t_ (g_ret ?_))
  refine g_end1 Try.results41 rfl ?_
  exact fun w hS => ⟨⟨(k, n), hk3, hkl, hdig, hstop, hn⟩, ret_int (by show _ = nv k n; unfold nv; split <;> omega), hS.pick [0,0] rfl⟩
 refine xg 26 [] rfl rfl ?_
 refine n_ (t_ (g_cond_f rfl (g_exit (g_then_exit (g_then_exit (g_in_exit (t_ (s_ ?_))))))))
 have hstop : k < 3 → ∀ c', l[k]? = some c' → ¬ isDig c' := fun h3 c' hc' => by first | omega | (rw [List.getElem?_eq_none (by omega)] at hc'; cases hc') | (rw [hc] at hc'; cases hc'; unfold isDig; omega)
 refine o_ ?_
 refine xg 6 [0] rfl (by omega) ?_
 refine g_val (v := st8 (l.drop k)) rfl rfl rfl (y_val (y_sfrom (l := k) rfl rfl Try.underlying9 (by rw [size_mk]; omega)) (by rw [st8_drop]; rfl)) ?_
 refine xg 3 [0] rfl (by omega) ?_
 refine n_ (t_ (s_ (s_ (o_ ?_))))
 refine xg 2 [0] rfl rfl ?_
 refine n_ (t_ ?_)
 refine g_casep 57 rfl (fun h8 => ?_) fun h8 => ?_
 ·refine g_cond_t rfl (s_ (o_ ?_))
  refine xg 1 [] rfl rfl ?_
  refine n_ (t_ (g_ret (g_then_ret ?_)))
  refine g_end1 Try.results41 rfl ?_
  exact fun w hS => ⟨⟨(k, n), hk3, hkl, hdig, hstop, hn⟩, ret_int (by show _ = nv k n; unfold nv; split <;> omega), hS.pick [0,0] rfl⟩
 refine g_cond_f rfl (g_skip (t_ (s_ (o_ ?_))))
 refine xg 2 [] rfl rfl ?_
 refine n_ (t_ (g_ret ?_))
 refine g_end1 Try.results41 rfl ?_
 exact fun w hS => ⟨⟨(k, n), hk3, hkl, hdig, hstop, hn⟩, ret_int (by show _ = nv k n; unfold nv; split <;> omega), hS.pick [0,0] rfl⟩

set_option maxRecDepth 100000 in
theorem skip_any (b : Nat) (l : List UInt8) (e0 d v : Value) (ts : List Tok) (p : List UInt8) (F : List Nat) (w : World) (hl : l.length ≤ 1000) (hts : ts.length ≤ 1000) (hS0 : St w F [.cells b 50 [st8 l, e0, v, d], .row 64 7 v ts.length (ts.flatMap tC)] w) :
    Calls Try.prog 42 #[.pointer (some ⟨b, 0, none⟩), .string ⟨p.toArray⟩] w fun e w' => ∃ _ : Unit, e = .returned (.bool (Lib.hasPrefix l p)) ∧ St w F [.cells b 50 [st8 (Lib.trimPrefix l p), e0, v, d], .row 64 7 v ts.length (ts.flatMap tC)] w' := by
 refine fn_intro_own Try.func42 rfl Try.ntmps42 rfl rfl hS0 ?_
 refine s_ (o_ ?_)
 refine xg 1 [] rfl rfl ?_
 refine ntso_ ?_
 refine xg 5 [0] rfl (by omega) ?_
 refine g_call1 rfl rfl rfl Try.call34 (fun w hS => cutPrefix8 l p w) ?_
 refine xg 1 [] rfl rfl ?_
 refine g_val (v := st8 (Lib.trimPrefix l p)) rfl rfl rfl (y_extract rfl rfl) ?_
 refine g_val (v := .bool (Lib.hasPrefix l p)) rfl rfl rfl (y_extract rfl rfl) ?_
 refine xg 2 [] rfl rfl ?_
 refine ntso_ ?_
 refine xg 5 [0] rfl (by omega) ?_
 refine ntso_ ?_
 refine xg 2 [] rfl rfl ?_
 refine n_ (t_ (g_ret ?_))
 refine g_end1 Try.results42 rfl ?_
 exact fun w hS => ⟨(), rfl, hS.pick [0,0] rfl⟩

end Go.Proofs.Ytpoelkfncpjmfaa
