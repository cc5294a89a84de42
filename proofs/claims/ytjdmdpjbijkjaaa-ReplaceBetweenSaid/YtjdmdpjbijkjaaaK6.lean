/- The texts that the proof leans on, one behind the other (6 of 6). -/
import Derived.Handed
import Derived.Test.YtjdmdpjbijkjaaaK5
/- Parse: a template. -/
namespace Go.Proofs.Ytjdmdpjbijkjaaa
open Go Go.RowKit

abbrev Pc := List UInt8 × Int
def pcE (q : Pc) : List Value := [st8 q.1, .int .i64 q.2]
theorem pcE_len (q : Pc) : (pcE q).length = 2 := rfl
def flushP (ps : List Pc) (pl : List UInt8) : List Pc := if pl.length = 0 then ps else ps ++ [(pl, -1)]
theorem flushP_len (ps : List Pc) (pl : List UInt8) : (flushP ps pl).length ≤ ps.length + 1 := by
  unfold flushP
  split
  · omega
  · simp
/-- The pieces of what is left of a text, behind those that are there, and behind plain bytes. -/
def prs : List UInt8 → List Pc → List UInt8 → Option (List Pc)
  | [], ps, pl => some (flushP ps pl)
  | [c], ps, pl => if c.toNat = 38 then some (flushP (flushP ps pl ++ [([], 0)]) []) else if c.toNat = 92 then none else some (flushP ps (pl ++ [c]))
  | c :: d :: r, ps, pl => if c.toNat = 38 then prs (d :: r) (flushP ps pl ++ [([], 0)]) [] else if c.toNat = 92 then
      (if 49 ≤ d.toNat ∧ d.toNat ≤ 57 then prs r (flushP ps pl ++ [([], (d.toNat : Int) - 48)]) [] else if d.toNat = 110 then prs r ps (pl ++ [10]) else prs r ps (pl ++ [d]))
    else prs (d :: r) ps (pl ++ [c])
theorem prs_amp {c : UInt8} {r : List UInt8} {ps : List Pc} {pl : List UInt8} (h : c.toNat = 38) : prs (c :: r) ps pl = prs r (flushP ps pl ++ [([], 0)]) [] := by
  cases r with
  | nil => simp only [prs, if_pos h]
  | cons d r => rw [prs, if_pos h]
theorem prs_plain {c : UInt8} {r : List UInt8} {ps : List Pc} {pl : List UInt8} (h : ¬ c.toNat = 38) (h2 : ¬ c.toNat = 92) : prs (c :: r) ps pl = prs r ps (pl ++ [c]) := by
  cases r with
  | nil => simp only [prs, if_neg h, if_neg h2]
  | cons d r => rw [prs, if_neg h, if_neg h2]
theorem prs_esc0 {c : UInt8} {ps : List Pc} {pl : List UInt8} (h2 : c.toNat = 92) : prs [c] ps pl = none := by rw [prs, if_neg (by omega), if_pos h2]
theorem prs_dig {c d : UInt8} {r : List UInt8} {ps : List Pc} {pl : List UInt8} (h : c.toNat = 92) (h1 : 49 ≤ d.toNat ∧ d.toNat ≤ 57) : prs (c :: d :: r) ps pl = prs r (flushP ps pl ++ [([], (d.toNat : Int) - 48)]) [] := by rw [prs, if_neg (by omega), if_pos h, if_pos h1]
theorem prs_nl {c d : UInt8} {r : List UInt8} {ps : List Pc} {pl : List UInt8} (h : c.toNat = 92) (h1 : ¬ (49 ≤ d.toNat ∧ d.toNat ≤ 57)) (h2 : d.toNat = 110) : prs (c :: d :: r) ps pl = prs r ps (pl ++ [10]) := by rw [prs, if_neg (by omega), if_pos h, if_neg h1, if_pos h2]
theorem prs_esc {c d : UInt8} {r : List UInt8} {ps : List Pc} {pl : List UInt8} (h : c.toNat = 92) (h1 : ¬ (49 ≤ d.toNat ∧ d.toNat ≤ 57)) (h2 : ¬ d.toNat = 110) : prs (c :: d :: r) ps pl = prs r ps (pl ++ [d]) := by rw [prs, if_neg (by omega), if_pos h, if_neg h1, if_neg h2]
theorem drop_at {l : List UInt8} {i : Nat} {c : UInt8} (h : l[i]? = some c) : l.drop i = c :: l.drop (i + 1) := by
  obtain ⟨hi, rfl⟩ := List.getElem?_eq_some_iff.1 h
  exact List.drop_eq_getElem_cons hi
/-- A template's parser, behind so many bytes. -/
structure TPX where
  i : Nat
  ps : List Pc
  pl : List UInt8
  lv : Value
  pv : Value
  bl : Nat
  bp : Nat
section
variable {P : Program} {N : Nat} {R : Regs} {Q : Exit → Act → World → Prop} {ops : Array Oper} {rest : List Oper} {W0 : World} {F : List Nat} {L L0 Lr : List Ent} {ty : TypeId} {pos : String} {af : Array Edge} {gd : Option (Nat × Bool)} {x : Operand}
/-- A closure is called. -/
theorem g_cmV {α : Type} {I : World → Prop} {d : Nat} {f : FuncId} {xs : List Operand} {ats : Array TypeId} {vs cs us : List Value} {r : α → Value} {L1 : α → List Ent} (is : List Nat) (m : Meets P I f us r L0 L1) (hI : ∀ w, St W0 F L w → I w)
    (hw : want ops R ⟨some d, .call { callee := .value x, args := xs.toArray, argTypes := ats }, ty, pos, af, gd⟩ = some true) (hN : Nat.blt d N = true)
    (hx : xs.mapM (ev R) = some vs) (hxf : ev R x = some (.func (.func f) #[] cs.toArray)) (hu : us = vs ++ cs) (hp : pickE is L = some (L0, Lr)) (h : ∀ x, G N ((d, r x) :: R) (St W0 F (L1 x ++ Lr)) (wpList P ops Q rest)) :
    G N R (St W0 F L) (wpList P ops Q (⟨some d, .call { callee := .value x, args := xs.toArray, argTypes := ats }, ty, pos, af, gd⟩ :: rest)) :=
  g_callV r (fun x => St W0 F (L1 x ++ Lr)) hw hN hx hxf m.1 (fun w hS => by
    have hS' := hS.perm (pickE_perm hp)
    have h1 := (m.2 w _ (hI w hS) hS'.part).mono (R' := fun e w' => ∃ x, e = .returned (r x) ∧ St W0 F (L1 x ++ Lr) w') fun _ _ ⟨x, he, hb⟩ => ⟨x, he, St.join hS' (fun k hk => by obtain ⟨e, he, hk⟩ := List.mem_flatMap.1 hk; exact ⟨e, he, hk⟩) hb⟩
    rw [hu] at h1
    simpa using h1) h
end

set_option maxRecDepth 100000 in
theorem m_flush (bp bl : Nat) (pv lv : Value) (pl : List UInt8) (ps : List Pc) (h1 : pl.length ≤ 1000000) (h2 : ps.length ≤ 3000000) : Meets Try.prog (fun _ => True) 31 [.pointer (some ⟨bp, 0, none⟩), .pointer (some ⟨bl, 0, none⟩)] (fun _ : Value × Value => .tuple #[])
    [.cells bp 63 [pv], .bytes 5 pv pl, .cells bl 35 [lv], .row 34 2 lv ps.length (ps.flatMap pcE)] (fun y => [.cells bp 63 [y.1], .bytes 5 y.1 [], .cells bl 35 [y.2], .row 34 2 y.2 (flushP ps pl).length ((flushP ps pl).flatMap pcE)]) := ⟨Try.call31, fun w F _ hS => by
  refine fn_intro_own Try.func31 rfl Try.ntmps31 rfl rfl hS ?_
  refine s_ ?_
  refine g_rowLen 1 rfl (fun p1 c1 hv1 => ?_)
  subst hv1
  refine o_ ?_
  refine xg 3 [0,0] rfl (by omega) ?_
  refine n_ (t_ ?_)
  refine g_casep 4 rfl (fun h1 => ?_) fun h1 => ?_
  ·refine g_cond_t rfl (s_ (o_ ?_))
   refine xg 2 [2,0] rfl (by omega) ?_
   refine g_val (v := st8 pl) rfl rfl rfl (y_bytesStr 1 rfl Try.underlying63 Try.underlying9 Try.underlying5 rfl) ?_
   refine xg 1 [] rfl rfl ?_
   refine g_buildSlice (offs := [0]) rfl rfl Try.underlying35 rfl Try.zeroValue34 (by kernel_rfl) (fun b1 => ?_)
   refine g_appS (bytes := 24) pcE (pl, -1) 4 (j := 0) rfl rfl rfl rfl Try.underlying35 (by kernel_rfl) rfl rfl pcE_len rfl (by omega) (by have : maxLen = 9223372036854775807 := rfl; omega) (fun v2 => ?_)
   simp only [List.set_cons_zero, List.set_cons_succ]
   refine g_rowLen 4 rfl (fun pa2 ca2 hv2 => ?_)
   subst hv2
   refine xg 1 [3] rfl (by omega) ?_
   refine nto_ ?_
   refine xg 1 [1] rfl (by omega) ?_
   refine n_ (g_end_normal ?_)
   refine g_end0 Try.results31 ?_
   exact fun w2 hS => ⟨(.slice none 0 0, _), rfl, by rw [show flushP ps pl = ps ++ [(pl, -1)] from if_neg (by omega)]; exact (hS.nilRow 5 1).pick [2, 0, 2, 2] rfl⟩
  refine g_cond_f rfl (g_skip (g_end_normal ?_))
  refine g_end0 Try.results31 ?_
  exact fun w2 hS => ⟨(_, _), rfl, by obtain rfl : pl = [] := List.eq_nil_of_length_eq_zero (by omega); exact hS.pick [0,0,0,0] rfl⟩⟩
end Go.Proofs.Ytjdmdpjbijkjaaa

/- Parse: its walk. -/
namespace Go.Proofs.Ytjdmdpjbijkjaaa
open Go Go.RowKit

set_option maxHeartbeats 4000000 in
set_option maxRecDepth 100000 in
theorem parse_any11 (l : List UInt8) (hl : l.length ≤ 1000000) (w : World) :
    Calls Try.prog 13 #[st8 l] w fun e w' => ∃ y : Value × Int × List Pc, ((prs l [] [] = some y.2.2 ∧ y.2.1 = 0) ∨ (prs l [] [] = none ∧ y = (.slice none 0 0, 111, []))) ∧ e = .returned (.tuple #[y.1, .int .i64 y.2.1]) ∧ St w [] [.row 34 2 y.1 y.2.2.length (y.2.2.flatMap pcE)] w' := by
 have hszl := size_mk l
 refine fn_intro Try.func13 rfl Try.ntmps13 rfl rfl ?_
 refine s_ (o_ ?_)
 refine xg 2 [] rfl rfl ?_
 refine n_ (t_ ?_)
 refine g_scope_falls (α := ({x : TPX // x.i ≤ l.length ∧ prs (l.drop x.i) x.ps x.pl = prs l [] [] ∧ x.ps.length ≤ 2 * x.i ∧ x.pl.length ≤ x.i}) ⊕ ({x : TPX // x.i ≤ l.length ∧ prs (l.drop x.i) x.ps x.pl = prs l [] [] ∧ x.ps.length ≤ 2 * x.i ∧ x.pl.length ≤ x.i ∧ l[x.i]? = some 92})) (fun z => match z with | (.inl x) => [(0, st8 l), (4, .pointer (some ⟨x.1.bl, 0, none⟩)), (5, .pointer (some ⟨x.1.bp, 0, none⟩)), (6, .int .i64 (x.1.i : Int)), (7, .func (.func 31) #[] #[.pointer (some ⟨x.1.bp, 0, none⟩), .pointer (some ⟨x.1.bl, 0, none⟩)])] | (.inr x) => [(0, st8 l), (4, .pointer (some ⟨x.1.bl, 0, none⟩)), (5, .pointer (some ⟨x.1.bp, 0, none⟩)), (6, .int .i64 (x.1.i : Int)), (7, .func (.func 31) #[] #[.pointer (some ⟨x.1.bp, 0, none⟩), .pointer (some ⟨x.1.bl, 0, none⟩)])]) (fun z => match z with | (.inl x) => St w [] [.row 34 2 x.1.lv x.1.ps.length (x.1.ps.flatMap pcE), .bytes 5 x.1.pv x.1.pl, .cells x.1.bl 35 [x.1.lv], .cells x.1.bp 63 [x.1.pv]] | (.inr x) => St w [] [.row 34 2 x.1.lv x.1.ps.length (x.1.ps.flatMap pcE), .bytes 5 x.1.pv x.1.pl, .cells x.1.bl 35 [x.1.lv], .cells x.1.bp 63 [x.1.pv]]) (fun z => match z with | (.inl x) => 0 | (.inr x) => 1) (fun z => match z with | (.inl x) => 2 * (l.length - x.1.i) + 1 | (.inr x) => 2 * (l.length - x.1.i)) ?_ ?_
 ·rintro (x | x)
  ·refine ⟨_, rfl, ?_⟩
   dsimp only
   obtain ⟨⟨i, ps, pl, lv, pv, bl, bp⟩, hi, hpr, hp1, hp2⟩ := x
   dsimp only at hi hpr hp1 hp2 ⊢
   refine s_ (s_ (o_ ?_))
   refine xg 4 [0] rfl rfl ?_
   refine n_ (t_ ?_)
   refine g_casep 14 rfl (fun h1 => ?_) fun h1 => ?_
   ·refine g_cond_t rfl (s_ (o_ ?_))
    refine xg 1 [] rfl rfl ?_
    refine g_cmV [3,1,1,0] (m_flush bp bl pv lv pl ps (by omega) (by omega)) any_I rfl rfl rfl rfl rfl rfl (fun y1 => ?_)
    simp only [List.cons_append, List.nil_append]
    have hfl1 := flushP_len ps pl
    refine ntso_ ?_
    refine xg 3 [2] rfl (by omega) ?_
    refine n_ (t_ (g_ret (g_then_ret (g_jumps_ret ?_))))
    refine g_end2 Try.results13 rfl rfl ?_
    exact fun w2 hS => ⟨(y1.2, 0, (flushP ps pl)), .inl ⟨by rw [← hpr, List.drop_eq_nil_of_le (by omega)]; rfl, rfl⟩, rfl, hS.pick [3] rfl⟩
   refine g_cond_f rfl (g_skip (t_ (s_ (s_ (o_ ?_)))))
   refine xg 2 [] rfl rfl ?_
   obtain ⟨c8, hc8, hc88⟩ := st8_get (l := l) (i := i) (by omega)
   have hb8 := c8.toNat_lt
   refine g_val (v := .int .u8 (c8.toNat : Int)) rfl rfl rfl (y_sidxI (c := c8) rfl rfl Try.underlying9 (by omega) (by simpa using hc88)) ?_
   refine xg 1 [] rfl rfl ?_
   refine ntso_ ?_
   refine xg 1 [] rfl rfl ?_
   refine n_ (t_ (g_block (s_ (o_ ?_))))
   refine xg 2 [0] rfl rfl ?_
   refine n_ (t_ ?_)
   refine g_casep 26 rfl (fun h2 => ?_) fun h2 => ?_
   ·refine g_cond_t rfl (s_ (o_ ?_))
    refine xg 1 [] rfl rfl ?_
    refine g_cmV [3,1,1,0] (m_flush bp bl pv lv pl ps (by omega) (by omega)) any_I rfl rfl rfl rfl rfl rfl (fun y2 => ?_)
    simp only [List.cons_append, List.nil_append]
    have hfl2 := flushP_len ps pl
    refine nto_ ?_
    refine xg 2 [2] rfl (by omega) ?_
    refine g_buildSlice (offs := [0]) rfl rfl Try.underlying35 rfl Try.zeroValue34 (by kernel_rfl) (fun b3 => ?_)
    refine g_appS (bytes := 24) pcE ([], 0) 4 (j := 0) rfl rfl rfl rfl Try.underlying35 (by kernel_rfl) rfl rfl pcE_len rfl (by omega) (by have : maxLen = 9223372036854775807 := rfl; omega) (fun v4 => ?_)
    simp only [List.set_cons_zero, List.set_cons_succ]
    refine g_rowLen 4 rfl (fun pa4 ca4 hv4 => ?_)
    subst hv4
    refine xg 1 [3] rfl (by omega) ?_
    refine n_ (g_in_normal (t_ (s_ (o_ ?_))))
    refine xg 3 [] rfl (by omega) ?_
    refine n_ (t_ (s_ (g_goto (g_then_goto ?_))))
    exact g_jump (.inl ⟨⟨i + 1, ((flushP ps pl) ++ [([], 0)]), ([] : List UInt8), (.slice pa4 _ ca4), y2.1, bl, bp⟩, by dsimp only; omega, by rw [← hpr, drop_at hc8, prs_amp (by omega)], by dsimp only; (try simp only [List.length_append, List.length_cons, List.length_nil]); omega, by dsimp only; (try simp only [List.length_append, List.length_cons, List.length_nil]); omega⟩) [0, 4, 5, 6, 7] rfl (fun j hj => by cases hj; dsimp only; omega) rfl (fun w h => h.pick [4,2,2,1] rfl)
   refine g_cond_f rfl (s_ (o_ ?_))
   refine xg 2 [0] rfl rfl ?_
   refine n_ (t_ ?_)
   refine g_casep 34 rfl (fun h3 => ?_) fun h3 => ?_
   ·refine g_cond_t rfl (g_goto (g_in_goto (g_then_goto ?_)))
    have h92 : l[i]? = some 92 := by rw [hc8, show c8 = 92 from UInt8.toNat_inj.1 (by show c8.toNat = 92; omega)]
    exact g_jump (.inr ⟨⟨i, ps, pl, lv, pv, bl, bp⟩, hi, hpr, hp1, hp2, h92⟩) [0, 4, 5, 6, 7] rfl (fun j hj => by cases hj; dsimp only; omega) rfl (fun w h => h.pick [0,0,0,0] rfl)
   refine g_cond_f rfl (o_ ?_)
   refine xg 2 [3] rfl (by omega) ?_
   refine g_buildSlice (offs := [0]) rfl rfl Try.underlying63 rfl Try.zeroValue5 (by kernel_rfl) (fun b5 => ?_)
   refine g_appB (l' := [c8]) 2 0 rfl rfl rfl rfl Try.underlying63 (by kernel_rfl) rfl rfl rfl rfl (by omega) (fun v6 => ?_)
   simp only [List.set_cons_zero, List.set_cons_succ]
   refine g_rowLen 2 rfl (fun pa6 ca6 hv6 => ?_)
   subst hv6
   refine xg 1 [4] rfl (by omega) ?_
   refine n_ (g_in_normal (t_ (s_ (o_ ?_))))
   refine xg 3 [] rfl (by omega) ?_
   refine n_ (t_ (s_ (g_goto (g_then_goto ?_))))
   exact g_jump (.inl ⟨⟨i + 1, ps, (pl ++ [c8]), lv, (.slice pa6 _ ca6), bl, bp⟩, by dsimp only; omega, by rw [← hpr, drop_at hc8, prs_plain (by omega) (by omega)], by dsimp only; (try simp only [List.length_append, List.length_cons, List.length_nil]); omega, by dsimp only; (try simp only [List.length_append, List.length_cons, List.length_nil]); omega⟩) [0, 4, 5, 6, 7] rfl (fun j hj => by cases hj; dsimp only; omega) rfl (fun w h => h.pick [1,1,1,1] rfl)
  ·refine ⟨_, rfl, ?_⟩
   dsimp only
   obtain ⟨⟨i, ps, pl, lv, pv, bl, bp⟩, hi, hpr, hp1, hp2, h92⟩ := x
   dsimp only at hi hpr hp1 hp2 h92 ⊢
   have hi9 : i < l.length := (List.getElem?_eq_some_iff.1 h92).1
   refine s_ (s_ (o_ ?_))
   refine xg 3 [] rfl (by omega) ?_
   refine ntso_ ?_
   refine xg 4 [0] rfl rfl ?_
   refine n_ (t_ ?_)
   refine g_casep 43 rfl (fun h4 => ?_) fun h4 => ?_
   ·refine g_cond_t rfl (s_ (o_ ?_))
    refine xg 2 [] rfl rfl ?_
    refine n_ (t_ (g_ret (g_then_ret (g_jumps_ret ?_))))
    refine g_end2 Try.results13 rfl rfl ?_
    have hi2 : l.length = i + 1 := by omega
    refine fun w2 hS => ⟨(.slice none 0 0, 111, []), .inr ⟨?_, rfl⟩, rfl, ((hS.nilRow 34 2).pick [0] rfl)⟩
    rw [← hpr, drop_at h92, List.drop_eq_nil_of_le (by omega)]
    exact prs_esc0 rfl
   refine g_cond_f rfl (g_skip (t_ (s_ (s_ (o_ ?_)))))
   refine xg 2 [] rfl rfl ?_
   obtain ⟨c19, hc19, hc198⟩ := st8_get (l := l) (i := i + 1) (by omega)
   have hb19 := c19.toNat_lt
   refine g_val (v := .int .u8 (c19.toNat : Int)) rfl rfl rfl (y_sidxI (c := c19) rfl rfl Try.underlying9 (by omega) (by simpa using hc198)) ?_
   refine xg 1 [] rfl rfl ?_
   refine n_ (t_ (g_block (s_ (o_ ?_))))
   refine xg 3 [0] rfl rfl ?_
   refine g_casep 54 rfl (fun h5 => ?_) fun h5 => ?_
   ·refine xg 4 [0] rfl rfl ?_
    refine n_ (t_ ?_)
    refine g_casep 51 rfl (fun h6 => ?_) fun h6 => ?_
    ·refine g_cond_t rfl (s_ (o_ ?_))
     refine xg 1 [] rfl rfl ?_
     refine g_cmV [3,1,1,0] (m_flush bp bl pv lv pl ps (by omega) (by omega)) any_I rfl rfl rfl rfl rfl rfl (fun y7 => ?_)
     simp only [List.cons_append, List.nil_append]
     have hfl7 := flushP_len ps pl
     refine nto_ ?_
     refine xg 5 [2] rfl (by omega) ?_
     refine g_buildSlice (offs := [0]) rfl rfl Try.underlying35 rfl Try.zeroValue34 (by kernel_rfl) (fun b8 => ?_)
     refine g_appS (bytes := 24) pcE ([], (c19.toNat : Int) - 48) 4 (j := 0) rfl rfl rfl rfl Try.underlying35 (by kernel_rfl) rfl rfl pcE_len rfl (by omega) (by have : maxLen = 9223372036854775807 := rfl; omega) (fun v9 => ?_)
     simp only [List.set_cons_zero, List.set_cons_succ]
     refine g_rowLen 4 rfl (fun pa9 ca9 hv9 => ?_)
     subst hv9
     refine xg 1 [3] rfl (by omega) ?_
     refine n_ (g_in_normal (t_ (s_ (o_ ?_))))
     refine xg 3 [] rfl (by omega) ?_
     refine n_ (t_ (g_goto ?_))
     exact g_jump (.inl ⟨⟨i + 2, ((flushP ps pl) ++ [([], (c19.toNat : Int) - 48)]), ([] : List UInt8), (.slice pa9 _ ca9), y7.1, bl, bp⟩, by dsimp only; omega, by rw [← hpr, drop_at h92, drop_at hc19, prs_dig rfl ⟨by omega, by omega⟩], by dsimp only; (try simp only [List.length_append, List.length_cons, List.length_nil]); omega, by dsimp only; (try simp only [List.length_append, List.length_cons, List.length_nil]); omega⟩) [0, 4, 5, 6, 7] rfl (fun j hj => by cases hj; dsimp only; omega) rfl (fun w h => h.pick [4,2,2,1] rfl)
    refine g_cond_f rfl (s_ (o_ ?_))
    refine xg 3 [0] rfl rfl ?_
    refine n_ (t_ ?_)
    refine g_casep 67 rfl (fun h7 => ?_) fun h7 => ?_
    ·refine g_cond_t rfl (o_ ?_)
     refine xg 1 [3] rfl (by omega) ?_
     refine g_buildSlice (offs := [0]) rfl rfl Try.underlying63 rfl Try.zeroValue5 (by kernel_rfl) (fun b10 => ?_)
     refine g_appB (l' := [10]) 2 0 rfl rfl rfl rfl Try.underlying63 (by kernel_rfl) rfl rfl rfl rfl (by omega) (fun v11 => ?_)
     simp only [List.set_cons_zero, List.set_cons_succ]
     refine g_rowLen 2 rfl (fun pa11 ca11 hv11 => ?_)
     subst hv11
     refine xg 1 [4] rfl (by omega) ?_
     refine n_ (g_in_normal (t_ (s_ (o_ ?_))))
     refine xg 3 [] rfl (by omega) ?_
     refine n_ (t_ (g_goto ?_))
     exact g_jump (.inl ⟨⟨i + 2, ps, (pl ++ [10]), lv, (.slice pa11 _ ca11), bl, bp⟩, by dsimp only; omega, by rw [← hpr, drop_at h92, drop_at hc19, prs_nl rfl (by omega) (by omega)], by dsimp only; (try simp only [List.length_append, List.length_cons, List.length_nil]); omega, by dsimp only; (try simp only [List.length_append, List.length_cons, List.length_nil]); omega⟩) [0, 4, 5, 6, 7] rfl (fun j hj => by cases hj; dsimp only; omega) rfl (fun w h => h.pick [1,1,1,1] rfl)
    refine g_cond_f rfl (o_ ?_)
    refine xg 2 [3] rfl (by omega) ?_
    refine g_buildSlice (offs := [0]) rfl rfl Try.underlying63 rfl Try.zeroValue5 (by kernel_rfl) (fun b12 => ?_)
    refine g_appB (l' := [c19]) 2 0 rfl rfl rfl rfl Try.underlying63 (by kernel_rfl) rfl rfl rfl rfl (by omega) (fun v13 => ?_)
    simp only [List.set_cons_zero, List.set_cons_succ]
    refine g_rowLen 2 rfl (fun pa13 ca13 hv13 => ?_)
    subst hv13
    refine xg 1 [4] rfl (by omega) ?_
    refine n_ (g_in_normal (t_ (s_ (o_ ?_))))
    refine xg 3 [] rfl (by omega) ?_
    refine n_ (t_ (g_goto ?_))
    exact g_jump (.inl ⟨⟨i + 2, ps, (pl ++ [c19]), lv, (.slice pa13 _ ca13), bl, bp⟩, by dsimp only; omega, by rw [← hpr, drop_at h92, drop_at hc19, prs_esc rfl (by omega) (by omega)], by dsimp only; (try simp only [List.length_append, List.length_cons, List.length_nil]); omega, by dsimp only; (try simp only [List.length_append, List.length_cons, List.length_nil]); omega⟩) [0, 4, 5, 6, 7] rfl (fun j hj => by cases hj; dsimp only; omega) rfl (fun w h => h.pick [1,1,1,1] rfl)
   refine xg 4 [] rfl rfl ?_
   refine n_ (t_ (g_cond_f rfl (s_ (o_ ?_))))
   refine xg 3 [0] rfl rfl ?_
   refine n_ (t_ ?_)
   refine g_casep 67 rfl (fun h8 => ?_) fun h8 => ?_
   ·refine g_cond_t rfl (o_ ?_)
    refine xg 1 [3] rfl (by omega) ?_
    refine g_buildSlice (offs := [0]) rfl rfl Try.underlying63 rfl Try.zeroValue5 (by kernel_rfl) (fun b14 => ?_)
    refine g_appB (l' := [10]) 2 0 rfl rfl rfl rfl Try.underlying63 (by kernel_rfl) rfl rfl rfl rfl (by omega) (fun v15 => ?_)
    simp only [List.set_cons_zero, List.set_cons_succ]
    refine g_rowLen 2 rfl (fun pa15 ca15 hv15 => ?_)
    subst hv15
    refine xg 1 [4] rfl (by omega) ?_
    refine n_ (g_in_normal (t_ (s_ (o_ ?_))))
    refine xg 3 [] rfl (by omega) ?_
    refine n_ (t_ (g_goto ?_))
    exact g_jump (.inl ⟨⟨i + 2, ps, (pl ++ [10]), lv, (.slice pa15 _ ca15), bl, bp⟩, by dsimp only; omega, by rw [← hpr, drop_at h92, drop_at hc19, prs_nl rfl (by omega) (by omega)], by dsimp only; (try simp only [List.length_append, List.length_cons, List.length_nil]); omega, by dsimp only; (try simp only [List.length_append, List.length_cons, List.length_nil]); omega⟩) [0, 4, 5, 6, 7] rfl (fun j hj => by cases hj; dsimp only; omega) rfl (fun w h => h.pick [1,1,1,1] rfl)
   refine g_cond_f rfl (o_ ?_)
   refine xg 2 [3] rfl (by omega) ?_
   refine g_buildSlice (offs := [0]) rfl rfl Try.underlying63 rfl Try.zeroValue5 (by kernel_rfl) (fun b16 => ?_)
   refine g_appB (l' := [c19]) 2 0 rfl rfl rfl rfl Try.underlying63 (by kernel_rfl) rfl rfl rfl rfl (by omega) (fun v17 => ?_)
   simp only [List.set_cons_zero, List.set_cons_succ]
   refine g_rowLen 2 rfl (fun pa17 ca17 hv17 => ?_)
   subst hv17
   refine xg 1 [4] rfl (by omega) ?_
   refine n_ (g_in_normal (t_ (s_ (o_ ?_))))
   refine xg 3 [] rfl (by omega) ?_
   refine n_ (t_ (g_goto ?_))
   exact g_jump (.inl ⟨⟨i + 2, ps, (pl ++ [c19]), lv, (.slice pa17 _ ca17), bl, bp⟩, by dsimp only; omega, by rw [← hpr, drop_at h92, drop_at hc19, prs_esc rfl (by omega) (by omega)], by dsimp only; (try simp only [List.length_append, List.length_cons, List.length_nil]); omega, by dsimp only; (try simp only [List.length_append, List.length_cons, List.length_nil]); omega⟩) [0, 4, 5, 6, 7] rfl (fun j hj => by cases hj; dsimp only; omega) rfl (fun w h => h.pick [1,1,1,1] rfl)
 ·intro hp
  refine s_ (o_ ?_)
  refine g_alloc rfl rfl Try.zeroValue35 rfl (fun bl => ?_)
  refine g_nrm (L' := .cells bl 35 [.slice none 0 0] :: _) rfl ?_
  refine g_nilRow 34 2 ?_
  refine ntso_ ?_
  refine g_alloc rfl rfl Try.zeroValue63 rfl (fun bp => ?_)
  refine g_nrm (L' := .cells bp 63 [.slice none 0 0] :: _) rfl ?_
  refine g_nilBytes 5 ?_
  refine ntso_ ?_
  refine xg 1 [] rfl rfl ?_
  refine ntso_ ?_
  refine g_val rfl rfl rfl (y_makeFunc rfl) ?_
  refine xg 1 [] rfl rfl ?_
  refine n_ (t_ (s_ (g_label (t_ ?_))))
  exact g_fall (hp ((.inl ⟨⟨0, [], [], .slice none 0 0, .slice none 0 0, bl, bp⟩, Nat.zero_le _, rfl, Nat.zero_le _, Nat.zero_le _⟩)) _ rfl) [0, 4, 5, 6, 7] rfl (fun w h => h.pick [2,0,1,0] rfl)

end Go.Proofs.Ytjdmdpjbijkjaaa

/-
  The wrap of a row whose walk needs the library's variables: the world has its shape.
-/
namespace Go.Proofs.Ytjdmdpjbijkjaaa
open Go Go.RowKit
section
variable {H : Type} {enc : TypeId × Value → H} {P : Program}
theorem returns_shaped {a : Assume} {C : Checked} {os : Os} {f : FuncId} {fn : Func} {s : ChangeSpec} {conds : List PathCond} {apart fresh handsOn again : Bool}
    (own : ownKnob C.prog.godebug = none) (started : os.Started) (noInit : C.prog.inits.idxOf? f = none) (hfn : C.prog.funcs[f]? = some fn)
    (witness : ∃ (w : World) (tape : Tape) (i : Input), w.os = os ∧ (w.forCall tape i).Shaped C.prog ∧ i.vars = [] ∧ Input.okWide C.prog (w.forCall tape i) .any w.heap.size f i ∧
      s.pre6 enc C.prog fn conds apart (w.forCall tape i).memory i.args ∧ a.holds C.prog (lone (Frame.enter C.prog f i.args .normal) [] (w.forCall tape i)))
    (walk : ∀ (W : World) (base : Nat) (args : Array Value) (ds gs : List (DataW H)) (before : List MemPlace), W.ShapedOpen C.prog →
      (∀ (j : Nat) t v, fn.params[j]? = some t → args[j]? = some v → Value.okWide C.prog W .any base t v) →
      DataW.Whole enc C.prog fn.params.toList s.vars apart W args.toList ds gs before →
      Calls C.prog f args W fun e W' => ∃ v, e = .returned v ∧ s.post enc C.prog fn apart fresh handsOn again W args v W') :
    ReturnsInHanded a C os f .any (s.pre6 enc C.prog fn conds apart) (s.post enc C.prog fn apart fresh handsOn again) := by
  refine returnsInHanded_of_calls own started noInit witness fun w tape i _ hsh _ hok hpre _ => ?_
  obtain ⟨_, _, _, g, hg, _, _, _, _, hval⟩ := hok
  obtain rfl : g = fn := Option.some.inj (hg.symm.trans hfn)
  obtain ⟨⟨ds, gs, before, hw, _⟩, _⟩ := hpre
  refine (walk (w.forCall tape i) w.heap.size i.args ds gs before hsh hval (hw.of_heap (by rfl))).mono fun e W' h => ?_
  obtain ⟨v, rfl, hp⟩ := h
  exact ChangeSpec.post_blind hp
/-- A variable of a whole number holds one. -/
theorem int_of_shape {w : World} {g : Nat} {t : TypeId} {k : IntKind} {zero : Array Value} (h : w.ShapedOpen P) (hg : g < P.globals.size)
    (h0 : ((begin P (fun _ _ => 0) default).world.heap[g]?).bind Obj.row? = some (zero, t)) (hz : zero.size = 1)
    (hb : P.buildable t = true) (hc : P.cellTypes P.depth t = some [t]) (hu : P.underlying t = some (.int k)) : ∃ m, w.cell? ⟨g, 0, none⟩ = some (.int k m) := by
  obtain ⟨cs, hh, hs, hr⟩ := h.1 g zero t hg h0
  obtain ⟨ts, hts, _, hall⟩ := hr hb
  rw [hc] at hts
  cases hts
  obtain ⟨u, hu', hok⟩ := hall 0 (cs[0]'(by omega)) (by simp)
  obtain rfl : u = t := by simpa using hu'.symm
  have hcell : w.cell? ⟨g, 0, none⟩ = some (cs[0]'(by omega)) := by simp [World.cell?, hh]
  rw [hcell]
  unfold Cell.ok at hok
  rw [hu] at hok
  cases hv : cs[0]'(by omega) <;> rw [hv] at hok <;> simp_all
end
end Go.Proofs.Ytjdmdpjbijkjaaa

/- What is handed to Replace; a live question. -/
namespace Go.Proofs.Ytjdmdpjbijkjaaa
open Go Go.RowKit

/-- Pieces, as functions. -/
def txP (ps : List Pc) (i : Nat) : ByteArray := ⟨(ps.getD i ([], 0)).1.toArray⟩
def nnP (ps : List Pc) (i : Nat) : Int := (ps.getD i ([], 0)).2
theorem row_rd {w : World} {p : Option Addr} {n c : Nat} {ps : List Pc} (h : w.ownsRow 0 34 2 (.slice p n c) ps.length (ps.flatMap pcE)) : n = ps.length ∧ RdSl w p n 2 (pcF (txP ps) (nnP ps)) := by
  obtain ⟨h1, h2⟩ := h
  rcases h2 with ⟨hv, h0⟩ | ⟨g, cap, cur, hv, _, hg, hnc, _, hcs, htake⟩
  · cases hv
    exact ⟨h0.symm, fun h => absurd h (by omega), fun h => absurd h (by omega), fun i j hi => absurd hi (by omega)⟩
  · cases hv
    refine ⟨rfl, fun _ => rfl, fun _ => lt_of_some hg, fun i j hi hj => ?_⟩
    show w.cell? ((⟨g, 0, none⟩ : Addr).add (i * 2 + j)) = _
    obtain ⟨a, ha⟩ : ∃ a, ps[i]? = some a := ⟨_, List.getElem?_eq_getElem hi⟩
    have e1 : (ps.flatMap pcE)[i * 2 + j]? = (pcE a)[j]? := fm_get pcE 2 pcE_len ps i j a ha hj
    rw [Addr.add_mid, Nat.zero_add, cell_of_row w g (i * 2 + j) cur 34 (0, 0) hg]
    have e2 : (pcF (txP ps) (nnP ps)) i j = ((pcE a)[j]?).getD default := by
      show ((pcC (txP ps i) (nnP ps i))[j]?).getD default = _
      unfold txP nnP
      rw [List.getD_eq_getElem?_getD, ha]; rfl
    have hlt : i * 2 + j < ps.length * 2 := by omega
    rw [e2, ← e1, ← htake, List.getElem?_take, if_pos hlt]
    simp only [Array.getElem?_toList]
    have hcur : i * 2 + j < cur.size := by omega
    rw [Array.getElem?_eq_getElem hcur]; rfl
theorem cells_rd {w : World} {b : Nat} {t : TypeId} {tx : Nat → ByteArray} {nn : Nat → Int} (h : w.heap[b]? = some (.cells (pcC (tx 0) (nn 0)).toArray t (0, 0))) : RdSl w (some ⟨b, 0, none⟩) 1 2 (pcF tx nn) :=
  ⟨fun _ => rfl, fun _ => lt_of_some h, fun i j hi hj => by
    obtain rfl : i = 0 := by omega
    show w.cell? ((⟨b, 0, none⟩ : Addr).add (0 * 2 + j)) = _
    rw [Addr.add_mid, cell_of_row w b (0 + (0 * 2 + j)) _ t (0, 0) h]
    match j, hj with
    | 0, _ => rfl
    | 1, _ => rfl⟩
theorem nil_rd {w : World} {f : Nat → Nat → Value} : RdSl w none 0 2 f := ⟨fun h => absurd h (by omega), fun h => absurd h (by omega), fun i j hi => absurd hi (by omega)⟩
theorem m_repl (t : MT) (p : Option Addr) (n c : Nat) (tx : Nat → ByteArray) (nn : Nat → Int) (l : List UInt8) (ct : Int) (gl : Bool) (hx : l.length ≤ 1000000) (hle : wT t ≤ 1000000) (hn : n ≤ 1000000) (hfl : ∀ m k, k ≤ n → (fillU l m tx nn k).length ≤ 1099511627776) :
    Meets Try.prog (fun w => t.rd w ∧ RdSl w p n 2 (pcF tx nn)) 10 [.agg (nC t).toArray, .slice p n c, st8 l, .int .i64 ct, .bool gl] (fun y : {x : List UInt8 × Int × Int // RP ct gl l (fun m => fillU l m tx nn n) (allM l t) x} => .tuple #[st8 y.1.1, .int .i64 y.1.2.1, .int .i64 y.1.2.2]) [] (fun _ => []) :=
  ⟨Try.call10, fun w F hI hS => (Rd.replace_any t p n c tx nn l ct gl hx hle hn hfl w hI.1 hI.2).mono fun _ _ ⟨x, hx, he, hb⟩ => ⟨⟨x, hx⟩, he, by simpa using hS.then (St.of_below hb)⟩⟩
theorem m_parse11 (l : List UInt8) (hl : l.length ≤ 1000000) : Meets Try.prog (fun _ => True) 13 [st8 l] (fun y : {y : Value × Int × List Pc // (prs l [] [] = some y.2.2 ∧ y.2.1 = 0) ∨ (prs l [] [] = none ∧ y = (.slice none 0 0, 111, []))} => .tuple #[y.1.1, .int .i64 y.1.2.1]) [] (fun y => [.row 34 2 y.1.1 y.1.2.2.length (y.1.2.2.flatMap pcE)]) :=
  ⟨Try.call13, fun w F _ hS => (parse_any11 l hl w).mono fun _ _ ⟨y, hy, he, hb⟩ => ⟨⟨y, hy⟩, he, by simpa using hS.then hb⟩⟩
theorem allM_er (l : List UInt8) (t : MT) : allM l (er t) = allM l t := by
  unfold allM
  generalize (l.length + 2) = f
  generalize (0 : Int) = fr
  generalize (-1 : Int) = en
  induction f generalizing fr en with
  | zero => rfl
  | succ f ih => rw [alls, alls, findR_er]; simp only [ih]
/-! ### What comes out is short -/
theorem rS_small {ct : Int} {l : List UInt8} {t : MT} {fm : Spn → List UInt8} {B : Nat} (hfm : ∀ m, (fm m).length ≤ B) : ∀ (k : Nat), k ≤ (allM l t).length → ((rS ct l fm (allM l t) k).2.2.length : Int) ≤ (rS ct l fm (allM l t) k).1 + (k * B : Nat)
  | 0, _ => by show (0 : Int) ≤ 0 + ((0 * B : Nat) : Int); omega
  | k + 1, hk => by
    have ih := rS_small (ct := ct) (l := l) (t := t) hfm k (by omega)
    obtain ⟨m, hm⟩ : ∃ m, (allM l t)[k]? = some m := ⟨_, List.getElem?_eq_getElem (show k < (allM l t).length by omega)⟩
    obtain ⟨i1, i2, i3⟩ := rS_at (ct := ct) (l := l) (t := t) (fm := fm) k (by omega)
    have h1 := (alls_ord (x := txt l) (t := t) (l.length + 2) 0 (-1) (Int.le_refl 0)).1 k m hm
    have h3 := i3 m hm
    have h4 := hfm m
    have e : (k + 1) * B = k * B + B := Nat.succ_mul k B
    rw [rS]
    split
    · omega
    · rw [mAt_eq hm]
      dsimp only
      rw [List.length_append, List.length_append, List.length_drop, List.length_take, e]
      omega
theorem rS_zero {ct : Int} {l : List UInt8} {fm : Spn → List UInt8} {ms : List Spn} : ∀ (k : Nat), (k : Int) < ct → rS ct l fm ms k = (0, 0, [])
  | 0, _ => rfl
  | k + 1, h => by rw [rS_skip (by omega)]; exact rS_zero k (by omega)
theorem rS_done {ct : Int} (hct : 1 ≤ ct) {l : List UInt8} {fm : Spn → List UInt8} {ms : List Spn} : ∀ (k : Nat), (rS ct l fm ms k).2.1 = max 0 ((k : Int) - ct + 1)
  | 0 => by show (0 : Int) = _; omega
  | k + 1 => by
    have ih := rS_done hct (l := l) (fm := fm) (ms := ms) k
    rw [rS]
    split
    · rw [ih]; omega
    · dsimp only; rw [ih]; omega
/-- What Replace answers where nothing grows long. -/
theorem RP_small {ct : Int} {gl : Bool} {l : List UInt8} {t : MT} {fm : Spn → List UInt8} {B : Nat} {x : List UInt8 × Int × Int} (hfm : ∀ m, (fm m).length ≤ B) (hB : l.length + (l.length + 2) * B + l.length ≤ 1024) (hct : 1 ≤ ct) (h : RP ct gl l fm (allM l t) x) :
    ∃ K, K ≤ (allM l t).length ∧ (gl = true → K = (allM l t).length) ∧ (gl = false → (K : Int) = min ((allM l t).length : Int) ct) ∧ x = ((rS ct l fm (allM l t) K).2.2 ++ l.drop (rS ct l fm (allM l t) K).1.toNat, max 0 ((K : Int) - ct + 1), 0) := by
  have hlen : ∀ k, k ≤ (allM l t).length → (rS ct l fm (allM l t) k).2.2.length ≤ l.length + (l.length + 2) * B := fun k hk => by
    have h1 := rS_small (ct := ct) hfm k hk
    have h2 := (rS_at (ct := ct) (fm := fm) k hk).2.1
    have h3 : k * B ≤ (l.length + 2) * B := Nat.mul_le_mul_right B (Nat.le_trans hk (alls_len _ _ _))
    omega
  have hb : ∀ k, k < (allM l t).length → (brk gl ct l fm (allM l t) k ↔ (¬ (k : Int) + 1 < ct ∧ gl = false)) := fun k hk => by
    have := hlen (k + 1) hk
    unfold brk
    constructor
    · rintro ⟨a, b | b⟩
      · exact ⟨a, b⟩
      · omega
    · exact fun ⟨a, b⟩ => ⟨a, .inl b⟩
  rcases h with ⟨h, _⟩ | ⟨_, h, _⟩ | ⟨_, _, K, hK, hx⟩
  · omega
  · omega
  · have hKl : K ≤ (allM l t).length := by rcases hK with ⟨h, _⟩ | ⟨_, h, h2, _⟩ <;> omega
    refine ⟨K, hKl, fun hg => ?_, fun hg => ?_, ?_⟩
    · rcases hK with ⟨h, _⟩ | ⟨k, _, h2, h3, _⟩
      · exact h
      · have := ((hb k h2).1 h3).2; rw [hg] at this; cases this
    · rcases hK with ⟨h, h2⟩ | ⟨k, h, h2, h3, h4⟩
      · have h5 : ¬ (((allM l t).length : Int) > ct) := fun h5 => by
          have := h2 (ct.toNat) (by omega)
          exact this ((hb _ (by omega)).2 ⟨by omega, hg⟩)
        by_cases h6 : (allM l t).length = 0
        · omega
        · have := h2 (K - 1) (by omega)
          omega
      · have h5 := ((hb k h2).1 h3).1
        by_cases h6 : (k : Int) < ct
        · omega
        · have := h4 (k - 1) (by omega)
          exact absurd ((hb _ (by omega)).2 ⟨by omega, hg⟩) this
    · have h1 := hlen K hKl
      rcases hx with ⟨hx, _⟩ | ⟨_, hx⟩
      · rw [List.length_append, List.length_drop] at hx; omega
      · rw [hx, rS_done hct]

end Go.Proofs.Ytjdmdpjbijkjaaa

/- A live question. -/
namespace Go.Proofs.Ytjdmdpjbijkjaaa
open Go Go.RowKit

theorem pc_lit {ts : List Tok} {k : Nat} {g : Int} {c : UInt8} {ms ms' : List MT} {k2 : Nat} {g2 : Int} {b2 : Bool} (h : ts[k]? = some (litT c)) (h4 : isK ts (k + 1) 4 = false) (hr : RPcs ts (k + 1) g false (ms ++ [oneM c]) ms' k2 g2 b2) : RPcs ts k g false ms ms' k2 g2 b2 :=
  .piece (isK_2 h (by show ¬ (0 : Int) = 3; decide)) (isK_2 h (by show ¬ (0 : Int) = 2; decide)) (.plain (.set h rfl) h4) hr
/-- A group, of what stands within. -/
theorem pc_grp {ts : List Tok} {k : Nat} {g : Int} {t : MT} {k1 : Nat} {g1 : Int} {ms ms' : List MT} {k2 : Nat} {g2 : Int} {b2 : Bool} (h : ts[k]? = some (kT 1)) (h9 : g + 1 ≤ 9) (hi : RAll ts (k + 1) (g + 1) false t k1 g1 false) (h2 : isK ts k1 2 = true) (h4 : isK ts (k1 + 1) 4 = false)
    (hr : RPcs ts (k1 + 1) g1 false (ms ++ [.mk 5 s0 0 0 (g + 1) nilS [t]]) ms' k2 g2 b2) : RPcs ts k g false ms ms' k2 g2 b2 :=
  .piece (isK_2 h (by show ¬ (1 : Int) = 3; decide)) (isK_2 h (by show ¬ (1 : Int) = 2; decide)) (.plain (.group h (by show ¬ (1 : Int) = 5; decide) (by show ¬ (1 : Int) = 6; decide) (by show ¬ (1 : Int) = 4; decide) (by show ¬ (1 : Int) = 0; decide) (.shut h9 hi h2)) h4) hr
theorem pc_rep {ts : List Tok} {k : Nat} {g : Int} {c : UInt8} {u : Tok} {ms ms' : List MT} {k2 : Nat} {g2 : Int} {b2 : Bool} (h : ts[k]? = some (litT c)) (h4 : ts[k + 1]? = some u) (hu : u.k = 4) (hr : RPcs ts (k + 1 + 1) g false (ms ++ [.mk 4 s0 u.mi u.ma 0 nilS [oneM c]]) ms' k2 g2 b2) : RPcs ts k g false ms ms' k2 g2 b2 :=
  .piece (isK_2 h (by show ¬ (0 : Int) = 3; decide)) (isK_2 h (by show ¬ (0 : Int) = 2; decide)) (.rep (.set h rfl) h4 hu) hr

def rowM (q : List MT) : MT := .mk 2 s0 0 0 0 nilS q
def eiM (q : List MT) : MT := .mk 3 s0 0 0 0 nilS q
def grM (n : Int) (t : MT) : MT := .mk 5 s0 0 0 n nilS [t]
def reM (mi ma : Int) (t : MT) : MT := .mk 4 s0 mi ma 0 nilS [t]

theorem maxHere_of {w : World} (h : w.ShapedOpen Try.prog) : MaxHere w :=
  int_of_shape (g := 0) (t := 3) (zero := #[.int .i64 0]) h (Nat.le_of_ble_eq_true (by kernel_rfl)) (by kernel_rfl) rfl (by kernel_rfl) (by kernel_rfl) Try.underlying3

theorem nC_one_rd {t : MT} (h : ∃ p n c, t.v = .slice p n c) : (nC t).all (·.oneCell') = true := by
  cases t with | mk k s mi ma nu v q =>
  obtain ⟨p, n, c, rfl⟩ := h
  rfl
theorem g_shape {N : Nat} {R : Regs} {W0 : World} {F : List Nat} {L : List Ent} {X : Act → World → Prop} {t : MT} {ts : List MT} (i : Nat) (hi : L[i]? = some (.forest (t :: ts))) (h : (∃ p n c, t.v = .slice p n c) → G N R (St W0 F L) X) : G N R (St W0 F L) X := fun a w hR hS => by
  obtain ⟨k, s, mi, ma, nu, p, c, q, rfl⟩ := rd_v (forest_rd hS hi)
  exact h ⟨_, _, _, rfl⟩ a w hR hS

theorem spanL_len (l : List UInt8) (a b : Int) : (spanL l a b).length ≤ l.length := by
  unfold spanL
  split
  · exact Nat.zero_le _
  · rw [List.length_drop, List.length_take]; omega
theorem fillU_le {l : List UInt8} {m : Spn} {tx : Nat → ByteArray} {nn : Nat → Int} {T n : Nat} (htx : ∀ i, i < n → (tx i).size ≤ T) : ∀ (k : Nat), k ≤ n → (fillU l m tx nn k).length ≤ k * (T + l.length)
  | 0, _ => by rw [fillU]; exact Nat.zero_le _
  | k + 1, hk => by
    have ih := fillU_le (l := l) (m := m) (nn := nn) htx k (by omega)
    have h1 := htx k (by omega)
    have h2 := spanL_len l (m (nn k).toNat).1 (m (nn k).toNat).2
    have h3 : ((tx k).data.toList).length = (tx k).size := by rw [Array.length_toList]; rfl
    rw [fillU, List.length_append, Nat.succ_mul]
    unfold pcT
    split
    · omega
    · split
      · omega
      · rw [List.length_nil]; omega
def alT0 : MT := reM 0 (-1) (oneM 98)
def alP : List Pc := [([60], -1), ([], 0), ([62], -1)]
def alL : List UInt8 := [97, 98, 98, 99]
def alF (m : Spn) : List UInt8 := fillU alL m (txP alP) (nnP alP) 3
theorem al_tok : tokF (tokX false) [98, 42] [] 0 = some [litT 98, timesT 0 (-1)] := rfl
theorem al_all : RAll [litT 98, timesT 0 (-1)] 0 0 false alT0 2 0 false := .one (.one (pc_rep rfl rfl rfl (.stop (.inl (by decide))))) (.stop (.inr rfl))
theorem al_prs : prs [60, 38, 62] [] [] = some alP := rfl
theorem al_rep : (allM alL (er alT0)).length = 3 ∧ (rS 1 alL alF (allM alL (er alT0)) 3).2.2 ++ alL.drop (rS 1 alL alF (allM alL (er alT0)) 3).1.toNat = [60, 62, 97, 60, 98, 98, 62, 99, 60, 62] := by decide +kernel
theorem al_is {x : MT × Int} (h : parX false [98, 42] x) : x.2 = 0 ∧ wT x.1 ≤ 1000 ∧ ∀ y, RP 1 true alL alF (allM alL x.1) y → y = ([60, 62, 97, 60, 98, 98, 62, 99, 60, 62], 3, 0) := by
  have hok : ∀ c : UInt8, c ∈ [98, 42] → okC c := by
    intro c hc
    simp only [List.mem_cons, List.not_mem_nil, or_false] at hc
    rcases hc with rfl | rfl <;> (unfold okC; decide)
  obtain ⟨h0, h1⟩ := parX_is h hok (by decide) (by decide) al_tok al_all (by decide)
  refine ⟨h0, parX_size h, fun y hy => ?_⟩
  obtain ⟨h2, h3⟩ := al_rep
  rw [← h1, allM_er] at h2 h3
  obtain ⟨K, _, hK, _, rfl⟩ := RP_small (B := 15) (fun m => fillU_le (n := 3) (T := 1) (by decide) 3 (Nat.le_refl _)) (by decide) (by decide) hy
  rw [hK rfl, h2, h3]
  rfl

set_option maxRecDepth 100000 in
theorem alive_any (w : World) (hz : MaxHere w) :
    Calls Try.prog 9 #[] w fun e w' => e = .returned (.bool true) ∧ Below w.heap.size w w' := by
 refine fn_intro Try.func9 rfl Try.ntmps9 rfl rfl ?_
 refine s_ (o_ ?_)
 refine xg 1 [] rfl rfl ?_
 refine ntso_ ?_
 refine g_callNew (fun x : {x : MT × Int // parX false [98, 42] x} => .tuple #[.agg (nC x.1.1).toArray, .int .i64 x.1.2]) (fun x => [.forest [x.1.1]]) rfl rfl rfl Try.call8 (fun w hS => parse_xb [98, 42] w (hS.maxHere hz (by simp))) ?_
 rintro ⟨⟨t, ern⟩, hpar⟩
 obtain ⟨h0, hle, hal⟩ := al_is hpar
 dsimp only at h0 hle hal
 subst h0
 refine g_shape 0 rfl fun hto => ?_
 dsimp only
 simp only [List.cons_append, List.nil_append]
 refine xg 1 [] rfl rfl ?_
 refine g_val (v := .agg (nC t).toArray) rfl rfl rfl (y_extract rfl rfl) ?_
 refine xg 1 [] rfl rfl ?_
 refine g_alloc rfl rfl Try.zeroValue28 rfl (fun b1 => ?_)
 refine g_stN (vs := nC t) 0 rfl rfl rfl (by kernel_rfl) (nC_one_rd hto) rfl rfl (nC_len _) ?_
 simp only [List.set_cons_zero]
 refine xg 1 [] rfl rfl ?_
 refine ntso_ ?_
 refine g_cm [] (m_parse11 [60, 38, 62] (by decide)) any_I rfl rfl rfl rfl (fun y => ?_)
 obtain ⟨⟨v, er2, ps⟩, hy⟩ := y
 obtain ⟨rfl, rfl⟩ : ps = alP ∧ er2 = 0 := by
   rcases hy with ⟨a, b⟩ | ⟨a, _⟩
   · exact ⟨Option.some.inj (a.symm.trans al_prs), b⟩
   · rw [al_prs] at a; cases a
 dsimp only
 simp only [List.cons_append, List.nil_append]
 refine g_rowLen 0 rfl (fun p0 c0 hv0 => ?_)
 subst hv0
 refine xg 5 [] rfl rfl ?_
 refine ntso_ ?_
 refine g_val (v := .agg (nC t).toArray) rfl rfl rfl (y_ldN (vs := nC t) 1 rfl Try.isAgg28 Try.sizeOf28 rfl (by rw [List.drop_zero, List.take_of_length_le (by rw [nC_len]; decide)]) (nC_len _)) ?_
 refine xg 1 [] rfl rfl ?_
 refine g_cm [] (m_repl t p0 3 c0 (txP alP) (nnP alP) alL 1 true (by first | decide | omega) (by omega) (by decide) (fun m k hk => Nat.le_trans (fillU_le (n := 3) (T := 1) (by decide) k hk) (by show k * 5 ≤ _; omega))) (fun w2 hS => ⟨forest_rd hS (i := 2) rfl, (row_rd (hS.get (i := 0) rfl)).2⟩) rfl rfl rfl rfl (fun y => ?_)
 obtain ⟨y, hy⟩ := y
 obtain rfl := hal y hy
 dsimp only
 simp only [List.cons_append, List.nil_append]
 refine xg 7 [] rfl rfl ?_
 refine ntso_ ?_
 refine xg 13 [1,1,1] rfl (by omega) ?_
 refine g_lit 35 true rfl (decide_eq_true rfl) ?_
 refine xg 6 [1] rfl (by omega) ?_
 refine n_ (t_ (g_ret ?_))
 refine g_end1 Try.results9 rfl ?_
 exact fun w hS => ⟨rfl, hS.below⟩

end Go.Proofs.Ytjdmdpjbijkjaaa

/- ReplaceItself. -/
namespace Go.Proofs.Ytjdmdpjbijkjaaa
open Go Go.RowKit

theorem parse_xx (ext : Bool) (l : List UInt8) (w : World) (hz : MaxHere w) : Calls Try.prog 8 #[st8 l, .bool ext] w fun e w' => ∃ x : {x : MT × Int // parX ext l x}, e = .returned (.tuple #[.agg (nC x.1.1).toArray, .int .i64 x.1.2]) ∧ St w [] [.forest [x.1.1]] w' := by
  cases ext
  · exact parse_xb l w hz
  · exact parse_xe l w hz
def fS (l : List UInt8) (m : Spn) : List UInt8 := fillU l m (fun _ => ByteArray.empty) (fun _ => 0) 1
def fX (l : List UInt8) (m : Spn) : List UInt8 := fillU l m (fun _ => ⟨#[33]⟩) (fun _ => -1) 1
theorem fS_eq (l : List UInt8) (m : Spn) : fS l m = spanL l (m 0).1 (m 0).2 := rfl
theorem fS_len (l : List UInt8) (m : Spn) : (fS l m).length ≤ l.length := spanL_len _ _ _
theorem fX_len (l : List UInt8) (m : Spn) : (fX l m).length ≤ 1 := Nat.le_refl _
theorem take_cut (l : List UInt8) {a b : Nat} (h : a ≤ b) : l.take a ++ (l.take b).drop a = l.take b := by
  have := List.take_append_drop a (l.take b)
  rwa [List.take_take, Nat.min_eq_left h] at this
theorem rS_self {l : List UInt8} {t : MT} : ∀ (k : Nat), k ≤ (allM l t).length → (rS 1 l (fS l) (allM l t) k).2.2 = l.take (rS 1 l (fS l) (allM l t) k).1.toNat
  | 0, _ => rfl
  | k + 1, hk => by
    obtain ⟨m, hm⟩ : ∃ m, (allM l t)[k]? = some m := ⟨_, List.getElem?_eq_getElem (show k < (allM l t).length by omega)⟩
    obtain ⟨i1, i2, i3⟩ := rS_at (ct := 1) (l := l) (t := t) (fm := fS l) k (by omega)
    have h1 := (alls_ord (x := txt l) (t := t) (l.length + 2) 0 (-1) (Int.le_refl 0)).1 k m hm
    have hn : ((txt l).n : Int) = l.length := rfl
    have h3 := i3 m hm
    rw [rS_take (by omega) hm]
    dsimp only
    rw [rS_self k (by omega), fS_eq]
    unfold spanL
    rw [if_neg (by omega), take_cut l (by omega), take_cut l (by omega)]
theorem RP_cnt {ct : Int} {gl : Bool} {l : List UInt8} {t : MT} {fm : Spn → List UInt8} {x : List UInt8 × Int × Int} (hl : l.length ≤ 12) (hfm : ∀ m, (fm m).length ≤ 12) (hct : 1 ≤ ct) (h : RP ct gl l fm (allM l t) x) :
    x.2.2 = 0 ∧ (gl = true → x.2.1 = max 0 (((allM l t).length : Int) - ct + 1)) ∧ (gl = false → x.2.1 = max 0 (min ((allM l t).length : Int) ct - ct + 1)) := by
  obtain ⟨K, _, h1, h2, rfl⟩ := RP_small (B := 12) hfm (by omega) hct h
  refine ⟨rfl, fun hg => ?_, fun hg => ?_⟩
  · rw [h1 hg]
  · rw [h2 hg]
theorem RP_self {l : List UInt8} {t : MT} {x : List UInt8 × Int × Int} (hl : l.length ≤ 12) (h : RP 1 true l (fS l) (allM l t) x) : x.1 = l := by
  obtain ⟨K, hK, h1, _, rfl⟩ := RP_small (B := 12) (fun m => Nat.le_trans (fS_len l m) hl) (by omega) (by decide) h
  dsimp only
  rw [rS_self K hK, List.take_append_drop]
theorem RP_zero {ct : Int} {gl : Bool} {l : List UInt8} {t : MT} {fm : Spn → List UInt8} {x : List UInt8 × Int × Int} (hl : l.length ≤ 12) (hfm : ∀ m, (fm m).length ≤ 12) (hct : ((allM l t).length : Int) < ct) (h : RP ct gl l fm (allM l t) x) : x.1 = l := by
  obtain ⟨K, hK, _, _, rfl⟩ := RP_small (B := 12) hfm (by omega) (by omega) h
  dsimp only
  rw [rS_zero K (by omega)]
  rfl

set_option maxRecDepth 100000 in
theorem itself_any (pl : List UInt8) (ext : Bool) (tl : List UInt8) (w : World) (hz : MaxHere w) :
    Calls Try.prog 3 #[st8 pl, .bool ext, st8 tl] w fun e w' => e = .returned (.bool true) ∧ Below w.heap.size w w' := by
 have hszp := size_mk pl
 have hszt := size_mk tl
 refine fn_intro Try.func3 rfl Try.ntmps3 rfl rfl ?_
 refine s_ (o_ ?_)
 refine xg 1 [] rfl rfl ?_
 refine ntso_ ?_
 refine xg 2 [] rfl rfl ?_
 refine g_callNew (fun x : {x : MT × Int // parX ext pl x} => .tuple #[.agg (nC x.1.1).toArray, .int .i64 x.1.2]) (fun x => [.forest [x.1.1]]) rfl rfl rfl Try.call8 (fun w hS => parse_xx ext pl w (hS.maxHere hz (by simp))) ?_
 rintro ⟨⟨t, ern⟩, hpar⟩
 have hle := parX_size hpar
 have hln := allM_len tl t
 dsimp only at hle
 refine g_shape 0 rfl fun hto => ?_
 dsimp only
 simp only [List.cons_append, List.nil_append]
 refine xg 1 [] rfl rfl ?_
 refine g_val (v := .agg (nC t).toArray) rfl rfl rfl (y_extract rfl rfl) ?_
 refine xg 1 [] rfl rfl ?_
 refine g_alloc rfl rfl Try.zeroValue28 rfl (fun b1 => ?_)
 refine g_stN (vs := nC t) 0 rfl rfl rfl (by kernel_rfl) (nC_one_rd hto) rfl rfl (nC_len _) ?_
 simp only [List.set_cons_zero]
 refine xg 1 [] rfl rfl ?_
 refine n_ (t_ (s_ (s_ (o_ ?_))))
 refine xg 4 [0] rfl rfl ?_
 refine g_casep 36 rfl (fun h1 => ?_) fun h1 => ?_
 ·refine xg 8 [] rfl rfl ?_
  refine n_ (t_ (g_cond_t rfl (s_ (o_ ?_))))
  refine g_call1 rfl rfl rfl Try.call9 (fun w hS => alive_any w (hS.maxHere hz (by simp))) ?_
  refine xg 1 [] rfl rfl ?_
  refine n_ (t_ (g_ret (g_then_ret ?_)))
  refine g_end1 Try.results3 rfl ?_
  exact fun w hS => ⟨rfl, hS.below⟩
 refine xg 5 [0] rfl rfl ?_
 refine g_casep 41 rfl (fun h2 => ?_) fun h2 => ?_
 ·refine xg 3 [] rfl rfl ?_
  refine n_ (t_ (g_cond_t rfl (s_ (o_ ?_))))
  refine g_call1 rfl rfl rfl Try.call9 (fun w hS => alive_any w (hS.maxHere hz (by simp))) ?_
  refine xg 1 [] rfl rfl ?_
  refine n_ (t_ (g_ret (g_then_ret ?_)))
  refine g_end1 Try.results3 rfl ?_
  exact fun w hS => ⟨rfl, hS.below⟩
 refine xg 3 [0] rfl rfl ?_
 refine n_ (t_ ?_)
 refine g_casep 44 rfl (fun h3 => ?_) fun h3 => ?_
 ·refine g_cond_t rfl (s_ (o_ ?_))
  refine g_call1 rfl rfl rfl Try.call9 (fun w hS => alive_any w (hS.maxHere hz (by simp))) ?_
  refine xg 1 [] rfl rfl ?_
  refine n_ (t_ (g_ret (g_then_ret ?_)))
  refine g_end1 Try.results3 rfl ?_
  exact fun w hS => ⟨rfl, hS.below⟩
 refine g_cond_f rfl (g_skip (t_ (s_ (o_ ?_))))
 refine xg 1 [] rfl rfl ?_
 refine g_buildSlice (offs := [0]) rfl rfl Try.underlying35 rfl Try.zeroValue34 (by kernel_rfl) (fun b2 => ?_)
 refine xg 1 [] rfl rfl ?_
 refine ntso_ ?_
 refine xg 1 [] rfl rfl ?_
 refine g_buildSlice (offs := [0]) rfl rfl Try.underlying35 rfl Try.zeroValue34 (by kernel_rfl) (fun b3 => ?_)
 refine xg 1 [] rfl rfl ?_
 refine ntso_ ?_
 refine g_val (v := .agg (nC t).toArray) rfl rfl rfl (y_ldN (vs := nC t) 2 rfl Try.isAgg28 Try.sizeOf28 rfl (by rw [List.drop_zero, List.take_of_length_le (by rw [nC_len]; decide)]) (nC_len _)) ?_
 refine xg 2 [] rfl rfl ?_
 refine g_cm [] (m_repl t (some ⟨b2, 0, none⟩) 1 1 (fun _ => ByteArray.empty) (fun _ => 0) tl 1 true (by first | decide | omega) (by omega) (by decide) (fun m2 k2 hk2 => Nat.le_trans (fillU_le (n := 1) (T := 1) (fun _ _ => by decide) k2 hk2) (by have : k2 * (1 + tl.length) ≤ 1 * (1 + tl.length) := Nat.mul_le_mul_right _ hk2; omega))) (fun w2 hS => ⟨forest_rd hS (i := 3) rfl, cells_rd (hS.cells (i := 1) rfl)⟩) rfl rfl rfl rfl (fun y => ?_)
 obtain ⟨y, hy⟩ := y
 obtain ⟨s1, d1, e1⟩ := y
 obtain ⟨he1, hg1, hn1⟩ := RP_cnt (fm := (fS tl)) (by omega) (fun m => Nat.le_trans (fS_len tl m) (by omega)) (by decide) hy
 dsimp only at he1 hg1 hn1
 have hs1 := RP_self (by omega) hy
 dsimp only at hs1
 have hg1 := hg1 rfl
 dsimp only
 simp only [List.cons_append, List.nil_append]
 refine xg 7 [] rfl rfl ?_
 refine ntso_ ?_
 refine g_val (v := .agg (nC t).toArray) rfl rfl rfl (y_ldN (vs := nC t) 2 rfl Try.isAgg28 Try.sizeOf28 rfl (by rw [List.drop_zero, List.take_of_length_le (by rw [nC_len]; decide)]) (nC_len _)) ?_
 refine xg 2 [] rfl rfl ?_
 refine g_cm [] (m_repl t (some ⟨b3, 0, none⟩) 1 1 (fun _ => ⟨#[33]⟩) (fun _ => -1) tl 1 false (by first | decide | omega) (by omega) (by decide) (fun m2 k2 hk2 => Nat.le_trans (fillU_le (n := 1) (T := 1) (fun _ _ => by decide) k2 hk2) (by have : k2 * (1 + tl.length) ≤ 1 * (1 + tl.length) := Nat.mul_le_mul_right _ hk2; omega))) (fun w2 hS => ⟨forest_rd hS (i := 3) rfl, cells_rd (hS.cells (i := 0) rfl)⟩) rfl rfl rfl rfl (fun y => ?_)
 obtain ⟨y, hy⟩ := y
 obtain ⟨s2, d2, e2⟩ := y
 obtain ⟨he2, hg2, hn2⟩ := RP_cnt (fm := (fX tl)) (by omega) (fun m => Nat.le_trans (fX_len tl m) (by decide)) (by decide) hy
 dsimp only at he2 hg2 hn2
 have hn2 := hn2 rfl
 dsimp only
 simp only [List.cons_append, List.nil_append]
 refine xg 7 [] rfl rfl ?_
 refine ntso_ ?_
 refine g_val (v := .agg (nC t).toArray) rfl rfl rfl (y_ldN (vs := nC t) 2 rfl Try.isAgg28 Try.sizeOf28 rfl (by rw [List.drop_zero, List.take_of_length_le (by rw [nC_len]; decide)]) (nC_len _)) ?_
 refine xg 2 [] rfl rfl ?_
 refine g_cm [] (m_repl t (some ⟨b3, 0, none⟩) 1 1 (fun _ => ⟨#[33]⟩) (fun _ => -1) tl 2 true (by first | decide | omega) (by omega) (by decide) (fun m2 k2 hk2 => Nat.le_trans (fillU_le (n := 1) (T := 1) (fun _ _ => by decide) k2 hk2) (by have : k2 * (1 + tl.length) ≤ 1 * (1 + tl.length) := Nat.mul_le_mul_right _ hk2; omega))) (fun w2 hS => ⟨forest_rd hS (i := 3) rfl, cells_rd (hS.cells (i := 0) rfl)⟩) rfl rfl rfl rfl (fun y => ?_)
 obtain ⟨y, hy⟩ := y
 obtain ⟨s3, d3, e3⟩ := y
 obtain ⟨he3, hg3, hn3⟩ := RP_cnt (fm := (fX tl)) (by omega) (fun m => Nat.le_trans (fX_len tl m) (by decide)) (by decide) hy
 dsimp only at he3 hg3 hn3
 have hg3 := hg3 rfl
 dsimp only
 simp only [List.cons_append, List.nil_append]
 refine xg 7 [] rfl rfl ?_
 refine ntso_ ?_
 refine g_val (v := .agg (nC t).toArray) rfl rfl rfl (y_ldN (vs := nC t) 2 rfl Try.isAgg28 Try.sizeOf28 rfl (by rw [List.drop_zero, List.take_of_length_le (by rw [nC_len]; decide)]) (nC_len _)) ?_
 refine xg 4 [] rfl (by omega) ?_
 refine g_cm [] (m_repl t (some ⟨b3, 0, none⟩) 1 1 (fun _ => ⟨#[33]⟩) (fun _ => -1) tl (d1 + 1) true (by first | decide | omega) (by omega) (by decide) (fun m2 k2 hk2 => Nat.le_trans (fillU_le (n := 1) (T := 1) (fun _ _ => by decide) k2 hk2) (by have : k2 * (1 + tl.length) ≤ 1 * (1 + tl.length) := Nat.mul_le_mul_right _ hk2; omega))) (fun w2 hS => ⟨forest_rd hS (i := 3) rfl, cells_rd (hS.cells (i := 0) rfl)⟩) rfl rfl rfl rfl (fun y => ?_)
 obtain ⟨y, hy⟩ := y
 obtain ⟨s4, d4, e4⟩ := y
 obtain ⟨he4, hg4, hn4⟩ := RP_cnt (fm := (fX tl)) (by omega) (fun m => Nat.le_trans (fX_len tl m) (by decide)) (by omega) hy
 dsimp only at he4 hg4 hn4
 have hs4 := RP_zero (fm := fX tl) (by omega) (fun m => Nat.le_trans (fX_len tl m) (by decide)) (by omega) hy
 dsimp only at hs4
 have hg4 := hg4 rfl
 dsimp only
 simp only [List.cons_append, List.nil_append]
 refine xg 7 [] rfl rfl ?_
 refine ntso_ ?_
 refine g_val (v := .agg (nC t).toArray) rfl rfl rfl (y_ldN (vs := nC t) 2 rfl Try.isAgg28 Try.sizeOf28 rfl (by rw [List.drop_zero, List.take_of_length_le (by rw [nC_len]; decide)]) (nC_len _)) ?_
 refine xg 3 [] rfl rfl ?_
 refine g_val rfl rfl rfl (y_maxi rfl rfl) ?_
 refine g_cm [] (m_repl t (some ⟨b3, 0, none⟩) 1 1 (fun _ => ⟨#[33]⟩) (fun _ => -1) tl (max d1 1) false (by first | decide | omega) (by omega) (by decide) (fun m2 k2 hk2 => Nat.le_trans (fillU_le (n := 1) (T := 1) (fun _ _ => by decide) k2 hk2) (by have : k2 * (1 + tl.length) ≤ 1 * (1 + tl.length) := Nat.mul_le_mul_right _ hk2; omega))) (fun w2 hS => ⟨forest_rd hS (i := 3) rfl, cells_rd (hS.cells (i := 0) rfl)⟩) rfl rfl rfl rfl (fun y => ?_)
 obtain ⟨y, hy⟩ := y
 obtain ⟨s5, d5, e5⟩ := y
 obtain ⟨he5, hg5, hn5⟩ := RP_cnt (fm := (fX tl)) (by omega) (fun m => Nat.le_trans (fX_len tl m) (by decide)) (by omega) hy
 dsimp only at he5 hg5 hn5
 have hn5 := hn5 rfl
 dsimp only
 simp only [List.cons_append, List.nil_append]
 refine xg 7 [] rfl rfl ?_
 refine ntso_ ?_
 refine xg 19 [1,1,1,1,1] rfl (by omega) ?_
 refine ntso_ ?_
 refine g_call1 rfl rfl rfl Try.call9 (fun w hS => alive_any w (hS.maxHere hz (by simp))) ?_
 refine xg 7 [] rfl rfl ?_
 refine g_lit 119 true rfl (decide_eq_true (by rw [hs1])) ?_
 refine xg 5 [] rfl rfl ?_
 refine g_lit 124 true rfl (decide_eq_true (by rw [hs4])) ?_
 refine xg 19 [1,1,1] rfl (by omega) ?_
 refine g_val rfl rfl rfl (y_mini rfl rfl) ?_
 refine xg 3 [1] rfl (by omega) ?_
 refine n_ (t_ (g_ret ?_))
 refine g_end1 Try.results3 rfl ?_
 exact fun w hS => ⟨rfl, hS.below⟩

theorem itself_law (a : ByteArray) (b : Bool) (c : ByteArray) (w : World) (hsh : w.ShapedOpen Try.prog) : Calls Try.prog 3 #[.string a, .bool b, .string c] w fun e w' => e = .returned (.bool true) ∧ Below w.heap.size w w' := by
  have h := itself_any a.data.toList b c.data.toList w (maxHere_of hsh)
  unfold st8 at h
  rw [Array.toArray_toList, Array.toArray_toList] at h
  exact h
end Go.Proofs.Ytjdmdpjbijkjaaa

/- ReplaceBetween: the plain law; part. -/
namespace Go.Proofs.Ytjdmdpjbijkjaaa
open Go Go.RowKit

/-- Does a text come of another one by leaving bytes out (taken greedily)? -/
def pg : List UInt8 → List UInt8 → Bool
  | [], _ => true
  | _ :: _, [] => false
  | x :: a, y :: b => if x.toNat = y.toNat then pg a b else pg (x :: a) b
theorem pg_nil (b : List UInt8) : pg [] b = true := by cases b <;> rfl
theorem pg_weak : ∀ (a b : List UInt8) (x : UInt8), pg (x :: a) b = true → pg a b = true
  | a, [], x, h => by simp [pg] at h
  | [], y :: b, x, _ => rfl
  | z :: a, y :: b, x, h => by
    rw [pg] at h
    rw [pg]
    split at h
    · split
      · exact pg_weak a b z h
      · exact h
    · have := pg_weak (z :: a) b x h
      split
      · exact pg_weak a b z this
      · exact this
theorem pg_sub {a b : List UInt8} (h : a.Sublist b) : pg a b = true := by
  induction h with
  | slnil => rfl
  | @cons a b y _ ih =>
    cases a with
    | nil => rfl
    | cons x a =>
      rw [pg]
      split
      · exact pg_weak a b x ih
      · exact ih
  | @cons_cons a b x _ ih => rw [pg, if_pos rfl]; exact ih
theorem allM_head {l : List UInt8} {t : MT} (h : (findR (txt l) t 0).2 = true) : ∃ r, allM l t = (findR (txt l) t 0).1 :: r := by
  have hf := find_fact (x := txt l) (t := t) (Int.le_refl 0) h
  unfold allM
  rw [alls, if_pos h]
  split
  · rw [if_neg (by omega)]; exact ⟨_, rfl⟩
  · exact ⟨_, rfl⟩
theorem allM_none {l : List UInt8} {t : MT} (h : (findR (txt l) t 0).2 = false) : allM l t = [] := alls_no h
def fE : Spn → List UInt8 := fun _ => []
theorem ext0 (l : List UInt8) {a : Int} (h0 : 0 ≤ a) (h1 : a ≤ l.length) : (⟨l.toArray⟩ : ByteArray).extract 0 a.toNat = ⟨(l.take a.toNat).toArray⟩ := by
  have := ext8 l (Int.le_refl 0) h0 h1
  rw [Int.toNat_zero, List.drop_zero] at this
  exact this
/-- What is left, where all matches go. -/
theorem rS_left {l : List UInt8} {t : MT} {m : Spn} (h : (allM l t)[0]? = some m) : ∀ (k : Nat), k + 1 ≤ (allM l t).length → (m 0).2 ≤ (rS 1 l fE (allM l t) (k + 1)).1 ∧ ∃ X, (rS 1 l fE (allM l t) (k + 1)).2.2 = l.take (m 0).1.toNat ++ X ∧ X.Sublist ((l.take (rS 1 l fE (allM l t) (k + 1)).1.toNat).drop (m 0).2.toNat)
  | 0, _ => by
    rw [rS_take (by omega) h]
    dsimp only
    refine ⟨Int.le_refl _, [], ?_, List.nil_sublist _⟩
    show (([] ++ (l.take (m 0).1.toNat).drop (Int.toNat 0)) ++ []) = _
    simp
  | k + 1, hk => by
    obtain ⟨i0, X, i1, i2⟩ := rS_left h k (by omega)
    obtain ⟨m', hm⟩ : ∃ m', (allM l t)[k + 1]? = some m' := ⟨_, List.getElem?_eq_getElem (show k + 1 < (allM l t).length by omega)⟩
    obtain ⟨j1, j2, j3⟩ := rS_at (ct := 1) (l := l) (t := t) (fm := fE) (k + 1) (by omega)
    have h1 := (alls_ord (x := txt l) (t := t) (l.length + 2) 0 (-1) (Int.le_refl 0)).1 (k + 1) m' hm
    have h2 := (alls_ord (x := txt l) (t := t) (l.length + 2) 0 (-1) (Int.le_refl 0)).1 0 m h
    have h3 := j3 m' hm
    have hn : ((txt l).n : Int) = l.length := rfl
    rw [rS_take (by omega) hm]
    dsimp only
    refine ⟨by omega, X ++ (l.take (m' 0).1.toNat).drop (rS 1 l fE (allM l t) (k + 1)).1.toNat, ?_, ?_⟩
    · rw [i1]
      show ((l.take (m 0).1.toNat ++ X) ++ _) ++ [] = _
      rw [List.append_nil, List.append_assoc]
    · have e : (l.take (m' 0).2.toNat).drop (m 0).2.toNat = (l.take (rS 1 l fE (allM l t) (k + 1)).1.toNat).drop (m 0).2.toNat ++ (l.take (m' 0).2.toNat).drop (rS 1 l fE (allM l t) (k + 1)).1.toNat := by
        have e1 := take_cut l (a := (rS 1 l fE (allM l t) (k + 1)).1.toNat) (b := (m' 0).2.toNat) (by omega)
        rw [← e1, List.drop_append_of_le_length (by rw [List.length_take]; omega), e1]
      rw [e]
      refine i2.append ?_
      have e2 := take_cut l (a := (m' 0).1.toNat) (b := (m' 0).2.toNat) (by omega)
      rw [← e2, List.drop_append_of_le_length (by rw [List.length_take]; omega)]
      exact List.sublist_append_left _ _
theorem RP_first {l : List UInt8} {t : MT} {m : Spn} {x : List UInt8 × Int × Int} (hl : l.length ≤ 12) (hm : (allM l t)[0]? = some m) (h : RP 1 false l fE (allM l t) x) : x = (l.take (m 0).1.toNat ++ l.drop (m 0).2.toNat, 1, 0) := by
  obtain ⟨K, hK, _, h2, rfl⟩ := RP_small (B := 0) (fun _ => Nat.zero_le _) (by omega) (by decide) h
  have h3 := h2 rfl
  have h4 : 0 < (allM l t).length := (List.getElem?_eq_some_iff.1 hm).1
  obtain rfl : K = 1 := by omega
  rw [show (1 : Nat) = 0 + 1 from rfl, rS_take (by omega) hm]
  show ((([] ++ (l.take (m 0).1.toNat).drop (Int.toNat 0)) ++ []) ++ _, _, _) = _
  simp
  decide
theorem RP_rest {l : List UInt8} {t : MT} {m : Spn} {x : List UInt8 × Int × Int} (hl : l.length ≤ 12) (hm : (allM l t)[0]? = some m) (h : RP 1 true l fE (allM l t) x) : x.2.2 = 0 ∧ 0 < x.2.1 ∧ (m 0).1 ≤ x.1.length ∧ x.1.take (m 0).1.toNat = l.take (m 0).1.toNat ∧ x.1.Sublist (l.take (m 0).1.toNat ++ l.drop (m 0).2.toNat) := by
  obtain ⟨K, hK, h1, _, rfl⟩ := RP_small (B := 0) (fun _ => Nat.zero_le _) (by omega) (by decide) h
  have h3 := h1 rfl
  have h4 : 0 < (allM l t).length := (List.getElem?_eq_some_iff.1 hm).1
  obtain ⟨k, rfl⟩ : ∃ k, K = k + 1 := ⟨K - 1, by omega⟩
  obtain ⟨i0, X, i1, i2⟩ := rS_left hm k (by omega)
  have h5 := (alls_ord (x := txt l) (t := t) (l.length + 2) 0 (-1) (Int.le_refl 0)).1 0 m hm
  have hn : ((txt l).n : Int) = l.length := rfl
  obtain ⟨j1, j2, _⟩ := rS_at (ct := 1) (l := l) (t := t) (fm := fE) (k + 1) (by omega)
  refine ⟨rfl, by dsimp only; omega, ?_, ?_, ?_⟩
  · dsimp only
    rw [i1, List.length_append, List.length_append, List.length_take]; omega
  · dsimp only
    rw [i1, List.append_assoc, List.take_append_of_le_length (by rw [List.length_take]; omega), List.take_take, Nat.min_self]
  · dsimp only
    rw [i1, List.append_assoc]
    refine (List.Sublist.refl _).append ?_
    have e : l.drop (m 0).2.toNat = (l.take (rS 1 l fE (allM l t) (k + 1)).1.toNat).drop (m 0).2.toNat ++ l.drop (rS 1 l fE (allM l t) (k + 1)).1.toNat := by
      have e1 := List.take_append_drop (rS 1 l fE (allM l t) (k + 1)).1.toNat l
      rw [← List.drop_append_of_le_length (by rw [List.length_take]; omega), e1]
    rw [e]
    exact i2.append (List.Sublist.refl _)
theorem RP_none {gl : Bool} {l : List UInt8} {t : MT} {x : List UInt8 × Int × Int} (hl : l.length ≤ 12) (hm : allM l t = []) (h : RP 1 gl l fE (allM l t) x) : x = (l, 0, 0) := by
  obtain ⟨K, hK, _, _, rfl⟩ := RP_small (B := 0) (fun _ => Nat.zero_le _) (by omega) (by decide) h
  rw [hm] at hK
  obtain rfl : K = 0 := by simpa using hK
  rfl

end Go.Proofs.Ytjdmdpjbijkjaaa

/- ReplaceBetween. -/
namespace Go.Proofs.Ytjdmdpjbijkjaaa
open Go Go.RowKit

set_option maxRecDepth 100000 in
theorem part_any (a b : List UInt8) (ha : a.length ≤ 1000000) (hb : b.length ≤ 1000000) (w : World) :
    Calls Try.prog 12 #[st8 a, st8 b] w fun e w' => e = .returned (.bool (pg a b)) ∧ Below w.heap.size w w' := by
 have hsza := size_mk a
 have hszb := size_mk b
 refine fn_intro Try.func12 rfl Try.ntmps12 rfl rfl ?_
 refine s_ (o_ ?_)
 refine xg 1 [] rfl rfl ?_
 refine ntso_ ?_
 refine xg 1 [] rfl rfl ?_
 refine n_ (t_ (s_ (s_ (o_ ?_))))
 refine xg 1 [] rfl rfl ?_
 refine n_ (t_ (g_block ?_))
 refine g_loop (α := {x : Nat × Nat // pg (a.drop x.1) (b.drop x.2) = pg a b ∧ x.1 ≤ a.length ∧ x.2 ≤ b.length}) (fun x => [(0, st8 a), (1, st8 b), (5, .int .i64 (x.1.1 : Int)), (6, .int .i64 (x.1.2 : Int))]) (fun x => St w [] []) (fun x => b.length - x.1.2) ⟨(0, 0), rfl, Nat.zero_le _, Nat.zero_le _⟩ [0, 1, 5, 6] rfl (fun w h => h.pick [] rfl) ?_
 rintro ⟨⟨i, k⟩, hpg, hia, hkb⟩
 dsimp only
 dsimp only at hpg hia hkb
 refine s_ (s_ (o_ ?_))
 refine xg 5 [0] rfl rfl ?_
 refine g_casep 11 rfl (fun h1 => ?_) fun h1 => ?_
 ·refine xg 5 [0] rfl rfl ?_
  refine n_ (t_ ?_)
  refine g_casep 16 rfl (fun h2 => ?_) fun h2 => ?_
  ·refine g_cond_t rfl (g_skip (t_ (s_ (g_block (s_ ?_)))))
   obtain ⟨ca, hca, hca8⟩ := st8_get (l := a) (i := i) (by omega)
   obtain ⟨cb, hcb, hcb8⟩ := st8_get (l := b) (i := k) (by omega)
   rw [drop_at hca, drop_at hcb, pg] at hpg
   refine g_quiet (by kernel_rfl) (by kernel_rfl) ?_
   refine xq 2 [] rfl rfl ?_
   refine q_val (v := .int .u8 (ca.toNat : Int)) rfl rfl rfl (y_sidx (i := i) rfl rfl Try.underlying9 hca8) ?_
   refine xq 2 [] rfl rfl ?_
   refine q_val (v := .int .u8 (cb.toNat : Int)) rfl rfl rfl (y_sidx (i := k) rfl rfl Try.underlying9 hcb8) ?_
   refine xq 1 [0] rfl rfl ?_
   refine q_nil (t_ ?_)
   refine g_casep 25 rfl (fun h3 => ?_) fun h3 => ?_
   ·refine g_cond_t rfl (o_ ?_)
    refine xg 3 [] rfl (by omega) ?_
    refine n_ (g_in_normal (t_ (o_ ?_)))
    refine xg 3 [] rfl (by omega) ?_
    refine n_ ?_
    exact g_again ⟨(i + 1, k + 1), by dsimp only; rw [← hpg, if_pos (by omega)], by dsimp only; omega, by dsimp only; omega⟩ [0, 1, 5, 6] (by dsimp only; omega) rfl (fun w h => h.pick [] rfl)
   refine g_cond_f rfl (g_skip (g_in_normal (t_ (o_ ?_))))
   refine xg 3 [] rfl (by omega) ?_
   refine n_ ?_
   exact g_again ⟨(i, k + 1), by dsimp only; rw [← hpg, if_neg (by omega), drop_at hca], by dsimp only; omega, by dsimp only; omega⟩ [0, 1, 5, 6] (by dsimp only; omega) rfl (fun w h => h.pick [] rfl)
  refine g_cond_f rfl (g_exit (g_then_exit (g_then_exit (g_in_exit (t_ (s_ (o_ ?_)))))))
  refine xg 5 [0] rfl rfl ?_
  refine n_ (t_ (g_ret ?_))
  refine g_end1 Try.results12 rfl ?_
  have hres : decide ((i : Int) = ((⟨a.toArray⟩ : ByteArray).size : Int)) = pg a b := by
    rw [← hpg]
    by_cases hi : i = a.length
    · rw [List.drop_eq_nil_of_le (by omega), pg_nil]; exact decide_eq_true (by omega)
    · rw [List.drop_eq_nil_of_le (show b.length ≤ k by omega), List.drop_eq_getElem_cons (show i < a.length by omega), pg]; exact decide_eq_false (by omega)
  rw [hres]
  exact fun w hS => ⟨rfl, hS.below⟩
 refine xg 5 [] rfl rfl ?_
 refine n_ (t_ (g_cond_f rfl (g_exit (g_then_exit (g_then_exit (g_in_exit (t_ (s_ (o_ ?_)))))))))
 refine xg 5 [0] rfl rfl ?_
 refine n_ (t_ (g_ret ?_))
 refine g_end1 Try.results12 rfl ?_
 have hres : decide ((i : Int) = ((⟨a.toArray⟩ : ByteArray).size : Int)) = pg a b := by
   rw [← hpg]
   by_cases hi : i = a.length
   · rw [List.drop_eq_nil_of_le (by omega), pg_nil]; exact decide_eq_true (by omega)
   · rw [List.drop_eq_nil_of_le (show b.length ≤ k by omega), List.drop_eq_getElem_cons (show i < a.length by omega), pg]; exact decide_eq_false (by omega)
 rw [hres]
 exact fun w hS => ⟨rfl, hS.below⟩

theorem m_part (a b : List UInt8) (ha : a.length ≤ 1000000) (hb : b.length ≤ 1000000) : Meets Try.prog (fun _ => True) 12 [st8 a, st8 b] (fun _ : Unit => .bool (pg a b)) [] (fun _ => []) := meets1 Try.call12 (fun w hI => part_any a b ha hb w)
set_option maxRecDepth 100000 in
theorem between_any (pl : List UInt8) (ext : Bool) (tl : List UInt8) (w : World) (hz : MaxHere w) :
    Calls Try.prog 4 #[st8 pl, .bool ext, st8 tl] w fun e w' => e = .returned (.bool true) ∧ Below w.heap.size w w' := by
 have hszp := size_mk pl
 have hszt := size_mk tl
 refine fn_intro Try.func4 rfl Try.ntmps4 rfl rfl ?_
 refine s_ (o_ ?_)
 refine xg 1 [] rfl rfl ?_
 refine ntso_ ?_
 refine xg 2 [] rfl rfl ?_
 refine g_callNew (fun x : {x : MT × Int // parX ext pl x} => .tuple #[.agg (nC x.1.1).toArray, .int .i64 x.1.2]) (fun x => [.forest [x.1.1]]) rfl rfl rfl Try.call8 (fun w hS => parse_xx ext pl w (hS.maxHere hz (by simp))) ?_
 rintro ⟨⟨t, ern⟩, hpar⟩
 have hle := parX_size hpar
 have hln := allM_len tl t
 dsimp only at hle
 refine g_shape 0 rfl fun hto => ?_
 dsimp only
 simp only [List.cons_append, List.nil_append]
 refine xg 1 [] rfl rfl ?_
 refine g_val (v := .agg (nC t).toArray) rfl rfl rfl (y_extract rfl rfl) ?_
 refine xg 1 [] rfl rfl ?_
 refine g_alloc rfl rfl Try.zeroValue28 rfl (fun b1 => ?_)
 refine g_stN (vs := nC t) 0 rfl rfl rfl (by kernel_rfl) (nC_one_rd hto) rfl rfl (nC_len _) ?_
 simp only [List.set_cons_zero]
 refine xg 1 [] rfl rfl ?_
 refine n_ (t_ (s_ (s_ (o_ ?_))))
 refine xg 4 [0] rfl rfl ?_
 refine g_casep 26 rfl (fun h1 => ?_) fun h1 => ?_
 ·refine xg 8 [] rfl rfl ?_
  refine n_ (t_ (g_cond_t rfl (s_ (o_ ?_))))
  refine g_call1 rfl rfl rfl Try.call9 (fun w hS => alive_any w (hS.maxHere hz (by simp))) ?_
  refine xg 1 [] rfl rfl ?_
  refine n_ (t_ (g_ret (g_then_ret ?_)))
  refine g_end1 Try.results4 rfl ?_
  exact fun w hS => ⟨rfl, hS.below⟩
 refine xg 5 [0] rfl rfl ?_
 refine g_casep 31 rfl (fun h2 => ?_) fun h2 => ?_
 ·refine xg 3 [] rfl rfl ?_
  refine n_ (t_ (g_cond_t rfl (s_ (o_ ?_))))
  refine g_call1 rfl rfl rfl Try.call9 (fun w hS => alive_any w (hS.maxHere hz (by simp))) ?_
  refine xg 1 [] rfl rfl ?_
  refine n_ (t_ (g_ret (g_then_ret ?_)))
  refine g_end1 Try.results4 rfl ?_
  exact fun w hS => ⟨rfl, hS.below⟩
 refine xg 3 [0] rfl rfl ?_
 refine n_ (t_ ?_)
 refine g_casep 34 rfl (fun h3 => ?_) fun h3 => ?_
 ·refine g_cond_t rfl (s_ (o_ ?_))
  refine g_call1 rfl rfl rfl Try.call9 (fun w hS => alive_any w (hS.maxHere hz (by simp))) ?_
  refine xg 1 [] rfl rfl ?_
  refine n_ (t_ (g_ret (g_then_ret ?_)))
  refine g_end1 Try.results4 rfl ?_
  exact fun w hS => ⟨rfl, hS.below⟩
 refine g_cond_f rfl (g_skip (t_ (s_ (o_ ?_))))
 refine g_val (v := .agg (nC t).toArray) rfl rfl rfl (y_ldN (vs := nC t) 0 rfl Try.isAgg28 Try.sizeOf28 rfl (by rw [List.drop_zero, List.take_of_length_le (by rw [nC_len]; decide)]) (nC_len _)) ?_
 refine xg 1 [] rfl rfl ?_
 obtain ⟨r, hr⟩ : ∃ r, findR (txt tl) t 0 = r := ⟨_, rfl⟩
 refine g_c1 (m_find (txt tl) t 0 (by show tl.length ≤ _; omega) (by omega)) (fun w2 hS => forest_rd hS (i := 1) rfl) rfl rfl rfl ?_
 rw [hr]
 refine xg 3 [] rfl rfl ?_
 refine g_alloc rfl rfl Try.zeroValue42 rfl (fun b2 => ?_)
 refine xg 2 [0] rfl (by omega) ?_
 refine ntso_ ?_
 refine g_val (v := .agg (nC t).toArray) rfl rfl rfl (y_ldN (vs := nC t) 1 rfl Try.isAgg28 Try.sizeOf28 rfl (by rw [List.drop_zero, List.take_of_length_le (by rw [nC_len]; decide)]) (nC_len _)) ?_
 refine xg 1 [] rfl rfl ?_
 refine g_cm [] (m_repl t none 0 0 (fun _ => ByteArray.empty) (fun _ => 0) tl 1 false (by first | decide | omega) (by omega) (by decide) (fun m2 k2 hk2 => by obtain rfl : k2 = 0 := (by omega); exact Nat.zero_le _)) (fun w2 hS => ⟨forest_rd hS (i := 2) rfl, nil_rd⟩) rfl rfl rfl rfl (fun y => ?_)
 obtain ⟨y, hy⟩ := y
 obtain ⟨s1, d1, e1⟩ := y
 have hy1 := hy
 dsimp only
 simp only [List.cons_append, List.nil_append]
 refine xg 7 [] rfl rfl ?_
 refine ntso_ ?_
 refine g_val (v := .agg (nC t).toArray) rfl rfl rfl (y_ldN (vs := nC t) 1 rfl Try.isAgg28 Try.sizeOf28 rfl (by rw [List.drop_zero, List.take_of_length_le (by rw [nC_len]; decide)]) (nC_len _)) ?_
 refine xg 1 [] rfl rfl ?_
 refine g_cm [] (m_repl t none 0 0 (fun _ => ByteArray.empty) (fun _ => 0) tl 1 true (by first | decide | omega) (by omega) (by decide) (fun m2 k2 hk2 => by obtain rfl : k2 = 0 := (by omega); exact Nat.zero_le _)) (fun w2 hS => ⟨forest_rd hS (i := 2) rfl, nil_rd⟩) rfl rfl rfl rfl (fun y => ?_)
 obtain ⟨y, hy⟩ := y
 obtain ⟨s2, d2, e2⟩ := y
 have hy2 := hy
 dsimp only
 simp only [List.cons_append, List.nil_append]
 refine xg 7 [] rfl rfl ?_
 refine n_ (t_ (s_ (s_ ?_)))
 rcases hr2 : r.2 with _ | _
 ·have hm := allM_none (l := tl) (t := t) (by rw [hr]; exact hr2)
  have hx1 := RP_none (by omega) hm hy1
  have hx2 := RP_none (by omega) hm hy2
  obtain ⟨rfl, rfl, rfl⟩ : s1 = tl ∧ d1 = 0 ∧ e1 = 0 := by cases hx1; exact ⟨rfl, rfl, rfl⟩
  obtain ⟨hs2, rfl, rfl⟩ : s2 = s1 ∧ d2 = 0 ∧ e2 = 0 := by cases hx2; exact ⟨rfl, rfl, rfl⟩
  refine g_eqv 10 (.bool false) rfl rfl ?_
  refine o_ ?_
  refine xg 10 [2,2,2] rfl (by omega) ?_
  refine g_val rfl rfl rfl (y_lit false (y_bne rfl rfl (by kernel_rfl)) (rfl)) ?_
  refine xg 5 [2] rfl (by omega) ?_
  refine g_val rfl rfl rfl (y_lit false (y_bne rfl rfl (by kernel_rfl)) (rfl)) ?_
  refine xg 1 [] rfl rfl ?_
  refine n_ (t_ (g_cond_f rfl (g_skip (t_ (s_ (s_ (o_ ?_)))))))
  refine xg 2 [] rfl rfl ?_
  refine n_ (t_ (g_cond_t rfl (s_ (o_ ?_))))
  refine g_call1 rfl rfl rfl Try.call9 (fun w hS => alive_any w (hS.maxHere hz (by simp))) ?_
  refine xg 4 [] rfl rfl ?_
  refine g_lit 80 true rfl (decide_eq_true rfl) ?_
  refine xg 5 [] rfl rfl ?_
  refine g_lit 85 true rfl (decide_eq_true (by rw [hs2])) ?_
  refine xg 2 [] rfl rfl ?_
  refine n_ (t_ (g_ret (g_then_ret ?_)))
  refine g_end1 Try.results4 rfl ?_
  exact fun w hS => ⟨rfl, hS.below⟩
 obtain ⟨rs, hm⟩ := allM_head (l := tl) (t := t) (by rw [hr]; exact hr2)
 rw [hr] at hm
 have hm0 : (allM tl t)[0]? = some r.1 := by rw [hm]; rfl
 have hf := find_fact (x := txt tl) (t := t) (fr := 0) (Int.le_refl 0) (by rw [hr]; exact hr2)
 rw [hr] at hf
 have hn0 : ((txt tl).n : Int) = tl.length := rfl
 have hx1 := RP_first (by omega) hm0 hy1
 obtain ⟨hs1, rfl, rfl⟩ : s1 = tl.take (r.1 0).1.toNat ++ tl.drop (r.1 0).2.toNat ∧ d1 = 1 ∧ e1 = 0 := by cases hx1; exact ⟨rfl, rfl, rfl⟩
 obtain ⟨he2, hd2, ha2, ht2, hp2⟩ := RP_rest (by omega) hm0 hy2
 dsimp only at he2 hd2 ha2 ht2 hp2
 subst he2
 have hpg := pg_sub hp2
 have hsl := hp2.length_le
 rw [← hs1] at hpg hsl
 have hsz2 := size_mk s2
 have hs1l : s1.length ≤ 24 := by rw [hs1, List.length_append, List.length_take, List.length_drop]; omega
 refine g_eqv 10 (.bool true) rfl rfl ?_
 refine o_ ?_
 refine xg 10 [2,2,1] rfl (by omega) ?_
 refine g_val rfl rfl rfl (y_lit false (y_bne rfl rfl (by kernel_rfl)) (rfl)) ?_
 refine xg 5 [1] rfl (by omega) ?_
 refine g_val rfl rfl rfl (y_lit false (y_bne rfl rfl (by kernel_rfl)) (rfl)) ?_
 refine xg 1 [] rfl rfl ?_
 refine n_ (t_ (g_cond_f rfl (g_skip (t_ (s_ (s_ (o_ ?_)))))))
 refine xg 2 [] rfl rfl ?_
 refine n_ (t_ (g_cond_f rfl (g_skip (t_ (s_ ?_)))))
 refine g_quiet (by kernel_rfl) (by kernel_rfl) ?_
 refine q_call1 rfl rfl rfl Try.call9 (fun w hS => alive_any w (hS.maxHere hz (by simp))) ?_
 refine xq 6 [0] rfl (by omega) ?_
 refine q_val (v := st8 (tl.take (r.1 0).1.toNat)) rfl rfl rfl (y_val (y_stoI rfl rfl Try.underlying9 (by omega) (by rw [size_mk]; omega)) (by rw [ext0 tl (by omega) (by omega)]; rfl)) ?_
 refine xq 4 [0] rfl (by omega) ?_
 refine q_val (v := st8 (tl.drop (r.1 0).2.toNat)) rfl rfl rfl (y_val (y_sfr rfl rfl Try.underlying9 (by omega) (by rw [size_mk]; omega)) (by rw [size_mk, show (tl.length : Nat) = ((tl.length : Nat) : Int).toNat by omega, ext8 tl (by omega) (by omega) (by omega), Int.toNat_natCast, List.take_length]; rfl)) ?_
 refine q_val (v := st8 s1) rfl rfl rfl (y_val (y_scat rfl rfl (by rw [size_mk, size_mk, List.length_take, List.length_drop]; omega)) (by rw [hs1]; unfold st8; congr 1; first | done | (apply ByteArray.ext; simp [ByteArray.data_append]))) ?_
 refine xq 1 [] rfl rfl ?_
 refine q_lit 101 true rfl (decide_eq_true rfl) ?_
 refine xq 4 [] rfl rfl ?_
 refine q_c1 ((by have h9 := m_part s2 s1 (by omega) (by omega); rw [hpg] at h9; exact h9)) any_I rfl rfl rfl ?_
 refine xq 14 [0,1,0] rfl (by omega) ?_
 refine q_val (v := st8 (tl.take (r.1 0).1.toNat)) rfl rfl rfl (y_val (y_stoI rfl rfl Try.underlying9 (by omega) (by rw [size_mk]; omega)) (by rw [ext0 s2 (by omega) (by omega), ht2]; rfl)) ?_
 refine xq 4 [0] rfl (by omega) ?_
 refine q_val (v := st8 (tl.take (r.1 0).1.toNat)) rfl rfl rfl (y_val (y_stoI rfl rfl Try.underlying9 (by omega) (by rw [size_mk]; omega)) (by rw [ext0 tl (by omega) (by omega)]; rfl)) ?_
 refine xq 1 [] rfl rfl ?_
 refine q_lit 127 true rfl (decide_eq_true rfl) ?_
 refine xq 2 [] rfl rfl ?_
 refine q_nil (t_ (g_ret ?_))
 refine g_end1 Try.results4 rfl ?_
 exact fun w hS => ⟨rfl, hS.below⟩

theorem between_law (a : ByteArray) (b : Bool) (c : ByteArray) (w : World) (hsh : w.ShapedOpen Try.prog) : Calls Try.prog 4 #[.string a, .bool b, .string c] w fun e w' => e = .returned (.bool true) ∧ Below w.heap.size w w' := by
  have h := between_any a.data.toList b c.data.toList w (maxHere_of hsh)
  unfold st8 at h
  rw [Array.toArray_toList, Array.toArray_toList] at h
  exact h
end Go.Proofs.Ytjdmdpjbijkjaaa

