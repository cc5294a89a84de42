/- The texts that the proof leans on, one behind the other (6 of 6). -/
import Derived.Handed
import Derived.Test.YtjdmdpjbijkjaaaK5
/- Parse: a template. -/
namespace Go.Proofs.Ytjdmdpjbijkjaaa
open Go Go.RowKit

abbrev Pc := List UInt8 × Int
def pcE (q : Pc) : List Value := [st8 q.1, .int .i64 q.2]
theorem pcE_len (q : Pc) : (pcE q).length = 2 := rfl
def flushP (ps : List Pc) (pl : List UInt8) : List Pc := if pl.length = 0 then ps else ps ++ [(pl, -1)]
theorem flushP_len (ps : List Pc) (pl : List UInt8) : (flushP ps pl).length ≤ ps.length + 1 := by
  unfold flushP
  split
  · omega
  · simp
/-- The pieces of what is left of a text, behind those that are there, and behind plain bytes. -/
def prs : List UInt8 → List Pc → List UInt8 → Option (List Pc)
  | [], ps, pl => some (flushP ps pl)
  | [c], ps, pl => if c.toNat = 38 then some (flushP (flushP ps pl ++ [([], 0)]) []) else if c.toNat = 92 then none else some (flushP ps (pl ++ [c]))
  | c :: d :: r, ps, pl => if c.toNat = 38 then prs (d :: r) (flushP ps pl ++ [([], 0)]) [] else if c.toNat = 92 then
      (if 49 ≤ d.toNat ∧ d.toNat ≤ 57 then prs r (flushP ps pl ++ [([], (d.toNat : Int) - 48)]) [] else if d.toNat = 110 then prs r ps (pl ++ [10]) else prs r ps (pl ++ [d]))
    else prs (d :: r) ps (pl ++ [c])
theorem prs_amp {c : UInt8} {r : List UInt8} {ps : List Pc} {pl : List UInt8} (h : c.toNat = 38) : prs (c :: r) ps pl = prs r (flushP ps pl ++ [([], 0)]) [] := by
  cases r with
  | nil => simp only [prs, if_pos h]
  | cons d r => rw [prs, if_pos h]
theorem prs_plain {c : UInt8} {r : List UInt8} {ps : List Pc} {pl : List UInt8} (h : ¬ c.toNat = 38) (h2 : ¬ c.toNat = 92) : prs (c :: r) ps pl = prs r ps (pl ++ [c]) := by
  cases r with
  | nil => simp only [prs, if_neg h, if_neg h2]
  | cons d r => rw [prs, if_neg h, if_neg h2]
theorem prs_esc0 {c : UInt8} {ps : List Pc} {pl : List UInt8} (h2 : c.toNat = 92) : prs [c] ps pl = none := by rw [prs, if_neg (by omega), if_pos h2]
theorem prs_dig {c d : UInt8} {r : List UInt8} {ps : List Pc} {pl : List UInt8} (h : c.toNat = 92) (h1 : 49 ≤ d.toNat ∧ d.toNat ≤ 57) : prs (c :: d :: r) ps pl = prs r (flushP ps pl ++ [([], (d.toNat : Int) - 48)]) [] := by rw [prs, if_neg (by omega), if_pos h, if_pos h1]
theorem prs_nl {c d : UInt8} {r : List UInt8} {ps : List Pc} {pl : List UInt8} (h : c.toNat = 92) (h1 : ¬ (49 ≤ d.toNat ∧ d.toNat ≤ 57)) (h2 : d.toNat = 110) : prs (c :: d :: r) ps pl = prs r ps (pl ++ [10]) := by rw [prs, if_neg (by omega), if_pos h, if_neg h1, if_pos h2]
theorem prs_esc {c d : UInt8} {r : List UInt8} {ps : List Pc} {pl : List UInt8} (h : c.toNat = 92) (h1 : ¬ (49 ≤ d.toNat ∧ d.toNat ≤ 57)) (h2 : ¬ d.toNat = 110) : prs (c :: d :: r) ps pl = prs r ps (pl ++ [d]) := by rw [prs, if_neg (by omega), if_pos h, if_neg h1, if_neg h2]
theorem drop_at {l : List UInt8} {i : Nat} {c : UInt8} (h : l[i]? = some c) : l.drop i = c :: l.drop (i + 1) := by
  obtain ⟨hi, rfl⟩ := List.getElem?_eq_some_iff.1 h
  exact List.drop_eq_getElem_cons hi
/-- A template's parser, behind so many bytes. -/
structure TPX where
  i : Nat
  ps : List Pc
  pl : List UInt8
  lv : Value
  pv : Value
  bl : Nat
  bp : Nat
section
variable {P : Program} {N : Nat} {R : Regs} {Q : Exit → Act → World → Prop} {ops : Array Oper} {rest : List Oper} {W0 : World} {F : List Nat} {L L0 Lr : List Ent} {ty : TypeId} {pos : String} {af : Array Edge} {gd : Option (Nat × Bool)} {x : Operand}
/-- A closure is called. -/
theorem g_cmV {α : Type} {I : World → Prop} {d : Nat} {f : FuncId} {xs : List Operand} {ats : Array TypeId} {vs cs us : List Value} {r : α → Value} {L1 : α → List Ent} (is : List Nat) (m : Meets P I f us r L0 L1) (hI : ∀ w, St W0 F L w → I w)
    (hw : want ops R ⟨some d, .call { callee := .value x, args := xs.toArray, argTypes := ats }, ty, pos, af, gd⟩ = some true) (hN : Nat.blt d N = true)
    (hx : xs.mapM (ev R) = some vs) (hxf : ev R x = some (.func (.func f) #[] cs.toArray)) (hu : us = vs ++ cs) (hp : pickE is L = some (L0, Lr)) (h : ∀ x, G N ((d, r x) :: R) (St W0 F (L1 x ++ Lr)) (wpList P ops Q rest)) :
    G N R (St W0 F L) (wpList P ops Q (⟨some d, .call { callee := .value x, args := xs.toArray, argTypes := ats }, ty, pos, af, gd⟩ :: rest)) :=
  g_callV r (fun x => St W0 F (L1 x ++ Lr)) hw hN hx hxf m.1 (fun w hS => by
    have hS' := hS.perm (pickE_perm hp)
    have h1 := (m.2 w _ (hI w hS) hS'.part).mono (R' := fun e w' => ∃ x, e = .returned (r x) ∧ St W0 F (L1 x ++ Lr) w') fun _ _ ⟨x, he, hb⟩ => ⟨x, he, St.join hS' (fun k hk => by obtain ⟨e, he, hk⟩ := List.mem_flatMap.1 hk; exact ⟨e, he, hk⟩) hb⟩
    rw [hu] at h1
    simpa using h1) h
end

set_option maxRecDepth 100000 in
theorem m_flush (bp bl : Nat) (pv lv : Value) (pl : List UInt8) (ps : List Pc) (h1 : pl.length ≤ 1000000) (h2 : ps.length ≤ 3000000) : Meets Try.prog (fun _ => True) 31 [.pointer (some ⟨bp, 0, none⟩), .pointer (some ⟨bl, 0, none⟩)] (fun _ : Value × Value => .tuple #[])
    [.cells bp 63 [pv], .bytes 5 pv pl, .cells bl 35 [lv], .row 34 2 lv ps.length (ps.flatMap pcE)] (fun y => [.cells bp 63 [y.1], .bytes 5 y.1 [], .cells bl 35 [y.2], .row 34 2 y.2 (flushP ps pl).length ((flushP ps pl).flatMap pcE)]) := ⟨Try.call31, fun w F _ hS => by
  refine fn_intro_own Try.func31 rfl Try.ntmps31 rfl rfl hS ?_
  refine s_ ?_
  refine g_rowLen 1 rfl (fun p1 c1 hv1 => ?_)
  subst hv1
  refine o_ ?_
  refine xg 3 [0,0] rfl (by omega) ?_
  refine n_ (t_ ?_)
  refine g_casep 4 rfl (fun h1 => ?_) fun h1 => ?_
  ·refine g_cond_t rfl (s_ (o_ ?_))
   refine xg 2 [2,0] rfl (by omega) ?_
   refine g_val (v := st8 pl) rfl rfl rfl (y_bytesStr 1 rfl Try.underlying63 Try.underlying9 Try.underlying5 rfl) ?_
   refine xg 1 [] rfl rfl ?_
   refine g_buildSlice (offs := [0]) rfl rfl Try.underlying35 rfl Try.zeroValue34 (by kernel_rfl) (fun b1 => ?_)
   refine g_appS (bytes := 24) pcE (pl, -1) 4 (j := 0) rfl rfl rfl rfl Try.underlying35 (by kernel_rfl) rfl rfl pcE_len rfl (by omega) (by have : maxLen = 9223372036854775807 := rfl; omega) (fun v2 => ?_)
   simp only [List.set_cons_zero, List.set_cons_succ]
   refine g_rowLen 4 rfl (fun pa2 ca2 hv2 => ?_)
   subst hv2
   refine xg 1 [3] rfl (by omega) ?_
   refine nto_ ?_
   refine xg 1 [1] rfl (by omega) ?_
   refine n_ (g_end_normal ?_)
   refine g_end0 Try.results31 ?_
   exact fun w2 hS => ⟨(.slice none 0 0, _), rfl, by rw [show flushP ps pl = ps ++ [(pl, -1)] from if_neg (by omega)]; exact (hS.nilRow 5 1).pick [2, 0, 2, 2] rfl⟩
  refine g_cond_f rfl (g_skip (g_end_normal ?_))
  refine g_end0 Try.results31 ?_
  exact fun w2 hS => ⟨(_, _), rfl, by obtain rfl : pl = [] := List.eq_nil_of_length_eq_zero (by omega); exact hS.pick [0,0,0,0] rfl⟩⟩
end Go.Proofs.Ytjdmdpjbijkjaaa

/- Parse: its walk. -/
namespace Go.Proofs.Ytjdmdpjbijkjaaa
open Go Go.RowKit

set_option maxHeartbeats 4000000 in
set_option maxRecDepth 100000 in
theorem parse_any11 (l : List UInt8) (hl : l.length ≤ 1000000) (w : World) :
    Calls Try.prog 13 #[st8 l] w fun e w' => ∃ y : Value × Int × List Pc, ((prs l [] [] = some y.2.2 ∧ y.2.1 = 0) ∨ (prs l [] [] = none ∧ y = (.slice none 0 0, 111, []))) ∧ e = .returned (.tuple #[y.1, .int .i64 y.2.1]) ∧ St w [] [.row 34 2 y.1 y.2.2.length (y.2.2.flatMap pcE)] w' := by
 have hszl := size_mk l
 refine fn_intro Try.func13 rfl Try.ntmps13 rfl rfl ?_
 refine s_ (o_ ?_)
 refine xg 2 [] rfl rfl ?_
 refine n_ (t_ ?_)
 refine g_scope_falls (α := ({x : TPX // x.i ≤ l.length ∧ prs (l.drop x.i) x.ps x.pl = prs l [] [] ∧ x.ps.length ≤ 2 * x.i ∧ x.pl.length ≤ x.i}) ⊕ ({x : TPX // x.i ≤ l.length ∧ prs (l.drop x.i) x.ps x.pl = prs l [] [] ∧ x.ps.length ≤ 2 * x.i ∧ x.pl.length ≤ x.i ∧ l[x.i]? = some 92})) (fun z => match z with | (.inl x) => [(0, st8 l), (4, .pointer (some ⟨x.1.bl, 0, none⟩)), (5, .pointer (some ⟨x.1.bp, 0, none⟩)), (6, .int .i64 (x.1.i : Int)), (7, .func (.func 31) #[] #[.pointer (some ⟨x.1.bp, 0, none⟩), .pointer (some ⟨x.1.bl, 0, none⟩)])] | (.inr x) => [(0, st8 l), (4, .pointer (some ⟨x.1.bl, 0, none⟩)), (5, .pointer (some ⟨x.1.bp, 0, none⟩)), (6, .int .i64 (x.1.i : Int)), (7, .func (.func 31) #[] #[.pointer (some ⟨x.1.bp, 0, none⟩), .pointer (some ⟨x.1.bl, 0, none⟩)])]) (fun z => match z with | (.inl x) => St w [] [.row 34 2 x.1.lv x.1.ps.length (x.1.ps.flatMap pcE), .bytes 5 x.1.pv x.1.pl, .cells x.1.bl 35 [x.1.lv], .cells x.1.bp 63 [x.1.pv]] | (.inr x) => St w [] [.row 34 2 x.1.lv x.1.ps.length (x.1.ps.flatMap pcE), .bytes 5 x.1.pv x.1.pl, .cells x.1.bl 35 [x.1.lv], .cells x.1.bp 63 [x.1.pv]]) (fun z => match z with | (.inl x) => 0 | (.inr x) => 1) (fun z => match z with | (.inl x) => 2 * (l.length - x.1.i) + 1 | (.inr x) => 2 * (l.length - x.1.i)) ?_ ?_
 ·rintro (x | x)
  ·refine ⟨_, rfl, ?_⟩
   dsimp only
   obtain ⟨⟨i, ps, pl, lv, pv, bl, bp⟩, hi, hpr, hp1, hp2⟩ := x
   dsimp only at hi hpr hp1 hp2 ⊢
   refine s_ (s_ (o_ ?_))
   refine xg 4 [0] rfl rfl ?_
   refine n_ (t_ ?_)
   refine g_casep 14 rfl (fun h1 => ?_) fun h1 => ?_
   ·refine g_cond_t rfl (s_ (o_ ?_))
    refine xg 1 [] rfl rfl ?_
    refine g_cmV [3,1,1,0] (m_flush bp bl pv lv pl ps (by omega) (by omega)) any_I rfl rfl rfl rfl rfl rfl (fun y1 => ?_)
    simp only [List.cons_append, List.nil_append]
    have hfl1 := flushP_len ps pl
    refine ntso_ ?_
    refine xg 3 [2] rfl (by omega) ?_
    refine n_ (t_ (g_ret (g_then_ret (g_jumps_ret ?_))))
    refine g_end2 Try.results13 rfl rfl ?_
    exact fun w2 hS => ⟨(y1.2, 0, (flushP ps pl)), .inl ⟨by rw [← hpr, List.drop_eq_nil_of_le (by omega)]; rfl, rfl⟩, rfl, hS.pick [3] rfl⟩
   refine g_cond_f rfl (g_skip (t_ (s_ (s_ (o_ ?_)))))
   refine xg 2 [] rfl rfl ?_
   obtain ⟨c8, hc8, hc88⟩ := st8_get (l := l) (i := i) (by omega)
   have hb8 := c8.toNat_lt
   refine g_val (v := .int .u8 (c8.toNat : Int)) rfl rfl rfl (y_sidxI (c := c8) rfl rfl Try.underlying9 (by omega) (by simpa using hc88)) ?_
   refine xg 1 [] rfl rfl ?_
   refine ntso_ ?_
   refine xg 1 [] rfl rfl ?_
   refine n_ (t_ (g_block (s_ (o_ ?_))))
   refine xg 2 [0] rfl rfl ?_
   refine n_ (t_ ?_)
   refine g_casep 26 rfl (fun h2 => ?_) fun h2 => ?_
   ·refine g_cond_t rfl (s_ (o_ ?_))
    refine xg 1 [] rfl rfl ?_
    refine g_cmV [3,1,1,0] (m_flush bp bl pv lv pl ps (by omega) (by omega)) any_I rfl rfl rfl rfl rfl rfl (fun y2 => ?_)
    simp only [List.cons_append, List.nil_append]
    have hfl2 := flushP_len ps pl
    refine nto_ ?_
    refine xg 2 [2] rfl (by omega) ?_
    refine g_buildSlice (offs := [0]) rfl rfl Try.underlying35 rfl Try.zeroValue34 (by kernel_rfl) (fun b3 => ?_)
    refine g_appS (bytes := 24) pcE ([], 0) 4 (j := 0) rfl rfl rfl rfl Try.underlying35 (by kernel_rfl) rfl rfl pcE_len rfl (by omega) (by have : maxLen = 9223372036854775807 := rfl; omega) (fun v4 => ?_)
    simp only [List.set_cons_zero, List.set_cons_succ]
    refine g_rowLen 4 rfl (fun pa4 ca4 hv4 => ?_)
    subst hv4
    refine xg 1 [3] rfl (by omega) ?_
    refine n_ (g_in_normal (t_ (s_ (o_ ?_))))
    refine xg 3 [] rfl (by omega) ?_
    refine n_ (t_ (s_ (g_goto (g_then_goto ?_))))
    exact g_jump (.inl ⟨⟨i + 1, ((flushP ps pl) ++ [([], 0)]), ([] : List UInt8), (.slice pa4 _ ca4), y2.1, bl, bp⟩, by dsimp only; omega, by rw [← hpr, drop_at hc8, prs_amp (by omega)], by dsimp only; (try simp only [List.length_append, List.length_cons, List.length_nil]); omega, by dsimp only; (try simp only [List.length_append, List.length_cons, List.length_nil]); omega⟩) [0, 4, 5, 6, 7] rfl (fun j hj => by cases hj; dsimp only; omega) rfl (fun w h => h.pick [4,2,2,1] rfl)
   refine g_cond_f rfl (s_ (o_ ?_))
   refine xg 2 [0] rfl rfl ?_
   refine n_ (t_ ?_)
   refine g_casep 34 rfl (fun h3 => ?_) fun h3 => ?_
   ·refine g_cond_t rfl (g_goto (g_in_goto (g_then_goto ?_)))
    have h92 : l[i]? = some 92 := by rw [hc8, show c8 = 92 from UInt8.toNat_inj.1 (by show c8.toNat = 92; omega)]
    exact g_jump (.inr ⟨⟨i, ps, pl, lv, pv, bl, bp⟩, hi, hpr, hp1, hp2, h92⟩) [0, 4, 5, 6, 7] rfl (fun j hj => by cases hj; dsimp only; omega) rfl (fun w h => h.pick [0,0,0,0] rfl)
   refine g_cond_f rfl (o_ ?_)
   refine xg 2 [3] rfl (by omega) ?_
   refine g_buildSlice (offs := [0]) rfl rfl Try.underlying63 rfl Try.zeroValue5 (by kernel_rfl) (fun b5 => ?_)
   refine g_appB (l' := [c8]) 2 0 rfl rfl rfl rfl Try.underlying63 (by kernel_rfl) rfl rfl rfl rfl (by omega) (fun v6 => ?_)
   simp only [List.set_cons_zero, List.set_cons_succ]
   refine g_rowLen 2 rfl (fun pa6 ca6 hv6 => ?_)
   subst hv6
   refine xg 1 [4] rfl (by omega) ?_
   refine n_ (g_in_normal (t_ (s_ (o_ ?_))))
   refine xg 3 [] rfl (by omega) ?_
   refine n_ (t_ (s_ (g_goto (g_then_goto ?_))))
   exact g_jump (.inl ⟨⟨i + 1, ps, (pl ++ [c8]), lv, (.slice pa6 _ ca6), bl, bp⟩, by dsimp only; omega, by rw [← hpr, drop_at hc8, prs_plain (by omega) (by omega)], by dsimp only; (try simp only [List.length_append, List.length_cons, List.length_nil]); omega, by dsimp only; (try simp only [List.length_append, List.length_cons, List.length_nil]); omega⟩) [0, 4, 5, 6, 7] rfl (fun j hj => by cases hj; dsimp only; omega) rfl (fun w h => h.pick [1,1,1,1] rfl)
  ·refine ⟨_, rfl, ?_⟩
   dsimp only
   obtain ⟨⟨i, ps, pl, lv, pv, bl, bp⟩, hi, hpr, hp1, hp2, h92⟩ := x
   dsimp only at hi hpr hp1 hp2 h92 ⊢
   have hi9 : i < l.length := (List.getElem?_eq_some_iff.1 h92).1
   refine s_ (s_ (o_ ?_))
   refine xg 3 [] rfl (by omega) ?_
   refine ntso_ ?_
   refine xg 4 [0] rfl rfl ?_
   refine n_ (t_ ?_)
   refine g_casep 43 rfl (fun h4 => ?_) fun h4 => ?_
   ·refine g_cond_t rfl (s_ (o_ ?_))
    refine xg 2 [] rfl rfl ?_
    refine n_ (t_ (g_ret (g_then_ret (g_jumps_ret ?_))))
    refine g_end2 Try.results13 rfl rfl ?_
    have hi2 : l.length = i + 1 := by omega
    refine fun w2 hS => ⟨(.slice none 0 0, 111, []), .inr ⟨?_, rfl⟩, rfl, ((hS.nilRow 34 2).pick [0] rfl)⟩
    rw [← hpr, drop_at h92, List.drop_eq_nil_of_le (by omega)]
    exact prs_esc0 rfl
   refine g_cond_f rfl (g_skip (t_ (s_ (s_ (o_ ?_)))))
   refine xg 2 [] rfl rfl ?_
   obtain ⟨c19, hc19, hc198⟩ := st8_get (l := l) (i := i + 1) (by omega)
   have hb19 := c19.toNat_lt
   refine g_val (v := .int .u8 (c19.toNat : Int)) rfl rfl rfl (y_sidxI (c := c19) rfl rfl Try.underlying9 (by omega) (by simpa using hc198)) ?_
   refine xg 1 [] rfl rfl ?_
   refine n_ (t_ (g_block (s_ (o_ ?_))))
   refine xg 3 [0] rfl rfl ?_
   refine g_casep 54 rfl (fun h5 => ?_) fun h5 => ?_
   ·refine xg 4 [0] rfl rfl ?_
    refine n_ (t_ ?_)
    refine g_casep 51 rfl (fun h6 => ?_) fun h6 => ?_
    ·refine g_cond_t rfl (s_ (o_ ?_))
     refine xg 1 [] rfl rfl ?_
     refine g_cmV [3,1,1,0] (m_flush bp bl pv lv pl ps (by omega) (by omega)) any_I rfl rfl rfl rfl rfl rfl (fun y7 => ?_)
     simp only [List.cons_append, List.nil_append]
     have hfl7 := flushP_len ps pl
     refine nto_ ?_
     refine xg 5 [2] rfl (by omega) ?_
     refine g_buildSlice (offs := [0]) rfl rfl Try.underlying35 rfl Try.zeroValue34 (by kernel_rfl) (fun b8 => ?_)
     refine g_appS (bytes := 24) pcE ([], (c19.toNat : Int) - 48) 4 (j := 0) rfl rfl rfl rfl Try.underlying35 (by kernel_rfl) rfl rfl pcE_len rfl (by omega) (by have : maxLen = 9223372036854775807 := rfl; omega) (fun v9 => ?_)
     simp only [List.set_cons_zero, List.set_cons_succ]
     refine g_rowLen 4 rfl (fun pa9 ca9 hv9 => ?_)
     subst hv9
     refine xg 1 [3] rfl (by omega) ?_
     refine n_ (g_in_normal (t_ (s_ (o_ ?_))))
     refine xg 3 [] rfl (by omega) ?_
     refine n_ (t_ (g_goto ?_))
     exact g_jump (.inl ⟨⟨i + 2, ((flushP ps pl) ++ [([], (c19.toNat : Int) - 48)]), ([] : List UInt8), (.slice pa9 _ ca9), y7.1, bl, bp⟩, by dsimp only; omega, by rw [← hpr, drop_at h92, drop_at hc19, prs_dig rfl ⟨by omega, by omega⟩], by dsimp only; (try simp only [List.length_append, List.length_cons, List.length_nil]); omega, by dsimp only; (try simp only [List.length_append, List.length_cons, List.length_nil]); omega⟩) [0, 4, 5, 6, 7] rfl (fun j hj => by cases hj; dsimp only; omega) rfl (fun w h => h.pick [4,2,2,1] rfl)
    refine g_cond_f rfl (s_ (o_ ?_))
    refine xg 3 [0] rfl rfl ?_
    refine n_ (t_ ?_)
    refine g_casep 67 rfl (fun h7 => ?_) fun h7 => ?_
    ·refine g_cond_t rfl (o_ ?_)
     refine xg 1 [3] rfl (by omega) ?_
     refine g_buildSlice (offs := [0]) rfl rfl Try.underlying63 rfl Try.zeroValue5 (by kernel_rfl) (fun b10 => ?_)
     refine g_appB (l' := [10]) 2 0 rfl rfl rfl rfl Try.underlying63 (by kernel_rfl) rfl rfl rfl rfl (by omega) (fun v11 => ?_)
     simp only [List.set_cons_zero, List.set_cons_succ]
     refine g_rowLen 2 rfl (fun pa11 ca11 hv11 => ?_)
     subst hv11
     refine xg 1 [4] rfl (by omega) ?_
     refine n_ (g_in_normal (t_ (s_ (o_ ?_))))
     refine xg 3 [] rfl (by omega) ?_
     refine n_ (t_ (g_goto ?_))
     exact g_jump (.inl ⟨⟨i + 2, ps, (pl ++ [10]), lv, (.slice pa11 _ ca11), bl, bp⟩, by dsimp only; omega, by rw [← hpr, drop_at h92, drop_at hc19, prs_nl rfl (by omega) (by omega)], by dsimp only; (try simp only [List.length_append, List.length_cons, List.length_nil]); omega, by dsimp only; (try simp only [List.length_append, List.length_cons, List.length_nil]); omega⟩) [0, 4, 5, 6, 7] rfl (fun j hj => by cases hj; dsimp only; omega) rfl (fun w h => h.pick [1,1,1,1] rfl)
    refine g_cond_f rfl (o_ ?_)
    refine xg 2 [3] rfl (by omega) ?_
    refine g_buildSlice (offs := [0]) rfl rfl Try.underlying63 rfl Try.zeroValue5 (by kernel_rfl) (fun b12 => ?_)
    refine g_appB (l' := [c19]) 2 0 rfl rfl rfl rfl Try.underlying63 (by kernel_rfl) rfl rfl rfl rfl (by omega) (fun v13 => ?_)
    simp only [List.set_cons_zero, List.set_cons_succ]
    refine g_rowLen 2 rfl (fun pa13 ca13 hv13 => ?_)
    subst hv13
    refine xg 1 [4] rfl (by omega) ?_
    refine n_ (g_in_normal (t_ (s_ (o_ ?_))))
    refine xg 3 [] rfl (by omega) ?_
    refine n_ (t_ (g_goto ?_))
    exact g_jump (.inl ⟨⟨i + 2, ps, (pl ++ [c19]), lv, (.slice pa13 _ ca13), bl, bp⟩, by dsimp only; omega, by rw [← hpr, drop_at h92, drop_at hc19, prs_esc rfl (by omega) (by omega)], by dsimp only; (try simp only [List.length_append, List.length_cons, List.length_nil]); omega, by dsimp only; (try simp only [List.length_append, List.length_cons, List.length_nil]); omega⟩) [0, 4, 5, 6, 7] rfl (fun j hj => by cases hj; dsimp only; omega) rfl (fun w h => h.pick [1,1,1,1] rfl)
   refine xg 4 [] rfl rfl ?_
   refine n_ (t_ (g_cond_f rfl (s_ (o_ ?_))))
   refine xg 3 [0] rfl rfl ?_
   refine n_ (t_ ?_)
   refine g_casep 67 rfl (fun h8 => ?_) fun h8 => ?_
   ·refine g_cond_t rfl (o_ ?_)
    refine xg 1 [3] rfl (by omega) ?_
    refine g_buildSlice (offs := [0]) rfl rfl Try.underlying63 rfl Try.zeroValue5 (by kernel_rfl) (fun b14 => ?_)
    refine g_appB (l' := [10]) 2 0 rfl rfl rfl rfl Try.underlying63 (by kernel_rfl) rfl rfl rfl rfl (by omega) (fun v15 => ?_)
    simp only [List.set_cons_zero, List.set_cons_succ]
    refine g_rowLen 2 rfl (fun pa15 ca15 hv15 => ?_)
    subst hv15
    refine xg 1 [4] rfl (by omega) ?_
    refine n_ (g_in_normal (t_ (s_ (o_ ?_))))
    refine xg 3 [] rfl (by omega) ?_
    refine n_ (t_ (g_goto ?_))
    exact g_jump (.inl ⟨⟨i + 2, ps, (pl ++ [10]), lv, (.slice pa15 _ ca15), bl, bp⟩, by dsimp only; omega, by rw [← hpr, drop_at h92, drop_at hc19, prs_nl rfl (by omega) (by omega)], by dsimp only; (try simp only [List.length_append, List.length_cons, List.length_nil]); omega, by dsimp only; (try simp only [List.length_append, List.length_cons, List.length_nil]); omega⟩) [0, 4, 5, 6, 7] rfl (fun j hj => by cases hj; dsimp only; omega) rfl (fun w h => h.pick [1,1,1,1] rfl)
   refine g_cond_f rfl (o_ ?_)
   refine xg 2 [3] rfl (by omega) ?_
   refine g_buildSlice (offs := [0]) rfl rfl Try.underlying63 rfl Try.zeroValue5 (by kernel_rfl) (fun b16 => ?_)
   refine g_appB (l' := [c19]) 2 0 rfl rfl rfl rfl Try.underlying63 (by kernel_rfl) rfl rfl rfl rfl (by omega) (fun v17 => ?_)
   simp only [List.set_cons_zero, List.set_cons_succ]
   refine g_rowLen 2 rfl (fun pa17 ca17 hv17 => ?_)
   subst hv17
   refine xg 1 [4] rfl (by omega) ?_
   refine n_ (g_in_normal (t_ (s_ (o_ ?_))))
   refine xg 3 [] rfl (by omega) ?_
   refine n_ (t_ (g_goto ?_))
   exact g_jump (.inl ⟨⟨i + 2, ps, (pl ++ [c19]), lv, (.slice pa17 _ ca17), bl, bp⟩, by dsimp only; omega, by rw [← hpr, drop_at h92, drop_at hc19, prs_esc rfl (by omega) (by omega)], by dsimp only; (try simp only [List.length_append, List.length_cons, List.length_nil]); omega, by dsimp only; (try simp only [List.length_append, List.length_cons, List.length_nil]); omega⟩) [0, 4, 5, 6, 7] rfl (fun j hj => by cases hj; dsimp only; omega) rfl (fun w h => h.pick [1,1,1,1] rfl)
 ·intro hp
  refine s_ (o_ ?_)
  refine g_alloc rfl rfl Try.zeroValue35 rfl (fun bl => ?_)
  refine g_nrm (L' := .cells bl 35 [.slice none 0 0] :: _) rfl ?_
  refine g_nilRow 34 2 ?_
  refine ntso_ ?_
  refine g_alloc rfl rfl Try.zeroValue63 rfl (fun bp => ?_)
  refine g_nrm (L' := .cells bp 63 [.slice none 0 0] :: _) rfl ?_
  refine g_nilBytes 5 ?_
  refine ntso_ ?_
  refine xg 1 [] rfl rfl ?_
  refine ntso_ ?_
  refine g_val rfl rfl rfl (y_makeFunc rfl) ?_
  refine xg 1 [] rfl rfl ?_
  refine n_ (t_ (s_ (g_label (t_ ?_))))
  exact g_fall (hp ((.inl ⟨⟨0, [], [], .slice none 0 0, .slice none 0 0, bl, bp⟩, Nat.zero_le _, rfl, Nat.zero_le _, Nat.zero_le _⟩)) _ rfl) [0, 4, 5, 6, 7] rfl (fun w h => h.pick [2,0,1,0] rfl)

end Go.Proofs.Ytjdmdpjbijkjaaa

/-
  The wrap of a row whose walk needs the library's variables: the world has its shape.
-/
namespace Go.Proofs.Ytjdmdpjbijkjaaa
open Go Go.RowKit
section
variable {H : Type} {enc : TypeId × Value → H} {P : Program}
theorem returns_shaped {a : Assume} {C : Checked} {os : Os} {f : FuncId} {fn : Func} {s : ChangeSpec} {conds : List PathCond} {apart fresh handsOn again : Bool}
    (own : ownKnob C.prog.godebug = none) (started : os.Started) (noInit : C.prog.inits.idxOf? f = none) (hfn : C.prog.funcs[f]? = some fn)
    (witness : ∃ (w : World) (tape : Tape) (i : Input), w.os = os ∧ (w.forCall tape i).Shaped C.prog ∧ i.vars = [] ∧ Input.okWide C.prog (w.forCall tape i) .any w.heap.size f i ∧
      s.pre6 enc C.prog fn conds apart (w.forCall tape i).memory i.args ∧ a.holds C.prog (lone (Frame.enter C.prog f i.args .normal) [] (w.forCall tape i)))
    (walk : ∀ (W : World) (base : Nat) (args : Array Value) (ds gs : List (DataW H)) (before : List MemPlace), W.ShapedOpen C.prog →
      (∀ (j : Nat) t v, fn.params[j]? = some t → args[j]? = some v → Value.okWide C.prog W .any base t v) →
      DataW.Whole enc C.prog fn.params.toList s.vars apart W args.toList ds gs before →
      Calls C.prog f args W fun e W' => ∃ v, e = .returned v ∧ s.post enc C.prog fn apart fresh handsOn again W args v W') :
    ReturnsInHanded a C os f .any (s.pre6 enc C.prog fn conds apart) (s.post enc C.prog fn apart fresh handsOn again) := by
  refine returnsInHanded_of_calls own started noInit witness fun w tape i _ hsh _ hok hpre _ => ?_
  obtain ⟨_, _, _, g, hg, _, _, _, _, hval⟩ := hok
  obtain rfl : g = fn := Option.some.inj (hg.symm.trans hfn)
  obtain ⟨⟨ds, gs, before, hw, _⟩, _⟩ := hpre
  refine (walk (w.forCall tape i) w.heap.size i.args ds gs before hsh hval (hw.of_heap (by rfl))).mono fun e W' h => ?_
  obtain ⟨v, rfl, hp⟩ := h
  exact ChangeSpec.post_blind hp
/-- A variable of a whole number holds one. -/
theorem int_of_shape {w : World} {g : Nat} {t : TypeId} {k : IntKind} {zero : Array Value} (h : w.ShapedOpen P) (hg : g < P.globals.size)
    (h0 : ((begin P (fun _ _ => 0) default).world.heap[g]?).bind Obj.row? = some (zero, t)) (hz : zero.size = 1)
    (hb : P.buildable t = true) (hc : P.cellTypes P.depth t = some [t]) (hu : P.underlying t = some (.int k)) : ∃ m, w.cell? ⟨g, 0, none⟩ = some (.int k m) := by
  obtain ⟨cs, hh, hs, hr⟩ := h.1 g zero t hg h0
  obtain ⟨ts, hts, _, hall⟩ := hr hb
  rw [hc] at hts
  cases hts
  obtain ⟨u, hu', hok⟩ := hall 0 (cs[0]'(by omega)) (by simp)
  obtain rfl : u = t := by simpa using hu'.symm
  have hcell : w.cell? ⟨g, 0, none⟩ = some (cs[0]'(by omega)) := by simp [World.cell?, hh]
  rw [hcell]
  unfold Cell.ok at hok
  rw [hu] at hok
  cases hv : cs[0]'(by omega) <;> rw [hv] at hok <;> simp_all
end
end Go.Proofs.Ytjdmdpjbijkjaaa

/- What is handed to Replace; a live question. -/
namespace Go.Proofs.Ytjdmdpjbijkjaaa
open Go Go.RowKit

/-- Pieces, as functions. -/
def txP (ps : List Pc) (i : Nat) : ByteArray := ⟨(ps.getD i ([], 0)).1.toArray⟩
def nnP (ps : List Pc) (i : Nat) : Int := (ps.getD i ([], 0)).2
theorem row_rd {w : World} {p : Option Addr} {n c : Nat} {ps : List Pc} (h : w.ownsRow 0 34 2 (.slice p n c) ps.length (ps.flatMap pcE)) : n = ps.length ∧ RdSl w p n 2 (pcF (txP ps) (nnP ps)) := by
  obtain ⟨h1, h2⟩ := h
  rcases h2 with ⟨hv, h0⟩ | ⟨g, cap, cur, hv, _, hg, hnc, _, hcs, htake⟩
  · cases hv
    exact ⟨h0.symm, fun h => absurd h (by omega), fun h => absurd h (by omega), fun i j hi => absurd hi (by omega)⟩
  · cases hv
    refine ⟨rfl, fun _ => rfl, fun _ => lt_of_some hg, fun i j hi hj => ?_⟩
    show w.cell? ((⟨g, 0, none⟩ : Addr).add (i * 2 + j)) = _
    obtain ⟨a, ha⟩ : ∃ a, ps[i]? = some a := ⟨_, List.getElem?_eq_getElem hi⟩
    have e1 : (ps.flatMap pcE)[i * 2 + j]? = (pcE a)[j]? := fm_get pcE 2 pcE_len ps i j a ha hj
    rw [Addr.add_mid, Nat.zero_add, cell_of_row w g (i * 2 + j) cur 34 (0, 0) hg]
    have e2 : (pcF (txP ps) (nnP ps)) i j = ((pcE a)[j]?).getD default := by
      show ((pcC (txP ps i) (nnP ps i))[j]?).getD default = _
      unfold txP nnP
      rw [List.getD_eq_getElem?_getD, ha]; rfl
    have hlt : i * 2 + j < ps.length * 2 := by omega
    rw [e2, ← e1, ← htake, List.getElem?_take, if_pos hlt]
    simp only [Array.getElem?_toList]
    have hcur : i * 2 + j < cur.size := by omega
    rw [Array.getElem?_eq_getElem hcur]; rfl
theorem cells_rd {w : World} {b : Nat} {t : TypeId} {tx : Nat → ByteArray} {nn : Nat → Int} (h : w.heap[b]? = some (.cells (pcC (tx 0) (nn 0)).toArray t (0, 0))) : RdSl w (some ⟨b, 0, none⟩) 1 2 (pcF tx nn) :=
  ⟨fun _ => rfl, fun _ => lt_of_some h, fun i j hi hj => by
    obtain rfl : i = 0 := by omega
    show w.cell? ((⟨b, 0, none⟩ : Addr).add (0 * 2 + j)) = _
    rw [Addr.add_mid, cell_of_row w b (0 + (0 * 2 + j)) _ t (0, 0) h]
    match j, hj with
    | 0, _ => rfl
    | 1, _ => rfl⟩
theorem nil_rd {w : World} {f : Nat → Nat → Value} : RdSl w none 0 2 f := ⟨fun h => absurd h (by omega), fun h => absurd h (by omega), fun i j hi => absurd hi (by omega)⟩
theorem m_repl (t : MT) (p : Option Addr) (n c : Nat) (tx : Nat → ByteArray) (nn : Nat → Int) (l : List UInt8) (ct : Int) (gl : Bool) (hx : l.length ≤ 1000000) (hle : wT t ≤ 1000000) (hn : n ≤ 1000000) (hfl : ∀ m k, k ≤ n → (fillU l m tx nn k).length ≤ 1099511627776) :
    Meets Try.prog (fun w => t.rd w ∧ RdSl w p n 2 (pcF tx nn)) 10 [.agg (nC t).toArray, .slice p n c, st8 l, .int .i64 ct, .bool gl] (fun y : {x : List UInt8 × Int × Int // RP ct gl l (fun m => fillU l m tx nn n) (allM l t) x} => .tuple #[st8 y.1.1, .int .i64 y.1.2.1, .int .i64 y.1.2.2]) [] (fun _ => []) :=
  ⟨Try.call10, fun w F hI hS => (Rd.replace_any t p n c tx nn l ct gl hx hle hn hfl w hI.1 hI.2).mono fun _ _ ⟨x, hx, he, hb⟩ => ⟨⟨x, hx⟩, he, by simpa using hS.then (St.of_below hb)⟩⟩
theorem m_parse11 (l : List UInt8) (hl : l.length ≤ 1000000) : Meets Try.prog (fun _ => True) 13 [st8 l] (fun y : {y : Value × Int × List Pc // (prs l [] [] = some y.2.2 ∧ y.2.1 = 0) ∨ (prs l [] [] = none ∧ y = (.slice none 0 0, 111, []))} => .tuple #[y.1.1, .int .i64 y.1.2.1]) [] (fun y => [.row 34 2 y.1.1 y.1.2.2.length (y.1.2.2.flatMap pcE)]) :=
  ⟨Try.call13, fun w F _ hS => (parse_any11 l hl w).mono fun _ _ ⟨y, hy, he, hb⟩ => ⟨⟨y, hy⟩, he, by simpa using hS.then hb⟩⟩
theorem allM_er (l : List UInt8) (t : MT) : allM l (er t) = allM l t := by
  unfold allM
  generalize (l.length + 2) = f
  generalize (0 : Int) = fr
  generalize (-1 : Int) = en
  induction f generalizing fr en with
  | zero => rfl
  | succ f ih => rw [alls, alls, findR_er]; simp only [ih]
/-! ### What comes out is short -/
theorem rS_small {ct : Int} {l : List UInt8} {t : MT} {fm : Spn → List UInt8} {B : Nat} (hfm : ∀ m, (fm m).length ≤ B) : ∀ (k : Nat), k ≤ (allM l t).length → ((rS ct l fm (allM l t) k).2.2.length : Int) ≤ (rS ct l fm (allM l t) k).1 + (k * B : Nat)
  | 0, _ => by show (0 : Int) ≤ 0 + ((0 * B : Nat) : Int); omega
  | k + 1, hk => by
    have ih := rS_small (ct := ct) (l := l) (t := t) hfm k (by omega)
    obtain ⟨m, hm⟩ : ∃ m, (allM l t)[k]? = some m := ⟨_, List.getElem?_eq_getElem (show k < (allM l t).length by omega)⟩
    obtain ⟨i1, i2, i3⟩ := rS_at (ct := ct) (l := l) (t := t) (fm := fm) k (by omega)
    have h1 := (alls_ord (x := txt l) (t := t) (l.length + 2) 0 (-1) (Int.le_refl 0)).1 k m hm
    have h3 := i3 m hm
    have h4 := hfm m
    have e : (k + 1) * B = k * B + B := Nat.succ_mul k B
    rw [rS]
    split
    · omega
    · rw [mAt_eq hm]
      dsimp only
      rw [List.length_append, List.length_append, List.length_drop, List.length_take, e]
      omega
theorem rS_zero {ct : Int} {l : List UInt8} {fm : Spn → List UInt8} {ms : List Spn} : ∀ (k : Nat), (k : Int) < ct → rS ct l fm ms k = (0, 0, [])
  | 0, _ => rfl
  | k + 1, h => by rw [rS_skip (by omega)]; exact rS_zero k (by omega)
theorem rS_done {ct : Int} (hct : 1 ≤ ct) {l : List UInt8} {fm : Spn → List UInt8} {ms : List Spn} : ∀ (k : Nat), (rS ct l fm ms k).2.1 = max 0 ((k : Int) - ct + 1)
  | 0 => by show (0 : Int) = _; omega
  | k + 1 => by
    have ih := rS_done hct (l := l) (fm := fm) (ms := ms) k
    rw [rS]
    split
    · rw [ih]; omega
    · dsimp only; rw [ih]; omega
/-- What Replace answers where nothing grows long. -/
theorem RP_small {ct : Int} {gl : Bool} {l : List UInt8} {t : MT} {fm : Spn → List UInt8} {B : Nat} {x : List UInt8 × Int × Int} (hfm : ∀ m, (fm m).length ≤ B) (hB : l.length + (l.length + 2) * B + l.length ≤ 1024) (hct : 1 ≤ ct) (h : RP ct gl l fm (allM l t) x) :
    ∃ K, K ≤ (allM l t).length ∧ (gl = true → K = (allM l t).length) ∧ (gl = false → (K : Int) = min ((allM l t).length : Int) ct) ∧ x = ((rS ct l fm (allM l t) K).2.2 ++ l.drop (rS ct l fm (allM l t) K).1.toNat, max 0 ((K : Int) - ct + 1), 0) := by
  have hlen : ∀ k, k ≤ (allM l t).length → (rS ct l fm (allM l t) k).2.2.length ≤ l.length + (l.length + 2) * B := fun k hk => by
    have h1 := rS_small (ct := ct) hfm k hk
    have h2 := (rS_at (ct := ct) (fm := fm) k hk).2.1
    have h3 : k * B ≤ (l.length + 2) * B := Nat.mul_le_mul_right B (Nat.le_trans hk (alls_len _ _ _))
    omega
  have hb : ∀ k, k < (allM l t).length → (brk gl ct l fm (allM l t) k ↔ (¬ (k : Int) + 1 < ct ∧ gl = false)) := fun k hk => by
    have := hlen (k + 1) hk
    unfold brk
    constructor
    · rintro ⟨a, b | b⟩
      · exact ⟨a, b⟩
      · omega
    · exact fun ⟨a, b⟩ => ⟨a, .inl b⟩
  rcases h with ⟨h, _⟩ | ⟨_, h, _⟩ | ⟨_, _, K, hK, hx⟩
  · omega
  · omega
  · have hKl : K ≤ (allM l t).length := by rcases hK with ⟨h, _⟩ | ⟨_, h, h2, _⟩ <;> omega
    refine ⟨K, hKl, fun hg => ?_, fun hg => ?_, ?_⟩
    · rcases hK with ⟨h, _⟩ | ⟨k, _, h2, h3, _⟩
      · exact h
      · have := ((hb k h2).1 h3).2; rw [hg] at this; cases this
    · rcases hK with ⟨h, h2⟩ | ⟨k, h, h2, h3, h4⟩
      · have h5 : ¬ (((allM l t).length : Int) > ct) := fun h5 => by
          have := h2 (ct.toNat) (by omega)
          exact this ((hb _ (by omega)).2 ⟨by omega, hg⟩)
        by_cases h6 : (allM l t).length = 0
        · omega
        · have := h2 (K - 1) (by omega)
          omega
      · have h5 := ((hb k h2).1 h3).1
        by_cases h6 : (k : Int) < ct
        · omega
        · have := h4 (k - 1) (by omega)
          exact absurd ((hb _ (by omega)).2 ⟨by omega, hg⟩) this
    · have h1 := hlen K hKl
      rcases hx with ⟨hx, _⟩ | ⟨_, hx⟩
      · rw [List.length_append, List.length_drop] at hx; omega
      · rw [hx, rS_done hct]

end Go.Proofs.Ytjdmdpjbijkjaaa

/- A live question. -/
namespace Go.Proofs.Ytjdmdpjbijkjaaa
open Go Go.RowKit

theorem pc_lit {ts : List Tok} {k : Nat} {g : Int} {c : UInt8} {ms ms' : List MT} {k2 : Nat} {g2 : Int} {b2 : Bool} (h : ts[k]? = some (litT c)) (h4 : isK ts (k + 1) 4 = false) (hr : RPcs ts (k + 1) g false (ms ++ [oneM c]) ms' k2 g2 b2) : RPcs ts k g false ms ms' k2 g2 b2 :=
  .piece (isK_2 h (by show ¬ (0 : Int) = 3; decide)) (isK_2 h (by show ¬ (0 : Int) = 2; decide)) (.plain (.set h rfl) h4) hr
/-- A group, of what stands within. -/
theorem pc_grp {ts : List Tok} {k : Nat} {g : Int} {t : MT} {k1 : Nat} {g1 : Int} {ms ms' : List MT} {k2 : Nat} {g2 : Int} {b2 : Bool} (h : ts[k]? = some (kT 1)) (h9 : g + 1 ≤ 9) (hi : RAll ts (k + 1) (g + 1) false t k1 g1 false) (h2 : isK ts k1 2 = true) (h4 : isK ts (k1 + 1) 4 = false)
    (hr : RPcs ts (k1 + 1) g1 false (ms ++ [.mk 5 s0 0 0 (g + 1) nilS [t]]) ms' k2 g2 b2) : RPcs ts k g false ms ms' k2 g2 b2 :=
  .piece (isK_2 h (by show ¬ (1 : Int) = 3; decide)) (isK_2 h (by show ¬ (1 : Int) = 2; decide)) (.plain (.group h (by show ¬ (1 : Int) = 5; decide) (by show ¬ (1 : Int) = 6; decide) (by show ¬ (1 : Int) = 4; decide) (by show ¬ (1 : Int) = 0; decide) (.shut h9 hi h2)) h4) hr
theorem pc_rep {ts : List Tok} {k : Nat} {g : Int} {c : UInt8} {u : Tok} {ms ms' : List MT} {k2 : Nat} {g2 : Int} {b2 : Bool} (h : ts[k]? = some (litT c)) (h4 : ts[k + 1]? = some u) (hu : u.k = 4) (hr : RPcs ts (k + 1 + 1) g false (ms ++ [.mk 4 s0 u.mi u.ma 0 nilS [oneM c]]) ms' k2 g2 b2) : RPcs ts k g false ms ms' k2 g2 b2 :=
  .piece (isK_2 h (by show ¬ (0 : Int) = 3; decide)) (isK_2 h (by show ¬ (0 : Int) = 2; decide)) (.rep (.set h rfl) h4 hu) hr

def rowM (q : List MT) : MT := .mk 2 s0 0 0 0 nilS q
def eiM (q : List MT) : MT := .mk 3 s0 0 0 0 nilS q
def grM (n : Int) (t : MT) : MT := .mk 5 s0 0 0 n nilS [t]
def reM (mi ma : Int) (t : MT) : MT := .mk 4 s0 mi ma 0 nilS [t]

theorem maxHere_of {w : World} (h : w.ShapedOpen Try.prog) : MaxHere w :=
  int_of_shape (g := 0) (t := 3) (zero := #[.int .i64 0]) h (Nat.le_of_ble_eq_true (by kernel_rfl)) (by kernel_rfl) rfl (by kernel_rfl) (by kernel_rfl) Try.underlying3

theorem nC_one_rd {t : MT} (h : ∃ p n c, t.v = .slice p n c) : (nC t).all (·.oneCell') = true := by
  cases t with | mk k s mi ma nu v q =>
  obtain ⟨p, n, c, rfl⟩ := h
  rfl
theorem g_shape {N : Nat} {R : Regs} {W0 : World} {F : List Nat} {L : List Ent} {X : Act → World → Prop} {t : MT} {ts : List MT} (i : Nat) (hi : L[i]? = some (.forest (t :: ts))) (h : (∃ p n c, t.v = .slice p n c) → G N R (St W0 F L) X) : G N R (St W0 F L) X := fun a w hR hS => by
  obtain ⟨k, s, mi, ma, nu, p, c, q, rfl⟩ := rd_v (forest_rd hS hi)
  exact h ⟨_, _, _, rfl⟩ a w hR hS

theorem spanL_len (l : List UInt8) (a b : Int) : (spanL l a b).length ≤ l.length := by
  unfold spanL
  split
  · exact Nat.zero_le _
  · rw [List.length_drop, List.length_take]; omega
theorem fillU_le {l : List UInt8} {m : Spn} {tx : Nat → ByteArray} {nn : Nat → Int} {T n : Nat} (htx : ∀ i, i < n → (tx i).size ≤ T) : ∀ (k : Nat), k ≤ n → (fillU l m tx nn k).length ≤ k * (T + l.length)
  | 0, _ => by rw [fillU]; exact Nat.zero_le _
  | k + 1, hk => by
    have ih := fillU_le (l := l) (m := m) (nn := nn) htx k (by omega)
    have h1 := htx k (by omega)
    have h2 := spanL_len l (m (nn k).toNat).1 (m (nn k).toNat).2
    have h3 : ((tx k).data.toList).length = (tx k).size := by rw [Array.length_toList]; rfl
    rw [fillU, List.length_append, Nat.succ_mul]
    unfold pcT
    split
    · omega
    · split
      · omega
      · rw [List.length_nil]; omega
def alT0 : MT := reM 0 (-1) (oneM 98)
def alP : List Pc := [([60], -1), ([], 0), ([62], -1)]
def alL : List UInt8 := [97, 98, 98, 99]
def alF (m : Spn) : List UInt8 := fillU alL m (txP alP) (nnP alP) 3
theorem al_tok : tokF (tokX false) [98, 42] [] 0 = some [litT 98, timesT 0 (-1)] := rfl
theorem al_all : RAll [litT 98, timesT 0 (-1)] 0 0 false alT0 2 0 false := .one (.one (pc_rep rfl rfl rfl (.stop (.inl (by decide))))) (.stop (.inr rfl))
theorem al_prs : prs [60, 38, 62] [] [] = some alP := rfl
theorem al_rep : (allM alL (er alT0)).length = 3 ∧ (rS 1 alL alF (allM alL (er alT0)) 3).2.2 ++ alL.drop (rS 1 alL alF (allM alL (er alT0)) 3).1.toNat = [60, 62, 97, 60, 98, 98, 62, 99, 60, 62] := by decide +kernel
theorem al_is {x : MT × Int} (h : parX false [98, 42] x) : x.2 = 0 ∧ wT x.1 ≤ 1000 ∧ ∀ y, RP 1 true alL alF (allM alL x.1) y → y = ([60, 62, 97, 60, 98, 98, 62, 99, 60, 62], 3, 0) := by
  have hok : ∀ c : UInt8, c ∈ [98, 42] → okC c := by
    intro c hc
    simp only [List.mem_cons, List.not_mem_nil, or_false] at hc
    rcases hc with rfl | rfl <;> (unfold okC; decide)
  obtain ⟨h0, h1⟩ := parX_is h hok (by decide) (by decide) al_tok al_all (by decide)
  refine ⟨h0, parX_size h, fun y hy => ?_⟩
  obtain ⟨h2, h3⟩ := al_rep
  rw [← h1, allM_er] at h2 h3
  obtain ⟨K, _, hK, _, rfl⟩ := RP_small (B := 15) (fun m => fillU_le (n := 3) (T := 1) (by decide) 3 (Nat.le_refl _)) (by decide) (by decide) hy
  rw [hK rfl, h2, h3]
  rfl

set_option maxRecDepth 100000 in
theorem alive_any (w : World) (hz : MaxHere w) :
    Calls Try.prog 9 #[] w fun e w' => e = .returned (.bool true) ∧ Below w.heap.size w w' := by
 refine fn_intro Try.func9 rfl Try.ntmps9 rfl rfl ?_
 refine s_ (o_ ?_)
 refine xg 1 [] rfl rfl ?_
 refine ntso_ ?_
 refine g_callNew (fun x : {x : MT × Int // parX false [98, 42] x} => .tuple #[.agg (nC x.1.1).toArray, .int .i64 x.1.2]) (fun x => [.forest [x.1.1]]) rfl rfl rfl Try.call8 (fun w hS => parse_xb [98, 42] w (hS.maxHere hz (by simp))) ?_
 rintro ⟨⟨t, ern⟩, hpar⟩
 obtain ⟨h0, hle, hal⟩ := al_is hpar
 dsimp only at h0 hle hal
 subst h0
 refine g_shape 0 rfl fun hto => ?_
 dsimp only
 simp only [List.cons_append, List.nil_append]
 refine xg 1 [] rfl rfl ?_
 refine g_val (v := .agg (nC t).toArray) rfl rfl rfl (y_extract rfl rfl) ?_
 refine xg 1 [] rfl rfl ?_
 refine g_alloc rfl rfl Try.zeroValue28 rfl (fun b1 => ?_)
 refine g_stN (vs := nC t) 0 rfl rfl rfl (by kernel_rfl) (nC_one_rd hto) rfl rfl (nC_len _) ?_
 simp only [List.set_cons_zero]
 refine xg 1 [] rfl rfl ?_
 refine ntso_ ?_
 refine g_cm [] (m_parse11 [60, 38, 62] (by decide)) any_I rfl rfl rfl rfl (fun y => ?_)
 obtain ⟨⟨v, er2, ps⟩, hy⟩ := y
 obtain ⟨rfl, rfl⟩ : ps = alP ∧ er2 = 0 := by
   rcases hy with ⟨a, b⟩ | ⟨a, _⟩
   · exact ⟨Option.some.inj (a.symm.trans al_prs), b⟩
   · rw [al_prs] at a; cases a
 dsimp only
 simp only [List.cons_append, List.nil_append]
 refine g_rowLen 0 rfl (fun p0 c0 hv0 => ?_)
 subst hv0
 refine xg 5 [] rfl rfl ?_
 refine ntso_ ?_
 refine g_val (v := .agg (nC t).toArray) rfl rfl rfl (y_ldN (vs := nC t) 1 rfl Try.isAgg28 Try.sizeOf28 rfl (by rw [List.drop_zero, List.take_of_length_le (by rw [nC_len]; decide)]) (nC_len _)) ?_
 refine xg 1 [] rfl rfl ?_
 refine g_cm [] (m_repl t p0 3 c0 (txP alP) (nnP alP) alL 1 true (by first | decide | omega) (by omega) (by first | decide | omega) (fun m k hk => Nat.le_trans (fillU_le (n := 3) (T := 1) (by decide) k hk) (by show k * 5 ≤ _; omega))) (fun w2 hS => ⟨forest_rd hS (i := 2) rfl, (row_rd (hS.get (i := 0) rfl)).2⟩) rfl rfl rfl rfl (fun y => ?_)
 obtain ⟨y, hy⟩ := y
 obtain rfl := hal y hy
 dsimp only
 simp only [List.cons_append, List.nil_append]
 refine xg 7 [] rfl rfl ?_
 refine ntso_ ?_
 refine xg 13 [1,1,1] rfl (by omega) ?_
 refine g_lit 35 true rfl (decide_eq_true rfl) ?_
 refine xg 6 [1] rfl (by omega) ?_
 refine n_ (t_ (g_ret ?_))
 refine g_end1 Try.results9 rfl ?_
 exact fun w hS => ⟨rfl, hS.below⟩

end Go.Proofs.Ytjdmdpjbijkjaaa

/- A pattern of one letter: the plain law. -/
namespace Go.Proofs.Ytjdmdpjbijkjaaa
open Go Go.RowKit

theorem hasB_one : ∀ c d : Fin 256, hasB (withS s0 c.val 1) d.val = decide (d.val = c.val) := by decide +kernel
theorem hasB_c (c d : UInt8) : hasB (withS s0 c.toNat 1) d.toNat = decide (d = c) := by
  have h := hasB_one ⟨c.toNat, c.toNat_lt⟩ ⟨d.toNat, d.toNat_lt⟩
  rw [h]
  congr 1
  exact propext ⟨fun h => UInt8.toNat_inj.1 h, fun h => by rw [h]⟩
theorem mM_one {x : Tx} {c : UInt8} {i j : Nat} : mM x (oneM c) i j = (decide (j = i + 1) && decide (x.l[i]? = some c)) := by
  unfold oneM
  rw [mM_mk, if_pos rfl]
  congr 1
  cases x.l[i]? with
  | none => simp
  | some d => simp [hasB_c]
/-- Does a tree match just one letter? -/
def OneA (l : List UInt8) (t : MT) (c : UInt8) : Prop := ∀ i j, mM (txt l) t i j = (decide (j = i + 1) && decide (l[i]? = some c))
/-- Just the places where a letter stands, from fr on. -/
def good (l : List UInt8) (c : UInt8) : Nat → List Spn → Prop
  | fr, [] => ∀ j, fr ≤ j → l[j]? ≠ some c
  | fr, m :: ms => ∃ i : Nat, m 0 = ((i : Int), ((i + 1 : Nat) : Int)) ∧ fr ≤ i ∧ l[i]? = some c ∧ (∀ j, fr ≤ j → j < i → l[j]? ≠ some c) ∧ good l c (i + 1) ms
theorem alls_good {l : List UInt8} {t : MT} {c : UInt8} (hl : l.length ≤ 1024) (hA : OneA l t c) : ∀ (f fr : Nat) (en : Int), l.length + 1 ≤ f + fr → fr ≤ l.length → good l c fr (alls (txt l) t f fr en)
  | 0, fr, en, h1, h2 => by omega
  | f + 1, fr, en, h1, h2 => by
    rcases findR_cases (txt l) t fr h2 hl with ⟨i, j, ⟨a1, a2, a3, a4, _⟩, e⟩ | ⟨a, e⟩
    · rw [hA] at a3
      simp only [Bool.and_eq_true, decide_eq_true_eq] at a3
      obtain ⟨rfl, a3⟩ := a3
      have hi : i < l.length := (List.getElem?_eq_some_iff.1 a3).1
      have hm : (gM (txt l) t i (i + 1) (setS mN 0 ((i : Int), ((i + 1 : Nat) : Int)))) 0 = ((i : Int), ((i + 1 : Nat) : Int)) := by rw [gM_0]; rfl
      rw [alls, e, if_pos rfl]
      dsimp only
      rw [if_neg (by rw [hm]; dsimp only; omega)]
      refine ⟨i, hm, a1, a3, fun q hq hqi hqc => ?_, ?_⟩
      · have := a4 q (q + 1) hq hqi
        rw [hA] at this
        simp [hqc] at this
      · rw [hm]; exact alls_good hl hA f (i + 1) _ (by omega) (by omega)
    · rw [alls_no (by rw [e])]
      intro q hq hqc
      have hql : q < l.length := (List.getElem?_eq_some_iff.1 hqc).1
      have := a q (q + 1) hq (by show q ≤ l.length; omega)
      rw [hA] at this
      simp [hqc] at this
theorem allM_good {l : List UInt8} {t : MT} {c : UInt8} (hl : l.length ≤ 1024) (hA : OneA l t c) : good l c 0 (allM l t) := alls_good hl hA _ 0 (-1) (by omega) (Nat.zero_le _)
/-- A letter, by bytes. -/
def subs (c : UInt8) (B : List UInt8) (l : List UInt8) : List UInt8 := l.flatMap fun x => if x = c then B else [x]
theorem subs_no {c : UInt8} {B : List UInt8} : ∀ (l : List UInt8), (∀ j : Nat, l[j]? ≠ some c) → subs c B l = l
  | [], _ => rfl
  | x :: l, h => by
    have h0 : x ≠ c := fun e => h 0 (by rw [e]; rfl)
    have := subs_no (B := B) l (fun j => by have := h (j + 1); simpa using this)
    unfold subs at *
    rw [List.flatMap_cons, if_neg h0, this]; rfl
theorem subs_append {c : UInt8} {B : List UInt8} (a b : List UInt8) : subs c B (a ++ b) = subs c B a ++ subs c B b := by unfold subs; rw [List.flatMap_append]
/-- What comes out from a place on, by what is left of the matches. -/
def outL (l : List UInt8) (fm : Spn → List UInt8) : Int → List Spn → List UInt8
  | a, [] => l.drop a.toNat
  | a, m :: ms => (l.take (m 0).1.toNat).drop a.toNat ++ (fm m ++ outL l fm (m 0).2 ms)
theorem outL_rS {l : List UInt8} {fm : Spn → List UInt8} {ms : List Spn} : ∀ (k : Nat), k ≤ ms.length → (rS 1 l fm ms k).2.2 ++ outL l fm (rS 1 l fm ms k).1 (ms.drop k) = outL l fm 0 ms
  | 0, _ => by rw [List.drop_zero]; rfl
  | k + 1, hk => by
    obtain ⟨m, hm⟩ : ∃ m, ms[k]? = some m := ⟨_, List.getElem?_eq_getElem (show k < ms.length by omega)⟩
    have ih := outL_rS (l := l) (fm := fm) (ms := ms) k (by omega)
    have hd : ms.drop k = m :: ms.drop (k + 1) := by
      obtain ⟨hi, rfl⟩ := List.getElem?_eq_some_iff.1 hm
      exact List.drop_eq_getElem_cons hi
    rw [hd, outL] at ih
    rw [rS_take (by omega) hm, ← ih]
    dsimp only
    simp only [List.append_assoc]
theorem outL_good {l : List UInt8} {c : UInt8} {B : List UInt8} {fm : Spn → List UInt8} (hfm : ∀ (m : Spn) (i : Nat), m 0 = ((i : Int), ((i + 1 : Nat) : Int)) → l[i]? = some c → fm m = B) : ∀ (ms : List Spn) (fr : Nat), good l c fr ms → outL l fm fr ms = subs c B (l.drop fr)
  | [], fr, h => by
    rw [subs_no]
    · rw [outL, Int.toNat_natCast]
    · intro j; rw [List.getElem?_drop]; exact h (fr + j) (by omega)
  | m :: ms, fr, ⟨i, h1, h2, h3, h4, h5⟩ => by
    obtain ⟨hi, hc⟩ := List.getElem?_eq_some_iff.1 h3
    have ih := outL_good hfm ms (i + 1) h5
    rw [outL, h1, hfm m i h1 h3, Int.toNat_natCast, Int.toNat_natCast, ih]
    have e1 : l.drop fr = (l.take i).drop fr ++ (c :: l.drop (i + 1)) := by
      rw [← hc, ← List.drop_eq_getElem_cons hi, ← List.drop_append_of_le_length (by rw [List.length_take]; omega), List.take_append_drop]
    rw [e1, subs_append, subs_no ((l.take i).drop fr)]
    · show _ = _ ++ ((if c = c then B else [c]) ++ subs c B (l.drop (i + 1)))
      rw [if_pos rfl]
    · intro j
      rw [List.getElem?_drop, List.getElem?_take]
      split
      · exact h4 (fr + j) (by omega) (by omega)
      · exact fun e => by cases e
theorem good_count {l : List UInt8} {c : UInt8} : ∀ (ms : List Spn) (fr : Nat), good l c fr ms → ms.length = (l.drop fr).count c
  | [], fr, h => by
    symm
    rw [List.length_nil, List.count_eq_zero]
    intro hc
    obtain ⟨j, hj⟩ := List.getElem?_of_mem hc
    rw [List.getElem?_drop] at hj
    exact h (fr + j) (by omega) hj
  | m :: ms, fr, ⟨i, h1, h2, h3, h4, h5⟩ => by
    obtain ⟨hi, hc⟩ := List.getElem?_eq_some_iff.1 h3
    have e1 : l.drop fr = (l.take i).drop fr ++ (c :: l.drop (i + 1)) := by
      rw [← hc, ← List.drop_eq_getElem_cons hi, ← List.drop_append_of_le_length (by rw [List.length_take]; omega), List.take_append_drop]
    have e0 : ((l.take i).drop fr).count c = 0 := by
      rw [List.count_eq_zero]
      intro hc2
      obtain ⟨j, hj⟩ := List.getElem?_of_mem hc2
      rw [List.getElem?_drop, List.getElem?_take] at hj
      split at hj
      · exact h4 (fr + j) (by omega) (by omega) hj
      · cases hj
    rw [e1, List.count_append, e0, List.count_cons_self, List.length_cons, good_count ms (i + 1) h5]
    omega
theorem one_is {l : List UInt8} {c : UInt8} {x : MT × Int} (hc : c.toNat < 128 ∧ tokF (tokX false) [c] [] 0 = some [litT c]) (hk : okC c) (h : parX false [c] x) : x.2 = 0 ∧ wT x.1 ≤ 1000 ∧ OneA l x.1 c := by
  obtain ⟨h0, h1⟩ := parX_is h (fun d hd => by simp at hd; subst hd; exact hk) (by simp) (by simp) hc.2 (.one (.one (pc_lit rfl rfl (.stop (.inl (by simp))))) (.stop (.inr rfl)) : RAll [litT c] 0 0 false (oneM c) 1 0 false) (by simp)
  refine ⟨h0, parX_size h, fun i j => ?_⟩
  rw [← mM_er, h1, mM_er, mM_one]

end Go.Proofs.Ytjdmdpjbijkjaaa

/- ReplaceCounts, ReplaceLong: the plain law. -/
namespace Go.Proofs.Ytjdmdpjbijkjaaa
open Go Go.RowKit

/-- One place of a letter alone, by bytes. -/
def oneL (c : UInt8) (B : List UInt8) : Int → List UInt8 → List UInt8
  | _, [] => []
  | k, x :: l => if x = c then (if k = 1 then B else [x]) ++ oneL c B (k - 1) l else x :: oneL c B k l
theorem oneL_few {c : UInt8} {B : List UInt8} : ∀ (l : List UInt8) (k : Int), (k < 1 ∨ (l.count c : Int) < k) → oneL c B k l = l
  | [], _, _ => rfl
  | x :: l, k, h => by
    rw [oneL]
    split
    · rename_i hx
      subst hx
      rw [List.count_cons_self] at h
      rw [if_neg (by omega), oneL_few l (k - 1) (by omega)]; rfl
    · rename_i hx
      rw [List.count_cons_of_ne hx] at h
      rw [oneL_few l k h]
theorem oneL_no {c : UInt8} {B : List UInt8} : ∀ (a r : List UInt8) (k : Int), (∀ j : Nat, a[j]? ≠ some c) → oneL c B k (a ++ r) = a ++ oneL c B k r
  | [], _, _, _ => rfl
  | x :: a, r, k, h => by
    have h0 : x ≠ c := fun e => h 0 (by rw [e]; rfl)
    rw [List.cons_append, oneL, if_neg h0, oneL_no a r k (fun j => by have := h (j + 1); simpa using this)]; rfl
theorem cut_at {l : List UInt8} {c : UInt8} {fr i : Nat} (h2 : fr ≤ i) (h3 : l[i]? = some c) : l.drop fr = (l.take i).drop fr ++ (c :: l.drop (i + 1)) := by
  obtain ⟨hi, hc⟩ := List.getElem?_eq_some_iff.1 h3
  rw [← hc, ← List.drop_eq_getElem_cons hi, ← List.drop_append_of_le_length (by rw [List.length_take]; omega), List.take_append_drop]
theorem cut_no {l : List UInt8} {c : UInt8} {fr i : Nat} (h4 : ∀ j, fr ≤ j → j < i → l[j]? ≠ some c) (j : Nat) : ((l.take i).drop fr)[j]? ≠ some c := by
  rw [List.getElem?_drop, List.getElem?_take]
  split
  · exact h4 (fr + j) (by omega) (by omega)
  · exact fun e => by cases e
theorem one_good {l : List UInt8} {c : UInt8} {B : List UInt8} : ∀ (ms : List Spn) (fr k : Nat) (m : Spn), good l c fr ms → ms[k]? = some m → oneL c B ((k : Int) + 1) (l.drop fr) = (l.take (m 0).1.toNat).drop fr ++ (B ++ l.drop (m 0).2.toNat) ∧ (fr : Int) ≤ (m 0).1
  | [], _, _, _, _, hm => by simp at hm
  | m1 :: ms, fr, 0, m, ⟨i, h1, h2, h3, h4, h5⟩, hm => by
    simp at hm
    subst hm
    rw [cut_at h2 h3, oneL_no _ _ _ (cut_no h4), oneL, if_pos rfl, if_pos (show ((0 : Nat) : Int) + 1 = 1 from rfl), oneL_few _ _ (.inl (by omega)), h1]
    exact ⟨rfl, by dsimp only; omega⟩
  | m1 :: ms, fr, k + 1, m, ⟨i, h1, h2, h3, h4, h5⟩, hm => by
    rw [List.getElem?_cons_succ] at hm
    obtain ⟨e, hf⟩ := one_good (B := B) ms (i + 1) k m h5 hm
    refine ⟨?_, by omega⟩
    rw [cut_at h2 h3, oneL_no _ _ _ (cut_no h4), oneL, if_pos rfl, if_neg (by omega), show ((k + 1 : Nat) : Int) + 1 - 1 = (k : Int) + 1 by omega, e,
      cut_at (l := l.take (m 0).1.toNat) h2 (by rw [List.getElem?_take, if_pos (by omega)]; exact h3), List.take_take, Nat.min_eq_left (by omega)]
    simp only [List.append_assoc, List.cons_append, List.nil_append]
theorem cnt_all {l : List UInt8} {t : MT} {c : UInt8} {B : List UInt8} {fm : Spn → List UInt8} {x : List UInt8 × Int × Int} (hl : l.length ≤ 60) (hB : B.length ≤ 9) (hA : OneA l t c) (hfm : ∀ m, fm m = B) (h : RP 1 true l fm (allM l t) x) : x = (subs c B l, (l.count c : Int), 0) := by
  have hg := allM_good (by omega) hA
  have hc := good_count _ 0 hg
  obtain ⟨K, hK, h1, _, rfl⟩ := RP_small (B := 9) (fun m => by rw [hfm]; exact hB) (by omega) (by decide) h
  obtain rfl := h1 rfl
  have ho := outL_rS (l := l) (fm := fm) (ms := allM l t) _ (Nat.le_refl _)
  have hz := outL_good (fm := fm) (B := B) (fun m i _ _ => hfm m) _ 0 hg
  rw [List.drop_zero] at hz hc
  rw [List.drop_length, outL, show (0 : Int) = ((0 : Nat) : Int) from rfl, hz] at ho
  exact Prod.ext ho (Prod.ext (by dsimp only; omega) rfl)
theorem cnt_one {l : List UInt8} {t : MT} {c : UInt8} {B : List UInt8} {fm : Spn → List UInt8} {ct : Int} {x : List UInt8 × Int × Int} (hl : l.length ≤ 60) (hB : B.length ≤ 9) (hA : OneA l t c) (hfm : ∀ m, fm m = B) (hct : 1 ≤ ct) (h : RP ct false l fm (allM l t) x) : x = (oneL c B ct l, if ct ≤ (l.count c : Int) then 1 else 0, 0) := by
  have hg := allM_good (by omega) hA
  have hc := good_count _ 0 hg
  rw [List.drop_zero] at hc
  obtain ⟨K, hK, _, h1, rfl⟩ := RP_small (B := 9) (fun m => by rw [hfm]; exact hB) (by omega) hct h
  have h2 := h1 rfl
  by_cases hk : ct ≤ (l.count c : Int)
  · obtain ⟨k, rfl⟩ : ∃ k : Nat, ct = (k : Int) + 1 := ⟨(ct - 1).toNat, by omega⟩
    obtain rfl : K = k + 1 := by omega
    obtain ⟨m, hm⟩ : ∃ m, (allM l t)[k]? = some m := ⟨_, List.getElem?_eq_getElem (show k < (allM l t).length by omega)⟩
    obtain ⟨e, _⟩ := one_good (B := B) _ 0 k m hg hm
    rw [List.drop_zero, List.drop_zero] at e
    rw [rS_take (by omega) hm, rS_zero k (by omega), hfm, e, if_pos hk]
    refine Prod.ext ?_ (Prod.ext (by dsimp only; omega) rfl)
    simp only [List.append_assoc, List.nil_append, Int.toNat_zero, List.drop_zero]
  · rw [rS_zero K (by omega), oneL_few _ _ (.inr (by omega)), if_neg hk]
    exact Prod.ext rfl (Prod.ext (by dsimp only; omega) rfl)
theorem prs_let : ∀ (l : List UInt8) (ps : List Pc) (pl : List UInt8), (∀ (j : Nat) c, l[j]? = some c → ¬ c.toNat = 38 ∧ ¬ c.toNat = 92) → prs l ps pl = some (flushP ps (pl ++ l))
  | [], ps, pl, _ => by rw [List.append_nil]; rfl
  | c :: l, ps, pl, h => by
    obtain ⟨h1, h2⟩ := h 0 c rfl
    rw [prs_plain h1 h2, prs_let l ps (pl ++ [c]) (fun j d hd => h (j + 1) d (by simpa using hd)), List.append_assoc]; rfl
theorem fill_let (l B : List UInt8) (m : Spn) : fillU l m (txP (flushP [] B)) (nnP (flushP [] B)) (flushP [] B).length = B := by
  cases B with
  | nil => rfl
  | cons c B => simp [flushP, fillU, pcT, txP, nnP]
theorem good_row {l : List UInt8} {c : UInt8} : ∀ (ms : List Spn) (fr : Nat), good l c fr ms → (∀ j, fr ≤ j → j < l.length → l[j]? = some c) → ∀ (k : Nat) m, ms[k]? = some m → m 0 = (((fr + k : Nat) : Int), ((fr + k + 1 : Nat) : Int))
  | [], _, _, _, _, _, hm => by simp at hm
  | m1 :: ms, fr, ⟨i, h1, h2, h3, h4, h5⟩, ha, k, m, hm => by
    have hi : i < l.length := (List.getElem?_eq_some_iff.1 h3).1
    obtain rfl : i = fr := by
      rcases Nat.lt_or_ge fr i with h | h
      · exact absurd (ha fr (Nat.le_refl _) (by omega)) (h4 fr (Nat.le_refl _) h)
      · omega
    cases k with
    | zero => simp at hm; subst hm; exact h1
    | succ k =>
      rw [List.getElem?_cons_succ] at hm
      rw [good_row ms (i + 1) h5 (fun j hj => ha j (by omega)) k m hm, show i + 1 + k = i + (k + 1) by omega]
theorem long_law {n more : Nat} {t : MT} {c : UInt8} {fm : Spn → List UInt8} {x : List UInt8 × Int × Int} (hn : n ≤ 1024) (hA : OneA (List.replicate n c) t c) (hfm : ∀ (m : Spn) (i : Nat), m 0 = ((i : Int), ((i + 1 : Nat) : Int)) → i < n → (fm m).length = 1 + more) (h : RP 1 true (List.replicate n c) fm (allM (List.replicate n c) t) x) :
    (1024 < n * (1 + more) ∧ x = ([], 0, 161)) ∨ (n * (1 + more) ≤ 1024 ∧ x.1.length = n * (1 + more) ∧ x.2 = ((n : Int), 0)) := by
  have hll : (List.replicate n c).length = n := List.length_replicate
  have hg := allM_good (by omega) hA
  have hc := good_count _ 0 hg
  rw [List.drop_zero, List.count_replicate_self] at hc
  have hp := good_row _ 0 hg (fun j _ hj => by rw [List.getElem?_eq_getElem hj, List.getElem_replicate])
  have hS : ∀ k, k ≤ n → (rS 1 (List.replicate n c) fm (allM (List.replicate n c) t) k).1 = k ∧ (rS 1 (List.replicate n c) fm (allM (List.replicate n c) t) k).2.1 = k ∧ (rS 1 (List.replicate n c) fm (allM (List.replicate n c) t) k).2.2.length = k * (1 + more) := by
    intro k
    induction k with
    | zero => intro _; exact ⟨rfl, rfl, by rw [Nat.zero_mul]; rfl⟩
    | succ k ih =>
      intro hk
      obtain ⟨i1, i2, i3⟩ := ih (by omega)
      obtain ⟨m, hm⟩ : ∃ m, (allM (List.replicate n c) t)[k]? = some m := ⟨_, List.getElem?_eq_getElem (show k < (allM (List.replicate n c) t).length by omega)⟩
      have h1 := hp k m hm
      rw [Nat.zero_add] at h1
      rw [rS_take (by omega) hm]
      dsimp only
      rw [h1]
      refine ⟨rfl, by rw [i2]; rfl, ?_⟩
      rw [List.length_append, List.length_append, i3, i1, List.length_drop, List.length_take, hfm m k h1 (by omega), Nat.succ_mul]
      dsimp only
      omega
  rcases h with ⟨h, _⟩ | ⟨_, h, _⟩ | ⟨_, _, K, hK, h⟩
  · omega
  · omega
  · rcases hK with ⟨hk, _⟩ | ⟨k, rfl, hk, hb, _⟩
    · rw [hc] at hk
      rw [hk] at h
      obtain ⟨i1, i2, i3⟩ := hS n (Nat.le_refl _)
      rw [List.length_append, i3, i1, List.length_drop, hll] at h
      rcases h with ⟨h1, h2⟩ | ⟨h1, h2⟩
      · exact .inl ⟨by omega, h2⟩
      · refine .inr ⟨by omega, ?_, ?_⟩
        · rw [h2, List.length_append, i3, List.length_drop, hll]; omega
        · rw [h2, i2]
    · obtain ⟨i1, i2, i3⟩ := hS (k + 1) (by omega)
      have h3 : (k + 1) * (1 + more) ≤ n * (1 + more) := Nat.mul_le_mul_right _ (by omega)
      have h4 := hb.2.resolve_left (by decide)
      rw [i3] at h4
      rw [List.length_append, i3] at h
      rcases h with ⟨_, h2⟩ | ⟨h1, _⟩
      · exact .inl ⟨by omega, h2⟩
      · omega

end Go.Proofs.Ytjdmdpjbijkjaaa

/- ReplaceCounts. -/
namespace Go.Proofs.Ytjdmdpjbijkjaaa
open Go Go.RowKit

theorem one_ne {d : UInt8} (h : d ≠ 97) : ¬ (⟨[d].toArray⟩ : ByteArray) = ⟨#[97]⟩ := fun e => h (by have := congrArg (fun x : ByteArray => x.data.toList) e; simpa using this)
theorem st8_cat (a b : List UInt8) : Value.string ((⟨a.toArray⟩ : ByteArray) ++ ⟨b.toArray⟩) = st8 (a ++ b) := by
  unfold st8
  congr 1
theorem subs_ne {c x : UInt8} {B l : List UInt8} (h : x ≠ c) : subs c B (x :: l) = [x] ++ subs c B l := by unfold subs; rw [List.flatMap_cons, if_neg h]
theorem subs_eq {c : UInt8} {B l : List UInt8} : subs c B (c :: l) = B ++ subs c B l := by unfold subs; rw [List.flatMap_cons, if_pos rfl]
theorem oneL_ne {c x : UInt8} {B l : List UInt8} {k : Int} (h : x ≠ c) : oneL c B k (x :: l) = [x] ++ oneL c B k l := by rw [oneL, if_neg h]; rfl
theorem oneL_eq {c : UInt8} {B l : List UInt8} {k : Int} : oneL c B k (c :: l) = (if k = 1 then B else [c]) ++ oneL c B (k - 1) l := by rw [oneL, if_pos rfl]
theorem flush1 (B : List UInt8) : (flushP [] B).length ≤ 1 := flushP_len [] B
theorem slc1 {l : List UInt8} {i : Nat} {c : UInt8} (h : l[i]? = some c) : (l.take (i + 1)).drop i = [c] := by
  obtain ⟨hi, hc⟩ := List.getElem?_eq_some_iff.1 h
  rw [List.take_add_one, h, List.drop_append_of_le_length (by rw [List.length_take]; omega), List.drop_eq_nil_of_le (by rw [List.length_take]; omega)]; rfl
theorem a_ok : ∀ c : UInt8, c ∈ [(97 : UInt8)] → okC c := by
  intro c hc
  simp only [List.mem_cons, List.not_mem_nil, or_false] at hc
  subst hc
  unfold okC; decide

set_option maxRecDepth 100000 in
theorem counts_any (l B : List UInt8) (ct : Int) (w : World) (hz : MaxHere w) :
    Calls Try.prog 6 #[st8 l, st8 B, .int .i64 ct] w fun e w' => e = .returned (.bool true) ∧ Below w.heap.size w w' := by
 have hszl := size_mk l
 have hszB := size_mk B
 refine fn_intro Try.func6 rfl Try.ntmps6 rfl rfl ?_
 refine s_ (o_ ?_)
 refine xg 1 [] rfl rfl ?_
 refine n_ (t_ (s_ (s_ (o_ ?_))))
 refine xg 4 [0] rfl rfl ?_
 refine g_casep 27 rfl (fun h1 => ?_) fun h1 => ?_
 ·refine xg 12 [] rfl rfl ?_
  refine n_ (t_ (g_cond_t rfl (s_ (o_ ?_))))
  refine g_call1 rfl rfl rfl Try.call9 (fun w hS => alive_any w (hS.maxHere hz (by simp))) ?_
  refine xg 1 [] rfl rfl ?_
  refine n_ (t_ (g_ret (g_then_ret ?_)))
  refine g_end1 Try.results6 rfl ?_
  exact fun w hS => ⟨rfl, hS.below⟩
 refine xg 5 [0] rfl rfl ?_
 refine g_casep 32 rfl (fun h2 => ?_) fun h2 => ?_
 ·refine xg 7 [] rfl rfl ?_
  refine n_ (t_ (g_cond_t rfl (s_ (o_ ?_))))
  refine g_call1 rfl rfl rfl Try.call9 (fun w hS => alive_any w (hS.maxHere hz (by simp))) ?_
  refine xg 1 [] rfl rfl ?_
  refine n_ (t_ (g_ret (g_then_ret ?_)))
  refine g_end1 Try.results6 rfl ?_
  exact fun w hS => ⟨rfl, hS.below⟩
 refine xg 4 [0] rfl rfl ?_
 refine g_casep 36 rfl (fun h3 => ?_) fun h3 => ?_
 ·refine xg 3 [] rfl rfl ?_
  refine n_ (t_ (g_cond_t rfl (s_ (o_ ?_))))
  refine g_call1 rfl rfl rfl Try.call9 (fun w hS => alive_any w (hS.maxHere hz (by simp))) ?_
  refine xg 1 [] rfl rfl ?_
  refine n_ (t_ (g_ret (g_then_ret ?_)))
  refine g_end1 Try.results6 rfl ?_
  exact fun w hS => ⟨rfl, hS.below⟩
 refine xg 3 [0] rfl rfl ?_
 refine n_ (t_ ?_)
 refine g_casep 39 rfl (fun h4 => ?_) fun h4 => ?_
 ·refine g_cond_t rfl (s_ (o_ ?_))
  refine g_call1 rfl rfl rfl Try.call9 (fun w hS => alive_any w (hS.maxHere hz (by simp))) ?_
  refine xg 1 [] rfl rfl ?_
  refine n_ (t_ (g_ret (g_then_ret ?_)))
  refine g_end1 Try.results6 rfl ?_
  exact fun w hS => ⟨rfl, hS.below⟩
 refine g_cond_f rfl (g_skip (t_ (s_ (s_ ?_))))
 have hl60 : l.length ≤ 60 := by omega
 have hB9 : B.length ≤ 9 := by omega
 have hct1 : 1 ≤ ct := by omega
 refine o_ ?_
 refine xg 1 [] rfl rfl ?_
 refine n_ (t_ (g_block ?_))
 refine g_loop (α := {x : Nat // x ≤ B.length ∧ ∀ (j : Nat) d, j < x → B[j]? = some d → 97 ≤ d.toNat ∧ d.toNat ≤ 122}) (fun x => [(0, st8 l), (1, st8 B), (2, .int .i64 ct), (7, .int .i64 (x.1 : Int))]) (fun x => St w [] []) (fun x => B.length - x.1) ⟨0, Nat.zero_le _, fun j d hj => absurd hj (by omega)⟩ [0, 1, 2, 7] rfl (fun w h => h.pick [] rfl) ?_
 rintro ⟨i, hi, hlt⟩
 dsimp only
 try dsimp only at hi hlt
 refine s_ (s_ (o_ ?_))
 refine xg 4 [0] rfl rfl ?_
 refine n_ (t_ ?_)
 refine g_casep 44 rfl (fun h5 => ?_) fun h5 => ?_
 ·refine g_cond_t rfl (g_skip (t_ (s_ (g_block (s_ ?_)))))
  obtain ⟨ci, hci, hc8⟩ := st8_get (l := B) (i := i) (by omega)
  refine o_ ?_
  refine xg 2 [] rfl rfl ?_
  refine g_val (v := .int .u8 (ci.toNat : Int)) rfl rfl rfl (y_sidx (i := i) rfl rfl Try.underlying9 hc8) ?_
  refine xg 2 [0] rfl rfl ?_
  refine g_casep 51 rfl (fun h6 => ?_) fun h6 => ?_
  ·refine xg 5 [] rfl rfl ?_
   refine n_ (t_ (g_cond_t rfl (s_ (o_ ?_))))
   refine g_call1 rfl rfl rfl Try.call9 (fun w hS => alive_any w (hS.maxHere hz (by simp))) ?_
   refine xg 1 [] rfl rfl ?_
   refine n_ (t_ (g_ret (g_in_ret (g_then_ret (g_then_ret (g_in_ret (g_then_ret ?_)))))))
   refine g_end1 Try.results6 rfl ?_
   exact fun w hS => ⟨rfl, hS.below⟩
  refine xg 2 [] rfl rfl ?_
  refine g_val (v := .int .u8 (ci.toNat : Int)) rfl rfl rfl (y_sidx (i := i) rfl rfl Try.underlying9 hc8) ?_
  refine xg 2 [0] rfl rfl ?_
  refine n_ (t_ ?_)
  refine g_casep 56 rfl (fun h7 => ?_) fun h7 => ?_
  ·refine g_cond_t rfl (s_ (o_ ?_))
   refine g_call1 rfl rfl rfl Try.call9 (fun w hS => alive_any w (hS.maxHere hz (by simp))) ?_
   refine xg 1 [] rfl rfl ?_
   refine n_ (t_ (g_ret (g_in_ret (g_then_ret (g_then_ret (g_in_ret (g_then_ret ?_)))))))
   refine g_end1 Try.results6 rfl ?_
   exact fun w hS => ⟨rfl, hS.below⟩
  refine g_cond_f rfl (g_skip (g_in_normal (t_ (o_ ?_))))
  refine xg 3 [] rfl (by omega) ?_
  refine n_ ?_
  exact g_again ⟨i + 1, by omega, fun j d hj hd => by rcases (by omega : j < i ∨ j = i) with h | h <;> first | exact hlt j d h hd | (subst h; obtain rfl : ci = d := Option.some.inj (hci.symm.trans hd); omega)⟩ [0, 1, 2, 7] (by dsimp only; omega) rfl (fun w h => h.pick [] rfl)
 refine g_cond_f rfl (g_exit (g_then_exit (g_then_exit (g_in_exit (t_ (s_ ?_))))))
 have hlet : ∀ (j : Nat) d, B[j]? = some d → ¬ d.toNat = 38 ∧ ¬ d.toNat = 92 := fun j d hd => by have h9 := (List.getElem?_eq_some_iff.1 hd).1; have := hlt j d (by omega) hd; omega
 have hprs : prs B [] [] = some (flushP [] B) := by have h9 := prs_let B [] [] hlet; rwa [List.nil_append] at h9
 have hfp := flush1 B
 refine o_ ?_
 refine g_callNew (fun x : {x : MT × Int // parX false [97] x} => .tuple #[.agg (nC x.1.1).toArray, .int .i64 x.1.2]) (fun x => [.forest [x.1.1]]) rfl rfl rfl Try.call8 (fun w hS => parse_xb [97] w (hS.maxHere hz (by simp))) ?_
 rintro ⟨⟨t, ern⟩, hpar⟩
 obtain ⟨h0, hle, hA⟩ := one_is (l := l) (c := 97) ⟨by decide, rfl⟩ (a_ok 97 (by simp)) hpar
 dsimp only at h0 hle hA
 subst h0
 refine g_shape 0 rfl fun hto => ?_
 dsimp only
 simp only [List.cons_append, List.nil_append]
 refine xg 1 [] rfl rfl ?_
 refine g_val (v := .agg (nC t).toArray) rfl rfl rfl (y_extract rfl rfl) ?_
 refine xg 1 [] rfl rfl ?_
 refine g_alloc rfl rfl Try.zeroValue28 rfl (fun bt => ?_)
 refine g_stN (vs := nC t) 0 rfl rfl rfl (by kernel_rfl) (nC_one_rd hto) rfl rfl (nC_len _) ?_
 simp only [List.set_cons_zero]
 refine xg 1 [] rfl rfl ?_
 refine ntso_ ?_
 refine xg 1 [] rfl rfl ?_
 refine g_cm [] (m_parse11 B (by omega)) any_I rfl rfl rfl rfl (fun y => ?_)
 obtain ⟨⟨v, er2, ps⟩, hy⟩ := y
 obtain ⟨rfl, rfl⟩ : ps = flushP [] B ∧ er2 = 0 := by
   rcases hy with ⟨a, b⟩ | ⟨a, _⟩
   · exact ⟨Option.some.inj (a.symm.trans hprs), b⟩
   · rw [hprs] at a; cases a
 dsimp only
 simp only [List.cons_append, List.nil_append]
 refine g_rowLen 0 rfl (fun p0 c0 hv0 => ?_)
 subst hv0
 refine xg 5 [] rfl rfl ?_
 refine ntso_ ?_
 refine xg 1 [] rfl rfl ?_
 refine ntso_ ?_
 refine xg 1 [] rfl rfl ?_
 refine ntso_ ?_
 refine xg 1 [] rfl rfl ?_
 refine n_ (t_ (s_ (s_ (o_ ?_))))
 refine xg 1 [] rfl rfl ?_
 refine n_ (t_ (g_block ?_))
 refine g_loop (α := {x : Nat × Nat × List UInt8 × List UInt8 // x.1 ≤ l.length ∧ x.2.2.1 ++ subs 97 B (l.drop x.1) = subs 97 B l ∧ x.2.1 + (l.drop x.1).count 97 = l.count 97 ∧ x.2.2.2 ++ oneL 97 B (ct - (x.2.1 : Int)) (l.drop x.1) = oneL 97 B ct l ∧ x.2.2.1.length ≤ 9 * x.1 ∧ x.2.2.2.length ≤ 9 * x.1}) (fun x => [(0, st8 l), (1, st8 B), (2, .int .i64 ct), (8, .pointer (some ⟨bt, 0, none⟩)), (10, .slice p0 (flushP [] B).length c0), (12, .int .i64 (x.1.2.1 : Int)), (13, st8 x.1.2.2.1), (14, st8 x.1.2.2.2), (15, .int .i64 (x.1.1 : Int))]) (fun x => St w [] [.row 34 2 (.slice p0 (flushP [] B).length c0) (flushP [] B).length ((flushP [] B).flatMap pcE), .cells bt 28 (nC t), .forest [t]]) (fun x => l.length - x.1.1) ⟨(0, 0, [], []), Nat.zero_le _, rfl, by dsimp only; rw [List.drop_zero]; omega, by dsimp only; rw [List.drop_zero]; show [] ++ oneL 97 B (ct - 0) l = _; rw [Int.sub_zero]; rfl, Nat.zero_le _, Nat.zero_le _⟩ [0, 1, 2, 8, 10, 12, 13, 14, 15] rfl (fun w h => h.pick [0,0,0] rfl) ?_
 rintro ⟨⟨i, al, P, O⟩, hi2, q1, q2, q3, q4, q5⟩
 dsimp only
 dsimp only at hi2 q1 q2 q3 q4 q5
 have hcl : l.count 97 ≤ l.length := List.count_le_length
 refine s_ (s_ (o_ ?_))
 refine xg 4 [0] rfl rfl ?_
 refine n_ (t_ ?_)
 refine g_casep 70 rfl (fun h8 => ?_) fun h8 => ?_
 ·refine g_cond_t rfl (g_skip (t_ (s_ (g_block (s_ ?_)))))
  obtain ⟨ci, hci, hc8⟩ := st8_get (l := l) (i := i) (by omega)
  rw [drop_at hci] at q1 q2 q3
  refine o_ ?_
  refine xg 4 [] rfl (by omega) ?_
  refine g_val (v := st8 [ci]) rfl rfl rfl (y_val (y_ssl rfl rfl rfl Try.underlying9 (by omega) (by omega) (by rw [size_mk]; omega)) (by rw [show ((i : Int) + 1) = ((i + 1 : Nat) : Int) from rfl, ext8 l (by omega) (by omega) (by omega), Int.toNat_natCast, Int.toNat_natCast, slc1 hci]; rfl)) ?_
  refine xg 1 [] rfl rfl ?_
  refine n_ (t_ (s_ (s_ ?_)))
  rcases Decidable.em (ci = 97) with hc | hc
  ·subst hc
   refine o_ ?_
   refine xg 2 [] rfl rfl ?_
   refine g_lit 79 false rfl (decide_eq_false (fun h => h rfl)) ?_
   refine n_ (t_ (g_cond_f rfl (g_skip (t_ (s_ (o_ ?_))))))
   refine xg 3 [] rfl (by omega) ?_
   refine ntso_ ?_
   refine xg 2 [] rfl rfl ?_
   refine g_val (v := st8 (P ++ B)) rfl rfl rfl (y_val (y_scat rfl rfl (by rw [size_mk, size_mk]; (try simp only [List.length_cons, List.length_nil]); omega)) (st8_cat _ _)) ?_
   refine xg 1 [] rfl rfl ?_
   refine ntso_ ?_
   refine xg 3 [0] rfl rfl ?_
   refine n_ (t_ ?_)
   refine g_casep 93 rfl (fun h9 => ?_) fun h9 => ?_
   ·refine g_cond_t rfl (o_ ?_)
    refine xg 2 [] rfl rfl ?_
    refine g_val (v := st8 (O ++ B)) rfl rfl rfl (y_val (y_scat rfl rfl (by rw [size_mk, size_mk]; (try simp only [List.length_cons, List.length_nil]); omega)) (st8_cat _ _)) ?_
    refine xg 1 [] rfl rfl ?_
    refine n_ (g_in_normal (t_ (o_ ?_)))
    refine xg 3 [] rfl (by omega) ?_
    refine n_ ?_
    exact g_again ⟨(i + 1, al + 1, P ++ B, O ++ B), by dsimp only; omega, by dsimp only; rw [← q1, subs_eq, List.append_assoc], by dsimp only; rw [← q2, List.count_cons_self]; omega, by dsimp only; rw [← q3, oneL_eq, if_pos (by omega), List.append_assoc, show ct - ((al + 1 : Nat) : Int) = ct - (al : Int) - 1 by omega], by dsimp only; rw [List.length_append]; (try simp only [List.length_cons, List.length_nil]); omega, by dsimp only; rw [List.length_append]; (try simp only [List.length_cons, List.length_nil]); omega⟩ [0, 1, 2, 8, 10, 12, 13, 14, 15] (by dsimp only; omega) rfl (fun w h => h.pick [0,0,0] rfl)
   refine g_cond_f rfl (o_ ?_)
   refine xg 2 [] rfl rfl ?_
   refine g_val (v := st8 (O ++ [97])) rfl rfl rfl (y_val (y_scat rfl rfl (by rw [size_mk, size_mk]; (try simp only [List.length_cons, List.length_nil]); omega)) (st8_cat _ _)) ?_
   refine xg 1 [] rfl rfl ?_
   refine n_ (g_in_normal (t_ (o_ ?_)))
   refine xg 3 [] rfl (by omega) ?_
   refine n_ ?_
   exact g_again ⟨(i + 1, al + 1, P ++ B, O ++ [97]), by dsimp only; omega, by dsimp only; rw [← q1, subs_eq, List.append_assoc], by dsimp only; rw [← q2, List.count_cons_self]; omega, by dsimp only; rw [← q3, oneL_eq, if_neg (by omega), List.append_assoc, show ct - ((al + 1 : Nat) : Int) = ct - (al : Int) - 1 by omega], by dsimp only; rw [List.length_append]; (try simp only [List.length_cons, List.length_nil]); omega, by dsimp only; rw [List.length_append]; (try simp only [List.length_cons, List.length_nil]); omega⟩ [0, 1, 2, 8, 10, 12, 13, 14, 15] (by dsimp only; omega) rfl (fun w h => h.pick [0,0,0] rfl)
  refine o_ ?_
  refine xg 2 [] rfl rfl ?_
  refine g_lit 79 true rfl (decide_eq_true (one_ne hc)) ?_
  refine n_ (t_ (g_cond_t rfl (s_ (o_ ?_))))
  refine xg 2 [] rfl rfl ?_
  refine g_val (v := st8 (P ++ [ci])) rfl rfl rfl (y_val (y_scat rfl rfl (by rw [size_mk, size_mk]; (try simp only [List.length_cons, List.length_nil]); omega)) (st8_cat _ _)) ?_
  refine xg 1 [] rfl rfl ?_
  refine ntso_ ?_
  refine xg 2 [] rfl rfl ?_
  refine g_val (v := st8 (O ++ [ci])) rfl rfl rfl (y_val (y_scat rfl rfl (by rw [size_mk, size_mk]; (try simp only [List.length_cons, List.length_nil]); omega)) (st8_cat _ _)) ?_
  refine xg 1 [] rfl rfl ?_
  refine n_ (t_ (g_exit (g_then_exit (g_in_exit (t_ (o_ ?_))))))
  refine xg 3 [] rfl (by omega) ?_
  refine n_ ?_
  exact g_again ⟨(i + 1, al, P ++ [ci], O ++ [ci]), by dsimp only; omega, by dsimp only; rw [← q1, subs_ne hc, List.append_assoc], by dsimp only; rw [← q2, List.count_cons_of_ne hc], by dsimp only; rw [← q3, oneL_ne hc, List.append_assoc], by dsimp only; rw [List.length_append]; (try simp only [List.length_cons, List.length_nil]); omega, by dsimp only; rw [List.length_append]; (try simp only [List.length_cons, List.length_nil]); omega⟩ [0, 1, 2, 8, 10, 12, 13, 14, 15] (by dsimp only; omega) rfl (fun w h => h.pick [0,0,0] rfl)
 refine g_cond_f rfl (g_exit (g_then_exit (g_then_exit (g_in_exit (t_ (s_ ?_))))))
 obtain rfl : i = l.length := by omega
 rw [List.drop_length] at q1 q2 q3
 rw [show subs 97 B [] = [] from rfl, List.append_nil] at q1
 rw [show oneL 97 B (ct - (al : Int)) [] = [] from rfl, List.append_nil] at q3
 rw [List.count_nil, Nat.add_zero] at q2
 refine o_ ?_
 refine g_val (v := .agg (nC t).toArray) rfl rfl rfl (y_ldN (vs := nC t) 1 rfl Try.isAgg28 Try.sizeOf28 rfl (by rw [List.drop_zero, List.take_of_length_le (by rw [nC_len]; decide)]) (nC_len _)) ?_
 refine xg 2 [] rfl rfl ?_
 refine g_cm [] (m_repl t p0 (flushP [] B).length c0 (txP (flushP [] B)) (nnP (flushP [] B)) l 1 true (by first | decide | omega) (by omega) (by first | decide | omega) (fun m2 k2 hk2 => Nat.le_trans (fillU_mono _ _ _ _ hk2) (by rw [fill_let]; omega))) (fun w2 hS => ⟨forest_rd hS (i := 2) rfl, (row_rd (hS.get (i := 0) rfl)).2⟩) rfl rfl rfl rfl (fun y => ?_)
 obtain ⟨y, hy⟩ := y
 obtain ⟨s1, d1, e1⟩ := y
 have hx1 : (s1, d1, e1) = (P, (al : Int), (0 : Int)) := by rw [cnt_all hl60 hB9 hA (fun m => fill_let l B m) hy, q1, q2]
 obtain ⟨hs1, hd1, he1⟩ : s1 = P ∧ d1 = (al : Int) ∧ e1 = 0 := by cases hx1; exact ⟨rfl, rfl, rfl⟩
 dsimp only
 simp only [List.cons_append, List.nil_append]
 refine xg 7 [] rfl rfl ?_
 refine ntso_ ?_
 refine g_val (v := .agg (nC t).toArray) rfl rfl rfl (y_ldN (vs := nC t) 1 rfl Try.isAgg28 Try.sizeOf28 rfl (by rw [List.drop_zero, List.take_of_length_le (by rw [nC_len]; decide)]) (nC_len _)) ?_
 refine xg 3 [] rfl rfl ?_
 refine g_cm [] (m_repl t p0 (flushP [] B).length c0 (txP (flushP [] B)) (nnP (flushP [] B)) l ct false (by first | decide | omega) (by omega) (by first | decide | omega) (fun m2 k2 hk2 => Nat.le_trans (fillU_mono _ _ _ _ hk2) (by rw [fill_let]; omega))) (fun w2 hS => ⟨forest_rd hS (i := 2) rfl, (row_rd (hS.get (i := 0) rfl)).2⟩) rfl rfl rfl rfl (fun y => ?_)
 obtain ⟨y, hy⟩ := y
 obtain ⟨s2, d2, e2⟩ := y
 have hx2 : (s2, d2, e2) = (O, (if ct ≤ (al : Int) then 1 else 0 : Int), (0 : Int)) := by rw [cnt_one hl60 hB9 hA (fun m => fill_let l B m) hct1 hy, q3, q2]
 obtain ⟨hs2, hd2, he2⟩ : s2 = O ∧ d2 = (if ct ≤ (al : Int) then 1 else 0 : Int) ∧ e2 = 0 := by cases hx2; exact ⟨rfl, rfl, rfl⟩
 dsimp only
 simp only [List.cons_append, List.nil_append]
 refine xg 7 [] rfl rfl ?_
 refine ntso_ ?_
 refine xg 1 [] rfl rfl ?_
 refine n_ (t_ (s_ (s_ (o_ ?_))))
 refine xg 3 [0] rfl rfl ?_
 refine n_ (t_ ?_)
 refine g_casep 119 rfl (fun h10 => ?_) fun h10 => ?_
 ·refine g_cond_t rfl (o_ ?_)
  refine xg 1 [] rfl rfl ?_
  refine ntso_ ?_
  refine g_call1 rfl rfl rfl Try.call9 (fun w hS => alive_any w (hS.maxHere hz (by simp))) ?_
  refine xg 12 [1,1] rfl (by omega) ?_
  refine g_lit 132 true rfl (decide_eq_true (by rw [hs1])) ?_
  refine xg 10 [1] rfl (by omega) ?_
  refine g_lit 142 true rfl (decide_eq_true (by rw [hs2])) ?_
  refine xg 5 [0] rfl rfl ?_
  refine g_lit 147 true rfl (decide_eq_true (by rw [hd2]; split <;> omega)) ?_
  refine xg 2 [] rfl rfl ?_
  refine n_ (t_ (g_ret ?_))
  refine g_end1 Try.results6 rfl ?_
  exact fun w hS => ⟨rfl, hS.below⟩
 refine g_cond_f rfl (g_skip (t_ (s_ (o_ ?_))))
 refine g_call1 rfl rfl rfl Try.call9 (fun w hS => alive_any w (hS.maxHere hz (by simp))) ?_
 refine xg 12 [1,1] rfl (by omega) ?_
 refine g_lit 132 true rfl (decide_eq_true (by rw [hs1])) ?_
 refine xg 10 [1] rfl (by omega) ?_
 refine g_lit 142 true rfl (decide_eq_true (by rw [hs2])) ?_
 refine xg 5 [0] rfl rfl ?_
 refine g_lit 147 true rfl (decide_eq_true (by rw [hd2]; split <;> omega)) ?_
 refine xg 2 [] rfl rfl ?_
 refine n_ (t_ (g_ret ?_))
 refine g_end1 Try.results6 rfl ?_
 exact fun w hS => ⟨rfl, hS.below⟩

theorem counts_law (a b : ByteArray) (c : Int) (w : World) (hsh : w.ShapedOpen Try.prog) : Calls Try.prog 6 #[.string a, .string b, .int .i64 c] w fun e w' => e = .returned (.bool true) ∧ Below w.heap.size w w' := by
  have h := counts_any a.data.toList b.data.toList c w (maxHere_of hsh)
  unfold st8 at h
  simp only [Array.toArray_toList] at h
  exact h
end Go.Proofs.Ytjdmdpjbijkjaaa

