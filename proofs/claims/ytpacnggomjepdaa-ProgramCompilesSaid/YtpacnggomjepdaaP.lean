/-
  Maps of strings to ints that are owned.
-/
import Derived.Test.YtpacnggomjepdaaR
import Derived.StringKeys
import Derived.WideKeyMaps2
import Derived.WideMake
namespace Go.Proofs.Ytpacnggomjepdaa
open Go Go.RowKit Go.WideMaps Go.MapKept Go.ChangeMaps

/-- What a map's entries say. -/
def MapIs (es : List MapEntry) (m : ByteArray → Option Int) : Prop :=
  (∀ x ∈ es, ∀ s, x.key = .string s → ∃ n, x.val = .int .i64 n ∧ m s = some n) ∧ (∀ s n, m s = some n → ∃ x ∈ es, x.key = .string s ∧ x.val = .int .i64 n)
/-- Block b is a map of strings to ints: m, of at most N keys. -/
def Ent.smap (P : Program) (k : TypeId) (b N : Nat) (m : ByteArray → Option Int) : Ent where
  fp := [b]
  holds w := ∃ es clock, w.heap[b]? = some (.map es clock) ∧ WideMaps.Fit Unit P k .i64 es clock ∧ es.size ≤ N ∧ MapIs es.toList m
  stable w w' hk h := by rw [hk b (by simp)]; exact h
  inb w h j hj := by
    simp at hj; subst hj
    obtain ⟨es, clock, h, _⟩ := h
    exact lt_of_some h
section
variable {P : Program} {N : Nat} {R : Regs} {S : World → Prop} {Q : Exit → Act → World → Prop} {ops : Array Oper} {rest : List Oper} {W0 : World} {F : List Nat} {L : List Ent} {X : Act → World → Prop}
variable {dst : Option Tmp} {ty t t' k e : TypeId} {pos : String} {af : Array Edge} {gd : Option (Nat × Bool)} {x y z : Operand} {o : Oper}
theorem find_is {w : World} {es : Array MapEntry} {clock : Nat} {m : ByteArray → Option Int} {s : ByteArray} (hk : P.underlying k = some .string) (Ft : WideMaps.Fit Unit P k .i64 es clock) (hm : MapIs es.toList m) (hs : s.size ≤ maxLen) :
    ((Instr.findKey k (.string s) es.toList).run P w = .ok none w ∧ m s = none ∧ ∀ x ∈ es.toList, x.key ≠ .string s) ∨ ∃ j x0 n, (Instr.findKey k (.string s) es.toList).run P w = .ok (some (j, .int .i64 n)) w ∧ m s = some n ∧ es.toList[j]? = some x0 ∧ x0.key = .string s := by
  rcases (string_law hk).find w (keyOf_string_mk hk hs) es.toList Ft.keys with ⟨h1, h2⟩ | ⟨j, e0, h1, h2, h3⟩
  · refine .inl ⟨h1, ?_, h2⟩
    cases hq : m s with
    | none => rfl
    | some n =>
      obtain ⟨x, hx, hkx, _⟩ := hm.2 s n hq
      exact absurd hkx (h2 x hx)
  · obtain ⟨n, hn, hmn⟩ := hm.1 e0 (List.mem_of_getElem? h2) s h3
    rw [hn] at h1
    exact .inr ⟨j, e0, n, h1, hmn, h2, h3⟩
theorem y_lookup {b M : Nat} {m : ByteArray → Option Int} {s : ByteArray} (i : Nat) (hx : ev R x = some (.map (some b))) (hy : ev R y = some (.string s)) (ht : P.underlying t = some (.map k e)) (hk : P.underlying k = some .string) (hz : ∀ w, (zeroValue e).run P w = .ok (.int .i64 0) w)
    (hi : L[i]? = some (.smap P k b M m)) (hs : s.size ≤ maxLen) : Yv P N R (St W0 F L) ⟨dst, .lookup t x y true, ty, pos, af, gd⟩ (.tuple #[.int .i64 ((m s).getD 0), .bool (m s).isSome]) := fun a w hR hS => by
  obtain ⟨es, clock, hb, Ft, _, hm⟩ := hS.get hi
  rcases find_is (w := w) hk Ft hm hs with ⟨h1, h2, _⟩ | ⟨j, x0, n, h1, h2, _, _⟩
  · simp [execOp, hR.eval hx, hR.eval hy, Instr.lookup, Sem.run_bind, run_underlying ht, MapKept.run_getObj_map hb, (string_law hk).check w _ (keyOf_string_mk hk hs), h1, hz, h2]
  · simp [execOp, hR.eval hx, hR.eval hy, Instr.lookup, Sem.run_bind, run_underlying ht, MapKept.run_getObj_map hb, (string_law hk).check w _ (keyOf_string_mk hk hs), h1, h2]
theorem g_makeMap {d : Nat} (hw : want ops R ⟨some d, .makeMap t none, ty, pos, af, gd⟩ = some true) (hN : Nat.blt d N = true) (k : TypeId)
    (h : ∀ b, G N ((d, .map (some b)) :: R) (St W0 F (.smap P k b 0 (fun _ => none) :: L)) (wpList P ops Q rest)) : G N R (St W0 F L) (wpList P ops Q (⟨some d, .makeMap t none, ty, pos, af, gd⟩ :: rest)) :=
  g_one hw fun K a w hR hS hK => by
    refine Oper.wp_ok (w' := w.alloc (.map #[] 0)) (v := .map (some w.heap.size)) (by simp [execOp, Sem.run_bind, run_makeMap_plain]) (hK _ _ (h w.heap.size _ _ (hR.put hN) ?_))
    have hold : ∀ j, j < w.heap.size → (w.alloc (.map #[] 0)).heap[j]? = w.heap[j]? := fun j hj => Below.heap_alloc _ _ _ hj
    refine ⟨hS.os, hS.tape, hS.output, ?_, fun j hj hF => ?_, fun e he => ?_, fun e he j hj => ?_, ?_⟩
    · have := hS.size; simp; omega
    · rw [hold j (by have := hS.size; omega)]; exact hS.keep j hj hF
    · rcases List.mem_cons.1 he with rfl | he
      · exact ⟨#[], 0, heap_alloc_new _ _, ⟨by simp, stamped_empty 0, by simp⟩, by simp, by simp [MapIs]⟩
      · exact e.stable w _ (fun j hj => hold j (e.inb w (hS.ok e he) j hj)) (hS.ok e he)
    · rcases List.mem_cons.1 he with rfl | he
      · simp [Ent.smap] at hj; subst hj; exact .inl hS.size
      · exact hS.own e he j hj
    · refine List.pairwise_cons.2 ⟨fun y hy j hj hj' => ?_, hS.apart⟩
      simp [Ent.smap] at hj; subst hj
      exact Nat.lt_irrefl _ (y.inb w (hS.ok y hy) _ hj')
def mset (m : ByteArray → Option Int) (s : ByteArray) (v : Int) : ByteArray → Option Int := fun u => if u = s then some v else m u
theorem str_inj {s u : ByteArray} (h : Value.string s = Value.string u) : s = u := by cases h; rfl
theorem g_mapUpdate {b M : Nat} {m : ByteArray → Option Int} {s : ByteArray} {v : Int} (i : Nat) (hw : want ops R ⟨none, .mapUpdate t x y z, ty, pos, af, gd⟩ = some true) (hx : ev R x = some (.map (some b))) (hy : ev R y = some (.string s)) (hz : ev R z = some (.int .i64 v)) (ht : P.underlying t = some (.map k e)) (hk : P.underlying k = some .string)
    (hi : L[i]? = some (.smap P k b M m)) (hs : s.size ≤ maxLen) (hv : (Lit.int .i64 v).wf = true) (hM : M < maxLen)
    (h : G N R (St W0 F (L.set i (.smap P k b (M + 1) (mset m s v)))) (wpList P ops Q rest)) : G N R (St W0 F L) (wpList P ops Q (⟨none, .mapUpdate t x y z, ty, pos, af, gd⟩ :: rest)) :=
  g_one hw fun K a w hR hS hK => by
    obtain ⟨es, clock, hb, Ft, hN, hm⟩ := hS.get hi
    have hkey := keyOf_string_mk hk hs
    have Kl := string_law hk
    have hblt : b < w.heap.size := lt_of_some hb
    have hfin : ∀ es' clock', (Instr.mapUpdate t (.map (some b)) (.string s) (.int .i64 v)).run P w = .ok () (setBlock w b (.map es' clock')) → WideMaps.Fit Unit P k .i64 es' clock' → es'.size ≤ M + 1 → MapIs es'.toList (mset m s v) →
        Oper.wp P ⟨none, .mapUpdate t x y z, ty, pos, af, gd⟩ a w K Q := by
      intro es' clock' hrun hF' hN' hm'
      refine Oper.wp_skip (w' := setBlock w b (.map es' clock')) ?_ (hK _ _ (h _ _ hR (hS.write hi rfl rfl rfl (by simp [setBlock]) (fun j _ hj => ?_) ⟨es', clock', ?_, hF', hN', hm'⟩ (fun j hj => .inl hj))))
      · simp [execOp, hR.eval hx, hR.eval hy, hR.eval hz, Sem.run_bind, hrun]
      · have hne : j ≠ b := by simpa [Ent.smap] using hj
        simp [setBlock, Array.getElem?_setIfInBounds_ne (fun q => hne q.symm)]
      · simp [setBlock, hblt]
    rcases find_is (w := w) hk Ft hm hs with ⟨h1, h2, h3⟩ | ⟨j, e0, n, h1, h2, h4, h3⟩
    · refine hfin (es.push ⟨.string s, .int .i64 v, clock⟩) (clock + 1) ?_ ⟨by simp; omega, stamped_push Ft.stamped h3, ?_⟩ (by simp; omega) ⟨?_, ?_⟩
      · simp [Instr.mapUpdate, run_underlying ht, MapKept.run_getObj_map hb, Kl.check w false hkey, h1, MapKept.run_setObj_map _ hb, Result.andThen, setBlock]
      · intro u hu
        simp only [Array.toList_push, List.mem_append, List.mem_singleton] at hu
        rcases hu with hu | rfl
        · exact Ft.reads u hu
        · exact ⟨_, WideMaps.rd_mk hkey hv⟩
      · intro u hu s' hs'
        simp only [Array.toList_push, List.mem_append, List.mem_singleton] at hu
        rcases hu with hu | rfl
        · obtain ⟨n, hn, hmn⟩ := hm.1 u hu s' hs'
          have hne : s' ≠ s := fun q => h3 u hu (by rw [hs', q])
          exact ⟨n, hn, by unfold mset; rw [if_neg hne]; exact hmn⟩
        · exact ⟨v, rfl, by unfold mset; rw [if_pos (str_inj hs').symm]⟩
      · intro s' n hn
        unfold mset at hn
        split at hn
        · rename_i q
          subst q
          exact ⟨⟨.string s', .int .i64 v, clock⟩, by rw [Array.toList_push]; exact List.mem_append_right _ (List.mem_singleton.2 rfl), rfl, by cases hn; rfl⟩
        · obtain ⟨u, hu, q1, q2⟩ := hm.2 s' n hn
          exact ⟨u, by rw [Array.toList_push]; exact List.mem_append_left _ hu, q1, q2⟩
    · have hj : es[j]? = some e0 := by simpa using h4
      have hkeyf : ∀ e', es[j]? = some e' → ({ e' with key := .string s, val := .int .i64 v } : MapEntry).key = e'.key := fun e' he' => by rw [hj] at he'; cases he'; exact h3.symm
      have hset : (es.modify j (fun e' => { e' with key := .string s, val := .int .i64 v })).toList = es.toList.set j { e0 with key := .string s, val := .int .i64 v } := by
        rw [Array.toList_modify, modify_eq_set _ _ _ _ h4]
      have hap : ∀ u ∈ es.toList.set j { e0 with key := .string s, val := .int .i64 v }, (u = { e0 with key := .string s, val := .int .i64 v }) ∨ (u ∈ es.toList ∧ u.key ≠ .string s) := by
        intro u hu
        obtain ⟨q, hq⟩ := List.getElem?_of_mem hu
        rw [List.getElem?_set] at hq
        by_cases hqj : j = q
        · rw [if_pos hqj] at hq
          split at hq
          · exact .inl (Option.some.inj hq).symm
          · cases hq
        · rw [if_neg hqj] at hq
          refine .inr ⟨List.mem_of_getElem? hq, fun hk' => ?_⟩
          have hpw := ((stamped_iff es clock).1 Ft.stamped).2.2
          have hjl := (List.getElem?_eq_some_iff.1 h4)
          have hql := (List.getElem?_eq_some_iff.1 hq)
          rcases Nat.lt_or_ge j q with lt | ge
          · exact (List.pairwise_iff_getElem.1 hpw j q hjl.1 hql.1 lt) (by rw [hjl.2, hql.2, h3, hk'])
          · exact (List.pairwise_iff_getElem.1 hpw q j hql.1 hjl.1 (by omega)) (by rw [hjl.2, hql.2, h3, hk'])
      refine hfin (es.modify j (fun e' => { e' with key := .string s, val := .int .i64 v })) clock ?_ ⟨by simpa using Ft.size, stamped_modify Ft.stamped _ _ (fun _ _ => rfl) (fun e' _ he' => hkeyf e' he'), ?_⟩ (by simp; omega) ⟨?_, ?_⟩
      · simp [Instr.mapUpdate, run_underlying ht, MapKept.run_getObj_map hb, Kl.check w false hkey, h1, hj, h3, Kl.stays w hkey, MapKept.run_setObj_map _ hb, Result.andThen, setBlock]
      · intro u hu
        rcases MapFrom.mem_modify hu with hu | ⟨e', _, rfl⟩
        · exact Ft.reads u hu
        · exact ⟨_, WideMaps.rd_mk hkey hv⟩
      · intro u hu s' hs'
        rw [hset] at hu
        rcases hap u hu with rfl | ⟨hu, hne⟩
        · exact ⟨v, rfl, by unfold mset; rw [if_pos (str_inj hs').symm]⟩
        · obtain ⟨n, hn, hmn⟩ := hm.1 u hu s' hs'
          exact ⟨n, hn, by unfold mset; rw [if_neg (fun q => hne (by rw [hs', q]))]; exact hmn⟩
      · intro s' n hn
        rw [hset]
        unfold mset at hn
        have hjl := (List.getElem?_eq_some_iff.1 h4).1
        split at hn
        · rename_i q
          subst q
          exact ⟨{ e0 with key := .string s', val := .int .i64 v }, List.mem_iff_getElem?.2 ⟨j, by rw [List.getElem?_set, if_pos rfl, if_pos hjl]⟩, rfl, by cases hn; rfl⟩
        · rename_i q
          obtain ⟨u, hu, q1, q2⟩ := hm.2 s' n hn
          refine ⟨u, ?_, q1, q2⟩
          obtain ⟨p, hp⟩ := List.getElem?_of_mem hu
          have hpj : j ≠ p := fun hh => by
            subst hh
            rw [h4] at hp
            have := Option.some.inj hp
            subst this
            rw [h3] at q1
            exact q (str_inj q1).symm
          exact List.mem_of_getElem? (i := p) (by rw [List.getElem?_set, if_neg hpj]; exact hp)
end
end Go.Proofs.Ytpacnggomjepdaa
