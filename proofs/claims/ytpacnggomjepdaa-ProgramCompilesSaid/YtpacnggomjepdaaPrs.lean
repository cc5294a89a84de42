/- program.Files. -/
import Derived.Test.YtpacnggomjepdaaPrk
import Derived.Test.YtpacnggomjepdaaIt
namespace Go.Proofs.Ytpacnggomjepdaa
open Go Go.RowKit

open Go.Maps Go.WideMaps Go.MapKept Go.ChangeMaps in
theorem y_lookup0 {P : Program} {N : Nat} {R : Regs} {W0 : World} {F : List Nat} {L : List Ent} {dst : Option Tmp} {ty t k e : TypeId} {pos : String} {af : Array Edge} {gd : Option (Nat × Bool)} {x y : Operand} {b M : Nat} {m : ByteArray → Option Int} {s : ByteArray} (i : Nat) (hx : ev R x = some (.map (some b))) (hy : ev R y = some (.string s)) (ht : P.underlying t = some (.map k e)) (hk : P.underlying k = some .string) (hz : ∀ w, (zeroValue e).run P w = .ok (.int .i64 0) w)
    (hi : L[i]? = some (.smap P k b M m)) (hs : s.size ≤ maxLen) : Yv P N R (St W0 F L) ⟨dst, .lookup t x y false, ty, pos, af, gd⟩ (.int .i64 ((m s).getD 0)) := fun a w hR hS => by
  obtain ⟨es, clock, hb, Ft, _, hm⟩ := hS.get hi
  rcases find_is (w := w) hk Ft hm hs with ⟨h1, h2, _⟩ | ⟨j, x0, n, h1, h2, _, _⟩
  · simp [execOp, hR.eval hx, hR.eval hy, Instr.lookup, Sem.run_bind, run_underlying ht, MapKept.run_getObj_map hb, (string_law hk).check w _ (keyOf_string_mk hk hs), h1, hz, h2]
  · simp [execOp, hR.eval hx, hR.eval hy, Instr.lookup, Sem.run_bind, run_underlying ht, MapKept.run_getObj_map hb, (string_law hk).check w _ (keyOf_string_mk hk hs), h1, h2]
/-! ### A map's keys -/
def anyR : Value → Option (DataW Unit × List MemPlace) := fun _ => some (.lit (.bool true), [])
theorem smap_keys {P : Program} {w : World} {k b N : Nat} {m : ByteArray → Option Int} (hk : P.underlying k = some .string) (h : (Ent.smap P k b N m).holds w) :
    ∃ nn, ∃ D0 : DataW Unit, w.ownsMap P k anyR b nn D0 ∧ Maps.size D0 ≤ N ∧ (∀ s : List UInt8, s ∈ strKeys D0 ↔ (m ⟨s.toArray⟩).isSome = true) ∧ (strKeys D0).Nodup := by
  obtain ⟨es, clock, hb, Ft, hN, hm⟩ := h
  have hx : ∀ x, x ∈ es.toList → ∃ l : List UInt8, x.key = .string ⟨l.toArray⟩ ∧ WideElems.rd P k anyR x = some (.string l, .lit (.bool true)) := fun x hx => by
    obtain ⟨y, hy⟩ := Ft.reads x hx
    obtain ⟨l, q1, q2, _⟩ := Maps.keyOf_str hk (WideMaps.rd_key hy)
    have q3 := WideMaps.rd_key hy
    rw [q2] at q3
    exact ⟨l, q1, WideElems.rd_mk (R := anyR) (val := x.val) (yv := (.lit (.bool true), [])) (born := x.born) q3 rfl⟩
  have F' : WideElems.Fit P k anyR es clock := ⟨Ft.size, Ft.stamped, fun x h => by obtain ⟨l, _, q⟩ := hx x h; exact ⟨_, q⟩⟩
  have hk' : ∀ x, x ∈ es.toList → ∀ l : List UInt8, strOf (WideElems.rg P k anyR x).1 = l ↔ x.key = .string ⟨l.toArray⟩ := fun x h l => by
    obtain ⟨l', q1, q2⟩ := hx x h
    rw [WideElems.rg_of q2, q1]
    constructor
    · intro q
      have q' : l' = l := q
      rw [q']
    · intro q
      exact encStr_inj (x := l') (y := l) q
  have hp : (strKeys (H := Unit) (.map ((es.toList.map (WideElems.rg P k anyR)).foldr DataW.insert []))).Perm (es.toList.map fun x => strOf (WideElems.rg P k anyR x).1) := by
    show (((es.toList.map (WideElems.rg P k anyR)).foldr DataW.insert []).map fun p => strOf p.1).Perm _
    have := (Go.WideShapes.sorted_perm (es.toList.map (WideElems.rg P k anyR))).map (fun p => strOf p.1)
    rwa [List.map_map] at this
  have hp0 := Go.WideShapes.sorted_perm (es.toList.map (WideElems.rg P k anyR))
  refine ⟨es.size, _, ⟨es, clock, hb, F', Nat.le_refl _, rfl⟩, ?_, fun s => ?_, ?_⟩
  · show ((es.toList.map (WideElems.rg P k anyR)).foldr DataW.insert []).length ≤ N
    rw [hp0.length_eq, List.length_map]; simpa using hN
  · rw [hp.mem_iff, List.mem_map]
    constructor
    · rintro ⟨x, h1, h2⟩
      obtain ⟨n, _, q⟩ := hm.1 x h1 _ ((hk' x h1 s).1 h2)
      rw [q]; rfl
    · intro h
      obtain ⟨n, hn⟩ := Option.isSome_iff_exists.1 h
      obtain ⟨x, h1, h2, _⟩ := hm.2 _ n hn
      exact ⟨x, h1, (hk' x h1 s).2 h2⟩
  · refine hp.nodup_iff.2 ?_
    show (es.toList.map _).Pairwise _
    rw [List.pairwise_map]
    refine (((Go.MapKept.stamped_iff es clock).1 Ft.stamped).2.2).imp_of_mem fun {x y} h1 h2 hne e => hne ?_
    rw [(hk' x h1 _).1 rfl, (hk' y h2 _).1 rfl, e]
theorem St.of_row {w w' : World} {e : TypeId} {size n : Nat} {v : Value} {xs : List Value} (hb : Below w.heap.size w w') (hr : w'.ownsRow w.heap.size e size v n xs) : St w [] [.row e size v n xs] w' := by
  refine ⟨hb.os, hb.tape, hb.output, hb.size, fun k hk _ => hb.block k hk, fun x hx => ?_, fun x hx k hk => ?_, List.pairwise_singleton _ _⟩
  · obtain rfl := List.mem_singleton.1 hx
    obtain ⟨h1, h2 | ⟨g, cap, cur, q1, _, q3⟩⟩ := hr
    · exact ⟨h1, .inl h2⟩
    · exact ⟨h1, .inr ⟨g, cap, cur, q1, Nat.zero_le _, q3⟩⟩
  · obtain rfl := List.mem_singleton.1 hx
    obtain ⟨h1, h2 | ⟨g, cap, cur, q1, q2, q3⟩⟩ := hr
    · simp [Ent.row, h2.1, Value.ownBlock] at hk
    · simp [Ent.row, q1, Value.ownBlock] at hk
      subst hk; exact .inl q2
/-! ### What Files computes -/
def sC (s : ByteArray) : List Value := [.string s]
theorem sC_len (s : ByteArray) : (sC s).length = 1 := rfl
def hitF (cs : Nat → Cm) (k : Nat) (s : ByteArray) : Prop := ((cs k).nm = 119 ∧ (cs k).tx = s) ∨ ((cs k).nm = 115 ∧ (cs k).fi ≠ ⟨#[]⟩ ∧ (cs k).fi = s)
def filesOk (cs : Nat → Cm) (i : Nat) (m : ByteArray → Option Int) : Prop := ∀ s, ((m s).isSome = true ↔ ∃ k, k < i ∧ hitF cs k s) ∧ 0 ≤ (m s).getD 0 ∧ (m s).getD 0 ≤ i
theorem files_add {cs : Nat → Cm} {i : Nat} {m : ByteArray → Option Int} {s : ByteArray} (h : filesOk cs i m) (hs : ∀ u, hitF cs i u ↔ s = u) : filesOk cs (i + 1) (mset m s ((m s).getD 0 + 1)) := fun u => by
  have hu := h u
  have hs' := h s
  unfold mset
  by_cases e : u = s
  · subst e
    rw [if_pos rfl]
    refine ⟨⟨fun _ => ⟨i, by omega, (hs u).2 rfl⟩, fun _ => rfl⟩, ?_, ?_⟩ <;> simp only [Option.getD_some] <;> omega
  · rw [if_neg e]
    refine ⟨⟨fun q => by obtain ⟨k, h1, h2⟩ := hu.1.1 q; exact ⟨k, by omega, h2⟩, fun ⟨k, h1, h2⟩ => hu.1.2 ⟨k, ?_, h2⟩⟩, hu.2.1, by omega⟩
    by_cases ek : k = i
    · subst ek; exact absurd ((hs u).1 h2).symm e
    · omega
theorem files_0 (cs : Nat → Cm) : filesOk cs 0 (fun _ => none) := fun s => ⟨⟨fun h => (by cases h), fun ⟨k, h, _⟩ => absurd h (Nat.not_lt_zero k)⟩, Int.le_refl _, Int.le_refl _⟩
theorem files_else {cs : Nat → Cm} {i : Nat} {m : ByteArray → Option Int} (h : filesOk cs i m) (hs : ∀ u, ¬ hitF cs i u) : filesOk cs (i + 1) m := fun u => by
  have hu := h u
  refine ⟨⟨fun q => by obtain ⟨k, h1, h2⟩ := hu.1.1 q; exact ⟨k, by omega, h2⟩, fun ⟨k, h1, h2⟩ => hu.1.2 ⟨k, ?_, h2⟩⟩, hu.2.1, by omega⟩
  by_cases ek : k = i
  · subst ek; exact absurd h2 (hs u)
  · omega
def ltB (a b : ByteArray) : Prop := a.data.toList < b.data.toList
def filesR (cs : Nat → Cm) (n : Nat) (fs : List ByteArray) : Prop := fs.Pairwise ltB ∧ ∀ s, s ∈ fs ↔ ∃ k, k < n ∧ hitF cs k s
theorem files_sorted {cs : Nat → Cm} {n : Nat} {m : ByteArray → Option Int} {ss ks : List (List UInt8)} (h : filesOk cs n m) (hp : ss.Perm ks) (hm : ∀ s, s ∈ ks ↔ (m ⟨s.toArray⟩).isSome = true) (hnd : ks.Nodup) :
    filesR cs n ((ss.mergeSort fun x y => decide (x ≤ y)).map fun l => ⟨l.toArray⟩) := by
  have tr : ∀ a b c : List UInt8, leB a b = true → leB b c = true → leB a c = true := fun a b c h1 h2 => by simp only [leB, decide_eq_true_eq] at *; exact List.le_trans h1 h2
  have to : ∀ a b : List UInt8, (leB a b || leB b a) = true := fun a b => by simp only [leB, Bool.or_eq_true, decide_eq_true_eq]; exact List.le_total a b
  have hpp := (List.mergeSort_perm ss leB).trans hp
  refine ⟨?_, fun s => ?_⟩
  · rw [List.pairwise_map]
    have h1 := List.pairwise_mergeSort tr to ss
    have h2 : (ss.mergeSort leB).Pairwise (· ≠ ·) := hpp.nodup_iff.2 hnd
    refine (h1.and h2).imp fun {a b} ⟨q1, q2⟩ => ?_
    show (⟨a.toArray⟩ : ByteArray).data.toList < (⟨b.toArray⟩ : ByteArray).data.toList
    simp only [leB, decide_eq_true_eq] at q1
    by_cases e : a < b
    · simpa using e
    · exact absurd (List.le_antisymm q1 (List.not_lt.1 e)) q2
  · rw [← (h s).1, List.mem_map]
    constructor
    · rintro ⟨l, h1, rfl⟩
      exact (hm l).1 (hpp.mem_iff.1 h1)
    · intro q
      refine ⟨s.data.toList, hpp.mem_iff.2 ((hm _).2 ?_), ?_⟩
      · simpa using q
      · simp
theorem flat_sC (l : List (List UInt8)) : (l.map fun x => (⟨x.toArray⟩ : ByteArray)).flatMap sC = l.map encStr := by
  induction l with
  | nil => rfl
  | cons a l ih => rw [List.map_cons, List.flatMap_cons, ih]; rfl

set_option maxRecDepth 100000 in
theorem files_any (p : Option Addr) (n c : Nat) (cs : Nat → Cm) (w : World) (hn : n ≤ 1000) (ht : ∀ i, i < n → (cs i).tx.size ≤ 1000 ∧ (cs i).fi.size ≤ 1000) (hrd : RdSl w p n 42 (cmF cs)) :
    Calls Try.prog 15 #[.slice p n c] w fun e w' => ∃ x : {x : Value × List ByteArray // filesR cs n x.2}, e = .returned x.1.1 ∧ St w [] [.row 9 1 x.1.1 x.1.2.length (x.1.2.flatMap sC)] w' := by
  refine fn_intro Try.func15 rfl Try.ntmps15 rfl rfl ?_
  refine g_seq (g_ops ?_)
  refine g_val rfl rfl rfl (y_assign rfl) ?_
  refine g_nil (g_then (g_seq (g_ops ?_)))
  refine g_makeMap rfl rfl 9 (fun b1 => ?_)
  refine g_val rfl rfl rfl (y_assign rfl) ?_
  refine g_nil (g_then (g_seq (g_seq (g_ops ?_))))
  refine g_val rfl rfl rfl (y_move rfl) ?_
  refine g_val rfl rfl rfl (y_llen rfl Try.underlying23) ?_
  refine g_val rfl rfl rfl (y_move rfl) ?_
  refine g_nil (g_then (g_block ?_))
  refine g_loop (α := {x : Int × Nat × (ByteArray → Option Int) // 0 ≤ x.1 ∧ x.1 ≤ n ∧ x.2.1 ≤ x.1 ∧ filesOk cs x.1.toNat x.2.2}) (fun x => [(3, .map (some b1)), (7, .slice p n c), (8, .int .i64 n), (9, .int .i64 x.1.1)]) (fun x => St w [] [.smap Try.prog 9 b1 x.1.2.1 x.1.2.2]) (fun x => n - x.1.1.toNat) ⟨(0, 0, fun _ => none), by dsimp only; omega, by dsimp only; omega, by dsimp only; omega, files_0 cs⟩ [3, 7, 8, 9] rfl (fun w h => h.sub (.cons_cons _ .slnil)) ?_
  rintro ⟨⟨i, K, m⟩, hx⟩
  dsimp only
  dsimp only at hx
  obtain ⟨hi0, hi1, hK, hm⟩ := hx
  have hmx : maxLen = 9223372036854775807 := rfl
  have htx : i < n → (cs i.toNat).tx.size ≤ maxLen ∧ (cs i.toNat).fi.size ≤ maxLen := fun h => by have := ht i.toNat (by omega); omega
  have hmt := (hm (cs i.toNat).tx).2
  have hmf := (hm (cs i.toNat).fi).2
  refine g_seq (g_ops ?_)
  refine g_val rfl rfl rfl (y_ilt rfl rfl) ?_
  refine g_nil (g_then (g_seq ?_))
  first | refine g_casep 10 rfl (fun h1 => ?_) (fun h1 => ?_) | refine g_caseb 10 rfl (fun h1 => ?_) (fun h1 => ?_)
  · skip
    try dsimp only at h1
    refine g_cond_t rfl (g_skip (g_then (g_seq (g_block (g_seq (g_ops ?_))))))
    refine g_val rfl rfl rfl (y_rdAddr hrd rfl rfl Try.underlying23 Try.sizeOf45 (by omega) (by omega)) ?_
    refine g_val rfl rfl rfl (y_rdAgg (i := i) (vs := cmC (cs i.toNat)) hrd rfl Try.isAgg45 Try.sizeOf45 (by omega) (by omega) rfl (fun j hj => cm_get cs i.toNat j hj)) ?_
    refine g_alloc rfl rfl Try.zeroValue45 rfl (fun b2 => ?_)
    refine g_stN 0 rfl rfl rfl (by kernel_rfl) rfl rfl rfl rfl ?_
    simp only [List.set_cons_zero]
    refine g_nil (g_then (g_block (g_seq (g_ops ?_))))
    refine g_val rfl rfl rfl (y_fieldAddr (k := 1) (m := 1) rfl (by kernel_rfl) rfl) ?_
    refine g_val rfl rfl rfl (y_ld 0 rfl Try.isAgg5 rfl rfl) ?_
    refine g_val rfl rfl rfl (y_ieq rfl rfl) ?_
    refine g_val rfl rfl rfl (y_assign rfl) ?_
    refine g_nil (g_then ?_)
    first | refine g_casep 13 rfl (fun h2 => ?_) (fun h2 => ?_) | refine g_caseb 13 rfl (fun h2 => ?_) (fun h2 => ?_)
    · skip
      try dsimp only at h2
      refine g_cond_t rfl (g_ops ?_)
      refine g_val rfl rfl rfl (y_move rfl) ?_
      refine g_val rfl rfl rfl (y_fieldAddr (k := 25) (m := 25) rfl (by kernel_rfl) rfl) ?_
      refine g_val rfl rfl rfl (y_ld 0 rfl Try.isAgg9 rfl rfl) ?_
      refine g_val (v := .int .i64 ((m (cs i.toNat).tx).getD 0)) rfl rfl rfl (y_lookup0 1 rfl rfl Try.underlying61 Try.underlying9 Try.zeroValue3 rfl (htx (by omega)).1) ?_
      refine g_val rfl rfl rfl (by first | exact y_addi rfl rfl (by first | omega | (simp only [size_mk, ByteArray.size_append, ByteArray.size_extract]; omega)) | exact y_iadd rfl rfl) ?_
      refine g_mapUpdate 1 rfl rfl rfl rfl Try.underlying61 Try.underlying9 rfl (by first | exact (htx (by omega)).1 | exact (htx (by omega)).2) (wf_i64 (by omega)) (by omega) ?_
      simp only [List.set_cons_zero, List.set_cons_succ]
      refine g_nil (g_in_normal (g_in_normal (g_then (g_ops ?_))))
      refine g_val rfl rfl rfl (by first | exact y_addi rfl rfl (by first | omega | (simp only [size_mk, ByteArray.size_append, ByteArray.size_extract]; omega)) | exact y_iadd rfl rfl) ?_
      refine g_val rfl rfl rfl (y_move rfl) ?_
      refine g_nil ?_
      exact g_again ⟨(i + 1, K + 1, mset m (cs i.toNat).tx ((m (cs i.toNat).tx).getD 0 + 1)), by dsimp only; omega, by dsimp only; omega, by dsimp only; omega, by dsimp only; rw [show (i + 1).toNat = i.toNat + 1 by omega]; exact files_add hm (fun u => ⟨fun q => by rcases q with ⟨q1, q2⟩ | ⟨q1, q2, q3⟩ <;> first | omega | assumption, fun q => .inl ⟨by omega, q⟩⟩)⟩ [3, 7, 8, 9] (by dsimp only; omega) rfl (fun w h => h.sub (.cons _ (.cons_cons _ .slnil)))
    · skip
      try dsimp only at h2
      refine g_cond_f rfl (g_seq (g_ops ?_))
      refine g_val rfl rfl rfl (y_fieldAddr (k := 1) (m := 1) rfl (by kernel_rfl) rfl) ?_
      refine g_val rfl rfl rfl (y_ld 0 rfl Try.isAgg5 rfl rfl) ?_
      refine g_val rfl rfl rfl (y_ieq rfl rfl) ?_
      refine g_val rfl rfl rfl (y_move rfl) ?_
      first | refine g_casep 26 rfl (fun h3 => ?_) (fun h3 => ?_) | refine g_caseb 26 rfl (fun h3 => ?_) (fun h3 => ?_)
      · skip
        try dsimp only at h3
        refine g_val rfl rfl rfl (y_fieldAddr (k := 41) (m := 41) rfl (by kernel_rfl) rfl) ?_
        refine g_val rfl rfl rfl (y_ld 0 rfl Try.isAgg9 rfl rfl) ?_
        refine g_val rfl rfl rfl (y_sne rfl rfl) ?_
        refine g_val rfl rfl rfl (y_pick_t rfl rfl) ?_
        refine g_val rfl rfl rfl (y_assign rfl) ?_
        refine g_nil (g_then ?_)
        first | refine g_casep 22 rfl (fun h4 => ?_) (fun h4 => ?_) | refine g_caseb 22 rfl (fun h4 => ?_) (fun h4 => ?_)
        · skip
          try dsimp only at h4
          refine g_cond_t rfl (g_ops ?_)
          refine g_val rfl rfl rfl (y_move rfl) ?_
          refine g_val rfl rfl rfl (y_fieldAddr (k := 41) (m := 41) rfl (by kernel_rfl) rfl) ?_
          refine g_val rfl rfl rfl (y_ld 0 rfl Try.isAgg9 rfl rfl) ?_
          refine g_val (v := .int .i64 ((m (cs i.toNat).fi).getD 0)) rfl rfl rfl (y_lookup0 1 rfl rfl Try.underlying61 Try.underlying9 Try.zeroValue3 rfl (htx (by omega)).2) ?_
          refine g_val rfl rfl rfl (by first | exact y_addi rfl rfl (by first | omega | (simp only [size_mk, ByteArray.size_append, ByteArray.size_extract]; omega)) | exact y_iadd rfl rfl) ?_
          refine g_mapUpdate 1 rfl rfl rfl rfl Try.underlying61 Try.underlying9 rfl (by first | exact (htx (by omega)).1 | exact (htx (by omega)).2) (wf_i64 (by omega)) (by omega) ?_
          simp only [List.set_cons_zero, List.set_cons_succ]
          refine g_nil (g_in_normal (g_in_normal (g_then (g_ops ?_))))
          refine g_val rfl rfl rfl (by first | exact y_addi rfl rfl (by first | omega | (simp only [size_mk, ByteArray.size_append, ByteArray.size_extract]; omega)) | exact y_iadd rfl rfl) ?_
          refine g_val rfl rfl rfl (y_move rfl) ?_
          refine g_nil ?_
          exact g_again ⟨(i + 1, K + 1, mset m (cs i.toNat).fi ((m (cs i.toNat).fi).getD 0 + 1)), by dsimp only; omega, by dsimp only; omega, by dsimp only; omega, by dsimp only; rw [show (i + 1).toNat = i.toNat + 1 by omega]; exact files_add hm (fun u => ⟨fun q => by rcases q with ⟨q1, q2⟩ | ⟨q1, q2, q3⟩ <;> first | omega | assumption, fun q => .inr ⟨by omega, by assumption, q⟩⟩)⟩ [3, 7, 8, 9] (by dsimp only; omega) rfl (fun w h => h.sub (.cons _ (.cons_cons _ .slnil)))
        · skip
          try dsimp only at h4
          refine g_cond_f rfl (g_skip (g_in_normal (g_in_normal (g_then (g_ops ?_)))))
          refine g_val rfl rfl rfl (by first | exact y_addi rfl rfl (by first | omega | (simp only [size_mk, ByteArray.size_append, ByteArray.size_extract]; omega)) | exact y_iadd rfl rfl) ?_
          refine g_val rfl rfl rfl (y_move rfl) ?_
          refine g_nil ?_
          exact g_again ⟨(i + 1, K, m), by dsimp only; omega, by dsimp only; omega, by dsimp only; omega, by dsimp only; rw [show (i + 1).toNat = i.toNat + 1 by omega]; exact files_else hm (fun u q => by rcases q with ⟨q1, q2⟩ | ⟨q1, q2, q3⟩ <;> first | omega | (exact absurd q2 (by assumption)))⟩ [3, 7, 8, 9] (by dsimp only; omega) rfl (fun w h => h.sub (.cons _ (.cons_cons _ .slnil)))
      · skip
        try dsimp only at h3
        refine g_not rfl rfl rfl ?_
        refine g_not rfl rfl rfl ?_
        refine g_not rfl rfl rfl ?_
        refine g_val rfl rfl rfl (y_pick_f rfl rfl) ?_
        refine g_val rfl rfl rfl (y_assign rfl) ?_
        refine g_nil (g_then (g_cond_f rfl (g_skip (g_in_normal (g_in_normal (g_then (g_ops ?_)))))))
        refine g_val rfl rfl rfl (by first | exact y_addi rfl rfl (by first | omega | (simp only [size_mk, ByteArray.size_append, ByteArray.size_extract]; omega)) | exact y_iadd rfl rfl) ?_
        refine g_val rfl rfl rfl (y_move rfl) ?_
        refine g_nil ?_
        exact g_again ⟨(i + 1, K, m), by dsimp only; omega, by dsimp only; omega, by dsimp only; omega, by dsimp only; rw [show (i + 1).toNat = i.toNat + 1 by omega]; exact files_else hm (fun u q => by rcases q with ⟨q1, q2⟩ | ⟨q1, q2, q3⟩ <;> first | omega | (exact absurd q2 (by assumption)))⟩ [3, 7, 8, 9] (by dsimp only; omega) rfl (fun w h => h.sub (.cons _ (.cons_cons _ .slnil)))
  · skip
    try dsimp only at h1
    refine g_cond_f rfl (g_exit (g_then_exit (g_then_exit (g_in_exit (g_then (g_seq (g_ops ?_)))))))
    refine g_val rfl rfl rfl (y_move rfl) ?_
    obtain rfl : i.toNat = n := by omega
    refine g_call (α := Nat) (fun b => .func (.func 33) #[] #[.pointer (some ⟨b, 0, none⟩)]) (fun b w' => ∃ w0, b = w0.heap.size ∧ St w [] [.smap Try.prog 9 b1 K m] w0 ∧ w' = w0.alloc (.cells #[.map (some b1)] 61)) rfl rfl rfl Try.call25 (fun w0 hS => (callsIn_wide.1 (Try.maps_Keys_25 (some b1) w0)).mono fun e w' ⟨he, hw⟩ => ⟨w0.heap.size, he, w0, rfl, hS, hw⟩) (fun bk => ?_)
    refine g_call (α := {x : Value × List ByteArray // filesR cs i.toNat x.2}) (fun x => x.1.1) (fun x => St w [] [.row 9 1 x.1.1 x.1.2.length (x.1.2.flatMap sC)]) rfl rfl rfl Try.call24 (fun w' hS' => ?_) (fun x => ?_)
    · obtain ⟨w0, rfl, hS, rfl⟩ := hS'
      obtain ⟨nn, D0, hown, hsz, hmem, hnd⟩ := smap_keys Try.underlying9 (hS.get (i := 0) rfl)
      refine (callsIn_wide.1 (Try.slices_Sorted_keys_24_25 b1 nn D0 anyR w0 hown (by omega) (by omega))).mono ?_
      rintro e w' ⟨v, ss, he, hperm, hrow, _, hbl⟩
      have hS2 := (hS.new 61 [.map (some b1)]).then (St.of_row hbl hrow)
      refine ⟨⟨(v, (ss.mergeSort fun x y => decide (x ≤ y)).map fun l => ⟨l.toArray⟩), files_sorted hm hperm hmem hnd⟩, he, ?_⟩
      dsimp only
      rw [flat_sC, List.length_map, List.length_mergeSort]
      exact hS2.sub (.cons_cons _ (.cons _ (.cons _ .slnil)))
    refine g_val rfl rfl rfl (y_assign rfl) ?_
    refine g_nil (g_then (g_ret ?_))
    refine g_end1 Try.results15 rfl ?_
    exact fun w hS => ⟨x, rfl, hS⟩

end Go.Proofs.Ytpacnggomjepdaa
