/- pattern.Parse, of texts without brackets, backslashes, anchors and braces. -/
import Derived.Test.YtpoelkfncpjmfaaPba
namespace Go.Proofs.Ytpoelkfncpjmfaa
open Go Go.RowKit

theorem g_end_cell2 {P : Program} {N : Nat} {R : Regs} {fn : Func} {Rr : Ending → World → Prop} {W0 : World} {F : List Nat} {L : List Ent} {t b n u : Nat} {ty t' : TypeId} {cs : List Value} {v : Value} (i : Nat) (hr : fn.results = #[.cell t ty, .tmp u]) (ht : R.lookup t = some (.pointer (some ⟨b, 0, none⟩))) (hu : R.lookup u = some v) (hi : L[i]? = some (.cells b t' cs))
    (ha : ∀ w, (isAgg ty).run P w = .ok true w) (hz : ∀ w, (sizeOf ty).run P w = .ok n w) (hn : cs.length = n) (h : ∀ w, St W0 F L w → Rr (.returned (.tuple #[.agg cs.toArray, v])) w) : G N R (St W0 F L) (bodyPost P fn Rr .ret) :=
  g_end (fun a w hR hS => by
    have e := run_row (P := P) (off := 0) (vs := cs) (hS.cells hi) ha hz (by rw [List.drop_zero, List.take_of_length_le (by omega)]) hn
    simp [results, hr, hR.getD ht, hR.getD hu, asAddr, e]) h
def zMT : MT := .mk 0 s0 0 0 0 nilS []
theorem tokB_len (c : UInt8) (ts : List Tok) (d : Int) : (tokB c ts d).1.length = ts.length + 1 := by unfold tokB; split <;> (try split) <;> (try split) <;> simp
theorem tokE_len (c : UInt8) (ts : List Tok) (d : Int) : (tokE c ts d).1.length = ts.length + 1 := by unfold tokE; (repeat' split) <;> simp
theorem tokF_len {f : UInt8 → List Tok → Int → List Tok × Int} (hf : ∀ c ts d, (f c ts d).1.length = ts.length + 1) : ∀ (l : List UInt8) (ts : List Tok) (d : Int) (ts' : List Tok), tokF f l ts d = some ts' → ts'.length = ts.length + l.length := by
  intro l
  induction l with
  | nil => intro ts d ts' h; simp only [tokF] at h; split at h; cases h; simp; cases h
  | cons c l ih =>
    intro ts d ts' h
    simp only [tokF] at h
    split at h
    · cases h
    · rw [ih _ _ _ h, hf, List.length_cons]; omega
def parR (f : UInt8 → List Tok → Int → List Tok × Int) (l0 : List UInt8) (x : MT × Int) : Prop :=
  (x = (zMT, 91) ∧ (l0 = [] ∨ 200 < l0.length ∨ tokF f l0 [] 0 = none ∨ ∃ ts t k g b, tokF f l0 [] 0 = some ts ∧ RAll ts 0 0 false t k g b ∧ (b = true ∨ k < ts.length))) ∨
  (x.2 = 0 ∧ ∃ ts k g, tokF f l0 [] 0 = some ts ∧ l0 ≠ [] ∧ l0.length ≤ 200 ∧ RAll ts 0 0 false x.1 k g false ∧ ts.length ≤ k)

set_option maxRecDepth 100000 in
theorem parse_b (l0 : List UInt8) (hok : ∀ c, c ∈ l0 → okC c) (w : World) :
    Calls Try.prog 9 #[st8 l0, .bool false] w fun e w' => ∃ x : {x : MT × Int // parR tokB l0 x}, e = .returned (.tuple #[.agg (nC x.1.1).toArray, .int .i64 x.1.2]) ∧ St w [] [.forest [x.1.1]] w' := by
  refine fn_intro Try.func9 rfl Try.ntmps9 rfl rfl ?_
  refine g_seq (g_ops ?_)
  refine g_alloc rfl rfl Try.zeroValue30 rfl (fun b1 => ?_)
  refine g_val rfl rfl rfl (y_assign rfl) ?_
  refine g_nil (g_then (g_seq ?_))
  have hsz := size_mk l0
  refine g_ops ?_
  refine g_val rfl rfl rfl (y_move rfl) ?_
  refine g_val rfl rfl rfl (y_move rfl) ?_
  refine g_val rfl rfl rfl (y_build (offs := [0, 1]) rfl Try.zeroValue50 (by kernel_rfl)) ?_
  refine g_box rfl rfl rfl rfl (fun b2 => ?_)
  refine g_val rfl rfl rfl (y_assign rfl) ?_
  refine g_nilRow 64 7 ?_
  refine g_nil (g_then (g_seq (g_seq (g_ops ?_))))
  refine g_val rfl rfl rfl (y_move rfl) ?_
  refine g_val rfl rfl rfl (y_seq rfl rfl) ?_
  refine g_val rfl rfl rfl (y_move rfl) ?_
  first | refine g_casep 15 rfl (fun h1 => ?_) (fun h1 => ?_) | refine g_caseb 15 rfl (fun h1 => ?_) (fun h1 => ?_)
  · skip
    refine g_not rfl rfl rfl ?_
    refine g_not rfl rfl rfl ?_
    refine g_not rfl rfl rfl ?_
    refine g_val rfl rfl rfl (y_pick_t rfl rfl) ?_
    refine g_val rfl rfl rfl (y_move rfl) ?_
    refine g_not rfl rfl rfl ?_
    refine g_not rfl rfl rfl ?_
    refine g_not rfl rfl rfl ?_
    refine g_val rfl rfl rfl (y_pick_t rfl rfl) ?_
    refine g_nil (g_then (g_cond_t rfl (g_seq ?_)))
    refine g_leaf 0 s0 0 0 0 ?_
    refine g_ops ?_
    refine g_val rfl rfl rfl (y_build (offs := []) rfl Try.zeroValue30 (by kernel_rfl)) ?_
    refine g_stN 3 rfl rfl rfl (by kernel_rfl) rfl rfl rfl rfl ?_
    simp only [List.set_cons_zero, List.set_cons_succ]
    refine g_val rfl rfl rfl (y_assign rfl) ?_
    refine g_nil (g_then (g_ret (g_then_ret ?_)))
    refine g_end_cell2 3 Try.results9 rfl rfl rfl Try.isAgg30 Try.sizeOf30 rfl ?_
    exact fun w hS => ⟨⟨(zMT, 91), .inl ⟨rfl, (by first | exact .inr (.inl (by omega)) | exact .inl (by have h := congrArg (fun b : ByteArray => b.data.toList) (show (⟨l0.toArray⟩ : ByteArray) = ⟨#[]⟩ by assumption); simpa using h))⟩⟩, rfl, hS.sub (.cons_cons _ (.cons _ (.cons _ (.cons _ .slnil))))⟩
  · skip
    refine g_val rfl rfl rfl (y_move rfl) ?_
    refine g_val rfl rfl rfl (y_slen rfl Try.underlying9) ?_
    refine g_val rfl rfl rfl (y_igt rfl rfl) ?_
    refine g_val rfl rfl rfl (y_pick_f rfl rfl) ?_
    refine g_val rfl rfl rfl (y_move rfl) ?_
    first | refine g_casep 20 rfl (fun h2 => ?_) (fun h2 => ?_) | refine g_caseb 20 rfl (fun h2 => ?_) (fun h2 => ?_)
    · skip
      refine g_not rfl rfl rfl ?_
      refine g_not rfl rfl rfl ?_
      refine g_not rfl rfl rfl ?_
      refine g_val rfl rfl rfl (y_pick_t rfl rfl) ?_
      refine g_nil (g_then (g_cond_t rfl (g_seq ?_)))
      refine g_leaf 0 s0 0 0 0 ?_
      refine g_ops ?_
      refine g_val rfl rfl rfl (y_build (offs := []) rfl Try.zeroValue30 (by kernel_rfl)) ?_
      refine g_stN 3 rfl rfl rfl (by kernel_rfl) rfl rfl rfl rfl ?_
      simp only [List.set_cons_zero, List.set_cons_succ]
      refine g_val rfl rfl rfl (y_assign rfl) ?_
      refine g_nil (g_then (g_ret (g_then_ret ?_)))
      refine g_end_cell2 3 Try.results9 rfl rfl rfl Try.isAgg30 Try.sizeOf30 rfl ?_
      exact fun w hS => ⟨⟨(zMT, 91), .inl ⟨rfl, (by first | exact .inr (.inl (by omega)) | exact .inl (by have h := congrArg (fun b : ByteArray => b.data.toList) (show (⟨l0.toArray⟩ : ByteArray) = ⟨#[]⟩ by assumption); simpa using h))⟩⟩, rfl, hS.sub (.cons_cons _ (.cons _ (.cons _ (.cons _ .slnil))))⟩
    · skip
      refine g_val rfl rfl rfl (y_move rfl) ?_
      refine g_perm (.swap _ _ _) ?_
      refine g_callOwn (L0 := [.cells b2 50 [st8 l0, .bool false, .slice none 0 0, .int .i64 0], .row 64 7 (.slice none 0 0) ([] : List Tok).length (([] : List Tok).flatMap tC)]) (fun _ : {x : Value × List UInt8 × List Tok × Int // ∀ ts, tokF tokB l0 [] 0 = some ts → x.2.2.1 = ts} => .bool (tokF tokB l0 [] 0).isSome) (fun x => [.cells b2 50 [st8 x.1.2.1, .bool false, x.1.1, .int .i64 x.1.2.2.2], .row 64 7 x.1.1 x.1.2.2.1.length (x.1.2.2.1.flatMap tC)]) rfl rfl rfl Try.call17 (fun w hS => tokens_b b2 l0 _ hok (by omega) _ w hS.part) ?_
      rintro ⟨⟨vt, rest, ts, dx⟩, htk⟩
      dsimp only at htk
      simp only [List.cons_append, List.nil_append]
      refine g_val rfl rfl rfl ((by first | exact y_notp rfl | exact y_not rfl)) ?_
      refine g_val rfl rfl rfl (y_pick_f rfl rfl) ?_
      refine g_nil (g_then ?_)
      first | refine g_casep 24 rfl (fun h3 => ?_) (fun h3 => ?_) | refine g_caseb 24 rfl (fun h3 => ?_) (fun h3 => ?_)
      · skip
        refine g_cond_t rfl (g_seq ?_)
        refine g_leaf 0 s0 0 0 0 ?_
        refine g_ops ?_
        refine g_val rfl rfl rfl (y_build (offs := []) rfl Try.zeroValue30 (by kernel_rfl)) ?_
        refine g_stN 3 rfl rfl rfl (by kernel_rfl) rfl rfl rfl rfl ?_
        simp only [List.set_cons_zero, List.set_cons_succ]
        refine g_val rfl rfl rfl (y_assign rfl) ?_
        refine g_nil (g_then (g_ret (g_then_ret ?_)))
        refine g_end_cell2 3 Try.results9 rfl rfl rfl Try.isAgg30 Try.sizeOf30 rfl ?_
        exact fun w hS => ⟨⟨(zMT, 91), .inl ⟨rfl, .inr (.inr (.inl (by simpa using ‹(!(tokF tokB l0 [] 0).isSome) = true›)))⟩⟩, rfl, hS.sub (.cons_cons _ (.cons _ (.cons _ (.cons _ .slnil))))⟩
      · skip
        refine g_cond_f rfl (g_skip (g_then (g_seq ?_)))
        obtain ⟨ts0, hts0⟩ := Option.isSome_iff_exists.1 (show (tokF tokB l0 [] 0).isSome = true by simpa using ‹(!(tokF tokB l0 [] 0).isSome) = false›)
        obtain rfl : ts = ts0 := htk ts0 hts0
        have hlen := tokF_len tokB_len l0 [] 0 ts hts0
        simp only [List.length_nil, Nat.zero_add] at hlen
        have hne : 0 < l0.length := List.length_pos_iff.2 (fun q => by subst q; exact absurd rfl ‹¬ _ = _›)
        refine g_rowCase 1 rfl (by omega) (fun gr4 cr4 hv4 => ?_)
        cases hv4
        refine g_rowCap 1 rfl (fun hcap => ?_)
        refine g_ops ?_
        refine g_val rfl rfl rfl (y_move rfl) ?_
        refine g_val rfl rfl rfl (y_nilCheck rfl) ?_
        refine g_val rfl rfl rfl (y_fieldAddr (k := 2) (m := 2) rfl (by kernel_rfl) rfl) ?_
        refine g_val rfl rfl rfl (y_ld 0 rfl Try.isAgg48 rfl rfl) ?_
        refine g_val rfl rfl rfl (y_build (offs := [0]) rfl Try.zeroValue53 (by kernel_rfl)) ?_
        refine g_box rfl rfl rfl rfl (fun b3 => ?_)
        refine g_val rfl rfl rfl (y_assign rfl) ?_
        refine g_nil (g_then (g_seq (g_ops ?_)))
        refine g_val rfl rfl rfl (y_move rfl) ?_
        refine g_perm (.cons _ (.swap _ _ _)) ?_
        refine g_callOwn (L0 := [PEnt b3 gr4 ts 0 0 false 0 cr4, TEnt gr4 cr4 ts]) (fun x : {x : PX // RAll ts 0 0 false x.t x.k x.g x.b ∧ Pos ts x.k x.off x.c ∧ GB x.g x.b ∧ 0 ≤ x.k} => .agg (nC x.1.t).toArray) (fun x => [PEnt b3 gr4 ts x.1.k x.1.g x.1.b x.1.off x.1.c, TEnt gr4 cr4 ts, .forest [x.1.t]]) rfl rfl rfl Try.call18 (fun w hS => all_ok (ts.length + 1) b3 gr4 cr4 0 0 cr4 ts 0 false _ w trivial ⟨Nat.zero_le _, fun _ => rfl, hcap⟩ ⟨by decide, by decide, fun _ => by decide⟩ (by omega) (by omega) hS.part) ?_
        rintro ⟨⟨⟨nk, ns, nm, nx, nu, nv, nq⟩, k1, g1, b1, off1, c1⟩, hr, hpos1, hgb1, hk1⟩
        dsimp only at hr hpos1 hgb1 hk1
        simp only [List.cons_append, List.nil_append]
        refine g_kids 2 rfl (fun pv cv hv => ?_)
        cases hv
        refine g_alloc rfl rfl Try.zeroValue30 rfl (fun b4 => ?_)
        refine g_stN 0 rfl rfl rfl (by kernel_rfl) rfl rfl rfl rfl ?_
        simp only [List.set_cons_zero]
        refine g_nil (g_then (g_seq (g_seq (g_ops ?_))))
        refine g_val rfl rfl rfl (y_move rfl) ?_
        refine g_val rfl rfl rfl (y_nilCheck rfl) ?_
        refine g_val rfl rfl rfl (y_fieldAddr (k := 2) (m := 2) rfl (by kernel_rfl) rfl) ?_
        refine g_val rfl rfl rfl (y_ld 1 rfl Try.isAgg4 rfl rfl) ?_
        refine g_val rfl rfl rfl (y_move rfl) ?_
        first | refine g_casep 38 rfl (fun h5 => ?_) (fun h5 => ?_) | refine g_caseb 38 rfl (fun h5 => ?_) (fun h5 => ?_)
        · skip
          refine g_not rfl rfl rfl ?_
          refine g_not rfl rfl rfl ?_
          refine g_not rfl rfl rfl ?_
          refine g_not rfl rfl rfl ?_
          refine g_not rfl rfl rfl ?_
          refine g_not rfl rfl rfl ?_
          refine g_val rfl rfl rfl (y_pick_t rfl rfl) ?_
          refine g_nil (g_then (g_cond_t rfl (g_seq ?_)))
          refine g_leaf 0 s0 0 0 0 ?_
          refine g_ops ?_
          refine g_val rfl rfl rfl (y_build (offs := []) rfl Try.zeroValue30 (by kernel_rfl)) ?_
          refine g_stN 6 rfl rfl rfl (by kernel_rfl) rfl rfl rfl rfl ?_
          simp only [List.set_cons_zero, List.set_cons_succ]
          refine g_val rfl rfl rfl (y_assign rfl) ?_
          refine g_nil (g_then (g_ret (g_then_ret ?_)))
          refine g_end_cell2 6 Try.results9 rfl rfl rfl Try.isAgg30 Try.sizeOf30 rfl ?_
          exact fun w hS => ⟨⟨(zMT, 91), .inl ⟨rfl, .inr (.inr (.inr ⟨ts, _, k1, g1, b1, hts0, hr, by first | exact .inl (by assumption) | exact .inr (by omega)⟩))⟩⟩, rfl, hS.sub (.cons_cons _ (.cons _ (.cons _ (.cons _ (.cons _ (.cons _ (.cons _ .slnil)))))))⟩
        · skip
          refine g_val rfl rfl rfl (y_move rfl) ?_
          refine g_val rfl rfl rfl (y_nilCheck rfl) ?_
          refine g_val rfl rfl rfl (y_fieldAddr (k := 0) (m := 0) rfl (by kernel_rfl) rfl) ?_
          refine g_val rfl rfl rfl (y_ld 1 rfl Try.isAgg48 rfl rfl) ?_
          refine g_val rfl rfl rfl (y_llen rfl Try.underlying48) ?_
          refine g_val rfl rfl rfl (y_igt rfl rfl) ?_
          refine g_val rfl rfl rfl (y_pick_f rfl rfl) ?_
          refine g_nil (g_then ?_)
          first | refine g_casep 45 rfl (fun h6 => ?_) (fun h6 => ?_) | refine g_caseb 45 rfl (fun h6 => ?_) (fun h6 => ?_)
          · skip
            refine g_cond_t rfl (g_seq ?_)
            refine g_leaf 0 s0 0 0 0 ?_
            refine g_ops ?_
            refine g_val rfl rfl rfl (y_build (offs := []) rfl Try.zeroValue30 (by kernel_rfl)) ?_
            refine g_stN 6 rfl rfl rfl (by kernel_rfl) rfl rfl rfl rfl ?_
            simp only [List.set_cons_zero, List.set_cons_succ]
            refine g_val rfl rfl rfl (y_assign rfl) ?_
            refine g_nil (g_then (g_ret (g_then_ret ?_)))
            refine g_end_cell2 6 Try.results9 rfl rfl rfl Try.isAgg30 Try.sizeOf30 rfl ?_
            exact fun w hS => ⟨⟨(zMT, 91), .inl ⟨rfl, .inr (.inr (.inr ⟨ts, _, k1, g1, b1, hts0, hr, by first | exact .inl (by assumption) | exact .inr (by omega)⟩))⟩⟩, rfl, hS.sub (.cons_cons _ (.cons _ (.cons _ (.cons _ (.cons _ (.cons _ (.cons _ .slnil)))))))⟩
          · skip
            refine g_cond_f rfl (g_skip (g_then (g_seq (g_ops ?_))))
            refine g_val rfl rfl rfl (y_ldN 0 rfl Try.isAgg30 Try.sizeOf30 rfl rfl rfl) ?_
            refine g_stN 5 rfl rfl rfl (by kernel_rfl) rfl rfl rfl rfl ?_
            simp only [List.set_cons_zero, List.set_cons_succ]
            refine g_val rfl rfl rfl (y_assign rfl) ?_
            refine g_nil (g_then (g_ret ?_))
            refine g_end_cell2 5 Try.results9 rfl rfl rfl Try.isAgg30 Try.sizeOf30 rfl ?_
            have hbb : b1 = false := by assumption
            subst hbb
            exact fun w hS => ⟨⟨(.mk nk ns nm nx nu _ nq, 0), .inr ⟨rfl, ts, k1, g1, hts0, List.length_pos_iff.1 hne, by omega, hr, by omega⟩⟩, rfl, hS.sub (.cons _ (.cons _ (.cons _ (.cons_cons _ (.cons _ (.cons _ .slnil))))))⟩

set_option maxRecDepth 100000 in
theorem parse_e (l0 : List UInt8) (hok : ∀ c, c ∈ l0 → okC c) (w : World) :
    Calls Try.prog 9 #[st8 l0, .bool true] w fun e w' => ∃ x : {x : MT × Int // parR tokE l0 x}, e = .returned (.tuple #[.agg (nC x.1.1).toArray, .int .i64 x.1.2]) ∧ St w [] [.forest [x.1.1]] w' := by
  refine fn_intro Try.func9 rfl Try.ntmps9 rfl rfl ?_
  refine g_seq (g_ops ?_)
  refine g_alloc rfl rfl Try.zeroValue30 rfl (fun b1 => ?_)
  refine g_val rfl rfl rfl (y_assign rfl) ?_
  refine g_nil (g_then (g_seq ?_))
  have hsz := size_mk l0
  refine g_ops ?_
  refine g_val rfl rfl rfl (y_move rfl) ?_
  refine g_val rfl rfl rfl (y_move rfl) ?_
  refine g_val rfl rfl rfl (y_build (offs := [0, 1]) rfl Try.zeroValue50 (by kernel_rfl)) ?_
  refine g_box rfl rfl rfl rfl (fun b2 => ?_)
  refine g_val rfl rfl rfl (y_assign rfl) ?_
  refine g_nilRow 64 7 ?_
  refine g_nil (g_then (g_seq (g_seq (g_ops ?_))))
  refine g_val rfl rfl rfl (y_move rfl) ?_
  refine g_val rfl rfl rfl (y_seq rfl rfl) ?_
  refine g_val rfl rfl rfl (y_move rfl) ?_
  first | refine g_casep 15 rfl (fun h1 => ?_) (fun h1 => ?_) | refine g_caseb 15 rfl (fun h1 => ?_) (fun h1 => ?_)
  · skip
    refine g_not rfl rfl rfl ?_
    refine g_not rfl rfl rfl ?_
    refine g_not rfl rfl rfl ?_
    refine g_val rfl rfl rfl (y_pick_t rfl rfl) ?_
    refine g_val rfl rfl rfl (y_move rfl) ?_
    refine g_not rfl rfl rfl ?_
    refine g_not rfl rfl rfl ?_
    refine g_not rfl rfl rfl ?_
    refine g_val rfl rfl rfl (y_pick_t rfl rfl) ?_
    refine g_nil (g_then (g_cond_t rfl (g_seq ?_)))
    refine g_leaf 0 s0 0 0 0 ?_
    refine g_ops ?_
    refine g_val rfl rfl rfl (y_build (offs := []) rfl Try.zeroValue30 (by kernel_rfl)) ?_
    refine g_stN 3 rfl rfl rfl (by kernel_rfl) rfl rfl rfl rfl ?_
    simp only [List.set_cons_zero, List.set_cons_succ]
    refine g_val rfl rfl rfl (y_assign rfl) ?_
    refine g_nil (g_then (g_ret (g_then_ret ?_)))
    refine g_end_cell2 3 Try.results9 rfl rfl rfl Try.isAgg30 Try.sizeOf30 rfl ?_
    exact fun w hS => ⟨⟨(zMT, 91), .inl ⟨rfl, (by first | exact .inr (.inl (by omega)) | exact .inl (by have h := congrArg (fun b : ByteArray => b.data.toList) (show (⟨l0.toArray⟩ : ByteArray) = ⟨#[]⟩ by assumption); simpa using h))⟩⟩, rfl, hS.sub (.cons_cons _ (.cons _ (.cons _ (.cons _ .slnil))))⟩
  · skip
    refine g_val rfl rfl rfl (y_move rfl) ?_
    refine g_val rfl rfl rfl (y_slen rfl Try.underlying9) ?_
    refine g_val rfl rfl rfl (y_igt rfl rfl) ?_
    refine g_val rfl rfl rfl (y_pick_f rfl rfl) ?_
    refine g_val rfl rfl rfl (y_move rfl) ?_
    first | refine g_casep 20 rfl (fun h2 => ?_) (fun h2 => ?_) | refine g_caseb 20 rfl (fun h2 => ?_) (fun h2 => ?_)
    · skip
      refine g_not rfl rfl rfl ?_
      refine g_not rfl rfl rfl ?_
      refine g_not rfl rfl rfl ?_
      refine g_val rfl rfl rfl (y_pick_t rfl rfl) ?_
      refine g_nil (g_then (g_cond_t rfl (g_seq ?_)))
      refine g_leaf 0 s0 0 0 0 ?_
      refine g_ops ?_
      refine g_val rfl rfl rfl (y_build (offs := []) rfl Try.zeroValue30 (by kernel_rfl)) ?_
      refine g_stN 3 rfl rfl rfl (by kernel_rfl) rfl rfl rfl rfl ?_
      simp only [List.set_cons_zero, List.set_cons_succ]
      refine g_val rfl rfl rfl (y_assign rfl) ?_
      refine g_nil (g_then (g_ret (g_then_ret ?_)))
      refine g_end_cell2 3 Try.results9 rfl rfl rfl Try.isAgg30 Try.sizeOf30 rfl ?_
      exact fun w hS => ⟨⟨(zMT, 91), .inl ⟨rfl, (by first | exact .inr (.inl (by omega)) | exact .inl (by have h := congrArg (fun b : ByteArray => b.data.toList) (show (⟨l0.toArray⟩ : ByteArray) = ⟨#[]⟩ by assumption); simpa using h))⟩⟩, rfl, hS.sub (.cons_cons _ (.cons _ (.cons _ (.cons _ .slnil))))⟩
    · skip
      refine g_val rfl rfl rfl (y_move rfl) ?_
      refine g_perm (.swap _ _ _) ?_
      refine g_callOwn (L0 := [.cells b2 50 [st8 l0, .bool true, .slice none 0 0, .int .i64 0], .row 64 7 (.slice none 0 0) ([] : List Tok).length (([] : List Tok).flatMap tC)]) (fun _ : {x : Value × List UInt8 × List Tok × Int // ∀ ts, tokF tokE l0 [] 0 = some ts → x.2.2.1 = ts} => .bool (tokF tokE l0 [] 0).isSome) (fun x => [.cells b2 50 [st8 x.1.2.1, .bool true, x.1.1, .int .i64 x.1.2.2.2], .row 64 7 x.1.1 x.1.2.2.1.length (x.1.2.2.1.flatMap tC)]) rfl rfl rfl Try.call17 (fun w hS => tokens_e b2 l0 _ hok (by omega) _ w hS.part) ?_
      rintro ⟨⟨vt, rest, ts, dx⟩, htk⟩
      dsimp only at htk
      simp only [List.cons_append, List.nil_append]
      refine g_val rfl rfl rfl ((by first | exact y_notp rfl | exact y_not rfl)) ?_
      refine g_val rfl rfl rfl (y_pick_f rfl rfl) ?_
      refine g_nil (g_then ?_)
      first | refine g_casep 24 rfl (fun h3 => ?_) (fun h3 => ?_) | refine g_caseb 24 rfl (fun h3 => ?_) (fun h3 => ?_)
      · skip
        refine g_cond_t rfl (g_seq ?_)
        refine g_leaf 0 s0 0 0 0 ?_
        refine g_ops ?_
        refine g_val rfl rfl rfl (y_build (offs := []) rfl Try.zeroValue30 (by kernel_rfl)) ?_
        refine g_stN 3 rfl rfl rfl (by kernel_rfl) rfl rfl rfl rfl ?_
        simp only [List.set_cons_zero, List.set_cons_succ]
        refine g_val rfl rfl rfl (y_assign rfl) ?_
        refine g_nil (g_then (g_ret (g_then_ret ?_)))
        refine g_end_cell2 3 Try.results9 rfl rfl rfl Try.isAgg30 Try.sizeOf30 rfl ?_
        exact fun w hS => ⟨⟨(zMT, 91), .inl ⟨rfl, .inr (.inr (.inl (by simpa using ‹(!(tokF tokE l0 [] 0).isSome) = true›)))⟩⟩, rfl, hS.sub (.cons_cons _ (.cons _ (.cons _ (.cons _ .slnil))))⟩
      · skip
        refine g_cond_f rfl (g_skip (g_then (g_seq ?_)))
        obtain ⟨ts0, hts0⟩ := Option.isSome_iff_exists.1 (show (tokF tokE l0 [] 0).isSome = true by simpa using ‹(!(tokF tokE l0 [] 0).isSome) = false›)
        obtain rfl : ts = ts0 := htk ts0 hts0
        have hlen := tokF_len tokE_len l0 [] 0 ts hts0
        simp only [List.length_nil, Nat.zero_add] at hlen
        have hne : 0 < l0.length := List.length_pos_iff.2 (fun q => by subst q; exact absurd rfl ‹¬ _ = _›)
        refine g_rowCase 1 rfl (by omega) (fun gr4 cr4 hv4 => ?_)
        cases hv4
        refine g_rowCap 1 rfl (fun hcap => ?_)
        refine g_ops ?_
        refine g_val rfl rfl rfl (y_move rfl) ?_
        refine g_val rfl rfl rfl (y_nilCheck rfl) ?_
        refine g_val rfl rfl rfl (y_fieldAddr (k := 2) (m := 2) rfl (by kernel_rfl) rfl) ?_
        refine g_val rfl rfl rfl (y_ld 0 rfl Try.isAgg48 rfl rfl) ?_
        refine g_val rfl rfl rfl (y_build (offs := [0]) rfl Try.zeroValue53 (by kernel_rfl)) ?_
        refine g_box rfl rfl rfl rfl (fun b3 => ?_)
        refine g_val rfl rfl rfl (y_assign rfl) ?_
        refine g_nil (g_then (g_seq (g_ops ?_)))
        refine g_val rfl rfl rfl (y_move rfl) ?_
        refine g_perm (.cons _ (.swap _ _ _)) ?_
        refine g_callOwn (L0 := [PEnt b3 gr4 ts 0 0 false 0 cr4, TEnt gr4 cr4 ts]) (fun x : {x : PX // RAll ts 0 0 false x.t x.k x.g x.b ∧ Pos ts x.k x.off x.c ∧ GB x.g x.b ∧ 0 ≤ x.k} => .agg (nC x.1.t).toArray) (fun x => [PEnt b3 gr4 ts x.1.k x.1.g x.1.b x.1.off x.1.c, TEnt gr4 cr4 ts, .forest [x.1.t]]) rfl rfl rfl Try.call18 (fun w hS => all_ok (ts.length + 1) b3 gr4 cr4 0 0 cr4 ts 0 false _ w trivial ⟨Nat.zero_le _, fun _ => rfl, hcap⟩ ⟨by decide, by decide, fun _ => by decide⟩ (by omega) (by omega) hS.part) ?_
        rintro ⟨⟨⟨nk, ns, nm, nx, nu, nv, nq⟩, k1, g1, b1, off1, c1⟩, hr, hpos1, hgb1, hk1⟩
        dsimp only at hr hpos1 hgb1 hk1
        simp only [List.cons_append, List.nil_append]
        refine g_kids 2 rfl (fun pv cv hv => ?_)
        cases hv
        refine g_alloc rfl rfl Try.zeroValue30 rfl (fun b4 => ?_)
        refine g_stN 0 rfl rfl rfl (by kernel_rfl) rfl rfl rfl rfl ?_
        simp only [List.set_cons_zero]
        refine g_nil (g_then (g_seq (g_seq (g_ops ?_))))
        refine g_val rfl rfl rfl (y_move rfl) ?_
        refine g_val rfl rfl rfl (y_nilCheck rfl) ?_
        refine g_val rfl rfl rfl (y_fieldAddr (k := 2) (m := 2) rfl (by kernel_rfl) rfl) ?_
        refine g_val rfl rfl rfl (y_ld 1 rfl Try.isAgg4 rfl rfl) ?_
        refine g_val rfl rfl rfl (y_move rfl) ?_
        first | refine g_casep 38 rfl (fun h5 => ?_) (fun h5 => ?_) | refine g_caseb 38 rfl (fun h5 => ?_) (fun h5 => ?_)
        · skip
          refine g_not rfl rfl rfl ?_
          refine g_not rfl rfl rfl ?_
          refine g_not rfl rfl rfl ?_
          refine g_not rfl rfl rfl ?_
          refine g_not rfl rfl rfl ?_
          refine g_not rfl rfl rfl ?_
          refine g_val rfl rfl rfl (y_pick_t rfl rfl) ?_
          refine g_nil (g_then (g_cond_t rfl (g_seq ?_)))
          refine g_leaf 0 s0 0 0 0 ?_
          refine g_ops ?_
          refine g_val rfl rfl rfl (y_build (offs := []) rfl Try.zeroValue30 (by kernel_rfl)) ?_
          refine g_stN 6 rfl rfl rfl (by kernel_rfl) rfl rfl rfl rfl ?_
          simp only [List.set_cons_zero, List.set_cons_succ]
          refine g_val rfl rfl rfl (y_assign rfl) ?_
          refine g_nil (g_then (g_ret (g_then_ret ?_)))
          refine g_end_cell2 6 Try.results9 rfl rfl rfl Try.isAgg30 Try.sizeOf30 rfl ?_
          exact fun w hS => ⟨⟨(zMT, 91), .inl ⟨rfl, .inr (.inr (.inr ⟨ts, _, k1, g1, b1, hts0, hr, by first | exact .inl (by assumption) | exact .inr (by omega)⟩))⟩⟩, rfl, hS.sub (.cons_cons _ (.cons _ (.cons _ (.cons _ (.cons _ (.cons _ (.cons _ .slnil)))))))⟩
        · skip
          refine g_val rfl rfl rfl (y_move rfl) ?_
          refine g_val rfl rfl rfl (y_nilCheck rfl) ?_
          refine g_val rfl rfl rfl (y_fieldAddr (k := 0) (m := 0) rfl (by kernel_rfl) rfl) ?_
          refine g_val rfl rfl rfl (y_ld 1 rfl Try.isAgg48 rfl rfl) ?_
          refine g_val rfl rfl rfl (y_llen rfl Try.underlying48) ?_
          refine g_val rfl rfl rfl (y_igt rfl rfl) ?_
          refine g_val rfl rfl rfl (y_pick_f rfl rfl) ?_
          refine g_nil (g_then ?_)
          first | refine g_casep 45 rfl (fun h6 => ?_) (fun h6 => ?_) | refine g_caseb 45 rfl (fun h6 => ?_) (fun h6 => ?_)
          · skip
            refine g_cond_t rfl (g_seq ?_)
            refine g_leaf 0 s0 0 0 0 ?_
            refine g_ops ?_
            refine g_val rfl rfl rfl (y_build (offs := []) rfl Try.zeroValue30 (by kernel_rfl)) ?_
            refine g_stN 6 rfl rfl rfl (by kernel_rfl) rfl rfl rfl rfl ?_
            simp only [List.set_cons_zero, List.set_cons_succ]
            refine g_val rfl rfl rfl (y_assign rfl) ?_
            refine g_nil (g_then (g_ret (g_then_ret ?_)))
            refine g_end_cell2 6 Try.results9 rfl rfl rfl Try.isAgg30 Try.sizeOf30 rfl ?_
            exact fun w hS => ⟨⟨(zMT, 91), .inl ⟨rfl, .inr (.inr (.inr ⟨ts, _, k1, g1, b1, hts0, hr, by first | exact .inl (by assumption) | exact .inr (by omega)⟩))⟩⟩, rfl, hS.sub (.cons_cons _ (.cons _ (.cons _ (.cons _ (.cons _ (.cons _ (.cons _ .slnil)))))))⟩
          · skip
            refine g_cond_f rfl (g_skip (g_then (g_seq (g_ops ?_))))
            refine g_val rfl rfl rfl (y_ldN 0 rfl Try.isAgg30 Try.sizeOf30 rfl rfl rfl) ?_
            refine g_stN 5 rfl rfl rfl (by kernel_rfl) rfl rfl rfl rfl ?_
            simp only [List.set_cons_zero, List.set_cons_succ]
            refine g_val rfl rfl rfl (y_assign rfl) ?_
            refine g_nil (g_then (g_ret ?_))
            refine g_end_cell2 5 Try.results9 rfl rfl rfl Try.isAgg30 Try.sizeOf30 rfl ?_
            have hbb : b1 = false := by assumption
            subst hbb
            exact fun w hS => ⟨⟨(.mk nk ns nm nx nu _ nq, 0), .inr ⟨rfl, ts, k1, g1, hts0, List.length_pos_iff.1 hne, by omega, hr, by omega⟩⟩, rfl, hS.sub (.cons _ (.cons _ (.cons _ (.cons_cons _ (.cons _ (.cons _ .slnil))))))⟩

end Go.Proofs.Ytpoelkfncpjmfaa
