/- class.Bracket: a set and a place, or none. -/
import Derived.Test.YtpoelkfncpjmfaaPbg
namespace Go.Proofs.Ytpoelkfncpjmfaa
open Go Go.RowKit

theorem st8_drop (k : Nat) (l : List UInt8) : (⟨l.toArray⟩ : ByteArray).extract k (⟨l.toArray⟩ : ByteArray).size = ⟨(l.drop k).toArray⟩ := by
  apply ByteArray.ext
  rw [ByteArray.data_extract]
  apply Array.ext'
  rw [Array.toList_extract]
  show (l.drop k).take (l.toArray.size - k) = (l.drop k).toArray.toList
  simp only [List.size_toArray]
  exact List.take_of_length_le (by rw [List.length_drop]; omega)
theorem hasP_len {s p : List UInt8} (h : Lib.hasPrefix s p = true) : p.length ≤ s.length := (List.isPrefixOf_iff_prefix.1 h).length_le
theorem cut2_len (s p : List UInt8) : (Lib.cut s p).2.1.length ≤ s.length := by
  unfold Lib.cut
  split <;> simp
theorem hasPrefix8 (s p : List UInt8) (w : World) : Calls Try.prog 35 #[st8 s, .string ⟨p.toArray⟩] w fun e w' => e = .returned (.bool (Lib.hasPrefix s p)) ∧ Below w.heap.size w w' := by
  have := hasPrefix_any ⟨s.toArray⟩ ⟨p.toArray⟩ w
  simpa [st8] using this
theorem cutPrefix8 (s p : List UInt8) (w : World) : Calls Try.prog 34 #[st8 s, .string ⟨p.toArray⟩] w fun e w' => e = .returned (.tuple #[st8 (Lib.trimPrefix s p), .bool (Lib.hasPrefix s p)]) ∧ Below w.heap.size w w' := by
  exact (Try.strings_CutPrefix ⟨s.toArray⟩ ⟨p.toArray⟩ w).mono fun e w' ⟨he, hw⟩ => ⟨by rw [he]; rfl, hw ▸ Below.refl _ _⟩
theorem cut8 (s p : List UInt8) (hs : s.length < 4294967281) (w : World) (hz : MaxHere w) : Calls Try.prog 36 #[st8 s, .string ⟨p.toArray⟩] w fun e w' => e = .returned (.tuple #[st8 (Lib.cut s p).1, st8 (Lib.cut s p).2.1, .bool (Lib.cut s p).2.2]) ∧ Below w.heap.size w w' := by
  obtain ⟨m, hm⟩ := hz
  exact (Try.strings_Cut ⟨s.toArray⟩ ⟨p.toArray⟩ m w (by rw [size_mk]; exact hs) hm).mono fun e w' ⟨he, n, hw⟩ => ⟨by rw [he]; rfl, by rw [hw]; exact ⟨rfl, rfl, rfl, Nat.le_refl _, fun _ _ => rfl⟩⟩

set_option maxRecDepth 100000 in
theorem bracket_any (l : List UInt8) (hl : l.length ≤ 400) (w : World) (hz : MaxHere w) :
    Calls Try.prog 22 #[st8 l] w fun e w' => ∃ x : {x : (Nat → Int) × Int × Int // x.2.2 = 0 → 0 ≤ x.2.1 ∧ x.2.1 ≤ l.length}, e = .returned (.tuple #[.agg (s4C x.1.1).toArray, .int .i64 x.1.2.1, .int .i64 x.1.2.2]) ∧ Below w.heap.size w w' := by
 have hszl := size_mk l
 refine fn_intro Try.func22 rfl Try.ntmps22 rfl rfl ?_
 refine s_ (o_ ?_)
 refine g_alloc rfl rfl Try.zeroValue27 rfl (fun b1 => ?_)
 refine xg 2 [] rfl rfl ?_
 refine n_ (t_ ?_)
 refine g_scope_falls (α := ({x : (Nat → Int) × (Nat → Int) × List UInt8 × Bool × Bool × Nat × Nat // x.2.2.1.length ≤ l.length}) ⊕ (({x : (Nat → Int) × (Nat → Int) × List UInt8 × Bool × Nat × Nat // x.2.2.1.length ≤ l.length}) ⊕ (Unit))) (fun z => match z with | (.inl x) => [(0, st8 l), (2, .pointer (some ⟨b1, 0, none⟩)), (3, .int .i64 0), (4, .int .i64 0), (5, .pointer (some ⟨x.1.2.2.2.2.2.1, 0, none⟩)), (6, .pointer (some ⟨x.1.2.2.2.2.2.2, 0, none⟩)), (7, st8 x.1.2.2.1), (8, .bool x.1.2.2.2.1), (9, .bool x.1.2.2.2.2.1)] | (.inr (.inl x)) => [(0, st8 l), (2, .pointer (some ⟨b1, 0, none⟩)), (3, .int .i64 0), (4, .int .i64 0), (5, .pointer (some ⟨x.1.2.2.2.2.1, 0, none⟩)), (6, .pointer (some ⟨x.1.2.2.2.2.2, 0, none⟩)), (7, st8 x.1.2.2.1), (8, .bool x.1.2.2.2.1)] | (.inr (.inr x)) => [(2, .pointer (some ⟨b1, 0, none⟩)), (3, .int .i64 0), (4, .int .i64 0)]) (fun z => match z with | (.inl x) => St w [] [.cells x.1.2.2.2.2.2.2 27 (s4C x.1.2.1), .cells x.1.2.2.2.2.2.1 27 (s4C x.1.1), .cells b1 27 (s4C s0)] | (.inr (.inl x)) => St w [] [.cells x.1.2.2.2.2.2 27 (s4C x.1.2.1), .cells x.1.2.2.2.2.1 27 (s4C x.1.1), .cells b1 27 (s4C s0)] | (.inr (.inr x)) => St w [] [.cells b1 27 (s4C s0)]) (fun z => match z with | (.inl x) => 2 | (.inr (.inl x)) => 1 | (.inr (.inr x)) => 0) (fun z => match z with | (.inl x) => 3 * x.1.2.2.1.length + 1 | (.inr (.inl x)) => 3 * x.1.2.2.1.length + 2 | (.inr (.inr x)) => 0) ?_ ?_
 ·rintro (x | x | x)
  ·refine ⟨_, rfl, ?_⟩
   dsimp only
   obtain ⟨⟨s, sm, t, turned, first, b2, b3⟩, hx⟩ := x
   dsimp only at hx ⊢
   have hszt := size_mk t
   refine s_ (s_ (o_ ?_))
   refine xg 1 [] rfl rfl ?_
   refine g_call1 rfl rfl rfl Try.call35 (fun w hS => hasPrefix8 t [91, 58] w) ?_
   refine n_ (t_ ?_)
   first | refine g_casep 20 rfl (fun h1 => ?_) fun h1 => ?_ | refine g_caseb 20 rfl (fun h1 => ?_) fun h1 => ?_
   ·refine g_cond_t rfl (s_ ?_)
    have h2t := hasP_len (s := t) (p := [91, 58]) (by assumption)
    have hcut := cut2_len (t.drop 2) [58, 93]
    rw [List.length_drop] at hcut
    simp only [List.length_cons, List.length_nil] at h2t
    refine o_ ?_
    refine xg 1 [] rfl rfl ?_
    refine g_val (v := st8 (t.drop 2)) rfl rfl rfl (y_val (y_sfrom (l := 2) rfl rfl Try.underlying9 (by rw [size_mk]; omega)) (by rw [st8_drop]; rfl)) ?_
    refine g_call1 rfl rfl rfl Try.call36 (fun w hS => cut8 (t.drop 2) [58, 93] (by rw [List.length_drop]; omega) w (hS.maxHere hz (by simp))) ?_
    refine xg 1 [] rfl rfl ?_
    refine g_val (v := st8 (Lib.cut (t.drop 2) [58, 93]).1) rfl rfl rfl (y_extract rfl rfl) ?_
    refine g_val (v := st8 (Lib.cut (t.drop 2) [58, 93]).2.1) rfl rfl rfl (y_extract rfl rfl) ?_
    refine g_val (v := .bool (Lib.cut (t.drop 2) [58, 93]).2.2) rfl rfl rfl (y_extract rfl rfl) ?_
    refine xg 3 [] rfl rfl ?_
    refine ntso_ ?_
    refine xg 1 [] rfl rfl ?_
    refine n_ (t_ (s_ (s_ (o_ ?_))))
    refine xg 1 [] rfl rfl ?_
    refine g_callE (fun x : (Nat → Int) × Bool => .tuple #[.agg (s4C x.1).toArray, .bool x.2]) rfl rfl rfl Try.call37 (fun w hS => named_any _ w) ?_
    rintro ⟨u, ub⟩
    dsimp only
    refine xg 1 [] rfl rfl ?_
    refine g_val (v := .agg (s4C u).toArray) rfl rfl rfl (y_extract rfl rfl) ?_
    refine g_val (v := .bool ub) rfl rfl rfl (y_extract rfl rfl) ?_
    refine g_stN 0 rfl rfl rfl (by kernel_rfl) rfl rfl rfl rfl ?_
    simp only [List.set_cons_zero]
    refine xg 1 [] rfl rfl ?_
    refine ntso_ ?_
    refine xg 3 [] rfl rfl ?_
    first | refine g_casep 35 rfl (fun h2 => ?_) fun h2 => ?_ | refine g_caseb 35 rfl (fun h2 => ?_) fun h2 => ?_
    ·refine xg 3 [] rfl rfl ?_
     refine n_ (t_ (g_cond_t rfl (g_goto (g_then_goto (g_then_goto ?_)))))
     exact g_jump (.inr (.inr ())) [2, 3, 4] rfl (fun j hj => by cases hj; dsimp only; omega) rfl (fun w h => h.pick [2] rfl)
    refine xg 3 [] rfl rfl ?_
    refine n_ (t_ ?_)
    first | refine g_casep 38 rfl (fun h3 => ?_) fun h3 => ?_ | refine g_caseb 38 rfl (fun h3 => ?_) fun h3 => ?_
    ·refine g_cond_t rfl (g_goto (g_then_goto (g_then_goto ?_)))
     exact g_jump (.inr (.inr ())) [2, 3, 4] rfl (fun j hj => by cases hj; dsimp only; omega) rfl (fun w h => h.pick [2] rfl)
    refine g_cond_f rfl (g_skip (t_ (s_ (o_ ?_))))
    refine g_val rfl rfl rfl (y_ldN (vs := (s4C s)) 1 rfl Try.isAgg27 Try.sizeOf27 rfl rfl rfl) ?_
    refine g_val rfl rfl rfl (y_ldN (vs := (s4C u)) 0 rfl Try.isAgg27 Try.sizeOf27 rfl rfl rfl) ?_
    refine g_c1 (both_m s u) any_I rfl rfl rfl ?_
    refine xg 1 [] rfl rfl ?_
    refine g_stN 1 rfl rfl rfl (by kernel_rfl) rfl rfl rfl rfl ?_
    simp only [List.set_cons_zero, List.set_cons_succ]
    refine g_val rfl rfl rfl (y_assign rfl) ?_
    refine n_ (t_ (g_goto (g_then_goto ?_)))
    exact g_jump (.inr (.inl ⟨((bothS s u), u, (Lib.cut (t.drop 2) [58, 93]).2.1, turned, b2, b3), by dsimp only; (try simp only [List.length_drop]); omega⟩)) [0, 2, 3, 4, 5, 6, 7, 8] rfl (fun j hj => by cases hj; dsimp only; omega) rfl (fun w h => h.pick [0,0,0] rfl)
   refine g_cond_f rfl (g_skip (t_ (s_ (s_ (o_ ?_)))))
   refine xg 2 [] rfl rfl ?_
   refine g_callE (fun x : {b : Bool // b = true → t ≠ []} => .bool x.1) rfl rfl rfl Try.call39 (fun w hS => single_any t _ w) ?_
   rintro ⟨sb, hsb⟩
   dsimp only
   refine xg 1 [] rfl rfl ?_
   refine n_ (t_ ?_)
   first | refine g_casep 46 rfl (fun h4 => ?_) fun h4 => ?_ | refine g_caseb 46 rfl (fun h4 => ?_) fun h4 => ?_
   ·refine g_cond_t rfl (g_goto (g_then_goto ?_))
    exact g_jump (.inr (.inr ())) [2, 3, 4] rfl (fun j hj => by cases hj; dsimp only; omega) rfl (fun w h => h.pick [2] rfl)
   refine g_cond_f rfl (g_skip (t_ (s_ (s_ ?_))))
   have htn : t ≠ [] := hsb (by simpa using ‹(!sb) = false›)
   have htl : 0 < t.length := List.length_pos_iff.2 htn
   obtain ⟨c0, hc0, hc08⟩ := st8_get (l := t) (i := 0) htl
   have hc0m := c0.toNat_lt
   refine o_ ?_
   refine xg 4 [0] rfl rfl ?_
   refine g_casep 50 rfl (fun h5 => ?_) fun h5 => ?_
   ·refine xg 1 [] rfl rfl ?_
    obtain ⟨c1, hc1, hc18⟩ := st8_get (l := t) (i := 1) (by omega)
    obtain ⟨c2, hc2, hc28⟩ := st8_get (l := t) (i := 2) (by omega)
    have hc2m := c2.toNat_lt
    refine g_val rfl rfl rfl (y_sidx (i := 1) rfl rfl Try.underlying9 hc18) ?_
    refine xg 3 [0] rfl rfl ?_
    refine g_casep 55 rfl (fun h6 => ?_) fun h6 => ?_
    ·refine xg 1 [] rfl rfl ?_
     refine g_val rfl rfl rfl (y_sidx (i := 2) rfl rfl Try.underlying9 hc28) ?_
     refine xg 2 [0] rfl rfl ?_
     refine n_ (t_ ?_)
     refine g_casep 59 rfl (fun h7 => ?_) fun h7 => ?_
     ·refine g_cond_t rfl (s_ (s_ ?_))
      refine k_go [0,0,0] rfl (by kernel_rfl) (fun _ _ _ _ _ h => h) fun hQ => ?_
      refine k_x 0 [0,0,0] [] hQ (by kernel_rfl) rfl rfl rfl rfl rfl rfl ?_
      refine k_one 1 (by kernel_rfl) ?_
      refine k_op 1 rfl ?_
      refine g_val (v := st8 (t.drop 2)) rfl rfl rfl (y_val (y_sfrom (l := 2) rfl rfl Try.underlying9 (by rw [size_mk]; omega)) (by rw [st8_drop]; rfl)) ?_
      refine n_ ?_
      refine k_end (fun _ h => h.pick [0,0,0] rfl) ?_
      refine k_one 2 (by kernel_rfl) ?_
      refine k_op 2 rfl ?_
      refine g_callE (fun x : {b : Bool // b = true → (t.drop 2) ≠ []} => .bool x.1) rfl rfl rfl Try.call39 (fun w hS => single_any (t.drop 2) _ w) ?_
      rintro ⟨sd, hsd⟩
      dsimp only
      refine n_ ?_
      refine k_end (fun _ h => h.pick [0,0,0] rfl) ?_
      refine k_x 3 [0,0,0] [] hQ (by kernel_rfl) rfl rfl rfl rfl rfl rfl ?_
      refine k_x 4 [0,0,0] [] hQ (by kernel_rfl) rfl rfl rfl rfl rfl rfl ?_
      refine k_all [5,7] (by kernel_rfl) (by simp) ⟨?_, ?_, trivial⟩
      ·refine k_op 5 rfl ?_
       first | refine g_casep 64 rfl (fun h8 => ?_) fun h8 => ?_ | refine g_caseb 64 rfl (fun h8 => ?_) fun h8 => ?_
       ·refine xg 1 [] rfl rfl ?_
        refine n_ ?_
        refine k_end (fun _ h => h.pick [0,0,0] rfl) ?_
        refine k_no 6 [0,0,0] hQ (by kernel_rfl) rfl rfl rfl rfl rfl ?_
        refine k_no 7 [0,0,0] hQ (by kernel_rfl) rfl rfl rfl rfl rfl ?_
        refine k_no 8 [0,0,0] hQ (by kernel_rfl) rfl rfl rfl rfl rfl ?_
        refine k_no 9 [0,0,0] hQ (by kernel_rfl) rfl rfl rfl rfl rfl ?_
        refine k_x 10 [0,0,0] [] hQ (by kernel_rfl) rfl rfl rfl rfl rfl rfl ?_
        refine k_done (by kernel_rfl) ?_
        refine t_ (g_cond_t rfl (g_goto (g_then_goto (g_then_goto ?_))))
        exact g_jump (.inr (.inr ())) [2, 3, 4] rfl (fun j hj => by cases hj; dsimp only; omega) rfl (fun w h => h.pick [2] rfl)
       refine xg 1 [] rfl rfl ?_
       refine n_ ?_
       refine k_end (fun _ h => h.pick [0,0,0] rfl) ?_
       refine k_x 7 [0,0,0] [] hQ (by kernel_rfl) rfl rfl rfl rfl rfl rfl ?_
       refine k_all [6,8] (by kernel_rfl) (by simp) ⟨?_, ?_, trivial⟩
       ·refine k_op 6 rfl ?_
        refine g_val rfl rfl rfl (y_sidx (i := 2) rfl rfl Try.underlying9 hc28) ?_
        refine n_ ?_
        refine k_end (fun _ h => h.pick [0,0,0] rfl) ?_
        refine k_one 8 (by kernel_rfl) ?_
        refine k_op 8 rfl ?_
        refine g_val rfl rfl rfl (y_sidx (i := 0) rfl rfl Try.underlying9 hc08) ?_
        refine n_ ?_
        refine k_end (fun _ h => h.pick [0,0,0] rfl) ?_
        refine k_x 9 [0,0,0] [0] hQ (by kernel_rfl) rfl rfl rfl rfl rfl rfl ?_
        refine k_x 10 [0,0,0] [] hQ (by kernel_rfl) rfl rfl rfl rfl rfl rfl ?_
        refine k_done (by kernel_rfl) ?_
        refine t_ ?_
        refine g_casep 70 rfl (fun h9 => ?_) fun h9 => ?_
        ·refine g_cond_t rfl (g_goto (g_then_goto (g_then_goto ?_)))
         exact g_jump (.inr (.inr ())) [2, 3, 4] rfl (fun j hj => by cases hj; dsimp only; omega) rfl (fun w h => h.pick [2] rfl)
        refine g_cond_f rfl (g_skip (t_ (s_ ?_)))
        refine k_go [0,1] rfl (by kernel_rfl) (fun _ _ _ _ _ h => h) fun hQ => ?_
        refine k_x 1 [0,1] [] hQ (by kernel_rfl) rfl rfl rfl rfl rfl rfl ?_
        refine k_take (v := .int .u8 (c0.toNat : Int)) 2 rfl (by kernel_rfl) hQ rfl rfl rfl (fun _ h => h.pick [0,1] rfl) (y_sidx (i := 0) rfl rfl Try.underlying9 hc08) ?_
        refine k_x 3 [0,1] [] hQ (by kernel_rfl) rfl rfl rfl rfl rfl rfl ?_
        refine k_take (v := .int .u8 (c2.toNat : Int)) 4 rfl (by kernel_rfl) hQ rfl rfl rfl (fun _ h => h.pick [0,1] rfl) (y_sidx (i := 2) rfl rfl Try.underlying9 hc28) ?_
        refine k_x 6 [0,1] [] hQ (by kernel_rfl) rfl rfl rfl rfl rfl rfl ?_
        refine k_take (v := st8 (t.drop 3)) 7 rfl (by kernel_rfl) hQ rfl rfl rfl (fun _ h => h.pick [0,1] rfl) (y_val (y_sfrom (l := 3) rfl rfl Try.underlying9 (by rw [size_mk]; omega)) (by rw [st8_drop]; rfl)) ?_
        refine k_one 0 (by kernel_rfl) ?_
        refine k_op 0 rfl ?_
        refine g_val rfl rfl rfl (y_ldN (vs := (s4C s)) 1 rfl Try.isAgg27 Try.sizeOf27 rfl rfl rfl) ?_
        refine n_ ?_
        refine k_end (fun _ h => h.pick [0,1] rfl) ?_
        refine k_call 5 (cwith_m s c0.toNat c2.toNat (by omega) (by omega)) any_I rfl (by kernel_rfl) hQ rfl rfl rfl (fun _ h => h.pick [0,1] rfl) ?_
        refine k_one 8 (by kernel_rfl) ?_
        refine k_op 8 rfl ?_
        refine g_stN 1 rfl rfl rfl (by kernel_rfl) rfl rfl rfl rfl ?_
        simp only [List.set_cons_zero, List.set_cons_succ]
        refine n_ ?_
        refine k_end (fun _ h => h.pick [0,1] rfl) ?_
        refine k_one 9 (by kernel_rfl) ?_
        refine k_op 9 rfl ?_
        have hdr : (t.drop 3).length = t.length - 3 := List.length_drop ..
        refine g_val rfl rfl rfl (y_assign rfl) ?_
        refine n_ ?_
        refine k_end (fun _ h => h.pick [0,1] rfl) ?_
        refine k_done (by kernel_rfl) ?_
        refine t_ (g_goto (g_then_goto ?_))
        exact g_jump (.inr (.inl ⟨((withS s c0.toNat (c2.toNat + 1 - c0.toNat)), sm, (t.drop 3), turned, b2, b3), by dsimp only; (try simp only [List.length_drop]); omega⟩)) [0, 2, 3, 4, 5, 6, 7, 8] rfl (fun j hj => by cases hj; dsimp only; omega) rfl (fun w h => h.pick [0,0,0] rfl)
       refine k_op 8 rfl ?_
       refine g_val rfl rfl rfl (y_sidx (i := 0) rfl rfl Try.underlying9 hc08) ?_
       refine n_ ?_
       refine k_end (fun _ h => h.pick [0,0,0] rfl) ?_
       refine k_one 6 (by kernel_rfl) ?_
       refine k_op 6 rfl ?_
       refine g_val rfl rfl rfl (y_sidx (i := 2) rfl rfl Try.underlying9 hc28) ?_
       refine n_ ?_
       refine k_end (fun _ h => h.pick [0,0,0] rfl) ?_
       refine k_x 9 [0,0,0] [0] hQ (by kernel_rfl) rfl rfl rfl rfl rfl rfl ?_
       refine k_x 10 [0,0,0] [] hQ (by kernel_rfl) rfl rfl rfl rfl rfl rfl ?_
       refine k_done (by kernel_rfl) ?_
       refine t_ ?_
       refine g_casep 70 rfl (fun h10 => ?_) fun h10 => ?_
       ·refine g_cond_t rfl (g_goto (g_then_goto (g_then_goto ?_)))
        exact g_jump (.inr (.inr ())) [2, 3, 4] rfl (fun j hj => by cases hj; dsimp only; omega) rfl (fun w h => h.pick [2] rfl)
       refine g_cond_f rfl (g_skip (t_ (s_ ?_)))
       refine k_go [0,1] rfl (by kernel_rfl) (fun _ _ _ _ _ h => h) fun hQ => ?_
       refine k_x 1 [0,1] [] hQ (by kernel_rfl) rfl rfl rfl rfl rfl rfl ?_
       refine k_take (v := .int .u8 (c0.toNat : Int)) 2 rfl (by kernel_rfl) hQ rfl rfl rfl (fun _ h => h.pick [0,1] rfl) (y_sidx (i := 0) rfl rfl Try.underlying9 hc08) ?_
       refine k_x 3 [0,1] [] hQ (by kernel_rfl) rfl rfl rfl rfl rfl rfl ?_
       refine k_take (v := .int .u8 (c2.toNat : Int)) 4 rfl (by kernel_rfl) hQ rfl rfl rfl (fun _ h => h.pick [0,1] rfl) (y_sidx (i := 2) rfl rfl Try.underlying9 hc28) ?_
       refine k_x 6 [0,1] [] hQ (by kernel_rfl) rfl rfl rfl rfl rfl rfl ?_
       refine k_take (v := st8 (t.drop 3)) 7 rfl (by kernel_rfl) hQ rfl rfl rfl (fun _ h => h.pick [0,1] rfl) (y_val (y_sfrom (l := 3) rfl rfl Try.underlying9 (by rw [size_mk]; omega)) (by rw [st8_drop]; rfl)) ?_
       refine k_one 0 (by kernel_rfl) ?_
       refine k_op 0 rfl ?_
       refine g_val rfl rfl rfl (y_ldN (vs := (s4C s)) 1 rfl Try.isAgg27 Try.sizeOf27 rfl rfl rfl) ?_
       refine n_ ?_
       refine k_end (fun _ h => h.pick [0,1] rfl) ?_
       refine k_call 5 (cwith_m s c0.toNat c2.toNat (by omega) (by omega)) any_I rfl (by kernel_rfl) hQ rfl rfl rfl (fun _ h => h.pick [0,1] rfl) ?_
       refine k_one 8 (by kernel_rfl) ?_
       refine k_op 8 rfl ?_
       refine g_stN 1 rfl rfl rfl (by kernel_rfl) rfl rfl rfl rfl ?_
       simp only [List.set_cons_zero, List.set_cons_succ]
       refine n_ ?_
       refine k_end (fun _ h => h.pick [0,1] rfl) ?_
       refine k_one 9 (by kernel_rfl) ?_
       refine k_op 9 rfl ?_
       have hdr : (t.drop 3).length = t.length - 3 := List.length_drop ..
       refine g_val rfl rfl rfl (y_assign rfl) ?_
       refine n_ ?_
       refine k_end (fun _ h => h.pick [0,1] rfl) ?_
       refine k_done (by kernel_rfl) ?_
       refine t_ (g_goto (g_then_goto ?_))
       exact g_jump (.inr (.inl ⟨((withS s c0.toNat (c2.toNat + 1 - c0.toNat)), sm, (t.drop 3), turned, b2, b3), by dsimp only; (try simp only [List.length_drop]); omega⟩)) [0, 2, 3, 4, 5, 6, 7, 8] rfl (fun j hj => by cases hj; dsimp only; omega) rfl (fun w h => h.pick [0,0,0] rfl)
      refine k_op 7 rfl ?_
      first | refine g_casep 64 rfl (fun h11 => ?_) fun h11 => ?_ | refine g_caseb 64 rfl (fun h11 => ?_) fun h11 => ?_
      ·refine xg 1 [] rfl rfl ?_
       refine n_ ?_
       refine k_end (fun _ h => h.pick [0,0,0] rfl) ?_
       refine k_no 5 [0,0,0] hQ (by kernel_rfl) rfl rfl rfl rfl rfl ?_
       refine k_no 6 [0,0,0] hQ (by kernel_rfl) rfl rfl rfl rfl rfl ?_
       refine k_no 8 [0,0,0] hQ (by kernel_rfl) rfl rfl rfl rfl rfl ?_
       refine k_no 9 [0,0,0] hQ (by kernel_rfl) rfl rfl rfl rfl rfl ?_
       refine k_x 10 [0,0,0] [] hQ (by kernel_rfl) rfl rfl rfl rfl rfl rfl ?_
       refine k_done (by kernel_rfl) ?_
       refine t_ (g_cond_t rfl (g_goto (g_then_goto (g_then_goto ?_))))
       exact g_jump (.inr (.inr ())) [2, 3, 4] rfl (fun j hj => by cases hj; dsimp only; omega) rfl (fun w h => h.pick [2] rfl)
      refine xg 1 [] rfl rfl ?_
      refine n_ ?_
      refine k_end (fun _ h => h.pick [0,0,0] rfl) ?_
      refine k_x 5 [0,0,0] [] hQ (by kernel_rfl) rfl rfl rfl rfl rfl rfl ?_
      refine k_all [6,8] (by kernel_rfl) (by simp) ⟨?_, ?_, trivial⟩
      ·refine k_op 6 rfl ?_
       refine g_val rfl rfl rfl (y_sidx (i := 2) rfl rfl Try.underlying9 hc28) ?_
       refine n_ ?_
       refine k_end (fun _ h => h.pick [0,0,0] rfl) ?_
       refine k_one 8 (by kernel_rfl) ?_
       refine k_op 8 rfl ?_
       refine g_val rfl rfl rfl (y_sidx (i := 0) rfl rfl Try.underlying9 hc08) ?_
       refine n_ ?_
       refine k_end (fun _ h => h.pick [0,0,0] rfl) ?_
       refine k_x 9 [0,0,0] [0] hQ (by kernel_rfl) rfl rfl rfl rfl rfl rfl ?_
       refine k_x 10 [0,0,0] [] hQ (by kernel_rfl) rfl rfl rfl rfl rfl rfl ?_
       refine k_done (by kernel_rfl) ?_
       refine t_ ?_
       refine g_casep 70 rfl (fun h12 => ?_) fun h12 => ?_
       ·refine g_cond_t rfl (g_goto (g_then_goto (g_then_goto ?_)))
        exact g_jump (.inr (.inr ())) [2, 3, 4] rfl (fun j hj => by cases hj; dsimp only; omega) rfl (fun w h => h.pick [2] rfl)
       refine g_cond_f rfl (g_skip (t_ (s_ ?_)))
       refine k_go [0,1] rfl (by kernel_rfl) (fun _ _ _ _ _ h => h) fun hQ => ?_
       refine k_x 1 [0,1] [] hQ (by kernel_rfl) rfl rfl rfl rfl rfl rfl ?_
       refine k_take (v := .int .u8 (c0.toNat : Int)) 2 rfl (by kernel_rfl) hQ rfl rfl rfl (fun _ h => h.pick [0,1] rfl) (y_sidx (i := 0) rfl rfl Try.underlying9 hc08) ?_
       refine k_x 3 [0,1] [] hQ (by kernel_rfl) rfl rfl rfl rfl rfl rfl ?_
       refine k_take (v := .int .u8 (c2.toNat : Int)) 4 rfl (by kernel_rfl) hQ rfl rfl rfl (fun _ h => h.pick [0,1] rfl) (y_sidx (i := 2) rfl rfl Try.underlying9 hc28) ?_
       refine k_x 6 [0,1] [] hQ (by kernel_rfl) rfl rfl rfl rfl rfl rfl ?_
       refine k_take (v := st8 (t.drop 3)) 7 rfl (by kernel_rfl) hQ rfl rfl rfl (fun _ h => h.pick [0,1] rfl) (y_val (y_sfrom (l := 3) rfl rfl Try.underlying9 (by rw [size_mk]; omega)) (by rw [st8_drop]; rfl)) ?_
       refine k_one 0 (by kernel_rfl) ?_
       refine k_op 0 rfl ?_
       refine g_val rfl rfl rfl (y_ldN (vs := (s4C s)) 1 rfl Try.isAgg27 Try.sizeOf27 rfl rfl rfl) ?_
       refine n_ ?_
       refine k_end (fun _ h => h.pick [0,1] rfl) ?_
       refine k_call 5 (cwith_m s c0.toNat c2.toNat (by omega) (by omega)) any_I rfl (by kernel_rfl) hQ rfl rfl rfl (fun _ h => h.pick [0,1] rfl) ?_
       refine k_one 8 (by kernel_rfl) ?_
       refine k_op 8 rfl ?_
       refine g_stN 1 rfl rfl rfl (by kernel_rfl) rfl rfl rfl rfl ?_
       simp only [List.set_cons_zero, List.set_cons_succ]
       refine n_ ?_
       refine k_end (fun _ h => h.pick [0,1] rfl) ?_
       refine k_one 9 (by kernel_rfl) ?_
       refine k_op 9 rfl ?_
       have hdr : (t.drop 3).length = t.length - 3 := List.length_drop ..
       refine g_val rfl rfl rfl (y_assign rfl) ?_
       refine n_ ?_
       refine k_end (fun _ h => h.pick [0,1] rfl) ?_
       refine k_done (by kernel_rfl) ?_
       refine t_ (g_goto (g_then_goto ?_))
       exact g_jump (.inr (.inl ⟨((withS s c0.toNat (c2.toNat + 1 - c0.toNat)), sm, (t.drop 3), turned, b2, b3), by dsimp only; (try simp only [List.length_drop]); omega⟩)) [0, 2, 3, 4, 5, 6, 7, 8] rfl (fun j hj => by cases hj; dsimp only; omega) rfl (fun w h => h.pick [0,0,0] rfl)
      refine k_op 8 rfl ?_
      refine g_val rfl rfl rfl (y_sidx (i := 0) rfl rfl Try.underlying9 hc08) ?_
      refine n_ ?_
      refine k_end (fun _ h => h.pick [0,0,0] rfl) ?_
      refine k_one 6 (by kernel_rfl) ?_
      refine k_op 6 rfl ?_
      refine g_val rfl rfl rfl (y_sidx (i := 2) rfl rfl Try.underlying9 hc28) ?_
      refine n_ ?_
      refine k_end (fun _ h => h.pick [0,0,0] rfl) ?_
      refine k_x 9 [0,0,0] [0] hQ (by kernel_rfl) rfl rfl rfl rfl rfl rfl ?_
      refine k_x 10 [0,0,0] [] hQ (by kernel_rfl) rfl rfl rfl rfl rfl rfl ?_
      refine k_done (by kernel_rfl) ?_
      refine t_ ?_
      refine g_casep 70 rfl (fun h13 => ?_) fun h13 => ?_
      ·refine g_cond_t rfl (g_goto (g_then_goto (g_then_goto ?_)))
       exact g_jump (.inr (.inr ())) [2, 3, 4] rfl (fun j hj => by cases hj; dsimp only; omega) rfl (fun w h => h.pick [2] rfl)
      refine g_cond_f rfl (g_skip (t_ (s_ ?_)))
      refine k_go [0,1] rfl (by kernel_rfl) (fun _ _ _ _ _ h => h) fun hQ => ?_
      refine k_x 1 [0,1] [] hQ (by kernel_rfl) rfl rfl rfl rfl rfl rfl ?_
      refine k_take (v := .int .u8 (c0.toNat : Int)) 2 rfl (by kernel_rfl) hQ rfl rfl rfl (fun _ h => h.pick [0,1] rfl) (y_sidx (i := 0) rfl rfl Try.underlying9 hc08) ?_
      refine k_x 3 [0,1] [] hQ (by kernel_rfl) rfl rfl rfl rfl rfl rfl ?_
      refine k_take (v := .int .u8 (c2.toNat : Int)) 4 rfl (by kernel_rfl) hQ rfl rfl rfl (fun _ h => h.pick [0,1] rfl) (y_sidx (i := 2) rfl rfl Try.underlying9 hc28) ?_
      refine k_x 6 [0,1] [] hQ (by kernel_rfl) rfl rfl rfl rfl rfl rfl ?_
      refine k_take (v := st8 (t.drop 3)) 7 rfl (by kernel_rfl) hQ rfl rfl rfl (fun _ h => h.pick [0,1] rfl) (y_val (y_sfrom (l := 3) rfl rfl Try.underlying9 (by rw [size_mk]; omega)) (by rw [st8_drop]; rfl)) ?_
      refine k_one 0 (by kernel_rfl) ?_
      refine k_op 0 rfl ?_
      refine g_val rfl rfl rfl (y_ldN (vs := (s4C s)) 1 rfl Try.isAgg27 Try.sizeOf27 rfl rfl rfl) ?_
      refine n_ ?_
      refine k_end (fun _ h => h.pick [0,1] rfl) ?_
      refine k_call 5 (cwith_m s c0.toNat c2.toNat (by omega) (by omega)) any_I rfl (by kernel_rfl) hQ rfl rfl rfl (fun _ h => h.pick [0,1] rfl) ?_
      refine k_one 8 (by kernel_rfl) ?_
      refine k_op 8 rfl ?_
      refine g_stN 1 rfl rfl rfl (by kernel_rfl) rfl rfl rfl rfl ?_
      simp only [List.set_cons_zero, List.set_cons_succ]
      refine n_ ?_
      refine k_end (fun _ h => h.pick [0,1] rfl) ?_
      refine k_one 9 (by kernel_rfl) ?_
      refine k_op 9 rfl ?_
      have hdr : (t.drop 3).length = t.length - 3 := List.length_drop ..
      refine g_val rfl rfl rfl (y_assign rfl) ?_
      refine n_ ?_
      refine k_end (fun _ h => h.pick [0,1] rfl) ?_
      refine k_done (by kernel_rfl) ?_
      refine t_ (g_goto (g_then_goto ?_))
      exact g_jump (.inr (.inl ⟨((withS s c0.toNat (c2.toNat + 1 - c0.toNat)), sm, (t.drop 3), turned, b2, b3), by dsimp only; (try simp only [List.length_drop]); omega⟩)) [0, 2, 3, 4, 5, 6, 7, 8] rfl (fun j hj => by cases hj; dsimp only; omega) rfl (fun w h => h.pick [0,0,0] rfl)
     refine g_cond_f rfl (g_skip (t_ (s_ ?_)))
     refine k_go [0,1] rfl (by kernel_rfl) (fun _ _ _ _ _ h => h) fun hQ => ?_
     refine k_x 1 [0,1] [] hQ (by kernel_rfl) rfl rfl rfl rfl rfl rfl ?_
     refine k_take (v := .int .u8 (c0.toNat : Int)) 2 rfl (by kernel_rfl) hQ rfl rfl rfl (fun _ h => h.pick [0,1] rfl) (y_sidx (i := 0) rfl rfl Try.underlying9 hc08) ?_
     refine k_x 3 [0,1] [] hQ (by kernel_rfl) rfl rfl rfl rfl rfl rfl ?_
     refine k_take (v := .int .u8 (c0.toNat : Int)) 4 rfl (by kernel_rfl) hQ rfl rfl rfl (fun _ h => h.pick [0,1] rfl) (y_sidx (i := 0) rfl rfl Try.underlying9 hc08) ?_
     refine k_x 6 [0,1] [] hQ (by kernel_rfl) rfl rfl rfl rfl rfl rfl ?_
     refine k_take (v := st8 (t.drop 1)) 7 rfl (by kernel_rfl) hQ rfl rfl rfl (fun _ h => h.pick [0,1] rfl) (y_val (y_sfrom (l := 1) rfl rfl Try.underlying9 (by rw [size_mk]; omega)) (by rw [st8_drop]; rfl)) ?_
     refine k_one 0 (by kernel_rfl) ?_
     refine k_op 0 rfl ?_
     refine g_val rfl rfl rfl (y_ldN (vs := (s4C s)) 1 rfl Try.isAgg27 Try.sizeOf27 rfl rfl rfl) ?_
     refine n_ ?_
     refine k_end (fun _ h => h.pick [0,1] rfl) ?_
     refine k_call 5 (cwith_m s c0.toNat c0.toNat (by omega) (by omega)) any_I rfl (by kernel_rfl) hQ rfl rfl rfl (fun _ h => h.pick [0,1] rfl) ?_
     refine k_one 8 (by kernel_rfl) ?_
     refine k_op 8 rfl ?_
     refine g_stN 1 rfl rfl rfl (by kernel_rfl) rfl rfl rfl rfl ?_
     simp only [List.set_cons_zero, List.set_cons_succ]
     refine n_ ?_
     refine k_end (fun _ h => h.pick [0,1] rfl) ?_
     refine k_one 9 (by kernel_rfl) ?_
     refine k_op 9 rfl ?_
     have hdr : (t.drop 1).length = t.length - 1 := List.length_drop ..
     refine g_val rfl rfl rfl (y_assign rfl) ?_
     refine n_ ?_
     refine k_end (fun _ h => h.pick [0,1] rfl) ?_
     refine k_done (by kernel_rfl) ?_
     refine t_ (s_ (g_label (t_ (s_ (o_ ?_)))))
     refine xg 1 [] rfl rfl ?_
     refine n_ (t_ (s_ (s_ (o_ ?_))))
     refine xg 1 [] rfl rfl ?_
     refine g_call1 rfl rfl rfl Try.call35 (fun w hS => hasPrefix8 (t.drop 1) [93] w) ?_
     refine xg 1 [] rfl rfl ?_
     refine n_ (t_ ?_)
     first | refine g_casep 89 rfl (fun h14 => ?_) fun h14 => ?_ | refine g_caseb 89 rfl (fun h14 => ?_) fun h14 => ?_
     ·refine g_cond_t rfl (g_goto (g_then_goto ?_))
      exact g_jump (.inl ⟨((withS s c0.toNat (c0.toNat + 1 - c0.toNat)), sm, (t.drop 1), turned, false, b2, b3), by dsimp only; (try simp only [List.length_drop]); omega⟩) [0, 2, 3, 4, 5, 6, 7, 8, 9] rfl (fun j hj => by cases hj; dsimp only; omega) rfl (fun w h => h.pick [0,0,0] rfl)
     refine g_cond_f rfl (g_skip (t_ (s_ (s_ (o_ ?_)))))
     refine xg 1 [] rfl rfl ?_
     refine n_ (t_ ?_)
     first | refine g_casep 90 rfl (fun h15 => ?_) fun h15 => ?_ | refine g_caseb 90 rfl (fun h15 => ?_) fun h15 => ?_
     ·refine g_cond_t rfl (o_ ?_)
      refine g_val rfl rfl rfl (y_ldN (vs := (s4C (withS s c0.toNat (c0.toNat + 1 - c0.toNat)))) 1 rfl Try.isAgg27 Try.sizeOf27 rfl rfl rfl) ?_
      refine g_c1 (cwith_m (withS s c0.toNat (c0.toNat + 1 - c0.toNat)) 10 10 (by decide) (by decide)) any_I rfl rfl rfl ?_
      refine g_c1 (not_m (withS (withS s c0.toNat (c0.toNat + 1 - c0.toNat)) 10 (10 + 1 - 10))) any_I rfl rfl rfl ?_
      refine g_stN 1 rfl rfl rfl (by kernel_rfl) rfl rfl rfl rfl ?_
      simp only [List.set_cons_zero, List.set_cons_succ]
      refine n_ (t_ (s_ (s_ ?_)))
      have h93 := hasP_len (s := (t.drop 1)) (p := [93]) (by simpa using ‹(!Lib.hasPrefix (t.drop 1) [93]) = false›)
      simp only [List.length_cons, List.length_nil] at h93
      have hszq := size_mk (t.drop 1)
      refine o_ ?_
      refine g_val rfl rfl rfl (y_ldN (vs := (s4C (notS (withS (withS s c0.toNat (c0.toNat + 1 - c0.toNat)) 10 (10 + 1 - 10))))) 1 rfl Try.isAgg27 Try.sizeOf27 rfl rfl rfl) ?_
      refine xg 6 [] rfl (by omega) ?_
      refine g_stN 2 rfl rfl rfl (by kernel_rfl) rfl rfl rfl rfl ?_
      simp only [List.set_cons_zero, List.set_cons_succ]
      refine xg 2 [] rfl rfl ?_
      refine n_ (t_ (g_ret (g_then_ret (g_jumps_ret ?_))))
      refine g_end_cell3 2 Try.results22 rfl rfl rfl rfl Try.isAgg27 Try.sizeOf27 rfl ?_
      exact fun w hS => ⟨⟨((notS (withS (withS s c0.toNat (c0.toNat + 1 - c0.toNat)) 10 (10 + 1 - 10))), _, 0), fun _ => ⟨by dsimp only; omega, by dsimp only; omega⟩⟩, rfl, hS.below⟩
     refine g_cond_f rfl (g_skip (t_ (s_ (s_ ?_))))
     have h93 := hasP_len (s := (t.drop 1)) (p := [93]) (by simpa using ‹(!Lib.hasPrefix (t.drop 1) [93]) = false›)
     simp only [List.length_cons, List.length_nil] at h93
     have hszq := size_mk (t.drop 1)
     refine o_ ?_
     refine g_val rfl rfl rfl (y_ldN (vs := (s4C (withS s c0.toNat (c0.toNat + 1 - c0.toNat)))) 1 rfl Try.isAgg27 Try.sizeOf27 rfl rfl rfl) ?_
     refine xg 6 [] rfl (by omega) ?_
     refine g_stN 2 rfl rfl rfl (by kernel_rfl) rfl rfl rfl rfl ?_
     simp only [List.set_cons_zero, List.set_cons_succ]
     refine xg 2 [] rfl rfl ?_
     refine n_ (t_ (g_ret (g_then_ret (g_jumps_ret ?_))))
     refine g_end_cell3 2 Try.results22 rfl rfl rfl rfl Try.isAgg27 Try.sizeOf27 rfl ?_
     exact fun w hS => ⟨⟨((withS s c0.toNat (c0.toNat + 1 - c0.toNat)), _, 0), fun _ => ⟨by dsimp only; omega, by dsimp only; omega⟩⟩, rfl, hS.below⟩
    refine xg 4 [] rfl rfl ?_
    refine n_ (t_ (g_cond_f rfl (g_skip (t_ (s_ ?_)))))
    refine k_go [0,1] rfl (by kernel_rfl) (fun _ _ _ _ _ h => h) fun hQ => ?_
    refine k_x 1 [0,1] [] hQ (by kernel_rfl) rfl rfl rfl rfl rfl rfl ?_
    refine k_take (v := .int .u8 (c0.toNat : Int)) 2 rfl (by kernel_rfl) hQ rfl rfl rfl (fun _ h => h.pick [0,1] rfl) (y_sidx (i := 0) rfl rfl Try.underlying9 hc08) ?_
    refine k_x 3 [0,1] [] hQ (by kernel_rfl) rfl rfl rfl rfl rfl rfl ?_
    refine k_take (v := .int .u8 (c0.toNat : Int)) 4 rfl (by kernel_rfl) hQ rfl rfl rfl (fun _ h => h.pick [0,1] rfl) (y_sidx (i := 0) rfl rfl Try.underlying9 hc08) ?_
    refine k_x 6 [0,1] [] hQ (by kernel_rfl) rfl rfl rfl rfl rfl rfl ?_
    refine k_take (v := st8 (t.drop 1)) 7 rfl (by kernel_rfl) hQ rfl rfl rfl (fun _ h => h.pick [0,1] rfl) (y_val (y_sfrom (l := 1) rfl rfl Try.underlying9 (by rw [size_mk]; omega)) (by rw [st8_drop]; rfl)) ?_
    refine k_one 0 (by kernel_rfl) ?_
    refine k_op 0 rfl ?_
    refine g_val rfl rfl rfl (y_ldN (vs := (s4C s)) 1 rfl Try.isAgg27 Try.sizeOf27 rfl rfl rfl) ?_
    refine n_ ?_
    refine k_end (fun _ h => h.pick [0,1] rfl) ?_
    refine k_call 5 (cwith_m s c0.toNat c0.toNat (by omega) (by omega)) any_I rfl (by kernel_rfl) hQ rfl rfl rfl (fun _ h => h.pick [0,1] rfl) ?_
    refine k_one 8 (by kernel_rfl) ?_
    refine k_op 8 rfl ?_
    refine g_stN 1 rfl rfl rfl (by kernel_rfl) rfl rfl rfl rfl ?_
    simp only [List.set_cons_zero, List.set_cons_succ]
    refine n_ ?_
    refine k_end (fun _ h => h.pick [0,1] rfl) ?_
    refine k_one 9 (by kernel_rfl) ?_
    refine k_op 9 rfl ?_
    have hdr : (t.drop 1).length = t.length - 1 := List.length_drop ..
    refine g_val rfl rfl rfl (y_assign rfl) ?_
    refine n_ ?_
    refine k_end (fun _ h => h.pick [0,1] rfl) ?_
    refine k_done (by kernel_rfl) ?_
    refine t_ (s_ (g_label (t_ (s_ (o_ ?_)))))
    refine xg 1 [] rfl rfl ?_
    refine n_ (t_ (s_ (s_ (o_ ?_))))
    refine xg 1 [] rfl rfl ?_
    refine g_call1 rfl rfl rfl Try.call35 (fun w hS => hasPrefix8 (t.drop 1) [93] w) ?_
    refine xg 1 [] rfl rfl ?_
    refine n_ (t_ ?_)
    first | refine g_casep 89 rfl (fun h16 => ?_) fun h16 => ?_ | refine g_caseb 89 rfl (fun h16 => ?_) fun h16 => ?_
    ·refine g_cond_t rfl (g_goto (g_then_goto ?_))
     exact g_jump (.inl ⟨((withS s c0.toNat (c0.toNat + 1 - c0.toNat)), sm, (t.drop 1), turned, false, b2, b3), by dsimp only; (try simp only [List.length_drop]); omega⟩) [0, 2, 3, 4, 5, 6, 7, 8, 9] rfl (fun j hj => by cases hj; dsimp only; omega) rfl (fun w h => h.pick [0,0,0] rfl)
    refine g_cond_f rfl (g_skip (t_ (s_ (s_ (o_ ?_)))))
    refine xg 1 [] rfl rfl ?_
    refine n_ (t_ ?_)
    first | refine g_casep 90 rfl (fun h17 => ?_) fun h17 => ?_ | refine g_caseb 90 rfl (fun h17 => ?_) fun h17 => ?_
    ·refine g_cond_t rfl (o_ ?_)
     refine g_val rfl rfl rfl (y_ldN (vs := (s4C (withS s c0.toNat (c0.toNat + 1 - c0.toNat)))) 1 rfl Try.isAgg27 Try.sizeOf27 rfl rfl rfl) ?_
     refine g_c1 (cwith_m (withS s c0.toNat (c0.toNat + 1 - c0.toNat)) 10 10 (by decide) (by decide)) any_I rfl rfl rfl ?_
     refine g_c1 (not_m (withS (withS s c0.toNat (c0.toNat + 1 - c0.toNat)) 10 (10 + 1 - 10))) any_I rfl rfl rfl ?_
     refine g_stN 1 rfl rfl rfl (by kernel_rfl) rfl rfl rfl rfl ?_
     simp only [List.set_cons_zero, List.set_cons_succ]
     refine n_ (t_ (s_ (s_ ?_)))
     have h93 := hasP_len (s := (t.drop 1)) (p := [93]) (by simpa using ‹(!Lib.hasPrefix (t.drop 1) [93]) = false›)
     simp only [List.length_cons, List.length_nil] at h93
     have hszq := size_mk (t.drop 1)
     refine o_ ?_
     refine g_val rfl rfl rfl (y_ldN (vs := (s4C (notS (withS (withS s c0.toNat (c0.toNat + 1 - c0.toNat)) 10 (10 + 1 - 10))))) 1 rfl Try.isAgg27 Try.sizeOf27 rfl rfl rfl) ?_
     refine xg 6 [] rfl (by omega) ?_
     refine g_stN 2 rfl rfl rfl (by kernel_rfl) rfl rfl rfl rfl ?_
     simp only [List.set_cons_zero, List.set_cons_succ]
     refine xg 2 [] rfl rfl ?_
     refine n_ (t_ (g_ret (g_then_ret (g_jumps_ret ?_))))
     refine g_end_cell3 2 Try.results22 rfl rfl rfl rfl Try.isAgg27 Try.sizeOf27 rfl ?_
     exact fun w hS => ⟨⟨((notS (withS (withS s c0.toNat (c0.toNat + 1 - c0.toNat)) 10 (10 + 1 - 10))), _, 0), fun _ => ⟨by dsimp only; omega, by dsimp only; omega⟩⟩, rfl, hS.below⟩
    refine g_cond_f rfl (g_skip (t_ (s_ (s_ ?_))))
    have h93 := hasP_len (s := (t.drop 1)) (p := [93]) (by simpa using ‹(!Lib.hasPrefix (t.drop 1) [93]) = false›)
    simp only [List.length_cons, List.length_nil] at h93
    have hszq := size_mk (t.drop 1)
    refine o_ ?_
    refine g_val rfl rfl rfl (y_ldN (vs := (s4C (withS s c0.toNat (c0.toNat + 1 - c0.toNat)))) 1 rfl Try.isAgg27 Try.sizeOf27 rfl rfl rfl) ?_
    refine xg 6 [] rfl (by omega) ?_
    refine g_stN 2 rfl rfl rfl (by kernel_rfl) rfl rfl rfl rfl ?_
    simp only [List.set_cons_zero, List.set_cons_succ]
    refine xg 2 [] rfl rfl ?_
    refine n_ (t_ (g_ret (g_then_ret (g_jumps_ret ?_))))
    refine g_end_cell3 2 Try.results22 rfl rfl rfl rfl Try.isAgg27 Try.sizeOf27 rfl ?_
    exact fun w hS => ⟨⟨((withS s c0.toNat (c0.toNat + 1 - c0.toNat)), _, 0), fun _ => ⟨by dsimp only; omega, by dsimp only; omega⟩⟩, rfl, hS.below⟩
   refine xg 9 [] rfl rfl ?_
   refine n_ (t_ (g_cond_f rfl (g_skip (t_ (s_ ?_)))))
   refine k_go [0,1] rfl (by kernel_rfl) (fun _ _ _ _ _ h => h) fun hQ => ?_
   refine k_x 1 [0,1] [] hQ (by kernel_rfl) rfl rfl rfl rfl rfl rfl ?_
   refine k_take (v := .int .u8 (c0.toNat : Int)) 2 rfl (by kernel_rfl) hQ rfl rfl rfl (fun _ h => h.pick [0,1] rfl) (y_sidx (i := 0) rfl rfl Try.underlying9 hc08) ?_
   refine k_x 3 [0,1] [] hQ (by kernel_rfl) rfl rfl rfl rfl rfl rfl ?_
   refine k_take (v := .int .u8 (c0.toNat : Int)) 4 rfl (by kernel_rfl) hQ rfl rfl rfl (fun _ h => h.pick [0,1] rfl) (y_sidx (i := 0) rfl rfl Try.underlying9 hc08) ?_
   refine k_x 6 [0,1] [] hQ (by kernel_rfl) rfl rfl rfl rfl rfl rfl ?_
   refine k_take (v := st8 (t.drop 1)) 7 rfl (by kernel_rfl) hQ rfl rfl rfl (fun _ h => h.pick [0,1] rfl) (y_val (y_sfrom (l := 1) rfl rfl Try.underlying9 (by rw [size_mk]; omega)) (by rw [st8_drop]; rfl)) ?_
   refine k_one 0 (by kernel_rfl) ?_
   refine k_op 0 rfl ?_
   refine g_val rfl rfl rfl (y_ldN (vs := (s4C s)) 1 rfl Try.isAgg27 Try.sizeOf27 rfl rfl rfl) ?_
   refine n_ ?_
   refine k_end (fun _ h => h.pick [0,1] rfl) ?_
   refine k_call 5 (cwith_m s c0.toNat c0.toNat (by omega) (by omega)) any_I rfl (by kernel_rfl) hQ rfl rfl rfl (fun _ h => h.pick [0,1] rfl) ?_
   refine k_one 8 (by kernel_rfl) ?_
   refine k_op 8 rfl ?_
   refine g_stN 1 rfl rfl rfl (by kernel_rfl) rfl rfl rfl rfl ?_
   simp only [List.set_cons_zero, List.set_cons_succ]
   refine n_ ?_
   refine k_end (fun _ h => h.pick [0,1] rfl) ?_
   refine k_one 9 (by kernel_rfl) ?_
   refine k_op 9 rfl ?_
   have hdr : (t.drop 1).length = t.length - 1 := List.length_drop ..
   refine g_val rfl rfl rfl (y_assign rfl) ?_
   refine n_ ?_
   refine k_end (fun _ h => h.pick [0,1] rfl) ?_
   refine k_done (by kernel_rfl) ?_
   refine t_ (s_ (g_label (t_ (s_ (o_ ?_)))))
   refine xg 1 [] rfl rfl ?_
   refine n_ (t_ (s_ (s_ (o_ ?_))))
   refine xg 1 [] rfl rfl ?_
   refine g_call1 rfl rfl rfl Try.call35 (fun w hS => hasPrefix8 (t.drop 1) [93] w) ?_
   refine xg 1 [] rfl rfl ?_
   refine n_ (t_ ?_)
   first | refine g_casep 89 rfl (fun h18 => ?_) fun h18 => ?_ | refine g_caseb 89 rfl (fun h18 => ?_) fun h18 => ?_
   ·refine g_cond_t rfl (g_goto (g_then_goto ?_))
    exact g_jump (.inl ⟨((withS s c0.toNat (c0.toNat + 1 - c0.toNat)), sm, (t.drop 1), turned, false, b2, b3), by dsimp only; (try simp only [List.length_drop]); omega⟩) [0, 2, 3, 4, 5, 6, 7, 8, 9] rfl (fun j hj => by cases hj; dsimp only; omega) rfl (fun w h => h.pick [0,0,0] rfl)
   refine g_cond_f rfl (g_skip (t_ (s_ (s_ (o_ ?_)))))
   refine xg 1 [] rfl rfl ?_
   refine n_ (t_ ?_)
   first | refine g_casep 90 rfl (fun h19 => ?_) fun h19 => ?_ | refine g_caseb 90 rfl (fun h19 => ?_) fun h19 => ?_
   ·refine g_cond_t rfl (o_ ?_)
    refine g_val rfl rfl rfl (y_ldN (vs := (s4C (withS s c0.toNat (c0.toNat + 1 - c0.toNat)))) 1 rfl Try.isAgg27 Try.sizeOf27 rfl rfl rfl) ?_
    refine g_c1 (cwith_m (withS s c0.toNat (c0.toNat + 1 - c0.toNat)) 10 10 (by decide) (by decide)) any_I rfl rfl rfl ?_
    refine g_c1 (not_m (withS (withS s c0.toNat (c0.toNat + 1 - c0.toNat)) 10 (10 + 1 - 10))) any_I rfl rfl rfl ?_
    refine g_stN 1 rfl rfl rfl (by kernel_rfl) rfl rfl rfl rfl ?_
    simp only [List.set_cons_zero, List.set_cons_succ]
    refine n_ (t_ (s_ (s_ ?_)))
    have h93 := hasP_len (s := (t.drop 1)) (p := [93]) (by simpa using ‹(!Lib.hasPrefix (t.drop 1) [93]) = false›)
    simp only [List.length_cons, List.length_nil] at h93
    have hszq := size_mk (t.drop 1)
    refine o_ ?_
    refine g_val rfl rfl rfl (y_ldN (vs := (s4C (notS (withS (withS s c0.toNat (c0.toNat + 1 - c0.toNat)) 10 (10 + 1 - 10))))) 1 rfl Try.isAgg27 Try.sizeOf27 rfl rfl rfl) ?_
    refine xg 6 [] rfl (by omega) ?_
    refine g_stN 2 rfl rfl rfl (by kernel_rfl) rfl rfl rfl rfl ?_
    simp only [List.set_cons_zero, List.set_cons_succ]
    refine xg 2 [] rfl rfl ?_
    refine n_ (t_ (g_ret (g_then_ret (g_jumps_ret ?_))))
    refine g_end_cell3 2 Try.results22 rfl rfl rfl rfl Try.isAgg27 Try.sizeOf27 rfl ?_
    exact fun w hS => ⟨⟨((notS (withS (withS s c0.toNat (c0.toNat + 1 - c0.toNat)) 10 (10 + 1 - 10))), _, 0), fun _ => ⟨by dsimp only; omega, by dsimp only; omega⟩⟩, rfl, hS.below⟩
   refine g_cond_f rfl (g_skip (t_ (s_ (s_ ?_))))
   have h93 := hasP_len (s := (t.drop 1)) (p := [93]) (by simpa using ‹(!Lib.hasPrefix (t.drop 1) [93]) = false›)
   simp only [List.length_cons, List.length_nil] at h93
   have hszq := size_mk (t.drop 1)
   refine o_ ?_
   refine g_val rfl rfl rfl (y_ldN (vs := (s4C (withS s c0.toNat (c0.toNat + 1 - c0.toNat)))) 1 rfl Try.isAgg27 Try.sizeOf27 rfl rfl rfl) ?_
   refine xg 6 [] rfl (by omega) ?_
   refine g_stN 2 rfl rfl rfl (by kernel_rfl) rfl rfl rfl rfl ?_
   simp only [List.set_cons_zero, List.set_cons_succ]
   refine xg 2 [] rfl rfl ?_
   refine n_ (t_ (g_ret (g_then_ret (g_jumps_ret ?_))))
   refine g_end_cell3 2 Try.results22 rfl rfl rfl rfl Try.isAgg27 Try.sizeOf27 rfl ?_
   exact fun w hS => ⟨⟨((withS s c0.toNat (c0.toNat + 1 - c0.toNat)), _, 0), fun _ => ⟨by dsimp only; omega, by dsimp only; omega⟩⟩, rfl, hS.below⟩
  ·refine ⟨_, rfl, ?_⟩
   dsimp only
   obtain ⟨⟨s, sm, t, turned, b2, b3⟩, hx⟩ := x
   dsimp only at hx ⊢
   have hszt := size_mk t
   refine s_ (o_ ?_)
   refine xg 1 [] rfl rfl ?_
   refine n_ (t_ (s_ (s_ (o_ ?_))))
   refine xg 1 [] rfl rfl ?_
   refine g_call1 rfl rfl rfl Try.call35 (fun w hS => hasPrefix8 t [93] w) ?_
   refine xg 1 [] rfl rfl ?_
   refine n_ (t_ ?_)
   first | refine g_casep 89 rfl (fun h20 => ?_) fun h20 => ?_ | refine g_caseb 89 rfl (fun h20 => ?_) fun h20 => ?_
   ·refine g_cond_t rfl (g_goto (g_then_goto ?_))
    exact g_jump (.inl ⟨(s, sm, t, turned, false, b2, b3), by dsimp only; (try simp only [List.length_drop]); omega⟩) [0, 2, 3, 4, 5, 6, 7, 8, 9] rfl (fun j hj => by cases hj; dsimp only; omega) rfl (fun w h => h.pick [0,0,0] rfl)
   refine g_cond_f rfl (g_skip (t_ (s_ (s_ (o_ ?_)))))
   refine xg 1 [] rfl rfl ?_
   refine n_ (t_ ?_)
   first | refine g_casep 90 rfl (fun h21 => ?_) fun h21 => ?_ | refine g_caseb 90 rfl (fun h21 => ?_) fun h21 => ?_
   ·refine g_cond_t rfl (o_ ?_)
    refine g_val rfl rfl rfl (y_ldN (vs := (s4C s)) 1 rfl Try.isAgg27 Try.sizeOf27 rfl rfl rfl) ?_
    refine g_c1 (cwith_m s 10 10 (by decide) (by decide)) any_I rfl rfl rfl ?_
    refine g_c1 (not_m (withS s 10 (10 + 1 - 10))) any_I rfl rfl rfl ?_
    refine g_stN 1 rfl rfl rfl (by kernel_rfl) rfl rfl rfl rfl ?_
    simp only [List.set_cons_zero, List.set_cons_succ]
    refine n_ (t_ (s_ (s_ ?_)))
    have h93 := hasP_len (s := t) (p := [93]) (by simpa using ‹(!Lib.hasPrefix t [93]) = false›)
    simp only [List.length_cons, List.length_nil] at h93
    have hszq := size_mk t
    refine o_ ?_
    refine g_val rfl rfl rfl (y_ldN (vs := (s4C (notS (withS s 10 (10 + 1 - 10))))) 1 rfl Try.isAgg27 Try.sizeOf27 rfl rfl rfl) ?_
    refine xg 6 [] rfl (by omega) ?_
    refine g_stN 2 rfl rfl rfl (by kernel_rfl) rfl rfl rfl rfl ?_
    simp only [List.set_cons_zero, List.set_cons_succ]
    refine xg 2 [] rfl rfl ?_
    refine n_ (t_ (g_ret (g_then_ret (g_jumps_ret ?_))))
    refine g_end_cell3 2 Try.results22 rfl rfl rfl rfl Try.isAgg27 Try.sizeOf27 rfl ?_
    exact fun w hS => ⟨⟨((notS (withS s 10 (10 + 1 - 10))), _, 0), fun _ => ⟨by dsimp only; omega, by dsimp only; omega⟩⟩, rfl, hS.below⟩
   refine g_cond_f rfl (g_skip (t_ (s_ (s_ ?_))))
   have h93 := hasP_len (s := t) (p := [93]) (by simpa using ‹(!Lib.hasPrefix t [93]) = false›)
   simp only [List.length_cons, List.length_nil] at h93
   have hszq := size_mk t
   refine o_ ?_
   refine g_val rfl rfl rfl (y_ldN (vs := (s4C s)) 1 rfl Try.isAgg27 Try.sizeOf27 rfl rfl rfl) ?_
   refine xg 6 [] rfl (by omega) ?_
   refine g_stN 2 rfl rfl rfl (by kernel_rfl) rfl rfl rfl rfl ?_
   simp only [List.set_cons_zero, List.set_cons_succ]
   refine xg 2 [] rfl rfl ?_
   refine n_ (t_ (g_ret (g_then_ret (g_jumps_ret ?_))))
   refine g_end_cell3 2 Try.results22 rfl rfl rfl rfl Try.isAgg27 Try.sizeOf27 rfl ?_
   exact fun w hS => ⟨⟨(s, _, 0), fun _ => ⟨by dsimp only; omega, by dsimp only; omega⟩⟩, rfl, hS.below⟩
  ·refine ⟨_, rfl, ?_⟩
   dsimp only
   refine s_ (o_ ?_)
   refine g_val (v := .agg (s4C s0).toArray) rfl rfl rfl (y_build (offs := []) rfl Try.zeroValue27 (by kernel_rfl)) ?_
   refine g_stN 0 rfl rfl rfl (by kernel_rfl) rfl rfl rfl rfl ?_
   simp only [List.set_cons_zero]
   refine xg 2 [] rfl rfl ?_
   refine n_ (t_ (g_ret (g_jumps_ret ?_)))
   refine g_end_cell3 0 Try.results22 rfl rfl rfl rfl Try.isAgg27 Try.sizeOf27 rfl ?_
   exact fun w hS => ⟨⟨(s0, 0, 81), fun h => absurd h (by decide)⟩, rfl, hS.below⟩
 ·intro hp
  refine s_ (o_ ?_)
  refine g_alloc rfl rfl Try.zeroValue27 rfl (fun b2 => ?_)
  refine g_alloc rfl rfl Try.zeroValue27 rfl (fun b3 => ?_)
  refine n_ (t_ (s_ ?_))
  have htrim := Lib.trimPrefix_le l [94]
  refine o_ ?_
  refine xg 1 [] rfl rfl ?_
  refine g_call1 rfl rfl rfl Try.call34 (fun w hS => cutPrefix8 l [94] w) ?_
  refine xg 1 [] rfl rfl ?_
  refine g_val (v := st8 (Lib.trimPrefix l [94])) rfl rfl rfl (y_extract rfl rfl) ?_
  refine g_val (v := .bool (Lib.hasPrefix l [94])) rfl rfl rfl (y_extract rfl rfl) ?_
  refine g_val rfl rfl rfl (y_assign rfl) ?_
  refine xg 1 [] rfl rfl ?_
  refine ntso_ ?_
  refine xg 1 [] rfl rfl ?_
  refine n_ (t_ (s_ (g_label (t_ ?_))))
  exact g_fall (hp ((.inl ⟨(s0, s0, (Lib.trimPrefix l [94]), (Lib.hasPrefix l [94]), true, b2, b3), by dsimp only; (try simp only [List.length_drop]); omega⟩)) _ rfl) [0, 2, 3, 4, 5, 6, 7, 8, 9] rfl (fun w h => h.pick [0,0,0] rfl)

end Go.Proofs.Ytpoelkfncpjmfaa
