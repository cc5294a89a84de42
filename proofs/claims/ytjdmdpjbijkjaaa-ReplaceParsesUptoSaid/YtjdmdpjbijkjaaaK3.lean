/- The texts that the proof leans on, one behind the other (3 of 6). -/
import Derived.Test.YtjdmdpjbijkjaaaK2
/- class.Bracket: a set and a place, or none. -/
namespace Go.Proofs.Ytjdmdpjbijkjaaa
open Go Go.RowKit

theorem st8_drop (k : Nat) (l : List UInt8) : (⟨l.toArray⟩ : ByteArray).extract k (⟨l.toArray⟩ : ByteArray).size = ⟨(l.drop k).toArray⟩ := by
  apply ByteArray.ext
  rw [ByteArray.data_extract]
  apply Array.ext'
  rw [Array.toList_extract]
  show (l.drop k).take (l.toArray.size - k) = (l.drop k).toArray.toList
  simp only [List.size_toArray]
  exact List.take_of_length_le (by rw [List.length_drop]; omega)
theorem hasP_len {s p : List UInt8} (h : Lib.hasPrefix s p = true) : p.length ≤ s.length := (List.isPrefixOf_iff_prefix.1 h).length_le
theorem cut2_len (s p : List UInt8) : (Lib.cut s p).2.1.length ≤ s.length := by
  unfold Lib.cut
  split <;> simp
theorem hasPrefix8 (s p : List UInt8) (w : World) : Calls Try.prog 62 #[st8 s, .string ⟨p.toArray⟩] w fun e w' => e = .returned (.bool (Lib.hasPrefix s p)) ∧ Below w.heap.size w w' := by
  have := hasPrefix_any ⟨s.toArray⟩ ⟨p.toArray⟩ w
  simpa [st8] using this
theorem cutPrefix8 (s p : List UInt8) (w : World) : Calls Try.prog 61 #[st8 s, .string ⟨p.toArray⟩] w fun e w' => e = .returned (.tuple #[st8 (Lib.trimPrefix s p), .bool (Lib.hasPrefix s p)]) ∧ Below w.heap.size w w' := by
  exact (Try.strings_CutPrefix ⟨s.toArray⟩ ⟨p.toArray⟩ w).mono fun e w' ⟨he, hw⟩ => ⟨by rw [he]; rfl, hw ▸ Below.refl _ _⟩
theorem cut8 (s p : List UInt8) (hs : s.length < 4294967281) (w : World) (hz : MaxHere w) : Calls Try.prog 63 #[st8 s, .string ⟨p.toArray⟩] w fun e w' => e = .returned (.tuple #[st8 (Lib.cut s p).1, st8 (Lib.cut s p).2.1, .bool (Lib.cut s p).2.2]) ∧ Below w.heap.size w w' := by
  obtain ⟨m, hm⟩ := hz
  exact (Try.strings_Cut ⟨s.toArray⟩ ⟨p.toArray⟩ m w (by rw [size_mk]; exact hs) hm).mono fun e w' ⟨he, n, hw⟩ => ⟨by rw [he]; rfl, by rw [hw]; exact ⟨rfl, rfl, rfl, Nat.le_refl _, fun _ _ => rfl⟩⟩

set_option maxRecDepth 100000 in
theorem bracket_any (l : List UInt8) (hl : l.length ≤ 400) (w : World) (hz : MaxHere w) :
    Calls Try.prog 35 #[st8 l] w fun e w' => ∃ x : {x : (Nat → Int) × Int × Int // x.2.2 = 0 → 0 ≤ x.2.1 ∧ x.2.1 ≤ l.length}, e = .returned (.tuple #[.agg (s4C x.1.1).toArray, .int .i64 x.1.2.1, .int .i64 x.1.2.2]) ∧ Below w.heap.size w w' := by
 have hszl := size_mk l
 refine fn_intro Try.func35 rfl Try.ntmps35 rfl rfl ?_
 refine s_ (o_ ?_)
 refine g_alloc rfl rfl Try.zeroValue25 rfl (fun b1 => ?_)
 refine xg 2 [] rfl rfl ?_
 refine n_ (t_ ?_)
 refine g_scope_falls (α := ({x : (Nat → Int) × (Nat → Int) × List UInt8 × Bool × Bool × Nat × Nat // x.2.2.1.length ≤ l.length}) ⊕ (({x : (Nat → Int) × (Nat → Int) × List UInt8 × Bool × Nat × Nat // x.2.2.1.length ≤ l.length}) ⊕ (Unit))) (fun z => match z with | (.inl x) => [(0, st8 l), (2, .pointer (some ⟨b1, 0, none⟩)), (3, .int .i64 0), (4, .int .i64 0), (5, .pointer (some ⟨x.1.2.2.2.2.2.1, 0, none⟩)), (6, .pointer (some ⟨x.1.2.2.2.2.2.2, 0, none⟩)), (7, st8 x.1.2.2.1), (8, .bool x.1.2.2.2.1), (9, .bool x.1.2.2.2.2.1)] | (.inr (.inl x)) => [(0, st8 l), (2, .pointer (some ⟨b1, 0, none⟩)), (3, .int .i64 0), (4, .int .i64 0), (5, .pointer (some ⟨x.1.2.2.2.2.1, 0, none⟩)), (6, .pointer (some ⟨x.1.2.2.2.2.2, 0, none⟩)), (7, st8 x.1.2.2.1), (8, .bool x.1.2.2.2.1)] | (.inr (.inr x)) => [(2, .pointer (some ⟨b1, 0, none⟩)), (3, .int .i64 0), (4, .int .i64 0)]) (fun z => match z with | (.inl x) => St w [] [.cells x.1.2.2.2.2.2.2 25 (s4C x.1.2.1), .cells x.1.2.2.2.2.2.1 25 (s4C x.1.1), .cells b1 25 (s4C s0)] | (.inr (.inl x)) => St w [] [.cells x.1.2.2.2.2.2 25 (s4C x.1.2.1), .cells x.1.2.2.2.2.1 25 (s4C x.1.1), .cells b1 25 (s4C s0)] | (.inr (.inr x)) => St w [] [.cells b1 25 (s4C s0)]) (fun z => match z with | (.inl x) => 2 | (.inr (.inl x)) => 1 | (.inr (.inr x)) => 0) (fun z => match z with | (.inl x) => 3 * x.1.2.2.1.length + 1 | (.inr (.inl x)) => 3 * x.1.2.2.1.length + 2 | (.inr (.inr x)) => 0) ?_ ?_
 ·rintro (x | x | x)
  ·refine ⟨_, rfl, ?_⟩
   dsimp only
   obtain ⟨⟨s, sm, t, turned, first, b2, b3⟩, hx⟩ := x
   dsimp only at hx ⊢
   have hszt := size_mk t
   refine s_ (s_ (o_ ?_))
   refine xg 1 [] rfl rfl ?_
   refine g_call1 rfl rfl rfl Try.call62 (fun w hS => hasPrefix8 t [91, 58] w) ?_
   refine n_ (t_ ?_)
   first | refine g_casep 20 rfl (fun h1 => ?_) fun h1 => ?_ | refine g_caseb 20 rfl (fun h1 => ?_) fun h1 => ?_
   ·refine g_cond_t rfl (s_ ?_)
    have h2t := hasP_len (s := t) (p := [91, 58]) (by assumption)
    have hcut := cut2_len (t.drop 2) [58, 93]
    rw [List.length_drop] at hcut
    simp only [List.length_cons, List.length_nil] at h2t
    refine o_ ?_
    refine xg 1 [] rfl rfl ?_
    refine g_val (v := st8 (t.drop 2)) rfl rfl rfl (y_val (y_sfrom (l := 2) rfl rfl Try.underlying9 (by rw [size_mk]; omega)) (by rw [st8_drop]; rfl)) ?_
    refine g_call1 rfl rfl rfl Try.call63 (fun w hS => cut8 (t.drop 2) [58, 93] (by rw [List.length_drop]; omega) w (hS.maxHere hz (by simp))) ?_
    refine xg 1 [] rfl rfl ?_
    refine g_val (v := st8 (Lib.cut (t.drop 2) [58, 93]).1) rfl rfl rfl (y_extract rfl rfl) ?_
    refine g_val (v := st8 (Lib.cut (t.drop 2) [58, 93]).2.1) rfl rfl rfl (y_extract rfl rfl) ?_
    refine g_val (v := .bool (Lib.cut (t.drop 2) [58, 93]).2.2) rfl rfl rfl (y_extract rfl rfl) ?_
    refine xg 3 [] rfl rfl ?_
    refine ntso_ ?_
    refine xg 1 [] rfl rfl ?_
    refine n_ (t_ (s_ (s_ (o_ ?_))))
    refine xg 1 [] rfl rfl ?_
    refine g_callE (fun x : (Nat → Int) × Bool => .tuple #[.agg (s4C x.1).toArray, .bool x.2]) rfl rfl rfl Try.call64 (fun w hS => named_any _ w) ?_
    rintro ⟨u, ub⟩
    dsimp only
    refine xg 1 [] rfl rfl ?_
    refine g_val (v := .agg (s4C u).toArray) rfl rfl rfl (y_extract rfl rfl) ?_
    refine g_val (v := .bool ub) rfl rfl rfl (y_extract rfl rfl) ?_
    refine g_stN 0 rfl rfl rfl (by kernel_rfl) rfl rfl rfl rfl ?_
    simp only [List.set_cons_zero]
    refine xg 1 [] rfl rfl ?_
    refine ntso_ ?_
    refine xg 3 [] rfl rfl ?_
    first | refine g_casep 35 rfl (fun h2 => ?_) fun h2 => ?_ | refine g_caseb 35 rfl (fun h2 => ?_) fun h2 => ?_
    ·refine xg 3 [] rfl rfl ?_
     refine n_ (t_ (g_cond_t rfl (g_goto (g_then_goto (g_then_goto ?_)))))
     exact g_jump (.inr (.inr ())) [2, 3, 4] rfl (fun j hj => by cases hj; dsimp only; omega) rfl (fun w h => h.pick [2] rfl)
    refine xg 3 [] rfl rfl ?_
    refine n_ (t_ ?_)
    first | refine g_casep 38 rfl (fun h3 => ?_) fun h3 => ?_ | refine g_caseb 38 rfl (fun h3 => ?_) fun h3 => ?_
    ·refine g_cond_t rfl (g_goto (g_then_goto (g_then_goto ?_)))
     exact g_jump (.inr (.inr ())) [2, 3, 4] rfl (fun j hj => by cases hj; dsimp only; omega) rfl (fun w h => h.pick [2] rfl)
    refine g_cond_f rfl (g_skip (t_ (s_ (o_ ?_))))
    refine g_val rfl rfl rfl (y_ldN (vs := (s4C s)) 1 rfl Try.isAgg25 Try.sizeOf25 rfl rfl rfl) ?_
    refine g_val rfl rfl rfl (y_ldN (vs := (s4C u)) 0 rfl Try.isAgg25 Try.sizeOf25 rfl rfl rfl) ?_
    refine g_c1 (both_m s u) any_I rfl rfl rfl ?_
    refine xg 1 [] rfl rfl ?_
    refine g_stN 1 rfl rfl rfl (by kernel_rfl) rfl rfl rfl rfl ?_
    simp only [List.set_cons_zero, List.set_cons_succ]
    refine g_val rfl rfl rfl (y_assign rfl) ?_
    refine n_ (t_ (g_goto (g_then_goto ?_)))
    exact g_jump (.inr (.inl ⟨((bothS s u), u, (Lib.cut (t.drop 2) [58, 93]).2.1, turned, b2, b3), by dsimp only; (try simp only [List.length_drop]); omega⟩)) [0, 2, 3, 4, 5, 6, 7, 8] rfl (fun j hj => by cases hj; dsimp only; omega) rfl (fun w h => h.pick [0,0,0] rfl)
   refine g_cond_f rfl (g_skip (t_ (s_ (s_ (o_ ?_)))))
   refine xg 2 [] rfl rfl ?_
   refine g_callE (fun x : {b : Bool // b = true → t ≠ []} => .bool x.1) rfl rfl rfl Try.call66 (fun w hS => single_any t _ w) ?_
   rintro ⟨sb, hsb⟩
   dsimp only
   refine xg 1 [] rfl rfl ?_
   refine n_ (t_ ?_)
   first | refine g_casep 46 rfl (fun h4 => ?_) fun h4 => ?_ | refine g_caseb 46 rfl (fun h4 => ?_) fun h4 => ?_
   ·refine g_cond_t rfl (g_goto (g_then_goto ?_))
    exact g_jump (.inr (.inr ())) [2, 3, 4] rfl (fun j hj => by cases hj; dsimp only; omega) rfl (fun w h => h.pick [2] rfl)
   refine g_cond_f rfl (g_skip (t_ (s_ (s_ ?_))))
   have htn : t ≠ [] := hsb (by simpa using ‹(!sb) = false›)
   have htl : 0 < t.length := List.length_pos_iff.2 htn
   obtain ⟨c0, hc0, hc08⟩ := st8_get (l := t) (i := 0) htl
   have hc0m := c0.toNat_lt
   refine o_ ?_
   refine xg 4 [0] rfl rfl ?_
   refine g_casep 50 rfl (fun h5 => ?_) fun h5 => ?_
   ·refine xg 1 [] rfl rfl ?_
    obtain ⟨c1, hc1, hc18⟩ := st8_get (l := t) (i := 1) (by omega)
    obtain ⟨c2, hc2, hc28⟩ := st8_get (l := t) (i := 2) (by omega)
    have hc2m := c2.toNat_lt
    refine g_val rfl rfl rfl (y_sidx (i := 1) rfl rfl Try.underlying9 hc18) ?_
    refine xg 3 [0] rfl rfl ?_
    refine g_casep 55 rfl (fun h6 => ?_) fun h6 => ?_
    ·refine xg 1 [] rfl rfl ?_
     refine g_val rfl rfl rfl (y_sidx (i := 2) rfl rfl Try.underlying9 hc28) ?_
     refine xg 2 [0] rfl rfl ?_
     refine n_ (t_ ?_)
     refine g_casep 59 rfl (fun h7 => ?_) fun h7 => ?_
     ·refine g_cond_t rfl (s_ (s_ ?_))
      refine k_go [0,0,0] rfl (by kernel_rfl) (fun _ _ _ _ _ h => h) fun hQ => ?_
      refine k_x 0 [0,0,0] [] hQ (by kernel_rfl) rfl rfl rfl rfl rfl rfl ?_
      refine k_one 1 (by kernel_rfl) ?_
      refine k_op 1 rfl ?_
      refine g_val (v := st8 (t.drop 2)) rfl rfl rfl (y_val (y_sfrom (l := 2) rfl rfl Try.underlying9 (by rw [size_mk]; omega)) (by rw [st8_drop]; rfl)) ?_
      refine n_ ?_
      refine k_end (fun _ h => h.pick [0,0,0] rfl) ?_
      refine k_one 2 (by kernel_rfl) ?_
      refine k_op 2 rfl ?_
      refine g_callE (fun x : {b : Bool // b = true → (t.drop 2) ≠ []} => .bool x.1) rfl rfl rfl Try.call66 (fun w hS => single_any (t.drop 2) _ w) ?_
      rintro ⟨sd, hsd⟩
      dsimp only
      refine n_ ?_
      refine k_end (fun _ h => h.pick [0,0,0] rfl) ?_
      refine k_x 3 [0,0,0] [] hQ (by kernel_rfl) rfl rfl rfl rfl rfl rfl ?_
      refine k_x 4 [0,0,0] [] hQ (by kernel_rfl) rfl rfl rfl rfl rfl rfl ?_
      refine k_all [5,7] (by kernel_rfl) (by simp) ⟨?_, ?_, trivial⟩
      ·refine k_op 5 rfl ?_
       first | refine g_casep 64 rfl (fun h8 => ?_) fun h8 => ?_ | refine g_caseb 64 rfl (fun h8 => ?_) fun h8 => ?_
       ·refine xg 1 [] rfl rfl ?_
        refine n_ ?_
        refine k_end (fun _ h => h.pick [0,0,0] rfl) ?_
        refine k_no 6 [0,0,0] hQ (by kernel_rfl) rfl rfl rfl rfl rfl ?_
        refine k_no 7 [0,0,0] hQ (by kernel_rfl) rfl rfl rfl rfl rfl ?_
        refine k_no 8 [0,0,0] hQ (by kernel_rfl) rfl rfl rfl rfl rfl ?_
        refine k_no 9 [0,0,0] hQ (by kernel_rfl) rfl rfl rfl rfl rfl ?_
        refine k_x 10 [0,0,0] [] hQ (by kernel_rfl) rfl rfl rfl rfl rfl rfl ?_
        refine k_done (by kernel_rfl) ?_
        refine t_ (g_cond_t rfl (g_goto (g_then_goto (g_then_goto ?_))))
        exact g_jump (.inr (.inr ())) [2, 3, 4] rfl (fun j hj => by cases hj; dsimp only; omega) rfl (fun w h => h.pick [2] rfl)
       refine xg 1 [] rfl rfl ?_
       refine n_ ?_
       refine k_end (fun _ h => h.pick [0,0,0] rfl) ?_
       refine k_x 7 [0,0,0] [] hQ (by kernel_rfl) rfl rfl rfl rfl rfl rfl ?_
       refine k_all [6,8] (by kernel_rfl) (by simp) ⟨?_, ?_, trivial⟩
       ·refine k_op 6 rfl ?_
        refine g_val rfl rfl rfl (y_sidx (i := 2) rfl rfl Try.underlying9 hc28) ?_
        refine n_ ?_
        refine k_end (fun _ h => h.pick [0,0,0] rfl) ?_
        refine k_one 8 (by kernel_rfl) ?_
        refine k_op 8 rfl ?_
        refine g_val rfl rfl rfl (y_sidx (i := 0) rfl rfl Try.underlying9 hc08) ?_
        refine n_ ?_
        refine k_end (fun _ h => h.pick [0,0,0] rfl) ?_
        refine k_x 9 [0,0,0] [0] hQ (by kernel_rfl) rfl rfl rfl rfl rfl rfl ?_
        refine k_x 10 [0,0,0] [] hQ (by kernel_rfl) rfl rfl rfl rfl rfl rfl ?_
        refine k_done (by kernel_rfl) ?_
        refine t_ ?_
        refine g_casep 70 rfl (fun h9 => ?_) fun h9 => ?_
        ·refine g_cond_t rfl (g_goto (g_then_goto (g_then_goto ?_)))
         exact g_jump (.inr (.inr ())) [2, 3, 4] rfl (fun j hj => by cases hj; dsimp only; omega) rfl (fun w h => h.pick [2] rfl)
        refine g_cond_f rfl (g_skip (t_ (s_ ?_)))
        refine k_go [0,1] rfl (by kernel_rfl) (fun _ _ _ _ _ h => h) fun hQ => ?_
        refine k_x 1 [0,1] [] hQ (by kernel_rfl) rfl rfl rfl rfl rfl rfl ?_
        refine k_take (v := .int .u8 (c0.toNat : Int)) 2 rfl (by kernel_rfl) hQ rfl rfl rfl (fun _ h => h.pick [0,1] rfl) (y_sidx (i := 0) rfl rfl Try.underlying9 hc08) ?_
        refine k_x 3 [0,1] [] hQ (by kernel_rfl) rfl rfl rfl rfl rfl rfl ?_
        refine k_take (v := .int .u8 (c2.toNat : Int)) 4 rfl (by kernel_rfl) hQ rfl rfl rfl (fun _ h => h.pick [0,1] rfl) (y_sidx (i := 2) rfl rfl Try.underlying9 hc28) ?_
        refine k_x 6 [0,1] [] hQ (by kernel_rfl) rfl rfl rfl rfl rfl rfl ?_
        refine k_take (v := st8 (t.drop 3)) 7 rfl (by kernel_rfl) hQ rfl rfl rfl (fun _ h => h.pick [0,1] rfl) (y_val (y_sfrom (l := 3) rfl rfl Try.underlying9 (by rw [size_mk]; omega)) (by rw [st8_drop]; rfl)) ?_
        refine k_one 0 (by kernel_rfl) ?_
        refine k_op 0 rfl ?_
        refine g_val rfl rfl rfl (y_ldN (vs := (s4C s)) 1 rfl Try.isAgg25 Try.sizeOf25 rfl rfl rfl) ?_
        refine n_ ?_
        refine k_end (fun _ h => h.pick [0,1] rfl) ?_
        refine k_call 5 (cwith_m s c0.toNat c2.toNat (by omega) (by omega)) any_I rfl (by kernel_rfl) hQ rfl rfl rfl (fun _ h => h.pick [0,1] rfl) ?_
        refine k_one 8 (by kernel_rfl) ?_
        refine k_op 8 rfl ?_
        refine g_stN 1 rfl rfl rfl (by kernel_rfl) rfl rfl rfl rfl ?_
        simp only [List.set_cons_zero, List.set_cons_succ]
        refine n_ ?_
        refine k_end (fun _ h => h.pick [0,1] rfl) ?_
        refine k_one 9 (by kernel_rfl) ?_
        refine k_op 9 rfl ?_
        have hdr : (t.drop 3).length = t.length - 3 := List.length_drop ..
        refine g_val rfl rfl rfl (y_assign rfl) ?_
        refine n_ ?_
        refine k_end (fun _ h => h.pick [0,1] rfl) ?_
        refine k_done (by kernel_rfl) ?_
        refine t_ (g_goto (g_then_goto ?_))
        exact g_jump (.inr (.inl ⟨((withS s c0.toNat (c2.toNat + 1 - c0.toNat)), sm, (t.drop 3), turned, b2, b3), by dsimp only; (try simp only [List.length_drop]); omega⟩)) [0, 2, 3, 4, 5, 6, 7, 8] rfl (fun j hj => by cases hj; dsimp only; omega) rfl (fun w h => h.pick [0,0,0] rfl)
       refine k_op 8 rfl ?_
       refine g_val rfl rfl rfl (y_sidx (i := 0) rfl rfl Try.underlying9 hc08) ?_
       refine n_ ?_
       refine k_end (fun _ h => h.pick [0,0,0] rfl) ?_
       refine k_one 6 (by kernel_rfl) ?_
       refine k_op 6 rfl ?_
       refine g_val rfl rfl rfl (y_sidx (i := 2) rfl rfl Try.underlying9 hc28) ?_
       refine n_ ?_
       refine k_end (fun _ h => h.pick [0,0,0] rfl) ?_
       refine k_x 9 [0,0,0] [0] hQ (by kernel_rfl) rfl rfl rfl rfl rfl rfl ?_
       refine k_x 10 [0,0,0] [] hQ (by kernel_rfl) rfl rfl rfl rfl rfl rfl ?_
       refine k_done (by kernel_rfl) ?_
       refine t_ ?_
       refine g_casep 70 rfl (fun h10 => ?_) fun h10 => ?_
       ·refine g_cond_t rfl (g_goto (g_then_goto (g_then_goto ?_)))
        exact g_jump (.inr (.inr ())) [2, 3, 4] rfl (fun j hj => by cases hj; dsimp only; omega) rfl (fun w h => h.pick [2] rfl)
       refine g_cond_f rfl (g_skip (t_ (s_ ?_)))
       refine k_go [0,1] rfl (by kernel_rfl) (fun _ _ _ _ _ h => h) fun hQ => ?_
       refine k_x 1 [0,1] [] hQ (by kernel_rfl) rfl rfl rfl rfl rfl rfl ?_
       refine k_take (v := .int .u8 (c0.toNat : Int)) 2 rfl (by kernel_rfl) hQ rfl rfl rfl (fun _ h => h.pick [0,1] rfl) (y_sidx (i := 0) rfl rfl Try.underlying9 hc08) ?_
       refine k_x 3 [0,1] [] hQ (by kernel_rfl) rfl rfl rfl rfl rfl rfl ?_
       refine k_take (v := .int .u8 (c2.toNat : Int)) 4 rfl (by kernel_rfl) hQ rfl rfl rfl (fun _ h => h.pick [0,1] rfl) (y_sidx (i := 2) rfl rfl Try.underlying9 hc28) ?_
       refine k_x 6 [0,1] [] hQ (by kernel_rfl) rfl rfl rfl rfl rfl rfl ?_
       refine k_take (v := st8 (t.drop 3)) 7 rfl (by kernel_rfl) hQ rfl rfl rfl (fun _ h => h.pick [0,1] rfl) (y_val (y_sfrom (l := 3) rfl rfl Try.underlying9 (by rw [size_mk]; omega)) (by rw [st8_drop]; rfl)) ?_
       refine k_one 0 (by kernel_rfl) ?_
       refine k_op 0 rfl ?_
       refine g_val rfl rfl rfl (y_ldN (vs := (s4C s)) 1 rfl Try.isAgg25 Try.sizeOf25 rfl rfl rfl) ?_
       refine n_ ?_
       refine k_end (fun _ h => h.pick [0,1] rfl) ?_
       refine k_call 5 (cwith_m s c0.toNat c2.toNat (by omega) (by omega)) any_I rfl (by kernel_rfl) hQ rfl rfl rfl (fun _ h => h.pick [0,1] rfl) ?_
       refine k_one 8 (by kernel_rfl) ?_
       refine k_op 8 rfl ?_
       refine g_stN 1 rfl rfl rfl (by kernel_rfl) rfl rfl rfl rfl ?_
       simp only [List.set_cons_zero, List.set_cons_succ]
       refine n_ ?_
       refine k_end (fun _ h => h.pick [0,1] rfl) ?_
       refine k_one 9 (by kernel_rfl) ?_
       refine k_op 9 rfl ?_
       have hdr : (t.drop 3).length = t.length - 3 := List.length_drop ..
       refine g_val rfl rfl rfl (y_assign rfl) ?_
       refine n_ ?_
       refine k_end (fun _ h => h.pick [0,1] rfl) ?_
       refine k_done (by kernel_rfl) ?_
       refine t_ (g_goto (g_then_goto ?_))
       exact g_jump (.inr (.inl ⟨((withS s c0.toNat (c2.toNat + 1 - c0.toNat)), sm, (t.drop 3), turned, b2, b3), by dsimp only; (try simp only [List.length_drop]); omega⟩)) [0, 2, 3, 4, 5, 6, 7, 8] rfl (fun j hj => by cases hj; dsimp only; omega) rfl (fun w h => h.pick [0,0,0] rfl)
      refine k_op 7 rfl ?_
      first | refine g_casep 64 rfl (fun h11 => ?_) fun h11 => ?_ | refine g_caseb 64 rfl (fun h11 => ?_) fun h11 => ?_
      ·refine xg 1 [] rfl rfl ?_
       refine n_ ?_
       refine k_end (fun _ h => h.pick [0,0,0] rfl) ?_
       refine k_no 5 [0,0,0] hQ (by kernel_rfl) rfl rfl rfl rfl rfl ?_
       refine k_no 6 [0,0,0] hQ (by kernel_rfl) rfl rfl rfl rfl rfl ?_
       refine k_no 8 [0,0,0] hQ (by kernel_rfl) rfl rfl rfl rfl rfl ?_
       refine k_no 9 [0,0,0] hQ (by kernel_rfl) rfl rfl rfl rfl rfl ?_
       refine k_x 10 [0,0,0] [] hQ (by kernel_rfl) rfl rfl rfl rfl rfl rfl ?_
       refine k_done (by kernel_rfl) ?_
       refine t_ (g_cond_t rfl (g_goto (g_then_goto (g_then_goto ?_))))
       exact g_jump (.inr (.inr ())) [2, 3, 4] rfl (fun j hj => by cases hj; dsimp only; omega) rfl (fun w h => h.pick [2] rfl)
      refine xg 1 [] rfl rfl ?_
      refine n_ ?_
      refine k_end (fun _ h => h.pick [0,0,0] rfl) ?_
      refine k_x 5 [0,0,0] [] hQ (by kernel_rfl) rfl rfl rfl rfl rfl rfl ?_
      refine k_all [6,8] (by kernel_rfl) (by simp) ⟨?_, ?_, trivial⟩
      ·refine k_op 6 rfl ?_
       refine g_val rfl rfl rfl (y_sidx (i := 2) rfl rfl Try.underlying9 hc28) ?_
       refine n_ ?_
       refine k_end (fun _ h => h.pick [0,0,0] rfl) ?_
       refine k_one 8 (by kernel_rfl) ?_
       refine k_op 8 rfl ?_
       refine g_val rfl rfl rfl (y_sidx (i := 0) rfl rfl Try.underlying9 hc08) ?_
       refine n_ ?_
       refine k_end (fun _ h => h.pick [0,0,0] rfl) ?_
       refine k_x 9 [0,0,0] [0] hQ (by kernel_rfl) rfl rfl rfl rfl rfl rfl ?_
       refine k_x 10 [0,0,0] [] hQ (by kernel_rfl) rfl rfl rfl rfl rfl rfl ?_
       refine k_done (by kernel_rfl) ?_
       refine t_ ?_
       refine g_casep 70 rfl (fun h12 => ?_) fun h12 => ?_
       ·refine g_cond_t rfl (g_goto (g_then_goto (g_then_goto ?_)))
        exact g_jump (.inr (.inr ())) [2, 3, 4] rfl (fun j hj => by cases hj; dsimp only; omega) rfl (fun w h => h.pick [2] rfl)
       refine g_cond_f rfl (g_skip (t_ (s_ ?_)))
       refine k_go [0,1] rfl (by kernel_rfl) (fun _ _ _ _ _ h => h) fun hQ => ?_
       refine k_x 1 [0,1] [] hQ (by kernel_rfl) rfl rfl rfl rfl rfl rfl ?_
       refine k_take (v := .int .u8 (c0.toNat : Int)) 2 rfl (by kernel_rfl) hQ rfl rfl rfl (fun _ h => h.pick [0,1] rfl) (y_sidx (i := 0) rfl rfl Try.underlying9 hc08) ?_
       refine k_x 3 [0,1] [] hQ (by kernel_rfl) rfl rfl rfl rfl rfl rfl ?_
       refine k_take (v := .int .u8 (c2.toNat : Int)) 4 rfl (by kernel_rfl) hQ rfl rfl rfl (fun _ h => h.pick [0,1] rfl) (y_sidx (i := 2) rfl rfl Try.underlying9 hc28) ?_
       refine k_x 6 [0,1] [] hQ (by kernel_rfl) rfl rfl rfl rfl rfl rfl ?_
       refine k_take (v := st8 (t.drop 3)) 7 rfl (by kernel_rfl) hQ rfl rfl rfl (fun _ h => h.pick [0,1] rfl) (y_val (y_sfrom (l := 3) rfl rfl Try.underlying9 (by rw [size_mk]; omega)) (by rw [st8_drop]; rfl)) ?_
       refine k_one 0 (by kernel_rfl) ?_
       refine k_op 0 rfl ?_
       refine g_val rfl rfl rfl (y_ldN (vs := (s4C s)) 1 rfl Try.isAgg25 Try.sizeOf25 rfl rfl rfl) ?_
       refine n_ ?_
       refine k_end (fun _ h => h.pick [0,1] rfl) ?_
       refine k_call 5 (cwith_m s c0.toNat c2.toNat (by omega) (by omega)) any_I rfl (by kernel_rfl) hQ rfl rfl rfl (fun _ h => h.pick [0,1] rfl) ?_
       refine k_one 8 (by kernel_rfl) ?_
       refine k_op 8 rfl ?_
       refine g_stN 1 rfl rfl rfl (by kernel_rfl) rfl rfl rfl rfl ?_
       simp only [List.set_cons_zero, List.set_cons_succ]
       refine n_ ?_
       refine k_end (fun _ h => h.pick [0,1] rfl) ?_
       refine k_one 9 (by kernel_rfl) ?_
       refine k_op 9 rfl ?_
       have hdr : (t.drop 3).length = t.length - 3 := List.length_drop ..
       refine g_val rfl rfl rfl (y_assign rfl) ?_
       refine n_ ?_
       refine k_end (fun _ h => h.pick [0,1] rfl) ?_
       refine k_done (by kernel_rfl) ?_
       refine t_ (g_goto (g_then_goto ?_))
       exact g_jump (.inr (.inl ⟨((withS s c0.toNat (c2.toNat + 1 - c0.toNat)), sm, (t.drop 3), turned, b2, b3), by dsimp only; (try simp only [List.length_drop]); omega⟩)) [0, 2, 3, 4, 5, 6, 7, 8] rfl (fun j hj => by cases hj; dsimp only; omega) rfl (fun w h => h.pick [0,0,0] rfl)
      refine k_op 8 rfl ?_
      refine g_val rfl rfl rfl (y_sidx (i := 0) rfl rfl Try.underlying9 hc08) ?_
      refine n_ ?_
      refine k_end (fun _ h => h.pick [0,0,0] rfl) ?_
      refine k_one 6 (by kernel_rfl) ?_
      refine k_op 6 rfl ?_
      refine g_val rfl rfl rfl (y_sidx (i := 2) rfl rfl Try.underlying9 hc28) ?_
      refine n_ ?_
      refine k_end (fun _ h => h.pick [0,0,0] rfl) ?_
      refine k_x 9 [0,0,0] [0] hQ (by kernel_rfl) rfl rfl rfl rfl rfl rfl ?_
      refine k_x 10 [0,0,0] [] hQ (by kernel_rfl) rfl rfl rfl rfl rfl rfl ?_
      refine k_done (by kernel_rfl) ?_
      refine t_ ?_
      refine g_casep 70 rfl (fun h13 => ?_) fun h13 => ?_
      ·refine g_cond_t rfl (g_goto (g_then_goto (g_then_goto ?_)))
       exact g_jump (.inr (.inr ())) [2, 3, 4] rfl (fun j hj => by cases hj; dsimp only; omega) rfl (fun w h => h.pick [2] rfl)
      refine g_cond_f rfl (g_skip (t_ (s_ ?_)))
      refine k_go [0,1] rfl (by kernel_rfl) (fun _ _ _ _ _ h => h) fun hQ => ?_
      refine k_x 1 [0,1] [] hQ (by kernel_rfl) rfl rfl rfl rfl rfl rfl ?_
      refine k_take (v := .int .u8 (c0.toNat : Int)) 2 rfl (by kernel_rfl) hQ rfl rfl rfl (fun _ h => h.pick [0,1] rfl) (y_sidx (i := 0) rfl rfl Try.underlying9 hc08) ?_
      refine k_x 3 [0,1] [] hQ (by kernel_rfl) rfl rfl rfl rfl rfl rfl ?_
      refine k_take (v := .int .u8 (c2.toNat : Int)) 4 rfl (by kernel_rfl) hQ rfl rfl rfl (fun _ h => h.pick [0,1] rfl) (y_sidx (i := 2) rfl rfl Try.underlying9 hc28) ?_
      refine k_x 6 [0,1] [] hQ (by kernel_rfl) rfl rfl rfl rfl rfl rfl ?_
      refine k_take (v := st8 (t.drop 3)) 7 rfl (by kernel_rfl) hQ rfl rfl rfl (fun _ h => h.pick [0,1] rfl) (y_val (y_sfrom (l := 3) rfl rfl Try.underlying9 (by rw [size_mk]; omega)) (by rw [st8_drop]; rfl)) ?_
      refine k_one 0 (by kernel_rfl) ?_
      refine k_op 0 rfl ?_
      refine g_val rfl rfl rfl (y_ldN (vs := (s4C s)) 1 rfl Try.isAgg25 Try.sizeOf25 rfl rfl rfl) ?_
      refine n_ ?_
      refine k_end (fun _ h => h.pick [0,1] rfl) ?_
      refine k_call 5 (cwith_m s c0.toNat c2.toNat (by omega) (by omega)) any_I rfl (by kernel_rfl) hQ rfl rfl rfl (fun _ h => h.pick [0,1] rfl) ?_
      refine k_one 8 (by kernel_rfl) ?_
      refine k_op 8 rfl ?_
      refine g_stN 1 rfl rfl rfl (by kernel_rfl) rfl rfl rfl rfl ?_
      simp only [List.set_cons_zero, List.set_cons_succ]
      refine n_ ?_
      refine k_end (fun _ h => h.pick [0,1] rfl) ?_
      refine k_one 9 (by kernel_rfl) ?_
      refine k_op 9 rfl ?_
      have hdr : (t.drop 3).length = t.length - 3 := List.length_drop ..
      refine g_val rfl rfl rfl (y_assign rfl) ?_
      refine n_ ?_
      refine k_end (fun _ h => h.pick [0,1] rfl) ?_
      refine k_done (by kernel_rfl) ?_
      refine t_ (g_goto (g_then_goto ?_))
      exact g_jump (.inr (.inl ⟨((withS s c0.toNat (c2.toNat + 1 - c0.toNat)), sm, (t.drop 3), turned, b2, b3), by dsimp only; (try simp only [List.length_drop]); omega⟩)) [0, 2, 3, 4, 5, 6, 7, 8] rfl (fun j hj => by cases hj; dsimp only; omega) rfl (fun w h => h.pick [0,0,0] rfl)
     refine g_cond_f rfl (g_skip (t_ (s_ ?_)))
     refine k_go [0,1] rfl (by kernel_rfl) (fun _ _ _ _ _ h => h) fun hQ => ?_
     refine k_x 1 [0,1] [] hQ (by kernel_rfl) rfl rfl rfl rfl rfl rfl ?_
     refine k_take (v := .int .u8 (c0.toNat : Int)) 2 rfl (by kernel_rfl) hQ rfl rfl rfl (fun _ h => h.pick [0,1] rfl) (y_sidx (i := 0) rfl rfl Try.underlying9 hc08) ?_
     refine k_x 3 [0,1] [] hQ (by kernel_rfl) rfl rfl rfl rfl rfl rfl ?_
     refine k_take (v := .int .u8 (c0.toNat : Int)) 4 rfl (by kernel_rfl) hQ rfl rfl rfl (fun _ h => h.pick [0,1] rfl) (y_sidx (i := 0) rfl rfl Try.underlying9 hc08) ?_
     refine k_x 6 [0,1] [] hQ (by kernel_rfl) rfl rfl rfl rfl rfl rfl ?_
     refine k_take (v := st8 (t.drop 1)) 7 rfl (by kernel_rfl) hQ rfl rfl rfl (fun _ h => h.pick [0,1] rfl) (y_val (y_sfrom (l := 1) rfl rfl Try.underlying9 (by rw [size_mk]; omega)) (by rw [st8_drop]; rfl)) ?_
     refine k_one 0 (by kernel_rfl) ?_
     refine k_op 0 rfl ?_
     refine g_val rfl rfl rfl (y_ldN (vs := (s4C s)) 1 rfl Try.isAgg25 Try.sizeOf25 rfl rfl rfl) ?_
     refine n_ ?_
     refine k_end (fun _ h => h.pick [0,1] rfl) ?_
     refine k_call 5 (cwith_m s c0.toNat c0.toNat (by omega) (by omega)) any_I rfl (by kernel_rfl) hQ rfl rfl rfl (fun _ h => h.pick [0,1] rfl) ?_
     refine k_one 8 (by kernel_rfl) ?_
     refine k_op 8 rfl ?_
     refine g_stN 1 rfl rfl rfl (by kernel_rfl) rfl rfl rfl rfl ?_
     simp only [List.set_cons_zero, List.set_cons_succ]
     refine n_ ?_
     refine k_end (fun _ h => h.pick [0,1] rfl) ?_
     refine k_one 9 (by kernel_rfl) ?_
     refine k_op 9 rfl ?_
     have hdr : (t.drop 1).length = t.length - 1 := List.length_drop ..
     refine g_val rfl rfl rfl (y_assign rfl) ?_
     refine n_ ?_
     refine k_end (fun _ h => h.pick [0,1] rfl) ?_
     refine k_done (by kernel_rfl) ?_
     refine t_ (s_ (g_label (t_ (s_ (o_ ?_)))))
     refine xg 1 [] rfl rfl ?_
     refine n_ (t_ (s_ (s_ (o_ ?_))))
     refine xg 1 [] rfl rfl ?_
     refine g_call1 rfl rfl rfl Try.call62 (fun w hS => hasPrefix8 (t.drop 1) [93] w) ?_
     refine xg 1 [] rfl rfl ?_
     refine n_ (t_ ?_)
     first | refine g_casep 89 rfl (fun h14 => ?_) fun h14 => ?_ | refine g_caseb 89 rfl (fun h14 => ?_) fun h14 => ?_
     ·refine g_cond_t rfl (g_goto (g_then_goto ?_))
      exact g_jump (.inl ⟨((withS s c0.toNat (c0.toNat + 1 - c0.toNat)), sm, (t.drop 1), turned, false, b2, b3), by dsimp only; (try simp only [List.length_drop]); omega⟩) [0, 2, 3, 4, 5, 6, 7, 8, 9] rfl (fun j hj => by cases hj; dsimp only; omega) rfl (fun w h => h.pick [0,0,0] rfl)
     refine g_cond_f rfl (g_skip (t_ (s_ (s_ (o_ ?_)))))
     refine xg 1 [] rfl rfl ?_
     refine n_ (t_ ?_)
     first | refine g_casep 90 rfl (fun h15 => ?_) fun h15 => ?_ | refine g_caseb 90 rfl (fun h15 => ?_) fun h15 => ?_
     ·refine g_cond_t rfl (o_ ?_)
      refine g_val rfl rfl rfl (y_ldN (vs := (s4C (withS s c0.toNat (c0.toNat + 1 - c0.toNat)))) 1 rfl Try.isAgg25 Try.sizeOf25 rfl rfl rfl) ?_
      refine g_c1 (cwith_m (withS s c0.toNat (c0.toNat + 1 - c0.toNat)) 10 10 (by decide) (by decide)) any_I rfl rfl rfl ?_
      refine g_c1 (not_m (withS (withS s c0.toNat (c0.toNat + 1 - c0.toNat)) 10 (10 + 1 - 10))) any_I rfl rfl rfl ?_
      refine g_stN 1 rfl rfl rfl (by kernel_rfl) rfl rfl rfl rfl ?_
      simp only [List.set_cons_zero, List.set_cons_succ]
      refine n_ (t_ (s_ (s_ ?_)))
      have h93 := hasP_len (s := (t.drop 1)) (p := [93]) (by simpa using ‹(!Lib.hasPrefix (t.drop 1) [93]) = false›)
      simp only [List.length_cons, List.length_nil] at h93
      have hszq := size_mk (t.drop 1)
      refine o_ ?_
      refine g_val rfl rfl rfl (y_ldN (vs := (s4C (notS (withS (withS s c0.toNat (c0.toNat + 1 - c0.toNat)) 10 (10 + 1 - 10))))) 1 rfl Try.isAgg25 Try.sizeOf25 rfl rfl rfl) ?_
      refine xg 6 [] rfl (by omega) ?_
      refine g_stN 2 rfl rfl rfl (by kernel_rfl) rfl rfl rfl rfl ?_
      simp only [List.set_cons_zero, List.set_cons_succ]
      refine xg 2 [] rfl rfl ?_
      refine n_ (t_ (g_ret (g_then_ret (g_jumps_ret ?_))))
      refine g_end_cell3 2 Try.results35 rfl rfl rfl rfl Try.isAgg25 Try.sizeOf25 rfl ?_
      exact fun w hS => ⟨⟨((notS (withS (withS s c0.toNat (c0.toNat + 1 - c0.toNat)) 10 (10 + 1 - 10))), _, 0), fun _ => ⟨by dsimp only; omega, by dsimp only; omega⟩⟩, rfl, hS.below⟩
     refine g_cond_f rfl (g_skip (t_ (s_ (s_ ?_))))
     have h93 := hasP_len (s := (t.drop 1)) (p := [93]) (by simpa using ‹(!Lib.hasPrefix (t.drop 1) [93]) = false›)
     simp only [List.length_cons, List.length_nil] at h93
     have hszq := size_mk (t.drop 1)
     refine o_ ?_
     refine g_val rfl rfl rfl (y_ldN (vs := (s4C (withS s c0.toNat (c0.toNat + 1 - c0.toNat)))) 1 rfl Try.isAgg25 Try.sizeOf25 rfl rfl rfl) ?_
     refine xg 6 [] rfl (by omega) ?_
     refine g_stN 2 rfl rfl rfl (by kernel_rfl) rfl rfl rfl rfl ?_
     simp only [List.set_cons_zero, List.set_cons_succ]
     refine xg 2 [] rfl rfl ?_
     refine n_ (t_ (g_ret (g_then_ret (g_jumps_ret ?_))))
     refine g_end_cell3 2 Try.results35 rfl rfl rfl rfl Try.isAgg25 Try.sizeOf25 rfl ?_
     exact fun w hS => ⟨⟨((withS s c0.toNat (c0.toNat + 1 - c0.toNat)), _, 0), fun _ => ⟨by dsimp only; omega, by dsimp only; omega⟩⟩, rfl, hS.below⟩
    refine xg 4 [] rfl rfl ?_
    refine n_ (t_ (g_cond_f rfl (g_skip (t_ (s_ ?_)))))
    refine k_go [0,1] rfl (by kernel_rfl) (fun _ _ _ _ _ h => h) fun hQ => ?_
    refine k_x 1 [0,1] [] hQ (by kernel_rfl) rfl rfl rfl rfl rfl rfl ?_
    refine k_take (v := .int .u8 (c0.toNat : Int)) 2 rfl (by kernel_rfl) hQ rfl rfl rfl (fun _ h => h.pick [0,1] rfl) (y_sidx (i := 0) rfl rfl Try.underlying9 hc08) ?_
    refine k_x 3 [0,1] [] hQ (by kernel_rfl) rfl rfl rfl rfl rfl rfl ?_
    refine k_take (v := .int .u8 (c0.toNat : Int)) 4 rfl (by kernel_rfl) hQ rfl rfl rfl (fun _ h => h.pick [0,1] rfl) (y_sidx (i := 0) rfl rfl Try.underlying9 hc08) ?_
    refine k_x 6 [0,1] [] hQ (by kernel_rfl) rfl rfl rfl rfl rfl rfl ?_
    refine k_take (v := st8 (t.drop 1)) 7 rfl (by kernel_rfl) hQ rfl rfl rfl (fun _ h => h.pick [0,1] rfl) (y_val (y_sfrom (l := 1) rfl rfl Try.underlying9 (by rw [size_mk]; omega)) (by rw [st8_drop]; rfl)) ?_
    refine k_one 0 (by kernel_rfl) ?_
    refine k_op 0 rfl ?_
    refine g_val rfl rfl rfl (y_ldN (vs := (s4C s)) 1 rfl Try.isAgg25 Try.sizeOf25 rfl rfl rfl) ?_
    refine n_ ?_
    refine k_end (fun _ h => h.pick [0,1] rfl) ?_
    refine k_call 5 (cwith_m s c0.toNat c0.toNat (by omega) (by omega)) any_I rfl (by kernel_rfl) hQ rfl rfl rfl (fun _ h => h.pick [0,1] rfl) ?_
    refine k_one 8 (by kernel_rfl) ?_
    refine k_op 8 rfl ?_
    refine g_stN 1 rfl rfl rfl (by kernel_rfl) rfl rfl rfl rfl ?_
    simp only [List.set_cons_zero, List.set_cons_succ]
    refine n_ ?_
    refine k_end (fun _ h => h.pick [0,1] rfl) ?_
    refine k_one 9 (by kernel_rfl) ?_
    refine k_op 9 rfl ?_
    have hdr : (t.drop 1).length = t.length - 1 := List.length_drop ..
    refine g_val rfl rfl rfl (y_assign rfl) ?_
    refine n_ ?_
    refine k_end (fun _ h => h.pick [0,1] rfl) ?_
    refine k_done (by kernel_rfl) ?_
    refine t_ (s_ (g_label (t_ (s_ (o_ ?_)))))
    refine xg 1 [] rfl rfl ?_
    refine n_ (t_ (s_ (s_ (o_ ?_))))
    refine xg 1 [] rfl rfl ?_
    refine g_call1 rfl rfl rfl Try.call62 (fun w hS => hasPrefix8 (t.drop 1) [93] w) ?_
    refine xg 1 [] rfl rfl ?_
    refine n_ (t_ ?_)
    first | refine g_casep 89 rfl (fun h16 => ?_) fun h16 => ?_ | refine g_caseb 89 rfl (fun h16 => ?_) fun h16 => ?_
    ·refine g_cond_t rfl (g_goto (g_then_goto ?_))
     exact g_jump (.inl ⟨((withS s c0.toNat (c0.toNat + 1 - c0.toNat)), sm, (t.drop 1), turned, false, b2, b3), by dsimp only; (try simp only [List.length_drop]); omega⟩) [0, 2, 3, 4, 5, 6, 7, 8, 9] rfl (fun j hj => by cases hj; dsimp only; omega) rfl (fun w h => h.pick [0,0,0] rfl)
    refine g_cond_f rfl (g_skip (t_ (s_ (s_ (o_ ?_)))))
    refine xg 1 [] rfl rfl ?_
    refine n_ (t_ ?_)
    first | refine g_casep 90 rfl (fun h17 => ?_) fun h17 => ?_ | refine g_caseb 90 rfl (fun h17 => ?_) fun h17 => ?_
    ·refine g_cond_t rfl (o_ ?_)
     refine g_val rfl rfl rfl (y_ldN (vs := (s4C (withS s c0.toNat (c0.toNat + 1 - c0.toNat)))) 1 rfl Try.isAgg25 Try.sizeOf25 rfl rfl rfl) ?_
     refine g_c1 (cwith_m (withS s c0.toNat (c0.toNat + 1 - c0.toNat)) 10 10 (by decide) (by decide)) any_I rfl rfl rfl ?_
     refine g_c1 (not_m (withS (withS s c0.toNat (c0.toNat + 1 - c0.toNat)) 10 (10 + 1 - 10))) any_I rfl rfl rfl ?_
     refine g_stN 1 rfl rfl rfl (by kernel_rfl) rfl rfl rfl rfl ?_
     simp only [List.set_cons_zero, List.set_cons_succ]
     refine n_ (t_ (s_ (s_ ?_)))
     have h93 := hasP_len (s := (t.drop 1)) (p := [93]) (by simpa using ‹(!Lib.hasPrefix (t.drop 1) [93]) = false›)
     simp only [List.length_cons, List.length_nil] at h93
     have hszq := size_mk (t.drop 1)
     refine o_ ?_
     refine g_val rfl rfl rfl (y_ldN (vs := (s4C (notS (withS (withS s c0.toNat (c0.toNat + 1 - c0.toNat)) 10 (10 + 1 - 10))))) 1 rfl Try.isAgg25 Try.sizeOf25 rfl rfl rfl) ?_
     refine xg 6 [] rfl (by omega) ?_
     refine g_stN 2 rfl rfl rfl (by kernel_rfl) rfl rfl rfl rfl ?_
     simp only [List.set_cons_zero, List.set_cons_succ]
     refine xg 2 [] rfl rfl ?_
     refine n_ (t_ (g_ret (g_then_ret (g_jumps_ret ?_))))
     refine g_end_cell3 2 Try.results35 rfl rfl rfl rfl Try.isAgg25 Try.sizeOf25 rfl ?_
     exact fun w hS => ⟨⟨((notS (withS (withS s c0.toNat (c0.toNat + 1 - c0.toNat)) 10 (10 + 1 - 10))), _, 0), fun _ => ⟨by dsimp only; omega, by dsimp only; omega⟩⟩, rfl, hS.below⟩
    refine g_cond_f rfl (g_skip (t_ (s_ (s_ ?_))))
    have h93 := hasP_len (s := (t.drop 1)) (p := [93]) (by simpa using ‹(!Lib.hasPrefix (t.drop 1) [93]) = false›)
    simp only [List.length_cons, List.length_nil] at h93
    have hszq := size_mk (t.drop 1)
    refine o_ ?_
    refine g_val rfl rfl rfl (y_ldN (vs := (s4C (withS s c0.toNat (c0.toNat + 1 - c0.toNat)))) 1 rfl Try.isAgg25 Try.sizeOf25 rfl rfl rfl) ?_
    refine xg 6 [] rfl (by omega) ?_
    refine g_stN 2 rfl rfl rfl (by kernel_rfl) rfl rfl rfl rfl ?_
    simp only [List.set_cons_zero, List.set_cons_succ]
    refine xg 2 [] rfl rfl ?_
    refine n_ (t_ (g_ret (g_then_ret (g_jumps_ret ?_))))
    refine g_end_cell3 2 Try.results35 rfl rfl rfl rfl Try.isAgg25 Try.sizeOf25 rfl ?_
    exact fun w hS => ⟨⟨((withS s c0.toNat (c0.toNat + 1 - c0.toNat)), _, 0), fun _ => ⟨by dsimp only; omega, by dsimp only; omega⟩⟩, rfl, hS.below⟩
   refine xg 9 [] rfl rfl ?_
   refine n_ (t_ (g_cond_f rfl (g_skip (t_ (s_ ?_)))))
   refine k_go [0,1] rfl (by kernel_rfl) (fun _ _ _ _ _ h => h) fun hQ => ?_
   refine k_x 1 [0,1] [] hQ (by kernel_rfl) rfl rfl rfl rfl rfl rfl ?_
   refine k_take (v := .int .u8 (c0.toNat : Int)) 2 rfl (by kernel_rfl) hQ rfl rfl rfl (fun _ h => h.pick [0,1] rfl) (y_sidx (i := 0) rfl rfl Try.underlying9 hc08) ?_
   refine k_x 3 [0,1] [] hQ (by kernel_rfl) rfl rfl rfl rfl rfl rfl ?_
   refine k_take (v := .int .u8 (c0.toNat : Int)) 4 rfl (by kernel_rfl) hQ rfl rfl rfl (fun _ h => h.pick [0,1] rfl) (y_sidx (i := 0) rfl rfl Try.underlying9 hc08) ?_
   refine k_x 6 [0,1] [] hQ (by kernel_rfl) rfl rfl rfl rfl rfl rfl ?_
   refine k_take (v := st8 (t.drop 1)) 7 rfl (by kernel_rfl) hQ rfl rfl rfl (fun _ h => h.pick [0,1] rfl) (y_val (y_sfrom (l := 1) rfl rfl Try.underlying9 (by rw [size_mk]; omega)) (by rw [st8_drop]; rfl)) ?_
   refine k_one 0 (by kernel_rfl) ?_
   refine k_op 0 rfl ?_
   refine g_val rfl rfl rfl (y_ldN (vs := (s4C s)) 1 rfl Try.isAgg25 Try.sizeOf25 rfl rfl rfl) ?_
   refine n_ ?_
   refine k_end (fun _ h => h.pick [0,1] rfl) ?_
   refine k_call 5 (cwith_m s c0.toNat c0.toNat (by omega) (by omega)) any_I rfl (by kernel_rfl) hQ rfl rfl rfl (fun _ h => h.pick [0,1] rfl) ?_
   refine k_one 8 (by kernel_rfl) ?_
   refine k_op 8 rfl ?_
   refine g_stN 1 rfl rfl rfl (by kernel_rfl) rfl rfl rfl rfl ?_
   simp only [List.set_cons_zero, List.set_cons_succ]
   refine n_ ?_
   refine k_end (fun _ h => h.pick [0,1] rfl) ?_
   refine k_one 9 (by kernel_rfl) ?_
   refine k_op 9 rfl ?_
   have hdr : (t.drop 1).length = t.length - 1 := List.length_drop ..
   refine g_val rfl rfl rfl (y_assign rfl) ?_
   refine n_ ?_
   refine k_end (fun _ h => h.pick [0,1] rfl) ?_
   refine k_done (by kernel_rfl) ?_
   refine t_ (s_ (g_label (t_ (s_ (o_ ?_)))))
   refine xg 1 [] rfl rfl ?_
   refine n_ (t_ (s_ (s_ (o_ ?_))))
   refine xg 1 [] rfl rfl ?_
   refine g_call1 rfl rfl rfl Try.call62 (fun w hS => hasPrefix8 (t.drop 1) [93] w) ?_
   refine xg 1 [] rfl rfl ?_
   refine n_ (t_ ?_)
   first | refine g_casep 89 rfl (fun h18 => ?_) fun h18 => ?_ | refine g_caseb 89 rfl (fun h18 => ?_) fun h18 => ?_
   ·refine g_cond_t rfl (g_goto (g_then_goto ?_))
    exact g_jump (.inl ⟨((withS s c0.toNat (c0.toNat + 1 - c0.toNat)), sm, (t.drop 1), turned, false, b2, b3), by dsimp only; (try simp only [List.length_drop]); omega⟩) [0, 2, 3, 4, 5, 6, 7, 8, 9] rfl (fun j hj => by cases hj; dsimp only; omega) rfl (fun w h => h.pick [0,0,0] rfl)
   refine g_cond_f rfl (g_skip (t_ (s_ (s_ (o_ ?_)))))
   refine xg 1 [] rfl rfl ?_
   refine n_ (t_ ?_)
   first | refine g_casep 90 rfl (fun h19 => ?_) fun h19 => ?_ | refine g_caseb 90 rfl (fun h19 => ?_) fun h19 => ?_
   ·refine g_cond_t rfl (o_ ?_)
    refine g_val rfl rfl rfl (y_ldN (vs := (s4C (withS s c0.toNat (c0.toNat + 1 - c0.toNat)))) 1 rfl Try.isAgg25 Try.sizeOf25 rfl rfl rfl) ?_
    refine g_c1 (cwith_m (withS s c0.toNat (c0.toNat + 1 - c0.toNat)) 10 10 (by decide) (by decide)) any_I rfl rfl rfl ?_
    refine g_c1 (not_m (withS (withS s c0.toNat (c0.toNat + 1 - c0.toNat)) 10 (10 + 1 - 10))) any_I rfl rfl rfl ?_
    refine g_stN 1 rfl rfl rfl (by kernel_rfl) rfl rfl rfl rfl ?_
    simp only [List.set_cons_zero, List.set_cons_succ]
    refine n_ (t_ (s_ (s_ ?_)))
    have h93 := hasP_len (s := (t.drop 1)) (p := [93]) (by simpa using ‹(!Lib.hasPrefix (t.drop 1) [93]) = false›)
    simp only [List.length_cons, List.length_nil] at h93
    have hszq := size_mk (t.drop 1)
    refine o_ ?_
    refine g_val rfl rfl rfl (y_ldN (vs := (s4C (notS (withS (withS s c0.toNat (c0.toNat + 1 - c0.toNat)) 10 (10 + 1 - 10))))) 1 rfl Try.isAgg25 Try.sizeOf25 rfl rfl rfl) ?_
    refine xg 6 [] rfl (by omega) ?_
    refine g_stN 2 rfl rfl rfl (by kernel_rfl) rfl rfl rfl rfl ?_
    simp only [List.set_cons_zero, List.set_cons_succ]
    refine xg 2 [] rfl rfl ?_
    refine n_ (t_ (g_ret (g_then_ret (g_jumps_ret ?_))))
    refine g_end_cell3 2 Try.results35 rfl rfl rfl rfl Try.isAgg25 Try.sizeOf25 rfl ?_
    exact fun w hS => ⟨⟨((notS (withS (withS s c0.toNat (c0.toNat + 1 - c0.toNat)) 10 (10 + 1 - 10))), _, 0), fun _ => ⟨by dsimp only; omega, by dsimp only; omega⟩⟩, rfl, hS.below⟩
   refine g_cond_f rfl (g_skip (t_ (s_ (s_ ?_))))
   have h93 := hasP_len (s := (t.drop 1)) (p := [93]) (by simpa using ‹(!Lib.hasPrefix (t.drop 1) [93]) = false›)
   simp only [List.length_cons, List.length_nil] at h93
   have hszq := size_mk (t.drop 1)
   refine o_ ?_
   refine g_val rfl rfl rfl (y_ldN (vs := (s4C (withS s c0.toNat (c0.toNat + 1 - c0.toNat)))) 1 rfl Try.isAgg25 Try.sizeOf25 rfl rfl rfl) ?_
   refine xg 6 [] rfl (by omega) ?_
   refine g_stN 2 rfl rfl rfl (by kernel_rfl) rfl rfl rfl rfl ?_
   simp only [List.set_cons_zero, List.set_cons_succ]
   refine xg 2 [] rfl rfl ?_
   refine n_ (t_ (g_ret (g_then_ret (g_jumps_ret ?_))))
   refine g_end_cell3 2 Try.results35 rfl rfl rfl rfl Try.isAgg25 Try.sizeOf25 rfl ?_
   exact fun w hS => ⟨⟨((withS s c0.toNat (c0.toNat + 1 - c0.toNat)), _, 0), fun _ => ⟨by dsimp only; omega, by dsimp only; omega⟩⟩, rfl, hS.below⟩
  ·refine ⟨_, rfl, ?_⟩
   dsimp only
   obtain ⟨⟨s, sm, t, turned, b2, b3⟩, hx⟩ := x
   dsimp only at hx ⊢
   have hszt := size_mk t
   refine s_ (o_ ?_)
   refine xg 1 [] rfl rfl ?_
   refine n_ (t_ (s_ (s_ (o_ ?_))))
   refine xg 1 [] rfl rfl ?_
   refine g_call1 rfl rfl rfl Try.call62 (fun w hS => hasPrefix8 t [93] w) ?_
   refine xg 1 [] rfl rfl ?_
   refine n_ (t_ ?_)
   first | refine g_casep 89 rfl (fun h20 => ?_) fun h20 => ?_ | refine g_caseb 89 rfl (fun h20 => ?_) fun h20 => ?_
   ·refine g_cond_t rfl (g_goto (g_then_goto ?_))
    exact g_jump (.inl ⟨(s, sm, t, turned, false, b2, b3), by dsimp only; (try simp only [List.length_drop]); omega⟩) [0, 2, 3, 4, 5, 6, 7, 8, 9] rfl (fun j hj => by cases hj; dsimp only; omega) rfl (fun w h => h.pick [0,0,0] rfl)
   refine g_cond_f rfl (g_skip (t_ (s_ (s_ (o_ ?_)))))
   refine xg 1 [] rfl rfl ?_
   refine n_ (t_ ?_)
   first | refine g_casep 90 rfl (fun h21 => ?_) fun h21 => ?_ | refine g_caseb 90 rfl (fun h21 => ?_) fun h21 => ?_
   ·refine g_cond_t rfl (o_ ?_)
    refine g_val rfl rfl rfl (y_ldN (vs := (s4C s)) 1 rfl Try.isAgg25 Try.sizeOf25 rfl rfl rfl) ?_
    refine g_c1 (cwith_m s 10 10 (by decide) (by decide)) any_I rfl rfl rfl ?_
    refine g_c1 (not_m (withS s 10 (10 + 1 - 10))) any_I rfl rfl rfl ?_
    refine g_stN 1 rfl rfl rfl (by kernel_rfl) rfl rfl rfl rfl ?_
    simp only [List.set_cons_zero, List.set_cons_succ]
    refine n_ (t_ (s_ (s_ ?_)))
    have h93 := hasP_len (s := t) (p := [93]) (by simpa using ‹(!Lib.hasPrefix t [93]) = false›)
    simp only [List.length_cons, List.length_nil] at h93
    have hszq := size_mk t
    refine o_ ?_
    refine g_val rfl rfl rfl (y_ldN (vs := (s4C (notS (withS s 10 (10 + 1 - 10))))) 1 rfl Try.isAgg25 Try.sizeOf25 rfl rfl rfl) ?_
    refine xg 6 [] rfl (by omega) ?_
    refine g_stN 2 rfl rfl rfl (by kernel_rfl) rfl rfl rfl rfl ?_
    simp only [List.set_cons_zero, List.set_cons_succ]
    refine xg 2 [] rfl rfl ?_
    refine n_ (t_ (g_ret (g_then_ret (g_jumps_ret ?_))))
    refine g_end_cell3 2 Try.results35 rfl rfl rfl rfl Try.isAgg25 Try.sizeOf25 rfl ?_
    exact fun w hS => ⟨⟨((notS (withS s 10 (10 + 1 - 10))), _, 0), fun _ => ⟨by dsimp only; omega, by dsimp only; omega⟩⟩, rfl, hS.below⟩
   refine g_cond_f rfl (g_skip (t_ (s_ (s_ ?_))))
   have h93 := hasP_len (s := t) (p := [93]) (by simpa using ‹(!Lib.hasPrefix t [93]) = false›)
   simp only [List.length_cons, List.length_nil] at h93
   have hszq := size_mk t
   refine o_ ?_
   refine g_val rfl rfl rfl (y_ldN (vs := (s4C s)) 1 rfl Try.isAgg25 Try.sizeOf25 rfl rfl rfl) ?_
   refine xg 6 [] rfl (by omega) ?_
   refine g_stN 2 rfl rfl rfl (by kernel_rfl) rfl rfl rfl rfl ?_
   simp only [List.set_cons_zero, List.set_cons_succ]
   refine xg 2 [] rfl rfl ?_
   refine n_ (t_ (g_ret (g_then_ret (g_jumps_ret ?_))))
   refine g_end_cell3 2 Try.results35 rfl rfl rfl rfl Try.isAgg25 Try.sizeOf25 rfl ?_
   exact fun w hS => ⟨⟨(s, _, 0), fun _ => ⟨by dsimp only; omega, by dsimp only; omega⟩⟩, rfl, hS.below⟩
  ·refine ⟨_, rfl, ?_⟩
   dsimp only
   refine s_ (o_ ?_)
   refine g_val (v := .agg (s4C s0).toArray) rfl rfl rfl (y_build (offs := []) rfl Try.zeroValue25 (by kernel_rfl)) ?_
   refine g_stN 0 rfl rfl rfl (by kernel_rfl) rfl rfl rfl rfl ?_
   simp only [List.set_cons_zero]
   refine xg 2 [] rfl rfl ?_
   refine n_ (t_ (g_ret (g_jumps_ret ?_)))
   refine g_end_cell3 0 Try.results35 rfl rfl rfl rfl Try.isAgg25 Try.sizeOf25 rfl ?_
   exact fun w hS => ⟨⟨(s0, 0, 81), fun h => absurd h (by decide)⟩, rfl, hS.below⟩
 ·intro hp
  refine s_ (o_ ?_)
  refine g_alloc rfl rfl Try.zeroValue25 rfl (fun b2 => ?_)
  refine g_alloc rfl rfl Try.zeroValue25 rfl (fun b3 => ?_)
  refine n_ (t_ (s_ ?_))
  have htrim := Lib.trimPrefix_le l [94]
  refine o_ ?_
  refine xg 1 [] rfl rfl ?_
  refine g_call1 rfl rfl rfl Try.call61 (fun w hS => cutPrefix8 l [94] w) ?_
  refine xg 1 [] rfl rfl ?_
  refine g_val (v := st8 (Lib.trimPrefix l [94])) rfl rfl rfl (y_extract rfl rfl) ?_
  refine g_val (v := .bool (Lib.hasPrefix l [94])) rfl rfl rfl (y_extract rfl rfl) ?_
  refine g_val rfl rfl rfl (y_assign rfl) ?_
  refine xg 1 [] rfl rfl ?_
  refine ntso_ ?_
  refine xg 1 [] rfl rfl ?_
  refine n_ (t_ (s_ (g_label (t_ ?_))))
  exact g_fall (hp ((.inl ⟨(s0, s0, (Lib.trimPrefix l [94]), (Lib.hasPrefix l [94]), true, b2, b3), by dsimp only; (try simp only [List.length_drop]); omega⟩)) _ rfl) [0, 2, 3, 4, 5, 6, 7, 8, 9] rfl (fun w h => h.pick [0,0,0] rfl)

end Go.Proofs.Ytjdmdpjbijkjaaa

/- The lexer: numbers, intervals. -/
namespace Go.Proofs.Ytjdmdpjbijkjaaa
open Go Go.RowKit

def isDig (c : UInt8) : Prop := 48 ≤ c.toNat ∧ c.toNat ≤ 57
def numV (l : List UInt8) : Int := l.foldl (fun n c => 10 * n + (c.toNat - 48)) 0
/-- k figures stand ahead, three at most: the number n. -/
def NumR (l : List UInt8) (k : Nat) (n : Int) : Prop := k ≤ 3 ∧ k ≤ l.length ∧ (∀ c, c ∈ l.take k → isDig c) ∧ (k < 3 → ∀ c, l[k]? = some c → ¬ isDig c) ∧ n = numV (l.take k)
def nv (k : Nat) (n : Int) : Int := if k = 0 then -1 else n
theorem take_more {l : List UInt8} {k : Nat} {c : UInt8} (hc : l[k]? = some c) : l.take (k + 1) = l.take k ++ [c] := by rw [List.take_add_one, hc]; rfl
theorem numV_more {l : List UInt8} {k : Nat} {c : UInt8} (hc : l[k]? = some c) : numV (l.take (k + 1)) = 10 * numV (l.take k) + (c.toNat - 48) := by
  rw [take_more hc]; unfold numV; rw [List.foldl_append]; rfl
theorem dig_more {l : List UInt8} {k : Nat} {c : UInt8} (hc : l[k]? = some c) (h : ∀ c, c ∈ l.take k → isDig c) (hd : isDig c) : ∀ c, c ∈ l.take (k + 1) → isDig c := by
  rw [take_more hc]
  intro d hq
  rcases List.mem_append.1 hq with q | q
  · exact h d q
  · rw [List.mem_singleton.1 q]; exact hd
/-- An interval's token; what is behind it; whether it is one. -/
inductive IvR (cl l : List UInt8) : Tok → List UInt8 → Bool → Prop
  | one {k : Nat} {n : Int} {ok : Bool} (h : NumR l k n) (hc : Lib.hasPrefix (l.drop k) [44] = false)
      (ho : ok = true ↔ (Lib.hasPrefix (Lib.trimPrefix (l.drop k) [44]) cl = true ∧ 0 ≤ nv k n ∧ nv k n ≤ 20 ∧ nv k n ≤ 20 ∧ (nv k n < 0 ∨ nv k n ≤ nv k n))) : IvR cl l (timesT (nv k n) (nv k n)) (Lib.trimPrefix (Lib.trimPrefix (l.drop k) [44]) cl) ok
  | two {k k2 : Nat} {n n2 : Int} {ok : Bool} (h : NumR l k n) (hc : Lib.hasPrefix (l.drop k) [44] = true) (h2 : NumR (Lib.trimPrefix (l.drop k) [44]) k2 n2)
      (ho : ok = true ↔ (Lib.hasPrefix ((Lib.trimPrefix (l.drop k) [44]).drop k2) cl = true ∧ 0 ≤ nv k n ∧ nv k n ≤ 20 ∧ nv k2 n2 ≤ 20 ∧ (nv k2 n2 < 0 ∨ nv k n ≤ nv k2 n2))) : IvR cl l (timesT (nv k n) (nv k2 n2)) (Lib.trimPrefix ((Lib.trimPrefix (l.drop k) [44]).drop k2) cl) ok

set_option maxRecDepth 100000 in
theorem number_any (b : Nat) (l : List UInt8) (e0 d v : Value) (ts : List Tok) (F : List Nat) (w : World) (hl : l.length ≤ 1000) (hts : ts.length ≤ 1000) (hS0 : St w F [.cells b 57 [st8 l, e0, v, d], .row 92 7 v ts.length (ts.flatMap tC)] w) :
    Calls Try.prog 68 #[.pointer (some ⟨b, 0, none⟩)] w fun e w' => ∃ x : {x : Nat × Int // NumR l x.1 x.2}, e = .returned (.int .i64 (nv x.1.1 x.1.2)) ∧ St w F [.cells b 57 [st8 (l.drop x.1.1), e0, v, d], .row 92 7 v ts.length (ts.flatMap tC)] w' := by
 have hsz := size_mk l
 refine fn_intro_own Try.func68 rfl Try.ntmps68 rfl rfl hS0 ?_
 refine s_ (o_ ?_)
 refine xg 1 [] rfl rfl ?_
 refine ntso_ ?_
 refine xg 2 [] rfl rfl ?_
 refine n_ (t_ (s_ (g_block ?_)))
 refine g_loop (α := {x : Int × Nat // x.2 ≤ 3 ∧ x.2 ≤ l.length ∧ (∀ c, c ∈ l.take x.2 → isDig c) ∧ x.1 = numV (l.take x.2) ∧ 0 ≤ x.1 ∧ (x.2 = 0 → x.1 = 0) ∧ (x.2 = 1 → x.1 ≤ 9) ∧ (x.2 = 2 → x.1 ≤ 99) ∧ (x.2 = 3 → x.1 ≤ 999)}) (fun x => [(0, .pointer (some ⟨b, 0, none⟩)), (3, .int .i64 x.1.1), (4, .int .i64 (x.1.2 : Int))]) (fun x => St w F [.cells b 57 [st8 l, e0, v, d], .row 92 7 v ts.length (ts.flatMap tC)]) (fun x => 3 - x.1.2) ⟨(0, 0), by decide, Nat.zero_le _, by simp, by simp [numV], by decide, by decide, by decide, by decide, by decide⟩ [0, 3, 4] rfl (fun w h => h.pick [0,0] rfl) ?_
 rintro ⟨⟨n, k⟩, hx⟩
 dsimp only
 dsimp only at hx
 obtain ⟨hk3, hkl, hdig, hn, hn0, hn1, hn2, hn3, hn4⟩ := hx
 refine s_ (s_ (o_ ?_))
 refine xg 3 [0] rfl rfl ?_
 refine g_casep 7 rfl (fun h1 => ?_) fun h1 => ?_
 ·refine xg 9 [0,0] rfl (by omega) ?_
  refine g_casep 16 rfl (fun h2 => ?_) fun h2 => ?_
  ·refine xg 5 [0] rfl (by omega) ?_
   obtain ⟨c, hc, hc8⟩ := st8_get (l := l) (i := k) (by omega)
   have hcm := c.toNat_lt
   refine g_val rfl rfl rfl (y_sidx (i := k) rfl rfl Try.underlying9 hc8) ?_
   refine xg 3 [0] rfl rfl ?_
   refine g_casep 25 rfl (fun h3 => ?_) fun h3 => ?_
   ·refine xg 5 [0] rfl (by omega) ?_
    refine g_val rfl rfl rfl (y_sidx (i := k) rfl rfl Try.underlying9 hc8) ?_
    refine xg 2 [0] rfl rfl ?_
    refine n_ (t_ ?_)
    refine g_casep 33 rfl (fun h4 => ?_) fun h4 => ?_
    ·refine g_cond_t rfl (g_skip (t_ (s_ (g_block (o_ ?_)))))
     refine xg 7 [0] rfl (by omega) ?_
     refine g_val rfl rfl rfl (y_sidx (i := k) rfl rfl Try.underlying9 hc8) ?_
     refine xg 4 [] rfl (by omega) ?_
     refine n_ (g_in_normal (t_ (o_ ?_)))
     refine xg 3 [] rfl (by omega) ?_
     refine n_ ?_
     exact g_again ⟨(10 * n + ((c.toNat : Int) - 48), k + 1), by dsimp only; omega, by dsimp only; omega, dig_more hc hdig (by unfold isDig; omega), by dsimp only; rw [numV_more hc, ← hn], by dsimp only; omega, by dsimp only; omega, by dsimp only; omega, by dsimp only; omega, by dsimp only; omega⟩ [0, 3, 4] (by dsimp only; omega) rfl (fun w h => h.pick [0,0] rfl)
    refine g_cond_f rfl (g_exit (g_then_exit (g_then_exit (g_in_exit (t_ (s_ ?_))))))
    have hstop : k < 3 → ∀ c', l[k]? = some c' → ¬ isDig c' := fun h3 c' hc' => by first | omega | (rw [List.getElem?_eq_none (by omega)] at hc'; cases hc') | (rw [hc] at hc'; cases hc'; unfold isDig; omega)
    refine o_ ?_
    refine xg 6 [0] rfl (by omega) ?_
    refine g_val (v := st8 (l.drop k)) rfl rfl rfl (y_val (y_sfrom (l := k) rfl rfl Try.underlying9 (by rw [size_mk]; omega)) (by rw [st8_drop]; rfl)) ?_
    refine xg 3 [0] rfl (by omega) ?_
    refine n_ (t_ (s_ (s_ (o_ ?_))))
    refine xg 2 [0] rfl rfl ?_
    refine n_ (t_ ?_)
    refine g_casep 57 rfl (fun h5 => ?_) fun h5 => ?_
    ·refine g_cond_t rfl (s_ (o_ ?_))
     refine xg 1 [] rfl rfl ?_
     refine n_ (t_ (g_ret (g_then_ret ?_)))
     refine g_end1 Try.results68 rfl ?_
     exact fun w hS => ⟨⟨(k, n), hk3, hkl, hdig, hstop, hn⟩, ret_int (by show _ = nv k n; unfold nv; split <;> omega), hS.pick [0,0] rfl⟩
    refine g_cond_f rfl (g_skip (t_ (s_ (o_ ?_))))
    refine xg 2 [] rfl rfl ?_
    refine n_ (t_ (g_ret ?_))
    refine g_end1 Try.results68 rfl ?_
    exact fun w hS => ⟨⟨(k, n), hk3, hkl, hdig, hstop, hn⟩, ret_int (by show _ = nv k n; unfold nv; split <;> omega), hS.pick [0,0] rfl⟩
   refine xg 8 [] rfl rfl ?_
   refine n_ (t_ (g_cond_f rfl (g_exit (g_then_exit (g_then_exit (g_in_exit (t_ (s_ ?_))))))))
   have hstop : k < 3 → ∀ c', l[k]? = some c' → ¬ isDig c' := fun h3 c' hc' => by first | omega | (rw [List.getElem?_eq_none (by omega)] at hc'; cases hc') | (rw [hc] at hc'; cases hc'; unfold isDig; omega)
   refine o_ ?_
   refine xg 6 [0] rfl (by omega) ?_
   refine g_val (v := st8 (l.drop k)) rfl rfl rfl (y_val (y_sfrom (l := k) rfl rfl Try.underlying9 (by rw [size_mk]; omega)) (by rw [st8_drop]; rfl)) ?_
   refine xg 3 [0] rfl (by omega) ?_
   refine n_ (t_ (s_ (s_ (o_ ?_))))
   refine xg 2 [0] rfl rfl ?_
   refine n_ (t_ ?_)
   refine g_casep 57 rfl (fun h6 => ?_) fun h6 => ?_
   ·refine g_cond_t rfl (s_ (o_ ?_))
    refine xg 1 [] rfl rfl ?_
    refine n_ (t_ (g_ret (g_then_ret ?_)))
    refine g_end1 Try.results68 rfl ?_
    exact fun w hS => ⟨⟨(k, n), hk3, hkl, hdig, hstop, hn⟩, ret_int (by show _ = nv k n; unfold nv; split <;> omega), hS.pick [0,0] rfl⟩
   refine g_cond_f rfl (g_skip (t_ (s_ (o_ ?_))))
   refine xg 2 [] rfl rfl ?_
   refine n_ (t_ (g_ret ?_))
   refine g_end1 Try.results68 rfl ?_
   exact fun w hS => ⟨⟨(k, n), hk3, hkl, hdig, hstop, hn⟩, ret_int (by show _ = nv k n; unfold nv; split <;> omega), hS.pick [0,0] rfl⟩
  refine xg 17 [] rfl rfl ?_
  refine n_ (t_ (g_cond_f rfl (g_exit (g_then_exit (g_then_exit (g_in_exit (t_ (s_ ?_))))))))
  have hstop : k < 3 → ∀ c', l[k]? = some c' → ¬ isDig c' := fun h3 c' hc' => by first | omega | (rw [List.getElem?_eq_none (by omega)] at hc'; cases hc') | (rw [hc] at hc'; cases hc'; unfold isDig; omega)
  refine o_ ?_
  refine xg 6 [0] rfl (by omega) ?_
  refine g_val (v := st8 (l.drop k)) rfl rfl rfl (y_val (y_sfrom (l := k) rfl rfl Try.underlying9 (by rw [size_mk]; omega)) (by rw [st8_drop]; rfl)) ?_
  refine xg 3 [0] rfl (by omega) ?_
  refine n_ (t_ (s_ (s_ (o_ ?_))))
  refine xg 2 [0] rfl rfl ?_
  refine n_ (t_ ?_)
  refine g_casep 57 rfl (fun h7 => ?_) fun h7 => ?_
  ·refine g_cond_t rfl (s_ (o_ ?_))
   refine xg 1 [] rfl rfl ?_
   refine n_ (t_ (g_ret (g_then_ret ?_)))
   refine g_end1 Try.results68 rfl ?_
   exact fun w hS => ⟨⟨(k, n), hk3, hkl, hdig, hstop, hn⟩, ret_int (by show _ = nv k n; unfold nv; split <;> omega), hS.pick [0,0] rfl⟩
  refine g_cond_f rfl (g_skip (t_ (s_ (o_ ?_))))
  refine xg 2 [] rfl rfl ?_
  refine n_ (t_ (g_ret ?_))
  refine g_end1 Try.results68 rfl ?_
  exact fun w hS => ⟨⟨(k, n), hk3, hkl, hdig, hstop, hn⟩, ret_int (by show _ = nv k n; unfold nv; split <;> omega), hS.pick [0,0] rfl⟩
 refine xg 26 [] rfl rfl ?_
 refine n_ (t_ (g_cond_f rfl (g_exit (g_then_exit (g_then_exit (g_in_exit (t_ (s_ ?_))))))))
 have hstop : k < 3 → ∀ c', l[k]? = some c' → ¬ isDig c' := fun h3 c' hc' => by first | omega | (rw [List.getElem?_eq_none (by omega)] at hc'; cases hc') | (rw [hc] at hc'; cases hc'; unfold isDig; omega)
 refine o_ ?_
 refine xg 6 [0] rfl (by omega) ?_
 refine g_val (v := st8 (l.drop k)) rfl rfl rfl (y_val (y_sfrom (l := k) rfl rfl Try.underlying9 (by rw [size_mk]; omega)) (by rw [st8_drop]; rfl)) ?_
 refine xg 3 [0] rfl (by omega) ?_
 refine n_ (t_ (s_ (s_ (o_ ?_))))
 refine xg 2 [0] rfl rfl ?_
 refine n_ (t_ ?_)
 refine g_casep 57 rfl (fun h8 => ?_) fun h8 => ?_
 ·refine g_cond_t rfl (s_ (o_ ?_))
  refine xg 1 [] rfl rfl ?_
  refine n_ (t_ (g_ret (g_then_ret ?_)))
  refine g_end1 Try.results68 rfl ?_
  exact fun w hS => ⟨⟨(k, n), hk3, hkl, hdig, hstop, hn⟩, ret_int (by show _ = nv k n; unfold nv; split <;> omega), hS.pick [0,0] rfl⟩
 refine g_cond_f rfl (g_skip (t_ (s_ (o_ ?_))))
 refine xg 2 [] rfl rfl ?_
 refine n_ (t_ (g_ret ?_))
 refine g_end1 Try.results68 rfl ?_
 exact fun w hS => ⟨⟨(k, n), hk3, hkl, hdig, hstop, hn⟩, ret_int (by show _ = nv k n; unfold nv; split <;> omega), hS.pick [0,0] rfl⟩

set_option maxRecDepth 100000 in
theorem skip_any (b : Nat) (l : List UInt8) (e0 d v : Value) (ts : List Tok) (p : List UInt8) (F : List Nat) (w : World) (hl : l.length ≤ 1000) (hts : ts.length ≤ 1000) (hS0 : St w F [.cells b 57 [st8 l, e0, v, d], .row 92 7 v ts.length (ts.flatMap tC)] w) :
    Calls Try.prog 69 #[.pointer (some ⟨b, 0, none⟩), .string ⟨p.toArray⟩] w fun e w' => ∃ _ : Unit, e = .returned (.bool (Lib.hasPrefix l p)) ∧ St w F [.cells b 57 [st8 (Lib.trimPrefix l p), e0, v, d], .row 92 7 v ts.length (ts.flatMap tC)] w' := by
 refine fn_intro_own Try.func69 rfl Try.ntmps69 rfl rfl hS0 ?_
 refine s_ (o_ ?_)
 refine xg 1 [] rfl rfl ?_
 refine ntso_ ?_
 refine xg 5 [0] rfl (by omega) ?_
 refine g_call1 rfl rfl rfl Try.call61 (fun w hS => cutPrefix8 l p w) ?_
 refine xg 1 [] rfl rfl ?_
 refine g_val (v := st8 (Lib.trimPrefix l p)) rfl rfl rfl (y_extract rfl rfl) ?_
 refine g_val (v := .bool (Lib.hasPrefix l p)) rfl rfl rfl (y_extract rfl rfl) ?_
 refine xg 2 [] rfl rfl ?_
 refine ntso_ ?_
 refine xg 5 [0] rfl (by omega) ?_
 refine ntso_ ?_
 refine xg 2 [] rfl rfl ?_
 refine n_ (t_ (g_ret ?_))
 refine g_end1 Try.results69 rfl ?_
 exact fun w hS => ⟨(), rfl, hS.pick [0,0] rfl⟩

end Go.Proofs.Ytjdmdpjbijkjaaa

/- The lexer: intervals. -/
namespace Go.Proofs.Ytjdmdpjbijkjaaa
open Go Go.RowKit


set_option maxRecDepth 100000 in
theorem interval_any (b : Nat) (l : List UInt8) (e0 d v : Value) (ts : List Tok) (cl : List UInt8) (F : List Nat) (w : World) (hl : l.length ≤ 1000) (hts : ts.length ≤ 900) (hS0 : St w F [.cells b 57 [st8 l, e0, v, d], .row 92 7 v ts.length (ts.flatMap tC)] w) :
    Calls Try.prog 42 #[.pointer (some ⟨b, 0, none⟩), .string ⟨cl.toArray⟩] w fun e w' => ∃ x : {x : Tok × List UInt8 × Bool × Value // IvR cl l x.1 x.2.1 x.2.2.1}, e = .returned (.bool x.1.2.2.1) ∧ St w F [.cells b 57 [st8 x.1.2.1, e0, x.1.2.2.2, d], .row 92 7 x.1.2.2.2 (ts ++ [x.1.1]).length ((ts ++ [x.1.1]).flatMap tC)] w' := by
 refine fn_intro_own Try.func42 rfl Try.ntmps42 rfl rfl hS0 ?_
 refine s_ (o_ ?_)
 refine xg 1 [] rfl rfl ?_
 refine ntso_ ?_
 refine xg 1 [] rfl rfl ?_
 refine g_callAll (fun x : {x : Nat × Int // NumR l x.1 x.2} => .int .i64 (nv x.1.1 x.1.2)) (fun x => [.cells b 57 [st8 (l.drop x.1.1), e0, v, d], .row 92 7 v ts.length (ts.flatMap tC)]) rfl rfl rfl Try.call68 (fun w F' hS => number_any b l e0 d v ts F' w hl (by omega) hS) ?_
 rintro ⟨⟨k, n⟩, hn⟩
 try dsimp only
 refine g_val (v := .agg (tC (timesT (nv k n) 0)).toArray) rfl rfl rfl (y_val (y_build (offs := [0, 5]) rfl Try.zeroValue92 (by kernel_rfl)) rfl) ?_
 refine g_alloc rfl rfl Try.zeroValue92 rfl (fun b1 => ?_)
 refine g_stN 0 rfl rfl rfl (by kernel_rfl) rfl rfl rfl rfl ?_
 simp only [List.set_cons_zero]
 refine ntso_ ?_
 refine xg 1 [] rfl rfl ?_
 refine g_val (v := .int .i64 (nv k n)) rfl rfl rfl (y_ld 0 rfl Try.isAgg3 rfl rfl) ?_
 refine xg 1 [] rfl rfl ?_
 refine g_st 0 rfl rfl rfl Try.sizeOf3 rfl rfl rfl ?_
 simp only [List.set_cons_zero]
 refine n_ (t_ (s_ (s_ (o_ ?_))))
 refine xg 1 [] rfl rfl ?_
 have hl1 : (l.drop k).length ≤ 1000 := by rw [List.length_drop]; omega
 refine g_perm (.trans (.swap _ _ _) (.cons _ (.swap _ _ _))) ?_
 refine g_callOwn (L0 := [.cells b 57 [st8 (l.drop k), e0, v, d], .row 92 7 v ts.length (ts.flatMap tC)]) (fun _ : Unit => .bool (Lib.hasPrefix (l.drop k) [44])) (fun _ => [.cells b 57 [st8 (Lib.trimPrefix (l.drop k) [44]), e0, v, d], .row 92 7 v ts.length (ts.flatMap tC)]) rfl rfl rfl Try.call69 (fun w hS => skip_any b (l.drop k) e0 d v ts [44] _ w hl1 (by first | omega | (simp only [List.length_append, List.length_singleton]; omega)) hS.part) ?_
 intro _
 try dsimp only
 simp only [List.cons_append, List.nil_append]
 have hl2 : (Lib.trimPrefix (l.drop k) [44]).length ≤ 1000 := Nat.le_trans (Lib.trimPrefix_le _ _) hl1
 refine n_ (t_ ?_)
 first | refine g_casep 13 rfl (fun h1 => ?_) fun h1 => ?_ | refine g_caseb 13 rfl (fun h1 => ?_) fun h1 => ?_
 ·refine g_cond_t rfl (o_ ?_)
  refine xg 1 [] rfl rfl ?_
  refine g_callOwn (L0 := [.cells b 57 [st8 (Lib.trimPrefix (l.drop k) [44]), e0, v, d], .row 92 7 v ts.length (ts.flatMap tC)]) (fun x : {x : Nat × Int // NumR (Lib.trimPrefix (l.drop k) [44]) x.1 x.2} => .int .i64 (nv x.1.1 x.1.2)) (fun x => [.cells b 57 [st8 ((Lib.trimPrefix (l.drop k) [44]).drop x.1.1), e0, v, d], .row 92 7 v ts.length (ts.flatMap tC)]) rfl rfl rfl Try.call68 (fun w hS => number_any b (Lib.trimPrefix (l.drop k) [44]) e0 d v ts _ w hl2 (by omega) hS.part) ?_
  rintro ⟨⟨k2, n2⟩, hn2⟩
  try dsimp only
  simp only [List.cons_append, List.nil_append]
  refine xg 1 [] rfl rfl ?_
  refine g_st 2 rfl rfl rfl Try.sizeOf3 rfl rfl rfl ?_
  simp only [List.set_cons_zero, List.set_cons_succ]
  refine ntso_ ?_
  refine xg 1 [] rfl rfl ?_
  refine g_val (v := .agg (tC (timesT (nv k n) (nv k2 n2))).toArray) rfl rfl rfl (y_ldN (vs := tC (timesT (nv k n) (nv k2 n2))) 2 rfl Try.isAgg92 Try.sizeOf92 rfl rfl rfl) ?_
  refine g_callOwn (L0 := [.cells b 57 [st8 ((Lib.trimPrefix (l.drop k) [44]).drop k2), e0, v, d], .row 92 7 v ts.length (ts.flatMap tC)]) (fun _ : Value => .tuple #[]) (fun v' => [.cells b 57 [st8 ((Lib.trimPrefix (l.drop k) [44]).drop k2), e0, v', d], .row 92 7 v' (ts ++ [(timesT (nv k n) (nv k2 n2))]).length ((ts ++ [(timesT (nv k n) (nv k2 n2))]).flatMap tC)]) rfl rfl rfl Try.call36 (fun w hS => put_any b (st8 ((Lib.trimPrefix (l.drop k) [44]).drop k2)) e0 d v ts (timesT (nv k n) (nv k2 n2)) _ w (by omega) hS.part) ?_
  intro vq
  try dsimp only
  simp only [List.cons_append, List.nil_append]
  refine ntso_ ?_
  refine xg 2 [] rfl rfl ?_
  have hl3 : ((Lib.trimPrefix (l.drop k) [44]).drop k2).length ≤ 1000 := by rw [List.length_drop]; omega
  refine g_callOwn (L0 := [.cells b 57 [st8 ((Lib.trimPrefix (l.drop k) [44]).drop k2), e0, vq, d], .row 92 7 vq (ts ++ [(timesT (nv k n) (nv k2 n2))]).length ((ts ++ [(timesT (nv k n) (nv k2 n2))]).flatMap tC)]) (fun _ : Unit => .bool (Lib.hasPrefix ((Lib.trimPrefix (l.drop k) [44]).drop k2) cl)) (fun _ => [.cells b 57 [st8 (Lib.trimPrefix ((Lib.trimPrefix (l.drop k) [44]).drop k2) cl), e0, vq, d], .row 92 7 vq (ts ++ [(timesT (nv k n) (nv k2 n2))]).length ((ts ++ [(timesT (nv k n) (nv k2 n2))]).flatMap tC)]) rfl rfl rfl Try.call69 (fun w hS => skip_any b ((Lib.trimPrefix (l.drop k) [44]).drop k2) e0 d vq (ts ++ [(timesT (nv k n) (nv k2 n2))]) cl _ w hl3 (by first | omega | (simp only [List.length_append, List.length_singleton]; omega)) hS.part) ?_
  intro _
  try dsimp only
  simp only [List.cons_append, List.nil_append]
  refine xg 1 [] rfl rfl ?_
  first | refine g_casep 23 rfl (fun h2 => ?_) fun h2 => ?_ | refine g_caseb 23 rfl (fun h2 => ?_) fun h2 => ?_
  ·refine xg 1 [] rfl rfl ?_
   refine g_val (v := .int .i64 (nv k n)) rfl rfl rfl (y_ld 2 rfl Try.isAgg3 rfl rfl) ?_
   refine xg 3 [0] rfl rfl ?_
   refine g_casep 28 rfl (fun h3 => ?_) fun h3 => ?_
   ·refine xg 1 [] rfl rfl ?_
    refine g_val (v := .int .i64 (nv k n)) rfl rfl rfl (y_ld 2 rfl Try.isAgg3 rfl rfl) ?_
    refine xg 3 [0] rfl rfl ?_
    refine g_casep 33 rfl (fun h4 => ?_) fun h4 => ?_
    ·refine xg 1 [] rfl rfl ?_
     refine g_val (v := .int .i64 (nv k2 n2)) rfl rfl rfl (y_ld 2 rfl Try.isAgg3 rfl rfl) ?_
     refine xg 3 [0] rfl rfl ?_
     refine g_casep 38 rfl (fun h5 => ?_) fun h5 => ?_
     ·refine xg 1 [] rfl rfl ?_
      refine g_val (v := .int .i64 (nv k2 n2)) rfl rfl rfl (y_ld 2 rfl Try.isAgg3 rfl rfl) ?_
      refine xg 2 [0] rfl rfl ?_
      refine g_casep 42 rfl (fun h6 => ?_) fun h6 => ?_
      ·refine xg 8 [] rfl rfl ?_
       refine n_ (t_ (g_ret ?_))
       refine g_end1 Try.results42 rfl ?_
       refine fun w hS => ⟨⟨(_, _, _, _), .two hn (by assumption) hn2 ?_⟩, rfl, hS.pick [0,0] rfl⟩
       dsimp only
       exact ⟨fun _ => ⟨by assumption, by omega, by omega, by omega, by omega⟩, fun _ => rfl⟩
      refine xg 1 [] rfl rfl ?_
      refine g_val (v := .int .i64 (nv k2 n2)) rfl rfl rfl (y_ld 2 rfl Try.isAgg3 rfl rfl) ?_
      refine xg 1 [] rfl rfl ?_
      refine g_val (v := .int .i64 (nv k n)) rfl rfl rfl (y_ld 2 rfl Try.isAgg3 rfl rfl) ?_
      refine xg 4 [0] rfl rfl ?_
      refine n_ (t_ (g_ret ?_))
      refine g_end1 Try.results42 rfl ?_
      refine fun w hS => ⟨⟨(_, _, _, _), .two hn (by assumption) hn2 ?_⟩, rfl, hS.pick [0,0] rfl⟩
      dsimp only
      refine ⟨fun h => ⟨by assumption, by omega, by omega, by omega, .inr (of_decide_eq_true h)⟩, fun h => decide_eq_true ?_⟩
      have := h.2
      omega
     refine xg 12 [] rfl rfl ?_
     refine n_ (t_ (g_ret ?_))
     refine g_end1 Try.results42 rfl ?_
     refine fun w hS => ⟨⟨(_, _, _, _), .two hn (by assumption) hn2 ?_⟩, rfl, hS.pick [0,0] rfl⟩
     dsimp only
     exact ⟨fun h => absurd h (by decide), fun h => by first | (have := h.1; simp_all; done) | (have := h.2; omega)⟩
    refine xg 17 [] rfl rfl ?_
    refine n_ (t_ (g_ret ?_))
    refine g_end1 Try.results42 rfl ?_
    refine fun w hS => ⟨⟨(_, _, _, _), .two hn (by assumption) hn2 ?_⟩, rfl, hS.pick [0,0] rfl⟩
    dsimp only
    exact ⟨fun h => absurd h (by decide), fun h => by first | (have := h.1; simp_all; done) | (have := h.2; omega)⟩
   refine xg 22 [] rfl rfl ?_
   refine n_ (t_ (g_ret ?_))
   refine g_end1 Try.results42 rfl ?_
   refine fun w hS => ⟨⟨(_, _, _, _), .two hn (by assumption) hn2 ?_⟩, rfl, hS.pick [0,0] rfl⟩
   dsimp only
   exact ⟨fun h => absurd h (by decide), fun h => by first | (have := h.1; simp_all; done) | (have := h.2; omega)⟩
  refine xg 27 [] rfl rfl ?_
  refine n_ (t_ (g_ret ?_))
  refine g_end1 Try.results42 rfl ?_
  refine fun w hS => ⟨⟨(_, _, _, _), .two hn (by assumption) hn2 ?_⟩, rfl, hS.pick [0,0] rfl⟩
  dsimp only
  exact ⟨fun h => absurd h (by decide), fun h => by first | (have := h.1; simp_all; done) | (have := h.2; omega)⟩
 refine g_cond_f rfl (g_skip (t_ (s_ (o_ ?_))))
 refine xg 1 [] rfl rfl ?_
 refine g_val (v := .agg (tC (timesT (nv k n) (nv k n))).toArray) rfl rfl rfl (y_ldN (vs := tC (timesT (nv k n) (nv k n))) 2 rfl Try.isAgg92 Try.sizeOf92 rfl rfl rfl) ?_
 refine g_callOwn (L0 := [.cells b 57 [st8 (Lib.trimPrefix (l.drop k) [44]), e0, v, d], .row 92 7 v ts.length (ts.flatMap tC)]) (fun _ : Value => .tuple #[]) (fun v' => [.cells b 57 [st8 (Lib.trimPrefix (l.drop k) [44]), e0, v', d], .row 92 7 v' (ts ++ [(timesT (nv k n) (nv k n))]).length ((ts ++ [(timesT (nv k n) (nv k n))]).flatMap tC)]) rfl rfl rfl Try.call36 (fun w hS => put_any b (st8 (Lib.trimPrefix (l.drop k) [44])) e0 d v ts (timesT (nv k n) (nv k n)) _ w (by omega) hS.part) ?_
 intro vq
 try dsimp only
 simp only [List.cons_append, List.nil_append]
 refine ntso_ ?_
 refine xg 2 [] rfl rfl ?_
 refine g_callOwn (L0 := [.cells b 57 [st8 (Lib.trimPrefix (l.drop k) [44]), e0, vq, d], .row 92 7 vq (ts ++ [(timesT (nv k n) (nv k n))]).length ((ts ++ [(timesT (nv k n) (nv k n))]).flatMap tC)]) (fun _ : Unit => .bool (Lib.hasPrefix (Lib.trimPrefix (l.drop k) [44]) cl)) (fun _ => [.cells b 57 [st8 (Lib.trimPrefix (Lib.trimPrefix (l.drop k) [44]) cl), e0, vq, d], .row 92 7 vq (ts ++ [(timesT (nv k n) (nv k n))]).length ((ts ++ [(timesT (nv k n) (nv k n))]).flatMap tC)]) rfl rfl rfl Try.call69 (fun w hS => skip_any b (Lib.trimPrefix (l.drop k) [44]) e0 d vq (ts ++ [(timesT (nv k n) (nv k n))]) cl _ w hl2 (by first | omega | (simp only [List.length_append, List.length_singleton]; omega)) hS.part) ?_
 intro _
 try dsimp only
 simp only [List.cons_append, List.nil_append]
 refine xg 1 [] rfl rfl ?_
 first | refine g_casep 23 rfl (fun h7 => ?_) fun h7 => ?_ | refine g_caseb 23 rfl (fun h7 => ?_) fun h7 => ?_
 ·refine xg 1 [] rfl rfl ?_
  refine g_val (v := .int .i64 (nv k n)) rfl rfl rfl (y_ld 2 rfl Try.isAgg3 rfl rfl) ?_
  refine xg 3 [0] rfl rfl ?_
  refine g_casep 28 rfl (fun h8 => ?_) fun h8 => ?_
  ·refine xg 1 [] rfl rfl ?_
   refine g_val (v := .int .i64 (nv k n)) rfl rfl rfl (y_ld 2 rfl Try.isAgg3 rfl rfl) ?_
   refine xg 3 [0] rfl rfl ?_
   refine g_casep 33 rfl (fun h9 => ?_) fun h9 => ?_
   ·refine xg 1 [] rfl rfl ?_
    refine g_val (v := .int .i64 (nv k n)) rfl rfl rfl (y_ld 2 rfl Try.isAgg3 rfl rfl) ?_
    refine xg 3 [0] rfl rfl ?_
    refine g_casep 38 rfl (fun h10 => ?_) fun h10 => ?_
    ·refine xg 1 [] rfl rfl ?_
     refine g_val (v := .int .i64 (nv k n)) rfl rfl rfl (y_ld 2 rfl Try.isAgg3 rfl rfl) ?_
     refine xg 2 [0] rfl rfl ?_
     refine g_casep 42 rfl (fun h11 => ?_) fun h11 => ?_
     ·refine xg 8 [] rfl rfl ?_
      refine n_ (t_ (g_ret ?_))
      refine g_end1 Try.results42 rfl ?_
      refine fun w hS => ⟨⟨(_, _, _, _), .one hn (by assumption) ?_⟩, rfl, hS.pick [0,0] rfl⟩
      dsimp only
      exact ⟨fun _ => ⟨by assumption, by omega, by omega, by omega, by omega⟩, fun _ => rfl⟩
     refine xg 1 [] rfl rfl ?_
     refine g_val (v := .int .i64 (nv k n)) rfl rfl rfl (y_ld 2 rfl Try.isAgg3 rfl rfl) ?_
     refine xg 1 [] rfl rfl ?_
     refine g_val (v := .int .i64 (nv k n)) rfl rfl rfl (y_ld 2 rfl Try.isAgg3 rfl rfl) ?_
     refine xg 4 [0] rfl rfl ?_
     refine n_ (t_ (g_ret ?_))
     refine g_end1 Try.results42 rfl ?_
     refine fun w hS => ⟨⟨(_, _, _, _), .one hn (by assumption) ?_⟩, rfl, hS.pick [0,0] rfl⟩
     dsimp only
     refine ⟨fun h => ⟨by assumption, by omega, by omega, by omega, .inr (of_decide_eq_true h)⟩, fun h => decide_eq_true ?_⟩
     have := h.2
     omega
    refine xg 12 [] rfl rfl ?_
    refine n_ (t_ (g_ret ?_))
    refine g_end1 Try.results42 rfl ?_
    refine fun w hS => ⟨⟨(_, _, _, _), .one hn (by assumption) ?_⟩, rfl, hS.pick [0,0] rfl⟩
    dsimp only
    exact ⟨fun h => absurd h (by decide), fun h => by first | (have := h.1; simp_all; done) | (have := h.2; omega)⟩
   refine xg 17 [] rfl rfl ?_
   refine n_ (t_ (g_ret ?_))
   refine g_end1 Try.results42 rfl ?_
   refine fun w hS => ⟨⟨(_, _, _, _), .one hn (by assumption) ?_⟩, rfl, hS.pick [0,0] rfl⟩
   dsimp only
   exact ⟨fun h => absurd h (by decide), fun h => by first | (have := h.1; simp_all; done) | (have := h.2; omega)⟩
  refine xg 22 [] rfl rfl ?_
  refine n_ (t_ (g_ret ?_))
  refine g_end1 Try.results42 rfl ?_
  refine fun w hS => ⟨⟨(_, _, _, _), .one hn (by assumption) ?_⟩, rfl, hS.pick [0,0] rfl⟩
  dsimp only
  exact ⟨fun h => absurd h (by decide), fun h => by first | (have := h.1; simp_all; done) | (have := h.2; omega)⟩
 refine xg 27 [] rfl rfl ?_
 refine n_ (t_ (g_ret ?_))
 refine g_end1 Try.results42 rfl ?_
 refine fun w hS => ⟨⟨(_, _, _, _), .one hn (by assumption) ?_⟩, rfl, hS.pick [0,0] rfl⟩
 dsimp only
 exact ⟨fun h => absurd h (by decide), fun h => by first | (have := h.1; simp_all; done) | (have := h.2; omega)⟩

end Go.Proofs.Ytjdmdpjbijkjaaa

/- The lexer: anchors, what is escaped. -/
namespace Go.Proofs.Ytjdmdpjbijkjaaa
open Go Go.RowKit

def anchT (ext : Bool) (c : UInt8) (l : List UInt8) (ts : List Tok) (d : Int) : Bool := ext || (if (c.toNat : Int) = 94 then startsT ts else (l.isEmpty || (decide (0 < d) && Lib.hasPrefix l [92, 41])))
def knL (ext : Bool) : List UInt8 := if ext = true then [46, 91, 93, 92, 42, 94, 36, 47, 40, 41, 124, 43, 63, 123, 125] else [46, 91, 93, 92, 42, 94, 36, 47]
def isKn (ext : Bool) (c : UInt8) : Prop := 0 ≤ Lib.indexByte (knL ext) c
/-- What a backslash is followed by: what is left, the tokens, how deep; whether it is something. -/
inductive EscR (ext : Bool) : List UInt8 → List Tok → Int → List UInt8 → List Tok → Int → Bool → Prop
  | nil {ts : List Tok} {d : Int} {r : List UInt8} {ts' : List Tok} {d' : Int} : EscR ext [] ts d r ts' d' false
  | nl {c : UInt8} {l : List UInt8} {ts : List Tok} {d : Int} (h : (c.toNat : Int) = 110) : EscR ext (c :: l) ts d l (ts ++ [litT 10]) d true
  | known {c : UInt8} {l : List UInt8} {ts : List Tok} {d : Int} (h : ¬ (c.toNat : Int) = 110) (hk : isKn ext c) : EscR ext (c :: l) ts d l (ts ++ [litT c]) d true
  | unknown {c : UInt8} {l : List UInt8} {ts : List Tok} {d : Int} {r : List UInt8} {ts' : List Tok} {d' : Int} (he : ext = true) (h : ¬ (c.toNat : Int) = 110) (hk : ¬ isKn ext c) : EscR ext (c :: l) ts d r ts' d' false
  | opens {c : UInt8} {l : List UInt8} {ts : List Tok} {d : Int} (he : ext = false) (h : (c.toNat : Int) = 40) : EscR ext (c :: l) ts d l (ts ++ [kT 1]) (d + 1) true
  | shuts {c : UInt8} {l : List UInt8} {ts : List Tok} {d : Int} (he : ext = false) (h : (c.toNat : Int) = 41) : EscR ext (c :: l) ts d l (ts ++ [kT 2]) (d - 1) true
  | iv {c : UInt8} {l : List UInt8} {ts : List Tok} {d : Int} {t : Tok} {r : List UInt8} {ok : Bool} (he : ext = false) (h : (c.toNat : Int) = 123) (hs : startsT ts = false) (hi : IvR [92, 125] l t r ok) : EscR ext (c :: l) ts d r (ts ++ [t]) d ok
  | ivs {c : UInt8} {l : List UInt8} {ts : List Tok} {d : Int} {r : List UInt8} {ts' : List Tok} {d' : Int} (he : ext = false) (h : (c.toNat : Int) = 123) (hs : startsT ts = true) : EscR ext (c :: l) ts d r ts' d' false
  | other {c : UInt8} {l : List UInt8} {ts : List Tok} {d : Int} {r : List UInt8} {ts' : List Tok} {d' : Int} (he : ext = false) (h : ¬ (c.toNat : Int) = 110) (hk : ¬ isKn ext c) (h1 : ¬ (c.toNat : Int) = 40) (h2 : ¬ (c.toNat : Int) = 41) (h3 : ¬ (c.toNat : Int) = 123) : EscR ext (c :: l) ts d r ts' d' false
theorem indexByte8 (s : List UInt8) (c : UInt8) (w : World) : Calls Try.prog 60 #[.string ⟨s.toArray⟩, .int .u8 (c.toNat : Int)] w fun e w' => e = .returned (.int .i64 (Lib.indexByte s c)) ∧ Below w.heap.size w w' :=
  (Try.strings_IndexByte ⟨s.toArray⟩ (c.toNat : Int) w).mono fun e w' ⟨he, hw⟩ => ⟨by rw [he]; simp, hw ▸ Below.refl _ _⟩

set_option maxRecDepth 100000 in
theorem anchored_any (b : Nat) (ext : Bool) (l : List UInt8) (d : Int) (v : Value) (ts : List Tok) (c : UInt8) (F : List Nat) (w : World) (hl : l.length ≤ 1000) (hts : ts.length ≤ 900) (hd : -1000 ≤ d ∧ d ≤ 1000) (hS0 : St w F [.cells b 57 [st8 l, .bool ext, v, .int .i64 d], .row 92 7 v ts.length (ts.flatMap tC)] w) :
    Calls Try.prog 38 #[.pointer (some ⟨b, 0, none⟩), .int .u8 (c.toNat : Int)] w fun e w' => ∃ _ : Unit, e = .returned (.bool (anchT ext c l ts d)) ∧ St w F [.cells b 57 [st8 l, .bool ext, v, .int .i64 d], .row 92 7 v ts.length (ts.flatMap tC)] w' := by
 refine fn_intro_own Try.func38 rfl Try.ntmps38 rfl rfl hS0 ?_
 refine s_ (o_ ?_)
 refine xg 1 [] rfl rfl ?_
 refine n_ (t_ (s_ (s_ (o_ ?_))))
 refine xg 4 [0] rfl (by omega) ?_
 refine n_ (t_ ?_)
 first | refine g_casep 8 rfl (fun h1 => ?_) fun h1 => ?_ | refine g_caseb 8 rfl (fun h1 => ?_) fun h1 => ?_
 ·refine g_cond_t rfl (s_ (o_ ?_))
  refine xg 1 [] rfl rfl ?_
  refine n_ (t_ (g_ret (g_then_ret ?_)))
  refine g_end1 Try.results38 rfl ?_
  exact fun w hS => ⟨(), ret_bool (by unfold anchT; simp_all <;> (intros; omega)), hS.pick [0,0] rfl⟩
 refine g_cond_f rfl (g_skip (t_ (s_ (s_ (o_ ?_)))))
 refine xg 2 [0] rfl rfl ?_
 refine n_ (t_ ?_)
 refine g_casep 10 rfl (fun h2 => ?_) fun h2 => ?_
 ·refine g_cond_t rfl (s_ (o_ ?_))
  refine xg 1 [] rfl rfl ?_
  refine g_callAll (fun _ : Unit => .bool (startsT ts)) (fun _ => [.cells b 57 [st8 l, (.bool ext), v, (.int .i64 d)], .row 92 7 v ts.length (ts.flatMap tC)]) rfl rfl rfl Try.call39 (fun w F' hS => starts_any b (st8 l) (.bool ext) (.int .i64 d) v ts F' w (by omega) hS) ?_
  intro _
  try dsimp only
  refine xg 1 [] rfl rfl ?_
  refine n_ (t_ (g_ret (g_then_ret ?_)))
  refine g_end1 Try.results38 rfl ?_
  exact fun w hS => ⟨(), ret_bool (by unfold anchT; simp_all <;> (intros; omega)), hS.pick [0,0] rfl⟩
 refine g_cond_f rfl (g_skip (t_ (s_ ?_)))
 rcases l with _ | ⟨c1, l⟩
 ·refine o_ ?_
  refine xg 5 [0] rfl (by omega) ?_
  refine g_lit 17 true rfl (decide_eq_true rfl) ?_
  refine xg 15 [] rfl rfl ?_
  refine n_ (t_ (g_ret ?_))
  refine g_end1 Try.results38 rfl ?_
  exact fun w hS => ⟨(), ret_bool (by unfold anchT; simp_all <;> (intros; omega)), hS.pick [0,0] rfl⟩
 refine o_ ?_
 refine xg 5 [0] rfl (by omega) ?_
 refine g_lit 17 false rfl (decide_eq_false (st8_nil c1 l)) ?_
 refine xg 7 [0,0] rfl (by omega) ?_
 refine g_casep 24 rfl (fun h3 => ?_) fun h3 => ?_
 ·refine xg 4 [0] rfl (by omega) ?_
  refine g_call1 rfl rfl rfl Try.call62 (fun w hS => hasPrefix8 (c1 :: l) [92, 41] w) ?_
  refine xg 3 [] rfl rfl ?_
  refine n_ (t_ (g_ret ?_))
  refine g_end1 Try.results38 rfl ?_
  exact fun w hS => ⟨(), ret_bool (by unfold anchT; simp_all <;> (intros; omega)), hS.pick [0,0] rfl⟩
 refine xg 8 [] rfl rfl ?_
 refine n_ (t_ (g_ret ?_))
 refine g_end1 Try.results38 rfl ?_
 exact fun w hS => ⟨(), ret_bool (by unfold anchT; simp_all <;> (intros; omega)), hS.pick [0,0] rfl⟩

set_option maxRecDepth 100000 in
theorem escaped_any (b : Nat) (ext : Bool) (l : List UInt8) (d : Int) (v : Value) (ts : List Tok) (F : List Nat) (w : World) (hl : l.length ≤ 1000) (hts : ts.length ≤ 900) (hd : -1000 ≤ d ∧ d ≤ 1000) (hS0 : St w F [.cells b 57 [st8 l, .bool ext, v, .int .i64 d], .row 92 7 v ts.length (ts.flatMap tC)] w) :
    Calls Try.prog 34 #[.pointer (some ⟨b, 0, none⟩)] w fun e w' => ∃ x : {x : List UInt8 × List Tok × Int × Bool × Value // EscR ext l ts d x.1 x.2.1 x.2.2.1 x.2.2.2.1}, e = .returned (.bool x.1.2.2.2.1) ∧ St w F [.cells b 57 [st8 x.1.1, .bool ext, x.1.2.2.2.2, .int .i64 x.1.2.2.1], .row 92 7 x.1.2.2.2.2 x.1.2.1.length (x.1.2.1.flatMap tC)] w' := by
 refine fn_intro_own Try.func34 rfl Try.ntmps34 rfl rfl hS0 ?_
 refine s_ (o_ ?_)
 refine xg 1 [] rfl rfl ?_
 refine n_ (t_ (s_ (s_ ?_)))
 rcases l with _ | ⟨c, l⟩ <;> cases ext
 ·refine o_ ?_
  refine xg 5 [0] rfl (by omega) ?_
  refine g_lit 9 true rfl (decide_eq_true rfl) ?_
  refine n_ (t_ (g_cond_t rfl (s_ (o_ ?_))))
  refine xg 1 [] rfl rfl ?_
  refine n_ (t_ (g_ret (g_then_ret ?_)))
  refine g_end1 Try.results34 rfl ?_
  exact fun w hS => ⟨⟨(([] : List UInt8), ts, d, _, v), .nil⟩, rfl, hS.pick [0,0] rfl⟩
 ·refine o_ ?_
  refine xg 5 [0] rfl (by omega) ?_
  refine g_lit 9 true rfl (decide_eq_true rfl) ?_
  refine n_ (t_ (g_cond_t rfl (s_ (o_ ?_))))
  refine xg 1 [] rfl rfl ?_
  refine n_ (t_ (g_ret (g_then_ret ?_)))
  refine g_end1 Try.results34 rfl ?_
  exact fun w hS => ⟨⟨(([] : List UInt8), ts, d, _, v), .nil⟩, rfl, hS.pick [0,0] rfl⟩
 ·have hcl := c.toNat_lt
  have hl1 : (c :: l).length = l.length + 1 := rfl
  refine o_ ?_
  refine xg 5 [0] rfl (by omega) ?_
  refine g_lit 9 false rfl (decide_eq_false (st8_nil c l)) ?_
  refine n_ (t_ (g_cond_f rfl (g_skip (t_ (s_ (o_ ?_))))))
  refine xg 4 [0] rfl (by omega) ?_
  refine g_val (v := .int .u8 (c.toNat : Int)) rfl rfl rfl (y_sidx (i := 0) rfl rfl Try.underlying9 (st8_0 c l)) ?_
  refine xg 1 [] rfl rfl ?_
  refine ntso_ ?_
  refine xg 5 [0] rfl (by omega) ?_
  refine g_val (v := st8 l) rfl rfl rfl (y_val (y_sfrom (l := 1) rfl rfl Try.underlying9 (by show 1 ≤ (c :: l).toArray.size; simp)) (by rw [st8_1]; rfl)) ?_
  refine xg 3 [0] rfl (by omega) ?_
  refine ntso_ ?_
  refine g_val (v := .string ⟨([46, 91, 93, 92, 42, 94, 36, 47] : List UInt8).toArray⟩) rfl rfl rfl (y_assign rfl) ?_
  refine n_ (t_ (s_ (s_ (o_ ?_))))
  refine xg 3 [] rfl rfl ?_
  refine g_val rfl rfl rfl (y_ld 0 rfl Try.isAgg4 rfl rfl) ?_
  refine n_ (t_ (g_cond_f rfl (g_skip (t_ (s_ (g_block (s_ (o_ ?_))))))))
  refine xg 3 [0] rfl rfl ?_
  refine n_ (t_ ?_)
  refine g_casep 29 rfl (fun h1 => ?_) fun h1 => ?_
  ·refine g_cond_t rfl (o_ ?_)
   refine xg 1 [] rfl rfl ?_
   refine g_callAll (fun _ : Value => .tuple #[]) (fun v' => [.cells b 57 [st8 l, (.bool false), v', (.int .i64 d)], .row 92 7 v' (ts ++ [litT (10 : UInt8)]).length ((ts ++ [litT (10 : UInt8)]).flatMap tC)]) rfl rfl rfl Try.call41 (fun w F' hS => literal_any b (st8 l) (.bool false) (.int .i64 d) v ts (10 : UInt8) F' w (by omega) hS) ?_
   intro vq
   try dsimp only
   refine n_ (g_in_normal (t_ (s_ (o_ ?_))))
   refine xg 1 [] rfl rfl ?_
   refine n_ (t_ (g_ret ?_))
   refine g_end1 Try.results34 rfl ?_
   exact fun w hS => ⟨⟨(l, (ts ++ [litT (10 : UInt8)]), d, _, vq), .nl (by assumption)⟩, rfl, hS.pick [0,0] rfl⟩
  refine g_cond_f rfl (s_ (o_ ?_))
  refine xg 2 [] rfl rfl ?_
  refine g_call1 rfl rfl rfl Try.call60 (fun w hS => indexByte8 [46, 91, 93, 92, 42, 94, 36, 47] c w) ?_
  refine xg 2 [0] rfl rfl ?_
  refine n_ (t_ ?_)
  refine g_casep 34 rfl (fun h2 => ?_) fun h2 => ?_
  ·refine g_cond_t rfl (o_ ?_)
   refine xg 2 [] rfl rfl ?_
   refine g_callAll (fun _ : Value => .tuple #[]) (fun v' => [.cells b 57 [st8 l, (.bool false), v', (.int .i64 d)], .row 92 7 v' (ts ++ [litT c]).length ((ts ++ [litT c]).flatMap tC)]) rfl rfl rfl Try.call41 (fun w F' hS => literal_any b (st8 l) (.bool false) (.int .i64 d) v ts c F' w (by omega) hS) ?_
   intro vq
   try dsimp only
   refine n_ (g_in_normal (t_ (s_ (o_ ?_))))
   refine xg 1 [] rfl rfl ?_
   refine n_ (t_ (g_ret ?_))
   refine g_end1 Try.results34 rfl ?_
   exact fun w hS => ⟨⟨(l, (ts ++ [litT c]), d, _, vq), .known (by assumption) (by show (0 ≤ Lib.indexByte [46, 91, 93, 92, 42, 94, 36, 47] c); omega)⟩, rfl, hS.pick [0,0] rfl⟩
  refine g_cond_f rfl (s_ (o_ ?_))
  refine xg 3 [] rfl rfl ?_
  refine g_val rfl rfl rfl (y_ld 0 rfl Try.isAgg4 rfl rfl) ?_
  refine xg 1 [] rfl rfl ?_
  refine n_ (t_ (g_cond_f rfl (s_ (o_ ?_))))
  refine xg 3 [0] rfl rfl ?_
  refine n_ (t_ ?_)
  refine g_casep 47 rfl (fun h3 => ?_) fun h3 => ?_
  ·refine g_cond_t rfl (s_ (o_ ?_))
   refine xg 4 [0] rfl (by omega) ?_
   refine g_val rfl rfl rfl (y_addi rfl rfl (by omega)) ?_
   refine xg 3 [0] rfl (by omega) ?_
   refine nto_ ?_
   refine xg 1 [] rfl rfl ?_
   refine g_val (v := .agg (tC (kT 1)).toArray) rfl rfl rfl (y_val (y_build (offs := [0]) rfl Try.zeroValue92 (by kernel_rfl)) rfl) ?_
   refine g_callAll (fun _ : Value => .tuple #[]) (fun v' => [.cells b 57 [st8 l, (.bool false), v', (.int .i64 (d + 1))], .row 92 7 v' (ts ++ [(kT 1)]).length ((ts ++ [(kT 1)]).flatMap tC)]) rfl rfl rfl Try.call36 (fun w F' hS => put_any b (st8 l) (.bool false) (.int .i64 (d + 1)) v ts (kT 1) F' w (by omega) hS) ?_
   intro vq
   try dsimp only
   refine n_ (g_in_normal (t_ (s_ (o_ ?_))))
   refine xg 1 [] rfl rfl ?_
   refine n_ (t_ (g_ret ?_))
   refine g_end1 Try.results34 rfl ?_
   exact fun w hS => ⟨⟨(l, (ts ++ [(kT 1)]), (d + 1), _, vq), .opens rfl (by assumption)⟩, rfl, hS.pick [0,0] rfl⟩
  refine g_cond_f rfl (s_ (o_ ?_))
  refine xg 3 [0] rfl rfl ?_
  refine n_ (t_ ?_)
  refine g_casep 60 rfl (fun h4 => ?_) fun h4 => ?_
  ·refine g_cond_t rfl (s_ (o_ ?_))
   refine xg 4 [0] rfl (by omega) ?_
   refine g_val rfl rfl rfl (y_subi rfl rfl (by omega)) ?_
   refine xg 3 [0] rfl (by omega) ?_
   refine nto_ ?_
   refine xg 1 [] rfl rfl ?_
   refine g_val (v := .agg (tC (kT 2)).toArray) rfl rfl rfl (y_val (y_build (offs := [0]) rfl Try.zeroValue92 (by kernel_rfl)) rfl) ?_
   refine g_callAll (fun _ : Value => .tuple #[]) (fun v' => [.cells b 57 [st8 l, (.bool false), v', (.int .i64 (d - 1))], .row 92 7 v' (ts ++ [(kT 2)]).length ((ts ++ [(kT 2)]).flatMap tC)]) rfl rfl rfl Try.call36 (fun w F' hS => put_any b (st8 l) (.bool false) (.int .i64 (d - 1)) v ts (kT 2) F' w (by omega) hS) ?_
   intro vq
   try dsimp only
   refine n_ (g_in_normal (t_ (s_ (o_ ?_))))
   refine xg 1 [] rfl rfl ?_
   refine n_ (t_ (g_ret ?_))
   refine g_end1 Try.results34 rfl ?_
   exact fun w hS => ⟨⟨(l, (ts ++ [(kT 2)]), (d - 1), _, vq), .shuts rfl (by assumption)⟩, rfl, hS.pick [0,0] rfl⟩
  refine g_cond_f rfl (s_ (o_ ?_))
  refine xg 3 [0] rfl rfl ?_
  refine n_ (t_ ?_)
  refine g_casep 73 rfl (fun h5 => ?_) fun h5 => ?_
  ·refine g_cond_t rfl (s_ (o_ ?_))
   refine xg 1 [] rfl rfl ?_
   refine g_callAll (fun _ : Unit => .bool (startsT ts)) (fun _ => [.cells b 57 [st8 l, (.bool false), v, (.int .i64 d)], .row 92 7 v ts.length (ts.flatMap tC)]) rfl rfl rfl Try.call39 (fun w F' hS => starts_any b (st8 l) (.bool false) (.int .i64 d) v ts F' w (by omega) hS) ?_
   intro _
   try dsimp only
   refine xg 2 [] rfl rfl ?_
   first | refine g_casep 79 rfl (fun h6 => ?_) fun h6 => ?_ | refine g_caseb 79 rfl (fun h6 => ?_) fun h6 => ?_
   ·refine xg 1 [] rfl rfl ?_
    refine g_callAll (fun x : {x : Tok × List UInt8 × Bool × Value // IvR [92, 125] l x.1 x.2.1 x.2.2.1} => .bool x.1.2.2.1) (fun x => [.cells b 57 [st8 x.1.2.1, (.bool false), x.1.2.2.2, (.int .i64 d)], .row 92 7 x.1.2.2.2 (ts ++ [x.1.1]).length ((ts ++ [x.1.1]).flatMap tC)]) rfl rfl rfl Try.call42 (fun w F' hS => interval_any b l (.bool false) (.int .i64 d) v ts [92, 125] F' w (by omega) (by omega) hS) ?_
    rintro ⟨⟨t, r, ok, vi⟩, hiv⟩
    try dsimp only
    dsimp only at hiv
    refine xg 2 [] rfl rfl ?_
    refine n_ (t_ (g_ret (g_in_ret (g_then_ret ?_))))
    refine g_end1 Try.results34 rfl ?_
    exact fun w hS => ⟨⟨(r, (ts ++ [t]), d, _, vi), .iv rfl (by assumption) (by simp_all) hiv⟩, rfl, hS.pick [0,0] rfl⟩
   refine xg 4 [] rfl rfl ?_
   refine n_ (t_ (g_ret (g_in_ret (g_then_ret ?_))))
   refine g_end1 Try.results34 rfl ?_
   exact fun w hS => ⟨⟨(l, ts, d, _, v), .ivs rfl (by assumption) (by simp_all)⟩, rfl, hS.pick [0,0] rfl⟩
  refine g_cond_f rfl (s_ (o_ ?_))
  refine xg 1 [] rfl rfl ?_
  refine n_ (t_ (g_ret (g_in_ret (g_then_ret ?_))))
  refine g_end1 Try.results34 rfl ?_
  exact fun w hS => ⟨⟨(l, ts, d, _, v), .other rfl (by assumption) (by show ¬ (0 ≤ Lib.indexByte [46, 91, 93, 92, 42, 94, 36, 47] c); omega) (by assumption) (by assumption) (by assumption)⟩, rfl, hS.pick [0,0] rfl⟩
 have hcl := c.toNat_lt
 have hl1 : (c :: l).length = l.length + 1 := rfl
 refine o_ ?_
 refine xg 5 [0] rfl (by omega) ?_
 refine g_lit 9 false rfl (decide_eq_false (st8_nil c l)) ?_
 refine n_ (t_ (g_cond_f rfl (g_skip (t_ (s_ (o_ ?_))))))
 refine xg 4 [0] rfl (by omega) ?_
 refine g_val (v := .int .u8 (c.toNat : Int)) rfl rfl rfl (y_sidx (i := 0) rfl rfl Try.underlying9 (st8_0 c l)) ?_
 refine xg 1 [] rfl rfl ?_
 refine ntso_ ?_
 refine xg 5 [0] rfl (by omega) ?_
 refine g_val (v := st8 l) rfl rfl rfl (y_val (y_sfrom (l := 1) rfl rfl Try.underlying9 (by show 1 ≤ (c :: l).toArray.size; simp)) (by rw [st8_1]; rfl)) ?_
 refine xg 3 [0] rfl (by omega) ?_
 refine ntso_ ?_
 refine g_val (v := .string ⟨([46, 91, 93, 92, 42, 94, 36, 47] : List UInt8).toArray⟩) rfl rfl rfl (y_assign rfl) ?_
 refine n_ (t_ (s_ (s_ (o_ ?_))))
 refine xg 3 [] rfl rfl ?_
 refine g_val rfl rfl rfl (y_ld 0 rfl Try.isAgg4 rfl rfl) ?_
 refine n_ (t_ (g_cond_t rfl (o_ ?_)))
 refine xg 1 [] rfl rfl ?_
 refine g_val (v := .string ⟨([46, 91, 93, 92, 42, 94, 36, 47, 40, 41, 124, 43, 63, 123, 125] : List UInt8).toArray⟩) rfl rfl rfl (y_val (y_scat rfl rfl (by decide)) (by kernel_rfl)) ?_
 refine xg 1 [] rfl rfl ?_
 refine n_ (t_ (s_ (g_block (s_ (o_ ?_)))))
 refine xg 3 [0] rfl rfl ?_
 refine n_ (t_ ?_)
 refine g_casep 29 rfl (fun h7 => ?_) fun h7 => ?_
 ·refine g_cond_t rfl (o_ ?_)
  refine xg 1 [] rfl rfl ?_
  refine g_callAll (fun _ : Value => .tuple #[]) (fun v' => [.cells b 57 [st8 l, (.bool true), v', (.int .i64 d)], .row 92 7 v' (ts ++ [litT (10 : UInt8)]).length ((ts ++ [litT (10 : UInt8)]).flatMap tC)]) rfl rfl rfl Try.call41 (fun w F' hS => literal_any b (st8 l) (.bool true) (.int .i64 d) v ts (10 : UInt8) F' w (by omega) hS) ?_
  intro vq
  try dsimp only
  refine n_ (g_in_normal (t_ (s_ (o_ ?_))))
  refine xg 1 [] rfl rfl ?_
  refine n_ (t_ (g_ret ?_))
  refine g_end1 Try.results34 rfl ?_
  exact fun w hS => ⟨⟨(l, (ts ++ [litT (10 : UInt8)]), d, _, vq), .nl (by assumption)⟩, rfl, hS.pick [0,0] rfl⟩
 refine g_cond_f rfl (s_ (o_ ?_))
 refine xg 2 [] rfl rfl ?_
 refine g_call1 rfl rfl rfl Try.call60 (fun w hS => indexByte8 [46, 91, 93, 92, 42, 94, 36, 47, 40, 41, 124, 43, 63, 123, 125] c w) ?_
 refine xg 2 [0] rfl rfl ?_
 refine n_ (t_ ?_)
 refine g_casep 34 rfl (fun h8 => ?_) fun h8 => ?_
 ·refine g_cond_t rfl (o_ ?_)
  refine xg 2 [] rfl rfl ?_
  refine g_callAll (fun _ : Value => .tuple #[]) (fun v' => [.cells b 57 [st8 l, (.bool true), v', (.int .i64 d)], .row 92 7 v' (ts ++ [litT c]).length ((ts ++ [litT c]).flatMap tC)]) rfl rfl rfl Try.call41 (fun w F' hS => literal_any b (st8 l) (.bool true) (.int .i64 d) v ts c F' w (by omega) hS) ?_
  intro vq
  try dsimp only
  refine n_ (g_in_normal (t_ (s_ (o_ ?_))))
  refine xg 1 [] rfl rfl ?_
  refine n_ (t_ (g_ret ?_))
  refine g_end1 Try.results34 rfl ?_
  exact fun w hS => ⟨⟨(l, (ts ++ [litT c]), d, _, vq), .known (by assumption) (by show (0 ≤ Lib.indexByte [46, 91, 93, 92, 42, 94, 36, 47, 40, 41, 124, 43, 63, 123, 125] c); omega)⟩, rfl, hS.pick [0,0] rfl⟩
 refine g_cond_f rfl (s_ (o_ ?_))
 refine xg 3 [] rfl rfl ?_
 refine g_val rfl rfl rfl (y_ld 0 rfl Try.isAgg4 rfl rfl) ?_
 refine xg 1 [] rfl rfl ?_
 refine n_ (t_ (g_cond_t rfl (s_ (o_ ?_))))
 refine xg 1 [] rfl rfl ?_
 refine n_ (t_ (g_ret (g_in_ret (g_then_ret ?_))))
 refine g_end1 Try.results34 rfl ?_
 exact fun w hS => ⟨⟨(l, ts, d, _, v), .unknown rfl (by assumption) (by show ¬ (0 ≤ Lib.indexByte [46, 91, 93, 92, 42, 94, 36, 47, 40, 41, 124, 43, 63, 123, 125] c); omega)⟩, rfl, hS.pick [0,0] rfl⟩

end Go.Proofs.Ytjdmdpjbijkjaaa

/- The tokens of any text. -/
namespace Go.Proofs.Ytjdmdpjbijkjaaa
open Go Go.RowKit

def setT (s : Nat → Int) : Tok := ⟨0, s, 0, 0⟩
def tokX (ext : Bool) : UInt8 → List Tok → Int → List Tok × Int := match ext with
  | true => tokE
  | false => tokB
def okX (ext : Bool) (c : UInt8) : Prop := c.toNat ≠ 92 ∧ c.toNat ≠ 91 ∧ c.toNat ≠ 94 ∧ c.toNat ≠ 36 ∧ (ext = true → c.toNat ≠ 123)
inductive LStep (ext : Bool) : List UInt8 → List Tok → Int → Option (List UInt8 × List Tok × Int) → Prop
  | esc {c : UInt8} {l : List UInt8} {ts : List Tok} {d : Int} {r : List UInt8} {ts' : List Tok} {d' : Int} (h : (c.toNat : Int) = 92) (he : EscR ext l ts d r ts' d' true) : LStep ext (c :: l) ts d (some (r, ts', d'))
  | esc0 {c : UInt8} {l : List UInt8} {ts : List Tok} {d : Int} {r : List UInt8} {ts' : List Tok} {d' : Int} (h : (c.toNat : Int) = 92) (he : EscR ext l ts d r ts' d' false) : LStep ext (c :: l) ts d none
  | brack {c : UInt8} {l : List UInt8} {ts : List Tok} {d : Int} {s : Nat → Int} {n : Nat} (h : (c.toNat : Int) = 91) (hn : n ≤ l.length) : LStep ext (c :: l) ts d (some (l.drop n, ts ++ [(setT s)], d))
  | brack0 {c : UInt8} {l : List UInt8} {ts : List Tok} {d : Int} (h : (c.toNat : Int) = 91) : LStep ext (c :: l) ts d none
  | begins {c : UInt8} {l : List UInt8} {ts : List Tok} {d : Int} (h : (c.toNat : Int) = 94) (ha : anchT ext c l ts d = true) : LStep ext (c :: l) ts d (some (l, ts ++ [kT 5], d))
  | ends {c : UInt8} {l : List UInt8} {ts : List Tok} {d : Int} (h : (c.toNat : Int) = 36) (ha : anchT ext c l ts d = true) : LStep ext (c :: l) ts d (some (l, ts ++ [kT 6], d))
  | lits {c : UInt8} {l : List UInt8} {ts : List Tok} {d : Int} (h : (c.toNat : Int) = 94 ∨ (c.toNat : Int) = 36) (he : ext = false) (ha : anchT ext c l ts d = false) : LStep ext (c :: l) ts d (some (l, ts ++ [litT c], d))
  | iv {c : UInt8} {l : List UInt8} {ts : List Tok} {d : Int} {t : Tok} {r : List UInt8} (h : (c.toNat : Int) = 123) (he : ext = true) (hi : IvR [125] l t r true) : LStep ext (c :: l) ts d (some (r, ts ++ [t], d))
  | iv0 {c : UInt8} {l : List UInt8} {ts : List Tok} {d : Int} {t : Tok} {r : List UInt8} (h : (c.toNat : Int) = 123) (he : ext = true) (hi : IvR [125] l t r false) : LStep ext (c :: l) ts d none
  | plain {c : UInt8} {l : List UInt8} {ts : List Tok} {d : Int} {ts' : List Tok} {d' : Int} (h : okX ext c) (e : tokX ext c ts d = (ts', d')) : LStep ext (c :: l) ts d (some (l, ts', d'))
/-- The tokens of a text, or none. -/
inductive Lex (ext : Bool) : List UInt8 → List Tok → Int → Option (List Tok) → Prop
  | done {ts : List Tok} {d : Int} (h : d = 0) : Lex ext [] ts d (some ts)
  | deep {ts : List Tok} {d : Int} (h : d ≠ 0) : Lex ext [] ts d none
  | fail {l : List UInt8} {ts : List Tok} {d : Int} (h : LStep ext l ts d none) : Lex ext l ts d none
  | neg {l : List UInt8} {ts : List Tok} {d : Int} {r : List UInt8} {ts' : List Tok} {d' : Int} (h : LStep ext l ts d (some (r, ts', d'))) (hd : d' < 0) : Lex ext l ts d none
  | next {l : List UInt8} {ts : List Tok} {d : Int} {r : List UInt8} {ts' : List Tok} {d' : Int} {o : Option (List Tok)} (h : LStep ext l ts d (some (r, ts', d'))) (hd : 0 ≤ d') (ho : Lex ext r ts' d' o) : Lex ext l ts d o
theorem lex_end {ext : Bool} {ts : List Tok} {d : Int} : Lex ext [] ts d (if d = 0 then some ts else none) := by
  split
  · exact .done (by assumption)
  · exact .deep (by assumption)
theorem IvR_len {cl l r : List UInt8} {t : Tok} {ok : Bool} (h : IvR cl l t r ok) : r.length ≤ l.length := by
  cases h with
  | one h hc ho => exact Nat.le_trans (Lib.trimPrefix_le _ _) (Nat.le_trans (Lib.trimPrefix_le _ _) (by rw [List.length_drop]; omega))
  | two h hc h2 ho => exact Nat.le_trans (Lib.trimPrefix_le _ _) (Nat.le_trans (by rw [List.length_drop]; exact Nat.sub_le _ _) (Nat.le_trans (Lib.trimPrefix_le _ _) (by rw [List.length_drop]; omega)))
theorem EscR_len {ext : Bool} {l r : List UInt8} {ts ts' : List Tok} {d d' : Int} (h : EscR ext l ts d r ts' d' true) : ts'.length = ts.length + 1 ∧ r.length ≤ l.length ∧ d' ≤ d + 1 ∧ d - 1 ≤ d' := by
  cases h with
  | nl h => simp; omega
  | known h hk => simp; omega
  | opens he h => simp; omega
  | shuts he h => simp; omega
  | iv he h hs hi => have := IvR_len hi; simp; omega

set_option maxRecDepth 100000 in
theorem tokens_xb (b : Nat) (l0 : List UInt8) (v0 : Value) (hl0 : l0.length ≤ 400) (F : List Nat) (w : World) (hz : MaxHere w) (hF0 : 0 ∉ F) (hS0 : St w F [.cells b 57 [st8 l0, .bool false, v0, .int .i64 0], .row 92 7 v0 ([] : List Tok).length (([] : List Tok).flatMap tC)] w) :
    Calls Try.prog 20 #[.pointer (some ⟨b, 0, none⟩)] w fun e w' => ∃ x : {x : Value × List UInt8 × List Tok × Int × Option (List Tok) // Lex false l0 [] 0 x.2.2.2.2 ∧ ∀ ts, x.2.2.2.2 = some ts → x.2.2.1 = ts ∧ ts.length ≤ l0.length}, e = .returned (.bool x.1.2.2.2.2.isSome) ∧ St w F [.cells b 57 [st8 x.1.2.1, .bool false, x.1.1, .int .i64 x.1.2.2.2.1], .row 92 7 x.1.1 x.1.2.2.1.length (x.1.2.2.1.flatMap tC)] w' := by
 refine fn_intro_own Try.func20 rfl Try.ntmps20 rfl rfl hS0 ?_
 refine s_ (o_ ?_)
 refine xg 1 [] rfl rfl ?_
 refine n_ (t_ ?_)
 refine g_scope_fall (α := {x : List UInt8 × Value × List Tok × Int // x.1.length + x.2.2.1.length ≤ l0.length ∧ 0 ≤ x.2.2.2 ∧ x.2.2.2 ≤ x.2.2.1.length ∧ ∀ o, Lex false x.1 x.2.2.1 x.2.2.2 o → Lex false l0 [] 0 o}) (fun z => match z with | x => [(0, .pointer (some ⟨b, 0, none⟩))]) (fun z => match z with | x => St w F [.cells b 57 [st8 x.1.1, .bool false, x.1.2.1, .int .i64 x.1.2.2.2], .row 92 7 x.1.2.1 x.1.2.2.1.length (x.1.2.2.1.flatMap tC)]) (fun z => match z with | x => 0) (fun z => match z with | x => x.1.1.length) (fun _ => rfl) ?_ ?_
 ·intro x
  dsimp only
  obtain ⟨⟨rest, v, ts, d⟩, hx⟩ := x
  dsimp only at hx ⊢
  obtain ⟨hlen, hd0, hd1, hR⟩ := hx
  refine s_ (s_ ?_)
  rcases rest with _ | ⟨c, l⟩
  ·refine o_ ?_
   refine xg 5 [0] rfl (by omega) ?_
   refine g_lit 11 true rfl (decide_eq_true rfl) ?_
   refine n_ (t_ (g_cond_t rfl (s_ (o_ ?_))))
   refine xg 6 [0,0] rfl (by omega) ?_
   refine n_ (t_ (g_ret (g_then_ret (g_jumps_ret ?_))))
   refine g_end1 Try.results20 rfl ?_
   refine fun w hS => ⟨⟨(v, [], ts, d, if d = 0 then some ts else none), hR _ lex_end, fun ts' q => ?_⟩, ret_bool (by dsimp only; split <;> simp_all), hS.pick [0,0] rfl⟩
   dsimp only at q
   split at q
   · cases q; exact ⟨rfl, by simp at hlen; omega⟩
   · cases q
  have hcl := c.toNat_lt
  have hl1 : (c :: l).length = l.length + 1 := rfl
  refine o_ ?_
  refine xg 5 [0] rfl (by omega) ?_
  refine g_lit 11 false rfl (decide_eq_false (st8_nil c l)) ?_
  refine n_ (t_ (g_cond_f rfl (g_skip (t_ (s_ ?_)))))
  refine k_go [] rfl (by kernel_rfl) (fun _ _ _ _ _ h => h) fun hQ => ?_
  refine k_x 0 [] [] hQ (by kernel_rfl) rfl rfl rfl rfl rfl rfl ?_
  refine k_x 1 [] [] hQ (by kernel_rfl) rfl rfl rfl rfl rfl rfl ?_
  refine k_x 2 [] [] hQ (by kernel_rfl) rfl rfl rfl rfl rfl rfl ?_
  refine k_x 3 [] [] hQ (by kernel_rfl) rfl rfl rfl rfl rfl rfl ?_
  refine k_x 6 [] [] hQ (by kernel_rfl) rfl rfl rfl rfl rfl rfl ?_
  refine k_x 7 [] [] hQ (by kernel_rfl) rfl rfl rfl rfl rfl rfl ?_
  refine k_x 8 [] [] hQ (by kernel_rfl) rfl rfl rfl rfl rfl rfl ?_
  refine k_all [4,9] (by kernel_rfl) (by simp) ⟨?_, ?_, trivial⟩
  ·refine k_op 4 rfl ?_
   refine xg 1 [0] rfl (by omega) ?_
   refine n_ ?_
   refine k_end (fun _ h => h.pick [] rfl) ?_
   refine k_take (v := .int .u8 (c.toNat : Int)) 5 rfl (by kernel_rfl) hQ rfl rfl rfl (fun _ h => h.pick [] rfl) (y_sidx (i := 0) rfl rfl Try.underlying9 (st8_0 c l)) ?_
   refine k_x 11 [] [] hQ (by kernel_rfl) rfl rfl rfl rfl rfl rfl ?_
   refine k_one 9 (by kernel_rfl) ?_
   refine k_op 9 rfl ?_
   refine xg 1 [0] rfl (by omega) ?_
   refine n_ ?_
   refine k_end (fun _ h => h.pick [] rfl) ?_
   refine k_take (v := st8 l) 10 rfl (by kernel_rfl) hQ rfl rfl rfl (fun _ h => h.pick [] rfl) (y_val (y_sfrom (l := 1) rfl rfl Try.underlying9 (by show 1 ≤ (c :: l).toArray.size; simp)) (by rw [st8_1]; rfl)) ?_
   refine k_x 12 [] [] hQ (by kernel_rfl) rfl rfl rfl rfl rfl rfl ?_
   refine k_x 13 [] [] hQ (by kernel_rfl) rfl rfl rfl rfl rfl rfl ?_
   refine k_one 14 (by kernel_rfl) ?_
   refine k_op 14 rfl ?_
   refine xg 1 [0] rfl (by omega) ?_
   refine n_ ?_
   refine k_end (fun _ h => h.pick [] rfl) ?_
   refine k_done (by kernel_rfl) ?_
   refine t_ (s_ (g_block (s_ (o_ ?_))))
   refine xg 3 [0] rfl rfl ?_
   refine n_ (t_ ?_)
   refine g_casep 33 rfl (fun h1 => ?_) fun h1 => ?_
   ·refine g_cond_t rfl (s_ (o_ ?_))
    refine xg 1 [] rfl rfl ?_
    refine g_callAll (fun x : {x : List UInt8 × List Tok × Int × Bool × Value // EscR false l ts d x.1 x.2.1 x.2.2.1 x.2.2.2.1} => .bool x.1.2.2.2.1) (fun x => [.cells b 57 [st8 x.1.1, .bool false, x.1.2.2.2.2, .int .i64 x.1.2.2.1], .row 92 7 x.1.2.2.2.2 x.1.2.1.length (x.1.2.1.flatMap tC)]) rfl rfl rfl Try.call34 (fun w F' hS => escaped_any b false l d v ts F' w (by omega) (by omega) (by omega) hS) ?_
    rintro ⟨⟨r, ts1, d1, ok, ve⟩, hesc⟩
    try dsimp only
    dsimp only at hesc
    refine xg 1 [] rfl rfl ?_
    refine n_ (t_ ?_)
    first | refine g_casep 38 rfl (fun h2 => ?_) fun h2 => ?_ | refine g_caseb 38 rfl (fun h2 => ?_) fun h2 => ?_
    ·refine g_cond_t rfl (s_ ?_)
     obtain rfl : ok = false := by simpa using ‹(!ok) = true›
     refine o_ ?_
     refine xg 1 [] rfl rfl ?_
     refine n_ (t_ (g_ret (g_in_ret (g_then_ret (g_jumps_ret ?_)))))
     refine g_end1 Try.results20 rfl ?_
     exact fun w hS => ⟨⟨(ve, r, ts1, d1, none), hR _ (.fail (.esc0 (by omega) hesc)), fun ts' q => by cases q⟩, rfl, hS.pick [0,0] rfl⟩
    refine g_cond_f rfl (g_skip (g_in_normal (t_ (s_ (s_ ?_)))))
    obtain rfl : ok = true := by simpa using ‹(!ok) = false›
    have hel := EscR_len hesc
    refine o_ ?_
    refine xg 5 [0,0] rfl (by omega) ?_
    refine n_ (t_ ?_)
    refine g_casep 186 rfl (fun h3 => ?_) fun h3 => ?_
    ·refine g_cond_t rfl (s_ (o_ ?_))
     refine xg 1 [] rfl rfl ?_
     refine n_ (t_ (g_ret (g_then_ret (g_jumps_ret ?_))))
     refine g_end1 Try.results20 rfl ?_
     exact fun w hS => ⟨⟨(ve, r, ts1, d1, none), hR _ (.neg (.esc (by omega) hesc) (by omega)), fun ts' q => by cases q⟩, rfl, hS.pick [0,0] rfl⟩
    refine g_cond_f rfl (g_skip (t_ (g_goto ?_)))
    exact g_jump ⟨(r, ve, ts1, d1), by dsimp only; (try rw [List.length_append, List.length_singleton]); omega, by dsimp only; omega, by dsimp only; (try rw [List.length_append, List.length_singleton]); omega, fun o h => hR o (.next (.esc (by omega) hesc) (by first | omega | (dsimp only; omega)) h)⟩ [0] rfl (fun j hj => by cases hj; dsimp only; omega) rfl (fun w h => h.pick [0,0] rfl)
   refine g_cond_f rfl (s_ (o_ ?_))
   refine xg 3 [0] rfl rfl ?_
   refine n_ (t_ ?_)
   refine g_casep 39 rfl (fun h4 => ?_) fun h4 => ?_
   ·refine g_cond_t rfl (s_ (o_ ?_))
    refine xg 4 [0] rfl (by omega) ?_
    refine g_callE (fun x : {x : (Nat → Int) × Int × Int // x.2.2 = 0 → 0 ≤ x.2.1 ∧ x.2.1 ≤ l.length} => .tuple #[.agg (s4C x.1.1).toArray, .int .i64 x.1.2.1, .int .i64 x.1.2.2]) rfl rfl rfl Try.call35 (fun w hS => bracket_any l (by omega) w (hS.maxHere hz hF0)) ?_
    rintro ⟨⟨s, n, er⟩, hb⟩
    dsimp only at hb ⊢
    refine xg 1 [] rfl rfl ?_
    refine g_val (v := .agg (s4C s).toArray) rfl rfl rfl (y_extract rfl rfl) ?_
    refine g_val (v := .int .i64 n) rfl rfl rfl (y_extract rfl rfl) ?_
    refine g_val (v := .int .i64 er) rfl rfl rfl (y_extract rfl rfl) ?_
    refine g_alloc rfl rfl Try.zeroValue25 rfl (fun b1 => ?_)
    refine g_stN 0 rfl rfl rfl (by kernel_rfl) rfl rfl rfl rfl ?_
    simp only [List.set_cons_zero]
    refine xg 2 [] rfl rfl ?_
    refine n_ (t_ (s_ (s_ (o_ ?_))))
    refine xg 2 [0] rfl rfl ?_
    refine n_ (t_ ?_)
    refine g_casep 52 rfl (fun h5 => ?_) fun h5 => ?_
    ·refine g_cond_t rfl (s_ (o_ ?_))
     refine xg 1 [] rfl rfl ?_
     refine n_ (t_ (g_ret (g_then_ret (g_in_ret (g_then_ret (g_jumps_ret ?_))))))
     refine g_end1 Try.results20 rfl ?_
     exact fun w hS => ⟨⟨(v, l, ts, d, none), hR _ (.fail (.brack0 (by omega))), fun ts' q => by cases q⟩, rfl, hS.pick [1,1] rfl⟩
    refine g_cond_f rfl (g_skip (t_ (s_ ?_)))
    obtain ⟨hn0, hn1⟩ := hb (by omega)
    obtain ⟨n, rfl⟩ := Int.eq_ofNat_of_zero_le hn0
    have hld := List.length_drop (l := l) (i := n)
    refine o_ ?_
    refine xg 1 [] rfl rfl ?_
    refine g_val rfl rfl rfl (y_ldN (vs := (s4C s)) 0 rfl Try.isAgg25 Try.sizeOf25 rfl rfl rfl) ?_
    refine g_val (v := .agg (tC (setT s)).toArray) rfl rfl rfl (y_val (y_build (offs := [0, 1]) rfl Try.zeroValue92 (by kernel_rfl)) rfl) ?_
    refine g_perm (.trans (.swap _ _ _) (.cons _ (.swap _ _ _))) ?_
    refine g_callOwn (L0 := [.cells b 57 [st8 l, (.bool false), v, (.int .i64 d)], .row 92 7 v ts.length (ts.flatMap tC)]) (fun _ : Value => .tuple #[]) (fun v' => [.cells b 57 [st8 l, (.bool false), v', (.int .i64 d)], .row 92 7 v' (ts ++ [(setT s)]).length ((ts ++ [(setT s)]).flatMap tC)]) rfl rfl rfl Try.call36 (fun w hS => put_any b (st8 l) (.bool false) (.int .i64 d) v ts (setT s) _ w (by omega) hS.part) ?_
    intro vq
    try dsimp only
    simp only [List.cons_append, List.nil_append]
    refine nto_ ?_
    refine xg 6 [0] rfl (by omega) ?_
    refine g_val (v := st8 (l.drop n)) rfl rfl rfl (y_val (y_sfrom (l := n) rfl rfl Try.underlying9 (by rw [size_mk]; omega)) (by rw [st8_drop]; rfl)) ?_
    refine xg 3 [0] rfl (by omega) ?_
    refine n_ (g_in_normal (t_ (s_ (s_ (o_ ?_)))))
    refine xg 5 [0,2] rfl (by omega) ?_
    refine n_ (t_ (g_cond_f rfl (g_skip (t_ (g_goto ?_)))))
    exact g_jump ⟨((l.drop n), vq, (ts ++ [(setT s)]), d), by dsimp only; (try rw [List.length_append, List.length_singleton]); omega, by dsimp only; omega, by dsimp only; (try rw [List.length_append, List.length_singleton]); omega, fun o h => hR o (.next (.brack (by omega) (by omega)) (by first | omega | (dsimp only; omega)) h)⟩ [0] rfl (fun j hj => by cases hj; dsimp only; omega) rfl (fun w h => h.pick [0,0] rfl)
   refine g_cond_f rfl (s_ (o_ ?_))
   refine xg 3 [0] rfl rfl ?_
   refine n_ (t_ ?_)
   refine g_casep 66 rfl (fun h6 => ?_) fun h6 => ?_
   ·refine g_cond_t rfl (o_ ?_)
    refine xg 2 [] rfl rfl ?_
    refine g_call1 rfl rfl rfl Try.call37 (fun w hS => cwith_any s0 0 255 (by decide) (by decide) w) ?_
    refine xg 1 [] rfl rfl ?_
    refine g_callAll (fun _ : Value => .tuple #[]) (fun v' => [.cells b 57 [st8 l, (.bool false), v', (.int .i64 d)], .row 92 7 v' (ts ++ [dotT]).length ((ts ++ [dotT]).flatMap tC)]) rfl rfl rfl Try.call36 (fun w F' hS => put_any b (st8 l) (.bool false) (.int .i64 d) v ts dotT F' w (by omega) hS) ?_
    intro vq
    try dsimp only
    refine n_ (g_in_normal (t_ (s_ (s_ (o_ ?_)))))
    refine xg 5 [0,2] rfl (by omega) ?_
    refine n_ (t_ (g_cond_f rfl (g_skip (t_ (g_goto ?_)))))
    exact g_jump ⟨(l, vq, (ts ++ [dotT]), d), by dsimp only; (try rw [List.length_append, List.length_singleton]); omega, by dsimp only; omega, by dsimp only; (try rw [List.length_append, List.length_singleton]); omega, fun o h => hR o (.next (.plain (by unfold okX; refine ⟨by omega, by omega, by omega, by omega, fun q => ?_⟩; first | omega | cases q) (by show tokB c ts d = _; unfold tokB; rw [if_pos (by omega)])) (by first | omega | (dsimp only; omega)) h)⟩ [0] rfl (fun j hj => by cases hj; dsimp only; omega) rfl (fun w h => h.pick [0,0] rfl)
   refine g_cond_f rfl (s_ (o_ ?_))
   refine xg 3 [0] rfl rfl ?_
   refine g_casep 77 rfl (fun h7 => ?_) fun h7 => ?_
   ·refine xg 2 [] rfl rfl ?_
    refine g_callAll (fun _ : Unit => .bool (anchT false c l ts d)) (fun _ => [.cells b 57 [st8 l, .bool false, v, .int .i64 d], .row 92 7 v ts.length (ts.flatMap tC)]) rfl rfl rfl Try.call38 (fun w F' hS => anchored_any b false l d v ts c F' w (by omega) (by omega) (by omega) hS) ?_
    intro _
    try dsimp only
    refine xg 2 [] rfl rfl ?_
    refine n_ (t_ ?_)
    first | refine g_casep 74 rfl (fun h8 => ?_) fun h8 => ?_ | refine g_caseb 74 rfl (fun h8 => ?_) fun h8 => ?_
    ·refine g_cond_t rfl (o_ ?_)
     refine xg 2 [] rfl rfl ?_
     refine g_callAll (fun _ : Value => .tuple #[]) (fun v' => [.cells b 57 [st8 l, (.bool false), v', (.int .i64 d)], .row 92 7 v' (ts ++ [(kT 5)]).length ((ts ++ [(kT 5)]).flatMap tC)]) rfl rfl rfl Try.call36 (fun w F' hS => put_any b (st8 l) (.bool false) (.int .i64 d) v ts (kT 5) F' w (by omega) hS) ?_
     intro vq
     try dsimp only
     refine n_ (g_in_normal (t_ (s_ (s_ (o_ ?_)))))
     refine xg 5 [0,2] rfl (by omega) ?_
     refine n_ (t_ (g_cond_f rfl (g_skip (t_ (g_goto ?_)))))
     exact g_jump ⟨(l, vq, (ts ++ [(kT 5)]), d), by dsimp only; (try rw [List.length_append, List.length_singleton]); omega, by dsimp only; omega, by dsimp only; (try rw [List.length_append, List.length_singleton]); omega, fun o h => hR o (.next (.begins (by omega) (by assumption)) (by first | omega | (dsimp only; omega)) h)⟩ [0] rfl (fun j hj => by cases hj; dsimp only; omega) rfl (fun w h => h.pick [0,0] rfl)
    refine g_cond_f rfl (s_ (o_ ?_))
    refine xg 8 [2] rfl (by omega) ?_
    refine n_ (t_ (g_cond_f rfl (s_ (o_ ?_))))
    refine xg 18 [2] rfl (by omega) ?_
    refine n_ (t_ (g_cond_f rfl (s_ (o_ ?_))))
    refine xg 3 [2] rfl (by omega) ?_
    refine n_ (t_ (g_cond_f rfl (s_ (o_ ?_))))
    refine xg 6 [0] rfl (by omega) ?_
    refine n_ (t_ (g_cond_t rfl (o_ ?_)))
    refine xg 2 [] rfl rfl ?_
    refine g_callAll (fun _ : Value => .tuple #[]) (fun v' => [.cells b 57 [st8 l, (.bool false), v', (.int .i64 d)], .row 92 7 v' (ts ++ [litT c]).length ((ts ++ [litT c]).flatMap tC)]) rfl rfl rfl Try.call41 (fun w F' hS => literal_any b (st8 l) (.bool false) (.int .i64 d) v ts c F' w (by omega) hS) ?_
    intro vq
    try dsimp only
    refine n_ (g_in_normal (t_ (s_ (s_ (o_ ?_)))))
    refine xg 5 [0,2] rfl (by omega) ?_
    refine n_ (t_ (g_cond_f rfl (g_skip (t_ (g_goto ?_)))))
    exact g_jump ⟨(l, vq, (ts ++ [litT c]), d), by dsimp only; (try rw [List.length_append, List.length_singleton]); omega, by dsimp only; omega, by dsimp only; (try rw [List.length_append, List.length_singleton]); omega, fun o h => hR o (.next (.lits (by omega) rfl (by assumption)) (by first | omega | (dsimp only; omega)) h)⟩ [0] rfl (fun j hj => by cases hj; dsimp only; omega) rfl (fun w h => h.pick [0,0] rfl)
   refine xg 5 [] rfl rfl ?_
   refine n_ (t_ (g_cond_f rfl (s_ (o_ ?_))))
   refine xg 3 [0] rfl rfl ?_
   refine g_casep 88 rfl (fun h9 => ?_) fun h9 => ?_
   ·refine xg 2 [] rfl rfl ?_
    refine g_callAll (fun _ : Unit => .bool (anchT false c l ts d)) (fun _ => [.cells b 57 [st8 l, .bool false, v, .int .i64 d], .row 92 7 v ts.length (ts.flatMap tC)]) rfl rfl rfl Try.call38 (fun w F' hS => anchored_any b false l d v ts c F' w (by omega) (by omega) (by omega) hS) ?_
    intro _
    try dsimp only
    refine xg 2 [] rfl rfl ?_
    refine n_ (t_ ?_)
    first | refine g_casep 85 rfl (fun h10 => ?_) fun h10 => ?_ | refine g_caseb 85 rfl (fun h10 => ?_) fun h10 => ?_
    ·refine g_cond_t rfl (o_ ?_)
     refine xg 2 [] rfl rfl ?_
     refine g_callAll (fun _ : Value => .tuple #[]) (fun v' => [.cells b 57 [st8 l, (.bool false), v', (.int .i64 d)], .row 92 7 v' (ts ++ [(kT 6)]).length ((ts ++ [(kT 6)]).flatMap tC)]) rfl rfl rfl Try.call36 (fun w F' hS => put_any b (st8 l) (.bool false) (.int .i64 d) v ts (kT 6) F' w (by omega) hS) ?_
     intro vq
     try dsimp only
     refine n_ (g_in_normal (t_ (s_ (s_ (o_ ?_)))))
     refine xg 5 [0,2] rfl (by omega) ?_
     refine n_ (t_ (g_cond_f rfl (g_skip (t_ (g_goto ?_)))))
     exact g_jump ⟨(l, vq, (ts ++ [(kT 6)]), d), by dsimp only; (try rw [List.length_append, List.length_singleton]); omega, by dsimp only; omega, by dsimp only; (try rw [List.length_append, List.length_singleton]); omega, fun o h => hR o (.next (.ends (by omega) (by assumption)) (by first | omega | (dsimp only; omega)) h)⟩ [0] rfl (fun j hj => by cases hj; dsimp only; omega) rfl (fun w h => h.pick [0,0] rfl)
    refine g_cond_f rfl (s_ (o_ ?_))
    refine xg 18 [2] rfl (by omega) ?_
    refine n_ (t_ (g_cond_f rfl (s_ (o_ ?_))))
    refine xg 3 [2] rfl (by omega) ?_
    refine n_ (t_ (g_cond_f rfl (s_ (o_ ?_))))
    refine xg 6 [0] rfl (by omega) ?_
    refine n_ (t_ (g_cond_t rfl (o_ ?_)))
    refine xg 2 [] rfl rfl ?_
    refine g_callAll (fun _ : Value => .tuple #[]) (fun v' => [.cells b 57 [st8 l, (.bool false), v', (.int .i64 d)], .row 92 7 v' (ts ++ [litT c]).length ((ts ++ [litT c]).flatMap tC)]) rfl rfl rfl Try.call41 (fun w F' hS => literal_any b (st8 l) (.bool false) (.int .i64 d) v ts c F' w (by omega) hS) ?_
    intro vq
    try dsimp only
    refine n_ (g_in_normal (t_ (s_ (s_ (o_ ?_)))))
    refine xg 5 [0,2] rfl (by omega) ?_
    refine n_ (t_ (g_cond_f rfl (g_skip (t_ (g_goto ?_)))))
    exact g_jump ⟨(l, vq, (ts ++ [litT c]), d), by dsimp only; (try rw [List.length_append, List.length_singleton]); omega, by dsimp only; omega, by dsimp only; (try rw [List.length_append, List.length_singleton]); omega, fun o h => hR o (.next (.lits (by omega) rfl (by assumption)) (by first | omega | (dsimp only; omega)) h)⟩ [0] rfl (fun j hj => by cases hj; dsimp only; omega) rfl (fun w h => h.pick [0,0] rfl)
   refine xg 5 [] rfl rfl ?_
   refine n_ (t_ (g_cond_f rfl (s_ (o_ ?_))))
   refine xg 3 [0] rfl rfl ?_
   refine g_casep 99 rfl (fun h11 => ?_) fun h11 => ?_
   ·refine xg 8 [0] rfl (by omega) ?_
    refine g_callAll (fun _ : Unit => .bool (startsT ts)) (fun _ => [.cells b 57 [st8 l, (.bool false), v, (.int .i64 d)], .row 92 7 v ts.length (ts.flatMap tC)]) rfl rfl rfl Try.call39 (fun w F' hS => starts_any b (st8 l) (.bool false) (.int .i64 d) v ts F' w (by omega) hS) ?_
    intro _
    try dsimp only
    refine xg 1 [] rfl rfl ?_
    first | refine g_casep 109 rfl (fun h12 => ?_) fun h12 => ?_ | refine g_caseb 109 rfl (fun h12 => ?_) fun h12 => ?_
    ·refine xg 5 [] rfl rfl ?_
     refine n_ (t_ (g_cond_t rfl (o_ ?_)))
     refine xg 2 [] rfl rfl ?_
     refine g_callAll (fun _ : Value => .tuple #[]) (fun v' => [.cells b 57 [st8 l, (.bool false), v', (.int .i64 d)], .row 92 7 v' (ts ++ [litT c]).length ((ts ++ [litT c]).flatMap tC)]) rfl rfl rfl Try.call41 (fun w F' hS => literal_any b (st8 l) (.bool false) (.int .i64 d) v ts c F' w (by omega) hS) ?_
     intro vq
     try dsimp only
     refine n_ (g_in_normal (t_ (s_ (s_ (o_ ?_)))))
     refine xg 5 [0,2] rfl (by omega) ?_
     refine n_ (t_ (g_cond_f rfl (g_skip (t_ (g_goto ?_)))))
     exact g_jump ⟨(l, vq, (ts ++ [litT c]), d), by dsimp only; (try rw [List.length_append, List.length_singleton]); omega, by dsimp only; omega, by dsimp only; (try rw [List.length_append, List.length_singleton]); omega, fun o h => hR o (.next (.plain (by unfold okX; refine ⟨by omega, by omega, by omega, by omega, fun q => ?_⟩; first | omega | cases q) (by show tokB c ts d = _; unfold tokB; rw [if_neg (by omega), if_pos ⟨by omega, by simp_all⟩])) (by first | omega | (dsimp only; omega)) h)⟩ [0] rfl (fun j hj => by cases hj; dsimp only; omega) rfl (fun w h => h.pick [0,0] rfl)
    refine xg 1 [] rfl rfl ?_
    refine g_callAll (fun _ : Unit => .bool (begunT ts)) (fun _ => [.cells b 57 [st8 l, (.bool false), v, (.int .i64 d)], .row 92 7 v ts.length (ts.flatMap tC)]) rfl rfl rfl Try.call40 (fun w F' hS => begun_any b (st8 l) (.bool false) (.int .i64 d) v ts F' w (by omega) hS) ?_
    intro _
    try dsimp only
    refine xg 3 [] rfl rfl ?_
    refine n_ (t_ ?_)
    first | refine g_casep 96 rfl (fun h13 => ?_) fun h13 => ?_ | refine g_caseb 96 rfl (fun h13 => ?_) fun h13 => ?_
    ·refine g_cond_t rfl (o_ ?_)
     refine xg 2 [] rfl rfl ?_
     refine g_callAll (fun _ : Value => .tuple #[]) (fun v' => [.cells b 57 [st8 l, (.bool false), v', (.int .i64 d)], .row 92 7 v' (ts ++ [litT c]).length ((ts ++ [litT c]).flatMap tC)]) rfl rfl rfl Try.call41 (fun w F' hS => literal_any b (st8 l) (.bool false) (.int .i64 d) v ts c F' w (by omega) hS) ?_
     intro vq
     try dsimp only
     refine n_ (g_in_normal (t_ (s_ (s_ (o_ ?_)))))
     refine xg 5 [0,2] rfl (by omega) ?_
     refine n_ (t_ (g_cond_f rfl (g_skip (t_ (g_goto ?_)))))
     exact g_jump ⟨(l, vq, (ts ++ [litT c]), d), by dsimp only; (try rw [List.length_append, List.length_singleton]); omega, by dsimp only; omega, by dsimp only; (try rw [List.length_append, List.length_singleton]); omega, fun o h => hR o (.next (.plain (by unfold okX; refine ⟨by omega, by omega, by omega, by omega, fun q => ?_⟩; first | omega | cases q) (by show tokB c ts d = _; unfold tokB; rw [if_neg (by omega), if_pos ⟨by omega, by simp_all⟩])) (by first | omega | (dsimp only; omega)) h)⟩ [0] rfl (fun j hj => by cases hj; dsimp only; omega) rfl (fun w h => h.pick [0,0] rfl)
    refine g_cond_f rfl (s_ (o_ ?_))
    refine xg 3 [1] rfl (by omega) ?_
    refine n_ (t_ (g_cond_t rfl (o_ ?_)))
    refine xg 2 [] rfl rfl ?_
    refine g_callAll (fun _ : Value => .tuple #[]) (fun v' => [.cells b 57 [st8 l, (.bool false), v', (.int .i64 d)], .row 92 7 v' (ts ++ [(timesT 0 (-1))]).length ((ts ++ [(timesT 0 (-1))]).flatMap tC)]) rfl rfl rfl Try.call36 (fun w F' hS => put_any b (st8 l) (.bool false) (.int .i64 d) v ts (timesT 0 (-1)) F' w (by omega) hS) ?_
    intro vq
    try dsimp only
    refine n_ (g_in_normal (t_ (s_ (s_ (o_ ?_)))))
    refine xg 5 [0,2] rfl (by omega) ?_
    refine n_ (t_ (g_cond_f rfl (g_skip (t_ (g_goto ?_)))))
    exact g_jump ⟨(l, vq, (ts ++ [(timesT 0 (-1))]), d), by dsimp only; (try rw [List.length_append, List.length_singleton]); omega, by dsimp only; omega, by dsimp only; (try rw [List.length_append, List.length_singleton]); omega, fun o h => hR o (.next (.plain (by unfold okX; refine ⟨by omega, by omega, by omega, by omega, fun q => ?_⟩; first | omega | cases q) (by show tokB c ts d = _; unfold tokB; rw [if_neg (by omega), if_neg (fun q => by have := q.2; simp_all), if_pos (by omega)])) (by first | omega | (dsimp only; omega)) h)⟩ [0] rfl (fun j hj => by cases hj; dsimp only; omega) rfl (fun w h => h.pick [0,0] rfl)
   refine xg 15 [] rfl rfl ?_
   refine n_ (t_ (g_cond_f rfl (s_ (o_ ?_))))
   refine xg 3 [2] rfl (by omega) ?_
   refine n_ (t_ (g_cond_f rfl (s_ (o_ ?_))))
   refine xg 6 [0] rfl (by omega) ?_
   refine n_ (t_ (g_cond_t rfl (o_ ?_)))
   refine xg 2 [] rfl rfl ?_
   refine g_callAll (fun _ : Value => .tuple #[]) (fun v' => [.cells b 57 [st8 l, (.bool false), v', (.int .i64 d)], .row 92 7 v' (ts ++ [litT c]).length ((ts ++ [litT c]).flatMap tC)]) rfl rfl rfl Try.call41 (fun w F' hS => literal_any b (st8 l) (.bool false) (.int .i64 d) v ts c F' w (by omega) hS) ?_
   intro vq
   try dsimp only
   refine n_ (g_in_normal (t_ (s_ (s_ (o_ ?_)))))
   refine xg 5 [0,2] rfl (by omega) ?_
   refine n_ (t_ (g_cond_f rfl (g_skip (t_ (g_goto ?_)))))
   exact g_jump ⟨(l, vq, (ts ++ [litT c]), d), by dsimp only; (try rw [List.length_append, List.length_singleton]); omega, by dsimp only; omega, by dsimp only; (try rw [List.length_append, List.length_singleton]); omega, fun o h => hR o (.next (.plain (by unfold okX; refine ⟨by omega, by omega, by omega, by omega, fun q => ?_⟩; first | omega | cases q) (by show tokB c ts d = _; unfold tokB; rw [if_neg (by omega), if_neg (fun q => by have := q.1; omega), if_neg (by omega)])) (by first | omega | (dsimp only; omega)) h)⟩ [0] rfl (fun j hj => by cases hj; dsimp only; omega) rfl (fun w h => h.pick [0,0] rfl)
  refine k_op 9 rfl ?_
  refine xg 1 [0] rfl (by omega) ?_
  refine n_ ?_
  refine k_end (fun _ h => h.pick [] rfl) ?_
  refine k_take (v := st8 l) 10 rfl (by kernel_rfl) hQ rfl rfl rfl (fun _ h => h.pick [] rfl) (y_val (y_sfrom (l := 1) rfl rfl Try.underlying9 (by show 1 ≤ (c :: l).toArray.size; simp)) (by rw [st8_1]; rfl)) ?_
  refine k_one 4 (by kernel_rfl) ?_
  refine k_op 4 rfl ?_
  refine xg 1 [0] rfl (by omega) ?_
  refine n_ ?_
  refine k_end (fun _ h => h.pick [] rfl) ?_
  refine k_take (v := .int .u8 (c.toNat : Int)) 5 rfl (by kernel_rfl) hQ rfl rfl rfl (fun _ h => h.pick [] rfl) (y_sidx (i := 0) rfl rfl Try.underlying9 (st8_0 c l)) ?_
  refine k_x 11 [] [] hQ (by kernel_rfl) rfl rfl rfl rfl rfl rfl ?_
  refine k_x 12 [] [] hQ (by kernel_rfl) rfl rfl rfl rfl rfl rfl ?_
  refine k_x 13 [] [] hQ (by kernel_rfl) rfl rfl rfl rfl rfl rfl ?_
  refine k_one 14 (by kernel_rfl) ?_
  refine k_op 14 rfl ?_
  refine xg 1 [0] rfl (by omega) ?_
  refine n_ ?_
  refine k_end (fun _ h => h.pick [] rfl) ?_
  refine k_done (by kernel_rfl) ?_
  refine t_ (s_ (g_block (s_ (o_ ?_))))
  refine xg 3 [0] rfl rfl ?_
  refine n_ (t_ ?_)
  refine g_casep 33 rfl (fun h14 => ?_) fun h14 => ?_
  ·refine g_cond_t rfl (s_ (o_ ?_))
   refine xg 1 [] rfl rfl ?_
   refine g_callAll (fun x : {x : List UInt8 × List Tok × Int × Bool × Value // EscR false l ts d x.1 x.2.1 x.2.2.1 x.2.2.2.1} => .bool x.1.2.2.2.1) (fun x => [.cells b 57 [st8 x.1.1, .bool false, x.1.2.2.2.2, .int .i64 x.1.2.2.1], .row 92 7 x.1.2.2.2.2 x.1.2.1.length (x.1.2.1.flatMap tC)]) rfl rfl rfl Try.call34 (fun w F' hS => escaped_any b false l d v ts F' w (by omega) (by omega) (by omega) hS) ?_
   rintro ⟨⟨r, ts1, d1, ok, ve⟩, hesc⟩
   try dsimp only
   dsimp only at hesc
   refine xg 1 [] rfl rfl ?_
   refine n_ (t_ ?_)
   first | refine g_casep 38 rfl (fun h15 => ?_) fun h15 => ?_ | refine g_caseb 38 rfl (fun h15 => ?_) fun h15 => ?_
   ·refine g_cond_t rfl (s_ ?_)
    obtain rfl : ok = false := by simpa using ‹(!ok) = true›
    refine o_ ?_
    refine xg 1 [] rfl rfl ?_
    refine n_ (t_ (g_ret (g_in_ret (g_then_ret (g_jumps_ret ?_)))))
    refine g_end1 Try.results20 rfl ?_
    exact fun w hS => ⟨⟨(ve, r, ts1, d1, none), hR _ (.fail (.esc0 (by omega) hesc)), fun ts' q => by cases q⟩, rfl, hS.pick [0,0] rfl⟩
   refine g_cond_f rfl (g_skip (g_in_normal (t_ (s_ (s_ ?_)))))
   obtain rfl : ok = true := by simpa using ‹(!ok) = false›
   have hel := EscR_len hesc
   refine o_ ?_
   refine xg 5 [0,0] rfl (by omega) ?_
   refine n_ (t_ ?_)
   refine g_casep 186 rfl (fun h16 => ?_) fun h16 => ?_
   ·refine g_cond_t rfl (s_ (o_ ?_))
    refine xg 1 [] rfl rfl ?_
    refine n_ (t_ (g_ret (g_then_ret (g_jumps_ret ?_))))
    refine g_end1 Try.results20 rfl ?_
    exact fun w hS => ⟨⟨(ve, r, ts1, d1, none), hR _ (.neg (.esc (by omega) hesc) (by omega)), fun ts' q => by cases q⟩, rfl, hS.pick [0,0] rfl⟩
   refine g_cond_f rfl (g_skip (t_ (g_goto ?_)))
   exact g_jump ⟨(r, ve, ts1, d1), by dsimp only; (try rw [List.length_append, List.length_singleton]); omega, by dsimp only; omega, by dsimp only; (try rw [List.length_append, List.length_singleton]); omega, fun o h => hR o (.next (.esc (by omega) hesc) (by first | omega | (dsimp only; omega)) h)⟩ [0] rfl (fun j hj => by cases hj; dsimp only; omega) rfl (fun w h => h.pick [0,0] rfl)
  refine g_cond_f rfl (s_ (o_ ?_))
  refine xg 3 [0] rfl rfl ?_
  refine n_ (t_ ?_)
  refine g_casep 39 rfl (fun h17 => ?_) fun h17 => ?_
  ·refine g_cond_t rfl (s_ (o_ ?_))
   refine xg 4 [0] rfl (by omega) ?_
   refine g_callE (fun x : {x : (Nat → Int) × Int × Int // x.2.2 = 0 → 0 ≤ x.2.1 ∧ x.2.1 ≤ l.length} => .tuple #[.agg (s4C x.1.1).toArray, .int .i64 x.1.2.1, .int .i64 x.1.2.2]) rfl rfl rfl Try.call35 (fun w hS => bracket_any l (by omega) w (hS.maxHere hz hF0)) ?_
   rintro ⟨⟨s, n, er⟩, hb⟩
   dsimp only at hb ⊢
   refine xg 1 [] rfl rfl ?_
   refine g_val (v := .agg (s4C s).toArray) rfl rfl rfl (y_extract rfl rfl) ?_
   refine g_val (v := .int .i64 n) rfl rfl rfl (y_extract rfl rfl) ?_
   refine g_val (v := .int .i64 er) rfl rfl rfl (y_extract rfl rfl) ?_
   refine g_alloc rfl rfl Try.zeroValue25 rfl (fun b2 => ?_)
   refine g_stN 0 rfl rfl rfl (by kernel_rfl) rfl rfl rfl rfl ?_
   simp only [List.set_cons_zero]
   refine xg 2 [] rfl rfl ?_
   refine n_ (t_ (s_ (s_ (o_ ?_))))
   refine xg 2 [0] rfl rfl ?_
   refine n_ (t_ ?_)
   refine g_casep 52 rfl (fun h18 => ?_) fun h18 => ?_
   ·refine g_cond_t rfl (s_ (o_ ?_))
    refine xg 1 [] rfl rfl ?_
    refine n_ (t_ (g_ret (g_then_ret (g_in_ret (g_then_ret (g_jumps_ret ?_))))))
    refine g_end1 Try.results20 rfl ?_
    exact fun w hS => ⟨⟨(v, l, ts, d, none), hR _ (.fail (.brack0 (by omega))), fun ts' q => by cases q⟩, rfl, hS.pick [1,1] rfl⟩
   refine g_cond_f rfl (g_skip (t_ (s_ ?_)))
   obtain ⟨hn0, hn1⟩ := hb (by omega)
   obtain ⟨n, rfl⟩ := Int.eq_ofNat_of_zero_le hn0
   have hld := List.length_drop (l := l) (i := n)
   refine o_ ?_
   refine xg 1 [] rfl rfl ?_
   refine g_val rfl rfl rfl (y_ldN (vs := (s4C s)) 0 rfl Try.isAgg25 Try.sizeOf25 rfl rfl rfl) ?_
   refine g_val (v := .agg (tC (setT s)).toArray) rfl rfl rfl (y_val (y_build (offs := [0, 1]) rfl Try.zeroValue92 (by kernel_rfl)) rfl) ?_
   refine g_perm (.trans (.swap _ _ _) (.cons _ (.swap _ _ _))) ?_
   refine g_callOwn (L0 := [.cells b 57 [st8 l, (.bool false), v, (.int .i64 d)], .row 92 7 v ts.length (ts.flatMap tC)]) (fun _ : Value => .tuple #[]) (fun v' => [.cells b 57 [st8 l, (.bool false), v', (.int .i64 d)], .row 92 7 v' (ts ++ [(setT s)]).length ((ts ++ [(setT s)]).flatMap tC)]) rfl rfl rfl Try.call36 (fun w hS => put_any b (st8 l) (.bool false) (.int .i64 d) v ts (setT s) _ w (by omega) hS.part) ?_
   intro vq
   try dsimp only
   simp only [List.cons_append, List.nil_append]
   refine nto_ ?_
   refine xg 6 [0] rfl (by omega) ?_
   refine g_val (v := st8 (l.drop n)) rfl rfl rfl (y_val (y_sfrom (l := n) rfl rfl Try.underlying9 (by rw [size_mk]; omega)) (by rw [st8_drop]; rfl)) ?_
   refine xg 3 [0] rfl (by omega) ?_
   refine n_ (g_in_normal (t_ (s_ (s_ (o_ ?_)))))
   refine xg 5 [0,2] rfl (by omega) ?_
   refine n_ (t_ (g_cond_f rfl (g_skip (t_ (g_goto ?_)))))
   exact g_jump ⟨((l.drop n), vq, (ts ++ [(setT s)]), d), by dsimp only; (try rw [List.length_append, List.length_singleton]); omega, by dsimp only; omega, by dsimp only; (try rw [List.length_append, List.length_singleton]); omega, fun o h => hR o (.next (.brack (by omega) (by omega)) (by first | omega | (dsimp only; omega)) h)⟩ [0] rfl (fun j hj => by cases hj; dsimp only; omega) rfl (fun w h => h.pick [0,0] rfl)
  refine g_cond_f rfl (s_ (o_ ?_))
  refine xg 3 [0] rfl rfl ?_
  refine n_ (t_ ?_)
  refine g_casep 66 rfl (fun h19 => ?_) fun h19 => ?_
  ·refine g_cond_t rfl (o_ ?_)
   refine xg 2 [] rfl rfl ?_
   refine g_call1 rfl rfl rfl Try.call37 (fun w hS => cwith_any s0 0 255 (by decide) (by decide) w) ?_
   refine xg 1 [] rfl rfl ?_
   refine g_callAll (fun _ : Value => .tuple #[]) (fun v' => [.cells b 57 [st8 l, (.bool false), v', (.int .i64 d)], .row 92 7 v' (ts ++ [dotT]).length ((ts ++ [dotT]).flatMap tC)]) rfl rfl rfl Try.call36 (fun w F' hS => put_any b (st8 l) (.bool false) (.int .i64 d) v ts dotT F' w (by omega) hS) ?_
   intro vq
   try dsimp only
   refine n_ (g_in_normal (t_ (s_ (s_ (o_ ?_)))))
   refine xg 5 [0,2] rfl (by omega) ?_
   refine n_ (t_ (g_cond_f rfl (g_skip (t_ (g_goto ?_)))))
   exact g_jump ⟨(l, vq, (ts ++ [dotT]), d), by dsimp only; (try rw [List.length_append, List.length_singleton]); omega, by dsimp only; omega, by dsimp only; (try rw [List.length_append, List.length_singleton]); omega, fun o h => hR o (.next (.plain (by unfold okX; refine ⟨by omega, by omega, by omega, by omega, fun q => ?_⟩; first | omega | cases q) (by show tokB c ts d = _; unfold tokB; rw [if_pos (by omega)])) (by first | omega | (dsimp only; omega)) h)⟩ [0] rfl (fun j hj => by cases hj; dsimp only; omega) rfl (fun w h => h.pick [0,0] rfl)
  refine g_cond_f rfl (s_ (o_ ?_))
  refine xg 3 [0] rfl rfl ?_
  refine g_casep 77 rfl (fun h20 => ?_) fun h20 => ?_
  ·refine xg 2 [] rfl rfl ?_
   refine g_callAll (fun _ : Unit => .bool (anchT false c l ts d)) (fun _ => [.cells b 57 [st8 l, .bool false, v, .int .i64 d], .row 92 7 v ts.length (ts.flatMap tC)]) rfl rfl rfl Try.call38 (fun w F' hS => anchored_any b false l d v ts c F' w (by omega) (by omega) (by omega) hS) ?_
   intro _
   try dsimp only
   refine xg 2 [] rfl rfl ?_
   refine n_ (t_ ?_)
   first | refine g_casep 74 rfl (fun h21 => ?_) fun h21 => ?_ | refine g_caseb 74 rfl (fun h21 => ?_) fun h21 => ?_
   ·refine g_cond_t rfl (o_ ?_)
    refine xg 2 [] rfl rfl ?_
    refine g_callAll (fun _ : Value => .tuple #[]) (fun v' => [.cells b 57 [st8 l, (.bool false), v', (.int .i64 d)], .row 92 7 v' (ts ++ [(kT 5)]).length ((ts ++ [(kT 5)]).flatMap tC)]) rfl rfl rfl Try.call36 (fun w F' hS => put_any b (st8 l) (.bool false) (.int .i64 d) v ts (kT 5) F' w (by omega) hS) ?_
    intro vq
    try dsimp only
    refine n_ (g_in_normal (t_ (s_ (s_ (o_ ?_)))))
    refine xg 5 [0,2] rfl (by omega) ?_
    refine n_ (t_ (g_cond_f rfl (g_skip (t_ (g_goto ?_)))))
    exact g_jump ⟨(l, vq, (ts ++ [(kT 5)]), d), by dsimp only; (try rw [List.length_append, List.length_singleton]); omega, by dsimp only; omega, by dsimp only; (try rw [List.length_append, List.length_singleton]); omega, fun o h => hR o (.next (.begins (by omega) (by assumption)) (by first | omega | (dsimp only; omega)) h)⟩ [0] rfl (fun j hj => by cases hj; dsimp only; omega) rfl (fun w h => h.pick [0,0] rfl)
   refine g_cond_f rfl (s_ (o_ ?_))
   refine xg 8 [2] rfl (by omega) ?_
   refine n_ (t_ (g_cond_f rfl (s_ (o_ ?_))))
   refine xg 18 [2] rfl (by omega) ?_
   refine n_ (t_ (g_cond_f rfl (s_ (o_ ?_))))
   refine xg 3 [2] rfl (by omega) ?_
   refine n_ (t_ (g_cond_f rfl (s_ (o_ ?_))))
   refine xg 6 [0] rfl (by omega) ?_
   refine n_ (t_ (g_cond_t rfl (o_ ?_)))
   refine xg 2 [] rfl rfl ?_
   refine g_callAll (fun _ : Value => .tuple #[]) (fun v' => [.cells b 57 [st8 l, (.bool false), v', (.int .i64 d)], .row 92 7 v' (ts ++ [litT c]).length ((ts ++ [litT c]).flatMap tC)]) rfl rfl rfl Try.call41 (fun w F' hS => literal_any b (st8 l) (.bool false) (.int .i64 d) v ts c F' w (by omega) hS) ?_
   intro vq
   try dsimp only
   refine n_ (g_in_normal (t_ (s_ (s_ (o_ ?_)))))
   refine xg 5 [0,2] rfl (by omega) ?_
   refine n_ (t_ (g_cond_f rfl (g_skip (t_ (g_goto ?_)))))
   exact g_jump ⟨(l, vq, (ts ++ [litT c]), d), by dsimp only; (try rw [List.length_append, List.length_singleton]); omega, by dsimp only; omega, by dsimp only; (try rw [List.length_append, List.length_singleton]); omega, fun o h => hR o (.next (.lits (by omega) rfl (by assumption)) (by first | omega | (dsimp only; omega)) h)⟩ [0] rfl (fun j hj => by cases hj; dsimp only; omega) rfl (fun w h => h.pick [0,0] rfl)
  refine xg 5 [] rfl rfl ?_
  refine n_ (t_ (g_cond_f rfl (s_ (o_ ?_))))
  refine xg 3 [0] rfl rfl ?_
  refine g_casep 88 rfl (fun h22 => ?_) fun h22 => ?_
  ·refine xg 2 [] rfl rfl ?_
   refine g_callAll (fun _ : Unit => .bool (anchT false c l ts d)) (fun _ => [.cells b 57 [st8 l, .bool false, v, .int .i64 d], .row 92 7 v ts.length (ts.flatMap tC)]) rfl rfl rfl Try.call38 (fun w F' hS => anchored_any b false l d v ts c F' w (by omega) (by omega) (by omega) hS) ?_
   intro _
   try dsimp only
   refine xg 2 [] rfl rfl ?_
   refine n_ (t_ ?_)
   first | refine g_casep 85 rfl (fun h23 => ?_) fun h23 => ?_ | refine g_caseb 85 rfl (fun h23 => ?_) fun h23 => ?_
   ·refine g_cond_t rfl (o_ ?_)
    refine xg 2 [] rfl rfl ?_
    refine g_callAll (fun _ : Value => .tuple #[]) (fun v' => [.cells b 57 [st8 l, (.bool false), v', (.int .i64 d)], .row 92 7 v' (ts ++ [(kT 6)]).length ((ts ++ [(kT 6)]).flatMap tC)]) rfl rfl rfl Try.call36 (fun w F' hS => put_any b (st8 l) (.bool false) (.int .i64 d) v ts (kT 6) F' w (by omega) hS) ?_
    intro vq
    try dsimp only
    refine n_ (g_in_normal (t_ (s_ (s_ (o_ ?_)))))
    refine xg 5 [0,2] rfl (by omega) ?_
    refine n_ (t_ (g_cond_f rfl (g_skip (t_ (g_goto ?_)))))
    exact g_jump ⟨(l, vq, (ts ++ [(kT 6)]), d), by dsimp only; (try rw [List.length_append, List.length_singleton]); omega, by dsimp only; omega, by dsimp only; (try rw [List.length_append, List.length_singleton]); omega, fun o h => hR o (.next (.ends (by omega) (by assumption)) (by first | omega | (dsimp only; omega)) h)⟩ [0] rfl (fun j hj => by cases hj; dsimp only; omega) rfl (fun w h => h.pick [0,0] rfl)
   refine g_cond_f rfl (s_ (o_ ?_))
   refine xg 18 [2] rfl (by omega) ?_
   refine n_ (t_ (g_cond_f rfl (s_ (o_ ?_))))
   refine xg 3 [2] rfl (by omega) ?_
   refine n_ (t_ (g_cond_f rfl (s_ (o_ ?_))))
   refine xg 6 [0] rfl (by omega) ?_
   refine n_ (t_ (g_cond_t rfl (o_ ?_)))
   refine xg 2 [] rfl rfl ?_
   refine g_callAll (fun _ : Value => .tuple #[]) (fun v' => [.cells b 57 [st8 l, (.bool false), v', (.int .i64 d)], .row 92 7 v' (ts ++ [litT c]).length ((ts ++ [litT c]).flatMap tC)]) rfl rfl rfl Try.call41 (fun w F' hS => literal_any b (st8 l) (.bool false) (.int .i64 d) v ts c F' w (by omega) hS) ?_
   intro vq
   try dsimp only
   refine n_ (g_in_normal (t_ (s_ (s_ (o_ ?_)))))
   refine xg 5 [0,2] rfl (by omega) ?_
   refine n_ (t_ (g_cond_f rfl (g_skip (t_ (g_goto ?_)))))
   exact g_jump ⟨(l, vq, (ts ++ [litT c]), d), by dsimp only; (try rw [List.length_append, List.length_singleton]); omega, by dsimp only; omega, by dsimp only; (try rw [List.length_append, List.length_singleton]); omega, fun o h => hR o (.next (.lits (by omega) rfl (by assumption)) (by first | omega | (dsimp only; omega)) h)⟩ [0] rfl (fun j hj => by cases hj; dsimp only; omega) rfl (fun w h => h.pick [0,0] rfl)
  refine xg 5 [] rfl rfl ?_
  refine n_ (t_ (g_cond_f rfl (s_ (o_ ?_))))
  refine xg 3 [0] rfl rfl ?_
  refine g_casep 99 rfl (fun h24 => ?_) fun h24 => ?_
  ·refine xg 8 [0] rfl (by omega) ?_
   refine g_callAll (fun _ : Unit => .bool (startsT ts)) (fun _ => [.cells b 57 [st8 l, (.bool false), v, (.int .i64 d)], .row 92 7 v ts.length (ts.flatMap tC)]) rfl rfl rfl Try.call39 (fun w F' hS => starts_any b (st8 l) (.bool false) (.int .i64 d) v ts F' w (by omega) hS) ?_
   intro _
   try dsimp only
   refine xg 1 [] rfl rfl ?_
   first | refine g_casep 109 rfl (fun h25 => ?_) fun h25 => ?_ | refine g_caseb 109 rfl (fun h25 => ?_) fun h25 => ?_
   ·refine xg 5 [] rfl rfl ?_
    refine n_ (t_ (g_cond_t rfl (o_ ?_)))
    refine xg 2 [] rfl rfl ?_
    refine g_callAll (fun _ : Value => .tuple #[]) (fun v' => [.cells b 57 [st8 l, (.bool false), v', (.int .i64 d)], .row 92 7 v' (ts ++ [litT c]).length ((ts ++ [litT c]).flatMap tC)]) rfl rfl rfl Try.call41 (fun w F' hS => literal_any b (st8 l) (.bool false) (.int .i64 d) v ts c F' w (by omega) hS) ?_
    intro vq
    try dsimp only
    refine n_ (g_in_normal (t_ (s_ (s_ (o_ ?_)))))
    refine xg 5 [0,2] rfl (by omega) ?_
    refine n_ (t_ (g_cond_f rfl (g_skip (t_ (g_goto ?_)))))
    exact g_jump ⟨(l, vq, (ts ++ [litT c]), d), by dsimp only; (try rw [List.length_append, List.length_singleton]); omega, by dsimp only; omega, by dsimp only; (try rw [List.length_append, List.length_singleton]); omega, fun o h => hR o (.next (.plain (by unfold okX; refine ⟨by omega, by omega, by omega, by omega, fun q => ?_⟩; first | omega | cases q) (by show tokB c ts d = _; unfold tokB; rw [if_neg (by omega), if_pos ⟨by omega, by simp_all⟩])) (by first | omega | (dsimp only; omega)) h)⟩ [0] rfl (fun j hj => by cases hj; dsimp only; omega) rfl (fun w h => h.pick [0,0] rfl)
   refine xg 1 [] rfl rfl ?_
   refine g_callAll (fun _ : Unit => .bool (begunT ts)) (fun _ => [.cells b 57 [st8 l, (.bool false), v, (.int .i64 d)], .row 92 7 v ts.length (ts.flatMap tC)]) rfl rfl rfl Try.call40 (fun w F' hS => begun_any b (st8 l) (.bool false) (.int .i64 d) v ts F' w (by omega) hS) ?_
   intro _
   try dsimp only
   refine xg 3 [] rfl rfl ?_
   refine n_ (t_ ?_)
   first | refine g_casep 96 rfl (fun h26 => ?_) fun h26 => ?_ | refine g_caseb 96 rfl (fun h26 => ?_) fun h26 => ?_
   ·refine g_cond_t rfl (o_ ?_)
    refine xg 2 [] rfl rfl ?_
    refine g_callAll (fun _ : Value => .tuple #[]) (fun v' => [.cells b 57 [st8 l, (.bool false), v', (.int .i64 d)], .row 92 7 v' (ts ++ [litT c]).length ((ts ++ [litT c]).flatMap tC)]) rfl rfl rfl Try.call41 (fun w F' hS => literal_any b (st8 l) (.bool false) (.int .i64 d) v ts c F' w (by omega) hS) ?_
    intro vq
    try dsimp only
    refine n_ (g_in_normal (t_ (s_ (s_ (o_ ?_)))))
    refine xg 5 [0,2] rfl (by omega) ?_
    refine n_ (t_ (g_cond_f rfl (g_skip (t_ (g_goto ?_)))))
    exact g_jump ⟨(l, vq, (ts ++ [litT c]), d), by dsimp only; (try rw [List.length_append, List.length_singleton]); omega, by dsimp only; omega, by dsimp only; (try rw [List.length_append, List.length_singleton]); omega, fun o h => hR o (.next (.plain (by unfold okX; refine ⟨by omega, by omega, by omega, by omega, fun q => ?_⟩; first | omega | cases q) (by show tokB c ts d = _; unfold tokB; rw [if_neg (by omega), if_pos ⟨by omega, by simp_all⟩])) (by first | omega | (dsimp only; omega)) h)⟩ [0] rfl (fun j hj => by cases hj; dsimp only; omega) rfl (fun w h => h.pick [0,0] rfl)
   refine g_cond_f rfl (s_ (o_ ?_))
   refine xg 3 [1] rfl (by omega) ?_
   refine n_ (t_ (g_cond_t rfl (o_ ?_)))
   refine xg 2 [] rfl rfl ?_
   refine g_callAll (fun _ : Value => .tuple #[]) (fun v' => [.cells b 57 [st8 l, (.bool false), v', (.int .i64 d)], .row 92 7 v' (ts ++ [(timesT 0 (-1))]).length ((ts ++ [(timesT 0 (-1))]).flatMap tC)]) rfl rfl rfl Try.call36 (fun w F' hS => put_any b (st8 l) (.bool false) (.int .i64 d) v ts (timesT 0 (-1)) F' w (by omega) hS) ?_
   intro vq
   try dsimp only
   refine n_ (g_in_normal (t_ (s_ (s_ (o_ ?_)))))
   refine xg 5 [0,2] rfl (by omega) ?_
   refine n_ (t_ (g_cond_f rfl (g_skip (t_ (g_goto ?_)))))
   exact g_jump ⟨(l, vq, (ts ++ [(timesT 0 (-1))]), d), by dsimp only; (try rw [List.length_append, List.length_singleton]); omega, by dsimp only; omega, by dsimp only; (try rw [List.length_append, List.length_singleton]); omega, fun o h => hR o (.next (.plain (by unfold okX; refine ⟨by omega, by omega, by omega, by omega, fun q => ?_⟩; first | omega | cases q) (by show tokB c ts d = _; unfold tokB; rw [if_neg (by omega), if_neg (fun q => by have := q.2; simp_all), if_pos (by omega)])) (by first | omega | (dsimp only; omega)) h)⟩ [0] rfl (fun j hj => by cases hj; dsimp only; omega) rfl (fun w h => h.pick [0,0] rfl)
  refine xg 15 [] rfl rfl ?_
  refine n_ (t_ (g_cond_f rfl (s_ (o_ ?_))))
  refine xg 3 [2] rfl (by omega) ?_
  refine n_ (t_ (g_cond_f rfl (s_ (o_ ?_))))
  refine xg 6 [0] rfl (by omega) ?_
  refine n_ (t_ (g_cond_t rfl (o_ ?_)))
  refine xg 2 [] rfl rfl ?_
  refine g_callAll (fun _ : Value => .tuple #[]) (fun v' => [.cells b 57 [st8 l, (.bool false), v', (.int .i64 d)], .row 92 7 v' (ts ++ [litT c]).length ((ts ++ [litT c]).flatMap tC)]) rfl rfl rfl Try.call41 (fun w F' hS => literal_any b (st8 l) (.bool false) (.int .i64 d) v ts c F' w (by omega) hS) ?_
  intro vq
  try dsimp only
  refine n_ (g_in_normal (t_ (s_ (s_ (o_ ?_)))))
  refine xg 5 [0,2] rfl (by omega) ?_
  refine n_ (t_ (g_cond_f rfl (g_skip (t_ (g_goto ?_)))))
  exact g_jump ⟨(l, vq, (ts ++ [litT c]), d), by dsimp only; (try rw [List.length_append, List.length_singleton]); omega, by dsimp only; omega, by dsimp only; (try rw [List.length_append, List.length_singleton]); omega, fun o h => hR o (.next (.plain (by unfold okX; refine ⟨by omega, by omega, by omega, by omega, fun q => ?_⟩; first | omega | cases q) (by show tokB c ts d = _; unfold tokB; rw [if_neg (by omega), if_neg (fun q => by have := q.1; omega), if_neg (by omega)])) (by first | omega | (dsimp only; omega)) h)⟩ [0] rfl (fun j hj => by cases hj; dsimp only; omega) rfl (fun w h => h.pick [0,0] rfl)
 ·intro hp
  refine s_ (o_ ?_)
  refine xg 1 [] rfl rfl ?_
  refine n_ (t_ (s_ (g_label (t_ ?_))))
  exact g_fall (hp (⟨(l0, v0, [], 0), by simp, by simp, by simp, fun _ h => h⟩)) [0] rfl (fun w h => h.pick [0,0] rfl)

set_option maxRecDepth 100000 in
theorem tokens_xe (b : Nat) (l0 : List UInt8) (v0 : Value) (hl0 : l0.length ≤ 400) (F : List Nat) (w : World) (hz : MaxHere w) (hF0 : 0 ∉ F) (hS0 : St w F [.cells b 57 [st8 l0, .bool true, v0, .int .i64 0], .row 92 7 v0 ([] : List Tok).length (([] : List Tok).flatMap tC)] w) :
    Calls Try.prog 20 #[.pointer (some ⟨b, 0, none⟩)] w fun e w' => ∃ x : {x : Value × List UInt8 × List Tok × Int × Option (List Tok) // Lex true l0 [] 0 x.2.2.2.2 ∧ ∀ ts, x.2.2.2.2 = some ts → x.2.2.1 = ts ∧ ts.length ≤ l0.length}, e = .returned (.bool x.1.2.2.2.2.isSome) ∧ St w F [.cells b 57 [st8 x.1.2.1, .bool true, x.1.1, .int .i64 x.1.2.2.2.1], .row 92 7 x.1.1 x.1.2.2.1.length (x.1.2.2.1.flatMap tC)] w' := by
 refine fn_intro_own Try.func20 rfl Try.ntmps20 rfl rfl hS0 ?_
 refine s_ (o_ ?_)
 refine xg 1 [] rfl rfl ?_
 refine n_ (t_ ?_)
 refine g_scope_fall (α := {x : List UInt8 × Value × List Tok × Int // x.1.length + x.2.2.1.length ≤ l0.length ∧ 0 ≤ x.2.2.2 ∧ x.2.2.2 ≤ x.2.2.1.length ∧ ∀ o, Lex true x.1 x.2.2.1 x.2.2.2 o → Lex true l0 [] 0 o}) (fun z => match z with | x => [(0, .pointer (some ⟨b, 0, none⟩))]) (fun z => match z with | x => St w F [.cells b 57 [st8 x.1.1, .bool true, x.1.2.1, .int .i64 x.1.2.2.2], .row 92 7 x.1.2.1 x.1.2.2.1.length (x.1.2.2.1.flatMap tC)]) (fun z => match z with | x => 0) (fun z => match z with | x => x.1.1.length) (fun _ => rfl) ?_ ?_
 ·intro x
  dsimp only
  obtain ⟨⟨rest, v, ts, d⟩, hx⟩ := x
  dsimp only at hx ⊢
  obtain ⟨hlen, hd0, hd1, hR⟩ := hx
  refine s_ (s_ ?_)
  rcases rest with _ | ⟨c, l⟩
  ·refine o_ ?_
   refine xg 5 [0] rfl (by omega) ?_
   refine g_lit 11 true rfl (decide_eq_true rfl) ?_
   refine n_ (t_ (g_cond_t rfl (s_ (o_ ?_))))
   refine xg 6 [0,0] rfl (by omega) ?_
   refine n_ (t_ (g_ret (g_then_ret (g_jumps_ret ?_))))
   refine g_end1 Try.results20 rfl ?_
   refine fun w hS => ⟨⟨(v, [], ts, d, if d = 0 then some ts else none), hR _ lex_end, fun ts' q => ?_⟩, ret_bool (by dsimp only; split <;> simp_all), hS.pick [0,0] rfl⟩
   dsimp only at q
   split at q
   · cases q; exact ⟨rfl, by simp at hlen; omega⟩
   · cases q
  have hcl := c.toNat_lt
  have hl1 : (c :: l).length = l.length + 1 := rfl
  refine o_ ?_
  refine xg 5 [0] rfl (by omega) ?_
  refine g_lit 11 false rfl (decide_eq_false (st8_nil c l)) ?_
  refine n_ (t_ (g_cond_f rfl (g_skip (t_ (s_ ?_)))))
  refine k_go [] rfl (by kernel_rfl) (fun _ _ _ _ _ h => h) fun hQ => ?_
  refine k_x 0 [] [] hQ (by kernel_rfl) rfl rfl rfl rfl rfl rfl ?_
  refine k_x 1 [] [] hQ (by kernel_rfl) rfl rfl rfl rfl rfl rfl ?_
  refine k_x 2 [] [] hQ (by kernel_rfl) rfl rfl rfl rfl rfl rfl ?_
  refine k_x 3 [] [] hQ (by kernel_rfl) rfl rfl rfl rfl rfl rfl ?_
  refine k_x 6 [] [] hQ (by kernel_rfl) rfl rfl rfl rfl rfl rfl ?_
  refine k_x 7 [] [] hQ (by kernel_rfl) rfl rfl rfl rfl rfl rfl ?_
  refine k_x 8 [] [] hQ (by kernel_rfl) rfl rfl rfl rfl rfl rfl ?_
  refine k_all [4,9] (by kernel_rfl) (by simp) ⟨?_, ?_, trivial⟩
  ·refine k_op 4 rfl ?_
   refine xg 1 [0] rfl (by omega) ?_
   refine n_ ?_
   refine k_end (fun _ h => h.pick [] rfl) ?_
   refine k_take (v := .int .u8 (c.toNat : Int)) 5 rfl (by kernel_rfl) hQ rfl rfl rfl (fun _ h => h.pick [] rfl) (y_sidx (i := 0) rfl rfl Try.underlying9 (st8_0 c l)) ?_
   refine k_x 11 [] [] hQ (by kernel_rfl) rfl rfl rfl rfl rfl rfl ?_
   refine k_one 9 (by kernel_rfl) ?_
   refine k_op 9 rfl ?_
   refine xg 1 [0] rfl (by omega) ?_
   refine n_ ?_
   refine k_end (fun _ h => h.pick [] rfl) ?_
   refine k_take (v := st8 l) 10 rfl (by kernel_rfl) hQ rfl rfl rfl (fun _ h => h.pick [] rfl) (y_val (y_sfrom (l := 1) rfl rfl Try.underlying9 (by show 1 ≤ (c :: l).toArray.size; simp)) (by rw [st8_1]; rfl)) ?_
   refine k_x 12 [] [] hQ (by kernel_rfl) rfl rfl rfl rfl rfl rfl ?_
   refine k_x 13 [] [] hQ (by kernel_rfl) rfl rfl rfl rfl rfl rfl ?_
   refine k_one 14 (by kernel_rfl) ?_
   refine k_op 14 rfl ?_
   refine xg 1 [0] rfl (by omega) ?_
   refine n_ ?_
   refine k_end (fun _ h => h.pick [] rfl) ?_
   refine k_done (by kernel_rfl) ?_
   refine t_ (s_ (g_block (s_ (o_ ?_))))
   refine xg 3 [0] rfl rfl ?_
   refine n_ (t_ ?_)
   refine g_casep 33 rfl (fun h1 => ?_) fun h1 => ?_
   ·refine g_cond_t rfl (s_ (o_ ?_))
    refine xg 1 [] rfl rfl ?_
    refine g_callAll (fun x : {x : List UInt8 × List Tok × Int × Bool × Value // EscR true l ts d x.1 x.2.1 x.2.2.1 x.2.2.2.1} => .bool x.1.2.2.2.1) (fun x => [.cells b 57 [st8 x.1.1, .bool true, x.1.2.2.2.2, .int .i64 x.1.2.2.1], .row 92 7 x.1.2.2.2.2 x.1.2.1.length (x.1.2.1.flatMap tC)]) rfl rfl rfl Try.call34 (fun w F' hS => escaped_any b true l d v ts F' w (by omega) (by omega) (by omega) hS) ?_
    rintro ⟨⟨r, ts1, d1, ok, ve⟩, hesc⟩
    try dsimp only
    dsimp only at hesc
    refine xg 1 [] rfl rfl ?_
    refine n_ (t_ ?_)
    first | refine g_casep 38 rfl (fun h2 => ?_) fun h2 => ?_ | refine g_caseb 38 rfl (fun h2 => ?_) fun h2 => ?_
    ·refine g_cond_t rfl (s_ ?_)
     obtain rfl : ok = false := by simpa using ‹(!ok) = true›
     refine o_ ?_
     refine xg 1 [] rfl rfl ?_
     refine n_ (t_ (g_ret (g_in_ret (g_then_ret (g_jumps_ret ?_)))))
     refine g_end1 Try.results20 rfl ?_
     exact fun w hS => ⟨⟨(ve, r, ts1, d1, none), hR _ (.fail (.esc0 (by omega) hesc)), fun ts' q => by cases q⟩, rfl, hS.pick [0,0] rfl⟩
    refine g_cond_f rfl (g_skip (g_in_normal (t_ (s_ (s_ ?_)))))
    obtain rfl : ok = true := by simpa using ‹(!ok) = false›
    have hel := EscR_len hesc
    refine o_ ?_
    refine xg 5 [0,0] rfl (by omega) ?_
    refine n_ (t_ ?_)
    refine g_casep 186 rfl (fun h3 => ?_) fun h3 => ?_
    ·refine g_cond_t rfl (s_ (o_ ?_))
     refine xg 1 [] rfl rfl ?_
     refine n_ (t_ (g_ret (g_then_ret (g_jumps_ret ?_))))
     refine g_end1 Try.results20 rfl ?_
     exact fun w hS => ⟨⟨(ve, r, ts1, d1, none), hR _ (.neg (.esc (by omega) hesc) (by omega)), fun ts' q => by cases q⟩, rfl, hS.pick [0,0] rfl⟩
    refine g_cond_f rfl (g_skip (t_ (g_goto ?_)))
    exact g_jump ⟨(r, ve, ts1, d1), by dsimp only; (try rw [List.length_append, List.length_singleton]); omega, by dsimp only; omega, by dsimp only; (try rw [List.length_append, List.length_singleton]); omega, fun o h => hR o (.next (.esc (by omega) hesc) (by first | omega | (dsimp only; omega)) h)⟩ [0] rfl (fun j hj => by cases hj; dsimp only; omega) rfl (fun w h => h.pick [0,0] rfl)
   refine g_cond_f rfl (s_ (o_ ?_))
   refine xg 3 [0] rfl rfl ?_
   refine n_ (t_ ?_)
   refine g_casep 39 rfl (fun h4 => ?_) fun h4 => ?_
   ·refine g_cond_t rfl (s_ (o_ ?_))
    refine xg 4 [0] rfl (by omega) ?_
    refine g_callE (fun x : {x : (Nat → Int) × Int × Int // x.2.2 = 0 → 0 ≤ x.2.1 ∧ x.2.1 ≤ l.length} => .tuple #[.agg (s4C x.1.1).toArray, .int .i64 x.1.2.1, .int .i64 x.1.2.2]) rfl rfl rfl Try.call35 (fun w hS => bracket_any l (by omega) w (hS.maxHere hz hF0)) ?_
    rintro ⟨⟨s, n, er⟩, hb⟩
    dsimp only at hb ⊢
    refine xg 1 [] rfl rfl ?_
    refine g_val (v := .agg (s4C s).toArray) rfl rfl rfl (y_extract rfl rfl) ?_
    refine g_val (v := .int .i64 n) rfl rfl rfl (y_extract rfl rfl) ?_
    refine g_val (v := .int .i64 er) rfl rfl rfl (y_extract rfl rfl) ?_
    refine g_alloc rfl rfl Try.zeroValue25 rfl (fun b1 => ?_)
    refine g_stN 0 rfl rfl rfl (by kernel_rfl) rfl rfl rfl rfl ?_
    simp only [List.set_cons_zero]
    refine xg 2 [] rfl rfl ?_
    refine n_ (t_ (s_ (s_ (o_ ?_))))
    refine xg 2 [0] rfl rfl ?_
    refine n_ (t_ ?_)
    refine g_casep 52 rfl (fun h5 => ?_) fun h5 => ?_
    ·refine g_cond_t rfl (s_ (o_ ?_))
     refine xg 1 [] rfl rfl ?_
     refine n_ (t_ (g_ret (g_then_ret (g_in_ret (g_then_ret (g_jumps_ret ?_))))))
     refine g_end1 Try.results20 rfl ?_
     exact fun w hS => ⟨⟨(v, l, ts, d, none), hR _ (.fail (.brack0 (by omega))), fun ts' q => by cases q⟩, rfl, hS.pick [1,1] rfl⟩
    refine g_cond_f rfl (g_skip (t_ (s_ ?_)))
    obtain ⟨hn0, hn1⟩ := hb (by omega)
    obtain ⟨n, rfl⟩ := Int.eq_ofNat_of_zero_le hn0
    have hld := List.length_drop (l := l) (i := n)
    refine o_ ?_
    refine xg 1 [] rfl rfl ?_
    refine g_val rfl rfl rfl (y_ldN (vs := (s4C s)) 0 rfl Try.isAgg25 Try.sizeOf25 rfl rfl rfl) ?_
    refine g_val (v := .agg (tC (setT s)).toArray) rfl rfl rfl (y_val (y_build (offs := [0, 1]) rfl Try.zeroValue92 (by kernel_rfl)) rfl) ?_
    refine g_perm (.trans (.swap _ _ _) (.cons _ (.swap _ _ _))) ?_
    refine g_callOwn (L0 := [.cells b 57 [st8 l, (.bool true), v, (.int .i64 d)], .row 92 7 v ts.length (ts.flatMap tC)]) (fun _ : Value => .tuple #[]) (fun v' => [.cells b 57 [st8 l, (.bool true), v', (.int .i64 d)], .row 92 7 v' (ts ++ [(setT s)]).length ((ts ++ [(setT s)]).flatMap tC)]) rfl rfl rfl Try.call36 (fun w hS => put_any b (st8 l) (.bool true) (.int .i64 d) v ts (setT s) _ w (by omega) hS.part) ?_
    intro vq
    try dsimp only
    simp only [List.cons_append, List.nil_append]
    refine nto_ ?_
    refine xg 6 [0] rfl (by omega) ?_
    refine g_val (v := st8 (l.drop n)) rfl rfl rfl (y_val (y_sfrom (l := n) rfl rfl Try.underlying9 (by rw [size_mk]; omega)) (by rw [st8_drop]; rfl)) ?_
    refine xg 3 [0] rfl (by omega) ?_
    refine n_ (g_in_normal (t_ (s_ (s_ (o_ ?_)))))
    refine xg 5 [0,2] rfl (by omega) ?_
    refine n_ (t_ (g_cond_f rfl (g_skip (t_ (g_goto ?_)))))
    exact g_jump ⟨((l.drop n), vq, (ts ++ [(setT s)]), d), by dsimp only; (try rw [List.length_append, List.length_singleton]); omega, by dsimp only; omega, by dsimp only; (try rw [List.length_append, List.length_singleton]); omega, fun o h => hR o (.next (.brack (by omega) (by omega)) (by first | omega | (dsimp only; omega)) h)⟩ [0] rfl (fun j hj => by cases hj; dsimp only; omega) rfl (fun w h => h.pick [0,0] rfl)
   refine g_cond_f rfl (s_ (o_ ?_))
   refine xg 3 [0] rfl rfl ?_
   refine n_ (t_ ?_)
   refine g_casep 66 rfl (fun h6 => ?_) fun h6 => ?_
   ·refine g_cond_t rfl (o_ ?_)
    refine xg 2 [] rfl rfl ?_
    refine g_call1 rfl rfl rfl Try.call37 (fun w hS => cwith_any s0 0 255 (by decide) (by decide) w) ?_
    refine xg 1 [] rfl rfl ?_
    refine g_callAll (fun _ : Value => .tuple #[]) (fun v' => [.cells b 57 [st8 l, (.bool true), v', (.int .i64 d)], .row 92 7 v' (ts ++ [dotT]).length ((ts ++ [dotT]).flatMap tC)]) rfl rfl rfl Try.call36 (fun w F' hS => put_any b (st8 l) (.bool true) (.int .i64 d) v ts dotT F' w (by omega) hS) ?_
    intro vq
    try dsimp only
    refine n_ (g_in_normal (t_ (s_ (s_ (o_ ?_)))))
    refine xg 5 [0,2] rfl (by omega) ?_
    refine n_ (t_ (g_cond_f rfl (g_skip (t_ (g_goto ?_)))))
    exact g_jump ⟨(l, vq, (ts ++ [dotT]), d), by dsimp only; (try rw [List.length_append, List.length_singleton]); omega, by dsimp only; omega, by dsimp only; (try rw [List.length_append, List.length_singleton]); omega, fun o h => hR o (.next (.plain (by unfold okX; refine ⟨by omega, by omega, by omega, by omega, fun q => ?_⟩; first | omega | cases q) (by show tokE c ts d = _; unfold tokE; rw [if_pos (by omega)])) (by first | omega | (dsimp only; omega)) h)⟩ [0] rfl (fun j hj => by cases hj; dsimp only; omega) rfl (fun w h => h.pick [0,0] rfl)
   refine g_cond_f rfl (s_ (o_ ?_))
   refine xg 3 [0] rfl rfl ?_
   refine g_casep 77 rfl (fun h7 => ?_) fun h7 => ?_
   ·refine xg 2 [] rfl rfl ?_
    refine g_callAll (fun _ : Unit => .bool true) (fun _ => [.cells b 57 [st8 l, .bool true, v, .int .i64 d], .row 92 7 v ts.length (ts.flatMap tC)]) rfl rfl rfl Try.call38 (fun w F' hS => anchored_any b true l d v ts c F' w (by omega) (by omega) (by omega) hS) ?_
    intro _
    try dsimp only
    refine xg 2 [] rfl rfl ?_
    refine n_ (t_ (g_cond_t rfl (o_ ?_)))
    refine xg 2 [] rfl rfl ?_
    refine g_callAll (fun _ : Value => .tuple #[]) (fun v' => [.cells b 57 [st8 l, (.bool true), v', (.int .i64 d)], .row 92 7 v' (ts ++ [(kT 5)]).length ((ts ++ [(kT 5)]).flatMap tC)]) rfl rfl rfl Try.call36 (fun w F' hS => put_any b (st8 l) (.bool true) (.int .i64 d) v ts (kT 5) F' w (by omega) hS) ?_
    intro vq
    try dsimp only
    refine n_ (g_in_normal (t_ (s_ (s_ (o_ ?_)))))
    refine xg 5 [0,2] rfl (by omega) ?_
    refine n_ (t_ (g_cond_f rfl (g_skip (t_ (g_goto ?_)))))
    exact g_jump ⟨(l, vq, (ts ++ [(kT 5)]), d), by dsimp only; (try rw [List.length_append, List.length_singleton]); omega, by dsimp only; omega, by dsimp only; (try rw [List.length_append, List.length_singleton]); omega, fun o h => hR o (.next (.begins (by omega) rfl) (by first | omega | (dsimp only; omega)) h)⟩ [0] rfl (fun j hj => by cases hj; dsimp only; omega) rfl (fun w h => h.pick [0,0] rfl)
   refine xg 5 [] rfl rfl ?_
   refine n_ (t_ (g_cond_f rfl (s_ (o_ ?_))))
   refine xg 3 [0] rfl rfl ?_
   refine g_casep 88 rfl (fun h8 => ?_) fun h8 => ?_
   ·refine xg 2 [] rfl rfl ?_
    refine g_callAll (fun _ : Unit => .bool true) (fun _ => [.cells b 57 [st8 l, .bool true, v, .int .i64 d], .row 92 7 v ts.length (ts.flatMap tC)]) rfl rfl rfl Try.call38 (fun w F' hS => anchored_any b true l d v ts c F' w (by omega) (by omega) (by omega) hS) ?_
    intro _
    try dsimp only
    refine xg 2 [] rfl rfl ?_
    refine n_ (t_ (g_cond_t rfl (o_ ?_)))
    refine xg 2 [] rfl rfl ?_
    refine g_callAll (fun _ : Value => .tuple #[]) (fun v' => [.cells b 57 [st8 l, (.bool true), v', (.int .i64 d)], .row 92 7 v' (ts ++ [(kT 6)]).length ((ts ++ [(kT 6)]).flatMap tC)]) rfl rfl rfl Try.call36 (fun w F' hS => put_any b (st8 l) (.bool true) (.int .i64 d) v ts (kT 6) F' w (by omega) hS) ?_
    intro vq
    try dsimp only
    refine n_ (g_in_normal (t_ (s_ (s_ (o_ ?_)))))
    refine xg 5 [0,2] rfl (by omega) ?_
    refine n_ (t_ (g_cond_f rfl (g_skip (t_ (g_goto ?_)))))
    exact g_jump ⟨(l, vq, (ts ++ [(kT 6)]), d), by dsimp only; (try rw [List.length_append, List.length_singleton]); omega, by dsimp only; omega, by dsimp only; (try rw [List.length_append, List.length_singleton]); omega, fun o h => hR o (.next (.ends (by omega) rfl) (by first | omega | (dsimp only; omega)) h)⟩ [0] rfl (fun j hj => by cases hj; dsimp only; omega) rfl (fun w h => h.pick [0,0] rfl)
   refine xg 5 [] rfl rfl ?_
   refine n_ (t_ (g_cond_f rfl (s_ (o_ ?_))))
   refine xg 3 [0] rfl rfl ?_
   refine g_casep 99 rfl (fun h9 => ?_) fun h9 => ?_
   ·refine xg 15 [0] rfl (by omega) ?_
    refine n_ (t_ (g_cond_f rfl (s_ (o_ ?_))))
    refine xg 3 [1] rfl (by omega) ?_
    refine n_ (t_ (g_cond_t rfl (o_ ?_)))
    refine xg 2 [] rfl rfl ?_
    refine g_callAll (fun _ : Value => .tuple #[]) (fun v' => [.cells b 57 [st8 l, (.bool true), v', (.int .i64 d)], .row 92 7 v' (ts ++ [(timesT 0 (-1))]).length ((ts ++ [(timesT 0 (-1))]).flatMap tC)]) rfl rfl rfl Try.call36 (fun w F' hS => put_any b (st8 l) (.bool true) (.int .i64 d) v ts (timesT 0 (-1)) F' w (by omega) hS) ?_
    intro vq
    try dsimp only
    refine n_ (g_in_normal (t_ (s_ (s_ (o_ ?_)))))
    refine xg 5 [0,2] rfl (by omega) ?_
    refine n_ (t_ (g_cond_f rfl (g_skip (t_ (g_goto ?_)))))
    exact g_jump ⟨(l, vq, (ts ++ [(timesT 0 (-1))]), d), by dsimp only; (try rw [List.length_append, List.length_singleton]); omega, by dsimp only; omega, by dsimp only; (try rw [List.length_append, List.length_singleton]); omega, fun o h => hR o (.next (.plain (by unfold okX; refine ⟨by omega, by omega, by omega, by omega, fun q => ?_⟩; first | omega | cases q) (by show tokE c ts d = _; unfold tokE; rw [if_neg (by omega), if_pos (by omega)])) (by first | omega | (dsimp only; omega)) h)⟩ [0] rfl (fun j hj => by cases hj; dsimp only; omega) rfl (fun w h => h.pick [0,0] rfl)
   refine xg 15 [] rfl rfl ?_
   refine n_ (t_ (g_cond_f rfl (s_ (o_ ?_))))
   refine xg 3 [2] rfl (by omega) ?_
   refine n_ (t_ (g_cond_f rfl (s_ (o_ ?_))))
   refine xg 6 [0] rfl (by omega) ?_
   refine n_ (t_ (g_cond_f rfl (s_ (o_ ?_))))
   refine xg 3 [0] rfl rfl ?_
   refine n_ (t_ ?_)
   refine g_casep 132 rfl (fun h10 => ?_) fun h10 => ?_
   ·refine g_cond_t rfl (o_ ?_)
    refine xg 2 [] rfl rfl ?_
    refine g_callAll (fun _ : Value => .tuple #[]) (fun v' => [.cells b 57 [st8 l, (.bool true), v', (.int .i64 d)], .row 92 7 v' (ts ++ [(timesT 1 (-1))]).length ((ts ++ [(timesT 1 (-1))]).flatMap tC)]) rfl rfl rfl Try.call36 (fun w F' hS => put_any b (st8 l) (.bool true) (.int .i64 d) v ts (timesT 1 (-1)) F' w (by omega) hS) ?_
    intro vq
    try dsimp only
    refine n_ (g_in_normal (t_ (s_ (s_ (o_ ?_)))))
    refine xg 5 [0,2] rfl (by omega) ?_
    refine n_ (t_ (g_cond_f rfl (g_skip (t_ (g_goto ?_)))))
    exact g_jump ⟨(l, vq, (ts ++ [(timesT 1 (-1))]), d), by dsimp only; (try rw [List.length_append, List.length_singleton]); omega, by dsimp only; omega, by dsimp only; (try rw [List.length_append, List.length_singleton]); omega, fun o h => hR o (.next (.plain (by unfold okX; refine ⟨by omega, by omega, by omega, by omega, fun q => ?_⟩; first | omega | cases q) (by show tokE c ts d = _; unfold tokE; rw [if_neg (by omega), if_neg (by omega), if_pos (by omega)])) (by first | omega | (dsimp only; omega)) h)⟩ [0] rfl (fun j hj => by cases hj; dsimp only; omega) rfl (fun w h => h.pick [0,0] rfl)
   refine g_cond_f rfl (s_ (o_ ?_))
   refine xg 3 [0] rfl rfl ?_
   refine n_ (t_ ?_)
   refine g_casep 138 rfl (fun h11 => ?_) fun h11 => ?_
   ·refine g_cond_t rfl (o_ ?_)
    refine xg 2 [] rfl rfl ?_
    refine g_callAll (fun _ : Value => .tuple #[]) (fun v' => [.cells b 57 [st8 l, (.bool true), v', (.int .i64 d)], .row 92 7 v' (ts ++ [(timesT 0 1)]).length ((ts ++ [(timesT 0 1)]).flatMap tC)]) rfl rfl rfl Try.call36 (fun w F' hS => put_any b (st8 l) (.bool true) (.int .i64 d) v ts (timesT 0 1) F' w (by omega) hS) ?_
    intro vq
    try dsimp only
    refine n_ (g_in_normal (t_ (s_ (s_ (o_ ?_)))))
    refine xg 5 [0,2] rfl (by omega) ?_
    refine n_ (t_ (g_cond_f rfl (g_skip (t_ (g_goto ?_)))))
    exact g_jump ⟨(l, vq, (ts ++ [(timesT 0 1)]), d), by dsimp only; (try rw [List.length_append, List.length_singleton]); omega, by dsimp only; omega, by dsimp only; (try rw [List.length_append, List.length_singleton]); omega, fun o h => hR o (.next (.plain (by unfold okX; refine ⟨by omega, by omega, by omega, by omega, fun q => ?_⟩; first | omega | cases q) (by show tokE c ts d = _; unfold tokE; rw [if_neg (by omega), if_neg (by omega), if_neg (by omega), if_pos (by omega)])) (by first | omega | (dsimp only; omega)) h)⟩ [0] rfl (fun j hj => by cases hj; dsimp only; omega) rfl (fun w h => h.pick [0,0] rfl)
   refine g_cond_f rfl (s_ (o_ ?_))
   refine xg 3 [0] rfl rfl ?_
   refine n_ (t_ ?_)
   refine g_casep 144 rfl (fun h12 => ?_) fun h12 => ?_
   ·refine g_cond_t rfl (s_ (o_ ?_))
    refine xg 1 [] rfl rfl ?_
    refine g_callAll (fun x : {x : Tok × List UInt8 × Bool × Value // IvR [125] l x.1 x.2.1 x.2.2.1} => .bool x.1.2.2.1) (fun x => [.cells b 57 [st8 x.1.2.1, (.bool true), x.1.2.2.2, (.int .i64 d)], .row 92 7 x.1.2.2.2 (ts ++ [x.1.1]).length ((ts ++ [x.1.1]).flatMap tC)]) rfl rfl rfl Try.call42 (fun w F' hS => interval_any b l (.bool true) (.int .i64 d) v ts [125] F' w (by omega) (by omega) hS) ?_
    rintro ⟨⟨t, r, ok, vi⟩, hiv⟩
    try dsimp only
    dsimp only at hiv
    refine xg 1 [] rfl rfl ?_
    refine n_ (t_ ?_)
    first | refine g_casep 149 rfl (fun h13 => ?_) fun h13 => ?_ | refine g_caseb 149 rfl (fun h13 => ?_) fun h13 => ?_
    ·refine g_cond_t rfl (s_ ?_)
     obtain rfl : ok = false := by simpa using ‹(!ok) = true›
     refine o_ ?_
     refine xg 1 [] rfl rfl ?_
     refine n_ (t_ (g_ret (g_in_ret (g_then_ret (g_jumps_ret ?_)))))
     refine g_end1 Try.results20 rfl ?_
     exact fun w hS => ⟨⟨(vi, r, (ts ++ [t]), d, none), hR _ (.fail (.iv0 (by omega) rfl hiv)), fun ts' q => by cases q⟩, rfl, hS.pick [0,0] rfl⟩
    refine g_cond_f rfl (g_skip (g_in_normal (t_ (s_ (s_ ?_)))))
    obtain rfl : ok = true := by simpa using ‹(!ok) = false›
    have hel := IvR_len hiv
    refine o_ ?_
    refine xg 5 [0,2] rfl (by omega) ?_
    refine n_ (t_ (g_cond_f rfl (g_skip (t_ (g_goto ?_)))))
    exact g_jump ⟨(r, vi, (ts ++ [t]), d), by dsimp only; (try rw [List.length_append, List.length_singleton]); omega, by dsimp only; omega, by dsimp only; (try rw [List.length_append, List.length_singleton]); omega, fun o h => hR o (.next (.iv (by omega) rfl hiv) (by first | omega | (dsimp only; omega)) h)⟩ [0] rfl (fun j hj => by cases hj; dsimp only; omega) rfl (fun w h => h.pick [0,0] rfl)
   refine g_cond_f rfl (s_ (o_ ?_))
   refine xg 3 [0] rfl rfl ?_
   refine n_ (t_ ?_)
   refine g_casep 150 rfl (fun h14 => ?_) fun h14 => ?_
   ·refine g_cond_t rfl (s_ (o_ ?_))
    refine xg 8 [0,0] rfl (by omega) ?_
    refine nto_ ?_
    refine xg 2 [] rfl rfl ?_
    refine g_callAll (fun _ : Value => .tuple #[]) (fun v' => [.cells b 57 [st8 l, (.bool true), v', (.int .i64 (d + 1))], .row 92 7 v' (ts ++ [(kT 1)]).length ((ts ++ [(kT 1)]).flatMap tC)]) rfl rfl rfl Try.call36 (fun w F' hS => put_any b (st8 l) (.bool true) (.int .i64 (d + 1)) v ts (kT 1) F' w (by omega) hS) ?_
    intro vq
    try dsimp only
    refine n_ (g_in_normal (t_ (s_ (s_ (o_ ?_)))))
    refine xg 5 [0,2] rfl (by omega) ?_
    refine n_ (t_ (g_cond_f rfl (g_skip (t_ (g_goto ?_)))))
    exact g_jump ⟨(l, vq, (ts ++ [(kT 1)]), (d + 1)), by dsimp only; (try rw [List.length_append, List.length_singleton]); omega, by dsimp only; omega, by dsimp only; (try rw [List.length_append, List.length_singleton]); omega, fun o h => hR o (.next (.plain (by unfold okX; refine ⟨by omega, by omega, by omega, by omega, fun q => ?_⟩; first | omega | cases q) (by show tokE c ts d = _; unfold tokE; rw [if_neg (by omega), if_neg (by omega), if_neg (by omega), if_neg (by omega), if_pos (by omega)])) (by first | omega | (dsimp only; omega)) h)⟩ [0] rfl (fun j hj => by cases hj; dsimp only; omega) rfl (fun w h => h.pick [0,0] rfl)
   refine g_cond_f rfl (s_ (o_ ?_))
   refine xg 3 [0] rfl rfl ?_
   refine n_ (t_ ?_)
   refine g_casep 163 rfl (fun h15 => ?_) fun h15 => ?_
   ·refine g_cond_t rfl (s_ (o_ ?_))
    refine xg 8 [0,0] rfl (by omega) ?_
    refine nto_ ?_
    refine xg 2 [] rfl rfl ?_
    refine g_callAll (fun _ : Value => .tuple #[]) (fun v' => [.cells b 57 [st8 l, (.bool true), v', (.int .i64 (d - 1))], .row 92 7 v' (ts ++ [(kT 2)]).length ((ts ++ [(kT 2)]).flatMap tC)]) rfl rfl rfl Try.call36 (fun w F' hS => put_any b (st8 l) (.bool true) (.int .i64 (d - 1)) v ts (kT 2) F' w (by omega) hS) ?_
    intro vq
    try dsimp only
    refine n_ (g_in_normal (t_ (s_ (s_ (o_ ?_)))))
    refine xg 5 [0,0] rfl (by omega) ?_
    refine n_ (t_ ?_)
    refine g_casep 186 rfl (fun h16 => ?_) fun h16 => ?_
    ·refine g_cond_t rfl (s_ (o_ ?_))
     refine xg 1 [] rfl rfl ?_
     refine n_ (t_ (g_ret (g_then_ret (g_jumps_ret ?_))))
     refine g_end1 Try.results20 rfl ?_
     exact fun w hS => ⟨⟨(vq, l, (ts ++ [(kT 2)]), (d - 1), none), hR _ (.neg (.plain (by unfold okX; refine ⟨by omega, by omega, by omega, by omega, fun q => ?_⟩; first | omega | cases q) (by show tokE c ts d = _; unfold tokE; rw [if_neg (by omega), if_neg (by omega), if_neg (by omega), if_neg (by omega), if_neg (by omega), if_pos (by omega)])) (by omega)), fun ts' q => by cases q⟩, rfl, hS.pick [0,0] rfl⟩
    refine g_cond_f rfl (g_skip (t_ (g_goto ?_)))
    exact g_jump ⟨(l, vq, (ts ++ [(kT 2)]), (d - 1)), by dsimp only; (try rw [List.length_append, List.length_singleton]); omega, by dsimp only; omega, by dsimp only; (try rw [List.length_append, List.length_singleton]); omega, fun o h => hR o (.next (.plain (by unfold okX; refine ⟨by omega, by omega, by omega, by omega, fun q => ?_⟩; first | omega | cases q) (by show tokE c ts d = _; unfold tokE; rw [if_neg (by omega), if_neg (by omega), if_neg (by omega), if_neg (by omega), if_neg (by omega), if_pos (by omega)])) (by first | omega | (dsimp only; omega)) h)⟩ [0] rfl (fun j hj => by cases hj; dsimp only; omega) rfl (fun w h => h.pick [0,0] rfl)
   refine g_cond_f rfl (s_ (o_ ?_))
   refine xg 3 [0] rfl rfl ?_
   refine n_ (t_ ?_)
   refine g_casep 176 rfl (fun h17 => ?_) fun h17 => ?_
   ·refine g_cond_t rfl (o_ ?_)
    refine xg 2 [] rfl rfl ?_
    refine g_callAll (fun _ : Value => .tuple #[]) (fun v' => [.cells b 57 [st8 l, (.bool true), v', (.int .i64 d)], .row 92 7 v' (ts ++ [(kT 3)]).length ((ts ++ [(kT 3)]).flatMap tC)]) rfl rfl rfl Try.call36 (fun w F' hS => put_any b (st8 l) (.bool true) (.int .i64 d) v ts (kT 3) F' w (by omega) hS) ?_
    intro vq
    try dsimp only
    refine n_ (g_in_normal (t_ (s_ (s_ (o_ ?_)))))
    refine xg 5 [0,2] rfl (by omega) ?_
    refine n_ (t_ (g_cond_f rfl (g_skip (t_ (g_goto ?_)))))
    exact g_jump ⟨(l, vq, (ts ++ [(kT 3)]), d), by dsimp only; (try rw [List.length_append, List.length_singleton]); omega, by dsimp only; omega, by dsimp only; (try rw [List.length_append, List.length_singleton]); omega, fun o h => hR o (.next (.plain (by unfold okX; refine ⟨by omega, by omega, by omega, by omega, fun q => ?_⟩; first | omega | cases q) (by show tokE c ts d = _; unfold tokE; rw [if_neg (by omega), if_neg (by omega), if_neg (by omega), if_neg (by omega), if_neg (by omega), if_neg (by omega), if_pos (by omega)])) (by first | omega | (dsimp only; omega)) h)⟩ [0] rfl (fun j hj => by cases hj; dsimp only; omega) rfl (fun w h => h.pick [0,0] rfl)
   refine g_cond_f rfl (o_ ?_)
   refine xg 2 [] rfl rfl ?_
   refine g_callAll (fun _ : Value => .tuple #[]) (fun v' => [.cells b 57 [st8 l, (.bool true), v', (.int .i64 d)], .row 92 7 v' (ts ++ [litT c]).length ((ts ++ [litT c]).flatMap tC)]) rfl rfl rfl Try.call41 (fun w F' hS => literal_any b (st8 l) (.bool true) (.int .i64 d) v ts c F' w (by omega) hS) ?_
   intro vq
   try dsimp only
   refine n_ (g_in_normal (t_ (s_ (s_ (o_ ?_)))))
   refine xg 5 [0,2] rfl (by omega) ?_
   refine n_ (t_ (g_cond_f rfl (g_skip (t_ (g_goto ?_)))))
   exact g_jump ⟨(l, vq, (ts ++ [litT c]), d), by dsimp only; (try rw [List.length_append, List.length_singleton]); omega, by dsimp only; omega, by dsimp only; (try rw [List.length_append, List.length_singleton]); omega, fun o h => hR o (.next (.plain (by unfold okX; refine ⟨by omega, by omega, by omega, by omega, fun q => ?_⟩; first | omega | cases q) (by show tokE c ts d = _; unfold tokE; rw [if_neg (by omega), if_neg (by omega), if_neg (by omega), if_neg (by omega), if_neg (by omega), if_neg (by omega), if_neg (by omega)])) (by first | omega | (dsimp only; omega)) h)⟩ [0] rfl (fun j hj => by cases hj; dsimp only; omega) rfl (fun w h => h.pick [0,0] rfl)
  refine k_op 9 rfl ?_
  refine xg 1 [0] rfl (by omega) ?_
  refine n_ ?_
  refine k_end (fun _ h => h.pick [] rfl) ?_
  refine k_take (v := st8 l) 10 rfl (by kernel_rfl) hQ rfl rfl rfl (fun _ h => h.pick [] rfl) (y_val (y_sfrom (l := 1) rfl rfl Try.underlying9 (by show 1 ≤ (c :: l).toArray.size; simp)) (by rw [st8_1]; rfl)) ?_
  refine k_one 4 (by kernel_rfl) ?_
  refine k_op 4 rfl ?_
  refine xg 1 [0] rfl (by omega) ?_
  refine n_ ?_
  refine k_end (fun _ h => h.pick [] rfl) ?_
  refine k_take (v := .int .u8 (c.toNat : Int)) 5 rfl (by kernel_rfl) hQ rfl rfl rfl (fun _ h => h.pick [] rfl) (y_sidx (i := 0) rfl rfl Try.underlying9 (st8_0 c l)) ?_
  refine k_x 11 [] [] hQ (by kernel_rfl) rfl rfl rfl rfl rfl rfl ?_
  refine k_x 12 [] [] hQ (by kernel_rfl) rfl rfl rfl rfl rfl rfl ?_
  refine k_x 13 [] [] hQ (by kernel_rfl) rfl rfl rfl rfl rfl rfl ?_
  refine k_one 14 (by kernel_rfl) ?_
  refine k_op 14 rfl ?_
  refine xg 1 [0] rfl (by omega) ?_
  refine n_ ?_
  refine k_end (fun _ h => h.pick [] rfl) ?_
  refine k_done (by kernel_rfl) ?_
  refine t_ (s_ (g_block (s_ (o_ ?_))))
  refine xg 3 [0] rfl rfl ?_
  refine n_ (t_ ?_)
  refine g_casep 33 rfl (fun h18 => ?_) fun h18 => ?_
  ·refine g_cond_t rfl (s_ (o_ ?_))
   refine xg 1 [] rfl rfl ?_
   refine g_callAll (fun x : {x : List UInt8 × List Tok × Int × Bool × Value // EscR true l ts d x.1 x.2.1 x.2.2.1 x.2.2.2.1} => .bool x.1.2.2.2.1) (fun x => [.cells b 57 [st8 x.1.1, .bool true, x.1.2.2.2.2, .int .i64 x.1.2.2.1], .row 92 7 x.1.2.2.2.2 x.1.2.1.length (x.1.2.1.flatMap tC)]) rfl rfl rfl Try.call34 (fun w F' hS => escaped_any b true l d v ts F' w (by omega) (by omega) (by omega) hS) ?_
   rintro ⟨⟨r, ts1, d1, ok, ve⟩, hesc⟩
   try dsimp only
   dsimp only at hesc
   refine xg 1 [] rfl rfl ?_
   refine n_ (t_ ?_)
   first | refine g_casep 38 rfl (fun h19 => ?_) fun h19 => ?_ | refine g_caseb 38 rfl (fun h19 => ?_) fun h19 => ?_
   ·refine g_cond_t rfl (s_ ?_)
    obtain rfl : ok = false := by simpa using ‹(!ok) = true›
    refine o_ ?_
    refine xg 1 [] rfl rfl ?_
    refine n_ (t_ (g_ret (g_in_ret (g_then_ret (g_jumps_ret ?_)))))
    refine g_end1 Try.results20 rfl ?_
    exact fun w hS => ⟨⟨(ve, r, ts1, d1, none), hR _ (.fail (.esc0 (by omega) hesc)), fun ts' q => by cases q⟩, rfl, hS.pick [0,0] rfl⟩
   refine g_cond_f rfl (g_skip (g_in_normal (t_ (s_ (s_ ?_)))))
   obtain rfl : ok = true := by simpa using ‹(!ok) = false›
   have hel := EscR_len hesc
   refine o_ ?_
   refine xg 5 [0,0] rfl (by omega) ?_
   refine n_ (t_ ?_)
   refine g_casep 186 rfl (fun h20 => ?_) fun h20 => ?_
   ·refine g_cond_t rfl (s_ (o_ ?_))
    refine xg 1 [] rfl rfl ?_
    refine n_ (t_ (g_ret (g_then_ret (g_jumps_ret ?_))))
    refine g_end1 Try.results20 rfl ?_
    exact fun w hS => ⟨⟨(ve, r, ts1, d1, none), hR _ (.neg (.esc (by omega) hesc) (by omega)), fun ts' q => by cases q⟩, rfl, hS.pick [0,0] rfl⟩
   refine g_cond_f rfl (g_skip (t_ (g_goto ?_)))
   exact g_jump ⟨(r, ve, ts1, d1), by dsimp only; (try rw [List.length_append, List.length_singleton]); omega, by dsimp only; omega, by dsimp only; (try rw [List.length_append, List.length_singleton]); omega, fun o h => hR o (.next (.esc (by omega) hesc) (by first | omega | (dsimp only; omega)) h)⟩ [0] rfl (fun j hj => by cases hj; dsimp only; omega) rfl (fun w h => h.pick [0,0] rfl)
  refine g_cond_f rfl (s_ (o_ ?_))
  refine xg 3 [0] rfl rfl ?_
  refine n_ (t_ ?_)
  refine g_casep 39 rfl (fun h21 => ?_) fun h21 => ?_
  ·refine g_cond_t rfl (s_ (o_ ?_))
   refine xg 4 [0] rfl (by omega) ?_
   refine g_callE (fun x : {x : (Nat → Int) × Int × Int // x.2.2 = 0 → 0 ≤ x.2.1 ∧ x.2.1 ≤ l.length} => .tuple #[.agg (s4C x.1.1).toArray, .int .i64 x.1.2.1, .int .i64 x.1.2.2]) rfl rfl rfl Try.call35 (fun w hS => bracket_any l (by omega) w (hS.maxHere hz hF0)) ?_
   rintro ⟨⟨s, n, er⟩, hb⟩
   dsimp only at hb ⊢
   refine xg 1 [] rfl rfl ?_
   refine g_val (v := .agg (s4C s).toArray) rfl rfl rfl (y_extract rfl rfl) ?_
   refine g_val (v := .int .i64 n) rfl rfl rfl (y_extract rfl rfl) ?_
   refine g_val (v := .int .i64 er) rfl rfl rfl (y_extract rfl rfl) ?_
   refine g_alloc rfl rfl Try.zeroValue25 rfl (fun b2 => ?_)
   refine g_stN 0 rfl rfl rfl (by kernel_rfl) rfl rfl rfl rfl ?_
   simp only [List.set_cons_zero]
   refine xg 2 [] rfl rfl ?_
   refine n_ (t_ (s_ (s_ (o_ ?_))))
   refine xg 2 [0] rfl rfl ?_
   refine n_ (t_ ?_)
   refine g_casep 52 rfl (fun h22 => ?_) fun h22 => ?_
   ·refine g_cond_t rfl (s_ (o_ ?_))
    refine xg 1 [] rfl rfl ?_
    refine n_ (t_ (g_ret (g_then_ret (g_in_ret (g_then_ret (g_jumps_ret ?_))))))
    refine g_end1 Try.results20 rfl ?_
    exact fun w hS => ⟨⟨(v, l, ts, d, none), hR _ (.fail (.brack0 (by omega))), fun ts' q => by cases q⟩, rfl, hS.pick [1,1] rfl⟩
   refine g_cond_f rfl (g_skip (t_ (s_ ?_)))
   obtain ⟨hn0, hn1⟩ := hb (by omega)
   obtain ⟨n, rfl⟩ := Int.eq_ofNat_of_zero_le hn0
   have hld := List.length_drop (l := l) (i := n)
   refine o_ ?_
   refine xg 1 [] rfl rfl ?_
   refine g_val rfl rfl rfl (y_ldN (vs := (s4C s)) 0 rfl Try.isAgg25 Try.sizeOf25 rfl rfl rfl) ?_
   refine g_val (v := .agg (tC (setT s)).toArray) rfl rfl rfl (y_val (y_build (offs := [0, 1]) rfl Try.zeroValue92 (by kernel_rfl)) rfl) ?_
   refine g_perm (.trans (.swap _ _ _) (.cons _ (.swap _ _ _))) ?_
   refine g_callOwn (L0 := [.cells b 57 [st8 l, (.bool true), v, (.int .i64 d)], .row 92 7 v ts.length (ts.flatMap tC)]) (fun _ : Value => .tuple #[]) (fun v' => [.cells b 57 [st8 l, (.bool true), v', (.int .i64 d)], .row 92 7 v' (ts ++ [(setT s)]).length ((ts ++ [(setT s)]).flatMap tC)]) rfl rfl rfl Try.call36 (fun w hS => put_any b (st8 l) (.bool true) (.int .i64 d) v ts (setT s) _ w (by omega) hS.part) ?_
   intro vq
   try dsimp only
   simp only [List.cons_append, List.nil_append]
   refine nto_ ?_
   refine xg 6 [0] rfl (by omega) ?_
   refine g_val (v := st8 (l.drop n)) rfl rfl rfl (y_val (y_sfrom (l := n) rfl rfl Try.underlying9 (by rw [size_mk]; omega)) (by rw [st8_drop]; rfl)) ?_
   refine xg 3 [0] rfl (by omega) ?_
   refine n_ (g_in_normal (t_ (s_ (s_ (o_ ?_)))))
   refine xg 5 [0,2] rfl (by omega) ?_
   refine n_ (t_ (g_cond_f rfl (g_skip (t_ (g_goto ?_)))))
   exact g_jump ⟨((l.drop n), vq, (ts ++ [(setT s)]), d), by dsimp only; (try rw [List.length_append, List.length_singleton]); omega, by dsimp only; omega, by dsimp only; (try rw [List.length_append, List.length_singleton]); omega, fun o h => hR o (.next (.brack (by omega) (by omega)) (by first | omega | (dsimp only; omega)) h)⟩ [0] rfl (fun j hj => by cases hj; dsimp only; omega) rfl (fun w h => h.pick [0,0] rfl)
  refine g_cond_f rfl (s_ (o_ ?_))
  refine xg 3 [0] rfl rfl ?_
  refine n_ (t_ ?_)
  refine g_casep 66 rfl (fun h23 => ?_) fun h23 => ?_
  ·refine g_cond_t rfl (o_ ?_)
   refine xg 2 [] rfl rfl ?_
   refine g_call1 rfl rfl rfl Try.call37 (fun w hS => cwith_any s0 0 255 (by decide) (by decide) w) ?_
   refine xg 1 [] rfl rfl ?_
   refine g_callAll (fun _ : Value => .tuple #[]) (fun v' => [.cells b 57 [st8 l, (.bool true), v', (.int .i64 d)], .row 92 7 v' (ts ++ [dotT]).length ((ts ++ [dotT]).flatMap tC)]) rfl rfl rfl Try.call36 (fun w F' hS => put_any b (st8 l) (.bool true) (.int .i64 d) v ts dotT F' w (by omega) hS) ?_
   intro vq
   try dsimp only
   refine n_ (g_in_normal (t_ (s_ (s_ (o_ ?_)))))
   refine xg 5 [0,2] rfl (by omega) ?_
   refine n_ (t_ (g_cond_f rfl (g_skip (t_ (g_goto ?_)))))
   exact g_jump ⟨(l, vq, (ts ++ [dotT]), d), by dsimp only; (try rw [List.length_append, List.length_singleton]); omega, by dsimp only; omega, by dsimp only; (try rw [List.length_append, List.length_singleton]); omega, fun o h => hR o (.next (.plain (by unfold okX; refine ⟨by omega, by omega, by omega, by omega, fun q => ?_⟩; first | omega | cases q) (by show tokE c ts d = _; unfold tokE; rw [if_pos (by omega)])) (by first | omega | (dsimp only; omega)) h)⟩ [0] rfl (fun j hj => by cases hj; dsimp only; omega) rfl (fun w h => h.pick [0,0] rfl)
  refine g_cond_f rfl (s_ (o_ ?_))
  refine xg 3 [0] rfl rfl ?_
  refine g_casep 77 rfl (fun h24 => ?_) fun h24 => ?_
  ·refine xg 2 [] rfl rfl ?_
   refine g_callAll (fun _ : Unit => .bool true) (fun _ => [.cells b 57 [st8 l, .bool true, v, .int .i64 d], .row 92 7 v ts.length (ts.flatMap tC)]) rfl rfl rfl Try.call38 (fun w F' hS => anchored_any b true l d v ts c F' w (by omega) (by omega) (by omega) hS) ?_
   intro _
   try dsimp only
   refine xg 2 [] rfl rfl ?_
   refine n_ (t_ (g_cond_t rfl (o_ ?_)))
   refine xg 2 [] rfl rfl ?_
   refine g_callAll (fun _ : Value => .tuple #[]) (fun v' => [.cells b 57 [st8 l, (.bool true), v', (.int .i64 d)], .row 92 7 v' (ts ++ [(kT 5)]).length ((ts ++ [(kT 5)]).flatMap tC)]) rfl rfl rfl Try.call36 (fun w F' hS => put_any b (st8 l) (.bool true) (.int .i64 d) v ts (kT 5) F' w (by omega) hS) ?_
   intro vq
   try dsimp only
   refine n_ (g_in_normal (t_ (s_ (s_ (o_ ?_)))))
   refine xg 5 [0,2] rfl (by omega) ?_
   refine n_ (t_ (g_cond_f rfl (g_skip (t_ (g_goto ?_)))))
   exact g_jump ⟨(l, vq, (ts ++ [(kT 5)]), d), by dsimp only; (try rw [List.length_append, List.length_singleton]); omega, by dsimp only; omega, by dsimp only; (try rw [List.length_append, List.length_singleton]); omega, fun o h => hR o (.next (.begins (by omega) rfl) (by first | omega | (dsimp only; omega)) h)⟩ [0] rfl (fun j hj => by cases hj; dsimp only; omega) rfl (fun w h => h.pick [0,0] rfl)
  refine xg 5 [] rfl rfl ?_
  refine n_ (t_ (g_cond_f rfl (s_ (o_ ?_))))
  refine xg 3 [0] rfl rfl ?_
  refine g_casep 88 rfl (fun h25 => ?_) fun h25 => ?_
  ·refine xg 2 [] rfl rfl ?_
   refine g_callAll (fun _ : Unit => .bool true) (fun _ => [.cells b 57 [st8 l, .bool true, v, .int .i64 d], .row 92 7 v ts.length (ts.flatMap tC)]) rfl rfl rfl Try.call38 (fun w F' hS => anchored_any b true l d v ts c F' w (by omega) (by omega) (by omega) hS) ?_
   intro _
   try dsimp only
   refine xg 2 [] rfl rfl ?_
   refine n_ (t_ (g_cond_t rfl (o_ ?_)))
   refine xg 2 [] rfl rfl ?_
   refine g_callAll (fun _ : Value => .tuple #[]) (fun v' => [.cells b 57 [st8 l, (.bool true), v', (.int .i64 d)], .row 92 7 v' (ts ++ [(kT 6)]).length ((ts ++ [(kT 6)]).flatMap tC)]) rfl rfl rfl Try.call36 (fun w F' hS => put_any b (st8 l) (.bool true) (.int .i64 d) v ts (kT 6) F' w (by omega) hS) ?_
   intro vq
   try dsimp only
   refine n_ (g_in_normal (t_ (s_ (s_ (o_ ?_)))))
   refine xg 5 [0,2] rfl (by omega) ?_
   refine n_ (t_ (g_cond_f rfl (g_skip (t_ (g_goto ?_)))))
   exact g_jump ⟨(l, vq, (ts ++ [(kT 6)]), d), by dsimp only; (try rw [List.length_append, List.length_singleton]); omega, by dsimp only; omega, by dsimp only; (try rw [List.length_append, List.length_singleton]); omega, fun o h => hR o (.next (.ends (by omega) rfl) (by first | omega | (dsimp only; omega)) h)⟩ [0] rfl (fun j hj => by cases hj; dsimp only; omega) rfl (fun w h => h.pick [0,0] rfl)
  refine xg 5 [] rfl rfl ?_
  refine n_ (t_ (g_cond_f rfl (s_ (o_ ?_))))
  refine xg 3 [0] rfl rfl ?_
  refine g_casep 99 rfl (fun h26 => ?_) fun h26 => ?_
  ·refine xg 15 [0] rfl (by omega) ?_
   refine n_ (t_ (g_cond_f rfl (s_ (o_ ?_))))
   refine xg 3 [1] rfl (by omega) ?_
   refine n_ (t_ (g_cond_t rfl (o_ ?_)))
   refine xg 2 [] rfl rfl ?_
   refine g_callAll (fun _ : Value => .tuple #[]) (fun v' => [.cells b 57 [st8 l, (.bool true), v', (.int .i64 d)], .row 92 7 v' (ts ++ [(timesT 0 (-1))]).length ((ts ++ [(timesT 0 (-1))]).flatMap tC)]) rfl rfl rfl Try.call36 (fun w F' hS => put_any b (st8 l) (.bool true) (.int .i64 d) v ts (timesT 0 (-1)) F' w (by omega) hS) ?_
   intro vq
   try dsimp only
   refine n_ (g_in_normal (t_ (s_ (s_ (o_ ?_)))))
   refine xg 5 [0,2] rfl (by omega) ?_
   refine n_ (t_ (g_cond_f rfl (g_skip (t_ (g_goto ?_)))))
   exact g_jump ⟨(l, vq, (ts ++ [(timesT 0 (-1))]), d), by dsimp only; (try rw [List.length_append, List.length_singleton]); omega, by dsimp only; omega, by dsimp only; (try rw [List.length_append, List.length_singleton]); omega, fun o h => hR o (.next (.plain (by unfold okX; refine ⟨by omega, by omega, by omega, by omega, fun q => ?_⟩; first | omega | cases q) (by show tokE c ts d = _; unfold tokE; rw [if_neg (by omega), if_pos (by omega)])) (by first | omega | (dsimp only; omega)) h)⟩ [0] rfl (fun j hj => by cases hj; dsimp only; omega) rfl (fun w h => h.pick [0,0] rfl)
  refine xg 15 [] rfl rfl ?_
  refine n_ (t_ (g_cond_f rfl (s_ (o_ ?_))))
  refine xg 3 [2] rfl (by omega) ?_
  refine n_ (t_ (g_cond_f rfl (s_ (o_ ?_))))
  refine xg 6 [0] rfl (by omega) ?_
  refine n_ (t_ (g_cond_f rfl (s_ (o_ ?_))))
  refine xg 3 [0] rfl rfl ?_
  refine n_ (t_ ?_)
  refine g_casep 132 rfl (fun h27 => ?_) fun h27 => ?_
  ·refine g_cond_t rfl (o_ ?_)
   refine xg 2 [] rfl rfl ?_
   refine g_callAll (fun _ : Value => .tuple #[]) (fun v' => [.cells b 57 [st8 l, (.bool true), v', (.int .i64 d)], .row 92 7 v' (ts ++ [(timesT 1 (-1))]).length ((ts ++ [(timesT 1 (-1))]).flatMap tC)]) rfl rfl rfl Try.call36 (fun w F' hS => put_any b (st8 l) (.bool true) (.int .i64 d) v ts (timesT 1 (-1)) F' w (by omega) hS) ?_
   intro vq
   try dsimp only
   refine n_ (g_in_normal (t_ (s_ (s_ (o_ ?_)))))
   refine xg 5 [0,2] rfl (by omega) ?_
   refine n_ (t_ (g_cond_f rfl (g_skip (t_ (g_goto ?_)))))
   exact g_jump ⟨(l, vq, (ts ++ [(timesT 1 (-1))]), d), by dsimp only; (try rw [List.length_append, List.length_singleton]); omega, by dsimp only; omega, by dsimp only; (try rw [List.length_append, List.length_singleton]); omega, fun o h => hR o (.next (.plain (by unfold okX; refine ⟨by omega, by omega, by omega, by omega, fun q => ?_⟩; first | omega | cases q) (by show tokE c ts d = _; unfold tokE; rw [if_neg (by omega), if_neg (by omega), if_pos (by omega)])) (by first | omega | (dsimp only; omega)) h)⟩ [0] rfl (fun j hj => by cases hj; dsimp only; omega) rfl (fun w h => h.pick [0,0] rfl)
  refine g_cond_f rfl (s_ (o_ ?_))
  refine xg 3 [0] rfl rfl ?_
  refine n_ (t_ ?_)
  refine g_casep 138 rfl (fun h28 => ?_) fun h28 => ?_
  ·refine g_cond_t rfl (o_ ?_)
   refine xg 2 [] rfl rfl ?_
   refine g_callAll (fun _ : Value => .tuple #[]) (fun v' => [.cells b 57 [st8 l, (.bool true), v', (.int .i64 d)], .row 92 7 v' (ts ++ [(timesT 0 1)]).length ((ts ++ [(timesT 0 1)]).flatMap tC)]) rfl rfl rfl Try.call36 (fun w F' hS => put_any b (st8 l) (.bool true) (.int .i64 d) v ts (timesT 0 1) F' w (by omega) hS) ?_
   intro vq
   try dsimp only
   refine n_ (g_in_normal (t_ (s_ (s_ (o_ ?_)))))
   refine xg 5 [0,2] rfl (by omega) ?_
   refine n_ (t_ (g_cond_f rfl (g_skip (t_ (g_goto ?_)))))
   exact g_jump ⟨(l, vq, (ts ++ [(timesT 0 1)]), d), by dsimp only; (try rw [List.length_append, List.length_singleton]); omega, by dsimp only; omega, by dsimp only; (try rw [List.length_append, List.length_singleton]); omega, fun o h => hR o (.next (.plain (by unfold okX; refine ⟨by omega, by omega, by omega, by omega, fun q => ?_⟩; first | omega | cases q) (by show tokE c ts d = _; unfold tokE; rw [if_neg (by omega), if_neg (by omega), if_neg (by omega), if_pos (by omega)])) (by first | omega | (dsimp only; omega)) h)⟩ [0] rfl (fun j hj => by cases hj; dsimp only; omega) rfl (fun w h => h.pick [0,0] rfl)
  refine g_cond_f rfl (s_ (o_ ?_))
  refine xg 3 [0] rfl rfl ?_
  refine n_ (t_ ?_)
  refine g_casep 144 rfl (fun h29 => ?_) fun h29 => ?_
  ·refine g_cond_t rfl (s_ (o_ ?_))
   refine xg 1 [] rfl rfl ?_
   refine g_callAll (fun x : {x : Tok × List UInt8 × Bool × Value // IvR [125] l x.1 x.2.1 x.2.2.1} => .bool x.1.2.2.1) (fun x => [.cells b 57 [st8 x.1.2.1, (.bool true), x.1.2.2.2, (.int .i64 d)], .row 92 7 x.1.2.2.2 (ts ++ [x.1.1]).length ((ts ++ [x.1.1]).flatMap tC)]) rfl rfl rfl Try.call42 (fun w F' hS => interval_any b l (.bool true) (.int .i64 d) v ts [125] F' w (by omega) (by omega) hS) ?_
   rintro ⟨⟨t, r, ok, vi⟩, hiv⟩
   try dsimp only
   dsimp only at hiv
   refine xg 1 [] rfl rfl ?_
   refine n_ (t_ ?_)
   first | refine g_casep 149 rfl (fun h30 => ?_) fun h30 => ?_ | refine g_caseb 149 rfl (fun h30 => ?_) fun h30 => ?_
   ·refine g_cond_t rfl (s_ ?_)
    obtain rfl : ok = false := by simpa using ‹(!ok) = true›
    refine o_ ?_
    refine xg 1 [] rfl rfl ?_
    refine n_ (t_ (g_ret (g_in_ret (g_then_ret (g_jumps_ret ?_)))))
    refine g_end1 Try.results20 rfl ?_
    exact fun w hS => ⟨⟨(vi, r, (ts ++ [t]), d, none), hR _ (.fail (.iv0 (by omega) rfl hiv)), fun ts' q => by cases q⟩, rfl, hS.pick [0,0] rfl⟩
   refine g_cond_f rfl (g_skip (g_in_normal (t_ (s_ (s_ ?_)))))
   obtain rfl : ok = true := by simpa using ‹(!ok) = false›
   have hel := IvR_len hiv
   refine o_ ?_
   refine xg 5 [0,2] rfl (by omega) ?_
   refine n_ (t_ (g_cond_f rfl (g_skip (t_ (g_goto ?_)))))
   exact g_jump ⟨(r, vi, (ts ++ [t]), d), by dsimp only; (try rw [List.length_append, List.length_singleton]); omega, by dsimp only; omega, by dsimp only; (try rw [List.length_append, List.length_singleton]); omega, fun o h => hR o (.next (.iv (by omega) rfl hiv) (by first | omega | (dsimp only; omega)) h)⟩ [0] rfl (fun j hj => by cases hj; dsimp only; omega) rfl (fun w h => h.pick [0,0] rfl)
  refine g_cond_f rfl (s_ (o_ ?_))
  refine xg 3 [0] rfl rfl ?_
  refine n_ (t_ ?_)
  refine g_casep 150 rfl (fun h31 => ?_) fun h31 => ?_
  ·refine g_cond_t rfl (s_ (o_ ?_))
   refine xg 8 [0,0] rfl (by omega) ?_
   refine nto_ ?_
   refine xg 2 [] rfl rfl ?_
   refine g_callAll (fun _ : Value => .tuple #[]) (fun v' => [.cells b 57 [st8 l, (.bool true), v', (.int .i64 (d + 1))], .row 92 7 v' (ts ++ [(kT 1)]).length ((ts ++ [(kT 1)]).flatMap tC)]) rfl rfl rfl Try.call36 (fun w F' hS => put_any b (st8 l) (.bool true) (.int .i64 (d + 1)) v ts (kT 1) F' w (by omega) hS) ?_
   intro vq
   try dsimp only
   refine n_ (g_in_normal (t_ (s_ (s_ (o_ ?_)))))
   refine xg 5 [0,2] rfl (by omega) ?_
   refine n_ (t_ (g_cond_f rfl (g_skip (t_ (g_goto ?_)))))
   exact g_jump ⟨(l, vq, (ts ++ [(kT 1)]), (d + 1)), by dsimp only; (try rw [List.length_append, List.length_singleton]); omega, by dsimp only; omega, by dsimp only; (try rw [List.length_append, List.length_singleton]); omega, fun o h => hR o (.next (.plain (by unfold okX; refine ⟨by omega, by omega, by omega, by omega, fun q => ?_⟩; first | omega | cases q) (by show tokE c ts d = _; unfold tokE; rw [if_neg (by omega), if_neg (by omega), if_neg (by omega), if_neg (by omega), if_pos (by omega)])) (by first | omega | (dsimp only; omega)) h)⟩ [0] rfl (fun j hj => by cases hj; dsimp only; omega) rfl (fun w h => h.pick [0,0] rfl)
  refine g_cond_f rfl (s_ (o_ ?_))
  refine xg 3 [0] rfl rfl ?_
  refine n_ (t_ ?_)
  refine g_casep 163 rfl (fun h32 => ?_) fun h32 => ?_
  ·refine g_cond_t rfl (s_ (o_ ?_))
   refine xg 8 [0,0] rfl (by omega) ?_
   refine nto_ ?_
   refine xg 2 [] rfl rfl ?_
   refine g_callAll (fun _ : Value => .tuple #[]) (fun v' => [.cells b 57 [st8 l, (.bool true), v', (.int .i64 (d - 1))], .row 92 7 v' (ts ++ [(kT 2)]).length ((ts ++ [(kT 2)]).flatMap tC)]) rfl rfl rfl Try.call36 (fun w F' hS => put_any b (st8 l) (.bool true) (.int .i64 (d - 1)) v ts (kT 2) F' w (by omega) hS) ?_
   intro vq
   try dsimp only
   refine n_ (g_in_normal (t_ (s_ (s_ (o_ ?_)))))
   refine xg 5 [0,0] rfl (by omega) ?_
   refine n_ (t_ ?_)
   refine g_casep 186 rfl (fun h33 => ?_) fun h33 => ?_
   ·refine g_cond_t rfl (s_ (o_ ?_))
    refine xg 1 [] rfl rfl ?_
    refine n_ (t_ (g_ret (g_then_ret (g_jumps_ret ?_))))
    refine g_end1 Try.results20 rfl ?_
    exact fun w hS => ⟨⟨(vq, l, (ts ++ [(kT 2)]), (d - 1), none), hR _ (.neg (.plain (by unfold okX; refine ⟨by omega, by omega, by omega, by omega, fun q => ?_⟩; first | omega | cases q) (by show tokE c ts d = _; unfold tokE; rw [if_neg (by omega), if_neg (by omega), if_neg (by omega), if_neg (by omega), if_neg (by omega), if_pos (by omega)])) (by omega)), fun ts' q => by cases q⟩, rfl, hS.pick [0,0] rfl⟩
   refine g_cond_f rfl (g_skip (t_ (g_goto ?_)))
   exact g_jump ⟨(l, vq, (ts ++ [(kT 2)]), (d - 1)), by dsimp only; (try rw [List.length_append, List.length_singleton]); omega, by dsimp only; omega, by dsimp only; (try rw [List.length_append, List.length_singleton]); omega, fun o h => hR o (.next (.plain (by unfold okX; refine ⟨by omega, by omega, by omega, by omega, fun q => ?_⟩; first | omega | cases q) (by show tokE c ts d = _; unfold tokE; rw [if_neg (by omega), if_neg (by omega), if_neg (by omega), if_neg (by omega), if_neg (by omega), if_pos (by omega)])) (by first | omega | (dsimp only; omega)) h)⟩ [0] rfl (fun j hj => by cases hj; dsimp only; omega) rfl (fun w h => h.pick [0,0] rfl)
  refine g_cond_f rfl (s_ (o_ ?_))
  refine xg 3 [0] rfl rfl ?_
  refine n_ (t_ ?_)
  refine g_casep 176 rfl (fun h34 => ?_) fun h34 => ?_
  ·refine g_cond_t rfl (o_ ?_)
   refine xg 2 [] rfl rfl ?_
   refine g_callAll (fun _ : Value => .tuple #[]) (fun v' => [.cells b 57 [st8 l, (.bool true), v', (.int .i64 d)], .row 92 7 v' (ts ++ [(kT 3)]).length ((ts ++ [(kT 3)]).flatMap tC)]) rfl rfl rfl Try.call36 (fun w F' hS => put_any b (st8 l) (.bool true) (.int .i64 d) v ts (kT 3) F' w (by omega) hS) ?_
   intro vq
   try dsimp only
   refine n_ (g_in_normal (t_ (s_ (s_ (o_ ?_)))))
   refine xg 5 [0,2] rfl (by omega) ?_
   refine n_ (t_ (g_cond_f rfl (g_skip (t_ (g_goto ?_)))))
   exact g_jump ⟨(l, vq, (ts ++ [(kT 3)]), d), by dsimp only; (try rw [List.length_append, List.length_singleton]); omega, by dsimp only; omega, by dsimp only; (try rw [List.length_append, List.length_singleton]); omega, fun o h => hR o (.next (.plain (by unfold okX; refine ⟨by omega, by omega, by omega, by omega, fun q => ?_⟩; first | omega | cases q) (by show tokE c ts d = _; unfold tokE; rw [if_neg (by omega), if_neg (by omega), if_neg (by omega), if_neg (by omega), if_neg (by omega), if_neg (by omega), if_pos (by omega)])) (by first | omega | (dsimp only; omega)) h)⟩ [0] rfl (fun j hj => by cases hj; dsimp only; omega) rfl (fun w h => h.pick [0,0] rfl)
  refine g_cond_f rfl (o_ ?_)
  refine xg 2 [] rfl rfl ?_
  refine g_callAll (fun _ : Value => .tuple #[]) (fun v' => [.cells b 57 [st8 l, (.bool true), v', (.int .i64 d)], .row 92 7 v' (ts ++ [litT c]).length ((ts ++ [litT c]).flatMap tC)]) rfl rfl rfl Try.call41 (fun w F' hS => literal_any b (st8 l) (.bool true) (.int .i64 d) v ts c F' w (by omega) hS) ?_
  intro vq
  try dsimp only
  refine n_ (g_in_normal (t_ (s_ (s_ (o_ ?_)))))
  refine xg 5 [0,2] rfl (by omega) ?_
  refine n_ (t_ (g_cond_f rfl (g_skip (t_ (g_goto ?_)))))
  exact g_jump ⟨(l, vq, (ts ++ [litT c]), d), by dsimp only; (try rw [List.length_append, List.length_singleton]); omega, by dsimp only; omega, by dsimp only; (try rw [List.length_append, List.length_singleton]); omega, fun o h => hR o (.next (.plain (by unfold okX; refine ⟨by omega, by omega, by omega, by omega, fun q => ?_⟩; first | omega | cases q) (by show tokE c ts d = _; unfold tokE; rw [if_neg (by omega), if_neg (by omega), if_neg (by omega), if_neg (by omega), if_neg (by omega), if_neg (by omega), if_neg (by omega)])) (by first | omega | (dsimp only; omega)) h)⟩ [0] rfl (fun j hj => by cases hj; dsimp only; omega) rfl (fun w h => h.pick [0,0] rfl)
 ·intro hp
  refine s_ (o_ ?_)
  refine xg 1 [] rfl rfl ?_
  refine n_ (t_ (s_ (g_label (t_ ?_))))
  exact g_fall (hp (⟨(l0, v0, [], 0), by simp, by simp, by simp, fun _ h => h⟩)) [0] rfl (fun w h => h.pick [0,0] rfl)

end Go.Proofs.Ytjdmdpjbijkjaaa

/- pattern.Parse, of any text. -/
namespace Go.Proofs.Ytjdmdpjbijkjaaa
open Go Go.RowKit

theorem St.no0 {W0 w : World} {L : List Ent} (h : St W0 [] L w) (hz : MaxHere W0) : 0 ∉ L.flatMap Ent.fp := fun hk => by
  obtain ⟨e, he, hk⟩ := List.mem_flatMap.1 hk
  rcases h.own e he 0 hk with h1 | h1
  · have := hz.pos; omega
  · cases h1
theorem LStep_len {ext : Bool} {l : List UInt8} {ts : List Tok} {d : Int} {o : Option (List UInt8 × List Tok × Int)} (h : LStep ext l ts d o) : ∀ r ts' d', o = some (r, ts', d') → ts'.length = ts.length + 1 := by
  intro r ts' d' ho
  cases h with
  | esc h he => cases ho; exact (EscR_len he).1
  | esc0 h he => cases ho
  | brack h hn => cases ho; simp
  | brack0 h => cases ho
  | begins h ha => cases ho; simp
  | ends h ha => cases ho; simp
  | lits h he ha => cases ho; simp
  | iv h he hi => cases ho; simp
  | iv0 h he hi => cases ho
  | plain h e =>
    cases ho
    cases ext with
    | true => rename_i c; have := tokE_len c ts d; rw [show tokE c ts d = _ from e] at this; exact this
    | false => rename_i c; have := tokB_len c ts d; rw [show tokB c ts d = _ from e] at this; exact this
theorem Lex_len {ext : Bool} {l : List UInt8} {ts : List Tok} {d : Int} {o : Option (List Tok)} (h : Lex ext l ts d o) : ∀ ts', o = some ts' → ts.length ≤ ts'.length ∧ (l ≠ [] → ts.length < ts'.length) := by
  induction h with
  | done h => intro ts' q; cases q; exact ⟨Nat.le_refl _, fun h => absurd rfl h⟩
  | deep h => intro ts' q; cases q
  | fail h => intro ts' q; cases q
  | neg h hd => intro ts' q; cases q
  | next h hd ho ih =>
    intro ts' q
    have h1 := LStep_len h _ _ _ rfl
    have h2 := (ih ts' q).1
    exact ⟨by omega, fun _ => by omega⟩
/-- What Parse answers. -/
def parX (ext : Bool) (l0 : List UInt8) (x : MT × Int) : Prop :=
  (x = (zMT, 91) ∧ (l0 = [] ∨ 200 < l0.length ∨ Lex ext l0 [] 0 none ∨ ∃ ts t k g b, Lex ext l0 [] 0 (some ts) ∧ RAll ts 0 0 false t k g b ∧ (b = true ∨ k < ts.length))) ∨
  (x.2 = 0 ∧ ∃ ts k g, Lex ext l0 [] 0 (some ts) ∧ l0 ≠ [] ∧ l0.length ≤ 200 ∧ RAll ts 0 0 false x.1 k g false ∧ ts.length ≤ k)

set_option maxRecDepth 100000 in
theorem parse_xb (l0 : List UInt8) (w : World) (hz : MaxHere w) :
    Calls Try.prog 8 #[st8 l0, .bool false] w fun e w' => ∃ x : {x : MT × Int // parX false l0 x}, e = .returned (.tuple #[.agg (nC x.1.1).toArray, .int .i64 x.1.2]) ∧ St w [] [.forest [x.1.1]] w' := by
 refine fn_intro Try.func8 rfl Try.ntmps8 rfl rfl ?_
 refine s_ (o_ ?_)
 refine g_alloc rfl rfl Try.zeroValue28 rfl (fun b1 => ?_)
 refine xg 1 [] rfl rfl ?_
 refine n_ (t_ (s_ ?_))
 have hsz := size_mk l0
 refine o_ ?_
 refine xg 3 [] rfl rfl ?_
 refine g_box rfl rfl rfl rfl (fun b2 => ?_)
 refine g_val rfl rfl rfl (y_assign rfl) ?_
 refine g_nilRow 92 7 ?_
 refine n_ (t_ (s_ (s_ (o_ ?_))))
 refine xg 3 [] rfl rfl ?_
 refine g_casep 15 rfl (fun h1 => ?_) fun h1 => ?_
 ·refine xg 9 [] rfl rfl ?_
  refine n_ (t_ (g_cond_t rfl (s_ ?_)))
  refine g_leaf 0 s0 0 0 0 ?_
  refine o_ ?_
  refine xg 3 [3] rfl (by omega) ?_
  refine n_ (t_ (g_ret (g_then_ret ?_)))
  refine g_end_cell2 3 Try.results8 rfl rfl rfl Try.isAgg28 Try.sizeOf28 rfl ?_
  exact fun w hS => ⟨⟨(zMT, 91), .inl ⟨rfl, (by first | exact .inr (.inl (by omega)) | exact .inl (by have h := congrArg (fun b : ByteArray => b.data.toList) (show (⟨l0.toArray⟩ : ByteArray) = ⟨#[]⟩ by assumption); simpa using h))⟩⟩, rfl, hS.pick [0] rfl⟩
 refine xg 5 [0] rfl rfl ?_
 refine g_casep 20 rfl (fun h2 => ?_) fun h2 => ?_
 ·refine xg 4 [] rfl rfl ?_
  refine n_ (t_ (g_cond_t rfl (s_ ?_)))
  refine g_leaf 0 s0 0 0 0 ?_
  refine o_ ?_
  refine xg 3 [3] rfl (by omega) ?_
  refine n_ (t_ (g_ret (g_then_ret ?_)))
  refine g_end_cell2 3 Try.results8 rfl rfl rfl Try.isAgg28 Try.sizeOf28 rfl ?_
  exact fun w hS => ⟨⟨(zMT, 91), .inl ⟨rfl, (by first | exact .inr (.inl (by omega)) | exact .inl (by have h := congrArg (fun b : ByteArray => b.data.toList) (show (⟨l0.toArray⟩ : ByteArray) = ⟨#[]⟩ by assumption); simpa using h))⟩⟩, rfl, hS.pick [0] rfl⟩
 refine xg 1 [] rfl rfl ?_
 refine g_perm (.swap _ _ _) ?_
 refine g_callOwn (L0 := [.cells b2 57 [st8 l0, .bool false, .slice none 0 0, .int .i64 0], .row 92 7 (.slice none 0 0) ([] : List Tok).length (([] : List Tok).flatMap tC)]) (fun x : {x : Value × List UInt8 × List Tok × Int × Option (List Tok) // Lex false l0 [] 0 x.2.2.2.2 ∧ ∀ ts, x.2.2.2.2 = some ts → x.2.2.1 = ts ∧ ts.length ≤ l0.length} => .bool x.1.2.2.2.2.isSome) (fun x => [.cells b2 57 [st8 x.1.2.1, .bool false, x.1.1, .int .i64 x.1.2.2.2.1], .row 92 7 x.1.1 x.1.2.2.1.length (x.1.2.2.1.flatMap tC)]) rfl rfl rfl Try.call20 (fun w hS => tokens_xb b2 l0 _ (by omega) _ w (hS.maxHere hz (by simp)) (fun hk => hS.no0 hz (by rw [List.flatMap_append]; exact List.mem_append_left _ hk)) hS.part) ?_
 rintro ⟨⟨vt, rest, ts, dx, ot⟩, hlx, htk⟩
 dsimp only at hlx htk
 simp only [List.cons_append, List.nil_append]
 refine xg 2 [] rfl rfl ?_
 refine n_ (t_ ?_)
 first | refine g_casep 24 rfl (fun h3 => ?_) fun h3 => ?_ | refine g_caseb 24 rfl (fun h3 => ?_) fun h3 => ?_
 ·refine g_cond_t rfl (s_ ?_)
  refine g_leaf 0 s0 0 0 0 ?_
  refine o_ ?_
  refine xg 3 [3] rfl (by omega) ?_
  refine n_ (t_ (g_ret (g_then_ret ?_)))
  refine g_end_cell2 3 Try.results8 rfl rfl rfl Try.isAgg28 Try.sizeOf28 rfl ?_
  have hno : ot = none := by simpa using ‹(!ot.isSome) = true›
  subst hno
  exact fun w hS => ⟨⟨(zMT, 91), .inl ⟨rfl, .inr (.inr (.inl hlx))⟩⟩, rfl, hS.pick [0] rfl⟩
 refine g_cond_f rfl (g_skip (t_ (s_ ?_)))
 obtain ⟨ts0, hts0⟩ := Option.isSome_iff_exists.1 (show ot.isSome = true by simpa using ‹(!ot.isSome) = false›)
 obtain ⟨rfl, hlen⟩ := htk ts0 hts0
 subst hts0
 have hne : 0 < l0.length := List.length_pos_iff.2 (fun q => by subst q; exact absurd rfl ‹¬ _ = _›)
 have hpt : 0 < ts.length := (Lex_len hlx ts rfl).2 (List.length_pos_iff.1 hne)
 refine g_rowCase 1 rfl (by omega) (fun gr4 cr4 hv4 => ?_)
 cases hv4
 refine g_rowCap 1 rfl (fun hcap => ?_)
 refine o_ ?_
 refine xg 5 [0] rfl (by omega) ?_
 refine g_box rfl rfl rfl rfl (fun b3 => ?_)
 refine xg 1 [] rfl rfl ?_
 refine ntso_ ?_
 refine xg 1 [] rfl rfl ?_
 refine g_perm (.cons _ (.swap _ _ _)) ?_
 refine g_callOwn (L0 := [PEnt b3 gr4 ts 0 0 false 0 cr4, TEnt gr4 cr4 ts]) (fun x : {x : PX // RAll ts 0 0 false x.t x.k x.g x.b ∧ Pos ts x.k x.off x.c ∧ GB x.g x.b ∧ 0 ≤ x.k} => .agg (nC x.1.t).toArray) (fun x => [PEnt b3 gr4 ts x.1.k x.1.g x.1.b x.1.off x.1.c, TEnt gr4 cr4 ts, .forest [x.1.t]]) rfl rfl rfl Try.call21 (fun w hS => all_ok (ts.length + 1) b3 gr4 cr4 0 0 cr4 ts 0 false _ w trivial ⟨Nat.zero_le _, fun _ => rfl, hcap⟩ ⟨by decide, by decide, fun _ => by decide⟩ (by omega) (by omega) hS.part) ?_
 rintro ⟨⟨⟨nk, ns, nm, nx, nu, nv, nq⟩, k1, g1, b1, off1, c1⟩, hr, hpos1, hgb1, hk1⟩
 dsimp only at hr hpos1 hgb1 hk1
 simp only [List.cons_append, List.nil_append]
 refine g_kids 2 rfl (fun pv cv hv => ?_)
 cases hv
 refine g_alloc rfl rfl Try.zeroValue28 rfl (fun b4 => ?_)
 refine xg 1 [0] rfl (by omega) ?_
 refine n_ (t_ (s_ (s_ (o_ ?_))))
 refine xg 5 [1] rfl (by omega) ?_
 first | refine g_casep 38 rfl (fun h5 => ?_) fun h5 => ?_ | refine g_caseb 38 rfl (fun h5 => ?_) fun h5 => ?_
 ·refine xg 7 [] rfl rfl ?_
  refine n_ (t_ (g_cond_t rfl (s_ ?_)))
  refine g_leaf 0 s0 0 0 0 ?_
  refine o_ ?_
  refine xg 3 [6] rfl (by omega) ?_
  refine n_ (t_ (g_ret (g_then_ret ?_)))
  refine g_end_cell2 6 Try.results8 rfl rfl rfl Try.isAgg28 Try.sizeOf28 rfl ?_
  exact fun w hS => ⟨⟨(zMT, 91), .inl ⟨rfl, .inr (.inr (.inr ⟨ts, _, k1, g1, b1, hlx, hr, by first | exact .inl (by assumption) | exact .inr (by omega)⟩))⟩⟩, rfl, hS.pick [0] rfl⟩
 refine xg 7 [1,0] rfl (by omega) ?_
 refine n_ (t_ ?_)
 refine g_casep 45 rfl (fun h6 => ?_) fun h6 => ?_
 ·refine g_cond_t rfl (s_ ?_)
  refine g_leaf 0 s0 0 0 0 ?_
  refine o_ ?_
  refine xg 3 [6] rfl (by omega) ?_
  refine n_ (t_ (g_ret (g_then_ret ?_)))
  refine g_end_cell2 6 Try.results8 rfl rfl rfl Try.isAgg28 Try.sizeOf28 rfl ?_
  exact fun w hS => ⟨⟨(zMT, 91), .inl ⟨rfl, .inr (.inr (.inr ⟨ts, _, k1, g1, b1, hlx, hr, by first | exact .inl (by assumption) | exact .inr (by omega)⟩))⟩⟩, rfl, hS.pick [0] rfl⟩
 refine g_cond_f rfl (g_skip (t_ (s_ (o_ ?_))))
 refine xg 3 [0,5] rfl (by omega) ?_
 refine n_ (t_ (g_ret ?_))
 refine g_end_cell2 5 Try.results8 rfl rfl rfl Try.isAgg28 Try.sizeOf28 rfl ?_
 have hbb : b1 = false := by assumption
 subst hbb
 exact fun w hS => ⟨⟨(.mk nk ns nm nx nu _ nq, 0), .inr ⟨rfl, ts, k1, g1, hlx, List.length_pos_iff.1 hne, by omega, hr, by omega⟩⟩, rfl, hS.pick [3] rfl⟩

set_option maxRecDepth 100000 in
theorem parse_xe (l0 : List UInt8) (w : World) (hz : MaxHere w) :
    Calls Try.prog 8 #[st8 l0, .bool true] w fun e w' => ∃ x : {x : MT × Int // parX true l0 x}, e = .returned (.tuple #[.agg (nC x.1.1).toArray, .int .i64 x.1.2]) ∧ St w [] [.forest [x.1.1]] w' := by
 refine fn_intro Try.func8 rfl Try.ntmps8 rfl rfl ?_
 refine s_ (o_ ?_)
 refine g_alloc rfl rfl Try.zeroValue28 rfl (fun b1 => ?_)
 refine xg 1 [] rfl rfl ?_
 refine n_ (t_ (s_ ?_))
 have hsz := size_mk l0
 refine o_ ?_
 refine xg 3 [] rfl rfl ?_
 refine g_box rfl rfl rfl rfl (fun b2 => ?_)
 refine g_val rfl rfl rfl (y_assign rfl) ?_
 refine g_nilRow 92 7 ?_
 refine n_ (t_ (s_ (s_ (o_ ?_))))
 refine xg 3 [] rfl rfl ?_
 refine g_casep 15 rfl (fun h1 => ?_) fun h1 => ?_
 ·refine xg 9 [] rfl rfl ?_
  refine n_ (t_ (g_cond_t rfl (s_ ?_)))
  refine g_leaf 0 s0 0 0 0 ?_
  refine o_ ?_
  refine xg 3 [3] rfl (by omega) ?_
  refine n_ (t_ (g_ret (g_then_ret ?_)))
  refine g_end_cell2 3 Try.results8 rfl rfl rfl Try.isAgg28 Try.sizeOf28 rfl ?_
  exact fun w hS => ⟨⟨(zMT, 91), .inl ⟨rfl, (by first | exact .inr (.inl (by omega)) | exact .inl (by have h := congrArg (fun b : ByteArray => b.data.toList) (show (⟨l0.toArray⟩ : ByteArray) = ⟨#[]⟩ by assumption); simpa using h))⟩⟩, rfl, hS.pick [0] rfl⟩
 refine xg 5 [0] rfl rfl ?_
 refine g_casep 20 rfl (fun h2 => ?_) fun h2 => ?_
 ·refine xg 4 [] rfl rfl ?_
  refine n_ (t_ (g_cond_t rfl (s_ ?_)))
  refine g_leaf 0 s0 0 0 0 ?_
  refine o_ ?_
  refine xg 3 [3] rfl (by omega) ?_
  refine n_ (t_ (g_ret (g_then_ret ?_)))
  refine g_end_cell2 3 Try.results8 rfl rfl rfl Try.isAgg28 Try.sizeOf28 rfl ?_
  exact fun w hS => ⟨⟨(zMT, 91), .inl ⟨rfl, (by first | exact .inr (.inl (by omega)) | exact .inl (by have h := congrArg (fun b : ByteArray => b.data.toList) (show (⟨l0.toArray⟩ : ByteArray) = ⟨#[]⟩ by assumption); simpa using h))⟩⟩, rfl, hS.pick [0] rfl⟩
 refine xg 1 [] rfl rfl ?_
 refine g_perm (.swap _ _ _) ?_
 refine g_callOwn (L0 := [.cells b2 57 [st8 l0, .bool true, .slice none 0 0, .int .i64 0], .row 92 7 (.slice none 0 0) ([] : List Tok).length (([] : List Tok).flatMap tC)]) (fun x : {x : Value × List UInt8 × List Tok × Int × Option (List Tok) // Lex true l0 [] 0 x.2.2.2.2 ∧ ∀ ts, x.2.2.2.2 = some ts → x.2.2.1 = ts ∧ ts.length ≤ l0.length} => .bool x.1.2.2.2.2.isSome) (fun x => [.cells b2 57 [st8 x.1.2.1, .bool true, x.1.1, .int .i64 x.1.2.2.2.1], .row 92 7 x.1.1 x.1.2.2.1.length (x.1.2.2.1.flatMap tC)]) rfl rfl rfl Try.call20 (fun w hS => tokens_xe b2 l0 _ (by omega) _ w (hS.maxHere hz (by simp)) (fun hk => hS.no0 hz (by rw [List.flatMap_append]; exact List.mem_append_left _ hk)) hS.part) ?_
 rintro ⟨⟨vt, rest, ts, dx, ot⟩, hlx, htk⟩
 dsimp only at hlx htk
 simp only [List.cons_append, List.nil_append]
 refine xg 2 [] rfl rfl ?_
 refine n_ (t_ ?_)
 first | refine g_casep 24 rfl (fun h3 => ?_) fun h3 => ?_ | refine g_caseb 24 rfl (fun h3 => ?_) fun h3 => ?_
 ·refine g_cond_t rfl (s_ ?_)
  refine g_leaf 0 s0 0 0 0 ?_
  refine o_ ?_
  refine xg 3 [3] rfl (by omega) ?_
  refine n_ (t_ (g_ret (g_then_ret ?_)))
  refine g_end_cell2 3 Try.results8 rfl rfl rfl Try.isAgg28 Try.sizeOf28 rfl ?_
  have hno : ot = none := by simpa using ‹(!ot.isSome) = true›
  subst hno
  exact fun w hS => ⟨⟨(zMT, 91), .inl ⟨rfl, .inr (.inr (.inl hlx))⟩⟩, rfl, hS.pick [0] rfl⟩
 refine g_cond_f rfl (g_skip (t_ (s_ ?_)))
 obtain ⟨ts0, hts0⟩ := Option.isSome_iff_exists.1 (show ot.isSome = true by simpa using ‹(!ot.isSome) = false›)
 obtain ⟨rfl, hlen⟩ := htk ts0 hts0
 subst hts0
 have hne : 0 < l0.length := List.length_pos_iff.2 (fun q => by subst q; exact absurd rfl ‹¬ _ = _›)
 have hpt : 0 < ts.length := (Lex_len hlx ts rfl).2 (List.length_pos_iff.1 hne)
 refine g_rowCase 1 rfl (by omega) (fun gr4 cr4 hv4 => ?_)
 cases hv4
 refine g_rowCap 1 rfl (fun hcap => ?_)
 refine o_ ?_
 refine xg 5 [0] rfl (by omega) ?_
 refine g_box rfl rfl rfl rfl (fun b3 => ?_)
 refine xg 1 [] rfl rfl ?_
 refine ntso_ ?_
 refine xg 1 [] rfl rfl ?_
 refine g_perm (.cons _ (.swap _ _ _)) ?_
 refine g_callOwn (L0 := [PEnt b3 gr4 ts 0 0 false 0 cr4, TEnt gr4 cr4 ts]) (fun x : {x : PX // RAll ts 0 0 false x.t x.k x.g x.b ∧ Pos ts x.k x.off x.c ∧ GB x.g x.b ∧ 0 ≤ x.k} => .agg (nC x.1.t).toArray) (fun x => [PEnt b3 gr4 ts x.1.k x.1.g x.1.b x.1.off x.1.c, TEnt gr4 cr4 ts, .forest [x.1.t]]) rfl rfl rfl Try.call21 (fun w hS => all_ok (ts.length + 1) b3 gr4 cr4 0 0 cr4 ts 0 false _ w trivial ⟨Nat.zero_le _, fun _ => rfl, hcap⟩ ⟨by decide, by decide, fun _ => by decide⟩ (by omega) (by omega) hS.part) ?_
 rintro ⟨⟨⟨nk, ns, nm, nx, nu, nv, nq⟩, k1, g1, b1, off1, c1⟩, hr, hpos1, hgb1, hk1⟩
 dsimp only at hr hpos1 hgb1 hk1
 simp only [List.cons_append, List.nil_append]
 refine g_kids 2 rfl (fun pv cv hv => ?_)
 cases hv
 refine g_alloc rfl rfl Try.zeroValue28 rfl (fun b4 => ?_)
 refine xg 1 [0] rfl (by omega) ?_
 refine n_ (t_ (s_ (s_ (o_ ?_))))
 refine xg 5 [1] rfl (by omega) ?_
 first | refine g_casep 38 rfl (fun h5 => ?_) fun h5 => ?_ | refine g_caseb 38 rfl (fun h5 => ?_) fun h5 => ?_
 ·refine xg 7 [] rfl rfl ?_
  refine n_ (t_ (g_cond_t rfl (s_ ?_)))
  refine g_leaf 0 s0 0 0 0 ?_
  refine o_ ?_
  refine xg 3 [6] rfl (by omega) ?_
  refine n_ (t_ (g_ret (g_then_ret ?_)))
  refine g_end_cell2 6 Try.results8 rfl rfl rfl Try.isAgg28 Try.sizeOf28 rfl ?_
  exact fun w hS => ⟨⟨(zMT, 91), .inl ⟨rfl, .inr (.inr (.inr ⟨ts, _, k1, g1, b1, hlx, hr, by first | exact .inl (by assumption) | exact .inr (by omega)⟩))⟩⟩, rfl, hS.pick [0] rfl⟩
 refine xg 7 [1,0] rfl (by omega) ?_
 refine n_ (t_ ?_)
 refine g_casep 45 rfl (fun h6 => ?_) fun h6 => ?_
 ·refine g_cond_t rfl (s_ ?_)
  refine g_leaf 0 s0 0 0 0 ?_
  refine o_ ?_
  refine xg 3 [6] rfl (by omega) ?_
  refine n_ (t_ (g_ret (g_then_ret ?_)))
  refine g_end_cell2 6 Try.results8 rfl rfl rfl Try.isAgg28 Try.sizeOf28 rfl ?_
  exact fun w hS => ⟨⟨(zMT, 91), .inl ⟨rfl, .inr (.inr (.inr ⟨ts, _, k1, g1, b1, hlx, hr, by first | exact .inl (by assumption) | exact .inr (by omega)⟩))⟩⟩, rfl, hS.pick [0] rfl⟩
 refine g_cond_f rfl (g_skip (t_ (s_ (o_ ?_))))
 refine xg 3 [0,5] rfl (by omega) ?_
 refine n_ (t_ (g_ret ?_))
 refine g_end_cell2 5 Try.results8 rfl rfl rfl Try.isAgg28 Try.sizeOf28 rfl ?_
 have hbb : b1 = false := by assumption
 subst hbb
 exact fun w hS => ⟨⟨(.mk nk ns nm nx nu _ nq, 0), .inr ⟨rfl, ts, k1, g1, hlx, List.length_pos_iff.1 hne, by omega, hr, by omega⟩⟩, rfl, hS.pick [3] rfl⟩

end Go.Proofs.Ytjdmdpjbijkjaaa

/- Plain texts and what they are parsed to. -/
namespace Go.Proofs.Ytjdmdpjbijkjaaa
open Go Go.RowKit

def plainC (c : UInt8) : Prop := (97 ≤ c.toNat ∧ c.toNat ≤ 122) ∨ (65 ≤ c.toNat ∧ c.toNat ≤ 90) ∨ (48 ≤ c.toNat ∧ c.toNat ≤ 57)
theorem okX_of {ext : Bool} {c : UInt8} (h : okC c) : okX ext c := by unfold okC at h; unfold okX; exact ⟨h.1, h.2.1, h.2.2.1, h.2.2.2.1, fun _ => h.2.2.2.2⟩
theorem LStep_plain {ext : Bool} {c : UInt8} {l : List UInt8} {ts : List Tok} {d : Int} {o : Option (List UInt8 × List Tok × Int)} (hc : okX ext c) (h : LStep ext (c :: l) ts d o) : o = some (l, tokX ext c ts d) := by
  unfold okX at hc
  cases h with
  | plain _ e => rw [e]
  | iv h he hi => have := hc.2.2.2.2 he; omega
  | iv0 h he hi => have := hc.2.2.2.2 he; omega
  | lits h he ha => omega
  | _ => omega
theorem Lex_plain {ext : Bool} : ∀ (l : List UInt8) (ts : List Tok) (d : Int) (o : Option (List Tok)), (∀ c, c ∈ l → okX ext c) → Lex ext l ts d o → o = tokF (tokX ext) l ts d
  | [], ts, d, o, _, h => by
    cases h with
    | done h => rw [tokF, if_pos h]
    | deep h => rw [tokF, if_neg h]
    | fail h => cases h
    | neg h hd => cases h
    | next h hd ho => cases h
  | c :: l, ts, d, o, hc, h => by
    have h1 := hc c (List.mem_cons_self ..)
    cases h with
    | fail h => cases LStep_plain h1 h
    | neg h hd =>
      injection LStep_plain h1 h with e
      injection e with _ e2
      rw [tokF, ← e2, if_pos hd]
    | next h hd ho =>
      injection LStep_plain h1 h with e
      injection e with e1 e2
      subst e1
      rw [tokF, ← e2, if_neg (Int.not_lt.2 hd)]
      exact Lex_plain _ _ _ _ (fun x hx => hc x (List.mem_cons_of_mem _ hx)) ho
theorem parX_R {ext : Bool} {l : List UInt8} {x : MT × Int} (hc : ∀ c, c ∈ l → okC c) (h : parX ext l x) : parR (tokX ext) l x := by
  have hx : ∀ c, c ∈ l → okX ext c := fun c h => okX_of (hc c h)
  rcases h with ⟨h1, h | h | h | ⟨ts, t, k, g, b, h2, h3⟩⟩ | ⟨h0, ts, k, g, h1, h2⟩
  · exact .inl ⟨h1, .inl h⟩
  · exact .inl ⟨h1, .inr (.inl h)⟩
  · exact .inl ⟨h1, .inr (.inr (.inl (Lex_plain l _ _ _ hx h).symm))⟩
  · exact .inl ⟨h1, .inr (.inr (.inr ⟨ts, t, k, g, b, (Lex_plain l _ _ _ hx h2).symm, h3⟩))⟩
  · exact .inr ⟨h0, ts, k, g, (Lex_plain l _ _ _ hx h1).symm, h2⟩
theorem plain_ok {c : UInt8} (h : plainC c) : okC c := by unfold plainC at h; unfold okC; omega
theorem tokB_plain {c : UInt8} (h : plainC c) (ts : List Tok) (d : Int) : tokB c ts d = (ts ++ [litT c], d) := by
  unfold plainC at h; unfold tokB
  rw [if_neg (by omega), if_neg (fun q => by have := q.1; omega), if_neg (by omega)]
theorem tokE_plain {c : UInt8} (h : plainC c) (ts : List Tok) (d : Int) : tokE c ts d = (ts ++ [litT c], d) := by
  unfold plainC at h; unfold tokE
  rw [if_neg (by omega), if_neg (by omega), if_neg (by omega), if_neg (by omega), if_neg (by omega), if_neg (by omega), if_neg (by omega)]
theorem tokF_plain {f : UInt8 → List Tok → Int → List Tok × Int} (hf : ∀ c ts d, plainC c → f c ts d = (ts ++ [litT c], d)) : ∀ (l : List UInt8) (ts : List Tok), (∀ c, c ∈ l → plainC c) → tokF f l ts 0 = some (ts ++ l.map litT) := by
  intro l
  induction l with
  | nil => intro ts _; simp [tokF]
  | cons c l ih =>
    intro ts h
    have h1 := hf c ts 0 (h c (by simp))
    simp only [tokF, h1]
    rw [if_neg (by decide), ih _ (fun x hx => h x (by simp [hx])), List.append_assoc]; rfl
def oneM (c : UInt8) : MT := .mk 1 (withS s0 c.toNat 1) 0 0 0 nilS []
theorem isK_lit {l : List UInt8} {k : Nat} {q : Int} (hq : q ≠ 0) : isK (l.map litT) k q = false := by
  unfold isK
  rw [List.getElem?_map]
  cases l[k]? with
  | none => rfl
  | some c => exact decide_eq_false (fun h => hq h.symm)
theorem tok_lit {l : List UInt8} {k : Nat} {t : Tok} (h : (l.map litT)[k]? = some t) : ∃ c, l[k]? = some c ∧ t = litT c := by
  rw [List.getElem?_map] at h
  cases hc : l[k]? with
  | none => rw [hc] at h; cases h
  | some c => rw [hc] at h; exact ⟨c, rfl, (Option.some.inj h).symm⟩
theorem pcs_lit (l : List UInt8) : ∀ (n k : Nat) (g : Int) (ms ms' : List MT) (k2 : Nat) (g2 : Int) (b2 : Bool), l.length - k = n → k ≤ l.length → RPcs (l.map litT) k g false ms ms' k2 g2 b2 → k2 = l.length ∧ g2 = g ∧ b2 = false ∧ ms' = ms ++ (l.drop k).map oneM := by
  intro n
  induction n with
  | zero =>
    intro k g ms ms' k2 g2 b2 hn hk h
    have hkl : k = l.length := by omega
    have hno : (l.map litT)[k]? = none := List.getElem?_eq_none (by rw [List.length_map]; omega)
    cases h with
    | stop _ => exact ⟨hkl, rfl, rfl, by rw [hkl, List.drop_length]; simp⟩
    | anchor h1 _ _ => rw [hno] at h1; cases h1
    | piece _ _ hp _ =>
      cases hp with
      | plain ha _ => cases ha with
        | set h1 _ => rw [hno] at h1; cases h1
        | times h1 _ => rw [hno] at h1; cases h1
        | group h1 _ _ _ _ _ => rw [hno] at h1; cases h1
      | rep ha _ _ => cases ha with
        | set h1 _ => rw [hno] at h1; cases h1
        | times h1 _ => rw [hno] at h1; cases h1
        | group h1 _ _ _ _ _ => rw [hno] at h1; cases h1
  | succ n ih =>
    intro k g ms ms' k2 g2 b2 hn hk h
    cases h with
    | stop hs =>
      rcases hs with q | q | q | q
      · rw [List.length_map] at q; omega
      · cases q
      · rw [isK_lit (by decide)] at q; cases q
      · rw [isK_lit (by decide)] at q; cases q
    | anchor h1 h2 _ =>
      obtain ⟨c, _, rfl⟩ := tok_lit h1
      rcases h2 with ⟨q, _⟩ | ⟨q, _⟩ <;> cases q
    | piece _ _ hp hr =>
      cases hp with
      | plain ha _ => cases ha with
        | set h1 _ =>
          obtain ⟨c, hc, rfl⟩ := tok_lit h1
          obtain ⟨a1, a2, a3, a4⟩ := ih (k + 1) g _ ms' k2 g2 b2 (by omega) (by omega) hr
          refine ⟨a1, a2, a3, ?_⟩
          rw [a4, List.drop_eq_getElem_cons (show k < l.length by omega), List.map_cons, (List.getElem?_eq_some_iff.1 hc).2, List.append_assoc]
          rfl
        | times h1 h2 => obtain ⟨c, _, rfl⟩ := tok_lit h1; cases h2
        | group h1 _ _ _ h2 _ => obtain ⟨c, _, rfl⟩ := tok_lit h1; exact absurd rfl h2
      | rep _ h1 h2 => obtain ⟨c, _, rfl⟩ := tok_lit h1; cases h2
theorem plain_tree {l : List UInt8} (hl : l ≠ []) {t : MT} {k : Nat} {g : Int} {b : Bool} (h : RAll (l.map litT) 0 0 false t k g b) : b = false ∧ k = l.length ∧ ((∃ c, l = [c] ∧ t = oneM c) ∨ (l.length ≠ 1 ∧ ∃ v, t = .mk 2 s0 0 0 0 v (l.map oneM))) := by
  have key : ∀ {t : MT} {k : Nat} {g : Int} {b : Bool}, RRow (l.map litT) 0 0 false t k g b → b = false ∧ k = l.length ∧ ((∃ c, l = [c] ∧ t = oneM c) ∨ (l.length ≠ 1 ∧ ∃ v, t = .mk 2 s0 0 0 0 v (l.map oneM))) := by
    intro t k g b h
    cases h with
    | one hp =>
      obtain ⟨a1, _, a3, a4⟩ := pcs_lit l _ 0 0 [] _ _ _ _ rfl (Nat.zero_le _) hp
      refine ⟨a3, a1, .inl ?_⟩
      rw [List.nil_append, List.drop_zero] at a4
      match l, a4 with
      | [c], a4 => simp only [List.map_cons, List.map_nil, List.cons.injEq, and_true] at a4; exact ⟨c, rfl, a4⟩
    | many hp hne =>
      obtain ⟨a1, _, a3, a4⟩ := pcs_lit l _ 0 0 [] _ _ _ _ rfl (Nat.zero_le _) hp
      rw [List.nil_append, List.drop_zero] at a4
      subst a4
      rw [List.length_map] at hne
      have h0 : l.length ≠ 0 := fun q => hl (List.length_eq_zero_iff.1 q)
      refine ⟨by rw [a3, List.length_map]; simp [h0], a1, .inr ⟨hne, _, rfl⟩⟩
  cases h with
  | one hr hb =>
    obtain ⟨a1, a2, a3⟩ := key hr
    cases hb with
    | stop _ => exact ⟨a1, a2, a3⟩
    | more h1 _ _ => rw [isK_lit (by decide)] at h1; cases h1
  | many hr hb hne =>
    cases hb with
    | stop _ => exact absurd rfl hne
    | more h1 _ _ => rw [isK_lit (by decide)] at h1; cases h1
/-- What Parse answers of a plain text. -/
theorem parse_plain {f : UInt8 → List Tok → Int → List Tok × Int} (hf : ∀ c ts d, plainC c → f c ts d = (ts ++ [litT c], d)) {l : List UInt8} (hp : ∀ c, c ∈ l → plainC c) (hl : l ≠ []) (h200 : l.length ≤ 200) {x : MT × Int} (h : parR f l x) :
    x.2 = 0 ∧ ((∃ c, l = [c] ∧ x.1 = oneM c) ∨ (l.length ≠ 1 ∧ ∃ v, x.1 = .mk 2 s0 0 0 0 v (l.map oneM))) := by
  have ht := tokF_plain hf l [] hp
  rw [List.nil_append] at ht
  rcases h with ⟨_, h | h | h | ⟨ts, t, k, g, b, h1, h2, h3⟩⟩ | ⟨h0, ts, k, g, h1, _, _, h2, _⟩
  · exact absurd h hl
  · omega
  · rw [ht] at h; cases h
  · rw [ht] at h1
    obtain rfl := Option.some.inj h1
    obtain ⟨a1, a2, _⟩ := plain_tree hl h2
    rcases h3 with q | q
    · rw [a1] at q; cases q
    · rw [a2, List.length_map] at q; omega
  · rw [ht] at h1
    obtain rfl := Option.some.inj h1
    exact ⟨h0, (plain_tree hl h2).2.2⟩

end Go.Proofs.Ytjdmdpjbijkjaaa

/- Rows that are read. -/
namespace Go.Proofs.Ytjdmdpjbijkjaaa
open Go Go.RowKit

theorem add_add2 (a : Addr) (x y : Nat) : (a.add x).add y = a.add (x + y) := by
  unfold Addr.add
  cases a with
  | mk b o s => by_cases hx : x = 0 <;> by_cases hy : y = 0 <;> simp_all [Nat.add_assoc]
section
variable {P : Program} {N : Nat} {R : Regs} {S : World → Prop} {Q : Exit → Act → World → Prop} {ops : Array Oper} {rest : List Oper} {W0 : World} {F : List Nat} {L : List Ent} {X : Act → World → Prop}
variable {dst : Option Tmp} {ty t t' k e : TypeId} {pos : String} {af : Array Edge} {gd : Option (Nat × Bool)} {x y z : Operand} {o : Oper}
theorem y_fieldAt {t : TypeId} {i k a m : Nat} {p : Addr} (hx : ev R x = some (.pointer (some (p.add a)))) (hk : fieldOff P t i = some k) (hm : a + k = m) : Yv P N R S ⟨dst, .fieldAddr t x i, ty, pos, af, gd⟩ (.pointer (some (p.add m))) := fun a' w hR _ => by
  subst hm
  simp [execOp, hR.eval hx, run_fieldAt hk, add_add2]
theorem rd_cell {W : World} {p : Option Addr} {n sz : Nat} {f : Nat → Nat → Value} (hr : RdSl W p n sz f) {i j : Nat} (hi : i < n) (hj : j < sz) {L : List Ent} : ∀ w, St W [] L w → w.cell? ((p.getD default).add (i * sz + j)) = some (f i j) := fun w hS => by
  have hb := hr.blk (by omega)
  have hc := hr.cell i j hi hj
  rw [← hc]
  have e : ((p.getD default).add (i * sz + j)).block = (p.getD default).block := by unfold Addr.add; split <;> rfl
  exact World.cell?_of_block (w := W) (hS.keep _ (by rw [e]; exact hb) (by simp))
theorem y_rdField {t : TypeId} {p : Option Addr} {n sz j m : Nat} {i : Int} {f : Nat → Nat → Value} (hr : RdSl W0 p n sz f) (hx : ev R x = some (.pointer (some ((p.getD default).add m)))) (hm : i.toNat * sz + j = m) (ha : ∀ w, (isAgg t).run P w = .ok false w) (h0 : 0 ≤ i) (h1 : i < n) (hj : j < sz) :
    Yv P N R (St W0 [] L) ⟨dst, .load t x, ty, pos, af, gd⟩ (f i.toNat j) := by
  subst hm
  exact y_load1 hx ha (rd_cell hr (by omega) hj)
theorem y_rdAgg {t : TypeId} {p : Option Addr} {n sz : Nat} {i : Int} {f : Nat → Nat → Value} {vs : List Value} (hr : RdSl W0 p n sz f) (hx : ev R x = some (.pointer (some ((p.getD default).add (i.toNat * sz))))) (ha : ∀ w, (isAgg t).run P w = .ok true w) (hz : ∀ w, (sizeOf t).run P w = .ok sz w) (h0 : 0 ≤ i) (h1 : i < n) (hl : vs.length = sz) (hv : ∀ j, j < sz → vs[j]? = some (f i.toNat j)) :
    Yv P N R (St W0 [] L) ⟨dst, .load t x, ty, pos, af, gd⟩ (.agg vs.toArray) := fun a w hR hS => by
  have hl2 : (loadCells ((p.getD default).add (i.toNat * sz)) vs.length).run P w = .ok vs.toArray w :=
    run_loadCells_list (P := P) w _ vs (fun j v hj => by
      have hlt : j < vs.length := (List.getElem?_eq_some_iff.1 hj).1
      rw [add_add2, rd_cell hr (by omega) (by omega) w hS, ← hv j (by omega), hj])
  rw [hl] at hl2
  simp [execOp, hR.eval hx, Instr.loadAt, Instr.sureAddr, loadVar, Sem.run_bind, ha, hz, hl2]
/-- An owned row, as one that is read. -/
theorem rd_of_row {α : Type} [Inhabited α] (f : α → List Value) {w : World} {e : TypeId} {size n c : Nat} {p : Option Addr} {cs : List α} (hl : ∀ a, (f a).length = size) (hn : n = cs.length) (h : w.ownsRow 0 e size (.slice p n c) cs.length (cs.flatMap f)) : RdSl w p n size (fun i j => ((f (cs.getD i default))[j]?).getD default) := by
  subst hn
  refine ⟨fun hpos => ?_, fun hpos => ?_, fun i j hi hj => ?_⟩
  · obtain ⟨_, h2 | ⟨g, cap, cur, q, _⟩⟩ := h
    · omega
    · cases q; rfl
  · obtain ⟨_, h2 | ⟨g, cap, cur, q, _, q2, _⟩⟩ := h
    · omega
    · cases q; exact lt_of_some q2
  · have hg : cs[i]? = some (cs.getD i default) := by rw [List.getD_eq_getElem?_getD, List.getElem?_eq_getElem hi]; rfl
    have hv := fm_get f size hl cs i j _ hg hj
    have hjl : j < (f (cs.getD i default)).length := by rw [hl]; exact hj
    rw [List.getElem?_eq_getElem hjl] at hv ⊢
    have h' := h
    obtain ⟨q0, h2 | ⟨g, cap, cur, q, _⟩⟩ := h
    · omega
    · cases q
      have := row_cell h' hv
      simpa [Addr.add_mid] using this
end

end Go.Proofs.Ytjdmdpjbijkjaaa

