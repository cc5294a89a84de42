/- PatternRight. -/
import Derived.Test.YtpoelkfncpjmfaaPbo
import Derived.Test.YtpoelkfncpjmfaaW
namespace Go.Proofs.Ytpoelkfncpjmfaa
open Go Go.RowKit

theorem maxHere_of {w : World} (h : w.ShapedOpen Try.prog) : MaxHere w :=
  int_of_shape (g := 0) (t := 3) (zero := #[.int .i64 0]) h (Nat.le_of_ble_eq_true (by kernel_rfl)) (by kernel_rfl) rfl (by kernel_rfl) (by kernel_rfl) Try.underlying3
set_option maxRecDepth 100000 in
theorem pright_any (l : List UInt8) (ext : Bool) (hl : l.length ≤ maxLen) (w : World) (hz : MaxHere w) :
    Calls Try.prog 5 #[st8 l, .bool ext] w fun e w' => e = .returned (.bool true) ∧ Below w.heap.size w w' := by
 have hmax : maxLen = 9223372036854775807 := rfl
 have hsz := size_mk l
 refine fn_intro Try.func5 rfl Try.ntmps5 rfl rfl ?_
 refine s_ ?_
 cases ext
 ·refine o_ ?_
  refine xg 1 [] rfl rfl ?_
  refine n_ (t_ (s_ (s_ (o_ ?_))))
  refine xg 3 [0] rfl rfl ?_
  refine n_ (t_ ?_)
  refine g_casep 11 rfl (fun h1 => ?_) fun h1 => ?_
  ·try rw [hsz] at h1
   refine g_cond_t rfl (s_ (o_ ?_))
   refine g_call1 rfl rfl rfl Try.call8 (fun w hS => alive_any w (hS.maxHere hz (by simp))) ?_
   refine xg 1 [] rfl rfl ?_
   refine n_ (t_ (g_ret (g_then_ret ?_)))
   refine g_end1 Try.results5 rfl ?_
   exact fun w hS => ⟨rfl, hS.below⟩
  try rw [hsz] at h1
  refine g_cond_f rfl (g_skip (t_ (s_ (o_ ?_))))
  refine xg 2 [] rfl rfl ?_
  refine g_callNew (fun x : {x : MT × Int // parX false l x} => .tuple #[.agg (nC x.1.1).toArray, .int .i64 x.1.2]) (fun x => [.forest [x.1.1]]) rfl rfl rfl Try.call9 (fun w hS => parse_xb l w (hS.maxHere hz (by simp))) ?_
  rintro ⟨⟨t, er⟩, hpar⟩
  simp only [List.cons_append, List.nil_append]
  rcases parX_good hpar with hq | ⟨h0, hl0, hl200, g9, hgood, hg9⟩
  ·cases hq
   refine xg 1 [] rfl rfl ?_
   refine g_val (v := .agg (nC zMT).toArray) rfl rfl rfl (y_extract rfl rfl) ?_
   refine g_val (v := .int .i64 91) rfl rfl rfl (y_extract rfl rfl) ?_
   refine g_alloc rfl rfl Try.zeroValue30 rfl (fun b1 => ?_)
   refine g_stN 0 rfl rfl rfl (by kernel_rfl) rfl rfl rfl (nC_len _) ?_
   simp only [List.set_cons_zero]
   refine xg 1 [] rfl rfl ?_
   refine n_ (t_ (s_ (s_ (o_ ?_))))
   refine xg 2 [1] rfl (by omega) ?_
   refine n_ (t_ (g_cond_t rfl (s_ (o_ ?_))))
   refine g_call1 rfl rfl rfl Try.call8 (fun w hS => alive_any w (hS.maxHere hz (by simp))) ?_
   refine xg 12 [1,0,1,0] rfl (by omega) ?_
   refine g_val (v := .int .i64 0) rfl rfl rfl (y_llen rfl Try.underlying28) ?_
   refine xg 3 [1] rfl (by omega) ?_
   refine n_ (t_ (g_ret (g_then_ret ?_)))
   refine g_end1 Try.results5 rfl ?_
   exact fun w hS => ⟨rfl, hS.below⟩
  dsimp only at h0 hgood
  subst h0
  obtain ⟨nk, ns, nm, nx, nu, nv, nq⟩ := t
  refine g_kids 0 rfl (fun pv cv hv => ?_)
  cases hv
  refine xg 1 [] rfl rfl ?_
  refine g_val (v := .agg (nC (.mk nk ns nm nx nu (.slice pv nq.length cv) nq)).toArray) rfl rfl rfl (y_extract rfl rfl) ?_
  refine g_val (v := .int .i64 0) rfl rfl rfl (y_extract rfl rfl) ?_
  refine g_alloc rfl rfl Try.zeroValue30 rfl (fun b2 => ?_)
  refine g_stN 0 rfl rfl rfl (by kernel_rfl) rfl rfl rfl (nC_len _) ?_
  simp only [List.set_cons_zero]
  refine xg 1 [] rfl rfl ?_
  refine n_ (t_ (s_ (s_ (o_ ?_))))
  refine xg 2 [2] rfl (by omega) ?_
  refine n_ (t_ (g_cond_f rfl (g_skip (t_ (s_ (o_ ?_))))))
  refine xg 1 [0] rfl (by omega) ?_
  refine g_call1 rfl rfl rfl Try.call14 (fun w hS => right_any (szT (.mk nk ns nm nx nu (.slice pv nq.length cv) nq)) (.mk nk ns nm nx nu (.slice pv nq.length cv) nq) 0 g9 w (Nat.le_refl _) (by decide) hgood (okL_cons.1 (hS.get (i := 1) rfl)).1) ?_
  refine xg 1 [] rfl rfl ?_
  refine g_val (v := .int .i64 g9) rfl rfl rfl (y_extract rfl rfl) ?_
  refine g_val (v := .bool true) rfl rfl rfl (y_extract rfl rfl) ?_
  refine xg 2 [] rfl rfl ?_
  refine ntso_ ?_
  refine g_call1 rfl rfl rfl Try.call8 (fun w hS => alive_any w (hS.maxHere hz (by simp))) ?_
  refine xg 18 [1,1,1] rfl (by omega) ?_
  refine n_ (t_ (g_ret ?_))
  refine g_end1 Try.results5 rfl ?_
  exact fun w hS => ⟨rfl, hS.below⟩
 refine o_ ?_
 refine xg 1 [] rfl rfl ?_
 refine n_ (t_ (s_ (s_ (o_ ?_))))
 refine xg 3 [0] rfl rfl ?_
 refine n_ (t_ ?_)
 refine g_casep 11 rfl (fun h2 => ?_) fun h2 => ?_
 ·try rw [hsz] at h2
  refine g_cond_t rfl (s_ (o_ ?_))
  refine g_call1 rfl rfl rfl Try.call8 (fun w hS => alive_any w (hS.maxHere hz (by simp))) ?_
  refine xg 1 [] rfl rfl ?_
  refine n_ (t_ (g_ret (g_then_ret ?_)))
  refine g_end1 Try.results5 rfl ?_
  exact fun w hS => ⟨rfl, hS.below⟩
 try rw [hsz] at h2
 refine g_cond_f rfl (g_skip (t_ (s_ (o_ ?_))))
 refine xg 2 [] rfl rfl ?_
 refine g_callNew (fun x : {x : MT × Int // parX true l x} => .tuple #[.agg (nC x.1.1).toArray, .int .i64 x.1.2]) (fun x => [.forest [x.1.1]]) rfl rfl rfl Try.call9 (fun w hS => parse_xe l w (hS.maxHere hz (by simp))) ?_
 rintro ⟨⟨t, er⟩, hpar⟩
 simp only [List.cons_append, List.nil_append]
 rcases parX_good hpar with hq | ⟨h0, hl0, hl200, g9, hgood, hg9⟩
 ·cases hq
  refine xg 1 [] rfl rfl ?_
  refine g_val (v := .agg (nC zMT).toArray) rfl rfl rfl (y_extract rfl rfl) ?_
  refine g_val (v := .int .i64 91) rfl rfl rfl (y_extract rfl rfl) ?_
  refine g_alloc rfl rfl Try.zeroValue30 rfl (fun b3 => ?_)
  refine g_stN 0 rfl rfl rfl (by kernel_rfl) rfl rfl rfl (nC_len _) ?_
  simp only [List.set_cons_zero]
  refine xg 1 [] rfl rfl ?_
  refine n_ (t_ (s_ (s_ (o_ ?_))))
  refine xg 2 [1] rfl (by omega) ?_
  refine n_ (t_ (g_cond_t rfl (s_ (o_ ?_))))
  refine g_call1 rfl rfl rfl Try.call8 (fun w hS => alive_any w (hS.maxHere hz (by simp))) ?_
  refine xg 12 [1,0,1,0] rfl (by omega) ?_
  refine g_val (v := .int .i64 0) rfl rfl rfl (y_llen rfl Try.underlying28) ?_
  refine xg 3 [1] rfl (by omega) ?_
  refine n_ (t_ (g_ret (g_then_ret ?_)))
  refine g_end1 Try.results5 rfl ?_
  exact fun w hS => ⟨rfl, hS.below⟩
 dsimp only at h0 hgood
 subst h0
 obtain ⟨nk, ns, nm, nx, nu, nv, nq⟩ := t
 refine g_kids 0 rfl (fun pv cv hv => ?_)
 cases hv
 refine xg 1 [] rfl rfl ?_
 refine g_val (v := .agg (nC (.mk nk ns nm nx nu (.slice pv nq.length cv) nq)).toArray) rfl rfl rfl (y_extract rfl rfl) ?_
 refine g_val (v := .int .i64 0) rfl rfl rfl (y_extract rfl rfl) ?_
 refine g_alloc rfl rfl Try.zeroValue30 rfl (fun b4 => ?_)
 refine g_stN 0 rfl rfl rfl (by kernel_rfl) rfl rfl rfl (nC_len _) ?_
 simp only [List.set_cons_zero]
 refine xg 1 [] rfl rfl ?_
 refine n_ (t_ (s_ (s_ (o_ ?_))))
 refine xg 2 [2] rfl (by omega) ?_
 refine n_ (t_ (g_cond_f rfl (g_skip (t_ (s_ (o_ ?_))))))
 refine xg 1 [0] rfl (by omega) ?_
 refine g_call1 rfl rfl rfl Try.call14 (fun w hS => right_any (szT (.mk nk ns nm nx nu (.slice pv nq.length cv) nq)) (.mk nk ns nm nx nu (.slice pv nq.length cv) nq) 0 g9 w (Nat.le_refl _) (by decide) hgood (okL_cons.1 (hS.get (i := 1) rfl)).1) ?_
 refine xg 1 [] rfl rfl ?_
 refine g_val (v := .int .i64 g9) rfl rfl rfl (y_extract rfl rfl) ?_
 refine g_val (v := .bool true) rfl rfl rfl (y_extract rfl rfl) ?_
 refine xg 2 [] rfl rfl ?_
 refine ntso_ ?_
 refine g_call1 rfl rfl rfl Try.call8 (fun w hS => alive_any w (hS.maxHere hz (by simp))) ?_
 refine xg 18 [1,1,1] rfl (by omega) ?_
 refine n_ (t_ (g_ret ?_))
 refine g_end1 Try.results5 rfl ?_
 exact fun w hS => ⟨rfl, hS.below⟩

theorem pright_law (t : ByteArray) (x : Bool) (ht : t.size ≤ maxLen) (w : World) (hsh : w.ShapedOpen Try.prog) : Calls Try.prog 5 #[.string t, .bool x] w fun e w' => e = .returned (.bool true) ∧ Below w.heap.size w w' := by
  have h := pright_any t.data.toList x (by rw [Array.length_toList]; exact ht) w (maxHere_of hsh)
  unfold st8 at h
  rw [Array.toArray_toList] at h
  exact h
end Go.Proofs.Ytpoelkfncpjmfaa
