/- Are two trees one? headgateref09.Same. -/
import Derived.Test.YtpoelkfncpjmfaaPbp
namespace Go.Proofs.Ytpoelkfncpjmfaa
open Go Go.RowKit

mutual
def sameT : MT → MT → Bool
  | .mk k s mi ma nu _ q, .mk k' s' mi' ma' nu' _ q' => decide (k = k') && (eq4 s s' && (decide (mi = mi') && (decide (ma = ma') && (decide (nu = nu') && (decide (q.length = q'.length) && sameL q q')))))
def sameL : List MT → List MT → Bool
  | t :: q, t' :: q' => sameT t t' && sameL q q'
  | _, _ => true
end
theorem sameT_mk {k : Int} {s : Nat → Int} {mi ma nu : Int} {v : Value} {q : List MT} {k' : Int} {s' : Nat → Int} {mi' ma' nu' : Int} {v' : Value} {q' : List MT} : sameT (.mk k s mi ma nu v q) (.mk k' s' mi' ma' nu' v' q') =
    (decide (k = k') && (eq4 s s' && (decide (mi = mi') && (decide (ma = ma') && (decide (nu = nu') && (decide (q.length = q'.length) && sameL q q')))))) := by rw [sameT]
theorem sameL_cons {t t' : MT} {q q' : List MT} : sameL (t :: q) (t' :: q') = (sameT t t' && sameL q q') := by rw [sameL]
theorem sameL_nil : sameL [] [] = true := by rw [sameL]; simp
theorem sameL_at {q q' : List MT} (h : q.length = q'.length) : sameL q q' = true ↔ ∀ i, i < q.length → sameT (q.getD i zMT) (q'.getD i zMT) = true := by
  induction q generalizing q' with
  | nil => cases q' with
    | nil => simp [sameL_nil]
    | cons t q' => simp at h
  | cons t q ih => cases q' with
    | nil => simp at h
    | cons t' q' =>
      rw [sameL_cons, Bool.and_eq_true, ih (by simpa using h)]
      refine ⟨fun ⟨h1, h2⟩ i hi => ?_, fun h3 => ⟨by simpa using h3 0 (by simp), fun i hi => by simpa using h3 (i + 1) (by simp; omega)⟩⟩
      cases i with
      | zero => simpa using h1
      | succ i => simpa using h2 i (by simpa using hi)
theorem sameL_no {q q' : List MT} (h : q.length = q'.length) {i : Nat} (hi : i < q.length) (hs : sameT (q.getD i zMT) (q'.getD i zMT) = false) : sameL q q' = false :=
  Bool.eq_false_iff.2 fun h2 => by rw [(sameL_at h).1 h2 i hi] at hs; cases hs

set_option maxRecDepth 100000 in
theorem same_any : ∀ (N0 : Nat) (t u : MT) (w : World), szT t ≤ N0 → t.ok w → u.ok w → Calls Try.prog 13 #[.agg (nC t).toArray, .agg (nC u).toArray] w fun e w' => e = .returned (.bool (sameT t u)) ∧ Below w.heap.size w w' := by
 intro N0
 induction N0 with
 | zero => intro t u w h _ _; cases t; rw [szT_mk] at h; omega
 | succ N0 ih =>
   intro t u w h hok hok2
   obtain ⟨nk, ns, nm, nx, nu, nv, kids⟩ := t
   obtain ⟨nk2, ns2, nm2, nx2, nu2, nv2, kids2⟩ := u
   rw [szT_mk] at h
   obtain ⟨hrow, hkids⟩ := ok_mk.1 hok
   obtain ⟨hrow2, hkids2⟩ := ok_mk.1 hok2
   have hmax : maxLen = 9223372036854775807 := rfl
   have hle := row_le hrow
   have hle2 := row_le hrow2
   obtain ⟨p, c, rfl⟩ := row_sl hrow
   obtain ⟨p2, c2, rfl⟩ := row_sl hrow2
   have hrd : RdSl w p kids.length 9 (kF kids) := rd_of_row nC nC_len rfl hrow
   have hrd2 : RdSl w p2 kids2.length 9 (kF kids2) := rd_of_row nC nC_len rfl hrow2
   refine fn_intro Try.func13 rfl Try.ntmps13 rfl rfl ?_
   refine s_ (o_ ?_)
   refine g_box rfl rfl rfl rfl (fun b1 => ?_)
   refine g_box rfl rfl rfl rfl (fun b2 => ?_)
   refine xg 1 [] rfl rfl ?_
   refine n_ (t_ (s_ (s_ (o_ ?_))))
   refine xg 6 [1,0,0] rfl (by omega) ?_
   refine g_casep 12 rfl (fun h1 => ?_) fun h1 => ?_
   ·refine xg 36 [] rfl rfl ?_
    refine n_ (t_ (g_cond_t rfl (s_ (o_ ?_))))
    refine xg 1 [] rfl rfl ?_
    refine n_ (t_ (g_ret (g_then_ret ?_)))
    refine g_end1 Try.results13 rfl ?_
    exact fun w hS => ⟨ret_bool (by rw [sameT_mk]; first | (have h7 : ¬ kids.length = kids2.length := (by omega); simp [h7]; done) | simp_all), hS.below⟩
   refine xg 4 [1,0] rfl (by omega) ?_
   refine g_val rfl rfl rfl (y_setNe ns ns2 rfl rfl) ?_
   refine xg 2 [] rfl rfl ?_
   refine g_caseb 19 rfl (fun h2 => ?_) fun h2 => ?_
   ·refine xg 29 [] rfl rfl ?_
    refine n_ (t_ (g_cond_t rfl (s_ (o_ ?_))))
    refine xg 1 [] rfl rfl ?_
    refine n_ (t_ (g_ret (g_then_ret ?_)))
    refine g_end1 Try.results13 rfl ?_
    exact fun w hS => ⟨ret_bool (by rw [sameT_mk]; first | (have h7 : ¬ kids.length = kids2.length := (by omega); simp [h7]; done) | simp_all), hS.below⟩
   refine xg 7 [1,0,0] rfl (by omega) ?_
   refine g_casep 26 rfl (fun h3 => ?_) fun h3 => ?_
   ·refine xg 22 [] rfl rfl ?_
    refine n_ (t_ (g_cond_t rfl (s_ (o_ ?_))))
    refine xg 1 [] rfl rfl ?_
    refine n_ (t_ (g_ret (g_then_ret ?_)))
    refine g_end1 Try.results13 rfl ?_
    exact fun w hS => ⟨ret_bool (by rw [sameT_mk]; first | (have h7 : ¬ kids.length = kids2.length := (by omega); simp [h7]; done) | simp_all), hS.below⟩
   refine xg 7 [1,0,0] rfl (by omega) ?_
   refine g_casep 33 rfl (fun h4 => ?_) fun h4 => ?_
   ·refine xg 15 [] rfl rfl ?_
    refine n_ (t_ (g_cond_t rfl (s_ (o_ ?_))))
    refine xg 1 [] rfl rfl ?_
    refine n_ (t_ (g_ret (g_then_ret ?_)))
    refine g_end1 Try.results13 rfl ?_
    exact fun w hS => ⟨ret_bool (by rw [sameT_mk]; first | (have h7 : ¬ kids.length = kids2.length := (by omega); simp [h7]; done) | simp_all), hS.below⟩
   refine xg 7 [1,0,0] rfl (by omega) ?_
   refine g_casep 40 rfl (fun h5 => ?_) fun h5 => ?_
   ·refine xg 8 [] rfl rfl ?_
    refine n_ (t_ (g_cond_t rfl (s_ (o_ ?_))))
    refine xg 1 [] rfl rfl ?_
    refine n_ (t_ (g_ret (g_then_ret ?_)))
    refine g_end1 Try.results13 rfl ?_
    exact fun w hS => ⟨ret_bool (by rw [sameT_mk]; first | (have h7 : ¬ kids.length = kids2.length := (by omega); simp [h7]; done) | simp_all), hS.below⟩
   refine xg 8 [1,0,0] rfl (by omega) ?_
   refine n_ (t_ ?_)
   refine g_casep 48 rfl (fun h6 => ?_) fun h6 => ?_
   ·refine g_cond_t rfl (s_ (o_ ?_))
    refine xg 1 [] rfl rfl ?_
    refine n_ (t_ (g_ret (g_then_ret ?_)))
    refine g_end1 Try.results13 rfl ?_
    exact fun w hS => ⟨ret_bool (by rw [sameT_mk]; first | (have h7 : ¬ kids.length = kids2.length := (by omega); simp [h7]; done) | simp_all), hS.below⟩
   refine g_cond_f rfl (g_skip (t_ (s_ (s_ (o_ ?_)))))
   refine xg 1 [] rfl rfl ?_
   refine n_ (t_ (g_block ?_))
   refine g_loop (α := {x : Int // 0 ≤ x ∧ x ≤ kids.length ∧ ∀ j, j < x.toNat → sameT (kids.getD j zMT) (kids2.getD j zMT) = true}) (fun x => [(2, .pointer (some ⟨b1, 0, none⟩)), (3, .pointer (some ⟨b2, 0, none⟩)), (5, .int .i64 x.1)]) (fun x => St w [] [.cells b2 30 (nC (.mk nk2 ns2 nm2 nx2 nu2 (.slice p2 kids2.length c2) kids2)), .cells b1 30 (nC (.mk nk ns nm nx nu (.slice p kids.length c) kids))]) (fun x => kids.length - x.1.toNat) ⟨0, by omega, by omega, fun j hj => by simp at hj⟩ [2, 3, 5] rfl (fun w h => h.pick [0,0] rfl) ?_
   rintro ⟨i, hi0, hi1, hsa⟩
   dsimp only
   have heq : kids.length = kids2.length := by omega
   refine s_ (s_ (o_ ?_))
   refine xg 5 [1,0] rfl (by omega) ?_
   refine n_ (t_ ?_)
   refine g_casep 53 rfl (fun h7 => ?_) fun h7 => ?_
   ·refine g_cond_t rfl (g_skip (t_ (s_ (g_block (s_ ?_)))))
    refine g_quiet (by kernel_rfl) (by kernel_rfl) ?_
    refine xq 3 [1] rfl (by omega) ?_
    refine q_val rfl rfl rfl (y_rdAddr hrd rfl rfl Try.underlying28 Try.sizeOf30 (by omega) (by omega)) ?_
    refine q_val rfl rfl rfl (y_rdAgg (i := i) (vs := nC (kids.getD i.toNat zMT)) hrd rfl Try.isAgg30 Try.sizeOf30 (by omega) (by omega) (nC_len _) (fun q hq => kF_get kids i.toNat q hq)) ?_
    refine xq 3 [0] rfl (by omega) ?_
    refine q_val rfl rfl rfl (y_rdAddr hrd2 rfl rfl Try.underlying28 Try.sizeOf30 (by omega) (by omega)) ?_
    refine q_val rfl rfl rfl (y_rdAgg (i := i) (vs := nC (kids2.getD i.toNat zMT)) hrd2 rfl Try.isAgg30 Try.sizeOf30 (by omega) (by omega) (nC_len _) (fun q hq => kF_get kids2 i.toNat q hq)) ?_
    refine q_call1 rfl rfl rfl Try.call13 (fun w' hS => ih (kids.getD i.toNat zMT) (kids2.getD i.toNat zMT) w' (by have := szT_le kids i.toNat (by omega); omega) (MT.stable _ (fun q hq => hS.keep q (MT.inb _ (okL_get hkids i.toNat (by omega)) q hq) (by simp)) (okL_get hkids i.toNat (by omega))) (MT.stable _ (fun q hq => hS.keep q (MT.inb _ (okL_get hkids2 i.toNat (by omega)) q hq) (by simp)) (okL_get hkids2 i.toNat (by omega)))) ?_
    refine xq 1 [] rfl rfl ?_
    refine q_nil (t_ (s_ (o_ ?_)))
    refine xg 2 [] rfl rfl ?_
    refine n_ (t_ ?_)
    first | refine g_casep 68 rfl (fun h8 => ?_) fun h8 => ?_ | refine g_caseb 68 rfl (fun h8 => ?_) fun h8 => ?_
    ·refine g_cond_t rfl (s_ (o_ ?_))
     refine xg 1 [] rfl rfl ?_
     refine n_ (t_ (g_ret (g_in_ret (g_then_ret (g_then_ret (g_in_ret (g_then_ret ?_)))))))
     refine g_end1 Try.results13 rfl ?_
     have hno : sameL kids kids2 = false := sameL_no heq (i := i.toNat) (by omega) (by simpa using ‹(!sameT (kids.getD i.toNat zMT) (kids2.getD i.toNat zMT)) = true›)
     exact fun w hS => ⟨ret_bool (by rw [sameT_mk]; simp [hno]), hS.below⟩
    refine g_cond_f rfl (g_skip (g_in_normal (t_ (o_ ?_))))
    refine xg 3 [] rfl (by omega) ?_
    refine n_ ?_
    exact g_again ⟨i + 1, by omega, by omega, fun j hj => by by_cases hji : j = i.toNat; (subst hji; simpa using ‹(!sameT (kids.getD i.toNat zMT) (kids2.getD i.toNat zMT)) = false›); exact hsa j (by omega)⟩ [2, 3, 5] (by dsimp only; omega) rfl (fun w h => h.pick [0,0] rfl)
   refine g_cond_f rfl (g_exit (g_then_exit (g_then_exit (g_in_exit (t_ (s_ (o_ ?_)))))))
   refine xg 1 [] rfl rfl ?_
   refine n_ (t_ (g_ret ?_))
   refine g_end1 Try.results13 rfl ?_
   have hall : sameL kids kids2 = true := (sameL_at heq).2 fun j hj => hsa j (by omega)
   exact fun w hS => ⟨ret_bool (by rw [sameT_mk]; simp_all), hS.below⟩

end Go.Proofs.Ytpoelkfncpjmfaa
