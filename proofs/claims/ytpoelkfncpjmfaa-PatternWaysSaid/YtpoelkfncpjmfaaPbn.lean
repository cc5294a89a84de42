/- Trees that are right: headgatelaw09.right. -/
import Derived.Test.YtpoelkfncpjmfaaPbm
import Derived.Test.YtpoelkfncpjmfaaPbf
namespace Go.Proofs.Ytpoelkfncpjmfaa
open Go Go.RowKit

mutual
/-- A tree is right behind g groups; then there are g'. -/
def GoodT : MT → Int → Int → Prop
  | .mk k _ mi ma nu _ kids, g, g' =>
    ((k = 1 ∨ k = 6 ∨ k = 7) ∧ kids.length = 0 ∧ g' = g) ∨
    ((k = 2 ∨ k = 3) ∧ 1 < kids.length ∧ GoodL kids g g') ∨
    (k = 5 ∧ kids.length = 1 ∧ nu = g + 1 ∧ g + 1 ≤ 9 ∧ GoodL kids (g + 1) g') ∨
    (k = 4 ∧ kids.length = 1 ∧ 0 ≤ mi ∧ mi ≤ 20 ∧ ma ≤ 20 ∧ (ma = -1 ∨ mi ≤ ma) ∧ OneK kids ∧ GoodL kids g g')
def GoodL : List MT → Int → Int → Prop
  | [], g, g' => g' = g
  | t :: ts, g, g' => ∃ g1, GoodT t g g1 ∧ GoodL ts g1 g'
def OneK : List MT → Prop
  | [.mk k _ _ _ _ _ _] => k = 1 ∨ k = 5
  | _ => True
end
theorem GoodT_mk {k : Int} {s : Nat → Int} {mi ma nu : Int} {v : Value} {kids : List MT} {g g' : Int} : GoodT (.mk k s mi ma nu v kids) g g' ↔
    ((k = 1 ∨ k = 6 ∨ k = 7) ∧ kids.length = 0 ∧ g' = g) ∨ ((k = 2 ∨ k = 3) ∧ 1 < kids.length ∧ GoodL kids g g') ∨ (k = 5 ∧ kids.length = 1 ∧ nu = g + 1 ∧ g + 1 ≤ 9 ∧ GoodL kids (g + 1) g') ∨
    (k = 4 ∧ kids.length = 1 ∧ 0 ≤ mi ∧ mi ≤ 20 ∧ ma ≤ 20 ∧ (ma = -1 ∨ mi ≤ ma) ∧ OneK kids ∧ GoodL kids g g') := by rw [GoodT]
theorem GoodL_nil {g g' : Int} : GoodL [] g g' ↔ g' = g := by rw [GoodL]
theorem GoodL_cons {t : MT} {ts : List MT} {g g' : Int} : GoodL (t :: ts) g g' ↔ ∃ g1, GoodT t g g1 ∧ GoodL ts g1 g' := by rw [GoodL]
theorem OneK_one {k : Int} {s : Nat → Int} {mi ma nu : Int} {v : Value} {kids : List MT} : OneK [.mk k s mi ma nu v kids] ↔ (k = 1 ∨ k = 5) := by rw [OneK]
theorem GoodL_append {a b : List MT} {g g1 g2 : Int} (h : GoodL a g g1) (h2 : GoodL b g1 g2) : GoodL (a ++ b) g g2 := by
  induction a generalizing g with
  | nil => rw [GoodL_nil] at h; subst h; exact h2
  | cons t a ih => obtain ⟨x, h3, h4⟩ := GoodL_cons.1 h; exact GoodL_cons.2 ⟨x, h3, ih h4⟩
mutual
theorem GoodT_le : ∀ (t : MT) (g g' : Int), GoodT t g g' → g ≤ g'
  | .mk k s mi ma nu v kids, g, g', h => by
    rcases GoodT_mk.1 h with ⟨_, _, h⟩ | ⟨_, _, h⟩ | ⟨_, _, _, _, h⟩ | ⟨_, _, _, _, _, _, _, h⟩
    · omega
    · exact GoodL_le kids g g' h
    · have := GoodL_le kids (g + 1) g' h; omega
    · exact GoodL_le kids g g' h
theorem GoodL_le : ∀ (ts : List MT) (g g' : Int), GoodL ts g g' → g ≤ g'
  | [], g, g', h => by rw [GoodL_nil.1 h]; exact Int.le_refl _
  | t :: ts, g, g', h => by
    obtain ⟨g1, h1, h2⟩ := GoodL_cons.1 h
    have := GoodT_le t g g1 h1
    have := GoodL_le ts g1 g' h2
    omega
end
theorem row_sl {w : World} {e : TypeId} {sz : Nat} {v : Value} {n : Nat} {xs : List Value} (h : w.ownsRow 0 e sz v n xs) : ∃ p c, v = .slice p n c := by
  obtain ⟨_, ⟨h1, h2⟩ | ⟨g, cap, cur, h1, _⟩⟩ := h
  · exact ⟨none, 0, by rw [h1, h2]⟩
  · exact ⟨_, cap, h1⟩
theorem row_le {w : World} {e : TypeId} {sz : Nat} {v : Value} {n : Nat} {xs : List Value} (h : w.ownsRow 0 e sz v n xs) : n ≤ maxLen := by
  obtain ⟨_, ⟨_, h2⟩ | ⟨g, cap, cur, _, _, _, h3, h4, _⟩⟩ := h <;> omega
theorem drop_kid {kids : List MT} {i : Nat} (h : i < kids.length) : kids.drop i = kids.getD i zMT :: kids.drop (i + 1) := by
  rw [List.drop_eq_getElem_cons h, List.getD_eq_getElem?_getD, List.getElem?_eq_getElem h]; rfl

set_option maxRecDepth 100000 in
theorem right_any : ∀ (N0 : Nat) (t : MT) (g g' : Int) (w : World), szT t ≤ N0 → 0 ≤ g → GoodT t g g' → t.ok w → Calls Try.prog 14 #[.agg (nC t).toArray, .int .i64 g] w fun e w' => e = .returned (.tuple #[.int .i64 g', .bool true]) ∧ Below w.heap.size w w' := by
  intro N0
  induction N0 with
  | zero => intro t g g' w h _ _ _; cases t; rw [szT_mk] at h; omega
  | succ N0 ih =>
    intro t g g' w h hg0 hgood hok
    obtain ⟨nk, ns, nm, nx, nu, nv, kids⟩ := t
    rw [szT_mk] at h
    obtain ⟨hrow, hkids⟩ := ok_mk.1 hok
    obtain ⟨p, c, rfl⟩ : ∃ p c, nv = .slice p kids.length c := by
      obtain ⟨_, ⟨h1, h2⟩ | ⟨g, cap, cur, h1, _⟩⟩ := hrow
      · exact ⟨none, 0, by rw [h1, h2]⟩
      · exact ⟨_, cap, h1⟩
    have hrd : RdSl w p kids.length 9 (kF kids) := rd_of_row nC nC_len rfl hrow
    have hlen := row_le hrow
    have hmax : maxLen = 9223372036854775807 := rfl
    have hbig := szL_ge kids
    refine fn_intro Try.func14 rfl Try.ntmps14 rfl rfl ?_
    refine s_ (o_ ?_)
    refine g_box rfl rfl rfl rfl (fun b1 => ?_)
    refine xg 2 [] rfl rfl ?_
    refine ntso_ ?_
    refine xg 1 [] rfl rfl ?_
    refine n_ (t_ (s_ (s_ ?_)))
    rcases GoodT_mk.1 hgood with ⟨hk | hk | hk, hk0, hgg⟩ | ⟨hk | hk, hk1, hgl⟩ | ⟨hk, hk1, hnu, hg9, hgl⟩ | ⟨hk, hk1, hm0, hm20, hx20, hmx, hok1, hgl⟩ <;> subst hk
    ·refine o_ ?_
     refine xg 1 [] rfl rfl ?_
     refine g_val (v := .int .i64 1) rfl rfl rfl (y_ld 0 rfl Try.isAgg24 rfl rfl) ?_
     refine n_ (t_ (g_block (s_ (s_ (o_ ?_)))))
     refine xg 2 [1] rfl (by omega) ?_
     refine n_ (t_ (g_cond_t rfl (g_skip (t_ (g_cond_t rfl (o_ ?_))))))
     refine xg 5 [0,1] rfl (by omega) ?_
     refine n_ (g_in_normal (t_ (s_ (s_ (o_ ?_)))))
     refine xg 1 [] rfl rfl ?_
     refine n_ (t_ (g_block ?_))
     refine g_loop (α := {x : Int × Int // 0 ≤ x.1 ∧ x.1 ≤ kids.length ∧ GoodL (kids.drop x.1.toNat) x.2 g' ∧ 0 ≤ x.2}) (fun x => [(1, .int .i64 x.1.2), (2, .pointer (some ⟨b1, 0, none⟩)), (6, .bool true), (7, .int .i64 x.1.1)]) (fun x => St w [] [.cells b1 30 (nC (.mk 1 ns nm nx nu (.slice p kids.length c) kids))]) (fun x => kids.length - x.1.1.toNat) ⟨(0, g), by dsimp only; omega, by dsimp only; omega, (by dsimp only; rw [List.length_eq_zero_iff.1 hk0]; exact GoodL_nil.2 hgg), by dsimp only; omega⟩ [1, 2, 6, 7] rfl (fun w h => h.pick [0] rfl) ?_
     rintro ⟨⟨i, g1⟩, hx⟩
     dsimp only
     dsimp only at hx
     obtain ⟨hi0, hi1, hgd, hg10⟩ := hx
     refine s_ (s_ (o_ ?_))
     refine xg 6 [0,0] rfl (by omega) ?_
     refine g_casep 93 rfl (fun h1 => ?_) fun h1 => ?_
     ·refine xg 2 [] rfl rfl ?_
      refine n_ (t_ (g_cond_t rfl (g_skip (t_ (s_ (g_block (o_ ?_)))))))
      refine xg 3 [0] rfl (by omega) ?_
      refine g_val rfl rfl rfl (y_rdAddr hrd rfl rfl Try.underlying28 Try.sizeOf30 (by omega) (by omega)) ?_
      refine g_val rfl rfl rfl (y_rdAgg (i := i) (vs := nC (kids.getD i.toNat zMT)) hrd rfl Try.isAgg30 Try.sizeOf30 (by omega) (by omega) (nC_len _) (fun q hq => kF_get kids i.toNat q hq)) ?_
      refine xg 1 [] rfl rfl ?_
      obtain ⟨g2, hg2, hgl2⟩ := GoodL_cons.1 (drop_kid (kids := kids) (i := i.toNat) (by omega) ▸ hgd)
      have hle2 := GoodT_le _ _ _ hg2
      refine g_call1 rfl rfl rfl Try.call14 (fun w' hS => ih (kids.getD i.toNat zMT) g1 g2 w' (by have := szT_le kids i.toNat (by omega); omega) hg10 hg2 (MT.stable _ (fun q hq => hS.keep q (MT.inb _ (okL_get hkids i.toNat (by omega)) q hq) (by simp)) (okL_get hkids i.toNat (by omega)))) ?_
      refine xg 1 [] rfl rfl ?_
      refine g_val (v := .int .i64 g2) rfl rfl rfl (y_extract rfl rfl) ?_
      refine g_val (v := .bool true) rfl rfl rfl (y_extract rfl rfl) ?_
      refine xg 2 [] rfl rfl ?_
      refine n_ (g_in_normal (t_ (o_ ?_)))
      refine xg 3 [] rfl (by omega) ?_
      refine n_ ?_
      exact g_again ⟨(i + 1, g2), by dsimp only; omega, by dsimp only; omega, by dsimp only; rw [show (i + 1).toNat = i.toNat + 1 by omega]; exact hgl2, by dsimp only; omega⟩ [1, 2, 6, 7] (by dsimp only; omega) rfl (fun w h => h.pick [0] rfl)
     refine xg 2 [] rfl rfl ?_
     refine n_ (t_ (g_cond_f rfl (g_exit (g_then_exit (g_then_exit (g_in_exit (t_ (s_ (o_ ?_)))))))))
     refine xg 4 [] rfl rfl ?_
     refine n_ (t_ (g_ret ?_))
     refine g_end2 Try.results14 rfl rfl ?_
     have hin : i.toNat = kids.length := by omega
     rw [hin, List.drop_length] at hgd
     rw [GoodL_nil.1 hgd]
     exact fun w hS => ⟨rfl, hS.below⟩
    ·refine o_ ?_
     refine xg 1 [] rfl rfl ?_
     refine g_val (v := .int .i64 6) rfl rfl rfl (y_ld 0 rfl Try.isAgg24 rfl rfl) ?_
     refine n_ (t_ (g_block (s_ (s_ (o_ ?_)))))
     refine xg 2 [2] rfl (by omega) ?_
     refine n_ (t_ (g_cond_f rfl (s_ (o_ ?_))))
     refine xg 2 [1] rfl (by omega) ?_
     refine n_ (t_ (g_cond_t rfl (g_skip (t_ (g_cond_t rfl (o_ ?_))))))
     refine xg 5 [0,1] rfl (by omega) ?_
     refine n_ (g_in_normal (t_ (s_ (s_ (o_ ?_)))))
     refine xg 1 [] rfl rfl ?_
     refine n_ (t_ (g_block ?_))
     refine g_loop (α := {x : Int × Int // 0 ≤ x.1 ∧ x.1 ≤ kids.length ∧ GoodL (kids.drop x.1.toNat) x.2 g' ∧ 0 ≤ x.2}) (fun x => [(1, .int .i64 x.1.2), (2, .pointer (some ⟨b1, 0, none⟩)), (6, .bool true), (7, .int .i64 x.1.1)]) (fun x => St w [] [.cells b1 30 (nC (.mk 6 ns nm nx nu (.slice p kids.length c) kids))]) (fun x => kids.length - x.1.1.toNat) ⟨(0, g), by dsimp only; omega, by dsimp only; omega, (by dsimp only; rw [List.length_eq_zero_iff.1 hk0]; exact GoodL_nil.2 hgg), by dsimp only; omega⟩ [1, 2, 6, 7] rfl (fun w h => h.pick [0] rfl) ?_
     rintro ⟨⟨i, g1⟩, hx⟩
     dsimp only
     dsimp only at hx
     obtain ⟨hi0, hi1, hgd, hg10⟩ := hx
     refine s_ (s_ (o_ ?_))
     refine xg 6 [0,0] rfl (by omega) ?_
     refine g_casep 93 rfl (fun h2 => ?_) fun h2 => ?_
     ·refine xg 2 [] rfl rfl ?_
      refine n_ (t_ (g_cond_t rfl (g_skip (t_ (s_ (g_block (o_ ?_)))))))
      refine xg 3 [0] rfl (by omega) ?_
      refine g_val rfl rfl rfl (y_rdAddr hrd rfl rfl Try.underlying28 Try.sizeOf30 (by omega) (by omega)) ?_
      refine g_val rfl rfl rfl (y_rdAgg (i := i) (vs := nC (kids.getD i.toNat zMT)) hrd rfl Try.isAgg30 Try.sizeOf30 (by omega) (by omega) (nC_len _) (fun q hq => kF_get kids i.toNat q hq)) ?_
      refine xg 1 [] rfl rfl ?_
      obtain ⟨g2, hg2, hgl2⟩ := GoodL_cons.1 (drop_kid (kids := kids) (i := i.toNat) (by omega) ▸ hgd)
      have hle2 := GoodT_le _ _ _ hg2
      refine g_call1 rfl rfl rfl Try.call14 (fun w' hS => ih (kids.getD i.toNat zMT) g1 g2 w' (by have := szT_le kids i.toNat (by omega); omega) hg10 hg2 (MT.stable _ (fun q hq => hS.keep q (MT.inb _ (okL_get hkids i.toNat (by omega)) q hq) (by simp)) (okL_get hkids i.toNat (by omega)))) ?_
      refine xg 1 [] rfl rfl ?_
      refine g_val (v := .int .i64 g2) rfl rfl rfl (y_extract rfl rfl) ?_
      refine g_val (v := .bool true) rfl rfl rfl (y_extract rfl rfl) ?_
      refine xg 2 [] rfl rfl ?_
      refine n_ (g_in_normal (t_ (o_ ?_)))
      refine xg 3 [] rfl (by omega) ?_
      refine n_ ?_
      exact g_again ⟨(i + 1, g2), by dsimp only; omega, by dsimp only; omega, by dsimp only; rw [show (i + 1).toNat = i.toNat + 1 by omega]; exact hgl2, by dsimp only; omega⟩ [1, 2, 6, 7] (by dsimp only; omega) rfl (fun w h => h.pick [0] rfl)
     refine xg 2 [] rfl rfl ?_
     refine n_ (t_ (g_cond_f rfl (g_exit (g_then_exit (g_then_exit (g_in_exit (t_ (s_ (o_ ?_)))))))))
     refine xg 4 [] rfl rfl ?_
     refine n_ (t_ (g_ret ?_))
     refine g_end2 Try.results14 rfl rfl ?_
     have hin : i.toNat = kids.length := by omega
     rw [hin, List.drop_length] at hgd
     rw [GoodL_nil.1 hgd]
     exact fun w hS => ⟨rfl, hS.below⟩
    ·refine o_ ?_
     refine xg 1 [] rfl rfl ?_
     refine g_val (v := .int .i64 7) rfl rfl rfl (y_ld 0 rfl Try.isAgg24 rfl rfl) ?_
     refine n_ (t_ (g_block (s_ (s_ (o_ ?_)))))
     refine xg 2 [2] rfl (by omega) ?_
     refine n_ (t_ (g_cond_f rfl (s_ (o_ ?_))))
     refine xg 2 [2] rfl (by omega) ?_
     refine n_ (t_ (g_cond_f rfl (o_ ?_)))
     refine xg 2 [1] rfl (by omega) ?_
     refine n_ (t_ (g_cond_t rfl (o_ ?_)))
     refine xg 5 [0,1] rfl (by omega) ?_
     refine n_ (g_in_normal (t_ (s_ (s_ (o_ ?_)))))
     refine xg 1 [] rfl rfl ?_
     refine n_ (t_ (g_block ?_))
     refine g_loop (α := {x : Int × Int // 0 ≤ x.1 ∧ x.1 ≤ kids.length ∧ GoodL (kids.drop x.1.toNat) x.2 g' ∧ 0 ≤ x.2}) (fun x => [(1, .int .i64 x.1.2), (2, .pointer (some ⟨b1, 0, none⟩)), (6, .bool true), (7, .int .i64 x.1.1)]) (fun x => St w [] [.cells b1 30 (nC (.mk 7 ns nm nx nu (.slice p kids.length c) kids))]) (fun x => kids.length - x.1.1.toNat) ⟨(0, g), by dsimp only; omega, by dsimp only; omega, (by dsimp only; rw [List.length_eq_zero_iff.1 hk0]; exact GoodL_nil.2 hgg), by dsimp only; omega⟩ [1, 2, 6, 7] rfl (fun w h => h.pick [0] rfl) ?_
     rintro ⟨⟨i, g1⟩, hx⟩
     dsimp only
     dsimp only at hx
     obtain ⟨hi0, hi1, hgd, hg10⟩ := hx
     refine s_ (s_ (o_ ?_))
     refine xg 6 [0,0] rfl (by omega) ?_
     refine g_casep 93 rfl (fun h3 => ?_) fun h3 => ?_
     ·refine xg 2 [] rfl rfl ?_
      refine n_ (t_ (g_cond_t rfl (g_skip (t_ (s_ (g_block (o_ ?_)))))))
      refine xg 3 [0] rfl (by omega) ?_
      refine g_val rfl rfl rfl (y_rdAddr hrd rfl rfl Try.underlying28 Try.sizeOf30 (by omega) (by omega)) ?_
      refine g_val rfl rfl rfl (y_rdAgg (i := i) (vs := nC (kids.getD i.toNat zMT)) hrd rfl Try.isAgg30 Try.sizeOf30 (by omega) (by omega) (nC_len _) (fun q hq => kF_get kids i.toNat q hq)) ?_
      refine xg 1 [] rfl rfl ?_
      obtain ⟨g2, hg2, hgl2⟩ := GoodL_cons.1 (drop_kid (kids := kids) (i := i.toNat) (by omega) ▸ hgd)
      have hle2 := GoodT_le _ _ _ hg2
      refine g_call1 rfl rfl rfl Try.call14 (fun w' hS => ih (kids.getD i.toNat zMT) g1 g2 w' (by have := szT_le kids i.toNat (by omega); omega) hg10 hg2 (MT.stable _ (fun q hq => hS.keep q (MT.inb _ (okL_get hkids i.toNat (by omega)) q hq) (by simp)) (okL_get hkids i.toNat (by omega)))) ?_
      refine xg 1 [] rfl rfl ?_
      refine g_val (v := .int .i64 g2) rfl rfl rfl (y_extract rfl rfl) ?_
      refine g_val (v := .bool true) rfl rfl rfl (y_extract rfl rfl) ?_
      refine xg 2 [] rfl rfl ?_
      refine n_ (g_in_normal (t_ (o_ ?_)))
      refine xg 3 [] rfl (by omega) ?_
      refine n_ ?_
      exact g_again ⟨(i + 1, g2), by dsimp only; omega, by dsimp only; omega, by dsimp only; rw [show (i + 1).toNat = i.toNat + 1 by omega]; exact hgl2, by dsimp only; omega⟩ [1, 2, 6, 7] (by dsimp only; omega) rfl (fun w h => h.pick [0] rfl)
     refine xg 2 [] rfl rfl ?_
     refine n_ (t_ (g_cond_f rfl (g_exit (g_then_exit (g_then_exit (g_in_exit (t_ (s_ (o_ ?_)))))))))
     refine xg 4 [] rfl rfl ?_
     refine n_ (t_ (g_ret ?_))
     refine g_end2 Try.results14 rfl rfl ?_
     have hin : i.toNat = kids.length := by omega
     rw [hin, List.drop_length] at hgd
     rw [GoodL_nil.1 hgd]
     exact fun w hS => ⟨rfl, hS.below⟩
    ·refine o_ ?_
     refine xg 1 [] rfl rfl ?_
     refine g_val (v := .int .i64 2) rfl rfl rfl (y_ld 0 rfl Try.isAgg24 rfl rfl) ?_
     refine n_ (t_ (g_block (s_ (s_ (o_ ?_)))))
     refine xg 2 [2] rfl (by omega) ?_
     refine n_ (t_ (g_cond_f rfl (s_ (o_ ?_))))
     refine xg 2 [2] rfl (by omega) ?_
     refine n_ (t_ (g_cond_f rfl (o_ ?_)))
     refine xg 2 [2] rfl (by omega) ?_
     refine n_ (t_ (g_cond_f rfl (s_ (s_ (o_ ?_)))))
     refine xg 2 [1] rfl (by omega) ?_
     refine n_ (t_ (g_cond_t rfl (g_skip (t_ (g_cond_t rfl (o_ ?_))))))
     refine xg 5 [0,1] rfl (by omega) ?_
     refine n_ (g_in_normal (t_ (s_ (s_ (o_ ?_)))))
     refine xg 1 [] rfl rfl ?_
     refine n_ (t_ (g_block ?_))
     refine g_loop (α := {x : Int × Int // 0 ≤ x.1 ∧ x.1 ≤ kids.length ∧ GoodL (kids.drop x.1.toNat) x.2 g' ∧ 0 ≤ x.2}) (fun x => [(1, .int .i64 x.1.2), (2, .pointer (some ⟨b1, 0, none⟩)), (6, .bool true), (7, .int .i64 x.1.1)]) (fun x => St w [] [.cells b1 30 (nC (.mk 2 ns nm nx nu (.slice p kids.length c) kids))]) (fun x => kids.length - x.1.1.toNat) ⟨(0, g), by dsimp only; omega, by dsimp only; omega, (by dsimp only; exact hgl), by dsimp only; omega⟩ [1, 2, 6, 7] rfl (fun w h => h.pick [0] rfl) ?_
     rintro ⟨⟨i, g1⟩, hx⟩
     dsimp only
     dsimp only at hx
     obtain ⟨hi0, hi1, hgd, hg10⟩ := hx
     refine s_ (s_ (o_ ?_))
     refine xg 6 [0,0] rfl (by omega) ?_
     refine g_casep 93 rfl (fun h4 => ?_) fun h4 => ?_
     ·refine xg 2 [] rfl rfl ?_
      refine n_ (t_ (g_cond_t rfl (g_skip (t_ (s_ (g_block (o_ ?_)))))))
      refine xg 3 [0] rfl (by omega) ?_
      refine g_val rfl rfl rfl (y_rdAddr hrd rfl rfl Try.underlying28 Try.sizeOf30 (by omega) (by omega)) ?_
      refine g_val rfl rfl rfl (y_rdAgg (i := i) (vs := nC (kids.getD i.toNat zMT)) hrd rfl Try.isAgg30 Try.sizeOf30 (by omega) (by omega) (nC_len _) (fun q hq => kF_get kids i.toNat q hq)) ?_
      refine xg 1 [] rfl rfl ?_
      obtain ⟨g2, hg2, hgl2⟩ := GoodL_cons.1 (drop_kid (kids := kids) (i := i.toNat) (by omega) ▸ hgd)
      have hle2 := GoodT_le _ _ _ hg2
      refine g_call1 rfl rfl rfl Try.call14 (fun w' hS => ih (kids.getD i.toNat zMT) g1 g2 w' (by have := szT_le kids i.toNat (by omega); omega) hg10 hg2 (MT.stable _ (fun q hq => hS.keep q (MT.inb _ (okL_get hkids i.toNat (by omega)) q hq) (by simp)) (okL_get hkids i.toNat (by omega)))) ?_
      refine xg 1 [] rfl rfl ?_
      refine g_val (v := .int .i64 g2) rfl rfl rfl (y_extract rfl rfl) ?_
      refine g_val (v := .bool true) rfl rfl rfl (y_extract rfl rfl) ?_
      refine xg 2 [] rfl rfl ?_
      refine n_ (g_in_normal (t_ (o_ ?_)))
      refine xg 3 [] rfl (by omega) ?_
      refine n_ ?_
      exact g_again ⟨(i + 1, g2), by dsimp only; omega, by dsimp only; omega, by dsimp only; rw [show (i + 1).toNat = i.toNat + 1 by omega]; exact hgl2, by dsimp only; omega⟩ [1, 2, 6, 7] (by dsimp only; omega) rfl (fun w h => h.pick [0] rfl)
     refine xg 2 [] rfl rfl ?_
     refine n_ (t_ (g_cond_f rfl (g_exit (g_then_exit (g_then_exit (g_in_exit (t_ (s_ (o_ ?_)))))))))
     refine xg 4 [] rfl rfl ?_
     refine n_ (t_ (g_ret ?_))
     refine g_end2 Try.results14 rfl rfl ?_
     have hin : i.toNat = kids.length := by omega
     rw [hin, List.drop_length] at hgd
     rw [GoodL_nil.1 hgd]
     exact fun w hS => ⟨rfl, hS.below⟩
    ·refine o_ ?_
     refine xg 1 [] rfl rfl ?_
     refine g_val (v := .int .i64 3) rfl rfl rfl (y_ld 0 rfl Try.isAgg24 rfl rfl) ?_
     refine n_ (t_ (g_block (s_ (s_ (o_ ?_)))))
     refine xg 2 [2] rfl (by omega) ?_
     refine n_ (t_ (g_cond_f rfl (s_ (o_ ?_))))
     refine xg 2 [2] rfl (by omega) ?_
     refine n_ (t_ (g_cond_f rfl (o_ ?_)))
     refine xg 2 [2] rfl (by omega) ?_
     refine n_ (t_ (g_cond_f rfl (s_ (s_ (o_ ?_)))))
     refine xg 2 [2] rfl (by omega) ?_
     refine n_ (t_ (g_cond_f rfl (o_ ?_)))
     refine xg 2 [1] rfl (by omega) ?_
     refine n_ (t_ (g_cond_t rfl (o_ ?_)))
     refine xg 5 [0,1] rfl (by omega) ?_
     refine n_ (g_in_normal (t_ (s_ (s_ (o_ ?_)))))
     refine xg 1 [] rfl rfl ?_
     refine n_ (t_ (g_block ?_))
     refine g_loop (α := {x : Int × Int // 0 ≤ x.1 ∧ x.1 ≤ kids.length ∧ GoodL (kids.drop x.1.toNat) x.2 g' ∧ 0 ≤ x.2}) (fun x => [(1, .int .i64 x.1.2), (2, .pointer (some ⟨b1, 0, none⟩)), (6, .bool true), (7, .int .i64 x.1.1)]) (fun x => St w [] [.cells b1 30 (nC (.mk 3 ns nm nx nu (.slice p kids.length c) kids))]) (fun x => kids.length - x.1.1.toNat) ⟨(0, g), by dsimp only; omega, by dsimp only; omega, (by dsimp only; exact hgl), by dsimp only; omega⟩ [1, 2, 6, 7] rfl (fun w h => h.pick [0] rfl) ?_
     rintro ⟨⟨i, g1⟩, hx⟩
     dsimp only
     dsimp only at hx
     obtain ⟨hi0, hi1, hgd, hg10⟩ := hx
     refine s_ (s_ (o_ ?_))
     refine xg 6 [0,0] rfl (by omega) ?_
     refine g_casep 93 rfl (fun h5 => ?_) fun h5 => ?_
     ·refine xg 2 [] rfl rfl ?_
      refine n_ (t_ (g_cond_t rfl (g_skip (t_ (s_ (g_block (o_ ?_)))))))
      refine xg 3 [0] rfl (by omega) ?_
      refine g_val rfl rfl rfl (y_rdAddr hrd rfl rfl Try.underlying28 Try.sizeOf30 (by omega) (by omega)) ?_
      refine g_val rfl rfl rfl (y_rdAgg (i := i) (vs := nC (kids.getD i.toNat zMT)) hrd rfl Try.isAgg30 Try.sizeOf30 (by omega) (by omega) (nC_len _) (fun q hq => kF_get kids i.toNat q hq)) ?_
      refine xg 1 [] rfl rfl ?_
      obtain ⟨g2, hg2, hgl2⟩ := GoodL_cons.1 (drop_kid (kids := kids) (i := i.toNat) (by omega) ▸ hgd)
      have hle2 := GoodT_le _ _ _ hg2
      refine g_call1 rfl rfl rfl Try.call14 (fun w' hS => ih (kids.getD i.toNat zMT) g1 g2 w' (by have := szT_le kids i.toNat (by omega); omega) hg10 hg2 (MT.stable _ (fun q hq => hS.keep q (MT.inb _ (okL_get hkids i.toNat (by omega)) q hq) (by simp)) (okL_get hkids i.toNat (by omega)))) ?_
      refine xg 1 [] rfl rfl ?_
      refine g_val (v := .int .i64 g2) rfl rfl rfl (y_extract rfl rfl) ?_
      refine g_val (v := .bool true) rfl rfl rfl (y_extract rfl rfl) ?_
      refine xg 2 [] rfl rfl ?_
      refine n_ (g_in_normal (t_ (o_ ?_)))
      refine xg 3 [] rfl (by omega) ?_
      refine n_ ?_
      exact g_again ⟨(i + 1, g2), by dsimp only; omega, by dsimp only; omega, by dsimp only; rw [show (i + 1).toNat = i.toNat + 1 by omega]; exact hgl2, by dsimp only; omega⟩ [1, 2, 6, 7] (by dsimp only; omega) rfl (fun w h => h.pick [0] rfl)
     refine xg 2 [] rfl rfl ?_
     refine n_ (t_ (g_cond_f rfl (g_exit (g_then_exit (g_then_exit (g_in_exit (t_ (s_ (o_ ?_)))))))))
     refine xg 4 [] rfl rfl ?_
     refine n_ (t_ (g_ret ?_))
     refine g_end2 Try.results14 rfl rfl ?_
     have hin : i.toNat = kids.length := by omega
     rw [hin, List.drop_length] at hgd
     rw [GoodL_nil.1 hgd]
     exact fun w hS => ⟨rfl, hS.below⟩
    ·refine o_ ?_
     refine xg 1 [] rfl rfl ?_
     refine g_val (v := .int .i64 5) rfl rfl rfl (y_ld 0 rfl Try.isAgg24 rfl rfl) ?_
     refine n_ (t_ (g_block (s_ (s_ (o_ ?_)))))
     refine xg 2 [2] rfl (by omega) ?_
     refine n_ (t_ (g_cond_f rfl (s_ (o_ ?_))))
     refine xg 2 [2] rfl (by omega) ?_
     refine n_ (t_ (g_cond_f rfl (o_ ?_)))
     refine xg 2 [2] rfl (by omega) ?_
     refine n_ (t_ (g_cond_f rfl (s_ (s_ (o_ ?_)))))
     refine xg 2 [2] rfl (by omega) ?_
     refine n_ (t_ (g_cond_f rfl (o_ ?_)))
     refine xg 2 [2] rfl (by omega) ?_
     refine n_ (t_ (g_cond_f rfl (s_ (o_ ?_))))
     refine xg 2 [1] rfl (by omega) ?_
     refine n_ (t_ (g_cond_t rfl (s_ (o_ ?_))))
     refine xg 3 [] rfl (by omega) ?_
     refine nto_ ?_
     refine xg 11 [0,1,0,1] rfl (by omega) ?_
     refine n_ (g_in_normal (t_ (s_ (s_ (o_ ?_)))))
     refine xg 1 [] rfl rfl ?_
     refine n_ (t_ (g_block ?_))
     refine g_loop (α := {x : Int × Int // 0 ≤ x.1 ∧ x.1 ≤ kids.length ∧ GoodL (kids.drop x.1.toNat) x.2 g' ∧ 0 ≤ x.2}) (fun x => [(1, .int .i64 x.1.2), (2, .pointer (some ⟨b1, 0, none⟩)), (6, .bool true), (7, .int .i64 x.1.1)]) (fun x => St w [] [.cells b1 30 (nC (.mk 5 ns nm nx nu (.slice p kids.length c) kids))]) (fun x => kids.length - x.1.1.toNat) ⟨(0, (g + 1)), by dsimp only; omega, by dsimp only; omega, (by dsimp only; exact hgl), by dsimp only; omega⟩ [1, 2, 6, 7] rfl (fun w h => h.pick [0] rfl) ?_
     rintro ⟨⟨i, g1⟩, hx⟩
     dsimp only
     dsimp only at hx
     obtain ⟨hi0, hi1, hgd, hg10⟩ := hx
     refine s_ (s_ (o_ ?_))
     refine xg 6 [0,0] rfl (by omega) ?_
     refine g_casep 93 rfl (fun h6 => ?_) fun h6 => ?_
     ·refine xg 2 [] rfl rfl ?_
      refine n_ (t_ (g_cond_t rfl (g_skip (t_ (s_ (g_block (o_ ?_)))))))
      refine xg 3 [0] rfl (by omega) ?_
      refine g_val rfl rfl rfl (y_rdAddr hrd rfl rfl Try.underlying28 Try.sizeOf30 (by omega) (by omega)) ?_
      refine g_val rfl rfl rfl (y_rdAgg (i := i) (vs := nC (kids.getD i.toNat zMT)) hrd rfl Try.isAgg30 Try.sizeOf30 (by omega) (by omega) (nC_len _) (fun q hq => kF_get kids i.toNat q hq)) ?_
      refine xg 1 [] rfl rfl ?_
      obtain ⟨g2, hg2, hgl2⟩ := GoodL_cons.1 (drop_kid (kids := kids) (i := i.toNat) (by omega) ▸ hgd)
      have hle2 := GoodT_le _ _ _ hg2
      refine g_call1 rfl rfl rfl Try.call14 (fun w' hS => ih (kids.getD i.toNat zMT) g1 g2 w' (by have := szT_le kids i.toNat (by omega); omega) hg10 hg2 (MT.stable _ (fun q hq => hS.keep q (MT.inb _ (okL_get hkids i.toNat (by omega)) q hq) (by simp)) (okL_get hkids i.toNat (by omega)))) ?_
      refine xg 1 [] rfl rfl ?_
      refine g_val (v := .int .i64 g2) rfl rfl rfl (y_extract rfl rfl) ?_
      refine g_val (v := .bool true) rfl rfl rfl (y_extract rfl rfl) ?_
      refine xg 2 [] rfl rfl ?_
      refine n_ (g_in_normal (t_ (o_ ?_)))
      refine xg 3 [] rfl (by omega) ?_
      refine n_ ?_
      exact g_again ⟨(i + 1, g2), by dsimp only; omega, by dsimp only; omega, by dsimp only; rw [show (i + 1).toNat = i.toNat + 1 by omega]; exact hgl2, by dsimp only; omega⟩ [1, 2, 6, 7] (by dsimp only; omega) rfl (fun w h => h.pick [0] rfl)
     refine xg 2 [] rfl rfl ?_
     refine n_ (t_ (g_cond_f rfl (g_exit (g_then_exit (g_then_exit (g_in_exit (t_ (s_ (o_ ?_)))))))))
     refine xg 4 [] rfl rfl ?_
     refine n_ (t_ (g_ret ?_))
     refine g_end2 Try.results14 rfl rfl ?_
     have hin : i.toNat = kids.length := by omega
     rw [hin, List.drop_length] at hgd
     rw [GoodL_nil.1 hgd]
     exact fun w hS => ⟨rfl, hS.below⟩
    obtain ⟨⟨k0, s0_, mi0, ma0, nu0, v0, q0⟩, rfl⟩ := List.length_eq_one_iff.1 hk1
    have hk15 := OneK_one.1 hok1
    refine o_ ?_
    refine xg 1 [] rfl rfl ?_
    refine g_val (v := .int .i64 4) rfl rfl rfl (y_ld 0 rfl Try.isAgg24 rfl rfl) ?_
    refine n_ (t_ (g_block (s_ (s_ (o_ ?_)))))
    refine xg 2 [2] rfl (by omega) ?_
    refine n_ (t_ (g_cond_f rfl (s_ (o_ ?_))))
    refine xg 2 [2] rfl (by omega) ?_
    refine n_ (t_ (g_cond_f rfl (o_ ?_)))
    refine xg 2 [2] rfl (by omega) ?_
    refine n_ (t_ (g_cond_f rfl (s_ (s_ (o_ ?_)))))
    refine xg 2 [2] rfl (by omega) ?_
    refine n_ (t_ (g_cond_f rfl (o_ ?_)))
    refine xg 2 [2] rfl (by omega) ?_
    refine n_ (t_ (g_cond_f rfl (s_ (o_ ?_))))
    refine xg 2 [2] rfl (by omega) ?_
    refine n_ (t_ (g_cond_f rfl (s_ (o_ ?_))))
    refine xg 2 [1] rfl (by omega) ?_
    refine n_ (t_ (g_cond_t rfl (o_ ?_)))
    refine xg 24 [0,1,0,1,0,1,0,1,0,0] rfl (by omega) ?_
    refine g_casep 64 rfl (fun h7 => ?_) fun h7 => ?_
    ·refine xg 10 [0] rfl (by omega) ?_
     refine g_val rfl rfl rfl (y_rdAddr hrd rfl rfl Try.underlying28 Try.sizeOf30 (by omega) (by omega)) ?_
     refine g_val rfl rfl rfl (y_fieldAt (k := 0) rfl (by kernel_rfl) rfl) ?_
     refine g_val (v := .int .i64 k0) rfl rfl rfl (y_val (y_rdField (i := 0) (j := 0) hrd rfl rfl Try.isAgg24 (by omega) (by omega) (by decide)) rfl) ?_
     refine xg 2 [0] rfl rfl ?_
     refine g_casep 79 rfl (fun h8 => ?_) fun h8 => ?_
     ·refine xg 9 [] rfl rfl ?_
      refine n_ (g_in_normal (t_ (s_ (s_ (o_ ?_)))))
      refine xg 1 [] rfl rfl ?_
      refine n_ (t_ (g_block ?_))
      refine g_loop (α := {x : Int × Int // 0 ≤ x.1 ∧ x.1 ≤ [MT.mk k0 s0_ mi0 ma0 nu0 v0 q0].length ∧ GoodL ([MT.mk k0 s0_ mi0 ma0 nu0 v0 q0].drop x.1.toNat) x.2 g' ∧ 0 ≤ x.2}) (fun x => [(1, .int .i64 x.1.2), (2, .pointer (some ⟨b1, 0, none⟩)), (6, .bool true), (7, .int .i64 x.1.1)]) (fun x => St w [] [.cells b1 30 (nC (.mk 4 ns nm nx nu (.slice p [MT.mk k0 s0_ mi0 ma0 nu0 v0 q0].length c) [MT.mk k0 s0_ mi0 ma0 nu0 v0 q0]))]) (fun x => [MT.mk k0 s0_ mi0 ma0 nu0 v0 q0].length - x.1.1.toNat) ⟨(0, g), by dsimp only; omega, by dsimp only; omega, (by dsimp only; exact hgl), by dsimp only; omega⟩ [1, 2, 6, 7] rfl (fun w h => h.pick [0] rfl) ?_
      rintro ⟨⟨i, g1⟩, hx⟩
      dsimp only
      dsimp only at hx
      obtain ⟨hi0, hi1, hgd, hg10⟩ := hx
      refine s_ (s_ (o_ ?_))
      refine xg 6 [0,0] rfl (by omega) ?_
      refine g_casep 93 rfl (fun h9 => ?_) fun h9 => ?_
      ·refine xg 2 [] rfl rfl ?_
       refine n_ (t_ (g_cond_t rfl (g_skip (t_ (s_ (g_block (o_ ?_)))))))
       refine xg 3 [0] rfl (by omega) ?_
       refine g_val rfl rfl rfl (y_rdAddr hrd rfl rfl Try.underlying28 Try.sizeOf30 (by omega) (by omega)) ?_
       refine g_val rfl rfl rfl (y_rdAgg (i := i) (vs := nC ([MT.mk k0 s0_ mi0 ma0 nu0 v0 q0].getD i.toNat zMT)) hrd rfl Try.isAgg30 Try.sizeOf30 (by omega) (by omega) (nC_len _) (fun q hq => kF_get [MT.mk k0 s0_ mi0 ma0 nu0 v0 q0] i.toNat q hq)) ?_
       refine xg 1 [] rfl rfl ?_
       obtain ⟨g2, hg2, hgl2⟩ := GoodL_cons.1 (drop_kid (kids := [MT.mk k0 s0_ mi0 ma0 nu0 v0 q0]) (i := i.toNat) (by omega) ▸ hgd)
       have hle2 := GoodT_le _ _ _ hg2
       refine g_call1 rfl rfl rfl Try.call14 (fun w' hS => ih ([MT.mk k0 s0_ mi0 ma0 nu0 v0 q0].getD i.toNat zMT) g1 g2 w' (by have := szT_le [MT.mk k0 s0_ mi0 ma0 nu0 v0 q0] i.toNat (by omega); omega) hg10 hg2 (MT.stable _ (fun q hq => hS.keep q (MT.inb _ (okL_get hkids i.toNat (by omega)) q hq) (by simp)) (okL_get hkids i.toNat (by omega)))) ?_
       refine xg 1 [] rfl rfl ?_
       refine g_val (v := .int .i64 g2) rfl rfl rfl (y_extract rfl rfl) ?_
       refine g_val (v := .bool true) rfl rfl rfl (y_extract rfl rfl) ?_
       refine xg 2 [] rfl rfl ?_
       refine n_ (g_in_normal (t_ (o_ ?_)))
       refine xg 3 [] rfl (by omega) ?_
       refine n_ ?_
       exact g_again ⟨(i + 1, g2), by dsimp only; omega, by dsimp only; omega, by dsimp only; rw [show (i + 1).toNat = i.toNat + 1 by omega]; exact hgl2, by dsimp only; omega⟩ [1, 2, 6, 7] (by dsimp only; omega) rfl (fun w h => h.pick [0] rfl)
      refine xg 2 [] rfl rfl ?_
      refine n_ (t_ (g_cond_f rfl (g_exit (g_then_exit (g_then_exit (g_in_exit (t_ (s_ (o_ ?_)))))))))
      refine xg 4 [] rfl rfl ?_
      refine n_ (t_ (g_ret ?_))
      refine g_end2 Try.results14 rfl rfl ?_
      have hin : i.toNat = [MT.mk k0 s0_ mi0 ma0 nu0 v0 q0].length := by omega
      rw [hin, List.drop_length] at hgd
      rw [GoodL_nil.1 hgd]
      exact fun w hS => ⟨rfl, hS.below⟩
     refine xg 2 [0] rfl (by omega) ?_
     refine g_val rfl rfl rfl (y_rdAddr hrd rfl rfl Try.underlying28 Try.sizeOf30 (by omega) (by omega)) ?_
     refine g_val rfl rfl rfl (y_fieldAt (k := 0) rfl (by kernel_rfl) rfl) ?_
     refine g_val (v := .int .i64 k0) rfl rfl rfl (y_val (y_rdField (i := 0) (j := 0) hrd rfl rfl Try.isAgg24 (by omega) (by omega) (by decide)) rfl) ?_
     refine xg 4 [1] rfl (by omega) ?_
     refine n_ (g_in_normal (t_ (s_ (s_ (o_ ?_)))))
     refine xg 1 [] rfl rfl ?_
     refine n_ (t_ (g_block ?_))
     refine g_loop (α := {x : Int × Int // 0 ≤ x.1 ∧ x.1 ≤ [MT.mk k0 s0_ mi0 ma0 nu0 v0 q0].length ∧ GoodL ([MT.mk k0 s0_ mi0 ma0 nu0 v0 q0].drop x.1.toNat) x.2 g' ∧ 0 ≤ x.2}) (fun x => [(1, .int .i64 x.1.2), (2, .pointer (some ⟨b1, 0, none⟩)), (6, .bool true), (7, .int .i64 x.1.1)]) (fun x => St w [] [.cells b1 30 (nC (.mk 4 ns nm nx nu (.slice p [MT.mk k0 s0_ mi0 ma0 nu0 v0 q0].length c) [MT.mk k0 s0_ mi0 ma0 nu0 v0 q0]))]) (fun x => [MT.mk k0 s0_ mi0 ma0 nu0 v0 q0].length - x.1.1.toNat) ⟨(0, g), by dsimp only; omega, by dsimp only; omega, (by dsimp only; exact hgl), by dsimp only; omega⟩ [1, 2, 6, 7] rfl (fun w h => h.pick [0] rfl) ?_
     rintro ⟨⟨i, g1⟩, hx⟩
     dsimp only
     dsimp only at hx
     obtain ⟨hi0, hi1, hgd, hg10⟩ := hx
     refine s_ (s_ (o_ ?_))
     refine xg 6 [0,0] rfl (by omega) ?_
     refine g_casep 93 rfl (fun h10 => ?_) fun h10 => ?_
     ·refine xg 2 [] rfl rfl ?_
      refine n_ (t_ (g_cond_t rfl (g_skip (t_ (s_ (g_block (o_ ?_)))))))
      refine xg 3 [0] rfl (by omega) ?_
      refine g_val rfl rfl rfl (y_rdAddr hrd rfl rfl Try.underlying28 Try.sizeOf30 (by omega) (by omega)) ?_
      refine g_val rfl rfl rfl (y_rdAgg (i := i) (vs := nC ([MT.mk k0 s0_ mi0 ma0 nu0 v0 q0].getD i.toNat zMT)) hrd rfl Try.isAgg30 Try.sizeOf30 (by omega) (by omega) (nC_len _) (fun q hq => kF_get [MT.mk k0 s0_ mi0 ma0 nu0 v0 q0] i.toNat q hq)) ?_
      refine xg 1 [] rfl rfl ?_
      obtain ⟨g2, hg2, hgl2⟩ := GoodL_cons.1 (drop_kid (kids := [MT.mk k0 s0_ mi0 ma0 nu0 v0 q0]) (i := i.toNat) (by omega) ▸ hgd)
      have hle2 := GoodT_le _ _ _ hg2
      refine g_call1 rfl rfl rfl Try.call14 (fun w' hS => ih ([MT.mk k0 s0_ mi0 ma0 nu0 v0 q0].getD i.toNat zMT) g1 g2 w' (by have := szT_le [MT.mk k0 s0_ mi0 ma0 nu0 v0 q0] i.toNat (by omega); omega) hg10 hg2 (MT.stable _ (fun q hq => hS.keep q (MT.inb _ (okL_get hkids i.toNat (by omega)) q hq) (by simp)) (okL_get hkids i.toNat (by omega)))) ?_
      refine xg 1 [] rfl rfl ?_
      refine g_val (v := .int .i64 g2) rfl rfl rfl (y_extract rfl rfl) ?_
      refine g_val (v := .bool true) rfl rfl rfl (y_extract rfl rfl) ?_
      refine xg 2 [] rfl rfl ?_
      refine n_ (g_in_normal (t_ (o_ ?_)))
      refine xg 3 [] rfl (by omega) ?_
      refine n_ ?_
      exact g_again ⟨(i + 1, g2), by dsimp only; omega, by dsimp only; omega, by dsimp only; rw [show (i + 1).toNat = i.toNat + 1 by omega]; exact hgl2, by dsimp only; omega⟩ [1, 2, 6, 7] (by dsimp only; omega) rfl (fun w h => h.pick [0] rfl)
     refine xg 2 [] rfl rfl ?_
     refine n_ (t_ (g_cond_f rfl (g_exit (g_then_exit (g_then_exit (g_in_exit (t_ (s_ (o_ ?_)))))))))
     refine xg 4 [] rfl rfl ?_
     refine n_ (t_ (g_ret ?_))
     refine g_end2 Try.results14 rfl rfl ?_
     have hin : i.toNat = [MT.mk k0 s0_ mi0 ma0 nu0 v0 q0].length := by omega
     rw [hin, List.drop_length] at hgd
     rw [GoodL_nil.1 hgd]
     exact fun w hS => ⟨rfl, hS.below⟩
    refine xg 10 [0,0,1,0] rfl (by omega) ?_
    refine g_val rfl rfl rfl (y_rdAddr hrd rfl rfl Try.underlying28 Try.sizeOf30 (by omega) (by omega)) ?_
    refine g_val rfl rfl rfl (y_fieldAt (k := 0) rfl (by kernel_rfl) rfl) ?_
    refine g_val (v := .int .i64 k0) rfl rfl rfl (y_val (y_rdField (i := 0) (j := 0) hrd rfl rfl Try.isAgg24 (by omega) (by omega) (by decide)) rfl) ?_
    refine xg 2 [0] rfl rfl ?_
    refine g_casep 79 rfl (fun h11 => ?_) fun h11 => ?_
    ·refine xg 9 [] rfl rfl ?_
     refine n_ (g_in_normal (t_ (s_ (s_ (o_ ?_)))))
     refine xg 1 [] rfl rfl ?_
     refine n_ (t_ (g_block ?_))
     refine g_loop (α := {x : Int × Int // 0 ≤ x.1 ∧ x.1 ≤ [MT.mk k0 s0_ mi0 ma0 nu0 v0 q0].length ∧ GoodL ([MT.mk k0 s0_ mi0 ma0 nu0 v0 q0].drop x.1.toNat) x.2 g' ∧ 0 ≤ x.2}) (fun x => [(1, .int .i64 x.1.2), (2, .pointer (some ⟨b1, 0, none⟩)), (6, .bool true), (7, .int .i64 x.1.1)]) (fun x => St w [] [.cells b1 30 (nC (.mk 4 ns nm nx nu (.slice p [MT.mk k0 s0_ mi0 ma0 nu0 v0 q0].length c) [MT.mk k0 s0_ mi0 ma0 nu0 v0 q0]))]) (fun x => [MT.mk k0 s0_ mi0 ma0 nu0 v0 q0].length - x.1.1.toNat) ⟨(0, g), by dsimp only; omega, by dsimp only; omega, (by dsimp only; exact hgl), by dsimp only; omega⟩ [1, 2, 6, 7] rfl (fun w h => h.pick [0] rfl) ?_
     rintro ⟨⟨i, g1⟩, hx⟩
     dsimp only
     dsimp only at hx
     obtain ⟨hi0, hi1, hgd, hg10⟩ := hx
     refine s_ (s_ (o_ ?_))
     refine xg 6 [0,0] rfl (by omega) ?_
     refine g_casep 93 rfl (fun h12 => ?_) fun h12 => ?_
     ·refine xg 2 [] rfl rfl ?_
      refine n_ (t_ (g_cond_t rfl (g_skip (t_ (s_ (g_block (o_ ?_)))))))
      refine xg 3 [0] rfl (by omega) ?_
      refine g_val rfl rfl rfl (y_rdAddr hrd rfl rfl Try.underlying28 Try.sizeOf30 (by omega) (by omega)) ?_
      refine g_val rfl rfl rfl (y_rdAgg (i := i) (vs := nC ([MT.mk k0 s0_ mi0 ma0 nu0 v0 q0].getD i.toNat zMT)) hrd rfl Try.isAgg30 Try.sizeOf30 (by omega) (by omega) (nC_len _) (fun q hq => kF_get [MT.mk k0 s0_ mi0 ma0 nu0 v0 q0] i.toNat q hq)) ?_
      refine xg 1 [] rfl rfl ?_
      obtain ⟨g2, hg2, hgl2⟩ := GoodL_cons.1 (drop_kid (kids := [MT.mk k0 s0_ mi0 ma0 nu0 v0 q0]) (i := i.toNat) (by omega) ▸ hgd)
      have hle2 := GoodT_le _ _ _ hg2
      refine g_call1 rfl rfl rfl Try.call14 (fun w' hS => ih ([MT.mk k0 s0_ mi0 ma0 nu0 v0 q0].getD i.toNat zMT) g1 g2 w' (by have := szT_le [MT.mk k0 s0_ mi0 ma0 nu0 v0 q0] i.toNat (by omega); omega) hg10 hg2 (MT.stable _ (fun q hq => hS.keep q (MT.inb _ (okL_get hkids i.toNat (by omega)) q hq) (by simp)) (okL_get hkids i.toNat (by omega)))) ?_
      refine xg 1 [] rfl rfl ?_
      refine g_val (v := .int .i64 g2) rfl rfl rfl (y_extract rfl rfl) ?_
      refine g_val (v := .bool true) rfl rfl rfl (y_extract rfl rfl) ?_
      refine xg 2 [] rfl rfl ?_
      refine n_ (g_in_normal (t_ (o_ ?_)))
      refine xg 3 [] rfl (by omega) ?_
      refine n_ ?_
      exact g_again ⟨(i + 1, g2), by dsimp only; omega, by dsimp only; omega, by dsimp only; rw [show (i + 1).toNat = i.toNat + 1 by omega]; exact hgl2, by dsimp only; omega⟩ [1, 2, 6, 7] (by dsimp only; omega) rfl (fun w h => h.pick [0] rfl)
     refine xg 2 [] rfl rfl ?_
     refine n_ (t_ (g_cond_f rfl (g_exit (g_then_exit (g_then_exit (g_in_exit (t_ (s_ (o_ ?_)))))))))
     refine xg 4 [] rfl rfl ?_
     refine n_ (t_ (g_ret ?_))
     refine g_end2 Try.results14 rfl rfl ?_
     have hin : i.toNat = [MT.mk k0 s0_ mi0 ma0 nu0 v0 q0].length := by omega
     rw [hin, List.drop_length] at hgd
     rw [GoodL_nil.1 hgd]
     exact fun w hS => ⟨rfl, hS.below⟩
    refine xg 2 [0] rfl (by omega) ?_
    refine g_val rfl rfl rfl (y_rdAddr hrd rfl rfl Try.underlying28 Try.sizeOf30 (by omega) (by omega)) ?_
    refine g_val rfl rfl rfl (y_fieldAt (k := 0) rfl (by kernel_rfl) rfl) ?_
    refine g_val (v := .int .i64 k0) rfl rfl rfl (y_val (y_rdField (i := 0) (j := 0) hrd rfl rfl Try.isAgg24 (by omega) (by omega) (by decide)) rfl) ?_
    refine xg 4 [1] rfl (by omega) ?_
    refine n_ (g_in_normal (t_ (s_ (s_ (o_ ?_)))))
    refine xg 1 [] rfl rfl ?_
    refine n_ (t_ (g_block ?_))
    refine g_loop (α := {x : Int × Int // 0 ≤ x.1 ∧ x.1 ≤ [MT.mk k0 s0_ mi0 ma0 nu0 v0 q0].length ∧ GoodL ([MT.mk k0 s0_ mi0 ma0 nu0 v0 q0].drop x.1.toNat) x.2 g' ∧ 0 ≤ x.2}) (fun x => [(1, .int .i64 x.1.2), (2, .pointer (some ⟨b1, 0, none⟩)), (6, .bool true), (7, .int .i64 x.1.1)]) (fun x => St w [] [.cells b1 30 (nC (.mk 4 ns nm nx nu (.slice p [MT.mk k0 s0_ mi0 ma0 nu0 v0 q0].length c) [MT.mk k0 s0_ mi0 ma0 nu0 v0 q0]))]) (fun x => [MT.mk k0 s0_ mi0 ma0 nu0 v0 q0].length - x.1.1.toNat) ⟨(0, g), by dsimp only; omega, by dsimp only; omega, (by dsimp only; exact hgl), by dsimp only; omega⟩ [1, 2, 6, 7] rfl (fun w h => h.pick [0] rfl) ?_
    rintro ⟨⟨i, g1⟩, hx⟩
    dsimp only
    dsimp only at hx
    obtain ⟨hi0, hi1, hgd, hg10⟩ := hx
    refine s_ (s_ (o_ ?_))
    refine xg 6 [0,0] rfl (by omega) ?_
    refine g_casep 93 rfl (fun h13 => ?_) fun h13 => ?_
    ·refine xg 2 [] rfl rfl ?_
     refine n_ (t_ (g_cond_t rfl (g_skip (t_ (s_ (g_block (o_ ?_)))))))
     refine xg 3 [0] rfl (by omega) ?_
     refine g_val rfl rfl rfl (y_rdAddr hrd rfl rfl Try.underlying28 Try.sizeOf30 (by omega) (by omega)) ?_
     refine g_val rfl rfl rfl (y_rdAgg (i := i) (vs := nC ([MT.mk k0 s0_ mi0 ma0 nu0 v0 q0].getD i.toNat zMT)) hrd rfl Try.isAgg30 Try.sizeOf30 (by omega) (by omega) (nC_len _) (fun q hq => kF_get [MT.mk k0 s0_ mi0 ma0 nu0 v0 q0] i.toNat q hq)) ?_
     refine xg 1 [] rfl rfl ?_
     obtain ⟨g2, hg2, hgl2⟩ := GoodL_cons.1 (drop_kid (kids := [MT.mk k0 s0_ mi0 ma0 nu0 v0 q0]) (i := i.toNat) (by omega) ▸ hgd)
     have hle2 := GoodT_le _ _ _ hg2
     refine g_call1 rfl rfl rfl Try.call14 (fun w' hS => ih ([MT.mk k0 s0_ mi0 ma0 nu0 v0 q0].getD i.toNat zMT) g1 g2 w' (by have := szT_le [MT.mk k0 s0_ mi0 ma0 nu0 v0 q0] i.toNat (by omega); omega) hg10 hg2 (MT.stable _ (fun q hq => hS.keep q (MT.inb _ (okL_get hkids i.toNat (by omega)) q hq) (by simp)) (okL_get hkids i.toNat (by omega)))) ?_
     refine xg 1 [] rfl rfl ?_
     refine g_val (v := .int .i64 g2) rfl rfl rfl (y_extract rfl rfl) ?_
     refine g_val (v := .bool true) rfl rfl rfl (y_extract rfl rfl) ?_
     refine xg 2 [] rfl rfl ?_
     refine n_ (g_in_normal (t_ (o_ ?_)))
     refine xg 3 [] rfl (by omega) ?_
     refine n_ ?_
     exact g_again ⟨(i + 1, g2), by dsimp only; omega, by dsimp only; omega, by dsimp only; rw [show (i + 1).toNat = i.toNat + 1 by omega]; exact hgl2, by dsimp only; omega⟩ [1, 2, 6, 7] (by dsimp only; omega) rfl (fun w h => h.pick [0] rfl)
    refine xg 2 [] rfl rfl ?_
    refine n_ (t_ (g_cond_f rfl (g_exit (g_then_exit (g_then_exit (g_in_exit (t_ (s_ (o_ ?_)))))))))
    refine xg 4 [] rfl rfl ?_
    refine n_ (t_ (g_ret ?_))
    refine g_end2 Try.results14 rfl rfl ?_
    have hin : i.toNat = [MT.mk k0 s0_ mi0 ma0 nu0 v0 q0].length := by omega
    rw [hin, List.drop_length] at hgd
    rw [GoodL_nil.1 hgd]
    exact fun w hS => ⟨rfl, hS.below⟩

end Go.Proofs.Ytpoelkfncpjmfaa
