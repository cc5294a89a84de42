/- headgatelaw09.written: a tree as a text. -/
import Derived.Test.YtpoelkfncpjmfaaPbu
namespace Go.Proofs.Ytpoelkfncpjmfaa
open Go Go.RowKit

theorem bit1 : ∀ a b : Fin 64, ((2 ^ a.val : Int).fdiv (2 ^ min ((b.val : Int)).toNat IntKind.u64.bits)) % 2 = (if a = b then 1 else 0) := by decide +kernel
theorem bit0 : ∀ b : Fin 64, ((0 : Int).fdiv (2 ^ min ((b.val : Int)).toNat IntKind.u64.bits)) % 2 = 0 := by decide +kernel
theorem orB0 : ∀ n : Fin 64, orB 0 n.val = (2 ^ n.val : Int) := by decide +kernel
def hasS (s : Nat → Int) (c : Nat) : Prop := ((s (c / 64)).fdiv (2 ^ min (((c % 64 : Nat) : Int)).toNat IntKind.u64.bits)) % 2 = 1
instance (s : Nat → Int) (c : Nat) : Decidable (hasS s c) := by unfold hasS; infer_instance
theorem has_one {c d : Nat} (hc : c < 256) (hd : d < 256) : hasS (withS s0 c 1) d ↔ d = c := by
  have e : withS s0 c 1 = upd s0 (c / 64) (orB 0 (c % 64)) := rfl
  unfold hasS
  rw [e, orB0 ⟨c % 64, by omega⟩]
  unfold upd s0
  by_cases h : d / 64 = c / 64
  · rw [if_pos h, bit1 ⟨c % 64, by omega⟩ ⟨d % 64, by omega⟩]
    by_cases h2 : c % 64 = d % 64
    · rw [if_pos (Fin.ext h2)]; exact ⟨fun _ => by omega, fun _ => rfl⟩
    · rw [if_neg (fun q => h2 (congrArg Fin.val q))]; exact ⟨fun q => absurd q (by decide), fun q => absurd (by rw [q]) h2⟩
  · rw [if_neg h, bit0 ⟨d % 64, by omega⟩]; exact ⟨fun q => absurd q (by decide), fun q => absurd (by rw [q]) h⟩
theorem has_nm {s u : Nat → Int} (h : nm4 s = nm4 u) {d : Nat} (hd : d < 256) : hasS s d ↔ hasS u d := by
  have := congrFun h (d / 64)
  unfold nm4 at this
  rw [if_pos (by omega), if_pos (by omega)] at this
  unfold hasS
  rw [this]
mutual
/-- What is written of a tree. -/
inductive Wrt (x : Bool) : MT → List UInt8 → Prop
  | one {s : Nat → Int} {mi ma nu : Int} {v : Value} {q : List MT} {c : UInt8} (h : nm4 s = nm4 (withS s0 c.toNat 1)) : Wrt x (.mk 1 s mi ma nu v q) [c]
  | row {s : Nat → Int} {mi ma nu : Int} {v : Value} {q : List MT} {l : List UInt8} (h : WrtL x q l) : Wrt x (.mk 2 s mi ma nu v q) l
  | grp {s : Nat → Int} {mi ma nu : Int} {v : Value} {t : MT} {l : List UInt8} (h : Wrt x t l) : Wrt x (.mk 5 s mi ma nu v [t]) ((((slash x ++ [40]) ++ l) ++ slash x) ++ [41])
  | star {s : Nat → Int} {nu : Int} {v : Value} {t : MT} {l : List UInt8} (h : Wrt x t l) : Wrt x (.mk 4 s 0 (-1) nu v [t]) (l ++ [42])
  | rep {s : Nat → Int} {mi ma nu : Int} {v : Value} {t : MT} {l : List UInt8} (h : Wrt x t l) (h0 : ¬ (mi = 0 ∧ ma = -1)) (hm : 0 ≤ mi ∧ mi ≤ 20 ∧ ma ≤ 20) : Wrt x (.mk 4 s mi ma nu v [t]) (((((l ++ slash x) ++ [123]) ++ digs mi.toNat) ++ (if ma = mi then [] else 44 :: (if 0 ≤ ma then digs ma.toNat else []))) ++ slash x ++ [125])
inductive WrtL (x : Bool) : List MT → List UInt8 → Prop
  | nil : WrtL x [] []
  | cons {t : MT} {q : List MT} {a b : List UInt8} (h : Wrt x t a) (h2 : WrtL x q b) : WrtL x (t :: q) (a ++ b)
end
theorem slash_len (x : Bool) : (slash x).length ≤ 1 := by cases x <;> decide
theorem digs_len {n : Int} (h : 0 ≤ n ∧ n ≤ 20) : (digs n.toNat).length ≤ 2 := (digs_ok ⟨n.toNat, by omega⟩).2.2.2
mutual
theorem Wrt_len {x : Bool} : ∀ {t : MT} {l : List UInt8}, Wrt x t l → l.length ≤ 12 * szT t
  | _, _, .one _ => by rw [szT_mk]; simp; omega
  | _, _, .row h => by rw [szT_mk]; have := WrtL_len h; omega
  | _, _, .grp h => by
    have := Wrt_len h
    have := slash_len x
    rw [szT_mk, szL_cons, szL_nil]; simp only [List.length_append, List.length_cons, List.length_nil]; omega
  | _, _, .star h => by
    have := Wrt_len h
    rw [szT_mk, szL_cons, szL_nil]; simp only [List.length_append, List.length_cons, List.length_nil]; omega
  | _, _, @Wrt.rep _ s mi ma nu v t l h _ hm => by
    have := Wrt_len h
    have := slash_len x
    have := digs_len ⟨hm.1, hm.2.1⟩
    have h3 : (if ma = mi then ([] : List UInt8) else 44 :: (if 0 ≤ ma then digs ma.toNat else [])).length ≤ 3 := by
      split
      · simp
      · split
        · have := digs_len (n := ma) ⟨by assumption, hm.2.2⟩; simp only [List.length_cons]; omega
        · simp
    rw [szT_mk, szL_cons, szL_nil]; simp only [List.length_append, List.length_cons, List.length_nil] at *; omega
theorem WrtL_len {x : Bool} : ∀ {q : List MT} {l : List UInt8}, WrtL x q l → l.length ≤ 12 * szL q
  | _, _, .nil => by simp
  | _, _, .cons h h2 => by
    have := Wrt_len h
    have := WrtL_len h2
    rw [szL_cons, List.length_append]; omega
end

set_option maxRecDepth 100000 in
theorem rhas_any (s : Nat → Int) (c : Nat) (hs : 0 ≤ s (c / 64)) (hc : c ≤ 255) (w : World) :
    Calls Try.prog 20 #[.agg (s4C s).toArray, .int .u8 (c : Int)] w fun e w' => e = .returned (.bool (decide (hasS s c))) ∧ Below w.heap.size w w' := by
 refine fn_intro Try.func20 rfl Try.ntmps20 rfl rfl ?_
 refine s_ (o_ ?_)
 refine g_box rfl rfl rfl rfl (fun b1 => ?_)
 refine xg 1 [] rfl rfl ?_
 refine ntso_ ?_
 refine xg 1 [] rfl rfl ?_
 refine g_val (v := .int .u8 ((c / 64 : Nat) : Int)) rfl rfl rfl (y_eqv (y_iquo rfl rfl (by decide)) (by rw [quo64 c, wrap_u8 (by omega)])) ?_
 refine g_val rfl rfl rfl (y_idxArr (m := c / 64) rfl rfl Try.underlying27 Try.sizeOf25 (by omega) (by omega) (by omega)) ?_
 refine g_val (v := .int .u64 (s (c / 64))) rfl rfl rfl (y_ld (off := c / 64) 0 rfl Try.isAgg25 rfl (s4_get _ _ (by omega))) ?_
 refine xg 1 [] rfl rfl ?_
 refine g_val (v := .int .u8 ((c % 64 : Nat) : Int)) rfl rfl rfl (y_eqv (y_irem rfl rfl (by decide)) (by rw [rem64 c])) ?_
 refine g_val rfl rfl rfl (y_shr rfl rfl (by omega)) ?_
 refine g_val (v := .int .u64 (((s (c / 64)).fdiv (2 ^ min (((c % 64 : Nat) : Int)).toNat IntKind.u64.bits)) % 2)) rfl rfl rfl (y_eqv (y_irem rfl rfl (by decide)) (by rw [Int.tmod_eq_emod_of_nonneg (Int.fdiv_nonneg hs (by exact_mod_cast Nat.zero_le _))])) ?_
 refine xg 2 [0] rfl rfl ?_
 refine n_ (t_ (g_ret ?_))
 refine g_end1 Try.results20 rfl ?_
 exact fun w hS => ⟨rfl, hS.below⟩

theorem rhas_m (s : Nat → Int) (c : Nat) (hs : 0 ≤ s (c / 64)) (hc : c ≤ 255) : Meets Try.prog (fun _ => True) 20 [.agg (s4C s).toArray, .int .u8 (c : Int)] (fun _ : Unit => .bool (decide (hasS s c))) [] (fun _ => []) := meets1 Try.call20 (fun w hI => rhas_any s c hs hc w)
theorem take_flat (ls : List (List UInt8)) (i : Nat) (h : i < ls.length) : (ls.take (i + 1)).flatten = (ls.take i).flatten ++ ls.getD i [] := by
  rw [List.take_add_one, List.flatten_append, List.getD_eq_getElem?_getD, List.getElem?_eq_getElem h]; simp
theorem flat_le (ls : List (List UInt8)) (i : Nat) (h : i < ls.length) : (ls.take i).flatten.length + (ls.getD i []).length ≤ ls.flatten.length := by
  rw [← List.length_append, ← take_flat ls i h]
  have := congrArg (fun z => (List.flatten z).length) (List.take_append_drop (i + 1) ls)
  simp only [List.flatten_append, List.length_append] at this
  omega
theorem nm_nonneg {s : Nat → Int} {c : UInt8} (h : nm4 s = nm4 (withS s0 c.toNat 1)) {d : Nat} (hd : d < 256) : 0 ≤ s (d / 64) := by
  have := congrFun h (d / 64)
  unfold nm4 at this
  rw [if_pos (by omega), if_pos (by omega)] at this
  rw [this]
  show 0 ≤ upd s0 (c.toNat / 64) (orB 0 (c.toNat % 64)) (d / 64)
  rw [orB0 ⟨c.toNat % 64, by have := c.toNat_lt; omega⟩]
  unfold upd s0
  split
  · exact_mod_cast Nat.zero_le _
  · exact Int.le_refl _
theorem b8_one (c : UInt8) : UInt8.ofNat c.toNat = c := by simp

section
set_option maxRecDepth 100000
mutual
theorem writtenT {xt : Bool} : ∀ {t : MT} {l : List UInt8}, Wrt xt t l → ∀ w, t.ok w → szT t ≤ 1000000 → Calls Try.prog 12 #[.agg (nC t).toArray, .bool xt] w fun e w' => e = .returned (st8 l) ∧ Below w.heap.size w w'
  | _, _, @Wrt.one _ s mi ma nu v q c h => by
   intro w hok hsz
   obtain ⟨hrow, hkids⟩ := ok_mk.1 hok
   obtain ⟨p, c0, rfl⟩ := row_sl hrow
   have hle := row_le hrow
   have hmax : maxLen = 9223372036854775807 := rfl
   have hrd : RdSl w p q.length 9 (kF q) := rd_of_row nC nC_len rfl hrow
   have hsl := slash_len xt
   rw [szT_mk] at hsz
   have hcl := c.toNat_lt
   refine fn_intro Try.func12 rfl Try.ntmps12 rfl rfl ?_
   refine s_ (o_ ?_)
   refine g_box rfl rfl rfl rfl (fun b1 => ?_)
   refine xg 1 [] rfl rfl ?_
   refine ntso_ ?_
   refine g_buildSlice (offs := [0]) rfl rfl Try.underlying58 rfl Try.zeroValue5 (by kernel_rfl) (fun b2 => ?_)
   refine g_val (v := st8 [92]) rfl rfl rfl (y_cellsStr (l := [92]) 0 rfl Try.underlying58 Try.underlying9 Try.underlying5 rfl rfl rfl) ?_
   refine xg 1 [] rfl rfl ?_
   refine n_ (t_ (s_ (s_ (o_ ?_))))
   refine xg 1 [] rfl rfl ?_
   refine n_ (t_ ?_)
   refine g_cutc (α := Unit) (fun x => [(1, .bool xt), (2, .pointer (some ⟨b1, 0, none⟩)), (5, st8 (slash xt))]) (fun x => [.cells b1 30 (nC (.mk 1 s mi ma nu (.slice p q.length c0) q))]) ?_ ?_
   ·intro _
    try dsimp only
    refine t_ (s_ (s_ (o_ ?_)))
    refine xg 2 [0] rfl (by omega) ?_
    refine n_ (t_ (g_block (s_ (o_ ?_))))
    refine xg 2 [1] rfl (by omega) ?_
    refine n_ (t_ (g_cond_t rfl (s_ (o_ ?_))))
    refine xg 1 [] rfl rfl ?_
    refine n_ (t_ (g_block ?_))
    refine g_loop (α := {i : Nat // i ≤ c.toNat}) (fun x => [(2, .pointer (some ⟨b1, 0, none⟩)), (6, .int .i64 (x.1 : Int))]) (fun x => St w [] [.cells b1 30 (nC (.mk 1 s mi ma nu (.slice p q.length c0) q))]) (fun x => c.toNat - x.1) ⟨0, Nat.zero_le _⟩ [2, 6] rfl (fun w h => h.pick [0] rfl) ?_
    rintro ⟨i, hi⟩
    dsimp only
    refine s_ (s_ (o_ ?_))
    refine xg 2 [1] rfl (by omega) ?_
    refine n_ (t_ (g_cond_t rfl (g_skip (t_ (s_ (g_block (s_ (o_ ?_))))))))
    refine xg 4 [0] rfl (by omega) ?_
    refine g_c1 (rhas_m s i (nm_nonneg h (by omega)) (by omega)) any_I rfl rfl rfl ?_
    by_cases hic : i = c.toNat
    ·refine g_lit 26 true rfl (decide_eq_true (((has_nm h (by omega)).trans (has_one (by omega) (by omega))).2 hic)) ?_
     subst hic
     refine xg 1 [] rfl rfl ?_
     refine ntso_ ?_
     refine xg 1 [] rfl rfl ?_
     refine n_ (t_ (g_cond_t rfl (s_ (o_ ?_))))
     refine xg 2 [] rfl (by omega) ?_
     refine g_buildSlice (offs := [0]) rfl rfl Try.underlying58 rfl Try.zeroValue5 (by kernel_rfl) (fun b3 => ?_)
     refine g_val (v := st8 [c]) rfl rfl rfl (y_cellsStr (l := [c]) 0 rfl Try.underlying58 Try.underlying9 Try.underlying5 rfl rfl rfl) ?_
     refine xg 1 [] rfl rfl ?_
     refine n_ (t_ (g_ret (g_in_ret (g_then_ret (g_then_ret (g_in_ret (g_in_ret (g_then_ret ?_))))))))
     refine g_end1 Try.results12 rfl ?_
     exact fun w hS => ⟨rfl, hS.below⟩
    refine g_lit 26 false rfl (decide_eq_false (fun z => hic (((has_nm h (by omega)).trans (has_one (by omega) (by omega))).1 z))) ?_
    refine xg 1 [] rfl rfl ?_
    refine ntso_ ?_
    refine xg 1 [] rfl rfl ?_
    refine n_ (t_ (g_cond_f rfl (g_skip (g_in_normal (t_ (o_ ?_))))))
    refine xg 3 [] rfl (by omega) ?_
    refine n_ ?_
    exact g_again ⟨i + 1, by omega⟩ [2, 6] (by dsimp only; omega) rfl (fun w h => h.pick [0] rfl)
   intro hj
   refine g_caseb 13 rfl (fun h1 => ?_) fun h1 => ?_
   ·refine g_cond_t rfl (o_ ?_)
    refine xg 1 [] rfl rfl ?_
    refine n_ ?_
    obtain rfl : xt = true := by assumption
    exact g_fall (hj ()) [1, 2, 5] rfl (fun w h => h.pick [1] rfl)
   refine g_cond_f rfl (g_skip ?_)
   obtain rfl : xt = false := by assumption
   exact g_fall (hj ()) [1, 2, 5] rfl (fun w h => h.pick [1] rfl)
  | _, _, @Wrt.row _ s mi ma nu v q l h => by
   intro w hok hsz
   obtain ⟨hrow, hkids⟩ := ok_mk.1 hok
   obtain ⟨p, c0, rfl⟩ := row_sl hrow
   have hle := row_le hrow
   have hmax : maxLen = 9223372036854775807 := rfl
   have hrd : RdSl w p q.length 9 (kF q) := rd_of_row nC nC_len rfl hrow
   have hsl := slash_len xt
   rw [szT_mk] at hsz
   have hlw := WrtL_len h
   obtain ⟨ls, hln, hls, hcall⟩ := writtenL h
   have hlf := congrArg List.length hls
   refine fn_intro Try.func12 rfl Try.ntmps12 rfl rfl ?_
   refine s_ (o_ ?_)
   refine g_box rfl rfl rfl rfl (fun b1 => ?_)
   refine xg 1 [] rfl rfl ?_
   refine ntso_ ?_
   refine g_buildSlice (offs := [0]) rfl rfl Try.underlying58 rfl Try.zeroValue5 (by kernel_rfl) (fun b2 => ?_)
   refine g_val (v := st8 [92]) rfl rfl rfl (y_cellsStr (l := [92]) 0 rfl Try.underlying58 Try.underlying9 Try.underlying5 rfl rfl rfl) ?_
   refine xg 1 [] rfl rfl ?_
   refine n_ (t_ (s_ (s_ (o_ ?_))))
   refine xg 1 [] rfl rfl ?_
   refine n_ (t_ ?_)
   refine g_cutc (α := Unit) (fun x => [(1, .bool xt), (2, .pointer (some ⟨b1, 0, none⟩)), (5, st8 (slash xt))]) (fun x => [.cells b1 30 (nC (.mk 2 s mi ma nu (.slice p q.length c0) q))]) ?_ ?_
   ·intro _
    try dsimp only
    refine t_ (s_ (s_ (o_ ?_)))
    refine xg 2 [0] rfl (by omega) ?_
    refine n_ (t_ (g_block (s_ (o_ ?_))))
    refine xg 2 [2] rfl (by omega) ?_
    refine n_ (t_ (g_cond_f rfl (s_ (o_ ?_))))
    refine xg 2 [1] rfl (by omega) ?_
    refine n_ (t_ (g_cond_t rfl (s_ (o_ ?_))))
    refine xg 1 [] rfl rfl ?_
    refine n_ (t_ (s_ (s_ (o_ ?_))))
    refine xg 1 [] rfl rfl ?_
    refine n_ (t_ (g_block ?_))
    refine g_loop (α := {i : Nat // i ≤ q.length}) (fun x => [(1, .bool xt), (2, .pointer (some ⟨b1, 0, none⟩)), (8, st8 (ls.take x.1).flatten), (9, .int .i64 (x.1 : Int))]) (fun x => St w [] [.cells b1 30 (nC (.mk 2 s mi ma nu (.slice p q.length c0) q))]) (fun x => q.length - x.1) ⟨0, Nat.zero_le _⟩ [1, 2, 8, 9] rfl (fun w h => h.pick [0] rfl) ?_
    rintro ⟨i, hi⟩
    dsimp only
    have hfl := fun h2 => flat_le ls i h2
    refine s_ (s_ (o_ ?_))
    refine xg 5 [0,0] rfl (by omega) ?_
    refine n_ (t_ ?_)
    refine g_casep 38 rfl (fun h1 => ?_) fun h1 => ?_
    ·refine g_cond_t rfl (g_skip (t_ (s_ (g_block (o_ ?_)))))
     refine xg 4 [0] rfl (by omega) ?_
     refine g_val rfl rfl rfl (y_rdAddr hrd rfl rfl Try.underlying28 Try.sizeOf30 (by omega) (by omega)) ?_
     refine g_val rfl rfl rfl (y_rdAgg (i := (i : Int)) (vs := nC (q.getD i zMT)) hrd rfl Try.isAgg30 Try.sizeOf30 (by omega) (by omega) (nC_len _) (fun k hk => kF_get q i k hk)) ?_
     refine xg 1 [] rfl rfl ?_
     refine g_call1 rfl rfl rfl Try.call12 (fun w' hS => hcall i (by omega) w' (MT.stable _ (fun k hk => hS.keep k (MT.inb _ (okL_get hkids i (by omega)) k hk) (by simp)) (okL_get hkids i (by omega))) (by have := szT_le q i (by omega); omega)) ?_
     refine g_val (v := st8 ((ls.take i).flatten ++ (ls.getD i []))) rfl rfl rfl (y_cat8 ((ls.take i).flatten) ((ls.getD i [])) rfl rfl (by first | omega | (simp only [List.length_append, List.length_cons, List.length_nil]; omega))) ?_
     refine xg 1 [] rfl rfl ?_
     refine n_ (g_in_normal (t_ (o_ ?_)))
     refine xg 3 [] rfl (by omega) ?_
     refine n_ ?_
     exact g_again ⟨i + 1, by omega⟩ [1, 2, 8, 9] (by dsimp only; omega) (by rw [take_flat ls i (by omega)]; rfl) (fun w h => h.pick [0] rfl)
    refine g_cond_f rfl (g_exit (g_then_exit (g_then_exit (g_in_exit (t_ (s_ (o_ ?_)))))))
    refine xg 2 [] rfl rfl ?_
    refine n_ (t_ (g_ret (g_in_ret (g_then_ret ?_))))
    refine g_end1 Try.results12 rfl ?_
    obtain rfl : i = q.length := by omega
    exact fun w hS => ⟨congrArg (fun z => Ending.returned (st8 z)) (by rw [← hln, List.take_length, hls]), hS.below⟩
   intro hj
   refine g_caseb 13 rfl (fun h2 => ?_) fun h2 => ?_
   ·refine g_cond_t rfl (o_ ?_)
    refine xg 1 [] rfl rfl ?_
    refine n_ ?_
    obtain rfl : xt = true := by assumption
    exact g_fall (hj ()) [1, 2, 5] rfl (fun w h => h.pick [1] rfl)
   refine g_cond_f rfl (g_skip ?_)
   obtain rfl : xt = false := by assumption
   exact g_fall (hj ()) [1, 2, 5] rfl (fun w h => h.pick [1] rfl)
  | _, _, @Wrt.grp _ s mi ma nu v t l h => by
   intro w hok hsz
   obtain ⟨hrow, hkids⟩ := ok_mk.1 hok
   obtain ⟨p, c0, rfl⟩ := row_sl hrow
   have hle := row_le hrow
   have hmax : maxLen = 9223372036854775807 := rfl
   have hrd : RdSl w p [t].length 9 (kF [t]) := rd_of_row nC nC_len rfl hrow
   have hsl := slash_len xt
   rw [szT_mk] at hsz
   have hlw := Wrt_len h
   rw [szL_cons, szL_nil] at hsz
   have hone : [t].length = 1 := rfl
   refine fn_intro Try.func12 rfl Try.ntmps12 rfl rfl ?_
   refine s_ (o_ ?_)
   refine g_box rfl rfl rfl rfl (fun b1 => ?_)
   refine xg 1 [] rfl rfl ?_
   refine ntso_ ?_
   refine g_buildSlice (offs := [0]) rfl rfl Try.underlying58 rfl Try.zeroValue5 (by kernel_rfl) (fun b2 => ?_)
   refine g_val (v := st8 [92]) rfl rfl rfl (y_cellsStr (l := [92]) 0 rfl Try.underlying58 Try.underlying9 Try.underlying5 rfl rfl rfl) ?_
   refine xg 1 [] rfl rfl ?_
   refine n_ (t_ (s_ (s_ (o_ ?_))))
   refine xg 1 [] rfl rfl ?_
   refine n_ (t_ ?_)
   refine g_cutc (α := Unit) (fun x => [(1, .bool xt), (2, .pointer (some ⟨b1, 0, none⟩)), (5, st8 (slash xt))]) (fun x => [.cells b1 30 (nC (.mk 5 s mi ma nu (.slice p [t].length c0) [t]))]) ?_ ?_
   ·intro _
    try dsimp only
    refine t_ (s_ (s_ (o_ ?_)))
    refine xg 2 [0] rfl (by omega) ?_
    refine n_ (t_ (g_block (s_ (o_ ?_))))
    refine xg 2 [2] rfl (by omega) ?_
    refine n_ (t_ (g_cond_f rfl (s_ (o_ ?_))))
    refine xg 2 [2] rfl (by omega) ?_
    refine n_ (t_ (g_cond_f rfl (s_ (o_ ?_))))
    refine xg 2 [1] rfl (by omega) ?_
    refine n_ (t_ (g_cond_t rfl (s_ (o_ ?_))))
    refine xg 1 [] rfl rfl ?_
    refine g_val (v := st8 ((slash xt) ++ [40])) rfl rfl rfl (y_cat8 ((slash xt)) ([40]) rfl rfl (by first | omega | (simp only [List.length_append, List.length_cons, List.length_nil]; omega))) ?_
    refine xg 2 [0] rfl (by omega) ?_
    refine g_val rfl rfl rfl (y_rdAddr hrd rfl rfl Try.underlying28 Try.sizeOf30 (by omega) (by omega)) ?_
    refine g_val rfl rfl rfl (y_rdAgg (i := 0) (vs := nC t) hrd rfl Try.isAgg30 Try.sizeOf30 (by omega) (by omega) (nC_len _) (fun k hk => kF_get [t] 0 k hk)) ?_
    refine xg 1 [] rfl rfl ?_
    refine g_call1 rfl rfl rfl Try.call12 (fun w' hS => writtenT h w' (MT.stable _ (fun k hk => hS.keep k (MT.inb _ (okL_cons.1 hkids).1 k hk) (by simp)) (okL_cons.1 hkids).1) (by omega)) ?_
    refine g_val (v := st8 (((slash xt) ++ [40]) ++ l)) rfl rfl rfl (y_cat8 (((slash xt) ++ [40])) (l) rfl rfl (by first | omega | (simp only [List.length_append, List.length_cons, List.length_nil]; omega))) ?_
    refine xg 1 [] rfl rfl ?_
    refine g_val (v := st8 ((((slash xt) ++ [40]) ++ l) ++ (slash xt))) rfl rfl rfl (y_cat8 ((((slash xt) ++ [40]) ++ l)) ((slash xt)) rfl rfl (by first | omega | (simp only [List.length_append, List.length_cons, List.length_nil]; omega))) ?_
    refine g_val (v := st8 (((((slash xt) ++ [40]) ++ l) ++ (slash xt)) ++ [41])) rfl rfl rfl (y_cat8 (((((slash xt) ++ [40]) ++ l) ++ (slash xt))) ([41]) rfl rfl (by first | omega | (simp only [List.length_append, List.length_cons, List.length_nil]; omega))) ?_
    refine xg 1 [] rfl rfl ?_
    refine n_ (t_ (g_ret (g_in_ret (g_then_ret ?_))))
    refine g_end1 Try.results12 rfl ?_
    exact fun w hS => ⟨rfl, hS.below⟩
   intro hj
   refine g_caseb 13 rfl (fun h1 => ?_) fun h1 => ?_
   ·refine g_cond_t rfl (o_ ?_)
    refine xg 1 [] rfl rfl ?_
    refine n_ ?_
    obtain rfl : xt = true := by assumption
    exact g_fall (hj ()) [1, 2, 5] rfl (fun w h => h.pick [1] rfl)
   refine g_cond_f rfl (g_skip ?_)
   obtain rfl : xt = false := by assumption
   exact g_fall (hj ()) [1, 2, 5] rfl (fun w h => h.pick [1] rfl)
  | _, _, @Wrt.star _ s nu v t l h => by
   intro w hok hsz
   obtain ⟨hrow, hkids⟩ := ok_mk.1 hok
   obtain ⟨p, c0, rfl⟩ := row_sl hrow
   have hle := row_le hrow
   have hmax : maxLen = 9223372036854775807 := rfl
   have hrd : RdSl w p [t].length 9 (kF [t]) := rd_of_row nC nC_len rfl hrow
   have hsl := slash_len xt
   rw [szT_mk] at hsz
   have hlw := Wrt_len h
   rw [szL_cons, szL_nil] at hsz
   have hone : [t].length = 1 := rfl
   refine fn_intro Try.func12 rfl Try.ntmps12 rfl rfl ?_
   refine s_ (o_ ?_)
   refine g_box rfl rfl rfl rfl (fun b1 => ?_)
   refine xg 1 [] rfl rfl ?_
   refine ntso_ ?_
   refine g_buildSlice (offs := [0]) rfl rfl Try.underlying58 rfl Try.zeroValue5 (by kernel_rfl) (fun b2 => ?_)
   refine g_val (v := st8 [92]) rfl rfl rfl (y_cellsStr (l := [92]) 0 rfl Try.underlying58 Try.underlying9 Try.underlying5 rfl rfl rfl) ?_
   refine xg 1 [] rfl rfl ?_
   refine n_ (t_ (s_ (s_ (o_ ?_))))
   refine xg 1 [] rfl rfl ?_
   refine n_ (t_ ?_)
   refine g_cutc (α := Unit) (fun x => [(1, .bool xt), (2, .pointer (some ⟨b1, 0, none⟩)), (5, st8 (slash xt))]) (fun x => [.cells b1 30 (nC (.mk 4 s 0 (-1) nu (.slice p [t].length c0) [t]))]) ?_ ?_
   ·intro _
    try dsimp only
    refine t_ (s_ (s_ (o_ ?_)))
    refine xg 2 [0] rfl (by omega) ?_
    refine n_ (t_ (g_block (s_ (o_ ?_))))
    refine xg 2 [2] rfl (by omega) ?_
    refine n_ (t_ (g_cond_f rfl (s_ (o_ ?_))))
    refine xg 2 [2] rfl (by omega) ?_
    refine n_ (t_ (g_cond_f rfl (s_ (o_ ?_))))
    refine xg 2 [2] rfl (by omega) ?_
    refine n_ (t_ (g_cond_f rfl (s_ (o_ ?_))))
    refine xg 2 [1] rfl (by omega) ?_
    refine n_ (t_ (g_cond_t rfl (s_ (o_ ?_))))
    refine xg 2 [0] rfl (by omega) ?_
    refine g_val rfl rfl rfl (y_rdAddr hrd rfl rfl Try.underlying28 Try.sizeOf30 (by omega) (by omega)) ?_
    refine g_val rfl rfl rfl (y_rdAgg (i := 0) (vs := nC t) hrd rfl Try.isAgg30 Try.sizeOf30 (by omega) (by omega) (nC_len _) (fun k hk => kF_get [t] 0 k hk)) ?_
    refine xg 1 [] rfl rfl ?_
    refine g_call1 rfl rfl rfl Try.call12 (fun w' hS => writtenT h w' (MT.stable _ (fun k hk => hS.keep k (MT.inb _ (okL_cons.1 hkids).1 k hk) (by simp)) (okL_cons.1 hkids).1) (by omega)) ?_
    refine xg 1 [] rfl rfl ?_
    refine n_ (t_ (s_ (s_ (o_ ?_))))
    refine xg 8 [0,1,0,1] rfl (by omega) ?_
    refine n_ (t_ (g_cond_t rfl (s_ (o_ ?_))))
    refine xg 1 [] rfl rfl ?_
    refine g_val (v := st8 (l ++ [42])) rfl rfl rfl (y_cat8 (l) ([42]) rfl rfl (by first | omega | (simp only [List.length_append, List.length_cons, List.length_nil]; omega))) ?_
    refine xg 1 [] rfl rfl ?_
    refine n_ (t_ (g_ret (g_then_ret (g_in_ret (g_then_ret ?_)))))
    refine g_end1 Try.results12 rfl ?_
    exact fun w hS => ⟨rfl, hS.below⟩
   intro hj
   refine g_caseb 13 rfl (fun h1 => ?_) fun h1 => ?_
   ·refine g_cond_t rfl (o_ ?_)
    refine xg 1 [] rfl rfl ?_
    refine n_ ?_
    obtain rfl : xt = true := by assumption
    exact g_fall (hj ()) [1, 2, 5] rfl (fun w h => h.pick [1] rfl)
   refine g_cond_f rfl (g_skip ?_)
   obtain rfl : xt = false := by assumption
   exact g_fall (hj ()) [1, 2, 5] rfl (fun w h => h.pick [1] rfl)
  | _, _, @Wrt.rep _ s mi ma nu v t l h h0 hm => by
   intro w hok hsz
   obtain ⟨hrow, hkids⟩ := ok_mk.1 hok
   obtain ⟨p, c0, rfl⟩ := row_sl hrow
   have hle := row_le hrow
   have hmax : maxLen = 9223372036854775807 := rfl
   have hrd : RdSl w p [t].length 9 (kF [t]) := rd_of_row nC nC_len rfl hrow
   have hsl := slash_len xt
   rw [szT_mk] at hsz
   have hlw := Wrt_len h
   rw [szL_cons, szL_nil] at hsz
   have hone : [t].length = 1 := rfl
   refine fn_intro Try.func12 rfl Try.ntmps12 rfl rfl ?_
   refine s_ (o_ ?_)
   refine g_box rfl rfl rfl rfl (fun b1 => ?_)
   refine xg 1 [] rfl rfl ?_
   refine ntso_ ?_
   refine g_buildSlice (offs := [0]) rfl rfl Try.underlying58 rfl Try.zeroValue5 (by kernel_rfl) (fun b2 => ?_)
   refine g_val (v := st8 [92]) rfl rfl rfl (y_cellsStr (l := [92]) 0 rfl Try.underlying58 Try.underlying9 Try.underlying5 rfl rfl rfl) ?_
   refine xg 1 [] rfl rfl ?_
   refine n_ (t_ (s_ (s_ (o_ ?_))))
   refine xg 1 [] rfl rfl ?_
   refine n_ (t_ ?_)
   refine g_cutc (α := Unit) (fun x => [(1, .bool xt), (2, .pointer (some ⟨b1, 0, none⟩)), (5, st8 (slash xt))]) (fun x => [.cells b1 30 (nC (.mk 4 s mi ma nu (.slice p [t].length c0) [t]))]) ?_ ?_
   ·intro _
    try dsimp only
    refine t_ (s_ (s_ (o_ ?_)))
    refine xg 2 [0] rfl (by omega) ?_
    refine n_ (t_ (g_block (s_ (o_ ?_))))
    refine xg 2 [2] rfl (by omega) ?_
    refine n_ (t_ (g_cond_f rfl (s_ (o_ ?_))))
    refine xg 2 [2] rfl (by omega) ?_
    refine n_ (t_ (g_cond_f rfl (s_ (o_ ?_))))
    refine xg 2 [2] rfl (by omega) ?_
    refine n_ (t_ (g_cond_f rfl (s_ (o_ ?_))))
    refine xg 2 [1] rfl (by omega) ?_
    refine n_ (t_ (g_cond_t rfl (s_ (o_ ?_))))
    refine xg 2 [0] rfl (by omega) ?_
    refine g_val rfl rfl rfl (y_rdAddr hrd rfl rfl Try.underlying28 Try.sizeOf30 (by omega) (by omega)) ?_
    refine g_val rfl rfl rfl (y_rdAgg (i := 0) (vs := nC t) hrd rfl Try.isAgg30 Try.sizeOf30 (by omega) (by omega) (nC_len _) (fun k hk => kF_get [t] 0 k hk)) ?_
    refine xg 1 [] rfl rfl ?_
    refine g_call1 rfl rfl rfl Try.call12 (fun w' hS => writtenT h w' (MT.stable _ (fun k hk => hS.keep k (MT.inb _ (okL_cons.1 hkids).1 k hk) (by simp)) (okL_cons.1 hkids).1) (by omega)) ?_
    refine xg 1 [] rfl rfl ?_
    refine n_ (t_ (s_ (s_ (o_ ?_))))
    refine xg 4 [0,0] rfl (by omega) ?_
    refine g_casep 76 rfl (fun h1 => ?_) fun h1 => ?_
    ·refine xg 4 [0,0] rfl (by omega) ?_
     refine n_ (t_ ?_)
     refine g_casep 80 rfl (fun h2 => ?_) fun h2 => ?_
     ·refine g_cond_t rfl (s_ (o_ ?_))
      refine xg 1 [] rfl rfl ?_
      refine g_val (v := st8 (l ++ [42])) rfl rfl rfl (y_cat8 (l) ([42]) rfl rfl (by first | omega | (simp only [List.length_append, List.length_cons, List.length_nil]; omega))) ?_
      refine xg 1 [] rfl rfl ?_
      refine n_ (t_ (g_ret (g_then_ret (g_in_ret (g_then_ret ?_)))))
      refine g_end1 Try.results12 rfl ?_
      exact absurd (⟨by omega, by omega⟩ : mi = 0 ∧ ma = -1) h0
     refine g_cond_f rfl (g_skip (t_ (s_ (o_ ?_))))
     refine xg 2 [] rfl rfl ?_
     refine g_val (v := st8 (l ++ (slash xt))) rfl rfl rfl (y_cat8 (l) ((slash xt)) rfl rfl (by first | omega | (simp only [List.length_append, List.length_cons, List.length_nil]; omega))) ?_
     refine g_val (v := st8 ((l ++ (slash xt)) ++ [123])) rfl rfl rfl (y_cat8 ((l ++ (slash xt))) ([123]) rfl rfl (by first | omega | (simp only [List.length_append, List.length_cons, List.length_nil]; omega))) ?_
     refine xg 2 [0] rfl (by omega) ?_
     refine g_call1 rfl rfl rfl Try.call15 (fun w hS => by have := digits_any (mi).toNat (by omega) w; rwa [show (((mi).toNat : Nat) : Int) = mi by omega] at this) ?_
     have hd89 := digs_len (n := mi) ⟨by omega, by omega⟩
     refine g_val (v := st8 (((l ++ (slash xt)) ++ [123]) ++ (digs (mi).toNat))) rfl rfl rfl (y_cat8 (((l ++ (slash xt)) ++ [123])) ((digs (mi).toNat)) rfl rfl (by first | omega | (simp only [List.length_append, List.length_cons, List.length_nil]; omega))) ?_
     refine xg 1 [] rfl rfl ?_
     refine n_ (t_ (s_ (s_ (o_ ?_))))
     refine xg 5 [0,0,0] rfl (by omega) ?_
     refine n_ (t_ ?_)
     refine g_casep 95 rfl (fun h3 => ?_) fun h3 => ?_
     ·refine g_cond_t rfl (s_ (o_ ?_))
      refine xg 1 [] rfl rfl ?_
      refine g_val (v := st8 ((((l ++ (slash xt)) ++ [123]) ++ (digs (mi).toNat)) ++ [44])) rfl rfl rfl (y_cat8 ((((l ++ (slash xt)) ++ [123]) ++ (digs (mi).toNat))) ([44]) rfl rfl (by first | omega | (simp only [List.length_append, List.length_cons, List.length_nil]; omega))) ?_
      refine xg 1 [] rfl rfl ?_
      refine ntso_ ?_
      refine xg 3 [0,0] rfl (by omega) ?_
      refine n_ (t_ ?_)
      refine g_casep 100 rfl (fun h4 => ?_) fun h4 => ?_
      ·refine g_cond_t rfl (o_ ?_)
       refine xg 3 [0] rfl (by omega) ?_
       refine g_call1 rfl rfl rfl Try.call15 (fun w hS => by have := digits_any (ma).toNat (by omega) w; rwa [show (((ma).toNat : Nat) : Int) = ma by omega] at this) ?_
       have hd104 := digs_len (n := ma) ⟨by omega, by omega⟩
       refine g_val (v := st8 (((((l ++ (slash xt)) ++ [123]) ++ (digs (mi).toNat)) ++ [44]) ++ (digs (ma).toNat))) rfl rfl rfl (y_cat8 (((((l ++ (slash xt)) ++ [123]) ++ (digs (mi).toNat)) ++ [44])) ((digs (ma).toNat)) rfl rfl (by first | omega | (simp only [List.length_append, List.length_cons, List.length_nil]; omega))) ?_
       refine xg 1 [] rfl rfl ?_
       refine ntso_ ?_
       refine xg 2 [] rfl rfl ?_
       refine g_val (v := st8 ((((((l ++ (slash xt)) ++ [123]) ++ (digs (mi).toNat)) ++ [44]) ++ (digs (ma).toNat)) ++ (slash xt))) rfl rfl rfl (y_cat8 ((((((l ++ (slash xt)) ++ [123]) ++ (digs (mi).toNat)) ++ [44]) ++ (digs (ma).toNat))) ((slash xt)) rfl rfl (by first | omega | (simp only [List.length_append, List.length_cons, List.length_nil]; omega))) ?_
       refine g_val (v := st8 (((((((l ++ (slash xt)) ++ [123]) ++ (digs (mi).toNat)) ++ [44]) ++ (digs (ma).toNat)) ++ (slash xt)) ++ [125])) rfl rfl rfl (y_cat8 (((((((l ++ (slash xt)) ++ [123]) ++ (digs (mi).toNat)) ++ [44]) ++ (digs (ma).toNat)) ++ (slash xt))) ([125]) rfl rfl (by first | omega | (simp only [List.length_append, List.length_cons, List.length_nil]; omega))) ?_
       refine xg 1 [] rfl rfl ?_
       refine n_ (t_ (g_ret (g_in_ret (g_then_ret ?_))))
       refine g_end1 Try.results12 rfl ?_
       exact fun w hS => ⟨congrArg (fun z => Ending.returned (st8 z)) (by first | (rw [if_pos (by omega)]; (try simp); done) | (rw [if_neg (by omega), if_pos (by omega)]; (try simp); done) | (rw [if_neg (by omega), if_neg (by omega)]; (try simp); done)), hS.below⟩
      refine g_cond_f rfl (g_skip (t_ (s_ (o_ ?_))))
      refine xg 2 [] rfl rfl ?_
      refine g_val (v := st8 (((((l ++ (slash xt)) ++ [123]) ++ (digs (mi).toNat)) ++ [44]) ++ (slash xt))) rfl rfl rfl (y_cat8 (((((l ++ (slash xt)) ++ [123]) ++ (digs (mi).toNat)) ++ [44])) ((slash xt)) rfl rfl (by first | omega | (simp only [List.length_append, List.length_cons, List.length_nil]; omega))) ?_
      refine g_val (v := st8 ((((((l ++ (slash xt)) ++ [123]) ++ (digs (mi).toNat)) ++ [44]) ++ (slash xt)) ++ [125])) rfl rfl rfl (y_cat8 ((((((l ++ (slash xt)) ++ [123]) ++ (digs (mi).toNat)) ++ [44]) ++ (slash xt))) ([125]) rfl rfl (by first | omega | (simp only [List.length_append, List.length_cons, List.length_nil]; omega))) ?_
      refine xg 1 [] rfl rfl ?_
      refine n_ (t_ (g_ret (g_in_ret (g_then_ret ?_))))
      refine g_end1 Try.results12 rfl ?_
      exact fun w hS => ⟨congrArg (fun z => Ending.returned (st8 z)) (by first | (rw [if_pos (by omega)]; (try simp); done) | (rw [if_neg (by omega), if_pos (by omega)]; (try simp); done) | (rw [if_neg (by omega), if_neg (by omega)]; (try simp); done)), hS.below⟩
     refine g_cond_f rfl (g_skip (t_ (s_ (o_ ?_))))
     refine xg 2 [] rfl rfl ?_
     refine g_val (v := st8 ((((l ++ (slash xt)) ++ [123]) ++ (digs (mi).toNat)) ++ (slash xt))) rfl rfl rfl (y_cat8 ((((l ++ (slash xt)) ++ [123]) ++ (digs (mi).toNat))) ((slash xt)) rfl rfl (by first | omega | (simp only [List.length_append, List.length_cons, List.length_nil]; omega))) ?_
     refine g_val (v := st8 (((((l ++ (slash xt)) ++ [123]) ++ (digs (mi).toNat)) ++ (slash xt)) ++ [125])) rfl rfl rfl (y_cat8 (((((l ++ (slash xt)) ++ [123]) ++ (digs (mi).toNat)) ++ (slash xt))) ([125]) rfl rfl (by first | omega | (simp only [List.length_append, List.length_cons, List.length_nil]; omega))) ?_
     refine xg 1 [] rfl rfl ?_
     refine n_ (t_ (g_ret (g_in_ret (g_then_ret ?_))))
     refine g_end1 Try.results12 rfl ?_
     exact fun w hS => ⟨congrArg (fun z => Ending.returned (st8 z)) (by first | (rw [if_pos (by omega)]; (try simp); done) | (rw [if_neg (by omega), if_pos (by omega)]; (try simp); done) | (rw [if_neg (by omega), if_neg (by omega)]; (try simp); done)), hS.below⟩
    refine xg 4 [] rfl rfl ?_
    refine n_ (t_ (g_cond_f rfl (g_skip (t_ (s_ (o_ ?_))))))
    refine xg 2 [] rfl rfl ?_
    refine g_val (v := st8 (l ++ (slash xt))) rfl rfl rfl (y_cat8 (l) ((slash xt)) rfl rfl (by first | omega | (simp only [List.length_append, List.length_cons, List.length_nil]; omega))) ?_
    refine g_val (v := st8 ((l ++ (slash xt)) ++ [123])) rfl rfl rfl (y_cat8 ((l ++ (slash xt))) ([123]) rfl rfl (by first | omega | (simp only [List.length_append, List.length_cons, List.length_nil]; omega))) ?_
    refine xg 2 [0] rfl (by omega) ?_
    refine g_call1 rfl rfl rfl Try.call15 (fun w hS => by have := digits_any (mi).toNat (by omega) w; rwa [show (((mi).toNat : Nat) : Int) = mi by omega] at this) ?_
    have hd89 := digs_len (n := mi) ⟨by omega, by omega⟩
    refine g_val (v := st8 (((l ++ (slash xt)) ++ [123]) ++ (digs (mi).toNat))) rfl rfl rfl (y_cat8 (((l ++ (slash xt)) ++ [123])) ((digs (mi).toNat)) rfl rfl (by first | omega | (simp only [List.length_append, List.length_cons, List.length_nil]; omega))) ?_
    refine xg 1 [] rfl rfl ?_
    refine n_ (t_ (s_ (s_ (o_ ?_))))
    refine xg 5 [0,0,0] rfl (by omega) ?_
    refine n_ (t_ ?_)
    refine g_casep 95 rfl (fun h5 => ?_) fun h5 => ?_
    ·refine g_cond_t rfl (s_ (o_ ?_))
     refine xg 1 [] rfl rfl ?_
     refine g_val (v := st8 ((((l ++ (slash xt)) ++ [123]) ++ (digs (mi).toNat)) ++ [44])) rfl rfl rfl (y_cat8 ((((l ++ (slash xt)) ++ [123]) ++ (digs (mi).toNat))) ([44]) rfl rfl (by first | omega | (simp only [List.length_append, List.length_cons, List.length_nil]; omega))) ?_
     refine xg 1 [] rfl rfl ?_
     refine ntso_ ?_
     refine xg 3 [0,0] rfl (by omega) ?_
     refine n_ (t_ ?_)
     refine g_casep 100 rfl (fun h6 => ?_) fun h6 => ?_
     ·refine g_cond_t rfl (o_ ?_)
      refine xg 3 [0] rfl (by omega) ?_
      refine g_call1 rfl rfl rfl Try.call15 (fun w hS => by have := digits_any (ma).toNat (by omega) w; rwa [show (((ma).toNat : Nat) : Int) = ma by omega] at this) ?_
      have hd104 := digs_len (n := ma) ⟨by omega, by omega⟩
      refine g_val (v := st8 (((((l ++ (slash xt)) ++ [123]) ++ (digs (mi).toNat)) ++ [44]) ++ (digs (ma).toNat))) rfl rfl rfl (y_cat8 (((((l ++ (slash xt)) ++ [123]) ++ (digs (mi).toNat)) ++ [44])) ((digs (ma).toNat)) rfl rfl (by first | omega | (simp only [List.length_append, List.length_cons, List.length_nil]; omega))) ?_
      refine xg 1 [] rfl rfl ?_
      refine ntso_ ?_
      refine xg 2 [] rfl rfl ?_
      refine g_val (v := st8 ((((((l ++ (slash xt)) ++ [123]) ++ (digs (mi).toNat)) ++ [44]) ++ (digs (ma).toNat)) ++ (slash xt))) rfl rfl rfl (y_cat8 ((((((l ++ (slash xt)) ++ [123]) ++ (digs (mi).toNat)) ++ [44]) ++ (digs (ma).toNat))) ((slash xt)) rfl rfl (by first | omega | (simp only [List.length_append, List.length_cons, List.length_nil]; omega))) ?_
      refine g_val (v := st8 (((((((l ++ (slash xt)) ++ [123]) ++ (digs (mi).toNat)) ++ [44]) ++ (digs (ma).toNat)) ++ (slash xt)) ++ [125])) rfl rfl rfl (y_cat8 (((((((l ++ (slash xt)) ++ [123]) ++ (digs (mi).toNat)) ++ [44]) ++ (digs (ma).toNat)) ++ (slash xt))) ([125]) rfl rfl (by first | omega | (simp only [List.length_append, List.length_cons, List.length_nil]; omega))) ?_
      refine xg 1 [] rfl rfl ?_
      refine n_ (t_ (g_ret (g_in_ret (g_then_ret ?_))))
      refine g_end1 Try.results12 rfl ?_
      exact fun w hS => ⟨congrArg (fun z => Ending.returned (st8 z)) (by first | (rw [if_pos (by omega)]; (try simp); done) | (rw [if_neg (by omega), if_pos (by omega)]; (try simp); done) | (rw [if_neg (by omega), if_neg (by omega)]; (try simp); done)), hS.below⟩
     refine g_cond_f rfl (g_skip (t_ (s_ (o_ ?_))))
     refine xg 2 [] rfl rfl ?_
     refine g_val (v := st8 (((((l ++ (slash xt)) ++ [123]) ++ (digs (mi).toNat)) ++ [44]) ++ (slash xt))) rfl rfl rfl (y_cat8 (((((l ++ (slash xt)) ++ [123]) ++ (digs (mi).toNat)) ++ [44])) ((slash xt)) rfl rfl (by first | omega | (simp only [List.length_append, List.length_cons, List.length_nil]; omega))) ?_
     refine g_val (v := st8 ((((((l ++ (slash xt)) ++ [123]) ++ (digs (mi).toNat)) ++ [44]) ++ (slash xt)) ++ [125])) rfl rfl rfl (y_cat8 ((((((l ++ (slash xt)) ++ [123]) ++ (digs (mi).toNat)) ++ [44]) ++ (slash xt))) ([125]) rfl rfl (by first | omega | (simp only [List.length_append, List.length_cons, List.length_nil]; omega))) ?_
     refine xg 1 [] rfl rfl ?_
     refine n_ (t_ (g_ret (g_in_ret (g_then_ret ?_))))
     refine g_end1 Try.results12 rfl ?_
     exact fun w hS => ⟨congrArg (fun z => Ending.returned (st8 z)) (by first | (rw [if_pos (by omega)]; (try simp); done) | (rw [if_neg (by omega), if_pos (by omega)]; (try simp); done) | (rw [if_neg (by omega), if_neg (by omega)]; (try simp); done)), hS.below⟩
    refine g_cond_f rfl (g_skip (t_ (s_ (o_ ?_))))
    refine xg 2 [] rfl rfl ?_
    refine g_val (v := st8 ((((l ++ (slash xt)) ++ [123]) ++ (digs (mi).toNat)) ++ (slash xt))) rfl rfl rfl (y_cat8 ((((l ++ (slash xt)) ++ [123]) ++ (digs (mi).toNat))) ((slash xt)) rfl rfl (by first | omega | (simp only [List.length_append, List.length_cons, List.length_nil]; omega))) ?_
    refine g_val (v := st8 (((((l ++ (slash xt)) ++ [123]) ++ (digs (mi).toNat)) ++ (slash xt)) ++ [125])) rfl rfl rfl (y_cat8 (((((l ++ (slash xt)) ++ [123]) ++ (digs (mi).toNat)) ++ (slash xt))) ([125]) rfl rfl (by first | omega | (simp only [List.length_append, List.length_cons, List.length_nil]; omega))) ?_
    refine xg 1 [] rfl rfl ?_
    refine n_ (t_ (g_ret (g_in_ret (g_then_ret ?_))))
    refine g_end1 Try.results12 rfl ?_
    exact fun w hS => ⟨congrArg (fun z => Ending.returned (st8 z)) (by first | (rw [if_pos (by omega)]; (try simp); done) | (rw [if_neg (by omega), if_pos (by omega)]; (try simp); done) | (rw [if_neg (by omega), if_neg (by omega)]; (try simp); done)), hS.below⟩
   intro hj
   refine g_caseb 13 rfl (fun h7 => ?_) fun h7 => ?_
   ·refine g_cond_t rfl (o_ ?_)
    refine xg 1 [] rfl rfl ?_
    refine n_ ?_
    obtain rfl : xt = true := by assumption
    exact g_fall (hj ()) [1, 2, 5] rfl (fun w h => h.pick [1] rfl)
   refine g_cond_f rfl (g_skip ?_)
   obtain rfl : xt = false := by assumption
   exact g_fall (hj ()) [1, 2, 5] rfl (fun w h => h.pick [1] rfl)
theorem writtenL {xt : Bool} : ∀ {q : List MT} {l : List UInt8}, WrtL xt q l → ∃ ls : List (List UInt8), ls.length = q.length ∧ ls.flatten = l ∧ ∀ i, i < q.length → ∀ w, (q.getD i zMT).ok w → szT (q.getD i zMT) ≤ 1000000 →
    Calls Try.prog 12 #[.agg (nC (q.getD i zMT)).toArray, .bool xt] w fun e w' => e = .returned (st8 (ls.getD i [])) ∧ Below w.heap.size w w'
  | _, _, .nil => ⟨[], rfl, rfl, fun i h => absurd h (Nat.not_lt_zero _)⟩
  | _, _, @WrtL.cons _ t q a b h h2 => by
    obtain ⟨ls, h3, h4, h5⟩ := writtenL h2
    refine ⟨a :: ls, by simp [h3], by simp [h4], fun i hi => ?_⟩
    cases i with
    | zero => exact writtenT h
    | succ i => exact h5 i (by simpa using hi)
end
end
end Go.Proofs.Ytpoelkfncpjmfaa
