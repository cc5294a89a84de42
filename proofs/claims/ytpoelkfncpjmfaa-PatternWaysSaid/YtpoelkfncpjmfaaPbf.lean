/- Plain texts: headgatelaw09.plain, PatternPlain. -/
import Derived.Test.YtpoelkfncpjmfaaPbe
namespace Go.Proofs.Ytpoelkfncpjmfaa
open Go Go.RowKit

theorem fm_sub {α : Type} (f : α → List Value) (sz : Nat) (hf : ∀ a, (f a).length = sz) (l : List α) (i j k : Nat) (a : α) (hi : l[i]? = some a) (hjk : j + k ≤ sz) : ((l.flatMap f).drop (i * sz + j)).take k = ((f a).drop j).take k := by
  rw [← fm_elem f sz hf l i a hi, List.drop_take, List.take_take, Nat.min_eq_left (by omega), List.drop_drop]
theorem ref_one (c : UInt8) (w : World) : Calls Try.prog 10 #[.agg (s4C s0).toArray, .int .u8 (c.toNat : Int), .int .u8 (c.toNat : Int)] w fun e w' => e = .returned (.agg (s4C (withS s0 c.toNat 1)).toArray) ∧ Below w.heap.size w w' := by
  have := rwith_any s0 c.toNat c.toNat (by have := c.toNat_lt; omega) (by have := c.toNat_lt; omega) w
  rwa [Nat.add_sub_cancel_left] at this
theorem g_kidsRow {N : Nat} {R : Regs} {W0 : World} {F : List Nat} {L : List Ent} {X : Act → World → Prop} {k : Int} {s : Nat → Int} {mi ma nu : Int} {v : Value} {kids : List MT} (i : Nat) (hi : L[i]? = some (.forest [.mk k s mi ma nu v kids]))
    (h : G N R (St W0 F (L.set i (.row 30 9 v kids.length (kids.flatMap nC)))) X) : G N R (St W0 F L) X :=
  g_turn (e' := .row 30 9 v kids.length (kids.flatMap nC)) i hi (fun w ho => (ok_mk.1 (okL_cons.1 (show okL w _ from ho)).1).1) (fun k hk => by
    show k ∈ fpL _
    rw [fpL_cons, fp_mk]
    exact List.mem_append_left _ (List.mem_append_left _ hk)) h
theorem plain_step {l : List UInt8} {i : Int} (h0 : 0 ≤ i) (h1 : ∀ (j : Nat) c, l[j]? = some c → j < i.toNat → plainC c) {c : UInt8} (hc : l[i.toNat]? = some c) (hp : plainC c) : ∀ (j : Nat) c, l[j]? = some c → j < (i + 1).toNat → plainC c := fun j d hd hj => by
  by_cases hji : j = i.toNat
  · subst hji; rw [hc] at hd; cases hd; exact hp
  · exact h1 j d hd (by omega)
def plainS (l : List UInt8) : Prop := (∀ c, c ∈ l → plainC c) ∧ 1 ≤ l.length ∧ l.length ≤ 200

set_option maxRecDepth 100000 in
theorem plain_any (l : List UInt8) (hl : l.length ≤ maxLen) (w : World) :
    Calls Try.prog 7 #[st8 l] w fun e w' => ∃ x : {b : Bool // b = true ↔ plainS l}, e = .returned (.bool x.1) ∧ Below w.heap.size w w' := by
 have hmax : maxLen = 9223372036854775807 := rfl
 have hsz := size_mk l
 refine fn_intro Try.func7 rfl Try.ntmps7 rfl rfl ?_
 refine s_ (o_ ?_)
 refine xg 1 [] rfl rfl ?_
 refine n_ (t_ (s_ (s_ (o_ ?_))))
 refine xg 1 [] rfl rfl ?_
 refine n_ (t_ (g_block ?_))
 refine g_loop (α := {x : Int // 0 ≤ x ∧ x ≤ l.length ∧ ∀ (j : Nat) c, l[j]? = some c → j < x.toNat → plainC c}) (fun x => [(0, st8 l), (3, .int .i64 x.1)]) (fun x => St w [] []) (fun x => (l.length : Int).toNat - x.1.toNat) ⟨0, by omega, by omega, fun _ _ _ h => by omega⟩ [0, 3] rfl (fun w h => h.pick [] rfl) ?_
 rintro ⟨i, hi0, hi1, hpl⟩
 dsimp only
 refine s_ (s_ (o_ ?_))
 refine xg 4 [0] rfl rfl ?_
 refine n_ (t_ ?_)
 refine g_casep 8 rfl (fun h1 => ?_) fun h1 => ?_
 ·try rw [hsz] at h1
  refine g_cond_t rfl (g_skip (t_ (s_ (g_block (s_ (o_ ?_))))))
  refine xg 2 [] rfl rfl ?_
  obtain ⟨c, hc, hc8⟩ := st8_get (show i.toNat < l.length by omega)
  refine g_val rfl rfl rfl (y_sidxI rfl rfl Try.underlying9 hi0 hc8) ?_
  have hc256 := c.toNat_lt
  refine xg 1 [] rfl rfl ?_
  refine ntso_ ?_
  refine xg 3 [0] rfl rfl ?_
  refine g_casep 16 rfl (fun h2 => ?_) fun h2 => ?_
  ·try rw [hsz] at h2
   refine xg 7 [0] rfl rfl ?_
   refine g_casep 23 rfl (fun h3 => ?_) fun h3 => ?_
   ·try rw [hsz] at h3
    refine xg 8 [0] rfl rfl ?_
    refine g_casep 31 rfl (fun h4 => ?_) fun h4 => ?_
    ·try rw [hsz] at h4
     refine xg 4 [] rfl rfl ?_
     refine n_ (t_ (g_cond_t rfl (s_ (o_ ?_))))
     refine xg 1 [] rfl rfl ?_
     refine n_ (t_ (g_ret (g_in_ret (g_then_ret (g_then_ret (g_in_ret (g_then_ret ?_)))))))
     refine g_end1 Try.results7 rfl ?_
     exact fun w hS => ⟨⟨false, ⟨fun h => (by cases h), fun h => absurd (h.1 c (List.mem_of_getElem? hc)) (by unfold plainC; omega)⟩⟩, rfl, hS.below⟩
    try rw [hsz] at h4
    refine xg 4 [0] rfl rfl ?_
    refine n_ (t_ ?_)
    refine g_casep 35 rfl (fun h5 => ?_) fun h5 => ?_
    ·try rw [hsz] at h5
     refine g_cond_t rfl (s_ (o_ ?_))
     refine xg 1 [] rfl rfl ?_
     refine n_ (t_ (g_ret (g_in_ret (g_then_ret (g_then_ret (g_in_ret (g_then_ret ?_)))))))
     refine g_end1 Try.results7 rfl ?_
     exact fun w hS => ⟨⟨false, ⟨fun h => (by cases h), fun h => absurd (h.1 c (List.mem_of_getElem? hc)) (by unfold plainC; omega)⟩⟩, rfl, hS.below⟩
    try rw [hsz] at h5
    refine g_cond_f rfl (g_skip (g_in_normal (t_ (o_ ?_))))
    refine xg 3 [] rfl (by omega) ?_
    refine n_ ?_
    exact g_again ⟨i + 1, by omega, by omega, plain_step hi0 hpl hc (by unfold plainC; omega)⟩ [0, 3] (by dsimp only; omega) rfl (fun w h => h.pick [] rfl)
   try rw [hsz] at h3
   refine xg 5 [0] rfl rfl ?_
   refine g_casep 28 rfl (fun h6 => ?_) fun h6 => ?_
   ·try rw [hsz] at h6
    refine xg 3 [0] rfl rfl ?_
    refine g_casep 31 rfl (fun h7 => ?_) fun h7 => ?_
    ·try rw [hsz] at h7
     refine xg 4 [] rfl rfl ?_
     refine n_ (t_ (g_cond_t rfl (s_ (o_ ?_))))
     refine xg 1 [] rfl rfl ?_
     refine n_ (t_ (g_ret (g_in_ret (g_then_ret (g_then_ret (g_in_ret (g_then_ret ?_)))))))
     refine g_end1 Try.results7 rfl ?_
     exact fun w hS => ⟨⟨false, ⟨fun h => (by cases h), fun h => absurd (h.1 c (List.mem_of_getElem? hc)) (by unfold plainC; omega)⟩⟩, rfl, hS.below⟩
    try rw [hsz] at h7
    refine xg 4 [0] rfl rfl ?_
    refine n_ (t_ ?_)
    refine g_casep 35 rfl (fun h8 => ?_) fun h8 => ?_
    ·try rw [hsz] at h8
     refine g_cond_t rfl (s_ (o_ ?_))
     refine xg 1 [] rfl rfl ?_
     refine n_ (t_ (g_ret (g_in_ret (g_then_ret (g_then_ret (g_in_ret (g_then_ret ?_)))))))
     refine g_end1 Try.results7 rfl ?_
     exact fun w hS => ⟨⟨false, ⟨fun h => (by cases h), fun h => absurd (h.1 c (List.mem_of_getElem? hc)) (by unfold plainC; omega)⟩⟩, rfl, hS.below⟩
    try rw [hsz] at h8
    refine g_cond_f rfl (g_skip (g_in_normal (t_ (o_ ?_))))
    refine xg 3 [] rfl (by omega) ?_
    refine n_ ?_
    exact g_again ⟨i + 1, by omega, by omega, plain_step hi0 hpl hc (by unfold plainC; omega)⟩ [0, 3] (by dsimp only; omega) rfl (fun w h => h.pick [] rfl)
   try rw [hsz] at h6
   refine xg 7 [] rfl rfl ?_
   refine n_ (t_ (g_cond_f rfl (g_skip (g_in_normal (t_ (o_ ?_))))))
   refine xg 3 [] rfl (by omega) ?_
   refine n_ ?_
   exact g_again ⟨i + 1, by omega, by omega, plain_step hi0 hpl hc (by unfold plainC; omega)⟩ [0, 3] (by dsimp only; omega) rfl (fun w h => h.pick [] rfl)
  try rw [hsz] at h2
  refine xg 4 [0] rfl rfl ?_
  refine g_casep 20 rfl (fun h9 => ?_) fun h9 => ?_
  ·try rw [hsz] at h9
   refine xg 3 [0] rfl rfl ?_
   refine g_casep 23 rfl (fun h10 => ?_) fun h10 => ?_
   ·try rw [hsz] at h10
    refine xg 8 [0] rfl rfl ?_
    refine g_casep 31 rfl (fun h11 => ?_) fun h11 => ?_
    ·try rw [hsz] at h11
     refine xg 4 [] rfl rfl ?_
     refine n_ (t_ (g_cond_t rfl (s_ (o_ ?_))))
     refine xg 1 [] rfl rfl ?_
     refine n_ (t_ (g_ret (g_in_ret (g_then_ret (g_then_ret (g_in_ret (g_then_ret ?_)))))))
     refine g_end1 Try.results7 rfl ?_
     exact fun w hS => ⟨⟨false, ⟨fun h => (by cases h), fun h => absurd (h.1 c (List.mem_of_getElem? hc)) (by unfold plainC; omega)⟩⟩, rfl, hS.below⟩
    try rw [hsz] at h11
    refine xg 4 [0] rfl rfl ?_
    refine n_ (t_ ?_)
    refine g_casep 35 rfl (fun h12 => ?_) fun h12 => ?_
    ·try rw [hsz] at h12
     refine g_cond_t rfl (s_ (o_ ?_))
     refine xg 1 [] rfl rfl ?_
     refine n_ (t_ (g_ret (g_in_ret (g_then_ret (g_then_ret (g_in_ret (g_then_ret ?_)))))))
     refine g_end1 Try.results7 rfl ?_
     exact fun w hS => ⟨⟨false, ⟨fun h => (by cases h), fun h => absurd (h.1 c (List.mem_of_getElem? hc)) (by unfold plainC; omega)⟩⟩, rfl, hS.below⟩
    try rw [hsz] at h12
    refine g_cond_f rfl (g_skip (g_in_normal (t_ (o_ ?_))))
    refine xg 3 [] rfl (by omega) ?_
    refine n_ ?_
    exact g_again ⟨i + 1, by omega, by omega, plain_step hi0 hpl hc (by unfold plainC; omega)⟩ [0, 3] (by dsimp only; omega) rfl (fun w h => h.pick [] rfl)
   try rw [hsz] at h10
   refine xg 5 [0] rfl rfl ?_
   refine g_casep 28 rfl (fun h13 => ?_) fun h13 => ?_
   ·try rw [hsz] at h13
    refine xg 3 [0] rfl rfl ?_
    refine g_casep 31 rfl (fun h14 => ?_) fun h14 => ?_
    ·try rw [hsz] at h14
     refine xg 4 [] rfl rfl ?_
     refine n_ (t_ (g_cond_t rfl (s_ (o_ ?_))))
     refine xg 1 [] rfl rfl ?_
     refine n_ (t_ (g_ret (g_in_ret (g_then_ret (g_then_ret (g_in_ret (g_then_ret ?_)))))))
     refine g_end1 Try.results7 rfl ?_
     exact fun w hS => ⟨⟨false, ⟨fun h => (by cases h), fun h => absurd (h.1 c (List.mem_of_getElem? hc)) (by unfold plainC; omega)⟩⟩, rfl, hS.below⟩
    try rw [hsz] at h14
    refine xg 4 [0] rfl rfl ?_
    refine n_ (t_ ?_)
    refine g_casep 35 rfl (fun h15 => ?_) fun h15 => ?_
    ·try rw [hsz] at h15
     refine g_cond_t rfl (s_ (o_ ?_))
     refine xg 1 [] rfl rfl ?_
     refine n_ (t_ (g_ret (g_in_ret (g_then_ret (g_then_ret (g_in_ret (g_then_ret ?_)))))))
     refine g_end1 Try.results7 rfl ?_
     exact fun w hS => ⟨⟨false, ⟨fun h => (by cases h), fun h => absurd (h.1 c (List.mem_of_getElem? hc)) (by unfold plainC; omega)⟩⟩, rfl, hS.below⟩
    try rw [hsz] at h15
    refine g_cond_f rfl (g_skip (g_in_normal (t_ (o_ ?_))))
    refine xg 3 [] rfl (by omega) ?_
    refine n_ ?_
    exact g_again ⟨i + 1, by omega, by omega, plain_step hi0 hpl hc (by unfold plainC; omega)⟩ [0, 3] (by dsimp only; omega) rfl (fun w h => h.pick [] rfl)
   try rw [hsz] at h13
   refine xg 7 [] rfl rfl ?_
   refine n_ (t_ (g_cond_f rfl (g_skip (g_in_normal (t_ (o_ ?_))))))
   refine xg 3 [] rfl (by omega) ?_
   refine n_ ?_
   exact g_again ⟨i + 1, by omega, by omega, plain_step hi0 hpl hc (by unfold plainC; omega)⟩ [0, 3] (by dsimp only; omega) rfl (fun w h => h.pick [] rfl)
  try rw [hsz] at h9
  refine xg 15 [] rfl rfl ?_
  refine n_ (t_ (g_cond_f rfl (g_skip (g_in_normal (t_ (o_ ?_))))))
  refine xg 3 [] rfl (by omega) ?_
  refine n_ ?_
  exact g_again ⟨i + 1, by omega, by omega, plain_step hi0 hpl hc (by unfold plainC; omega)⟩ [0, 3] (by dsimp only; omega) rfl (fun w h => h.pick [] rfl)
 try rw [hsz] at h1
 refine g_cond_f rfl (g_exit (g_then_exit (g_then_exit (g_in_exit (t_ (s_ (o_ ?_)))))))
 refine xg 4 [0] rfl rfl ?_
 refine g_casep 39 rfl (fun h16 => ?_) fun h16 => ?_
 ·try rw [hsz] at h16
  refine xg 5 [0] rfl rfl ?_
  refine n_ (t_ (g_ret ?_))
  refine g_end1 Try.results7 rfl ?_
  refine fun w hS => ⟨⟨_, ?_⟩, rfl, hS.below⟩
  have hall : ∀ c, c ∈ l → plainC c := fun c hc => by
    obtain ⟨j, hj, rfl⟩ := List.mem_iff_getElem.1 hc
    exact hpl j _ (List.getElem?_eq_getElem hj) (by omega)
  unfold plainS
  first | exact ⟨fun h => (by cases h), fun h => absurd h.2.1 (by omega)⟩ | (show decide (((⟨l.toArray⟩ : ByteArray).size : Int) ≤ 200) = true ↔ _; rw [decide_eq_true_eq]; exact ⟨fun h => ⟨hall, by omega, by omega⟩, fun h => by have := h.2.2; omega⟩)
 try rw [hsz] at h16
 refine xg 5 [] rfl rfl ?_
 refine n_ (t_ (g_ret ?_))
 refine g_end1 Try.results7 rfl ?_
 refine fun w hS => ⟨⟨_, ?_⟩, rfl, hS.below⟩
 have hall : ∀ c, c ∈ l → plainC c := fun c hc => by
   obtain ⟨j, hj, rfl⟩ := List.mem_iff_getElem.1 hc
   exact hpl j _ (List.getElem?_eq_getElem hj) (by omega)
 unfold plainS
 first | exact ⟨fun h => (by cases h), fun h => absurd h.2.1 (by omega)⟩ | (show decide (((⟨l.toArray⟩ : ByteArray).size : Int) ≤ 200) = true ↔ _; rw [decide_eq_true_eq]; exact ⟨fun h => ⟨hall, by omega, by omega⟩, fun h => by have := h.2.2; omega⟩)

end Go.Proofs.Ytpoelkfncpjmfaa
