/- The laws of tokens: the walks. -/
import Derived.Test.YtjafkmaolpkbnaaDoorTokN
namespace Go.Proofs.YtjafkmaolpkbnaaDoor
open Go Go.RowKit

theorem ba_ext {t : ByteArray} {l : List UInt8} (h : t.data.toList = l) : t = ⟨l.toArray⟩ := by
  subst h; cases t; simp
theorem mk_data (l : List UInt8) : (⟨l.toArray⟩ : ByteArray).data.toList = l := by simp
theorem app_data (a b : ByteArray) : (a ++ b).data.toList = a.data.toList ++ b.data.toList := by rw [ByteArray.data_append, Array.toList_append]
theorem from_zero (s : ByteArray) : from_ s 0 = s.data.toList := rfl
theorem from_app (a b : ByteArray) : from_ (a ++ b) a.size = b.data.toList := by
  unfold from_
  rw [app_data, List.drop_append_of_le_length (by rw [dlen]; omega), List.drop_eq_nil_iff.2 (by rw [dlen]; omega), List.nil_append]
def escL (d : UInt8) (l : List UInt8) : List UInt8 := l.flatMap fun c => if c = d ∨ c = 92 ∨ c = 10 then [92, c] else [c]
def wantL (l : List UInt8) : List UInt8 := l.flatMap fun c => if c = 92 ∨ c = 10 then [92, c] else [c]
theorem escL_nil (d : UInt8) : escL d [] = [] := rfl
theorem wantL_nil : wantL [] = [] := rfl
theorem escL_len (d : UInt8) (l : List UInt8) : (escL d l).length ≤ 2 * l.length := by
  unfold escL
  induction l with
  | nil => simp
  | cons c l ih => rw [List.flatMap_cons, List.length_append, List.length_cons]; split <;> simp only [List.length_cons, List.length_nil] <;> omega
theorem wantL_len (l : List UInt8) : (wantL l).length ≤ 2 * l.length := by
  unfold wantL
  induction l with
  | nil => simp
  | cons c l ih => rw [List.flatMap_cons, List.length_append, List.length_cons]; split <;> simp only [List.length_cons, List.length_nil] <;> omega
theorem cut_back (d : UInt8) (h1 : d ≠ 10) (h2 : d ≠ 92) (l r : List UInt8) : ∀ acc, cutM d true false (escL d l ++ d :: r) acc = some (acc ++ wantL l, r) := by
  induction l with
  | nil => intro acc; simp [escL, wantL, cutM]
  | cons c l ih =>
    intro acc
    have e1 : escL d (c :: l) = (if c = d ∨ c = 92 ∨ c = 10 then [92, c] else [c]) ++ escL d l := by simp [escL]
    have e2 : wantL (c :: l) = (if c = 92 ∨ c = 10 then [92, c] else [c]) ++ wantL l := by simp [wantL]
    rw [e1, e2]
    by_cases hc : c = d ∨ c = 92 ∨ c = 10
    · rw [if_pos hc]
      simp only [List.cons_append, List.nil_append]
      rw [cutM, if_neg (fun q => h2 q.symm), if_neg (by decide), if_pos rfl, cutM, if_neg (by simp)]
      by_cases hd : c = d
      · rw [if_pos hd, ih, if_neg (by rw [hd]; simp [h1, h2])]; simp
      · rw [if_neg hd, ih, if_pos (by simpa [hd] using hc)]; simp
    · rw [if_neg hc]
      simp only [not_or] at hc
      simp only [List.cons_append, List.nil_append]
      rw [cutM, if_neg hc.1, if_neg hc.2.2, if_neg hc.2.1, ih, if_neg (by simp [hc])]; simp
theorem cut_none (d : UInt8) (h2 : d ≠ 92) (l : List UInt8) : ∀ acc, cutM d true false (escL d l) acc = none := by
  induction l with
  | nil => intro acc; rfl
  | cons c l ih =>
    intro acc
    have e1 : escL d (c :: l) = (if c = d ∨ c = 92 ∨ c = 10 then [92, c] else [c]) ++ escL d l := by simp [escL]
    rw [e1]
    by_cases hc : c = d ∨ c = 92 ∨ c = 10
    · rw [if_pos hc]
      simp only [List.cons_append, List.nil_append]
      rw [cutM, if_neg (fun q => h2 q.symm), if_neg (by decide), if_pos rfl, cutM, if_neg (by simp)]
      exact ih _
    · rw [if_neg hc]
      simp only [not_or] at hc
      simp only [List.cons_append, List.nil_append]
      rw [cutM, if_neg hc.1, if_neg hc.2.2, if_neg hc.2.1]
      exact ih _
theorem back1 (d : UInt8) (h1 : d ≠ 10) (h2 : d ≠ 92) (l : List UInt8) (rest : ByteArray) : cutR ((⟨(escL d l).toArray⟩ : ByteArray) ++ (⟨[d].toArray⟩ : ByteArray) ++ rest) 0 d true = ((⟨(wantL l).toArray⟩ : ByteArray), ((escL d l).length : Int) + 1, (0 : Int)) := by
  rw [cutR, if_pos (by exact ⟨by omega, by omega, h1, h2⟩), from_zero, app_data, app_data, mk_data, mk_data, List.append_assoc, List.singleton_append, cut_back d h1 h2, finR, List.nil_append]
  have e : ((⟨(escL d l).toArray⟩ : ByteArray) ++ (⟨[d].toArray⟩ : ByteArray) ++ rest).size = (escL d l).length + 1 + rest.size := by rw [ByteArray.size_append, ByteArray.size_append, size_mk, size_mk]; rfl
  rw [e, dlen]
  first | (simp; done) | (simp; omega)
theorem back2 (d : UInt8) (h1 : d ≠ 10) (h2 : d ≠ 92) (l : List UInt8) : cutR (⟨(escL d l).toArray⟩ : ByteArray) 0 d true = ((⟨#[]⟩ : ByteArray), (0 : Int), (121 : Int)) := by
  rw [cutR, if_pos (by exact ⟨by omega, by omega, h1, h2⟩), from_zero, mk_data, cut_none d h2]; rfl
theorem esc_step (d : UInt8) (s : ByteArray) (i : Int) (h0 : 0 ≤ i) (h1 : i < s.size) (t : List UInt8) (r : List UInt8) (h : t ++ escL d (from_ s i) = r) : (t ++ (if by8 s i = d ∨ by8 s i = 92 ∨ by8 s i = 10 then [92] else [])) ++ [by8 s i] ++ escL d (from_ s (i + 1)) = r := by
  rw [← h, from_at s i h0 h1]
  simp only [escL, List.flatMap_cons]
  split <;> simp
theorem want_step (s : ByteArray) (i : Int) (h0 : 0 ≤ i) (h1 : i < s.size) (t : List UInt8) (r : List UInt8) (h : t ++ wantL (from_ s i) = r) : (t ++ (if by8 s i = 92 ∨ by8 s i = 10 then [92] else [])) ++ [by8 s i] ++ wantL (from_ s (i + 1)) = r := by
  rw [← h, from_at s i h0 h1]
  simp only [wantL, List.flatMap_cons]
  split <;> simp

end Go.Proofs.YtjafkmaolpkbnaaDoor
