/- pattern.Parse, of texts without brackets, backslashes, anchors and braces. -/
import Derived.Test.YtpoelkfncpjmfaaPba
namespace Go.Proofs.Ytpoelkfncpjmfaa
open Go Go.RowKit

theorem g_end_cell2 {P : Program} {N : Nat} {R : Regs} {fn : Func} {Rr : Ending → World → Prop} {W0 : World} {F : List Nat} {L : List Ent} {t b n u : Nat} {ty t' : TypeId} {cs : List Value} {v : Value} (i : Nat) (hr : fn.results = #[.cell t ty, .tmp u]) (ht : R.lookup t = some (.pointer (some ⟨b, 0, none⟩))) (hu : R.lookup u = some v) (hi : L[i]? = some (.cells b t' cs))
    (ha : ∀ w, (isAgg ty).run P w = .ok true w) (hz : ∀ w, (sizeOf ty).run P w = .ok n w) (hn : cs.length = n) (h : ∀ w, St W0 F L w → Rr (.returned (.tuple #[.agg cs.toArray, v])) w) : G N R (St W0 F L) (bodyPost P fn Rr .ret) :=
  g_end (fun a w hR hS => by
    have e := run_row (P := P) (off := 0) (vs := cs) (hS.cells hi) ha hz (by rw [List.drop_zero, List.take_of_length_le (by omega)]) hn
    simp [results, hr, hR.getD ht, hR.getD hu, asAddr, e]) h
def zMT : MT := .mk 0 s0 0 0 0 nilS []
theorem tokB_len (c : UInt8) (ts : List Tok) (d : Int) : (tokB c ts d).1.length = ts.length + 1 := by unfold tokB; split <;> (try split) <;> (try split) <;> simp
theorem tokE_len (c : UInt8) (ts : List Tok) (d : Int) : (tokE c ts d).1.length = ts.length + 1 := by unfold tokE; (repeat' split) <;> simp
theorem tokF_len {f : UInt8 → List Tok → Int → List Tok × Int} (hf : ∀ c ts d, (f c ts d).1.length = ts.length + 1) : ∀ (l : List UInt8) (ts : List Tok) (d : Int) (ts' : List Tok), tokF f l ts d = some ts' → ts'.length = ts.length + l.length := by
  intro l
  induction l with
  | nil => intro ts d ts' h; simp only [tokF] at h; split at h; cases h; simp; cases h
  | cons c l ih =>
    intro ts d ts' h
    simp only [tokF] at h
    split at h
    · cases h
    · rw [ih _ _ _ h, hf, List.length_cons]; omega
def parR (f : UInt8 → List Tok → Int → List Tok × Int) (l0 : List UInt8) (x : MT × Int) : Prop :=
  (x = (zMT, 91) ∧ (l0 = [] ∨ 200 < l0.length ∨ tokF f l0 [] 0 = none ∨ ∃ ts t k g b, tokF f l0 [] 0 = some ts ∧ RAll ts 0 0 false t k g b ∧ (b = true ∨ k < ts.length))) ∨
  (x.2 = 0 ∧ ∃ ts k g, tokF f l0 [] 0 = some ts ∧ l0 ≠ [] ∧ l0.length ≤ 200 ∧ RAll ts 0 0 false x.1 k g false ∧ ts.length ≤ k)

end Go.Proofs.Ytpoelkfncpjmfaa
