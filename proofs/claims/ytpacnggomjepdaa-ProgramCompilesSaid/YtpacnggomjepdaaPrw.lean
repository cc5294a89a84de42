/- Briefs as arguments. -/
import Derived.Test.YtpacnggomjepdaaPrk
namespace Go.Proofs.Ytpacnggomjepdaa
open Go Go.RowKit
open Go.ChangeShapes Go.WideShapes Go.ChangeAt

theorem struct_key {H : Type} {enc : TypeId × Value → H} {P : Program} {t : TypeId} {fs : Array Field} {W : World} {base : Nat} {spare : Nat → Bool} {held : Bool} {n : Nat} {cs : List Value} {y : DataW H × List MemPlace} (ht : P.underlying t = some (.struct fs)) (h : DataW.trod enc P W base spare held n t cs = some y) :
    ∃ m, ∀ (j : Nat) (f : Field), fs[j]? = some f → ∀ o s ty, f.offset = o → P.cellsOf f.type = s → f.type = ty → ∃ y, DataW.trod enc P W base spare held m ty ((cs.drop o).take s) = some y := by
  obtain ⟨xs, m, _, _, _, hlen, hf⟩ := DataW.trod_struct ht h
  refine ⟨m, fun j f hjf o s ty ho hs hty => ?_⟩
  subst ho hs hty
  have hjl : j < fs.size := (Array.getElem?_eq_some_iff.1 hjf).1
  exact ⟨xs[j]'(by omega), by rw [← List.getElem?_eq_getElem]; exact hf j f hjf⟩
theorem brief_el {H : Type} {enc : TypeId × Value → H} {W : World} {base : Nat} {spare : Nat → Bool} {held : Bool} {n : Nat} {cs : List Value} {y : DataW H × List MemPlace} (h : DataW.trod enc Try.prog W base spare held n 58 cs = some y) (hl : cs.length = 4) :
    ∃ x : Br, ∀ j, j < 4 → cs[j]? = some (brF (fun _ => x) 0 j) := by
  obtain ⟨m, key⟩ := struct_key Try.underlying58 h
  obtain ⟨a, b, c, d, rfl⟩ := list4 hl
  obtain ⟨y0, e0⟩ := key 0 _ rfl 0 1 5 rfl (by kernel_rfl) rfl
  obtain ⟨nm, z0, _, _⟩ := DataW.trod_int Try.underlying5 e0
  obtain ⟨y1, e1⟩ := key 1 _ rfl 1 1 9 rfl (by kernel_rfl) rfl
  obtain ⟨tx, z1, _, _⟩ := DataW.trod_string Try.underlying9 e1
  obtain ⟨y2, e2⟩ := key 2 _ rfl 2 1 9 rfl (by kernel_rfl) rfl
  obtain ⟨fi, z2, _, _⟩ := DataW.trod_string Try.underlying9 e2
  obtain ⟨y3, e3⟩ := key 3 _ rfl 3 1 3 rfl (by kernel_rfl) rfl
  obtain ⟨ln, z3, _, _⟩ := DataW.trod_int Try.underlying3 e3
  obtain rfl : a = .int .u8 nm := by simpa using z0
  obtain rfl : b = .string tx := by simpa using z1
  obtain rfl : c = .string fi := by simpa using z2
  obtain rfl : d = .int .i64 ln := by simpa using z3
  exact ⟨⟨nm, tx, fi, ln⟩, fun j hj => by
    match j, hj with
    | 0, _ => rfl
    | 1, _ => rfl
    | 2, _ => rfl
    | 3, _ => rfl⟩

end Go.Proofs.Ytpacnggomjepdaa
