/-
  A slice of structs as an argument, read.
-/
import Derived.Test.YtpoelkfncpjmfaaL
import Derived.Test.YtpoelkfncpjmfaaB
import Derived.DataElems
namespace Go.Proofs.Ytpoelkfncpjmfaa
open Go.ChangeShapes Go.WideShapes Go.ChangeAt Go.RowKit
section
variable {H : Type} {enc : TypeId × Value → H} {P : Program}
theorem rd_sliceN {r : Reach} {b0 base : Nat} {spare : Nat → Bool} {held : Bool} {W : World} {t e : TypeId} {v : Value} {d : DataW H} {p : List MemPlace} {α : Type} [Inhabited α] (sz : Nat) (val : α → Nat → Value) (hsz : 0 < sz) (ht : P.underlying t = some (.slice e)) (hc : P.cellsOf e = sz)
    (hel : ∀ (n : Nat) (cs : List Value) (y : DataW H × List MemPlace), DataW.trod enc P W base spare held n e cs = some y → cs.length = sz → ∃ x, ∀ j, j < sz → cs[j]? = some (val x j)) (hv : Value.okWide P W r b0 t v) (h : DataW.Trod enc P W base spare held t v d p) :
    ∃ (q : Option Addr) (n c : Nat) (g : Nat → α), v = .slice q n c ∧ n ≤ maxLen ∧ RdSl W q n sz (fun i j => val (g i) j) := by
  obtain ⟨a0, n0, c0, rfl⟩ := okWide_slice ht hv
  obtain ⟨fuel, hf⟩ := h
  rcases Go.Deep.open_slice ht hf with ⟨hcs, _⟩ | ⟨a, len, cap, m, n, D, Pl, hcs, hb, hl, hm, hmm, hx, hi⟩
  · simp only [Value.cells, List.cons.injEq, Value.slice.injEq, and_true] at hcs
    obtain ⟨rfl, rfl, rfl⟩ := hcs
    exact ⟨none, 0, 0, fun _ => default, rfl, by simp, ⟨fun h => absurd h (by simp), fun h => absurd h (by simp), fun i j h => absurd h (by simp)⟩⟩
  · simp only [Value.cells, List.cons.injEq, Value.slice.injEq, and_true] at hcs
    obtain ⟨rfl, rfl, rfl⟩ := hcs
    have hlm : n0 ≤ m := by rw [hmm]; split <;> omega
    have key : ∀ i, i < n0 → ∃ x, ∀ j, j < sz → W.cell? (a.add (i * sz + j)) = some (val x j) := by
      intro i hin
      obtain ⟨cs', h1, h2⟩ := hi i (by omega)
      rw [hc] at h1
      obtain ⟨_, hlen, h3⟩ := World.cells?_some h1
      obtain ⟨x, hx'⟩ := hel _ _ _ h2 hlen
      refine ⟨x, fun j hj => ?_⟩
      have := h3 j (by omega)
      rw [Addr.add_add] at this
      rw [this]
      exact hx' j hj
    refine ⟨some a, n0, c0, fun i => if hlt : i < n0 then Classical.choose (key i hlt) else default, rfl, by omega, ⟨fun _ => rfl, fun h0 => ?_, fun i j hi' hj => ?_⟩⟩
    · obtain ⟨x, hx'⟩ := key 0 h0
      have := block_lt_of_cell (hx' 0 hsz)
      rw [block_add] at this
      exact this
    · simp only [Option.getD_some]
      rw [dif_pos hi']
      exact Classical.choose_spec (key i hi') j hj
end
end Go.Proofs.Ytpoelkfncpjmfaa
