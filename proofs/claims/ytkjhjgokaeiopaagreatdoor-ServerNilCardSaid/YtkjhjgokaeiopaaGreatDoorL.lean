/-
  From a walk to a law's row: the arguments read as they did.
-/
import Derived.Test.YtkjhjgokaeiopaaGreatDoorRows
import Derived.WalkKit
import Derived.ProofKit
import Derived.OpenShut
import Derived.Below
import Derived.Carry
import Derived.Deep.Slices
import Derived.Test.YtkjhjgokaeiopaaGreatDoorB
namespace Go.Proofs.YtkjhjgokaeiopaaGreatDoor
open Go.ChangeShapes Go.WideShapes Go.ChangeAt Go.RowKit
section
variable {H : Type} {enc : TypeId × Value → H} {P : Program}

theorem trodAll_below {W W' : World} (hl : laidOutB P = true) (hb : Below W.heap.size W W') : ∀ (ts : List TypeId) (vs : List Value) (ds : List (DataW H)) (ps : List MemPlace),
    ts.all (fun t => P.readableRec t && decide (t < P.types.size)) = true → (∀ x ∈ ps, x.block < W.heap.size) → DataW.TrodAll enc P W 0 (fun _ => true) true ts vs ds ps →
    DataW.TrodAll enc P W' 0 (fun b => decide (b < W.heap.size)) true ts vs ds ps := by
  intro ts
  induction ts with
  | nil =>
    intro vs ds ps _ _ h
    cases vs <;> cases ds <;> simp_all [DataW.TrodAll]
  | cons t ts ih =>
    intro vs ds ps hr hlt h
    cases vs with
    | nil => simp [DataW.TrodAll] at h
    | cons v vs =>
      cases ds with
      | nil => simp [DataW.TrodAll] at h
      | cons d ds =>
        obtain ⟨p, q, h1, h2, rfl⟩ := h
        simp only [List.all_cons, Bool.and_eq_true, decide_eq_true_eq] at hr
        exact ⟨p, q, Below.trod hl hr.1.1 hr.1.2 h1 hb (fun x hx => hlt x (List.mem_append_left _ hx)), ih vs ds q (by simpa using hr.2) (fun x hx => hlt x (List.mem_append_right _ hx)) h2, rfl⟩

theorem law_post {f : Func} {s : ChangeSpec} {W W' : World} {args : Array Value} {ds : List (DataW H)} {before : List MemPlace} {tb : TypeId}
    (hW : DataW.Whole enc P f.params.toList s.vars false W args.toList ds [] before) (hv : s.vars = []) (hl : laidOutB P = true) (hr : f.params.toList.all (fun t => P.readableRec t && decide (t < P.types.size)) = true)
    (hrt : f.resultTypes = #[tb]) (htb : P.underlying tb = some .bool) (hs : s.fn H (ds ++ []) = { results := [.lit (.bool true)], args := ds }) (hb : Below W.heap.size W W') :
    s.post enc P f false true false false W args (.bool true) W' := by
  have hlt := hW.lt
  have hW' := hW
  obtain ⟨p, q, hA, hV, rfl, hfz, hnd⟩ := hW
  refine ⟨ds, [], p ++ q, [], p, [], hW', ?_, ?_, ?_, hb.frame _, fun h => by cases h⟩
  · rw [hs, hrt]
    exact trodAll_cons_mk (shut_bool htb _) trodAll_mk0
  · rw [hs]
    exact trodAll_below hl hb _ _ _ _ hr (fun x hx => hlt x (List.mem_append_left _ hx)) hA
  · rw [hs, hv]
    rfl

theorem rd_struct {r : Reach} {b0 base : Nat} {spare : Nat → Bool} {held : Bool} {W : World} {t : TypeId} {fs : Array Field} {v : Value} {d : DataW H} {p : List MemPlace} (ht : P.underlying t = some (.struct fs)) (hv : Value.okWide P W r b0 t v) (h : DataW.Trod enc P W base spare held t v d p) :
    ∃ l : List Value, v = .agg l.toArray ∧ l.length = P.cellsOf t ∧ ∃ n, ∀ (j : Nat) (f : Field), fs[j]? = some f → ∀ o s ty, f.offset = o → P.cellsOf f.type = s → f.type = ty → ∃ y, DataW.trod enc P W base spare held n ty ((l.drop o).take s) = some y := by
  obtain ⟨cs, rfl, hsz⟩ := okWide_struct ht hv
  obtain ⟨fuel, hf⟩ := h
  obtain ⟨xs, n, _, hx, hl, hlen, hg⟩ := DataW.trod_struct ht hf
  refine ⟨cs.toList, by simp, by simpa using hsz, n, fun j f hj o s ty ho hs hty => ?_⟩
  subst ho hs hty
  have hjl : j < fs.size := (Array.getElem?_eq_some_iff.1 hj).1
  exact ⟨xs[j]'(by omega), by rw [← List.getElem?_eq_getElem]; exact hg j f hj⟩
theorem list4 {α : Type} {l : List α} (h : l.length = 4) : ∃ a b c d, l = [a, b, c, d] := by
  match l, h with | [a, b, c, d], _ => exact ⟨a, b, c, d, rfl⟩
theorem list5 {α : Type} {l : List α} (h : l.length = 5) : ∃ a b c d e, l = [a, b, c, d, e] := by
  match l, h with | [a, b, c, d, e], _ => exact ⟨a, b, c, d, e, rfl⟩
theorem list2 {α : Type} {l : List α} (h : l.length = 2) : ∃ a b, l = [a, b] := by
  match l, h with | [a, b], _ => exact ⟨a, b, rfl⟩

theorem block_add (a : Addr) (k : Nat) : (a.add k).block = a.block := by unfold Addr.add; split <;> rfl
/-- A slice of elements of one cell each, that is only read. -/
theorem rd_slice {r : Reach} {b0 base : Nat} {spare : Nat → Bool} {held : Bool} {W : World} {t e : TypeId} {v : Value} {d : DataW H} {p : List MemPlace} {α : Type} [Inhabited α] (val : α → Value) (ht : P.underlying t = some (.slice e)) (hc : P.cellsOf e = 1)
    (hel : ∀ (n : Nat) (cs : List Value) (y : DataW H × List MemPlace), DataW.trod enc P W base spare held n e cs = some y → ∃ x, cs = [val x]) (hv : Value.okWide P W r b0 t v) (h : DataW.Trod enc P W base spare held t v d p) :
    ∃ (q : Option Addr) (n c : Nat) (g : Nat → α), v = .slice q n c ∧ n ≤ maxLen ∧ RdSl W q n 1 (fun i _ => val (g i)) := by
  obtain ⟨a0, n0, c0, rfl⟩ := okWide_slice ht hv
  obtain ⟨fuel, hf⟩ := h
  rcases Go.Deep.open_slice ht hf with ⟨hcs, _⟩ | ⟨a, len, cap, m, n, D, Pl, hcs, hb, hl, hm, hmm, hx, hi⟩
  · simp only [Value.cells, List.cons.injEq, Value.slice.injEq, and_true] at hcs
    obtain ⟨rfl, rfl, rfl⟩ := hcs
    exact ⟨none, 0, 0, fun _ => default, rfl, by simp, ⟨fun h => absurd h (by simp), fun h => absurd h (by simp), fun i j h => absurd h (by simp)⟩⟩
  · simp only [Value.cells, List.cons.injEq, Value.slice.injEq, and_true] at hcs
    obtain ⟨rfl, rfl, rfl⟩ := hcs
    have hlm : n0 ≤ m := by rw [hmm]; split <;> omega
    have key : ∀ i, i < n0 → ∃ x, W.cell? (a.add i) = some (val x) := by
      intro i hin
      obtain ⟨cs', h1, h2⟩ := hi i (by omega)
      obtain ⟨x, rfl⟩ := hel _ _ _ h2
      rw [hc] at h1
      obtain ⟨_, _, h3⟩ := World.cells?_some h1
      have := h3 0 (by omega)
      simp only [Nat.mul_one] at this
      refine ⟨x, ?_⟩
      have e0 : (a.add i).add 0 = a.add i := by simp [Addr.add]
      rw [e0] at this
      simpa using this
    refine ⟨some a, n0, c0, fun i => if hlt : i < n0 then Classical.choose (key i hlt) else default, rfl, by omega, ⟨fun _ => rfl, fun h0 => ?_, fun i j hi' hj => ?_⟩⟩
    · obtain ⟨x, hx'⟩ := key 0 h0
      have := block_lt_of_cell hx'
      rw [block_add] at this
      exact this
    · obtain rfl : j = 0 := by omega
      simp only [Nat.mul_one, Nat.add_zero, Option.getD_some]
      rw [dif_pos hi']
      exact Classical.choose_spec (key i hi')
theorem u8_of {z : Int} (h : (Lit.int .u8 z).wf = true) : ∃ d : UInt8, z = (d.toNat : Int) := by
  have hb : 0 ≤ z ∧ z ≤ 255 := by
    simp [Lit.wf, IntKind.min, IntKind.max, IntKind.signed, IntKind.bits] at h
    omega
  refine ⟨UInt8.ofNat z.toNat, ?_⟩
  rw [UInt8.toNat_ofNat']
  omega
theorem i64_of {z : Int} (h : (Lit.int .i64 z).wf = true) : -9223372036854775808 ≤ z ∧ z ≤ 9223372036854775807 := by
  simp [Lit.wf, IntKind.min, IntKind.max, IntKind.signed, IntKind.bits] at h
  omega
end
end Go.Proofs.YtkjhjgokaeiopaaGreatDoor
