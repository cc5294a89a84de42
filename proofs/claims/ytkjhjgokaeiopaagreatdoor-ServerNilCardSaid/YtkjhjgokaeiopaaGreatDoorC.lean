/-
  The logic's laws: rows that grow; bytes.
-/
import Derived.Test.YtkjhjgokaeiopaaGreatDoorB
import Derived.Maps.AppendAt
import Derived.Laws.BytesString
namespace Go.Proofs.YtkjhjgokaeiopaaGreatDoor
open Go Go.RowKit

section
variable {P : Program} {N : Nat} {R : Regs} {W0 : World} {F : List Nat} {L : List Ent} {Q : Exit → Act → World → Prop} {ops : Array Oper} {rest : List Oper} {X : Act → World → Prop} {S : World → Prop}
variable {dst : Option Tmp} {ty t e : TypeId} {pos : String} {af : Array Edge} {gd : Option (Nat × Bool)} {x y : Operand}

/-- A nil slice is a row. -/
theorem St.nilRow {w : World} (h : St W0 F L w) (e : TypeId) (size : Nat) : St W0 F (.row e size (.slice none 0 0) 0 [] :: L) w :=
  ⟨h.os, h.tape, h.output, h.size, h.keep, fun x hx => (List.mem_cons.1 hx).elim (fun q => q ▸ w.ownsRow_nil 0 e size) (h.ok x), fun x hx k hk => (List.mem_cons.1 hx).elim (fun q => by subst q; simp [Ent.fp, Value.ownBlock] at hk) (fun q => h.own x q k hk),
    List.pairwise_cons.2 ⟨fun y _ k hk => by simp [Ent.fp, Value.ownBlock] at hk, h.apart⟩⟩
theorem g_nilRow (e : TypeId) (size : Nat) (h : G N R (St W0 F (.row e size (.slice none 0 0) 0 [] :: L)) X) : G N R (St W0 F L) X := h.weaken fun _ hS => hS.nilRow e size
/-- A new block of cells is a row. -/
theorem row_of_cells {w : World} {b n size : Nat} {cs : List Value} (h : w.heap[b]? = some (.cells cs.toArray e (0, 0))) (hl : cs.length = n * size) (hn : n ≤ maxLen) : w.ownsRow 0 e size (.slice (some ⟨b, 0, none⟩) n n) n cs :=
  ⟨hl, .inr ⟨b, n, cs.toArray, rfl, Nat.zero_le _, h, Nat.le_refl _, hn, by simpa using hl, by rw [← hl]; simp⟩⟩

/-- What a type's row of the table says, as append asks it. -/
def elemInfo (P : Program) (e : TypeId) : Option (Nat × Nat) := match P.info? e with
  | some i => match i.zero with
    | some z => if z.cells.size = i.size then if i.size = 0 then none else some (i.size, i.bytes) else none
    | none => none
  | none => none
theorem elemInfo_spec {size bytes : Nat} (h : elemInfo P e = some (size, bytes)) : ∃ i z, P.info? e = some i ∧ i.zero = some z ∧ i.size = size ∧ i.bytes = bytes ∧ z.cells.size = size ∧ 0 < size := by
  unfold elemInfo at h
  split at h
  · rename_i i hi
    split at h
    · rename_i z hz
      split at h
      · rename_i h1
        split at h
        · cases h
        · rename_i h2
          simp only [Option.some.injEq, Prod.mk.injEq] at h
          exact ⟨i, z, hi, hz, h.1, h.2, by omega, by omega⟩
      · cases h
    · cases h
  · cases h

/-- append: to a row that is owned, the cells of another slice. -/
theorem g_append {d : Nat} {tt : TypeId} {size bytes n m c : Nat} {v : Value} {xs news : List Value} {ad : Addr} (i : Nat)
    (hw : want ops R ⟨some d, .call { callee := .builtin .append, args := #[x, y], argTypes := #[tt, tt] }, ty, pos, af, gd⟩ = some true) (hN : Nat.blt d N = true)
    (hx : ev R x = some v) (hy : ev R y = some (.slice (some ad) m c)) (ht : P.underlying tt = some (.slice e)) (he : elemInfo P e = some (size, bytes))
    (hi : L[i]? = some (.row e size v n xs)) (hl : news.length = m * size) (hnews : ∀ w, St W0 F L w → ∀ j u, news[j]? = some u → w.cell? (ad.add j) = some u) (h1 : news.all (·.oneCell') = true)
    (hb : (n + m) * bytes ≤ 140737488355328) (h63 : n + m ≤ maxLen)
    (h : ∀ v', G N ((d, v') :: R) (St W0 F (L.set i (.row e size v' (n + m) (xs ++ news)))) (wpList P ops Q rest)) :
    G N R (St W0 F L) (wpList P ops Q (⟨some d, .call { callee := .builtin .append, args := #[x, y], argTypes := #[tt, tt] }, ty, pos, af, gd⟩ :: rest)) :=
  g_one hw fun _ a w hR hS hK => by
    obtain ⟨inf, z, q1, q2, q3, q4, q5, q6⟩ := elemInfo_spec he
    have hown : w.ownsRow 0 e size v n xs := hS.get hi
    obtain ⟨v', w', hr, ho, hg, _, hbl⟩ := run_append_own_at (P := P) w 0 tt ty e inf z size bytes ht q1 q2 q3 q4 q5 q6 v n xs hown ad m c news hl (hnews w hS) (fun u hu => by simpa using List.all_eq_true.1 h1 u hu) h63 hb (Nat.zero_le _)
    refine Oper.wp_ok (w' := w') (v := v') ?_ (hK _ _ (h v' _ _ (hR.put hN) ?_))
    · simp [execOp, resolve, invoke, builtin, hR.eval hx, hR.eval hy, hr]
    · refine hS.write hi hg.os hg.tape hg.output hg.size (fun k hk hkf => hg.block k hk (fun q => hkf ?_)) ho (fun k hk => ?_)
      · show k ∈ v.ownBlock.toList
        rw [← q]; simp
      · have hk' : v'.ownBlock = some k := by
          have : k ∈ v'.ownBlock.toList := hk
          simpa using this
        rcases hbl with h2 | h2
        · left
          show k ∈ v.ownBlock.toList
          rw [← h2, hk']; simp
        · right
          rw [h2] at hk'
          simp at hk'
          omega
theorem news_of_cells {j b : Nat} {t' : TypeId} {cs : List Value} (hj : L[j]? = some (.cells b t' cs)) : ∀ w, St W0 F L w → ∀ k u, cs[k]? = some u → w.cell? ((⟨b, 0, none⟩ : Addr).add k) = some u := fun w hS k u hu => by
  rw [Addr.add_mid, Nat.zero_add]
  exact cell_ent hj hu w hS

/-! ### Bytes -/
def bcells (l : List UInt8) : List Value := l.map fun c => .int .u8 c.toNat
theorem bcells_append (a b : List UInt8) : bcells (a ++ b) = bcells a ++ bcells b := by simp [bcells]
theorem bcells_length (a : List UInt8) : (bcells a).length = a.length := by simp [bcells]
theorem bcells_one (l : List UInt8) : (bcells l).all (·.oneCell') = true := by
  rw [List.all_eq_true]; intro v hv
  simp only [bcells, List.mem_map] at hv
  obtain ⟨c, _, rfl⟩ := hv; rfl
/-- A []byte that is owned. -/
abbrev Ent.bytes (e : TypeId) (v : Value) (l : List UInt8) : Ent := .row e 1 v l.length (bcells l)
theorem g_nilBytes (e : TypeId) (h : G N R (St W0 F (.bytes e (.slice none 0 0) [] :: L)) X) : G N R (St W0 F L) X := g_nilRow e 1 h
/-- append of some bytes that lie in a new block. -/
theorem g_appB {d : Nat} {tt : TypeId} {m c b : Nat} {v : Value} {l l' : List UInt8} {cs : List Value} (i j : Nat)
    (hw : want ops R ⟨some d, .call { callee := .builtin .append, args := #[x, y], argTypes := #[tt, tt] }, ty, pos, af, gd⟩ = some true) (hN : Nat.blt d N = true)
    (hx : ev R x = some v) (hy : ev R y = some (.slice (some ⟨b, 0, none⟩) m c)) (ht : P.underlying tt = some (.slice e)) (he : elemInfo P e = some (1, 1))
    (hi : L[i]? = some (.bytes e v l)) (hj : L[j]? = some (.cells b e cs)) (hcs : cs = bcells l') (hm : l'.length = m) (hb : l.length + m ≤ 140737488355328)
    (h : ∀ v', G N ((d, v') :: R) (St W0 F (L.set i (.bytes e v' (l ++ l')))) (wpList P ops Q rest)) :
    G N R (St W0 F L) (wpList P ops Q (⟨some d, .call { callee := .builtin .append, args := #[x, y], argTypes := #[tt, tt] }, ty, pos, af, gd⟩ :: rest)) := by
  subst hcs
  refine g_append i hw hN hx hy ht he hi (by rw [bcells_length]; omega) (news_of_cells hj) (bcells_one l') (by omega) (by unfold maxLen; omega) fun v' => ?_
  have := h v'
  simp only [Ent.bytes, List.length_append, bcells_append, hm] at this
  exact this
theorem push_foldl (l : List UInt8) : ∀ b : ByteArray, (l.map fun c => (c.toNat : Int)).foldl (fun r n => r.push (UInt8.ofNat n.toNat)) b = ⟨b.data ++ l.toArray⟩ := by
  induction l with
  | nil => intro b; simp
  | cons c l ih =>
    intro b
    simp only [List.map_cons, List.foldl_cons]
    rw [ih]
    congr 1
    simp [ByteArray.push]
theorem run_bstr {w : World} {g cap : Nat} (l : List UInt8) (h : ∀ j c, l[j]? = some c → w.cell? ⟨g, j, none⟩ = some (.int .u8 c.toNat)) : (Conv.bytesToString (.slice (some ⟨g, 0, none⟩) l.length cap)).run P w = .ok (.string ⟨l.toArray⟩) w := by
  rw [run_bytesToString (P := P) w ⟨g, 0, none⟩ l.length cap (l.map fun c => (c.toNat : Int)) ?_]
  · rw [push_foldl]
    congr 2
    simp [ByteArray.empty, ByteArray.emptyWithCapacity]
    rfl
  · have := run_loadCells_list (P := P) w ⟨g, 0, none⟩ (bcells l) (fun j v hj => by
      rw [Addr.add_mid, Nat.zero_add]
      simp only [bcells, List.getElem?_map, Option.map_eq_some_iff] at hj
      obtain ⟨c, hc, rfl⟩ := hj
      exact h j c hc)
    rw [bcells_length] at this
    rw [this]
    simp [bcells]
theorem y_bytesStr {t' : TypeId} {v : Value} {l : List UInt8} (i : Nat) (hx : ev R x = some v) (ht : P.underlying t = some (.slice e)) (ht' : P.underlying t' = some .string) (hu : P.underlying e = some (.int .u8)) (hi : L[i]? = some (.bytes e v l)) :
    Yv P N R (St W0 F L) ⟨dst, .convert t t' x, ty, pos, af, gd⟩ (.string ⟨l.toArray⟩) := fun a w hR hS => by
  have hown : w.ownsRow 0 e 1 v l.length (bcells l) := hS.get hi
  obtain ⟨p0, n0, c0, rfl⟩ : ∃ p n c, v = .slice p n c := by
    rcases hown.2 with ⟨h1, _⟩ | ⟨g, cap, cur, h1, _⟩ <;> exact ⟨_, _, _, h1⟩
  have hr : (Conv.bytesToString (.slice p0 n0 c0)).run P w = .ok (.string ⟨l.toArray⟩) w := by
    rcases hown.2 with ⟨hv0, h0⟩ | ⟨g, cap, cur, hv0, _, hh, hcap, _, hsz, htk⟩
    · cases hv0
      have : l = [] := List.length_eq_zero_iff.1 h0
      subst this
      rfl
    · cases hv0
      refine run_bstr l fun j c hc => ?_
      rw [cell_of_row w g j cur e (0, 0) hh]
      have h2 : (bcells l)[j]? = some (.int .u8 c.toNat) := by simp [bcells, hc]
      rw [← htk, List.getElem?_take] at h2
      split at h2
      · simpa using h2
      · cases h2
  simp [execOp, hR.eval hx, convert, Sem.run_bind, run_underlying ht w, run_underlying ht' w, run_underlying hu w, hr]
/-- .. of a new block. -/
theorem y_cellsStr {t' : TypeId} {b m c : Nat} {l : List UInt8} {cs : List Value} (i : Nat) (hx : ev R x = some (.slice (some ⟨b, 0, none⟩) m c)) (ht : P.underlying t = some (.slice e)) (ht' : P.underlying t' = some .string) (hu : P.underlying e = some (.int .u8)) (hi : L[i]? = some (.cells b e cs)) (hcs : cs = bcells l) (hm : l.length = m) :
    Yv P N R (St W0 F L) ⟨dst, .convert t t' x, ty, pos, af, gd⟩ (.string ⟨l.toArray⟩) := fun a w hR hS => by
  subst hcs hm
  have hr : (Conv.bytesToString (.slice (some ⟨b, 0, none⟩) l.length c)).run P w = .ok (.string ⟨l.toArray⟩) w :=
    run_bstr l fun j ch hc => cell_ent hi (by simp [bcells, hc]) w hS
  simp [execOp, hR.eval hx, convert, Sem.run_bind, run_underlying ht w, run_underlying ht' w, run_underlying hu w, hr]
end
end Go.Proofs.YtkjhjgokaeiopaaGreatDoor
