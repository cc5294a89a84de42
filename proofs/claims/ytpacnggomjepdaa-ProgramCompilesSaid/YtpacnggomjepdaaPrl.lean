/- Laws: fields and elements of slices that are read, appends of structs. -/
import Derived.Test.YtpacnggomjepdaaPrg
namespace Go.Proofs.Ytpacnggomjepdaa
open Go Go.RowKit

theorem add_add2 (a : Addr) (x y : Nat) : (a.add x).add y = a.add (x + y) := by
  unfold Addr.add
  cases a with
  | mk b o s => by_cases hx : x = 0 <;> by_cases hy : y = 0 <;> simp_all [Nat.add_assoc]
section
variable {P : Program} {N : Nat} {R : Regs} {S : World → Prop} {Q : Exit → Act → World → Prop} {ops : Array Oper} {rest : List Oper} {W0 : World} {F : List Nat} {L : List Ent} {X : Act → World → Prop}
variable {dst : Option Tmp} {ty t t' k e : TypeId} {pos : String} {af : Array Edge} {gd : Option (Nat × Bool)} {x y z : Operand} {o : Oper}
theorem y_fieldAt {t : TypeId} {i k a m : Nat} {p : Addr} (hx : ev R x = some (.pointer (some (p.add a)))) (hk : fieldOff P t i = some k) (hm : a + k = m) : Yv P N R S ⟨dst, .fieldAddr t x i, ty, pos, af, gd⟩ (.pointer (some (p.add m))) := fun a' w hR _ => by
  subst hm
  simp [execOp, hR.eval hx, run_fieldAt hk, add_add2]
theorem rd_cell {W : World} {p : Option Addr} {n sz : Nat} {f : Nat → Nat → Value} (hr : RdSl W p n sz f) {i j : Nat} (hi : i < n) (hj : j < sz) {L : List Ent} : ∀ w, St W [] L w → w.cell? ((p.getD default).add (i * sz + j)) = some (f i j) := fun w hS => by
  have hb := hr.blk (by omega)
  have hc := hr.cell i j hi hj
  rw [← hc]
  have e : ((p.getD default).add (i * sz + j)).block = (p.getD default).block := by unfold Addr.add; split <;> rfl
  exact World.cell?_of_block (w := W) (hS.keep _ (by rw [e]; exact hb) (by simp))
theorem y_rdField {t : TypeId} {p : Option Addr} {n sz j m : Nat} {i : Int} {f : Nat → Nat → Value} (hr : RdSl W0 p n sz f) (hx : ev R x = some (.pointer (some ((p.getD default).add m)))) (hm : i.toNat * sz + j = m) (ha : ∀ w, (isAgg t).run P w = .ok false w) (h0 : 0 ≤ i) (h1 : i < n) (hj : j < sz) :
    Yv P N R (St W0 [] L) ⟨dst, .load t x, ty, pos, af, gd⟩ (f i.toNat j) := by
  subst hm
  exact y_load1 hx ha (rd_cell hr (by omega) hj)
theorem y_rdAgg {t : TypeId} {p : Option Addr} {n sz : Nat} {i : Int} {f : Nat → Nat → Value} {vs : List Value} (hr : RdSl W0 p n sz f) (hx : ev R x = some (.pointer (some ((p.getD default).add (i.toNat * sz))))) (ha : ∀ w, (isAgg t).run P w = .ok true w) (hz : ∀ w, (sizeOf t).run P w = .ok sz w) (h0 : 0 ≤ i) (h1 : i < n) (hl : vs.length = sz) (hv : ∀ j, j < sz → vs[j]? = some (f i.toNat j)) :
    Yv P N R (St W0 [] L) ⟨dst, .load t x, ty, pos, af, gd⟩ (.agg vs.toArray) := fun a w hR hS => by
  have hl2 : (loadCells ((p.getD default).add (i.toNat * sz)) vs.length).run P w = .ok vs.toArray w :=
    run_loadCells_list (P := P) w _ vs (fun j v hj => by
      have hlt : j < vs.length := (List.getElem?_eq_some_iff.1 hj).1
      rw [add_add2, rd_cell hr (by omega) (by omega) w hS, ← hv j (by omega), hj])
  rw [hl] at hl2
  simp [execOp, hR.eval hx, Instr.loadAt, Instr.sureAddr, loadVar, Sem.run_bind, ha, hz, hl2]
/-- append: one struct more. -/
theorem g_appS {α : Type} (f : α → List Value) {d : Nat} {tt : TypeId} {size bytes cap : Nat} {v : Value} {cs : List α} {b j : Nat} {t' : TypeId} (c : α) (i : Nat)
    (hw : want ops R ⟨some d, .call { callee := .builtin .append, args := #[x, y], argTypes := #[tt, tt] }, ty, pos, af, gd⟩ = some true) (hN : Nat.blt d N = true)
    (hx : ev R x = some v) (hy : ev R y = some (.slice (some ⟨b, 0, none⟩) 1 cap)) (ht : P.underlying tt = some (.slice e)) (he : elemInfo P e = some (size, bytes))
    (hi : L[i]? = some (.row e size v cs.length (cs.flatMap f))) (hj : L[j]? = some (.cells b t' (f c))) (hl : ∀ a, (f a).length = size) (h1 : (f c).all (·.oneCell') = true)
    (hb : (cs.length + 1) * bytes ≤ 140737488355328) (h63 : cs.length + 1 ≤ maxLen)
    (h : ∀ v', G N ((d, v') :: R) (St W0 F (L.set i (.row e size v' (cs ++ [c]).length ((cs ++ [c]).flatMap f)))) (wpList P ops Q rest)) :
    G N R (St W0 F L) (wpList P ops Q (⟨some d, .call { callee := .builtin .append, args := #[x, y], argTypes := #[tt, tt] }, ty, pos, af, gd⟩ :: rest)) := by
  refine g_append (n := cs.length) (m := 1) (xs := cs.flatMap f) (news := f c) i hw hN hx hy ht he hi (by rw [hl]; omega) (news_of_cells hj) h1 hb h63 fun v' => ?_
  have e1 : (cs ++ [c]).length = cs.length + 1 := by simp
  have e2 : (cs ++ [c]).flatMap f = cs.flatMap f ++ f c := by simp
  have := h v'
  rwa [e1, e2] at this
/-- An owned row, as one that is read. -/
theorem rd_of_row {α : Type} [Inhabited α] (f : α → List Value) {w : World} {e : TypeId} {size n c : Nat} {p : Option Addr} {cs : List α} (hl : ∀ a, (f a).length = size) (hn : n = cs.length) (h : w.ownsRow 0 e size (.slice p n c) cs.length (cs.flatMap f)) : RdSl w p n size (fun i j => ((f (cs.getD i default))[j]?).getD default) := by
  subst hn
  refine ⟨fun hpos => ?_, fun hpos => ?_, fun i j hi hj => ?_⟩
  · obtain ⟨_, h2 | ⟨g, cap, cur, q, _⟩⟩ := h
    · omega
    · cases q; rfl
  · obtain ⟨_, h2 | ⟨g, cap, cur, q, _, q2, _⟩⟩ := h
    · omega
    · cases q; exact lt_of_some q2
  · have hg : cs[i]? = some (cs.getD i default) := by rw [List.getD_eq_getElem?_getD, List.getElem?_eq_getElem hi]; rfl
    have hv := fm_get f size hl cs i j _ hg hj
    have hjl : j < (f (cs.getD i default)).length := by rw [hl]; exact hj
    rw [List.getElem?_eq_getElem hjl] at hv ⊢
    have h' := h
    obtain ⟨q0, h2 | ⟨g, cap, cur, q, _⟩⟩ := h
    · omega
    · cases q
      have := row_cell h' hv
      simpa [Addr.add_mid] using this
end

end Go.Proofs.Ytpacnggomjepdaa
