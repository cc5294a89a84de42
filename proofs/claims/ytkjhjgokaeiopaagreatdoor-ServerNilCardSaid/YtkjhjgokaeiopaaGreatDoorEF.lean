/-
  The engine (6): what an operation yields that leaves memory alone, is so.
-/
import Derived.Test.YtkjhjgokaeiopaaGreatDoorEE
namespace Go.Proofs.YtkjhjgokaeiopaaGreatDoor.E
open Go Go.RowKit
section
variable {P : Program} {σ : Nat → Value} {ρ : Nm} {n : Nat} {rs : T V} {h : T O} {a : Act} {w : World} {tb : Tb}
variable {dst : Option Tmp} {ty t t' : TypeId} {pos : String} {af : Array Edge} {gd : Option (Nat × Bool)} {x y : Operand} {v : V} {o : Oper}
theorem ptrq_ok (hT : tb.ok P) {i : I} (hi : i.ok P t) {u v : V} {b : Bool} (hm : Mem σ ρ h w) (hq : ptrq tb i h u v = some b) :
    (Op.equal t (u.den σ ρ) (v.den σ ρ)).run P w = .ok b w ∧ ∀ op c, (op = .eql ∧ c = b ∨ op = .neq ∧ c = !b) → ∀ x y, (do eqGuard op t x y (u.den σ ρ) (v.den σ ρ); binOp op t (u.den σ ρ) (v.den σ ρ) : Sem Value).run P w = .ok (.bool c) w := by
  have hd := hi.d
  unfold ptrq at hq
  generalize hz : i.d = d at hq hd
  split at hq
  · rename_i e x p y q
    split at hq
    · rename_i ie he
      have hie := (hT _ _ he).sz
      cases hb : Nat.blt 0 ie.sz with
      | false => rw [hb] at hq; cases hq
      | true =>
        rw [hb] at hq
        have hsz : ie.sz ≠ 0 := by rw [Nat.blt_eq] at hb; omega
        have key : (Op.equal t (V.den σ ρ (.ptr x p)) (V.den σ ρ (.ptr y q))).run P w = .ok b w := by
          simp only [V.den]
          show (Op.equalIn (9999 + 1) t _ _).run P w = _
          rw [Op.equalIn]
          simp only [cond_true] at hq
          cases hxy : Nat.beq x y with
          | true =>
            rw [hxy] at hq
            obtain rfl := Nat.eq_of_beq_eq_true hxy
            simp only [cond_true, Option.some.injEq] at hq
            subst hq
            have e1 : decide ((ρ x).o + p = (ρ x).o + q) = Nat.beq p q := by rw [beq_dec]; simp
            simp [Sem.run_bind, run_underlying hd w, hie, hsz, sameAddr, ← e1]
            rw [Bool.eq_iff_iff]; simp
          | false =>
            rw [hxy] at hq
            simp only [cond_false] at hq
            cases hl : live h x && live h y with
            | false => rw [hl] at hq; cases hq
            | true =>
              rw [hl] at hq
              simp only [cond_true, Option.some.injEq] at hq
              subst hq
              rw [Bool.and_eq_true] at hl
              obtain ⟨e1, c1, g1⟩ := live_ok hm hl.1
              obtain ⟨e2, c2, g2⟩ := live_ok hm hl.2
              have hne := hm.apart _ _ _ _ g1 g2 (Nat.ne_of_beq_eq_false hxy)
              have o1 := hm.ok _ _ g1
              have o2 := hm.ok _ _ g2
              simp only [O.holds] at o1 o2
              simp [Sem.run_bind, run_underlying hd w, hie, hsz, sameAddr, hne, frozen, Sem.run, World.frozen?, o1.2, o2.2, noView, viewAt, shape, World.shape?, mayBeOne, stringish]
        refine ⟨key, fun op c ho x' y' => ?_⟩
        simp only [V.den] at key ⊢
        rcases ho with ⟨rfl, rfl⟩ | ⟨rfl, rfl⟩ <;> simp [eqGuard, binOp, key]
    · cases hq
  · cases hq
theorem binV_ok (hT : tb.ok P) (hr : RegsOk σ ρ n rs a.tmps) (hm : Mem σ ρ h w) {op : BinOp} (hv : binV P tb rs h ⟨dst, .binOp op t x y t', ty, pos, af, gd⟩ op t x y = some v) :
    (execOp a.eval ⟨dst, .binOp op t x y t', ty, pos, af, gd⟩).run P w = .ok (.value (v.den σ ρ)) w := by
  unfold binV at hv
  split at hv
  · rename_i k i k' j hx hy
    have hx' := ov_ok hr hx
    have hy' := ov_ok hr hy
    simp only [V.den] at hx' hy'
    cases hk : Nat.beq (kn k) (kn k') with
    | false => rw [hk] at hv; exact cv_ok hr hv
    | true =>
      rw [hk] at hv
      obtain rfl := kn_inj hk
      simp only [cond_true] at hv
      split at hv
      · rename_i u hb; cases hv; exact bi_ok hx' hy' hb
      · exact cv_ok hr hv
  · rename_i s u hx hy
    have hx' := ov_ok hr hx
    have hy' := ov_ok hr hy
    simp only [V.den] at hx' hy'
    split at hv
    · rename_i u hb; cases hv; exact bs_ok hx' hy' hb
    · exact cv_ok hr hv
  · exact cv_ok hr hv
  · rename_i u u' _ _ _ hx hy
    have hx' := ov_ok hr hx
    have hy' := ov_ok hr hy
    split at hv
    · rename_i i hi
      have hI := hT _ _ hi
      split at hv
      · rename_i b hq
        cases hc : b && !(isC x || isC y) with
        | true => rw [hc] at hv; cases hv
        | false =>
          rw [hc] at hv
          obtain ⟨c, rfl, ho⟩ := eqV_some hv
          simp only [V.den]
          refine run_binop hx' hy' (nil_guard hq x y fun hb => ?_) (nilq_bin hq (nil_eq i hI hq) ho)
          subst hb
          rw [← Bool.or_eq_true]; cases hq2 : isC x || isC y with
          | true => rfl
          | false => rw [hq2] at hc; cases hc
      · split at hv
        · rename_i b hq
          obtain ⟨c, rfl, ho⟩ := eqV_some hv
          have := (ptrq_ok hT hI hm hq).2 op c ho x y
          simp only [execOp, hx'.1, hy'.1]
          rw [Sem.run_bind, this]; simp [V.den]
        · exact cv_ok hr hv
    · exact cv_ok hr hv
  · cases hv
theorem lenV_ok (hT : tb.ok P) (hr : RegsOk σ ρ n rs a.tmps) (hm : Mem σ ρ h w) (hv : lenV P tb rs h ⟨dst, .call ⟨.builtin .len, #[x], #[t]⟩, ty, pos, af, gd⟩ x t = some v) :
    (execOp a.eval ⟨dst, .call ⟨.builtin .len, #[x], #[t]⟩, ty, pos, af, gd⟩).run P w = .ok (.value (v.den σ ρ)) w := by
  unfold lenV at hv
  split at hv
  · rename_i i s hi hx
    have hd := (hT _ _ hi).d
    have hx' := ov_ok hr hx
    simp only [V.den] at hx'
    split at hv
    · rename_i hz
      rw [hz] at hd; cases hv
      refine viaY fun N R hK => ?_
      have := y_slen (P := P) (N := N) (S := (· = w)) (dst := dst) (ty := ty) (pos := pos) (af := af) (gd := gd) (hK _ _ hx') hd
      rw [mkS_size] at this; simpa [V.den] using this
    · cases hv
  · rename_i i id off m cp hi hx
    have hd := (hT _ _ hi).d
    have hx' := ov_ok hr hx
    simp only [V.den] at hx'
    split at hv
    · rename_i hz
      rw [hz] at hd; cases hv
      exact viaY fun N R hK => by simpa [V.den] using y_llen (P := P) (N := N) (S := (· = w)) (dst := dst) (ty := ty) (pos := pos) (af := af) (gd := gd) (hK _ _ hx') hd
    · cases hv
  · rename_i i id hi hx
    have hd := (hT _ _ hi).d
    have hx' := ov_ok hr hx
    simp only [V.den] at hx'
    split at hv
    · rename_i hz
      rw [hz] at hd; cases hv
      exact viaY fun N R hK => by simpa [V.den] using y_llen (P := P) (N := N) (S := (· = w)) (dst := dst) (ty := ty) (pos := pos) (af := af) (gd := gd) (hK _ _ hx') hd
    · cases hv
  · rename_i i id hi hx
    have hd := (hT _ _ hi).d
    have hx' := ov_ev hr hx
    simp only [V.den] at hx'
    split at hv
    · rename_i es cl hz hg
      rw [hz] at hd; cases hv
      have ho := hm.ok _ _ hg
      simp only [O.holds] at ho
      simp [execOp, resolve, invoke, builtin, Builtin.len_, hx', Sem.run_bind, run_underlying hd w, getObj, Sem.run, ho, V.den, goInt]
    · cases hv
  · exact cv_ok hr hv
end
end Go.Proofs.YtkjhjgokaeiopaaGreatDoor.E
