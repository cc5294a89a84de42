/-
  The engine (4): operations that leave memory alone.
-/
import Derived.Test.YtkjhjgokaeiopaaGreatDoorEC
namespace Go.Proofs.YtkjhjgokaeiopaaGreatDoor.E
open Go Go.RowKit

/-! ### What asks nothing of the world -/
def V.val : V → Option Value
  | .c v => some v
  | .bool b => some (.bool b)
  | .int k n => some (.int k n)
  | .str l => some (.string (mkS l))
  | _ => none
theorem V.val_ok {σ : Nat → Value} {ρ : Nm} {v : V} {u : Value} (h : v.val = some u) : v.den σ ρ = u := by
  cases v <;> simp only [V.val, Option.some.injEq, reduceCtorEq] at h <;> subst h <;> simp [V.den]
def semV (P : Program) : Sem Next → Option Value
  | .pure (.value v) => some v
  | .program k => semV P (k P)
  | .mark _ k => semV P k
  | _ => none
theorem semV_ok {P : Program} {v : Value} : ∀ {s : Sem Next}, semV P s = some v → ∀ w, s.run P w = .ok (.value v) w := by
  intro s
  induction s with
  | pure n => intro h w; cases n <;> simp only [semV, Option.some.injEq, reduceCtorEq] at h; subst h; rfl
  | program k ih => intro h w; simp only [semV] at h; exact ih P h w
  | mark m k ih => intro h w; simp only [semV] at h; exact ih h w
  | _ => intro h; simp [semV] at h
def clE (rs : T V) (x : Operand) : Value := match (ov rs x).bind V.val with
  | some v => v
  | none => undef
def notSel : Op → Bool
  | .select _ _ => false
  | _ => true
def cv (P : Program) (rs : T V) (o : Oper) : Option V :=
  bif notSel o.op && o.op.operands.toList.all (fun x => ((ov rs x).bind V.val).isSome) then (match semV P (execOp (clE rs) o) with
    | some v => some (V.hd (.c v))
    | none => none) else none

/-! ### Numbers -/
def kn : IntKind → Nat
  | .i8 => 0 | .i16 => 1 | .i32 => 2 | .i64 => 3 | .u8 => 4 | .u16 => 5 | .u32 => 6 | .u64 => 7
theorem kn_inj {a b : IntKind} (h : Nat.beq (kn a) (kn b) = true) : a = b := by cases a <;> cases b <;> first | rfl | (simp [kn] at h)
def wr (k : IntKind) (z : Int) : Int := match k, z with
  | .i64, .ofNat n => bif Nat.blt n 9223372036854775808 then .ofNat n else k.wrap z
  | .u8, .ofNat n => bif Nat.blt n 256 then .ofNat n else k.wrap z
  | .u64, .ofNat n => bif Nat.blt n 18446744073709551616 then .ofNat n else k.wrap z
  | _, _ => k.wrap z
theorem wr_eq (k : IntKind) (z : Int) : wr k z = k.wrap z := by
  unfold wr
  split
  · rename_i n
    cases hb : Nat.blt n 9223372036854775808 with
    | true => rw [Nat.blt_eq] at hb; rw [cond_true]; exact (rng_wrap (k := .i64) (z := Int.ofNat n) rfl ⟨by simp only [Int.ofNat_eq_natCast]; omega, by simp only [Int.ofNat_eq_natCast]; omega⟩).symm
    | false => rfl
  · rename_i n
    cases hb : Nat.blt n 256 with
    | true => rw [Nat.blt_eq] at hb; rw [cond_true]; exact (rng_wrap (k := .u8) (z := Int.ofNat n) rfl ⟨by simp only [Int.ofNat_eq_natCast]; omega, by simp only [Int.ofNat_eq_natCast]; omega⟩).symm
    | false => rfl
  · rename_i n
    cases hb : Nat.blt n 18446744073709551616 with
    | true => rw [Nat.blt_eq] at hb; rw [cond_true]; exact (rng_wrap (k := .u64) (z := Int.ofNat n) rfl ⟨by simp only [Int.ofNat_eq_natCast]; omega, by simp only [Int.ofNat_eq_natCast]; omega⟩).symm
    | false => rfl
  · rfl
def bi (k : IntKind) (a b : Int) : BinOp → Option V
  | .add => some (.int k (wr k (a + b)))
  | .sub => some (.int k (wr k (a - b)))
  | .mul => some (.int k (wr k (a * b)))
  | .eql => some (.bool (ieq a b))
  | .neq => some (.bool (!ieq a b))
  | .lss => some (.bool (ilt a b))
  | .leq => some (.bool (!ilt b a))
  | .gtr => some (.bool (ilt b a))
  | .geq => some (.bool (!ilt a b))
  | _ => none
def bs (s u : List Nat) : BinOp → Option V
  | .add => bif Nat.ble (s.length + u.length) 9223372036854775807 then some (.str (s ++ u)) else none
  | .eql => some (.bool (seqB s u))
  | .neq => some (.bool (!seqB s u))
  | .lss => some (.bool (sltB s u))
  | .gtr => some (.bool (!(sltB s u || seqB s u)))
  | .leq => some (.bool (sltB s u || seqB s u))
  | .geq => some (.bool (!sltB s u))
  | _ => none
/-- One of the two is nil (the other one may be, too). -/
def nilq : TypeDesc → V → V → Option Bool
  | .pointer _, .ptr _ _, .c (.pointer none) => some false
  | .pointer _, .c (.pointer none), .ptr _ _ => some false
  | .slice _, .sl _ _ _ _, .c (.slice none _ _) => some false
  | .slice _, .c (.slice none _ _), .sl _ _ _ _ => some false
  | .slice _, .es _, .c (.slice none _ _) => some false
  | .map _ _, .map _, .c (.map none) => some false
  | .func _ _ _, .func _ _, .c .nilFunc => some false
  | .interface _, .iface _ _, .c .nilIface => some false
  | .interface _, .c (.iface _ _), .c .nilIface => some false
  | .interface _, .c .nilIface, .c .nilIface => some true
  | _, _, _ => none
def isC : Operand → Bool
  | .const _ => true
  | _ => false
/-- Two addresses. -/
def live (h : T O) (id : Nat) : Bool := match h.get id with
  | some (.cells _ _ lo hi none) => Nat.beq lo 0 && Nat.beq hi 0
  | _ => false
def ptrq (tb : Tb) (i : I) (h : T O) (a b : V) : Option Bool := match i.d, a, b with
  | .pointer e, .ptr x p, .ptr y q => (match tb.get e with
    | some ie => bif Nat.blt 0 ie.sz then (bif Nat.beq x y then some (Nat.beq p q) else bif live h x && live h y then some false else none) else none
    | none => none)
  | _, _, _ => none
section
variable {P : Program} {σ : Nat → Value} {ρ : Nm} {n : Nat} {rs : T V} {h : T O} {a : Act} {w : World} {tb : Tb}
theorem cv_ok {o : Oper} {v : V} (hr : RegsOk σ ρ n rs a.tmps) (hv : cv P rs o = some v) : (execOp a.eval o).run P w = .ok (.value (v.den σ ρ)) w := by
  unfold cv at hv
  cases hc : notSel o.op && o.op.operands.toList.all (fun x => ((ov rs x).bind V.val).isSome) with
  | false => rw [hc] at hv; cases hv
  | true =>
    rw [hc] at hv
    simp only [cond_true] at hv
    split at hv
    · rename_i u hu
      cases hv
      rw [Bool.and_eq_true, List.all_eq_true] at hc
      rw [execOp_congr (ρ' := clE rs) o (fun cs b hb => by rw [hb] at hc; simp [notSel] at hc) (fun x hx => ?_)]
      · rw [V.hd_den]; simpa [V.den] using semV_ok hu w
      · have hx' := hc.2 x (by simpa using hx)
        unfold clE
        cases hq : (ov rs x).bind V.val with
        | none => rw [hq] at hx'; cases hx'
        | some u =>
          obtain ⟨v1, h1, h2⟩ := Option.bind_eq_some_iff.1 hq
          rw [ov_ev hr h1, V.val_ok h2]
    · cases hv
variable {dst : Option Tmp} {ty t t' : TypeId} {pos : String} {af : Array Edge} {gd : Option (Nat × Bool)} {x y : Operand}
theorem mkS_app (s u : List Nat) : mkS (s ++ u) = mkS s ++ mkS u := by
  apply ByteArray.ext
  simp [mkS]
theorem bi_ok {k : IntKind} {i j : Int} {op : BinOp} {v : V} (hx : K a x (.int k i)) (hy : K a y (.int k j)) (hv : bi k i j op = some v) : (execOp a.eval ⟨dst, .binOp op t x y t', ty, pos, af, gd⟩).run P w = .ok (.value (v.den σ ρ)) w := by
  refine viaY fun N R hK => ?_
  unfold bi at hv
  split at hv <;> first | (cases hv; done) | (cases hv; simp only [V.den, wr_eq, ieq_eq, ilt_eq])
  · exact y_iadd (hK _ _ hx) (hK _ _ hy)
  · exact y_isub (hK _ _ hx) (hK _ _ hy)
  · exact y_imul (hK _ _ hx) (hK _ _ hy)
  · exact y_ieq (hK _ _ hx) (hK _ _ hy)
  · exact y_eqv (y_ine (hK _ _ hx) (hK _ _ hy)) (by simp)
  · exact y_ilt (hK _ _ hx) (hK _ _ hy)
  · exact y_eqv (y_ile (hK _ _ hx) (hK _ _ hy)) (by congr 1; rw [Bool.eq_iff_iff]; simp [Int.not_lt])
  · exact y_igt (hK _ _ hx) (hK _ _ hy)
  · exact y_eqv (y_ige (hK _ _ hx) (hK _ _ hy)) (by congr 1; rw [Bool.eq_iff_iff]; simp [Int.not_lt])
theorem bs_ok {s u : List Nat} {op : BinOp} {v : V} (hx : K a x (.string (mkS s))) (hy : K a y (.string (mkS u))) (hv : bs s u op = some v) : (execOp a.eval ⟨dst, .binOp op t x y t', ty, pos, af, gd⟩).run P w = .ok (.value (v.den σ ρ)) w := by
  refine viaY fun N R hK => ?_
  unfold bs at hv
  split at hv
  · cases hb : Nat.ble (s.length + u.length) 9223372036854775807 with
    | true =>
      rw [hb] at hv; cases hv
      simp only [V.den, mkS_app]
      exact y_scat (hK _ _ hx) (hK _ _ hy) (by rw [mkS_size, mkS_size]; exact Nat.le_of_ble_eq_true hb)
    | false => rw [hb] at hv; cases hv
  all_goals first | (cases hv; done) | (cases hv; simp only [V.den]; exact y_bin (hK _ _ hx) (hK _ _ hy) fun w => by simp [eqGuard, binOp, Op.stringOp, mkS_toList, seqB_eq, sltB_eq])
end
end Go.Proofs.YtkjhjgokaeiopaaGreatDoor.E
