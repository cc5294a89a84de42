/-
  The logic's laws: arithmetic, comparisons, strings.
-/
import Derived.Test.YtkjhjgokaeiopaaGreatDoorO
import Derived.IntWalk
import Derived.WalkSpells
namespace Go.Proofs.YtkjhjgokaeiopaaGreatDoor
open Go Go.RowKit

section
variable {P : Program} {N : Nat} {R : Regs} {S : World → Prop}
variable {dst : Option Tmp} {ty t t' : TypeId} {pos : String} {af : Array Edge} {gd : Option (Nat × Bool)} {x y : Operand} {k : IntKind} {a b : Int}

theorem y_bin {bop : BinOp} {vx vy v : Value} (hx : ev R x = some vx) (hy : ev R y = some vy) (hb : ∀ w, (do eqGuard bop t x y vx vy; binOp bop t vx vy : Sem Value).run P w = .ok v w) : Yv P N R S ⟨dst, .binOp bop t x y t', ty, pos, af, gd⟩ v := fun a w hR _ => by
  have := hb w
  simp only [Sem.run_bind] at this
  simp only [execOp, hR.eval hx, hR.eval hy, Sem.run_bind, this]
  rfl
theorem y_un {uop : UnOp} {vx v : Value} (hx : ev R x = some vx) (hb : ∀ w, (Op.unary uop vx).run P w = .ok v w) : Yv P N R S ⟨dst, .unOp uop t x, ty, pos, af, gd⟩ v := fun a w hR _ => by
  simp only [execOp, hR.eval hx, Sem.run_bind, hb]
  rfl
theorem y_conv {vx v : Value} (hx : ev R x = some vx) (hb : ∀ w, (convert t t' vx).run P w = .ok v w) : Yv P N R S ⟨dst, .convert t t' x, ty, pos, af, gd⟩ v := fun a w hR _ => by
  simp only [execOp, hR.eval hx, Sem.run_bind, hb]
  rfl

theorem y_ieq (hx : ev R x = some (.int k a)) (hy : ev R y = some (.int k b)) : Yv P N R S ⟨dst, .binOp .eql t x y t', ty, pos, af, gd⟩ (.bool (decide (a = b))) := y_bin hx hy fun w => by simp [eqGuard, binOp, Op.intCmp]; rfl
theorem y_ine (hx : ev R x = some (.int k a)) (hy : ev R y = some (.int k b)) : Yv P N R S ⟨dst, .binOp .neq t x y t', ty, pos, af, gd⟩ (.bool (decide (a ≠ b))) := y_bin hx hy fun w => by simp [eqGuard, binOp, Op.intCmp]; by_cases h : a = b <;> simp [h]
theorem y_ilt (hx : ev R x = some (.int k a)) (hy : ev R y = some (.int k b)) : Yv P N R S ⟨dst, .binOp .lss t x y t', ty, pos, af, gd⟩ (.bool (decide (a < b))) := y_bin hx hy fun w => by simp [eqGuard, binOp, Op.intCmp]
theorem y_ile (hx : ev R x = some (.int k a)) (hy : ev R y = some (.int k b)) : Yv P N R S ⟨dst, .binOp .leq t x y t', ty, pos, af, gd⟩ (.bool (decide (a ≤ b))) := y_bin hx hy fun w => by simp [eqGuard, binOp, Op.intCmp]
theorem y_igt (hx : ev R x = some (.int k a)) (hy : ev R y = some (.int k b)) : Yv P N R S ⟨dst, .binOp .gtr t x y t', ty, pos, af, gd⟩ (.bool (decide (b < a))) := y_bin hx hy fun w => by simp [eqGuard, binOp, Op.intCmp]
theorem y_ige (hx : ev R x = some (.int k a)) (hy : ev R y = some (.int k b)) : Yv P N R S ⟨dst, .binOp .geq t x y t', ty, pos, af, gd⟩ (.bool (decide (b ≤ a))) := y_bin hx hy fun w => by simp [eqGuard, binOp, Op.intCmp]
theorem y_lit {o : Oper} {u : Bool} (c : Bool) (h : Yv P N R S o (.bool u)) (hu : u = c) : Yv P N R S o (.bool c) := hu ▸ h
theorem y_iadd (hx : ev R x = some (.int k a)) (hy : ev R y = some (.int k b)) : Yv P N R S ⟨dst, .binOp .add t x y t', ty, pos, af, gd⟩ (.int k (k.wrap (a + b))) := y_bin hx hy fun w => by simp [eqGuard, binOp, Op.intArith]
theorem y_isub (hx : ev R x = some (.int k a)) (hy : ev R y = some (.int k b)) : Yv P N R S ⟨dst, .binOp .sub t x y t', ty, pos, af, gd⟩ (.int k (k.wrap (a - b))) := y_bin hx hy fun w => by simp [eqGuard, binOp, Op.intArith]
theorem y_imul (hx : ev R x = some (.int k a)) (hy : ev R y = some (.int k b)) : Yv P N R S ⟨dst, .binOp .mul t x y t', ty, pos, af, gd⟩ (.int k (k.wrap (a * b))) := y_bin hx hy fun w => by simp [eqGuard, binOp, Op.intArith]
theorem y_iquo (hx : ev R x = some (.int k a)) (hy : ev R y = some (.int k b)) (h0 : b ≠ 0) : Yv P N R S ⟨dst, .binOp .quo t x y t', ty, pos, af, gd⟩ (.int k (k.wrap (a.tdiv b))) := y_bin hx hy fun w => by simp [eqGuard, binOp, Op.intDiv, h0]
theorem y_irem (hx : ev R x = some (.int k a)) (hy : ev R y = some (.int k b)) (h0 : b ≠ 0) : Yv P N R S ⟨dst, .binOp .rem t x y t', ty, pos, af, gd⟩ (.int k (a.tmod b)) := y_bin hx hy fun w => by simp [eqGuard, binOp, Op.intDiv, h0]
/-- .. within the kind's bounds, for int. -/
theorem wrap_in {c : Int} (h : -9223372036854775808 ≤ c ∧ c ≤ 9223372036854775807) : IntKind.i64.wrap c = c := IntWalk.i64_in _ (by omega)
theorem y_addi (hx : ev R x = some (.int .i64 a)) (hy : ev R y = some (.int .i64 b)) (h : -9223372036854775808 ≤ a + b ∧ a + b ≤ 9223372036854775807) : Yv P N R S ⟨dst, .binOp .add t x y t', ty, pos, af, gd⟩ (.int .i64 (a + b)) := by
  have := y_iadd (P := P) (N := N) (S := S) (dst := dst) (ty := ty) (t := t) (t' := t') (pos := pos) (af := af) (gd := gd) hx hy
  rwa [wrap_in h] at this
theorem y_subi (hx : ev R x = some (.int .i64 a)) (hy : ev R y = some (.int .i64 b)) (h : -9223372036854775808 ≤ a - b ∧ a - b ≤ 9223372036854775807) : Yv P N R S ⟨dst, .binOp .sub t x y t', ty, pos, af, gd⟩ (.int .i64 (a - b)) := by
  have := y_isub (P := P) (N := N) (S := S) (dst := dst) (ty := ty) (t := t) (t' := t') (pos := pos) (af := af) (gd := gd) hx hy
  rwa [wrap_in h] at this
theorem y_muli (hx : ev R x = some (.int .i64 a)) (hy : ev R y = some (.int .i64 b)) (h : -9223372036854775808 ≤ a * b ∧ a * b ≤ 9223372036854775807) : Yv P N R S ⟨dst, .binOp .mul t x y t', ty, pos, af, gd⟩ (.int .i64 (a * b)) := by
  have := y_imul (P := P) (N := N) (S := S) (dst := dst) (ty := ty) (t := t) (t' := t') (pos := pos) (af := af) (gd := gd) hx hy
  rwa [wrap_in h] at this

theorem y_quoi (hx : ev R x = some (.int .i64 a)) (hy : ev R y = some (.int .i64 b)) (h0 : b ≠ 0) (h : -9223372036854775808 ≤ a.tdiv b ∧ a.tdiv b ≤ 9223372036854775807) : Yv P N R S ⟨dst, .binOp .quo t x y t', ty, pos, af, gd⟩ (.int .i64 (a.tdiv b)) := by
  have := y_iquo (P := P) (N := N) (S := S) (dst := dst) (ty := ty) (t := t) (t' := t') (pos := pos) (af := af) (gd := gd) hx hy h0
  rwa [wrap_in h] at this
theorem run_beq (t : TypeId) (c d : Bool) (hu : P.underlying t = some .bool) (w : World) : (Op.equal t (.bool c) (.bool d)).run P w = .ok (c == d) w := by
  show (Op.equalIn (9999 + 1) t (.bool c) (.bool d)).run P w = _
  rw [Op.equalIn]
  simp [Sem.run_bind, run_underlying hu w]
theorem y_beq {c d : Bool} (hx : ev R x = some (.bool c)) (hy : ev R y = some (.bool d)) (hu : P.underlying t = some .bool) : Yv P N R S ⟨dst, .binOp .eql t x y t', ty, pos, af, gd⟩ (.bool (c == d)) := y_bin hx hy fun w => by
  simp [eqGuard, binOp, run_beq t c d hu]
theorem y_bne {c d : Bool} (hx : ev R x = some (.bool c)) (hy : ev R y = some (.bool d)) (hu : P.underlying t = some .bool) : Yv P N R S ⟨dst, .binOp .neq t x y t', ty, pos, af, gd⟩ (.bool (c != d)) := y_bin hx hy fun w => by
  simp [eqGuard, binOp, run_beq t c d hu]; cases c <;> cases d <;> rfl
theorem y_not {c : Bool} (hx : ev R x = some (.bool c)) : Yv P N R S ⟨dst, .unOp .not t x, ty, pos, af, gd⟩ (.bool (!c)) := y_un hx fun w => by simp [Op.unary]
theorem y_notp {p : Prop} {inst : Decidable p} (hx : ev R x = some (.bool (@decide p inst))) : Yv P N R S ⟨dst, .unOp .not t x, ty, pos, af, gd⟩ (.bool (decide (¬ p))) := y_un hx fun w => by simp [Op.unary]
theorem y_neg (hx : ev R x = some (.int k a)) : Yv P N R S ⟨dst, .unOp .neg t x, ty, pos, af, gd⟩ (.int k (k.wrap (0 - a))) := y_un hx fun w => by simp [Op.unary, Op.intArith]
theorem y_toInt {k' : IntKind} {d : TypeDesc} (hx : ev R x = some (.int k a)) (hs : P.underlying t = some d) (hd : P.underlying t' = some (.int k')) : Yv P N R S ⟨dst, .convert t t' x, ty, pos, af, gd⟩ (.int k' (k'.wrap a)) := y_conv hx fun w => by
  simp [convert, Sem.run_bind, run_underlying hs w, run_underlying hd w, Conv.intToInt]
theorem y_toI64 {d : TypeDesc} (hx : ev R x = some (.int k a)) (hs : P.underlying t = some d) (hd : P.underlying t' = some (.int .i64)) (h : -9223372036854775808 ≤ a ∧ a ≤ 9223372036854775807) : Yv P N R S ⟨dst, .convert t t' x, ty, pos, af, gd⟩ (.int .i64 a) := by
  have := y_toInt (P := P) (N := N) (S := S) (dst := dst) (ty := ty) (pos := pos) (af := af) (gd := gd) hx hs hd
  rwa [wrap_in h] at this
theorem wrap_u8 {c : Int} (h : 0 ≤ c ∧ c ≤ 255) : IntKind.u8.wrap c = c := by
  simp [IntKind.wrap, IntKind.bits, IntKind.signed]
  omega
theorem y_subu8 (hx : ev R x = some (.int .u8 a)) (hy : ev R y = some (.int .u8 b)) (h : 0 ≤ a - b ∧ a - b ≤ 255) : Yv P N R S ⟨dst, .binOp .sub t x y t', ty, pos, af, gd⟩ (.int .u8 (a - b)) := by
  have := y_isub (P := P) (N := N) (S := S) (dst := dst) (ty := ty) (t := t) (t' := t') (pos := pos) (af := af) (gd := gd) hx hy
  rwa [wrap_u8 h] at this

/-! ### Strings -/
theorem size_mk (l : List UInt8) : (⟨l.toArray⟩ : ByteArray).size = l.length := by show l.toArray.size = _; simp
variable {s u : ByteArray}
theorem ba_loop (s : ByteArray) (k : Nat) : ∀ (i : Nat) (r : List UInt8), s.size - i = k → ByteArray.toList.loop s i r = r.reverse ++ s.data.toList.drop i := by
  induction k with
  | zero =>
    intro i r h
    unfold ByteArray.toList.loop
    rw [if_neg (by omega), List.drop_eq_nil_iff.2 (by show s.data.toList.length ≤ i; rw [Array.length_toList]; show s.size ≤ i; omega), List.append_nil]
  | succ k ih =>
    intro i r h
    unfold ByteArray.toList.loop
    have hlt : i < s.data.toList.length := by rw [Array.length_toList]; show i < s.size; omega
    rw [if_pos (by omega), ih (i + 1) _ (by omega), List.drop_eq_getElem_cons hlt]
    have hlt' : i < s.data.size := by simpa using hlt
    have e : s.get! i = s.data.toList[i] := by
      show s.data[i]! = _
      rw [getElem!_pos s.data i hlt']; simp
    simp [e]
theorem ba_toList (s : ByteArray) : s.toList = s.data.toList := by
  have := ba_loop s s.size 0 [] (by omega)
  simpa [ByteArray.toList] using this
theorem ba_inj {s u : ByteArray} (h : s.data.toList = u.data.toList) : s = u := by
  cases s; cases u; congr 1; exact Array.toList_inj.1 h
theorem ba_eq (s u : ByteArray) : (s.toList == u.toList) = decide (s = u) := by
  rw [ba_toList, ba_toList]
  by_cases h : s = u
  · subst h; simp
  · have : (s.data.toList == u.data.toList) = false := by
      rw [beq_eq_false_iff_ne]; exact fun q => h (ba_inj q)
    rw [this, decide_eq_false h]
theorem y_seq (hx : ev R x = some (.string s)) (hy : ev R y = some (.string u)) : Yv P N R S ⟨dst, .binOp .eql t x y t', ty, pos, af, gd⟩ (.bool (decide (s = u))) := y_bin hx hy fun w => by simp [eqGuard, binOp, Op.stringOp, ba_eq]
theorem y_sne (hx : ev R x = some (.string s)) (hy : ev R y = some (.string u)) : Yv P N R S ⟨dst, .binOp .neq t x y t', ty, pos, af, gd⟩ (.bool (decide (s ≠ u))) := y_bin hx hy fun w => by simp [eqGuard, binOp, Op.stringOp, ba_eq]
theorem y_sge (hx : ev R x = some (.string s)) (hy : ev R y = some (.string u)) : Yv P N R S ⟨dst, .binOp .geq t x y t', ty, pos, af, gd⟩ (.bool (!(Op.bytesLess s.toList u.toList))) := y_bin hx hy fun w => by simp [eqGuard, binOp, Op.stringOp]
theorem y_scat (hx : ev R x = some (.string s)) (hy : ev R y = some (.string u)) (h : s.size + u.size ≤ 9223372036854775807) : Yv P N R S ⟨dst, .binOp .add t x y t', ty, pos, af, gd⟩ (.string (s ++ u)) := y_bin hx hy fun w => by
  have h' : ¬ (((s.size + u.size : Nat) : Int) > IntKind.i64.max) := by
    have e : IntKind.i64.max = 9223372036854775807 := by decide
    rw [e]; omega
  simp only [eqGuard, binOp, Op.stringOp, if_neg h']
  rfl
theorem y_builtin {b : Builtin} {xs : List Operand} {vs : List Value} {ats : Array TypeId} {v : Value} (hx : xs.mapM (ev R) = some vs) (hb : ∀ ks w, S w → (builtin b ats ty ks vs.toArray).run P w = .ok (.value v) w) : Yv P N R S ⟨dst, .call { callee := .builtin b, args := xs.toArray, argTypes := ats }, ty, pos, af, gd⟩ v := fun a w hR hS => by
  have e := evs_map hR xs vs hx
  simp only [execOp, resolve, invoke, Sem.run_bind, Sem.run_pure, Result.andThen_ok]
  have e2 : xs.toArray.map a.eval = vs.toArray := by simp [← e]
  rw [e2]
  exact hb _ w hS
theorem y_slen {tt : TypeId} (hx : ev R x = some (.string s)) (ht : P.underlying tt = some .string) : Yv P N R S ⟨dst, .call { callee := .builtin .len, args := #[x], argTypes := #[tt] }, ty, pos, af, gd⟩ (.int .i64 s.size) :=
  y_builtin (xs := [x]) (vs := [.string s]) (by simp [hx]) fun _ w _ => by simp [builtin, Builtin.len_, Sem.run_bind, run_underlying ht w, goInt]
theorem y_llen {tt et : TypeId} {p : Option Addr} {n c : Nat} (hx : ev R x = some (.slice p n c)) (ht : P.underlying tt = some (.slice et)) : Yv P N R S ⟨dst, .call { callee := .builtin .len, args := #[x], argTypes := #[tt] }, ty, pos, af, gd⟩ (.int .i64 n) :=
  y_builtin (xs := [x]) (vs := [.slice p n c]) (by simp [hx]) fun _ w _ => by simp [builtin, Builtin.len_, Sem.run_bind, run_underlying ht w, goInt]
/-- A byte of a string. -/
theorem y_sidx {i : Nat} {c : UInt8} (hx : ev R x = some (.string s)) (hy : ev R y = some (.int k i)) (ht : P.underlying t = some .string) (hc : s[i]? = some c) : Yv P N R S ⟨dst, .index t x y, ty, pos, af, gd⟩ (.int .u8 c.toNat) := fun a w hR _ => by
  simp [execOp, hR.eval hx, hR.eval hy, Instr.index, asIntOf, Sem.run_bind, run_underlying ht w, hc]
theorem y_sidxI {i : Int} {c : UInt8} (hx : ev R x = some (.string s)) (hy : ev R y = some (.int k i)) (ht : P.underlying t = some .string) (h0 : 0 ≤ i) (hc : s[i.toNat]? = some c) : Yv P N R S ⟨dst, .index t x y, ty, pos, af, gd⟩ (.int .u8 c.toNat) := by
  obtain ⟨j, rfl⟩ := Int.eq_ofNat_of_zero_le h0
  exact y_sidx hx hy ht (by simpa using hc)
/-- The byte at a place. -/
def by8 (s : ByteArray) (i : Int) : UInt8 := (s[i.toNat]?).getD 0
def bt (s : ByteArray) (i : Int) : Int := (by8 s i).toNat
theorem y_sat {i : Int} (hx : ev R x = some (.string s)) (hy : ev R y = some (.int k i)) (ht : P.underlying t = some .string) (h0 : 0 ≤ i) (h1 : i < s.size) : Yv P N R S ⟨dst, .index t x y, ty, pos, af, gd⟩ (.int .u8 (bt s i)) := by
  have hlt : i.toNat < s.size := by omega
  have hc : s[i.toNat]? = some s[i.toNat] := by simp [hlt]
  have := y_sidxI (P := P) (N := N) (S := S) (dst := dst) (ty := ty) (pos := pos) (af := af) (gd := gd) hx hy ht h0 hc
  unfold bt by8
  rw [hc]
  exact this
/-- A part of a string. -/
theorem y_sslice {lo hi : Operand} {l h : Nat} (hx : ev R x = some (.string s)) (hl : ev R lo = some (.int .i64 l)) (hh : ev R hi = some (.int .i64 h)) (ht : P.underlying t = some .string) (h1 : l ≤ h) (h2 : h ≤ s.size) : Yv P N R S ⟨dst, .slice t x (some lo) (some hi) none, ty, pos, af, gd⟩ (.string (s.extract l h)) := fun a w hR _ => by
  have e1 : ((0 : Int) ≤ h ∧ (h : Int) ≤ s.size) := by omega
  have e2 : ((0 : Int) ≤ l ∧ (l : Int) ≤ h) := by omega
  simp [execOp, hR.eval hx, hR.eval hl, hR.eval hh, Instr.sliceAt, Instr.slice, Instr.sliceBounds, Instr.sliceBound, asIntOf, Sem.run_bind, run_underlying ht w, h1, h2]
theorem y_sfrom {lo : Operand} {l : Nat} (hx : ev R x = some (.string s)) (hl : ev R lo = some (.int .i64 l)) (ht : P.underlying t = some .string) (h2 : l ≤ s.size) : Yv P N R S ⟨dst, .slice t x (some lo) none none, ty, pos, af, gd⟩ (.string (s.extract l s.size)) := fun a w hR _ => by
  simp [execOp, hR.eval hx, hR.eval hl, Instr.sliceAt, Instr.slice, Instr.sliceBounds, Instr.sliceBound, asIntOf, Sem.run_bind, run_underlying ht w, h2]
theorem y_sto {hi : Operand} {h : Nat} (hx : ev R x = some (.string s)) (hh : ev R hi = some (.int .i64 h)) (ht : P.underlying t = some .string) (h2 : h ≤ s.size) : Yv P N R S ⟨dst, .slice t x none (some hi) none, ty, pos, af, gd⟩ (.string (s.extract 0 h)) := fun a w hR _ => by
  simp [execOp, hR.eval hx, hR.eval hh, Instr.sliceAt, Instr.slice, Instr.sliceBounds, Instr.sliceBound, asIntOf, Sem.run_bind, run_underlying ht w, h2]

theorem y_ssl {lo hi : Operand} {l h : Int} (hx : ev R x = some (.string s)) (hl : ev R lo = some (.int .i64 l)) (hh : ev R hi = some (.int .i64 h)) (ht : P.underlying t = some .string) (h0 : 0 ≤ l) (h1 : l ≤ h) (h2 : h ≤ s.size) : Yv P N R S ⟨dst, .slice t x (some lo) (some hi) none, ty, pos, af, gd⟩ (.string (s.extract l.toNat h.toNat)) := by
  obtain ⟨l', rfl⟩ := Int.eq_ofNat_of_zero_le h0
  obtain ⟨h', rfl⟩ := Int.eq_ofNat_of_zero_le (a := h) (by omega)
  exact y_sslice hx hl hh ht (by omega) (by omega)
theorem y_sfr {lo : Operand} {l : Int} (hx : ev R x = some (.string s)) (hl : ev R lo = some (.int .i64 l)) (ht : P.underlying t = some .string) (h0 : 0 ≤ l) (h2 : l ≤ s.size) : Yv P N R S ⟨dst, .slice t x (some lo) none none, ty, pos, af, gd⟩ (.string (s.extract l.toNat s.size)) := by
  obtain ⟨l', rfl⟩ := Int.eq_ofNat_of_zero_le h0
  exact y_sfrom hx hl ht (by omega)
theorem y_stoI {hi : Operand} {h : Int} (hx : ev R x = some (.string s)) (hh : ev R hi = some (.int .i64 h)) (ht : P.underlying t = some .string) (h0 : 0 ≤ h) (h2 : h ≤ s.size) : Yv P N R S ⟨dst, .slice t x none (some hi) none, ty, pos, af, gd⟩ (.string (s.extract 0 h.toNat)) := by
  obtain ⟨h', rfl⟩ := Int.eq_ofNat_of_zero_le h0
  exact y_sto hx hh ht (by omega)

/-! ### Tuples; slices -/
variable {W0 : World} {F : List Nat} {L : List Ent} {Q : Exit → Act → World → Prop} {ops : Array Oper} {rest : List Oper}
theorem y_extract {vs : Array Value} {i : Nat} {v : Value} (hx : ev R x = some (.tuple vs)) (hv : vs[i]? = some v) : Yv P N R S ⟨dst, .extract x i, ty, pos, af, gd⟩ v := fun a w hR _ => by
  simp [execOp, hR.eval hx, Instr.extract, hv]
def builtSl (P : Program) (e : TypeId) (len : Nat) (vs : List (Nat × Value)) : Option (List Value) :=
  match P.info? e with
  | none => none
  | some ie => match ie.zero with
    | none => none
    | some z => if len * ie.size > 2 ^ 24 then none else if len * ie.size = 0 then none else
      (Instr.fill (fun i => some (i * ie.size, ie.size)) ((Array.range (len * ie.size)).map (z.cells[· % z.cells.size]!)) vs).map Array.toList
theorem run_buildSl {t e : TypeId} {len : Nat} {vs : Array (Nat × Value)} {cs : List Value} (hu : P.underlying t = some (.slice e)) (hb : builtSl P e len vs.toList = some cs) (w : World) :
    (Instr.buildSlice t len vs).run P w = .ok (.slice (some ⟨w.heap.size, 0, none⟩) len len) (w.alloc (.cells cs.toArray e)) := by
  unfold builtSl at hb
  cases hie : P.info? e with
  | none => simp [hie] at hb
  | some ie =>
    cases hz : ie.zero with
    | none => simp [hie, hz] at hb
    | some z =>
      simp only [hie, hz] at hb
      split at hb
      · cases hb
      · rename_i h1
        split at hb
        · cases hb
        · rename_i h2
          simp only [Option.map_eq_some_iff] at hb
          obtain ⟨cells, hf, rfl⟩ := hb
          simp [Instr.buildSlice, run_underlying hu, sizeOf, typeInfo, zeroValue, hie, hz, h1, h2, hf, newRow]
theorem g_buildSlice {d : Nat} {t e : TypeId} {len : Nat} {ps : List (Nat × Operand)} {vs : List (Nat × Value)} {z : Value} {offs : List Nat} (hw : want ops R ⟨some d, .buildSlice t len ps.toArray, ty, pos, af, gd⟩ = some true) (hN : Nat.blt d N = true)
    (hu : P.underlying t = some (.slice e)) (hv : evParts R ps = some vs) (_hz : ∀ w, (zeroValue e).run P w = .ok z w) (hb : builtSl P e len vs = some (fillL (List.replicate len z.cells.toList).flatten offs vs))
    (h : ∀ b, G N ((d, .slice (some ⟨b, 0, none⟩) len len) :: R) (St W0 F (.cells b e (fillL (List.replicate len z.cells.toList).flatten offs vs) :: L)) (wpList P ops Q rest)) : G N R (St W0 F L) (wpList P ops Q (⟨some d, .buildSlice t len ps.toArray, ty, pos, af, gd⟩ :: rest)) :=
  g_one hw fun _ a w hR hS hK => by
    have e1 := evParts_map hR ps vs hv
    have e2 : (ps.toArray.map fun (i, x) => (i, a.eval x)).toList = vs := by simpa using e1
    refine Oper.wp_ok (w' := w.alloc (.cells (fillL (List.replicate len z.cells.toList).flatten offs vs).toArray e)) (v := .slice (some ⟨w.heap.size, 0, none⟩) len len) ?_ (hK _ _ (h w.heap.size _ _ (hR.put hN) (hS.new e _)))
    have := run_buildSl (P := P) (t := t) (len := len) (vs := ps.toArray.map fun (i, x) => (i, a.eval x)) hu (by rw [e2]; exact hb) w
    simp only [execOp, Sem.run_bind, this, Result.andThen_ok]
    rfl
/-- The address of a slice's element. -/
theorem y_idxAddr {t e : TypeId} {b o n c sz m : Nat} {i : Int} (hx : ev R x = some (.slice (some ⟨b, o, none⟩) n c)) (hy : ev R y = some (.int k i)) (ht : P.underlying t = some (.slice e)) (hz : ∀ w, (sizeOf e).run P w = .ok sz w) (h0 : 0 ≤ i) (h1 : i < n) (hm : o + i.toNat * sz = m) :
    Yv P N R S ⟨dst, .indexAddr t x y, ty, pos, af, gd⟩ (.pointer (some ⟨b, m, none⟩)) := fun a w hR _ => by
  subst hm
  simp [execOp, hR.eval hx, hR.eval hy, Instr.indexAt, asIntOf, Sem.run_bind, run_underlying ht w, hz, h0, h1, Addr.add_mid]
/-- .. at any address. -/
theorem y_idxAt {t e : TypeId} {p : Addr} {n c sz : Nat} {i : Int} (hx : ev R x = some (.slice (some p) n c)) (hy : ev R y = some (.int k i)) (ht : P.underlying t = some (.slice e)) (hz : ∀ w, (sizeOf e).run P w = .ok sz w) (h0 : 0 ≤ i) (h1 : i < n) :
    Yv P N R S ⟨dst, .indexAddr t x y, ty, pos, af, gd⟩ (.pointer (some (p.add (i.toNat * sz)))) := fun a w hR _ => by
  simp [execOp, hR.eval hx, hR.eval hy, Instr.indexAt, asIntOf, Sem.run_bind, run_underlying ht w, hz, h0, h1]

/-! ### A slice that was there, and is only read -/
structure RdSl (W : World) (p : Option Addr) (n sz : Nat) (f : Nat → Nat → Value) : Prop where
  addr : 0 < n → p = some (p.getD default)
  blk : 0 < n → (p.getD default).block < W.heap.size
  cell : ∀ i j, i < n → j < sz → W.cell? ((p.getD default).add (i * sz + j)) = some (f i j)
theorem y_rdAddr {t e : TypeId} {p : Option Addr} {n c sz : Nat} {i : Int} {W : World} {f : Nat → Nat → Value} (hr : RdSl W p n sz f) (hx : ev R x = some (.slice p n c)) (hy : ev R y = some (.int k i)) (ht : P.underlying t = some (.slice e)) (hz : ∀ w, (sizeOf e).run P w = .ok sz w) (h0 : 0 ≤ i) (h1 : i < n) :
    Yv P N R S ⟨dst, .indexAddr t x y, ty, pos, af, gd⟩ (.pointer (some ((p.getD default).add (i.toNat * sz)))) := by
  have hp := hr.addr (by omega)
  rw [hp] at hx
  exact y_idxAt hx hy ht hz h0 h1
theorem y_rdLd {t : TypeId} {p : Option Addr} {n sz : Nat} {i : Int} {f : Nat → Nat → Value} (hr : RdSl W0 p n sz f) (hx : ev R x = some (.pointer (some ((p.getD default).add (i.toNat * sz))))) (ha : ∀ w, (isAgg t).run P w = .ok false w) (h0 : 0 ≤ i) (h1 : i < n) (hsz : 0 < sz) :
    Yv P N R (St W0 [] L) ⟨dst, .load t x, ty, pos, af, gd⟩ (f i.toNat 0) :=
  y_load1 hx ha fun w hS => by
    have hb := hr.blk (by omega)
    have hc := hr.cell i.toNat 0 (by omega) hsz
    rw [Nat.add_zero] at hc
    rw [← hc]
    have e : ((p.getD default).add (i.toNat * sz)).block = (p.getD default).block := by unfold Addr.add; split <;> rfl
    exact World.cell?_of_block (w := W0) (hS.keep _ (by rw [e]; exact hb) (by simp))
end
end Go.Proofs.YtkjhjgokaeiopaaGreatDoor
