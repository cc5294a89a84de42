/-
  The engine (5): operations that leave memory alone, all of them.
-/
import Derived.Test.YtkjhjgokaeiopaaGreatDoorED
namespace Go.Proofs.YtkjhjgokaeiopaaGreatDoor.E
open Go Go.RowKit

/-- From l to h of a list. -/
def cutV {α : Type} (l h : Nat) (s : List α) : Option (List α) := match dropE l s with
  | some m => takeE (h - l) m
  | none => none
theorem cutV_some {α : Type} {l h : Nat} {s m : List α} (hv : cutV l h s = some m) : l ≤ s.length ∧ (s.drop l).take (h - l) = m ∧ m.length = h - l := by
  unfold cutV at hv
  split at hv
  · rename_i q hq
    obtain ⟨h1, rfl⟩ := dropE_some hq
    obtain ⟨h2, h3⟩ := takeE_some hv
    exact ⟨h1, h3, h2⟩
  · cases hv
/-- A bound of a cut: given, or d. -/
def bnd (rs : T V) (d : Nat) : Option Operand → Option Nat
  | none => some d
  | some x => match ov rs x with
    | some (.int .i64 (.ofNat n)) => some n
    | _ => none
def slV (P : Program) (tb : Tb) (rs : T V) (h : T O) (o : Oper) (t : TypeId) (x : Operand) (lo hi mx : Option Operand) : Option V :=
  match tb.get t, ov rs x with
  | some i, some (.str s) => (match i.d, mx, bnd rs 0 lo, bnd rs s.length hi with
    | .string, none, some l, some r => bif Nat.ble l r then (match cutV l r s with
      | some m => some (.str m)
      | none => none) else none
    | _, _, _, _ => none)
  | some i, some (.sl id off n (.k c)) => (match i.d, bnd rs 0 lo, bnd rs n hi, bnd rs c mx with
    | .slice _, some l, some r, some m => if (((mx.isNone || hi.isSome) && Nat.ble l r) && Nat.ble r m) && Nat.ble m c then some (.sl id (bif Nat.beq m l then off else off + l * i.esz) (r - l) (.k (m - l))) else none
    | _, _, _, _ => none)
  | some i, some (.sl id off n (.v id' m0)) => (match i.d, bnd rs 0 lo, bnd rs n hi, h.get id with
    | .slice _, some l, some r, some (.cells cs _ _ _ (some z)) => if (((((Nat.beq id id' && Nat.beq off (m0 * z)) && Nat.ble (m0 * z + n * z) cs.length) && Nat.beq z i.esz) && Nat.blt 0 z) && Nat.ble l r) && Nat.ble r n then (match mx with
      | none => bif Nat.beq l 0 then some (.sl id off r (.v id m0)) else bif Nat.blt l n then some (.sl id (off + l * i.esz) (r - l) (.v id (m0 + l))) else none
      | some mo => (match bnd rs 0 (some mo) with
        | some m => if (hi.isSome && Nat.ble r m) && Nat.ble m n then some (.sl id (bif Nat.beq m l then off else off + l * i.esz) (r - l) (.k (m - l))) else none
        | none => none)) else none
    | _, _, _, _ => none)
  | some i, some (.ptr id off) => (match i.d with
    | .array n _ => (match bnd rs 0 lo, bnd rs n hi, mx with
      | some l, some r, none => if Nat.ble l r && Nat.ble r n then some (.sl id (bif Nat.beq n l then off else off + l * i.esz) (r - l) (.k (n - l))) else none
      | _, _, _ => none)
    | _ => none)
  | _, _ => cv P rs o
def u8L : List V → Option (List Nat)
  | [] => some []
  | .int .u8 (.ofNat n) :: l => match u8L l with
    | some m => some (n :: m)
    | none => none
  | .c (.int .u8 (.ofNat n)) :: l => match u8L l with
    | some m => some (n :: m)
    | none => none
  | _ => none
/-- Keys of a map of numbers or of texts: equal? -/
def keyq : TypeDesc → V → V → Option Bool
  | .int _, .int j a, .int k b => bif Nat.beq (kn j) (kn k) then some (ieq a b) else none
  | .string, .str s, .str u => some (seqB s u)
  | _, _, _ => none
def findV (d : TypeDesc) (k : V) : List (V × V × Nat) → Nat → Option (Option (Nat × V))
  | [], _ => some none
  | (q, v, _) :: es, i => match keyq d k q with
    | some true => some (some (i, v))
    | some false => findV d k es (i + 1)
    | none => none
def inr (z : Int) : Bool := match z with
  | .ofNat n => Nat.blt n 9223372036854775808
  | .negSucc n => Nat.blt n 9223372036854775808
def intsL : List V → Option (List Int)
  | [] => some []
  | .int .i64 z :: l => bif inr z then (match intsL l with
    | some zs => some (z :: zs)
    | none => none) else none
  | _ => none
def keyS (n : Nat) : V → Option (List Int)
  | .agg l => bif Nat.beq l.length n then intsL l else none
  | _ => none
def zsq : List Int → List Int → Bool
  | [], [] => true
  | a :: l, b :: m => bif ieq a b then zsq l m else false
  | _, _ => false
def noS (n : Nat) (zs : List Int) : List (V × V × Nat) → Bool
  | [] => true
  | (q, _, _) :: es => match keyS n q with
    | some ys => bif zsq zs ys then false else noS n zs es
    | none => false
def findS (n : Nat) (zs : List Int) : List (V × V × Nat) → Nat → Option (Option (Nat × V))
  | [], _ => some none
  | (q, v, _) :: es, i => match keyS n q with
    | some ys => bif zsq zs ys then (bif noS n zs es then some (some (i, v)) else none) else findS n zs es (i + 1)
    | none => none
def keyd : TypeDesc → Bool
  | .int _ => true
  | .string => true
  | _ => false
/-- Where a key is. -/
def findK (ik : I) (k : V) (es : List (V × V × Nat)) : Option (Option (Nat × V)) :=
  bif keyd ik.d then findV ik.d k es 0 else bif ik.kl then (match keyS ik.sz k with
    | some zs => findS ik.sz zs es 0
    | none => none) else none
def mapAt (h : T O) : V → Option (List (V × V × Nat))
  | .map id => match h.get id with
    | some (.map es _) => some es
    | _ => none
  | .c (.map none) => some []
  | _ => none
def eqV (b : Bool) : BinOp → Option V
  | .eql => some (.bool b)
  | .neq => some (.bool (!b))
  | _ => none
theorem eqV_some {b : Bool} {op : BinOp} {v : V} (h : eqV b op = some v) : ∃ c, v = .bool c ∧ (op = .eql ∧ c = b ∨ op = .neq ∧ c = !b) := by
  cases op <;> simp only [eqV, Option.some.injEq, reduceCtorEq] at h <;> subst h
  · exact ⟨_, rfl, .inl ⟨rfl, rfl⟩⟩
  · exact ⟨_, rfl, .inr ⟨rfl, rfl⟩⟩
def binV (P : Program) (tb : Tb) (rs : T V) (h : T O) (o : Oper) (op : BinOp) (t : TypeId) (x y : Operand) : Option V := match ov rs x, ov rs y with
  | some (.int k a), some (.int k' b) => bif Nat.beq (kn k) (kn k') then (match bi k a b op with
    | some v => some v
    | none => cv P rs o) else cv P rs o
  | some (.str s), some (.str u) => (match bs s u op with
    | some v => some v
    | none => cv P rs o)
  | some (.bool _), some (.bool _) => cv P rs o
  | some u, some v => (match tb.get t with
    | some i => (match nilq i.d u v with
      | some b => bif b && !(isC x || isC y) then none else eqV b op
      | none => (match ptrq tb i h u v with
        | some b => eqV b op
        | none => cv P rs o))
    | none => cv P rs o)
  | _, _ => none
def lenV (P : Program) (tb : Tb) (rs : T V) (h : T O) (o : Oper) (x : Operand) (t : TypeId) : Option V := match tb.get t, ov rs x with
  | some i, some (.str s) => (match i.d with
    | .string => some (.int .i64 (.ofNat s.length))
    | _ => none)
  | some i, some (.sl _ _ n _) => (match i.d with
    | .slice _ => some (.int .i64 (.ofNat n))
    | _ => none)
  | some i, some (.es _) => (match i.d with
    | .slice _ => some (.int .i64 (.ofNat 0))
    | _ => none)
  | some i, some (.map id) => (match i.d, h.get id with
    | .map _ _, some (.map es _) => some (.int .i64 (.ofNat es.length))
    | _, _ => none)
  | _, _ => cv P rs o
def idxV (P : Program) (tb : Tb) (rs : T V) (o : Oper) (t : TypeId) (x y : Operand) : Option V := match tb.get t, ov rs x, ov rs y with
  | some i, some (.str s), some (.int _ (.ofNat j)) => (match i.d, nth s j with
    | .string, some c => some (.int .u8 (.ofNat (c % 256)))
    | _, _ => none)
  | some i, some (.agg l), some (.int _ (.ofNat j)) => (match i.d with
    | .array n e => (match tb.get e with
      | some ie => bif Nat.blt j n then (bif ie.agg then (match cutV (j * ie.sz) (j * ie.sz + ie.sz) l with
        | some m => some (.agg m)
        | none => none) else nth l (j * ie.sz)) else none
      | none => none)
    | _ => none)
  | _, _, _ => cv P rs o
def idaV (tb : Tb) (rs : T V) (t : TypeId) (x y : Operand) : Option V := match tb.get t, ov rs x, ov rs y with
  | some i, some (.sl id off n _), some (.int _ (.ofNat j)) => (match i.d with
    | .slice _ => bif Nat.blt j n then some (.ptr id (off + j * i.esz)) else none
    | _ => none)
  | some i, some (.ptr id off), some (.int _ (.ofNat j)) => (match i.d with
    | .array n _ => bif Nat.blt j n then some (.ptr id (off + j * i.esz)) else none
    | _ => none)
  | _, _, _ => none
def bldV (tb : Tb) (rs : T V) (t : TypeId) (ps : Array (Nat × Operand)) : Option V := match tb.get t, ovP rs ps.toList with
  | some i, some vs => (match i.d with
    | .struct _ => (match fillV (fun k => nth i.fs k) (i.z.cells.toList.map V.at) vs with
      | some z => some (.agg z)
      | none => none)
    | .array _ _ => (match fillV (fun k => some (k * i.esz, i.esz)) (i.z.cells.toList.map V.at) vs with
      | some z => some (.agg z)
      | none => none)
    | _ => none)
  | _, _ => none
def lkV (tb : Tb) (rs : T V) (h : T O) (t : TypeId) (x y : Operand) (ok : Bool) : Option V := match tb.get t, ov rs y, ov rs x with
  | some i, some k, some m => (match i.d with
    | .map kt et => (match tb.get kt, tb.get et, mapAt h m with
      | some ik, some ie, some es => (match findK ik k es with
        | some (some (_, v)) => some (bif ok then .tuple [v, .bool true] else v)
        | some none => some (bif ok then .tuple [V.hd (.c ie.z), .bool false] else V.hd (.c ie.z))
        | none => none)
      | _, _, _ => none)
    | _ => none)
  | _, _, _ => none
def upV (P : Program) (tb : Tb) (h : T O) (d d' : TypeDesc) (id off : Nat) : Option V := match d, d', h.get id with
  | .pointer e, .unsafePointer, some (.cells cs _ _ _ _) => (match tb.get e with
    | some ie => bif Nat.blt 0 ie.sz && Nat.blt off cs.length then some (.ptr id off) else none
    | none => none)
  | .unsafePointer, .pointer u, some (.cells cs e _ _ none) => (match tb.get u with
    | some _ => bif liesAt P P.depth e (cs.length / P.cellsOf e) off u 1 then some (.ptr id off) else none
    | none => none)
  | _, _, _ => none
def bysV (tb : Tb) (h : T O) (e : TypeId) (id off n : Nat) : Option V := match tb.get e, cellsAt h id with
  | some ie, some cs => (match ie.d, cutV off (off + n) cs with
    | .int .u8, some l => (match u8L l with
      | some m => some (.str m)
      | none => none)
    | _, _ => none)
  | _, _ => none
def cnvV (P : Program) (tb : Tb) (rs : T V) (h : T O) (o : Oper) (t t' : TypeId) (x : Operand) : Option V := match ov rs x, tb.get t, tb.get t' with
  | some (.sl id off n _), some i, some i' => (match i.d, i'.d with
    | .slice e, .string => bysV tb h e id off n
    | _, _ => none)
  | some (.ptr id off), some i, some i' => upV P tb h i.d i'.d id off
  | some (.str s), some i, some i' => (match i.d, i'.d with
    | .string, .string => some (.str s)
    | _, _ => none)
  | _, _, _ => cv P rs o
def stV (tb : Tb) (rs : T V) (t : TypeId) (x : Operand) : Option V := match tb.get t, ov rs x with
  | some i, some (.sl id off n _) => (match i.d with
    | .array m _ => bif Nat.ble m n then some (.ptr id off) else none
    | _ => none)
  | _, _ => none
def pv (P : Program) (tb : Tb) (rs : T V) (h : T O) (o : Oper) : Option V := match o.op with
  | .move x => ov rs x
  | .assign x => ov rs x
  | .nilCheck x => (match ov rs x with
    | some (.ptr i o) => some (.ptr i o)
    | some (.func f l) => some (.func f l)
    | some (.yield i) => some (.yield i)
    | _ => none)
  | .fieldAddr t x i => (match tb.get t, ov rs x with
    | some I, some (.ptr id off) => (match nth I.fs i with
      | some (k, _ + 1) => some (.ptr id (off + k))
      | _ => none)
    | _, _ => none)
  | .load t x => (match tb.get t, ov rs x with
    | some i, some (.ptr id off) => ldV h i id off
    | _, _ => none)
  | .extract x i => (match ov rs x with
    | some (.tuple l) => nth l i
    | _ => none)
  | .pick c x y => (match ov rs c with
    | some (.bool b) => bif b then ov rs x else ov rs y
    | _ => none)
  | .unOp .not _ x => (match ov rs x with
    | some (.bool b) => some (.bool (!b))
    | _ => none)
  | .binOp op t x y _ => binV P tb rs h o op t x y
  | .call ⟨.builtin .len, xs, ts⟩ => (match xs.toList, ts.toList with
    | [x], [t] => lenV P tb rs h o x t
    | _, _ => none)
  | .index t x y => idxV P tb rs o t x y
  | .slice t x lo hi mx => slV P tb rs h o t x lo hi mx
  | .indexAddr t x y => idaV tb rs t x y
  | .build t ps => bldV tb rs t ps
  | .makeInterface t x => (match tb.get t, ov rs x with
    | some i, some v => (match i.d with
      | .interface _ => none
      | _ => some (.iface t v))
    | _, _ => none)
  | .makeFunc (.func f) first xs => (match first.toList, ovL rs xs.toList with
    | [], some vs => some (.func f vs)
    | _, _ => none)
  | .lookup t x y ok => lkV tb rs h t x y ok
  | .convert t t' x => cnvV P tb rs h o t t' x
  | .sliceToArrayPointer t x => stV tb rs t x
  | _ => cv P rs o

section
variable {P : Program} {σ : Nat → Value} {ρ : Nm} {n : Nat} {rs : T V} {h : T O} {a : Act} {w : World} {tb : Tb}
variable {dst : Option Tmp} {ty t t' : TypeId} {pos : String} {af : Array Edge} {gd : Option (Nat × Bool)} {x y : Operand} {v : V} {o : Oper}
theorem shape_of {id : Nat} {cs : List V} {e : TypeId} {lo hi : Nat} {tl : Option Nat} (hm : Mem σ ρ h w) (hg : h.get id = some (.cells cs e lo hi tl)) : ∃ N, w.shape? (ρ id).b = some (e, N) ∧ (ρ id).o + cs.length ≤ N ∧ (tl = none → (ρ id).o = 0 ∧ N = cs.length) := by
  have ho := hm.ok _ _ hg
  cases tl with
  | none =>
    obtain ⟨h1, h2⟩ := ho
    exact ⟨cs.length, by simp [World.shape?, h2, denL_len], by omega, fun _ => ⟨h1, rfl⟩⟩
  | some z =>
    obtain ⟨pre, suf, fz, h1, _, h2, _⟩ := ho
    exact ⟨pre.length + (cs.length + suf.length), by simp [World.shape?, h1, denL_len], by omega, fun h => by cases h⟩
theorem nil_eq (i : I) (hi : i.ok P t) {u v : V} {b : Bool} (hq : nilq i.d u v = some b) : (Op.equal t (u.den σ ρ) (v.den σ ρ)).run P w = .ok b w := by
  have hd := hi.d
  unfold nilq at hq
  generalize hz : i.d = d at hq hd
  split at hq <;> first | (cases hq; done) | (simp only [Option.some.injEq] at hq; subst hq)
  all_goals
    simp only [V.den]
    show (Op.equalIn (9999 + 1) t _ _).run P w = _
    rw [Op.equalIn]
    simp [Sem.run_bind, run_underlying hd w]
theorem nil_guard {op : BinOp} {d : TypeDesc} {u v : V} {b : Bool} (hq : nilq d u v = some b) (x y : Operand) (hc : b = true → isC x = true ∨ isC y = true) :
    (eqGuard op t x y (u.den σ ρ) (v.den σ ρ)).run P w = .ok () w := by
  unfold nilq at hq
  split at hq <;> first | (cases hq; done) | (simp only [Option.some.injEq] at hq; subst hq)
  all_goals simp only [V.den]
  all_goals try (cases op <;> simp [eqGuard]; done)
  rcases hc rfl with hc | hc
  · cases x <;> simp only [isC, Bool.false_eq_true] at hc
    cases op <;> simp [eqGuard]
  · cases y <;> simp only [isC, Bool.false_eq_true] at hc
    cases op <;> simp [eqGuard]
theorem live_ok {id : Nat} (_hm : Mem σ ρ h w) (hl : live h id = true) : ∃ e cs, h.get id = some (.cells cs e 0 0 none) := by
  unfold live at hl
  split at hl
  · rename_i cs e lo hi hg
    rw [Bool.and_eq_true] at hl
    rw [Nat.eq_of_beq_eq_true hl.1, Nat.eq_of_beq_eq_true hl.2] at hg
    exact ⟨e, cs, hg⟩
  · cases hl
theorem run_binop {op : BinOp} {vx vy u : Value} (hx : K a x vx) (hy : K a y vy) (hg : (eqGuard op t x y vx vy).run P w = .ok () w) (hb : (binOp op t vx vy).run P w = .ok u w) :
    (execOp a.eval ⟨dst, .binOp op t x y t', ty, pos, af, gd⟩).run P w = .ok (.value u) w := by
  simp [execOp, hx.1, hy.1, Sem.run_bind, hg, hb]
theorem nilq_bin {op : BinOp} {d : TypeDesc} {u v : V} {b c : Bool} (hq : nilq d u v = some b) (he : (Op.equal t (u.den σ ρ) (v.den σ ρ)).run P w = .ok b w) (ho : op = .eql ∧ c = b ∨ op = .neq ∧ c = !b) :
    (binOp op t (u.den σ ρ) (v.den σ ρ)).run P w = .ok (.bool c) w := by
  unfold nilq at hq
  split at hq <;> first | (cases hq; done) | skip
  all_goals
    rcases ho with ⟨rfl, rfl⟩ | ⟨rfl, rfl⟩ <;> simp only [V.den] at he ⊢ <;> simp [binOp, he]
end
end Go.Proofs.YtkjhjgokaeiopaaGreatDoor.E
