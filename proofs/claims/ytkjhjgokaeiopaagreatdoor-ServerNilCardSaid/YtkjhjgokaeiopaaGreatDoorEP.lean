/-
  The engine (16): it runs.
-/
import Derived.Test.YtkjhjgokaeiopaaGreatDoorEO
namespace Go.Proofs.YtkjhjgokaeiopaaGreatDoor.E
open Go Go.RowKit

/-! ### Forced values: what follows is handed the same, written out -/
def nK (n : Nat) (k : Nat → Bool) : Bool := match n with
  | 0 => k 0
  | m + 1 => k (m + 1)
def iK (z : Int) (k : Int → Bool) : Bool := match z with
  | .ofNat n => nK n fun n => k (.ofNat n)
  | .negSucc n => nK n fun n => k (.negSucc n)
def bK (b : Bool) (k : Bool → Bool) : Bool := match b with
  | true => k true
  | false => k false
def nsK : List Nat → (List Nat → Bool) → Bool
  | [], k => k []
  | n :: l, k => nK n fun n => nsK l fun l => k (n :: l)
def Cp.frc (p : Cp) (k : Cp → Bool) : Bool := match p with
  | .k n => nK n fun n => k (.k n)
  | .v i m => nK m fun m => k (.v i m)
mutual
def V.frc : V → (V → Bool) → Bool
  | .bool b, k => bK b fun b => k (.bool b)
  | .int q z, k => iK z fun z => k (.int q z)
  | .str l, k => nsK l fun l => k (.str l)
  | .ptr i o, k => nK o fun o => k (.ptr i o)
  | .sl i o n cp, k => nK o fun o => nK n fun n => cp.frc fun cp => k (.sl i o n cp)
  | .func f l, k => frcL l fun l => k (.func f l)
  | .iface t v, k => v.frc fun v => k (.iface t v)
  | .agg l, k => frcL l fun l => k (.agg l)
  | .tuple l, k => frcL l fun l => k (.tuple l)
  | v, k => k v
def frcL : List V → (List V → Bool) → Bool
  | [], k => k []
  | v :: l, k => v.frc fun v => frcL l fun l => k (v :: l)
end
def frcE : List (V × V × Nat) → (List (V × V × Nat) → Bool) → Bool
  | [], k => k []
  | (a, b, n) :: l, k => a.frc fun a => b.frc fun b => nK n fun n => frcE l fun l => k ((a, b, n) :: l)
def O.frc : O → (O → Bool) → Bool
  | .cells cs e lo hi tl, k => frcL cs fun cs => k (.cells cs e lo hi tl)
  | .map es cl, k => frcE es fun es => nK cl fun cl => k (.map es cl)
  | .iter m s seen st, k => nsK seen fun seen => k (.iter m s seen st)
  | o, k => k o
theorem nK_eq (n : Nat) (k : Nat → Bool) : nK n k = k n := by cases n <;> rfl
theorem iK_eq (z : Int) (k : Int → Bool) : iK z k = k z := by cases z <;> simp [iK, nK_eq]
theorem bK_eq (b : Bool) (k : Bool → Bool) : bK b k = k b := by cases b <;> rfl
theorem nsK_eq : ∀ (l : List Nat) (k : List Nat → Bool), nsK l k = k l
  | [], _ => rfl
  | n :: l, k => by simp only [nsK, nK_eq, nsK_eq l]
theorem Cp.frc_eq (p : Cp) (k : Cp → Bool) : p.frc k = k p := by cases p <;> simp [Cp.frc, nK_eq]
mutual
theorem V.frc_eq : ∀ (v : V) (k : V → Bool), v.frc k = k v
  | .bool b, k => by simp [V.frc, bK_eq]
  | .int q z, k => by simp [V.frc, iK_eq]
  | .str l, k => by simp [V.frc, nsK_eq]
  | .ptr i o, k => by simp [V.frc, nK_eq]
  | .sl i o n cp, k => by simp [V.frc, nK_eq, Cp.frc_eq]
  | .func f l, k => by simp [V.frc, frcL_eq l]
  | .iface t v, k => by simp [V.frc, V.frc_eq v]
  | .agg l, k => by simp [V.frc, frcL_eq l]
  | .tuple l, k => by simp [V.frc, frcL_eq l]
  | .c v, k => by simp [V.frc]
  | .op i, k => by simp [V.frc]
  | .es i, k => by simp [V.frc]
  | .map i, k => by simp [V.frc]
  | .yield i, k => by simp [V.frc]
theorem frcL_eq : ∀ (l : List V) (k : List V → Bool), frcL l k = k l
  | [], k => by simp [frcL]
  | v :: l, k => by simp [frcL, V.frc_eq v, frcL_eq l]
end
theorem frcE_eq : ∀ (l : List (V × V × Nat)) (k : List (V × V × Nat) → Bool), frcE l k = k l
  | [], _ => rfl
  | (a, b, n) :: l, k => by simp [frcE, V.frc_eq, nK_eq, frcE_eq l]
theorem O.frc_eq (o : O) (k : O → Bool) : o.frc k = k o := by cases o <;> simp [O.frc, frcL_eq, frcE_eq, nK_eq, nsK_eq]

/-! ### Frames -/
inductive It where
  | code (c : Code)
  | blk (id : Nat)
  | lp (c : Code)
  | sc (c : Code)
  | reg (ops : Array Oper) (i : Nat) (rest : List Oper)
  | inr (l : Nat)
  | endr (l : Nat)
  | beg
inductive Df where
  | coll (id : Nat)
  | fn (f : FuncId) (caps args : List V)
structure Fr where
  fn : FuncId
  n : Nat
  rs : T V
  todo : List It
  df : List Df
  dfd : Bool
  rof : Option Nat
def exitV (id : Nat) : List It → Option (List It)
  | .blk id' :: k => bif Nat.beq id' id then some k else exitV id k
  | _ :: k => exitV id k
  | [] => none
def gotoV (l : Nat) : List It → Option (List It)
  | .sc body :: k => match findLabel body l with
    | some rest => some (.code rest :: .sc body :: k)
    | none => gotoV l k
  | _ :: k => gotoV l k
  | [] => none
/-- What is called. -/
inductive Tg where
  | fn (f : FuncId) (args : List V)
  | yield (l : Nat) (args : List V)
def tgt (rs : T V) (o : Oper) : Option Tg := match o.op with
  | .call ⟨.value x, xs, _⟩ => (match ov rs x, ovL rs xs.toList with
    | some (.func f caps), some vs => some (.fn f (vs ++ caps))
    | some (.yield l), some vs => some (.yield l vs)
    | _, _ => none)
  | _ => none
abbrev K1 := V → T O → Nat → Bool
abbrev CK := Tg → T O → Nat → K1 → Bool
def putK (n : Nat) (rs : T V) (d : Option Tmp) (v : V) (k : T V → Bool) : Bool := match d with
  | none => k rs
  | some d => bif Nat.blt d n then T.set (some v) 40 rs d k else false
def fxK (f : Fx) (h : T O) (k : V → T O → Bool) : Bool := match f.rm, f.put with
  | none, none => f.v.frc fun v => k v h
  | none, some (p, o) => f.v.frc fun v => o.frc fun o => T.set (some o) 60 h p fun h => k v h
  | some q, none => f.v.frc fun v => T.set none 60 h q fun h => k v h
  | some q, some (p, o) => f.v.frc fun v => o.frc fun o => T.set none 60 h q fun h => T.set (some o) 60 h p fun h => k v h
def argsK (n : Nat) : Nat → List V → T V → (T V → Bool) → Bool
  | _, [], rs, k => k rs
  | i, v :: l, rs, k => putK n rs (some i) v fun rs => argsK n (i + 1) l rs k
def wantV (ops : Array Oper) (rs : T V) (o : Oper) : Option Bool := match o.guard with
  | none => some true
  | some (j, b) => match (ops[j]?).bind (·.dst) with
    | none => none
    | some t => match rs.get t with
      | some (.bool c) => some (c == b)
      | some (.tuple _) => some false
      | _ => none
def resL (tb : Tb) (rs : T V) (h : T O) : List ResultVar → Option (List V)
  | [] => some []
  | .tmp t :: l => (match rs.get t, resL tb rs h l with
    | some v, some vs => some (v :: vs)
    | _, _ => none)
  | .cell a t :: l => (match rs.get a, tb.get t, resL tb rs h l with
    | some (.ptr id off), some i, some vs => (match ldV h i id off with
      | some v => some (v :: vs)
      | none => none)
    | _, _, _ => none)
def resV (tb : Tb) (fn : Func) (rs : T V) (h : T O) : Option V := match resL tb rs h fn.results.toList with
  | some [v] => some v
  | some vs => some (.tuple vs)
  | none => none

/-! ### A region that draws its order -/
inductive W where
  | un
  | q (v : V)
  | a (v : V) (id : Nat) (o : O)
def W.val : W → V
  | .un => .tuple []
  | .q v => v
  | .a v _ _ => v
def afx (tb : Tb) (rs : T V) (id : Nat) (o : Oper) : Option Fx := match o.op with
  | .alloc t => allocF tb id t
  | .box t x => boxF rs id t x
  | .buildSlice t len ps => bslF tb rs id t len ps
  | .makeSlice t x y => mkSF tb rs id t x y
  | .makeMap _ r => mkMF r id
  | _ => none
/-- Its place, it, what goes ahead of it, and whether it writes what others read ahead of it. -/
structure RO where
  i : Nat
  o : Oper
  b : Nat
  bar : Bool
/-- The masks of what must go ahead. -/
def maskV (acc : List Nat) : List Edge → Nat → Nat
  | [], s => s
  | e :: l, s => maskV acc l (bif Region.binds .any e then s ||| 2 ^ e.on ||| (match nth acc e.on with
    | some m => m
    | none => 0) else s)
def masks : List Oper → List Nat → List Nat
  | [], acc => acc
  | o :: l, acc => masks l (acc ++ [maskV acc o.after.toList 0])
def tmpsOf : List Operand → List Nat
  | [] => []
  | .tmp t :: l => t :: tmpsOf l
  | _ :: l => tmpsOf l
def looks (ops : Array Oper) (o : Oper) : List Nat := match o.guard with
  | none => tmpsOf o.op.operands.toList
  | some (g, _) => (match (ops[g]?).bind (·.dst) with
    | some t => t :: tmpsOf o.op.operands.toList
    | none => tmpsOf o.op.operands.toList)
def memN (d : Nat) : List Nat → Bool
  | [] => false
  | t :: l => bif Nat.beq t d then true else memN d l
/-- Others read d that it does not go ahead of. -/
def barq (ops : Array Oper) (i d : Nat) : List Oper → List Nat → Bool
  | o :: l, m :: ms => bif memN d (looks ops o) then (bif Nat.testBit m i then barq ops i d l ms else true) else barq ops i d l ms
  | _, _ => false
def zip3 (ops : Array Oper) (all : List Oper) (am : List Nat) : Nat → List Oper → List Nat → List RO
  | i, o :: l, m :: ms => ⟨i, o, m, (match o.dst with
    | some d => barq ops i d all am
    | none => false)⟩ :: zip3 ops all am (i + 1) l ms
  | _, _, _ => []
def preds (m : Nat) : List Edge → Bool
  | [] => true
  | e :: l => bif Region.binds .any e then (bif Nat.testBit m e.on then preds m l else false) else preds m l
def rdy (m : Nat) : List RO → List RO
  | [] => []
  | r :: l => bif Nat.testBit m r.i then rdy m l else bif preds m r.o.after.toList then r :: rdy m l else rdy m l
/-- Who writes t goes ahead of r, or behind it. -/
def okT (r : RO) (t : Nat) : List RO → Bool
  | [] => true
  | q :: l => (match q.o.dst with
    | some d => bif Nat.beq d t then (Nat.testBit r.b q.i || Nat.testBit q.b r.i || Nat.beq q.i r.i) else true
    | none => true) && okT r t l
def allT (r : RO) (L : List RO) : List Nat → Bool
  | [] => true
  | t :: l => okT r t L && allT r L l
def noDst (d : Nat) : List RO → Bool
  | [] => true
  | q :: l => (match q.o.dst with
    | some e => !(Nat.beq e d)
    | none => true) && noDst d l
def chkR (ops : Array Oper) (L : List RO) : List RO → Bool
  | [] => true
  | r :: l => (notSel r.o.op && allT r L (looks ops r.o)) && ((match r.o.dst with
    | some d => noDst d l
    | none => true) && chkR ops L l)
def pick (P : Program) (tb : Tb) (ops : Array Oper) (rs : T V) (h : T O) (c : Nat) : List RO → Option (Nat × Oper × W)
  | [] => none
  | r :: l => bif r.bar then pick P tb ops rs h c l else match wantV ops rs r.o with
    | some false => some (r.i, r.o, .un)
    | some true => (match pv P tb rs h r.o with
      | some v => some (r.i, r.o, .q v)
      | none => (match afx tb rs c r.o with
        | some ⟨v, none, some (p, ob)⟩ => bif Nat.beq p c then some (r.i, r.o, .a v c ob) else none
        | _ => pick P tb ops rs h c l))
    | none => none
mutual
def V.beq : V → V → Bool
  | .op i, .op j => Nat.beq i j
  | .bool a, .bool b => bif a then b else !b
  | .int j a, .int k b => Nat.beq (kn j) (kn k) && ieq a b
  | .str a, .str b => nsq a b
  | .ptr i o, .ptr j p => Nat.beq i j && Nat.beq o p
  | .sl i o n cp, .sl j p m cq => (Nat.beq i j && Nat.beq o p) && (Nat.beq n m && cpq cp cq)
  | .es i, .es j => Nat.beq i j
  | .map i, .map j => Nat.beq i j
  | .func f l, .func g m => Nat.beq f g && beqL l m
  | .yield i, .yield j => Nat.beq i j
  | .iface t v, .iface u w => Nat.beq t u && v.beq w
  | .agg l, .agg m => beqL l m
  | .tuple l, .tuple m => beqL l m
  | .c (.pointer none), .c (.pointer none) => true
  | .c (.slice none 0 0), .c (.slice none 0 0) => true
  | .c (.map none), .c (.map none) => true
  | .c .nilFunc, .c .nilFunc => true
  | .c .nilIface, .c .nilIface => true
  | .c (.int j a), .c (.int k b) => Nat.beq (kn j) (kn k) && ieq a b
  | .c (.bool a), .c (.bool b) => bif a then b else !b
  | .c (.float .f64 a), .c (.float .f64 b) => Nat.beq a b
  | .c (.complex .f64 a b), .c (.complex .f64 c d) => Nat.beq a c && Nat.beq b d
  | .c (.string s), .c (.string u) => nsq (bytesOf s) (bytesOf u)
  | _, _ => false
def beqL : List V → List V → Bool
  | [], [] => true
  | v :: l, w :: m => v.beq w && beqL l m
  | _, _ => false
def nsq : List Nat → List Nat → Bool
  | [], [] => true
  | a :: l, b :: m => Nat.beq a b && nsq l m
  | _, _ => false
def cpq : Cp → Cp → Bool
  | .k n, .k m => Nat.beq n m
  | .v i n, .v j m => Nat.beq i j && Nat.beq n m
  | _, _ => false
end
abbrev Gm := List (Nat × Oper × W)
/-- What is laid and must be there for what comes next, is laid; the rest of Γ. -/
def mergeK (b : Nat) : Gm → T O → (T O → Gm → Bool) → Bool
  | [], h, k => k h []
  | (i, o, w) :: l, h, k => bif Nat.testBit b i then (match w with
      | .a _ id ob => T.set (some ob) 60 h id fun h => mergeK b l h k
      | _ => mergeK b l h k)
    else mergeK b l h fun h l => k h ((i, o, w) :: l)
def allK : Gm → T O → (T O → Bool) → Bool
  | [], h, k => k h
  | (_, _, .a _ id ob) :: l, h, k => T.set (some ob) 60 h id fun h => allK l h k
  | _ :: l, h, k => allK l h k
def again (P : Program) (tb : Tb) (rs : T V) (h : T O) : Gm → Bool
  | [] => true
  | (_, o, .q v) :: l => (match pv P tb rs h o with
    | some u => V.beq u v
    | none => false) && again P tb rs h l
  | _ :: l => again P tb rs h l
/-- An operation of its own. -/
def opK (P : Program) (tb : Tb) (cl : CK) (rs : T V) (h : T O) (c : Nat) (o : Oper) (k : K1) : Bool :=
  match pv P tb rs h o with
  | some v => v.frc fun v => k v h c
  | none => match fx P tb rs h c o with
    | some f => fxK f h fun v h => k v h (c + 1)
    | none => match tgt rs o with
      | some t => cl t h c k
      | none => false
/-- The registers that an operation looks at, alone. -/
def looksK : List Nat → T V → T V → (T V → Bool) → Bool
  | [], _, e, k => k e
  | t :: l, rs, e, k => match rs.get t with
    | some v => T.set (some v) 40 e t fun e => looksK l rs e k
    | none => looksK l rs e k
def regK (P : Program) (tb : Tb) (cl : CK) (ops : Array Oper) (n : Nat) (L : List RO) : Nat → Nat → T V → T O → Nat → Gm → (T V → T O → Nat → Bool) → Bool
  | 0, _, _, _, _, _, _ => false
  | fu + 1, m, rs, h, c, G, k => match rdy m L with
    | [] => allK G h fun h => k rs h c
    | r => match pick P tb ops rs h c r with
      | some (i, o, .un) => putK n rs o.dst (.tuple []) fun rs => regK P tb cl ops n L fu (m ||| 2 ^ i) rs h c ((i, o, .un) :: G) k
      | some (i, o, .q v) => v.frc fun v => putK n rs o.dst v fun rs => regK P tb cl ops n L fu (m ||| 2 ^ i) rs h c ((i, o, .q v) :: G) k
      | some (i, o, .a v id ob) => v.frc fun v => ob.frc fun ob => putK n rs o.dst v fun rs => regK P tb cl ops n L fu (m ||| 2 ^ i) rs h (c + 1) ((i, o, .a v id ob) :: G) k
      | none => match r with
        | [q] => (match wantV ops rs q.o with
          | some true => mergeK q.b G h fun h G => looksK (looks ops q.o) rs .leaf fun re => opK P tb cl re h c q.o fun v h c => bif again P tb rs h G then putK n rs q.o.dst v fun rs => regK P tb cl ops n L fu (m ||| 2 ^ q.i) rs h c G k else false
          | some false => putK n rs q.o.dst (.tuple []) fun rs => regK P tb cl ops n L fu (m ||| 2 ^ q.i) rs h c G k
          | none => false)
        | _ => false
end Go.Proofs.YtkjhjgokaeiopaaGreatDoor.E
