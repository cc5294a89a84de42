/-
  The engine (17): frames, calls, rounds.
-/
import Derived.Test.YtkjhjgokaeiopaaGreatDoorEP
namespace Go.Proofs.YtkjhjgokaeiopaaGreatDoor.E
open Go Go.RowKit

/-- What the library's own functions hand back. -/
inductive Xt where
  | same
  | index
  | count
def indexB (c : Nat) : List Nat → Nat → Option Nat
  | [], _ => none
  | b :: l, i => bif Nat.beq (b % 256) c then some i else indexB c l (i + 1)
def countB (c : Nat) : List Nat → Nat → Nat
  | [], n => n
  | b :: l, n => bif Nat.beq (b % 256) c then countB c l (n + 1) else countB c l n
def Xt.run : Xt → List V → Option V
  | .same, [v] => some v
  | .index, [.str l, .int .u8 (.ofNat c)] => (match indexB (c % 256) l 0 with
    | some i => some (.int .i64 (.ofNat i))
    | none => some (.int .i64 (.negSucc 0)))
  | .count, [.str l, .int .u8 (.ofNat c)] => some (.int .i64 (.ofNat (countB (c % 256) l 0)))
  | _, _ => none
abbrev KB := Option Code → Fr → T O → Nat → Bool
abbrev BK := Fr → T O → Nat → KB → Bool
def retq : Option Code → Bool
  | none => true
  | some .ret => true
  | _ => false
def unwK (tb : Tb) (ft : T Func) (body : BK) (fn : Func) (rs : T V) : List Df → T O → Nat → K1 → Bool
  | [], h, c, k => (match resV tb fn rs h with
    | some v => v.frc fun v => k v h c
    | none => false)
  | .coll id :: ds, h, c, k => (match h.get id with
    | some (.defd (some _)) => T.set (some (.defd none)) 60 h id fun h => unwK tb ft body fn rs ds h c k
    | _ => false)
  | .fn f caps args :: ds, h, c, k => (match ft.get f with
    | some g => (match g.body with
      | some code => bif Nat.ble (args ++ caps).length g.ntmps then nK g.ntmps fun nt => argsK nt 0 (args ++ caps) .leaf fun rs' => body ⟨f, nt, rs', [.code code], [], true, none⟩ h c fun j fr h c =>
          (match fr.df, resV tb g fr.rs h, retq j with
          | [], some _, true => unwK tb ft body fn rs ds h c k
          | _, _, _ => false) else false
      | none => false)
    | none => false)
def setAllK (n : Nat) : List Tmp → List V → T V → (T V → Bool) → Bool
  | [], [], rs, k => k rs
  | t :: ts, v :: vs, rs, k => putK n rs (some t) v fun rs => setAllK n ts vs rs k
  | _, _, _, _ => false
def callK (tb : Tb) (ft : T Func) (xt : T Xt) (body : BK) : CK
  | .fn f args, h, c, k => (match xt.get f with
    | some x => (match x.run args with
      | some v => v.frc fun v => k v h c
      | none => false)
    | none => (match ft.get f with
      | some fn => (match fn.body with
        | some code => bif Nat.ble args.length fn.ntmps then nK fn.ntmps fun nt => argsK nt 0 args .leaf fun rs => body ⟨f, nt, rs, [.code code], [], false, none⟩ h c fun j fr h c =>
            bif retq j then unwK tb ft body fn fr.rs fr.df h c k else false else false
        | none => false)
      | none => false))
  | .yield l args, h, c, k => (match h.get l with
    | some (.loop _ _ fn rs n params assign bd _) => setAllK n params args rs fun rs' => body ⟨fn, n, rs', [.code assign, .beg, .code bd], [], false, some l⟩ h c fun j fr h c =>
        (match fr.df, h.get l with
        | [], some (.loop _ _ fn rs n params assign bd d) => (match j with
          | none => T.set (some (.loop .ready none fn rs n params assign bd d)) 60 h l fun h => k (.bool true) h c
          | some j => T.set (some (.loop .done (some j) fn rs n params assign bd d)) 60 h l fun h => k (.bool false) h c)
        | _, _ => false)
    | _ => false)
def isRecover : Op → Bool
  | .call ⟨.builtin .recover, _, _⟩ => true
  | _ => false
def deferOf (rs : T V) : Op → Option Df
  | .defer ⟨.value x, xs, _⟩ => (match ov rs x, ovL rs xs.toList with
    | some (.func f caps), some vs => some (.fn f caps vs)
    | _, _ => none)
  | _ => none
def bodyK (P : Program) (tb : Tb) (ft : T Func) (xt : T Xt) : Nat → BK
  | 0, _, _, _, _ => false
  | fu + 1, ⟨fn, n, rs, todo, df, dfd, rof⟩, h, c, k => match todo with
    | [] => k none ⟨fn, n, rs, [], df, dfd, rof⟩ h c
    | .blk _ :: t => bodyK P tb ft xt fu ⟨fn, n, rs, t, df, dfd, rof⟩ h c k
    | .sc _ :: t => bodyK P tb ft xt fu ⟨fn, n, rs, t, df, dfd, rof⟩ h c k
    | .lp b :: t => bodyK P tb ft xt fu ⟨fn, n, rs, .code b :: .lp b :: t, df, dfd, rof⟩ h c k
    | .inr _ :: _ => false
    | .endr l :: t => (match h.get l with
      | some (.loop st pd fn' rs' n' ps asg bd d) => (match st with
        | .busy => false
        | _ => T.set (some (.loop .exhausted pd fn' rs' n' ps asg bd d)) 60 h l fun h => (match pd with
          | none => bodyK P tb ft xt fu ⟨fn, n, rs, t, df, dfd, rof⟩ h c k
          | some j => bodyK P tb ft xt fu ⟨fn, n, rs, .code j :: t, df, dfd, rof⟩ h c k))
      | _ => false)
    | .beg :: t => (match rof with
      | some l => (match h.get l with
        | some (.loop .ready pd fn' rs' n' ps asg bd d) => T.set (some (.loop .busy pd fn' rs' n' ps asg bd d)) 60 h l fun h => bodyK P tb ft xt fu ⟨fn, n, rs, t, df, dfd, rof⟩ h c k
        | _ => false)
      | none => false)
    | .reg _ops _i [] :: t => bodyK P tb ft xt fu ⟨fn, n, rs, t, df, dfd, rof⟩ h c k
    | .reg ops i (o :: r) :: t => (match wantV ops rs o with
      | none => false
      | some false => putK n rs o.dst (.tuple []) fun rs => bodyK P tb ft xt fu ⟨fn, n, rs, .reg ops (i + 1) r :: t, df, dfd, rof⟩ h c k
      | some true => (match deferOf rs o.op with
        | some d => (match rof with
          | none => putK n rs o.dst (.tuple []) fun rs => bodyK P tb ft xt fu ⟨fn, n, rs, .reg ops (i + 1) r :: t, d :: df, dfd, rof⟩ h c k
          | some _ => false)
        | none => bif isRecover o.op then (match rof with
            | none => putK n rs o.dst (.c .nilIface) fun rs => bodyK P tb ft xt fu ⟨fn, n, rs, .reg ops (i + 1) r :: t, df, dfd, rof⟩ h c k
            | some _ => false)
          else opK P tb (callK tb ft xt (bodyK P tb ft xt fu)) rs h c o fun v h c => putK n rs o.dst v fun rs => bodyK P tb ft xt fu ⟨fn, n, rs, .reg ops (i + 1) r :: t, df, dfd, rof⟩ h c k))
    | .code x :: t => (match x with
      | .skip => bodyK P tb ft xt fu ⟨fn, n, rs, t, df, dfd, rof⟩ h c k
      | .label _ => bodyK P tb ft xt fu ⟨fn, n, rs, t, df, dfd, rof⟩ h c k
      | .seq a b => bodyK P tb ft xt fu ⟨fn, n, rs, .code a :: .code b :: t, df, dfd, rof⟩ h c k
      | .cond x a b => (match ov rs x with
        | some (.bool true) => bodyK P tb ft xt fu ⟨fn, n, rs, .code a :: t, df, dfd, rof⟩ h c k
        | some (.bool false) => bodyK P tb ft xt fu ⟨fn, n, rs, .code b :: t, df, dfd, rof⟩ h c k
        | _ => false)
      | .block id b => bodyK P tb ft xt fu ⟨fn, n, rs, .code b :: .blk id :: t, df, dfd, rof⟩ h c k
      | .loop b => bodyK P tb ft xt fu ⟨fn, n, rs, .code b :: .lp b :: t, df, dfd, rof⟩ h c k
      | .scope b => bodyK P tb ft xt fu ⟨fn, n, rs, .code b :: .sc b :: t, df, dfd, rof⟩ h c k
      | .exit id => (match exitV id t with
        | some t' => bodyK P tb ft xt fu ⟨fn, n, rs, t', df, dfd, rof⟩ h c k
        | none => k (some (.exit id)) ⟨fn, n, rs, .code (.exit id) :: t, df, dfd, rof⟩ h c)
      | .goto l => (match gotoV l t with
        | some t' => bodyK P tb ft xt fu ⟨fn, n, rs, t', df, dfd, rof⟩ h c k
        | none => k (some (.goto l)) ⟨fn, n, rs, .code (.goto l) :: t, df, dfd, rof⟩ h c)
      | .ret => k (some .ret) ⟨fn, n, rs, .code .ret :: t, df, dfd, rof⟩ h c
      | .region _ ops draw => bif draw then (match masks ops.toList [] with
          | am => match zip3 ops ops.toList am 0 ops.toList am with
          | L => bif chkR ops L L then regK P tb (callK tb ft xt (bodyK P tb ft xt fu)) ops n L 400 0 rs h c [] fun rs h c => bodyK P tb ft xt fu ⟨fn, n, rs, t, df, dfd, rof⟩ h c k else false)
        else bodyK P tb ft xt fu ⟨fn, n, rs, .reg ops 0 ops.toList :: t, df, dfd, rof⟩ h c k
      | .rangeFunc f ps asg bd => (match ov rs f with
        | some (.func g caps) => (match rof with
          | none => T.set (some (.defd (some ()))) 60 h c fun h => T.set (some (.loop .ready none fn rs n ps.toList asg bd c)) 60 h (c + 1) fun h => callK tb ft xt (bodyK P tb ft xt fu) (.fn g (.yield (c + 1) :: caps)) h (c + 2) fun _ h c' =>
              bodyK P tb ft xt fu ⟨fn, n, rs, .endr (c + 1) :: t, .coll c :: df, dfd, rof⟩ h c' k
          | some l0 => (match h.get l0 with
            | some (.loop _ _ _ _ _ _ _ _ d0) => T.set (some (.loop .ready none fn rs n ps.toList asg bd d0)) 60 h c fun h => callK tb ft xt (bodyK P tb ft xt fu) (.fn g (.yield c :: caps)) h (c + 1) fun _ h c' =>
              bodyK P tb ft xt fu ⟨fn, n, rs, .endr c :: t, df, dfd, rof⟩ h c' k
            | _ => false))
        | _ => false)
      | .refuse _ => false)
/-- A function, called. -/
def runK (P : Program) (tb : Tb) (ft : T Func) (xt : T Xt) (fu : Nat) (f : FuncId) (args : List V) (h : T O) (c : Nat) (k : K1) : Bool := callK tb ft xt (bodyK P tb ft xt fu) (.fn f args) h c k
end Go.Proofs.YtkjhjgokaeiopaaGreatDoor.E
