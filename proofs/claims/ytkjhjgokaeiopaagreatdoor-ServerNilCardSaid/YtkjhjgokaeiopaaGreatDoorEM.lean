/-
  The engine (13): bytes of a text, cuts that leave nothing, a builder's text, rounds over a map; all that turns memory.
-/
import Derived.Test.YtkjhjgokaeiopaaGreatDoorEL
import Derived.Laws.IdiomStrings
import Derived.Lib.UnsafeStr
namespace Go.Proofs.YtkjhjgokaeiopaaGreatDoor.E
open Go Go.RowKit

/-- A builder's text: the row is a row no more. -/
def usF (_P : Program) (tb : Tb) (rs : T V) (h : T O) (pt : TypeId) (x y : Operand) : Option Fx := match tb.get pt, ov rs x, ov rs y with
  | some _, some (.c (.pointer none)), some (.int .i64 (.ofNat 0)) => some ⟨.str [], none, none⟩
  | some i, some (.ptr q off), some (.int .i64 (.ofNat n)) => (match i.d, h.get q with
    | .pointer e', some (.cells cs e _ _ _) => (match cutV off (off + n) cs with
      | some l => (match u8L l with
        | some m => if n ≠ 0 ∧ n ≤ 9223372036854775807 ∧ e = e' then (match tb.get e with
          | some ie => if ie.sz = 1 then some ⟨.str m, some q, none⟩ else none
          | none => none) else none
        | none => none)
      | none => none)
    | _, _ => none)
  | _, _, _ => none
def sdF (rs : T V) (h : T O) (x : Operand) : Option Fx := match ov rs x with
  | some (.c (.slice none 0 0)) => some ⟨.c (.pointer none), none, none⟩
  | some (.sl q off _ (.k c)) => if c = 0 then none else some ⟨.ptr q off, none, none⟩
  | some (.sl q off n (.v q' m0)) => (match h.get q with
    | some (.cells cs _ _ _ (some z)) => if (q = q' ∧ off = m0 * z ∧ m0 * z + n * z ≤ cs.length ∧ 0 < z) ∧ n ≠ 0 then some ⟨.ptr q off, none, none⟩ else none
    | _ => none)
  | _ => none
def rangeF (tb : Tb) (rs : T V) (h : T O) (id : Nat) (t : TypeId) (x : Operand) : Option Fx := match tb.get t, ov rs x with
  | some i, some (.map m) => (match i.d, h.get m with
    | .map _ _, some (.map _ cl) => some ⟨.ptr id 0, none, some (id, .iter m cl [] cl)⟩
    | _, _ => none)
  | _, _ => none
def leftV (seen : List Nat) : List (V × V × Nat) → List (V × V × Nat)
  | [] => []
  | (k, v, b) :: l => bif seen.contains b then leftV seen l else (k, v, b) :: leftV seen l
def allGe (n : Nat) : List (V × V × Nat) → Bool
  | [] => true
  | (_, _, b) :: l => bif Nat.ble n b then allGe n l else false
def nextF (rs : T V) (h : T O) (x : Operand) : Option Fx := match ov rs x with
  | some (.ptr it 0) => (match h.get it with
    | some (.iter m since seen last) => (match h.get m with
      | some (.map es cl) => if (!seen.isEmpty && !es.isEmpty && allGe last es) = false then (match leftV seen es with
        | [] => some ⟨.tuple [.bool false], none, none⟩
        | [(k, v, b)] => if b < since then some ⟨.tuple [.bool true, k, v], none, some (it, .iter m since (seen ++ [b]) cl)⟩ else none
        | _ => none) else none
      | _ => none)
    | _ => none)
  | _ => none
def findB (b : Nat) : List (V × V × Nat) → Option (V × V)
  | [] => none
  | (k, v, c) :: l => bif Nat.beq c b then some (k, v) else findB b l
def entryF (rs : T V) (h : T O) (x : Operand) : Option Fx := match ov rs x with
  | some (.ptr it 0) => (match h.get it with
    | some (.iter m _ seen last) => (match h.get m, seen.getLast? with
      | some (.map es cl), some b => if cl = last then (match findB b es with
        | some (k, v) => some ⟨.tuple [k, v], none, none⟩
        | none => none) else none
      | _, _ => none)
    | _ => none)
  | _ => none
section
variable {P : Program} {σ : Nat → Value} {ρ : Nm} {n : Nat} {rs : T V} {h : T O} {a : Act} {w : World} {tb : Tb} {id : Nat} {f : Fx}
variable {dst : Option Tmp} {ty t t' u : TypeId} {pos : String} {af : Array Edge} {gd : Option (Nat × Bool)} {x y z : Operand} {o : Oper}
theorem s2bF_ok (hT : tb.ok P) (hr : RegsOk σ ρ n rs a.tmps) (hm : Mem σ ρ h w) (hf : s2bF tb rs id t t' x = some f) :
    ∃ r w', Does P σ ρ h w id f (execOp a.eval ⟨dst, .convert t t' x, ty, pos, af, gd⟩) r w' := by
  unfold s2bF at hf
  split at hf
  · rename_i i i' l hi hi' hx
    have hx' := ov_ev hr hx
    have hd := (hT _ _ hi).d
    have hd' := (hT _ _ hi').d
    simp only [V.den] at hx'
    split at hf
    · rename_i e hz hz'
      rw [hz] at hd; rw [hz'] at hd'
      split at hf
      · rename_i ie he
        have hE := hT _ _ he
        split at hf
        · rename_i hze
          have hed := hE.d
          rw [hze] at hed
          simp only [Option.some.injEq] at hf
          subst hf
          have hrun0 := run_bytes_of_string (P := P) w t t' e (mkS l) hd hd' hed
          rw [mkS_size] at hrun0
          have hge : l.length ≤ grownCap w l.length 0 e := grownCap_ge _ _ _ _
          generalize grownCap w l.length 0 e = cap at hrun0 hge
          have hcells : bytesRow (mkS l) cap = (denL σ ρ (l.map fun k => V.int .u8 (.ofNat (k % 256))) ++ List.replicate (cap - l.length) (Value.int .u8 0)).toArray := by
            apply Array.ext'
            simp only [bytesRow, mkS_size]
            simp only [mkS, denL_map, List.map_map]
            simp [V.den, UInt8.toNat_ofNat', Function.comp_def]
          have hsz : (bytesRow (mkS l) cap).size = cap := by
            rw [hcells]; simp [denL_len]; omega
          rw [hsz] at hrun0
          have hkeep : ∀ k, k < w.heap.size → (w.drew.alloc (.cells (bytesRow (mkS l) cap) e (cap, cap + 1))).heap[k]? = w.heap[k]? := fun k hk => Below.heap_alloc w.drew _ k hk
          refine ⟨.slice (some ⟨w.heap.size, 0, none⟩) l.length cap, w.drew.alloc (.cells (bytesRow (mkS l) cap) e (cap, cap + 1)), .inl (by simp [execOp, hx', hrun0]), (Keeps.alloc w.drew _ _).drew, fun p o q => (by cases q; exact .inl rfl), fun hρ => ⟨by simp [V.den, Cp.den, hρ, nmOf], fun h' hh => ?_⟩, fun _ _ => .inl (by simp [nmOf])⟩
          have hb : (ρ id).b = w.heap.size := by simp [hρ, nmOf]
          have ho : (ρ id).o = 0 := by simp [hρ, nmOf]
          have hc : (ρ id).c = cap := by simp [hρ, nmOf]
          refine hm.new (p := id) (o := .cells (l.map fun k => .int .u8 (.ofNat (k % 256))) e 0 0 (some 1)) (fun j => by rw [hh]; simp [Fx.to]) hkeep ⟨[], List.replicate (cap - l.length) (.int .u8 0), (cap, cap + 1), ?_, .inr ?_, ho.symm, ?_⟩ (by omega)
          · rw [hb]
            refine (heap_alloc_new w.drew _).trans ?_
            rw [hcells]; simp
          · simp; omega
          · rw [hc]; simp; omega
        · cases hf
      · cases hf
    · cases hf
  · cases hf
theorem endF_ok (hT : tb.ok P) (hr : RegsOk σ ρ n rs a.tmps) (hm : Mem σ ρ h w) {lo hi mx : Option Operand} (hf : endF tb rs h id t x lo hi mx = some f) :
    ∃ r w', Does P σ ρ h w id f (execOp a.eval ⟨dst, .slice t x lo hi mx, ty, pos, af, gd⟩) r w' := by
  unfold endF at hf
  split at hf
  · rename_i i q off m q' m0 hi' hx
    have hI := hT _ _ hi'
    have hx' := ov_ev hr hx
    simp only [V.den, Cp.den] at hx'
    split at hf
    · rename_i e l cs e' lo' hi'' z hz hl hg
      have hd := hI.d
      rw [hz] at hd
      split at hf
      · rename_i hb
        obtain ⟨⟨d1, d2, d3, d4, d5⟩, d6⟩ := hb
        subst d1 d2 d4 d6
        simp only [Option.some.injEq] at hf
        subst hf
        have hroom := row_room hm hg d5 d3
        have hb2 := run_bounds (P := P) (w := w) (isS := true) (len := l) (cap := (ρ q).c - m0) (hi := none) (mx := none) hr hl rfl rfl (Nat.le_refl _) hroom (Nat.le_refl _) (by simp)
        simp only [Option.map_none] at hb2
        refine ⟨_, w, does_same (by simp [execOp, hx', Instr.sliceAt, Instr.slice, Sem.run_bind, run_underlying hd w, hb2, hI.els _ hz]; rfl) ⟨rfl, rfl, rfl, rfl⟩ (fun hρ => ?_) hm⟩
        by_cases hq : (ρ q).c - m0 = l
        · simp only [hq, if_true] at hρ ⊢
          simp [V.den, hρ, nmOf]
        · simp only [if_neg hq, add_off] at hρ ⊢
          simp [V.den, hρ, nmOf]
      · cases hf
    · cases hf
  · cases hf
theorem usd_none {ats : Array TypeId} {ty : TypeId} {n c : Nat} : Builtin.unsafeSliceData_ ats ty #[.slice none n c] = pure (.pointer none) := rfl
theorem usd_some {ats : Array TypeId} {ty : TypeId} {p : Addr} {n c : Nat} (hc : c ≠ 0) : Builtin.unsafeSliceData_ ats ty #[.slice (some p) n c] = pure (.pointer (some p)) := by
  show (if c ≠ 0 then _ else _) = _
  rw [if_pos hc]
theorem sdF_ok (hr : RegsOk σ ρ n rs a.tmps) (hm : Mem σ ρ h w) (hf : sdF rs h x = some f) :
    ∃ r w', Does P σ ρ h w id f (execOp a.eval ⟨dst, .call ⟨.builtin .unsafeSliceData, #[x], #[t]⟩, ty, pos, af, gd⟩) r w' := by
  unfold sdF at hf
  split at hf
  · rename_i hx
    simp only [Option.some.injEq] at hf; subst hf
    have hx' := ov_ev hr hx
    simp only [V.den] at hx'
    exact ⟨_, w, does_same (by simp [execOp, resolve, invoke, builtin, hx', usd_none]; rfl) ⟨rfl, rfl, rfl, rfl⟩ (fun _ => by simp [V.den]) hm⟩
  · rename_i q off m c hx
    have hx' := ov_ev hr hx
    simp only [V.den, Cp.den] at hx'
    split at hf
    · cases hf
    · rename_i hc
      simp only [Option.some.injEq] at hf; subst hf
      exact ⟨_, w, does_same (by simp [execOp, resolve, invoke, builtin, hx', usd_some hc]; rfl) ⟨rfl, rfl, rfl, rfl⟩ (fun _ => by simp [V.den]) hm⟩
  · rename_i q off m q' m0 hx
    have hx' := ov_ev hr hx
    simp only [V.den, Cp.den] at hx'
    split at hf
    · rename_i cs e lo hi z hg
      split at hf
      · rename_i hb
        obtain ⟨⟨d1, d2, d3, d4⟩, d5⟩ := hb
        subst d1 d2
        simp only [Option.some.injEq] at hf; subst hf
        have hroom := row_room hm hg d4 d3
        have hc : (ρ q).c - m0 ≠ 0 := by omega
        exact ⟨_, w, does_same (by simp [execOp, resolve, invoke, builtin, hx', usd_some hc]; rfl) ⟨rfl, rfl, rfl, rfl⟩ (fun _ => by simp [V.den]) hm⟩
      · cases hf
    · cases hf
  · cases hf
/-- What is frozen, or else turned, is ours no more. -/
theorem Mem.gone {h' : T O} {w' : World} {q : Nat} {oq : O} (hm : Mem σ ρ h w) (hg : h.get q = some oq) (hh : ∀ j, h'.get j = if j = q then none else h.get j) (hk : ∀ k, k < w.heap.size → k ≠ (ρ q).b → w'.heap[k]? = w.heap[k]?) : Mem σ ρ h' w' := by
  refine ⟨fun j oj hj => ?_, fun i j oi oj hi hj hne => ?_⟩
  · rw [hh] at hj
    by_cases e : j = q
    · rw [if_pos e] at hj; cases hj
    · rw [if_neg e] at hj
      exact O.holds_of (hk _ (O.holds_lt (hm.ok j oj hj)) (hm.apart _ _ _ _ hj hg e)) (hm.ok j oj hj)
  · rw [hh] at hi hj
    by_cases e : i = q
    · rw [if_pos e] at hi; cases hi
    · rw [if_neg e] at hi
      by_cases e2 : j = q
      · rw [if_pos e2] at hj; cases hj
      · rw [if_neg e2] at hj; exact hm.apart _ _ _ _ hi hj hne
theorem lies_bytes {e : TypeId} (hc : P.cellsOf e = 1) {count off n : Nat} (hn : off + n ≤ count) : liesAt P P.depth e count off e n = true := by
  have hd : P.depth = (2 * (P.types.size + Made.depth) + 1) + 1 := rfl
  rw [hd]
  simp only [liesAt, Bool.or_eq_true]
  left
  rw [hd]
  simp [rowAt, hc, hn, sameLayout, Nat.mod_one]
theorem run_loadBytesN (w : World) : ∀ (l : List Nat) (p : Addr) (acc : ByteArray), (∀ (j k : Nat), l[j]? = some k → w.cell? (p.add j) = some (.int .u8 (k : Int))) → (loadBytes p acc l.length).run P w = .ok ⟨acc.data ++ (l.map UInt8.ofNat).toArray⟩ w
  | [], p, acc, _ => by simp [loadBytes]
  | k :: l, p, acc, hl => by
    have h0 := hl 0 k (by simp)
    have e0 : p.add 0 = p := by simp [Addr.add]
    rw [e0] at h0
    have ih := run_loadBytesN w l (p.add 1) (acc.push (k.toUInt8)) (fun j k' hj => by
      have := hl (j + 1) k' (by simpa using hj)
      have e : (p.add 1).add j = p.add (j + 1) := by
        unfold Addr.add
        by_cases hj : j = 0
        · subst hj; simp
        · simp [hj]; omega
      rw [e]; exact this)
    simp only [List.length_cons, loadBytes, Sem.run_bind, run_load, h0, Result.andThen, Int.toNat_natCast]
    rw [ih]
    congr 1
    apply ByteArray.ext
    simp [ByteArray.push]
theorem run_us (pt it ty e : TypeId) (hp : P.underlying pt = some (.pointer e)) (hc : P.cellsOf e = 1) (g k cells : Nat) (hsh : w.shape? g = some (e, cells)) (l : List Nat) (h0 : l.length ≠ 0) (hn : k + l.length ≤ cells) (h63 : l.length ≤ 9223372036854775807)
    (hcell : ∀ (j x : Nat), l[j]? = some x → w.cell? ((⟨g, k, none⟩ : Addr).add j) = some (.int .u8 (x : Int))) :
    (Builtin.unsafeString_ #[pt, it] ty #[.pointer (some ⟨g, k, none⟩), .int .i64 l.length]).run P w = .ok (.string (mkS l)) (w.freeze ⟨g, k, none⟩ l.length) := by
  have hlb := run_loadBytesN (P := P) w l ⟨g, k, none⟩ .empty hcell
  have hlies := lies_bytes (P := P) hc (count := cells / P.cellsOf e) (off := k) (n := l.length) (by rw [hc]; simpa using hn)
  have h63' : ¬ (9223372036854775807 : Int) < (l.length : Int) := by omega
  have hdef : Builtin.unsafeString_ #[pt, it] ty #[.pointer (some ⟨g, k, none⟩), .int .i64 l.length] =
      (do
        let n ← asInt (.int .i64 l.length)
        if n < 0 then runtimePanic (.error "unsafe.String: len out of range")
        if n > IntKind.i64.max then unsupported (.unsafePointer "String: a length above the largest int")
        if n = 0 then pure (.string .empty)
        else if ← variablesAt ⟨g, k, none⟩ (← elemOf pt) n.toNat then do
          let s ← loadBytes ⟨g, k, none⟩ .empty n.toNat
          freeze ⟨g, k, none⟩ n.toNat
          pure (.string s)
        else unsupported (.unsafePointer "String: not so many bytes at ptr")) := rfl
  rw [hdef]
  have hmax : IntKind.i64.max = 9223372036854775807 := rfl
  have hneg : ¬ (l.length : Int) < 0 := by omega
  have hne : l ≠ [] := fun e => h0 (by simp [e])
  simp [asInt, asIntOf, hmax, h63', hneg, hne, variablesAt, hsh, elemOf, run_underlying hp, hlies, hlb, mkS]
theorem freeze_other {p : Addr} {m k : Nat} (hk : k ≠ p.block) : (w.freeze p m).heap[k]? = w.heap[k]? := by
  unfold World.freeze
  split
  · rfl
  · simp only [Array.getElem?_modify]
    rw [if_neg (fun e => hk e.symm)]
theorem freeze_keeps {p : Addr} {m : Nat} {F : Nat → Prop} (hF : F p.block) : Keeps w (w.freeze p m) F := by
  refine ⟨?_, ?_, ?_, ?_, fun k _ hn => freeze_other (fun e => hn (e ▸ hF))⟩ <;> unfold World.freeze <;> split <;> simp
theorem cellsOf_sz (w : World) {t : TypeId} {i : I} (hi : i.ok P t) : P.cellsOf t = i.sz := by
  have hb := hi.by_
  have hs := hi.sz w
  cases hq : P.info? t with
  | none => simp [hq] at hb
  | some ti =>
    simp [sizeOf, typeInfo, Sem.run_bind, hq] at hs
    simp [Program.cellsOf, hq, hs]
theorem usF_ok (hT : tb.ok P) (hr : RegsOk σ ρ n rs a.tmps) (hm : Mem σ ρ h w) {pt it : TypeId} (hf : usF P tb rs h pt x y = some f) :
    ∃ r w', Does P σ ρ h w id f (execOp a.eval ⟨dst, .call ⟨.builtin .unsafeString, #[x, y], #[pt, it]⟩, ty, pos, af, gd⟩) r w' := by
  unfold usF at hf
  split at hf
  · rename_i i hi hx hy
    have hx' := ov_ev hr hx
    have hy' := ov_ev hr hy
    simp only [V.den, Int.ofNat_eq_natCast] at hx' hy'
    simp only [Option.some.injEq] at hf; subst hf
    have := Lib.run_unsafeString_none (P := P) w pt it ty none
    exact ⟨.string .empty, w, does_same (by simp [execOp, resolve, invoke, builtin, hx', hy', this]) ⟨rfl, rfl, rfl, rfl⟩ (fun _ => by simp [V.den, mkS]; rfl) hm⟩
  · rename_i i q off m hi hx hy
    have hx' := ov_ev hr hx
    have hy' := ov_ev hr hy
    simp only [V.den, Int.ofNat_eq_natCast] at hx' hy'
    split at hf
    · rename_i e' cs e lo hi' tl hz hg
      have hd := (hT _ _ hi).d
      rw [hz] at hd
      split at hf
      · rename_i l hl
        split at hf
        · rename_i bs hu8
          split at hf
          · rename_i hb
            obtain ⟨b1, b2, b3⟩ := hb
            subst b3
            split at hf
            · rename_i ie he
              split at hf
              · rename_i hsz
                simp only [Option.some.injEq] at hf; subst hf
                have hc1 : P.cellsOf e = 1 := by rw [cellsOf_sz w (hT _ _ he), hsz]
                have hc : cellsAt h q = some cs := by simp [cellsAt, hg]
                obtain ⟨c1, c2⟩ := cutV_cells hm hc hl
                obtain ⟨k1, k2, k3⟩ := cutV_some hl
                have hml : m ≤ cs.length - off := by
                  have := congrArg List.length k2
                  rw [List.length_take, List.length_drop, c1] at this
                  omega
                have hbl : bs.length = m := by
                  have := congrArg List.length (u8L_ok (σ := σ) (ρ := ρ) hu8)
                  rw [denL_len, List.length_map] at this; omega
                obtain ⟨N, s1, s2, _⟩ := shape_of hm hg
                have hcell : ∀ (j x : Nat), bs[j]? = some x → w.cell? ((⟨(ρ q).b, (ρ q).o + off, none⟩ : Addr).add j) = some (.int .u8 (x : Int)) := fun j x hj => by
                  refine c2 j _ ?_
                  rw [u8L_ok hu8, List.getElem?_map, hj]; rfl
                have hrun := run_us (P := P) pt it ty e hd hc1 (ρ q).b ((ρ q).o + off) N s1 bs (by omega) (by omega) (by omega) hcell
                rw [hbl] at hrun
                refine ⟨.string (mkS bs), w.freeze ⟨(ρ q).b, (ρ q).o + off, none⟩ m, .inl (by simp [execOp, resolve, invoke, builtin, hx', hy', hrun]), freeze_keeps ⟨q, _, hg, rfl⟩, fun p o q => (by cases q), fun _ => ⟨by simp [V.den], fun h' hh => ?_⟩, fun ⟨o, q'⟩ => (by cases q')⟩
                refine hm.gone (q := q) hg (fun j => ?_) (fun k _ hk => freeze_other hk)
                rw [hh]; simp only [Fx.to]
                by_cases e2 : j = q
                · simp [e2]
                · have : ¬ (some q = some j) := fun q' => e2 (by cases q'; rfl)
                  simp [e2, this]
              · cases hf
            · cases hf
          · cases hf
        · cases hf
      · cases hf
    · cases hf
  · cases hf
end
end Go.Proofs.YtkjhjgokaeiopaaGreatDoor.E
