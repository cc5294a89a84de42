/-
  The engine (10): stores; what is laid anew.
-/
import Derived.Test.YtkjhjgokaeiopaaGreatDoorEI
namespace Go.Proofs.YtkjhjgokaeiopaaGreatDoor.E
open Go Go.RowKit

/-- n times the same cells. -/
def repV {α : Type} (z : List α) : Nat → List α
  | 0 => []
  | n + 1 => z ++ repV z n
theorem repV_len {α : Type} (z : List α) : ∀ n, (repV z n).length = n * z.length
  | 0 => by simp [repV]
  | n + 1 => by simp [repV, repV_len z n, Nat.add_mul, Nat.add_comm]
theorem repV_map {α β : Type} (f : α → β) (z : List α) : ∀ n, (repV z n).map f = repV (z.map f) n
  | 0 => rfl
  | n + 1 => by simp [repV, repV_map f z n]
theorem rep_get {α : Type} (z : List α) (hz : 0 < z.length) : ∀ (n i : Nat), i < n * z.length → (repV z n)[i]? = z[i % z.length]?
  | 0, i, h => by simp at h
  | n + 1, i, h => by
    rw [Nat.add_mul, Nat.one_mul] at h
    simp only [repV]
    by_cases hi : i < z.length
    · rw [List.getElem?_append_left hi, Nat.mod_eq_of_lt hi]
    · rw [List.getElem?_append_right (by omega), rep_get z hz n (i - z.length) (by omega)]
      rw [Nat.mod_eq_sub_mod (a := i) (by omega)]
theorem zeros_rep (z : Array Value) (n : Nat) : Builtin.zeroCells z n = (repV z.toList n).toArray := by
  apply Array.ext'
  by_cases hz : z.size = 0
  · have : z = #[] := Array.size_eq_zero_iff.1 hz
    subst this
    simp only [Builtin.zeroCells]
    have e : ∀ n, repV ([] : List Value) n = [] := fun n => List.eq_nil_of_length_eq_zero (by rw [repV_len]; simp)
    simp [e]
  · apply List.ext_getElem?
    intro i
    by_cases hi : i < n * z.size
    · have := rep_get z.toList (by simp; omega) n i (by simpa using hi)
      simp only [Builtin.zeroCells, Array.toList_map, Array.toList_range, List.getElem?_map, List.getElem?_range hi, Option.map_some, this, Array.length_toList, Array.getElem?_toList]
      have hlt : i % z.size < z.size := Nat.mod_lt _ (by omega)
      rw [getElem!_pos z (i % z.size) hlt, Array.getElem?_eq_getElem hlt]
    · rw [List.getElem?_eq_none (by simp [Builtin.zeroCells]; omega), List.getElem?_eq_none (by simp [repV_len]; omega)]

def storeF (tb : Tb) (rs : T V) (h : T O) (t : TypeId) (x y : Operand) : Option Fx := match tb.get t, ov rs x, ov rs y with
  | some i, some (.ptr id off), some v => (match v.cells, h.get id with
    | some l, some (.cells cs e lo hi tl) => (match putE off cs l with
      | some ms => if (Nat.beq l.length i.sz && allOne l) && (tl.isSome || thaw lo hi cs.length) then some ⟨.tuple [], none, some (id, .cells ms e lo hi tl)⟩ else none
      | none => none)
    | _, _ => none)
  | _, _, _ => none
def allocF (tb : Tb) (id : Nat) (t : TypeId) : Option Fx := match tb.get t with
  | some i => some ⟨.ptr id 0, none, some (id, .cells (i.z.cells.toList.map V.at) t 0 0 none)⟩
  | none => none
def boxF (rs : T V) (id : Nat) (t : TypeId) (x : Operand) : Option Fx := match ov rs x with
  | some v => (match v.cells with
    | some l => some ⟨.ptr id 0, none, some (id, .cells l t 0 0 none)⟩
    | none => none)
  | none => none
def bslF (tb : Tb) (rs : T V) (id : Nat) (t : TypeId) (len : Nat) (ps : Array (Nat × Operand)) : Option Fx := match tb.get t, ovP rs ps.toList with
  | some i, some vs => (match i.d with
    | .slice e => (match tb.get e with
      | some ie => if len = 0 then (match vs with
        | [] => some ⟨.sl id 0 0 (.k 0), none, some (id, .cells [] e 0 0 none)⟩
        | _ => none) else if (Nat.ble (len * ie.sz) 16777216 && Nat.blt 0 (len * ie.sz)) && Nat.beq ie.z.cells.size ie.sz then (match fillV (fun k => some (k * ie.sz, ie.sz)) (repV (ie.z.cells.toList.map V.at) len) vs with
        | some z => some ⟨.sl id 0 len (.k len), none, some (id, .cells z e 0 0 none)⟩
        | none => none) else none
      | none => none)
    | _ => none)
  | _, _ => none
def mkSF (tb : Tb) (rs : T V) (id : Nat) (t : TypeId) (x y : Operand) : Option Fx := match tb.get t, ov rs x, ov rs y with
  | some i, some (.int .i64 (.ofNat l)), some (.int .i64 (.ofNat c)) => (match i.d with
    | .slice e => (match tb.get e with
      | some ie => if ((Nat.ble l c && Nat.ble c 1000000) && Nat.ble ie.by_ 1000000) && Nat.beq ie.z.cells.size ie.sz then
          some ⟨.sl id 0 l (.k c), none, some (id, .cells (repV (ie.z.cells.toList.map V.at) c) e 0 0 none)⟩ else none
      | none => none)
    | _ => none)
  | _, _, _ => none
def mkMF (r : Option Operand) (id : Nat) : Option Fx := match r with
  | none => some ⟨.map id, none, some (id, .map [] 0)⟩
  | some _ => none
section
variable {P : Program} {σ : Nat → Value} {ρ : Nm} {n : Nat} {rs : T V} {h : T O} {a : Act} {w : World} {tb : Tb} {id : Nat} {f : Fx}
variable {dst : Option Tmp} {ty t t' : TypeId} {pos : String} {af : Array Edge} {gd : Option (Nat × Bool)} {x y : Operand} {o : Oper}
theorem storeF_ok (hT : tb.ok P) (hr : RegsOk σ ρ n rs a.tmps) (hm : Mem σ ρ h w) (hf : storeF tb rs h t x y = some f) :
    ∃ u w', Does P σ ρ h w id f (execOp a.eval ⟨dst, .store t x y, ty, pos, af, gd⟩) u w' := by
  unfold storeF at hf
  split at hf
  · rename_i i id' off v hi hx hy
    have hx' := ov_ev hr hx
    have hy' := ov_ev hr hy
    simp only [V.den] at hx'
    split at hf
    · rename_i l cs e lo hi' tl hc hg
      split at hf
      · rename_i ms hp
        split at hf
        · rename_i hb
          simp only [Bool.and_eq_true, Bool.or_eq_true] at hb
          obtain ⟨⟨hb1, hb2⟩, hb3⟩ := hb
          cases hf
          have hcl := V.cells_ok (σ := σ) (ρ := ρ) hc
          obtain ⟨q1, q2⟩ := cells_put (P := P) hm hg hp (fun e => by subst e; simpa using hb3) hb2
          have hsz : (v.den σ ρ).cells.size = i.sz := by rw [hcl]; simp [denL_len, Nat.eq_of_beq_eq_true hb1]
          refine ⟨undef, w.setCells (ρ id').b ((ρ id').o + off) (denL σ ρ l), .inr ⟨?_, rfl⟩, setCells_keeps ⟨_, _, hg, rfl⟩, fun p o q => ?_, fun _ => ⟨by simp [V.den, denL, undef], fun h' hh => ?_⟩, fun ⟨o, q⟩ => ?_⟩
          · have hq : (v.den σ ρ).cells.toList = denL σ ρ l := by rw [hcl]
            simp [execOp, hx', hy', Instr.storeAt, Instr.sureAddr, storeVar, Sem.run_bind, (hT _ _ hi).sz, hsz, hq, q1]
          · cases q; exact .inr ⟨_, hg⟩
          · refine hm.turn (i := id') (p := id') hg (fun j => ?_) (fun k _ hk => setCells_other _ _ _ _ _ hk) q2 (.inl rfl)
            rw [hh]; simp only [Fx.to]
            by_cases ej : j = id' <;> simp [ej]
          · cases q; intro hn; rw [hn] at hg; cases hg
        · cases hf
      · cases hf
    · cases hf
  · cases hf
/-- What is laid anew. -/
theorem does_new {s : Sem Next} {u : Value} {v : V} {b : Obj} {o : O} (hrun : s.run P w = .ok (.value u) (w.alloc b)) (hb : (nmOf u).b = w.heap.size) (ho : ρ id = nmOf u → u = v.den σ ρ ∧ ((ρ id).b = w.heap.size → (w.alloc b).heap[(ρ id).b]? = some b → o.holds σ ρ (ρ id) (w.alloc b))) (hm : Mem σ ρ h w) :
    Does P σ ρ h w id ⟨v, none, some (id, o)⟩ s u (w.alloc b) := by
  refine ⟨.inl hrun, Keeps.alloc _ _ _, fun p o q => by cases q; exact .inl rfl, fun hρ => ⟨(ho hρ).1, fun h' hh => ?_⟩, fun _ _ => .inl (by omega)⟩
  refine hm.new (p := id) (fun j => ?_) (fun k hk => Below.heap_alloc _ _ _ hk) ((ho hρ).2 (by rw [hρ, hb]) (by rw [hρ, hb]; exact heap_alloc_new _ _)) (by rw [hρ, hb]; exact Nat.le_refl _)
  rw [hh]; simp [Fx.to]
theorem allocF_ok (hT : tb.ok P) (hm : Mem σ ρ h w) (hf : allocF tb id t = some f) :
    ∃ u w', Does P σ ρ h w id f (execOp a.eval ⟨dst, .alloc t, ty, pos, af, gd⟩) u w' := by
  unfold allocF at hf
  split at hf
  · rename_i i hi
    cases hf
    refine ⟨.pointer (some ⟨w.heap.size, 0, none⟩), w.alloc (.cells i.z.cells t), does_new (by simp [execOp, Instr.alloc, (hT _ _ hi).z, Sem.run_bind, run_newVar]) rfl (fun hρ => ⟨by simp [V.den, hρ, nmOf], fun _ hb => ?_⟩) hm⟩
    refine ⟨by rw [hρ]; rfl, ?_⟩
    rw [hb, denL_at]
  · cases hf
theorem boxF_ok (hr : RegsOk σ ρ n rs a.tmps) (hm : Mem σ ρ h w) (hf : boxF rs id t x = some f) :
    ∃ u w', Does P σ ρ h w id f (execOp a.eval ⟨dst, .box t x, ty, pos, af, gd⟩) u w' := by
  unfold boxF at hf
  split at hf
  · rename_i v hx
    split at hf
    · rename_i l hl
      cases hf
      have hc := V.cells_ok (σ := σ) (ρ := ρ) hl
      refine ⟨.pointer (some ⟨w.heap.size, 0, none⟩), w.alloc (.cells (v.den σ ρ).cells t), does_new (by simp [execOp, ov_ev hr hx, run_box]) rfl (fun hρ => ⟨by simp [V.den, hρ, nmOf], fun _ hb => ?_⟩) hm⟩
      refine ⟨by rw [hρ]; rfl, ?_⟩
      rw [hb, hc]
    · cases hf
  · cases hf
theorem mkMF_ok (hm : Mem σ ρ h w) {r : Option Operand} (hf : mkMF r id = some f) :
    ∃ u w', Does P σ ρ h w id f (execOp a.eval ⟨dst, .makeMap t r, ty, pos, af, gd⟩) u w' := by
  unfold mkMF at hf
  split at hf
  · cases hf
    refine ⟨.map (some w.heap.size), w.alloc (.map #[] 0), does_new (by simp [execOp, Instr.makeMap, newObj, Sem.run]) rfl (fun hρ => ⟨by simp [V.den, hρ, nmOf], fun _ hb => ?_⟩) hm⟩
    simp only [O.holds]
    rw [hb]; rfl
  · cases hf
theorem bslF_ok (hT : tb.ok P) (hr : RegsOk σ ρ n rs a.tmps) (hm : Mem σ ρ h w) {len : Nat} {ps : Array (Nat × Operand)} (hf : bslF tb rs id t len ps = some f) :
    ∃ u w', Does P σ ρ h w id f (execOp a.eval ⟨dst, .buildSlice t len ps, ty, pos, af, gd⟩) u w' := by
  unfold bslF at hf
  split at hf
  · rename_i i vs hi hp
    have hd := (hT _ _ hi).d
    split at hf
    · rename_i e hz
      rw [hz] at hd
      split at hf
      · rename_i ie he
        have hE := hT _ _ he
        split at hf
        · rename_i h0
          subst h0
          split at hf
          · cases hf
            have e1 := ovP_ok hr hp
            have e2 : (ps.map fun (i, x) => (i, a.eval x)).toList = [] := by simpa [denP] using e1
            refine ⟨.slice (some ⟨w.heap.size, 0, none⟩) 0 0, w.alloc (.cells #[] e), does_new ?_ rfl (fun hρ => ⟨by simp [V.den, Cp.den, hρ, nmOf], fun _ hb => ?_⟩) hm⟩
            · have hN : ¬ (2 ^ 24 < 0 * ie.sz) := by omega
              have hz0 : 0 * ie.sz = 0 := Nat.zero_mul _
              have hzz : ((Array.range 0).map (fun i => ((#[] : Array Value)[i % (#[] : Array Value).size]!))) = #[] := Array.size_eq_zero_iff.1 (by simp)
              simp only [execOp, Instr.buildSlice, Sem.run_bind, run_underlying hd w, Result.andThen_ok, hE.sz, hz0, gt_iff_lt, if_neg (by decide : ¬ (2 ^ 24 < 0)), if_true, Sem.run_pure, e2, hzz, Instr.fill, newRow, newObj, Sem.run]
              rfl
            · exact ⟨by rw [hρ]; rfl, by rw [hb]; simp [denL]⟩
          · cases hf
        rename_i h0
        split at hf
        · rename_i hb
          simp only [Bool.and_eq_true] at hb
          obtain ⟨⟨b1, b2⟩, b3⟩ := hb
          have b1 := Nat.le_of_ble_eq_true b1
          rw [Nat.blt_eq] at b2
          have b3 := Nat.eq_of_beq_eq_true b3
          split at hf
          · rename_i z hz'
            cases hf
            have e1 := ovP_ok hr hp
            have e2 : (ps.map fun (i, x) => (i, a.eval x)).toList = denP σ ρ vs := by simpa using e1
            have hfill := fillV_ok (σ := σ) (ρ := ρ) hz'
            have hne : len * ie.sz ≠ 0 := by omega
            have hzc : ((Array.range (len * ie.sz)).map (ie.z.cells[· % ie.z.cells.size]!)) = (denL σ ρ (repV (ie.z.cells.toList.map V.at) len)).toArray := by
              rw [denL_map, repV_map, List.map_map]
              have := zeros_rep ie.z.cells len
              simp only [Builtin.zeroCells, b3] at this
              rw [b3, this]
              congr 2
              rw [show V.den σ ρ ∘ V.at = (fun v => v) from funext fun v => V.at_den v]; simp
            refine ⟨.slice (some ⟨w.heap.size, 0, none⟩) len len, w.alloc (.cells (denL σ ρ z).toArray e), does_new ?_ rfl (fun hρ => ⟨by simp [V.den, Cp.den, hρ, nmOf], fun _ hb => ?_⟩) hm⟩
            · have hN : ¬ (2 ^ 24 < len * ie.sz) := by omega
              simp only [execOp, Instr.buildSlice, Sem.run_bind, run_underlying hd w, Result.andThen_ok, hE.sz, gt_iff_lt, if_neg hN, if_neg hne, hE.z, Sem.run_pure, e2, hzc, hfill, newRow, newObj, Sem.run]
              rfl
            · exact ⟨by rw [hρ]; rfl, by rw [hb]⟩
          · cases hf
        · cases hf
      · cases hf
    · cases hf
  · cases hf
theorem run_mkS {t e : TypeId} {ie : I} {l c : Nat} (hd : P.underlying t = some (.slice e)) (hE : ie.ok P e) (h1 : l ≤ c) (h2 : c ≤ 1000000) (h3 : ie.by_ ≤ 1000000) (h4 : ie.z.cells.size = ie.sz) (w : World) :
    (Instr.makeSlice t (.int .i64 (l : Int)) (.int .i64 (c : Int))).run P w = .ok (.slice (some ⟨w.heap.size, 0, none⟩) l c) (w.alloc (.cells (repV ie.z.cells.toList c).toArray e)) := by
  have hw : ∀ k : Nat, k ≤ 1000000 → IntKind.i64.wrap (k : Int) = k := fun k hk => rng_wrap (k := .i64) rfl ⟨by omega, by omega⟩
  have hby := hE.by_
  cases hq : P.info? e with
  | none => simp [hq] at hby
  | some ti =>
    have hb : ti.bytes = ie.by_ := by simpa [hq] using hby
    have hmul : ie.by_ * c ≤ 1000000 * 1000000 := Nat.mul_le_mul h3 h2
    have hN : ¬ ((2 : Int) ^ 48 < (ie.by_ : Int) * (c : Int)) := by rw [← Int.natCast_mul]; omega
    have hN2 : ¬ (140737488355328 < c * ie.by_) := by rw [Nat.mul_comm]; omega
    have hzz : (Array.range (c * ie.sz)).map (ie.z.cells[· % ie.sz]!) = (repV ie.z.cells.toList c).toArray := by
      have := zeros_rep ie.z.cells c
      simp only [Builtin.zeroCells, h4] at this
      exact this
    have hmulI : (ie.by_ : Int) * (c : Int) ≤ 1000000000000 := by rw [← Int.natCast_mul]; omega
    have hr0 : (Array.map (fun _ : Nat => (default : Value)) (Array.range 0)) = #[] := Array.size_eq_zero_iff.1 (by simp)
    have hcond : ¬ ((((c : Int) < 0 ∨ 281474976710656 < (ie.by_ : Int) * (c : Int)) ∨ (l : Int) < 0) ∨ c < l) := by
      rintro (((q | q) | q) | q) <;> omega
    by_cases h0 : c * ie.sz = 0
    · have he : repV ie.z.cells.toList c = [] := List.eq_nil_of_length_eq_zero (by rw [repV_len, Array.length_toList, h4]; exact h0)
      simp [Instr.makeSlice, Sem.run_bind, run_underlying hd w, asInt, asIntOf, typeInfo, hq, hb, hw l (by omega), hw c h2, askRoom, roomBytes, hE.sz, h0, newRow, newObj, Sem.run, he]
      rw [if_neg hcond, hr0]
    · simp [Instr.makeSlice, Sem.run_bind, run_underlying hd w, asInt, asIntOf, typeInfo, hq, hb, hw l (by omega), hw c h2, askRoom, roomBytes, hE.sz, h0, newRow, newObj, Sem.run]
      rw [if_neg hcond, hE.z]
      simp only [Result.andThen_ok, h4, hzz]
theorem mkSF_ok (hT : tb.ok P) (hr : RegsOk σ ρ n rs a.tmps) (hm : Mem σ ρ h w) (hf : mkSF tb rs id t x y = some f) :
    ∃ u w', Does P σ ρ h w id f (execOp a.eval ⟨dst, .makeSlice t x y, ty, pos, af, gd⟩) u w' := by
  unfold mkSF at hf
  split at hf
  · rename_i i l c hi hx hy
    have hd := (hT _ _ hi).d
    have hx' := ov_ev hr hx
    have hy' := ov_ev hr hy
    simp only [V.den] at hx' hy'
    split at hf
    · rename_i e hz
      rw [hz] at hd
      split at hf
      · rename_i ie he
        split at hf
        · rename_i hb
          simp only [Bool.and_eq_true] at hb
          obtain ⟨⟨⟨b1, b2⟩, b3⟩, b4⟩ := hb
          cases hf
          have := run_mkS hd (hT _ _ he) (Nat.le_of_ble_eq_true b1) (Nat.le_of_ble_eq_true b2) (Nat.le_of_ble_eq_true b3) (Nat.eq_of_beq_eq_true b4) w
          refine ⟨.slice (some ⟨w.heap.size, 0, none⟩) l c, w.alloc (.cells (repV ie.z.cells.toList c).toArray e), does_new ?_ rfl (fun hρ => ⟨by simp [V.den, Cp.den, hρ, nmOf], fun _ hb => ?_⟩) hm⟩
          · simp only [Int.ofNat_eq_natCast] at hx' hy'
            simp [execOp, hx', hy', this]
          · refine ⟨by rw [hρ]; rfl, ?_⟩
            rw [hb, denL_map, repV_map, List.map_map, show V.den σ ρ ∘ V.at = (fun v => v) from funext fun v => V.at_den v]; simp
        · cases hf
      · cases hf
    · cases hf
  · cases hf
end
end Go.Proofs.YtkjhjgokaeiopaaGreatDoor.E
