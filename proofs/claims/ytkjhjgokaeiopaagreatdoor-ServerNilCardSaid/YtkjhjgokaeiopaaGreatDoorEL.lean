/-
  The engine (12): copy, maps, bytes of a text, cuts that leave nothing, a builder's text, rounds over a map.
-/
import Derived.Test.YtkjhjgokaeiopaaGreatDoorEK
namespace Go.Proofs.YtkjhjgokaeiopaaGreatDoor.E
open Go Go.RowKit

def srcV (h : T O) (z m : Nat) : V → Option (Nat × Nat × List V)
  | .sl id off n cp => (match newsV h z (.sl id off (min n m) cp) with
    | some (k, l) => some (n, k, l)
    | none => none)
  | v => (match newsV h z v with
    | some (k, l) => if k ≤ m then some (k, k, l) else none
    | none => none)
def copyF (tb : Tb) (rs : T V) (h : T O) (t : TypeId) (x y : Operand) : Option Fx := match tb.get t, ov rs x, ov rs y with
  | some i, some (.sl q off n _), some v => (match i.d with
    | .slice _ => (match srcV h i.esz n v, h.get q with
      | some (_, k, l), some (.cells cs e lo hi tl) => (match putE off cs l with
        | some ms => if allOne l = true ∧ (tl.isSome || thaw lo hi cs.length) = true then some ⟨.int .i64 (.ofNat k), none, some (q, .cells ms e lo hi tl)⟩ else none
        | none => none)
      | _, _ => none)
    | _ => none)
  | _, _, _ => none
def setAt {α : Type} : Nat → α → List α → List α
  | _, _, [] => []
  | 0, a, _ :: l => a :: l
  | n + 1, a, b :: l => b :: setAt n a l
def bornAt : Nat → List (V × V × Nat) → Nat
  | _, [] => 0
  | 0, (_, _, b) :: _ => b
  | n + 1, _ :: l => bornAt n l
def mupF (tb : Tb) (rs : T V) (h : T O) (t : TypeId) (x y z : Operand) : Option Fx := match tb.get t, ov rs x, ov rs y, ov rs z with
  | some i, some (.map id), some k, some v => (match i.d, h.get id with
    | .map kt _, some (.map es cl) => (match tb.get kt with
      | some ik => (match findK ik k es with
        | some (some (j, _)) => some ⟨.tuple [], none, some (id, .map (setAt j (k, v, bornAt j es) es) cl)⟩
        | some none => some ⟨.tuple [], none, some (id, .map (es ++ [(k, v, cl)]) (cl + 1))⟩
        | none => none)
      | none => none)
    | _, _ => none)
  | _, _, _, _ => none
def s2bF (tb : Tb) (rs : T V) (id : Nat) (t t' : TypeId) (x : Operand) : Option Fx := match tb.get t, tb.get t', ov rs x with
  | some i, some i', some (.str l) => (match i.d, i'.d with
    | .string, .slice e => (match tb.get e with
      | some ie => (match ie.d with
        | .int .u8 => some ⟨.sl id 0 l.length (.v id 0), none, some (id, .cells (l.map fun k => .int .u8 (.ofNat (k % 256))) e 0 0 (some 1))⟩
        | _ => none)
      | none => none)
    | _, _ => none)
  | _, _, _ => none
def endF (tb : Tb) (rs : T V) (h : T O) (id : Nat) (t : TypeId) (x : Operand) (lo hi mx : Option Operand) : Option Fx := match tb.get t, ov rs x with
  | some i, some (.sl q off n (.v q' m0)) => (match i.d, bnd rs 0 lo, hi, mx, h.get q with
    | .slice _, some l, none, none, some (.cells cs _ _ _ (some z)) => if (q = q' ∧ off = m0 * z ∧ m0 * z + n * z ≤ cs.length ∧ z = i.esz ∧ 0 < z) ∧ l = n then some ⟨.es id, none, none⟩ else none
    | _, _, _, _, _ => none)
  | _, _ => none
section
variable {P : Program} {σ : Nat → Value} {ρ : Nm} {n : Nat} {rs : T V} {h : T O} {a : Act} {w : World} {tb : Tb} {id : Nat} {f : Fx}
variable {dst : Option Tmp} {ty t t' u : TypeId} {pos : String} {af : Array Edge} {gd : Option (Nat × Bool)} {x y z : Operand} {o : Oper}
theorem does_same {s : Sem Next} {r : Value} {v : V} {w' : World} (hrun : s.run P w = .ok (.value r) w') (hw : w'.heap = w.heap ∧ w'.os = w.os ∧ w'.tape = w.tape ∧ w'.output = w.output) (hv : ρ id = nmOf r → r = v.den σ ρ) (hm : Mem σ ρ h w) : Does P σ ρ h w id ⟨v, none, none⟩ s r w' := by
  obtain ⟨w1, w2, w3, w4⟩ := hw
  refine ⟨.inl hrun, ⟨w2, w3, w4, by rw [w1]; exact Nat.le_refl _, fun k _ _ => by rw [w1]⟩, fun _ _ q => (by cases q), fun hρ => ⟨hv hρ, fun h' hh => ?_⟩, fun ⟨_, q⟩ => (by cases q)⟩
  have hj : ∀ j, h'.get j = h.get j := fun j => by rw [hh]; simp [Fx.to]
  have hm' := hm.same (w' := w') (fun k _ => by rw [w1])
  exact ⟨fun i o hi => hm'.ok i o (by rw [← hj]; exact hi), fun i j o o' hi hj' => hm'.apart i j o o' (by rw [← hj]; exact hi) (by rw [← hj]; exact hj')⟩
theorem srcV_ok {z m k1 k : Nat} {v : V} {l : List V} (hm : Mem σ ρ h w) (hv : srcV h z m v = some (k1, k, l)) :
    (Builtin.lenOf (v.den σ ρ)).run P w = .ok k1 w ∧ k = Nat.min k1 m ∧ (Builtin.firstCells z k (v.den σ ρ)).run P w = .ok (denL σ ρ l).toArray w := by
  unfold srcV at hv
  split at hv
  · rename_i id' off' nn cp
    split at hv
    · rename_i k' l' hn
      cases hv
      obtain ⟨h1, h2, h3⟩ := newsV_ok (P := P) hm hn w rfl
      have hk : k = min k1 m := by
        unfold newsV at hn
        dsimp only at hn
        split at hn
        · split at hn
          · cases hn; rfl
          · cases hn
        · cases hn
      refine ⟨by simp [V.den, Builtin.lenOf], hk, ?_⟩
      simpa [V.den, Builtin.firstCells] using h2
    · cases hv
  · split at hv
    · rename_i k' l' hn
      split at hv
      · rename_i hle
        cases hv
        obtain ⟨h1, h2, h3⟩ := newsV_ok (P := P) hm hn w rfl
        exact ⟨h1, (Nat.min_eq_left hle).symm, h2⟩
      · cases hv
    · cases hv
theorem copyF_ok (hT : tb.ok P) (hr : RegsOk σ ρ n rs a.tmps) (hm : Mem σ ρ h w) (hf : copyF tb rs h t x y = some f) :
    ∃ r w', Does P σ ρ h w id f (execOp a.eval ⟨dst, .call ⟨.builtin .copy, #[x, y], #[t, u]⟩, ty, pos, af, gd⟩) r w' := by
  unfold copyF at hf
  split at hf
  · rename_i i q off m cp v hi hx hy
    have hd := (hT _ _ hi).d
    have hx' := ov_ev hr hx
    have hy' := ov_ev hr hy
    simp only [V.den] at hx'
    split at hf
    · rename_i e hz
      rw [hz] at hd
      have hel := (hT _ _ hi).els _ hz
      split at hf
      · rename_i k1 k l cs e' lo hi' tl hs hg
        obtain ⟨s1, s2, s3⟩ := srcV_ok (P := P) hm hs
        split at hf
        · rename_i ms hp
          split at hf
          · rename_i hb
            simp only [Option.some.injEq] at hf
            subst hf
            obtain ⟨q1, q2⟩ := cells_put (P := P) hm hg hp (fun e => by subst e; simpa using hb.2) hb.1
            refine ⟨.int .i64 (k : Int), w.setCells (ρ q).b ((ρ q).o + off) (denL σ ρ l), .inl ?_, setCells_keeps ⟨_, _, hg, rfl⟩, fun p o q => (by cases q; exact .inr ⟨_, hg⟩), fun _ => ⟨by simp [V.den], fun h' hh => ?_⟩, fun ⟨o, q'⟩ hn => (by cases q'; rw [hn] at hg; cases hg)⟩
            · simp [execOp, resolve, invoke, builtin, hx', hy', Builtin.copy_, Sem.run_bind, run_underlying hd w, s1, hel, ← s2, s3, q1, goInt]
            · refine hm.turn (i := q) (p := q) hg (fun j => ?_) (fun k _ hk => setCells_other _ _ _ _ _ hk) q2 (.inl rfl)
              rw [hh]; simp only [Fx.to]
              by_cases ej : j = q <;> simp [ej]
          · cases hf
        · cases hf
      · cases hf
    · cases hf
  · cases hf
theorem setAt_den {σ : Nat → Value} {ρ : Nm} : ∀ {j : Nat} {k v : V} {es : List (V × V × Nat)}, denE σ ρ (setAt j (k, v, bornAt j es) es) = (denE σ ρ es).modify j fun e => { e with key := k.den σ ρ, val := v.den σ ρ }
  | 0, k, v, [] => rfl
  | _ + 1, k, v, [] => rfl
  | 0, k, v, (q, u, b) :: es => by simp [denE, setAt, bornAt, List.modify]
  | j + 1, k, v, (q, u, b) :: es => by
    have := setAt_den (σ := σ) (ρ := ρ) (j := j) (k := k) (v := v) (es := es)
    simp only [setAt, bornAt]
    show _ :: denE σ ρ _ = _
    rw [this]
    rfl
theorem denE_app {es : List (V × V × Nat)} {k v : V} {c : Nat} : denE σ ρ (es ++ [(k, v, c)]) = denE σ ρ es ++ [⟨k.den σ ρ, v.den σ ρ, c⟩] := by simp [denE]
theorem mupF_ok (hT : tb.ok P) (hr : RegsOk σ ρ n rs a.tmps) (hm : Mem σ ρ h w) (hf : mupF tb rs h t x y z = some f) :
    ∃ r w', Does P σ ρ h w id f (execOp a.eval ⟨dst, .mapUpdate t x y z, ty, pos, af, gd⟩) r w' := by
  unfold mupF at hf
  split at hf
  · rename_i i m k v hi hx hy hz'
    have hd := (hT _ _ hi).d
    have hx' := ov_ev hr hx
    have hy' := ov_ev hr hy
    have hz' := ov_ev hr hz'
    simp only [V.den] at hx'
    split at hf
    · rename_i kt et es cl hzz hg
      rw [hzz] at hd
      have ho := hm.ok _ _ hg
      have ho' : w.heap[(ρ m).b]? = some (.map (denE σ ρ es).toArray cl) := ho
      split at hf
      · rename_i ik hk
        have hK := hT _ _ hk
        have key : ∀ (es' : List (V × V × Nat)) (cl' : Nat), (execOp a.eval ⟨dst, .mapUpdate t x y z, ty, pos, af, gd⟩).run P w = .ok .skip { w with heap := w.heap.setIfInBounds (ρ m).b (.map (denE σ ρ es').toArray cl') } →
            Does P σ ρ h w id ⟨.tuple [], none, some (m, .map es' cl')⟩ (execOp a.eval ⟨dst, .mapUpdate t x y z, ty, pos, af, gd⟩) undef { w with heap := w.heap.setIfInBounds (ρ m).b (.map (denE σ ρ es').toArray cl') } := by
          intro es' cl' hrun
          have hk : ∀ k, k ≠ (ρ m).b → (w.heap.setIfInBounds (ρ m).b (.map (denE σ ρ es').toArray cl'))[k]? = w.heap[k]? := fun k hk => Array.getElem?_setIfInBounds_ne (fun q => hk q.symm)
          refine ⟨.inr ⟨hrun, rfl⟩, ⟨rfl, rfl, rfl, by simp, fun k _ hn => hk k (fun e => hn ⟨m, _, hg, e.symm⟩)⟩, fun p o q => (by cases q; exact .inr ⟨_, hg⟩), fun _ => ⟨by simp [V.den, denL, undef], fun h' hh => ?_⟩, fun ⟨o, q'⟩ hn => (by cases q'; rw [hn] at hg; cases hg)⟩
          refine hm.turn (i := m) (p := m) (o := .map es' cl') hg (fun j => ?_) (fun k _ hk' => hk k hk') ?_ (.inl rfl)
          · rw [hh]; simp only [Fx.to]
            by_cases ej : j = m <;> simp [ej]
          · simp only [O.holds]
            have hlt := lt_of_some ho'
            simp [hlt]
            rfl
        split at hf
        · rename_i j u hfv
          simp only [Option.some.injEq] at hf
          subst hf
          refine ⟨undef, _, key _ _ ?_⟩
          obtain ⟨hck, hf', hst⟩ := findK_ok (P := P) (w := w) (σ := σ) (ρ := ρ) hK hfv
          obtain ⟨q, b, h2, h3⟩ := hst _ _ rfl
          simp only [Option.map_some] at hf'
          have hold : (denE σ ρ es)[j]? = some ⟨q.den σ ρ, u.den σ ρ, b⟩ := by
            simp only [denE, List.getElem?_map]
            rw [h2]; rfl
          have hstay : (Instr.keyThatStays (((denE σ ρ es)[j]?).map (·.key) |>.getD (k.den σ ρ)) (k.den σ ρ)).run P w = .ok (k.den σ ρ) w := by
            rw [hold]
            simpa using h3
          simp [execOp, hx', hy', hz', Instr.mapUpdate, Sem.run_bind, run_underlying hd w, getObj, setObj, Sem.run, ho', hck, hf', hstay, setAt_den]
        · rename_i hfv
          simp only [Option.some.injEq] at hf
          subst hf
          refine ⟨undef, _, key _ _ ?_⟩
          obtain ⟨hck, hf', hst⟩ := findK_ok (P := P) (w := w) (σ := σ) (ρ := ρ) hK hfv
          simp only [Option.map_none] at hf'
          simp [execOp, hx', hy', hz', Instr.mapUpdate, Sem.run_bind, run_underlying hd w, getObj, setObj, Sem.run, ho', hck, hf', denE_app]
        · cases hf
      · cases hf
    · cases hf
  · cases hf
end
end Go.Proofs.YtkjhjgokaeiopaaGreatDoor.E
