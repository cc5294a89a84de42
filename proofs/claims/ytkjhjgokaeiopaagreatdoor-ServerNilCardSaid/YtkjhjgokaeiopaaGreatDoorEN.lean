/-
  The engine (14): rounds over a map; all that turns memory.
-/
import Derived.Test.YtkjhjgokaeiopaaGreatDoorEM
namespace Go.Proofs.YtkjhjgokaeiopaaGreatDoor.E
open Go Go.RowKit
section
variable {P : Program} {σ : Nat → Value} {ρ : Nm} {n : Nat} {rs : T V} {h : T O} {a : Act} {w : World} {tb : Tb} {id : Nat} {f : Fx}
variable {dst : Option Tmp} {ty t t' u : TypeId} {pos : String} {af : Array Edge} {gd : Option (Nat × Bool)} {x y z : Operand} {o : Oper}
theorem rangeF_ok (hT : tb.ok P) (hr : RegsOk σ ρ n rs a.tmps) (hm : Mem σ ρ h w) (hf : rangeF tb rs h id t x = some f) :
    ∃ r w', Does P σ ρ h w id f (execOp a.eval ⟨dst, .range t x, ty, pos, af, gd⟩) r w' := by
  unfold rangeF at hf
  split at hf
  · rename_i i m hi hx
    have hx' := ov_ev hr hx
    simp only [V.den] at hx'
    have hd := (hT _ _ hi).d
    split at hf
    · rename_i k e es cl hz hg
      rw [hz] at hd
      simp only [Option.some.injEq] at hf; subst hf
      have ho := hm.ok _ _ hg
      have ho' : w.heap[(ρ m).b]? = some (.map (denE σ ρ es).toArray cl) := ho
      refine ⟨.pointer (some ⟨w.heap.size, 0, none⟩), w.alloc (.mapIter (some (ρ m).b) cl #[] cl), does_new ?_ rfl (fun hρ => ⟨by simp [V.den, hρ, nmOf], fun _ hb => ?_⟩) hm⟩
      · simp [execOp, hx', Instr.range, Sem.run_bind, run_underlying hd w, getObj, newObj, Sem.run, ho']
      · simp only [O.holds]; rw [hb]; exact ⟨by rw [hρ]; rfl, rfl⟩
    · cases hf
  · cases hf
theorem leftV_ok (seen : List Nat) : ∀ (es : List (V × V × Nat)), (denE σ ρ es).filter (fun e => !seen.contains e.born) = denE σ ρ (leftV seen es)
  | [] => rfl
  | (k, v, b) :: es => by
    have ih := leftV_ok seen es
    show (⟨k.den σ ρ, v.den σ ρ, b⟩ :: denE σ ρ es : List MapEntry).filter _ = _
    rw [List.filter_cons, ih]
    simp only [leftV]
    cases hb : seen.contains b <;> simp [denE]
theorem allGe_ok (n : Nat) : ∀ (es : List (V × V × Nat)), (denE σ ρ es).all (fun e => decide (e.born ≥ n)) = allGe n es
  | [] => rfl
  | (k, v, b) :: es => by
    have ih := allGe_ok n es
    show (⟨k.den σ ρ, v.den σ ρ, b⟩ :: denE σ ρ es : List MapEntry).all _ = _
    rw [List.all_cons, ih]
    simp only [allGe]
    cases hb : Nat.ble n b with
    | true => have := Nat.le_of_ble_eq_true hb; simp [this]
    | false => have : ¬ (n ≤ b) := fun q => by rw [Nat.ble_eq_true_of_le q] at hb; cases hb
               simp [this]
theorem findB_ok (b : Nat) : ∀ (es : List (V × V × Nat)) {k v : V}, findB b es = some (k, v) → ∃ c, (denE σ ρ es).find? (fun e => e.born == b) = some ⟨k.den σ ρ, v.den σ ρ, c⟩
  | [], _, _, h => by cases h
  | (q, u, c) :: es, k, v, h => by
    unfold findB at h
    show ∃ c', (⟨q.den σ ρ, u.den σ ρ, c⟩ :: denE σ ρ es : List MapEntry).find? _ = _
    cases hb : Nat.beq c b with
    | true =>
      rw [hb] at h; cases h
      refine ⟨c, ?_⟩
      rw [List.find?_cons]
      simp [Nat.eq_of_beq_eq_true hb]
    | false =>
      rw [hb] at h
      obtain ⟨c', h'⟩ := findB_ok b es h
      refine ⟨c', ?_⟩
      rw [List.find?_cons]
      have : (c == b) = false := by simpa using Nat.ne_of_beq_eq_false hb
      simp [this, h']
theorem run_next {it m since last cl : Nat} {seen : List Nat} {es : List (V × V × Nat)} (h1 : w.heap[it]? = some (.mapIter (some m) since seen.toArray last)) (h2 : w.heap[m]? = some (.map (denE σ ρ es).toArray cl)) (h3 : (!seen.isEmpty && !es.isEmpty && allGe last es) = false) :
    (leftV seen es = [] → (Instr.next (.pointer (some ⟨it, 0, none⟩)) false ty).run P w = .ok (.tuple #[.bool false]) w) ∧
    (∀ k v b, leftV seen es = [(k, v, b)] → b < since → (Instr.next (.pointer (some ⟨it, 0, none⟩)) false ty).run P w = .ok (.tuple #[.bool true, k.den σ ρ, v.den σ ρ]) { w with heap := w.heap.setIfInBounds it (.mapIter (some m) since (seen ++ [b]).toArray cl) }) := by
  have e1 : ((!seen.toArray.isEmpty && !(denE σ ρ es).toArray.isEmpty) && (denE σ ρ es).toArray.all (fun e => decide (e.born ≥ last))) = false := by
    rw [← h3, ← allGe_ok (σ := σ) (ρ := ρ) last es]
    simp [denE]
  have e2 : (denE σ ρ es).toArray.filter (fun e => !seen.toArray.contains e.born) = (denE σ ρ (leftV seen es)).toArray := by
    rw [← leftV_ok seen es]
    simp
  refine ⟨fun hl => ?_, fun k v b hl hb => ?_⟩
  · rw [hl] at e2
    simp only [Instr.next, Sem.run_bind, getObj, Sem.run, h1, h2, Result.andThen_ok, e1, Bool.false_eq_true, if_false, e2]
    simp [denE, choose, Sem.run, Question.forced]
  · rw [hl] at e2
    simp only [Instr.next, Sem.run_bind, getObj, Sem.run, h1, h2, Result.andThen_ok, e1, Bool.false_eq_true, if_false, e2]
    simp [denE, choose, Sem.run, Question.forced, hb, setObj, h1]
theorem nextF_ok (hr : RegsOk σ ρ n rs a.tmps) (hm : Mem σ ρ h w) (hf : nextF rs h x = some f) :
    ∃ r w', Does P σ ρ h w id f (execOp a.eval ⟨dst, .next x false, ty, pos, af, gd⟩) r w' := by
  unfold nextF at hf
  split at hf
  · rename_i it hx
    have hx' := ov_ev hr hx
    simp only [V.den, Nat.add_zero] at hx'
    split at hf
    · rename_i m since seen last hi
      have ho := hm.ok _ _ hi
      simp only [O.holds] at ho
      split at hf
      · rename_i es cl hg
        have ho2 : w.heap[(ρ m).b]? = some (.map (denE σ ρ es).toArray cl) := hm.ok _ _ hg
        split at hf
        · rename_i hc
          obtain ⟨hit, ho⟩ := ho
          obtain ⟨r1, r2⟩ := run_next (P := P) (ty := ty) ho ho2 hc
          rw [hit] at hx'
          split at hf
          · rename_i hl
            simp only [Option.some.injEq] at hf; subst hf
            have := r1 hl
            exact ⟨_, w, does_same (by simp [execOp, hx', this]; rfl) ⟨rfl, rfl, rfl, rfl⟩ (fun _ => by simp [V.den, denL]) hm⟩
          · rename_i k v b hl
            split at hf
            · rename_i hb
              simp only [Option.some.injEq] at hf; subst hf
              have := r2 k v b hl hb
              have hk : ∀ k, k ≠ (ρ it).b → (w.heap.setIfInBounds (ρ it).b (.mapIter (some (ρ m).b) since (seen ++ [b]).toArray cl))[k]? = w.heap[k]? := fun k hk => Array.getElem?_setIfInBounds_ne (fun q => hk q.symm)
              refine ⟨.tuple #[.bool true, k.den σ ρ, v.den σ ρ], { w with heap := w.heap.setIfInBounds (ρ it).b (.mapIter (some (ρ m).b) since (seen ++ [b]).toArray cl) }, .inl (by simp [execOp, hx', this]), ⟨rfl, rfl, rfl, by simp, fun k _ hn => hk k (fun e => hn ⟨it, _, hi, e.symm⟩)⟩, fun p o q => (by cases q; exact .inr ⟨_, hi⟩), fun _ => ⟨by simp [V.den, denL], fun h' hh => ?_⟩, fun ⟨o, q'⟩ hn => (by cases q'; rw [hn] at hi; cases hi)⟩
              refine hm.turn (i := it) (p := it) (o := .iter m since (seen ++ [b]) cl) hi (fun j => ?_) (fun k _ hk' => hk k hk') ?_ (.inl rfl)
              · rw [hh]; simp only [Fx.to]
                by_cases ej : j = it <;> simp [ej]
              · simp only [O.holds]
                refine ⟨hit, ?_⟩
                have hlt := lt_of_some ho
                simp [hlt]
            · cases hf
          · cases hf
        · cases hf
      · cases hf
    · cases hf
  · cases hf
theorem getLast_back {l : List Nat} : l.toArray.back? = l.getLast? := by simp
theorem entryF_ok (hr : RegsOk σ ρ n rs a.tmps) (hm : Mem σ ρ h w) (hf : entryF rs h x = some f) :
    ∃ r w', Does P σ ρ h w id f (execOp a.eval ⟨dst, .entry x, ty, pos, af, gd⟩) r w' := by
  unfold entryF at hf
  split at hf
  · rename_i it hx
    have hx' := ov_ev hr hx
    simp only [V.den, Nat.add_zero] at hx'
    split at hf
    · rename_i m since seen last hi
      obtain ⟨hit, ho⟩ := hm.ok _ _ hi
      rw [hit] at hx'
      split at hf
      · rename_i es cl b hg hb
        have ho2 : w.heap[(ρ m).b]? = some (.map (denE σ ρ es).toArray cl) := hm.ok _ _ hg
        split at hf
        · rename_i hcl
          subst hcl
          split at hf
          · rename_i k v hfb
            simp only [Option.some.injEq] at hf; subst hf
            obtain ⟨c, hc⟩ := findB_ok (σ := σ) (ρ := ρ) b es hfb
            have : (Instr.entry (.pointer (some ⟨(ρ it).b, 0, none⟩))).run P w = .ok (.tuple #[k.den σ ρ, v.den σ ρ]) w := by
              simp [Instr.entry, Sem.run_bind, getObj, Sem.run, ho, ho2, hb, hc]
            exact ⟨_, w, does_same (by simp [execOp, hx', this]; rfl) ⟨rfl, rfl, rfl, rfl⟩ (fun _ => by simp [V.den, denL]) hm⟩
          · cases hf
        · cases hf
      · cases hf
    · cases hf
  · cases hf

/-! ### All that turns memory -/
def fx (P : Program) (tb : Tb) (rs : T V) (h : T O) (id : Nat) (o : Oper) : Option Fx := match o.op with
  | .store t x y => storeF tb rs h t x y
  | .alloc t => allocF tb id t
  | .box t x => boxF rs id t x
  | .buildSlice t len ps => bslF tb rs id t len ps
  | .makeSlice t x y => mkSF tb rs id t x y
  | .makeMap _ r => mkMF r id
  | .mapUpdate t x y z => mupF tb rs h t x y z
  | .insert t x y z => mupF tb rs h t x y z
  | .convert t t' x => s2bF tb rs id t t' x
  | .slice t x lo hi mx => endF tb rs h id t x lo hi mx
  | .range t x => rangeF tb rs h id t x
  | .next x false => nextF rs h x
  | .entry x => entryF rs h x
  | .call ⟨.builtin .append, xs, ts⟩ => (match xs.toList, ts.toList with
    | [x, y], [t, u] => appF tb rs h id t u x y
    | _, _ => none)
  | .call ⟨.builtin .copy, xs, ts⟩ => (match xs.toList, ts.toList with
    | [x, y], [t, _] => copyF tb rs h t x y
    | _, _ => none)
  | .call ⟨.builtin .unsafeSliceData, xs, ts⟩ => (match xs.toList, ts.toList with
    | [x], [_] => sdF rs h x
    | _, _ => none)
  | .call ⟨.builtin .unsafeString, xs, ts⟩ => (match xs.toList, ts.toList with
    | [x, y], [pt, _] => usF P tb rs h pt x y
    | _, _ => none)
  | _ => none
theorem fx_ok (hT : tb.ok P) (hr : RegsOk σ ρ n rs a.tmps) (hm : Mem σ ρ h w) (hf : fx P tb rs h id o = some f) : ∃ r w', Does P σ ρ h w id f (execOp a.eval o) r w' := by
  obtain ⟨dst, op, ty, pos, af, gd⟩ := o
  unfold fx at hf
  dsimp only at hf
  split at hf
  · exact storeF_ok hT hr hm hf
  · exact allocF_ok hT hm hf
  · exact boxF_ok hr hm hf
  · exact bslF_ok hT hr hm hf
  · exact mkSF_ok hT hr hm hf
  · exact mkMF_ok hm hf
  · exact mupF_ok hT hr hm hf
  · exact mupF_ok (dst := dst) (ty := ty) (pos := pos) (af := af) (gd := gd) hT hr hm hf
  · exact s2bF_ok hT hr hm hf
  · exact endF_ok hT hr hm hf
  · exact rangeF_ok hT hr hm hf
  · exact nextF_ok hr hm hf
  · exact entryF_ok hr hm hf
  · rename_i xs ts
    split at hf
    · rename_i x y t u e1 e2
      obtain rfl : xs = #[x, y] := Array.toList_inj.1 e1
      obtain rfl : ts = #[t, u] := Array.toList_inj.1 e2
      exact appF_ok hT hr hm hf
    · cases hf
  · rename_i xs ts
    split at hf
    · rename_i x y t u e1 e2
      obtain rfl : xs = #[x, y] := Array.toList_inj.1 e1
      obtain rfl : ts = #[t, u] := Array.toList_inj.1 e2
      exact copyF_ok hT hr hm hf
    · cases hf
  · rename_i xs ts
    split at hf
    · rename_i x t e1 e2
      obtain rfl : xs = #[x] := Array.toList_inj.1 e1
      obtain rfl : ts = #[t] := Array.toList_inj.1 e2
      exact sdF_ok hr hm hf
    · cases hf
  · rename_i xs ts
    split at hf
    · rename_i x y t u e1 e2
      obtain rfl : xs = #[x, y] := Array.toList_inj.1 e1
      obtain rfl : ts = #[t, u] := Array.toList_inj.1 e2
      exact usF_ok hT hr hm hf
    · cases hf
  · cases hf
end
end Go.Proofs.YtkjhjgokaeiopaaGreatDoor.E
