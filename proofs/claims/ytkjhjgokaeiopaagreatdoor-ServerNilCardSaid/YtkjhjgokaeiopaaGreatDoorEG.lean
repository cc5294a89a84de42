/-
  The engine (7): more of what leaves memory alone.
-/
import Derived.Test.YtkjhjgokaeiopaaGreatDoorEF
namespace Go.Proofs.YtkjhjgokaeiopaaGreatDoor.E
open Go Go.RowKit
section
variable {P : Program} {σ : Nat → Value} {ρ : Nm} {n : Nat} {rs : T V} {h : T O} {a : Act} {w : World} {tb : Tb}
variable {dst : Option Tmp} {ty t t' : TypeId} {pos : String} {af : Array Edge} {gd : Option (Nat × Bool)} {x y : Operand} {v : V} {o : Oper}
theorem mkS_get {s : List Nat} {j c : Nat} (hc : nth s j = some c) : (mkS s)[j]? = some (UInt8.ofNat c) := by
  rw [nth_eq] at hc
  show (mkS s).data[j]? = _
  simp [mkS, hc]
theorem idxV_ok (hT : tb.ok P) (hr : RegsOk σ ρ n rs a.tmps) (hv : idxV P tb rs ⟨dst, .index t x y, ty, pos, af, gd⟩ t x y = some v) :
    (execOp a.eval ⟨dst, .index t x y, ty, pos, af, gd⟩).run P w = .ok (.value (v.den σ ρ)) w := by
  unfold idxV at hv
  split at hv
  · rename_i i s k j hi hx hy
    have hd := (hT _ _ hi).d
    have hx' := ov_ok hr hx
    have hy' := ov_ok hr hy
    simp only [V.den] at hx' hy'
    split at hv
    · rename_i c hz hc
      rw [hz] at hd; cases hv
      refine viaY fun N R hK => ?_
      have := y_sidxI (P := P) (N := N) (S := (· = w)) (dst := dst) (ty := ty) (pos := pos) (af := af) (gd := gd) (hK _ _ hx') (hK _ _ hy') hd (by simp) (by simpa using mkS_get hc)
      simpa [V.den, UInt8.toNat_ofNat'] using this
    · cases hv
  · rename_i i l k j hi hx hy
    have hd := (hT _ _ hi).d
    have hx' := ov_ev hr hx
    have hy' := ov_ev hr hy
    simp only [V.den] at hx' hy'
    split at hv
    · rename_i n e hz
      rw [hz] at hd
      split at hv
      · rename_i ie he
        have hE := hT _ _ he
        cases hb : Nat.blt j n with
        | false => rw [hb] at hv; cases hv
        | true =>
          rw [hb] at hv
          rw [Nat.blt_eq] at hb
          simp only [cond_true] at hv
          cases ha : ie.agg with
          | true =>
            rw [ha] at hv
            simp only [cond_true] at hv
            split at hv
            · rename_i m hm
              cases hv
              obtain ⟨c1, c2, c3⟩ := cutV_some hm
              have hex : List.take ie.sz (List.drop (j * ie.sz) (denL σ ρ l)) = denL σ ρ m := by
                rw [show j * ie.sz + ie.sz - j * ie.sz = ie.sz by omega] at c2
                simp only [denL_map, ← c2, List.map_take, List.map_drop]
              simp [execOp, hx', hy', Instr.index, asIntOf, Sem.run_bind, run_underlying hd w, hb, hE.sz, part, hE.agg, ha, V.den, hex]
            · cases hv
          | false =>
            rw [ha] at hv
            simp only [cond_false] at hv
            have hg := nth_den (σ := σ) (ρ := ρ) hv
            simp [execOp, hx', hy', Instr.index, asIntOf, Sem.run_bind, run_underlying hd w, hb, hE.sz, part, hE.agg, ha, hg]
      · cases hv
    · cases hv
  · exact cv_ok hr hv
theorem idaV_ok (hT : tb.ok P) (hr : RegsOk σ ρ n rs a.tmps) (hv : idaV tb rs t x y = some v) :
    (execOp a.eval ⟨dst, .indexAddr t x y, ty, pos, af, gd⟩).run P w = .ok (.value (v.den σ ρ)) w := by
  unfold idaV at hv
  split at hv
  · rename_i i id off m cp k j hi hx hy
    have hI := hT _ _ hi
    have hx' := ov_ok hr hx
    have hy' := ov_ok hr hy
    simp only [V.den] at hx' hy'
    split at hv
    · rename_i e hz
      have hd := hI.d
      rw [hz] at hd
      cases hb : Nat.blt j m with
      | false => rw [hb] at hv; cases hv
      | true =>
        rw [hb] at hv
        rw [Nat.blt_eq] at hb
        cases hv
        refine viaY fun N R hK => ?_
        exact y_idxAddr (hK _ _ hx') (hK _ _ hy') hd (hI.els _ hz) (by simp) (by simpa using hb) (by simp [Nat.add_assoc])
    · cases hv
  · rename_i i id off k j hi hx hy
    have hI := hT _ _ hi
    have hx' := ov_ok hr hx
    have hy' := ov_ok hr hy
    simp only [V.den] at hx' hy'
    split at hv
    · rename_i m e hz
      have hd := hI.d
      rw [hz] at hd
      cases hb : Nat.blt j m with
      | false => rw [hb] at hv; cases hv
      | true =>
        rw [hb] at hv
        rw [Nat.blt_eq] at hb
        cases hv
        refine viaY fun N R hK => ?_
        exact y_idxArr (hK _ _ hx') (hK _ _ hy') hd (hI.ela _ _ hz) (by simp) (by simpa using hb) (by simp [Nat.add_assoc])
    · cases hv
  · cases hv
theorem bldV_ok (hT : tb.ok P) (hr : RegsOk σ ρ n rs a.tmps) {ps : Array (Nat × Operand)} (hv : bldV tb rs t ps = some v) :
    (execOp a.eval ⟨dst, .build t ps, ty, pos, af, gd⟩).run P w = .ok (.value (v.den σ ρ)) w := by
  have key : ∀ (vs : List (Nat × V)) (z : List V), ovP rs ps.toList = some vs → P.built t (denP σ ρ vs) = some (denL σ ρ z).toArray → (execOp a.eval ⟨dst, .build t ps, ty, pos, af, gd⟩).run P w = .ok (.value (.agg (denL σ ρ z).toArray)) w := by
    intro vs z h1 h2
    have e := ovP_ok hr h1
    have e2 : (ps.map fun (i, x) => (i, a.eval x)).toList = denP σ ρ vs := by simpa using e
    have := run_build w t (ps.map fun (i, x) => (i, a.eval x)) _ (by rw [e2]; exact h2)
    simp only [execOp, Sem.run_bind, this, Result.andThen_ok]
    rfl
  unfold bldV at hv
  split at hv
  · rename_i i vs hi hp
    have hI := hT _ _ hi
    have hzc : (denL σ ρ (i.z.cells.toList.map V.at)).toArray = i.z.cells := by rw [denL_at]
    split at hv
    · rename_i f hz
      split at hv
      · rename_i z hf
        cases hv
        simp only [V.den]
        refine key vs z hp ?_
        rw [hI.bst _ hz, ← fillV_ok (σ := σ) (ρ := ρ) hf, hzc]
        congr 1
        funext k
        rw [nth_eq]; simp
      · cases hv
    · rename_i m e hz
      split at hv
      · rename_i z hf
        cases hv
        simp only [V.den]
        refine key vs z hp ?_
        rw [hI.barr _ _ hz, ← fillV_ok (σ := σ) (ρ := ρ) hf, hzc]
      · cases hv
    · cases hv
  · cases hv
theorem bnd_ok (hr : RegsOk σ ρ n rs a.tmps) {d m : Nat} {z : Operand} (hb : bnd rs d (some z) = some m) : a.eval z = .int .i64 (m : Int) := by
  simp only [bnd] at hb
  split at hb
  · rename_i k hz; cases hb
    have := ov_ev hr hz
    simpa [V.den] using this
  · cases hb
theorem run_bounds (hr : RegsOk σ ρ n rs a.tmps) {isS : Bool} {len cap l r m : Nat} {lo hi mx : Option Operand} (hl : bnd rs 0 lo = some l) (hh : bnd rs len hi = some r) (hm : bnd rs cap mx = some m) (h1 : l ≤ r) (h2 : r ≤ m) (h3 : m ≤ cap) (hx : mx.isSome = true → hi.isSome = true) :
    (Instr.sliceBounds isS len cap (lo.map a.eval) (hi.map a.eval) (mx.map a.eval)).run P w = .ok (l, r, m) w := by
  have hb : ∀ {z : Operand} {d k c : Nat} {code : BoundsCode}, bnd rs d (some z) = some k → k ≤ c → (Instr.sliceBound (a.eval z) c code).run P w = .ok k w := by
    intro z d k c code hz hk
    have := bnd_ok hr hz
    simp [Instr.sliceBound, this, asIntOf, hk]
  cases mx with
  | none =>
    simp only [bnd, Option.some.injEq] at hm; subst hm
    cases hi with
    | none =>
      simp only [bnd, Option.some.injEq] at hh; subst hh
      cases lo with
      | none => simp only [bnd, Option.some.injEq] at hl; subst hl; simp [Instr.sliceBounds]
      | some z => simp [Instr.sliceBounds, hb hl h1]
    | some u =>
      cases lo with
      | none => simp only [bnd, Option.some.injEq] at hl; subst hl; simp [Instr.sliceBounds, hb hh h2]
      | some z => simp [Instr.sliceBounds, Sem.run_bind, hb hl h1, hb hh h2]
  | some u =>
    cases hi with
    | none => simp at hx
    | some u' =>
      cases lo with
      | none => simp only [bnd, Option.some.injEq] at hl; subst hl; simp [Instr.sliceBounds, Sem.run_bind, hb hh h2, hb hm h3]
      | some z => simp [Instr.sliceBounds, Sem.run_bind, hb hl h1, hb hh h2, hb hm h3]
theorem mkS_cut {s m : List Nat} {l r : Nat} (h1 : l ≤ r) (hc : cutV l r s = some m) : (mkS s).extract l r = mkS m ∧ r ≤ s.length := by
  obtain ⟨c1, c2, c3⟩ := cutV_some hc
  have hlen : m.length ≤ s.length - l := by rw [← c2, List.length_take, List.length_drop]; exact Nat.min_le_right _ _
  refine ⟨?_, by omega⟩
  apply ByteArray.ext
  rw [ByteArray.data_extract]
  simp only [mkS]
  rw [← c2]
  simp [List.extract_toArray, List.map_take, List.map_drop]
theorem row_room {id m0 z : Nat} {cs : List V} {e : TypeId} {lo hi : Nat} (hm : Mem σ ρ h w) (hg : h.get id = some (.cells cs e lo hi (some z))) (hz : 0 < z) {k : Nat} (hk : m0 * z + k * z ≤ cs.length) : k ≤ (ρ id).c - m0 := by
  obtain ⟨_, _, _, _, _, _, h1⟩ := hm.ok _ _ hg
  have : (m0 + k) * z ≤ (ρ id).c * z := by rw [Nat.add_mul]; omega
  have := Nat.le_of_mul_le_mul_right this hz
  omega
theorem add_off (p : A) (off k : Nat) : (⟨p.b, p.o + off, none⟩ : Addr).add k = ⟨p.b, p.o + (off + k), none⟩ := by rw [Addr.add_mid, Nat.add_assoc]
theorem slV_ok (hT : tb.ok P) (hr : RegsOk σ ρ n rs a.tmps) (hm : Mem σ ρ h w) {lo hi mx : Option Operand} (hv : slV P tb rs h ⟨dst, .slice t x lo hi mx, ty, pos, af, gd⟩ t x lo hi mx = some v) :
    (execOp a.eval ⟨dst, .slice t x lo hi mx, ty, pos, af, gd⟩).run P w = .ok (.value (v.den σ ρ)) w := by
  unfold slV at hv
  split at hv
  · rename_i i s hi' hx
    have hd := (hT _ _ hi').d
    have hx' := ov_ev hr hx
    simp only [V.den] at hx'
    split at hv
    · rename_i l r hz hl hh
      rw [hz] at hd
      cases hb : Nat.ble l r with
      | false => rw [hb] at hv; cases hv
      | true =>
        rw [hb] at hv
        have hlr := Nat.le_of_ble_eq_true hb
        simp only [cond_true] at hv
        split at hv
        · rename_i m hc
          cases hv
          obtain ⟨c1, c2⟩ := mkS_cut hlr hc
          have hb2 := run_bounds (P := P) (w := w) (isS := false) (mx := none) hr hl hh (rfl : bnd rs s.length none = some s.length) hlr c2 (Nat.le_refl _) (by simp)
          rw [← mkS_size] at hb2
          simp only [Option.map_none] at hb2
          simp [execOp, hx', Instr.sliceAt, Instr.slice, Sem.run_bind, run_underlying hd w, hb2, V.den, c1]
        · cases hv
    · cases hv
  · rename_i i id off m c hi' hx
    have hI := hT _ _ hi'
    have hx' := ov_ev hr hx
    simp only [V.den, Cp.den] at hx'
    split at hv
    · rename_i e l r mm hz hl hh hmx
      have hd := hI.d
      rw [hz] at hd
      split at hv
      · rename_i hc
        simp only [Bool.and_eq_true, Bool.or_eq_true] at hc
        obtain ⟨⟨⟨h0, h1⟩, h2⟩, h3⟩ := hc
        cases hv
        have hb2 := run_bounds (P := P) (w := w) (isS := true) hr hl hh hmx (Nat.le_of_ble_eq_true h1) (Nat.le_of_ble_eq_true h2) (Nat.le_of_ble_eq_true h3) (fun q => by rcases h0 with h0 | h0 <;> simp_all)
        simp [execOp, hx', Instr.sliceAt, Instr.slice, Sem.run_bind, run_underlying hd w, hb2, hI.els _ hz]
        cases hq : Nat.beq mm l with
        | true => rw [if_pos (Nat.eq_of_beq_eq_true hq)]; simp [V.den, Cp.den]
        | false => rw [if_neg (Nat.ne_of_beq_eq_false hq), add_off]; simp [V.den, Cp.den]
      · cases hv
    · cases hv
  · rename_i i id off m id' m0 hi' hx
    have hI := hT _ _ hi'
    have hx' := ov_ev hr hx
    simp only [V.den, Cp.den] at hx'
    split at hv
    · rename_i e l r cs e' lo' hi'' z hz hl hh hg
      have hd := hI.d
      rw [hz] at hd
      split at hv
      · rename_i hc
        simp only [Bool.and_eq_true] at hc
        obtain ⟨⟨⟨⟨⟨⟨h1, h2⟩, h3⟩, h4⟩, h5⟩, h6⟩, h7⟩ := hc
        obtain rfl := Nat.eq_of_beq_eq_true h1
        obtain rfl := Nat.eq_of_beq_eq_true h2
        obtain rfl := Nat.eq_of_beq_eq_true h4
        have h3 := Nat.le_of_ble_eq_true h3
        have h6 := Nat.le_of_ble_eq_true h6
        have h7 := Nat.le_of_ble_eq_true h7
        rw [Nat.blt_eq] at h5
        have hroom := row_room hm hg h5 h3
        split at hv
        · have hb2 := run_bounds (P := P) (w := w) (isS := true) (len := m) (cap := (ρ id).c - m0) (mx := none) hr hl hh rfl h6 (by omega) (Nat.le_refl _) (by simp)
          simp only [Option.map_none] at hb2
          cases hl0 : Nat.beq l 0 with
          | true =>
            rw [hl0] at hv; cases hv
            obtain rfl := Nat.eq_of_beq_eq_true hl0
            simp [execOp, hx', Instr.sliceAt, Instr.slice, Sem.run_bind, run_underlying hd w, hb2, hI.els _ hz, V.den, Cp.den, Addr.add]
          | false =>
            rw [hl0] at hv
            simp only [cond_false] at hv
            cases hl1 : Nat.blt l m with
            | false => rw [hl1] at hv; cases hv
            | true =>
              rw [hl1] at hv; cases hv
              rw [Nat.blt_eq] at hl1
              simp [execOp, hx', Instr.sliceAt, Instr.slice, Sem.run_bind, run_underlying hd w, hb2, hI.els _ hz, V.den, Cp.den]
              rw [if_neg (by omega), add_off]
              simp; omega
        · rename_i mo
          split at hv
          · rename_i mm hmm
            split at hv
            · rename_i hc2
              simp only [Bool.and_eq_true] at hc2
              obtain ⟨⟨q0, q1⟩, q2⟩ := hc2
              cases hv
              have q2 := Nat.le_of_ble_eq_true q2
              have hmm' : bnd rs ((ρ id).c - m0) (some mo) = some mm := hmm
              have hb2 := run_bounds (P := P) (w := w) (isS := true) (len := m) (cap := (ρ id).c - m0) hr hl hh hmm' h6 (Nat.le_of_ble_eq_true q1) (by omega) (fun _ => q0)
              simp only [Option.map_some] at hb2
              simp [execOp, hx', Instr.sliceAt, Instr.slice, Sem.run_bind, run_underlying hd w, hb2, hI.els _ hz]
              cases hq : Nat.beq mm l with
              | true => rw [if_pos (Nat.eq_of_beq_eq_true hq)]; simp [V.den, Cp.den]
              | false => rw [if_neg (Nat.ne_of_beq_eq_false hq), add_off]; simp [V.den, Cp.den]
            · cases hv
          · cases hv
      · cases hv
    · cases hv
  · rename_i i id off hi' hx
    have hI := hT _ _ hi'
    have hx' := ov_ev hr hx
    simp only [V.den] at hx'
    split at hv
    · rename_i m e hz
      have hd := hI.d
      rw [hz] at hd
      split at hv
      · rename_i l r hl hh
        split at hv
        · rename_i hc
          simp only [Bool.and_eq_true] at hc
          cases hv
          have hb2 := run_bounds (P := P) (w := w) (isS := false) (len := m) (cap := m) (mx := none) hr hl hh rfl (Nat.le_of_ble_eq_true hc.1) (Nat.le_of_ble_eq_true hc.2) (Nat.le_refl _) (by simp)
          simp only [Option.map_none] at hb2
          simp [execOp, hx', Instr.sliceAt, Instr.sureAddr, Sem.run_bind, run_underlying hd w, hb2, hI.ela _ _ hz]
          cases hq : Nat.beq m l with
          | true => rw [if_pos (Nat.eq_of_beq_eq_true hq)]; simp [V.den, Cp.den]
          | false => rw [if_neg (Nat.ne_of_beq_eq_false hq), add_off]; simp [V.den, Cp.den]
        · cases hv
      · cases hv
    · cases hv
  · exact cv_ok hr hv
end
end Go.Proofs.YtkjhjgokaeiopaaGreatDoor.E
