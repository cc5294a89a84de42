/- pattern.Size. -/
import Derived.Test.YtpoelkfncpjmfaaPbc
namespace Go.Proofs.Ytpoelkfncpjmfaa
open Go Go.RowKit

theorem add_add2 (a : Addr) (x y : Nat) : (a.add x).add y = a.add (x + y) := by
  unfold Addr.add
  cases a with
  | mk b o s => by_cases hx : x = 0 <;> by_cases hy : y = 0 <;> simp_all [Nat.add_assoc]
section
variable {P : Program} {N : Nat} {R : Regs} {S : World → Prop} {Q : Exit → Act → World → Prop} {ops : Array Oper} {rest : List Oper} {W0 : World} {F : List Nat} {L : List Ent} {X : Act → World → Prop}
variable {dst : Option Tmp} {ty t t' k e : TypeId} {pos : String} {af : Array Edge} {gd : Option (Nat × Bool)} {x y z : Operand} {o : Oper}
theorem y_fieldAt {t : TypeId} {i k a m : Nat} {p : Addr} (hx : ev R x = some (.pointer (some (p.add a)))) (hk : fieldOff P t i = some k) (hm : a + k = m) : Yv P N R S ⟨dst, .fieldAddr t x i, ty, pos, af, gd⟩ (.pointer (some (p.add m))) := fun a' w hR _ => by
  subst hm
  simp [execOp, hR.eval hx, run_fieldAt hk, add_add2]
theorem rd_cell {W : World} {p : Option Addr} {n sz : Nat} {f : Nat → Nat → Value} (hr : RdSl W p n sz f) {i j : Nat} (hi : i < n) (hj : j < sz) {L : List Ent} : ∀ w, St W [] L w → w.cell? ((p.getD default).add (i * sz + j)) = some (f i j) := fun w hS => by
  have hb := hr.blk (by omega)
  have hc := hr.cell i j hi hj
  rw [← hc]
  have e : ((p.getD default).add (i * sz + j)).block = (p.getD default).block := by unfold Addr.add; split <;> rfl
  exact World.cell?_of_block (w := W) (hS.keep _ (by rw [e]; exact hb) (by simp))
theorem y_rdField {t : TypeId} {p : Option Addr} {n sz j m : Nat} {i : Int} {f : Nat → Nat → Value} (hr : RdSl W0 p n sz f) (hx : ev R x = some (.pointer (some ((p.getD default).add m)))) (hm : i.toNat * sz + j = m) (ha : ∀ w, (isAgg t).run P w = .ok false w) (h0 : 0 ≤ i) (h1 : i < n) (hj : j < sz) :
    Yv P N R (St W0 [] L) ⟨dst, .load t x, ty, pos, af, gd⟩ (f i.toNat j) := by
  subst hm
  exact y_load1 hx ha (rd_cell hr (by omega) hj)
theorem y_rdAgg {t : TypeId} {p : Option Addr} {n sz : Nat} {i : Int} {f : Nat → Nat → Value} {vs : List Value} (hr : RdSl W0 p n sz f) (hx : ev R x = some (.pointer (some ((p.getD default).add (i.toNat * sz))))) (ha : ∀ w, (isAgg t).run P w = .ok true w) (hz : ∀ w, (sizeOf t).run P w = .ok sz w) (h0 : 0 ≤ i) (h1 : i < n) (hl : vs.length = sz) (hv : ∀ j, j < sz → vs[j]? = some (f i.toNat j)) :
    Yv P N R (St W0 [] L) ⟨dst, .load t x, ty, pos, af, gd⟩ (.agg vs.toArray) := fun a w hR hS => by
  have hl2 : (loadCells ((p.getD default).add (i.toNat * sz)) vs.length).run P w = .ok vs.toArray w :=
    run_loadCells_list (P := P) w _ vs (fun j v hj => by
      have hlt : j < vs.length := (List.getElem?_eq_some_iff.1 hj).1
      rw [add_add2, rd_cell hr (by omega) (by omega) w hS, ← hv j (by omega), hj])
  rw [hl] at hl2
  simp [execOp, hR.eval hx, Instr.loadAt, Instr.sureAddr, loadVar, Sem.run_bind, ha, hz, hl2]
/-- An owned row, as one that is read. -/
theorem rd_of_row {α : Type} [Inhabited α] (f : α → List Value) {w : World} {e : TypeId} {size n c : Nat} {p : Option Addr} {cs : List α} (hl : ∀ a, (f a).length = size) (hn : n = cs.length) (h : w.ownsRow 0 e size (.slice p n c) cs.length (cs.flatMap f)) : RdSl w p n size (fun i j => ((f (cs.getD i default))[j]?).getD default) := by
  subst hn
  refine ⟨fun hpos => ?_, fun hpos => ?_, fun i j hi hj => ?_⟩
  · obtain ⟨_, h2 | ⟨g, cap, cur, q, _⟩⟩ := h
    · omega
    · cases q; rfl
  · obtain ⟨_, h2 | ⟨g, cap, cur, q, _, q2, _⟩⟩ := h
    · omega
    · cases q; exact lt_of_some q2
  · have hg : cs[i]? = some (cs.getD i default) := by rw [List.getD_eq_getElem?_getD, List.getElem?_eq_getElem hi]; rfl
    have hv := fm_get f size hl cs i j _ hg hj
    have hjl : j < (f (cs.getD i default)).length := by rw [hl]; exact hj
    rw [List.getElem?_eq_getElem hjl] at hv ⊢
    have h' := h
    obtain ⟨q0, h2 | ⟨g, cap, cur, q, _⟩⟩ := h
    · omega
    · cases q
      have := row_cell h' hv
      simpa [Addr.add_mid] using this
end

mutual
def szT : MT → Nat
  | .mk _ _ _ _ _ _ kids => 1 + szL kids
def szL : List MT → Nat
  | [] => 0
  | t :: ts => szT t + szL ts
end
theorem szT_mk {k : Int} {s : Nat → Int} {mi ma nu : Int} {v : Value} {kids : List MT} : szT (.mk k s mi ma nu v kids) = 1 + szL kids := by rw [szT]
theorem szL_cons {t : MT} {ts : List MT} : szL (t :: ts) = szT t + szL ts := by rw [szL]
theorem szL_nil : szL [] = 0 := by rw [szL]
theorem szL_append (a b : List MT) : szL (a ++ b) = szL a + szL b := by
  induction a with
  | nil => rw [szL_nil]; simp
  | cons t a ih => rw [List.cons_append, szL_cons, szL_cons, ih]; omega
theorem kid_get (kids : List MT) (i : Nat) (h : i < kids.length) : kids[i]? = some (kids.getD i zMT) := by rw [List.getD_eq_getElem?_getD, List.getElem?_eq_getElem h]; rfl
theorem szL_take (kids : List MT) (i : Nat) (h : i < kids.length) : szL (kids.take (i + 1)) = szL (kids.take i) + szT (kids.getD i zMT) := by
  rw [List.take_add_one, kid_get kids i h]
  show szL (kids.take i ++ [kids.getD i zMT]) = _
  rw [szL_append, szL_cons, szL_nil]; omega
theorem szT_le (kids : List MT) (i : Nat) (h : i < kids.length) : szL (kids.take i) + szT (kids.getD i zMT) ≤ szL kids := by
  rw [← szL_take kids i h]
  have := szL_append (kids.take (i + 1)) (kids.drop (i + 1))
  rw [List.take_append_drop] at this; omega
theorem szL_ge (kids : List MT) : kids.length ≤ szL kids := by
  induction kids with
  | nil => simp
  | cons t ts ih => rw [List.length_cons, szL_cons]; cases t; rw [szT_mk]; omega
theorem okL_get {w : World} {kids : List MT} (h : okL w kids) (i : Nat) (hi : i < kids.length) : (kids.getD i zMT).ok w := by
  induction kids generalizing i with
  | nil => simp at hi
  | cons t kids ih =>
    obtain ⟨h1, h2⟩ := okL_cons.1 h
    cases i with
    | zero => exact h1
    | succ i => exact ih h2 i (by simpa using hi)
theorem nC_one {w : World} {t : MT} (h : t.ok w) : (nC t).all (·.oneCell') = true := by
  cases t
  obtain ⟨_, ⟨h1, _⟩ | ⟨g, cap, cur, h1, _⟩⟩ := (ok_mk.1 h).1 <;> subst h1 <;> rfl
def kF (kids : List MT) (i j : Nat) : Value := ((nC (kids.getD i zMT))[j]?).getD default
theorem kF_get (kids : List MT) (i j : Nat) (hj : j < 9) : (nC (kids.getD i zMT))[j]? = some (kF kids i j) := by
  unfold kF
  rw [List.getElem?_eq_getElem (by rw [nC_len]; exact hj)]; rfl
instance : Inhabited MT := ⟨zMT⟩

set_option maxRecDepth 100000 in
theorem size_any : ∀ (N0 : Nat) (t : MT) (w : World), szT t ≤ N0 → N0 ≤ 1000000 → t.ok w → Calls Try.prog 16 #[.agg (nC t).toArray] w fun e w' => e = .returned (.int .i64 (szT t)) ∧ Below w.heap.size w w' := by
  intro N0
  induction N0 with
  | zero => intro t w h _ _; cases t; rw [szT_mk] at h; omega
  | succ N0 ih0 =>
    intro t w h hN hok
    have ih : ∀ (t : MT) (w : World), szT t ≤ N0 → t.ok w → Calls Try.prog 16 #[.agg (nC t).toArray] w fun e w' => e = .returned (.int .i64 (szT t)) ∧ Below w.heap.size w w' := fun t w h => ih0 t w h (by omega)
    obtain ⟨nk, ns, nm, nx, nu, nv, kids⟩ := t
    rw [szT_mk] at h
    obtain ⟨hrow, hkids⟩ := ok_mk.1 hok
    obtain ⟨p, c, rfl⟩ : ∃ p c, nv = .slice p kids.length c := by
      obtain ⟨_, ⟨h1, h2⟩ | ⟨g, cap, cur, h1, _⟩⟩ := hrow
      · exact ⟨none, 0, by rw [h1, h2]⟩
      · exact ⟨_, cap, h1⟩
    have hrd : RdSl w p kids.length 9 (kF kids) := rd_of_row nC nC_len rfl hrow
    have hbig := szL_ge kids
    refine fn_intro Try.func16 rfl Try.ntmps16 rfl rfl ?_
    refine s_ (o_ ?_)
    refine g_box rfl rfl rfl rfl (fun b1 => ?_)
    refine xg 1 [] rfl rfl ?_
    refine ntso_ ?_
    refine xg 1 [] rfl rfl ?_
    refine n_ (t_ (s_ (s_ (o_ ?_))))
    refine xg 4 [0] rfl (by omega) ?_
    refine n_ (t_ (g_block ?_))
    refine g_loop (α := {x : Int × Int // 0 ≤ x.1 ∧ x.1 ≤ kids.length ∧ x.2 = 1 + szL (kids.take x.1.toNat)}) (fun x => [(3, .int .i64 x.1.2), (7, .slice p kids.length c), (8, .int .i64 kids.length), (9, .int .i64 x.1.1)]) (fun x => St w [] []) (fun x => kids.length - x.1.1.toNat) ⟨(0, 1), by dsimp only; omega, by dsimp only; omega, by dsimp only; rw [show (0 : Int).toNat = 0 from rfl, List.take_zero, szL_nil]; rfl⟩ [3, 7, 8, 9] rfl (fun w h => h.pick [] rfl) ?_
    rintro ⟨⟨i, n⟩, hx⟩
    dsimp only
    dsimp only at hx
    obtain ⟨hi0, hi1, hn⟩ := hx
    refine s_ (o_ ?_)
    refine xg 1 [0] rfl rfl ?_
    refine n_ (t_ (s_ ?_))
    refine g_casep 10 rfl (fun h1 => ?_) fun h1 => ?_
    ·have hb9 := szT_le kids i.toNat
     refine g_cond_t rfl (g_skip (t_ (s_ (g_block (s_ (o_ ?_))))))
     refine g_val rfl rfl rfl (y_rdAddr hrd rfl rfl Try.underlying28 Try.sizeOf30 (by omega) (by omega)) ?_
     refine g_val rfl rfl rfl (y_rdAgg (i := i) (vs := nC (kids.getD i.toNat zMT)) hrd rfl Try.isAgg30 Try.sizeOf30 (by omega) (by omega) (nC_len _) (fun q hq => kF_get kids i.toNat q hq)) ?_
     refine g_alloc rfl rfl Try.zeroValue30 rfl (fun b2 => ?_)
     refine g_stN 0 rfl rfl rfl (by kernel_rfl) (nC_one (okL_get hkids i.toNat (by omega))) rfl rfl (nC_len _) ?_
     simp only [List.set_cons_zero]
     refine nto_ ?_
     refine xg 1 [] rfl rfl ?_
     refine g_val rfl rfl rfl (y_ldN (vs := nC (kids.getD i.toNat zMT)) 0 rfl Try.isAgg30 Try.sizeOf30 rfl (by rw [List.drop_zero, List.take_of_length_le (by rw [nC_len]; decide)]) (nC_len _)) ?_
     refine g_call1 rfl rfl rfl Try.call16 (fun w' hS => ih (kids.getD i.toNat zMT) w' (by have := szT_le kids i.toNat (by omega); omega) (MT.stable _ (fun q hq => hS.keep q (MT.inb _ (okL_get hkids i.toNat (by omega)) q hq) (by simp)) (okL_get hkids i.toNat (by omega)))) ?_
     refine xg 2 [] rfl (by omega) ?_
     refine n_ (g_in_normal (t_ (o_ ?_)))
     refine xg 2 [] rfl (by omega) ?_
     refine n_ ?_
     exact g_again ⟨(i + 1, n + szT (kids.getD i.toNat zMT)), by dsimp only; omega, by dsimp only; omega, by dsimp only; rw [show (i + 1).toNat = i.toNat + 1 by omega, szL_take kids i.toNat (by omega)]; omega⟩ [3, 7, 8, 9] (by dsimp only; omega) rfl (fun w h => h.pick [] rfl)
    have hb9 := szT_le kids i.toNat
    refine g_cond_f rfl (g_exit (g_then_exit (g_then_exit (g_in_exit (t_ (s_ (o_ ?_)))))))
    refine xg 2 [] rfl rfl ?_
    refine n_ (t_ (g_ret ?_))
    refine g_end1 Try.results16 rfl ?_
    have hin : i.toNat = kids.length := by omega
    rw [hin, List.take_length] at hn
    exact fun w hS => ⟨by rw [szT_mk]; exact ret_int (by omega), hS.below⟩

end Go.Proofs.Ytpoelkfncpjmfaa
