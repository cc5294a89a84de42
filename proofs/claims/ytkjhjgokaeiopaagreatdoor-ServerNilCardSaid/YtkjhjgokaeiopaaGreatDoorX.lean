/-
  Many operations at once: what they yield is computed, what must hold besides is gathered.
-/
import Derived.Test.YtkjhjgokaeiopaaGreatDoorC
import Derived.Test.YtkjhjgokaeiopaaGreatDoorN
namespace Go.Proofs.YtkjhjgokaeiopaaGreatDoor
open Go Go.RowKit

/-! ### Lists, forced -/
def nth {α : Type} : List α → Nat → Option α
  | [], _ => none
  | a :: _, 0 => some a
  | _ :: l, n + 1 => nth l n
theorem nth_eq {α : Type} : ∀ (l : List α) (n : Nat), nth l n = l[n]?
  | [], _ => rfl
  | _ :: _, 0 => rfl
  | _ :: l, n + 1 => by rw [nth, nth_eq l n]; rfl
def setE {α : Type} : List α → Nat → α → Option (List α)
  | [], _, _ => none
  | _ :: l, 0, a => some (a :: l)
  | b :: l, n + 1, a => match setE l n a with
    | some m => some (b :: m)
    | none => none
theorem setE_some {α : Type} : ∀ {l : List α} {n : Nat} {a : α} {m : List α}, setE l n a = some m → n < l.length ∧ l.set n a = m
  | [], _, _, _, h => by cases h
  | _ :: _, 0, _, _, h => by cases h; exact ⟨Nat.zero_lt_succ _, rfl⟩
  | b :: l, n + 1, a, m, h => by
    unfold setE at h
    split at h
    · rename_i m' hm
      cases h
      obtain ⟨h1, h2⟩ := setE_some hm
      exact ⟨by simp; omega, by rw [List.set_cons_succ, h2]⟩
    · cases h
def dropE {α : Type} : Nat → List α → Option (List α)
  | 0, l => some l
  | n + 1, _ :: l => dropE n l
  | _ + 1, [] => none
theorem dropE_some {α : Type} : ∀ {n : Nat} {l m : List α}, dropE n l = some m → n ≤ l.length ∧ l.drop n = m
  | 0, _, _, h => by cases h; exact ⟨Nat.zero_le _, rfl⟩
  | n + 1, _ :: l, m, h => by
    obtain ⟨h1, h2⟩ := dropE_some (n := n) (l := l) h
    exact ⟨by simp; omega, h2⟩
  | _ + 1, [], _, h => by cases h
def takeE {α : Type} : Nat → List α → Option (List α)
  | 0, _ => some []
  | n + 1, a :: l => match takeE n l with
    | some m => some (a :: m)
    | none => none
  | _ + 1, [] => none
theorem takeE_some {α : Type} : ∀ {n : Nat} {l m : List α}, takeE n l = some m → m.length = n ∧ l.take n = m
  | 0, _, _, h => by cases h; exact ⟨rfl, rfl⟩
  | n + 1, a :: l, m, h => by
    unfold takeE at h
    split at h
    · rename_i m' hm
      cases h
      obtain ⟨h1, h2⟩ := takeE_some hm
      exact ⟨by simp [h1], by rw [List.take_succ_cons, h2]⟩
    · cases h
  | _ + 1, [], _, h => by cases h
/-- vs, over the cells from off on. -/
def overE {α : Type} : List α → List α → Option (List α)
  | l, [] => some l
  | _ :: l, b :: r => match overE l r with
    | some m => some (b :: m)
    | none => none
  | [], _ :: _ => none
def putE {α : Type} : Nat → List α → List α → Option (List α)
  | 0, l, r => overE l r
  | n + 1, a :: l, r => match putE n l r with
    | some m => some (a :: m)
    | none => none
  | _ + 1, [], _ => none
theorem overE_some {α : Type} : ∀ {l r m : List α}, overE l r = some m → r.length ≤ l.length ∧ m = r ++ l.drop r.length
  | l, [], m, h => by
    have : m = l := by cases l <;> (cases h; rfl)
    exact ⟨Nat.zero_le _, by simp [this]⟩
  | a :: l, b :: r, m, h => by
    unfold overE at h
    split at h
    · rename_i m' hm
      cases h
      obtain ⟨h1, h2⟩ := overE_some hm
      exact ⟨by simp; omega, by simp [h2]⟩
    · cases h
  | [], _ :: _, _, h => by cases h
theorem putE_some {α : Type} : ∀ {n : Nat} {l r m : List α}, putE n l r = some m → n + r.length ≤ l.length ∧ m = l.take n ++ (r ++ l.drop (n + r.length))
  | 0, l, r, m, h => by
    obtain ⟨h1, h2⟩ := overE_some h
    exact ⟨by omega, by simp [h2]⟩
  | n + 1, a :: l, r, m, h => by
    unfold putE at h
    split at h
    · rename_i m' hm
      cases h
      obtain ⟨h1, h2⟩ := putE_some hm
      exact ⟨by simp; omega, by rw [h2, show n + 1 + r.length = (n + r.length) + 1 by omega]; simp⟩
    · cases h
  | _ + 1, [], _, _, h => by cases h

/-! ### Types -/
inductive TK where
  | int (k : IntKind)
  | bool
  | str
  | slice (e sz : Nat)
  | arr (n e sz : Nat)
  | st (fs : List (Nat × Nat))
  | other
structure TI where
  agg : Bool
  sz : Nat
  kd : TK
  zs : List Value
def fillE (pl : Nat → Option (Nat × Nat)) (zs : List Value) : List (Nat × Value) → Option (List Value)
  | [] => some zs
  | (i, v) :: r => match pl i with
    | some (o, n) => match v with
      | .agg a => if Nat.beq a.toList.length n then (match putE o zs a.toList with
        | some z => fillE pl z r
        | none => none) else none
      | .tuple _ => none
      | u => if Nat.beq 1 n then (match putE o zs [u] with
        | some z => fillE pl z r
        | none => none) else none
    | none => none
theorem foldl_put (o : Nat) : ∀ (l : List Value) (k : Nat) (a : List Value), o + k + l.length ≤ a.length → (l.zipIdx k).foldl (fun cs (c, j) => cs.setIfInBounds (o + j) c) a.toArray = (a.take (o + k) ++ (l ++ a.drop (o + k + l.length))).toArray
  | [], k, a, _ => by simp
  | c :: l, k, a, h => by
    simp only [List.length_cons] at h
    rw [List.zipIdx_cons, List.foldl_cons]
    dsimp only
    have e : a.toArray.setIfInBounds (o + k) c = (a.set (o + k) c).toArray := by simp
    rw [e, foldl_put o l (k + 1) (a.set (o + k) c) (by simp; omega)]
    congr 1
    have e1 : (a.set (o + k) c).take (o + (k + 1)) = a.take (o + k) ++ [c] := by
      rw [show o + (k + 1) = o + k + 1 by omega, List.take_add_one, List.take_set_of_le (Nat.le_refl _), List.getElem?_set_self (by omega)]; rfl
    have e2 : (a.set (o + k) c).drop (o + (k + 1) + l.length) = a.drop (o + k + (c :: l).length) := by
      rw [List.drop_set_of_lt (by omega)]; congr 1; simp only [List.length_cons]; omega
    rw [e1, e2, List.append_assoc]; rfl
theorem fillE_some {pl : Nat → Option (Nat × Nat)} : ∀ {vs : List (Nat × Value)} {zs z : List Value}, fillE pl zs vs = some z → Instr.fill pl zs.toArray vs = some z.toArray
  | [], zs, z, h => by cases h; rfl
  | (i, v) :: r, zs, z, h => by
    unfold fillE at h
    unfold Instr.fill
    split at h
    · rename_i o n hp
      have key : ∀ (a : Array Value), v.cells = a → a.toList.length = n → ∀ z1, putE o zs a.toList = some z1 → fillE pl z1 r = some z → (match pl i with
          | none => none
          | some (off, size) => if v.cells.size ≠ size || off + v.cells.size > zs.toArray.size then none else Instr.fill pl (v.cells.zipIdx.foldl (fun cs (c, j) => cs.setIfInBounds (off + j) c) zs.toArray) r) = some z.toArray := by
        intro a ha hn z1 h1 h2
        obtain ⟨q1, q2⟩ := putE_some h1
        have hs : v.cells.size = n := by rw [ha, ← hn]; simp
        have hs2 : a.toList.length = a.size := by simp
        have hk : ¬ (((v.cells.size ≠ n) || decide (o + v.cells.size > zs.toArray.size)) = true) := by
          rw [ha] at hs ⊢; simp only [List.size_toArray, Bool.or_eq_true, decide_eq_true_eq, ne_eq, decide_not, Bool.not_eq_true', decide_eq_false_iff_not]; omega
        rw [hp]
        dsimp only
        rw [if_neg hk]
        have e := foldl_put o a.toList 0 zs (by omega)
        rw [ha]
        have e3 : a.zipIdx.foldl (fun cs (c, j) => cs.setIfInBounds (o + j) c) zs.toArray = (a.toList.zipIdx 0).foldl (fun cs (c, j) => cs.setIfInBounds (o + j) c) zs.toArray := by
          rw [← Array.foldl_toList]; congr 1; simp
        rw [e3, e, Nat.add_zero, ← q2]
        exact fillE_some h2
      split at h
      · rename_i a
        split at h
        · rename_i hb
          split at h
          · rename_i z1 h1
            exact key a rfl (Nat.eq_of_beq_eq_true hb) z1 h1 h
          · cases h
        · cases h
      · cases h
      · rename_i na nt
        split at h
        · rename_i hb
          split at h
          · rename_i z1 h1
            refine key #[v] ?_ (Nat.eq_of_beq_eq_true hb) z1 h1 h
            cases v <;> first | rfl | exact absurd rfl (na _)
          · cases h
        · cases h
    · cases h

/-- What the table tells is so. -/
def TK.ok (P : Program) (t : TypeId) (zs : List Value) : TK → Prop
  | .int k => P.underlying t = some (.int k)
  | .bool => P.underlying t = some .bool
  | .str => P.underlying t = some .string
  | .slice e z => P.underlying t = some (.slice e) ∧ ∀ w, (sizeOf e).run P w = .ok z w
  | .arr n e z => P.underlying t = some (.array n e) ∧ (∀ w, (sizeOf e).run P w = .ok z w) ∧ ∀ vs, P.built t vs = Instr.fill (fun i => some (i * z, z)) zs.toArray vs
  | .st fs => (List.range fs.length).map (fieldOff P t) = fs.map (fun x => if Nat.beq x.2 0 then none else some x.1) ∧ ∀ vs, P.built t vs = Instr.fill (fs.toArray[·]?) zs.toArray vs
  | .other => True
def TI.ok (P : Program) (t : TypeId) (i : TI) : Prop :=
  (∀ w, (isAgg t).run P w = .ok i.agg w) ∧ (∀ w, (sizeOf t).run P w = .ok i.sz w) ∧ i.kd.ok P t i.zs

/-! ### What an operation yields -/
def rng : IntKind → Int → Option Prop
  | .i64, z => some (-9223372036854775808 ≤ z ∧ z ≤ 9223372036854775807)
  | .u8, z => some (0 ≤ z ∧ z ≤ 255)
  | .u64, z => some (0 ≤ z ∧ z ≤ 18446744073709551615)
  | .u32, z => some (0 ≤ z ∧ z ≤ 4294967295)
  | .i32, z => some (-2147483648 ≤ z ∧ z ≤ 2147483647)
  | _, _ => none
theorem rng_wrap {k : IntKind} {z : Int} {p : Prop} (h : rng k z = some p) (hp : p) : k.wrap z = z := by
  cases k <;> first | (cases h; done) | (cases h; simp [IntKind.wrap, IntKind.bits, IntKind.signed]; omega)
abbrev Yd := Option (Value × List Nat × Option Prop)
def int? (k : IntKind) (z : Int) (hs : List Nat) : Yd := match rng k z with
  | some p => some (.int k z, hs, some p)
  | none => none
def icmp (hs : List Nat) (p : Prop) (i : Decidable p) : Yd := match hs with
  | [] => some (.bool (@decide p i), [], none)
  | 0 :: hs => some (.bool (@decide p i), hs, none)
  | 1 :: hs => some (.bool true, hs, some p)
  | _ :: hs => some (.bool false, hs, some (¬ p))
def ibin (hs : List Nat) (k : IntKind) (a b : Int) : BinOp → Yd
  | .add => int? k (a + b) hs
  | .sub => int? k (a - b) hs
  | .mul => int? k (a * b) hs
  | .quo => match rng k (a / b) with
    | some p => some (.int k (a / b), hs, some (0 ≤ a ∧ 0 < b ∧ p))
    | none => none
  | .rem => some (.int k (a % b), hs, some (0 ≤ a ∧ 0 < b))
  | .eql => icmp hs (a = b) inferInstance
  | .neq => icmp hs (a ≠ b) inferInstance
  | .lss => icmp hs (a < b) inferInstance
  | .leq => icmp hs (a ≤ b) inferInstance
  | .gtr => icmp hs (b < a) inferInstance
  | .geq => icmp hs (b ≤ a) inferInstance
  | _ => none
def sbin (hs : List Nat) (s u : ByteArray) : BinOp → Yd
  | .eql => some (.bool (decide (s = u)), hs, none)
  | .neq => some (.bool (decide (s ≠ u)), hs, none)
  | .add => some (.string (s ++ u), hs, some (s.size + u.size ≤ 9223372036854775807))
  | _ => none
abbrev Tab := Nat → Option TI
def yv (T : Tab) (R : Regs) (L : List Ent) (hs : List Nat) : Op → Yd
  | .move x | .assign x => match ev R x with
    | some v => some (v, hs, none)
    | none => none
  | .nilCheck x => match ev R x with
    | some (.pointer (some p)) => some (.pointer (some p), hs, none)
    | _ => none
  | .fieldAddr t x i => match T t, ev R x with
    | some ⟨_, _, .st fs, _⟩, some (.pointer (some ⟨b, off, none⟩)) => (match nth fs i with
      | some (k, _ + 1) => some (.pointer (some ⟨b, off + k, none⟩), hs, none)
      | _ => none)
    | _, _ => none
  | .load t x => match T t, ev R x, hs with
    | some ⟨true, sz, _, _⟩, some (.pointer (some ⟨b, off, none⟩)), i :: hs => (match nth L i with
      | some (.cells b' _ cs) => (match dropE off cs with
        | some m => (match takeE sz m with
          | some vs => some (.agg vs.toArray, hs, some (b = b'))
          | none => none)
        | none => none)
      | _ => none)
    | some ⟨false, _, _, _⟩, some (.pointer (some ⟨b, off, none⟩)), i :: hs => (match nth L i with
      | some (.cells b' _ cs) => (match nth cs off with
        | some v => some (v, hs, some (b = b'))
        | none => none)
      | _ => none)
    | _, _, _ => none
  | .extract x i => match ev R x with
    | some (.tuple vs) => (match nth vs.toList i with
      | some v => some (v, hs, none)
      | none => none)
    | _ => none
  | .pick c x y => match ev R c with
    | some (.bool true) => (match ev R x with
      | some v => some (v, hs, none)
      | none => none)
    | some (.bool false) => (match ev R y with
      | some v => some (v, hs, none)
      | none => none)
    | _ => none
  | .unOp .not _ x => match ev R x with
    | some (.bool b) => some (.bool (!b), hs, none)
    | _ => none
  | .unOp .neg _ x => match ev R x with
    | some (.int k a) => int? k (0 - a) hs
    | _ => none
  | .binOp op _ x y _ => match ev R x, ev R y with
    | some (.int k a), some (.int k' b) => if k = k' then ibin hs k a b op else none
    | some (.string s), some (.string u) => sbin hs s u op
    | _, _ => none
  | .convert t t' x => match T t, T t', ev R x with
    | some ⟨_, _, .int _, _⟩, some ⟨_, _, .int k', _⟩, some (.int _ a) => int? k' a hs
    | _, _, _ => none
  | .call ⟨.builtin .len, xs, ts⟩ => match xs.toList, ts.toList with
    | [x], [t] => (match T t, ev R x with
      | some ⟨_, _, .str, _⟩, some (.string s) => some (.int .i64 s.size, hs, none)
      | some ⟨_, _, .slice _ _, _⟩, some (.slice _ n _) => some (.int .i64 n, hs, none)
      | _, _ => none)
    | _, _ => none
  | .index t x y => match T t, ev R x, ev R y with
    | some ⟨_, _, .str, _⟩, some (.string s), some (.int _ i) => some (.int .u8 (bt s i), hs, some (0 ≤ i ∧ i < s.size))
    | _, _, _ => none
  | .slice t x lo hi none => match T t, ev R x with
    | some ⟨_, _, .str, _⟩, some (.string s) => (match lo, hi with
      | some lo, some hi => (match ev R lo, ev R hi with
        | some (.int .i64 l), some (.int .i64 h) => some (.string (s.extract l.toNat h.toNat), hs, some (0 ≤ l ∧ l ≤ h ∧ h ≤ s.size))
        | _, _ => none)
      | some lo, none => (match ev R lo with
        | some (.int .i64 l) => some (.string (s.extract l.toNat s.size), hs, some (0 ≤ l ∧ l ≤ s.size))
        | _ => none)
      | none, some hi => (match ev R hi with
        | some (.int .i64 h) => some (.string (s.extract 0 h.toNat), hs, some (0 ≤ h ∧ h ≤ s.size))
        | _ => none)
      | none, none => none)
    | _, _ => none
  | .indexAddr t x y => match T t, ev R x, ev R y with
    | some ⟨_, _, .arr n _ z, _⟩, some (.pointer (some ⟨b, off, none⟩)), some (.int _ i) => some (.pointer (some ⟨b, off + i.toNat * z, none⟩), hs, some (0 ≤ i ∧ i < n))
    | some ⟨_, _, .slice _ z, _⟩, some (.slice (some ⟨b, off, none⟩) n _), some (.int _ i) => some (.pointer (some ⟨b, off + i.toNat * z, none⟩), hs, some (0 ≤ i ∧ i < n))
    | _, _, _ => none
  | .build t ps => match T t, evParts R ps.toList with
    | some ⟨_, _, .st fs, zs⟩, some vs => (match fillE (nth fs) zs vs with
      | some z => some (.agg z.toArray, hs, none)
      | none => none)
    | some ⟨_, _, .arr _ _ n, zs⟩, some vs => (match fillE (fun i => some (i * n, n)) zs vs with
      | some z => some (.agg z.toArray, hs, none)
      | none => none)
    | _, _ => none
  | _ => none

section
variable {P : Program} {N : Nat} {R : Regs} {W0 : World} {F : List Nat} {L : List Ent} {S : World → Prop}
variable {dst : Option Tmp} {ty t t' : TypeId} {pos : String} {af : Array Edge} {gd : Option (Nat × Bool)} {x y : Operand} {k : IntKind} {a b : Int} {T : Tab} {hs hs' : List Nat} {v : Value} {c : Option Prop}
theorem y_eqv {o : Oper} {u : Value} (h : Yv P N R S o v) (e : v = u) : Yv P N R S o u := e ▸ h
theorem int?_ok {o : Oper} {z : Int} (hy : Yv P N R S o (.int k (k.wrap z))) (h : int? k z hs = some (v, hs', c)) (hc : ∀ p, c = some p → p) : Yv P N R S o v := by
  unfold int? at h
  split at h
  · rename_i p hp; cases h; rwa [rng_wrap hp (hc _ rfl)] at hy
  · cases h
theorem icmp_ok {o : Oper} {p : Prop} {i : Decidable p} (hy : Yv P N R S o (.bool (@decide p i))) (h : icmp hs p i = some (v, hs', c)) (hc : ∀ p, c = some p → p) : Yv P N R S o v := by
  unfold icmp at h
  split at h
  · cases h; exact hy
  · cases h; exact hy
  · cases h; exact y_lit true hy (decide_eq_true (hc _ rfl))
  · cases h; exact y_lit false hy (decide_eq_false (hc _ rfl))
theorem ibin_ok {bop : BinOp} (hx : ev R x = some (.int k a)) (hy : ev R y = some (.int k b)) (h : ibin hs k a b bop = some (v, hs', c)) (hc : ∀ p, c = some p → p) : Yv P N R S ⟨dst, .binOp bop t x y t', ty, pos, af, gd⟩ v := by
  unfold ibin at h
  split at h
  · exact int?_ok (y_iadd hx hy) h hc
  · exact int?_ok (y_isub hx hy) h hc
  · exact int?_ok (y_imul hx hy) h hc
  · split at h
    · rename_i p hp
      cases h
      obtain ⟨h1, h2, h3⟩ := hc _ rfl
      have := y_iquo (P := P) (N := N) (S := S) (dst := dst) (ty := ty) (t := t) (t' := t') (pos := pos) (af := af) (gd := gd) hx hy (by omega)
      rwa [Int.tdiv_eq_ediv_of_nonneg h1, rng_wrap hp h3] at this
    · cases h
  · cases h
    obtain ⟨h1, h2⟩ := hc _ rfl
    have := y_irem (P := P) (N := N) (S := S) (dst := dst) (ty := ty) (t := t) (t' := t') (pos := pos) (af := af) (gd := gd) hx hy (by omega)
    rwa [Int.tmod_eq_emod_of_nonneg h1] at this
  · exact icmp_ok (y_ieq hx hy) h hc
  · exact icmp_ok (y_ine hx hy) h hc
  · exact icmp_ok (y_ilt hx hy) h hc
  · exact icmp_ok (y_ile hx hy) h hc
  · exact icmp_ok (y_igt hx hy) h hc
  · exact icmp_ok (y_ige hx hy) h hc
  · cases h
theorem sbin_ok {bop : BinOp} {s u : ByteArray} (hx : ev R x = some (.string s)) (hy : ev R y = some (.string u)) (h : sbin hs s u bop = some (v, hs', c)) (hc : ∀ p, c = some p → p) : Yv P N R S ⟨dst, .binOp bop t x y t', ty, pos, af, gd⟩ v := by
  unfold sbin at h
  split at h
  · cases h; exact y_seq hx hy
  · cases h; exact y_sne hx hy
  · cases h; exact y_scat hx hy (hc _ rfl)
  · cases h
theorem fieldOff_of {fs : List (Nat × Nat)} {i k z : Nat} (h : (List.range fs.length).map (fieldOff P t) = fs.map (fun x => if Nat.beq x.2 0 then none else some x.1)) (hi : nth fs i = some (k, z + 1)) : fieldOff P t i = some k := by
  rw [nth_eq] at hi
  have hl : i < fs.length := (List.getElem?_eq_some_iff.1 hi).1
  have hg : fs[i] = (k, z + 1) := (List.getElem?_eq_some_iff.1 hi).2
  have := congrArg (·[i]?) h
  simpa [hl, hg] using this
theorem y_builtE {t : TypeId} {ps : Array (Nat × Operand)} {vs : List (Nat × Value)} {z : List Value} (hv : evParts R ps.toList = some vs) (hb : P.built t vs = some z.toArray) : Yv P N R S ⟨dst, .build t ps, ty, pos, af, gd⟩ (.agg z.toArray) := fun a w hR _ => by
  have e := evParts_map hR ps.toList vs hv
  have e2 : (ps.map fun (i, x) => (i, a.eval x)).toList = vs := by simpa using e
  have := run_build w t (ps.map fun (i, x) => (i, a.eval x)) _ (by rw [e2]; exact hb)
  simp only [execOp, Sem.run_bind, this, Result.andThen_ok]
  rfl
theorem yv_ok (hT : ∀ t i, T t = some i → i.ok P t) {op : Op} (h : yv T R L hs op = some (v, hs', c)) (hc : ∀ p, c = some p → p) : Yv P N R (St W0 F L) ⟨dst, op, ty, pos, af, gd⟩ v := by
  unfold yv at h
  split at h
  · split at h
    · rename_i hx; cases h; exact y_move hx
    · cases h
  · split at h
    · rename_i hx; cases h; exact y_assign hx
    · cases h
  · split at h
    · rename_i hx; cases h; exact y_nilCheck hx
    · cases h
  · split at h
    · rename_i ht hx
      split at h
      · rename_i hi; cases h; exact y_fieldAddr hx (fieldOff_of (hT _ _ ht).2.2.1 hi) rfl
      · cases h
    · cases h
  · split at h
    · rename_i ht hx
      split at h
      · rename_i hL
        split at h
        · rename_i hd
          split at h
          · rename_i htk
            cases h
            obtain rfl := hc _ rfl
            rw [nth_eq] at hL
            obtain ⟨_, rfl⟩ := dropE_some hd
            obtain ⟨h1, h2⟩ := takeE_some htk
            exact y_ldN _ hx (hT _ _ ht).1 (hT _ _ ht).2.1 hL h2 h1
          · cases h
        · cases h
      · cases h
    · rename_i ht hx
      split at h
      · rename_i hL
        split at h
        · rename_i hv
          cases h
          obtain rfl := hc _ rfl
          rw [nth_eq] at hL hv
          exact y_ld _ hx (hT _ _ ht).1 hL hv
        · cases h
      · cases h
    · cases h
  · split at h
    · rename_i vs hx
      split at h
      · rename_i hi
        cases h
        rw [nth_eq, Array.getElem?_toList] at hi
        exact y_extract hx hi
      · cases h
    · cases h
  · split at h
    · rename_i hcb
      split at h
      · rename_i hx; cases h; exact y_pick_t hcb hx
      · cases h
    · rename_i hcb
      split at h
      · rename_i hx; cases h; exact y_pick_f hcb hx
      · cases h
    · cases h
  · split at h
    · rename_i hx; cases h; exact y_not hx
    · cases h
  · split at h
    · rename_i hx
      exact int?_ok (y_neg hx) h hc
    · cases h
  · split at h
    · rename_i hx hy
      split at h
      · rename_i hk; subst hk; exact ibin_ok hx hy h hc
      · cases h
    · rename_i hx hy; exact sbin_ok hx hy h hc
    · cases h
  · split at h
    · rename_i ht ht' hx
      exact int?_ok (y_toInt hx (hT _ _ ht).2.2 (hT _ _ ht').2.2) h hc
    · cases h
  · rename_i xs ts
    split at h
    · rename_i e1 e2
      obtain rfl : xs = #[_] := Array.toList_inj.1 e1
      obtain rfl : ts = #[_] := Array.toList_inj.1 e2
      split at h
      · rename_i ht hx; cases h; exact y_slen hx (hT _ _ ht).2.2
      · rename_i ht hx; cases h; exact y_llen hx (hT _ _ ht).2.2.1
      · cases h
    · cases h
  · split at h
    · rename_i ht hx hy
      cases h
      obtain ⟨h1, h2⟩ := hc _ rfl
      exact y_sat hx hy (hT _ _ ht).2.2 h1 h2
    · cases h
  · split at h
    · rename_i ht hx
      split at h
      · split at h
        · rename_i hl hh
          cases h
          obtain ⟨h1, h2, h3⟩ := hc _ rfl
          exact y_ssl hx hl hh (hT _ _ ht).2.2 h1 h2 h3
        · cases h
      · split at h
        · rename_i hl
          cases h
          obtain ⟨h1, h2⟩ := hc _ rfl
          exact y_sfr hx hl (hT _ _ ht).2.2 h1 h2
        · cases h
      · split at h
        · rename_i hl
          cases h
          obtain ⟨h1, h2⟩ := hc _ rfl
          exact y_stoI hx hl (hT _ _ ht).2.2 h1 h2
        · cases h
      · cases h
    · cases h
  · split at h
    · rename_i ht hx hy
      cases h
      obtain ⟨h1, h2⟩ := hc _ rfl
      obtain ⟨j, rfl⟩ := Int.eq_ofNat_of_zero_le h1
      exact y_idxArr hx hy (hT _ _ ht).2.2.1 (hT _ _ ht).2.2.2.1 (by omega) (by omega) rfl
    · rename_i ht hx hy
      cases h
      obtain ⟨h1, h2⟩ := hc _ rfl
      exact y_idxAddr hx hy (hT _ _ ht).2.2.1 (hT _ _ ht).2.2.2 h1 h2 rfl
    · cases h
  · rename_i t ps
    split at h
    · rename_i ht hv
      split at h
      · rename_i z hz
        cases h
        refine y_builtE hv ?_
        rw [(hT _ _ ht).2.2.2, ← fillE_some hz]
        congr 1
        funext i
        rw [nth_eq]; simp
      · cases h
    · rename_i ht hv
      split at h
      · rename_i z hz
        cases h
        refine y_builtE hv ?_
        rw [(hT _ _ ht).2.2.2.2, ← fillE_some hz]
      · cases h
    · cases h
  · cases h

/-! ### Stores of whole parts -/
theorem run_storeCells {b off : Nat} {t : TypeId} : ∀ (vs : List Value) (i : Nat) (w : World) (cs : List Value), w.heap[b]? = some (.cells cs.toArray t (0, 0)) → off + i + vs.length ≤ cs.length → vs.all (·.oneCell') = true →
    ∃ w', (storeCells ⟨b, off, none⟩ vs i).run P w = .ok () w' ∧ w'.heap[b]? = some (.cells (cs.take (off + i) ++ (vs ++ cs.drop (off + i + vs.length))).toArray t (0, 0)) ∧ w'.os = w.os ∧ w'.tape = w.tape ∧ w'.output = w.output ∧ w'.heap.size = w.heap.size ∧ ∀ k, k ≠ b → w'.heap[k]? = w.heap[k]?
  | [], i, w, cs, h, _, _ => ⟨w, by simp [storeCells], by simpa using h, rfl, rfl, rfl, rfl, fun _ _ => rfl⟩
  | v :: vs, i, w, cs, h, hl, h1 => by
    simp only [List.length_cons] at hl
    rw [List.all_cons, Bool.and_eq_true] at h1
    have hc : w.cell? ⟨b, off + i, none⟩ = some (cs[off + i]'(by omega)) := by rw [cell_of_row w b (off + i) _ t (0, 0) h, List.getElem?_toArray]; exact List.getElem?_eq_getElem (by omega)
    have hf : w.frozen? ⟨b, off + i, none⟩ = false := frozen_of_row w b (off + i) _ t h
    have hs := heap_setCell_same w b (off + i) cs.toArray t v h
    have hs' : (w.setCell ⟨b, off + i, none⟩ v).heap[b]? = some (.cells (cs.set (off + i) v).toArray t (0, 0)) := by rw [hs]; simp
    obtain ⟨w', q1, q2, q3, q4, q5, q6, q7⟩ := run_storeCells (off := off) vs (i + 1) (w.setCell ⟨b, off + i, none⟩ v) (cs.set (off + i) v) hs' (by simp; omega) h1.2
    refine ⟨w', ?_, ?_, q3, q4, q5, by rw [q6]; simp [World.setCell], fun k hk => (q7 k hk).trans (Below.heap_setCell _ _ _ _ hk)⟩
    · simp only [storeCells, Sem.run_bind, Addr.add_mid, run_store P w _ v .plain h1.1, hc, hf]
      exact q1
    · rw [q2]
      congr 3
      have e1 : (cs.set (off + i) v).take (off + (i + 1)) = cs.take (off + i) ++ [v] := by
        rw [show off + (i + 1) = off + i + 1 by omega, List.take_add_one, List.take_set_of_le (Nat.le_refl _), List.getElem?_set_self (show off + i < cs.length by omega)]; rfl
      have e2 : (cs.set (off + i) v).drop (off + (i + 1) + vs.length) = cs.drop (off + i + (v :: vs).length) := by
        rw [List.drop_set_of_lt (show off + i < off + (i + 1) + vs.length by omega)]; congr 1; simp only [List.length_cons]; omega
      rw [e1, e2, List.append_assoc]; rfl
end
section
variable {P : Program} {N : Nat} {R : Regs} {W0 : World} {F : List Nat} {L : List Ent} {Q : Exit → Act → World → Prop} {ops : Array Oper} {rest : List Oper}
variable {ty t t' : TypeId} {pos : String} {af : Array Edge} {gd : Option (Nat × Bool)} {x y : Operand}
theorem g_stAt {b off n : Nat} {cs ms : List Value} {v : Value} (i : Nat) (hw : want ops R ⟨none, .store t x y, ty, pos, af, gd⟩ = some true) (hx : ev R x = some (.pointer (some ⟨b, off, none⟩))) (hy : ev R y = some v) (hz : ∀ w, (sizeOf t).run P w = .ok n w) (h1 : v.cells.toList.all (·.oneCell') = true)
    (hi : L[i]? = some (.cells b t' cs)) (hn : v.cells.toList.length = n) (hm : putE off cs v.cells.toList = some ms) (h : G N R (St W0 F (L.set i (.cells b t' ms))) (wpList P ops Q rest)) : G N R (St W0 F L) (wpList P ops Q (⟨none, .store t x y, ty, pos, af, gd⟩ :: rest)) :=
  g_one hw fun _ a w hR hS hK => by
    obtain ⟨q1, rfl⟩ := putE_some hm
    obtain ⟨w', e1, e2, e3, e4, e5, e6, e7⟩ := run_storeCells (P := P) (off := off) v.cells.toList 0 w cs (hS.cells hi) (by omega) h1
    have hs : v.cells.size = n := by rw [← hn]; simp
    refine Oper.wp_skip (w' := w') ?_ (hK _ _ (h _ _ hR (hS.write hi e3 e4 e5 (by omega) (fun k _ hk => e7 k (by simpa [Ent.fp] using hk)) e2 (fun k hk => .inl hk))))
    simp [execOp, hR.eval hx, hR.eval hy, Sem.run_bind, Instr.storeAt, Instr.sureAddr, storeVar, hz, hs, e1]
/-- A store: what is owned then. -/
def sv (T : Tab) (R : Regs) (L : List Ent) (hs : List Nat) : Op → Option (List Ent × List Nat × Prop)
  | .store t x y => match T t, ev R x, ev R y, hs with
    | some ⟨_, n, _, _⟩, some (.pointer (some ⟨b, off, none⟩)), some v, i :: hs => (match nth L i with
      | some (.cells b' t' cs) => (match v.cells.toList with
        | vs => (match vs.all (·.oneCell') && Nat.beq vs.length n, putE off cs vs with
          | true, some ms => (match setE L i (.cells b' t' ms) with
            | some L => some (L, hs, b = b')
            | none => none)
          | _, _ => none))
      | _ => none)
    | _, _, _, _ => none
  | _ => none
def nrm : List Ent → Option (List Ent)
  | [] => some []
  | e :: l => match nrm l with
    | some l => some (e :: l)
    | none => none
theorem nrm_eq : ∀ (l : List Ent), nrm l = some l
  | [] => rfl
  | e :: l => by rw [nrm, nrm_eq l]
def ex (T : Tab) (N : Nat) (ops : Array Oper) : Nat → Regs → List Ent → List Nat → Prop → List Oper → Option (Regs × List Ent × List Oper × Prop)
  | 0, R, L, _, C, l => some (R, L, l, C)
  | n + 1, R, L, hs, C, ⟨dst, op, ty, pos, af, gd⟩ :: l => match want ops R ⟨dst, op, ty, pos, af, gd⟩, dst with
    | some false, some d => (match Nat.blt d N with
      | true => ex T N ops n ((d, undef) :: R) L hs C l
      | false => none)
    | some true, none => (match sv T R L hs op with
      | some (L, hs, p) => ex T N ops n R L hs (C ∧ p) l
      | none => none)
    | some true, some d => (match Nat.blt d N, yv T R L hs op with
      | true, some (v, hs, none) => ex T N ops n ((d, v) :: R) L hs C l
      | true, some (v, hs, some p) => ex T N ops n ((d, v) :: R) L hs (C ∧ p) l
      | _, _ => none)
    | _, _ => none
  | _ + 1, _, _, _, _, [] => none
theorem ex_ok {T : Tab} (hT : ∀ t i, T t = some i → i.ok P t) : ∀ {n : Nat} {R R' : Regs} {L L' : List Ent} {hs : List Nat} {C C' : Prop} {l l' : List Oper}, ex T N ops n R L hs C l = some (R', L', l', C') → C' → C ∧ (G N R' (St W0 F L') (wpList P ops Q l') → G N R (St W0 F L) (wpList P ops Q l))
  | 0, R, R', L, L', hs, C, C', l, l', h, c => by cases h; exact ⟨c, fun g => g⟩
  | n + 1, R, R', L, L', hs, C, C', [], l', h, c => by cases h
  | n + 1, R, R', L, L', hs, C, C', ⟨dst, op, ty, pos, af, gd⟩ :: l, l', h, c => by
    unfold ex at h
    split at h
    · rename_i d hw
      split at h
      · rename_i hN
        obtain ⟨q1, q2⟩ := ex_ok hT h c
        exact ⟨q1, fun g => g_not hw rfl hN (q2 g)⟩
      · cases h
    · rename_i hw
      split at h
      · rename_i L1 hs1 p hs2
        obtain ⟨⟨q1, q2⟩, q3⟩ := ex_ok hT h c
        refine ⟨q1, fun g => ?_⟩
        unfold sv at hs2
        split at hs2
        · split at hs2
          · rename_i ht hx hy
            split at hs2
            · rename_i b' t' cs hi
              dsimp only at hs2
              split at hs2
              · rename_i ms h1 hm
                split at hs2
                · rename_i L2 hL
                  cases hs2
                  subst q2
                  obtain ⟨_, rfl⟩ := setE_some hL
                  rw [nth_eq] at hi
                  rw [Bool.and_eq_true] at h1
                  exact g_stAt _ hw hx hy (hT _ _ ht).2.1 h1.1 hi (Nat.eq_of_beq_eq_true h1.2) hm (q3 g)
                · cases hs2
              · cases hs2
            · cases hs2
          · cases hs2
        · cases hs2
      · cases h
    · rename_i d hw
      split at h
      · rename_i hN hv
        obtain ⟨q1, q2⟩ := ex_ok hT h c
        exact ⟨q1, fun g => g_val hw rfl hN (yv_ok hT hv (fun p hp => by cases hp)) (q2 g)⟩
      · rename_i p hN hv
        obtain ⟨⟨q0, q1⟩, q2⟩ := ex_ok hT h c
        exact ⟨q0, fun g => g_val hw rfl hN (yv_ok hT hv (fun p' hp => by cases hp; exact q1)) (q2 g)⟩
      · cases h
    · cases h
/-- The same, where the order is drawn and nothing is written. -/
def eq_ (T : Tab) (N : Nat) (ops : Array Oper) (L : List Ent) : Nat → Regs → List Nat → Prop → List Oper → Option (Regs × List Oper × Prop)
  | 0, R, _, C, l => some (R, l, C)
  | n + 1, R, hs, C, ⟨dst, op, ty, pos, af, gd⟩ :: l => match want ops R ⟨dst, op, ty, pos, af, gd⟩, dst with
    | some false, some d => (match Nat.blt d N with
      | true => eq_ T N ops L n ((d, undef) :: R) hs C l
      | false => none)
    | some true, some d => (match Nat.blt d N, yv T R L hs op with
      | true, some (v, hs, none) => eq_ T N ops L n ((d, v) :: R) hs C l
      | true, some (v, hs, some p) => eq_ T N ops L n ((d, v) :: R) hs (C ∧ p) l
      | _, _ => none)
    | _, _ => none
  | _ + 1, _, _, _, [] => none
theorem eq_ok {T : Tab} (hT : ∀ t i, T t = some i → i.ok P t) {Qq : Act → Prop} : ∀ {n : Nat} {R R' : Regs} {hs : List Nat} {C C' : Prop} {l l' : List Oper}, eq_ T N ops L n R hs C l = some (R', l', C') → C' → C ∧ (GQ N R' (wpQuiet P ops (St W0 F L) Qq l') → GQ N R (wpQuiet P ops (St W0 F L) Qq l))
  | 0, R, R', hs, C, C', l, l', h, c => by cases h; exact ⟨c, fun g => g⟩
  | n + 1, R, R', hs, C, C', [], l', h, c => by cases h
  | n + 1, R, R', hs, C, C', ⟨dst, op, ty, pos, af, gd⟩ :: l, l', h, c => by
    unfold eq_ at h
    split at h
    · rename_i d hw
      split at h
      · rename_i hN
        obtain ⟨q1, q2⟩ := eq_ok hT h c
        exact ⟨q1, fun g => q_not hw rfl hN (q2 g)⟩
      · cases h
    · rename_i d hw
      split at h
      · rename_i hN hv
        obtain ⟨q1, q2⟩ := eq_ok hT h c
        exact ⟨q1, fun g => q_val hw rfl hN (yv_ok hT hv (fun p hp => by cases hp)) (q2 g)⟩
      · rename_i p hN hv
        obtain ⟨⟨q0, q1⟩, q2⟩ := eq_ok hT h c
        exact ⟨q0, fun g => q_val hw rfl hN (yv_ok hT hv (fun p' hp => by cases hp; exact q1)) (q2 g)⟩
      · cases h
    · cases h
end

/-! ### Some entries, picked -/
def takeAt {α : Type} : Nat → List α → Option (α × List α)
  | 0, a :: l => some (a, l)
  | n + 1, a :: l => match takeAt n l with
    | some (b, l) => some (b, a :: l)
    | none => none
  | _, [] => none
theorem takeAt_perm {α : Type} : ∀ {n : Nat} {l m : List α} {a : α}, takeAt n l = some (a, m) → l.Perm (a :: m)
  | 0, _ :: _, _, _, h => by cases h; exact .refl _
  | n + 1, b :: l, m, a, h => by
    unfold takeAt at h
    split at h
    · rename_i h1; cases h; exact (List.Perm.cons _ (takeAt_perm h1)).trans (.swap _ _ _)
    · cases h
  | 0, [], _, _, h => by cases h
  | _ + 1, [], _, _, h => by cases h
def pickE {α : Type} : List Nat → List α → Option (List α × List α)
  | [], l => some ([], l)
  | i :: is, l => match takeAt i l with
    | some (a, l) => (match pickE is l with
      | some (p, l) => some (a :: p, l)
      | none => none)
    | none => none
theorem pickE_perm {α : Type} : ∀ {is : List Nat} {l p m : List α}, pickE is l = some (p, m) → l.Perm (p ++ m)
  | [], _, _, _, h => by cases h; exact .refl _
  | i :: is, l, p, m, h => by
    unfold pickE at h
    split at h
    · rename_i h1
      split at h
      · rename_i h2; cases h; exact (takeAt_perm h1).trans (.cons _ (pickE_perm h2))
      · cases h
    · cases h
section
variable {P : Program} {N : Nat} {R R' : Regs} {S : World → Prop} {W0 w : World} {F : List Nat} {L L0 Lr L' : List Ent} {Q : Exit → Act → World → Prop} {X : Act → World → Prop} {ops : Array Oper} {rest : List Oper}
theorem St.part (h : St W0 F (L0 ++ Lr) w) : St w (L0.flatMap Ent.fp) L0 w := St.start L0 (fun e he => h.ok e (List.mem_append_left _ he)) (List.pairwise_append.1 h.apart).1
theorem St.pick (h : St W0 F L w) (is : List Nat) (hp : pickE is L = some (L0, Lr)) : St W0 F L0 w := (h.perm (pickE_perm hp)).sub (List.sublist_append_left _ _)
/-- The picked ones stand ahead. -/
theorem g_ahead (is : List Nat) (hp : pickE is L = some (L0, Lr)) (h : G N R (St W0 F (L0 ++ Lr)) X) : G N R (St W0 F L) X := h.weaken fun _ hS => hS.perm (pickE_perm hp)
theorem g_nrm (hp : nrm L = some L') (h : G N R (St W0 F L') X) : G N R (St W0 F L) X := by
  rw [nrm_eq] at hp; cases hp; exact h
/-- What a function promises: it is handed what stands in L0, and leaves L1. -/
def Meets (P : Program) (I : World → Prop) (f : FuncId) (vs : List Value) {α : Type} (r : α → Value) (L0 : List Ent) (L1 : α → List Ent) : Prop :=
  (∀ args w, (callFunc f args).run P w = .ok (.enter f args) w) ∧ ∀ w F, I w → St w F L0 w → Calls P f vs.toArray w fun e w' => ∃ x, e = .returned (r x) ∧ St w F (L1 x) w'
theorem g_cm {I : World → Prop} {ty : TypeId} {pos : String} {af : Array Edge} {gd : Option (Nat × Bool)} {α : Type} {d : Nat} {f : FuncId} {xs : List Operand} {ats : Array TypeId} {vs : List Value} {r : α → Value} {L1 : α → List Ent} (is : List Nat) (m : Meets P I f vs r L0 L1) (hI : ∀ w, St W0 F L w → I w)
    (hw : want ops R ⟨some d, .call { callee := .value (.func f), args := xs.toArray, argTypes := ats }, ty, pos, af, gd⟩ = some true) (hN : Nat.blt d N = true)
    (hx : xs.mapM (ev R) = some vs) (hp : pickE is L = some (L0, Lr)) (h : ∀ x, G N ((d, r x) :: R) (St W0 F (L1 x ++ Lr)) (wpList P ops Q rest)) :
    G N R (St W0 F L) (wpList P ops Q (⟨some d, .call { callee := .value (.func f), args := xs.toArray, argTypes := ats }, ty, pos, af, gd⟩ :: rest)) :=
  g_call r (fun x => St W0 F (L1 x ++ Lr)) hw hN hx m.1 (fun w hS => by
    have hS' := hS.perm (pickE_perm hp)
    exact (m.2 w _ (hI w hS) hS'.part).mono fun _ _ ⟨x, he, hb⟩ => ⟨x, he, St.join hS' (fun k hk => by obtain ⟨e, he, hk⟩ := List.mem_flatMap.1 hk; exact ⟨e, he, hk⟩) hb⟩) h
/-- .. that yields one value known ahead, and leaves all alone. -/
theorem g_c1 {I : World → Prop} {ty : TypeId} {pos : String} {af : Array Edge} {gd : Option (Nat × Bool)} {d : Nat} {f : FuncId} {xs : List Operand} {ats : Array TypeId} {vs : List Value} {v : Value} (m : Meets P I f vs (fun _ : Unit => v) [] (fun _ => [])) (hI : ∀ w, St W0 F L w → I w)
    (hw : want ops R ⟨some d, .call { callee := .value (.func f), args := xs.toArray, argTypes := ats }, ty, pos, af, gd⟩ = some true) (hN : Nat.blt d N = true)
    (hx : xs.mapM (ev R) = some vs) (h : G N ((d, v) :: R) (St W0 F L) (wpList P ops Q rest)) :
    G N R (St W0 F L) (wpList P ops Q (⟨some d, .call { callee := .value (.func f), args := xs.toArray, argTypes := ats }, ty, pos, af, gd⟩ :: rest)) :=
  g_cm [] m hI hw hN hx rfl fun _ => h
theorem q_c1 {Qq : Act → Prop} {I : World → Prop} {ty : TypeId} {pos : String} {af : Array Edge} {gd : Option (Nat × Bool)} {d : Nat} {f : FuncId} {xs : List Operand} {ats : Array TypeId} {vs : List Value} {v : Value} (m : Meets P I f vs (fun _ : Unit => v) [] (fun _ => [])) (hI : ∀ w, St W0 F L w → I w)
    (hw : want ops R ⟨some d, .call { callee := .value (.func f), args := xs.toArray, argTypes := ats }, ty, pos, af, gd⟩ = some true) (hN : Nat.blt d N = true)
    (hx : xs.mapM (ev R) = some vs) (h : GQ N ((d, v) :: R) (wpQuiet P ops (St W0 F L) Qq rest)) :
    GQ N R (wpQuiet P ops (St W0 F L) Qq (⟨some d, .call { callee := .value (.func f), args := xs.toArray, argTypes := ats }, ty, pos, af, gd⟩ :: rest)) :=
  q_call1 hw hN hx m.1 (fun w hS => (m.2 w [] (hI w hS) (St.refl w)).mono fun _ _ ⟨_, he, hb⟩ => ⟨he, hb.below⟩) h
theorem meets1 {I : World → Prop} {f : FuncId} {vs : List Value} {v : Value} (hf : ∀ args w, (callFunc f args).run P w = .ok (.enter f args) w) (h : ∀ w, I w → Calls P f vs.toArray w fun e w' => e = .returned v ∧ Below w.heap.size w w') : Meets P I f vs (fun _ : Unit => v) [] (fun _ => []) :=
  ⟨hf, fun w F hI hS => (h w hI).mono fun _ _ ⟨he, hb⟩ => ⟨(), he, by simpa using hS.then (St.of_below hb)⟩⟩
theorem any_I {S : World → Prop} : ∀ w, S w → True := fun _ _ => trivial
/-- A truth that is known. -/
theorem g_lit (d : Nat) {b : Bool} (c : Bool) (hd : R.lookup d = some (.bool b)) (hc : b = c) (h : G N ((d, .bool c) :: R) S X) : G N R S X := fun a w hR hS => h a w (hR.sub (lookup_over R (hc ▸ hd))) hS
theorem q_lit {X : Act → Prop} (d : Nat) {b : Bool} (c : Bool) (hd : R.lookup d = some (.bool b)) (hc : b = c) (h : GQ N ((d, .bool c) :: R) X) : GQ N R X := fun a hR => h a (hR.sub (lookup_over R (hc ▸ hd)))
theorem g_casen (i : Nat) {p : Prop} {inst : Decidable p} (hi : R.lookup i = some (.bool (!@decide p inst))) (h1 : ¬ p → G N ((i, .bool true) :: R) S X) (h2 : p → G N ((i, .bool false) :: R) S X) : G N R S X :=
  g_caseb i hi (fun h => h1 (by simpa using h)) (fun h => h2 (by simpa using h))
/-- Where the ways through some code meet. -/
theorem g_cutc {c : Code} {α : Type} (R1 : α → Regs) (L1 : α → List Ent) (h1 : ∀ x, G N (R1 x) (St W0 F (L1 x)) (Q .normal)) (h2 : (∀ x, G N (R1 x) (St W0 F (L1 x)) (Q .normal)) → G N R (St W0 F L) (c.wp P Q)) : G N R (St W0 F L) (c.wp P Q) := h2 h1
/-! ### Short names -/
theorem n_ (h : G N R S (Q .normal)) : G N R S (wpList P ops Q []) := h
theorem t_ {K : Act → World → Prop} (h : G N R S K) : G N R S (Exit.then K Q .normal) := h
theorem s_ {x y : Code} (h : G N R S (x.wp P (Exit.then (y.wp P Q) Q))) : G N R S ((Code.seq x y).wp P Q) := g_seq h
theorem o_ {id : Nat} {l : List Oper} (h : G N R S (wpList P l.toArray Q l)) : G N R S ((Code.region id l.toArray false).wp P Q) := g_ops h
theorem nto_ {id : Nat} {l : List Oper} (h : G N R S (wpList P l.toArray Q l)) : G N R S (wpList P ops (Exit.then ((Code.region id l.toArray false).wp P Q) Q) []) := g_ops h
theorem ntso_ {id : Nat} {l : List Oper} {y : Code} (h : G N R S (wpList P l.toArray (Exit.then (y.wp P Q) Q) l)) : G N R S (wpList P ops (Exit.then ((Code.seq (.region id l.toArray false) y).wp P Q) Q) []) := g_seq (g_ops h)
end
end Go.Proofs.YtkjhjgokaeiopaaGreatDoor
