/- The operations that touch no memory, computed over the known slots; each is shown to be what the model runs. Over any program whose types read as a table says. -/
import Derived.Test.YtianfagdgdpnpaaCore
namespace Go.Qf
open Go Go.RowKit

/-- A row of the table of types. -/
structure TI where
  desc : TypeDesc
  size : Nat
  bytes : Nat
  zero : Value

def lookT : List (Nat × TI) → Nat → Option TI
  | [], _ => none
  | (k, v) :: r, n => bif Nat.beq k n then some v else lookT r n

/-- The table is the program's. -/
def TblOk (P : Program) (T : List (Nat × TI)) : Prop :=
  ∀ t i, lookT T t = some i → P.underlying t = some i.desc ∧ ∃ inf, P.info? t = some inf ∧ inf.size = i.size ∧ inf.bytes = i.bytes ∧ inf.zero = some i.zero

theorem TblOk.nil (P : Program) : TblOk P [] := fun t i h => by simp [lookT] at h

theorem TblOk.cons {P : Program} {T : List (Nat × TI)} {k : Nat} {i : TI} (hu : P.underlying k = some i.desc)
    (hi : (P.info? k).map (fun x => (x.size, x.bytes, x.zero)) = some (i.size, i.bytes, some i.zero)) (h : TblOk P T) : TblOk P ((k, i) :: T) := by
  intro t j ht
  by_cases e : k = t
  · subst e
    simp [lookT] at ht
    subst ht
    cases hx : P.info? k with
    | none => rw [hx] at hi; simp at hi
    | some x =>
      rw [hx] at hi
      simp at hi
      exact ⟨hu, x, rfl, hi.1, hi.2.1, hi.2.2⟩
  · have hb : Nat.beq k t = false := by
      cases hb : Nat.beq k t
      · rfl
      · exact absurd (Nat.eq_of_beq_eq_true hb) e
    simp [lookT, hb] at ht
    exact h t j ht

/-- 'and', 'or', 'xor', 'and not' as the model has them. -/
def bitsI (op : BinOp) (k : IntKind) (x y : Int) : Int :=
  match op with
  | .and => k.wrap (BitVec.ofInt k.bits x &&& BitVec.ofInt k.bits y).toNat
  | .or => k.wrap (BitVec.ofInt k.bits x ||| BitVec.ofInt k.bits y).toNat
  | .xor => k.wrap (BitVec.ofInt k.bits x ^^^ BitVec.ofInt k.bits y).toNat
  | _ => k.wrap (BitVec.ofInt k.bits x &&& ~~~ BitVec.ofInt k.bits y).toNat

def binPure (op : BinOp) (x y : Value) : Option Value :=
  match x, y with
  | .int k a, .int k' b =>
    match op with
    | .shl => none
    | .shr => none
    | .quo => none
    | .rem => none
    | .add => bif k == k' then some (.int k (k.wrap (a + b))) else none
    | .sub => bif k == k' then some (.int k (k.wrap (a - b))) else none
    | .mul => bif k == k' then some (.int k (k.wrap (a * b))) else none
    | .and => bif k == k' then some (.int k (bitsI .and k a b)) else none
    | .or => bif k == k' then some (.int k (bitsI .or k a b)) else none
    | .xor => bif k == k' then some (.int k (bitsI .xor k a b)) else none
    | .andNot => bif k == k' then some (.int k (bitsI .andNot k a b)) else none
    | .eql => bif k == k' then some (.bool (a == b)) else none
    | .neq => bif k == k' then some (.bool (a != b)) else none
    | .lss => bif k == k' then some (.bool (decide (a < b))) else none
    | .leq => bif k == k' then some (.bool (decide (a ≤ b))) else none
    | .gtr => bif k == k' then some (.bool (decide (a > b))) else none
    | .geq => bif k == k' then some (.bool (decide (a ≥ b))) else none
  | _, _ => none

/-- A shift by a constant. -/
def shiftPure (op : BinOp) (x : Value) (y : Operand) : Option Value :=
  match x, y with
  | .int k a, .const (.int _ (.ofNat s)) =>
    match op with
    | .shl => bif Nat.ble s k.bits then some (.int k (k.wrap (a * 2 ^ s))) else none
    | .shr => bif Nat.ble s k.bits then some (.int k (a / 2 ^ s)) else none
    | _ => none
  | _, _ => none

def isAggD : TypeDesc → Bool
  | .struct _ => true
  | .array _ _ => true
  | _ => false

def unPure (op : UnOp) (x : Value) : Option Value :=
  match op, x with
  | .neg, .int k a => some (.int k (k.wrap (0 - a)))
  | .not, .bool b => some (.bool !b)
  | _, _ => none

def isShift : BinOp → Bool
  | .shl => true
  | .shr => true
  | _ => false

def callPure (T : List (Nat × TI)) (E : List (Nat × Value)) (c : Call) : Option Value :=
  match c.callee with
  | .builtin .len =>
    match c.args.toList, c.argTypes.toList with
    | [x], [t] =>
      match lookT T t, ov E x with
      | some ⟨.slice _, _, _, _⟩, some (.slice _ m _) => some (.int .i64 m)
      | some ⟨.string, _, _, _⟩, some (.string s) => some (.int .i64 s.size)
      | _, _ => none
    | _, _ => none
  | _ => none

def pureOp (T : List (Nat × TI)) (E : List (Nat × Value)) : Op → Option Value
  | .move x => ov E x
  | .assign x => ov E x
  | .pick c a b =>
    match ov E c with
    | some (.bool true) => ov E a
    | some (.bool false) => ov E b
    | _ => none
  | .binOp op _ x y _ =>
    match ov E x with
    | some u => bif isShift op then shiftPure op u y else
      match ov E y with
      | some v => binPure op u v
      | none => none
    | none => none
  | .unOp op _ x =>
    match ov E x with
    | some u => unPure op u
    | none => none
  | .convert src dst x =>
    match lookT T src, lookT T dst, ov E x with
    | some _, some ⟨.int k, _, _, _⟩, some (.int _ m) => some (.int k (k.wrap m))
    | _, _, _ => none
  | .extract x i =>
    match ov E x with
    | some (.tuple vs) => vs[i]?
    | _ => none
  | .field t x i =>
    match lookT T t, ov E x with
    | some ⟨.struct fs, _, _, _⟩, some (.agg cs) =>
      match fs[i]? with
      | some f => match lookT T f.type with
        | some ti => bif isAggD ti.desc then some (.agg (cs.extract f.offset (f.offset + ti.size))) else cs[f.offset]?
        | none => none
      | none => none
    | _, _ => none
  | .fieldAddr t x i =>
    match lookT T t, ov E x with
    | some ⟨.struct fs, _, _, _⟩, some (.pointer (some a)) =>
      match fs[i]? with
      | some f => match lookT T f.type with
        | some ti => bif Nat.beq ti.size 0 then none else some (.pointer (some (a.add f.offset)))
        | none => none
      | none => none
    | _, _ => none
  | .call c => callPure T E c
  | _ => none

section
variable {P : Program} {T : List (Nat × TI)} {n : Nat} {E : List (Nat × Value)} {a : Act} {w : World}

theorem run_underlying_T (hT : TblOk P T) {t : Nat} {i : TI} (h : lookT T t = some i) : (underlying t).run P w = .ok i.desc w := by
  have := (hT t i h).1
  simp [underlying, this, go_sem]

theorem run_sizeOf_T (hT : TblOk P T) {t : Nat} {i : TI} (h : lookT T t = some i) : (sizeOf t).run P w = .ok i.size w := by
  obtain ⟨_, inf, hi, hs, _, _⟩ := hT t i h
  simp [sizeOf, typeInfo, hi, hs, go_sem]

theorem run_isAgg_T (hT : TblOk P T) {t : Nat} {i : TI} (h : lookT T t = some i) : (isAgg t).run P w = .ok (isAggD i.desc) w := by
  have := (hT t i h).1
  unfold isAgg
  simp only [Sem.run_bind, run_underlying_T hT h]
  cases hd : i.desc <;> simp [isAggD, go_sem]

theorem binPure_run {op : BinOp} {x y v : Value} {xt : TypeId} {ox oy : Operand} (h : binPure op x y = some v) :
    ((do eqGuard op xt ox oy x y; binOp op xt x y) : Sem Value).run P w = .ok v w := by
  cases x <;> cases y <;> simp only [binPure] at h <;> try (cases h; done)
  rename_i k m k' m'
  have hk : k = k' := by
    cases op <;> simp only [] at h <;> first | (cases h; done) | (
      cases hkk : (k == k') with
      | true => exact eq_of_beq hkk
      | false => rw [hkk] at h; cases h)
  subst hk
  cases op <;> simp only [beq_self_eq_true, cond_true, Option.some.injEq] at h <;> first
    | (cases h; done)
    | (subst h; simp [eqGuard, binOp, Op.intArith, Op.intCmp, Op.intBits, bitsI, go_sem])

theorem shiftPure_run {op : BinOp} {x v : Value} {xt : TypeId} {ox oy : Operand} (h : shiftPure op x oy = some v) {y : Value} (hy : ov E oy = some y) :
    ((do eqGuard op xt ox oy x y; binOp op xt x y) : Sem Value).run P w = .ok v w := by
  unfold shiftPure at h
  split at h
  · rename_i k m yk s
    simp only [ov, Option.some.injEq] at hy
    subst hy
    have e : ((Int.ofNat s).toNat) = s := rfl
    have en : ¬ (Int.ofNat s < 0) := by simp
    cases op <;> simp only [] at h <;> try (cases h; done)
    · cases hb : Nat.ble s k.bits with
      | false => rw [hb] at h; cases h
      | true =>
        have hle := Nat.le_of_ble_eq_true hb
        rw [hb] at h
        simp only [cond_true, Option.some.injEq] at h
        subst h
        have hsh : Op.shift .shl k m yk (Int.ofNat s) = Pure.pure (.int k (k.wrap (m * 2 ^ s))) := by
          unfold Op.shift; rw [if_neg en]; simp only [e, Nat.min_eq_left hle]
        simp only [eqGuard, binOp, hsh]
        simp [go_sem]
    · cases hb : Nat.ble s k.bits with
      | false => rw [hb] at h; cases h
      | true =>
        have hle := Nat.le_of_ble_eq_true hb
        rw [hb] at h
        simp only [cond_true, Option.some.injEq] at h
        subst h
        have hp : (0 : Int) ≤ 2 ^ s := Int.le_of_lt (Int.pow_pos (by decide))
        have hsh : Op.shift .shr k m yk (Int.ofNat s) = Pure.pure (.int k (m / 2 ^ s)) := by
          unfold Op.shift; rw [if_neg en]; simp only [e, Nat.min_eq_left hle, Int.fdiv_eq_ediv_of_nonneg _ hp]
        simp only [eqGuard, binOp, hsh]
        simp [go_sem]
  · cases h

theorem pureOp_run (hT : TblOk P T) {ρ : Operand → Value} (hρ : ∀ {x v}, ov E x = some v → ρ x = v) {o : Oper} {v : Value} (h : pureOp T E o.op = some v) : (execOp ρ o).run P w = .ok (.value v) w := by
  obtain ⟨dst, op, ty, pos, after, guard⟩ := o
  simp only at h
  cases op <;> simp only [pureOp] at h <;> try (cases h; done)
  case move x => simp [execOp, hρ h, go_sem]
  case assign x => simp [execOp, hρ h, go_sem]
  case pick c x y =>
    split at h
    · rename_i hc
      simp [execOp, hρ hc, hρ h, go_sem, asBool]
    · rename_i hc
      simp [execOp, hρ hc, hρ h, go_sem, asBool]
    · cases h
  case binOp op xt x y yt =>
    split at h
    · rename_i u hu
      cases hs : isShift op with
      | true =>
        rw [hs] at h
        simp only [cond_true] at h
        have hy : ∃ yv, ov E y = some yv := by
          unfold shiftPure at h
          split at h
          · exact ⟨_, rfl⟩
          · cases h
        obtain ⟨yv, hy⟩ := hy
        have := shiftPure_run (P := P) (w := w) (xt := xt) (ox := x) h hy
        simp only [execOp, hρ hu, hρ hy]
        simp only [Sem.run_bind] at this ⊢
        simp [this]
      | false =>
        rw [hs] at h
        simp only [cond_false] at h
        split at h
        · rename_i yv hy
          have := binPure_run (P := P) (w := w) (xt := xt) (ox := x) (oy := y) h
          simp only [execOp, hρ hu, hρ hy]
          simp only [Sem.run_bind] at this ⊢
          simp [this]
        · cases h
    · cases h
  case unOp op xt x =>
    split at h
    · rename_i u hu
      unfold unPure at h
      split at h
      · cases h; simp [execOp, hρ hu, Op.unary, Op.intArith, go_sem]
      · cases h; simp [execOp, hρ hu, Op.unary, go_sem]
      · cases h
    · cases h
  case convert src dst x =>
    split at h
    · rename_i i0 k _ _ _ k2 m hs hd hx
      simp only [Option.some.injEq] at h
      subst h
      simp [execOp, convert, hρ hx, run_underlying_T hT hs, run_underlying_T hT hd, Conv.intToInt, go_sem]
    · cases h
  case extract x i =>
    split at h
    · rename_i vs hx
      simp [execOp, hρ hx, Instr.extract, h, go_sem]
    · cases h
  case field t x i =>
    split at h
    · rename_i fs _ _ _ cs ht hx
      split at h
      · rename_i f hf
        split at h
        · rename_i ti hti
          simp only [execOp, Instr.field, hρ hx, Sem.run_bind, run_underlying_T hT ht, Result.andThen_ok, hf, asAgg, part, run_isAgg_T hT hti]
          cases hag : isAggD ti.desc with
          | true =>
            rw [hag] at h
            simp only [cond_true, Option.some.injEq] at h
            subst h
            simp [run_sizeOf_T hT hti, go_sem]
          | false =>
            rw [hag] at h
            simp only [cond_false] at h
            simp [h, go_sem]
        · cases h
      · cases h
    · cases h
  case fieldAddr t x i =>
    split at h
    · rename_i fs _ _ _ ad ht hx
      split at h
      · rename_i f hf
        split at h
        · rename_i ti hti
          cases hz : Nat.beq ti.size 0 with
          | true => rw [hz] at h; cases h
          | false =>
            rw [hz] at h
            simp only [cond_false, Option.some.injEq] at h
            subst h
            have hne : ¬ ti.size = 0 := fun e => by rw [e] at hz; cases hz
            simp [execOp, Instr.fieldAt, hρ hx, run_underlying_T hT ht, hf, Instr.sureAddr, fieldPlace, run_sizeOf_T hT hti, hne, go_sem]
        · cases h
      · cases h
    · cases h
  case call c =>
    obtain ⟨callee, args, argTypes⟩ := c
    unfold callPure at h
    simp only at h
    split at h <;> try (cases h; done)
    split at h
    · rename_i x t hargs htys
      have hA : args = #[x] := by rw [← Array.toArray_toList (xs := args), hargs]
      have hB : argTypes = #[t] := by rw [← Array.toArray_toList (xs := argTypes), htys]
      subst hA hB
      split at h
      · rename_i e _ _ _ ad m c ht hx
        simp only [Option.some.injEq] at h
        subst h
        simp [Builtin.len_, hρ hx, run_underlying_T hT ht, goInt, go_sem]
      · rename_i _ _ _ s ht hx
        simp only [Option.some.injEq] at h
        subst h
        simp [Builtin.len_, hρ hx, run_underlying_T hT ht, goInt, go_sem]
      · cases h
    · cases h

theorem OpR.pure (hT : TblOk P T) {o : Oper} {v : Value} (h : pureOp T E o.op = some v) : OpR P n o E w (fun v' w' => v = v' ∧ w = w') := by
  intro a ha Q K hK
  unfold Oper.wp
  rw [pureOp_run hT (fun hx => ha.eval hx) h, Oper.upon_value]
  exact hK v w ⟨rfl, rfl⟩

/-- As many operations as touch no memory, one behind the other. -/
def runPure (T : List (Nat × TI)) (n : Nat) (ops : Array Oper) : Nat → List (Nat × Value) → List Oper → List (Nat × Value) × List Oper
  | 0, E, l => (E, l)
  | _ + 1, E, [] => (E, [])
  | m + 1, E, o :: r =>
    match o.dst, wantE ops E o.guard with
    | some d, some true =>
      bif Nat.blt d n then
        match pureOp T E o.op with
        | some v => runPure T n ops m ((d, v) :: E) r
        | none => (E, o :: r)
      else (E, o :: r)
    | some d, some false => bif Nat.blt d n then runPure T n ops m ((d, undef) :: E) r else (E, o :: r)
    | _, _ => (E, o :: r)

theorem StL.run (hT : TblOk P T) {ops : Array Oper} {Q : Exit → Act → World → Prop} : ∀ (m : Nat) {E E' : List (Nat × Value)} {l l' : List Oper}, runPure T n ops m E l = (E', l') → StL P n E' w ops l' Q → StL P n E w ops l Q := by
  intro m
  induction m with
  | zero => intro E E' l l' h hn; simp only [runPure, Prod.mk.injEq] at h; obtain ⟨rfl, rfl⟩ := h; exact hn
  | succ m ih =>
    intro E E' l l' h hn
    cases l with
    | nil => simp only [runPure, Prod.mk.injEq] at h; obtain ⟨rfl, rfl⟩ := h; exact hn
    | cons o r =>
      simp only [runPure] at h
      split at h
      · rename_i d hd hw
        cases hb : Nat.blt d n with
        | false => rw [hb] at h; simp only [cond_false, Prod.mk.injEq] at h; obtain ⟨rfl, rfl⟩ := h; exact hn
        | true =>
          rw [hb] at h
          simp only [cond_true] at h
          split at h
          · rename_i v hv
            refine StL.step hd hw hb (OpR.pure hT hv) ?_
            rintro v' w' ⟨rfl, rfl⟩
            exact ih h hn
          · simp only [Prod.mk.injEq] at h; obtain ⟨rfl, rfl⟩ := h; exact hn
      · rename_i d hd hw
        cases hb : Nat.blt d n with
        | false => rw [hb] at h; simp only [cond_false, Prod.mk.injEq] at h; obtain ⟨rfl, rfl⟩ := h; exact hn
        | true =>
          rw [hb] at h
          simp only [cond_true] at h
          exact StL.skip hd hw hb (ih h hn)
      · simp only [Prod.mk.injEq] at h; obtain ⟨rfl, rfl⟩ := h; exact hn

/-- .. the last value written otherwise. -/
theorem StL.as (hT : TblOk P T) {ops : Array Oper} {Q : Exit → Act → World → Prop} (m : Nat) {E E' : List (Nat × Value)} {l l' : List Oper} {d : Nat} {v : Value} (v' : Value) (h : runPure T n ops m E l = ((d, v) :: E', l')) (hv : v = v') (hn : StL P n ((d, v') :: E') w ops l' Q) : StL P n E w ops l Q :=
  StL.run hT m (hv ▸ h) hn

theorem bool_true {p : Prop} [Decidable p] (h : p) : Value.bool (decide p) = .bool true := by rw [decide_eq_true h]
theorem bool_false {p : Prop} [Decidable p] (h : ¬ p) : Value.bool (decide p) = .bool false := by rw [decide_eq_false h]

end
end Go.Qf
