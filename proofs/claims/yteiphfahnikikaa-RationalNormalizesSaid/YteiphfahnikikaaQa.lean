/- Lemmas on the model and on the program's functions, part Qa. -/
import GoSem.Core.View
import Derived.WalkKit
import Derived.Deep.Quiet
import Derived.Deep.LoopGhost
import Derived.KernelRfl
import Derived.Test.YteiphfahnikikaaProg
/- What the model's 'wrap' is, as a remainder that omega reads. -/
namespace Go.Qf
open Go

theorem wrap_u64 (n : Int) : IntKind.u64.wrap n = n % 18446744073709551616 := by
  show (if (false && decide (n % (2 ^ 64 : Int) ≥ 2 ^ (64 - 1))) = true then n % (2 ^ 64 : Int) - 2 ^ 64 else n % (2 ^ 64 : Int)) = _
  rw [Bool.false_and, if_neg (by decide)]
  rfl
theorem wrap_u32 (n : Int) : IntKind.u32.wrap n = n % 4294967296 := by
  show (if (false && decide (n % (2 ^ 32 : Int) ≥ 2 ^ (32 - 1))) = true then n % (2 ^ 32 : Int) - 2 ^ 32 else n % (2 ^ 32 : Int)) = _
  rw [Bool.false_and, if_neg (by decide)]
  rfl
theorem wrap_u8 (n : Int) : IntKind.u8.wrap n = n % 256 := by
  show (if (false && decide (n % (2 ^ 8 : Int) ≥ 2 ^ (8 - 1))) = true then n % (2 ^ 8 : Int) - 2 ^ 8 else n % (2 ^ 8 : Int)) = _
  rw [Bool.false_and, if_neg (by decide)]
  rfl
theorem wrap_i64 (n : Int) : IntKind.i64.wrap n = (n + 9223372036854775808) % 18446744073709551616 - 9223372036854775808 := by
  show (if (true && decide (n % (2 ^ 64 : Int) ≥ 2 ^ (64 - 1))) = true then n % (2 ^ 64 : Int) - 2 ^ 64 else n % (2 ^ 64 : Int)) = _
  rw [Bool.true_and]
  have e1 : (2 : Int) ^ 64 = 18446744073709551616 := rfl
  have e2 : (2 : Int) ^ (64 - 1) = 9223372036854775808 := rfl
  simp only [e1, e2, decide_eq_true_eq]
  split <;> omega
theorem wrap_i32 (n : Int) : IntKind.i32.wrap n = (n + 2147483648) % 4294967296 - 2147483648 := by
  show (if (true && decide (n % (2 ^ 32 : Int) ≥ 2 ^ (32 - 1))) = true then n % (2 ^ 32 : Int) - 2 ^ 32 else n % (2 ^ 32 : Int)) = _
  rw [Bool.true_and]
  have e1 : (2 : Int) ^ 32 = 4294967296 := rfl
  have e2 : (2 : Int) ^ (32 - 1) = 2147483648 := rfl
  simp only [e1, e2, decide_eq_true_eq]
  split <;> omega

theorem i64_id {n : Int} (h0 : -9223372036854775808 ≤ n) (h1 : n ≤ 9223372036854775807) : IntKind.i64.wrap n = n := by
  rw [wrap_i64]; omega
theorem u64_id {n : Int} (h0 : 0 ≤ n) (h1 : n ≤ 18446744073709551615) : IntKind.u64.wrap n = n := by
  rw [wrap_u64]; omega
theorem u32_id {n : Int} (h0 : 0 ≤ n) (h1 : n ≤ 4294967295) : IntKind.u32.wrap n = n := by
  rw [wrap_u32]; omega

end Go.Qf

/- A small calculus over the model's own 'wp': a frame is known by the slots that matter ('Fits'), an operation by the value that it yields ('OpR'), code by 'St'. Over any program. -/
namespace Go.Qf
open Go Go.RowKit

/-- What a slot holds, by its number. -/
def look : List (Nat × Value) → Nat → Option Value
  | [], _ => none
  | (k, v) :: r, n => bif Nat.beq k n then some v else look r n

theorem look_cons_self (k : Nat) (v : Value) (r : List (Nat × Value)) : look ((k, v) :: r) k = some v := by
  simp [look]

theorem look_cons_ne {k n : Nat} (v : Value) (r : List (Nat × Value)) (h : k ≠ n) : look ((k, v) :: r) n = look r n := by
  have : Nat.beq k n = false := by
    cases hb : Nat.beq k n
    · rfl
    · exact absurd (Nat.eq_of_beq_eq_true hb) h
  simp [look, this]

/-- The frame has n slots, nothing deferred, and holds what E says. -/
structure Fits (n : Nat) (E : List (Nat × Value)) (a : Act) : Prop where
  size : a.tmps.size = n
  defers : a.defers = []
  slots : ∀ k v, look E k = some v → a.tmps[k]? = some v

theorem Fits.put {n : Nat} {E : List (Nat × Value)} {a : Act} (h : Fits n E a) {d : Nat} (hd : Nat.blt d n = true) (v : Value) : Fits n ((d, v) :: E) (a.put (some d) v) := by
  have hd' : d < n := by simpa [Nat.blt_eq] using hd
  refine ⟨by simp [Act.put, h.size], by simp [Act.put, h.defers], fun k u hk => ?_⟩
  by_cases e : d = k
  · subst e
    rw [look_cons_self] at hk
    cases hk
    simp [Act.put, h.size, hd']
  · rw [look_cons_ne _ _ e] at hk
    simp only [Act.put]
    rw [Array.getElem?_setIfInBounds_ne e]
    exact h.slots k u hk

theorem Fits.put_none {n : Nat} {E : List (Nat × Value)} {a : Act} (h : Fits n E a) (v : Value) : Fits n E (a.put none v) := h

/-- E1 says nothing that E2 does not say. -/
def Sub : List (Nat × Value) → List (Nat × Value) → Prop
  | [], _ => True
  | (k, v) :: r, E => look E k = some v ∧ Sub r E

theorem Sub.look {E1 E2 : List (Nat × Value)} (h : Sub E1 E2) : ∀ k v, look E1 k = some v → Qf.look E2 k = some v := by
  induction E1 with
  | nil => intro k v hk; simp [Qf.look] at hk
  | cons p r ih =>
    obtain ⟨k0, v0⟩ := p
    intro k v hk
    by_cases e : k0 = k
    · subst e
      rw [look_cons_self] at hk
      cases hk
      exact h.1
    · rw [look_cons_ne _ _ e] at hk
      exact ih h.2 k v hk

theorem Fits.sub {n : Nat} {E1 E2 : List (Nat × Value)} {a : Act} (h : Fits n E2 a) (hs : Sub E1 E2) : Fits n E1 a :=
  ⟨h.size, h.defers, fun k v hk => h.slots k v (hs.look k v hk)⟩

/-- What an operand is. -/
def ov (E : List (Nat × Value)) : Operand → Option Value
  | .tmp t => look E t
  | .const v => some v
  | .global g => some (.pointer (some ⟨g, 0, none⟩))
  | .func f => some (.func (.func f) #[] #[])

theorem Fits.eval {n : Nat} {E : List (Nat × Value)} {a : Act} (h : Fits n E a) {x : Operand} {v : Value} (hx : ov E x = some v) : a.eval x = v := by
  cases x with
  | tmp t =>
    have := h.slots t v hx
    simp [Act.eval, Array.getD_eq_getD_getElem?, this]
  | const u => simp only [ov, Option.some.injEq] at hx; subst hx; rfl
  | global g => simp only [ov, Option.some.injEq] at hx; subst hx; rfl
  | func f => simp only [ov, Option.some.injEq] at hx; subst hx; rfl

/-- Does the guard let the operation run? -/
def wantE (ops : Array Oper) (E : List (Nat × Value)) : Option (Nat × Bool) → Option Bool
  | none => some true
  | some (j, want) =>
    match (ops[j]?).bind (·.dst) with
    | some d => match look E d with
      | some (.bool b) => some (b == want)
      | _ => none
    | none => none

theorem wantE_spec {n : Nat} {ops : Array Oper} {E : List (Nat × Value)} {a : Act} (h : Fits n E a) {o : Oper} {b : Bool} (hw : wantE ops E o.guard = some b) :
    Region.wanted o (yielded ops a.tmps) = b := by
  unfold wantE at hw
  unfold Region.wanted
  cases hg : o.guard with
  | none => rw [hg] at hw; simpa using hw
  | some p =>
    obtain ⟨j, want⟩ := p
    rw [hg] at hw
    simp only at hw ⊢
    cases hd : (ops[j]?).bind (·.dst) with
    | none => rw [hd] at hw; simp at hw
    | some d =>
      rw [hd] at hw
      simp only at hw
      cases hl : look E d with
      | none => rw [hl] at hw; simp at hw
      | some v =>
        rw [hl] at hw
        have hs := h.slots d v hl
        cases v <;> simp at hw
        rename_i b'
        subst hw
        simp [yielded, hd, hs]

/-- One operation, run where the slots are as E says: it yields a value of which Φ holds in the world that it leaves. -/
def OpR (P : Program) (n : Nat) (o : Oper) (E : List (Nat × Value)) (w : World) (Φ : Value → World → Prop) : Prop :=
  ∀ a, Fits n E a → ∀ (Q : Exit → Act → World → Prop) (K : Act → World → Prop), (∀ v w', Φ v w' → K (a.put o.dst v) w') → o.wp P a w K Q

/-- .. its guard asked first. -/
def OpG (P : Program) (n : Nat) (ops : Array Oper) (o : Oper) (E : List (Nat × Value)) (w : World) (Φ : Value → World → Prop) : Prop :=
  (wantE ops E o.guard = some true ∧ OpR P n o E w Φ) ∨ (wantE ops E o.guard = some false ∧ Φ undef w)

theorem OpR.mono {P : Program} {n : Nat} {o : Oper} {E : List (Nat × Value)} {w : World} {Φ Ψ : Value → World → Prop} (h : OpR P n o E w Φ) (hi : ∀ v w', Φ v w' → Ψ v w') : OpR P n o E w Ψ :=
  fun a ha Q K hK => h a ha Q K fun v w' hv => hK v w' (hi v w' hv)

def St (P : Program) (n : Nat) (E : List (Nat × Value)) (w : World) (c : Code) (Q : Exit → Act → World → Prop) : Prop := ∀ a, Fits n E a → c.wp P Q a w
def StL (P : Program) (n : Nat) (E : List (Nat × Value)) (w : World) (ops : Array Oper) (l : List Oper) (Q : Exit → Act → World → Prop) : Prop := ∀ a, Fits n E a → wpList P ops Q l a w
/-- What must hold where the code has come to an exit. -/
def Out (n : Nat) (E : List (Nat × Value)) (w : World) (e : Exit) (Q : Exit → Act → World → Prop) : Prop := ∀ a, Fits n E a → Q e a w

section rules
variable {P : Program} {n : Nat} {E : List (Nat × Value)} {w : World} {Q : Exit → Act → World → Prop} {ops : Array Oper} {rest : List Oper}

theorem StL.step {o : Oper} {d : Nat} {Φ : Value → World → Prop} (hd : o.dst = some d) (hw : wantE ops E o.guard = some true) (hn : Nat.blt d n = true) (h : OpR P n o E w Φ)
    (next : ∀ v w', Φ v w' → StL P n ((d, v) :: E) w' ops rest Q) : StL P n E w ops (o :: rest) Q := by
  intro a ha
  refine wpList_step fun K hK => ?_
  rw [if_pos (wantE_spec ha hw)]
  exact h a ha Q K fun v w' hv => hK _ _ (next v w' hv _ (by rw [hd]; exact ha.put hn v))

theorem StL.step0 {o : Oper} {Φ : Value → World → Prop} (hd : o.dst = none) (hw : wantE ops E o.guard = some true) (h : OpR P n o E w Φ)
    (next : ∀ v w', Φ v w' → StL P n E w' ops rest Q) : StL P n E w ops (o :: rest) Q := by
  intro a ha
  refine wpList_step fun K hK => ?_
  rw [if_pos (wantE_spec ha hw)]
  exact h a ha Q K fun v w' hv => hK _ _ (next v w' hv _ (by rw [hd]; exact ha))

theorem StL.skip {o : Oper} {d : Nat} (hd : o.dst = some d) (hw : wantE ops E o.guard = some false) (hn : Nat.blt d n = true)
    (next : StL P n ((d, undef) :: E) w ops rest Q) : StL P n E w ops (o :: rest) Q := by
  intro a ha
  refine wpList_step fun K hK => ?_
  rw [if_neg (by rw [wantE_spec ha hw]; simp)]
  exact hK _ _ (next _ (by rw [hd]; exact ha.put hn undef))

theorem StL.nil (h : Out n E w .normal Q) : StL P n E w ops [] Q := fun a ha => wpList_nil (h a ha)

theorem St.seq {x y : Code} (h : St P n E w x (Exit.then (y.wp P Q) Q)) : St P n E w (.seq x y) Q := fun a ha => wp_seq (h a ha)
theorem St.region {id : Nat} {l : List Oper} (h : StL P n E w l.toArray l Q) : St P n E w (.region id l.toArray false) Q := fun a ha => wp_region_lit (h a ha)
theorem St.skip (h : Out n E w .normal Q) : St P n E w .skip Q := fun a ha => wp_skip (h a ha)
theorem St.ret (h : Out n E w .ret Q) : St P n E w .ret Q := fun a ha => wp_ret (h a ha)
theorem St.exit {id : Nat} (h : Out n E w (.exit id) Q) : St P n E w (.exit id) Q := fun a ha => wp_exit (h a ha)
theorem St.block {id : Nat} {c : Code} (h : St P n E w c (Exit.inBlock id Q)) : St P n E w (.block id c) Q := fun a ha => wp_block (h a ha)
theorem St.cond {c : Operand} {x y : Code} {b : Bool} (hb : ov E c = some (.bool b)) (ht : b = true → St P n E w x Q) (hf : b = false → St P n E w y Q) : St P n E w (.cond c x y) Q :=
  fun a ha => wp_cond_split (ha.eval hb) (fun e => ht e a ha) (fun e => hf e a ha)
theorem St.condT {c : Operand} {x y : Code} {b : Bool} (hb : ov E c = some (.bool b)) (e : b = true) (ht : St P n E w x Q) : St P n E w (.cond c x y) Q :=
  St.cond hb (fun _ => ht) (fun h => by rw [e] at h; cases h)
theorem St.condF {c : Operand} {x y : Code} {b : Bool} (hb : ov E c = some (.bool b)) (e : b = false) (hf : St P n E w y Q) : St P n E w (.cond c x y) Q :=
  St.cond hb (fun h => by rw [e] at h; cases h) (fun _ => hf)
theorem St.sub {E' : List (Nat × Value)} {c : Code} (h : St P n E' w c Q) (hs : Sub E' E) : St P n E w c Q := fun a ha => h a (ha.sub hs)

theorem Out.then_normal {y : Code} (h : St P n E w y Q) : Out n E w .normal (Exit.then (y.wp P Q) Q) := h
theorem Out.then_ret {K : Act → World → Prop} (h : Out n E w .ret Q) : Out n E w .ret (Exit.then K Q) := h
theorem Out.then_exit {K : Act → World → Prop} {id : Nat} (h : Out n E w (.exit id) Q) : Out n E w (.exit id) (Exit.then K Q) := h
theorem Out.block_normal {id : Nat} (h : Out n E w .normal Q) : Out n E w .normal (Exit.inBlock id Q) := h
theorem Out.block_ret {id : Nat} (h : Out n E w .ret Q) : Out n E w .ret (Exit.inBlock id Q) := h
theorem Out.block_exit {id : Nat} (h : Out n E w .normal Q) : Out n E w (.exit id) (Exit.inBlock id Q) := fun a ha => by
  show (if id = id then _ else _)
  rw [if_pos rfl]; exact h a ha
theorem Out.block_other {id id' : Nat} (hne : Nat.beq id' id = false) (h : Out n E w (.exit id') Q) : Out n E w (.exit id') (Exit.inBlock id Q) := fun a ha => by
  show (if id' = id then _ else _)
  rw [if_neg (fun e => by subst e; simp at hne)]; exact h a ha

/-- What a round of a loop hands on. -/
def Again {α : Type} (n : Nat) (Einv : α → List (Nat × Value)) (I : α → World → Prop) (μ : α → Nat) (g : α) (a : Act) (w : World) : Prop :=
  ∃ g', Fits n (Einv g') a ∧ I g' w ∧ μ g' < μ g

theorem St.loop {α : Type} (Einv : α → List (Nat × Value)) (I : α → World → Prop) (μ : α → Nat) {c : Code} (g0 : α) (hs : Sub (Einv g0) E) (h0 : I g0 w)
    (round : ∀ g w, I g w → St P n (Einv g) w c (Exit.then (Again n Einv I μ g) Q)) : St P n E w (.loop c) Q := by
  intro a ha
  refine wp_loop_ghost (fun k a w => ∃ g, μ g = k ∧ Fits n (Einv g) a ∧ I g w) (μ g0) ⟨g0, rfl, ha.sub hs, h0⟩ ?_
  rintro k a' w' ⟨g, rfl, hf, hI⟩
  refine wp_mono (round g w' hI a' hf) ?_
  intro e a2 w2 hq
  cases e with
  | normal =>
    obtain ⟨g', hf', hI', hlt⟩ := hq
    exact ⟨μ g', hlt, g', rfl, hf', hI'⟩
  | exit id => exact hq
  | goto l => exact hq
  | ret => exact hq
  | panic ch => exact hq
  | outgrown => exact hq

theorem Out.again {α : Type} {Einv : α → List (Nat × Value)} {I : α → World → Prop} {μ : α → Nat} {g : α} (g' : α) (hs : Sub (Einv g') E) (hI : I g' w) (hlt : μ g' < μ g) :
    Out n E w .normal (Exit.then (Again n Einv I μ g) Q) := fun _ ha => ⟨g', ha.sub hs, hI, hlt⟩
end rules

/-- A call that returns a value of which Φ holds. -/
def Ret (Φ : Value → World → Prop) (e : Ending) (w : World) : Prop := ∃ v, e = .returned v ∧ Φ v w

/-- The parameters' slots. -/
def slotsFrom : Nat → List Value → List (Nat × Value)
  | _, [] => []
  | k, v :: r => (k, v) :: slotsFrom (k + 1) r

theorem look_slotsFrom (l : List Value) : ∀ (s k : Nat) (v : Value), look (slotsFrom s l) k = some v → s ≤ k ∧ l[k - s]? = some v := by
  induction l with
  | nil => intro s k v h; simp [slotsFrom, look] at h
  | cons x r ih =>
    intro s k v h
    by_cases e : s = k
    · subst e
      rw [slotsFrom, look_cons_self] at h
      simpa using h
    · rw [slotsFrom, look_cons_ne _ _ e] at h
      obtain ⟨h1, h2⟩ := ih (s + 1) k v h
      refine ⟨by omega, ?_⟩
      have : k - s = (k - (s + 1)) + 1 := by omega
      rw [this]
      simpa using h2

theorem calls_of_St {P : Program} {f : FuncId} {fn : Func} {c : Code} {args : List Value} {w : World} {Φ : Value → World → Prop} {n : Nat}
    (hf : P.funcs[f]? = some fn) (hb : fn.body = some c) (hn : fn.ntmps = n) (hle : Nat.ble args.length n = true)
    (h : St P n (slotsFrom 0 args) w c (bodyPost P fn (Ret Φ))) : Calls P f args.toArray w (Ret Φ) := by
  refine calls_of_wp hf hb (h _ ⟨?_, rfl, ?_⟩)
  · have := Nat.le_of_ble_eq_true hle
    simp [hn]; omega
  · intro k v hk
    obtain ⟨_, h2⟩ := look_slotsFrom args 0 k v hk
    simp only [Nat.sub_zero] at h2
    have hlt : k < args.length := (List.getElem?_eq_some_iff.1 h2).1
    rw [Array.getElem?_append_left (by simpa using hlt)]
    simpa using h2

/-- What the function hands back: one result in a slot. -/
theorem Out.ret1 {P : Program} {fn : Func} {n : Nat} {E : List (Nat × Value)} {w : World} {Φ : Value → World → Prop} {t : Tmp} {v : Value} (hr : fn.results = #[.tmp t]) (hv : look E t = some v) (h : Φ v w) :
    Out n E w .ret (bodyPost P fn (Ret Φ)) := fun a ha =>
  bodyPost_ret (results_tmp hr _ P w) ha.defers ⟨_, rfl, by rw [show a.tmps.getD t undef = v from by simp [Array.getD_eq_getD_getElem?, ha.slots t v hv]]; exact h⟩

theorem Out.ret2 {P : Program} {fn : Func} {n : Nat} {E : List (Nat × Value)} {w : World} {Φ : Value → World → Prop} {t u : Tmp} {x y : Value} (hr : fn.results = #[.tmp t, .tmp u]) (hx : look E t = some x) (hy : look E u = some y) (h : Φ (.tuple #[x, y]) w) :
    Out n E w .ret (bodyPost P fn (Ret Φ)) := fun a ha =>
  bodyPost_ret (results_tmp2 hr _ P w) ha.defers ⟨_, rfl, by rw [show a.tmps.getD t undef = x from by simp [Array.getD_eq_getD_getElem?, ha.slots t x hx], show a.tmps.getD u undef = y from by simp [Array.getD_eq_getD_getElem?, ha.slots u y hy]]; exact h⟩

end Go.Qf

/- The operations that touch no memory, computed over the known slots; each is shown to be what the model runs. Over any program whose types read as a table says. -/
namespace Go.Qf
open Go Go.RowKit

/-- A row of the table of types. -/
structure TI where
  desc : TypeDesc
  size : Nat
  bytes : Nat
  zero : Value

def lookT : List (Nat × TI) → Nat → Option TI
  | [], _ => none
  | (k, v) :: r, n => bif Nat.beq k n then some v else lookT r n

/-- The table is the program's. -/
def TblOk (P : Program) (T : List (Nat × TI)) : Prop :=
  ∀ t i, lookT T t = some i → P.underlying t = some i.desc ∧ ∃ inf, P.info? t = some inf ∧ inf.size = i.size ∧ inf.bytes = i.bytes ∧ inf.zero = some i.zero

theorem TblOk.nil (P : Program) : TblOk P [] := fun t i h => by simp [lookT] at h

theorem TblOk.cons {P : Program} {T : List (Nat × TI)} {k : Nat} {i : TI} (hu : P.underlying k = some i.desc)
    (hi : (P.info? k).map (fun x => (x.size, x.bytes, x.zero)) = some (i.size, i.bytes, some i.zero)) (h : TblOk P T) : TblOk P ((k, i) :: T) := by
  intro t j ht
  by_cases e : k = t
  · subst e
    simp [lookT] at ht
    subst ht
    cases hx : P.info? k with
    | none => rw [hx] at hi; simp at hi
    | some x =>
      rw [hx] at hi
      simp at hi
      exact ⟨hu, x, rfl, hi.1, hi.2.1, hi.2.2⟩
  · have hb : Nat.beq k t = false := by
      cases hb : Nat.beq k t
      · rfl
      · exact absurd (Nat.eq_of_beq_eq_true hb) e
    simp [lookT, hb] at ht
    exact h t j ht

/-- 'and', 'or', 'xor', 'and not' as the model has them. -/
def bitsI (op : BinOp) (k : IntKind) (x y : Int) : Int :=
  match op with
  | .and => k.wrap (BitVec.ofInt k.bits x &&& BitVec.ofInt k.bits y).toNat
  | .or => k.wrap (BitVec.ofInt k.bits x ||| BitVec.ofInt k.bits y).toNat
  | .xor => k.wrap (BitVec.ofInt k.bits x ^^^ BitVec.ofInt k.bits y).toNat
  | _ => k.wrap (BitVec.ofInt k.bits x &&& ~~~ BitVec.ofInt k.bits y).toNat

def binPure (op : BinOp) (x y : Value) : Option Value :=
  match x, y with
  | .int k a, .int k' b =>
    match op with
    | .shl => none
    | .shr => none
    | .quo => none
    | .rem => none
    | .add => bif k == k' then some (.int k (k.wrap (a + b))) else none
    | .sub => bif k == k' then some (.int k (k.wrap (a - b))) else none
    | .mul => bif k == k' then some (.int k (k.wrap (a * b))) else none
    | .and => bif k == k' then some (.int k (bitsI .and k a b)) else none
    | .or => bif k == k' then some (.int k (bitsI .or k a b)) else none
    | .xor => bif k == k' then some (.int k (bitsI .xor k a b)) else none
    | .andNot => bif k == k' then some (.int k (bitsI .andNot k a b)) else none
    | .eql => bif k == k' then some (.bool (a == b)) else none
    | .neq => bif k == k' then some (.bool (a != b)) else none
    | .lss => bif k == k' then some (.bool (decide (a < b))) else none
    | .leq => bif k == k' then some (.bool (decide (a ≤ b))) else none
    | .gtr => bif k == k' then some (.bool (decide (a > b))) else none
    | .geq => bif k == k' then some (.bool (decide (a ≥ b))) else none
  | _, _ => none

/-- A shift by a constant. -/
def shiftPure (op : BinOp) (x : Value) (y : Operand) : Option Value :=
  match x, y with
  | .int k a, .const (.int _ (.ofNat s)) =>
    match op with
    | .shl => bif Nat.ble s k.bits then some (.int k (k.wrap (a * 2 ^ s))) else none
    | .shr => bif Nat.ble s k.bits then some (.int k (a / 2 ^ s)) else none
    | _ => none
  | _, _ => none

def isAggD : TypeDesc → Bool
  | .struct _ => true
  | .array _ _ => true
  | _ => false

def unPure (op : UnOp) (x : Value) : Option Value :=
  match op, x with
  | .neg, .int k a => some (.int k (k.wrap (0 - a)))
  | .not, .bool b => some (.bool !b)
  | _, _ => none

def isShift : BinOp → Bool
  | .shl => true
  | .shr => true
  | _ => false

def callPure (T : List (Nat × TI)) (E : List (Nat × Value)) (c : Call) : Option Value :=
  match c.callee with
  | .builtin .len =>
    match c.args.toList, c.argTypes.toList with
    | [x], [t] =>
      match lookT T t, ov E x with
      | some ⟨.slice _, _, _, _⟩, some (.slice _ m _) => some (.int .i64 m)
      | some ⟨.string, _, _, _⟩, some (.string s) => some (.int .i64 s.size)
      | _, _ => none
    | _, _ => none
  | _ => none

def pureOp (T : List (Nat × TI)) (E : List (Nat × Value)) : Op → Option Value
  | .move x => ov E x
  | .assign x => ov E x
  | .pick c a b =>
    match ov E c with
    | some (.bool true) => ov E a
    | some (.bool false) => ov E b
    | _ => none
  | .binOp op _ x y _ =>
    match ov E x with
    | some u => bif isShift op then shiftPure op u y else
      match ov E y with
      | some v => binPure op u v
      | none => none
    | none => none
  | .unOp op _ x =>
    match ov E x with
    | some u => unPure op u
    | none => none
  | .convert src dst x =>
    match lookT T src, lookT T dst, ov E x with
    | some _, some ⟨.int k, _, _, _⟩, some (.int _ m) => some (.int k (k.wrap m))
    | _, _, _ => none
  | .extract x i =>
    match ov E x with
    | some (.tuple vs) => vs[i]?
    | _ => none
  | .field t x i =>
    match lookT T t, ov E x with
    | some ⟨.struct fs, _, _, _⟩, some (.agg cs) =>
      match fs[i]? with
      | some f => match lookT T f.type with
        | some ti => bif isAggD ti.desc then some (.agg (cs.extract f.offset (f.offset + ti.size))) else cs[f.offset]?
        | none => none
      | none => none
    | _, _ => none
  | .fieldAddr t x i =>
    match lookT T t, ov E x with
    | some ⟨.struct fs, _, _, _⟩, some (.pointer (some a)) =>
      match fs[i]? with
      | some f => match lookT T f.type with
        | some ti => bif Nat.beq ti.size 0 then none else some (.pointer (some (a.add f.offset)))
        | none => none
      | none => none
    | _, _ => none
  | .call c => callPure T E c
  | _ => none

section
variable {P : Program} {T : List (Nat × TI)} {n : Nat} {E : List (Nat × Value)} {a : Act} {w : World}

theorem run_underlying_T (hT : TblOk P T) {t : Nat} {i : TI} (h : lookT T t = some i) : (underlying t).run P w = .ok i.desc w := by
  have := (hT t i h).1
  simp [underlying, this, go_sem]

theorem run_sizeOf_T (hT : TblOk P T) {t : Nat} {i : TI} (h : lookT T t = some i) : (sizeOf t).run P w = .ok i.size w := by
  obtain ⟨_, inf, hi, hs, _, _⟩ := hT t i h
  simp [sizeOf, typeInfo, hi, hs, go_sem]

theorem run_isAgg_T (hT : TblOk P T) {t : Nat} {i : TI} (h : lookT T t = some i) : (isAgg t).run P w = .ok (isAggD i.desc) w := by
  have := (hT t i h).1
  unfold isAgg
  simp only [Sem.run_bind, run_underlying_T hT h]
  cases hd : i.desc <;> simp [isAggD, go_sem]

theorem binPure_run {op : BinOp} {x y v : Value} {xt : TypeId} {ox oy : Operand} (h : binPure op x y = some v) :
    ((do eqGuard op xt ox oy x y; binOp op xt x y) : Sem Value).run P w = .ok v w := by
  cases x <;> cases y <;> simp only [binPure] at h <;> try (cases h; done)
  rename_i k m k' m'
  have hk : k = k' := by
    cases op <;> simp only [] at h <;> first | (cases h; done) | (
      cases hkk : (k == k') with
      | true => exact eq_of_beq hkk
      | false => rw [hkk] at h; cases h)
  subst hk
  cases op <;> simp only [beq_self_eq_true, cond_true, Option.some.injEq] at h <;> first
    | (cases h; done)
    | (subst h; simp [eqGuard, binOp, Op.intArith, Op.intCmp, Op.intBits, bitsI, go_sem])

theorem shiftPure_run {op : BinOp} {x v : Value} {xt : TypeId} {ox oy : Operand} (h : shiftPure op x oy = some v) {y : Value} (hy : ov E oy = some y) :
    ((do eqGuard op xt ox oy x y; binOp op xt x y) : Sem Value).run P w = .ok v w := by
  unfold shiftPure at h
  split at h
  · rename_i k m yk s
    simp only [ov, Option.some.injEq] at hy
    subst hy
    have e : ((Int.ofNat s).toNat) = s := rfl
    have en : ¬ (Int.ofNat s < 0) := by simp
    cases op <;> simp only [] at h <;> try (cases h; done)
    · cases hb : Nat.ble s k.bits with
      | false => rw [hb] at h; cases h
      | true =>
        have hle := Nat.le_of_ble_eq_true hb
        rw [hb] at h
        simp only [cond_true, Option.some.injEq] at h
        subst h
        have hsh : Op.shift .shl k m yk (Int.ofNat s) = Pure.pure (.int k (k.wrap (m * 2 ^ s))) := by
          unfold Op.shift; rw [if_neg en]; simp only [e, Nat.min_eq_left hle]
        simp only [eqGuard, binOp, hsh]
        simp [go_sem]
    · cases hb : Nat.ble s k.bits with
      | false => rw [hb] at h; cases h
      | true =>
        have hle := Nat.le_of_ble_eq_true hb
        rw [hb] at h
        simp only [cond_true, Option.some.injEq] at h
        subst h
        have hp : (0 : Int) ≤ 2 ^ s := Int.le_of_lt (Int.pow_pos (by decide))
        have hsh : Op.shift .shr k m yk (Int.ofNat s) = Pure.pure (.int k (m / 2 ^ s)) := by
          unfold Op.shift; rw [if_neg en]; simp only [e, Nat.min_eq_left hle, Int.fdiv_eq_ediv_of_nonneg _ hp]
        simp only [eqGuard, binOp, hsh]
        simp [go_sem]
  · cases h

theorem pureOp_run (hT : TblOk P T) {ρ : Operand → Value} (hρ : ∀ {x v}, ov E x = some v → ρ x = v) {o : Oper} {v : Value} (h : pureOp T E o.op = some v) : (execOp ρ o).run P w = .ok (.value v) w := by
  obtain ⟨dst, op, ty, pos, after, guard⟩ := o
  simp only at h
  cases op <;> simp only [pureOp] at h <;> try (cases h; done)
  case move x => simp [execOp, hρ h, go_sem]
  case assign x => simp [execOp, hρ h, go_sem]
  case pick c x y =>
    split at h
    · rename_i hc
      simp [execOp, hρ hc, hρ h, go_sem, asBool]
    · rename_i hc
      simp [execOp, hρ hc, hρ h, go_sem, asBool]
    · cases h
  case binOp op xt x y yt =>
    split at h
    · rename_i u hu
      cases hs : isShift op with
      | true =>
        rw [hs] at h
        simp only [cond_true] at h
        have hy : ∃ yv, ov E y = some yv := by
          unfold shiftPure at h
          split at h
          · exact ⟨_, rfl⟩
          · cases h
        obtain ⟨yv, hy⟩ := hy
        have := shiftPure_run (P := P) (w := w) (xt := xt) (ox := x) h hy
        simp only [execOp, hρ hu, hρ hy]
        simp only [Sem.run_bind] at this ⊢
        simp [this]
      | false =>
        rw [hs] at h
        simp only [cond_false] at h
        split at h
        · rename_i yv hy
          have := binPure_run (P := P) (w := w) (xt := xt) (ox := x) (oy := y) h
          simp only [execOp, hρ hu, hρ hy]
          simp only [Sem.run_bind] at this ⊢
          simp [this]
        · cases h
    · cases h
  case unOp op xt x =>
    split at h
    · rename_i u hu
      unfold unPure at h
      split at h
      · cases h; simp [execOp, hρ hu, Op.unary, Op.intArith, go_sem]
      · cases h; simp [execOp, hρ hu, Op.unary, go_sem]
      · cases h
    · cases h
  case convert src dst x =>
    split at h
    · rename_i i0 k _ _ _ k2 m hs hd hx
      simp only [Option.some.injEq] at h
      subst h
      simp [execOp, convert, hρ hx, run_underlying_T hT hs, run_underlying_T hT hd, Conv.intToInt, go_sem]
    · cases h
  case extract x i =>
    split at h
    · rename_i vs hx
      simp [execOp, hρ hx, Instr.extract, h, go_sem]
    · cases h
  case field t x i =>
    split at h
    · rename_i fs _ _ _ cs ht hx
      split at h
      · rename_i f hf
        split at h
        · rename_i ti hti
          simp only [execOp, Instr.field, hρ hx, Sem.run_bind, run_underlying_T hT ht, Result.andThen_ok, hf, asAgg, part, run_isAgg_T hT hti]
          cases hag : isAggD ti.desc with
          | true =>
            rw [hag] at h
            simp only [cond_true, Option.some.injEq] at h
            subst h
            simp [run_sizeOf_T hT hti, go_sem]
          | false =>
            rw [hag] at h
            simp only [cond_false] at h
            simp [h, go_sem]
        · cases h
      · cases h
    · cases h
  case fieldAddr t x i =>
    split at h
    · rename_i fs _ _ _ ad ht hx
      split at h
      · rename_i f hf
        split at h
        · rename_i ti hti
          cases hz : Nat.beq ti.size 0 with
          | true => rw [hz] at h; cases h
          | false =>
            rw [hz] at h
            simp only [cond_false, Option.some.injEq] at h
            subst h
            have hne : ¬ ti.size = 0 := fun e => by rw [e] at hz; cases hz
            simp [execOp, Instr.fieldAt, hρ hx, run_underlying_T hT ht, hf, Instr.sureAddr, fieldPlace, run_sizeOf_T hT hti, hne, go_sem]
        · cases h
      · cases h
    · cases h
  case call c =>
    obtain ⟨callee, args, argTypes⟩ := c
    unfold callPure at h
    simp only at h
    split at h <;> try (cases h; done)
    split at h
    · rename_i x t hargs htys
      have hA : args = #[x] := by rw [← Array.toArray_toList (xs := args), hargs]
      have hB : argTypes = #[t] := by rw [← Array.toArray_toList (xs := argTypes), htys]
      subst hA hB
      split at h
      · rename_i e _ _ _ ad m c ht hx
        simp only [Option.some.injEq] at h
        subst h
        simp [Builtin.len_, hρ hx, run_underlying_T hT ht, goInt, go_sem]
      · rename_i _ _ _ s ht hx
        simp only [Option.some.injEq] at h
        subst h
        simp [Builtin.len_, hρ hx, run_underlying_T hT ht, goInt, go_sem]
      · cases h
    · cases h

theorem OpR.pure (hT : TblOk P T) {o : Oper} {v : Value} (h : pureOp T E o.op = some v) : OpR P n o E w (fun v' w' => v = v' ∧ w = w') := by
  intro a ha Q K hK
  unfold Oper.wp
  rw [pureOp_run hT (fun hx => ha.eval hx) h, Oper.upon_value]
  exact hK v w ⟨rfl, rfl⟩

/-- As many operations as touch no memory, one behind the other. -/
def runPure (T : List (Nat × TI)) (n : Nat) (ops : Array Oper) : Nat → List (Nat × Value) → List Oper → List (Nat × Value) × List Oper
  | 0, E, l => (E, l)
  | _ + 1, E, [] => (E, [])
  | m + 1, E, o :: r =>
    match o.dst, wantE ops E o.guard with
    | some d, some true =>
      bif Nat.blt d n then
        match pureOp T E o.op with
        | some v => runPure T n ops m ((d, v) :: E) r
        | none => (E, o :: r)
      else (E, o :: r)
    | some d, some false => bif Nat.blt d n then runPure T n ops m ((d, undef) :: E) r else (E, o :: r)
    | _, _ => (E, o :: r)

theorem StL.run (hT : TblOk P T) {ops : Array Oper} {Q : Exit → Act → World → Prop} : ∀ (m : Nat) {E E' : List (Nat × Value)} {l l' : List Oper}, runPure T n ops m E l = (E', l') → StL P n E' w ops l' Q → StL P n E w ops l Q := by
  intro m
  induction m with
  | zero => intro E E' l l' h hn; simp only [runPure, Prod.mk.injEq] at h; obtain ⟨rfl, rfl⟩ := h; exact hn
  | succ m ih =>
    intro E E' l l' h hn
    cases l with
    | nil => simp only [runPure, Prod.mk.injEq] at h; obtain ⟨rfl, rfl⟩ := h; exact hn
    | cons o r =>
      simp only [runPure] at h
      split at h
      · rename_i d hd hw
        cases hb : Nat.blt d n with
        | false => rw [hb] at h; simp only [cond_false, Prod.mk.injEq] at h; obtain ⟨rfl, rfl⟩ := h; exact hn
        | true =>
          rw [hb] at h
          simp only [cond_true] at h
          split at h
          · rename_i v hv
            refine StL.step hd hw hb (OpR.pure hT hv) ?_
            rintro v' w' ⟨rfl, rfl⟩
            exact ih h hn
          · simp only [Prod.mk.injEq] at h; obtain ⟨rfl, rfl⟩ := h; exact hn
      · rename_i d hd hw
        cases hb : Nat.blt d n with
        | false => rw [hb] at h; simp only [cond_false, Prod.mk.injEq] at h; obtain ⟨rfl, rfl⟩ := h; exact hn
        | true =>
          rw [hb] at h
          simp only [cond_true] at h
          exact StL.skip hd hw hb (ih h hn)
      · simp only [Prod.mk.injEq] at h; obtain ⟨rfl, rfl⟩ := h; exact hn

/-- .. the last value written otherwise. -/
theorem StL.as (hT : TblOk P T) {ops : Array Oper} {Q : Exit → Act → World → Prop} (m : Nat) {E E' : List (Nat × Value)} {l l' : List Oper} {d : Nat} {v : Value} (v' : Value) (h : runPure T n ops m E l = ((d, v) :: E', l')) (hv : v = v') (hn : StL P n ((d, v') :: E') w ops l' Q) : StL P n E w ops l Q :=
  StL.run hT m (hv ▸ h) hn

theorem bool_true {p : Prop} [Decidable p] (h : p) : Value.bool (decide p) = .bool true := by rw [decide_eq_true h]
theorem bool_false {p : Prop} [Decidable p] (h : ¬ p) : Value.bool (decide p) = .bool false := by rw [decide_eq_false h]

end
end Go.Qf

/- Memory: slices that read as a list, blocks that are known whole, and the operations on them. -/
namespace Go.Qf
open Go Go.RowKit

/-- Nothing that was there has changed. -/
abbrev Ext (w w' : World) : Prop := Below w.heap.size w w'

theorem Ext.refl (w : World) : Ext w w := Below.refl _ _
theorem Ext.trans {a b c : World} (h : Ext a b) (k : Ext b c) : Ext a c := Below.trans h (Below.mono k h.size)
theorem Ext.drewN {w w' : World} (h : Ext w w') (m : Nat) : Ext w (w'.drewN m) := ⟨h.os, h.tape, h.output, h.size, h.block⟩

/-- Block b holds the cells C, of the type e, none of them frozen. -/
def Blk (e : TypeId) (w : World) (b : Nat) (C : List Value) : Prop := w.heap[b]? = some (.cells C.toArray e (0, 0))

theorem Blk.lt {e : TypeId} {w : World} {b : Nat} {C : List Value} (h : Blk e w b C) : b < w.heap.size := (Array.getElem?_eq_some_iff.1 h).1
theorem Blk.ext {e : TypeId} {w w' : World} {b : Nat} {C : List Value} (h : Blk e w b C) (hx : Ext w w') : Blk e w' b C := (hx.block b h.lt).trans h
theorem Blk.drewN {e : TypeId} {w : World} {b : Nat} {C : List Value} (h : Blk e w b C) (m : Nat) : Blk e (w.drewN m) b C := h

theorem Blk.cell {e : TypeId} {w : World} {b : Nat} {C : List Value} (h : Blk e w b C) {i : Nat} {v : Value} (hi : C[i]? = some v) : w.cell? ⟨b, i, none⟩ = some v := by
  unfold Blk at h
  simp [World.cell?, h, hi]

theorem Blk.frozen {e : TypeId} {w : World} {b : Nat} {C : List Value} (h : Blk e w b C) (i : Nat) (s : Option Nat) : w.frozen? ⟨b, i, s⟩ = false := by
  unfold Blk at h
  simp [World.frozen?, h]

/-- Only block b may have changed. -/
structure Upd (b : Nat) (w w' : World) : Prop where
  os : w'.os = w.os
  tape : w'.tape = w.tape
  output : w'.output = w.output
  size : w.heap.size ≤ w'.heap.size
  block : ∀ k, k < w.heap.size → k ≠ b → w'.heap[k]? = w.heap[k]?

theorem Upd.refl (b : Nat) (w : World) : Upd b w w := ⟨rfl, rfl, rfl, Nat.le_refl _, fun _ _ _ => rfl⟩
theorem Upd.trans {b : Nat} {x y z : World} (h : Upd b x y) (k : Upd b y z) : Upd b x z :=
  ⟨k.os.trans h.os, k.tape.trans h.tape, k.output.trans h.output, Nat.le_trans h.size k.size, fun i hi hb => (k.block i (Nat.lt_of_lt_of_le hi h.size) hb).trans (h.block i hi hb)⟩
theorem Ext.upd {w w' : World} (h : Ext w w') (b : Nat) : Upd b w w' := ⟨h.os, h.tape, h.output, h.size, fun k hk _ => h.block k hk⟩
/-- A block that the call made itself has changed: nothing old has. -/
theorem Ext.then_upd {w w' w'' : World} (h : Ext w w') {b : Nat} (k : Upd b w' w'') (hb : w.heap.size ≤ b) : Ext w w'' :=
  ⟨k.os.trans h.os, k.tape.trans h.tape, k.output.trans h.output, Nat.le_trans h.size k.size, fun i hi => (k.block i (Nat.lt_of_lt_of_le hi h.size) (by omega)).trans (h.block i hi)⟩
theorem Blk.upd {e : TypeId} {w w' : World} {b c : Nat} {C : List Value} (h : Blk e w b C) (hx : Upd c w w') (hne : b ≠ c) : Blk e w' b C := (hx.block b h.lt hne).trans h

theorem Ext.cell {w w' : World} (hx : Ext w w') {a : Addr} {v : Value} (h : w.cell? a = some v) : w'.cell? a = some v := by
  have hlt : a.block < w.heap.size := by
    unfold World.cell? at h
    split at h
    · rename_i hb
      exact (Array.getElem?_eq_some_iff.1 hb).1
    · cases h
  unfold World.cell? at h ⊢
  rw [hx.block _ hlt]
  exact h

theorem Upd.cell {b : Nat} {w w' : World} (hx : Upd b w w') {a : Addr} {v : Value} (h : w.cell? a = some v) (hne : a.block ≠ b) : w'.cell? a = some v := by
  have hlt : a.block < w.heap.size := by
    unfold World.cell? at h
    split at h
    · rename_i hb
      exact (Array.getElem?_eq_some_iff.1 hb).1
    · cases h
  unfold World.cell? at h ⊢
  rw [hx.block _ hlt hne]
  exact h

/-- The slice v reads as the cells cs (elements of one cell, of the type e). -/
def Row (_e : TypeId) (w : World) (v : Value) (cs : List Value) : Prop :=
  ∃ p cap, v = .slice p cs.length cap ∧ cs.length ≤ cap ∧ (p = none → cap = 0) ∧ ∀ a, p = some a → ∀ i c, cs[i]? = some c → w.cell? (a.add i) = some c

theorem Row.ext {e : TypeId} {w w' : World} {v : Value} {cs : List Value} (h : Row e w v cs) (hx : Ext w w') : Row e w' v cs := by
  obtain ⟨p, cap, hv, hl, h0, hc⟩ := h
  exact ⟨p, cap, hv, hl, h0, fun a ha i c hi => hx.cell (hc a ha i c hi)⟩

theorem Row.drewN {e : TypeId} {w : World} {v : Value} {cs : List Value} (h : Row e w v cs) (m : Nat) : Row e (w.drewN m) v cs := h

/-- The slice's block is not b. -/
def Apart (b : Nat) (v : Value) : Prop := ∀ c off s len cap, v = .slice (some ⟨c, off, s⟩) len cap → c ≠ b

theorem addr_add_block (a : Addr) (i : Nat) : (a.add i).block = a.block := by
  unfold Addr.add
  split <;> rfl

theorem Row.upd {e : TypeId} {w w' : World} {v : Value} {cs : List Value} (h : Row e w v cs) {b : Nat} (hx : Upd b w w') (ha : Apart b v) : Row e w' v cs := by
  obtain ⟨p, cap, hv, hl, h0, hc⟩ := h
  refine ⟨p, cap, hv, hl, h0, fun a hp i c hi => hx.cell (hc a hp i c hi) ?_⟩
  rw [addr_add_block]
  subst hp
  exact ha a.block a.off a.spot _ _ hv

/-- An element of the slice: where it lies. -/
theorem Row.get {e : TypeId} {w : World} {v : Value} {cs : List Value} (h : Row e w v cs) {i : Nat} {c : Value} (hi : cs[i]? = some c) :
    ∃ a cap, v = .slice (some a) cs.length cap ∧ w.cell? (a.add i) = some c := by
  have hlt : i < cs.length := (List.getElem?_eq_some_iff.1 hi).1
  obtain ⟨p, cap, hv, hl, h0, hc⟩ := h
  cases p with
  | none => have := h0 rfl; omega
  | some a => exact ⟨a, cap, hv, hc a rfl i c hi⟩

theorem Row.len {e : TypeId} {w : World} {v : Value} {cs : List Value} (h : Row e w v cs) : ∃ p cap, v = .slice p cs.length cap := by
  obtain ⟨p, cap, hv, _⟩ := h
  exact ⟨p, cap, hv⟩

theorem Row.nil_of {e : TypeId} {w : World} {len cap : Nat} {cs : List Value} (h : Row e w (.slice none len cap) cs) : cs = [] := by
  obtain ⟨p, cap', hv, hl, h0, _⟩ := h
  simp only [Value.slice.injEq] at hv
  have := h0 hv.1.symm
  exact List.eq_nil_of_length_eq_zero (by omega)

/-- The operation yields v and leaves the world alone. -/
def RunsTo (P : Program) (n : Nat) (o : Oper) (E : List (Nat × Value)) (w : World) (v : Value) : Prop :=
  ∀ a, Fits n E a → (execOp a.eval o).run P w = .ok (.value v) w

section
variable {P : Program} {T : List (Nat × TI)} {n : Nat} {E : List (Nat × Value)} {w : World}

theorem RunsTo.op {o : Oper} {v : Value} (h : RunsTo P n o E w v) : OpR P n o E w (fun v' w' => v = v' ∧ w = w') := by
  intro a ha Q K hK
  unfold Oper.wp
  rw [h a ha, Oper.upon_value]
  exact hK v w ⟨rfl, rfl⟩

theorem RunsTo.pure (hT : TblOk P T) {o : Oper} {v : Value} (h : pureOp T E o.op = some v) : RunsTo P n o E w v :=
  fun _ ha => pureOp_run hT (fun hx => ha.eval hx) h

theorem RunsTo.indexAddr (hT : TblOk P T) {d : Option Tmp} {t : TypeId} {x i : Operand} {ty : TypeId} {pos : String} {af : Array Edge} {g : Option (Nat × Bool)} {et : TypeId} {s1 s2 : Nat} {z : Value} {et1 : TI} {a : Addr} {len cap : Nat} {k : IntKind} {iv : Int}
    (ht : lookT T t = some ⟨.slice et, s1, s2, z⟩) (hte : lookT T et = some et1) (hsz : et1.size = 1) (hx : ov E x = some (.slice (some a) len cap)) (hi : ov E i = some (.int k iv)) (h0 : 0 ≤ iv) (h1 : iv < len) :
    RunsTo P n ⟨d, .indexAddr t x i, ty, pos, af, g⟩ E w (.pointer (some (a.add iv.toNat))) := by
  intro b hb
  have e1 := hb.eval hx
  have e2 := hb.eval hi
  generalize b.eval = ρ at e1 e2
  simp [execOp, Instr.indexAt, e1, e2, run_underlying_T hT ht, run_sizeOf_T hT hte, hsz, h0, h1, asIntOf, go_sem]

theorem run_load1 {a : Addr} {v : Value} (hc : w.cell? a = some v) : (Go.load a).run P w = .ok v w := by
  unfold Go.load
  simp only [Sem.run, hc]

theorem RunsTo.load (hT : TblOk P T) {d : Option Tmp} {t : TypeId} {x : Operand} {ty : TypeId} {pos : String} {af : Array Edge} {g : Option (Nat × Bool)} {ti : TI} {a : Addr} {v : Value}
    (ht : lookT T t = some ti) (hag : isAggD ti.desc = false) (hx : ov E x = some (.pointer (some a))) (hc : w.cell? a = some v) :
    RunsTo P n ⟨d, .load t x, ty, pos, af, g⟩ E w v := by
  intro b hb
  have e1 := hb.eval hx
  generalize b.eval = ρ at e1
  simp [execOp, Instr.loadAt, Instr.sureAddr, loadVar, e1, run_isAgg_T hT ht, hag, hc, go_sem]

/-- A whole struct out of its block. -/
theorem run_loadCellsFrom {e : TypeId} {b : Nat} {C : List Value} (h : Blk e w b C) (off : Nat) : ∀ (m i : Nat) (acc : Array Value), off + i + m ≤ C.length →
    (loadCellsFrom ⟨b, off, none⟩ i m acc).run P w = .ok (acc ++ ((C.drop (off + i)).take m).toArray) w := by
  intro m
  induction m with
  | zero => intro i acc _; simp [loadCellsFrom, go_sem]
  | succ m ih =>
    intro i acc hle
    have hlt : off + i < C.length := by omega
    have hc : w.cell? (Addr.add ⟨b, off, none⟩ i) = some C[off + i] := by
      have : Addr.add ⟨b, off, none⟩ i = ⟨b, off + i, none⟩ := by
        unfold Addr.add
        split
        · rename_i h0; subst h0; rfl
        · rfl
      rw [this]
      exact h.cell (by simp [hlt])
    unfold loadCellsFrom
    simp only [Sem.run_bind]
    have hl : (Go.load (Addr.add ⟨b, off, none⟩ i)).run P w = .ok C[off + i] w := run_load1 hc
    rw [hl, Result.andThen_ok, ih (i + 1) _ (by omega)]
    congr 1
    rw [List.drop_eq_getElem_cons hlt, List.take_succ_cons, show off + (i + 1) = off + i + 1 from by omega]
    simp

theorem RunsTo.loadAgg (hT : TblOk P T) {d : Option Tmp} {t : TypeId} {x : Operand} {ty : TypeId} {pos : String} {af : Array Edge} {g : Option (Nat × Bool)} {ti : TI} {b off : Nat} {e : TypeId} {C cs : List Value}
    (ht : lookT T t = some ti) (hag : isAggD ti.desc = true) (hx : ov E x = some (.pointer (some ⟨b, off, none⟩))) (hb : Blk e w b C) (hle : off + ti.size ≤ C.length) (hcs : (C.drop off).take ti.size = cs) :
    RunsTo P n ⟨d, .load t x, ty, pos, af, g⟩ E w (.agg cs.toArray) := by
  intro a ha
  have e1 := ha.eval hx
  generalize a.eval = ρ at e1
  have hr := run_loadCellsFrom (P := P) hb off ti.size 0 #[] (by omega)
  simp only [Nat.add_zero, hcs] at hr
  simp [execOp, Instr.loadAt, Instr.sureAddr, loadVar, e1, run_isAgg_T hT ht, hag, run_sizeOf_T hT ht, loadCells, hr, go_sem]

end
end Go.Qf

/- Stores, new blocks, calls, appends. -/
namespace Go.Qf
open Go Go.RowKit

theorem Blk.set {e : TypeId} {w : World} {b : Nat} {C : List Value} (h : Blk e w b C) (i : Nat) (v : Value) : Blk e (w.setCell ⟨b, i, none⟩ v) b (C.set i v) := by
  unfold Blk at *
  simp [World.setCell, Array.getElem?_modify, h]

theorem upd_setCell (w : World) (b i : Nat) (s : Option Nat) (v : Value) : Upd b w (w.setCell ⟨b, i, s⟩ v) :=
  ⟨rfl, rfl, rfl, by simp [World.setCell], fun k _ hb => by
    simp only [World.setCell, Array.getElem?_modify]
    rw [if_neg (fun e => hb e.symm)]⟩

section
variable {P : Program} {T : List (Nat × TI)} {n : Nat} {E : List (Nat × Value)} {w : World}

theorem run_store1 {e : TypeId} {b i : Nat} {C : List Value} (h : Blk e w b C) (hi : i < C.length) {v : Value} (hv : v.oneCell' = true) : (Go.store ⟨b, i, none⟩ v).run P w = .ok () (w.setCell ⟨b, i, none⟩ v) := by
  have hc : w.cell? ⟨b, i, none⟩ = some C[i] := h.cell (by simp [hi])
  have hf := h.frozen i none
  unfold Go.store
  cases v <;> simp [Value.oneCell'] at hv <;> simp [Sem.run, hc, hf]

/-- Cells from position k on, written over. -/
def over (C : List Value) (k : Nat) : List Value → List Value
  | [] => C
  | v :: r => over (C.set k v) (k + 1) r

theorem over_length (vs : List Value) : ∀ (C : List Value) (k : Nat), (over C k vs).length = C.length := by
  induction vs with
  | nil => intro C k; rfl
  | cons v r ih => intro C k; simp [over, ih]

theorem run_storeCells {e : TypeId} {b off : Nat} : ∀ (vs : List Value) (w : World) (C : List Value) (i : Nat), Blk e w b C → off + i + vs.length ≤ C.length → (∀ u ∈ vs, u.oneCell' = true) →
    ∃ w', (storeCells ⟨b, off, none⟩ vs i).run P w = .ok () w' ∧ Blk e w' b (over C (off + i) vs) ∧ Upd b w w' := by
  intro vs
  induction vs with
  | nil => intro w C i h _ _; exact ⟨w, by simp [storeCells, go_sem], h, Upd.refl _ _⟩
  | cons v r ih =>
    intro w C i h hle h1
    have ha : Addr.add ⟨b, off, none⟩ i = ⟨b, off + i, none⟩ := by
      unfold Addr.add
      split
      · rename_i h0; subst h0; rfl
      · rfl
    have hs := run_store1 (P := P) h (i := off + i) (by simp at hle; omega) (h1 v (by simp))
    obtain ⟨w', hr, hb, hu⟩ := ih (w.setCell ⟨b, off + i, none⟩ v) (C.set (off + i) v) (i + 1) (h.set _ _) (by simp at hle ⊢; omega) (fun u hu => h1 u (by simp [hu]))
    refine ⟨w', ?_, ?_, (upd_setCell _ _ _ _ _).trans hu⟩
    · simp only [storeCells, Sem.run_bind, ha, hs, Result.andThen_ok]
      exact hr
    · simpa [over, Nat.add_assoc] using hb

theorem OpR.store (hT : TblOk P T) {d : Option Tmp} {t : TypeId} {x y : Operand} {ty : TypeId} {pos : String} {af : Array Edge} {g : Option (Nat × Bool)} {ti : TI} {e : TypeId} {b off : Nat} {C vs : List Value} {v : Value}
    (ht : lookT T t = some ti) (hx : ov E x = some (.pointer (some ⟨b, off, none⟩))) (hy : ov E y = some v) (hcs : v.cells.toList = vs) (hsz : vs.length = ti.size) (hb : Blk e w b C) (hle : off + vs.length ≤ C.length) (h1 : ∀ u ∈ vs, u.oneCell' = true) :
    OpR P n ⟨d, .store t x y, ty, pos, af, g⟩ E w (fun _ w' => Blk e w' b (over C off vs) ∧ Upd b w w') := by
  intro a ha Q K hK
  obtain ⟨w', hr, hb', hu⟩ := run_storeCells (P := P) vs w C 0 hb (by simpa using hle) h1
  have e1 := ha.eval hx
  have e2 := ha.eval hy
  have hne : ¬ (v.cells.size ≠ ti.size) := by rw [← hsz, ← hcs]; simp
  have hrun : (execOp a.eval ⟨d, .store t x y, ty, pos, af, g⟩).run P w = .ok .skip w' := by
    generalize a.eval = ρ at e1 e2
    simp only [execOp, e1, e2, Instr.storeAt, Instr.sureAddr, storeVar, Sem.run_bind, run_sizeOf_T hT ht, Result.andThen_ok, Sem.run_pure, if_neg hne, hcs, hr]
  unfold Oper.wp
  rw [hrun, Oper.upon_skip]
  exact hK undef w' ⟨by simpa using hb', hu⟩

theorem blk_alloc (w : World) (e : TypeId) (C : Array Value) : Blk e (w.alloc (.cells C e (0, 0))) w.heap.size C.toList := by
  show (w.heap.push _)[w.heap.size]? = _
  simp

theorem size_alloc1 (w : World) (o : Obj) : (w.alloc o).heap.size = w.heap.size + 1 := by
  show (w.heap.push o).size = _
  simp

theorem ext_alloc (w : World) (o : Obj) : Ext w (w.alloc o) := (Below.refl _ _).alloc (Nat.le_refl _) o

theorem OpR.alloc (hT : TblOk P T) {d : Option Tmp} {t : TypeId} {ty : TypeId} {pos : String} {af : Array Edge} {g : Option (Nat × Bool)} {ti : TI} (ht : lookT T t = some ti) :
    OpR P n ⟨d, .alloc t, ty, pos, af, g⟩ E w (fun v w' => v = .pointer (some ⟨w.heap.size, 0, none⟩) ∧ Blk t w' w.heap.size ti.zero.cells.toList ∧ Ext w w' ∧ w'.heap.size = w.heap.size + 1) := by
  intro a ha Q K hK
  obtain ⟨_, inf, hi, _, _, hz⟩ := hT t ti ht
  have hrun : (execOp a.eval ⟨d, .alloc t, ty, pos, af, g⟩).run P w = .ok (.value (.pointer (some ⟨w.heap.size, 0, none⟩))) (w.alloc (.cells ti.zero.cells t (0, 0))) := by
    simp [execOp, Instr.alloc, zeroValue, typeInfo, hi, hz, newVar, newRow, go_sem]
  unfold Oper.wp
  rw [hrun, Oper.upon_value]
  exact hK _ _ ⟨rfl, blk_alloc _ _ _, ext_alloc _ _, size_alloc1 _ _⟩

theorem OpR.box {d : Option Tmp} {t : TypeId} {x : Operand} {ty : TypeId} {pos : String} {af : Array Edge} {g : Option (Nat × Bool)} {v : Value} (hx : ov E x = some v) :
    OpR P n ⟨d, .box t x, ty, pos, af, g⟩ E w (fun u w' => u = .pointer (some ⟨w.heap.size, 0, none⟩) ∧ Blk t w' w.heap.size v.cells.toList ∧ Ext w w' ∧ w'.heap.size = w.heap.size + 1) := by
  intro a ha Q K hK
  have e1 := ha.eval hx
  have hrun : (execOp a.eval ⟨d, .box t x, ty, pos, af, g⟩).run P w = .ok (.value (.pointer (some ⟨w.heap.size, 0, none⟩))) (w.alloc (.cells v.cells t (0, 0))) := by
    generalize a.eval = ρ at e1
    simp [execOp, Instr.box, e1, newVar, newRow, go_sem]
  unfold Oper.wp
  rw [hrun, Oper.upon_value]
  exact hK _ _ ⟨rfl, blk_alloc _ _ _, ext_alloc _ _, size_alloc1 _ _⟩

/-- A slice of the call's own: nil, or at the head of a block from base on. -/
abbrev Own (base : Nat) (e : TypeId) (w : World) (v : Value) (cs : List Value) : Prop := w.ownsRow base e 1 v cs.length cs

theorem Own.row {base : Nat} {e : TypeId} {v : Value} {cs : List Value} (h : Own base e w v cs) : Row e w v cs := by
  rcases h.2 with ⟨hv, h0⟩ | ⟨g, cap, cur, hv, _, hg, hn, _, hs, ht⟩
  · exact ⟨none, 0, by rw [hv, h0], by omega, fun _ => rfl, fun a ha => by cases ha⟩
  · refine ⟨_, cap, hv, hn, fun hp => (by cases hp), fun a ha i c hi => ?_⟩
    cases ha
    have hi2 := (List.getElem?_eq_some_iff.1 hi).1
    have : cur[i]? = some c := by
      rw [← hi, ← ht]
      simp only [Nat.mul_one]
      rw [List.getElem?_take_of_lt hi2]
      simp
    have ha : Addr.add ⟨g, 0, none⟩ i = ⟨g, i, none⟩ := by
      unfold Addr.add
      split
      · rename_i h0; subst h0; rfl
      · simp
    rw [ha]
    simp [World.cell?, hg, this]

theorem Own.ext {base : Nat} {e : TypeId} {w' : World} {v : Value} {cs : List Value} (h : Own base e w v cs) (hx : Ext w w') : Own base e w' v cs := by
  refine ⟨h.1, ?_⟩
  rcases h.2 with h0 | ⟨g, cap, cur, hv, hb, hg, r⟩
  · exact .inl h0
  · exact .inr ⟨g, cap, cur, hv, hb, (hx.block g (Array.getElem?_eq_some_iff.1 hg).1).trans hg, r⟩

theorem run_typeInfo {t : TypeId} {inf : TypeInfo} (hi : P.info? t = some inf) : (typeInfo t).run P w = .ok inf w := by
  simp [typeInfo, hi, go_sem]

/-- make([]T, m): a new block of m zeros. -/
theorem OpR.make (hT : TblOk P T) {d : Option Tmp} {t : TypeId} {x y : Operand} {ty : TypeId} {pos : String} {af : Array Edge} {g : Option (Nat × Bool)} {et : TypeId} {s1 s2 : Nat} {z : Value} {ti : TI} {k k' : IntKind} {iv jv : Int} (m : Nat)
    (ht : lookT T t = some ⟨.slice et, s1, s2, z⟩) (hte : lookT T et = some ti) (hsz : ti.size = 1) (hz : ti.zero.cells = #[ti.zero]) (hx : ov E x = some (.int k iv)) (hiv : iv = m) (hy : ov E y = some (.int k' jv)) (hjv : jv = m) (hm : m * ti.bytes ≤ 1000000000000) (hm2 : m ≤ 1000000000000) :
    OpR P n ⟨d, .makeSlice t x y, ty, pos, af, g⟩ E w (fun v w' => v = .slice (some ⟨w.heap.size, 0, none⟩) m m ∧ Blk et w' w.heap.size (List.replicate m ti.zero) ∧ Ext w w' ∧ w'.heap.size = w.heap.size + 1) := by
  intro a ha Q K hK
  subst hiv hjv
  obtain ⟨_, inf, hi, hsize, hby, hzero⟩ := hT et ti hte
  have e1 := ha.eval hx
  have e2 := ha.eval hy
  have hw : IntKind.i64.wrap (m : Int) = m := i64_id (by omega) (by omega)
  have hc1 : ¬ ((decide (((m : Nat) : Int) < 0) || decide (((ti.bytes : Nat) : Int) * ((m : Nat) : Int) > 2 ^ 48) || decide (((m : Nat) : Int) < 0) || decide (((m : Nat) : Int) > ((m : Nat) : Int))) = true) := by
    have : ((ti.bytes : Nat) : Int) * ((m : Nat) : Int) = ((m * ti.bytes : Nat) : Int) := by rw [Int.mul_comm]; simp
    simp only [Bool.or_eq_true, decide_eq_true_eq, this]
    omega
  have hroom : ¬ (m * ti.bytes > roomBytes) := by unfold roomBytes; omega
  have hcells : ((Array.range (m * 1)).map (fun x => (#[ti.zero] : Array Value)[x % 1]!)) = (List.replicate m ti.zero).toArray := by
    apply Array.ext
    · simp
    · intro i h1 h2
      simp [Nat.mod_one]
  have hrun : (execOp a.eval ⟨d, .makeSlice t x y, ty, pos, af, g⟩).run P w = .ok (.value (.slice (some ⟨w.heap.size, 0, none⟩) m m)) (w.alloc (.cells (List.replicate m ti.zero).toArray et (0, 0))) := by
    generalize a.eval = ρ at e1 e2
    have hmk : (Instr.makeSlice t (.int k m) (.int k' m)).run P w = .ok (.slice (some ⟨w.heap.size, 0, none⟩) m m) (w.alloc (.cells (List.replicate m ti.zero).toArray et (0, 0))) := by
      unfold Instr.makeSlice
      simp only [Sem.run_bind, run_underlying_T hT ht, Result.andThen_ok, asInt, asIntOf, Sem.run_pure, run_typeInfo hi, hby, hw]
      rw [if_neg hc1]
      simp only [Sem.run_bind, Sem.run_pure, Result.andThen_ok, Int.toNat_natCast, askRoom, if_neg hroom, run_sizeOf_T hT hte, hsz]
      by_cases h0 : m = 0
      · subst h0
        simp [newRow, go_sem]
      · rw [if_neg (by omega)]
        simp only [Sem.run_bind, zeroValue, run_typeInfo hi, Sem.run_pure, Result.andThen_ok, hzero, hz, List.size_toArray, List.length_cons, List.length_nil, Nat.zero_add, hcells]
        simp [newRow, go_sem]
    simp only [execOp, e1, e2, Sem.run_bind, hmk, Result.andThen_ok, Sem.run_pure]
  unfold Oper.wp
  rw [hrun, Oper.upon_value]
  refine hK _ _ ⟨rfl, ?_, ext_alloc _ _, size_alloc1 _ _⟩
  have := blk_alloc w et (List.replicate m ti.zero).toArray
  simpa using this

end
end Go.Qf

/- Slice expressions, calls, appends, and two operations at once: an element read or written. -/
namespace Go.Qf
open Go Go.RowKit

/-- The function has a text of its own. -/
structure IsFn (P : Program) (f : FuncId) (fn : Func) : Prop where
  func : P.funcs[f]? = some fn
  name : (fn.name == "runtime.NumGoroutine") = false
  body : fn.body.isNone = false

def ovs (E : List (Nat × Value)) : List Operand → Option (List Value)
  | [] => some []
  | x :: r => match ov E x, ovs E r with
    | some v, some vs => some (v :: vs)
    | _, _ => none

theorem ovs_map {n : Nat} {E : List (Nat × Value)} {a : Act} (ha : Fits n E a) : ∀ (xs : List Operand) (vs : List Value), ovs E xs = some vs → xs.map a.eval = vs := by
  intro xs
  induction xs with
  | nil => intro vs h; simp only [ovs, Option.some.injEq] at h; subst h; rfl
  | cons x r ih =>
    intro vs h
    simp only [ovs] at h
    split at h
    · rename_i v us hv hr
      simp only [Option.some.injEq] at h
      subst h
      simp only [List.map_cons, ha.eval hv, ih us hr]
    · cases h

section
variable {P : Program} {T : List (Nat × TI)} {n : Nat} {E : List (Nat × Value)} {w : World}

theorem OpR.call {f : FuncId} {fn : Func} (hF : IsFn P f fn) {d : Option Tmp} {args : Array Operand} {tys : Array TypeId} {ty : TypeId} {pos : String} {af : Array Edge} {g : Option (Nat × Bool)} {vs : List Value} {Φ : Value → World → Prop}
    (hargs : ovs E args.toList = some vs) (hc : Calls P f vs.toArray w (Ret Φ)) :
    OpR P n ⟨d, .call ⟨.value (.func f), args, tys⟩, ty, pos, af, g⟩ E w Φ := by
  intro a ha Q K hK
  have hm := ovs_map ha _ _ hargs
  have hA : args.map a.eval = vs.toArray := by
    rw [← hm]
    apply Array.toList_inj.1
    simp
  have hev : a.eval (.func f) = .func (.func f) #[] #[] := rfl
  have hrun : (execOp a.eval ⟨d, .call ⟨.value (.func f), args, tys⟩, ty, pos, af, g⟩).run P w = .ok (.enter f vs.toArray) w := by
    simp only [execOp, resolve, hev, Deferred.ofValue, hA, Sem.run_bind, Sem.run_pure, Result.andThen_ok, invoke, callFunc]
    simp only [Array.append_empty, Array.empty_append]
    have hp : (program).run P w = .ok P w := by simp [go_sem]
    simp only [hp, Result.andThen_ok, hF.func, hF.name, hF.body, Bool.false_eq_true, if_false, Sem.run_pure]
  unfold Oper.wp
  rw [hrun, Oper.upon_enter]
  refine hc.mono ?_
  rintro e w' ⟨v, rfl, hv⟩
  exact hK v w' hv

theorem addr_add (b off l : Nat) : Addr.add ⟨b, off, none⟩ l = ⟨b, off + l, none⟩ := by
  unfold Addr.add
  split
  · rename_i h0; subst h0; rfl
  · rfl

/-- x[:h] -/
theorem RunsTo.sliceHi (hT : TblOk P T) {d : Option Tmp} {t : TypeId} {x y : Operand} {ty : TypeId} {pos : String} {af : Array Edge} {g : Option (Nat × Bool)} {et : TypeId} {s1 s2 : Nat} {z : Value} {ti : TI} {p : Option Addr} {len cap : Nat} {k : IntKind} {iv : Int}
    (ht : lookT T t = some ⟨.slice et, s1, s2, z⟩) (hte : lookT T et = some ti) (hx : ov E x = some (.slice p len cap)) (hy : ov E y = some (.int k iv)) (h0 : 0 ≤ iv) (h1 : iv ≤ cap) :
    RunsTo P n ⟨d, .slice t x none (some y) none, ty, pos, af, g⟩ E w (.slice p iv.toNat cap) := by
  intro a ha
  have e1 := ha.eval hx
  have e2 := ha.eval hy
  generalize a.eval = ρ at e1 e2
  simp [execOp, Instr.sliceAt, Instr.slice, Instr.sliceBounds, Instr.sliceBound, e1, e2, run_underlying_T hT ht, run_sizeOf_T hT hte, h0, h1, asIntOf, go_sem]

/-- x[l:h], l below the capacity -/
theorem RunsTo.sliceLoHi (hT : TblOk P T) {d : Option Tmp} {t : TypeId} {x u y : Operand} {ty : TypeId} {pos : String} {af : Array Edge} {g : Option (Nat × Bool)} {et : TypeId} {s1 s2 : Nat} {z : Value} {ti : TI} {b off len cap : Nat} {k k' : IntKind} {iv jv : Int}
    (ht : lookT T t = some ⟨.slice et, s1, s2, z⟩) (hte : lookT T et = some ti) (hsz : ti.size = 1) (hx : ov E x = some (.slice (some ⟨b, off, none⟩) len cap)) (hu : ov E u = some (.int k' jv)) (hy : ov E y = some (.int k iv)) (h0 : 0 ≤ jv) (h1 : jv ≤ iv) (h2 : iv ≤ cap) (h3 : jv < cap) :
    RunsTo P n ⟨d, .slice t x (some u) (some y) none, ty, pos, af, g⟩ E w (.slice (some ⟨b, off + jv.toNat, none⟩) (iv.toNat - jv.toNat) (cap - jv.toNat)) := by
  intro a ha
  have e1 := ha.eval hx
  have e2 := ha.eval hy
  have e3 := ha.eval hu
  generalize a.eval = ρ at e1 e2 e3
  have hne : ¬ cap = jv.toNat := by omega
  have hi0 : 0 ≤ iv := by omega
  have hle : jv ≤ ((iv.toNat : Nat) : Int) := by omega
  simp [execOp, Instr.sliceAt, Instr.slice, Instr.sliceBounds, Instr.sliceBound, e1, e2, e3, run_underlying_T hT ht, run_sizeOf_T hT hte, hsz, h0, h2, hi0, asIntOf, hne, addr_add, Int.max_eq_left hi0, h1, go_sem]

theorem run_append_from_nil {base : Nat} {t e ty : TypeId} {v : Value} {cs : List Value} (ht : P.underlying t = some (.slice e)) {inf : TypeInfo} (hi : P.info? e = some inf) (hown : Own base e w v cs) (m c : Nat) (hm : m = 0) :
    (Builtin.append_ #[t, t] ty #[v, .slice none m c]).run P w = .ok v w := by
  subst hm
  rcases hown.2 with ⟨hv, h0⟩ | ⟨g, cap, cur, hv, _, hg, hn, _, hs, ht2⟩
  · rw [hv]
    simp [Builtin.append_, run_underlying ht, sizeOf, typeInfo, hi, Builtin.lenOf, Builtin.firstCells, go_sem]
  · rw [hv]
    simp [Builtin.append_, run_underlying ht, sizeOf, typeInfo, hi, Builtin.lenOf, Builtin.firstCells, hn, storeCells, go_sem]

theorem grownBy_refl (w : World) (r : Option Nat) : w.grownBy w r := ⟨rfl, rfl, rfl, Nat.le_refl _, fun _ _ _ => rfl⟩

theorem Ext.grown {w0 w' : World} {base : Nat} {e : TypeId} {v : Value} {cs : List Value} (h : Ext w0 w) (hown : Own base e w v cs) (hb : w0.heap.size ≤ base) (hg : w.grownBy w' v.ownBlock) : Ext w0 w' := by
  refine ⟨hg.os.trans h.os, hg.tape.trans h.tape, hg.output.trans h.output, Nat.le_trans h.size hg.size, fun k hk => ?_⟩
  refine (hg.block k (Nat.lt_of_lt_of_le hk h.size) ?_).trans (h.block k hk)
  intro he
  have := (hown.lt k he.symm).1
  omega

/-- append(v, u...): v a slice of the call's own (or nil), u any slice of elements of one cell. -/
theorem OpR.append (hT : TblOk P T) {d : Option Tmp} {t : TypeId} {s x : Operand} {ty : TypeId} {pos : String} {af : Array Edge} {g : Option (Nat × Bool)} {et : TypeId} {s1 s2 : Nat} {z : Value} {ti : TI} {base : Nat} {v u : Value} {cs ds : List Value}
    (ht : lookT T t = some ⟨.slice et, s1, s2, z⟩) (hte : lookT T et = some ti) (hsz : ti.size = 1) (hz : ti.zero.cells.size = 1) (hs : ov E s = some v) (hx : ov E x = some u) (hown : Own base et w v cs) (hr : Row et w u ds) (h1 : ∀ c ∈ ds, c.oneCell' = true)
    (hlen : cs.length + ds.length ≤ 1000000000000) (hbytes : (cs.length + ds.length) * ti.bytes ≤ 1000000000000) (hbase : base ≤ w.heap.size) :
    OpR P n ⟨d, .call ⟨.builtin .append, #[s, x], #[t, t]⟩, ty, pos, af, g⟩ E w (fun v' w' => Own base et w' v' (cs ++ ds) ∧ w.grownBy w' v.ownBlock ∧ (v' = .slice none 0 0 ↔ v = .slice none 0 0 ∧ ds = [])) := by
  intro a ha Q K hK
  obtain ⟨hu1, _⟩ := hT t _ ht
  obtain ⟨_, inf, hi, hsize, hby, hzero⟩ := hT et ti hte
  have e1 := ha.eval hs
  have e2 := ha.eval hx
  have key : ∃ v' w', (Builtin.append_ #[t, t] ty #[v, u]).run P w = .ok v' w' ∧ Own base et w' v' (cs ++ ds) ∧ w.grownBy w' v.ownBlock ∧ (v' = .slice none 0 0 ↔ v = .slice none 0 0 ∧ ds = []) := by
    obtain ⟨p, cap, hu, hle, hp0, hc⟩ := hr
    cases p with
    | none =>
      have hcap := hp0 rfl
      have h0 : ds = [] := List.eq_nil_of_length_eq_zero (by omega)
      subst h0 hu
      refine ⟨v, w, run_append_from_nil hu1 hi hown _ _ rfl, by simpa using hown, grownBy_refl _ _, by simp⟩
    | some ad =>
      subst hu
      obtain ⟨v', w', h2, h3, h4, h5⟩ := run_append_own (P := P) w base t ty et inf ti.zero 1 ti.bytes hu1 hi hzero (hsize.trans hsz) hby hz (by decide) v cs.length cs hown ad ds.length cap ds (by simp)
        (fun j c hj => hc ad rfl j c hj) h1 (by unfold maxLen; omega) (by omega) hbase
      refine ⟨v', w', h2, by unfold Own; rw [List.length_append]; exact h3, h4, ?_⟩
      rw [h5]
      simp
  obtain ⟨v', w', h2, h3, h4, h5⟩ := key
  have hrun : (execOp a.eval ⟨d, .call ⟨.builtin .append, #[s, x], #[t, t]⟩, ty, pos, af, g⟩).run P w = .ok (.value v') w' := by
    generalize a.eval = ρ at e1 e2
    simp only [execOp, resolve, invoke, builtin, Sem.run_bind, Sem.run_pure, Result.andThen_ok, List.map_toArray, List.map_cons, List.map_nil, e1, e2, h2]
  unfold Oper.wp
  rw [hrun, Oper.upon_value]
  exact hK v' w' ⟨h3, h4, h5⟩

/-- []T{x}: a new block of one cell. -/
theorem OpR.single (hT : TblOk P T) {d : Option Tmp} {t : TypeId} {x : Operand} {ty : TypeId} {pos : String} {af : Array Edge} {g : Option (Nat × Bool)} {et : TypeId} {s1 s2 : Nat} {z : Value} {ti : TI} {k : IntKind} {m : Int}
    (ht : lookT T t = some ⟨.slice et, s1, s2, z⟩) (hte : lookT T et = some ti) (hsz : ti.size = 1) (hx : ov E x = some (.int k m)) :
    OpR P n ⟨d, .buildSlice t 1 #[(0, x)], ty, pos, af, g⟩ E w (fun u w' => u = .slice (some ⟨w.heap.size, 0, none⟩) 1 1 ∧ Blk et w' w.heap.size [.int k m] ∧ Ext w w' ∧ w'.heap.size = w.heap.size + 1) := by
  intro a ha Q K hK
  obtain ⟨_, inf, hi, hsize, hby, hzero⟩ := hT et ti hte
  have e1 := ha.eval hx
  have hrun : (execOp a.eval ⟨d, .buildSlice t 1 #[(0, x)], ty, pos, af, g⟩).run P w = .ok (.value (.slice (some ⟨w.heap.size, 0, none⟩) 1 1)) (w.alloc (.cells #[.int k m] et (0, 0))) := by
    generalize a.eval = ρ at e1
    simp [execOp, Instr.buildSlice, e1, run_underlying_T hT ht, run_sizeOf_T hT hte, hsz, zeroValue, run_typeInfo hi, hzero, Instr.fill, newRow, go_sem]
  unfold Oper.wp
  rw [hrun, Oper.upon_value]
  exact hK _ _ ⟨rfl, blk_alloc _ _ _, ext_alloc _ _, size_alloc1 _ _⟩

end

theorem Blk.row {e : TypeId} {w : World} {b off len cap : Nat} {C cs : List Value} (h : Blk e w b C) (hlen : len = cs.length) (hl : len ≤ cap) (_hc : off + cap ≤ C.length) (hcs : (C.drop off).take len = cs) : Row e w (.slice (some ⟨b, off, none⟩) len cap) cs := by
  subst hlen
  refine ⟨_, cap, rfl, hl, fun hp => (by cases hp), fun a ha i c hi => ?_⟩
  cases ha
  have hi2 := (List.getElem?_eq_some_iff.1 hi).1
  rw [addr_add]
  refine h.cell ?_
  have : cs[i]? = ((C.drop off).take cs.length)[i]? := by rw [hcs]
  rw [← hi, this, List.getElem?_take_of_lt hi2]
  simp

theorem Blk.own {e : TypeId} {w : World} {b len base : Nat} {C : List Value} (h : Blk e w b C) (hl : len = C.length) (hb : base ≤ b) (hm : len ≤ 1000000000000) : Own base e w (.slice (some ⟨b, 0, none⟩) len len) C := by
  subst hl
  exact ⟨by simp, .inr ⟨b, C.length, C.toArray, rfl, hb, h, Nat.le_refl _, by unfold maxLen; omega, by simp, by simp⟩⟩

theorem Own.nil (base : Nat) (e : TypeId) (w : World) : Own base e w (.slice none 0 0) [] := World.ownsRow_nil w base e 1

section lists
variable {P : Program} {T : List (Nat × TI)} {n : Nat} {E : List (Nat × Value)} {w : World} {Q : Exit → Act → World → Prop} {ops : Array Oper} {rest : List Oper}

/-- 'x[i]' read: two operations. -/
theorem StL.elem (hT : TblOk P T) {d1 d2 : Nat} {t u : TypeId} {x i : Operand} {ty ty2 : TypeId} {pos pos2 : String} {af af2 : Array Edge} {g g2 : Option (Nat × Bool)} {et : TypeId} {s1 s2 : Nat} {z : Value} {ti : TI} {sv : Value} {cs : List Value} {k : IntKind} {iv : Int} (j : Nat) (c : Value)
    (hr : Row et w sv cs) (hc : cs[j]? = some c) (hj : iv = j)
    (ht : lookT T t = some ⟨.slice et, s1, s2, z⟩) (hte : lookT T et = some ti) (hsz : ti.size = 1) (hag : isAggD ti.desc = false) (hu : u = et)
    (hx : ov E x = some sv) (hi : ov E i = some (.int k iv)) (hg : wantE ops E g = some true) (hn : Nat.blt d1 n = true) (hn2 : Nat.blt d2 n = true) (hg2 : ∀ p, wantE ops ((d1, p) :: E) g2 = some true)
    (next : ∀ p, StL P n ((d2, c) :: (d1, p) :: E) w ops rest Q) :
    StL P n E w ops (⟨some d1, .indexAddr t x i, ty, pos, af, g⟩ :: ⟨some d2, .load u (.tmp d1), ty2, pos2, af2, g2⟩ :: rest) Q := by
  obtain ⟨a, cap, hsv, hcell⟩ := hr.get hc
  have hlt : j < cs.length := (List.getElem?_eq_some_iff.1 hc).1
  subst hu
  rw [hsv] at hx
  refine StL.step rfl hg hn (RunsTo.indexAddr hT ht hte hsz hx hi (by omega) (by omega)).op ?_
  rintro p w' ⟨rfl, rfl⟩
  rw [show iv.toNat = j from by omega]
  have hl : ov ((d1, .pointer (some (a.add j))) :: E) (.tmp d1) = some (.pointer (some (a.add j))) := look_cons_self _ _ _
  refine StL.step rfl (hg2 _) hn2 (RunsTo.load hT hte hag hl hcell).op ?_
  rintro c' w' ⟨rfl, rfl⟩
  exact next _

/-- 'x[i] = v': two operations; the block that the slice lies in is known whole. -/
theorem StL.put (hT : TblOk P T) {d1 : Nat} {t u : TypeId} {x i y : Operand} {ty ty2 : TypeId} {pos pos2 : String} {af af2 : Array Edge} {g g2 : Option (Nat × Bool)} {et : TypeId} {s1 s2 : Nat} {z : Value} {ti : TI} {b off len cap : Nat} {C : List Value} {k : IntKind} {iv : Int} {v : Value} (j : Nat)
    (hb : Blk et w b C) (hj : iv = j) (hlt : j < len) (hC : off + len ≤ C.length)
    (ht : lookT T t = some ⟨.slice et, s1, s2, z⟩) (hte : lookT T et = some ti) (hsz : ti.size = 1) (hu : u = et)
    (hx : ov E x = some (.slice (some ⟨b, off, none⟩) len cap)) (hi : ov E i = some (.int k iv)) (hg : wantE ops E g = some true) (hn : Nat.blt d1 n = true) (hg2 : ∀ p, wantE ops ((d1, p) :: E) g2 = some true)
    (hy : ∀ p, ov ((d1, p) :: E) y = some v) (hv : v.cells = #[v]) (hv1 : v.oneCell' = true)
    (next : ∀ p w', Blk et w' b (C.set (off + j) v) → Upd b w w' → StL P n ((d1, p) :: E) w' ops rest Q) :
    StL P n E w ops (⟨some d1, .indexAddr t x i, ty, pos, af, g⟩ :: ⟨none, .store u (.tmp d1) y, ty2, pos2, af2, g2⟩ :: rest) Q := by
  subst hu
  refine StL.step rfl hg hn (RunsTo.indexAddr hT ht hte hsz hx hi (by omega) (by omega)).op ?_
  rintro p w' ⟨rfl, rfl⟩
  rw [show iv.toNat = j from by omega, addr_add]
  have hl : ov ((d1, .pointer (some ⟨b, off + j, none⟩)) :: E) (.tmp d1) = some (.pointer (some ⟨b, off + j, none⟩)) := look_cons_self _ _ _
  refine StL.step0 rfl (hg2 _) (OpR.store hT (vs := [v]) hte hl (hy _) (by rw [hv]) (by simp [hsz]) hb (by simp; omega) (by simpa using hv1)) ?_
  rintro _ w' ⟨h1, h2⟩
  exact next _ w' h1 h2

end lists

section cut
variable {P : Program} {n : Nat} {E : List (Nat × Value)} {w : World} {Q : Exit → Act → World → Prop}

/-- What stands where two ways meet. -/
def Met {α : Type} (n : Nat) (Em : α → List (Nat × Value)) (I : α → World → Prop) (a : Act) (w : World) : Prop := ∃ g, Fits n (Em g) a ∧ I g w

theorem St.cut {α : Type} (Em : α → List (Nat × Value)) (I : α → World → Prop) {x y : Code} (hx : St P n E w x (Exit.then (Met n Em I) Q)) (hy : ∀ g w, I g w → St P n (Em g) w y Q) : St P n E w (.seq x y) Q := by
  intro a ha
  refine wp_seq (wp_mono (hx a ha) ?_)
  intro e a2 w2 hq
  cases e with
  | normal =>
    obtain ⟨g, hf, hI⟩ := hq
    exact hy g w2 hI a2 hf
  | exit id => exact hq
  | goto l => exact hq
  | ret => exact hq
  | panic ch => exact hq
  | outgrown => exact hq

theorem Out.met {α : Type} {Em : α → List (Nat × Value)} {I : α → World → Prop} (g : α) (hs : Sub (Em g) E) (hI : I g w) : Out n E w .normal (Exit.then (Met n Em I) Q) := fun _ ha => ⟨g, ha.sub hs, hI⟩
end cut
end Go.Qf

/- A region that draws its order: each operation is shown alone, under what those before it have left; what an operation has left stays, whatever comes beside it. -/
namespace Go.Qf
open Go Go.RowKit

def edgesTo (o : Oper) : List Nat := (o.after.toList.filter (Region.binds .any)).map (·.on)

theorem mem_edgesTo {o : Oper} {j : Nat} : j ∈ edgesTo o ↔ ∃ e ∈ o.after, Region.binds .any e = true ∧ e.on = j := by
  simp [edgesTo, and_assoc]

def maskOf (acc : List Nat) (o : Oper) : Nat := (edgesTo o).foldl (fun s e => s ||| 2 ^ e ||| acc.getD e 0) 0

def masks : List Nat → List Oper → List Nat
  | acc, [] => acc
  | acc, o :: r => masks (acc ++ [maskOf acc o]) r

theorem foldl_bit (acc : List Nat) (j : Nat) : ∀ (es : List Nat) (s : Nat), (es.foldl (fun s e => s ||| 2 ^ e ||| acc.getD e 0) s).testBit j = true →
    s.testBit j = true ∨ ∃ e ∈ es, e = j ∨ (acc.getD e 0).testBit j = true := by
  intro es
  induction es with
  | nil => intro s h; exact .inl h
  | cons e r ih =>
    intro s h
    rw [List.foldl_cons] at h
    rcases ih _ h with h1 | ⟨e', he, h1⟩
    · rw [Nat.testBit_or, Nat.testBit_or, Bool.or_eq_true, Bool.or_eq_true, Nat.testBit_two_pow, decide_eq_true_eq] at h1
      rcases h1 with (h1 | h1) | h1
      · exact .inl h1
      · exact .inr ⟨e, by simp, .inl h1⟩
      · exact .inr ⟨e, by simp, .inr h1⟩
    · exact .inr ⟨e', by simp [he], h1⟩

section
variable {l : List Oper} {L : Nat → Prop}

theorem masks_spec (hcl : ∀ i o, l[i]? = some o → L i → ∀ e ∈ edgesTo o, L e) :
    ∀ (r : List Oper) (acc : List Nat) (pre : List Oper), l = pre ++ r → acc.length = pre.length →
      (∀ k o, k < acc.length → l[k]? = some o → (∀ e ∈ edgesTo o, L e) → ∀ j, (acc.getD k 0).testBit j = true → L j) →
      ∀ k o, l[k]? = some o → (∀ e ∈ edgesTo o, L e) → ∀ j, ((masks acc r).getD k 0).testBit j = true → L j := by
  intro r
  induction r with
  | nil =>
    intro acc pre hl hlen h k o hk he j hj
    have : k < acc.length := by
      have := (List.getElem?_eq_some_iff.1 hk).1
      rw [hl] at this
      simp at this
      omega
    exact h k o this hk he j hj
  | cons o r ih =>
    intro acc pre hl hlen h
    refine ih (acc ++ [maskOf acc o]) (pre ++ [o]) (by simp [hl]) (by simp [hlen]) ?_
    intro k o' hk hk2 he j hj
    by_cases hlt : k < acc.length
    · have hg : (acc ++ [maskOf acc o]).getD k 0 = acc.getD k 0 := by simp [List.getD_eq_getElem?_getD, List.getElem?_append_left hlt]
      rw [hg] at hj
      exact h k o' hlt hk2 he j hj
    · have hk' : k = acc.length := by simp at hk; omega
      subst hk'
      have ho : o' = o := by
        rw [hl, hlen] at hk2
        simpa using hk2.symm
      subst ho
      have : (acc ++ [maskOf acc o']).getD acc.length 0 = maskOf acc o' := by simp [List.getD_eq_getElem?_getD]
      rw [this] at hj
      rcases foldl_bit acc j (edgesTo o') 0 hj with h1 | ⟨e, hee, h1 | h1⟩
      · simp at h1
      · subst h1; exact he e hee
      · by_cases hlt2 : e < acc.length
        · have hex : ∃ o2, l[e]? = some o2 := by
            have : e < l.length := by rw [hl]; simp; omega
            exact ⟨_, List.getElem?_eq_getElem this⟩
          obtain ⟨o2, ho2⟩ := hex
          exact h e o2 hlt2 ho2 (fun e' h' => hcl e o2 ho2 (he e hee) e' h') j h1
        · rw [List.getD_eq_getElem?_getD, List.getElem?_eq_none (by omega)] at h1
          simp at h1

end

def slotsOfOp (op : Op) : List Nat := op.operands.toList.filterMap fun | .tmp t => some t | _ => none

/-- The slots that an operation looks at: its operands, and what its guard asks. -/
def looks (l : List Oper) (o : Oper) : List Nat :=
  slotsOfOp o.op ++ (match o.guard with
    | none => []
    | some (j, _) => match (l[j]?).bind (·.dst) with
      | some d => [d]
      | none => [])

abbrev Psi := Value → World → Prop
def lookP : List (Nat × Psi) → Nat → Option Psi
  | [], _ => none
  | (k, v) :: r, n => bif Nat.beq k n then some v else lookP r n

/-- What is known of the slots ts, where each holds a value of which its own fact says. -/
def obl (S : List (Nat × Psi)) : List Nat → List (Nat × Value) → World → (List (Nat × Value) → Prop) → Prop
  | [], E, _, k => k E
  | t :: ts, E, w, k =>
    match lookP S t with
    | some ψ => ∀ v, ψ v w → obl S ts ((t, v) :: E) w k
    | none => obl S ts E w k

def allP : List (Nat × Psi) → List (Nat × Value) → World → (List (Nat × Value) → Prop) → Prop
  | [], E, _, k => k E
  | (t, ψ) :: r, E, w, k => ∀ v, ψ v w → allP r ((t, v) :: E) w k

def monoP : List (Nat × Psi) → Prop
  | [] => True
  | (_, ψ) :: r => (∀ v w w', Ext w w' → ψ v w → ψ v w') ∧ monoP r

/-- Where a block is made for a variable. -/
def isAlloc : Op → Bool
  | .alloc _ => true
  | .box _ _ => true
  | _ => false

/-- What an operation must leave. -/
def After (o : Oper) (S : List (Nat × Psi)) (w1 : World) (v : Value) (w2 : World) : Prop :=
  Ext w1 w2 ∧ (∀ d ψ, o.dst = some d → lookP S d = some ψ → ψ v w2) ∧ (isAlloc o.op = true → ∃ b, v = .pointer (some ⟨b, 0, none⟩) ∧ w1.heap.size ≤ b ∧ b < w2.heap.size)

/-- The slots of the variables that the first m operations make. -/
def allocs : List Oper → List Nat
  | [] => []
  | o :: r => match o.dst with
    | some d => bif isAlloc o.op then d :: allocs r else allocs r
    | none => allocs r

/-- No two of them are one. -/
def Dist (ts : List Nat) (E : List (Nat × Value)) : Prop := ∀ t, t ∈ ts → ∀ t', t' ∈ ts → t ≠ t' → ∀ v, look E t = some v → look E t' = some v → False

/-- One goal an operation. -/
def steps (P : Program) (n : Nat) (l : List Oper) (S : List (Nat × Psi)) (E : List (Nat × Value)) (w : World) : List Oper → Prop
  | [] => True
  | o :: r => (∀ w1, Ext w w1 → obl S (looks l o) E w1 (fun E2 => OpG P n l.toArray o E2 w1 (After o S w1))) ∧ steps P n l S E w r

def isNone' : Option Value → Bool
  | none => true
  | some _ => false

def dsts : List Oper → List Nat
  | [] => []
  | o :: r => match o.dst with
    | some d => d :: dsts r
    | none => dsts r

/-- The closed facts on the region. -/
def drawOk (l : List Oper) (m : Nat) (S : List Nat) : Bool :=
  Nat.ble m l.length &&
  (List.range l.length).all (fun i => match l[i]? with | some o => (edgesTo o).all (fun e => Nat.blt e i) | none => false) &&
  (List.range m).all (fun i => match l[i]? with
    | some o => (match o.dst with | some d => S.contains d | none => false) && (looks l o).all (fun t => !(S.contains t) || (List.range m).any (fun j => match l[j]? with | some oj => oj.dst == some t && (edgesTo o).contains j | none => false))
    | none => false) &&
  (List.range m).all (fun i => (List.range m).all (fun j => Nat.beq i j || match l[i]?, l[j]? with | some a, some b => !(a.dst == b.dst) | _, _ => false)) &&
  S.all (fun t => (List.range m).any (fun j => match l[j]? with | some oj => oj.dst == some t | none => false)) &&
  (List.range l.length).all (fun k => Nat.blt k m || (List.range k).all (fun j => ((masks [] l).getD k 0).testBit j))

def freeE : List Nat → List (Nat × Value) → Bool
  | [], _ => true
  | d :: r, E => isNone' (look E d) && freeE r E

theorem freeE_spec {E : List (Nat × Value)} : ∀ {S : List Nat}, freeE S E = true → ∀ d ∈ S, look E d = none := by
  intro S
  induction S with
  | nil => intro _ d hd; cases hd
  | cons x r ih =>
    intro h d hd
    simp only [freeE, Bool.and_eq_true] at h
    rcases List.mem_cons.1 hd with rfl | hd
    · cases hl : look E d with
      | none => rfl
      | some v => rw [hl] at h; simp [isNone'] at h
    · exact ih h.2 d hd

structure DrawOk (l : List Oper) (m : Nat) (S : List Nat) : Prop where
  le : m ≤ l.length
  back : ∀ i o, l[i]? = some o → ∀ e ∈ edgesTo o, e < i
  dst : ∀ i o, i < m → l[i]? = some o → ∃ d, o.dst = some d ∧ d ∈ S
  pred : ∀ i o, i < m → l[i]? = some o → ∀ t ∈ looks l o, t ∈ S → ∃ j oj, j < m ∧ l[j]? = some oj ∧ oj.dst = some t ∧ j ∈ edgesTo o
  inj : ∀ i j a b, i < m → j < m → l[i]? = some a → l[j]? = some b → a.dst = b.dst → i = j
  src : ∀ t ∈ S, ∃ j oj, j < m ∧ l[j]? = some oj ∧ oj.dst = some t
  last : ∀ k, m ≤ k → k < l.length → ∀ j, j < k → ((masks [] l).getD k 0).testBit j = true

theorem drawOk_spec {l : List Oper} {m : Nat} {S : List Nat} (h : drawOk l m S = true) : DrawOk l m S := by
  simp only [drawOk, Bool.and_eq_true] at h
  obtain ⟨⟨⟨⟨⟨h1, h2⟩, h3⟩, h4⟩, h5⟩, h6⟩ := h
  have hle := Nat.le_of_ble_eq_true h1
  refine ⟨hle, ?_, ?_, ?_, ?_, ?_, ?_⟩
  · intro i o ho e he
    have hi := (List.getElem?_eq_some_iff.1 ho).1
    have := List.all_eq_true.1 h2 i (List.mem_range.2 hi)
    rw [ho] at this
    simpa [Nat.blt_eq] using List.all_eq_true.1 this e he
  · intro i o hi ho
    have := List.all_eq_true.1 h3 i (List.mem_range.2 hi)
    rw [ho] at this
    simp only [Bool.and_eq_true] at this
    cases hd : o.dst with
    | none => rw [hd] at this; simp at this
    | some d => rw [hd] at this; exact ⟨d, rfl, by simpa using this.1⟩
  · intro i o hi ho t ht hS
    have := List.all_eq_true.1 h3 i (List.mem_range.2 hi)
    rw [ho] at this
    simp only [Bool.and_eq_true] at this
    have h7 := List.all_eq_true.1 this.2 t ht
    simp only [Bool.or_eq_true] at h7
    rcases h7 with h7 | h7
    · simp [hS] at h7
    · obtain ⟨j, hj, h8⟩ := List.any_eq_true.1 h7
      cases hoj : l[j]? with
      | none => rw [hoj] at h8; simp at h8
      | some oj =>
        rw [hoj] at h8
        simp only [Bool.and_eq_true, beq_iff_eq, List.contains_iff_mem] at h8
        exact ⟨j, oj, List.mem_range.1 hj, hoj, h8.1, h8.2⟩
  · intro i j a b hi hj ha hb hab
    have := List.all_eq_true.1 (List.all_eq_true.1 h4 i (List.mem_range.2 hi)) j (List.mem_range.2 hj)
    rw [ha, hb] at this
    simp only [Bool.or_eq_true] at this
    rcases this with h7 | h7
    · exact Nat.eq_of_beq_eq_true h7
    · simp [hab] at h7
  · intro t ht
    obtain ⟨j, hj, h8⟩ := List.any_eq_true.1 (List.all_eq_true.1 h5 t ht)
    cases hoj : l[j]? with
    | none => rw [hoj] at h8; simp at h8
    | some oj =>
      rw [hoj] at h8
      exact ⟨j, oj, List.mem_range.1 hj, hoj, by simpa using h8⟩
  · intro k hk hk2 j hj
    have := List.all_eq_true.1 h6 k (List.mem_range.2 hk2)
    simp only [Bool.or_eq_true] at this
    rcases this with h7 | h7
    · simp [Nat.blt_eq] at h7; omega
    · exact List.all_eq_true.1 h7 j (List.mem_range.2 hj)

/-- All operations before k have come up, no other. -/
theorem stageB {P : Program} {l : List Oper} {m : Nat} (hback : ∀ i o, l[i]? = some o → ∀ e ∈ edgesTo o, e < i) (hlast : ∀ k, m ≤ k → k < l.length → ∀ j, j < k → ((masks [] l).getD k 0).testBit j = true) {Q : Exit → Act → World → Prop} : ∀ (f k : Nat) (listed : Array Bool) (a : Act) (w : World), k + f = l.length → m ≤ k → listed.size = l.length →
    (∀ i, i < k → listed.getD i false = true) → (∀ i, k ≤ i → listed.getD i false = false) → wpList P l.toArray Q (l.drop k) a w → wpAny P .any l.toArray Q f listed a w := by
  intro f
  induction f with
  | zero =>
    intro k listed a w hkf hmk hsz h1 h2 hw
    have hk : k = l.length := by omega
    subst hk
    refine ⟨?_, by simpa [wpList] using hw⟩
    apply List.eq_nil_iff_forall_not_mem.2
    intro i hi
    obtain ⟨h3, o, ho, _⟩ := mem_ready.1 hi
    have hi' : i < l.length := by
      have := (Array.getElem?_eq_some_iff.1 ho).1
      simpa using this
    have := h1 i hi'
    simp [Array.getD_eq_getD_getElem?] at h3 this
    cases hx : listed[i]? <;> simp [hx] at h3 this
    rw [h3] at this; cases this
  | succ f ih =>
    intro k listed a w hkf hmk hsz h1 h2 hw
    have hkl : k < l.length := by omega
    have hok : l.toArray[k]? = some l[k] := by simp [hkl]
    have hgd : ∀ i, i < l.length → listed.getD i true = listed.getD i false := fun i hi => by
      have : i < listed.size := by omega
      simp [Array.getD_eq_getD_getElem?, this]
    have hready : k ∈ Region.ready .any l.toArray listed := by
      refine mem_ready.2 ⟨by rw [hgd k hkl]; exact h2 k (Nat.le_refl _), l[k], hok, fun e he hb => h1 _ ?_⟩
      exact hback k l[k] (List.getElem?_eq_getElem hkl) e.on (mem_edgesTo.2 ⟨e, he, hb, rfl⟩)
    refine ⟨fun h => (by rw [h] at hready; cases hready), fun i hi => ?_⟩
    obtain ⟨h3, o, ho, hall⟩ := mem_ready.1 hi
    have hil : i < l.length := by
      have := (Array.getElem?_eq_some_iff.1 ho).1
      simpa using this
    have hol : l[i]? = some o := by simpa using ho
    rw [hgd i hil] at h3
    have hik : i = k := by
      rcases Nat.lt_trichotomy i k with h4 | h4 | h4
      · rw [h1 i h4] at h3; cases h3
      · exact h4
      · exfalso
        have hcl : ∀ j oj, l[j]? = some oj → (listed.getD j false = true) → ∀ e ∈ edgesTo oj, listed.getD e false = true := by
          intro j oj hj hl e he
          have hlt : j < k := by
            rcases Nat.lt_or_ge j k with h5 | h5
            · exact h5
            · rw [h2 j h5] at hl; cases hl
          have := hback j oj hj e he
          exact h1 e (by omega)
        have := masks_spec (l := l) (L := fun j => listed.getD j false = true) hcl l [] [] rfl rfl (fun j _ hj => by simp at hj) i o hol
          (fun e he => by obtain ⟨e', h5, h6, h7⟩ := mem_edgesTo.1 he; subst h7; exact hall e' h5 h6) k (hlast i (by omega) hil k h4)
        rw [h2 k (Nat.le_refl _)] at this
        cases this
    subst hik
    have hoo : o = l[i] := by rw [List.getElem?_eq_getElem hil] at hol; exact (Option.some.inj hol).symm
    rw [List.drop_eq_getElem_cons hil, ← hoo] at hw
    unfold wpOp
    simp only [ho]
    unfold wpList at hw
    have next : ∀ a w, wpList P l.toArray Q (l.drop (i + 1)) a w → wpAny P .any l.toArray Q f (listed.setIfInBounds i true) a w := by
      intro a w hw
      refine ih (i + 1) _ a w (by omega) (by omega) (by simpa using hsz) ?_ ?_ hw
      · intro j hj
        by_cases e : j = i
        · subst e; simp [Array.getD_eq_getD_getElem?, hsz, hil]
        · have := h1 j (by omega)
          simp only [Array.getD_eq_getD_getElem?] at this ⊢
          rw [Array.getElem?_setIfInBounds_ne (fun e' => e e'.symm)]
          exact this
      · intro j hj
        have := h2 j (by omega)
        simp only [Array.getD_eq_getD_getElem?] at this ⊢
        rw [Array.getElem?_setIfInBounds_ne (by omega)]
        exact this
    split
    · rename_i hwant
      rw [if_pos hwant] at hw
      rcases hw with hw | hw
      · exact .inl (Oper.wp_mono next hw)
      · exact .inr hw
    · rename_i hwant
      rw [if_neg hwant] at hw
      exact next _ _ hw

structure InvA (P : Program) (n : Nat) (l : List Oper) (m : Nat) (S : List (Nat × Psi)) (E : List (Nat × Value)) (w0 : World) (listed : Array Bool) (a : Act) (w : World) : Prop where
  size : listed.size = l.length
  closed : ∀ i o, l[i]? = some o → listed.getD i false = true → ∀ e ∈ edgesTo o, listed.getD e false = true
  tmps : a.tmps.size = n
  defers : a.defers = []
  base : ∀ k v, look E k = some v → a.tmps[k]? = some v
  facts : ∀ i o d ψ, i < m → l[i]? = some o → listed.getD i false = true → o.dst = some d → lookP S d = some ψ → ∃ v, a.tmps[d]? = some v ∧ ψ v w
  ext : Ext w0 w
  noB : ∀ i, m ≤ i → listed.getD i false = false
  made : ∀ i o d, i < m → l[i]? = some o → listed.getD i false = true → isAlloc o.op = true → o.dst = some d → ∃ b, a.tmps[d]? = some (.pointer (some ⟨b, 0, none⟩)) ∧ b < w.heap.size
  apart : ∀ i j oi oj di dj v, i < m → j < m → i ≠ j → l[i]? = some oi → l[j]? = some oj → listed.getD i false = true → listed.getD j false = true → isAlloc oi.op = true → isAlloc oj.op = true → oi.dst = some di → oj.dst = some dj → a.tmps[di]? = some v → a.tmps[dj]? = some v → False

theorem mem_allocs {t : Nat} : ∀ {l : List Oper}, t ∈ allocs l → ∃ (i : Nat) (o : Oper), l[i]? = some o ∧ isAlloc o.op = true ∧ o.dst = some t := by
  intro l
  induction l with
  | nil => intro h; cases h
  | cons o r ih =>
    intro h
    unfold allocs at h
    split at h
    · rename_i d hd
      cases hb : isAlloc o.op with
      | true =>
        rw [hb] at h
        simp only [cond_true, List.mem_cons] at h
        rcases h with rfl | h
        · exact ⟨0, o, rfl, hb, hd⟩
        · obtain ⟨i, o', h1, h2, h3⟩ := ih h
          exact ⟨i + 1, o', by simpa using h1, h2, h3⟩
      | false =>
        rw [hb] at h
        simp only [cond_false] at h
        obtain ⟨i, o', h1, h2, h3⟩ := ih h
        exact ⟨i + 1, o', by simpa using h1, h2, h3⟩
    · obtain ⟨i, o', h1, h2, h3⟩ := ih h
      exact ⟨i + 1, o', by simpa using h1, h2, h3⟩

theorem lookP_mem {S : List (Nat × Psi)} {t : Nat} : t ∈ S.map (·.1) → ∃ ψ, lookP S t = some ψ := by
  induction S with
  | nil => intro h; cases h
  | cons p r ih =>
    obtain ⟨k, ψ⟩ := p
    intro h
    by_cases e : k = t
    · subst e; exact ⟨ψ, by simp [lookP]⟩
    · have hb : Nat.beq k t = false := by
        cases hb : Nat.beq k t
        · rfl
        · exact absurd (Nat.eq_of_beq_eq_true hb) e
      simp only [List.map_cons, List.mem_cons] at h
      obtain ⟨φ, hφ⟩ := ih (h.resolve_left (fun x => e x.symm))
      exact ⟨φ, by simp [lookP, hb, hφ]⟩

theorem lookP_in {S : List (Nat × Psi)} {t : Nat} {ψ : Psi} : lookP S t = some ψ → (t, ψ) ∈ S := by
  induction S with
  | nil => intro h; simp [lookP] at h
  | cons p r ih =>
    obtain ⟨k, φ⟩ := p
    intro h
    by_cases e : k = t
    · subst e; simp [lookP] at h; subst h; simp
    · have hb : Nat.beq k t = false := by
        cases hb : Nat.beq k t
        · rfl
        · exact absurd (Nat.eq_of_beq_eq_true hb) e
      simp [lookP, hb] at h
      exact List.mem_cons_of_mem _ (ih h)

theorem monoP_spec : ∀ {S : List (Nat × Psi)}, monoP S → ∀ {t : Nat} {ψ : Psi}, lookP S t = some ψ → ∀ v w w', Ext w w' → ψ v w → ψ v w' := by
  intro S
  induction S with
  | nil => intro _ t ψ h; simp [lookP] at h
  | cons p r ih =>
    obtain ⟨k, φ⟩ := p
    intro hm t ψ h
    by_cases e : k = t
    · subst e; simp [lookP] at h; subst h; exact hm.1
    · have hb : Nat.beq k t = false := by
        cases hb : Nat.beq k t
        · rfl
        · exact absurd (Nat.eq_of_beq_eq_true hb) e
      simp [lookP, hb] at h
      exact ih hm.2 h

/-- The facts at hand, laid into the goal of one operation. -/
theorem obl_spec {n : Nat} {S : List (Nat × Psi)} {w : World} {a : Act} {k : List (Nat × Value) → Prop} (hsz : a.tmps.size = n) (hdf : a.defers = []) : ∀ (ts : List Nat) (E : List (Nat × Value)), (∀ k v, look E k = some v → a.tmps[k]? = some v) →
    (∀ t ∈ ts, ∀ ψ, lookP S t = some ψ → ∃ v, a.tmps[t]? = some v ∧ ψ v w) → obl S ts E w k → ∃ E2, Fits n E2 a ∧ k E2 := by
  intro ts
  induction ts with
  | nil => intro E hE _ h; exact ⟨E, ⟨hsz, hdf, hE⟩, h⟩
  | cons t r ih =>
    intro E hE hf h
    simp only [obl] at h
    split at h
    · rename_i ψ hψ
      obtain ⟨v, hv, hp⟩ := hf t (by simp) ψ hψ
      refine ih ((t, v) :: E) ?_ (fun t' ht' => hf t' (by simp [ht'])) (h v hp)
      intro k' u hk
      by_cases e : t = k'
      · subst e; rw [look_cons_self] at hk; cases hk; exact hv
      · rw [look_cons_ne _ _ e] at hk; exact hE k' u hk
    · exact ih E hE (fun t' ht' => hf t' (by simp [ht'])) h

theorem allP_spec {n : Nat} {w : World} {a : Act} {k : List (Nat × Value) → Prop} (hsz : a.tmps.size = n) (hdf : a.defers = []) : ∀ (S : List (Nat × Psi)) (E : List (Nat × Value)), (∀ k v, look E k = some v → a.tmps[k]? = some v) →
    (∀ t ψ, (t, ψ) ∈ S → ∃ v, a.tmps[t]? = some v ∧ ψ v w) → allP S E w k → ∃ E2, Fits n E2 a ∧ k E2 := by
  intro S
  induction S with
  | nil => intro E hE _ h; exact ⟨E, ⟨hsz, hdf, hE⟩, h⟩
  | cons p r ih =>
    obtain ⟨t, ψ⟩ := p
    intro E hE hf h
    obtain ⟨v, hv, hp⟩ := hf t ψ (by simp)
    refine ih ((t, v) :: E) ?_ (fun t' ψ' ht' => hf t' ψ' (by simp [ht'])) (h v hp)
    intro k' u hk
    by_cases e : t = k'
    · subst e; rw [look_cons_self] at hk; cases hk; exact hv
    · rw [look_cons_ne _ _ e] at hk; exact hE k' u hk

theorem steps_spec {P : Program} {n : Nat} {l : List Oper} {S : List (Nat × Psi)} {E : List (Nat × Value)} {w : World} : ∀ {r : List Oper}, steps P n l S E w r → ∀ o ∈ r,
    ∀ w1, Ext w w1 → obl S (looks l o) E w1 (fun E2 => OpG P n l.toArray o E2 w1 (After o S w1)) := by
  intro r
  induction r with
  | nil => intro _ o ho; cases ho
  | cons x r ih =>
    intro h o ho
    rcases List.mem_cons.1 ho with rfl | ho
    · exact h.1
    · exact ih h.2 o ho

/-- Each slot fact once. -/
def nodupKeys : List Nat → Bool
  | [] => true
  | x :: r => !(r.contains x) && nodupKeys r

theorem lookP_of_in {S : List (Nat × Psi)} (hn : nodupKeys (S.map (·.1)) = true) {t : Nat} {ψ : Psi} (h : (t, ψ) ∈ S) : lookP S t = some ψ := by
  induction S with
  | nil => cases h
  | cons p r ih =>
    obtain ⟨k, φ⟩ := p
    simp only [List.map_cons, nodupKeys, Bool.and_eq_true] at hn
    rcases List.mem_cons.1 h with h | h
    · cases h; simp [lookP]
    · have e : k ≠ t := by
        intro e; subst e
        have : k ∈ r.map (·.1) := List.mem_map.2 ⟨_, h, rfl⟩
        simp at hn
        exact hn.1 _ h
      have hb : Nat.beq k t = false := by
        cases hb : Nat.beq k t
        · rfl
        · exact absurd (Nat.eq_of_beq_eq_true hb) e
      simp only [lookP, hb, cond_false]
      exact ih hn.2 h

theorem stageA {P : Program} {n : Nat} {l : List Oper} {m : Nat} {S : List (Nat × Psi)} {E : List (Nat × Value)} {w0 : World} {Q : Exit → Act → World → Prop} (hD : DrawOk l m (S.map (·.1))) (hmono : monoP S) (hfree : ∀ d ∈ S.map (·.1), look E d = none)
    (hlt : ∀ d ∈ S.map (·.1), d < n) (hsteps : steps P n l S E w0 (l.take m)) (hnd : nodupKeys (S.map (·.1)) = true)
    (hend : ∀ w1, Ext w0 w1 → allP S E w1 (fun E2 => Dist (allocs (l.take m)) E2 → StL P n E2 w1 l.toArray (l.drop m) Q)) :
    ∀ (f : Nat) (U : List Nat) (listed : Array Bool) (a : Act) (w : World), f = (l.length - m) + U.length → U.Nodup → (∀ i, i ∈ U ↔ i < m ∧ listed.getD i false = false) → InvA P n l m S E w0 listed a w → wpAny P .any l.toArray Q f listed a w := by
  have hdist : ∀ {listed : Array Bool} {a : Act} {w : World}, (∀ i, i ∈ ([] : List Nat) ↔ i < m ∧ listed.getD i false = false) → InvA P n l m S E w0 listed a w → ∀ E2, Fits n E2 a → Dist (allocs (l.take m)) E2 := by
    intro listed a w hmem hI E2 hfit t ht t' ht' hne v hv hv'
    obtain ⟨i, oi, hi, hai, hdi⟩ := mem_allocs ht
    obtain ⟨j, oj, hj, haj, hdj⟩ := mem_allocs ht'
    have him : i < m := by have := (List.getElem?_eq_some_iff.1 hi).1; simp at this; omega
    have hjm : j < m := by have := (List.getElem?_eq_some_iff.1 hj).1; simp at this; omega
    rw [List.getElem?_take_of_lt him] at hi
    rw [List.getElem?_take_of_lt hjm] at hj
    have hL : ∀ i, i < m → listed.getD i false = true := fun i hi => by
      cases hx : listed.getD i false with
      | true => rfl
      | false => have := (hmem i).2 ⟨hi, hx⟩; cases this
    refine hI.apart i j oi oj t t' v him hjm ?_ hi hj (hL i him) (hL j hjm) hai haj hdi hdj (hfit.slots t v hv) (hfit.slots t' v hv')
    intro e; subst e
    rw [hi] at hj; cases hj
    rw [hdi] at hdj; cases hdj
    exact hne rfl
  intro f
  induction f with
  | zero =>
    intro U listed a w hf hU hmem hI
    have hm : m = l.length := by have := hD.le; omega
    have h0 : U = [] := List.eq_nil_of_length_eq_zero (by omega)
    subst h0
    refine stageB hD.back hD.last 0 m listed a w (by omega) (Nat.le_refl _) hI.size ?_ hI.noB ?_
    · intro i hi
      cases hx : listed.getD i false with
      | true => rfl
      | false => have := (hmem i).2 ⟨hi, hx⟩; cases this
    · obtain ⟨E2, hfit, hst⟩ := allP_spec hI.tmps hI.defers S E hI.base (fun t ψ ht => by
        obtain ⟨j, oj, hj, hoj, hdj⟩ := hD.src t (List.mem_map.2 ⟨_, ht, rfl⟩)
        have hl : listed.getD j false = true := by
          cases hx : listed.getD j false with
          | true => rfl
          | false => have := (hmem j).2 ⟨hj, hx⟩; cases this
        exact hI.facts j oj t ψ hj hoj hl hdj (lookP_of_in hnd ht)) (hend w hI.ext)
      exact hst (hdist hmem hI E2 hfit) a hfit
  | succ f ih =>
    intro U listed a w hf hU hmem hI
    by_cases h0 : U = []
    · subst h0
      refine stageB hD.back hD.last (f + 1) m listed a w (by have := hD.le; simp at hf; omega) (Nat.le_refl _) hI.size ?_ hI.noB ?_
      · intro i hi
        cases hx : listed.getD i false with
        | true => rfl
        | false => have := (hmem i).2 ⟨hi, hx⟩; cases this
      · obtain ⟨E2, hfit, hst⟩ := allP_spec hI.tmps hI.defers S E hI.base (fun t ψ ht => by
          obtain ⟨j, oj, hj, hoj, hdj⟩ := hD.src t (List.mem_map.2 ⟨_, ht, rfl⟩)
          have hl : listed.getD j false = true := by
            cases hx : listed.getD j false with
            | true => rfl
            | false => have := (hmem j).2 ⟨hj, hx⟩; cases this
          exact hI.facts j oj t ψ hj hoj hl hdj (lookP_of_in hnd ht)) (hend w hI.ext)
        exact hst (hdist hmem hI E2 hfit) a hfit
    · have hgd : ∀ i, i < l.length → listed.getD i true = listed.getD i false := fun i hi => by
        have : i < listed.size := by have := hI.size; omega
        simp [Array.getD_eq_getD_getElem?, this]
      have hclo : ∀ (i : Nat) (o : Oper), l[i]? = some o → (∀ e ∈ edgesTo o, listed.getD e false = true) → ∀ j, ((masks [] l).getD i 0).testBit j = true → listed.getD j false = true :=
        masks_spec (l := l) (L := fun j => listed.getD j false = true) hI.closed l [] [] rfl rfl (fun j _ hj => by simp at hj)
      constructor
      · intro hr
        exfalso
        obtain ⟨x, hx⟩ := List.exists_mem_of_ne_nil U h0
        -- the least operation that has not come up is ready
        have hleast : ∀ b, ∀ i, i < b → i < m → listed.getD i false = false → ∃ i0, i0 < m ∧ listed.getD i0 false = false ∧ ∀ j, j < i0 → listed.getD j false = true := by
          intro b
          induction b with
          | zero => intro i hi; omega
          | succ b ihb =>
            intro i hi him hil
            by_cases hall : ∀ j, j < i → listed.getD j false = true
            · exact ⟨i, him, hil, hall⟩
            · have : ∃ j, j < i ∧ listed.getD j false = false := by
                apply Classical.byContradiction
                intro hne
                apply hall
                intro j hj
                cases hx : listed.getD j false with
                | true => rfl
                | false => exact absurd ⟨j, hj, hx⟩ hne
              obtain ⟨j, hj, hjl⟩ := this
              exact ihb j (by omega) (by omega) hjl
        obtain ⟨i0, hi0, hl0, hbef⟩ := hleast (x + 1) x (by omega) ((hmem x).1 hx).1 ((hmem x).1 hx).2
        have hi0l : i0 < l.length := by have := hD.le; omega
        have : i0 ∈ Region.ready .any l.toArray listed := by
          refine mem_ready.2 ⟨by rw [hgd i0 hi0l]; exact hl0, l[i0], by simp [hi0l], fun e he hb => hbef _ ?_⟩
          exact hD.back i0 l[i0] (List.getElem?_eq_getElem hi0l) e.on (mem_edgesTo.2 ⟨e, he, hb, rfl⟩)
        rw [hr] at this
        cases this
      · intro i hi
        obtain ⟨h3, o, ho, hall⟩ := mem_ready.1 hi
        have hil : i < l.length := by
          have := (Array.getElem?_eq_some_iff.1 ho).1
          simpa using this
        have hol : l[i]? = some o := by simpa using ho
        rw [hgd i hil] at h3
        have hedges : ∀ e ∈ edgesTo o, listed.getD e false = true := fun e he => by
          obtain ⟨e', h5, h6, h7⟩ := mem_edgesTo.1 he; subst h7; exact hall e' h5 h6
        have him : i < m := by
          rcases Nat.lt_or_ge i m with h | h
          · exact h
          · exfalso
            obtain ⟨x, hx⟩ := List.exists_mem_of_ne_nil U h0
            have hxm := (hmem x).1 hx
            have := hclo i o hol hedges x (hD.last i h hil x (by omega))
            rw [hxm.2] at this
            cases this
        obtain ⟨d, hd, hdS⟩ := hD.dst i o him hol
        obtain ⟨ψ, hψ⟩ := lookP_mem hdS
        have hob := steps_spec hsteps o (by
          have : (l.take m)[i]? = some o := by rw [List.getElem?_take_of_lt him]; exact hol
          exact List.mem_of_getElem? this) w hI.ext
        obtain ⟨E2, hfit, hop⟩ := obl_spec hI.tmps hI.defers (looks l o) E hI.base (fun t ht φ hφ => by
          obtain ⟨j, oj, hj, hoj, hdj, hje⟩ := hD.pred i o him hol t ht (List.mem_map.2 ⟨_, lookP_in hφ, rfl⟩)
          exact hI.facts j oj t φ hj hoj (hedges j hje) hdj hφ) hob
        have hdn : d < n := hlt d hdS
        -- what holds behind the operation
        have next : ∀ v w2, After o S w v w2 → wpAny P .any l.toArray Q f (listed.setIfInBounds i true) (a.put o.dst v) w2 := by
          rintro v w2 ⟨hx2, hpsi, hnew⟩
          have hiU : i ∈ U := (hmem i).2 ⟨him, h3⟩
          have hset : ∀ j, (listed.setIfInBounds i true).getD j false = if j = i then true else listed.getD j false := by
            intro j
            simp only [Array.getD_eq_getD_getElem?]
            by_cases e : j = i
            · subst e; simp [hI.size, hil]
            · rw [Array.getElem?_setIfInBounds_ne (fun e' => e e'.symm), if_neg e]
          refine ih (U.erase i) _ _ w2 ?_ (hU.erase i) ?_ ⟨by simpa using hI.size, ?_, ?_, ?_, ?_, ?_, hI.ext.trans hx2, ?_, ?_, ?_⟩
          · have hpos : 0 < U.length := List.length_pos_of_mem hiU
            rw [List.length_erase_of_mem hiU]; omega
          · intro j
            rw [hU.mem_erase_iff, hset]
            constructor
            · rintro ⟨hne, hj⟩
              rw [if_neg hne]
              exact (hmem j).1 hj
            · rintro ⟨hj, hj2⟩
              by_cases e : j = i
              · rw [if_pos e] at hj2; cases hj2
              · rw [if_neg e] at hj2; exact ⟨e, (hmem j).2 ⟨hj, hj2⟩⟩
          · intro j oj hj hjl e he
            rw [hset] at hjl ⊢
            by_cases e1 : e = i
            · rw [if_pos e1]
            · rw [if_neg e1]
              by_cases e2 : j = i
              · subst e2
                rw [hol] at hj; cases hj
                exact hedges e he
              · rw [if_neg e2] at hjl
                exact hI.closed j oj hj hjl e he
          · simp [hd, Act.put, hI.tmps]
          · simp [hd, Act.put, hI.defers]
          · intro k u hk
            have hne : d ≠ k := fun e => by
              subst e
              rw [hfree d hdS] at hk
              cases hk
            simp only [hd, Act.put]
            rw [Array.getElem?_setIfInBounds_ne hne]
            exact hI.base k u hk
          · intro j oj d' φ hj hoj hjl hd' hφ
            rw [hset] at hjl
            by_cases e : j = i
            · subst e
              rw [hol] at hoj; cases hoj
              rw [hd] at hd'; cases hd'
              refine ⟨v, ?_, hpsi d φ hd hφ⟩
              simp [hd, Act.put, hI.tmps, hdn]
            · rw [if_neg e] at hjl
              obtain ⟨u, hu, hφu⟩ := hI.facts j oj d' φ hj hoj hjl hd' hφ
              have hne : d ≠ d' := fun e' => e (hD.inj j i oj o hj him hoj hol (by rw [hd', hd, e']))
              refine ⟨u, ?_, monoP_spec hmono hφ u w w2 hx2 hφu⟩
              simp only [hd, Act.put]
              rw [Array.getElem?_setIfInBounds_ne hne]
              exact hu
          · intro j hj
            rw [hset, if_neg (by omega)]
            exact hI.noB j hj
          · intro j oj d' hj hoj hjl hal hd'
            rw [hset] at hjl
            by_cases e : j = i
            · subst e
              rw [hol] at hoj; cases hoj
              rw [hd] at hd'; cases hd'
              obtain ⟨b, rfl, _, hb⟩ := hnew hal
              exact ⟨b, by simp [hd, Act.put, hI.tmps, hdn], hb⟩
            · rw [if_neg e] at hjl
              obtain ⟨b, hb, hbl⟩ := hI.made j oj d' hj hoj hjl hal hd'
              have hne : d ≠ d' := fun e' => e (hD.inj j i oj o hj him hoj hol (by rw [hd', hd, e']))
              refine ⟨b, ?_, Nat.lt_of_lt_of_le hbl hx2.size⟩
              simp only [hd, Act.put]
              rw [Array.getElem?_setIfInBounds_ne hne]
              exact hb
          · -- the new one is not an old one
            have hold : ∀ j oj d' u, j < m → j ≠ i → l[j]? = some oj → listed.getD j false = true → isAlloc oj.op = true → oj.dst = some d' → (a.put o.dst v).tmps[d']? = some u → a.tmps[d']? = some u ∧ ∃ b, u = .pointer (some ⟨b, 0, none⟩) ∧ b < w.heap.size := by
              intro j oj d' u hj hne hoj hjl hal hd' hu
              obtain ⟨b, hb, hbl⟩ := hI.made j oj d' hj hoj hjl hal hd'
              have hne' : d ≠ d' := fun e' => hne (hD.inj j i oj o hj him hoj hol (by rw [hd', hd, e']))
              simp only [hd, Act.put] at hu
              rw [Array.getElem?_setIfInBounds_ne hne'] at hu
              rw [hb] at hu
              cases hu
              exact ⟨hb, b, rfl, hbl⟩
            have hnewv : isAlloc o.op = true → ∀ u, (a.put o.dst v).tmps[d]? = some u → ∃ b, u = .pointer (some ⟨b, 0, none⟩) ∧ w.heap.size ≤ b := by
              intro hal u hu
              obtain ⟨b, rfl, hb, _⟩ := hnew hal
              have : (a.put o.dst (.pointer (some ⟨b, 0, none⟩))).tmps[d]? = some (.pointer (some ⟨b, 0, none⟩)) := by simp [hd, Act.put, hI.tmps, hdn]
              rw [this] at hu
              cases hu
              exact ⟨b, rfl, hb⟩
            intro j k oj ok dj dk u hj hk hne hoj hok hjl hkl haj hak hdj hdk huj huk
            rw [hset] at hjl hkl
            by_cases e1 : j = i
            · subst e1
              have e2 : ¬ k = j := fun e => hne e.symm
              rw [if_neg e2] at hkl
              rw [hol] at hoj; cases hoj
              rw [hd] at hdj; cases hdj
              obtain ⟨_, b, hb, hbl⟩ := hold k ok dk u hk e2 hok hkl hak hdk huk
              obtain ⟨b', hb', hbl'⟩ := hnewv haj u huj
              rw [hb] at hb'; cases hb'
              omega
            · rw [if_neg e1] at hjl
              obtain ⟨huj', b, hb, hbl⟩ := hold j oj dj u hj e1 hoj hjl haj hdj huj
              by_cases e2 : k = i
              · subst e2
                rw [hol] at hok; cases hok
                rw [hd] at hdk; cases hdk
                obtain ⟨b', hb', hbl'⟩ := hnewv hak u huk
                rw [hb] at hb'; cases hb'
                omega
              · rw [if_neg e2] at hkl
                obtain ⟨huk', _⟩ := hold k ok dk u hk e2 hok hkl hak hdk huk
                exact hI.apart j k oj ok dj dk u hj hk hne hoj hok hjl hkl haj hak hdj hdk huj' huk'
        unfold wpOp
        simp only [ho]
        rcases hop with ⟨hwant, hop⟩ | ⟨hwant, hop⟩
        · rw [if_pos (wantE_spec hfit hwant)]
          exact .inl (hop a hfit Q _ next)
        · rw [if_neg (by rw [wantE_spec hfit hwant]; simp)]
          exact next undef w hop

/-- THE RULE for a region that draws its order: the first m operations come in any order that their edges allow, the others behind them one by one. -/
theorem St.draw {P : Program} {n : Nat} {l : List Oper} (m : Nat) (S : List (Nat × Psi)) {E : List (Nat × Value)} {w : World} {Q : Exit → Act → World → Prop} {id : Nat} (hP : P.follows .mixedOrders = true) (hD : drawOk l m (S.map (·.1)) = true) (hfree : freeE (S.map (·.1)) E = true)
    (hlt : (S.map (·.1)).all (fun d => Nat.blt d n) = true) (hnd : nodupKeys (S.map (·.1)) = true) (hmono : monoP S) (hsteps : steps P n l S E w (l.take m))
    (hend : ∀ w1, Ext w w1 → allP S E w1 (fun E2 => Dist (allocs (l.take m)) E2 → StL P n E2 w1 l.toArray (l.drop m) Q)) : St P n E w (.region id l.toArray true) Q := by
  intro a ha
  have hD' := drawOk_spec hD
  refine wp_region_any hP ?_
  have hx : Ext w { w with drawn := w.drawn + 1 } := ⟨rfl, rfl, rfl, Nat.le_refl _, fun _ _ => rfl⟩
  have hle := hD'.le
  have hrep : ∀ i, (Array.replicate l.toArray.size false).getD i false = false := by
    intro i
    simp [Array.getD_eq_getD_getElem?, Array.getElem?_replicate]
    split <;> simp
  refine stageA hD' hmono (freeE_spec hfree) (fun d hd => by simpa [Nat.blt_eq] using List.all_eq_true.1 hlt d hd) hsteps hnd hend l.toArray.size (List.range m) _ a _ (by simp; omega) List.nodup_range ?_ ⟨by simp, ?_, ha.size, ha.defers, ha.slots, ?_, hx, ?_, ?_, ?_⟩
  · intro i
    rw [List.mem_range, hrep]
    simp
  · intro i o _ h
    rw [hrep] at h; cases h
  · intro i o d ψ _ _ h
    rw [hrep] at h; cases h
  · intro i _
    exact hrep i
  · intro i o d _ _ h
    rw [hrep] at h; cases h
  · intro i j oi oj di dj v _ _ _ _ _ h
    rw [hrep] at h; cases h

end Go.Qf

/- Regions that draw their order and only read: one walk in the order of the text. And the goals of 'St.draw', by kind. -/
namespace Go.Qf
open Go Go.RowKit

def QL (P : Program) (n : Nat) (E : List (Nat × Value)) (w : World) (ops : Array Oper) (l : List Oper) (Q : Exit → Act → World → Prop) : Prop :=
  ∀ a, Fits n E a → wpQuiet P ops (fun w' => ∃ m, w' = w.drewN m) (fun a' => ∀ w', (∃ m, w' = w.drewN m) → Q .normal a' w') l a

section
variable {P : Program} {T : List (Nat × TI)} {n : Nat} {E : List (Nat × Value)} {w : World} {Q : Exit → Act → World → Prop} {ops : Array Oper} {rest : List Oper}

theorem QL.nil (h : ∀ m, Out n E (w.drewN m) .normal Q) : QL P n E w ops [] Q := fun a ha => wpQuiet_nil (by rintro w' ⟨m, rfl⟩; exact h m a ha)

theorem QL.step {o : Oper} {d : Nat} {v : Value} (hd : o.dst = some d) (hw : wantE ops E o.guard = some true) (hn : Nat.blt d n = true) (h : ∀ m, RunsTo P n o E (w.drewN m) v) (next : QL P n ((d, v) :: E) w ops rest Q) : QL P n E w ops (o :: rest) Q := by
  intro a ha
  refine wpQuiet_step fun K hK => ?_
  rw [if_pos (wantE_spec ha hw)]
  refine ⟨v, ?_, hK _ (next _ (by rw [hd]; exact ha.put hn v))⟩
  rintro w' ⟨m, rfl⟩
  unfold Oper.quietAt
  rw [h m a ha]
  exact ⟨rfl, rfl⟩

theorem QL.skip {o : Oper} {d : Nat} (hd : o.dst = some d) (hw : wantE ops E o.guard = some false) (hn : Nat.blt d n = true) (next : QL P n ((d, undef) :: E) w ops rest Q) : QL P n E w ops (o :: rest) Q := by
  intro a ha
  refine wpQuiet_step fun K hK => ?_
  rw [if_neg (by rw [wantE_spec ha hw]; simp)]
  exact hK _ (next _ (by rw [hd]; exact ha.put hn undef))

theorem QL.run (hT : TblOk P T) : ∀ (m : Nat) {E E' : List (Nat × Value)} {l l' : List Oper}, runPure T n ops m E l = (E', l') → QL P n E' w ops l' Q → QL P n E w ops l Q := by
  intro m
  induction m with
  | zero => intro E E' l l' h hn; simp only [runPure, Prod.mk.injEq] at h; obtain ⟨rfl, rfl⟩ := h; exact hn
  | succ m ih =>
    intro E E' l l' h hn
    cases l with
    | nil => simp only [runPure, Prod.mk.injEq] at h; obtain ⟨rfl, rfl⟩ := h; exact hn
    | cons o r =>
      simp only [runPure] at h
      split at h
      · rename_i d hd hw
        cases hb : Nat.blt d n with
        | false => rw [hb] at h; simp only [cond_false, Prod.mk.injEq] at h; obtain ⟨rfl, rfl⟩ := h; exact hn
        | true =>
          rw [hb] at h
          simp only [cond_true] at h
          split at h
          · rename_i v hv
            exact QL.step hd hw hb (fun _ => RunsTo.pure hT hv) (ih h hn)
          · simp only [Prod.mk.injEq] at h; obtain ⟨rfl, rfl⟩ := h; exact hn
      · rename_i d hd hw
        cases hb : Nat.blt d n with
        | false => rw [hb] at h; simp only [cond_false, Prod.mk.injEq] at h; obtain ⟨rfl, rfl⟩ := h; exact hn
        | true =>
          rw [hb] at h
          simp only [cond_true] at h
          exact QL.skip hd hw hb (ih h hn)
      · simp only [Prod.mk.injEq] at h; obtain ⟨rfl, rfl⟩ := h; exact hn

theorem QL.as (hT : TblOk P T) (m : Nat) {E' : List (Nat × Value)} {l l' : List Oper} {d : Nat} {v : Value} (v' : Value) (h : runPure T n ops m E l = ((d, v) :: E', l')) (hv : v = v') (hn : QL P n ((d, v') :: E') w ops l' Q) : QL P n E w ops l Q :=
  QL.run hT m (hv ▸ h) hn

/-- 'x[i]' read: two operations. -/
theorem QL.elem (hT : TblOk P T) {d1 d2 : Nat} {t u : TypeId} {x i : Operand} {ty ty2 : TypeId} {pos pos2 : String} {af af2 : Array Edge} {g g2 : Option (Nat × Bool)} {et : TypeId} {s1 s2 : Nat} {z : Value} {ti : TI} {sv : Value} {cs : List Value} {k : IntKind} {iv : Int} (j : Nat) (c : Value)
    (hr : Row et w sv cs) (hc : cs[j]? = some c) (hj : iv = j)
    (ht : lookT T t = some ⟨.slice et, s1, s2, z⟩) (hte : lookT T et = some ti) (hsz : ti.size = 1) (hag : isAggD ti.desc = false) (hu : u = et)
    (hx : ov E x = some sv) (hi : ov E i = some (.int k iv)) (hg : wantE ops E g = some true) (hn : Nat.blt d1 n = true) (hn2 : Nat.blt d2 n = true) (hg2 : ∀ p, wantE ops ((d1, p) :: E) g2 = some true)
    (next : ∀ p, QL P n ((d2, c) :: (d1, p) :: E) w ops rest Q) :
    QL P n E w ops (⟨some d1, .indexAddr t x i, ty, pos, af, g⟩ :: ⟨some d2, .load u (.tmp d1), ty2, pos2, af2, g2⟩ :: rest) Q := by
  obtain ⟨a, cap, hsv, hcell⟩ := hr.get hc
  have hlt : j < cs.length := (List.getElem?_eq_some_iff.1 hc).1
  subst hu
  rw [hsv] at hx
  refine QL.step rfl hg hn (fun m => RunsTo.indexAddr hT ht hte hsz hx hi (by omega) (by omega)) ?_
  rw [show iv.toNat = j from by omega]
  have hl : ov ((d1, .pointer (some (a.add j))) :: E) (.tmp d1) = some (.pointer (some (a.add j))) := look_cons_self _ _ _
  exact QL.step rfl (hg2 _) hn2 (fun m => RunsTo.load hT hte hag hl hcell) (next _)

theorem St.quiet {id : Nat} {l : List Oper} (hP : P.follows .mixedOrders = true) (hB : Region.lexB .any l.toArray = true) (h : QL P n E w l.toArray l Q) : St P n E w (.region id l.toArray true) Q :=
  fun a ha => wp_region_quiet_lit hP hB (h a ha)

/-! ### The goals of 'St.draw' -/
theorem OpG.run {o : Oper} {d : Nat} {ψ : Psi} {S : List (Nat × Psi)} {v : Value} (hd : o.dst = some d) (hS : lookP S d = some ψ) (hal : isAlloc o.op = false) (hw : wantE ops E o.guard = some true) (h : RunsTo P n o E w v) (hψ : ψ v w) : OpG P n ops o E w (After o S w) := by
  refine .inl ⟨hw, h.op.mono ?_⟩
  rintro v' w' ⟨rfl, rfl⟩
  refine ⟨Ext.refl _, fun d' φ h1 h2 => ?_, fun e => by rw [hal] at e; cases e⟩
  rw [hd] at h1; cases h1
  rw [hS] at h2; cases h2
  exact hψ

theorem OpG.pure (hT : TblOk P T) {o : Oper} {d : Nat} {ψ : Psi} {S : List (Nat × Psi)} {v : Value} (hd : o.dst = some d) (hS : lookP S d = some ψ) (hal : isAlloc o.op = false) (hw : wantE ops E o.guard = some true) (h : pureOp T E o.op = some v) (hψ : ψ v w) : OpG P n ops o E w (After o S w) :=
  OpG.run hd hS hal hw (RunsTo.pure hT h) hψ

theorem OpG.skip {o : Oper} {d : Nat} {ψ : Psi} {S : List (Nat × Psi)} (hd : o.dst = some d) (hS : lookP S d = some ψ) (hal : isAlloc o.op = false) (hw : wantE ops E o.guard = some false) (hψ : ψ undef w) : OpG P n ops o E w (After o S w) := by
  refine .inr ⟨hw, Ext.refl _, fun d' φ h1 h2 => ?_, fun e => by rw [hal] at e; cases e⟩
  rw [hd] at h1; cases h1
  rw [hS] at h2; cases h2
  exact hψ

theorem OpG.op {o : Oper} {d : Nat} {ψ : Psi} {S : List (Nat × Psi)} {Φ : Value → World → Prop} (hd : o.dst = some d) (hS : lookP S d = some ψ) (hal : isAlloc o.op = false) (hw : wantE ops E o.guard = some true) (h : OpR P n o E w Φ) (hψ : ∀ v w', Φ v w' → Ext w w' ∧ ψ v w') : OpG P n ops o E w (After o S w) := by
  refine .inl ⟨hw, h.mono ?_⟩
  intro v' w' hv
  refine ⟨(hψ v' w' hv).1, fun d' φ h1 h2 => ?_, fun e => by rw [hal] at e; cases e⟩
  rw [hd] at h1; cases h1
  rw [hS] at h2; cases h2
  exact (hψ v' w' hv).2

theorem OpG.call {f : FuncId} {fn : Func} (hF : IsFn P f fn) {d : Nat} {args : Array Operand} {tys : Array TypeId} {ty : TypeId} {pos : String} {af : Array Edge} {g : Option (Nat × Bool)} {vs : List Value} {Φ : Value → World → Prop} {ψ : Psi} {S : List (Nat × Psi)}
    (hS : lookP S d = some ψ) (hw : wantE ops E g = some true) (hargs : ovs E args.toList = some vs) (hc : Calls P f vs.toArray w (Ret Φ)) (hψ : ∀ v w', Φ v w' → Ext w w' ∧ ψ v w') :
    OpG P n ops ⟨some d, .call ⟨.value (.func f), args, tys⟩, ty, pos, af, g⟩ E w (After ⟨some d, .call ⟨.value (.func f), args, tys⟩, ty, pos, af, g⟩ S w) :=
  OpG.op rfl hS rfl hw (OpR.call hF hargs hc) hψ

theorem OpG.alloc (hT : TblOk P T) {d : Nat} {t : TypeId} {ty : TypeId} {pos : String} {af : Array Edge} {g : Option (Nat × Bool)} {ti : TI} {ψ : Psi} {S : List (Nat × Psi)} (hS : lookP S d = some ψ) (hw : wantE ops E g = some true) (ht : lookT T t = some ti)
    (hψ : ∀ b w', w.heap.size ≤ b → Blk t w' b ti.zero.cells.toList → ψ (.pointer (some ⟨b, 0, none⟩)) w') : OpG P n ops ⟨some d, .alloc t, ty, pos, af, g⟩ E w (After ⟨some d, .alloc t, ty, pos, af, g⟩ S w) := by
  refine .inl ⟨hw, (OpR.alloc hT ht).mono ?_⟩
  rintro v w' ⟨rfl, hb, hx, hs⟩
  refine ⟨hx, fun d' φ h1 h2 => ?_, fun _ => ⟨_, rfl, Nat.le_refl _, by omega⟩⟩
  cases h1
  rw [hS] at h2; cases h2
  exact hψ _ w' (Nat.le_refl _) hb

end

/-- An exact value. -/
def Is (c : Value) : Psi := fun v _ => v = c
theorem Is.mono (c : Value) : ∀ v (w w' : World), Ext w w' → Is c v w → Is c v w' := fun _ _ _ _ h => h

end Go.Qf

/- Struct literals, results that lie in memory, shifts by a variable, division, literals of slices, a slice held against nil. -/
namespace Go.Qf
open Go Go.RowKit

def placesT (T : List (Nat × TI)) : List Field → Option (List (Nat × Nat))
  | [] => some []
  | f :: r => match lookT T f.type, placesT T r with
    | some ti, some ps => some ((f.offset, ti.size) :: ps)
    | _, _ => none

def ovp (E : List (Nat × Value)) : List (Nat × Operand) → Option (List (Nat × Value))
  | [] => some []
  | (i, x) :: r => match ov E x, ovp E r with
    | some v, some vs => some ((i, v) :: vs)
    | _, _ => none

section
variable {P : Program} {T : List (Nat × TI)} {n : Nat} {E : List (Nat × Value)} {w : World}

theorem ovp_map {a : Act} (ha : Fits n E a) : ∀ (xs : List (Nat × Operand)) (vs : List (Nat × Value)), ovp E xs = some vs → xs.map (fun (i, x) => (i, a.eval x)) = vs := by
  intro xs
  induction xs with
  | nil => intro vs h; simp only [ovp, Option.some.injEq] at h; subst h; rfl
  | cons p r ih =>
    obtain ⟨i, x⟩ := p
    intro vs h
    simp only [ovp] at h
    split at h
    · rename_i v us hv hr
      simp only [Option.some.injEq] at h
      subst h
      simp only [List.map_cons, ha.eval hv, ih us hr]
    · cases h

theorem run_placesT (hT : TblOk P T) : ∀ (fs : List Field) (ps : List (Nat × Nat)), placesT T fs = some ps → (fs.mapM fun f => do Pure.pure (f.offset, ← sizeOf f.type) : Sem (List (Nat × Nat))).run P w = .ok ps w := by
  intro fs
  induction fs with
  | nil => intro ps h; simp only [placesT, Option.some.injEq] at h; subst h; simp [go_sem]
  | cons f r ih =>
    intro ps h
    simp only [placesT] at h
    split at h
    · rename_i ti qs hti hr
      simp only [Option.some.injEq] at h
      subst h
      have h1 := ih qs hr
      simp only [List.mapM_cons, Sem.run_bind, run_sizeOf_T hT hti, Result.andThen_ok, Sem.run_pure, h1]
    · cases h

theorem RunsTo.build (hT : TblOk P T) {d : Option Tmp} {t : TypeId} {parts : Array (Nat × Operand)} {ty : TypeId} {pos : String} {af : Array Edge} {g : Option (Nat × Bool)} {fs : Array Field} {s1 s2 : Nat} {z : Value} {pl : List (Nat × Nat)} {ps : List (Nat × Value)} {cells : Array Value}
    (ht : lookT T t = some ⟨.struct fs, s1, s2, z⟩) (hpl : placesT T fs.toList = some pl) (hps : ovp E parts.toList = some ps) (hf : Instr.fill (fun i => pl.toArray[i]?) z.cells ps = some cells) :
    RunsTo P n ⟨d, .build t parts, ty, pos, af, g⟩ E w (.agg cells) := by
  intro a ha
  obtain ⟨hu, inf, hi, _, _, hz⟩ := hT t _ ht
  have hm := ovp_map ha _ _ hps
  have hm2 : (parts.map fun (i, x) => (i, a.eval x)).toList = ps := by rw [← hm]; simp
  have h2 : (fs.mapM fun f => do Pure.pure (f.offset, ← sizeOf f.type) : Sem (Array (Nat × Nat))).run P w = .ok pl.toArray w := by
    rw [Array.mapM_eq_mapM_toList]
    have := run_placesT (P := P) (w := w) hT _ _ hpl
    show ((_ : Sem (List (Nat × Nat))) >>= fun x => Pure.pure (List.toArray x)).run P w = _
    simp only [Sem.run_bind, this, Result.andThen_ok, Sem.run_pure]
  generalize a.eval = ρ at hm2
  simp only [execOp, Instr.build, zeroValue, Sem.run_bind, run_typeInfo hi, Result.andThen_ok, hz, Sem.run_pure, run_underlying_T hT ht, h2, hm2, hf]

def resV (T : List (Nat × TI)) (E : List (Nat × Value)) (w : World) : ResultVar → Value → Prop
  | .tmp t, v => look E t = some v
  | .cell a t, v => ∃ b C e ti, look E a = some (.pointer (some ⟨b, 0, none⟩)) ∧ Blk e w b C ∧ lookT T t = some ti ∧ isAggD ti.desc = true ∧ C.length = ti.size ∧ v = .agg C.toArray

def ResOk (T : List (Nat × TI)) (E : List (Nat × Value)) (w : World) : List ResultVar → List Value → Prop
  | [], [] => True
  | r :: rs, v :: vs => resV T E w r v ∧ ResOk T E w rs vs
  | _, _ => False

def oneOf : List Value → Value
  | [v] => v
  | vs => .tuple vs.toArray

def resFn (tmps : Array Value) : ResultVar → Sem Value
  | .tmp t => Pure.pure (tmps.getD t undef)
  | .cell a t => do loadVar t (← asAddr (tmps.getD a undef))

theorem results_eq (fn : Func) (tmps : Array Value) : results fn tmps = (do let vs ← fn.results.mapM (resFn tmps); Pure.pure (if h : vs.size = 1 then vs[0] else .tuple vs)) := by
  unfold results
  have : (fun x => match x with | .tmp t => Pure.pure (tmps.getD t undef) | .cell a t => do loadVar t (← asAddr (tmps.getD a undef)) : ResultVar → Sem Value) = resFn tmps := by
    funext x; cases x <;> rfl
  exact congrArg (fun f => (do let vs ← fn.results.mapM f; Pure.pure (if h : vs.size = 1 then vs[0] else .tuple vs) : Sem Value)) this

theorem run_res (hT : TblOk P T) {a : Act} (ha : Fits n E a) : ∀ (rs : List ResultVar) (vs : List Value), ResOk T E w rs vs →
    (rs.mapM (resFn a.tmps)).run P w = .ok vs w := by
  intro rs
  induction rs with
  | nil =>
    intro vs h
    cases vs with
    | nil => simp [go_sem]
    | cons _ _ => exact h.elim
  | cons r rs ih =>
    intro vs h
    cases vs with
    | nil => exact h.elim
    | cons v vs =>
      obtain ⟨h1, h2⟩ := h
      have h3 := ih vs h2
      cases r with
      | tmp t =>
        have : a.tmps.getD t undef = v := by simp [Array.getD_eq_getD_getElem?, ha.slots t v h1]
        simp only [List.mapM_cons, resFn, Sem.run_bind, Sem.run_pure, Result.andThen_ok, this, h3]
      | cell x t =>
        obtain ⟨b, C, e, ti, hl, hb, hti, hag, hlen, rfl⟩ := h1
        have : a.tmps.getD x undef = .pointer (some ⟨b, 0, none⟩) := by simp [Array.getD_eq_getD_getElem?, ha.slots x _ hl]
        have hr := run_loadCellsFrom (P := P) hb 0 ti.size 0 #[] (by omega)
        have hld : (loadVar t ⟨b, 0, none⟩).run P w = .ok (.agg C.toArray) w := by
          unfold loadVar
          simp only [Sem.run_bind, run_isAgg_T hT hti, hag, Result.andThen_ok, if_true, run_sizeOf_T hT hti, loadCells, hr, Sem.run_pure]
          congr 2
          simp [← hlen]
        have hasA : (asAddr (.pointer (some ⟨b, 0, none⟩))).run P w = .ok ⟨b, 0, none⟩ w := by simp [asAddr, go_sem]
        simp only [List.mapM_cons, resFn, Sem.run_bind, this, hasA, Sem.run_pure, Result.andThen_ok, hld, h3]

theorem Out.rets (hT : TblOk P T) {fn : Func} {Φ : Value → World → Prop} {rs : List ResultVar} (vs : List Value) (hr : fn.results = rs.toArray) (h : ResOk T E w rs vs) (hΦ : Φ (oneOf vs) w) : Out n E w .ret (bodyPost P fn (Ret Φ)) := by
  intro a ha
  refine bodyPost_ret (v := oneOf vs) ?_ ha.defers ⟨_, rfl, hΦ⟩
  rw [results_eq, hr, Array.mapM_eq_mapM_toList]
  have := run_res (P := P) (w := w) hT ha rs vs h
  show (((rs.mapM (resFn a.tmps) : Sem (List Value)) >>= fun x => Pure.pure (List.toArray x)) >>= _).run P w = _
  simp only [Sem.run_bind, this, Result.andThen_ok, Sem.run_pure]
  congr 1
  match vs with
  | [] => rfl
  | [v] => rfl
  | v :: u :: r =>
    simp [oneOf]

theorem RunsTo.shl {d : Option Tmp} {t t2 : TypeId} {x y : Operand} {ty : TypeId} {pos : String} {af : Array Edge} {g : Option (Nat × Bool)} {k k' : IntKind} {m s : Int} (j : Nat) (hx : ov E x = some (.int k m)) (hy : ov E y = some (.int k' s)) (hs : s = j) (hj : j ≤ k.bits) :
    RunsTo P n ⟨d, .binOp .shl t x y t2, ty, pos, af, g⟩ E w (.int k (k.wrap (m * 2 ^ j))) := by
  intro a ha
  have e1 := ha.eval hx
  have e2 := ha.eval hy
  generalize a.eval = ρ at e1 e2
  subst hs
  have en : ¬ ((j : Int) < 0) := by omega
  have hsh : Op.shift .shl k m k' (j : Int) = Pure.pure (.int k (k.wrap (m * 2 ^ j))) := by
    unfold Op.shift; rw [if_neg en]; simp only [Int.toNat_natCast, Nat.min_eq_left hj]
  simp only [execOp, e1, e2, eqGuard, binOp, hsh]
  simp [go_sem]

theorem RunsTo.shr {d : Option Tmp} {t t2 : TypeId} {x y : Operand} {ty : TypeId} {pos : String} {af : Array Edge} {g : Option (Nat × Bool)} {k k' : IntKind} {m s : Int} (j : Nat) (hx : ov E x = some (.int k m)) (hy : ov E y = some (.int k' s)) (hs : s = j) (hj : j ≤ k.bits) :
    RunsTo P n ⟨d, .binOp .shr t x y t2, ty, pos, af, g⟩ E w (.int k (m / 2 ^ j)) := by
  intro a ha
  have e1 := ha.eval hx
  have e2 := ha.eval hy
  generalize a.eval = ρ at e1 e2
  subst hs
  have en : ¬ ((j : Int) < 0) := by omega
  have hp : (0 : Int) ≤ 2 ^ j := Int.le_of_lt (Int.pow_pos (by decide))
  have hsh : Op.shift .shr k m k' (j : Int) = Pure.pure (.int k (m / 2 ^ j)) := by
    unfold Op.shift; rw [if_neg en]; simp only [Int.toNat_natCast, Nat.min_eq_left hj, Int.fdiv_eq_ediv_of_nonneg _ hp]
  simp only [execOp, e1, e2, eqGuard, binOp, hsh]
  simp [go_sem]

theorem RunsTo.quo {d : Option Tmp} {t t2 : TypeId} {x y : Operand} {ty : TypeId} {pos : String} {af : Array Edge} {g : Option (Nat × Bool)} {k : IntKind} {m s : Int} (hx : ov E x = some (.int k m)) (hy : ov E y = some (.int k s)) (hm : 0 ≤ m) (hs : 0 < s) :
    RunsTo P n ⟨d, .binOp .quo t x y t2, ty, pos, af, g⟩ E w (.int k (k.wrap (m / s))) := by
  intro a ha
  have e1 := ha.eval hx
  have e2 := ha.eval hy
  generalize a.eval = ρ at e1 e2
  have hne : ¬ s = 0 := by omega
  have ht : m.tdiv s = m / s := Int.tdiv_eq_ediv_of_nonneg hm
  simp [execOp, e1, e2, eqGuard, binOp, Op.intDiv, hne, ht, go_sem]

theorem RunsTo.rem {d : Option Tmp} {t t2 : TypeId} {x y : Operand} {ty : TypeId} {pos : String} {af : Array Edge} {g : Option (Nat × Bool)} {k : IntKind} {m s : Int} (hx : ov E x = some (.int k m)) (hy : ov E y = some (.int k s)) (hm : 0 ≤ m) (hs : 0 < s) :
    RunsTo P n ⟨d, .binOp .rem t x y t2, ty, pos, af, g⟩ E w (.int k (m % s)) := by
  intro a ha
  have e1 := ha.eval hx
  have e2 := ha.eval hy
  generalize a.eval = ρ at e1 e2
  have hne : ¬ s = 0 := by omega
  have ht : m.tmod s = m % s := Int.tmod_eq_emod_of_nonneg hm
  simp [execOp, e1, e2, eqGuard, binOp, Op.intDiv, hne, ht, go_sem]

theorem RunsTo.sliceNil (hT : TblOk P T) {d : Option Tmp} {t t2 : TypeId} {x : Operand} {ty : TypeId} {pos : String} {af : Array Edge} {g : Option (Nat × Bool)} {et : TypeId} {s1 s2 : Nat} {z : Value} {p : Option Addr} {len cap : Nat} (ht : lookT T t = some ⟨.slice et, s1, s2, z⟩) (hx : ov E x = some (.slice p len cap)) :
    RunsTo P n ⟨d, .binOp .eql t x (.const (.slice none 0 0)) t2, ty, pos, af, g⟩ E w (.bool p.isNone) := by
  intro a ha
  have e1 := ha.eval hx
  have e2 : a.eval (.const (.slice none 0 0)) = .slice none 0 0 := rfl
  generalize a.eval = ρ at e1 e2
  have hu := (hT t _ ht).1
  have heq : (Op.equal t (.slice p len cap) (.slice none 0 0)).run P w = .ok p.isNone w := by
    show (Op.equalIn (9999 + 1) t _ _).run P w = _
    unfold Op.equalIn
    cases p with
    | none => simp only [Sem.run_bind, run_underlying_T hT ht, Result.andThen_ok, Sem.run_pure, Option.isNone_none]
    | some a0 => simp only [Sem.run_bind, run_underlying_T hT ht, Result.andThen_ok, Sem.run_pure, Option.isNone_some]
  simp only [execOp, e1, e2, eqGuard, binOp, Sem.run_bind, Sem.run_pure]
  simp only [Bool.not_true, Bool.false_eq_true, if_false, Sem.run_pure, Result.andThen_ok, heq]

/-- []T{x, y} -/
theorem OpR.pair (hT : TblOk P T) {d : Option Tmp} {t : TypeId} {x y : Operand} {ty : TypeId} {pos : String} {af : Array Edge} {g : Option (Nat × Bool)} {et : TypeId} {s1 s2 : Nat} {z : Value} {ti : TI} {k k' : IntKind} {m m' : Int}
    (ht : lookT T t = some ⟨.slice et, s1, s2, z⟩) (hte : lookT T et = some ti) (hsz : ti.size = 1) (hx : ov E x = some (.int k m)) (hy : ov E y = some (.int k' m')) :
    OpR P n ⟨d, .buildSlice t 2 #[(0, x), (1, y)], ty, pos, af, g⟩ E w (fun u w' => u = .slice (some ⟨w.heap.size, 0, none⟩) 2 2 ∧ Blk et w' w.heap.size [.int k m, .int k' m'] ∧ Ext w w' ∧ w'.heap.size = w.heap.size + 1) := by
  intro a ha Q K hK
  obtain ⟨_, inf, hi, hsize, hby, hzero⟩ := hT et ti hte
  have e1 := ha.eval hx
  have e2 := ha.eval hy
  have hrun : (execOp a.eval ⟨d, .buildSlice t 2 #[(0, x), (1, y)], ty, pos, af, g⟩).run P w = .ok (.value (.slice (some ⟨w.heap.size, 0, none⟩) 2 2)) (w.alloc (.cells #[.int k m, .int k' m'] et (0, 0))) := by
    generalize a.eval = ρ at e1 e2
    simp [execOp, Instr.buildSlice, e1, e2, run_underlying_T hT ht, run_sizeOf_T hT hte, hsz, zeroValue, run_typeInfo hi, hzero, Instr.fill, newRow, go_sem]
  unfold Oper.wp
  rw [hrun, Oper.upon_value]
  exact hK _ _ ⟨rfl, blk_alloc _ _ _, ext_alloc _ _, size_alloc1 _ _⟩

/-- []T{} -/
theorem OpR.empty (hT : TblOk P T) {d : Option Tmp} {t : TypeId} {ty : TypeId} {pos : String} {af : Array Edge} {g : Option (Nat × Bool)} {et : TypeId} {s1 s2 : Nat} {z : Value} {ti : TI}
    (ht : lookT T t = some ⟨.slice et, s1, s2, z⟩) (hte : lookT T et = some ti) :
    OpR P n ⟨d, .buildSlice t 0 #[], ty, pos, af, g⟩ E w (fun u w' => u = .slice (some ⟨w.heap.size, 0, none⟩) 0 0 ∧ Blk et w' w.heap.size [] ∧ Ext w w' ∧ w'.heap.size = w.heap.size + 1) := by
  intro a ha Q K hK
  have hrun : (execOp a.eval ⟨d, .buildSlice t 0 #[], ty, pos, af, g⟩).run P w = .ok (.value (.slice (some ⟨w.heap.size, 0, none⟩) 0 0)) (w.alloc (.cells #[] et (0, 0))) := by
    simp [execOp, Instr.buildSlice, run_underlying_T hT ht, run_sizeOf_T hT hte, Instr.fill, newRow, go_sem]
  unfold Oper.wp
  rw [hrun, Oper.upon_value]
  exact hK _ _ ⟨rfl, blk_alloc _ _ _, ext_alloc _ _, size_alloc1 _ _⟩

end
end Go.Qf

/- An element read out of a block that is known whole. -/
namespace Go.Qf
open Go Go.RowKit

section lists
variable {P : Program} {T : List (Nat × TI)} {n : Nat} {E : List (Nat × Value)} {w : World} {Q : Exit → Act → World → Prop} {ops : Array Oper} {rest : List Oper}

theorem StL.elemB (hT : TblOk P T) {d1 d2 : Nat} {t u : TypeId} {x i : Operand} {ty ty2 : TypeId} {pos pos2 : String} {af af2 : Array Edge} {g g2 : Option (Nat × Bool)} {et : TypeId} {s1 s2 : Nat} {z : Value} {ti : TI} {b off len cap : Nat} {C : List Value} {k : IntKind} {iv : Int} (j : Nat) (c : Value)
    (hb : Blk et w b C) (hc : C[off + j]? = some c) (hj : iv = j) (hlt : j < len)
    (ht : lookT T t = some ⟨.slice et, s1, s2, z⟩) (hte : lookT T et = some ti) (hsz : ti.size = 1) (hag : isAggD ti.desc = false) (hu : u = et)
    (hx : ov E x = some (.slice (some ⟨b, off, none⟩) len cap)) (hi : ov E i = some (.int k iv)) (hg : wantE ops E g = some true) (hn : Nat.blt d1 n = true) (hn2 : Nat.blt d2 n = true) (hg2 : ∀ p, wantE ops ((d1, p) :: E) g2 = some true)
    (next : ∀ p, StL P n ((d2, c) :: (d1, p) :: E) w ops rest Q) :
    StL P n E w ops (⟨some d1, .indexAddr t x i, ty, pos, af, g⟩ :: ⟨some d2, .load u (.tmp d1), ty2, pos2, af2, g2⟩ :: rest) Q := by
  subst hu
  refine StL.step rfl hg hn (RunsTo.indexAddr hT ht hte hsz hx hi (by omega) (by omega)).op ?_
  rintro p w' ⟨rfl, rfl⟩
  rw [show iv.toNat = j from by omega, addr_add]
  have hl : ov ((d1, .pointer (some ⟨b, off + j, none⟩)) :: E) (.tmp d1) = some (.pointer (some ⟨b, off + j, none⟩)) := look_cons_self _ _ _
  refine StL.step rfl (hg2 _) hn2 (RunsTo.load hT hte hag hl (hb.cell hc)).op ?_
  rintro c' w' ⟨rfl, rfl⟩
  exact next _

theorem QL.elemB (hT : TblOk P T) {d1 d2 : Nat} {t u : TypeId} {x i : Operand} {ty ty2 : TypeId} {pos pos2 : String} {af af2 : Array Edge} {g g2 : Option (Nat × Bool)} {et : TypeId} {s1 s2 : Nat} {z : Value} {ti : TI} {b off len cap : Nat} {C : List Value} {k : IntKind} {iv : Int} (j : Nat) (c : Value)
    (hb : Blk et w b C) (hc : C[off + j]? = some c) (hj : iv = j) (hlt : j < len)
    (ht : lookT T t = some ⟨.slice et, s1, s2, z⟩) (hte : lookT T et = some ti) (hsz : ti.size = 1) (hag : isAggD ti.desc = false) (hu : u = et)
    (hx : ov E x = some (.slice (some ⟨b, off, none⟩) len cap)) (hi : ov E i = some (.int k iv)) (hg : wantE ops E g = some true) (hn : Nat.blt d1 n = true) (hn2 : Nat.blt d2 n = true) (hg2 : ∀ p, wantE ops ((d1, p) :: E) g2 = some true)
    (next : ∀ p, QL P n ((d2, c) :: (d1, p) :: E) w ops rest Q) :
    QL P n E w ops (⟨some d1, .indexAddr t x i, ty, pos, af, g⟩ :: ⟨some d2, .load u (.tmp d1), ty2, pos2, af2, g2⟩ :: rest) Q := by
  subst hu
  refine QL.step rfl hg hn (fun m => RunsTo.indexAddr hT ht hte hsz hx hi (by omega) (by omega)) ?_
  rw [show iv.toNat = j from by omega, addr_add]
  have hl : ov ((d1, .pointer (some ⟨b, off + j, none⟩)) :: E) (.tmp d1) = some (.pointer (some ⟨b, off + j, none⟩)) := look_cons_self _ _ _
  exact QL.step rfl (hg2 _) hn2 (fun m => RunsTo.load hT hte hag hl ((hb.drewN m).cell hc)) (next _)

end lists
end Go.Qf

/- A region that draws its order and holds loads, calls and stores: one walk in the order of the text. -/
namespace Go.Qf
open Go Go.RowKit

/-- The types of boxed variables. -/
def isV (P : Program) (t : TypeId) : Bool := match P.underlying t with
  | some (.struct _) => true
  | some (.array _ _) => true
  | _ => false

/-- Nothing that was there has changed, but for variables where T says. -/
structure Rg (P : Program) (T : Nat → Prop) (w w' : World) : Prop where
  os : w'.os = w.os
  tape : w'.tape = w.tape
  output : w'.output = w.output
  size : w.heap.size ≤ w'.heap.size
  block : ∀ k, k < w.heap.size → w'.heap[k]? = w.heap[k]? ∨ (T k ∧ ∃ C C' e, isV P e = true ∧ C'.size = C.size ∧ w.heap[k]? = some (.cells C e (0, 0)) ∧ w'.heap[k]? = some (.cells C' e (0, 0)))

section
variable {P : Program} {T : Nat → Prop}

theorem Rg.refl (w : World) : Rg P T w w := ⟨rfl, rfl, rfl, Nat.le_refl _, fun _ _ => .inl rfl⟩
theorem Ext.rg {w w' : World} (h : Ext w w') : Rg P T w w' := ⟨h.os, h.tape, h.output, h.size, fun k hk => .inl (h.block k hk)⟩
theorem Rg.trans {x y z : World} (h : Rg P T x y) (k : Rg P T y z) : Rg P T x z := by
  refine ⟨k.os.trans h.os, k.tape.trans h.tape, k.output.trans h.output, Nat.le_trans h.size k.size, fun i hi => ?_⟩
  rcases k.block i (Nat.lt_of_lt_of_le hi h.size) with e2 | ⟨t2, C, C', e, hv, hs, h1, h2⟩
  · rcases h.block i hi with e1 | ⟨t1, C, C', e, hv, hs, h1, h2⟩
    · exact .inl (e2.trans e1)
    · exact .inr ⟨t1, C, C', e, hv, hs, h1, e2.trans h2⟩
  · rcases h.block i hi with e1 | ⟨t1, D, D', e', hv', hs', h3, h4⟩
    · exact .inr ⟨t2, C, C', e, hv, hs, e1.symm.trans h1, h2⟩
    · rw [h4] at h1
      simp only [Option.some.injEq, Obj.cells.injEq] at h1
      obtain ⟨rfl, rfl, _⟩ := h1
      exact .inr ⟨t2, D, C', e', hv, hs.trans hs', h3, h2⟩
theorem Rg.weak {T' : Nat → Prop} {w w' : World} (h : Rg P T w w') (hT : ∀ k, k < w.heap.size → T k → T' k) : Rg P T' w w' :=
  ⟨h.os, h.tape, h.output, h.size, fun k hk => (h.block k hk).imp id fun ⟨t, r⟩ => ⟨hT k hk t, r⟩⟩

/-- Which variable has been written, and that it is one still. -/
def VarKept (P : Program) (b : Nat) (w w' : World) : Prop := ∃ C C' e, isV P e = true ∧ C'.length = C.length ∧ Blk e w b C ∧ Blk e w' b C'

theorem Rg.of_upd {b : Nat} {w w' : World} (hu : Upd b w w') (hv : VarKept P b w w') (hT : T b) : Rg P T w w' := by
  refine ⟨hu.os, hu.tape, hu.output, hu.size, fun k hk => ?_⟩
  by_cases e : k = b
  · subst e
    obtain ⟨C, C', e, h1, h2, h3, h4⟩ := hv
    exact .inr ⟨hT, C.toArray, C'.toArray, e, h1, by simpa using h2, h3, h4⟩
  · exact .inl (hu.block k hk e)

/-- Where the world began before the variables were made. -/
theorem Rg.ext_of {w0 w w' : World} (h0 : Ext w0 w) (h : Rg P T w w') (hT : ∀ k, T k → w0.heap.size ≤ k) : Ext w0 w' := by
  refine ⟨h.os.trans h0.os, h.tape.trans h0.tape, h.output.trans h0.output, Nat.le_trans h0.size h.size, fun k hk => ?_⟩
  rcases h.block k (Nat.lt_of_lt_of_le hk h0.size) with e | ⟨t, _⟩
  · exact e.trans (h0.block k hk)
  · have := hT k t; omega

/-- The variables that may have been written: those of the list, and new ones. -/
def Tg (w : World) (L : List Nat) (k : Nat) : Prop := w.heap.size ≤ k ∨ k ∈ L

theorem Rg.ext_tg {w0 w w' : World} {L : List Nat} (h0 : Ext w0 w) (h : Rg P (Tg w L) w w') (hL : ∀ k ∈ L, w0.heap.size ≤ k) : Ext w0 w' := by
  refine h.ext_of h0 ?_
  rintro k (h1 | h1)
  · exact Nat.le_trans h0.size h1
  · exact hL k h1

theorem Rg.ext_nil {w w' : World} (h : Rg P (Tg w []) w w') : Ext w w' := h.ext_tg (Ext.refl _) (by simp)

theorem Rg.blk {w w' : World} {L : List Nat} {e : TypeId} {b : Nat} {C : List Value} (h : Rg P (Tg w L) w w') (hb : Blk e w b C) (hL : b ∉ L) : Blk e w' b C := by
  have hlt := hb.lt
  rcases h.block b hlt with e1 | ⟨h1 | h1, _⟩
  · exact e1.trans hb
  · omega
  · exact absurd h1 hL

theorem Rg.blk_any {w w' : World} {e : TypeId} {b : Nat} {C : List Value} (h : Rg P T w w') (hb : Blk e w b C) : ∃ C', Blk e w' b C' ∧ C'.length = C.length := by
  rcases h.block b hb.lt with e1 | ⟨_, D, D', e', _, hs, h1, h2⟩
  · exact ⟨C, e1.trans hb, rfl⟩
  · unfold Blk at hb
    rw [hb] at h1
    simp only [Option.some.injEq, Obj.cells.injEq] at h1
    obtain ⟨rfl, rfl, _⟩ := h1
    exact ⟨D'.toList, by unfold Blk; simpa using h2, by simpa using hs⟩

theorem Rg.own {base : Nat} {e : TypeId} {w w' : World} {v : Value} {cs : List Value} (h : Rg P T w w') (hv : isV P e = false) (ho : Own base e w v cs) : Own base e w' v cs := by
  refine ⟨ho.1, ?_⟩
  rcases ho.2 with h0 | ⟨g, cap, cur, hv', hb, hg, r⟩
  · exact .inl h0
  · refine .inr ⟨g, cap, cur, hv', hb, ?_, r⟩
    rcases h.block g (Array.getElem?_eq_some_iff.1 hg).1 with e1 | ⟨_, C, C', e', hv2, _, h1, _⟩
    · exact e1.trans hg
    · rw [hg] at h1
      simp only [Option.some.injEq, Obj.cells.injEq] at h1
      obtain ⟨_, rfl, _⟩ := h1
      rw [hv] at hv2; cases hv2
end

/-- What stays, whatever variables are written. -/
def MonoR (P : Program) (ψ : Psi) : Prop := ∀ v w w', Rg P (fun _ => True) w w' → ψ v w → ψ v w'
/-- What stays of a variable that v points to, while others are written. -/
def MonoX (P : Program) (χ : Psi) : Prop :=
  (∀ v w w', Ext w w' → χ v w → χ v w') ∧ ∀ v w w' b, Upd b w w' → VarKept P b w w' → v ≠ .pointer (some ⟨b, 0, none⟩) → χ v w → χ v w'

theorem MonoR.is (P : Program) (c : Value) : MonoR P (Is c) := fun _ _ _ _ h => h

/-- The variable that v points to holds a value of which ψ says. -/
def Holds (t : TypeId) (ψ : Psi) : Psi := fun v w => ∃ b u, v = .pointer (some ⟨b, 0, none⟩) ∧ Blk t w b u.cells.toList ∧ ψ u w

theorem MonoX.holds {P : Program} {t : TypeId} {ψ : Psi} (h : MonoR P ψ) : MonoX P (Holds t ψ) := by
  refine ⟨?_, ?_⟩
  · rintro v w w' hx ⟨b, u, rfl, hb, hu⟩
    exact ⟨b, u, rfl, hb.ext hx, h u w w' hx.rg hu⟩
  · rintro v w w' b hU hV hne ⟨c, u, rfl, hb, hu⟩
    exact ⟨c, u, rfl, hb.upd hU (fun e => hne (by rw [e])), h u w w' (Rg.of_upd hU hV trivial) hu⟩

/-- The slot of the pointer that a store goes through. -/
def stSlot (o : Oper) : Option Nat := match o.dst, o.op with
  | none, .store _ (.tmp p) _ => some p
  | _, _ => none

def stSlots : List Oper → List Nat
  | [] => []
  | o :: r => match stSlot o with
    | some p => p :: stSlots r
    | none => stSlots r

/-- The stores that may come up ahead of operation i. -/
def laterFrom (ms : List Nat) (i : Nat) : Nat → List Oper → List Nat
  | _, [] => []
  | j, o :: r => match stSlot o with
    | some p => bif (ms.getD j 0).testBit i then laterFrom ms i (j + 1) r else p :: laterFrom ms i (j + 1) r
    | none => laterFrom ms i (j + 1) r

def later (l : List Oper) (m i : Nat) : List Nat := laterFrom (masks [] l) i 0 (l.take m)

def blockOf (E : List (Nat × Value)) (p : Nat) : Option Nat := match look E p with
  | some (.pointer (some ⟨b, 0, none⟩)) => some b
  | _ => none

def blocksOf (E : List (Nat × Value)) : List Nat → List Nat
  | [] => []
  | p :: r => match blockOf E p with
    | some b => b :: blocksOf E r
    | none => blocksOf E r

def envX (X : List (Nat × Value)) (E : List (Nat × Value)) : List Nat → List (Nat × Value)
  | [] => E
  | t :: r => match look X t with
    | some v => (t, v) :: envX X E r
    | none => envX X E r

/-- One operation, alone. -/
def Obl (P : Program) (n : Nat) (l : List Oper) (m : Nat) (E : List (Nat × Value)) (w : World) (i : Nat) (X : List (Nat × Value)) (S : List (Nat × Psi)) (o : Oper) (Φ : List (Nat × Value) → World → Value → World → Prop) : Prop :=
  ∀ w1, Rg P (Tg w (blocksOf E (later l m i))) w w1 → obl S (looks l o) (envX X E (looks l o)) w1 (fun E2 => OpG P n l.toArray o E2 w1 (Φ E2 w1))

def NewPtr (o : Oper) (w1 : World) (v : Value) (w2 : World) : Prop := isAlloc o.op = true → ∃ b, v = .pointer (some ⟨b, 0, none⟩) ∧ w1.heap.size ≤ b ∧ b < w2.heap.size

def FL (P : Program) (n : Nat) (l : List Oper) (m : Nat) (E : List (Nat × Value)) (w : World) (fin : List (Nat × Value) → List (Nat × Psi) → List (Nat × Psi) → Prop) : Nat → List (Nat × Value) → List (Nat × Psi) → List (Nat × Psi) → List Oper → Prop
  | _, X, S, H, [] => fin X S H
  | i, X, S, H, o :: r =>
    (∃ d v, o.dst = some d ∧ isAlloc o.op = false ∧ Obl P n l m E w i X S o (fun _ w1 v' w2 => Ext w1 w2 ∧ v' = v) ∧ FL P n l m E w fin (i + 1) ((d, v) :: X) S H r) ∨
    (∃ d ψ, o.dst = some d ∧ MonoR P ψ ∧ Obl P n l m E w i X S o (fun _ w1 v' w2 => Ext w1 w2 ∧ ψ v' w2 ∧ NewPtr o w1 v' w2) ∧ FL P n l m E w fin (i + 1) X ((d, ψ) :: S) H r) ∨
    (∃ p χ, stSlot o = some p ∧ MonoX P χ ∧ Obl P n l m E w i X S o (fun E2 w1 _ w2 => ∃ b, look E2 p = some (.pointer (some ⟨b, 0, none⟩)) ∧ Upd b w1 w2 ∧ VarKept P b w1 w2 ∧ χ (.pointer (some ⟨b, 0, none⟩)) w2) ∧ FL P n l m E w fin (i + 1) X S ((p, χ) :: H) r)

/-- What one operation needs and leaves, semantically. -/
def StepOk (P : Program) (n : Nat) (l : List Oper) (m : Nat) (E : List (Nat × Value)) (w : World) (Sf Hf : List (Nat × Psi)) (i : Nat) (o : Oper) : Prop :=
  ∀ w1 a, Rg P (Tg w (blocksOf E (later l m i))) w w1 → a.tmps.size = n → a.defers = [] → (∀ k v, look E k = some v → a.tmps[k]? = some v) →
    (∀ t ∈ looks l o, ∀ φ, lookP Sf t = some φ → ∃ v, a.tmps[t]? = some v ∧ φ v w1) →
    ∃ E2, Fits n E2 a ∧ (
      (∃ d ψ, o.dst = some d ∧ lookP Sf d = some ψ ∧ OpG P n l.toArray o E2 w1 (fun v' w2 => Ext w1 w2 ∧ ψ v' w2 ∧ NewPtr o w1 v' w2)) ∨
      (∃ p χ, stSlot o = some p ∧ lookP Hf p = some χ ∧ OpG P n l.toArray o E2 w1 (fun _ w2 => ∃ b, look E2 p = some (.pointer (some ⟨b, 0, none⟩)) ∧ Upd b w1 w2 ∧ VarKept P b w1 w2 ∧ χ (.pointer (some ⟨b, 0, none⟩)) w2)))

theorem look_envX {X E : List (Nat × Value)} {k : Nat} {v : Value} : ∀ {ts : List Nat}, look (envX X E ts) k = some v → (k ∈ ts ∧ look X k = some v) ∨ look E k = some v := by
  intro ts
  induction ts with
  | nil => intro h; exact .inr h
  | cons t r ih =>
    intro h
    unfold envX at h
    split at h
    · rename_i u hu
      by_cases e : t = k
      · subst e
        rw [look_cons_self] at h
        cases h
        exact .inl ⟨by simp, hu⟩
      · rw [look_cons_ne _ _ e] at h
        rcases ih h with ⟨h1, h2⟩ | h1
        · exact .inl ⟨by simp [h1], h2⟩
        · exact .inr h1
    · rcases ih h with ⟨h1, h2⟩ | h1
      · exact .inl ⟨by simp [h1], h2⟩
      · exact .inr h1

theorem lookP_append_left {S R : List (Nat × Psi)} {t : Nat} {φ : Psi} (h : lookP S t = some φ) : lookP (S ++ R) t = some φ := by
  induction S with
  | nil => simp [lookP] at h
  | cons q r ih =>
    obtain ⟨k, ψ⟩ := q
    simp only [List.cons_append, lookP] at h ⊢
    cases hb : Nat.beq k t with
    | true => rw [hb] at h; exact h
    | false => rw [hb] at h; exact ih h

theorem lookP_append_new {S R : List (Nat × Psi)} {t : Nat} {φ : Psi} (h : t ∉ S.map (·.1)) : lookP (S ++ (t, φ) :: R) t = some φ := by
  induction S with
  | nil => simp [lookP]
  | cons q r ih =>
    obtain ⟨k, ψ⟩ := q
    simp only [List.map_cons, List.mem_cons, not_or] at h
    simp only [List.cons_append, lookP]
    have : Nat.beq k t = false := by
      cases hb : Nat.beq k t
      · rfl
      · exact absurd (Nat.eq_of_beq_eq_true hb).symm h.1
    rw [this]
    exact ih h.2

theorem dsts_append (a b : List Oper) : dsts (a ++ b) = dsts a ++ dsts b := by
  induction a with
  | nil => rfl
  | cons o r ih =>
    simp only [List.cons_append, dsts]
    split <;> simp [ih]
theorem stSlots_append (a b : List Oper) : stSlots (a ++ b) = stSlots a ++ stSlots b := by
  induction a with
  | nil => rfl
  | cons o r ih =>
    simp only [List.cons_append, stSlots]
    split <;> simp [ih]

theorem nodupKeys_spec : ∀ {l : List Nat}, nodupKeys l = true → l.Nodup := by
  intro l
  induction l with
  | nil => intro _; exact List.nodup_nil
  | cons x r ih =>
    intro h
    simp only [nodupKeys, Bool.and_eq_true, Bool.not_eq_true', List.contains_eq_mem, decide_eq_false_iff_not] at h
    exact List.nodup_cons.2 ⟨h.1, ih h.2⟩

theorem obl_step {P : Program} {n : Nat} {l : List Oper} {m : Nat} {E : List (Nat × Value)} {w : World} {i : Nat} {X : List (Nat × Value)} {S Sf : List (Nat × Psi)} {o : Oper} {Φ : List (Nat × Value) → World → Value → World → Prop}
    (hX : ∀ t v, look X t = some v → lookP Sf t = some (Is v)) (hS : ∀ q ∈ S, lookP Sf q.1 = some q.2) (h : Obl P n l m E w i X S o Φ) {w1 : World} {a : Act} (hR : Rg P (Tg w (blocksOf E (later l m i))) w w1) (hsz : a.tmps.size = n) (hdf : a.defers = [])
    (hb : ∀ k v, look E k = some v → a.tmps[k]? = some v) (hf : ∀ t ∈ looks l o, ∀ φ, lookP Sf t = some φ → ∃ v, a.tmps[t]? = some v ∧ φ v w1) : ∃ E2, Fits n E2 a ∧ OpG P n l.toArray o E2 w1 (Φ E2 w1) := by
  refine obl_spec hsz hdf (looks l o) _ ?_ ?_ (h w1 hR)
  · intro k v hk
    rcases look_envX hk with ⟨h1, h2⟩ | h1
    · obtain ⟨u, hu, he⟩ := hf k h1 _ (hX k v h2)
      rw [hu]; exact congrArg some he
    · exact hb k v h1
  · intro t ht φ hφ
    exact hf t ht φ (hS _ (lookP_in hφ))

theorem FL_spec {P : Program} {n : Nat} {l : List Oper} {m : Nat} {E : List (Nat × Value)} {w : World} {fin : List (Nat × Value) → List (Nat × Psi) → List (Nat × Psi) → Prop} (hm : m ≤ l.length) (hnd : (dsts (l.take m)).Nodup) (hns : (stSlots (l.take m)).Nodup) :
    ∀ (r pre : List Oper) (X : List (Nat × Value)) (S H Sp Hp : List (Nat × Psi)), l.take m = pre ++ r → Sp.map (·.1) = dsts pre → Hp.map (·.1) = stSlots pre →
      (∀ t v, look X t = some v → lookP Sp t = some (Is v)) → (∀ q ∈ S, lookP Sp q.1 = some q.2) → (∀ q ∈ H, lookP Hp q.1 = some q.2) → FL P n l m E w fin pre.length X S H r →
      ∃ Sr Hr, (Sp ++ Sr).map (·.1) = dsts (l.take m) ∧ (Hp ++ Hr).map (·.1) = stSlots (l.take m) ∧ (∀ q ∈ Sr, MonoR P q.2) ∧ (∀ q ∈ Hr, MonoX P q.2) ∧
        (∃ X' S' H', fin X' S' H' ∧ (∀ t v, look X' t = some v → lookP (Sp ++ Sr) t = some (Is v)) ∧ (∀ q ∈ S', lookP (Sp ++ Sr) q.1 = some q.2) ∧ (∀ q ∈ H', lookP (Hp ++ Hr) q.1 = some q.2)) ∧
        ∀ j o, pre.length ≤ j → j < m → l[j]? = some o → StepOk P n l m E w (Sp ++ Sr) (Hp ++ Hr) j o := by
  intro r
  induction r with
  | nil =>
    intro pre X S H Sp Hp hl hSp hHp hX hS hH h
    refine ⟨[], [], by simp [hl, hSp], by simp [hl, hHp], by simp, by simp, ⟨X, S, H, h, by simpa using hX, by simpa using hS, by simpa using hH⟩, ?_⟩
    intro j o h1 h2
    have : (l.take m).length = pre.length := by rw [hl]; simp
    simp at this
    omega
  | cons o r ih =>
    intro pre X S H Sp Hp hl hSp hHp hX hS hH h
    have hl2 : l.take m = (pre ++ [o]) ++ r := by rw [hl]; simp
    have hpl : (pre ++ [o]).length = pre.length + 1 := by simp
    have hlen : (l.take m).length = pre.length + (r.length + 1) := by rw [hl]; simp
    have hoj : l[pre.length]? = some o := by
      have : (l.take m)[pre.length]? = some o := by rw [hl]; simp
      rwa [List.getElem?_take_of_lt (by simp at hlen; omega)] at this
    rcases h with ⟨d, v, hd, hal, hob, hr⟩ | ⟨d, ψ, hd, hmo, hob, hr⟩ | ⟨p, χ, hp, hmo, hob, hr⟩
    · have hdn : d ∉ Sp.map (·.1) := by
        rw [hSp]
        rw [hl, dsts_append] at hnd
        intro hin
        exact (List.nodup_append.1 hnd).2.2 d hin d (by simp [dsts, hd]) rfl
      have hst : stSlot o = none := by simp [stSlot, hd]
      obtain ⟨Sr, Hr, h1, h2, h3, h4, h5, h6⟩ := ih (pre ++ [o]) ((d, v) :: X) S H (Sp ++ [(d, Is v)]) Hp hl2 (by simp [dsts_append, hSp, dsts, hd]) (by simp [stSlots_append, hHp, stSlots, hst])
        (by
          intro t u ht
          by_cases e : d = t
          · subst e; rw [look_cons_self] at ht; cases ht
            exact lookP_append_new hdn
          · rw [look_cons_ne _ _ e] at ht
            exact lookP_append_left (hX t u ht)) (fun q hq => lookP_append_left (hS q hq)) hH (by rw [hpl]; exact hr)
      refine ⟨(d, Is v) :: Sr, Hr, by simpa using h1, h2, ?_, h4, by simpa using h5, ?_⟩
      · intro q hq
        rcases List.mem_cons.1 hq with rfl | hq
        · exact MonoR.is P v
        · exact h3 q hq
      · intro j oj hj1 hj2 hj3
        by_cases e : j = pre.length
        · subst e
          rw [hoj] at hj3; cases hj3
          intro w1 a hR hsz hdf hb hf
          obtain ⟨E2, hfit, hop⟩ := obl_step (Sf := Sp ++ (d, Is v) :: Sr) (fun t u ht => lookP_append_left (hX t u ht)) (fun q hq => lookP_append_left (hS q hq)) hob hR hsz hdf hb hf
          refine ⟨E2, hfit, .inl ⟨d, Is v, hd, lookP_append_new hdn, ?_⟩⟩
          rcases hop with ⟨hw, ho⟩ | ⟨hw, ho⟩
          · exact .inl ⟨hw, ho.mono fun v' w2 hv => ⟨hv.1, hv.2, fun e => by rw [hal] at e; cases e⟩⟩
          · exact .inr ⟨hw, ho.1, ho.2, fun e => by rw [hal] at e; cases e⟩
        · have := h6 j oj (by rw [hpl]; omega) hj2 hj3
          simpa using this
    · have hdn : d ∉ Sp.map (·.1) := by
        rw [hSp]
        rw [hl, dsts_append] at hnd
        intro hin
        exact (List.nodup_append.1 hnd).2.2 d hin d (by simp [dsts, hd]) rfl
      have hst : stSlot o = none := by simp [stSlot, hd]
      obtain ⟨Sr, Hr, h1, h2, h3, h4, h5, h6⟩ := ih (pre ++ [o]) X ((d, ψ) :: S) H (Sp ++ [(d, ψ)]) Hp hl2 (by simp [dsts_append, hSp, dsts, hd]) (by simp [stSlots_append, hHp, stSlots, hst])
        (fun t u ht => lookP_append_left (hX t u ht))
        (by
          intro q hq
          rcases List.mem_cons.1 hq with rfl | hq
          · exact lookP_append_new hdn
          · exact lookP_append_left (hS q hq)) hH (by rw [hpl]; exact hr)
      refine ⟨(d, ψ) :: Sr, Hr, by simpa using h1, h2, ?_, h4, by simpa using h5, ?_⟩
      · intro q hq
        rcases List.mem_cons.1 hq with rfl | hq
        · exact hmo
        · exact h3 q hq
      · intro j oj hj1 hj2 hj3
        by_cases e : j = pre.length
        · subst e
          rw [hoj] at hj3; cases hj3
          intro w1 a hR hsz hdf hb hf
          obtain ⟨E2, hfit, hop⟩ := obl_step (Sf := Sp ++ (d, ψ) :: Sr) (fun t u ht => lookP_append_left (hX t u ht)) (fun q hq => lookP_append_left (hS q hq)) hob hR hsz hdf hb hf
          exact ⟨E2, hfit, .inl ⟨d, ψ, hd, lookP_append_new hdn, hop⟩⟩
        · have := h6 j oj (by rw [hpl]; omega) hj2 hj3
          simpa using this
    · have hpn : p ∉ Hp.map (·.1) := by
        rw [hHp]
        rw [hl, stSlots_append] at hns
        intro hin
        exact (List.nodup_append.1 hns).2.2 p hin p (by simp [stSlots, hp]) rfl
      have hd : o.dst = none := by
        unfold stSlot at hp
        split at hp
        · assumption
        · cases hp
      obtain ⟨Sr, Hr, h1, h2, h3, h4, h5, h6⟩ := ih (pre ++ [o]) X S ((p, χ) :: H) Sp (Hp ++ [(p, χ)]) hl2 (by simp [dsts_append, hSp, dsts, hd]) (by simp [stSlots_append, hHp, stSlots, hp])
        hX hS
        (by
          intro q hq
          rcases List.mem_cons.1 hq with rfl | hq
          · exact lookP_append_new hpn
          · exact lookP_append_left (hH q hq)) (by rw [hpl]; exact hr)
      refine ⟨Sr, (p, χ) :: Hr, h1, by simpa using h2, h3, ?_, by simpa using h5, ?_⟩
      · intro q hq
        rcases List.mem_cons.1 hq with rfl | hq
        · exact hmo
        · exact h4 q hq
      · intro j oj hj1 hj2 hj3
        by_cases e : j = pre.length
        · subst e
          rw [hoj] at hj3; cases hj3
          intro w1 a hR hsz hdf hb hf
          obtain ⟨E2, hfit, hop⟩ := obl_step (Sf := Sp ++ Sr) (fun t u ht => lookP_append_left (hX t u ht)) (fun q hq => lookP_append_left (hS q hq)) hob hR hsz hdf hb hf
          exact ⟨E2, hfit, .inr ⟨p, χ, hp, lookP_append_new hpn, hop⟩⟩
        · have := h6 j oj (by rw [hpl]; omega) hj2 hj3
          simpa using this

end Go.Qf

/- A region that draws its order: the rule. -/
namespace Go.Qf
open Go Go.RowKit

/-- The closed facts on the region. -/
def flowOk (l : List Oper) (m : Nat) : Bool :=
  Nat.ble m l.length &&
  (List.range l.length).all (fun i => match l[i]? with | some o => (edgesTo o).all (fun e => Nat.blt e i) | none => false) &&
  (List.range m).all (fun i => match l[i]? with
    | some o => (match o.dst with | some _ => true | none => (match stSlot o with | some _ => true | none => false)) && (looks l o).all (fun t => !((dsts (l.take m)).contains t) || (List.range m).any (fun j => match l[j]? with | some oj => oj.dst == some t && (edgesTo o).contains j | none => false))
    | none => false) &&
  nodupKeys (dsts (l.take m)) && nodupKeys (stSlots (l.take m)) &&
  (List.range m).all (fun i => match l[i]? with
    | some o => (match stSlot o with | some p => !((dsts (l.take m)).contains p) || (List.range m).any (fun j => match l[j]? with | some oj => oj.dst == some p && isAlloc oj.op && (edgesTo o).contains j | none => false) | none => true)
    | none => false) &&
  (List.range l.length).all (fun k => Nat.blt k m || (List.range k).all (fun j => ((masks [] l).getD k 0).testBit j))

structure FlowOk (l : List Oper) (m : Nat) : Prop where
  le : m ≤ l.length
  back : ∀ i o, l[i]? = some o → ∀ e ∈ edgesTo o, e < i
  kind : ∀ i o, i < m → l[i]? = some o → (∃ d, o.dst = some d) ∨ ∃ p, stSlot o = some p
  pred : ∀ i o, i < m → l[i]? = some o → ∀ t ∈ looks l o, t ∈ dsts (l.take m) → ∃ j oj, j < m ∧ l[j]? = some oj ∧ oj.dst = some t ∧ j ∈ edgesTo o
  ndd : (dsts (l.take m)).Nodup
  nds : (stSlots (l.take m)).Nodup
  slot : ∀ i o p, i < m → l[i]? = some o → stSlot o = some p → p ∈ dsts (l.take m) → ∃ j oj, j < m ∧ l[j]? = some oj ∧ oj.dst = some p ∧ isAlloc oj.op = true ∧ j ∈ edgesTo o
  last : ∀ k, m ≤ k → k < l.length → ∀ j, j < k → ((masks [] l).getD k 0).testBit j = true

theorem flowOk_spec {l : List Oper} {m : Nat} (h : flowOk l m = true) : FlowOk l m := by
  simp only [flowOk, Bool.and_eq_true] at h
  obtain ⟨⟨⟨⟨⟨⟨h1, h2⟩, h3⟩, h4⟩, h5⟩, h6⟩, h7⟩ := h
  have hle := Nat.le_of_ble_eq_true h1
  refine ⟨hle, ?_, ?_, ?_, nodupKeys_spec h4, nodupKeys_spec h5, ?_, ?_⟩
  · intro i o ho e he
    have hi := (List.getElem?_eq_some_iff.1 ho).1
    have := List.all_eq_true.1 h2 i (List.mem_range.2 hi)
    rw [ho] at this
    simpa [Nat.blt_eq] using List.all_eq_true.1 this e he
  · intro i o hi ho
    have := List.all_eq_true.1 h3 i (List.mem_range.2 hi)
    rw [ho] at this
    simp only [Bool.and_eq_true] at this
    have := this.1
    cases hd : o.dst with
    | some d => exact .inl ⟨d, rfl⟩
    | none =>
      rw [hd] at this
      cases hs : stSlot o with
      | some p => exact .inr ⟨p, rfl⟩
      | none => rw [hs] at this; cases this
  · intro i o hi ho t ht hS
    have := List.all_eq_true.1 h3 i (List.mem_range.2 hi)
    rw [ho] at this
    simp only [Bool.and_eq_true] at this
    have h8 := List.all_eq_true.1 this.2 t ht
    simp only [Bool.or_eq_true] at h8
    rcases h8 with h8 | h8
    · simp [hS] at h8
    · obtain ⟨j, hj, h9⟩ := List.any_eq_true.1 h8
      cases hoj : l[j]? with
      | none => rw [hoj] at h9; simp at h9
      | some oj =>
        rw [hoj] at h9
        simp only [Bool.and_eq_true, beq_iff_eq, List.contains_iff_mem] at h9
        exact ⟨j, oj, List.mem_range.1 hj, hoj, h9.1, h9.2⟩
  · intro i o p hi ho hp hS
    have := List.all_eq_true.1 h6 i (List.mem_range.2 hi)
    rw [ho] at this
    simp only [hp, Bool.or_eq_true] at this
    rcases this with h8 | h8
    · simp [hS] at h8
    · obtain ⟨j, hj, h9⟩ := List.any_eq_true.1 h8
      cases hoj : l[j]? with
      | none => rw [hoj] at h9; simp at h9
      | some oj =>
        rw [hoj] at h9
        simp only [Bool.and_eq_true, beq_iff_eq, List.contains_iff_mem] at h9
        exact ⟨j, oj, List.mem_range.1 hj, hoj, h9.1.1, h9.1.2, h9.2⟩
  · intro k hk hk2 j hj
    have := List.all_eq_true.1 h7 k (List.mem_range.2 hk2)
    simp only [Bool.or_eq_true] at this
    rcases this with h8 | h8
    · simp [Nat.blt_eq] at h8; omega
    · exact List.all_eq_true.1 h8 j (List.mem_range.2 hj)

theorem mem_dsts {t : Nat} : ∀ {l : List Oper}, (∃ (i : Nat) (o : Oper), l[i]? = some o ∧ o.dst = some t) ↔ t ∈ dsts l := by
  intro l
  induction l with
  | nil => simp [dsts]
  | cons o r ih =>
    constructor
    · rintro ⟨i, o', h1, h2⟩
      cases i with
      | zero =>
        simp only [List.getElem?_cons_zero, Option.some.injEq] at h1
        subst h1
        simp [dsts, h2]
      | succ i =>
        simp only [List.getElem?_cons_succ] at h1
        have := ih.1 ⟨i, o', h1, h2⟩
        unfold dsts
        split <;> simp [this]
    · intro h
      unfold dsts at h
      split at h
      · rename_i d hd
        rcases List.mem_cons.1 h with rfl | h
        · exact ⟨0, o, rfl, hd⟩
        · obtain ⟨i, o', h1, h2⟩ := ih.2 h
          exact ⟨i + 1, o', h1, h2⟩
      · obtain ⟨i, o', h1, h2⟩ := ih.2 h
        exact ⟨i + 1, o', h1, h2⟩

theorem mem_stSlots {p : Nat} : ∀ {l : List Oper}, (∃ (i : Nat) (o : Oper), l[i]? = some o ∧ stSlot o = some p) → p ∈ stSlots l := by
  intro l
  induction l with
  | nil => simp
  | cons o r ih =>
    rintro ⟨i, o', h1, h2⟩
    cases i with
    | zero =>
      simp only [List.getElem?_cons_zero, Option.some.injEq] at h1
      subst h1
      simp [stSlots, h2]
    | succ i =>
      simp only [List.getElem?_cons_succ] at h1
      have := ih ⟨i, o', h1, h2⟩
      unfold stSlots
      split <;> simp [this]

theorem inj_dsts : ∀ {l : List Oper}, (dsts l).Nodup → ∀ {i j : Nat} {a b : Oper} {d : Nat}, l[i]? = some a → l[j]? = some b → a.dst = some d → b.dst = some d → i = j := by
  intro l
  induction l with
  | nil => intro _ i j a b d h; simp at h
  | cons o r ih =>
    intro hn i j a b d hi hj ha hb
    have hr : (dsts r).Nodup := by
      unfold dsts at hn
      split at hn
      · exact (List.nodup_cons.1 hn).2
      · exact hn
    have key : ∀ {k : Nat} {c : Oper}, r[k]? = some c → c.dst = some d → o.dst = some d → False := by
      intro k c h1 h2 h3
      simp only [dsts, h3] at hn
      exact (List.nodup_cons.1 hn).1 (mem_dsts.1 ⟨k, c, h1, h2⟩)
    cases i with
    | zero =>
      cases j with
      | zero => rfl
      | succ j =>
        simp only [List.getElem?_cons_zero, Option.some.injEq] at hi
        simp only [List.getElem?_cons_succ] at hj
        subst hi
        exact (key hj hb ha).elim
    | succ i =>
      simp only [List.getElem?_cons_succ] at hi
      cases j with
      | zero =>
        simp only [List.getElem?_cons_zero, Option.some.injEq] at hj
        subst hj
        exact (key hi ha hb).elim
      | succ j =>
        simp only [List.getElem?_cons_succ] at hj
        rw [ih hr hi hj ha hb]

theorem inj_slots : ∀ {l : List Oper}, (stSlots l).Nodup → ∀ {i j : Nat} {a b : Oper} {p : Nat}, l[i]? = some a → l[j]? = some b → stSlot a = some p → stSlot b = some p → i = j := by
  intro l
  induction l with
  | nil => intro _ i j a b d h; simp at h
  | cons o r ih =>
    intro hn i j a b d hi hj ha hb
    have hr : (stSlots r).Nodup := by
      unfold stSlots at hn
      split at hn
      · exact (List.nodup_cons.1 hn).2
      · exact hn
    have key : ∀ {k : Nat} {c : Oper}, r[k]? = some c → stSlot c = some d → stSlot o = some d → False := by
      intro k c h1 h2 h3
      simp only [stSlots, h3] at hn
      exact (List.nodup_cons.1 hn).1 (mem_stSlots ⟨k, c, h1, h2⟩)
    cases i with
    | zero =>
      cases j with
      | zero => rfl
      | succ j =>
        simp only [List.getElem?_cons_zero, Option.some.injEq] at hi
        simp only [List.getElem?_cons_succ] at hj
        subst hi
        exact (key hj hb ha).elim
    | succ i =>
      simp only [List.getElem?_cons_succ] at hi
      cases j with
      | zero =>
        simp only [List.getElem?_cons_zero, Option.some.injEq] at hj
        subst hj
        exact (key hi ha hb).elim
      | succ j =>
        simp only [List.getElem?_cons_succ] at hj
        rw [ih hr hi hj ha hb]

theorem mem_laterFrom {ms : List Nat} {i p : Nat} : ∀ (r : List Oper) (s j : Nat) (o : Oper), r[j]? = some o → stSlot o = some p → (ms.getD (s + j) 0).testBit i = false → p ∈ laterFrom ms i s r := by
  intro r
  induction r with
  | nil => intro s j o h; simp at h
  | cons x r ih =>
    intro s j o h hp hb
    cases j with
    | zero =>
      simp only [List.getElem?_cons_zero, Option.some.injEq] at h
      subst h
      simp only [Nat.add_zero] at hb
      simp only [laterFrom, hp, hb, cond_false, List.mem_cons, true_or]
    | succ j =>
      simp only [List.getElem?_cons_succ] at h
      have := ih (s + 1) j o h hp (by rw [show s + 1 + j = s + (j + 1) from by omega]; exact hb)
      unfold laterFrom
      split
      · rename_i q hq
        cases (ms.getD s 0).testBit i <;> simp [this]
      · exact this

theorem mem_blocksOf {E : List (Nat × Value)} {p k : Nat} (h : look E p = some (.pointer (some ⟨k, 0, none⟩))) : ∀ {ps : List Nat}, p ∈ ps → k ∈ blocksOf E ps := by
  have hb : blockOf E p = some k := by simp [blockOf, h]
  intro ps
  induction ps with
  | nil => intro h; cases h
  | cons q r ih =>
    intro hin
    unfold blocksOf
    rcases List.mem_cons.1 hin with rfl | hin
    · rw [hb]; simp
    · split <;> simp [ih hin]

/-- The pointers that were there before point to variables, each to its own. -/
def preD (w : World) : List Nat → Prop
  | [] => True
  | b :: r => b < w.heap.size ∧ (∀ c ∈ r, b ≠ c) ∧ preD w r

/-- The slots of the pointers that were there before. -/
def preSlots (l : List Oper) (m : Nat) : List Nat := (stSlots (l.take m)).filter (fun p => !((dsts (l.take m)).contains p))
def allPtr (E : List (Nat × Value)) : List Nat → Bool
  | [] => true
  | p :: r => (match blockOf E p with | some _ => true | none => false) && allPtr E r

theorem preD_spec {w : World} {E : List (Nat × Value)} : ∀ {ps : List Nat}, ps.Nodup → allPtr E ps = true → preD w (blocksOf E ps) →
    (∀ p ∈ ps, ∃ b, look E p = some (.pointer (some ⟨b, 0, none⟩)) ∧ b < w.heap.size) ∧ ∀ p ∈ ps, ∀ q ∈ ps, p ≠ q → ∀ b c, look E p = some (.pointer (some ⟨b, 0, none⟩)) → look E q = some (.pointer (some ⟨c, 0, none⟩)) → b ≠ c := by
  intro ps
  induction ps with
  | nil => intro _ _ _; exact ⟨by simp, by simp⟩
  | cons x r ih =>
    intro hn ha hp
    simp only [allPtr, Bool.and_eq_true] at ha
    obtain ⟨ha1, ha2⟩ := ha
    have hex : ∃ b, blockOf E x = some b := by
      cases hb : blockOf E x with
      | none => rw [hb] at ha1; cases ha1
      | some b => exact ⟨b, rfl⟩
    obtain ⟨b, hb⟩ := hex
    have hlk : look E x = some (.pointer (some ⟨b, 0, none⟩)) := by
      unfold blockOf at hb
      split at hb
      · rename_i h; simp only [Option.some.injEq] at hb; subst hb; exact h
      · cases hb
    simp only [blocksOf, hb, preD] at hp
    obtain ⟨h1, h2, h3⟩ := hp
    obtain ⟨i1, i2⟩ := ih (List.nodup_cons.1 hn).2 ha2 h3
    refine ⟨?_, ?_⟩
    · intro p hpm
      rcases List.mem_cons.1 hpm with rfl | hpm
      · exact ⟨b, hlk, h1⟩
      · exact i1 p hpm
    · intro p hpm q hqm hne c e hc he
      rcases List.mem_cons.1 hpm with hp1 | hp1
      · rcases List.mem_cons.1 hqm with hq1 | hq1
        · exact absurd (hp1.trans hq1.symm) hne
        · rw [hp1, hlk] at hc; cases hc
          exact h2 e (mem_blocksOf he hq1)
      · rcases List.mem_cons.1 hqm with hq1 | hq1
        · rw [hq1, hlk] at he; cases he
          exact fun hce => h2 c (mem_blocksOf hc hp1) hce.symm
        · exact i2 p hp1 q hq1 hne c e hc he

structure InvF (P : Program) (n : Nat) (l : List Oper) (m : Nat) (Sf Hf : List (Nat × Psi)) (E : List (Nat × Value)) (w0 : World) (listed : Array Bool) (a : Act) (w : World) : Prop where
  size : listed.size = l.length
  closed : ∀ i o, l[i]? = some o → listed.getD i false = true → ∀ e ∈ edgesTo o, listed.getD e false = true
  tmps : a.tmps.size = n
  defers : a.defers = []
  base : ∀ k v, look E k = some v → a.tmps[k]? = some v
  facts : ∀ i o d ψ, i < m → l[i]? = some o → listed.getD i false = true → o.dst = some d → lookP Sf d = some ψ → ∃ v, a.tmps[d]? = some v ∧ ψ v w
  held : ∀ i o p χ, i < m → l[i]? = some o → listed.getD i false = true → stSlot o = some p → lookP Hf p = some χ → ∃ v, a.tmps[p]? = some v ∧ χ v w
  rel : Rg P (fun k => w0.heap.size ≤ k ∨ ∃ j o p, j < m ∧ l[j]? = some o ∧ listed.getD j false = true ∧ stSlot o = some p ∧ look E p = some (.pointer (some ⟨k, 0, none⟩))) w0 w
  noB : ∀ i, m ≤ i → listed.getD i false = false
  made : ∀ i o d, i < m → l[i]? = some o → listed.getD i false = true → isAlloc o.op = true → o.dst = some d → ∃ b, a.tmps[d]? = some (.pointer (some ⟨b, 0, none⟩)) ∧ w0.heap.size ≤ b ∧ b < w.heap.size
  apart : ∀ i j oi oj di dj v, i < m → j < m → i ≠ j → l[i]? = some oi → l[j]? = some oj → listed.getD i false = true → listed.getD j false = true → isAlloc oi.op = true → isAlloc oj.op = true → oi.dst = some di → oj.dst = some dj → a.tmps[di]? = some v → a.tmps[dj]? = some v → False

section
variable {P : Program} {n : Nat} {l : List Oper} {m : Nat} {Sf Hf : List (Nat × Psi)} {E : List (Nat × Value)} {w0 : World} {listed : Array Bool} {a : Act} {w : World}

/-- Where a store's pointer points. -/
theorem InvF.ptr (hI : InvF P n l m Sf Hf E w0 listed a w) (hD : FlowOk l m) (hall : allPtr E (preSlots l m) = true) (hpre : preD w0 (blocksOf E (preSlots l m))) {i : Nat} {o : Oper} {p : Nat} (hi : i < m) (ho : l[i]? = some o) (hp : stSlot o = some p) (he : ∀ e ∈ edgesTo o, listed.getD e false = true) :
    ∃ b, a.tmps[p]? = some (.pointer (some ⟨b, 0, none⟩)) ∧ ((p ∈ dsts (l.take m) ∧ w0.heap.size ≤ b) ∨ (p ∉ dsts (l.take m) ∧ p ∈ preSlots l m ∧ look E p = some (.pointer (some ⟨b, 0, none⟩)) ∧ b < w0.heap.size)) := by
  by_cases hin : p ∈ dsts (l.take m)
  · obtain ⟨j, oj, hj, hoj, hdj, hal, hje⟩ := hD.slot i o p hi ho hp hin
    obtain ⟨b, hb, h0, _⟩ := hI.made j oj p hj hoj (he j hje) hal hdj
    exact ⟨b, hb, .inl ⟨hin, h0⟩⟩
  · have hps : p ∈ preSlots l m := by
      unfold preSlots
      refine List.mem_filter.2 ⟨mem_stSlots ⟨i, o, by rw [List.getElem?_take_of_lt hi]; exact ho, hp⟩, by simpa using hin⟩
    obtain ⟨b, hb, hlt⟩ := (preD_spec (hD.nds.sublist List.filter_sublist) hall hpre).1 p hps
    exact ⟨b, hI.base p _ hb, .inr ⟨hin, hps, hb, hlt⟩⟩

theorem InvF.ptr_ne (hI : InvF P n l m Sf Hf E w0 listed a w) (hD : FlowOk l m) (hall : allPtr E (preSlots l m) = true) (hpre : preD w0 (blocksOf E (preSlots l m))) {i j : Nat} {o oj : Oper} {p q : Nat} (hi : i < m) (hj : j < m) (hij : i ≠ j) (ho : l[i]? = some o) (hoj : l[j]? = some oj) (hp : stSlot o = some p) (hq : stSlot oj = some q)
    (he : ∀ e ∈ edgesTo o, listed.getD e false = true) (he' : ∀ e ∈ edgesTo oj, listed.getD e false = true) {v : Value} (hv : a.tmps[p]? = some v) (hv' : a.tmps[q]? = some v) : False := by
  have hpq : p ≠ q := by
    intro e; subst e
    exact hij (inj_slots hD.nds (i := i) (j := j) (by rw [List.getElem?_take_of_lt hi]; exact ho) (by rw [List.getElem?_take_of_lt hj]; exact hoj) hp hq)
  obtain ⟨b, hb, hc⟩ := hI.ptr hD hall hpre hi ho hp he
  obtain ⟨b', hb', hc'⟩ := hI.ptr hD hall hpre hj hoj hq he'
  rw [hb] at hv
  rw [hb'] at hv'
  rw [← hv] at hv'
  simp only [Option.some.injEq, Value.pointer.injEq, Addr.mk.injEq, and_true] at hv'
  subst hv'
  rcases hc with ⟨h1, h2⟩ | ⟨h1, h2, h3, h4⟩
  · rcases hc' with ⟨k1, k2⟩ | ⟨k1, k2, k3, k4⟩
    · obtain ⟨x, ox, hx, hox, hdx, hax, hxe⟩ := hD.slot i o p hi ho hp h1
      obtain ⟨y, oy, hy, hoy, hdy, hay, hye⟩ := hD.slot j oj q hj hoj hq k1
      refine hI.apart x y ox oy p q _ hx hy ?_ hox hoy (he x hxe) (he' y hye) hax hay hdx hdy hb hb'
      intro e; subst e
      rw [hox] at hoy; cases hoy
      rw [hdx] at hdy; cases hdy
      exact hpq rfl
    · omega
  · rcases hc' with ⟨k1, k2⟩ | ⟨k1, k2, k3, k4⟩
    · omega
    · exact (preD_spec (hD.nds.sublist List.filter_sublist) hall hpre).2 p h2 q k2 hpq _ _ h3 k3 rfl

end
end Go.Qf

/- A region that draws its order: the rule proved. -/
namespace Go.Qf
open Go Go.RowKit

def heldP (E : List (Nat × Value)) (w : World) : List (Nat × Psi) → Prop
  | [] => True
  | (p, χ) :: r => (match look E p with | some v => χ v w | none => True) ∧ heldP E w r

theorem heldP_spec {E : List (Nat × Value)} {w : World} : ∀ {H : List (Nat × Psi)}, (∀ q ∈ H, ∀ v, look E q.1 = some v → q.2 v w) → heldP E w H := by
  intro H
  induction H with
  | nil => intro _; trivial
  | cons q r ih =>
    intro h
    obtain ⟨p, χ⟩ := q
    refine ⟨?_, ih fun q hq => h q (List.mem_cons_of_mem _ hq)⟩
    cases hl : look E p with
    | none => trivial
    | some v => exact h (p, χ) (by simp) v hl

theorem look_append {X E : List (Nat × Value)} {k : Nat} {v : Value} : look (X ++ E) k = some v → look X k = some v ∨ look E k = some v := by
  induction X with
  | nil => intro h; exact .inr h
  | cons q r ih =>
    obtain ⟨t, u⟩ := q
    intro h
    by_cases e : t = k
    · subst e
      rw [List.cons_append, look_cons_self] at h
      exact .inl (by rw [look_cons_self]; exact h)
    · rw [List.cons_append, look_cons_ne _ _ e] at h
      rw [look_cons_ne _ _ e]
      exact ih h

/-- The end of the drawn part. -/
def FlowEnd (P : Program) (n : Nat) (l : List Oper) (m : Nat) (E : List (Nat × Value)) (w : World) (Q : Exit → Act → World → Prop) (X : List (Nat × Value)) (S H : List (Nat × Psi)) : Prop :=
  ∀ w1, Rg P (Tg w (blocksOf E (stSlots (l.take m)))) w w1 → allP S (X ++ E) w1 (fun E2 => heldP E2 w1 H → Dist (allocs (l.take m)) E2 → StL P n E2 w1 l.toArray (l.drop m) Q)

theorem mem_lookP {S : List (Nat × Psi)} {t : Nat} {ψ : Psi} (h : lookP S t = some ψ) : t ∈ S.map (·.1) := List.mem_map.2 ⟨_, lookP_in h, rfl⟩

theorem stageF {P : Program} {n : Nat} {l : List Oper} {m : Nat} {Sf Hf : List (Nat × Psi)} {E : List (Nat × Value)} {w0 : World} {Q : Exit → Act → World → Prop} (hD : FlowOk l m) (hSk : Sf.map (·.1) = dsts (l.take m)) (hHk : Hf.map (·.1) = stSlots (l.take m))
    (hmo : ∀ q ∈ Sf, MonoR P q.2) (hmx : ∀ q ∈ Hf, MonoX P q.2) (hfree : ∀ d ∈ dsts (l.take m), look E d = none) (hlt : ∀ d ∈ dsts (l.take m), d < n) (hall : allPtr E (preSlots l m) = true) (hpre : preD w0 (blocksOf E (preSlots l m)))
    (hstep : ∀ j o, j < m → l[j]? = some o → StepOk P n l m E w0 Sf Hf j o)
    {X : List (Nat × Value)} {S H : List (Nat × Psi)} (hend : FlowEnd P n l m E w0 Q X S H) (hX : ∀ t v, look X t = some v → lookP Sf t = some (Is v)) (hS : ∀ q ∈ S, lookP Sf q.1 = some q.2) (hH : ∀ q ∈ H, lookP Hf q.1 = some q.2) :
    ∀ (f : Nat) (U : List Nat) (listed : Array Bool) (a : Act) (w : World), f = (l.length - m) + U.length → U.Nodup → (∀ i, i ∈ U ↔ i < m ∧ listed.getD i false = false) → InvF P n l m Sf Hf E w0 listed a w → wpAny P .any l.toArray Q f listed a w := by
  have htake : ∀ {i : Nat} {o : Oper}, i < m → l[i]? = some o → (l.take m)[i]? = some o := fun hi ho => by rw [List.getElem?_take_of_lt hi]; exact ho
  have hdin : ∀ {i : Nat} {o : Oper} {d : Nat}, i < m → l[i]? = some o → o.dst = some d → d ∈ dsts (l.take m) := fun hi ho hd => mem_dsts.1 ⟨_, _, htake hi ho, hd⟩
  -- all have come up
  have hfinish : ∀ {f : Nat} {listed : Array Bool} {a : Act} {w : World}, f = l.length - m → (∀ i, i < m → listed.getD i false = true) → InvF P n l m Sf Hf E w0 listed a w → wpAny P .any l.toArray Q f listed a w := by
    intro f listed a w hf hL hI
    have hle := hD.le
    refine stageB hD.back hD.last f m listed a w (by omega) (Nat.le_refl _) hI.size hL hI.noB ?_
    have hrel : Rg P (Tg w0 (blocksOf E (stSlots (l.take m)))) w0 w := by
      refine hI.rel.weak ?_
      rintro k _ (h1 | ⟨j, o, p, hj, ho, _, hp, hlk⟩)
      · exact .inl h1
      · exact .inr (mem_blocksOf hlk (mem_stSlots ⟨j, o, htake hj ho, hp⟩))
    have hfact : ∀ t φ, lookP Sf t = some φ → ∃ v, a.tmps[t]? = some v ∧ φ v w := by
      intro t φ ht
      have : t ∈ dsts (l.take m) := by rw [← hSk]; exact mem_lookP ht
      obtain ⟨i, o, hi, hd⟩ := mem_dsts.2 this
      have him : i < m := by have := (List.getElem?_eq_some_iff.1 hi).1; simp at this; omega
      rw [List.getElem?_take_of_lt him] at hi
      exact hI.facts i o t φ him hi (hL i him) hd ht
    obtain ⟨E2, hfit, hst⟩ := allP_spec hI.tmps hI.defers S (X ++ E) (by
      intro k v hk
      rcases look_append hk with h1 | h1
      · obtain ⟨u, hu, he⟩ := hfact k _ (hX k v h1)
        rw [hu]; exact congrArg some he
      · exact hI.base k v h1) (fun t ψ ht => hfact t ψ (hS _ ht)) (hend w hrel)
    refine hst (heldP_spec ?_) ?_ a hfit
    · intro q hq v hv
      have hlk := hH q hq
      have : q.1 ∈ stSlots (l.take m) := by rw [← hHk]; exact mem_lookP hlk
      have hex : ∃ (i : Nat) (o : Oper), i < m ∧ l[i]? = some o ∧ stSlot o = some q.1 := by
        clear hv hlk
        have aux : ∀ (r : List Oper), q.1 ∈ stSlots r → ∃ (i : Nat) (o : Oper), r[i]? = some o ∧ stSlot o = some q.1 := by
          intro r
          induction r with
          | nil => intro h; cases h
          | cons x r ih =>
            intro h
            unfold stSlots at h
            split at h
            · rename_i p hp
              rcases List.mem_cons.1 h with e | h
              · exact ⟨0, x, rfl, by rw [e]; exact hp⟩
              · obtain ⟨i, o, h1, h2⟩ := ih h
                exact ⟨i + 1, o, h1, h2⟩
            · obtain ⟨i, o, h1, h2⟩ := ih h
              exact ⟨i + 1, o, h1, h2⟩
        obtain ⟨i, o, h1, h2⟩ := aux _ this
        have him : i < m := by have := (List.getElem?_eq_some_iff.1 h1).1; simp at this; omega
        rw [List.getElem?_take_of_lt him] at h1
        exact ⟨i, o, him, h1, h2⟩
      obtain ⟨i, o, him, hi, hp⟩ := hex
      obtain ⟨u, hu, hχ⟩ := hI.held i o q.1 q.2 him hi (hL i him) hp hlk
      have := hfit.slots _ _ hv
      rw [hu] at this; cases this
      exact hχ
    · intro t ht t' ht' hne v hv hv'
      obtain ⟨i, oi, hi, hai, hdi⟩ := mem_allocs ht
      obtain ⟨j, oj, hj, haj, hdj⟩ := mem_allocs ht'
      have him : i < m := by have := (List.getElem?_eq_some_iff.1 hi).1; simp at this; omega
      have hjm : j < m := by have := (List.getElem?_eq_some_iff.1 hj).1; simp at this; omega
      rw [List.getElem?_take_of_lt him] at hi
      rw [List.getElem?_take_of_lt hjm] at hj
      refine hI.apart i j oi oj t t' v him hjm ?_ hi hj (hL i him) (hL j hjm) hai haj hdi hdj (hfit.slots t v hv) (hfit.slots t' v hv')
      intro e; subst e
      rw [hi] at hj; cases hj
      rw [hdi] at hdj; cases hdj
      exact hne rfl
  intro f
  induction f with
  | zero =>
    intro U listed a w hf hU hmem hI
    have h0 : U = [] := List.eq_nil_of_length_eq_zero (by omega)
    subst h0
    refine hfinish (by simpa using hf) ?_ hI
    intro i hi
    cases hx : listed.getD i false with
    | true => rfl
    | false => have := (hmem i).2 ⟨hi, hx⟩; cases this
  | succ f ih =>
    intro U listed a w hf hU hmem hI
    by_cases h0 : U = []
    · subst h0
      refine hfinish (by simpa using hf) ?_ hI
      intro i hi
      cases hx : listed.getD i false with
      | true => rfl
      | false => have := (hmem i).2 ⟨hi, hx⟩; cases this
    · have hgd : ∀ i, i < l.length → listed.getD i true = listed.getD i false := fun i hi => by
        have : i < listed.size := by have := hI.size; omega
        simp [Array.getD_eq_getD_getElem?, this]
      have hclo : ∀ (i : Nat) (o : Oper), l[i]? = some o → (∀ e ∈ edgesTo o, listed.getD e false = true) → ∀ j, ((masks [] l).getD i 0).testBit j = true → listed.getD j false = true :=
        masks_spec (l := l) (L := fun j => listed.getD j false = true) hI.closed l [] [] rfl rfl (fun j _ hj => by simp at hj)
      constructor
      · intro hr
        exfalso
        obtain ⟨x, hx⟩ := List.exists_mem_of_ne_nil U h0
        have hleast : ∀ b, ∀ i, i < b → i < m → listed.getD i false = false → ∃ i0, i0 < m ∧ listed.getD i0 false = false ∧ ∀ j, j < i0 → listed.getD j false = true := by
          intro b
          induction b with
          | zero => intro i hi; omega
          | succ b ihb =>
            intro i hi him hil
            by_cases hall : ∀ j, j < i → listed.getD j false = true
            · exact ⟨i, him, hil, hall⟩
            · have : ∃ j, j < i ∧ listed.getD j false = false := by
                apply Classical.byContradiction
                intro hne
                apply hall
                intro j hj
                cases hx : listed.getD j false with
                | true => rfl
                | false => exact absurd ⟨j, hj, hx⟩ hne
              obtain ⟨j, hj, hjl⟩ := this
              exact ihb j (by omega) (by omega) hjl
        obtain ⟨i0, hi0, hl0, hbef⟩ := hleast (x + 1) x (by omega) ((hmem x).1 hx).1 ((hmem x).1 hx).2
        have hi0l : i0 < l.length := by have := hD.le; omega
        have : i0 ∈ Region.ready .any l.toArray listed := by
          refine mem_ready.2 ⟨by rw [hgd i0 hi0l]; exact hl0, l[i0], by simp [hi0l], fun e he hb => hbef _ ?_⟩
          exact hD.back i0 l[i0] (List.getElem?_eq_getElem hi0l) e.on (mem_edgesTo.2 ⟨e, he, hb, rfl⟩)
        rw [hr] at this
        cases this
      · intro i hi
        obtain ⟨h3, o, ho, hall2⟩ := mem_ready.1 hi
        have hil : i < l.length := by
          have := (Array.getElem?_eq_some_iff.1 ho).1
          simpa using this
        have hol : l[i]? = some o := by simpa using ho
        rw [hgd i hil] at h3
        have hedges : ∀ e ∈ edgesTo o, listed.getD e false = true := fun e he => by
          obtain ⟨e', h5, h6, h7⟩ := mem_edgesTo.1 he; subst h7; exact hall2 e' h5 h6
        have him : i < m := by
          rcases Nat.lt_or_ge i m with h | h
          · exact h
          · exfalso
            obtain ⟨x, hx⟩ := List.exists_mem_of_ne_nil U h0
            have hxm := (hmem x).1 hx
            have := hclo i o hol hedges x (hD.last i h hil x (by omega))
            rw [hxm.2] at this
            cases this
        have hrel : Rg P (Tg w0 (blocksOf E (later l m i))) w0 w := by
          refine hI.rel.weak ?_
          rintro k _ (h1 | ⟨j, oj, p, hj, hoj, hjl, hp, hlk⟩)
          · exact .inl h1
          · refine .inr (mem_blocksOf hlk (mem_laterFrom (l.take m) 0 j oj (htake hj hoj) hp ?_))
            rw [Nat.zero_add]
            cases hb : ((masks [] l).getD j 0).testBit i with
            | false => rfl
            | true =>
              have := hclo j oj hoj (fun e he => hI.closed j oj hoj hjl e he) i hb
              rw [h3] at this; cases this
        obtain ⟨E2, hfit, hop⟩ := hstep i o him hol w a hrel hI.tmps hI.defers hI.base (fun t ht φ hφ => by
          obtain ⟨j, oj, hj, hoj, hdj, hje⟩ := hD.pred i o him hol t ht (by rw [← hSk]; exact mem_lookP hφ)
          exact hI.facts j oj t φ hj hoj (hedges j hje) hdj hφ)
        have hiU : i ∈ U := (hmem i).2 ⟨him, h3⟩
        have hset : ∀ j, (listed.setIfInBounds i true).getD j false = if j = i then true else listed.getD j false := by
          intro j
          simp only [Array.getD_eq_getD_getElem?]
          by_cases e : j = i
          · subst e; simp [hI.size, hil]
          · rw [Array.getElem?_setIfInBounds_ne (fun e' => e e'.symm), if_neg e]
        have hUlen : f = l.length - m + (U.erase i).length := by
          have hpos : 0 < U.length := List.length_pos_of_mem hiU
          rw [List.length_erase_of_mem hiU]; omega
        have hUmem : ∀ j, j ∈ U.erase i ↔ j < m ∧ (listed.setIfInBounds i true).getD j false = false := by
          intro j
          rw [hU.mem_erase_iff, hset]
          constructor
          · rintro ⟨hne, hj⟩
            rw [if_neg hne]
            exact (hmem j).1 hj
          · rintro ⟨hj, hj2⟩
            by_cases e : j = i
            · rw [if_pos e] at hj2; cases hj2
            · rw [if_neg e] at hj2; exact ⟨e, (hmem j).2 ⟨hj, hj2⟩⟩
        have hclosed' : ∀ j oj, l[j]? = some oj → (listed.setIfInBounds i true).getD j false = true → ∀ e ∈ edgesTo oj, (listed.setIfInBounds i true).getD e false = true := by
          intro j oj hj hjl e he
          rw [hset] at hjl ⊢
          by_cases e1 : e = i
          · rw [if_pos e1]
          · rw [if_neg e1]
            by_cases e2 : j = i
            · subst e2
              rw [hol] at hj; cases hj
              exact hedges e he
            · rw [if_neg e2] at hjl
              exact hI.closed j oj hj hjl e he
        have hnoB' : ∀ j, m ≤ j → (listed.setIfInBounds i true).getD j false = false := by
          intro j hj
          rw [hset, if_neg (by omega)]
          exact hI.noB j hj
        have hrel' : ∀ {w2 : World}, Rg P (fun k => w0.heap.size ≤ k ∨ ∃ j o p, j < m ∧ l[j]? = some o ∧ (listed.setIfInBounds i true).getD j false = true ∧ stSlot o = some p ∧ look E p = some (.pointer (some ⟨k, 0, none⟩))) w w2 → Rg P (fun k => w0.heap.size ≤ k ∨ ∃ j o p, j < m ∧ l[j]? = some o ∧ (listed.setIfInBounds i true).getD j false = true ∧ stSlot o = some p ∧ look E p = some (.pointer (some ⟨k, 0, none⟩))) w0 w2 := by
          intro w2 h
          refine Rg.trans (hI.rel.weak ?_) h
          rintro k _ (h1 | ⟨j, oj, p, hj, hoj, hjl, hp, hlk⟩)
          · exact .inl h1
          · refine .inr ⟨j, oj, p, hj, hoj, ?_, hp, hlk⟩
            rw [hset]
            split
            · rfl
            · exact hjl
        unfold wpOp
        simp only [ho]
        rcases hop with ⟨d, ψ, hd, hψ, hop⟩ | ⟨p, χ, hp, hχ, hop⟩
        · have hdS : d ∈ dsts (l.take m) := hdin him hol hd
          have hdn : d < n := hlt d hdS
          have next : ∀ v w2, (Ext w w2 ∧ ψ v w2 ∧ NewPtr o w v w2) → wpAny P .any l.toArray Q f (listed.setIfInBounds i true) (a.put o.dst v) w2 := by
            rintro v w2 ⟨hx2, hpsi, hnew⟩
            have hput : ∀ {t : Nat} {u : Value}, t ≠ d → a.tmps[t]? = some u → (a.put o.dst v).tmps[t]? = some u := by
              intro t u hne hu
              simp only [hd, Act.put]
              rw [Array.getElem?_setIfInBounds_ne (fun e => hne e.symm)]
              exact hu
            have hself : (a.put o.dst v).tmps[d]? = some v := by simp [hd, Act.put, hI.tmps, hdn]
            refine ih (U.erase i) _ _ w2 hUlen (hU.erase i) hUmem ⟨by simpa using hI.size, hclosed', by simp [hd, Act.put, hI.tmps], by simp [hd, Act.put, hI.defers], ?_, ?_, ?_, hrel' hx2.rg, hnoB', ?_, ?_⟩
            · intro k u hk
              refine hput ?_ (hI.base k u hk)
              intro e; subst e
              rw [hfree k hdS] at hk; cases hk
            · intro j oj d' φ hj hoj hjl hd' hφ
              rw [hset] at hjl
              by_cases e : j = i
              · subst e
                rw [hol] at hoj; cases hoj
                rw [hd] at hd'; cases hd'
                rw [hψ] at hφ; cases hφ
                exact ⟨v, hself, hpsi⟩
              · rw [if_neg e] at hjl
                obtain ⟨u, hu, hφu⟩ := hI.facts j oj d' φ hj hoj hjl hd' hφ
                refine ⟨u, hput ?_ hu, hmo _ (lookP_in hφ) u w w2 hx2.rg hφu⟩
                intro e'; subst e'
                exact e (inj_dsts hD.ndd (htake hj hoj) (htake him hol) hd' hd)
            · intro j oj q ξ hj hoj hjl hq hξ
              rw [hset] at hjl
              have e : j ≠ i := by
                intro e; subst e
                rw [hol] at hoj; cases hoj
                simp [stSlot, hd] at hq
              rw [if_neg e] at hjl
              obtain ⟨u, hu, hξu⟩ := hI.held j oj q ξ hj hoj hjl hq hξ
              refine ⟨u, hput ?_ hu, (hmx _ (lookP_in hξ)).1 u w w2 hx2 hξu⟩
              intro e'; subst e'
              -- the pointer's slot has come up already
              by_cases hin : q ∈ dsts (l.take m)
              · obtain ⟨x, ox, hx, hox, hdx, _, hxe⟩ := hD.slot j oj q hj hoj hq hin
                have hxi := inj_dsts hD.ndd (htake hx hox) (htake him hol) hdx hd
                subst hxi
                have := hI.closed j oj hoj hjl x hxe
                rw [h3] at this; cases this
              · exact hin hdS
            · intro j oj d' hj hoj hjl hal hd'
              rw [hset] at hjl
              by_cases e : j = i
              · subst e
                rw [hol] at hoj; cases hoj
                rw [hd] at hd'; cases hd'
                obtain ⟨b, rfl, hb0, hb⟩ := hnew hal
                exact ⟨b, hself, Nat.le_trans hI.rel.size hb0, hb⟩
              · rw [if_neg e] at hjl
                obtain ⟨b, hb, hb0, hbl⟩ := hI.made j oj d' hj hoj hjl hal hd'
                refine ⟨b, hput ?_ hb, hb0, Nat.lt_of_lt_of_le hbl hx2.size⟩
                intro e'; subst e'
                exact e (inj_dsts hD.ndd (htake hj hoj) (htake him hol) hd' hd)
            · have hold : ∀ j oj d' u, j < m → j ≠ i → l[j]? = some oj → listed.getD j false = true → isAlloc oj.op = true → oj.dst = some d' → (a.put o.dst v).tmps[d']? = some u → a.tmps[d']? = some u ∧ ∃ b, u = .pointer (some ⟨b, 0, none⟩) ∧ b < w.heap.size := by
                intro j oj d' u hj hne hoj hjl hal hd' hu
                obtain ⟨b, hb, _, hbl⟩ := hI.made j oj d' hj hoj hjl hal hd'
                have hne' : d' ≠ d := fun e' => hne (inj_dsts hD.ndd (htake hj hoj) (htake him hol) (by rw [hd', e']) hd)
                rw [hput hne' hb] at hu
                cases hu
                exact ⟨hb, b, rfl, hbl⟩
              have hnewv : isAlloc o.op = true → ∀ u, (a.put o.dst v).tmps[d]? = some u → ∃ b, u = .pointer (some ⟨b, 0, none⟩) ∧ w.heap.size ≤ b := by
                intro hal u hu
                obtain ⟨b, hb, hb0, _⟩ := hnew hal
                rw [hself] at hu
                cases hu
                exact ⟨b, hb, hb0⟩
              intro j k oj ok dj dk u hj hk hne hoj hok hjl hkl haj hak hdj hdk huj huk
              rw [hset] at hjl hkl
              by_cases e1 : j = i
              · subst e1
                have e2 : ¬ k = j := fun e => hne e.symm
                rw [if_neg e2] at hkl
                rw [hol] at hoj; cases hoj
                rw [hd] at hdj; cases hdj
                obtain ⟨_, b, hb, hbl⟩ := hold k ok dk u hk e2 hok hkl hak hdk huk
                obtain ⟨b', hb', hbl'⟩ := hnewv haj u huj
                rw [hb] at hb'; cases hb'
                omega
              · rw [if_neg e1] at hjl
                obtain ⟨huj', b, hb, hbl⟩ := hold j oj dj u hj e1 hoj hjl haj hdj huj
                by_cases e2 : k = i
                · subst e2
                  rw [hol] at hok; cases hok
                  rw [hd] at hdk; cases hdk
                  obtain ⟨b', hb', hbl'⟩ := hnewv hak u huk
                  rw [hb] at hb'; cases hb'
                  omega
                · rw [if_neg e2] at hkl
                  obtain ⟨huk', _⟩ := hold k ok dk u hk e2 hok hkl hak hdk huk
                  exact hI.apart j k oj ok dj dk u hj hk hne hoj hok hjl hkl haj hak hdj hdk huj' huk'
          rcases hop with ⟨hwant, hop⟩ | ⟨hwant, hop⟩
          · rw [if_pos (wantE_spec hfit hwant)]
            exact .inl (hop a hfit Q _ next)
          · rw [if_neg (by rw [wantE_spec hfit hwant]; simp)]
            exact next undef w hop
        · have hdst : o.dst = none := by
            unfold stSlot at hp
            split at hp
            · assumption
            · cases hp
          have next : ∀ v w2, (∃ b, look E2 p = some (.pointer (some ⟨b, 0, none⟩)) ∧ Upd b w w2 ∧ VarKept P b w w2 ∧ χ (.pointer (some ⟨b, 0, none⟩)) w2) → wpAny P .any l.toArray Q f (listed.setIfInBounds i true) (a.put o.dst v) w2 := by
            rintro v w2 ⟨b, hlb, hu, hvk, hχb⟩
            have hput : a.put o.dst v = a := by rw [hdst]; rfl
            rw [hput]
            have hpb := hfit.slots p _ hlb
            obtain ⟨b', hb', hcase⟩ := hI.ptr hD hall hpre him hol hp hedges
            rw [hpb] at hb'
            simp only [Option.some.injEq, Value.pointer.injEq, Addr.mk.injEq, and_true] at hb'
            subst hb'
            refine ih (U.erase i) _ _ w2 hUlen (hU.erase i) hUmem ⟨by simpa using hI.size, hclosed', hI.tmps, hI.defers, hI.base, ?_, ?_, hrel' (Rg.of_upd hu hvk ?_), hnoB', ?_, ?_⟩
            · intro j oj d' φ hj hoj hjl hd' hφ
              rw [hset] at hjl
              have e : j ≠ i := by
                intro e; subst e
                rw [hol] at hoj; cases hoj
                rw [hdst] at hd'; cases hd'
              rw [if_neg e] at hjl
              obtain ⟨u, hu', hφu⟩ := hI.facts j oj d' φ hj hoj hjl hd' hφ
              exact ⟨u, hu', hmo _ (lookP_in hφ) u w w2 (Rg.of_upd hu hvk trivial) hφu⟩
            · intro j oj q ξ hj hoj hjl hq hξ
              rw [hset] at hjl
              by_cases e : j = i
              · subst e
                rw [hol] at hoj; cases hoj
                rw [hp] at hq; cases hq
                rw [hχ] at hξ; cases hξ
                exact ⟨_, hpb, hχb⟩
              · rw [if_neg e] at hjl
                obtain ⟨u, hu', hξu⟩ := hI.held j oj q ξ hj hoj hjl hq hξ
                refine ⟨u, hu', (hmx _ (lookP_in hξ)).2 u w w2 b hu hvk ?_ hξu⟩
                intro e'; subst e'
                exact hI.ptr_ne hD hall hpre hj him e hoj hol hq hp (hI.closed j oj hoj hjl) hedges hu' hpb
            · rcases hcase with ⟨_, h4⟩ | ⟨_, _, h4, _⟩
              · exact .inl h4
              · exact .inr ⟨i, o, p, him, hol, by rw [hset, if_pos rfl], hp, h4⟩
            · intro j oj d' hj hoj hjl hal hd'
              rw [hset] at hjl
              have e : j ≠ i := by
                intro e; subst e
                rw [hol] at hoj; cases hoj
                rw [hdst] at hd'; cases hd'
              rw [if_neg e] at hjl
              obtain ⟨c, hc, hc0, hcl⟩ := hI.made j oj d' hj hoj hjl hal hd'
              exact ⟨c, hc, hc0, Nat.lt_of_lt_of_le hcl hu.size⟩
            · intro j k oj ok dj dk u hj hk hne hoj hok hjl hkl haj hak hdj hdk huj huk
              rw [hset] at hjl hkl
              have e1 : j ≠ i := by
                intro e; subst e
                rw [hol] at hoj; cases hoj
                rw [hdst] at hdj; cases hdj
              have e2 : k ≠ i := by
                intro e; subst e
                rw [hol] at hok; cases hok
                rw [hdst] at hdk; cases hdk
              rw [if_neg e1] at hjl
              rw [if_neg e2] at hkl
              exact hI.apart j k oj ok dj dk u hj hk hne hoj hok hjl hkl haj hak hdj hdk huj huk
          rcases hop with ⟨hwant, hop⟩ | ⟨hwant, hop⟩
          · rw [if_pos (wantE_spec hfit hwant)]
            exact .inl (hop a hfit Q _ next)
          · rw [if_neg (by rw [wantE_spec hfit hwant]; simp)]
            exact next undef w hop

/-- THE RULE: the first m operations come in any order that their edges allow, the others behind them one by one. -/
theorem St.flow {P : Program} {n : Nat} {l : List Oper} (m : Nat) {E : List (Nat × Value)} {w : World} {Q : Exit → Act → World → Prop} {id : Nat} (hP : P.follows .mixedOrders = true) (hD : flowOk l m = true) (hfree : freeE (dsts (l.take m)) E = true) (hlt : (dsts (l.take m)).all (fun d => Nat.blt d n) = true)
    (hall : allPtr E (preSlots l m) = true) (hpre : preD w (blocksOf E (preSlots l m))) (h : FL P n l m E w (FlowEnd P n l m E w Q) 0 [] [] [] (l.take m)) : St P n E w (.region id l.toArray true) Q := by
  intro a ha
  have hD' := flowOk_spec hD
  refine wp_region_any hP ?_
  have hle := hD'.le
  obtain ⟨Sf, Hf, h1, h2, h3, h4, ⟨X, S, H, h5, h6, h7, h8⟩, h9⟩ := FL_spec hle hD'.ndd hD'.nds (l.take m) [] [] [] [] [] [] rfl rfl rfl (by simp [look]) (by simp) (by simp) h
  simp only [List.nil_append] at h1 h2 h6 h7 h8 h9
  have hrep : ∀ i, (Array.replicate l.toArray.size false).getD i false = false := by
    intro i
    simp [Array.getD_eq_getD_getElem?, Array.getElem?_replicate]
    split <;> simp
  refine stageF hD' h1 h2 h3 h4 (freeE_spec hfree) (fun d hd => by simpa [Nat.blt_eq] using List.all_eq_true.1 hlt d hd) hall hpre (fun j o hj ho => h9 j o (Nat.zero_le _) hj ho) h5 h6 h7 h8 l.toArray.size (List.range m) _ a _ (by simp; omega) List.nodup_range ?_
    ⟨by simp, ?_, ha.size, ha.defers, ha.slots, ?_, ?_, ⟨rfl, rfl, rfl, Nat.le_refl _, fun _ _ => .inl rfl⟩, ?_, ?_, ?_⟩
  · intro i
    rw [List.mem_range, hrep]
    simp
  · intro i o _ h
    rw [hrep] at h; cases h
  · intro i o d ψ _ _ h
    rw [hrep] at h; cases h
  · intro i o d ψ _ _ h
    rw [hrep] at h; cases h
  · intro i _
    exact hrep i
  · intro i o d _ _ h
    rw [hrep] at h; cases h
  · intro i j oi oj di dj v _ _ _ _ _ h
    rw [hrep] at h; cases h

end Go.Qf

/- A region that draws its order: the steps of the walk. -/
namespace Go.Qf
open Go Go.RowKit

def noneS (S : List (Nat × Psi)) : List Nat → Bool
  | [] => true
  | t :: r => match lookP S t with
    | some _ => false
    | none => noneS S r

theorem obl_none {S : List (Nat × Psi)} {w : World} {k : List (Nat × Value) → Prop} : ∀ {ts : List Nat} {E : List (Nat × Value)}, noneS S ts = true → k E → obl S ts E w k := by
  intro ts
  induction ts with
  | nil => intro E _ h; exact h
  | cons t r ih =>
    intro E hn h
    unfold noneS at hn
    unfold obl
    split at hn
    · cases hn
    · rename_i hl
      first | exact ih hn h | (rw [hl]; exact ih hn h)

theorem obl_keep {S : List (Nat × Psi)} {w : World} {k : List (Nat × Value) → Prop} : ∀ {ts : List Nat} {E : List (Nat × Value)}, (∀ E2, (∀ t, lookP S t = none → look E2 t = look E t) → k E2) → obl S ts E w k := by
  intro ts
  induction ts with
  | nil => intro E h; exact h E fun _ _ => rfl
  | cons t r ih =>
    intro E h
    unfold obl
    split
    · rename_i ψ hl
      intro v _
      refine ih fun E2 h2 => h E2 fun u hu => ?_
      rw [h2 u hu, look_cons_ne]
      intro e; subst e
      rw [hl] at hu; cases hu
    · exact ih h

def guardSlot (l : List Oper) : Option (Nat × Bool) → List Nat
  | none => []
  | some (j, _) => match (l[j]?).bind (·.dst) with
    | some d => [d]
    | none => []

theorem wantE_keep {l : List Oper} {S : List (Nat × Psi)} {E E2 : List (Nat × Value)} {g : Option (Nat × Bool)} {b : Bool} (hg : noneS S (guardSlot l g) = true) (h2 : ∀ t, lookP S t = none → look E2 t = look E t) (h : wantE l.toArray E g = some b) : wantE l.toArray E2 g = some b := by
  unfold wantE at h ⊢
  cases g with
  | none => exact h
  | some p =>
    obtain ⟨j, want⟩ := p
    simp only [guardSlot, List.getElem?_toArray] at hg h ⊢
    cases hd : (l[j]?).bind (·.dst) with
    | none => rw [hd] at h; exact h
    | some d =>
      rw [hd] at h hg
      simp only at h ⊢
      have : lookP S d = none := by
        simp only [noneS] at hg
        split at hg
        · cases hg
        · assumption
      rw [h2 d this]
      exact h

section
variable {P : Program} {T : List (Nat × TI)} {n : Nat} {l : List Oper} {m : Nat} {E : List (Nat × Value)} {w : World} {fin : List (Nat × Value) → List (Nat × Psi) → List (Nat × Psi) → Prop} {i : Nat} {X : List (Nat × Value)} {S H : List (Nat × Psi)} {o : Oper} {r : List Oper}

def runFL (T : List (Nat × TI)) (l : List Oper) (E : List (Nat × Value)) (S : List (Nat × Psi)) : Nat → Nat → List (Nat × Value) → List Oper → Nat × List (Nat × Value) × List Oper
  | 0, i, X, r => (i, X, r)
  | _ + 1, i, X, [] => (i, X, [])
  | k + 1, i, X, o :: r =>
    match o.dst, wantE l.toArray (envX X E (looks l o)) o.guard with
    | some d, some true =>
      bif noneS S (looks l o) then
        match pureOp T (envX X E (looks l o)) o.op with
        | some v => runFL T l E S k (i + 1) ((d, v) :: X) r
        | none => (i, X, o :: r)
      else (i, X, o :: r)
    | some d, some false => bif noneS S (guardSlot l o.guard) && !(isAlloc o.op) then runFL T l E S k (i + 1) ((d, undef) :: X) r else (i, X, o :: r)
    | _, _ => (i, X, o :: r)

theorem pure_noAlloc {E : List (Nat × Value)} {op : Op} {v : Value} (h : pureOp T E op = some v) : isAlloc op = false := by
  cases op <;> first | rfl | (simp [pureOp] at h)

theorem FL.run (hT : TblOk P T) : ∀ (k : Nat) {i i' : Nat} {X X' : List (Nat × Value)} {r r' : List Oper}, runFL T l E S k i X r = (i', X', r') → FL P n l m E w fin i' X' S H r' → FL P n l m E w fin i X S H r := by
  intro k
  induction k with
  | zero => intro i i' X X' r r' h hn; simp only [runFL, Prod.mk.injEq] at h; obtain ⟨rfl, rfl, rfl⟩ := h; exact hn
  | succ k ih =>
    intro i i' X X' r r' h hn
    cases r with
    | nil => simp only [runFL, Prod.mk.injEq] at h; obtain ⟨rfl, rfl, rfl⟩ := h; exact hn
    | cons o r =>
      simp only [runFL] at h
      split at h
      · rename_i d hd hw
        cases hb : noneS S (looks l o) with
        | false => rw [hb] at h; simp only [cond_false, Prod.mk.injEq] at h; obtain ⟨rfl, rfl, rfl⟩ := h; exact hn
        | true =>
          rw [hb] at h
          simp only [cond_true] at h
          split at h
          · rename_i v hv
            refine .inl ⟨d, v, hd, pure_noAlloc hv, fun w1 _ => obl_none hb (.inl ⟨hw, (OpR.pure hT hv).mono ?_⟩), ih h hn⟩
            rintro v' w' ⟨rfl, rfl⟩
            exact ⟨Ext.refl _, rfl⟩
          · simp only [Prod.mk.injEq] at h; obtain ⟨rfl, rfl, rfl⟩ := h; exact hn
      · rename_i d hd hw
        cases hb : (noneS S (guardSlot l o.guard) && !(isAlloc o.op)) with
        | false => rw [hb] at h; simp only [cond_false, Prod.mk.injEq] at h; obtain ⟨rfl, rfl, rfl⟩ := h; exact hn
        | true =>
          rw [hb] at h
          simp only [cond_true] at h
          simp only [Bool.and_eq_true, Bool.not_eq_true'] at hb
          refine .inl ⟨d, undef, hd, hb.2, fun w1 _ => obl_keep fun E2 h2 => .inr ⟨wantE_keep hb.1 h2 hw, Ext.refl _, rfl⟩, ih h hn⟩
      · simp only [Prod.mk.injEq] at h; obtain ⟨rfl, rfl, rfl⟩ := h; exact hn

/-- .. the last value written otherwise. -/
theorem FL.as (hT : TblOk P T) (k : Nat) {i i' : Nat} {X X' : List (Nat × Value)} {r r' : List Oper} {d : Nat} {v : Value} (v' : Value) (h : runFL T l E S k i X r = (i', (d, v) :: X', r')) (hv : v = v') (next : FL P n l m E w fin i' ((d, v') :: X') S H r') : FL P n l m E w fin i X S H r :=
  FL.run hT k (hv ▸ h) next

/-- One operation that yields a known value. -/
theorem FL.one {d : Nat} {v : Value} {L : List Nat} (hd : o.dst = some d) (hal : isAlloc o.op = false) (hS : noneS S (looks l o) = true) (hw : wantE l.toArray (envX X E (looks l o)) o.guard = some true) (hL : blocksOf E (later l m i) = L)
    (h : ∀ w1, Rg P (Tg w L) w w1 → RunsTo P n o (envX X E (looks l o)) w1 v) (next : FL P n l m E w fin (i + 1) ((d, v) :: X) S H r) : FL P n l m E w fin i X S H (o :: r) := by
  subst hL
  refine .inl ⟨d, v, hd, hal, fun w1 hR => obl_none hS (.inl ⟨hw, (h w1 hR).op.mono ?_⟩), next⟩
  rintro v' w' ⟨rfl, rfl⟩
  exact ⟨Ext.refl _, rfl⟩

/-- .. with an effect on new memory alone. -/
theorem FL.oneX {d : Nat} {v : Value} {L : List Nat} (hd : o.dst = some d) (hal : isAlloc o.op = false) (hS : noneS S (looks l o) = true) (hw : wantE l.toArray (envX X E (looks l o)) o.guard = some true) (hL : blocksOf E (later l m i) = L)
    (h : ∀ w1, Rg P (Tg w L) w w1 → OpR P n o (envX X E (looks l o)) w1 (fun v' w2 => Ext w1 w2 ∧ v' = v)) (next : FL P n l m E w fin (i + 1) ((d, v) :: X) S H r) : FL P n l m E w fin i X S H (o :: r) := by
  subst hL
  exact .inl ⟨d, v, hd, hal, fun w1 hR => obl_none hS (.inl ⟨hw, h w1 hR⟩), next⟩

/-- A cell of a variable. -/
theorem FL.load (hT : TblOk P T) {d : Nat} {t : TypeId} {x : Operand} {ty : TypeId} {pos : String} {af : Array Edge} {g : Option (Nat × Bool)} {ti : TI} {b off : Nat} {e : TypeId} {C : List Value} {v : Value} {L : List Nat}
    (hS : noneS S (looks l ⟨some d, .load t x, ty, pos, af, g⟩) = true) (hw : wantE l.toArray (envX X E (looks l ⟨some d, .load t x, ty, pos, af, g⟩)) g = some true) (hL : blocksOf E (later l m i) = L)
    (ht : lookT T t = some ti) (hag : isAggD ti.desc = false) (hx : ov (envX X E (looks l ⟨some d, .load t x, ty, pos, af, g⟩)) x = some (.pointer (some ⟨b, off, none⟩))) (hb : Blk e w b C) (hbL : b ∉ L) (hc : C[off]? = some v)
    (next : FL P n l m E w fin (i + 1) ((d, v) :: X) S H r) : FL P n l m E w fin i X S H (⟨some d, .load t x, ty, pos, af, g⟩ :: r) :=
  FL.one rfl rfl hS hw hL (fun _ hR => RunsTo.load hT ht hag hx ((hR.blk hb hbL).cell hc)) next

/-- A whole variable. -/
theorem FL.loadAgg (hT : TblOk P T) {d : Nat} {t : TypeId} {x : Operand} {ty : TypeId} {pos : String} {af : Array Edge} {g : Option (Nat × Bool)} {ti : TI} {b off : Nat} {e : TypeId} {C cs : List Value} {L : List Nat}
    (hS : noneS S (looks l ⟨some d, .load t x, ty, pos, af, g⟩) = true) (hw : wantE l.toArray (envX X E (looks l ⟨some d, .load t x, ty, pos, af, g⟩)) g = some true) (hL : blocksOf E (later l m i) = L)
    (ht : lookT T t = some ti) (hag : isAggD ti.desc = true) (hx : ov (envX X E (looks l ⟨some d, .load t x, ty, pos, af, g⟩)) x = some (.pointer (some ⟨b, off, none⟩))) (hb : Blk e w b C) (hbL : b ∉ L) (hle : off + ti.size ≤ C.length) (hcs : (C.drop off).take ti.size = cs)
    (next : FL P n l m E w fin (i + 1) ((d, .agg cs.toArray) :: X) S H r) : FL P n l m E w fin i X S H (⟨some d, .load t x, ty, pos, af, g⟩ :: r) :=
  FL.one rfl rfl hS hw hL (fun _ hR => RunsTo.loadAgg hT ht hag hx (hR.blk hb hbL) hle hcs) next

/-- What a call must be shown to do. -/
def CallF (P : Program) (f : FuncId) (args : Array Operand) (ψ : Psi) (w1 : World) (E2 : List (Nat × Value)) : Prop := ∃ vs, ovs E2 args.toList = some vs ∧ Calls P f vs.toArray w1 (Ret fun v w' => Ext w1 w' ∧ ψ v w')

theorem CallF.mk {f : FuncId} {args : Array Operand} {ψ : Psi} {w1 : World} {E2 : List (Nat × Value)} {vs : List Value} (h : ovs E2 args.toList = some vs) (hc : Calls P f vs.toArray w1 (Ret fun v w' => Ext w1 w' ∧ ψ v w')) : CallF P f args ψ w1 E2 := ⟨vs, h, hc⟩

theorem obl_mono {S : List (Nat × Psi)} {w : World} {k k' : List (Nat × Value) → Prop} (hk : ∀ E, k E → k' E) : ∀ {ts : List Nat} {E : List (Nat × Value)}, obl S ts E w k → obl S ts E w k' := by
  intro ts
  induction ts with
  | nil => intro E h; exact hk E h
  | cons t r ih =>
    intro E h
    unfold obl at h ⊢
    split
    · rename_i ψ hl
      rw [hl] at h
      exact fun v hv => ih (h v hv)
    · rename_i hl
      rw [hl] at h
      exact ih h

theorem obl_and {S : List (Nat × Psi)} {w : World} {k k' : List (Nat × Value) → Prop} : ∀ {ts : List Nat} {E : List (Nat × Value)}, obl S ts E w k → obl S ts E w k' → obl S ts E w (fun E2 => k E2 ∧ k' E2) := by
  intro ts
  induction ts with
  | nil => intro E h h'; exact ⟨h, h'⟩
  | cons t r ih =>
    intro E h h'
    unfold obl at h h' ⊢
    split
    · rename_i ψ hl
      rw [hl] at h h'
      exact fun v hv => ih (h v hv) (h' v hv)
    · rename_i hl
      rw [hl] at h h'
      exact ih h h'

/-- A call whose result is known by a fact. -/
theorem FL.call {f : FuncId} {fn : Func} (hF : IsFn P f fn) {d : Nat} {args : Array Operand} {tys : Array TypeId} {ty : TypeId} {pos : String} {af : Array Edge} {g : Option (Nat × Bool)} {ψ : Psi} {L : List Nat}
    (hg : noneS S (guardSlot l g) = true) (hw : wantE l.toArray (envX X E (looks l ⟨some d, .call ⟨.value (.func f), args, tys⟩, ty, pos, af, g⟩)) g = some true) (hL : blocksOf E (later l m i) = L)
    (h : ∀ w1, Rg P (Tg w L) w w1 → obl S (looks l ⟨some d, .call ⟨.value (.func f), args, tys⟩, ty, pos, af, g⟩) (envX X E (looks l ⟨some d, .call ⟨.value (.func f), args, tys⟩, ty, pos, af, g⟩)) w1 (CallF P f args ψ w1))
    (hmono : MonoR P ψ) (next : FL P n l m E w fin (i + 1) X ((d, ψ) :: S) H r) : FL P n l m E w fin i X S H (⟨some d, .call ⟨.value (.func f), args, tys⟩, ty, pos, af, g⟩ :: r) := by
  subst hL
  refine .inr (.inl ⟨d, ψ, rfl, hmono, fun w1 hR => obl_mono ?_ (obl_and (h w1 hR) (obl_keep fun E2 h2 => wantE_keep hg h2 hw)), next⟩)
  rintro E2 ⟨⟨vs, hvs, hc⟩, hw2⟩
  refine .inl ⟨hw2, (OpR.call hF hvs hc).mono ?_⟩
  intro v w2 hv
  exact ⟨hv.1, hv.2, fun e => by cases e⟩

/-- A call whose result is known. -/
theorem FL.callX {f : FuncId} {fn : Func} (hF : IsFn P f fn) {d : Nat} {args : Array Operand} {tys : Array TypeId} {ty : TypeId} {pos : String} {af : Array Edge} {g : Option (Nat × Bool)} {c : Value} {L : List Nat}
    (hg : noneS S (guardSlot l g) = true) (hw : wantE l.toArray (envX X E (looks l ⟨some d, .call ⟨.value (.func f), args, tys⟩, ty, pos, af, g⟩)) g = some true) (hL : blocksOf E (later l m i) = L)
    (h : ∀ w1, Rg P (Tg w L) w w1 → obl S (looks l ⟨some d, .call ⟨.value (.func f), args, tys⟩, ty, pos, af, g⟩) (envX X E (looks l ⟨some d, .call ⟨.value (.func f), args, tys⟩, ty, pos, af, g⟩)) w1 (CallF P f args (Is c) w1))
    (next : FL P n l m E w fin (i + 1) ((d, c) :: X) S H r) : FL P n l m E w fin i X S H (⟨some d, .call ⟨.value (.func f), args, tys⟩, ty, pos, af, g⟩ :: r) := by
  subst hL
  refine .inl ⟨d, c, rfl, rfl, fun w1 hR => obl_mono ?_ (obl_and (h w1 hR) (obl_keep fun E2 h2 => wantE_keep hg h2 hw)), next⟩
  rintro E2 ⟨⟨vs, hvs, hc⟩, hw2⟩
  exact .inl ⟨hw2, OpR.call hF hvs hc⟩

theorem FL.callE {f : FuncId} {fn : Func} (hF : IsFn P f fn) {d : Nat} {args : Array Operand} {tys : Array TypeId} {ty : TypeId} {pos : String} {af : Array Edge} {g : Option (Nat × Bool)} {ψ : Psi}
    (hg : noneS S (guardSlot l g) = true) (hw : wantE l.toArray (envX X E (looks l ⟨some d, .call ⟨.value (.func f), args, tys⟩, ty, pos, af, g⟩)) g = some true) (hL : blocksOf E (later l m i) = [])
    (h : ∀ w1, Ext w w1 → obl S (looks l ⟨some d, .call ⟨.value (.func f), args, tys⟩, ty, pos, af, g⟩) (envX X E (looks l ⟨some d, .call ⟨.value (.func f), args, tys⟩, ty, pos, af, g⟩)) w1 (CallF P f args ψ w1))
    (hmono : MonoR P ψ) (next : FL P n l m E w fin (i + 1) X ((d, ψ) :: S) H r) : FL P n l m E w fin i X S H (⟨some d, .call ⟨.value (.func f), args, tys⟩, ty, pos, af, g⟩ :: r) :=
  FL.call hF hg hw hL (fun w1 hR => h w1 hR.ext_nil) hmono next

theorem FL.callXE {f : FuncId} {fn : Func} (hF : IsFn P f fn) {d : Nat} {args : Array Operand} {tys : Array TypeId} {ty : TypeId} {pos : String} {af : Array Edge} {g : Option (Nat × Bool)} {c : Value}
    (hg : noneS S (guardSlot l g) = true) (hw : wantE l.toArray (envX X E (looks l ⟨some d, .call ⟨.value (.func f), args, tys⟩, ty, pos, af, g⟩)) g = some true) (hL : blocksOf E (later l m i) = [])
    (h : ∀ w1, Ext w w1 → obl S (looks l ⟨some d, .call ⟨.value (.func f), args, tys⟩, ty, pos, af, g⟩) (envX X E (looks l ⟨some d, .call ⟨.value (.func f), args, tys⟩, ty, pos, af, g⟩)) w1 (CallF P f args (Is c) w1))
    (next : FL P n l m E w fin (i + 1) ((d, c) :: X) S H r) : FL P n l m E w fin i X S H (⟨some d, .call ⟨.value (.func f), args, tys⟩, ty, pos, af, g⟩ :: r) :=
  FL.callX hF hg hw hL (fun w1 hR => h w1 hR.ext_nil) next

/-- Any operation whose result is known by a fact. -/
theorem FL.fact {d : Nat} {ψ : Psi} {L : List Nat} (hd : o.dst = some d) (hal : isAlloc o.op = false) (hg : noneS S (guardSlot l o.guard) = true) (hw : wantE l.toArray (envX X E (looks l o)) o.guard = some true) (hL : blocksOf E (later l m i) = L)
    (h : ∀ w1, Rg P (Tg w L) w w1 → obl S (looks l o) (envX X E (looks l o)) w1 (fun E2 => OpR P n o E2 w1 (fun v w2 => Ext w1 w2 ∧ ψ v w2)))
    (hmono : MonoR P ψ) (next : FL P n l m E w fin (i + 1) X ((d, ψ) :: S) H r) : FL P n l m E w fin i X S H (o :: r) := by
  subst hL
  refine .inr (.inl ⟨d, ψ, hd, hmono, fun w1 hR => obl_mono ?_ (obl_and (h w1 hR) (obl_keep fun E2 h2 => wantE_keep hg h2 hw)), next⟩)
  rintro E2 ⟨h1, hw2⟩
  refine .inl ⟨hw2, h1.mono ?_⟩
  intro v w2 hv
  exact ⟨hv.1, hv.2, fun e => by rw [hal] at e; cases e⟩

/-- The same, where it is known whatever its operands are. -/
theorem FL.exact {d : Nat} {c : Value} {L : List Nat} (hd : o.dst = some d) (hal : isAlloc o.op = false) (hg : noneS S (guardSlot l o.guard) = true) (hw : wantE l.toArray (envX X E (looks l o)) o.guard = some true) (hL : blocksOf E (later l m i) = L)
    (h : ∀ w1, Rg P (Tg w L) w w1 → obl S (looks l o) (envX X E (looks l o)) w1 (fun E2 => OpR P n o E2 w1 (fun v w2 => Ext w1 w2 ∧ v = c)))
    (next : FL P n l m E w fin (i + 1) ((d, c) :: X) S H r) : FL P n l m E w fin i X S H (o :: r) := by
  subst hL
  refine .inl ⟨d, c, hd, hal, fun w1 hR => obl_mono ?_ (obl_and (h w1 hR) (obl_keep fun E2 h2 => wantE_keep hg h2 hw)), next⟩
  rintro E2 ⟨h1, hw2⟩
  exact .inl ⟨hw2, h1⟩

theorem RunsTo.ext {v : Value} {w1 : World} {E2 : List (Nat × Value)} (h : RunsTo P n o E2 w1 v) {ψ : Psi} (hψ : ψ v w1) : OpR P n o E2 w1 (fun v' w2 => Ext w1 w2 ∧ ψ v' w2) := by
  refine h.op.mono ?_
  rintro v' w' ⟨rfl, rfl⟩
  exact ⟨Ext.refl _, hψ⟩

/-- A new variable: a pointer to it. -/
def NewVar (base : Nat) (t : TypeId) (len : Nat) : Psi := fun v w => ∃ b C, v = .pointer (some ⟨b, 0, none⟩) ∧ base ≤ b ∧ Blk t w b C ∧ C.length = len

theorem MonoR.newVar (base : Nat) (t : TypeId) (len : Nat) : MonoR P (NewVar base t len) := by
  rintro v w w' hR ⟨b, C, rfl, h0, hb, hl⟩
  obtain ⟨C', hb', hl'⟩ := hR.blk_any hb
  exact ⟨b, C', rfl, h0, hb', hl'.trans hl⟩

theorem FL.alloc (hT : TblOk P T) {d : Nat} {t : TypeId} {ty : TypeId} {pos : String} {af : Array Edge} {g : Option (Nat × Bool)} {ti : TI} {len : Nat} (hS : noneS S (looks l ⟨some d, .alloc t, ty, pos, af, g⟩) = true) (hw : wantE l.toArray (envX X E (looks l ⟨some d, .alloc t, ty, pos, af, g⟩)) g = some true)
    (ht : lookT T t = some ti) (hlen : ti.zero.cells.toList.length = len) (next : FL P n l m E w fin (i + 1) X ((d, NewVar w.heap.size t len) :: S) H r) : FL P n l m E w fin i X S H (⟨some d, .alloc t, ty, pos, af, g⟩ :: r) := by
  refine .inr (.inl ⟨d, _, rfl, MonoR.newVar _ _ _, fun w1 hR => obl_none hS (.inl ⟨hw, (OpR.alloc hT ht).mono ?_⟩), next⟩)
  rintro v w2 ⟨rfl, hb, hx, hs⟩
  exact ⟨hx, ⟨_, _, rfl, hR.size, hb, hlen⟩, fun _ => ⟨_, rfl, Nat.le_refl _, by omega⟩⟩

theorem over_full : ∀ (vs A C : List Value), C.length = vs.length → over (A ++ C) A.length vs = A ++ vs := by
  intro vs
  induction vs with
  | nil => intro A C h; simp only [List.length_nil] at h; rw [List.eq_nil_of_length_eq_zero h]; rfl
  | cons v r ih =>
    intro A C h
    cases C with
    | nil => simp at h
    | cons c C =>
      have := ih (A ++ [v]) C (by simpa using h)
      simp only [over]
      simp only [List.length_append, List.length_cons, List.length_nil, List.append_assoc, List.singleton_append] at this
      simpa using this

theorem OpR.storeAll (hT : TblOk P T) {E2 : List (Nat × Value)} {w1 : World} {t : TypeId} {x y : Operand} {ty : TypeId} {pos : String} {af : Array Edge} {g : Option (Nat × Bool)} {ti : TI} {b : Nat} {C : List Value} {v : Value}
    (ht : lookT T t = some ti) (hag : isAggD ti.desc = true) (hx : ov E2 x = some (.pointer (some ⟨b, 0, none⟩))) (hy : ov E2 y = some v) (hsz : v.cells.toList.length = ti.size) (hC : C.length = ti.size) (h1 : ∀ u ∈ v.cells.toList, u.oneCell' = true) (hb : Blk t w1 b C) :
    OpR P n ⟨none, .store t x y, ty, pos, af, g⟩ E2 w1 (fun _ w2 => Blk t w2 b v.cells.toList ∧ Upd b w1 w2 ∧ VarKept P b w1 w2) := by
  refine (OpR.store hT ht hx hy rfl hsz hb (by omega) h1).mono ?_
  rintro _ w2 ⟨hb2, hu⟩
  have := over_full v.cells.toList [] C (by omega)
  simp only [List.nil_append, List.length_nil] at this
  rw [this] at hb2
  refine ⟨hb2, hu, C, _, t, ?_, by omega, hb, hb2⟩
  have hu := (hT t ti ht).1
  unfold isV
  rw [hu]
  cases hd : ti.desc <;> simp [isAggD, hd] at hag ⊢

/-- A store into a variable, of a value known by a fact; into one that was there before. -/
theorem FL.store (hT : TblOk P T) {t : TypeId} {p s : Nat} {ty : TypeId} {pos : String} {af : Array Edge} {g : Option (Nat × Bool)} {ti : TI} {L : List Nat} {ψ : Psi} {b : Nat} {C : List Value}
    (hg : noneS S (guardSlot l g) = true) (hw : wantE l.toArray (envX X E (looks l ⟨none, .store t (.tmp p) (.tmp s), ty, pos, af, g⟩)) g = some true) (hL : blocksOf E (later l m i) = L)
    (ht : lookT T t = some ti) (hag : isAggD ti.desc = true) (hb : Blk t w b C) (hC : C.length = ti.size) (hmono : MonoR P ψ)
    (h : ∀ w1, Rg P (Tg w L) w w1 → obl S (looks l ⟨none, .store t (.tmp p) (.tmp s), ty, pos, af, g⟩) (envX X E (looks l ⟨none, .store t (.tmp p) (.tmp s), ty, pos, af, g⟩)) w1 (fun E2 => look E2 p = some (.pointer (some ⟨b, 0, none⟩)) ∧ ∃ v, look E2 s = some v ∧ v.cells.toList.length = ti.size ∧ (∀ u ∈ v.cells.toList, u.oneCell' = true) ∧ ψ v w1))
    (next : FL P n l m E w fin (i + 1) X S ((p, Holds t ψ) :: H) r) : FL P n l m E w fin i X S H (⟨none, .store t (.tmp p) (.tmp s), ty, pos, af, g⟩ :: r) := by
  subst hL
  refine .inr (.inr ⟨p, _, rfl, MonoX.holds hmono, fun w1 hR => obl_mono ?_ (obl_and (h w1 hR) (obl_keep fun E2 h2 => wantE_keep hg h2 hw)), next⟩)
  rintro E2 ⟨⟨hp, v, hv, hsz, h1, hψ⟩, hw2⟩
  obtain ⟨C', hb', hl'⟩ := hR.blk_any hb
  refine .inl ⟨hw2, (OpR.storeAll (x := .tmp p) (y := .tmp s) hT ht hag hp hv hsz (by omega) h1 hb').mono ?_⟩
  rintro _ w2 ⟨hb2, hu, hvk⟩
  exact ⟨b, hp, hu, hvk, b, v, rfl, hb2, hmono v w1 w2 (Rg.of_upd hu hvk trivial) hψ⟩

/-- .. into one that is new. -/
theorem FL.storeN (hT : TblOk P T) {t : TypeId} {p s : Nat} {ty : TypeId} {pos : String} {af : Array Edge} {g : Option (Nat × Bool)} {ti : TI} {L : List Nat} {ψ : Psi} {base : Nat}
    (hg : noneS S (guardSlot l g) = true) (hw : wantE l.toArray (envX X E (looks l ⟨none, .store t (.tmp p) (.tmp s), ty, pos, af, g⟩)) g = some true) (hL : blocksOf E (later l m i) = L)
    (ht : lookT T t = some ti) (hag : isAggD ti.desc = true) (hmono : MonoR P ψ)
    (h : ∀ w1, Rg P (Tg w L) w w1 → obl S (looks l ⟨none, .store t (.tmp p) (.tmp s), ty, pos, af, g⟩) (envX X E (looks l ⟨none, .store t (.tmp p) (.tmp s), ty, pos, af, g⟩)) w1 (fun E2 => (∃ u, look E2 p = some u ∧ NewVar base t ti.size u w1) ∧ ∃ v, look E2 s = some v ∧ v.cells.toList.length = ti.size ∧ (∀ u ∈ v.cells.toList, u.oneCell' = true) ∧ ψ v w1))
    (next : FL P n l m E w fin (i + 1) X S ((p, Holds t ψ) :: H) r) : FL P n l m E w fin i X S H (⟨none, .store t (.tmp p) (.tmp s), ty, pos, af, g⟩ :: r) := by
  subst hL
  refine .inr (.inr ⟨p, _, rfl, MonoX.holds hmono, fun w1 hR => obl_mono ?_ (obl_and (h w1 hR) (obl_keep fun E2 h2 => wantE_keep hg h2 hw)), next⟩)
  rintro E2 ⟨⟨⟨u, hp, b, C, rfl, h0, hb', hl'⟩, v, hv, hsz, h1, hψ⟩, hw2⟩
  refine .inl ⟨hw2, (OpR.storeAll (x := .tmp p) (y := .tmp s) hT ht hag hp hv hsz hl' h1 hb').mono ?_⟩
  rintro _ w2 ⟨hb2, hu, hvk⟩
  exact ⟨b, hp, hu, hvk, b, v, rfl, hb2, hmono v w1 w2 (Rg.of_upd hu hvk trivial) hψ⟩

theorem FL.end {Q : Exit → Act → World → Prop} {L : List Nat} (hL : blocksOf E (stSlots (l.take m)) = L) (h : ∀ w1, Rg P (Tg w L) w w1 → allP S (X ++ E) w1 (fun E2 => heldP E2 w1 H → Dist (allocs (l.take m)) E2 → StL P n E2 w1 l.toArray (l.drop m) Q)) : FL P n l m E w (FlowEnd P n l m E w Q) i X S H [] := by
  subst hL
  exact h

theorem FL.endE {Q : Exit → Act → World → Prop} (hL : blocksOf E (stSlots (l.take m)) = []) (h : ∀ w1, Ext w w1 → allP S (X ++ E) w1 (fun E2 => heldP E2 w1 H → Dist (allocs (l.take m)) E2 → StL P n E2 w1 l.toArray (l.drop m) Q)) : FL P n l m E w (FlowEnd P n l m E w Q) i X S H [] :=
  FL.end hL fun w1 hR => h w1 hR.ext_nil

end
end Go.Qf

/- A small region that draws its order, walked order by order; what yields in whatever world is taken first. -/
namespace Go.Qf
open Go Go.RowKit

def WA (P : Program) (n : Nat) (l : List Oper) (Q : Exit → Act → World → Prop) (fuel : Nat) (listed : Array Bool) (E : List (Nat × Value)) (w : World) : Prop := ∀ a, Fits n E a → wpAny P .any l.toArray Q fuel listed a w

section
variable {P : Program} {T : List (Nat × TI)} {n : Nat} {l : List Oper} {Q : Exit → Act → World → Prop} {fuel : Nat} {listed : Array Bool} {E : List (Nat × Value)} {w : World}

theorem St.any {id : Nat} {k : Nat} (hP : P.follows .mixedOrders = true) (hk : l.length = k) (h : ∀ w1, Ext w w1 → Upd 0 w w1 → w1.heap = w.heap → WA P n l Q k (Array.replicate k false) E w1) : St P n E w (.region id l.toArray true) Q := by
  intro a ha
  subst hk
  refine wp_region_any hP ?_
  have := h { w with drawn := w.drawn + 1 } ⟨rfl, rfl, rfl, Nat.le_refl _, fun _ _ => rfl⟩ ⟨rfl, rfl, rfl, Nat.le_refl _, fun _ _ _ => rfl⟩ rfl a ha
  simpa using this

theorem WA.take (i : Nat) {o : Oper} {d : Nat} {v : Value} (ho : l.toArray[i]? = some o) (hd : o.dst = some d) (hs : Region.noSelect l.toArray = true) (hf : Region.free .any l.toArray listed i = true) (hr : (Region.ready .any l.toArray listed).contains i = true)
    (hQ : ∀ c a w, Q (.panic c) (a.put o.dst v) w → Q (.panic c) a w) (hw : wantE l.toArray E o.guard = some true) (hn : Nat.blt d n = true) (hy : ∀ w, RunsTo P n o E w v) (next : WA P n l Q fuel (listed.setIfInBounds i true) ((d, v) :: E) w) : WA P n l Q (fuel + 1) listed E w := by
  intro a ha
  refine wpAny_take ho hs hf hr hQ (.inl ⟨wantE_spec ha hw, fun w' => hy w' a ha⟩) (next _ ?_)
  rw [hd]
  exact ha.put hn v

theorem WA.pure (hT : TblOk P T) (i : Nat) {o : Oper} {d : Nat} {v : Value} (ho : l.toArray[i]? = some o) (hd : o.dst = some d) (hs : Region.noSelect l.toArray = true) (hf : Region.free .any l.toArray listed i = true) (hr : (Region.ready .any l.toArray listed).contains i = true)
    (hQ : ∀ c a w, Q (.panic c) (a.put o.dst v) w → Q (.panic c) a w) (hw : wantE l.toArray E o.guard = some true) (hn : Nat.blt d n = true) (hy : pureOp T E o.op = some v) (next : WA P n l Q fuel (listed.setIfInBounds i true) ((d, v) :: E) w) : WA P n l Q (fuel + 1) listed E w :=
  WA.take i ho hd hs hf hr hQ hw hn (fun _ => RunsTo.pure hT hy) next

/-- One of those that may come up. -/
def WOp (P : Program) (n : Nat) (l : List Oper) (Q : Exit → Act → World → Prop) (fuel : Nat) (listed : Array Bool) (E : List (Nat × Value)) (w : World) (i : Nat) : Prop := ∀ a, Fits n E a → wpOp P l.toArray Q i (wpAny P .any l.toArray Q fuel (listed.setIfInBounds i true)) a w

theorem WOp.val {i : Nat} {o : Oper} {d : Nat} {Φ : Value → World → Prop} (ho : l.toArray[i]? = some o) (hd : o.dst = some d) (hw : wantE l.toArray E o.guard = some true) (hn : Nat.blt d n = true) (h : OpR P n o E w Φ) (next : ∀ v w', Φ v w' → WA P n l Q fuel (listed.setIfInBounds i true) ((d, v) :: E) w') : WOp P n l Q fuel listed E w i := by
  intro a ha
  unfold wpOp
  simp only [ho]
  rw [if_pos (wantE_spec ha hw)]
  exact .inl (h a ha Q _ fun v w' hv => next v w' hv _ (by rw [hd]; exact ha.put hn v))

theorem WOp.eff {i : Nat} {o : Oper} {Φ : Value → World → Prop} (ho : l.toArray[i]? = some o) (hd : o.dst = none) (hw : wantE l.toArray E o.guard = some true) (h : OpR P n o E w Φ) (next : ∀ v w', Φ v w' → WA P n l Q fuel (listed.setIfInBounds i true) E w') : WOp P n l Q fuel listed E w i := by
  intro a ha
  unfold wpOp
  simp only [ho]
  rw [if_pos (wantE_spec ha hw)]
  exact .inl (h a ha Q _ fun v w' hv => next v w' hv _ (by rw [hd]; exact ha))

theorem WA.one {i : Nat} (hr : Region.ready .any l.toArray listed = [i]) (h : WOp P n l Q fuel listed E w i) : WA P n l Q (fuel + 1) listed E w := by
  intro a ha
  refine wpAny_all hr (by simp) ?_
  intro j hj
  simp only [List.mem_singleton] at hj
  subst hj
  exact h a ha

theorem WA.two {i j : Nat} (hr : Region.ready .any l.toArray listed = [i, j]) (h : WOp P n l Q fuel listed E w i) (h' : WOp P n l Q fuel listed E w j) : WA P n l Q (fuel + 1) listed E w := by
  intro a ha
  refine wpAny_all hr (by simp) ?_
  intro k hk
  simp only [List.mem_cons, List.not_mem_nil, or_false] at hk
  rcases hk with rfl | rfl
  · exact h a ha
  · exact h' a ha

theorem WA.done (hr : Region.ready .any l.toArray listed = []) (h : Out n E w .normal Q) : WA P n l Q fuel listed E w :=
  fun a ha => wpAny_done hr (h a ha) _

/-- All that computes, taken in the order given. -/
def takesB (l : List Oper) : List Nat → Array Bool → Bool
  | [], _ => true
  | i :: r, listed => Region.free .any l.toArray listed i && (Region.ready .any l.toArray listed).contains i && takesB l r (listed.setIfInBounds i true)

def takesL : List Nat → Array Bool → Array Bool
  | [], listed => listed
  | i :: r, listed => takesL r (listed.setIfInBounds i true)

def takesE (T : List (Nat × TI)) (n : Nat) (l : List Oper) : List Nat → List (Nat × Value) → Option (List (Nat × Value))
  | [], E => some E
  | i :: r, E =>
    match l[i]? with
    | some o =>
      match o.dst, wantE l.toArray E o.guard, pureOp T E o.op with
      | some d, some true, some v => bif Nat.blt d n then takesE T n l r ((d, v) :: E) else none
      | _, _, _ => none
    | none => none

theorem WA.takes (hT : TblOk P T) (hs : Region.noSelect l.toArray = true) (hQ : ∀ (d : Nat) v c a w, Q (.panic c) (a.put (some d) v) w → Q (.panic c) a w) : ∀ (is : List Nat) {fuel : Nat} {listed : Array Bool} {E E' : List (Nat × Value)}, takesB l is listed = true → takesE T n l is E = some E' → WA P n l Q fuel (takesL is listed) E' w → WA P n l Q (fuel + is.length) listed E w := by
  intro is
  induction is with
  | nil => intro fuel listed E E' _ h hn; simp only [takesE, Option.some.injEq] at h; subst h; exact hn
  | cons i r ih =>
    intro fuel listed E E' hB h hn
    simp only [takesB, Bool.and_eq_true] at hB
    simp only [takesE] at h
    split at h
    · rename_i o ho
      split at h
      · rename_i d v hd hw hv
        cases hb : Nat.blt d n with
        | false => rw [hb] at h; cases h
        | true =>
          rw [hb] at h
          simp only [cond_true] at h
          have := ih hB.2 h hn
          exact WA.pure hT i (by simpa using ho) hd hs hB.1.1 hB.1.2 (fun c a w => by rw [hd]; exact hQ d _ c a w) hw hb hv this
      · cases h
    · cases h

/-- A cut where the ways meet behind x. -/
theorem St.cutX {α : Type} (Em : α → List (Nat × Value)) (I : α → World → Prop) {x y : Code} (hx : St P n E w x (Exit.then (Met n Em I) Q)) (hy : ∀ g w, I g w → St P n (Em g) w y Q) : St P n E w x (Exit.then (y.wp P Q) Q) := by
  intro a ha
  refine wp_mono (hx a ha) ?_
  intro e a2 w2 hq
  cases e with
  | normal =>
    obtain ⟨g, hf, hI⟩ := hq
    exact hy g w2 hI a2 hf
  | exit id => exact hq
  | goto l => exact hq
  | ret => exact hq
  | panic ch => exact hq
  | outgrown => exact hq

end
end Go.Qf

/- This program's table of types. -/
namespace Go.Qf
open Go Go.RowKit Go.Proofs

def TB : List (Nat × TI) :=
  [(41, ⟨.int .u32, 1, 4, .int .u32 0⟩),
   (23, ⟨.slice 41, 1, 24, .slice none 0 0⟩),
   (3, ⟨.int .i64, 1, 8, .int .i64 0⟩),
   (63, ⟨.int .u64, 1, 8, .int .u64 0⟩),
   (4, ⟨.bool, 1, 1, .bool false⟩),
   (25, ⟨.struct #[{ name := "Neg", type := 4, offset := 0, embedded := false, tag := "", pkgPath := "", byteOffset := 0 }, { name := "Mag", type := 23, offset := 1, embedded := false, tag := "", pkgPath := "", byteOffset := 8 }], 2, 32, .agg #[.bool false, .slice none 0 0]⟩),
   (2, ⟨.int .i64, 1, 8, .int .i64 0⟩),
   (9, ⟨.string, 1, 16, .string ByteArray.empty⟩),
   (5, ⟨.int .u8, 1, 1, .int .u8 0⟩),
   (22, ⟨.slice 5, 1, 24, .slice none 0 0⟩),
   (21, ⟨.int .i32, 1, 4, .int .i32 0⟩),
   (33, ⟨.struct #[{ name := "Num", type := 25, offset := 0, embedded := false, tag := "", pkgPath := "", byteOffset := 0 }, { name := "Den", type := 25, offset := 2, embedded := false, tag := "", pkgPath := "", byteOffset := 32 }], 4, 64, .agg #[.bool false, .slice none 0 0, .bool false, .slice none 0 0]⟩),
   (81, ⟨.struct #[{ name := "Num", type := 25, offset := 0, embedded := false, tag := "", pkgPath := "", byteOffset := 0 }, { name := "Den", type := 25, offset := 2, embedded := false, tag := "", pkgPath := "", byteOffset := 32 }], 4, 64, .agg #[.bool false, .slice none 0 0, .bool false, .slice none 0 0]⟩),
   (79, ⟨.slice 33, 1, 24, .slice none 0 0⟩),
   (57, ⟨.slice 3, 1, 24, .slice none 0 0⟩)]

theorem TBok : TblOk Try.prog TB := by
  unfold TB
  refine TblOk.cons Try.underlying41 (by kernel_rfl) ?_
  refine TblOk.cons Try.underlying23 (by kernel_rfl) ?_
  refine TblOk.cons Try.underlying3 (by kernel_rfl) ?_
  refine TblOk.cons Try.underlying63 (by kernel_rfl) ?_
  refine TblOk.cons Try.underlying4 (by kernel_rfl) ?_
  refine TblOk.cons Try.underlying25 (by kernel_rfl) ?_
  refine TblOk.cons Try.underlying2 (by kernel_rfl) ?_
  refine TblOk.cons Try.underlying9 (by kernel_rfl) ?_
  refine TblOk.cons Try.underlying5 (by kernel_rfl) ?_
  refine TblOk.cons Try.underlying22 (by kernel_rfl) ?_
  refine TblOk.cons Try.underlying21 (by kernel_rfl) ?_
  refine TblOk.cons Try.underlying33 (by kernel_rfl) ?_
  refine TblOk.cons Try.underlying81 (by kernel_rfl) ?_
  refine TblOk.cons Try.underlying79 (by kernel_rfl) ?_
  refine TblOk.cons Try.underlying57 (by kernel_rfl) ?_
  exact TblOk.nil _

end Go.Qf

/- Each function has a text of its own. -/
namespace Go.Qf
open Go Go.Proofs

theorem TBfol : Try.prog.follows .mixedOrders = true := by kernel_rfl

theorem fn_w01_IntegerDigits : IsFn Try.prog 3 Try.f3 := ⟨Try.func3, by kernel_rfl, by kernel_rfl⟩
theorem fn_w02_RationalNew : IsFn Try.prog 4 Try.f4 := ⟨Try.func4, by kernel_rfl, by kernel_rfl⟩
theorem fn_w02_RationalNormalizes : IsFn Try.prog 5 Try.f5 := ⟨Try.func5, by kernel_rfl, by kernel_rfl⟩
theorem fn_w02_RationalFloors : IsFn Try.prog 6 Try.f6 := ⟨Try.func6, by kernel_rfl, by kernel_rfl⟩
theorem fn_w02_RationalBetween : IsFn Try.prog 7 Try.f7 := ⟨Try.func7, by kernel_rfl, by kernel_rfl⟩
theorem fn_w02_RationalParses : IsFn Try.prog 8 Try.f8 := ⟨Try.func8, by kernel_rfl, by kernel_rfl⟩
theorem fn_w02_RationalReads : IsFn Try.prog 9 Try.f9 := ⟨Try.func9, by kernel_rfl, by kernel_rfl⟩
theorem fn_w02_RationalLengths : IsFn Try.prog 10 Try.f10 := ⟨Try.func10, by kernel_rfl, by kernel_rfl⟩
theorem fn_w02_RationalFormats : IsFn Try.prog 11 Try.f11 := ⟨Try.func11, by kernel_rfl, by kernel_rfl⟩
theorem fn_w02_RationalRoundTrip : IsFn Try.prog 12 Try.f12 := ⟨Try.func12, by kernel_rfl, by kernel_rfl⟩
theorem fn_w02_RationalAdds : IsFn Try.prog 13 Try.f13 := ⟨Try.func13, by kernel_rfl, by kernel_rfl⟩
theorem fn_w02_RationalMultiplies : IsFn Try.prog 14 Try.f14 := ⟨Try.func14, by kernel_rfl, by kernel_rfl⟩
theorem fn_w02_RationalCompares : IsFn Try.prog 15 Try.f15 := ⟨Try.func15, by kernel_rfl, by kernel_rfl⟩
theorem fn_w02_RationalDivides : IsFn Try.prog 16 Try.f16 := ⟨Try.func16, by kernel_rfl, by kernel_rfl⟩
theorem fn_w02_RationalPowers : IsFn Try.prog 17 Try.f17 := ⟨Try.func17, by kernel_rfl, by kernel_rfl⟩
theorem fn_w02_RationalField : IsFn Try.prog 18 Try.f18 := ⟨Try.func18, by kernel_rfl, by kernel_rfl⟩
theorem fn_integer_Parse : IsFn Try.prog 19 Try.f19 := ⟨Try.func19, by kernel_rfl, by kernel_rfl⟩
theorem fn_w01_awake : IsFn Try.prog 20 Try.f20 := ⟨Try.func20, by kernel_rfl, by kernel_rfl⟩
theorem fn_integer_Format : IsFn Try.prog 21 Try.f21 := ⟨Try.func21, by kernel_rfl, by kernel_rfl⟩
theorem fn_w02_awake : IsFn Try.prog 22 Try.f22 := ⟨Try.func22, by kernel_rfl, by kernel_rfl⟩
theorem fn_rational_New : IsFn Try.prog 23 Try.f23 := ⟨Try.func23, by kernel_rfl, by kernel_rfl⟩
theorem fn_r02_New : IsFn Try.prog 24 Try.f24 := ⟨Try.func24, by kernel_rfl, by kernel_rfl⟩
theorem fn_r02_Same : IsFn Try.prog 25 Try.f25 := ⟨Try.func25, by kernel_rfl, by kernel_rfl⟩
theorem fn_rational_Whole : IsFn Try.prog 26 Try.f26 := ⟨Try.func26, by kernel_rfl, by kernel_rfl⟩
theorem fn_r02_Whole : IsFn Try.prog 27 Try.f27 := ⟨Try.func27, by kernel_rfl, by kernel_rfl⟩
theorem fn_w02_long : IsFn Try.prog 28 Try.f28 := ⟨Try.func28, by kernel_rfl, by kernel_rfl⟩
theorem fn_rational_Normalize : IsFn Try.prog 29 Try.f29 := ⟨Try.func29, by kernel_rfl, by kernel_rfl⟩
theorem fn_r02_Normalize : IsFn Try.prog 30 Try.f30 := ⟨Try.func30, by kernel_rfl, by kernel_rfl⟩
theorem fn_r01_Same : IsFn Try.prog 31 Try.f31 := ⟨Try.func31, by kernel_rfl, by kernel_rfl⟩
theorem fn_rational_Floor : IsFn Try.prog 32 Try.f32 := ⟨Try.func32, by kernel_rfl, by kernel_rfl⟩
theorem fn_r02_Floor : IsFn Try.prog 33 Try.f33 := ⟨Try.func33, by kernel_rfl, by kernel_rfl⟩
theorem fn_rational_Nearest : IsFn Try.prog 34 Try.f34 := ⟨Try.func34, by kernel_rfl, by kernel_rfl⟩
theorem fn_r02_Nearest : IsFn Try.prog 35 Try.f35 := ⟨Try.func35, by kernel_rfl, by kernel_rfl⟩
theorem fn_r02_Sub : IsFn Try.prog 36 Try.f36 := ⟨Try.func36, by kernel_rfl, by kernel_rfl⟩
theorem fn_r02_Cmp : IsFn Try.prog 37 Try.f37 := ⟨Try.func37, by kernel_rfl, by kernel_rfl⟩
theorem fn_r02_Add : IsFn Try.prog 38 Try.f38 := ⟨Try.func38, by kernel_rfl, by kernel_rfl⟩
theorem fn_r02_Small : IsFn Try.prog 39 Try.f39 := ⟨Try.func39, by kernel_rfl, by kernel_rfl⟩
theorem fn_r02_Half : IsFn Try.prog 40 Try.f40 := ⟨Try.func40, by kernel_rfl, by kernel_rfl⟩
theorem fn_r02_Neg : IsFn Try.prog 41 Try.f41 := ⟨Try.func41, by kernel_rfl, by kernel_rfl⟩
theorem fn_rational_Parse : IsFn Try.prog 42 Try.f42 := ⟨Try.func42, by kernel_rfl, by kernel_rfl⟩
theorem fn_r02_Parse : IsFn Try.prog 43 Try.f43 := ⟨Try.func43, by kernel_rfl, by kernel_rfl⟩
theorem fn_r01_Format : IsFn Try.prog 44 Try.f44 := ⟨Try.func44, by kernel_rfl, by kernel_rfl⟩
theorem fn_r01_Small : IsFn Try.prog 45 Try.f45 := ⟨Try.func45, by kernel_rfl, by kernel_rfl⟩
theorem fn_rational_Format : IsFn Try.prog 46 Try.f46 := ⟨Try.func46, by kernel_rfl, by kernel_rfl⟩
theorem fn_r02_Format : IsFn Try.prog 47 Try.f47 := ⟨Try.func47, by kernel_rfl, by kernel_rfl⟩
theorem fn_rational_Add : IsFn Try.prog 48 Try.f48 := ⟨Try.func48, by kernel_rfl, by kernel_rfl⟩
theorem fn_rational_Sub : IsFn Try.prog 49 Try.f49 := ⟨Try.func49, by kernel_rfl, by kernel_rfl⟩
theorem fn_rational_Neg : IsFn Try.prog 50 Try.f50 := ⟨Try.func50, by kernel_rfl, by kernel_rfl⟩
theorem fn_rational_Mul : IsFn Try.prog 51 Try.f51 := ⟨Try.func51, by kernel_rfl, by kernel_rfl⟩
theorem fn_r02_Mul : IsFn Try.prog 52 Try.f52 := ⟨Try.func52, by kernel_rfl, by kernel_rfl⟩
theorem fn_rational_Sign : IsFn Try.prog 53 Try.f53 := ⟨Try.func53, by kernel_rfl, by kernel_rfl⟩
theorem fn_r02_Sign : IsFn Try.prog 54 Try.f54 := ⟨Try.func54, by kernel_rfl, by kernel_rfl⟩
theorem fn_rational_Cmp : IsFn Try.prog 55 Try.f55 := ⟨Try.func55, by kernel_rfl, by kernel_rfl⟩
theorem fn_rational_IsWhole : IsFn Try.prog 56 Try.f56 := ⟨Try.func56, by kernel_rfl, by kernel_rfl⟩
theorem fn_r02_IsWhole : IsFn Try.prog 57 Try.f57 := ⟨Try.func57, by kernel_rfl, by kernel_rfl⟩
theorem fn_rational_Quo : IsFn Try.prog 58 Try.f58 := ⟨Try.func58, by kernel_rfl, by kernel_rfl⟩
theorem fn_r02_Quo : IsFn Try.prog 59 Try.f59 := ⟨Try.func59, by kernel_rfl, by kernel_rfl⟩
theorem fn_rational_Pow : IsFn Try.prog 60 Try.f60 := ⟨Try.func60, by kernel_rfl, by kernel_rfl⟩
theorem fn_r02_Pow : IsFn Try.prog 61 Try.f61 := ⟨Try.func61, by kernel_rfl, by kernel_rfl⟩
theorem fn_strings_CutPrefix : IsFn Try.prog 62 Try.f62 := ⟨Try.func62, by kernel_rfl, by kernel_rfl⟩
theorem fn_integer_isNumeral : IsFn Try.prog 63 Try.f63 := ⟨Try.func63, by kernel_rfl, by kernel_rfl⟩
theorem fn_integer_build : IsFn Try.prog 64 Try.f64 := ⟨Try.func64, by kernel_rfl, by kernel_rfl⟩
theorem fn_integer_DivMod : IsFn Try.prog 65 Try.f65 := ⟨Try.func65, by kernel_rfl, by kernel_rfl⟩
theorem fn_integer_Small : IsFn Try.prog 66 Try.f66 := ⟨Try.func66, by kernel_rfl, by kernel_rfl⟩
theorem fn_integer_Int64 : IsFn Try.prog 67 Try.f67 := ⟨Try.func67, by kernel_rfl, by kernel_rfl⟩
theorem fn_integer_Sqrt : IsFn Try.prog 68 Try.f68 := ⟨Try.func68, by kernel_rfl, by kernel_rfl⟩
theorem fn_slices_Clone_uint32_uint32 : IsFn Try.prog 69 Try.f69 := ⟨Try.func69, by kernel_rfl, by kernel_rfl⟩
theorem fn_integer_trim : IsFn Try.prog 70 Try.f70 := ⟨Try.func70, by kernel_rfl, by kernel_rfl⟩
theorem fn_integer_divideByLimb : IsFn Try.prog 71 Try.f71 := ⟨Try.func71, by kernel_rfl, by kernel_rfl⟩
theorem fn_slices_Reverse_byte_byte : IsFn Try.prog 72 Try.f72 := ⟨Try.func72, by kernel_rfl, by kernel_rfl⟩
theorem fn_integer_Sign : IsFn Try.prog 73 Try.f73 := ⟨Try.func73, by kernel_rfl, by kernel_rfl⟩
theorem fn_rational_lowest : IsFn Try.prog 74 Try.f74 := ⟨Try.func74, by kernel_rfl, by kernel_rfl⟩
theorem fn_r01_Sign : IsFn Try.prog 75 Try.f75 := ⟨Try.func75, by kernel_rfl, by kernel_rfl⟩
theorem fn_r01_Neg : IsFn Try.prog 76 Try.f76 := ⟨Try.func76, by kernel_rfl, by kernel_rfl⟩
theorem fn_r01_Gcd : IsFn Try.prog 77 Try.f77 := ⟨Try.func77, by kernel_rfl, by kernel_rfl⟩
theorem fn_r01_Quo : IsFn Try.prog 78 Try.f78 := ⟨Try.func78, by kernel_rfl, by kernel_rfl⟩
theorem fn_integer_Normalize : IsFn Try.prog 79 Try.f79 := ⟨Try.func79, by kernel_rfl, by kernel_rfl⟩
theorem fn_r01_Normalize : IsFn Try.prog 80 Try.f80 := ⟨Try.func80, by kernel_rfl, by kernel_rfl⟩
theorem fn_r01_cmp : IsFn Try.prog 81 Try.f81 := ⟨Try.func81, by kernel_rfl, by kernel_rfl⟩
theorem fn_rational_canonical : IsFn Try.prog 82 Try.f82 := ⟨Try.func82, by kernel_rfl, by kernel_rfl⟩
theorem fn_rational_sum : IsFn Try.prog 83 Try.f83 := ⟨Try.func83, by kernel_rfl, by kernel_rfl⟩
theorem fn_r01_Add : IsFn Try.prog 84 Try.f84 := ⟨Try.func84, by kernel_rfl, by kernel_rfl⟩
theorem fn_r01_Mul : IsFn Try.prog 85 Try.f85 := ⟨Try.func85, by kernel_rfl, by kernel_rfl⟩
theorem fn_strings_Cut : IsFn Try.prog 86 Try.f86 := ⟨Try.func86, by kernel_rfl, by kernel_rfl⟩
theorem fn_strings_HasPrefix : IsFn Try.prog 87 Try.f87 := ⟨Try.func87, by kernel_rfl, by kernel_rfl⟩
theorem fn_integer_Cmp : IsFn Try.prog 88 Try.f88 := ⟨Try.func88, by kernel_rfl, by kernel_rfl⟩
theorem fn_integer_Gcd : IsFn Try.prog 89 Try.f89 := ⟨Try.func89, by kernel_rfl, by kernel_rfl⟩
theorem fn_r01_Parse : IsFn Try.prog 90 Try.f90 := ⟨Try.func90, by kernel_rfl, by kernel_rfl⟩
theorem fn_r01_IsNumber : IsFn Try.prog 91 Try.f91 := ⟨Try.func91, by kernel_rfl, by kernel_rfl⟩
theorem fn_r01_Long : IsFn Try.prog 92 Try.f92 := ⟨Try.func92, by kernel_rfl, by kernel_rfl⟩
theorem fn_r01_Cmp : IsFn Try.prog 93 Try.f93 := ⟨Try.func93, by kernel_rfl, by kernel_rfl⟩
theorem fn_r01_Abs : IsFn Try.prog 94 Try.f94 := ⟨Try.func94, by kernel_rfl, by kernel_rfl⟩
theorem fn_r01_DivMod : IsFn Try.prog 95 Try.f95 := ⟨Try.func95, by kernel_rfl, by kernel_rfl⟩
theorem fn_r01_low : IsFn Try.prog 96 Try.f96 := ⟨Try.func96, by kernel_rfl, by kernel_rfl⟩
theorem fn_r01_word : IsFn Try.prog 97 Try.f97 := ⟨Try.func97, by kernel_rfl, by kernel_rfl⟩
theorem fn_integer_Neg : IsFn Try.prog 98 Try.f98 := ⟨Try.func98, by kernel_rfl, by kernel_rfl⟩
theorem fn_rational_product : IsFn Try.prog 99 Try.f99 := ⟨Try.func99, by kernel_rfl, by kernel_rfl⟩
theorem fn_rational_fraction_sign : IsFn Try.prog 100 Try.f100 := ⟨Try.func100, by kernel_rfl, by kernel_rfl⟩
theorem fn_integer_Mul : IsFn Try.prog 101 Try.f101 := ⟨Try.func101, by kernel_rfl, by kernel_rfl⟩
theorem fn_integer_Pow : IsFn Try.prog 102 Try.f102 := ⟨Try.func102, by kernel_rfl, by kernel_rfl⟩
theorem fn_r01_Pow : IsFn Try.prog 103 Try.f103 := ⟨Try.func103, by kernel_rfl, by kernel_rfl⟩
theorem fn_internal_stringslite_CutPrefix : IsFn Try.prog 104 Try.f104 := ⟨Try.func104, by kernel_rfl, by kernel_rfl⟩
theorem fn_integer_divNat : IsFn Try.prog 105 Try.f105 := ⟨Try.func105, by kernel_rfl, by kernel_rfl⟩
theorem fn_integer_addNat : IsFn Try.prog 106 Try.f106 := ⟨Try.func106, by kernel_rfl, by kernel_rfl⟩
theorem fn_integer_subNat : IsFn Try.prog 107 Try.f107 := ⟨Try.func107, by kernel_rfl, by kernel_rfl⟩
theorem fn_integer_fromWord : IsFn Try.prog 108 Try.f108 := ⟨Try.func108, by kernel_rfl, by kernel_rfl⟩
theorem fn_integer_word : IsFn Try.prog 109 Try.f109 := ⟨Try.func109, by kernel_rfl, by kernel_rfl⟩
theorem fn_integer_sqrtNat : IsFn Try.prog 110 Try.f110 := ⟨Try.func110, by kernel_rfl, by kernel_rfl⟩
theorem fn_r01_trim : IsFn Try.prog 111 Try.f111 := ⟨Try.func111, by kernel_rfl, by kernel_rfl⟩
theorem fn_r01_Make : IsFn Try.prog 112 Try.f112 := ⟨Try.func112, by kernel_rfl, by kernel_rfl⟩
theorem fn_r01_Rem : IsFn Try.prog 113 Try.f113 := ⟨Try.func113, by kernel_rfl, by kernel_rfl⟩
theorem fn_integer_Add : IsFn Try.prog 114 Try.f114 := ⟨Try.func114, by kernel_rfl, by kernel_rfl⟩
theorem fn_r01_sum : IsFn Try.prog 115 Try.f115 := ⟨Try.func115, by kernel_rfl, by kernel_rfl⟩
theorem fn_r01_difference : IsFn Try.prog 116 Try.f116 := ⟨Try.func116, by kernel_rfl, by kernel_rfl⟩
theorem fn_internal_stringslite_Cut : IsFn Try.prog 117 Try.f117 := ⟨Try.func117, by kernel_rfl, by kernel_rfl⟩
theorem fn_internal_stringslite_HasPrefix : IsFn Try.prog 118 Try.f118 := ⟨Try.func118, by kernel_rfl, by kernel_rfl⟩
theorem fn_integer_compareNat : IsFn Try.prog 119 Try.f119 := ⟨Try.func119, by kernel_rfl, by kernel_rfl⟩
theorem fn_integer_gcdNat : IsFn Try.prog 120 Try.f120 := ⟨Try.func120, by kernel_rfl, by kernel_rfl⟩
theorem fn_r01_divide : IsFn Try.prog 121 Try.f121 := ⟨Try.func121, by kernel_rfl, by kernel_rfl⟩
theorem fn_r01_Sub : IsFn Try.prog 122 Try.f122 := ⟨Try.func122, by kernel_rfl, by kernel_rfl⟩
theorem fn_integer_mulNat : IsFn Try.prog 123 Try.f123 := ⟨Try.func123, by kernel_rfl, by kernel_rfl⟩
theorem fn_math_bits_LeadingZeros32 : IsFn Try.prog 124 Try.f124 := ⟨Try.func124, by kernel_rfl, by kernel_rfl⟩
theorem fn_integer_shiftLeft : IsFn Try.prog 125 Try.f125 := ⟨Try.func125, by kernel_rfl, by kernel_rfl⟩
theorem fn_integer_divideStep : IsFn Try.prog 126 Try.f126 := ⟨Try.func126, by kernel_rfl, by kernel_rfl⟩
theorem fn_integer_shiftRight : IsFn Try.prog 127 Try.f127 := ⟨Try.func127, by kernel_rfl, by kernel_rfl⟩
theorem fn_integer_addSigned : IsFn Try.prog 128 Try.f128 := ⟨Try.func128, by kernel_rfl, by kernel_rfl⟩
theorem fn_internal_stringslite_Index : IsFn Try.prog 129 Try.f129 := ⟨Try.func129, by kernel_rfl, by kernel_rfl⟩
theorem fn_r01_double : IsFn Try.prog 130 Try.f130 := ⟨Try.func130, by kernel_rfl, by kernel_rfl⟩
theorem fn_math_bits_Len32 : IsFn Try.prog 131 Try.f131 := ⟨Try.func131, by kernel_rfl, by kernel_rfl⟩
theorem fn_internal_stringslite_IndexByte : IsFn Try.prog 132 Try.f132 := ⟨Try.func132, by kernel_rfl, by kernel_rfl⟩

end Go.Qf
