/- A small calculus over the model's own 'wp': a frame is known by the slots that matter ('Fits'), an operation by the value that it yields ('OpR'), code by 'St'. Over any program. -/
import Derived.Test.YtianfagdgdpnpaaWrap
import Derived.WalkKit
import Derived.Deep.Quiet
import Derived.Deep.LoopGhost
import Derived.KernelRfl
namespace Go.Qf
open Go Go.RowKit

/-- What a slot holds, by its number. -/
def look : List (Nat × Value) → Nat → Option Value
  | [], _ => none
  | (k, v) :: r, n => bif Nat.beq k n then some v else look r n

theorem look_cons_self (k : Nat) (v : Value) (r : List (Nat × Value)) : look ((k, v) :: r) k = some v := by
  simp [look]

theorem look_cons_ne {k n : Nat} (v : Value) (r : List (Nat × Value)) (h : k ≠ n) : look ((k, v) :: r) n = look r n := by
  have : Nat.beq k n = false := by
    cases hb : Nat.beq k n
    · rfl
    · exact absurd (Nat.eq_of_beq_eq_true hb) h
  simp [look, this]

/-- The frame has n slots, nothing deferred, and holds what E says. -/
structure Fits (n : Nat) (E : List (Nat × Value)) (a : Act) : Prop where
  size : a.tmps.size = n
  defers : a.defers = []
  slots : ∀ k v, look E k = some v → a.tmps[k]? = some v

theorem Fits.put {n : Nat} {E : List (Nat × Value)} {a : Act} (h : Fits n E a) {d : Nat} (hd : Nat.blt d n = true) (v : Value) : Fits n ((d, v) :: E) (a.put (some d) v) := by
  have hd' : d < n := by simpa [Nat.blt_eq] using hd
  refine ⟨by simp [Act.put, h.size], by simp [Act.put, h.defers], fun k u hk => ?_⟩
  by_cases e : d = k
  · subst e
    rw [look_cons_self] at hk
    cases hk
    simp [Act.put, h.size, hd']
  · rw [look_cons_ne _ _ e] at hk
    simp only [Act.put]
    rw [Array.getElem?_setIfInBounds_ne e]
    exact h.slots k u hk

theorem Fits.put_none {n : Nat} {E : List (Nat × Value)} {a : Act} (h : Fits n E a) (v : Value) : Fits n E (a.put none v) := h

/-- E1 says nothing that E2 does not say. -/
def Sub : List (Nat × Value) → List (Nat × Value) → Prop
  | [], _ => True
  | (k, v) :: r, E => look E k = some v ∧ Sub r E

theorem Sub.look {E1 E2 : List (Nat × Value)} (h : Sub E1 E2) : ∀ k v, look E1 k = some v → Qf.look E2 k = some v := by
  induction E1 with
  | nil => intro k v hk; simp [Qf.look] at hk
  | cons p r ih =>
    obtain ⟨k0, v0⟩ := p
    intro k v hk
    by_cases e : k0 = k
    · subst e
      rw [look_cons_self] at hk
      cases hk
      exact h.1
    · rw [look_cons_ne _ _ e] at hk
      exact ih h.2 k v hk

theorem Fits.sub {n : Nat} {E1 E2 : List (Nat × Value)} {a : Act} (h : Fits n E2 a) (hs : Sub E1 E2) : Fits n E1 a :=
  ⟨h.size, h.defers, fun k v hk => h.slots k v (hs.look k v hk)⟩

/-- What an operand is. -/
def ov (E : List (Nat × Value)) : Operand → Option Value
  | .tmp t => look E t
  | .const v => some v
  | .global g => some (.pointer (some ⟨g, 0, none⟩))
  | .func f => some (.func (.func f) #[] #[])

theorem Fits.eval {n : Nat} {E : List (Nat × Value)} {a : Act} (h : Fits n E a) {x : Operand} {v : Value} (hx : ov E x = some v) : a.eval x = v := by
  cases x with
  | tmp t =>
    have := h.slots t v hx
    simp [Act.eval, Array.getD_eq_getD_getElem?, this]
  | const u => simp only [ov, Option.some.injEq] at hx; subst hx; rfl
  | global g => simp only [ov, Option.some.injEq] at hx; subst hx; rfl
  | func f => simp only [ov, Option.some.injEq] at hx; subst hx; rfl

/-- Does the guard let the operation run? -/
def wantE (ops : Array Oper) (E : List (Nat × Value)) : Option (Nat × Bool) → Option Bool
  | none => some true
  | some (j, want) =>
    match (ops[j]?).bind (·.dst) with
    | some d => match look E d with
      | some (.bool b) => some (b == want)
      | _ => none
    | none => none

theorem wantE_spec {n : Nat} {ops : Array Oper} {E : List (Nat × Value)} {a : Act} (h : Fits n E a) {o : Oper} {b : Bool} (hw : wantE ops E o.guard = some b) :
    Region.wanted o (yielded ops a.tmps) = b := by
  unfold wantE at hw
  unfold Region.wanted
  cases hg : o.guard with
  | none => rw [hg] at hw; simpa using hw
  | some p =>
    obtain ⟨j, want⟩ := p
    rw [hg] at hw
    simp only at hw ⊢
    cases hd : (ops[j]?).bind (·.dst) with
    | none => rw [hd] at hw; simp at hw
    | some d =>
      rw [hd] at hw
      simp only at hw
      cases hl : look E d with
      | none => rw [hl] at hw; simp at hw
      | some v =>
        rw [hl] at hw
        have hs := h.slots d v hl
        cases v <;> simp at hw
        rename_i b'
        subst hw
        simp [yielded, hd, hs]

/-- One operation, run where the slots are as E says: it yields a value of which Φ holds in the world that it leaves. -/
def OpR (P : Program) (n : Nat) (o : Oper) (E : List (Nat × Value)) (w : World) (Φ : Value → World → Prop) : Prop :=
  ∀ a, Fits n E a → ∀ (Q : Exit → Act → World → Prop) (K : Act → World → Prop), (∀ v w', Φ v w' → K (a.put o.dst v) w') → o.wp P a w K Q

/-- .. its guard asked first. -/
def OpG (P : Program) (n : Nat) (ops : Array Oper) (o : Oper) (E : List (Nat × Value)) (w : World) (Φ : Value → World → Prop) : Prop :=
  (wantE ops E o.guard = some true ∧ OpR P n o E w Φ) ∨ (wantE ops E o.guard = some false ∧ Φ undef w)

theorem OpR.mono {P : Program} {n : Nat} {o : Oper} {E : List (Nat × Value)} {w : World} {Φ Ψ : Value → World → Prop} (h : OpR P n o E w Φ) (hi : ∀ v w', Φ v w' → Ψ v w') : OpR P n o E w Ψ :=
  fun a ha Q K hK => h a ha Q K fun v w' hv => hK v w' (hi v w' hv)

def St (P : Program) (n : Nat) (E : List (Nat × Value)) (w : World) (c : Code) (Q : Exit → Act → World → Prop) : Prop := ∀ a, Fits n E a → c.wp P Q a w
def StL (P : Program) (n : Nat) (E : List (Nat × Value)) (w : World) (ops : Array Oper) (l : List Oper) (Q : Exit → Act → World → Prop) : Prop := ∀ a, Fits n E a → wpList P ops Q l a w
/-- What must hold where the code has come to an exit. -/
def Out (n : Nat) (E : List (Nat × Value)) (w : World) (e : Exit) (Q : Exit → Act → World → Prop) : Prop := ∀ a, Fits n E a → Q e a w

section rules
variable {P : Program} {n : Nat} {E : List (Nat × Value)} {w : World} {Q : Exit → Act → World → Prop} {ops : Array Oper} {rest : List Oper}

theorem StL.step {o : Oper} {d : Nat} {Φ : Value → World → Prop} (hd : o.dst = some d) (hw : wantE ops E o.guard = some true) (hn : Nat.blt d n = true) (h : OpR P n o E w Φ)
    (next : ∀ v w', Φ v w' → StL P n ((d, v) :: E) w' ops rest Q) : StL P n E w ops (o :: rest) Q := by
  intro a ha
  refine wpList_step fun K hK => ?_
  rw [if_pos (wantE_spec ha hw)]
  exact h a ha Q K fun v w' hv => hK _ _ (next v w' hv _ (by rw [hd]; exact ha.put hn v))

theorem StL.step0 {o : Oper} {Φ : Value → World → Prop} (hd : o.dst = none) (hw : wantE ops E o.guard = some true) (h : OpR P n o E w Φ)
    (next : ∀ v w', Φ v w' → StL P n E w' ops rest Q) : StL P n E w ops (o :: rest) Q := by
  intro a ha
  refine wpList_step fun K hK => ?_
  rw [if_pos (wantE_spec ha hw)]
  exact h a ha Q K fun v w' hv => hK _ _ (next v w' hv _ (by rw [hd]; exact ha))

theorem StL.skip {o : Oper} {d : Nat} (hd : o.dst = some d) (hw : wantE ops E o.guard = some false) (hn : Nat.blt d n = true)
    (next : StL P n ((d, undef) :: E) w ops rest Q) : StL P n E w ops (o :: rest) Q := by
  intro a ha
  refine wpList_step fun K hK => ?_
  rw [if_neg (by rw [wantE_spec ha hw]; simp)]
  exact hK _ _ (next _ (by rw [hd]; exact ha.put hn undef))

theorem StL.nil (h : Out n E w .normal Q) : StL P n E w ops [] Q := fun a ha => wpList_nil (h a ha)

theorem St.seq {x y : Code} (h : St P n E w x (Exit.then (y.wp P Q) Q)) : St P n E w (.seq x y) Q := fun a ha => wp_seq (h a ha)
theorem St.region {id : Nat} {l : List Oper} (h : StL P n E w l.toArray l Q) : St P n E w (.region id l.toArray false) Q := fun a ha => wp_region_lit (h a ha)
theorem St.skip (h : Out n E w .normal Q) : St P n E w .skip Q := fun a ha => wp_skip (h a ha)
theorem St.ret (h : Out n E w .ret Q) : St P n E w .ret Q := fun a ha => wp_ret (h a ha)
theorem St.exit {id : Nat} (h : Out n E w (.exit id) Q) : St P n E w (.exit id) Q := fun a ha => wp_exit (h a ha)
theorem St.block {id : Nat} {c : Code} (h : St P n E w c (Exit.inBlock id Q)) : St P n E w (.block id c) Q := fun a ha => wp_block (h a ha)
theorem St.cond {c : Operand} {x y : Code} {b : Bool} (hb : ov E c = some (.bool b)) (ht : b = true → St P n E w x Q) (hf : b = false → St P n E w y Q) : St P n E w (.cond c x y) Q :=
  fun a ha => wp_cond_split (ha.eval hb) (fun e => ht e a ha) (fun e => hf e a ha)
theorem St.condT {c : Operand} {x y : Code} {b : Bool} (hb : ov E c = some (.bool b)) (e : b = true) (ht : St P n E w x Q) : St P n E w (.cond c x y) Q :=
  St.cond hb (fun _ => ht) (fun h => by rw [e] at h; cases h)
theorem St.condF {c : Operand} {x y : Code} {b : Bool} (hb : ov E c = some (.bool b)) (e : b = false) (hf : St P n E w y Q) : St P n E w (.cond c x y) Q :=
  St.cond hb (fun h => by rw [e] at h; cases h) (fun _ => hf)
theorem St.sub {E' : List (Nat × Value)} {c : Code} (h : St P n E' w c Q) (hs : Sub E' E) : St P n E w c Q := fun a ha => h a (ha.sub hs)

theorem Out.then_normal {y : Code} (h : St P n E w y Q) : Out n E w .normal (Exit.then (y.wp P Q) Q) := h
theorem Out.then_ret {K : Act → World → Prop} (h : Out n E w .ret Q) : Out n E w .ret (Exit.then K Q) := h
theorem Out.then_exit {K : Act → World → Prop} {id : Nat} (h : Out n E w (.exit id) Q) : Out n E w (.exit id) (Exit.then K Q) := h
theorem Out.block_normal {id : Nat} (h : Out n E w .normal Q) : Out n E w .normal (Exit.inBlock id Q) := h
theorem Out.block_ret {id : Nat} (h : Out n E w .ret Q) : Out n E w .ret (Exit.inBlock id Q) := h
theorem Out.block_exit {id : Nat} (h : Out n E w .normal Q) : Out n E w (.exit id) (Exit.inBlock id Q) := fun a ha => by
  show (if id = id then _ else _)
  rw [if_pos rfl]; exact h a ha
theorem Out.block_other {id id' : Nat} (hne : Nat.beq id' id = false) (h : Out n E w (.exit id') Q) : Out n E w (.exit id') (Exit.inBlock id Q) := fun a ha => by
  show (if id' = id then _ else _)
  rw [if_neg (fun e => by subst e; simp at hne)]; exact h a ha

/-- What a round of a loop hands on. -/
def Again {α : Type} (n : Nat) (Einv : α → List (Nat × Value)) (I : α → World → Prop) (μ : α → Nat) (g : α) (a : Act) (w : World) : Prop :=
  ∃ g', Fits n (Einv g') a ∧ I g' w ∧ μ g' < μ g

theorem St.loop {α : Type} (Einv : α → List (Nat × Value)) (I : α → World → Prop) (μ : α → Nat) {c : Code} (g0 : α) (hs : Sub (Einv g0) E) (h0 : I g0 w)
    (round : ∀ g w, I g w → St P n (Einv g) w c (Exit.then (Again n Einv I μ g) Q)) : St P n E w (.loop c) Q := by
  intro a ha
  refine wp_loop_ghost (fun k a w => ∃ g, μ g = k ∧ Fits n (Einv g) a ∧ I g w) (μ g0) ⟨g0, rfl, ha.sub hs, h0⟩ ?_
  rintro k a' w' ⟨g, rfl, hf, hI⟩
  refine wp_mono (round g w' hI a' hf) ?_
  intro e a2 w2 hq
  cases e with
  | normal =>
    obtain ⟨g', hf', hI', hlt⟩ := hq
    exact ⟨μ g', hlt, g', rfl, hf', hI'⟩
  | exit id => exact hq
  | goto l => exact hq
  | ret => exact hq
  | panic ch => exact hq
  | outgrown => exact hq

theorem Out.again {α : Type} {Einv : α → List (Nat × Value)} {I : α → World → Prop} {μ : α → Nat} {g : α} (g' : α) (hs : Sub (Einv g') E) (hI : I g' w) (hlt : μ g' < μ g) :
    Out n E w .normal (Exit.then (Again n Einv I μ g) Q) := fun _ ha => ⟨g', ha.sub hs, hI, hlt⟩
end rules

/-- A call that returns a value of which Φ holds. -/
def Ret (Φ : Value → World → Prop) (e : Ending) (w : World) : Prop := ∃ v, e = .returned v ∧ Φ v w

/-- The parameters' slots. -/
def slotsFrom : Nat → List Value → List (Nat × Value)
  | _, [] => []
  | k, v :: r => (k, v) :: slotsFrom (k + 1) r

theorem look_slotsFrom (l : List Value) : ∀ (s k : Nat) (v : Value), look (slotsFrom s l) k = some v → s ≤ k ∧ l[k - s]? = some v := by
  induction l with
  | nil => intro s k v h; simp [slotsFrom, look] at h
  | cons x r ih =>
    intro s k v h
    by_cases e : s = k
    · subst e
      rw [slotsFrom, look_cons_self] at h
      simpa using h
    · rw [slotsFrom, look_cons_ne _ _ e] at h
      obtain ⟨h1, h2⟩ := ih (s + 1) k v h
      refine ⟨by omega, ?_⟩
      have : k - s = (k - (s + 1)) + 1 := by omega
      rw [this]
      simpa using h2

theorem calls_of_St {P : Program} {f : FuncId} {fn : Func} {c : Code} {args : List Value} {w : World} {Φ : Value → World → Prop} {n : Nat}
    (hf : P.funcs[f]? = some fn) (hb : fn.body = some c) (hn : fn.ntmps = n) (hle : Nat.ble args.length n = true)
    (h : St P n (slotsFrom 0 args) w c (bodyPost P fn (Ret Φ))) : Calls P f args.toArray w (Ret Φ) := by
  refine calls_of_wp hf hb (h _ ⟨?_, rfl, ?_⟩)
  · have := Nat.le_of_ble_eq_true hle
    simp [hn]; omega
  · intro k v hk
    obtain ⟨_, h2⟩ := look_slotsFrom args 0 k v hk
    simp only [Nat.sub_zero] at h2
    have hlt : k < args.length := (List.getElem?_eq_some_iff.1 h2).1
    rw [Array.getElem?_append_left (by simpa using hlt)]
    simpa using h2

/-- What the function hands back: one result in a slot. -/
theorem Out.ret1 {P : Program} {fn : Func} {n : Nat} {E : List (Nat × Value)} {w : World} {Φ : Value → World → Prop} {t : Tmp} {v : Value} (hr : fn.results = #[.tmp t]) (hv : look E t = some v) (h : Φ v w) :
    Out n E w .ret (bodyPost P fn (Ret Φ)) := fun a ha =>
  bodyPost_ret (results_tmp hr _ P w) ha.defers ⟨_, rfl, by rw [show a.tmps.getD t undef = v from by simp [Array.getD_eq_getD_getElem?, ha.slots t v hv]]; exact h⟩

theorem Out.ret2 {P : Program} {fn : Func} {n : Nat} {E : List (Nat × Value)} {w : World} {Φ : Value → World → Prop} {t u : Tmp} {x y : Value} (hr : fn.results = #[.tmp t, .tmp u]) (hx : look E t = some x) (hy : look E u = some y) (h : Φ (.tuple #[x, y]) w) :
    Out n E w .ret (bodyPost P fn (Ret Φ)) := fun a ha =>
  bodyPost_ret (results_tmp2 hr _ P w) ha.defers ⟨_, rfl, by rw [show a.tmps.getD t undef = x from by simp [Array.getD_eq_getD_getElem?, ha.slots t x hx], show a.tmps.getD u undef = y from by simp [Array.getD_eq_getD_getElem?, ha.slots u y hy]]; exact h⟩

end Go.Qf
