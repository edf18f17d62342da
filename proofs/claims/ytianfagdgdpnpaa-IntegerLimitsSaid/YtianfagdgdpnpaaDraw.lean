/- A region that draws its order: each operation is shown alone, under what those before it have left; what an operation has left stays, whatever comes beside it. -/
import Derived.Test.YtianfagdgdpnpaaMem3
namespace Go.Qf
open Go Go.RowKit

def edgesTo (o : Oper) : List Nat := (o.after.toList.filter (Region.binds .any)).map (·.on)

theorem mem_edgesTo {o : Oper} {j : Nat} : j ∈ edgesTo o ↔ ∃ e ∈ o.after, Region.binds .any e = true ∧ e.on = j := by
  simp [edgesTo, and_assoc]

def maskOf (acc : List Nat) (o : Oper) : Nat := (edgesTo o).foldl (fun s e => s ||| 2 ^ e ||| acc.getD e 0) 0

def masks : List Nat → List Oper → List Nat
  | acc, [] => acc
  | acc, o :: r => masks (acc ++ [maskOf acc o]) r

theorem foldl_bit (acc : List Nat) (j : Nat) : ∀ (es : List Nat) (s : Nat), (es.foldl (fun s e => s ||| 2 ^ e ||| acc.getD e 0) s).testBit j = true →
    s.testBit j = true ∨ ∃ e ∈ es, e = j ∨ (acc.getD e 0).testBit j = true := by
  intro es
  induction es with
  | nil => intro s h; exact .inl h
  | cons e r ih =>
    intro s h
    rw [List.foldl_cons] at h
    rcases ih _ h with h1 | ⟨e', he, h1⟩
    · rw [Nat.testBit_or, Nat.testBit_or, Bool.or_eq_true, Bool.or_eq_true, Nat.testBit_two_pow, decide_eq_true_eq] at h1
      rcases h1 with (h1 | h1) | h1
      · exact .inl h1
      · exact .inr ⟨e, by simp, .inl h1⟩
      · exact .inr ⟨e, by simp, .inr h1⟩
    · exact .inr ⟨e', by simp [he], h1⟩

section
variable {l : List Oper} {L : Nat → Prop}

theorem masks_spec (hcl : ∀ i o, l[i]? = some o → L i → ∀ e ∈ edgesTo o, L e) :
    ∀ (r : List Oper) (acc : List Nat) (pre : List Oper), l = pre ++ r → acc.length = pre.length →
      (∀ k o, k < acc.length → l[k]? = some o → (∀ e ∈ edgesTo o, L e) → ∀ j, (acc.getD k 0).testBit j = true → L j) →
      ∀ k o, l[k]? = some o → (∀ e ∈ edgesTo o, L e) → ∀ j, ((masks acc r).getD k 0).testBit j = true → L j := by
  intro r
  induction r with
  | nil =>
    intro acc pre hl hlen h k o hk he j hj
    have : k < acc.length := by
      have := (List.getElem?_eq_some_iff.1 hk).1
      rw [hl] at this
      simp at this
      omega
    exact h k o this hk he j hj
  | cons o r ih =>
    intro acc pre hl hlen h
    refine ih (acc ++ [maskOf acc o]) (pre ++ [o]) (by simp [hl]) (by simp [hlen]) ?_
    intro k o' hk hk2 he j hj
    by_cases hlt : k < acc.length
    · have hg : (acc ++ [maskOf acc o]).getD k 0 = acc.getD k 0 := by simp [List.getD_eq_getElem?_getD, List.getElem?_append_left hlt]
      rw [hg] at hj
      exact h k o' hlt hk2 he j hj
    · have hk' : k = acc.length := by simp at hk; omega
      subst hk'
      have ho : o' = o := by
        rw [hl, hlen] at hk2
        simpa using hk2.symm
      subst ho
      have : (acc ++ [maskOf acc o']).getD acc.length 0 = maskOf acc o' := by simp [List.getD_eq_getElem?_getD]
      rw [this] at hj
      rcases foldl_bit acc j (edgesTo o') 0 hj with h1 | ⟨e, hee, h1 | h1⟩
      · simp at h1
      · subst h1; exact he e hee
      · by_cases hlt2 : e < acc.length
        · have hex : ∃ o2, l[e]? = some o2 := by
            have : e < l.length := by rw [hl]; simp; omega
            exact ⟨_, List.getElem?_eq_getElem this⟩
          obtain ⟨o2, ho2⟩ := hex
          exact h e o2 hlt2 ho2 (fun e' h' => hcl e o2 ho2 (he e hee) e' h') j h1
        · rw [List.getD_eq_getElem?_getD, List.getElem?_eq_none (by omega)] at h1
          simp at h1

end

def slotsOfOp (op : Op) : List Nat := op.operands.toList.filterMap fun | .tmp t => some t | _ => none

/-- The slots that an operation looks at: its operands, and what its guard asks. -/
def looks (l : List Oper) (o : Oper) : List Nat :=
  slotsOfOp o.op ++ (match o.guard with
    | none => []
    | some (j, _) => match (l[j]?).bind (·.dst) with
      | some d => [d]
      | none => [])

abbrev Psi := Value → World → Prop
def lookP : List (Nat × Psi) → Nat → Option Psi
  | [], _ => none
  | (k, v) :: r, n => bif Nat.beq k n then some v else lookP r n

/-- What is known of the slots ts, where each holds a value of which its own fact says. -/
def obl (S : List (Nat × Psi)) : List Nat → List (Nat × Value) → World → (List (Nat × Value) → Prop) → Prop
  | [], E, _, k => k E
  | t :: ts, E, w, k =>
    match lookP S t with
    | some ψ => ∀ v, ψ v w → obl S ts ((t, v) :: E) w k
    | none => obl S ts E w k

def allP : List (Nat × Psi) → List (Nat × Value) → World → (List (Nat × Value) → Prop) → Prop
  | [], E, _, k => k E
  | (t, ψ) :: r, E, w, k => ∀ v, ψ v w → allP r ((t, v) :: E) w k

def monoP : List (Nat × Psi) → Prop
  | [] => True
  | (_, ψ) :: r => (∀ v w w', Ext w w' → ψ v w → ψ v w') ∧ monoP r

/-- Where a block is made for a variable. -/
def isAlloc : Op → Bool
  | .alloc _ => true
  | .box _ _ => true
  | _ => false

/-- What an operation must leave. -/
def After (o : Oper) (S : List (Nat × Psi)) (w1 : World) (v : Value) (w2 : World) : Prop :=
  Ext w1 w2 ∧ (∀ d ψ, o.dst = some d → lookP S d = some ψ → ψ v w2) ∧ (isAlloc o.op = true → ∃ b, v = .pointer (some ⟨b, 0, none⟩) ∧ w1.heap.size ≤ b ∧ b < w2.heap.size)

/-- The slots of the variables that the first m operations make. -/
def allocs : List Oper → List Nat
  | [] => []
  | o :: r => match o.dst with
    | some d => bif isAlloc o.op then d :: allocs r else allocs r
    | none => allocs r

/-- No two of them are one. -/
def Dist (ts : List Nat) (E : List (Nat × Value)) : Prop := ∀ t, t ∈ ts → ∀ t', t' ∈ ts → t ≠ t' → ∀ v, look E t = some v → look E t' = some v → False

/-- One goal an operation. -/
def steps (P : Program) (n : Nat) (l : List Oper) (S : List (Nat × Psi)) (E : List (Nat × Value)) (w : World) : List Oper → Prop
  | [] => True
  | o :: r => (∀ w1, Ext w w1 → obl S (looks l o) E w1 (fun E2 => OpG P n l.toArray o E2 w1 (After o S w1))) ∧ steps P n l S E w r

def isNone' : Option Value → Bool
  | none => true
  | some _ => false

def dsts : List Oper → List Nat
  | [] => []
  | o :: r => match o.dst with
    | some d => d :: dsts r
    | none => dsts r

/-- The closed facts on the region. -/
def drawOk (l : List Oper) (m : Nat) (S : List Nat) : Bool :=
  Nat.ble m l.length &&
  (List.range l.length).all (fun i => match l[i]? with | some o => (edgesTo o).all (fun e => Nat.blt e i) | none => false) &&
  (List.range m).all (fun i => match l[i]? with
    | some o => (match o.dst with | some d => S.contains d | none => false) && (looks l o).all (fun t => !(S.contains t) || (List.range m).any (fun j => match l[j]? with | some oj => oj.dst == some t && (edgesTo o).contains j | none => false))
    | none => false) &&
  (List.range m).all (fun i => (List.range m).all (fun j => Nat.beq i j || match l[i]?, l[j]? with | some a, some b => !(a.dst == b.dst) | _, _ => false)) &&
  S.all (fun t => (List.range m).any (fun j => match l[j]? with | some oj => oj.dst == some t | none => false)) &&
  (List.range l.length).all (fun k => Nat.blt k m || (List.range k).all (fun j => ((masks [] l).getD k 0).testBit j))

def freeE : List Nat → List (Nat × Value) → Bool
  | [], _ => true
  | d :: r, E => isNone' (look E d) && freeE r E

theorem freeE_spec {E : List (Nat × Value)} : ∀ {S : List Nat}, freeE S E = true → ∀ d ∈ S, look E d = none := by
  intro S
  induction S with
  | nil => intro _ d hd; cases hd
  | cons x r ih =>
    intro h d hd
    simp only [freeE, Bool.and_eq_true] at h
    rcases List.mem_cons.1 hd with rfl | hd
    · cases hl : look E d with
      | none => rfl
      | some v => rw [hl] at h; simp [isNone'] at h
    · exact ih h.2 d hd

structure DrawOk (l : List Oper) (m : Nat) (S : List Nat) : Prop where
  le : m ≤ l.length
  back : ∀ i o, l[i]? = some o → ∀ e ∈ edgesTo o, e < i
  dst : ∀ i o, i < m → l[i]? = some o → ∃ d, o.dst = some d ∧ d ∈ S
  pred : ∀ i o, i < m → l[i]? = some o → ∀ t ∈ looks l o, t ∈ S → ∃ j oj, j < m ∧ l[j]? = some oj ∧ oj.dst = some t ∧ j ∈ edgesTo o
  inj : ∀ i j a b, i < m → j < m → l[i]? = some a → l[j]? = some b → a.dst = b.dst → i = j
  src : ∀ t ∈ S, ∃ j oj, j < m ∧ l[j]? = some oj ∧ oj.dst = some t
  last : ∀ k, m ≤ k → k < l.length → ∀ j, j < k → ((masks [] l).getD k 0).testBit j = true

theorem drawOk_spec {l : List Oper} {m : Nat} {S : List Nat} (h : drawOk l m S = true) : DrawOk l m S := by
  simp only [drawOk, Bool.and_eq_true] at h
  obtain ⟨⟨⟨⟨⟨h1, h2⟩, h3⟩, h4⟩, h5⟩, h6⟩ := h
  have hle := Nat.le_of_ble_eq_true h1
  refine ⟨hle, ?_, ?_, ?_, ?_, ?_, ?_⟩
  · intro i o ho e he
    have hi := (List.getElem?_eq_some_iff.1 ho).1
    have := List.all_eq_true.1 h2 i (List.mem_range.2 hi)
    rw [ho] at this
    simpa [Nat.blt_eq] using List.all_eq_true.1 this e he
  · intro i o hi ho
    have := List.all_eq_true.1 h3 i (List.mem_range.2 hi)
    rw [ho] at this
    simp only [Bool.and_eq_true] at this
    cases hd : o.dst with
    | none => rw [hd] at this; simp at this
    | some d => rw [hd] at this; exact ⟨d, rfl, by simpa using this.1⟩
  · intro i o hi ho t ht hS
    have := List.all_eq_true.1 h3 i (List.mem_range.2 hi)
    rw [ho] at this
    simp only [Bool.and_eq_true] at this
    have h7 := List.all_eq_true.1 this.2 t ht
    simp only [Bool.or_eq_true] at h7
    rcases h7 with h7 | h7
    · simp [hS] at h7
    · obtain ⟨j, hj, h8⟩ := List.any_eq_true.1 h7
      cases hoj : l[j]? with
      | none => rw [hoj] at h8; simp at h8
      | some oj =>
        rw [hoj] at h8
        simp only [Bool.and_eq_true, beq_iff_eq, List.contains_iff_mem] at h8
        exact ⟨j, oj, List.mem_range.1 hj, hoj, h8.1, h8.2⟩
  · intro i j a b hi hj ha hb hab
    have := List.all_eq_true.1 (List.all_eq_true.1 h4 i (List.mem_range.2 hi)) j (List.mem_range.2 hj)
    rw [ha, hb] at this
    simp only [Bool.or_eq_true] at this
    rcases this with h7 | h7
    · exact Nat.eq_of_beq_eq_true h7
    · simp [hab] at h7
  · intro t ht
    obtain ⟨j, hj, h8⟩ := List.any_eq_true.1 (List.all_eq_true.1 h5 t ht)
    cases hoj : l[j]? with
    | none => rw [hoj] at h8; simp at h8
    | some oj =>
      rw [hoj] at h8
      exact ⟨j, oj, List.mem_range.1 hj, hoj, by simpa using h8⟩
  · intro k hk hk2 j hj
    have := List.all_eq_true.1 h6 k (List.mem_range.2 hk2)
    simp only [Bool.or_eq_true] at this
    rcases this with h7 | h7
    · simp [Nat.blt_eq] at h7; omega
    · exact List.all_eq_true.1 h7 j (List.mem_range.2 hj)

/-- All operations before k have come up, no other. -/
theorem stageB {P : Program} {l : List Oper} {m : Nat} {S : List Nat} (hD : DrawOk l m S) {Q : Exit → Act → World → Prop} : ∀ (f k : Nat) (listed : Array Bool) (a : Act) (w : World), k + f = l.length → m ≤ k → listed.size = l.length →
    (∀ i, i < k → listed.getD i false = true) → (∀ i, k ≤ i → listed.getD i false = false) → wpList P l.toArray Q (l.drop k) a w → wpAny P .any l.toArray Q f listed a w := by
  intro f
  induction f with
  | zero =>
    intro k listed a w hkf hmk hsz h1 h2 hw
    have hk : k = l.length := by omega
    subst hk
    refine ⟨?_, by simpa [wpList] using hw⟩
    apply List.eq_nil_iff_forall_not_mem.2
    intro i hi
    obtain ⟨h3, o, ho, _⟩ := mem_ready.1 hi
    have hi' : i < l.length := by
      have := (Array.getElem?_eq_some_iff.1 ho).1
      simpa using this
    have := h1 i hi'
    simp [Array.getD_eq_getD_getElem?] at h3 this
    cases hx : listed[i]? <;> simp [hx] at h3 this
    rw [h3] at this; cases this
  | succ f ih =>
    intro k listed a w hkf hmk hsz h1 h2 hw
    have hkl : k < l.length := by omega
    have hok : l.toArray[k]? = some l[k] := by simp [hkl]
    have hgd : ∀ i, i < l.length → listed.getD i true = listed.getD i false := fun i hi => by
      have : i < listed.size := by omega
      simp [Array.getD_eq_getD_getElem?, this]
    have hready : k ∈ Region.ready .any l.toArray listed := by
      refine mem_ready.2 ⟨by rw [hgd k hkl]; exact h2 k (Nat.le_refl _), l[k], hok, fun e he hb => h1 _ ?_⟩
      exact hD.back k l[k] (List.getElem?_eq_getElem hkl) e.on (mem_edgesTo.2 ⟨e, he, hb, rfl⟩)
    refine ⟨fun h => (by rw [h] at hready; cases hready), fun i hi => ?_⟩
    obtain ⟨h3, o, ho, hall⟩ := mem_ready.1 hi
    have hil : i < l.length := by
      have := (Array.getElem?_eq_some_iff.1 ho).1
      simpa using this
    have hol : l[i]? = some o := by simpa using ho
    rw [hgd i hil] at h3
    have hik : i = k := by
      rcases Nat.lt_trichotomy i k with h4 | h4 | h4
      · rw [h1 i h4] at h3; cases h3
      · exact h4
      · exfalso
        have hcl : ∀ j oj, l[j]? = some oj → (listed.getD j false = true) → ∀ e ∈ edgesTo oj, listed.getD e false = true := by
          intro j oj hj hl e he
          have hlt : j < k := by
            rcases Nat.lt_or_ge j k with h5 | h5
            · exact h5
            · rw [h2 j h5] at hl; cases hl
          have := hD.back j oj hj e he
          exact h1 e (by omega)
        have := masks_spec (l := l) (L := fun j => listed.getD j false = true) hcl l [] [] rfl rfl (fun j _ hj => by simp at hj) i o hol
          (fun e he => by obtain ⟨e', h5, h6, h7⟩ := mem_edgesTo.1 he; subst h7; exact hall e' h5 h6) k (hD.last i (by omega) hil k h4)
        rw [h2 k (Nat.le_refl _)] at this
        cases this
    subst hik
    have hoo : o = l[i] := by rw [List.getElem?_eq_getElem hil] at hol; exact (Option.some.inj hol).symm
    rw [List.drop_eq_getElem_cons hil, ← hoo] at hw
    unfold wpOp
    simp only [ho]
    unfold wpList at hw
    have next : ∀ a w, wpList P l.toArray Q (l.drop (i + 1)) a w → wpAny P .any l.toArray Q f (listed.setIfInBounds i true) a w := by
      intro a w hw
      refine ih (i + 1) _ a w (by omega) (by omega) (by simpa using hsz) ?_ ?_ hw
      · intro j hj
        by_cases e : j = i
        · subst e; simp [Array.getD_eq_getD_getElem?, hsz, hil]
        · have := h1 j (by omega)
          simp only [Array.getD_eq_getD_getElem?] at this ⊢
          rw [Array.getElem?_setIfInBounds_ne (fun e' => e e'.symm)]
          exact this
      · intro j hj
        have := h2 j (by omega)
        simp only [Array.getD_eq_getD_getElem?] at this ⊢
        rw [Array.getElem?_setIfInBounds_ne (by omega)]
        exact this
    split
    · rename_i hwant
      rw [if_pos hwant] at hw
      rcases hw with hw | hw
      · exact .inl (Oper.wp_mono next hw)
      · exact .inr hw
    · rename_i hwant
      rw [if_neg hwant] at hw
      exact next _ _ hw

structure InvA (P : Program) (n : Nat) (l : List Oper) (m : Nat) (S : List (Nat × Psi)) (E : List (Nat × Value)) (w0 : World) (listed : Array Bool) (a : Act) (w : World) : Prop where
  size : listed.size = l.length
  closed : ∀ i o, l[i]? = some o → listed.getD i false = true → ∀ e ∈ edgesTo o, listed.getD e false = true
  tmps : a.tmps.size = n
  defers : a.defers = []
  base : ∀ k v, look E k = some v → a.tmps[k]? = some v
  facts : ∀ i o d ψ, i < m → l[i]? = some o → listed.getD i false = true → o.dst = some d → lookP S d = some ψ → ∃ v, a.tmps[d]? = some v ∧ ψ v w
  ext : Ext w0 w
  noB : ∀ i, m ≤ i → listed.getD i false = false
  made : ∀ i o d, i < m → l[i]? = some o → listed.getD i false = true → isAlloc o.op = true → o.dst = some d → ∃ b, a.tmps[d]? = some (.pointer (some ⟨b, 0, none⟩)) ∧ b < w.heap.size
  apart : ∀ i j oi oj di dj v, i < m → j < m → i ≠ j → l[i]? = some oi → l[j]? = some oj → listed.getD i false = true → listed.getD j false = true → isAlloc oi.op = true → isAlloc oj.op = true → oi.dst = some di → oj.dst = some dj → a.tmps[di]? = some v → a.tmps[dj]? = some v → False

theorem mem_allocs {t : Nat} : ∀ {l : List Oper}, t ∈ allocs l → ∃ (i : Nat) (o : Oper), l[i]? = some o ∧ isAlloc o.op = true ∧ o.dst = some t := by
  intro l
  induction l with
  | nil => intro h; cases h
  | cons o r ih =>
    intro h
    unfold allocs at h
    split at h
    · rename_i d hd
      cases hb : isAlloc o.op with
      | true =>
        rw [hb] at h
        simp only [cond_true, List.mem_cons] at h
        rcases h with rfl | h
        · exact ⟨0, o, rfl, hb, hd⟩
        · obtain ⟨i, o', h1, h2, h3⟩ := ih h
          exact ⟨i + 1, o', by simpa using h1, h2, h3⟩
      | false =>
        rw [hb] at h
        simp only [cond_false] at h
        obtain ⟨i, o', h1, h2, h3⟩ := ih h
        exact ⟨i + 1, o', by simpa using h1, h2, h3⟩
    · obtain ⟨i, o', h1, h2, h3⟩ := ih h
      exact ⟨i + 1, o', by simpa using h1, h2, h3⟩

theorem lookP_mem {S : List (Nat × Psi)} {t : Nat} : t ∈ S.map (·.1) → ∃ ψ, lookP S t = some ψ := by
  induction S with
  | nil => intro h; cases h
  | cons p r ih =>
    obtain ⟨k, ψ⟩ := p
    intro h
    by_cases e : k = t
    · subst e; exact ⟨ψ, by simp [lookP]⟩
    · have hb : Nat.beq k t = false := by
        cases hb : Nat.beq k t
        · rfl
        · exact absurd (Nat.eq_of_beq_eq_true hb) e
      simp only [List.map_cons, List.mem_cons] at h
      obtain ⟨φ, hφ⟩ := ih (h.resolve_left (fun x => e x.symm))
      exact ⟨φ, by simp [lookP, hb, hφ]⟩

theorem lookP_in {S : List (Nat × Psi)} {t : Nat} {ψ : Psi} : lookP S t = some ψ → (t, ψ) ∈ S := by
  induction S with
  | nil => intro h; simp [lookP] at h
  | cons p r ih =>
    obtain ⟨k, φ⟩ := p
    intro h
    by_cases e : k = t
    · subst e; simp [lookP] at h; subst h; simp
    · have hb : Nat.beq k t = false := by
        cases hb : Nat.beq k t
        · rfl
        · exact absurd (Nat.eq_of_beq_eq_true hb) e
      simp [lookP, hb] at h
      exact List.mem_cons_of_mem _ (ih h)

theorem monoP_spec : ∀ {S : List (Nat × Psi)}, monoP S → ∀ {t : Nat} {ψ : Psi}, lookP S t = some ψ → ∀ v w w', Ext w w' → ψ v w → ψ v w' := by
  intro S
  induction S with
  | nil => intro _ t ψ h; simp [lookP] at h
  | cons p r ih =>
    obtain ⟨k, φ⟩ := p
    intro hm t ψ h
    by_cases e : k = t
    · subst e; simp [lookP] at h; subst h; exact hm.1
    · have hb : Nat.beq k t = false := by
        cases hb : Nat.beq k t
        · rfl
        · exact absurd (Nat.eq_of_beq_eq_true hb) e
      simp [lookP, hb] at h
      exact ih hm.2 h

/-- The facts at hand, laid into the goal of one operation. -/
theorem obl_spec {n : Nat} {S : List (Nat × Psi)} {w : World} {a : Act} {k : List (Nat × Value) → Prop} (hsz : a.tmps.size = n) (hdf : a.defers = []) : ∀ (ts : List Nat) (E : List (Nat × Value)), (∀ k v, look E k = some v → a.tmps[k]? = some v) →
    (∀ t ∈ ts, ∀ ψ, lookP S t = some ψ → ∃ v, a.tmps[t]? = some v ∧ ψ v w) → obl S ts E w k → ∃ E2, Fits n E2 a ∧ k E2 := by
  intro ts
  induction ts with
  | nil => intro E hE _ h; exact ⟨E, ⟨hsz, hdf, hE⟩, h⟩
  | cons t r ih =>
    intro E hE hf h
    simp only [obl] at h
    split at h
    · rename_i ψ hψ
      obtain ⟨v, hv, hp⟩ := hf t (by simp) ψ hψ
      refine ih ((t, v) :: E) ?_ (fun t' ht' => hf t' (by simp [ht'])) (h v hp)
      intro k' u hk
      by_cases e : t = k'
      · subst e; rw [look_cons_self] at hk; cases hk; exact hv
      · rw [look_cons_ne _ _ e] at hk; exact hE k' u hk
    · exact ih E hE (fun t' ht' => hf t' (by simp [ht'])) h

theorem allP_spec {n : Nat} {w : World} {a : Act} {k : List (Nat × Value) → Prop} (hsz : a.tmps.size = n) (hdf : a.defers = []) : ∀ (S : List (Nat × Psi)) (E : List (Nat × Value)), (∀ k v, look E k = some v → a.tmps[k]? = some v) →
    (∀ t ψ, (t, ψ) ∈ S → ∃ v, a.tmps[t]? = some v ∧ ψ v w) → allP S E w k → ∃ E2, Fits n E2 a ∧ k E2 := by
  intro S
  induction S with
  | nil => intro E hE _ h; exact ⟨E, ⟨hsz, hdf, hE⟩, h⟩
  | cons p r ih =>
    obtain ⟨t, ψ⟩ := p
    intro E hE hf h
    obtain ⟨v, hv, hp⟩ := hf t ψ (by simp)
    refine ih ((t, v) :: E) ?_ (fun t' ψ' ht' => hf t' ψ' (by simp [ht'])) (h v hp)
    intro k' u hk
    by_cases e : t = k'
    · subst e; rw [look_cons_self] at hk; cases hk; exact hv
    · rw [look_cons_ne _ _ e] at hk; exact hE k' u hk

theorem steps_spec {P : Program} {n : Nat} {l : List Oper} {S : List (Nat × Psi)} {E : List (Nat × Value)} {w : World} : ∀ {r : List Oper}, steps P n l S E w r → ∀ o ∈ r,
    ∀ w1, Ext w w1 → obl S (looks l o) E w1 (fun E2 => OpG P n l.toArray o E2 w1 (After o S w1)) := by
  intro r
  induction r with
  | nil => intro _ o ho; cases ho
  | cons x r ih =>
    intro h o ho
    rcases List.mem_cons.1 ho with rfl | ho
    · exact h.1
    · exact ih h.2 o ho

/-- Each slot fact once. -/
def nodupKeys : List Nat → Bool
  | [] => true
  | x :: r => !(r.contains x) && nodupKeys r

theorem lookP_of_in {S : List (Nat × Psi)} (hn : nodupKeys (S.map (·.1)) = true) {t : Nat} {ψ : Psi} (h : (t, ψ) ∈ S) : lookP S t = some ψ := by
  induction S with
  | nil => cases h
  | cons p r ih =>
    obtain ⟨k, φ⟩ := p
    simp only [List.map_cons, nodupKeys, Bool.and_eq_true] at hn
    rcases List.mem_cons.1 h with h | h
    · cases h; simp [lookP]
    · have e : k ≠ t := by
        intro e; subst e
        have : k ∈ r.map (·.1) := List.mem_map.2 ⟨_, h, rfl⟩
        simp at hn
        exact hn.1 _ h
      have hb : Nat.beq k t = false := by
        cases hb : Nat.beq k t
        · rfl
        · exact absurd (Nat.eq_of_beq_eq_true hb) e
      simp only [lookP, hb, cond_false]
      exact ih hn.2 h

theorem stageA {P : Program} {n : Nat} {l : List Oper} {m : Nat} {S : List (Nat × Psi)} {E : List (Nat × Value)} {w0 : World} {Q : Exit → Act → World → Prop} (hD : DrawOk l m (S.map (·.1))) (hmono : monoP S) (hfree : ∀ d ∈ S.map (·.1), look E d = none)
    (hlt : ∀ d ∈ S.map (·.1), d < n) (hsteps : steps P n l S E w0 (l.take m)) (hnd : nodupKeys (S.map (·.1)) = true)
    (hend : ∀ w1, Ext w0 w1 → allP S E w1 (fun E2 => Dist (allocs (l.take m)) E2 → StL P n E2 w1 l.toArray (l.drop m) Q)) :
    ∀ (f : Nat) (U : List Nat) (listed : Array Bool) (a : Act) (w : World), f = (l.length - m) + U.length → U.Nodup → (∀ i, i ∈ U ↔ i < m ∧ listed.getD i false = false) → InvA P n l m S E w0 listed a w → wpAny P .any l.toArray Q f listed a w := by
  have hdist : ∀ {listed : Array Bool} {a : Act} {w : World}, (∀ i, i ∈ ([] : List Nat) ↔ i < m ∧ listed.getD i false = false) → InvA P n l m S E w0 listed a w → ∀ E2, Fits n E2 a → Dist (allocs (l.take m)) E2 := by
    intro listed a w hmem hI E2 hfit t ht t' ht' hne v hv hv'
    obtain ⟨i, oi, hi, hai, hdi⟩ := mem_allocs ht
    obtain ⟨j, oj, hj, haj, hdj⟩ := mem_allocs ht'
    have him : i < m := by have := (List.getElem?_eq_some_iff.1 hi).1; simp at this; omega
    have hjm : j < m := by have := (List.getElem?_eq_some_iff.1 hj).1; simp at this; omega
    rw [List.getElem?_take_of_lt him] at hi
    rw [List.getElem?_take_of_lt hjm] at hj
    have hL : ∀ i, i < m → listed.getD i false = true := fun i hi => by
      cases hx : listed.getD i false with
      | true => rfl
      | false => have := (hmem i).2 ⟨hi, hx⟩; cases this
    refine hI.apart i j oi oj t t' v him hjm ?_ hi hj (hL i him) (hL j hjm) hai haj hdi hdj (hfit.slots t v hv) (hfit.slots t' v hv')
    intro e; subst e
    rw [hi] at hj; cases hj
    rw [hdi] at hdj; cases hdj
    exact hne rfl
  intro f
  induction f with
  | zero =>
    intro U listed a w hf hU hmem hI
    have hm : m = l.length := by have := hD.le; omega
    have h0 : U = [] := List.eq_nil_of_length_eq_zero (by omega)
    subst h0
    refine stageB hD 0 m listed a w (by omega) (Nat.le_refl _) hI.size ?_ hI.noB ?_
    · intro i hi
      cases hx : listed.getD i false with
      | true => rfl
      | false => have := (hmem i).2 ⟨hi, hx⟩; cases this
    · obtain ⟨E2, hfit, hst⟩ := allP_spec hI.tmps hI.defers S E hI.base (fun t ψ ht => by
        obtain ⟨j, oj, hj, hoj, hdj⟩ := hD.src t (List.mem_map.2 ⟨_, ht, rfl⟩)
        have hl : listed.getD j false = true := by
          cases hx : listed.getD j false with
          | true => rfl
          | false => have := (hmem j).2 ⟨hj, hx⟩; cases this
        exact hI.facts j oj t ψ hj hoj hl hdj (lookP_of_in hnd ht)) (hend w hI.ext)
      exact hst (hdist hmem hI E2 hfit) a hfit
  | succ f ih =>
    intro U listed a w hf hU hmem hI
    by_cases h0 : U = []
    · subst h0
      refine stageB hD (f + 1) m listed a w (by have := hD.le; simp at hf; omega) (Nat.le_refl _) hI.size ?_ hI.noB ?_
      · intro i hi
        cases hx : listed.getD i false with
        | true => rfl
        | false => have := (hmem i).2 ⟨hi, hx⟩; cases this
      · obtain ⟨E2, hfit, hst⟩ := allP_spec hI.tmps hI.defers S E hI.base (fun t ψ ht => by
          obtain ⟨j, oj, hj, hoj, hdj⟩ := hD.src t (List.mem_map.2 ⟨_, ht, rfl⟩)
          have hl : listed.getD j false = true := by
            cases hx : listed.getD j false with
            | true => rfl
            | false => have := (hmem j).2 ⟨hj, hx⟩; cases this
          exact hI.facts j oj t ψ hj hoj hl hdj (lookP_of_in hnd ht)) (hend w hI.ext)
        exact hst (hdist hmem hI E2 hfit) a hfit
    · have hgd : ∀ i, i < l.length → listed.getD i true = listed.getD i false := fun i hi => by
        have : i < listed.size := by have := hI.size; omega
        simp [Array.getD_eq_getD_getElem?, this]
      have hclo : ∀ (i : Nat) (o : Oper), l[i]? = some o → (∀ e ∈ edgesTo o, listed.getD e false = true) → ∀ j, ((masks [] l).getD i 0).testBit j = true → listed.getD j false = true :=
        masks_spec (l := l) (L := fun j => listed.getD j false = true) hI.closed l [] [] rfl rfl (fun j _ hj => by simp at hj)
      constructor
      · intro hr
        exfalso
        obtain ⟨x, hx⟩ := List.exists_mem_of_ne_nil U h0
        -- the least operation that has not come up is ready
        have hleast : ∀ b, ∀ i, i < b → i < m → listed.getD i false = false → ∃ i0, i0 < m ∧ listed.getD i0 false = false ∧ ∀ j, j < i0 → listed.getD j false = true := by
          intro b
          induction b with
          | zero => intro i hi; omega
          | succ b ihb =>
            intro i hi him hil
            by_cases hall : ∀ j, j < i → listed.getD j false = true
            · exact ⟨i, him, hil, hall⟩
            · have : ∃ j, j < i ∧ listed.getD j false = false := by
                apply Classical.byContradiction
                intro hne
                apply hall
                intro j hj
                cases hx : listed.getD j false with
                | true => rfl
                | false => exact absurd ⟨j, hj, hx⟩ hne
              obtain ⟨j, hj, hjl⟩ := this
              exact ihb j (by omega) (by omega) hjl
        obtain ⟨i0, hi0, hl0, hbef⟩ := hleast (x + 1) x (by omega) ((hmem x).1 hx).1 ((hmem x).1 hx).2
        have hi0l : i0 < l.length := by have := hD.le; omega
        have : i0 ∈ Region.ready .any l.toArray listed := by
          refine mem_ready.2 ⟨by rw [hgd i0 hi0l]; exact hl0, l[i0], by simp [hi0l], fun e he hb => hbef _ ?_⟩
          exact hD.back i0 l[i0] (List.getElem?_eq_getElem hi0l) e.on (mem_edgesTo.2 ⟨e, he, hb, rfl⟩)
        rw [hr] at this
        cases this
      · intro i hi
        obtain ⟨h3, o, ho, hall⟩ := mem_ready.1 hi
        have hil : i < l.length := by
          have := (Array.getElem?_eq_some_iff.1 ho).1
          simpa using this
        have hol : l[i]? = some o := by simpa using ho
        rw [hgd i hil] at h3
        have hedges : ∀ e ∈ edgesTo o, listed.getD e false = true := fun e he => by
          obtain ⟨e', h5, h6, h7⟩ := mem_edgesTo.1 he; subst h7; exact hall e' h5 h6
        have him : i < m := by
          rcases Nat.lt_or_ge i m with h | h
          · exact h
          · exfalso
            obtain ⟨x, hx⟩ := List.exists_mem_of_ne_nil U h0
            have hxm := (hmem x).1 hx
            have := hclo i o hol hedges x (hD.last i h hil x (by omega))
            rw [hxm.2] at this
            cases this
        obtain ⟨d, hd, hdS⟩ := hD.dst i o him hol
        obtain ⟨ψ, hψ⟩ := lookP_mem hdS
        have hob := steps_spec hsteps o (by
          have : (l.take m)[i]? = some o := by rw [List.getElem?_take_of_lt him]; exact hol
          exact List.mem_of_getElem? this) w hI.ext
        obtain ⟨E2, hfit, hop⟩ := obl_spec hI.tmps hI.defers (looks l o) E hI.base (fun t ht φ hφ => by
          obtain ⟨j, oj, hj, hoj, hdj, hje⟩ := hD.pred i o him hol t ht (List.mem_map.2 ⟨_, lookP_in hφ, rfl⟩)
          exact hI.facts j oj t φ hj hoj (hedges j hje) hdj hφ) hob
        have hdn : d < n := hlt d hdS
        -- what holds behind the operation
        have next : ∀ v w2, After o S w v w2 → wpAny P .any l.toArray Q f (listed.setIfInBounds i true) (a.put o.dst v) w2 := by
          rintro v w2 ⟨hx2, hpsi, hnew⟩
          have hiU : i ∈ U := (hmem i).2 ⟨him, h3⟩
          have hset : ∀ j, (listed.setIfInBounds i true).getD j false = if j = i then true else listed.getD j false := by
            intro j
            simp only [Array.getD_eq_getD_getElem?]
            by_cases e : j = i
            · subst e; simp [hI.size, hil]
            · rw [Array.getElem?_setIfInBounds_ne (fun e' => e e'.symm), if_neg e]
          refine ih (U.erase i) _ _ w2 ?_ (hU.erase i) ?_ ⟨by simpa using hI.size, ?_, ?_, ?_, ?_, ?_, hI.ext.trans hx2, ?_, ?_, ?_⟩
          · have hpos : 0 < U.length := List.length_pos_of_mem hiU
            rw [List.length_erase_of_mem hiU]; omega
          · intro j
            rw [hU.mem_erase_iff, hset]
            constructor
            · rintro ⟨hne, hj⟩
              rw [if_neg hne]
              exact (hmem j).1 hj
            · rintro ⟨hj, hj2⟩
              by_cases e : j = i
              · rw [if_pos e] at hj2; cases hj2
              · rw [if_neg e] at hj2; exact ⟨e, (hmem j).2 ⟨hj, hj2⟩⟩
          · intro j oj hj hjl e he
            rw [hset] at hjl ⊢
            by_cases e1 : e = i
            · rw [if_pos e1]
            · rw [if_neg e1]
              by_cases e2 : j = i
              · subst e2
                rw [hol] at hj; cases hj
                exact hedges e he
              · rw [if_neg e2] at hjl
                exact hI.closed j oj hj hjl e he
          · simp [hd, Act.put, hI.tmps]
          · simp [hd, Act.put, hI.defers]
          · intro k u hk
            have hne : d ≠ k := fun e => by
              subst e
              rw [hfree d hdS] at hk
              cases hk
            simp only [hd, Act.put]
            rw [Array.getElem?_setIfInBounds_ne hne]
            exact hI.base k u hk
          · intro j oj d' φ hj hoj hjl hd' hφ
            rw [hset] at hjl
            by_cases e : j = i
            · subst e
              rw [hol] at hoj; cases hoj
              rw [hd] at hd'; cases hd'
              refine ⟨v, ?_, hpsi d φ hd hφ⟩
              simp [hd, Act.put, hI.tmps, hdn]
            · rw [if_neg e] at hjl
              obtain ⟨u, hu, hφu⟩ := hI.facts j oj d' φ hj hoj hjl hd' hφ
              have hne : d ≠ d' := fun e' => e (hD.inj j i oj o hj him hoj hol (by rw [hd', hd, e']))
              refine ⟨u, ?_, monoP_spec hmono hφ u w w2 hx2 hφu⟩
              simp only [hd, Act.put]
              rw [Array.getElem?_setIfInBounds_ne hne]
              exact hu
          · intro j hj
            rw [hset, if_neg (by omega)]
            exact hI.noB j hj
          · intro j oj d' hj hoj hjl hal hd'
            rw [hset] at hjl
            by_cases e : j = i
            · subst e
              rw [hol] at hoj; cases hoj
              rw [hd] at hd'; cases hd'
              obtain ⟨b, rfl, _, hb⟩ := hnew hal
              exact ⟨b, by simp [hd, Act.put, hI.tmps, hdn], hb⟩
            · rw [if_neg e] at hjl
              obtain ⟨b, hb, hbl⟩ := hI.made j oj d' hj hoj hjl hal hd'
              have hne : d ≠ d' := fun e' => e (hD.inj j i oj o hj him hoj hol (by rw [hd', hd, e']))
              refine ⟨b, ?_, Nat.lt_of_lt_of_le hbl hx2.size⟩
              simp only [hd, Act.put]
              rw [Array.getElem?_setIfInBounds_ne hne]
              exact hb
          · -- the new one is not an old one
            have hold : ∀ j oj d' u, j < m → j ≠ i → l[j]? = some oj → listed.getD j false = true → isAlloc oj.op = true → oj.dst = some d' → (a.put o.dst v).tmps[d']? = some u → a.tmps[d']? = some u ∧ ∃ b, u = .pointer (some ⟨b, 0, none⟩) ∧ b < w.heap.size := by
              intro j oj d' u hj hne hoj hjl hal hd' hu
              obtain ⟨b, hb, hbl⟩ := hI.made j oj d' hj hoj hjl hal hd'
              have hne' : d ≠ d' := fun e' => hne (hD.inj j i oj o hj him hoj hol (by rw [hd', hd, e']))
              simp only [hd, Act.put] at hu
              rw [Array.getElem?_setIfInBounds_ne hne'] at hu
              rw [hb] at hu
              cases hu
              exact ⟨hb, b, rfl, hbl⟩
            have hnewv : isAlloc o.op = true → ∀ u, (a.put o.dst v).tmps[d]? = some u → ∃ b, u = .pointer (some ⟨b, 0, none⟩) ∧ w.heap.size ≤ b := by
              intro hal u hu
              obtain ⟨b, rfl, hb, _⟩ := hnew hal
              have : (a.put o.dst (.pointer (some ⟨b, 0, none⟩))).tmps[d]? = some (.pointer (some ⟨b, 0, none⟩)) := by simp [hd, Act.put, hI.tmps, hdn]
              rw [this] at hu
              cases hu
              exact ⟨b, rfl, hb⟩
            intro j k oj ok dj dk u hj hk hne hoj hok hjl hkl haj hak hdj hdk huj huk
            rw [hset] at hjl hkl
            by_cases e1 : j = i
            · subst e1
              have e2 : ¬ k = j := fun e => hne e.symm
              rw [if_neg e2] at hkl
              rw [hol] at hoj; cases hoj
              rw [hd] at hdj; cases hdj
              obtain ⟨_, b, hb, hbl⟩ := hold k ok dk u hk e2 hok hkl hak hdk huk
              obtain ⟨b', hb', hbl'⟩ := hnewv haj u huj
              rw [hb] at hb'; cases hb'
              omega
            · rw [if_neg e1] at hjl
              obtain ⟨huj', b, hb, hbl⟩ := hold j oj dj u hj e1 hoj hjl haj hdj huj
              by_cases e2 : k = i
              · subst e2
                rw [hol] at hok; cases hok
                rw [hd] at hdk; cases hdk
                obtain ⟨b', hb', hbl'⟩ := hnewv hak u huk
                rw [hb] at hb'; cases hb'
                omega
              · rw [if_neg e2] at hkl
                obtain ⟨huk', _⟩ := hold k ok dk u hk e2 hok hkl hak hdk huk
                exact hI.apart j k oj ok dj dk u hj hk hne hoj hok hjl hkl haj hak hdj hdk huj' huk'
        unfold wpOp
        simp only [ho]
        rcases hop with ⟨hwant, hop⟩ | ⟨hwant, hop⟩
        · rw [if_pos (wantE_spec hfit hwant)]
          exact .inl (hop a hfit Q _ next)
        · rw [if_neg (by rw [wantE_spec hfit hwant]; simp)]
          exact next undef w hop

/-- THE RULE for a region that draws its order: the first m operations come in any order that their edges allow, the others behind them one by one. -/
theorem St.draw {P : Program} {n : Nat} {l : List Oper} (m : Nat) (S : List (Nat × Psi)) {E : List (Nat × Value)} {w : World} {Q : Exit → Act → World → Prop} {id : Nat} (hP : P.follows .mixedOrders = true) (hD : drawOk l m (S.map (·.1)) = true) (hfree : freeE (S.map (·.1)) E = true)
    (hlt : (S.map (·.1)).all (fun d => Nat.blt d n) = true) (hnd : nodupKeys (S.map (·.1)) = true) (hmono : monoP S) (hsteps : steps P n l S E w (l.take m))
    (hend : ∀ w1, Ext w w1 → allP S E w1 (fun E2 => Dist (allocs (l.take m)) E2 → StL P n E2 w1 l.toArray (l.drop m) Q)) : St P n E w (.region id l.toArray true) Q := by
  intro a ha
  have hD' := drawOk_spec hD
  refine wp_region_any hP ?_
  have hx : Ext w { w with drawn := w.drawn + 1 } := ⟨rfl, rfl, rfl, Nat.le_refl _, fun _ _ => rfl⟩
  have hle := hD'.le
  have hrep : ∀ i, (Array.replicate l.toArray.size false).getD i false = false := by
    intro i
    simp [Array.getD_eq_getD_getElem?, Array.getElem?_replicate]
    split <;> simp
  refine stageA hD' hmono (freeE_spec hfree) (fun d hd => by simpa [Nat.blt_eq] using List.all_eq_true.1 hlt d hd) hsteps hnd hend l.toArray.size (List.range m) _ a _ (by simp; omega) List.nodup_range ?_ ⟨by simp, ?_, ha.size, ha.defers, ha.slots, ?_, hx, ?_, ?_, ?_⟩
  · intro i
    rw [List.mem_range, hrep]
    simp
  · intro i o _ h
    rw [hrep] at h; cases h
  · intro i o d ψ _ _ h
    rw [hrep] at h; cases h
  · intro i _
    exact hrep i
  · intro i o d _ _ h
    rw [hrep] at h; cases h
  · intro i j oi oj di dj v _ _ _ _ _ h
    rw [hrep] at h; cases h

end Go.Qf
