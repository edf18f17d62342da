/- Natural numbers as lists of limbs: plain lists and numbers, no program in sight. -/
namespace Go.Qf

/-- The number that a list of limbs denotes, the least significant one first. -/
def val : List Nat → Nat
  | [] => 0
  | x :: r => x + 4294967296 * val r

def limbsF : Nat → Nat → List Nat
  | 0, _ => []
  | f + 1, m => if m = 0 then [] else m % 4294967296 :: limbsF f (m / 4294967296)

/-- The limbs of a number, no zero at the end. -/
def limbs (m : Nat) : List Nat := limbsF m m

theorem limbsF_enough : ∀ (f g m : Nat), m ≤ f → m ≤ g → limbsF f m = limbsF g m := by
  intro f
  induction f with
  | zero => intro g m h _; have : m = 0 := by omega
            subst this; cases g <;> simp [limbsF]
  | succ f ih =>
    intro g m hf hg
    cases g with
    | zero => have : m = 0 := by omega
              subst this; simp [limbsF]
    | succ g =>
      simp only [limbsF]
      split
      · rfl
      · rw [ih g (m / 4294967296) (by omega) (by omega)]

theorem limbs_zero : limbs 0 = [] := rfl

theorem limbs_eq (m : Nat) (h : m ≠ 0) : limbs m = m % 4294967296 :: limbs (m / 4294967296) := by
  unfold limbs
  cases m with
  | zero => exact absurd rfl h
  | succ k =>
    simp only [limbsF, if_neg h]
    rw [limbsF_enough k ((k + 1) / 4294967296) ((k + 1) / 4294967296) (by omega) (by omega)]

/-- Every limb is below 2^32. -/
def Lim (xs : List Nat) : Prop := ∀ x ∈ xs, x < 4294967296

theorem Lim.nil : Lim [] := fun _ h => by cases h
theorem Lim.cons {x : Nat} {r : List Nat} : Lim (x :: r) ↔ x < 4294967296 ∧ Lim r := by simp [Lim]
theorem Lim.get {xs : List Nat} (h : Lim xs) {i x : Nat} (hx : xs[i]? = some x) : x < 4294967296 := h x (List.mem_of_getElem? hx)
theorem Lim.take {xs : List Nat} (h : Lim xs) (k : Nat) : Lim (xs.take k) := fun x hx => h x (List.mem_of_mem_take hx)
theorem Lim.drop {xs : List Nat} (h : Lim xs) (k : Nat) : Lim (xs.drop k) := fun x hx => h x (List.mem_of_mem_drop hx)
theorem Lim.append {xs ys : List Nat} (h : Lim xs) (k : Lim ys) : Lim (xs ++ ys) := fun x hx => by
  rcases List.mem_append.1 hx with h1 | h1
  · exact h x h1
  · exact k x h1
theorem Lim.set {xs : List Nat} (h : Lim xs) (i : Nat) {y : Nat} (hy : y < 4294967296) : Lim (xs.set i y) := fun x hx => by
  rcases List.mem_or_eq_of_mem_set hx with h1 | h1
  · exact h x h1
  · rw [h1]; exact hy

theorem val_limbs : ∀ m, val (limbs m) = m := by
  intro m
  induction m using Nat.strongRecOn with
  | _ m ih =>
    by_cases h : m = 0
    · subst h; rfl
    · rw [limbs_eq m h]
      simp only [val]
      rw [ih (m / 4294967296) (by omega)]
      omega

theorem lim_limbs : ∀ m, Lim (limbs m) := by
  intro m
  induction m using Nat.strongRecOn with
  | _ m ih =>
    by_cases h : m = 0
    · subst h; exact Lim.nil
    · rw [limbs_eq m h]
      exact Lim.cons.2 ⟨by omega, ih (m / 4294967296) (by omega)⟩

theorem limbs_eq_nil {m : Nat} : limbs m = [] ↔ m = 0 := by
  constructor
  · intro h
    have := val_limbs m
    rw [h] at this
    exact this.symm
  · intro h; subst h; rfl

theorem val_append (xs ys : List Nat) : val (xs ++ ys) = val xs + 4294967296 ^ xs.length * val ys := by
  induction xs with
  | nil => simp [val]
  | cons x r ih =>
    simp only [List.cons_append, val, ih, List.length_cons, Nat.pow_succ, Nat.mul_add]
    rw [Nat.add_assoc]
    congr 2
    rw [← Nat.mul_assoc, Nat.mul_comm (4294967296 ^ r.length)]

theorem val_replicate_zero (k : Nat) : val (List.replicate k 0) = 0 := by
  induction k with
  | zero => rfl
  | succ k ih => simp [List.replicate_succ, val, ih]

theorem val_lt (xs : List Nat) (h : Lim xs) : val xs < 4294967296 ^ xs.length := by
  induction xs with
  | nil => simp [val]
  | cons x r ih =>
    obtain ⟨h1, h2⟩ := Lim.cons.1 h
    have := ih h2
    simp only [val, List.length_cons, Nat.pow_succ]
    have h3 : 4294967296 * (val r + 1) ≤ 4294967296 * 4294967296 ^ r.length := Nat.mul_le_mul_left _ this
    rw [Nat.mul_comm (4294967296 ^ r.length)]
    omega

/-- A list with no zero at its end is the limbs of its number. -/
theorem limbs_val_snoc (xs : List Nat) (x : Nat) (h : Lim (xs ++ [x])) (hx : x ≠ 0) : limbs (val (xs ++ [x])) = xs ++ [x] := by
  induction xs with
  | nil =>
    have h1 : x < 4294967296 := h x (by simp)
    have hv : val ([] ++ [x]) = x := by simp [val]
    rw [hv, limbs_eq x hx]
    have h2 : x / 4294967296 = 0 := Nat.div_eq_of_lt h1
    rw [h2, limbs_zero, Nat.mod_eq_of_lt h1]
    rfl
  | cons y r ih =>
    obtain ⟨h1, h2⟩ := Lim.cons.1 h
    have := ih h2
    have hpos : val (r ++ [x]) ≠ 0 := by
      intro e
      rw [e, limbs_zero] at this
      simp at this
    simp only [List.cons_append, val]
    rw [limbs_eq _ (by omega)]
    have e1 : (y + 4294967296 * val (r ++ [x])) % 4294967296 = y := by omega
    have e2 : (y + 4294967296 * val (r ++ [x])) / 4294967296 = val (r ++ [x]) := by omega
    rw [e1, e2, this]

theorem limbs_length_le (xs : List Nat) (h : Lim xs) : (limbs (val xs)).length ≤ xs.length := by
  induction xs with
  | nil => simp [val, limbs_zero]
  | cons x r ih =>
    obtain ⟨h1, h2⟩ := Lim.cons.1 h
    have := ih h2
    by_cases h0 : val (x :: r) = 0
    · rw [h0]; simp [limbs_zero]
    · rw [limbs_eq _ h0]
      have e2 : val (x :: r) / 4294967296 = val r := by simp only [val]; omega
      rw [e2]
      simp; omega

/-- If all limbs from position k on are 0, and the one before is not, the first k limbs are the limbs of the number. -/
theorem limbs_take (xs : List Nat) (h : Lim xs) (k : Nat) (hz : ∀ j, k ≤ j → j < xs.length → xs[j]? = some 0) (hk : k ≤ xs.length) (hl : k = 0 ∨ ∃ x, xs[k - 1]? = some x ∧ x ≠ 0) : limbs (val xs) = xs.take k := by
  have hsplit : xs = xs.take k ++ List.replicate (xs.length - k) 0 := by
    apply List.ext_getElem?
    intro i
    by_cases hi : i < k
    · rw [List.getElem?_append_left (by simp; omega), List.getElem?_take_of_lt hi]
    · rw [List.getElem?_append_right (by simp; omega)]
      have e : (xs.take k).length = k := by simp; omega
      rw [e]
      by_cases hi2 : i < xs.length
      · rw [hz i (by omega) hi2, List.getElem?_replicate, if_pos (by omega)]
      · rw [List.getElem?_eq_none (by omega), List.getElem?_replicate, if_neg (by omega)]
  have hv : val xs = val (xs.take k) := by
    conv => lhs; rw [hsplit]
    rw [val_append, val_replicate_zero]
    simp
  rw [hv]
  rcases hl with h0 | ⟨x, hx, hne⟩
  · subst h0; simp [val, limbs_zero]
  · have hpos : 0 < k := by
      rcases Nat.eq_zero_or_pos k with h0 | h0
      · subst h0
        simp at hx
        have hz0 := hz 0 (by omega) (by
          cases xs with
          | nil => simp at hx
          | cons a b => simp)
        rw [hz0] at hx
        cases hx
        exact absurd rfl hne
      · exact h0
    have e : xs.take k = xs.take (k - 1) ++ [x] := by
      have hlt : k - 1 < xs.length := by omega
      have : k = (k - 1) + 1 := by omega
      conv => lhs; rw [this]
      rw [List.take_succ_eq_append_getElem hlt]
      congr 2
      have := List.getElem?_eq_getElem hlt
      rw [this] at hx
      cases hx
      rfl
    rw [e]
    exact limbs_val_snoc _ _ (by rw [← e]; exact h.take k) hne

end Go.Qf
