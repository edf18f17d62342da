/- Lemmas on the model and on the program's functions, part Qb. -/
import Derived.Test.YteiphfahnikikaaQa
/- Natural numbers as lists of limbs: plain lists and numbers, no program in sight. -/
namespace Go.Qf

/-- The number that a list of limbs denotes, the least significant one first. -/
def val : List Nat → Nat
  | [] => 0
  | x :: r => x + 4294967296 * val r

def limbsF : Nat → Nat → List Nat
  | 0, _ => []
  | f + 1, m => if m = 0 then [] else m % 4294967296 :: limbsF f (m / 4294967296)

/-- The limbs of a number, no zero at the end. -/
def limbs (m : Nat) : List Nat := limbsF m m

theorem limbsF_enough : ∀ (f g m : Nat), m ≤ f → m ≤ g → limbsF f m = limbsF g m := by
  intro f
  induction f with
  | zero => intro g m h _; have : m = 0 := by omega
            subst this; cases g <;> simp [limbsF]
  | succ f ih =>
    intro g m hf hg
    cases g with
    | zero => have : m = 0 := by omega
              subst this; simp [limbsF]
    | succ g =>
      simp only [limbsF]
      split
      · rfl
      · rw [ih g (m / 4294967296) (by omega) (by omega)]

theorem limbs_zero : limbs 0 = [] := rfl

theorem limbs_eq (m : Nat) (h : m ≠ 0) : limbs m = m % 4294967296 :: limbs (m / 4294967296) := by
  unfold limbs
  cases m with
  | zero => exact absurd rfl h
  | succ k =>
    simp only [limbsF, if_neg h]
    rw [limbsF_enough k ((k + 1) / 4294967296) ((k + 1) / 4294967296) (by omega) (by omega)]

/-- Every limb is below 2^32. -/
def Lim (xs : List Nat) : Prop := ∀ x ∈ xs, x < 4294967296

theorem Lim.nil : Lim [] := fun _ h => by cases h
theorem Lim.cons {x : Nat} {r : List Nat} : Lim (x :: r) ↔ x < 4294967296 ∧ Lim r := by simp [Lim]
theorem Lim.get {xs : List Nat} (h : Lim xs) {i x : Nat} (hx : xs[i]? = some x) : x < 4294967296 := h x (List.mem_of_getElem? hx)
theorem Lim.take {xs : List Nat} (h : Lim xs) (k : Nat) : Lim (xs.take k) := fun x hx => h x (List.mem_of_mem_take hx)
theorem Lim.drop {xs : List Nat} (h : Lim xs) (k : Nat) : Lim (xs.drop k) := fun x hx => h x (List.mem_of_mem_drop hx)
theorem Lim.append {xs ys : List Nat} (h : Lim xs) (k : Lim ys) : Lim (xs ++ ys) := fun x hx => by
  rcases List.mem_append.1 hx with h1 | h1
  · exact h x h1
  · exact k x h1
theorem Lim.set {xs : List Nat} (h : Lim xs) (i : Nat) {y : Nat} (hy : y < 4294967296) : Lim (xs.set i y) := fun x hx => by
  rcases List.mem_or_eq_of_mem_set hx with h1 | h1
  · exact h x h1
  · rw [h1]; exact hy

theorem val_limbs : ∀ m, val (limbs m) = m := by
  intro m
  induction m using Nat.strongRecOn with
  | _ m ih =>
    by_cases h : m = 0
    · subst h; rfl
    · rw [limbs_eq m h]
      simp only [val]
      rw [ih (m / 4294967296) (by omega)]
      omega

theorem lim_limbs : ∀ m, Lim (limbs m) := by
  intro m
  induction m using Nat.strongRecOn with
  | _ m ih =>
    by_cases h : m = 0
    · subst h; exact Lim.nil
    · rw [limbs_eq m h]
      exact Lim.cons.2 ⟨by omega, ih (m / 4294967296) (by omega)⟩

theorem limbs_eq_nil {m : Nat} : limbs m = [] ↔ m = 0 := by
  constructor
  · intro h
    have := val_limbs m
    rw [h] at this
    exact this.symm
  · intro h; subst h; rfl

theorem val_append (xs ys : List Nat) : val (xs ++ ys) = val xs + 4294967296 ^ xs.length * val ys := by
  induction xs with
  | nil => simp [val]
  | cons x r ih =>
    simp only [List.cons_append, val, ih, List.length_cons, Nat.pow_succ, Nat.mul_add]
    rw [Nat.add_assoc]
    congr 2
    rw [← Nat.mul_assoc, Nat.mul_comm (4294967296 ^ r.length)]

theorem val_replicate_zero (k : Nat) : val (List.replicate k 0) = 0 := by
  induction k with
  | zero => rfl
  | succ k ih => simp [List.replicate_succ, val, ih]

theorem val_lt (xs : List Nat) (h : Lim xs) : val xs < 4294967296 ^ xs.length := by
  induction xs with
  | nil => simp [val]
  | cons x r ih =>
    obtain ⟨h1, h2⟩ := Lim.cons.1 h
    have := ih h2
    simp only [val, List.length_cons, Nat.pow_succ]
    have h3 : 4294967296 * (val r + 1) ≤ 4294967296 * 4294967296 ^ r.length := Nat.mul_le_mul_left _ this
    rw [Nat.mul_comm (4294967296 ^ r.length)]
    omega

/-- A list with no zero at its end is the limbs of its number. -/
theorem limbs_val_snoc (xs : List Nat) (x : Nat) (h : Lim (xs ++ [x])) (hx : x ≠ 0) : limbs (val (xs ++ [x])) = xs ++ [x] := by
  induction xs with
  | nil =>
    have h1 : x < 4294967296 := h x (by simp)
    have hv : val ([] ++ [x]) = x := by simp [val]
    rw [hv, limbs_eq x hx]
    have h2 : x / 4294967296 = 0 := Nat.div_eq_of_lt h1
    rw [h2, limbs_zero, Nat.mod_eq_of_lt h1]
    rfl
  | cons y r ih =>
    obtain ⟨h1, h2⟩ := Lim.cons.1 h
    have := ih h2
    have hpos : val (r ++ [x]) ≠ 0 := by
      intro e
      rw [e, limbs_zero] at this
      simp at this
    simp only [List.cons_append, val]
    rw [limbs_eq _ (by omega)]
    have e1 : (y + 4294967296 * val (r ++ [x])) % 4294967296 = y := by omega
    have e2 : (y + 4294967296 * val (r ++ [x])) / 4294967296 = val (r ++ [x]) := by omega
    rw [e1, e2, this]

theorem limbs_length_le (xs : List Nat) (h : Lim xs) : (limbs (val xs)).length ≤ xs.length := by
  induction xs with
  | nil => simp [val, limbs_zero]
  | cons x r ih =>
    obtain ⟨h1, h2⟩ := Lim.cons.1 h
    have := ih h2
    by_cases h0 : val (x :: r) = 0
    · rw [h0]; simp [limbs_zero]
    · rw [limbs_eq _ h0]
      have e2 : val (x :: r) / 4294967296 = val r := by simp only [val]; omega
      rw [e2]
      simp; omega

/-- If all limbs from position k on are 0, and the one before is not, the first k limbs are the limbs of the number. -/
theorem limbs_take (xs : List Nat) (h : Lim xs) (k : Nat) (hz : ∀ j, k ≤ j → j < xs.length → xs[j]? = some 0) (hk : k ≤ xs.length) (hl : k = 0 ∨ ∃ x, xs[k - 1]? = some x ∧ x ≠ 0) : limbs (val xs) = xs.take k := by
  have hsplit : xs = xs.take k ++ List.replicate (xs.length - k) 0 := by
    apply List.ext_getElem?
    intro i
    by_cases hi : i < k
    · rw [List.getElem?_append_left (by simp; omega), List.getElem?_take_of_lt hi]
    · rw [List.getElem?_append_right (by simp; omega)]
      have e : (xs.take k).length = k := by simp; omega
      rw [e]
      by_cases hi2 : i < xs.length
      · rw [hz i (by omega) hi2, List.getElem?_replicate, if_pos (by omega)]
      · rw [List.getElem?_eq_none (by omega), List.getElem?_replicate, if_neg (by omega)]
  have hv : val xs = val (xs.take k) := by
    conv => lhs; rw [hsplit]
    rw [val_append, val_replicate_zero]
    simp
  rw [hv]
  rcases hl with h0 | ⟨x, hx, hne⟩
  · subst h0; simp [val, limbs_zero]
  · have hpos : 0 < k := by
      rcases Nat.eq_zero_or_pos k with h0 | h0
      · subst h0
        simp at hx
        have hz0 := hz 0 (by omega) (by
          cases xs with
          | nil => simp at hx
          | cons a b => simp)
        rw [hz0] at hx
        cases hx
        exact absurd rfl hne
      · exact h0
    have e : xs.take k = xs.take (k - 1) ++ [x] := by
      have hlt : k - 1 < xs.length := by omega
      have : k = (k - 1) + 1 := by omega
      conv => lhs; rw [this]
      rw [List.take_succ_eq_append_getElem hlt]
      congr 2
      have := List.getElem?_eq_getElem hlt
      rw [this] at hx
      cases hx
      rfl
    rw [e]
    exact limbs_val_snoc _ _ (by rw [← e]; exact h.take k) hne

end Go.Qf

/- More on limbs: lengths, comparison, bits. -/
namespace Go.Qf

theorem limbs_length_mono : ∀ (a b : Nat), a ≤ b → (limbs a).length ≤ (limbs b).length := by
  intro a
  induction a using Nat.strongRecOn with
  | _ a ih =>
    intro b h
    by_cases h0 : a = 0
    · subst h0; simp [limbs_zero]
    · rw [limbs_eq a h0, limbs_eq b (by omega)]
      have := ih (a / 4294967296) (by omega) (b / 4294967296) (Nat.div_le_div_right h)
      simp; omega

/-- The order of two numbers: -1, 0 or 1. -/
def cmpN (a b : Nat) : Int := if a < b then -1 else if b < a then 1 else 0

theorem val_split (xs : List Nat) (i : Nat) : val xs = val (xs.take i) + 4294967296 ^ (min i xs.length) * val (xs.drop i) := by
  conv => lhs; rw [← List.take_append_drop i xs]
  rw [val_append]
  simp

/-- Equal above position i, and less there: less. -/
theorem val_lt_of (xs ys : List Nat) (hx : Lim xs) (hl : xs.length = ys.length) (i x y : Nat) (hxi : xs[i]? = some x) (hyi : ys[i]? = some y) (hlt : x < y) (heq : xs.drop (i + 1) = ys.drop (i + 1)) : val xs < val ys := by
  have hi : i < xs.length := (List.getElem?_eq_some_iff.1 hxi).1
  have hi2 : i < ys.length := by omega
  rw [val_split xs i, val_split ys i]
  have e1 : xs.drop i = x :: xs.drop (i + 1) := by
    rw [List.drop_eq_getElem_cons hi]
    rw [List.getElem?_eq_getElem hi] at hxi
    cases hxi; rfl
  have e2 : ys.drop i = y :: ys.drop (i + 1) := by
    rw [List.drop_eq_getElem_cons hi2]
    rw [List.getElem?_eq_getElem hi2] at hyi
    cases hyi; rfl
  rw [e1, e2, heq]
  simp only [val]
  have e3 : min i xs.length = i := by omega
  have e4 : min i ys.length = i := by omega
  rw [e3, e4]
  have h1 : val (xs.take i) < 4294967296 ^ i := by
    have := val_lt (xs.take i) (hx.take i)
    simpa [e3] using this
  generalize val (ys.drop (i + 1)) = t
  have h2 : 4294967296 ^ i * (x + 4294967296 * t) + 4294967296 ^ i ≤ 4294967296 ^ i * (y + 4294967296 * t) := by
    rw [← Nat.mul_succ]
    exact Nat.mul_le_mul_left _ (by omega)
  omega

theorem limbs_lt_of_length {a b : Nat} (h : (limbs a).length < (limbs b).length) : a < b := by
  rcases Nat.lt_or_ge a b with h1 | h1
  · exact h1
  · have := limbs_length_mono b a h1
    omega

theorem limbs_inj {a b : Nat} (h : limbs a = limbs b) : a = b := by
  rw [← val_limbs a, ← val_limbs b, h]

theorem lim_two (m : Nat) (_h : m < 18446744073709551616) : Lim [m % 4294967296, m / 4294967296 % 4294967296] := by
  intro x hx
  simp at hx
  rcases hx with rfl | rfl <;> omega

theorem val_two (m : Nat) (h : m < 18446744073709551616) : val [m % 4294967296, m / 4294967296 % 4294967296] = m := by
  simp only [val]; omega

theorem val_le_two {xs : List Nat} (h : Lim xs) (hl : xs.length ≤ 2) : val xs < 18446744073709551616 := by
  match xs, hl with
  | [], _ => simp [val]
  | [a], _ => have := h a (by simp); simp only [val]; omega
  | [a, b], _ => have := h a (by simp); have := h b (by simp); simp only [val]; omega

theorem limbs_length_le_two {m : Nat} (h : m < 18446744073709551616) : (limbs m).length ≤ 2 := by
  have := limbs_length_le _ (lim_two m h)
  rw [val_two m h] at this
  simpa using this

/-- The low 32 bits below, the rest above: 'or' is the sum. -/
theorem or_low (x y s : Nat) (hx : x < 2 ^ s) : (x ||| y * 2 ^ s) = x + y * 2 ^ s := by
  have := Nat.two_pow_add_eq_or_of_lt hx y
  rw [Nat.or_comm, Nat.mul_comm y, ← this, Nat.add_comm]

theorem limbs_length_lt {a k : Nat} (h : a < 4294967296 ^ k) : (limbs a).length ≤ k := by
  have : ∀ k a, a < 4294967296 ^ k → (limbs a).length ≤ k := by
    intro k
    induction k with
    | zero => intro a h; have : a = 0 := by simpa using h
              subst this; simp [limbs_zero]
    | succ k ih =>
      intro a h
      by_cases h0 : a = 0
      · subst h0; simp [limbs_zero]
      · rw [limbs_eq a h0]
        have := ih (a / 4294967296) (Nat.div_lt_of_lt_mul (by rw [Nat.pow_succ, Nat.mul_comm] at h; exact h))
        simp; omega
  exact this k a h

theorem lt_pow_length (a : Nat) : a < 4294967296 ^ (limbs a).length := by
  have := val_lt (limbs a) (lim_limbs a)
  rwa [val_limbs] at this

theorem limbs_add_length (a b : Nat) : (limbs (a + b)).length ≤ max (limbs a).length (limbs b).length + 1 := by
  apply limbs_length_lt
  have h1 := lt_pow_length a
  have h2 := lt_pow_length b
  have h3 : (4294967296 : Nat) ^ (limbs a).length ≤ 4294967296 ^ max (limbs a).length (limbs b).length := Nat.pow_le_pow_right (by decide) (Nat.le_max_left _ _)
  have h4 : (4294967296 : Nat) ^ (limbs b).length ≤ 4294967296 ^ max (limbs a).length (limbs b).length := Nat.pow_le_pow_right (by decide) (Nat.le_max_right _ _)
  rw [Nat.pow_succ]
  omega

theorem limbs_mul_length (a b : Nat) : (limbs (a * b)).length ≤ (limbs a).length + (limbs b).length := by
  apply limbs_length_lt
  rw [Nat.pow_add]
  exact Nat.mul_lt_mul'' (lt_pow_length a) (lt_pow_length b)

theorem or_low32 (x y : Nat) (hx : x < 4294967296) : (x ||| y * 4294967296) = x + y * 4294967296 := or_low x y 32 hx

end Go.Qf

/- Long division: the guess of one limb of the quotient. Plain numbers. -/
namespace Go.Qf

theorem mul3 (g v R : Nat) : g * (4294967296 * (v * R)) = 4294967296 * (g * v * R) := by
  rw [Nat.mul_left_comm, Nat.mul_assoc]

/-- The first guess is not too small. -/
theorem guess_first {U V R v1 v2 vr u2 ur g r high : Nat} (hV : V = 4294967296 * (v1 * R) + v2 * R + vr) (hU : U = 4294967296 * (high * R) + u2 * R + ur) (hur : ur < R) (hu2 : u2 < 4294967296) (hh : high = g * v1 + r) (hr : r < v1) : U < (g + 1) * V := by
  have h1 : g * V = 4294967296 * (g * v1 * R) + g * v2 * R + g * vr := by
    rw [hV]; simp only [Nat.mul_add, mul3, Nat.mul_assoc]
  have h2 : high * R = g * v1 * R + r * R := by rw [hh, Nat.add_mul]
  have h3 : (r + 1) * R ≤ v1 * R := Nat.mul_le_mul_right _ hr
  have h4 : (u2 + 1) * R ≤ 4294967296 * R := Nat.mul_le_mul_right _ hu2
  rw [Nat.add_mul, Nat.one_mul, h1]
  rw [Nat.add_mul, Nat.one_mul] at h3 h4
  omega

/-- Where the test says that the guess is too great it is. -/
theorem guess_less {U V R v1 v2 vr u2 ur g r high : Nat} (hV : V = 4294967296 * (v1 * R) + v2 * R + vr) (hU : U = 4294967296 * (high * R) + u2 * R + ur) (hur : ur < R) (hh : high = g * v1 + r) (ht : r * 4294967296 + u2 < g * v2) : U < g * V := by
  have h1 : g * V = 4294967296 * (g * v1 * R) + g * v2 * R + g * vr := by
    rw [hV]; simp only [Nat.mul_add, mul3, Nat.mul_assoc]
  have h2 : high * R = g * v1 * R + r * R := by rw [hh, Nat.add_mul]
  have h3 : (r * 4294967296 + u2 + 1) * R ≤ g * v2 * R := Nat.mul_le_mul_right _ ht
  have h4 : (r * 4294967296 + u2 + 1) * R = 4294967296 * (r * R) + u2 * R + R := by
    rw [Nat.add_mul, Nat.add_mul, Nat.one_mul, Nat.mul_comm r, Nat.mul_assoc]
  omega

/-- Where the test says no more the guess is at most one too great. -/
theorem guess_near {U V R v1 v2 vr u2 ur g r high : Nat} (hV : V = 4294967296 * (v1 * R) + v2 * R + vr) (hU : U = 4294967296 * (high * R) + u2 * R + ur) (hvr : vr < R) (hv1 : 0 < v1) (hg : g < 4294967296) (hh : high = g * v1 + r) (ht : g * v2 ≤ r * 4294967296 + u2) : g * V < U + V := by
  have h1 : g * V = 4294967296 * (g * v1 * R) + g * v2 * R + g * vr := by
    rw [hV]; simp only [Nat.mul_add, mul3, Nat.mul_assoc]
  have h2 : high * R = g * v1 * R + r * R := by rw [hh, Nat.add_mul]
  have h3 : g * v2 * R ≤ (r * 4294967296 + u2) * R := Nat.mul_le_mul_right _ ht
  have h4 : (r * 4294967296 + u2) * R = 4294967296 * (r * R) + u2 * R := by
    rw [Nat.add_mul, Nat.mul_comm r, Nat.mul_assoc]
  have h5 : g * vr ≤ 4294967295 * vr := Nat.mul_le_mul_right _ (by omega)
  have h6 : 1 * R ≤ v1 * R := Nat.mul_le_mul_right _ hv1
  omega

/-- The quotient out of the two bounds. -/
theorem quot_eq {U V g : Nat} (h1 : g * V ≤ U) (h2 : U < (g + 1) * V) : U / V = g := by
  have hV : 0 < V := by
    rcases Nat.eq_zero_or_pos V with h | h
    · subst h; simp at h2
    · exact h
  exact Nat.div_eq_of_lt_le (by rw [Nat.mul_comm]; rw [Nat.mul_comm] at h1; exact h1) (by rw [Nat.mul_comm]; rw [Nat.mul_comm] at h2; exact h2)

theorem mod_eq_of {U V g m : Nat} (h1 : U = g * V + m) (h2 : m < V) : U / V = g ∧ U % V = m := by
  subst h1
  constructor
  · rw [Nat.mul_comm, Nat.mul_add_div (by omega), Nat.div_eq_of_lt h2, Nat.add_zero]
  · rw [Nat.mul_comm, Nat.mul_add_mod, Nat.mod_eq_of_lt h2]

/-- One limb of 'u - g v'. -/
theorem mulsub_step (S Ui Vi D G c b x y v lo c' b' : Nat) (h : S + G * Vi = Ui + (c + b) * D) (hT : c + G * y = lo + c' * 4294967296) (hv : x + b' * 4294967296 = v + lo + b) :
    (S + v * D) + G * (Vi + y * D) = (Ui + x * D) + (c' + b') * (D * 4294967296) := by
  have h1 := congrArg (· * D) hT
  have h2 := congrArg (· * D) hv
  simp only [Nat.add_mul] at h1 h2 h
  have e1 : c' * 4294967296 * D = c' * (D * 4294967296) := by rw [Nat.mul_assoc, Nat.mul_comm 4294967296]
  have e2 : b' * 4294967296 * D = b' * (D * 4294967296) := by rw [Nat.mul_assoc, Nat.mul_comm 4294967296]
  have e3 : G * (Vi + y * D) = G * Vi + G * y * D := by rw [Nat.mul_add, Nat.mul_assoc]
  rw [e3, Nat.add_mul]
  omega

/-- Where the guess was too great by 1. -/
theorem addback {U V g S Un u0 W c M : Nat} (heq : S + g * V = Un + c * W) (hU : U = Un + u0 * W) (hM : M = S + (u0 + 4294967296 - c) * W) (hneg : u0 < c) (hc : c ≤ u0 + 4294967296) (hgn : g * V < U + V) (hS : S < W) :
    0 < g ∧ (g - 1) * V ≤ U ∧ U - (g - 1) * V < V ∧ M + V = (U - (g - 1) * V) + 4294967296 * W := by
  have h1 : (u0 + 4294967296 - c) * W = u0 * W + 4294967296 * W - c * W := by rw [Nat.sub_mul, Nat.add_mul]
  have h2 : (u0 + 1) * W ≤ c * W := Nat.mul_le_mul_right _ hneg
  have h3 : c * W ≤ (u0 + 4294967296) * W := Nat.mul_le_mul_right _ hc
  rw [Nat.add_mul] at h2 h3
  rw [Nat.one_mul] at h2
  rw [h1] at hM
  generalize c * W = K at *
  generalize u0 * W = K0 at *
  have hgpos : 0 < g := by
    rcases Nat.eq_zero_or_pos g with h | h
    · subst h; simp at heq; omega
    · exact h
  obtain ⟨k, rfl⟩ : ∃ k, g = k + 1 := ⟨g - 1, by omega⟩
  rw [Nat.add_mul, Nat.one_mul] at heq hgn
  simp only [Nat.add_sub_cancel]
  generalize k * V = kV at *
  omega

end Go.Qf

/- Long division: the plain part. -/
namespace Go.Qf

theorem val_one {xs : List Nat} {x : Nat} (h : xs.length = 1) (hx : xs[0]? = some x) : val xs = x := by
  match xs, h with
  | [y], _ => simp at hx; simp [val, hx]

theorem val_take_succ0 {xs : List Nat} {k x : Nat} (hx : xs[k]? = some x) : val (xs.take (k + 1)) = val (xs.take k) + x * 4294967296 ^ k := by
  have hlt : k < xs.length := (List.getElem?_eq_some_iff.1 hx).1
  rw [List.take_succ_eq_append_getElem hlt, val_append]
  have : xs[k] = x := by
    rw [List.getElem?_eq_getElem hlt] at hx
    exact Option.some.inj hx
  simp [val, this, Nat.min_eq_left (Nat.le_of_lt hlt), Nat.mul_comm]

/-- The divisor, shifted so that its first bit is set. -/
theorem norm_facts {c m s tp : Nat} {ds : List Nat} (hcl : (limbs c).length = m + 2) (htop : (limbs c)[m + 1]? = some tp) (hs : s < 32) (hs1 : 2147483648 ≤ tp * 2 ^ s) (hs2 : tp * 2 ^ s < 4294967296) (hdl : ds.length = m + 3) (hlim : Lim ds) (hv : val ds = c * 2 ^ s) :
    val (ds.take (m + 2)) = c * 2 ^ s ∧ c * 2 ^ s < 4294967296 ^ (m + 2) ∧ 2147483648 * 4294967296 ^ (m + 1) ≤ c * 2 ^ s ∧ ∃ v1, (ds.take (m + 2))[m + 1]? = some v1 ∧ 2147483648 ≤ v1 := by
  have hp : 0 < 2 ^ s := Nat.pow_pos (by decide)
  have hB : 4294967296 = 2 ^ s * 2 ^ (32 - s) := by rw [← Nat.pow_add, show s + (32 - s) = 32 from by omega]
  have hW : (0 : Nat) < 4294967296 ^ (m + 1) := Nat.pow_pos (by decide)
  have hc := val_take_succ0 htop
  rw [List.take_of_length_le (by omega), val_limbs] at hc
  have hcr := val_lt ((limbs c).take (m + 1)) ((lim_limbs c).take _)
  rw [show ((limbs c).take (m + 1)).length = m + 1 from by simp; omega] at hcr
  generalize val ((limbs c).take (m + 1)) = cr at *
  have hup : (tp + 1) * 2 ^ s ≤ 4294967296 := by
    rw [hB] at hs2 ⊢
    rw [Nat.mul_comm (2 ^ s)] at hs2 ⊢
    exact Nat.mul_le_mul_right _ (Nat.lt_of_mul_lt_mul_right hs2)
  have hpw : (4294967296 : Nat) ^ (m + 2) = 4294967296 * 4294967296 ^ (m + 1) := by rw [Nat.pow_succ, Nat.mul_comm]
  generalize hWd : (4294967296 : Nat) ^ (m + 1) = W at *
  have hVlt : c * 2 ^ s < 4294967296 ^ (m + 2) := by
    rw [hpw]
    have h1 : c * 2 ^ s < ((tp + 1) * W) * 2 ^ s := Nat.mul_lt_mul_of_pos_right (by rw [Nat.add_mul, Nat.one_mul]; omega) hp
    have h2 : ((tp + 1) * W) * 2 ^ s = ((tp + 1) * 2 ^ s) * W := Nat.mul_right_comm _ _ _
    have h3 : ((tp + 1) * 2 ^ s) * W ≤ 4294967296 * W := Nat.mul_le_mul_right _ hup
    omega
  have hVge : 2147483648 * W ≤ c * 2 ^ s := by
    have h1 : (tp * W) * 2 ^ s ≤ c * 2 ^ s := Nat.mul_le_mul_right _ (by omega)
    have h2 : (tp * W) * 2 ^ s = (tp * 2 ^ s) * W := Nat.mul_right_comm _ _ _
    have h3 : 2147483648 * W ≤ (tp * 2 ^ s) * W := Nat.mul_le_mul_right _ hs1
    omega
  have hd2 : ds[m + 2]? = some ds[m + 2] := by simp
  generalize ds[m + 2] = d2 at hd2
  have hds := val_take_succ0 hd2
  rw [List.take_of_length_le (by omega), hv] at hds
  have hvt : val (ds.take (m + 2)) = c * 2 ^ s := by
    have : d2 = 0 := by
      rcases Nat.eq_zero_or_pos d2 with h | h
      · exact h
      · exfalso
        have : 1 * 4294967296 ^ (m + 2) ≤ d2 * 4294967296 ^ (m + 2) := Nat.mul_le_mul_right _ h
        omega
    subst this
    omega
  refine ⟨hvt, hVlt, hVge, ?_⟩
  have hd1 : ds[m + 1]? = some ds[m + 1] := by simp
  generalize ds[m + 1] = d1 at hd1
  refine ⟨d1, by rw [List.getElem?_take_of_lt (by omega)]; exact hd1, ?_⟩
  have h1 := val_take_succ0 hd1
  rw [show m + 1 + 1 = m + 2 from rfl, hvt, hWd] at h1
  have h2 := val_lt (ds.take (m + 1)) (hlim.take _)
  rw [show (ds.take (m + 1)).length = m + 1 from by simp; omega, hWd] at h2
  rcases Nat.lt_or_ge d1 2147483648 with h | h
  · exfalso
    have : (d1 + 1) * W ≤ 2147483648 * W := Nat.mul_le_mul_right _ h
    rw [Nat.add_mul, Nat.one_mul] at this
    omega
  · exact h

/-- Before the first step the first limbs of the dividend are below the divisor. -/
theorem first_below {a t m s V : Nat} {rs : List Nat} (ha : a < 4294967296 ^ (m + 2 + t)) (hs : s < 32) (hV : 2147483648 * 4294967296 ^ (m + 1) ≤ V) (hl : rs.length = m + 2 + t + 1) (hv : val rs = a * 2 ^ s) : val (rs.drop (t + 1)) < V := by
  have h1 := val_split rs (t + 1)
  rw [show min (t + 1) rs.length = t + 1 from by omega, hv] at h1
  have hp : (2 : Nat) ^ s ≤ 2147483648 := Nat.pow_le_pow_right (by decide) (show s ≤ 31 by omega)
  have h2 : a * 2 ^ s < 4294967296 ^ (m + 2 + t) * 2147483648 := by
    have hpos : 0 < 2 ^ s := Nat.pow_pos (by decide)
    exact Nat.lt_of_lt_of_le (Nat.mul_lt_mul_of_pos_right ha hpos) (Nat.mul_le_mul_left _ hp)
  have h3 : (4294967296 : Nat) ^ (m + 2 + t) = 4294967296 ^ (t + 1) * 4294967296 ^ (m + 1) := by
    rw [← Nat.pow_add]; congr 1; omega
  rw [h3, Nat.mul_assoc, Nat.mul_comm _ 2147483648] at h2
  have h4 : 4294967296 ^ (t + 1) * val (rs.drop (t + 1)) < 4294967296 ^ (t + 1) * (2147483648 * 4294967296 ^ (m + 1)) := by omega
  have := Nat.lt_of_mul_lt_mul_left h4
  omega

/-- The limbs that a step looks at are all that is left. -/
theorem seg_all {rs : List Nat} {j m V x : Nat} (hx : rs[j]? = some x) (hl : j + m + 3 ≤ rs.length) (hlow : val (rs.drop (j + 1)) < V) (hV : V < 4294967296 ^ (m + 2)) :
    val ((rs.drop j).take (m + 3)) = val (rs.drop j) ∧ val (rs.drop (j + m + 3)) = 0 ∧ val (rs.drop j) = x + 4294967296 * val (rs.drop (j + 1)) := by
  have hlt : j < rs.length := (List.getElem?_eq_some_iff.1 hx).1
  have e0 : rs.drop j = x :: rs.drop (j + 1) := by
    rw [List.getElem?_eq_getElem hlt] at hx
    rw [List.drop_eq_getElem_cons hlt, Option.some.inj hx]
  have h1 := val_split (rs.drop (j + 1)) (m + 2)
  rw [show min (m + 2) (rs.drop (j + 1)).length = m + 2 from by simp; omega, List.drop_drop, show j + 1 + (m + 2) = j + m + 3 from by omega] at h1
  have hz : val (rs.drop (j + m + 3)) = 0 := by
    rcases Nat.eq_zero_or_pos (val (rs.drop (j + m + 3))) with h | h
    · exact h
    · exfalso
      have : 4294967296 ^ (m + 2) * 1 ≤ 4294967296 ^ (m + 2) * val (rs.drop (j + m + 3)) := Nat.mul_le_mul_left _ h
      omega
  have h2 := val_split (rs.drop j) (m + 3)
  rw [List.drop_drop, show j + (m + 3) = j + m + 3 from by omega, hz] at h2
  refine ⟨by omega, hz, ?_⟩
  rw [e0]; rfl

end Go.Qf

/- 'or', 'and' and their like on numbers that fit. -/
namespace Go.Qf
open Go

theorem toNat_ofInt64 (x : Nat) (h : x < 18446744073709551616) : (BitVec.ofInt 64 (x : Int)).toNat = x := by
  simp; omega
theorem toNat_ofInt32 (x : Nat) (h : x < 4294967296) : (BitVec.ofInt 32 (x : Int)).toNat = x := by
  simp; omega

theorem or_u64 (x y : Nat) (hx : x < 18446744073709551616) (hy : y < 18446744073709551616) : bitsI .or .u64 x y = ((x ||| y : Nat) : Int) := by
  have hb : x ||| y < 2 ^ 64 := Nat.or_lt_two_pow (by simpa using hx) (by simpa using hy)
  show IntKind.u64.wrap (((BitVec.ofInt 64 (x : Int) ||| BitVec.ofInt 64 (y : Int)).toNat : Nat) : Int) = _
  rw [BitVec.toNat_or, toNat_ofInt64 x hx, toNat_ofInt64 y hy]
  exact u64_id (by omega) (by omega)

theorem or_u32 (x y : Nat) (hx : x < 4294967296) (hy : y < 4294967296) : bitsI .or .u32 x y = ((x ||| y : Nat) : Int) := by
  have hb : x ||| y < 2 ^ 32 := Nat.or_lt_two_pow (by simpa using hx) (by simpa using hy)
  show IntKind.u32.wrap (((BitVec.ofInt 32 (x : Int) ||| BitVec.ofInt 32 (y : Int)).toNat : Nat) : Int) = _
  rw [BitVec.toNat_or, toNat_ofInt32 x hx, toNat_ofInt32 y hy]
  exact u32_id (by omega) (by omega)

theorem and_u32 (x y : Nat) (hx : x < 4294967296) (hy : y < 4294967296) : bitsI .and .u32 x y = ((x &&& y : Nat) : Int) := by
  have hb : x &&& y ≤ x := Nat.and_le_left
  show IntKind.u32.wrap (((BitVec.ofInt 32 (x : Int) &&& BitVec.ofInt 32 (y : Int)).toNat : Nat) : Int) = _
  rw [BitVec.toNat_and, toNat_ofInt32 x hx, toNat_ofInt32 y hy]
  exact u32_id (by omega) (by omega)

end Go.Qf

/- integer.trim: the zeros at the end are cut off. -/
namespace Go.Qf
open Go Go.RowKit Go.Proofs

abbrev u32 (x : Nat) : Value := .int .u32 x

/-- The slice v reads as the limbs xs. -/
def Sl (w : World) (v : Value) (xs : List Nat) : Prop := Row 41 w v (xs.map u32) ∧ Lim xs

def cutTo : Value → Nat → Value
  | .slice p _ cap, k => .slice p k cap
  | v, _ => v

theorem Sl.ext {w w' : World} {v : Value} {xs : List Nat} (h : Sl w v xs) (hx : Ext w w') : Sl w' v xs := ⟨h.1.ext hx, h.2⟩
theorem Sl.drewN {w : World} {v : Value} {xs : List Nat} (h : Sl w v xs) (m : Nat) : Sl (w.drewN m) v xs := h
theorem Sl.form {w : World} {v : Value} {xs : List Nat} (h : Sl w v xs) : ∃ p cap, v = .slice p xs.length cap ∧ xs.length ≤ cap := by
  obtain ⟨p, cap, hv, hl, _⟩ := h.1
  exact ⟨p, cap, by simpa using hv, by simpa using hl⟩
theorem Sl.get {w : World} {v : Value} {xs : List Nat} {i x : Nat} (_h : Sl w v xs) (hx : xs[i]? = some x) : (xs.map u32)[i]? = some (u32 x) := by
  simp [hx]

theorem Row.cut {e : TypeId} {w : World} {v : Value} {cs : List Value} (h : Row e w v cs) (k : Nat) (hk : k ≤ cs.length) : Row e w (cutTo v k) (cs.take k) := by
  obtain ⟨p, cap, hv, hl, h0, hc⟩ := h
  subst hv
  have e1 : (cs.take k).length = k := by simp; omega
  refine ⟨p, cap, by simp only [cutTo, e1], by omega, h0, fun a ha i c hi => hc a ha i c ?_⟩
  have hi2 := (List.getElem?_eq_some_iff.1 hi).1
  rw [e1] at hi2
  rw [← hi, List.getElem?_take_of_lt hi2]

theorem Sl.cut {w : World} {v : Value} {xs : List Nat} (h : Sl w v xs) (k : Nat) (hk : k ≤ xs.length) : Sl w (cutTo v k) (xs.take k) := by
  refine ⟨?_, h.2.take k⟩
  have := h.1.cut k (by simpa using hk)
  rwa [← List.map_take] at this

set_option maxRecDepth 4000 in
theorem trim_spec (w : World) (v : Value) (xs : List Nat) (h : Sl w v xs) (hlen : xs.length ≤ 1000000000) :
    Calls Try.prog 70 #[v] w (Ret fun r w' => w' = w ∧ r = cutTo v (limbs (val xs)).length ∧ Sl w r (limbs (val xs))) := by
  obtain ⟨p, cap, rfl, hcap⟩ := h.form
  refine calls_of_St (args := [_]) Try.func70 rfl Try.ntmps70 rfl ?_
  refine St.seq (St.region (StL.run TBok 99 rfl (StL.nil (Out.then_normal ?_))))
  refine St.seq (St.block ?_)
  refine St.loop (fun k : Nat => [(0, .slice p k cap)]) (fun k w' => w' = w ∧ k ≤ xs.length ∧ ∀ j, k ≤ j → j < xs.length → xs[j]? = some 0) (fun k => k) xs.length ⟨rfl, trivial⟩ ⟨rfl, Nat.le_refl _, fun j h1 h2 => by omega⟩ ?_
  rintro k w' ⟨rfl, hk, hz⟩
  refine St.seq (St.seq (St.region ?_))
  by_cases h0 : k = 0
  · subst h0
    refine StL.as TBok 3 (.bool false) rfl (bool_false (by omega)) ?_
    refine StL.run TBok 99 rfl (StL.nil (Out.then_normal ?_))
    refine St.condF rfl rfl (St.exit (Out.then_exit (Out.then_exit (Out.block_exit (Out.then_normal ?_)))))
    refine St.seq (St.region (StL.run TBok 99 rfl (StL.nil (Out.then_normal (St.ret ?_)))))
    have e : limbs (val xs) = xs.take 0 := limbs_take xs h.2 0 hz hk (.inl rfl)
    refine Out.ret1 rfl rfl ⟨rfl, ?_, ?_⟩
    · rw [e]; rfl
    · rw [e]; exact h.cut 0 hk
  · obtain ⟨m, rfl⟩ : ∃ m, k = m + 1 := ⟨k - 1, by omega⟩
    have hx : xs[m]? = some xs[m] := by simp
    generalize xs[m] = x at hx
    refine StL.as TBok 3 (.bool true) rfl (bool_true (by omega)) ?_
    refine StL.run TBok 99 rfl ?_
    refine StL.elem TBok m (u32 x) (Row.cut h.1 (m + 1) (by simpa using hk)) (by rw [List.getElem?_take_of_lt (by omega)]; exact h.get hx) (by rw [i64_id (by omega) (by omega)]; omega) rfl rfl rfl rfl rfl rfl rfl rfl rfl rfl (fun _ => rfl) ?_
    intro p1
    refine StL.run TBok 99 rfl (StL.nil (Out.then_normal ?_))
    refine St.cond rfl (fun hb => ?_) (fun hb => ?_)
    · refine St.skip (Out.then_normal (St.block (St.region ?_)))
      refine StL.run TBok 99 rfl ?_
      have e1 : IntKind.i64.wrap ((((m + 1 : Nat) : Nat) : Int) - 1) = m := by rw [i64_id (by omega) (by omega)]; omega
      refine StL.step rfl rfl rfl (RunsTo.sliceHi TBok rfl rfl rfl rfl (by rw [e1]; omega) (by rw [e1]; omega)).op ?_
      rintro _ _ ⟨rfl, rfl⟩
      rw [e1]
      refine StL.run TBok 99 rfl (StL.nil (Out.block_normal (Out.again m ⟨rfl, trivial⟩ ⟨rfl, by omega, fun j h1 h2 => ?_⟩ (Nat.lt_succ_self m))))
      by_cases hj : j = m
      · subst hj; rw [hx]; simp at hb; rw [hb]
      · exact hz j (by omega) h2
    · refine St.exit (Out.then_exit (Out.then_exit (Out.block_exit (Out.then_normal ?_))))
      refine St.seq (St.region (StL.run TBok 99 rfl (StL.nil (Out.then_normal (St.ret ?_)))))
      have hne : x ≠ 0 := by
        intro e; subst e; simp at hb
      have e : limbs (val xs) = xs.take (m + 1) := limbs_take xs h.2 (m + 1) hz hk (.inr ⟨x, by simpa using hx, hne⟩)
      refine Out.ret1 rfl rfl ⟨rfl, ?_, ?_⟩
      · rw [e]; simp [cutTo]; omega
      · rw [e]; exact h.cut (m + 1) hk

end Go.Qf

/- integer.build, fromWord, word, compareNat. -/
namespace Go.Qf
open Go Go.RowKit Go.Proofs
set_option maxRecDepth 20000

/-- A slice of the call's own that reads as the limbs xs. -/
def SlO (base : Nat) (w : World) (v : Value) (xs : List Nat) : Prop := Own base 41 w v (xs.map u32) ∧ Lim xs

theorem SlO.sl {base : Nat} {w : World} {v : Value} {xs : List Nat} (h : SlO base w v xs) : Sl w v xs := ⟨Own.row h.1, h.2⟩
theorem SlO.ext {base : Nat} {w w' : World} {v : Value} {xs : List Nat} (h : SlO base w v xs) (hx : Ext w w') : SlO base w' v xs := ⟨Own.ext h.1 hx, h.2⟩
theorem SlO.nil (base : Nat) (w : World) : SlO base w (.slice none 0 0) [] := ⟨Own.nil _ _ _, Lim.nil⟩
theorem SlO.mono {base base' : Nat} {w : World} {v : Value} {xs : List Nat} (h : SlO base w v xs) (hb : base' ≤ base) : SlO base' w v xs := by
  refine ⟨⟨h.1.1, ?_⟩, h.2⟩
  rcases h.1.2 with h0 | ⟨g, cap, cur, hv, hg, r⟩
  · exact .inl h0
  · exact .inr ⟨g, cap, cur, hv, Nat.le_trans hb hg, r⟩

theorem Own.cut {base : Nat} {e : TypeId} {w : World} {v : Value} {cs : List Value} (h : Own base e w v cs) (k : Nat) (hk : k ≤ cs.length) : Own base e w (cutTo v k) (cs.take k) := by
  have e1 : (cs.take k).length = k := by simp; omega
  refine ⟨by simp, ?_⟩
  rw [e1]
  rcases h.2 with ⟨hv, h0⟩ | ⟨g, cap, cur, hv, hg, hh, hn, hm, hs, ht⟩
  · have : k = 0 := by omega
    subst this
    exact .inl ⟨by rw [hv]; rfl, rfl⟩
  · refine .inr ⟨g, cap, cur, by rw [hv]; rfl, hg, hh, by omega, hm, hs, ?_⟩
    rw [← ht]
    simp [List.take_take, Nat.min_eq_left hk]

theorem SlO.cut {base : Nat} {w : World} {v : Value} {xs : List Nat} (h : SlO base w v xs) (k : Nat) (hk : k ≤ xs.length) : SlO base w (cutTo v k) (xs.take k) := by
  refine ⟨?_, h.2.take k⟩
  have := Own.cut h.1 k (by simpa using hk)
  rwa [← List.map_take] at this

theorem limbs_is_take {xs : List Nat} (h : Lim xs) : limbs (val xs) = xs.take (limbs (val xs)).length := by
  -- the last limb that is not 0
  have key : ∀ k, k ≤ xs.length → (∀ j, k ≤ j → j < xs.length → xs[j]? = some 0) → ∃ k', limbs (val xs) = xs.take k' ∧ k' ≤ xs.length := by
    intro k
    induction k with
    | zero => intro hk hz; exact ⟨0, limbs_take xs h 0 hz hk (.inl rfl), hk⟩
    | succ k ih =>
      intro hk hz
      have hx : xs[k]? = some xs[k] := by simp
      generalize xs[k] = x at hx
      by_cases h0 : x = 0
      · subst h0
        refine ih (by omega) fun j h1 h2 => ?_
        by_cases e : j = k
        · subst e; exact hx
        · exact hz j (by omega) h2
      · exact ⟨k + 1, limbs_take xs h (k + 1) hz hk (.inr ⟨x, by simpa using hx, h0⟩), hk⟩
  obtain ⟨k, hk, hle⟩ := key xs.length (Nat.le_refl _) (fun j h1 h2 => by omega)
  conv => lhs; rw [hk]
  rw [hk]
  simp [Nat.min_eq_left hle]

theorem SlO.trimmed {base : Nat} {w : World} {v : Value} {xs : List Nat} (h : SlO base w v xs) : SlO base w (cutTo v (limbs (val xs)).length) (limbs (val xs)) := by
  have := h.cut (limbs (val xs)).length (limbs_length_le _ h.2)
  rwa [← limbs_is_take h.2] at this

/-- The struct api.Int with this sign and these limbs. -/
def IntV (neg : Bool) (sl : Value) : Value := .agg #[.bool neg, sl]

theorem build_spec (w : World) (neg : Bool) (sl : Value) (xs : List Nat) (h : Sl w sl xs) (hlen : xs.length ≤ 1000000000) :
    Calls Try.prog 64 #[.bool neg, sl] w (Ret fun r w' => Ext w w' ∧ r = if xs = [] then IntV false (.slice none 0 0) else IntV neg sl) := by
  obtain ⟨p, cap, rfl, hcap⟩ := h.form
  refine calls_of_St (args := [_, _]) Try.func64 rfl Try.ntmps64 rfl ?_
  (repeat with_reducible first|refine .nil ?_|refine .then_normal ?_|refine .block_normal ?_|refine .seq ?_|refine .block ?_|refine .skip ?_|refine .region ?_|refine .ret ?_|refine .then_ret ?_|refine .block_ret ?_|refine .exit ?_|refine .then_exit ?_|refine .block_exit ?_|refine .block_other rfl ?_)
  refine StL.step rfl rfl rfl (OpR.alloc TBok rfl) ?_
  rintro _ w1 ⟨rfl, hb, hx1, _⟩
  (repeat with_reducible first|refine .nil ?_|refine .then_normal ?_|refine .block_normal ?_|refine .seq ?_|refine .block ?_|refine .skip ?_|refine .region ?_|refine .ret ?_|refine .then_ret ?_|refine .block_ret ?_|refine .exit ?_|refine .then_exit ?_|refine .block_exit ?_|refine .block_other rfl ?_)
  by_cases h0 : xs = []
  · subst h0
    refine StL.as TBok 3 (.bool true) rfl rfl ?_
    (repeat with_reducible first|refine .nil ?_|refine .then_normal ?_|refine .block_normal ?_|refine .seq ?_|refine .block ?_|refine .skip ?_|refine .region ?_|refine .ret ?_|refine .then_ret ?_|refine .block_ret ?_|refine .exit ?_|refine .then_exit ?_|refine .block_exit ?_|refine .block_other rfl ?_)
    refine St.condT rfl rfl ?_
    (repeat with_reducible first|refine .nil ?_|refine .then_normal ?_|refine .block_normal ?_|refine .seq ?_|refine .block ?_|refine .skip ?_|refine .region ?_|refine .ret ?_|refine .then_ret ?_|refine .block_ret ?_|refine .exit ?_|refine .then_exit ?_|refine .block_exit ?_|refine .block_other rfl ?_)
    refine StL.step rfl rfl rfl (RunsTo.build TBok rfl rfl rfl rfl).op ?_
    rintro _ _ ⟨rfl, rfl⟩
    refine StL.step0 rfl rfl (OpR.store TBok (vs := [.bool false, .slice none 0 0]) rfl rfl rfl rfl rfl hb (Nat.le_refl _) (by simp [Value.oneCell'])) ?_
    rintro _ w2 ⟨hb2, hu⟩
    (repeat with_reducible first|refine .nil ?_|refine .then_normal ?_|refine .block_normal ?_|refine .seq ?_|refine .block ?_|refine .skip ?_|refine .region ?_|refine .ret ?_|refine .then_ret ?_|refine .block_ret ?_|refine .exit ?_|refine .then_exit ?_|refine .block_exit ?_|refine .block_other rfl ?_)
    exact Out.rets TBok [IntV false (.slice none 0 0)] rfl ⟨⟨_, _, _, _, rfl, hb2, rfl, rfl, rfl, rfl⟩, trivial⟩ ⟨hx1.then_upd hu (Nat.le_refl _), by simp [oneOf]⟩
  · have hne : xs.length ≠ 0 := fun e => h0 (List.eq_nil_of_length_eq_zero e)
    refine StL.as TBok 3 (.bool false) rfl (by simp; omega) ?_
    (repeat with_reducible first|refine .nil ?_|refine .then_normal ?_|refine .block_normal ?_|refine .seq ?_|refine .block ?_|refine .skip ?_|refine .region ?_|refine .ret ?_|refine .then_ret ?_|refine .block_ret ?_|refine .exit ?_|refine .then_exit ?_|refine .block_exit ?_|refine .block_other rfl ?_)
    refine St.condF rfl rfl ?_
    (repeat with_reducible first|refine .nil ?_|refine .then_normal ?_|refine .block_normal ?_|refine .seq ?_|refine .block ?_|refine .skip ?_|refine .region ?_|refine .ret ?_|refine .then_ret ?_|refine .block_ret ?_|refine .exit ?_|refine .then_exit ?_|refine .block_exit ?_|refine .block_other rfl ?_)
    refine .run TBok 99 rfl ?_
    refine StL.step rfl rfl rfl (RunsTo.build TBok rfl rfl rfl rfl).op ?_
    rintro _ _ ⟨rfl, rfl⟩
    refine StL.step0 rfl rfl (OpR.store TBok (vs := [.bool neg, .slice p xs.length cap]) rfl rfl rfl rfl rfl hb (Nat.le_refl _) (by simp [Value.oneCell'])) ?_
    rintro _ w2 ⟨hb2, hu⟩
    (repeat with_reducible first|refine .nil ?_|refine .then_normal ?_|refine .block_normal ?_|refine .seq ?_|refine .block ?_|refine .skip ?_|refine .region ?_|refine .ret ?_|refine .then_ret ?_|refine .block_ret ?_|refine .exit ?_|refine .then_exit ?_|refine .block_exit ?_|refine .block_other rfl ?_)
    exact Out.rets TBok [IntV neg (.slice p xs.length cap)] rfl ⟨⟨_, _, _, _, rfl, hb2, rfl, rfl, rfl, rfl⟩, trivial⟩ ⟨hx1.then_upd hu (Nat.le_refl _), by simp [oneOf, h0]⟩

theorem fromWord_spec (w : World) (m : Nat) (hm : m < 18446744073709551616) :
    Calls Try.prog 108 #[.int .u64 m] w (Ret fun r w' => Ext w w' ∧ SlO w.heap.size w' r (limbs m)) := by
  refine calls_of_St (args := [_]) Try.func108 rfl Try.ntmps108 rfl ?_
  (iterate 6 ((repeat with_reducible first|refine .nil ?_|refine .then_normal ?_|refine .block_normal ?_|refine .seq ?_|refine .block ?_|refine .skip ?_|refine .region ?_|refine .ret ?_|refine .then_ret ?_|refine .block_ret ?_|refine .exit ?_|refine .then_exit ?_|refine .block_exit ?_|refine .block_other rfl ?_); try refine .run TBok 99 rfl ?_))
  refine StL.step rfl rfl rfl (OpR.pair TBok rfl rfl rfl rfl rfl) ?_
  rintro _ w1 ⟨rfl, hb, hx1, _⟩
  have e1 : IntKind.u32.wrap (m : Int) = ((m % 4294967296 : Nat) : Int) := by rw [wrap_u32]; omega
  have e2 : IntKind.u32.wrap ((m : Int) / 2 ^ 32) = ((m / 4294967296 % 4294967296 : Nat) : Int) := by rw [wrap_u32]; omega
  rw [e1, e2] at hb
  have hO : SlO w.heap.size w1 (.slice (some ⟨w.heap.size, 0, none⟩) 2 2) [m % 4294967296, m / 4294967296 % 4294967296] :=
    ⟨Blk.own hb rfl (Nat.le_refl _) (by decide), lim_two m hm⟩
  refine StL.step rfl rfl rfl (OpR.call fn_integer_trim rfl (trim_spec w1 _ _ hO.sl (by simp))) ?_
  rintro r w2 ⟨rfl, rfl, _⟩
  (iterate 6 ((repeat with_reducible first|refine .nil ?_|refine .then_normal ?_|refine .block_normal ?_|refine .seq ?_|refine .block ?_|refine .skip ?_|refine .region ?_|refine .ret ?_|refine .then_ret ?_|refine .block_ret ?_|refine .exit ?_|refine .then_exit ?_|refine .block_exit ?_|refine .block_other rfl ?_); try refine .run TBok 99 rfl ?_))
  refine Out.ret1 rfl rfl ⟨hx1, ?_⟩
  have := hO.trimmed
  rw [val_two m hm] at this ⊢
  exact this

theorem val_take_succ {xs : List Nat} {k x : Nat} (hx : xs[k]? = some x) : val (xs.take (k + 1)) = val (xs.take k) + x * 4294967296 ^ k := by
  have hlt : k < xs.length := (List.getElem?_eq_some_iff.1 hx).1
  rw [List.take_succ_eq_append_getElem hlt, val_append]
  have : xs[k] = x := by
    rw [List.getElem?_eq_getElem hlt] at hx
    exact Option.some.inj hx
  simp [val, this, Nat.min_eq_left (Nat.le_of_lt hlt), Nat.mul_comm]

theorem word_spec (w : World) (v : Value) (xs : List Nat) (h : Sl w v xs) (hlen : xs.length ≤ 2) :
    Calls Try.prog 109 #[v] w (Ret fun r w' => w' = w ∧ r = .int .u64 (val xs)) := by
  obtain ⟨p, cap, rfl, hcap⟩ := h.form
  refine calls_of_St (args := [_]) Try.func109 rfl Try.ntmps109 rfl ?_
  (iterate 6 ((repeat with_reducible first|refine .nil ?_|refine .then_normal ?_|refine .block_normal ?_|refine .seq ?_|refine .block ?_|refine .skip ?_|refine .region ?_|refine .ret ?_|refine .then_ret ?_|refine .block_ret ?_|refine .exit ?_|refine .then_exit ?_|refine .block_exit ?_|refine .block_other rfl ?_); try refine .run TBok 99 rfl ?_))
  refine St.loop (fun k : Nat => [(0, .slice p xs.length cap), (3, .int .u64 (val (xs.take k))), (6, .slice p xs.length cap), (7, .int .i64 xs.length), (8, .int .i64 k)]) (fun k w' => w' = w ∧ k ≤ xs.length) (fun k => xs.length - k) 0 ⟨rfl, rfl, rfl, rfl, rfl, trivial⟩ ⟨rfl, by omega⟩ ?_
  rintro k w' ⟨rfl, hk⟩
  by_cases hlt : k < xs.length
  · have hx : xs[k]? = some xs[k] := by simp
    generalize xs[k] = x at hx
    have hxl := h.2.get hx
    have hv := val_lt (xs.take k) (h.2.take k)
    have hv2 := val_le_two (h.2.take (k + 1)) (by simp; omega)
    have hs := val_take_succ hx
    (repeat with_reducible first|refine .nil ?_|refine .then_normal ?_|refine .block_normal ?_|refine .seq ?_|refine .block ?_|refine .skip ?_|refine .region ?_|refine .ret ?_|refine .then_ret ?_|refine .block_ret ?_|refine .exit ?_|refine .then_exit ?_|refine .block_exit ?_|refine .block_other rfl ?_)
    refine StL.as TBok 1 (.bool true) rfl (bool_true (by omega)) ?_
    (repeat with_reducible first|refine .nil ?_|refine .then_normal ?_|refine .block_normal ?_|refine .seq ?_|refine .block ?_|refine .skip ?_|refine .region ?_|refine .ret ?_|refine .then_ret ?_|refine .block_ret ?_|refine .exit ?_|refine .then_exit ?_|refine .block_exit ?_|refine .block_other rfl ?_)
    refine St.condT rfl rfl ?_
    (iterate 6 ((repeat with_reducible first|refine .nil ?_|refine .then_normal ?_|refine .block_normal ?_|refine .seq ?_|refine .block ?_|refine .skip ?_|refine .region ?_|refine .ret ?_|refine .then_ret ?_|refine .block_ret ?_|refine .exit ?_|refine .then_exit ?_|refine .block_exit ?_|refine .block_other rfl ?_); try refine .run TBok 99 rfl ?_))
    refine StL.elem TBok k (u32 x) h.1 (h.get hx) rfl rfl rfl rfl rfl rfl rfl rfl rfl rfl rfl (fun _ => rfl) ?_
    intro p1
    (iterate 6 ((repeat with_reducible first|refine .nil ?_|refine .then_normal ?_|refine .block_normal ?_|refine .seq ?_|refine .block ?_|refine .skip ?_|refine .region ?_|refine .ret ?_|refine .then_ret ?_|refine .block_ret ?_|refine .exit ?_|refine .then_exit ?_|refine .block_exit ?_|refine .block_other rfl ?_); try refine .run TBok 99 rfl ?_))
    refine StL.step rfl rfl rfl (RunsTo.shl (32 * k) rfl rfl (by rw [i64_id (by omega) (by omega)]; omega) (by show 32 * k ≤ 64; omega)).op ?_
    rintro _ _ ⟨rfl, rfl⟩
    have e0 : (4294967296 : Nat) ^ k = 2 ^ (32 * k) := by rw [Nat.pow_mul]
    have hlk : (xs.take k).length = k := by simp; omega
    rw [hlk, e0] at hv
    rw [e0] at hs
    have e1 : IntKind.u64.wrap (IntKind.u64.wrap (x : Int) * 2 ^ (32 * k)) = ((x * 2 ^ (32 * k) : Nat) : Int) := by
      rw [u64_id (n := (x : Int)) (by omega) (by omega), u64_id]
      · simp
      · exact Int.mul_nonneg (by omega) (Int.le_of_lt (Int.pow_pos (by decide)))
      · have : (x : Int) * 2 ^ (32 * k) = ((x * 2 ^ (32 * k) : Nat) : Int) := by simp
        omega
    rw [e1]
    refine StL.as TBok 1 (.int .u64 (val (xs.take (k + 1)))) rfl ?_ ?_
    · rw [or_u64 _ _ (by omega) (by omega), or_low _ _ _ hv, hs]
    (iterate 6 ((repeat with_reducible first|refine .nil ?_|refine .then_normal ?_|refine .block_normal ?_|refine .seq ?_|refine .block ?_|refine .skip ?_|refine .region ?_|refine .ret ?_|refine .then_ret ?_|refine .block_ret ?_|refine .exit ?_|refine .then_exit ?_|refine .block_exit ?_|refine .block_other rfl ?_); try refine .run TBok 99 rfl ?_))
    refine Out.again (k + 1) ⟨rfl, rfl, rfl, rfl, ?_, trivial⟩ ⟨rfl, by omega⟩ (by omega)
    show some (Value.int .i64 (IntKind.i64.wrap ((k : Int) + 1))) = _
    rw [i64_id (by omega) (by omega)]
    rfl
  · have hk' : k = xs.length := by omega
    (repeat with_reducible first|refine .nil ?_|refine .then_normal ?_|refine .block_normal ?_|refine .seq ?_|refine .block ?_|refine .skip ?_|refine .region ?_|refine .ret ?_|refine .then_ret ?_|refine .block_ret ?_|refine .exit ?_|refine .then_exit ?_|refine .block_exit ?_|refine .block_other rfl ?_)
    refine StL.as TBok 1 (.bool false) rfl (bool_false (by omega)) ?_
    (repeat with_reducible first|refine .nil ?_|refine .then_normal ?_|refine .block_normal ?_|refine .seq ?_|refine .block ?_|refine .skip ?_|refine .region ?_|refine .ret ?_|refine .then_ret ?_|refine .block_ret ?_|refine .exit ?_|refine .then_exit ?_|refine .block_exit ?_|refine .block_other rfl ?_)
    refine St.condF rfl rfl ?_
    (iterate 6 ((repeat with_reducible first|refine .nil ?_|refine .then_normal ?_|refine .block_normal ?_|refine .seq ?_|refine .block ?_|refine .skip ?_|refine .region ?_|refine .ret ?_|refine .then_ret ?_|refine .block_ret ?_|refine .exit ?_|refine .then_exit ?_|refine .block_exit ?_|refine .block_other rfl ?_); try refine .run TBok 99 rfl ?_))
    refine Out.ret1 rfl rfl ⟨rfl, ?_⟩
    rw [hk', List.take_length]

end Go.Qf

/- integer.compareNat; slices.Clone at []uint32. -/
namespace Go.Qf
open Go Go.RowKit Go.Proofs
set_option maxRecDepth 20000

theorem drop_succ_eq {xs ys : List Nat} {k x : Nat} (hx : xs[k]? = some x) (hy : ys[k]? = some x) (h : xs.drop (k + 1) = ys.drop (k + 1)) : xs.drop k = ys.drop k := by
  have h1 : k < xs.length := (List.getElem?_eq_some_iff.1 hx).1
  have h2 : k < ys.length := (List.getElem?_eq_some_iff.1 hy).1
  rw [List.getElem?_eq_getElem h1] at hx
  rw [List.getElem?_eq_getElem h2] at hy
  rw [List.drop_eq_getElem_cons h1, List.drop_eq_getElem_cons h2, Option.some.inj hx, Option.some.inj hy, h]

/-- Of two lists of one length. -/
theorem compareNat_aux (w : World) (p q : Option Addr) (c d : Nat) (xs ys : List Nat) (h : Sl w (.slice p xs.length c) xs) (k : Sl w (.slice q ys.length d) ys) (hlen : xs.length ≤ 1000000000) (hl : ys.length ≤ 1000000000)
    (R : Int) (hR : R = if xs.length < ys.length then -1 else if ys.length < xs.length then 1 else cmpN (val xs) (val ys)) :
    Calls Try.prog 119 #[.slice p xs.length c, .slice q ys.length d] w (Ret fun r w' => Ext w w' ∧ r = .int .i64 R) := by
  refine calls_of_St (args := [_, _]) Try.func119 rfl Try.ntmps119 rfl ?_
  (iterate 6 ((repeat with_reducible first|refine .nil ?_|refine .then_normal ?_|refine .block_normal ?_|refine .seq ?_|refine .block ?_|refine .skip ?_|refine .region ?_|refine .ret ?_|refine .then_ret ?_|refine .block_ret ?_|refine .exit ?_|refine .then_exit ?_|refine .block_exit ?_|refine .block_other rfl ?_); try refine .run TBok 99 rfl ?_))
  by_cases h1 : xs.length < ys.length
  · rw [if_pos h1] at hR
    refine St.condT rfl (by simp; omega) ?_
    (iterate 6 ((repeat with_reducible first|refine .nil ?_|refine .then_normal ?_|refine .block_normal ?_|refine .seq ?_|refine .block ?_|refine .skip ?_|refine .region ?_|refine .ret ?_|refine .then_ret ?_|refine .block_ret ?_|refine .exit ?_|refine .then_exit ?_|refine .block_exit ?_|refine .block_other rfl ?_); try refine .run TBok 99 rfl ?_))
    exact Out.ret1 rfl rfl ⟨Ext.refl _, by rw [hR]⟩
  rw [if_neg h1] at hR
  refine St.condF rfl (by simp; omega) ?_
  (iterate 6 ((repeat with_reducible first|refine .nil ?_|refine .then_normal ?_|refine .block_normal ?_|refine .seq ?_|refine .block ?_|refine .skip ?_|refine .region ?_|refine .ret ?_|refine .then_ret ?_|refine .block_ret ?_|refine .exit ?_|refine .then_exit ?_|refine .block_exit ?_|refine .block_other rfl ?_); try refine .run TBok 99 rfl ?_))
  by_cases h2 : ys.length < xs.length
  · rw [if_pos h2] at hR
    refine St.condT rfl (by simp; omega) ?_
    (iterate 6 ((repeat with_reducible first|refine .nil ?_|refine .then_normal ?_|refine .block_normal ?_|refine .seq ?_|refine .block ?_|refine .skip ?_|refine .region ?_|refine .ret ?_|refine .then_ret ?_|refine .block_ret ?_|refine .exit ?_|refine .then_exit ?_|refine .block_exit ?_|refine .block_other rfl ?_); try refine .run TBok 99 rfl ?_))
    exact Out.ret1 rfl rfl ⟨Ext.refl _, by rw [hR]⟩
  rw [if_neg h2] at hR
  have hll : xs.length = ys.length := by omega
  refine St.condF rfl (by simp; omega) ?_
  (iterate 6 ((repeat with_reducible first|refine .nil ?_|refine .then_normal ?_|refine .block_normal ?_|refine .seq ?_|refine .block ?_|refine .skip ?_|refine .region ?_|refine .ret ?_|refine .then_ret ?_|refine .block_ret ?_|refine .exit ?_|refine .then_exit ?_|refine .block_exit ?_|refine .block_other rfl ?_); try refine .run TBok 99 rfl ?_))
  refine St.loop (fun j : Nat => [(0, .slice p xs.length c), (1, .slice q ys.length d), (5, .int .i64 ((j : Int) - 1))]) (fun j w' => Ext w w' ∧ j ≤ xs.length ∧ xs.drop j = ys.drop j) (fun j => j) xs.length ⟨rfl, rfl, ?_, trivial⟩ ⟨Ext.refl _, by omega, ?_⟩ ?_
  · show some (Value.int .i64 (IntKind.i64.wrap ((xs.length : Int) - 1))) = _
    rw [i64_id (by omega) (by omega)]
  · rw [List.drop_length, hll, List.drop_length]
  rintro j w' ⟨hx, hj, heq⟩
  have hA := h.ext hx
  have hB := k.ext hx
  by_cases h0 : j = 0
  · subst h0
    (repeat with_reducible first|refine .nil ?_|refine .then_normal ?_|refine .block_normal ?_|refine .seq ?_|refine .block ?_|refine .skip ?_|refine .region ?_|refine .ret ?_|refine .then_ret ?_|refine .block_ret ?_|refine .exit ?_|refine .then_exit ?_|refine .block_exit ?_|refine .block_other rfl ?_)
    refine StL.as TBok 2 (.bool false) rfl (bool_false (by omega)) ?_
    (repeat with_reducible first|refine .nil ?_|refine .then_normal ?_|refine .block_normal ?_|refine .seq ?_|refine .block ?_|refine .skip ?_|refine .region ?_|refine .ret ?_|refine .then_ret ?_|refine .block_ret ?_|refine .exit ?_|refine .then_exit ?_|refine .block_exit ?_|refine .block_other rfl ?_)
    refine St.condF rfl rfl ?_
    (iterate 6 ((repeat with_reducible first|refine .nil ?_|refine .then_normal ?_|refine .block_normal ?_|refine .seq ?_|refine .block ?_|refine .skip ?_|refine .region ?_|refine .ret ?_|refine .then_ret ?_|refine .block_ret ?_|refine .exit ?_|refine .then_exit ?_|refine .block_exit ?_|refine .block_other rfl ?_); try refine .run TBok 99 rfl ?_))
    have : xs = ys := by simpa using heq
    subst this
    exact Out.ret1 rfl rfl ⟨hx, by rw [hR]; simp [cmpN]⟩
  · obtain ⟨i, rfl⟩ : ∃ i, j = i + 1 := ⟨j - 1, by omega⟩
    have hxi : xs[i]? = some xs[i] := by simp
    generalize xs[i] = x at hxi
    have hyi : ys[i]? = some ys[i] := by simp
    generalize ys[i] = y at hyi
    have e0 : (((i + 1 : Nat) : Int) - 1) = (i : Int) := by omega
    rw [e0]
    (repeat with_reducible first|refine .nil ?_|refine .then_normal ?_|refine .block_normal ?_|refine .seq ?_|refine .block ?_|refine .skip ?_|refine .region ?_|refine .ret ?_|refine .then_ret ?_|refine .block_ret ?_|refine .exit ?_|refine .then_exit ?_|refine .block_exit ?_|refine .block_other rfl ?_)
    refine StL.as TBok 2 (.bool true) rfl (bool_true (by omega)) ?_
    (repeat with_reducible first|refine .nil ?_|refine .then_normal ?_|refine .block_normal ?_|refine .seq ?_|refine .block ?_|refine .skip ?_|refine .region ?_|refine .ret ?_|refine .then_ret ?_|refine .block_ret ?_|refine .exit ?_|refine .then_exit ?_|refine .block_exit ?_|refine .block_other rfl ?_)
    refine St.condT rfl rfl ?_
    (repeat with_reducible first|refine .nil ?_|refine .then_normal ?_|refine .block_normal ?_|refine .seq ?_|refine .block ?_|refine .skip ?_|refine .region ?_|refine .ret ?_|refine .then_ret ?_|refine .block_ret ?_|refine .exit ?_|refine .then_exit ?_|refine .block_exit ?_|refine .block_other rfl ?_)
    refine St.quiet TBfol (by kernel_rfl) ?_
    refine .run TBok 99 rfl ?_
    refine QL.elem TBok i (u32 x) hA.1 (hA.get hxi) rfl rfl rfl rfl rfl rfl rfl rfl rfl rfl rfl (fun _ => rfl) ?_
    intro p1
    refine .run TBok 99 rfl ?_
    refine QL.elem TBok i (u32 y) hB.1 (hB.get hyi) rfl rfl rfl rfl rfl rfl rfl rfl rfl rfl rfl (fun _ => rfl) ?_
    intro p2
    refine .run TBok 99 rfl ?_
    refine QL.nil fun m1 => ?_
    (repeat with_reducible first|refine .nil ?_|refine .then_normal ?_|refine .block_normal ?_|refine .seq ?_|refine .block ?_|refine .skip ?_|refine .region ?_|refine .ret ?_|refine .then_ret ?_|refine .block_ret ?_|refine .exit ?_|refine .then_exit ?_|refine .block_exit ?_|refine .block_other rfl ?_)
    by_cases hxy : x < y
    · refine St.condT rfl (by simp; omega) ?_
      (iterate 6 ((repeat with_reducible first|refine .nil ?_|refine .then_normal ?_|refine .block_normal ?_|refine .seq ?_|refine .block ?_|refine .skip ?_|refine .region ?_|refine .ret ?_|refine .then_ret ?_|refine .block_ret ?_|refine .exit ?_|refine .then_exit ?_|refine .block_exit ?_|refine .block_other rfl ?_); try refine .run TBok 99 rfl ?_))
      have := val_lt_of xs ys h.2 hll i x y hxi hyi hxy heq
      exact Out.ret1 rfl rfl ⟨hx.drewN _, by rw [hR]; simp [cmpN, this]⟩
    refine St.condF rfl (by simp; omega) ?_
    (repeat with_reducible first|refine .nil ?_|refine .then_normal ?_|refine .block_normal ?_|refine .seq ?_|refine .block ?_|refine .skip ?_|refine .region ?_|refine .ret ?_|refine .then_ret ?_|refine .block_ret ?_|refine .exit ?_|refine .then_exit ?_|refine .block_exit ?_|refine .block_other rfl ?_)
    refine St.quiet TBfol (by kernel_rfl) ?_
    refine .run TBok 99 rfl ?_
    refine QL.elem TBok i (u32 x) (hA.drewN m1).1 (hA.get hxi) rfl rfl rfl rfl rfl rfl rfl rfl rfl rfl rfl (fun _ => rfl) ?_
    intro p3
    refine .run TBok 99 rfl ?_
    refine QL.elem TBok i (u32 y) (hB.drewN m1).1 (hB.get hyi) rfl rfl rfl rfl rfl rfl rfl rfl rfl rfl rfl (fun _ => rfl) ?_
    intro p4
    refine .run TBok 99 rfl ?_
    refine QL.nil fun m2 => ?_
    (repeat with_reducible first|refine .nil ?_|refine .then_normal ?_|refine .block_normal ?_|refine .seq ?_|refine .block ?_|refine .skip ?_|refine .region ?_|refine .ret ?_|refine .then_ret ?_|refine .block_ret ?_|refine .exit ?_|refine .then_exit ?_|refine .block_exit ?_|refine .block_other rfl ?_)
    by_cases hyx : y < x
    · refine St.condT rfl (by simp; omega) ?_
      (iterate 6 ((repeat with_reducible first|refine .nil ?_|refine .then_normal ?_|refine .block_normal ?_|refine .seq ?_|refine .block ?_|refine .skip ?_|refine .region ?_|refine .ret ?_|refine .then_ret ?_|refine .block_ret ?_|refine .exit ?_|refine .then_exit ?_|refine .block_exit ?_|refine .block_other rfl ?_); try refine .run TBok 99 rfl ?_))
      have := val_lt_of ys xs k.2 hll.symm i y x hyi hxi hyx heq.symm
      exact Out.ret1 rfl rfl ⟨(hx.drewN _).drewN _, by rw [hR]; unfold cmpN; rw [if_neg (by omega), if_pos this]⟩
    have hxy' : x = y := by omega
    subst hxy'
    refine St.condF rfl (by simp) ?_
    (iterate 6 ((repeat with_reducible first|refine .nil ?_|refine .then_normal ?_|refine .block_normal ?_|refine .seq ?_|refine .block ?_|refine .skip ?_|refine .region ?_|refine .ret ?_|refine .then_ret ?_|refine .block_ret ?_|refine .exit ?_|refine .then_exit ?_|refine .block_exit ?_|refine .block_other rfl ?_); try refine .run TBok 99 rfl ?_))
    refine Out.again i ⟨rfl, rfl, ?_, trivial⟩ ⟨(hx.drewN _).drewN _, by omega, drop_succ_eq hxi hyi heq⟩ (by omega)
    show some (Value.int .i64 (IntKind.i64.wrap ((i : Int) - 1))) = _
    rw [i64_id (by omega) (by omega)]

theorem compareNat_spec (w : World) (u v : Value) (a b : Nat) (h : Sl w u (limbs a)) (k : Sl w v (limbs b)) (hlen : (limbs a).length ≤ 1000000000) (hl : (limbs b).length ≤ 1000000000) :
    Calls Try.prog 119 #[u, v] w (Ret fun r w' => Ext w w' ∧ r = .int .i64 (cmpN a b)) := by
  obtain ⟨p, c, rfl, _⟩ := h.form
  obtain ⟨q, d, rfl, _⟩ := k.form
  refine compareNat_aux w p q c d _ _ h k hlen hl _ ?_
  rw [val_limbs, val_limbs]
  split
  · rename_i h1
    have := limbs_lt_of_length h1
    simp [cmpN, this]
  · split
    · rename_i _ h2
      have := limbs_lt_of_length h2
      unfold cmpN; rw [if_neg (by omega), if_pos this]
    · rfl

theorem clone_spec (w : World) (v : Value) (xs : List Nat) (h : Sl w v xs) (hlen : xs.length ≤ 1000000000) :
    Calls Try.prog 69 #[v] w (Ret fun r w' => Ext w w' ∧ SlO w.heap.size w' r xs) := by
  obtain ⟨p, cap, rfl, hcap⟩ := h.form
  refine calls_of_St (args := [_]) Try.func69 rfl Try.ntmps69 rfl ?_
  (iterate 6 ((repeat with_reducible first|refine .nil ?_|refine .then_normal ?_|refine .block_normal ?_|refine .seq ?_|refine .block ?_|refine .skip ?_|refine .region ?_|refine .ret ?_|refine .then_ret ?_|refine .block_ret ?_|refine .exit ?_|refine .then_exit ?_|refine .block_exit ?_|refine .block_other rfl ?_); try refine .run TBok 99 rfl ?_))
  refine StL.step rfl rfl rfl (RunsTo.sliceNil TBok rfl rfl).op ?_
  rintro _ _ ⟨rfl, rfl⟩
  (repeat with_reducible first|refine .nil ?_|refine .then_normal ?_|refine .block_normal ?_|refine .seq ?_|refine .block ?_|refine .skip ?_|refine .region ?_|refine .ret ?_|refine .then_ret ?_|refine .block_ret ?_|refine .exit ?_|refine .then_exit ?_|refine .block_exit ?_|refine .block_other rfl ?_)
  cases p with
  | none =>
    have h0 : xs = [] := by simpa using Row.nil_of h.1
    subst h0
    refine St.condT rfl rfl ?_
    (iterate 6 ((repeat with_reducible first|refine .nil ?_|refine .then_normal ?_|refine .block_normal ?_|refine .seq ?_|refine .block ?_|refine .skip ?_|refine .region ?_|refine .ret ?_|refine .then_ret ?_|refine .block_ret ?_|refine .exit ?_|refine .then_exit ?_|refine .block_exit ?_|refine .block_other rfl ?_); try refine .run TBok 99 rfl ?_))
    exact Out.ret1 rfl rfl ⟨Ext.refl _, SlO.nil _ _⟩
  | some a0 =>
    refine St.condF rfl rfl ?_
    (repeat with_reducible first|refine .nil ?_|refine .then_normal ?_|refine .block_normal ?_|refine .seq ?_|refine .block ?_|refine .skip ?_|refine .region ?_|refine .ret ?_|refine .then_ret ?_|refine .block_ret ?_|refine .exit ?_|refine .then_exit ?_|refine .block_exit ?_|refine .block_other rfl ?_)
    refine StL.step rfl rfl rfl (OpR.empty TBok rfl rfl) ?_
    rintro _ w1 ⟨rfl, hb, hx1, hs1⟩
    refine .run TBok 99 rfl ?_
    have hown : Own w.heap.size 41 w1 (.slice (some ⟨w.heap.size, 0, none⟩) 0 0) [] := Blk.own hb rfl (Nat.le_refl _) (by decide)
    have h1 := h.ext hx1
    refine StL.step rfl rfl rfl (OpR.append TBok rfl rfl rfl rfl rfl rfl hown h1.1 (by intro c hc; simp at hc; obtain ⟨x, _, rfl⟩ := hc; rfl) (by simp; omega) (by simp; omega) (by omega)) ?_
    rintro r w2 ⟨ho, hg, _⟩
    (iterate 6 ((repeat with_reducible first|refine .nil ?_|refine .then_normal ?_|refine .block_normal ?_|refine .seq ?_|refine .block ?_|refine .skip ?_|refine .region ?_|refine .ret ?_|refine .then_ret ?_|refine .block_ret ?_|refine .exit ?_|refine .then_exit ?_|refine .block_exit ?_|refine .block_other rfl ?_); try refine .run TBok 99 rfl ?_))
    exact Out.ret1 rfl rfl ⟨hx1.grown hown (Nat.le_refl _) hg, by simpa using ho, h.2⟩

end Go.Qf

/- integer.addNat. -/
namespace Go.Qf
open Go Go.RowKit Go.Proofs
set_option maxRecDepth 20000

theorem take_set_succ {us : List Nat} {k : Nat} (h : k < us.length) (v : Nat) : (us.set k v).take (k + 1) = us.take k ++ [v] := by
  rw [List.take_succ_eq_append_getElem (by simpa using h)]
  simp [List.take_set_of_le]

theorem val_take_set {us : List Nat} {k : Nat} (h : k < us.length) (v : Nat) : val ((us.set k v).take (k + 1)) = val (us.take k) + v * 4294967296 ^ k := by
  rw [take_set_succ h, val_append]
  simp [val, Nat.min_eq_left (Nat.le_of_lt h), Nat.mul_comm]

theorem step_add (S X Y D c x y v c' : Nat) (h : S + c * D = X + Y) (hv : c + x + y = v + c' * 4294967296) : (S + v * D) + c' * (D * 4294967296) = (X + x * D) + (Y + y * D) := by
  have h1 := congrArg (· * D) hv
  simp only [Nat.add_mul] at h1
  have e : c' * 4294967296 * D = c' * (D * 4294967296) := by rw [Nat.mul_assoc, Nat.mul_comm 4294967296]
  omega

theorem map_set_u32 (us : List Nat) (k v : Nat) : (us.map u32).set k (u32 v) = (us.set k v).map u32 := by simp

theorem lim_replicate (k : Nat) : Lim (List.replicate k 0) := fun x hx => by
  have := List.eq_of_mem_replicate hx
  omega

set_option maxHeartbeats 400000 in
theorem addNat_spec (w : World) (u v : Value) (xs ys : List Nat) (h : Sl w u xs) (k : Sl w v ys) (hlen : xs.length ≤ 100000000) (hl : ys.length ≤ 100000000) :
    Calls Try.prog 106 #[u, v] w (Ret fun r w' => Ext w w' ∧ SlO w.heap.size w' r (limbs (val xs + val ys))) := by
  refine calls_of_St (args := [_, _]) Try.func106 rfl Try.ntmps106 rfl ?_
  refine St.seq (St.region (StL.run TBok 99 rfl (StL.nil (Out.then_normal ?_))))
  refine St.cut (fun g : (Value × Value) × List Nat × List Nat => [(0, g.1.1), (1, g.1.2)]) (fun g w' => w' = w ∧ Sl w g.1.1 g.2.1 ∧ Sl w g.1.2 g.2.2 ∧ g.2.1.length ≤ 100000000 ∧ g.2.2.length ≤ g.2.1.length ∧ val xs + val ys = val g.2.1 + val g.2.2) ?_ ?_
  · obtain ⟨p, c, rfl, _⟩ := h.form
    obtain ⟨q, d, rfl, _⟩ := k.form
    (iterate 6 ((repeat with_reducible first|refine .nil ?_|refine .then_normal ?_|refine .block_normal ?_|refine .seq ?_|refine .block ?_|refine .skip ?_|refine .region ?_|refine .ret ?_|refine .then_ret ?_|refine .block_ret ?_|refine .exit ?_|refine .then_exit ?_|refine .block_exit ?_|refine .block_other rfl ?_); try refine .run TBok 99 rfl ?_))
    by_cases h1 : xs.length < ys.length
    · refine St.condT rfl (by simp; omega) ?_
      (repeat with_reducible first|refine .nil ?_|refine .then_normal ?_|refine .block_normal ?_|refine .seq ?_|refine .block ?_|refine .skip ?_|refine .region ?_|refine .ret ?_|refine .then_ret ?_|refine .block_ret ?_|refine .exit ?_|refine .then_exit ?_|refine .block_exit ?_|refine .block_other rfl ?_)
      refine .run TBok 99 rfl ?_
      refine StL.nil (Out.met ((_, _), ys, xs) ⟨rfl, rfl, trivial⟩ ⟨rfl, k, h, hl, by simp; omega, Nat.add_comm _ _⟩)
    · refine St.condF rfl (by simp; omega) ?_
      refine St.skip (Out.met ((_, _), xs, ys) ⟨rfl, rfl, trivial⟩ ⟨rfl, h, k, hlen, by simp; omega, rfl⟩)
  rintro ⟨⟨u', v'⟩, xs', ys'⟩ w' ⟨rfl, h', k', hlen', hll, hsum⟩
  rw [hsum]
  clear hsum h k hlen hl xs ys u v
  simp only at h' k' hlen' hll
  obtain ⟨p, c, rfl, _⟩ := h'.form
  obtain ⟨q, d, rfl, _⟩ := k'.form
  (iterate 6 ((repeat with_reducible first|refine .nil ?_|refine .then_normal ?_|refine .block_normal ?_|refine .seq ?_|refine .block ?_|refine .skip ?_|refine .region ?_|refine .ret ?_|refine .then_ret ?_|refine .block_ret ?_|refine .exit ?_|refine .then_exit ?_|refine .block_exit ?_|refine .block_other rfl ?_); try refine .run TBok 99 rfl ?_))
  refine StL.step rfl rfl rfl (OpR.make TBok (xs'.length + 1) rfl rfl rfl rfl rfl (by rw [i64_id (by omega) (by omega)]; omega) rfl (by rw [i64_id (by omega) (by omega)]; omega) (by simp; omega) (by omega)) ?_
  rintro _ w1 ⟨rfl, hb1, hx1, _⟩
  (iterate 6 ((repeat with_reducible first|refine .nil ?_|refine .then_normal ?_|refine .block_normal ?_|refine .seq ?_|refine .block ?_|refine .skip ?_|refine .region ?_|refine .ret ?_|refine .then_ret ?_|refine .block_ret ?_|refine .exit ?_|refine .then_exit ?_|refine .block_exit ?_|refine .block_other rfl ?_); try refine .run TBok 99 rfl ?_))
  refine St.loop (fun g : Nat × Nat × List Nat => [(0, .slice p xs'.length c), (1, .slice q ys'.length d), (5, .slice (some ⟨w'.heap.size, 0, none⟩) (xs'.length + 1) (xs'.length + 1)), (6, .int .u64 g.2.1), (21, .int .i64 ys'.length), (22, .int .i64 g.1)])
    (fun g w2 => Ext w' w2 ∧ Blk 41 w2 w'.heap.size (g.2.2.map u32) ∧ g.2.2.length = xs'.length + 1 ∧ Lim g.2.2 ∧ g.2.1 ≤ 1 ∧ g.1 ≤ ys'.length ∧ val (g.2.2.take g.1) + g.2.1 * 4294967296 ^ g.1 = val (xs'.take g.1) + val (ys'.take g.1))
    (fun g => ys'.length - g.1) (0, 0, List.replicate (xs'.length + 1) 0) ⟨rfl, rfl, rfl, rfl, rfl, rfl, trivial⟩ ⟨hx1, by rw [List.map_replicate]; exact hb1, by simp, lim_replicate _, by simp, by simp, by simp [val]⟩ ?_
  rintro ⟨j, cy, us⟩ w2 ⟨hx2, hb2, hul, hulim, hcy, hj, heq⟩
  simp only at hb2 hul hulim hcy hj heq
  have hA := h'.ext hx2
  have hB := k'.ext hx2
  by_cases hlt : j < ys'.length
  · have hxi : xs'[j]? = some xs'[j] := by simp
    generalize xs'[j] = x at hxi
    have hyi : ys'[j]? = some ys'[j] := by simp
    generalize ys'[j] = y at hyi
    have hxl := h'.2.get hxi
    have hyl := k'.2.get hyi
    (repeat with_reducible first|refine .nil ?_|refine .then_normal ?_|refine .block_normal ?_|refine .seq ?_|refine .block ?_|refine .skip ?_|refine .region ?_|refine .ret ?_|refine .then_ret ?_|refine .block_ret ?_|refine .exit ?_|refine .then_exit ?_|refine .block_exit ?_|refine .block_other rfl ?_)
    refine StL.as TBok 1 (.bool true) rfl (bool_true (by omega)) ?_
    (repeat with_reducible first|refine .nil ?_|refine .then_normal ?_|refine .block_normal ?_|refine .seq ?_|refine .block ?_|refine .skip ?_|refine .region ?_|refine .ret ?_|refine .then_ret ?_|refine .block_ret ?_|refine .exit ?_|refine .then_exit ?_|refine .block_exit ?_|refine .block_other rfl ?_)
    refine St.condT rfl rfl ?_
    (repeat with_reducible first|refine .nil ?_|refine .then_normal ?_|refine .block_normal ?_|refine .seq ?_|refine .block ?_|refine .skip ?_|refine .region ?_|refine .ret ?_|refine .then_ret ?_|refine .block_ret ?_|refine .exit ?_|refine .then_exit ?_|refine .block_exit ?_|refine .block_other rfl ?_)
    refine .run TBok 99 rfl ?_
    (repeat with_reducible first|refine .nil ?_|refine .then_normal ?_|refine .block_normal ?_|refine .seq ?_|refine .block ?_|refine .skip ?_|refine .region ?_|refine .ret ?_|refine .then_ret ?_|refine .block_ret ?_|refine .exit ?_|refine .then_exit ?_|refine .block_exit ?_|refine .block_other rfl ?_)
    refine St.quiet TBfol (by kernel_rfl) ?_
    refine .run TBok 99 rfl ?_
    refine QL.elem TBok j (u32 x) hA.1 (hA.get hxi) rfl rfl rfl rfl rfl rfl rfl rfl rfl rfl rfl (fun _ => rfl) ?_
    intro p1
    refine .run TBok 99 rfl ?_
    refine QL.elem TBok j (u32 y) hB.1 (hB.get hyi) rfl rfl rfl rfl rfl rfl rfl rfl rfl rfl rfl (fun _ => rfl) ?_
    intro p2
    refine .run TBok 99 rfl ?_
    refine QL.nil fun m1 => ?_
    have e1 : IntKind.u64.wrap ((cy : Int) + IntKind.u64.wrap (IntKind.u64.wrap (x : Int) + IntKind.u64.wrap (y : Int))) = ((cy + x + y : Nat) : Int) := by
      simp only [wrap_u64]; omega
    rw [e1]
    (iterate 6 ((repeat with_reducible first|refine .nil ?_|refine .then_normal ?_|refine .block_normal ?_|refine .seq ?_|refine .block ?_|refine .skip ?_|refine .region ?_|refine .ret ?_|refine .then_ret ?_|refine .block_ret ?_|refine .exit ?_|refine .then_exit ?_|refine .block_exit ?_|refine .block_other rfl ?_); try refine .run TBok 99 rfl ?_))
    have e2 : IntKind.u32.wrap ((cy + x + y : Nat) : Int) = (((cy + x + y) % 4294967296 : Nat) : Int) := by rw [wrap_u32]; omega
    refine StL.put TBok j (hb2.drewN m1) rfl (by omega) (by simp; omega) rfl rfl rfl rfl rfl rfl rfl rfl (fun _ => rfl) (fun _ => rfl) rfl rfl ?_
    intro p3 w3 hb3 hu3
    rw [e2, Nat.zero_add, map_set_u32] at hb3
    (iterate 6 ((repeat with_reducible first|refine .nil ?_|refine .then_normal ?_|refine .block_normal ?_|refine .seq ?_|refine .block ?_|refine .skip ?_|refine .region ?_|refine .ret ?_|refine .then_ret ?_|refine .block_ret ?_|refine .exit ?_|refine .then_exit ?_|refine .block_exit ?_|refine .block_other rfl ?_); try refine .run TBok 99 rfl ?_))
    refine Out.again (j + 1, (cy + x + y) / 4294967296, us.set j ((cy + x + y) % 4294967296)) ⟨rfl, rfl, rfl, ?_, rfl, ?_, trivial⟩ ⟨(hx2.drewN m1).then_upd hu3 (Nat.le_refl _), hb3, by simpa using hul, hulim.set _ (by omega), by simp only; omega, by simp only; omega, ?_⟩ (by simp only; omega)
    · show some (Value.int .u64 (((cy + x + y : Nat) : Int) / 2 ^ 32)) = some (Value.int .u64 (((cy + x + y) / 4294967296 : Nat) : Int))
      rw [show ((cy + x + y : Nat) : Int) / 2 ^ 32 = (((cy + x + y) / 4294967296 : Nat) : Int) from by omega]
    · show some (Value.int .i64 (IntKind.i64.wrap ((j : Int) + 1))) = _
      rw [i64_id (by omega) (by omega)]
      rfl
    · simp only
      rw [val_take_set (by omega), val_take_succ hxi, val_take_succ hyi, Nat.pow_succ]
      exact step_add _ _ _ _ _ _ _ _ _ heq (by omega)
  obtain rfl : j = ys'.length := by omega
  rw [List.take_length] at heq
  clear hlt hj
  (repeat with_reducible first|refine .nil ?_|refine .then_normal ?_|refine .block_normal ?_|refine .seq ?_|refine .block ?_|refine .skip ?_|refine .region ?_|refine .ret ?_|refine .then_ret ?_|refine .block_ret ?_|refine .exit ?_|refine .then_exit ?_|refine .block_exit ?_|refine .block_other rfl ?_)
  refine StL.as TBok 1 (.bool false) rfl (bool_false (by omega)) ?_
  (repeat with_reducible first|refine .nil ?_|refine .then_normal ?_|refine .block_normal ?_|refine .seq ?_|refine .block ?_|refine .skip ?_|refine .region ?_|refine .ret ?_|refine .then_ret ?_|refine .block_ret ?_|refine .exit ?_|refine .then_exit ?_|refine .block_exit ?_|refine .block_other rfl ?_)
  refine St.condF rfl rfl ?_
  (iterate 6 ((repeat with_reducible first|refine .nil ?_|refine .then_normal ?_|refine .block_normal ?_|refine .seq ?_|refine .block ?_|refine .skip ?_|refine .region ?_|refine .ret ?_|refine .then_ret ?_|refine .block_ret ?_|refine .exit ?_|refine .then_exit ?_|refine .block_exit ?_|refine .block_other rfl ?_); try refine .run TBok 99 rfl ?_))
  refine St.loop (fun g : Nat × Nat × List Nat => [(0, .slice p xs'.length c), (1, .slice q ys'.length d), (5, .slice (some ⟨w'.heap.size, 0, none⟩) (xs'.length + 1) (xs'.length + 1)), (6, .int .u64 g.2.1), (50, .int .i64 ((xs'.length - ys'.length : Nat) : Int)), (51, .int .i64 g.1)])
    (fun g w2 => Ext w' w2 ∧ Blk 41 w2 w'.heap.size (g.2.2.map u32) ∧ g.2.2.length = xs'.length + 1 ∧ Lim g.2.2 ∧ g.2.1 ≤ 1 ∧ g.1 ≤ xs'.length - ys'.length ∧ val (g.2.2.take (ys'.length + g.1)) + g.2.1 * 4294967296 ^ (ys'.length + g.1) = val (xs'.take (ys'.length + g.1)) + val ys')
    (fun g => xs'.length - ys'.length - g.1) (0, cy, us) ⟨rfl, rfl, rfl, rfl, ?_, rfl, trivial⟩ ⟨hx2, hb2, hul, hulim, hcy, by simp, heq⟩ ?_
  · show some (Value.int .i64 (IntKind.i64.wrap ((xs'.length : Int) - (ys'.length : Int)))) = _
    rw [i64_id (by omega) (by omega)]
    rw [show ((xs'.length : Int) - (ys'.length : Int)) = ((xs'.length - ys'.length : Nat) : Int) from by omega]
  clear heq hx2 hb2 hul hulim hcy hA hB us cy
  rintro ⟨j, cy, us⟩ w2 ⟨hx2, hb2, hul, hulim, hcy, hj, heq⟩
  simp only at hb2 hul hulim hcy hj heq
  have hA := h'.ext hx2
  by_cases hlt : j < xs'.length - ys'.length
  · have hlt2 : ys'.length + j < xs'.length := by omega
    have hxi : xs'[ys'.length + j]? = some xs'[ys'.length + j] := by simp
    generalize xs'[ys'.length + j] = x at hxi
    have hxl := h'.2.get hxi
    have e0 : IntKind.i64.wrap ((ys'.length : Int) + (j : Int)) = ((ys'.length + j : Nat) : Int) := by rw [i64_id (by omega) (by omega)]; omega
    (repeat with_reducible first|refine .nil ?_|refine .then_normal ?_|refine .block_normal ?_|refine .seq ?_|refine .block ?_|refine .skip ?_|refine .region ?_|refine .ret ?_|refine .then_ret ?_|refine .block_ret ?_|refine .exit ?_|refine .then_exit ?_|refine .block_exit ?_|refine .block_other rfl ?_)
    refine StL.as TBok 1 (.bool true) rfl (bool_true (by omega)) ?_
    (repeat with_reducible first|refine .nil ?_|refine .then_normal ?_|refine .block_normal ?_|refine .seq ?_|refine .block ?_|refine .skip ?_|refine .region ?_|refine .ret ?_|refine .then_ret ?_|refine .block_ret ?_|refine .exit ?_|refine .then_exit ?_|refine .block_exit ?_|refine .block_other rfl ?_)
    refine St.condT rfl rfl ?_
    (iterate 6 ((repeat with_reducible first|refine .nil ?_|refine .then_normal ?_|refine .block_normal ?_|refine .seq ?_|refine .block ?_|refine .skip ?_|refine .region ?_|refine .ret ?_|refine .then_ret ?_|refine .block_ret ?_|refine .exit ?_|refine .then_exit ?_|refine .block_exit ?_|refine .block_other rfl ?_); try refine .run TBok 99 rfl ?_))
    refine StL.elem TBok (ys'.length + j) (u32 x) hA.1 (hA.get hxi) e0 rfl rfl rfl rfl rfl rfl rfl rfl rfl rfl (fun _ => rfl) ?_
    intro p1
    have e1 : IntKind.u64.wrap ((cy : Int) + IntKind.u64.wrap (x : Int)) = ((cy + x : Nat) : Int) := by
      simp only [wrap_u64]; omega
    refine StL.as TBok 2 (.int .u64 ((cy + x : Nat) : Int)) rfl (by rw [e1]) ?_
    (iterate 6 ((repeat with_reducible first|refine .nil ?_|refine .then_normal ?_|refine .block_normal ?_|refine .seq ?_|refine .block ?_|refine .skip ?_|refine .region ?_|refine .ret ?_|refine .then_ret ?_|refine .block_ret ?_|refine .exit ?_|refine .then_exit ?_|refine .block_exit ?_|refine .block_other rfl ?_); try refine .run TBok 99 rfl ?_))
    have e2 : IntKind.u32.wrap ((cy + x : Nat) : Int) = (((cy + x) % 4294967296 : Nat) : Int) := by rw [wrap_u32]; omega
    refine StL.put TBok (ys'.length + j) hb2 e0 (by omega) (by simp; omega) rfl rfl rfl rfl rfl rfl rfl rfl (fun _ => rfl) (fun _ => rfl) rfl rfl ?_
    intro p3 w3 hb3 hu3
    rw [e2, Nat.zero_add, map_set_u32] at hb3
    (iterate 6 ((repeat with_reducible first|refine .nil ?_|refine .then_normal ?_|refine .block_normal ?_|refine .seq ?_|refine .block ?_|refine .skip ?_|refine .region ?_|refine .ret ?_|refine .then_ret ?_|refine .block_ret ?_|refine .exit ?_|refine .then_exit ?_|refine .block_exit ?_|refine .block_other rfl ?_); try refine .run TBok 99 rfl ?_))
    refine Out.again (j + 1, (cy + x) / 4294967296, us.set (ys'.length + j) ((cy + x) % 4294967296)) ⟨rfl, rfl, rfl, ?_, rfl, ?_, trivial⟩ ⟨hx2.then_upd hu3 (Nat.le_refl _), hb3, by simpa using hul, hulim.set _ (by omega), by simp only; omega, by simp only; omega, ?_⟩ (by simp only; omega)
    · show some (Value.int .u64 (((cy + x : Nat) : Int) / 2 ^ 32)) = some (Value.int .u64 (((cy + x) / 4294967296 : Nat) : Int))
      rw [show ((cy + x : Nat) : Int) / 2 ^ 32 = (((cy + x) / 4294967296 : Nat) : Int) from by omega]
    · show some (Value.int .i64 (IntKind.i64.wrap ((j : Int) + 1))) = _
      rw [i64_id (by omega) (by omega)]
      rfl
    · simp only
      rw [← Nat.add_assoc, val_take_set (by omega), val_take_succ hxi, Nat.pow_succ]
      have := step_add _ _ _ _ _ _ 0 _ _ heq (show cy + x + 0 = (cy + x) % 4294967296 + (cy + x) / 4294967296 * 4294967296 from by omega)
      simpa using this
  obtain rfl : j = xs'.length - ys'.length := by omega
  rw [show ys'.length + (xs'.length - ys'.length) = xs'.length from by omega, List.take_length] at heq
  clear hlt hj
  (repeat with_reducible first|refine .nil ?_|refine .then_normal ?_|refine .block_normal ?_|refine .seq ?_|refine .block ?_|refine .skip ?_|refine .region ?_|refine .ret ?_|refine .then_ret ?_|refine .block_ret ?_|refine .exit ?_|refine .then_exit ?_|refine .block_exit ?_|refine .block_other rfl ?_)
  refine StL.as TBok 1 (.bool false) rfl (bool_false (by omega)) ?_
  (repeat with_reducible first|refine .nil ?_|refine .then_normal ?_|refine .block_normal ?_|refine .seq ?_|refine .block ?_|refine .skip ?_|refine .region ?_|refine .ret ?_|refine .then_ret ?_|refine .block_ret ?_|refine .exit ?_|refine .then_exit ?_|refine .block_exit ?_|refine .block_other rfl ?_)
  refine St.condF rfl rfl ?_
  (iterate 6 ((repeat with_reducible first|refine .nil ?_|refine .then_normal ?_|refine .block_normal ?_|refine .seq ?_|refine .block ?_|refine .skip ?_|refine .region ?_|refine .ret ?_|refine .then_ret ?_|refine .block_ret ?_|refine .exit ?_|refine .then_exit ?_|refine .block_exit ?_|refine .block_other rfl ?_); try refine .run TBok 99 rfl ?_))
  have e2 : IntKind.u32.wrap (cy : Int) = (cy : Int) := u32_id (by omega) (by omega)
  refine StL.put TBok xs'.length hb2 rfl (by omega) (by simp; omega) rfl rfl rfl rfl rfl rfl rfl rfl (fun _ => rfl) (fun _ => rfl) rfl rfl ?_
  intro p4 w3 hb3 hu3
  rw [e2, Nat.zero_add, map_set_u32] at hb3
  have hx3 : Ext w' w3 := hx2.then_upd hu3 (Nat.le_refl _)
  have hO : SlO w'.heap.size w3 (.slice (some ⟨w'.heap.size, 0, none⟩) (xs'.length + 1) (xs'.length + 1)) (us.set xs'.length cy) :=
    ⟨Blk.own hb3 (by simp [hul]) (Nat.le_refl _) (by omega), hulim.set _ (by omega)⟩
  have hval : val (us.set xs'.length cy) = val xs' + val ys' := by
    have := val_take_set (us := us) (k := xs'.length) (by omega) cy
    rw [List.take_of_length_le (by simp; omega)] at this
    omega
  (iterate 6 ((repeat with_reducible first|refine .nil ?_|refine .then_normal ?_|refine .block_normal ?_|refine .seq ?_|refine .block ?_|refine .skip ?_|refine .region ?_|refine .ret ?_|refine .then_ret ?_|refine .block_ret ?_|refine .exit ?_|refine .then_exit ?_|refine .block_exit ?_|refine .block_other rfl ?_); try refine .run TBok 99 rfl ?_))
  refine StL.step rfl rfl rfl (OpR.call fn_integer_trim rfl (trim_spec w3 _ _ hO.sl (by simp; omega))) ?_
  rintro r w4 ⟨rfl, rfl, _⟩
  (iterate 6 ((repeat with_reducible first|refine .nil ?_|refine .then_normal ?_|refine .block_normal ?_|refine .seq ?_|refine .block ?_|refine .skip ?_|refine .region ?_|refine .ret ?_|refine .then_ret ?_|refine .block_ret ?_|refine .exit ?_|refine .then_exit ?_|refine .block_exit ?_|refine .block_other rfl ?_); try refine .run TBok 99 rfl ?_))
  refine Out.ret1 rfl rfl ⟨hx3, ?_⟩
  have := hO.trimmed
  rw [hval] at this ⊢
  exact this

end Go.Qf

/- integer.subNat. -/
namespace Go.Qf
open Go Go.RowKit Go.Proofs
set_option maxRecDepth 20000

theorem val_take_succ' (xs : List Nat) (k : Nat) : val (xs.take (k + 1)) = val (xs.take k) + xs.getD k 0 * 4294967296 ^ k := by
  by_cases h : k < xs.length
  · have hx : xs[k]? = some xs[k] := by simp [h]
    rw [val_take_succ hx]
    simp [List.getD_eq_getElem?_getD, hx]
  · rw [List.take_of_length_le (by omega), List.take_of_length_le (by omega), List.getD_eq_getElem?_getD, List.getElem?_eq_none (by omega)]
    simp

theorem lim_getD {xs : List Nat} (h : Lim xs) (k : Nat) : xs.getD k 0 < 4294967296 := by
  rw [List.getD_eq_getElem?_getD]
  cases hx : xs[k]? with
  | none => simp
  | some x => simpa using h.get hx

theorem step_sub (S X Y D c x y v c' : Nat) (h : S + Y = X + c * D) (hv : x + c' * 4294967296 = v + c + y) : (S + v * D) + (Y + y * D) = (X + x * D) + c' * (D * 4294967296) := by
  have h1 := congrArg (· * D) hv
  simp only [Nat.add_mul] at h1
  have e : c' * 4294967296 * D = c' * (D * 4294967296) := by rw [Nat.mul_assoc, Nat.mul_comm 4294967296]
  omega

set_option maxHeartbeats 400000 in
theorem subNat_spec (w : World) (u v : Value) (xs ys : List Nat) (h : Sl w u xs) (k : Sl w v ys) (hlen : xs.length ≤ 100000000) (_hl : ys.length ≤ 100000000) (hll : ys.length ≤ xs.length) (hge : val ys ≤ val xs) :
    Calls Try.prog 107 #[u, v] w (Ret fun r w' => Ext w w' ∧ SlO w.heap.size w' r (limbs (val xs - val ys))) := by
  obtain ⟨p, c, rfl, _⟩ := h.form
  obtain ⟨q, d, rfl, _⟩ := k.form
  refine calls_of_St (args := [_, _]) Try.func107 rfl Try.ntmps107 rfl ?_
  (iterate 6 ((repeat with_reducible first|refine .nil ?_|refine .then_normal ?_|refine .block_normal ?_|refine .seq ?_|refine .block ?_|refine .skip ?_|refine .region ?_|refine .ret ?_|refine .then_ret ?_|refine .block_ret ?_|refine .exit ?_|refine .then_exit ?_|refine .block_exit ?_|refine .block_other rfl ?_); try refine .run TBok 99 rfl ?_))
  refine StL.step rfl rfl rfl (OpR.make TBok xs.length rfl rfl rfl rfl rfl rfl rfl rfl (by simp; omega) (by omega)) ?_
  rintro _ w1 ⟨rfl, hb1, hx1, _⟩
  (iterate 6 ((repeat with_reducible first|refine .nil ?_|refine .then_normal ?_|refine .block_normal ?_|refine .seq ?_|refine .block ?_|refine .skip ?_|refine .region ?_|refine .ret ?_|refine .then_ret ?_|refine .block_ret ?_|refine .exit ?_|refine .then_exit ?_|refine .block_exit ?_|refine .block_other rfl ?_); try refine .run TBok 99 rfl ?_))
  refine St.loop (fun g : Nat × Nat × List Nat => [(0, .slice p xs.length c), (1, .slice q ys.length d), (5, .slice (some ⟨w.heap.size, 0, none⟩) xs.length xs.length), (6, .int .u64 g.2.1), (13, .int .i64 xs.length), (14, .int .i64 g.1)])
    (fun g w2 => Ext w w2 ∧ Blk 41 w2 w.heap.size (g.2.2.map u32) ∧ g.2.2.length = xs.length ∧ Lim g.2.2 ∧ g.2.1 ≤ 1 ∧ g.1 ≤ xs.length ∧ val (g.2.2.take g.1) + val (ys.take g.1) = val (xs.take g.1) + g.2.1 * 4294967296 ^ g.1)
    (fun g => xs.length - g.1) (0, 0, List.replicate xs.length 0) ⟨rfl, rfl, rfl, rfl, rfl, rfl, trivial⟩ ⟨hx1, by rw [List.map_replicate]; exact hb1, by simp, lim_replicate _, by simp, by simp, by simp [val]⟩ ?_
  rintro ⟨j, cy, us⟩ w2 ⟨hx2, hb2, hul, hulim, hcy, hj, heq⟩
  simp only at hb2 hul hulim hcy hj heq
  have hA := h.ext hx2
  have hB := k.ext hx2
  by_cases hlt : j < xs.length
  · have hxi : xs[j]? = some xs[j] := by simp
    generalize xs[j] = x at hxi
    have hxl := h.2.get hxi
    have hyl := lim_getD k.2 j
    (repeat with_reducible first|refine .nil ?_|refine .then_normal ?_|refine .block_normal ?_|refine .seq ?_|refine .block ?_|refine .skip ?_|refine .region ?_|refine .ret ?_|refine .then_ret ?_|refine .block_ret ?_|refine .exit ?_|refine .then_exit ?_|refine .block_exit ?_|refine .block_other rfl ?_)
    refine StL.as TBok 1 (.bool true) rfl (bool_true (by omega)) ?_
    (repeat with_reducible first|refine .nil ?_|refine .then_normal ?_|refine .block_normal ?_|refine .seq ?_|refine .block ?_|refine .skip ?_|refine .region ?_|refine .ret ?_|refine .then_ret ?_|refine .block_ret ?_|refine .exit ?_|refine .then_exit ?_|refine .block_exit ?_|refine .block_other rfl ?_)
    refine St.condT rfl rfl ?_
    (repeat with_reducible first|refine .nil ?_|refine .then_normal ?_|refine .block_normal ?_|refine .seq ?_|refine .block ?_|refine .skip ?_|refine .region ?_|refine .ret ?_|refine .then_ret ?_|refine .block_ret ?_|refine .exit ?_|refine .then_exit ?_|refine .block_exit ?_|refine .block_other rfl ?_)
    refine .run TBok 99 rfl ?_
    (repeat with_reducible first|refine .nil ?_|refine .then_normal ?_|refine .block_normal ?_|refine .seq ?_|refine .block ?_|refine .skip ?_|refine .region ?_|refine .ret ?_|refine .then_ret ?_|refine .block_ret ?_|refine .exit ?_|refine .then_exit ?_|refine .block_exit ?_|refine .block_other rfl ?_)
    refine .run TBok 99 rfl ?_
    refine StL.elem TBok j (u32 x) hA.1 (hA.get hxi) rfl rfl rfl rfl rfl rfl rfl rfl rfl rfl rfl (fun _ => rfl) ?_
    intro p1
    refine .run TBok 99 rfl ?_
    (refine StL.nil ?_; repeat with_reducible first | refine Out.then_normal ?_ | refine Out.block_normal ?_)
    refine St.cut (fun t : Int => [(0, .slice p xs.length c), (1, .slice q ys.length d), (5, .slice (some ⟨w.heap.size, 0, none⟩) xs.length xs.length), (7, .int .i64 j), (8, .int .u64 t), (13, .int .i64 xs.length), (14, .int .i64 j)])
      (fun t w3 => w3 = w2 ∧ t = IntKind.u64.wrap ((x : Int) - cy - ys.getD j 0)) ?_ ?_
    · (repeat with_reducible first|refine .nil ?_|refine .then_normal ?_|refine .block_normal ?_|refine .seq ?_|refine .block ?_|refine .skip ?_|refine .region ?_|refine .ret ?_|refine .then_ret ?_|refine .block_ret ?_|refine .exit ?_|refine .then_exit ?_|refine .block_exit ?_|refine .block_other rfl ?_)
      by_cases hy : j < ys.length
      · have hyi : ys[j]? = some ys[j] := by simp
        generalize ys[j] = y at hyi
        have hyD : ys.getD j 0 = y := by simp [List.getD_eq_getElem?_getD, hyi]
        refine StL.as TBok 4 (.bool true) rfl (bool_true (by omega)) ?_
        (repeat with_reducible first|refine .nil ?_|refine .then_normal ?_|refine .block_normal ?_|refine .seq ?_|refine .block ?_|refine .skip ?_|refine .region ?_|refine .ret ?_|refine .then_ret ?_|refine .block_ret ?_|refine .exit ?_|refine .then_exit ?_|refine .block_exit ?_|refine .block_other rfl ?_)
        refine St.condT rfl rfl ?_
        (repeat with_reducible first|refine .nil ?_|refine .then_normal ?_|refine .block_normal ?_|refine .seq ?_|refine .block ?_|refine .skip ?_|refine .region ?_|refine .ret ?_|refine .then_ret ?_|refine .block_ret ?_|refine .exit ?_|refine .then_exit ?_|refine .block_exit ?_|refine .block_other rfl ?_)
        refine .run TBok 99 rfl ?_
        refine StL.elem TBok j (u32 y) hB.1 (hB.get hyi) rfl rfl rfl rfl rfl rfl rfl rfl rfl rfl rfl (fun _ => rfl) ?_
        intro p2
        refine .run TBok 99 rfl ?_
        refine StL.nil (Out.met _ ⟨rfl, rfl, rfl, rfl, rfl, rfl, rfl, trivial⟩ ⟨rfl, ?_⟩)
        rw [hyD]
        rw [hyD] at hyl
        simp only [wrap_u64]; omega
      · have hyD : ys.getD j 0 = 0 := by rw [List.getD_eq_getElem?_getD, List.getElem?_eq_none (by omega)]; rfl
        refine StL.as TBok 4 (.bool false) rfl (bool_false (by omega)) ?_
        (repeat with_reducible first|refine .nil ?_|refine .then_normal ?_|refine .block_normal ?_|refine .seq ?_|refine .block ?_|refine .skip ?_|refine .region ?_|refine .ret ?_|refine .then_ret ?_|refine .block_ret ?_|refine .exit ?_|refine .then_exit ?_|refine .block_exit ?_|refine .block_other rfl ?_)
        refine St.condF rfl rfl ?_
        refine St.skip (Out.met _ ⟨rfl, rfl, rfl, rfl, rfl, rfl, rfl, trivial⟩ ⟨rfl, ?_⟩)
        rw [hyD]
        simp only [wrap_u64]; omega
    rintro t w3 ⟨rfl, rfl⟩
    generalize hy : ys.getD j 0 = y at *
    (iterate 6 ((repeat with_reducible first|refine .nil ?_|refine .then_normal ?_|refine .block_normal ?_|refine .seq ?_|refine .block ?_|refine .skip ?_|refine .region ?_|refine .ret ?_|refine .then_ret ?_|refine .block_ret ?_|refine .exit ?_|refine .then_exit ?_|refine .block_exit ?_|refine .block_other rfl ?_); try refine .run TBok 99 rfl ?_))
    have e2 : IntKind.u32.wrap (IntKind.u64.wrap ((x : Int) - cy - y)) = (((x + 8589934592 - cy - y) % 4294967296 : Nat) : Int) := by
      simp only [wrap_u32, wrap_u64]; omega
    refine StL.put TBok j hb2 rfl (by omega) (by simp; omega) rfl rfl rfl rfl rfl rfl rfl rfl (fun _ => rfl) (fun _ => rfl) rfl rfl ?_
    intro p3 w4 hb3 hu3
    rw [e2, Nat.zero_add, map_set_u32] at hb3
    (iterate 6 ((repeat with_reducible first|refine .nil ?_|refine .then_normal ?_|refine .block_normal ?_|refine .seq ?_|refine .block ?_|refine .skip ?_|refine .region ?_|refine .ret ?_|refine .then_ret ?_|refine .block_ret ?_|refine .exit ?_|refine .then_exit ?_|refine .block_exit ?_|refine .block_other rfl ?_); try refine .run TBok 99 rfl ?_))
    refine Out.again (j + 1, (if x < cy + y then 1 else 0), us.set j ((x + 8589934592 - cy - y) % 4294967296)) ⟨rfl, rfl, rfl, ?_, rfl, ?_, trivial⟩ ⟨hx2.then_upd hu3 (Nat.le_refl _), hb3, by simpa using hul, hulim.set _ (by omega), by simp only; split <;> omega, by simp only; omega, ?_⟩ (by simp only; omega)
    · show some (Value.int .u64 (IntKind.u64.wrap ((x : Int) - cy - y) / 2 ^ 63)) = some (Value.int .u64 ((if x < cy + y then 1 else 0 : Nat) : Int))
      congr 2
      rw [wrap_u64]
      split <;> omega
    · show some (Value.int .i64 (IntKind.i64.wrap ((j : Int) + 1))) = _
      rw [i64_id (by omega) (by omega)]
      rfl
    · simp only
      rw [val_take_set (by omega), val_take_succ hxi, val_take_succ', hy, Nat.pow_succ]
      refine step_sub _ _ _ _ _ _ _ _ _ heq ?_
      split <;> omega
  obtain rfl : j = xs.length := by omega
  rw [List.take_length, List.take_of_length_le hll, List.take_of_length_le (by omega)] at heq
  have hsz := val_lt us hulim
  rw [hul] at hsz
  have hc0 : cy = 0 := by
    rcases Nat.lt_or_ge cy 1 with h0 | h0
    · omega
    · have : cy = 1 := by omega
      subst this
      omega
  subst hc0
  clear hlt hj
  (repeat with_reducible first|refine .nil ?_|refine .then_normal ?_|refine .block_normal ?_|refine .seq ?_|refine .block ?_|refine .skip ?_|refine .region ?_|refine .ret ?_|refine .then_ret ?_|refine .block_ret ?_|refine .exit ?_|refine .then_exit ?_|refine .block_exit ?_|refine .block_other rfl ?_)
  refine StL.as TBok 1 (.bool false) rfl (bool_false (by omega)) ?_
  (repeat with_reducible first|refine .nil ?_|refine .then_normal ?_|refine .block_normal ?_|refine .seq ?_|refine .block ?_|refine .skip ?_|refine .region ?_|refine .ret ?_|refine .then_ret ?_|refine .block_ret ?_|refine .exit ?_|refine .then_exit ?_|refine .block_exit ?_|refine .block_other rfl ?_)
  refine St.condF rfl rfl ?_
  (iterate 6 ((repeat with_reducible first|refine .nil ?_|refine .then_normal ?_|refine .block_normal ?_|refine .seq ?_|refine .block ?_|refine .skip ?_|refine .region ?_|refine .ret ?_|refine .then_ret ?_|refine .block_ret ?_|refine .exit ?_|refine .then_exit ?_|refine .block_exit ?_|refine .block_other rfl ?_); try refine .run TBok 99 rfl ?_))
  have hO : SlO w.heap.size w2 (.slice (some ⟨w.heap.size, 0, none⟩) xs.length xs.length) us :=
    ⟨Blk.own hb2 (by simp [hul]) (Nat.le_refl _) (by omega), hulim⟩
  refine StL.step rfl rfl rfl (OpR.call fn_integer_trim rfl (trim_spec w2 _ _ hO.sl (by omega))) ?_
  rintro r w4 ⟨rfl, rfl, _⟩
  (iterate 6 ((repeat with_reducible first|refine .nil ?_|refine .then_normal ?_|refine .block_normal ?_|refine .seq ?_|refine .block ?_|refine .skip ?_|refine .region ?_|refine .ret ?_|refine .then_ret ?_|refine .block_ret ?_|refine .exit ?_|refine .then_exit ?_|refine .block_exit ?_|refine .block_other rfl ?_); try refine .run TBok 99 rfl ?_))
  refine Out.ret1 rfl rfl ⟨hx2, ?_⟩
  have := hO.trimmed
  rw [show val xs - val ys = val us from by omega]
  exact this

end Go.Qf

/- integer.mulNat. -/
namespace Go.Qf
open Go Go.RowKit Go.Proofs
set_option maxRecDepth 20000

theorem mul_step (S S0 T D Di Dj c x y z v c' : Nat) (hD : D = Di * Dj) (h : S + c * D = S0 + x * T * Di) (ht : v + c' * 4294967296 = c + x * y + z) : (S + v * D) + c' * (D * 4294967296) = (S0 + z * D) + x * (T + y * Dj) * Di := by
  have h1 := congrArg (· * D) ht
  simp only [Nat.add_mul] at h1
  have e : c' * 4294967296 * D = c' * (D * 4294967296) := by rw [Nat.mul_assoc, Nat.mul_comm 4294967296]
  have e2 : x * (T + y * Dj) * Di = x * T * Di + x * y * D := by
    rw [Nat.mul_add, Nat.add_mul, hD]
    congr 1
    rw [Nat.mul_assoc, Nat.mul_assoc, Nat.mul_assoc, Nat.mul_comm Dj]
  omega

theorem mul_bound {c x y z : Nat} (hc : c < 4294967296) (hx : x < 4294967296) (hy : y < 4294967296) (hz : z < 4294967296) : c + x * y + z < 18446744073709551616 := by
  have : x * y ≤ 4294967295 * 4294967295 := Nat.mul_le_mul (by omega) (by omega)
  omega

theorem getElem?_of_drop {us vs : List Nat} {k j : Nat} (h : us.drop k = vs.drop k) (hj : k ≤ j) : us[j]? = vs[j]? := by
  have h1 : (us.drop k)[j - k]? = (vs.drop k)[j - k]? := by rw [h]
  simpa [List.getElem?_drop, show k + (j - k) = j from by omega] using h1

theorem drop_set_of {us vs : List Nat} {k v : Nat} (h : us.drop k = vs.drop k) : (us.set k v).drop (k + 1) = vs.drop (k + 1) := by
  rw [List.drop_set_of_lt (by omega)]
  have : (us.drop k).drop 1 = (vs.drop k).drop 1 := by rw [h]
  simpa [List.drop_drop, Nat.add_comm] using this

theorem word_small (w : World) (u : Value) (xs : List Nat) (h : Sl w u xs) (hl : xs.length ≤ 1) : val xs < 4294967296 := by
  match xs, hl with
  | [], _ => simp [val]
  | [a], _ => have := h.2 a (by simp); simp only [val]; omega

set_option maxHeartbeats 1000000 in
theorem mulNat_spec (w : World) (u v : Value) (xs ys : List Nat) (h : Sl w u xs) (k : Sl w v ys) (hlen : xs.length ≤ 100000000) (hl : ys.length ≤ 100000000) :
    Calls Try.prog 123 #[u, v] w (Ret fun r w' => Ext w w' ∧ SlO w.heap.size w' r (limbs (val xs * val ys))) := by
  obtain ⟨p, c, rfl, _⟩ := h.form
  obtain ⟨q, d, rfl, _⟩ := k.form
  refine calls_of_St (args := [_, _]) Try.func123 rfl Try.ntmps123 rfl ?_
  refine St.seq (St.region (StL.run TBok 99 rfl (StL.nil (Out.then_normal ?_))))
  by_cases hs : xs.length ≤ 1 ∧ ys.length ≤ 1
  · have hx1 := word_small w _ xs h hs.1
    have hy1 := word_small w _ ys k hs.2
    have hxy : val xs * val ys < 18446744073709551616 := by
      have : val xs * val ys ≤ 4294967295 * 4294967295 := Nat.mul_le_mul (by omega) (by omega)
      omega
    (repeat with_reducible first|refine .nil ?_|refine .then_normal ?_|refine .block_normal ?_|refine .seq ?_|refine .block ?_|refine .skip ?_|refine .region ?_|refine .ret ?_|refine .then_ret ?_|refine .block_ret ?_|refine .exit ?_|refine .then_exit ?_|refine .block_exit ?_|refine .block_other rfl ?_)
    refine StL.as TBok 3 (.bool true) rfl (bool_true (by omega)) ?_
    refine StL.as TBok 4 (.bool true) rfl (bool_true (by omega)) ?_
    (iterate 6 ((repeat with_reducible first|refine .nil ?_|refine .then_normal ?_|refine .block_normal ?_|refine .seq ?_|refine .block ?_|refine .skip ?_|refine .region ?_|refine .ret ?_|refine .then_ret ?_|refine .block_ret ?_|refine .exit ?_|refine .then_exit ?_|refine .block_exit ?_|refine .block_other rfl ?_); try refine .run TBok 99 rfl ?_))
    refine St.condT rfl rfl ?_
    (iterate 6 ((repeat with_reducible first|refine .nil ?_|refine .then_normal ?_|refine .block_normal ?_|refine .seq ?_|refine .block ?_|refine .skip ?_|refine .region ?_|refine .ret ?_|refine .then_ret ?_|refine .block_ret ?_|refine .exit ?_|refine .then_exit ?_|refine .block_exit ?_|refine .block_other rfl ?_); try refine .run TBok 99 rfl ?_))
    refine StL.step rfl rfl rfl (OpR.call fn_integer_word rfl (word_spec w _ xs h (by omega))) ?_
    rintro r w1 ⟨rfl, rfl⟩
    refine .run TBok 99 rfl ?_
    refine StL.step rfl rfl rfl (OpR.call fn_integer_word rfl (word_spec _ _ ys k (by omega))) ?_
    rintro r w2 ⟨rfl, rfl⟩
    refine StL.as TBok 1 (.int .u64 ((val xs * val ys : Nat) : Int)) rfl ?_ ?_
    · rw [show ((val xs : Int) * (val ys : Int)) = ((val xs * val ys : Nat) : Int) from by simp, u64_id (by omega) (by omega)]
    refine StL.step rfl rfl rfl (OpR.call fn_integer_fromWord rfl (fromWord_spec _ _ hxy)) ?_
    rintro r w3 ⟨hx3, hr⟩
    (iterate 6 ((repeat with_reducible first|refine .nil ?_|refine .then_normal ?_|refine .block_normal ?_|refine .seq ?_|refine .block ?_|refine .skip ?_|refine .region ?_|refine .ret ?_|refine .then_ret ?_|refine .block_ret ?_|refine .exit ?_|refine .then_exit ?_|refine .block_exit ?_|refine .block_other rfl ?_); try refine .run TBok 99 rfl ?_))
    exact Out.ret1 rfl rfl ⟨hx3, hr⟩
  refine St.cut (fun _ : Unit => [(0, .slice p xs.length c), (1, .slice q ys.length d)]) (fun _ w' => w' = w) ?_ ?_
  · (repeat with_reducible first|refine .nil ?_|refine .then_normal ?_|refine .block_normal ?_|refine .seq ?_|refine .block ?_|refine .skip ?_|refine .region ?_|refine .ret ?_|refine .then_ret ?_|refine .block_ret ?_|refine .exit ?_|refine .then_exit ?_|refine .block_exit ?_|refine .block_other rfl ?_)
    by_cases h1 : xs.length ≤ 1
    · refine StL.as TBok 3 (.bool true) rfl (bool_true (by omega)) ?_
      refine StL.as TBok 4 (.bool false) rfl (bool_false (by omega)) ?_
      (iterate 6 ((repeat with_reducible first|refine .nil ?_|refine .then_normal ?_|refine .block_normal ?_|refine .seq ?_|refine .block ?_|refine .skip ?_|refine .region ?_|refine .ret ?_|refine .then_ret ?_|refine .block_ret ?_|refine .exit ?_|refine .then_exit ?_|refine .block_exit ?_|refine .block_other rfl ?_); try refine .run TBok 99 rfl ?_))
      refine St.condF rfl rfl (St.skip (Out.met () ⟨rfl, rfl, trivial⟩ rfl))
    · refine StL.as TBok 3 (.bool false) rfl (bool_false (by omega)) ?_
      (iterate 6 ((repeat with_reducible first|refine .nil ?_|refine .then_normal ?_|refine .block_normal ?_|refine .seq ?_|refine .block ?_|refine .skip ?_|refine .region ?_|refine .ret ?_|refine .then_ret ?_|refine .block_ret ?_|refine .exit ?_|refine .then_exit ?_|refine .block_exit ?_|refine .block_other rfl ?_); try refine .run TBok 99 rfl ?_))
      refine St.condF rfl rfl (St.skip (Out.met () ⟨rfl, rfl, trivial⟩ rfl))
  rintro _ w' rfl
  clear hs
  (iterate 6 ((repeat with_reducible first|refine .nil ?_|refine .then_normal ?_|refine .block_normal ?_|refine .seq ?_|refine .block ?_|refine .skip ?_|refine .region ?_|refine .ret ?_|refine .then_ret ?_|refine .block_ret ?_|refine .exit ?_|refine .then_exit ?_|refine .block_exit ?_|refine .block_other rfl ?_); try refine .run TBok 99 rfl ?_))
  refine StL.step rfl rfl rfl (OpR.make TBok (xs.length + ys.length) rfl rfl rfl rfl rfl (by rw [i64_id (by omega) (by omega)]; omega) rfl (by rw [i64_id (by omega) (by omega)]; omega) (by simp; omega) (by omega)) ?_
  rintro _ w1 ⟨rfl, hb1, hx1, _⟩
  (iterate 6 ((repeat with_reducible first|refine .nil ?_|refine .then_normal ?_|refine .block_normal ?_|refine .seq ?_|refine .block ?_|refine .skip ?_|refine .region ?_|refine .ret ?_|refine .then_ret ?_|refine .block_ret ?_|refine .exit ?_|refine .then_exit ?_|refine .block_exit ?_|refine .block_other rfl ?_); try refine .run TBok 99 rfl ?_))
  refine St.loop (fun g : Nat × List Nat => [(0, .slice p xs.length c), (1, .slice q ys.length d), (5, .slice (some ⟨w'.heap.size, 0, none⟩) (xs.length + ys.length) (xs.length + ys.length)), (32, .slice p xs.length c), (33, .int .i64 xs.length), (34, .int .i64 g.1)])
    (fun g w2 => Ext w' w2 ∧ Blk 41 w2 w'.heap.size (g.2.map u32) ∧ g.2.length = xs.length + ys.length ∧ Lim g.2 ∧ g.1 ≤ xs.length ∧ val (g.2.take (g.1 + ys.length)) = val (xs.take g.1) * val ys ∧ ∀ j, g.1 + ys.length ≤ j → j < g.2.length → g.2[j]? = some 0)
    (fun g => xs.length - g.1) (0, List.replicate (xs.length + ys.length) 0) ⟨rfl, rfl, rfl, rfl, rfl, rfl, trivial⟩ ⟨hx1, by rw [List.map_replicate]; exact hb1, by simp, lim_replicate _, by simp, by simp [val, List.take_replicate, val_replicate_zero], fun j _ h2 => by simp at h2; simp [List.getElem?_replicate]; omega⟩ ?_
  rintro ⟨i, us⟩ w2 ⟨hx2, hb2, hul, hulim, hi, heq, hz⟩
  simp only at hb2 hul hulim hi heq hz
  have hA := h.ext hx2
  by_cases hlt : i < xs.length
  · have hxi : xs[i]? = some xs[i] := by simp
    generalize xs[i] = x at hxi
    have hxl := h.2.get hxi
    (repeat with_reducible first|refine .nil ?_|refine .then_normal ?_|refine .block_normal ?_|refine .seq ?_|refine .block ?_|refine .skip ?_|refine .region ?_|refine .ret ?_|refine .then_ret ?_|refine .block_ret ?_|refine .exit ?_|refine .then_exit ?_|refine .block_exit ?_|refine .block_other rfl ?_)
    refine StL.as TBok 1 (.bool true) rfl (bool_true (by omega)) ?_
    (repeat with_reducible first|refine .nil ?_|refine .then_normal ?_|refine .block_normal ?_|refine .seq ?_|refine .block ?_|refine .skip ?_|refine .region ?_|refine .ret ?_|refine .then_ret ?_|refine .block_ret ?_|refine .exit ?_|refine .then_exit ?_|refine .block_exit ?_|refine .block_other rfl ?_)
    refine St.condT rfl rfl ?_
    (iterate 6 ((repeat with_reducible first|refine .nil ?_|refine .then_normal ?_|refine .block_normal ?_|refine .seq ?_|refine .block ?_|refine .skip ?_|refine .region ?_|refine .ret ?_|refine .then_ret ?_|refine .block_ret ?_|refine .exit ?_|refine .then_exit ?_|refine .block_exit ?_|refine .block_other rfl ?_); try refine .run TBok 99 rfl ?_))
    refine StL.elem TBok i (u32 x) hA.1 (hA.get hxi) rfl rfl rfl rfl rfl rfl rfl rfl rfl rfl rfl (fun _ => rfl) ?_
    intro p1
    (iterate 6 ((repeat with_reducible first|refine .nil ?_|refine .then_normal ?_|refine .block_normal ?_|refine .seq ?_|refine .block ?_|refine .skip ?_|refine .region ?_|refine .ret ?_|refine .then_ret ?_|refine .block_ret ?_|refine .exit ?_|refine .then_exit ?_|refine .block_exit ?_|refine .block_other rfl ?_); try refine .run TBok 99 rfl ?_))
    by_cases hx0 : x = 0
    · subst hx0
      refine St.condT rfl rfl ?_
      (iterate 6 ((repeat with_reducible first|refine .nil ?_|refine .then_normal ?_|refine .block_normal ?_|refine .seq ?_|refine .block ?_|refine .skip ?_|refine .region ?_|refine .ret ?_|refine .then_ret ?_|refine .block_ret ?_|refine .exit ?_|refine .then_exit ?_|refine .block_exit ?_|refine .block_other rfl ?_); try refine .run TBok 99 rfl ?_))
      refine Out.again (i + 1, us) ⟨rfl, rfl, rfl, rfl, rfl, ?_, trivial⟩ ⟨hx2, hb2, hul, hulim, by simp only; omega, ?_, fun j h1 h2 => hz j (by simp only at h1; omega) h2⟩ (by simp only; omega)
      · show some (Value.int .i64 (IntKind.i64.wrap ((i : Int) + 1))) = _
        rw [i64_id (by omega) (by omega)]
        rfl
      · simp only
        rw [show i + 1 + ys.length = i + ys.length + 1 from by omega, val_take_succ (hz (i + ys.length) (by omega) (by omega)), val_take_succ hxi]
        simpa using heq
    refine St.condF rfl (by simp; omega) ?_
    (iterate 6 ((repeat with_reducible first|refine .nil ?_|refine .then_normal ?_|refine .block_normal ?_|refine .seq ?_|refine .block ?_|refine .skip ?_|refine .region ?_|refine .ret ?_|refine .then_ret ?_|refine .block_ret ?_|refine .exit ?_|refine .then_exit ?_|refine .block_exit ?_|refine .block_other rfl ?_); try refine .run TBok 99 rfl ?_))
    have eL : IntKind.i64.wrap (IntKind.i64.wrap ((i : Int) + (ys.length : Int)) + 1) = ((i + ys.length + 1 : Nat) : Int) := by
      rw [i64_id (n := (i : Int) + (ys.length : Int)) (by omega) (by omega), i64_id (by omega) (by omega)]; omega
    refine StL.step rfl rfl rfl (RunsTo.sliceLoHi TBok rfl rfl rfl rfl rfl rfl (by omega) (by rw [eL]; omega) (by rw [eL]; omega) (by omega)).op ?_
    rintro _ _ ⟨rfl, rfl⟩
    rw [eL, show (((i + ys.length + 1 : Nat) : Int).toNat - (i : Int).toNat) = ys.length + 1 from by omega, show (0 + (i : Int).toNat) = i from by omega, show xs.length + ys.length - (i : Int).toNat = xs.length + ys.length - i from by omega]
    (iterate 6 ((repeat with_reducible first|refine .nil ?_|refine .then_normal ?_|refine .block_normal ?_|refine .seq ?_|refine .block ?_|refine .skip ?_|refine .region ?_|refine .ret ?_|refine .then_ret ?_|refine .block_ret ?_|refine .exit ?_|refine .then_exit ?_|refine .block_exit ?_|refine .block_other rfl ?_); try refine .run TBok 99 rfl ?_))
    refine St.loop (fun g : Nat × Nat × List Nat => [(0, .slice p xs.length c), (1, .slice q ys.length d), (5, .slice (some ⟨w'.heap.size, 0, none⟩) (xs.length + ys.length) (xs.length + ys.length)), (32, .slice p xs.length c), (33, .int .i64 xs.length), (34, .int .i64 i), (7, u32 x), (8, .slice (some ⟨w'.heap.size, i, none⟩) (ys.length + 1) (xs.length + ys.length - i)), (9, .int .u64 g.2.1), (49, .slice q ys.length d), (50, .int .i64 ys.length), (51, .int .i64 g.1)])
      (fun g w3 => Ext w' w3 ∧ Blk 41 w3 w'.heap.size (g.2.2.map u32) ∧ g.2.2.length = xs.length + ys.length ∧ Lim g.2.2 ∧ g.2.1 < 4294967296 ∧ g.1 ≤ ys.length ∧ g.2.2.drop (i + g.1) = us.drop (i + g.1) ∧ val (g.2.2.take (i + g.1)) + g.2.1 * 4294967296 ^ (i + g.1) = val (us.take (i + g.1)) + x * val (ys.take g.1) * 4294967296 ^ i)
      (fun g => ys.length - g.1) (0, 0, us) ⟨rfl, rfl, rfl, rfl, rfl, rfl, rfl, rfl, rfl, rfl, rfl, rfl, trivial⟩ ⟨hx2, hb2, hul, hulim, by simp, by simp, rfl, by simp [val]⟩ ?_
    rintro ⟨j, cy, vs⟩ w3 ⟨hx3, hb3, hvl, hvlim, hcy, hj, hdr, heq3⟩
    simp only at hb3 hvl hvlim hcy hj hdr heq3
    have hB := k.ext hx3
    by_cases hlt2 : j < ys.length
    · have hyi : ys[j]? = some ys[j] := by simp
      generalize ys[j] = y at hyi
      have hyl := k.2.get hyi
      have hzi : vs[i + j]? = some vs[i + j] := by simp
      generalize vs[i + j] = z at hzi
      have hzl := hvlim.get hzi
      have hzu : us[i + j]? = some z := by rw [← getElem?_of_drop hdr (Nat.le_refl _)]; exact hzi
      have hbd := mul_bound hcy hxl hyl hzl
      (repeat with_reducible first|refine .nil ?_|refine .then_normal ?_|refine .block_normal ?_|refine .seq ?_|refine .block ?_|refine .skip ?_|refine .region ?_|refine .ret ?_|refine .then_ret ?_|refine .block_ret ?_|refine .exit ?_|refine .then_exit ?_|refine .block_exit ?_|refine .block_other rfl ?_)
      refine StL.as TBok 1 (.bool true) rfl (bool_true (by omega)) ?_
      (repeat with_reducible first|refine .nil ?_|refine .then_normal ?_|refine .block_normal ?_|refine .seq ?_|refine .block ?_|refine .skip ?_|refine .region ?_|refine .ret ?_|refine .then_ret ?_|refine .block_ret ?_|refine .exit ?_|refine .then_exit ?_|refine .block_exit ?_|refine .block_other rfl ?_)
      refine St.condT rfl rfl ?_
      (iterate 6 ((repeat with_reducible first|refine .nil ?_|refine .then_normal ?_|refine .block_normal ?_|refine .seq ?_|refine .block ?_|refine .skip ?_|refine .region ?_|refine .ret ?_|refine .then_ret ?_|refine .block_ret ?_|refine .exit ?_|refine .then_exit ?_|refine .block_exit ?_|refine .block_other rfl ?_); try refine .run TBok 99 rfl ?_))
      refine StL.elem TBok j (u32 y) hB.1 (hB.get hyi) rfl rfl rfl rfl rfl rfl rfl rfl rfl rfl rfl (fun _ => rfl) ?_
      intro p2
      (iterate 6 ((repeat with_reducible first|refine .nil ?_|refine .then_normal ?_|refine .block_normal ?_|refine .seq ?_|refine .block ?_|refine .skip ?_|refine .region ?_|refine .ret ?_|refine .then_ret ?_|refine .block_ret ?_|refine .exit ?_|refine .then_exit ?_|refine .block_exit ?_|refine .block_other rfl ?_); try refine .run TBok 99 rfl ?_))
      refine StL.elemB TBok j (u32 z) hb3 (by simp [hzi]) rfl (by omega) rfl rfl rfl rfl rfl rfl rfl rfl rfl rfl (fun _ => rfl) ?_
      intro p3
      have e1 : IntKind.u64.wrap ((cy : Int) + IntKind.u64.wrap (IntKind.u64.wrap (IntKind.u64.wrap (x : Int) * IntKind.u64.wrap (y : Int)) + IntKind.u64.wrap (z : Int))) = ((cy + x * y + z : Nat) : Int) := by
        rw [u64_id (n := (x : Int)) (by omega) (by omega), u64_id (n := (y : Int)) (by omega) (by omega), show (x : Int) * (y : Int) = ((x * y : Nat) : Int) from by simp]
        generalize x * y = xy at hbd
        simp only [wrap_u64]; omega
      refine StL.as TBok 3 (.int .u64 ((cy + x * y + z : Nat) : Int)) rfl (by rw [e1]) ?_
      generalize ht : cy + x * y + z = t at hbd
      (iterate 6 ((repeat with_reducible first|refine .nil ?_|refine .then_normal ?_|refine .block_normal ?_|refine .seq ?_|refine .block ?_|refine .skip ?_|refine .region ?_|refine .ret ?_|refine .then_ret ?_|refine .block_ret ?_|refine .exit ?_|refine .then_exit ?_|refine .block_exit ?_|refine .block_other rfl ?_); try refine .run TBok 99 rfl ?_))
      have e2 : IntKind.u32.wrap (t : Int) = ((t % 4294967296 : Nat) : Int) := by rw [wrap_u32]; omega
      refine StL.put TBok j hb3 rfl (by omega) (by simp; omega) rfl rfl rfl rfl rfl rfl rfl rfl (fun _ => rfl) (fun _ => rfl) rfl rfl ?_
      intro p4 w4 hb4 hu4
      rw [e2, map_set_u32] at hb4
      (iterate 6 ((repeat with_reducible first|refine .nil ?_|refine .then_normal ?_|refine .block_normal ?_|refine .seq ?_|refine .block ?_|refine .skip ?_|refine .region ?_|refine .ret ?_|refine .then_ret ?_|refine .block_ret ?_|refine .exit ?_|refine .then_exit ?_|refine .block_exit ?_|refine .block_other rfl ?_); try refine .run TBok 99 rfl ?_))
      refine Out.again (j + 1, t / 4294967296, vs.set (i + j) (t % 4294967296)) ⟨rfl, rfl, rfl, rfl, rfl, rfl, rfl, rfl, ?_, rfl, rfl, ?_, trivial⟩ ⟨hx3.then_upd hu4 (Nat.le_refl _), hb4, by simpa using hvl, hvlim.set _ (by omega), by simp only; omega, by simp only; omega, ?_, ?_⟩ (by simp only; omega)
      · show some (Value.int .u64 ((t : Int) / 2 ^ 32)) = some (Value.int .u64 ((t / 4294967296 : Nat) : Int))
        rw [show (t : Int) / 2 ^ 32 = ((t / 4294967296 : Nat) : Int) from by omega]
      · show some (Value.int .i64 (IntKind.i64.wrap ((j : Int) + 1))) = _
        rw [i64_id (by omega) (by omega)]
        rfl
      · simp only
        rw [← Nat.add_assoc]
        exact drop_set_of hdr
      · simp only
        rw [← Nat.add_assoc, val_take_set (by omega), val_take_succ hzu, val_take_succ hyi, Nat.pow_succ]
        exact mul_step _ _ _ _ _ _ _ _ _ _ _ _ (Nat.pow_add _ _ _) heq3 (by omega)
    obtain rfl : j = ys.length := by omega
    rw [List.take_length] at heq3
    clear hlt2 hj
    (repeat with_reducible first|refine .nil ?_|refine .then_normal ?_|refine .block_normal ?_|refine .seq ?_|refine .block ?_|refine .skip ?_|refine .region ?_|refine .ret ?_|refine .then_ret ?_|refine .block_ret ?_|refine .exit ?_|refine .then_exit ?_|refine .block_exit ?_|refine .block_other rfl ?_)
    refine StL.as TBok 1 (.bool false) rfl (bool_false (by omega)) ?_
    (repeat with_reducible first|refine .nil ?_|refine .then_normal ?_|refine .block_normal ?_|refine .seq ?_|refine .block ?_|refine .skip ?_|refine .region ?_|refine .ret ?_|refine .then_ret ?_|refine .block_ret ?_|refine .exit ?_|refine .then_exit ?_|refine .block_exit ?_|refine .block_other rfl ?_)
    refine St.condF rfl rfl ?_
    (iterate 6 ((repeat with_reducible first|refine .nil ?_|refine .then_normal ?_|refine .block_normal ?_|refine .seq ?_|refine .block ?_|refine .skip ?_|refine .region ?_|refine .ret ?_|refine .then_ret ?_|refine .block_ret ?_|refine .exit ?_|refine .then_exit ?_|refine .block_exit ?_|refine .block_other rfl ?_); try refine .run TBok 99 rfl ?_))
    have e2 : IntKind.u32.wrap (cy : Int) = (cy : Int) := u32_id (by omega) (by omega)
    refine StL.put TBok ys.length hb3 rfl (by omega) (by simp; omega) rfl rfl rfl rfl rfl rfl rfl rfl (fun _ => rfl) (fun _ => rfl) rfl rfl ?_
    intro p4 w4 hb4 hu4
    rw [e2, map_set_u32] at hb4
    (iterate 6 ((repeat with_reducible first|refine .nil ?_|refine .then_normal ?_|refine .block_normal ?_|refine .seq ?_|refine .block ?_|refine .skip ?_|refine .region ?_|refine .ret ?_|refine .then_ret ?_|refine .block_ret ?_|refine .exit ?_|refine .then_exit ?_|refine .block_exit ?_|refine .block_other rfl ?_); try refine .run TBok 99 rfl ?_))
    refine Out.again (i + 1, vs.set (i + ys.length) cy) ⟨rfl, rfl, rfl, rfl, rfl, ?_, trivial⟩ ⟨hx3.then_upd hu4 (Nat.le_refl _), hb4, by simpa using hvl, hvlim.set _ hcy, by simp only; omega, ?_, ?_⟩ (by simp only; omega)
    · show some (Value.int .i64 (IntKind.i64.wrap ((i : Int) + 1))) = _
      rw [i64_id (by omega) (by omega)]
      rfl
    · simp only
      rw [show i + 1 + ys.length = i + ys.length + 1 from by omega, val_take_set (by omega), heq3, heq, val_take_succ hxi, Nat.add_mul]
      congr 1
      rw [Nat.mul_assoc, Nat.mul_assoc, Nat.mul_comm (val ys)]
    · intro j h1 h2
      simp only at h1 h2 ⊢
      rw [List.getElem?_set_ne (by omega), getElem?_of_drop hdr (by omega)]
      exact hz j (by omega) (by simp at h2; omega)
  obtain rfl : i = xs.length := by omega
  rw [List.take_length, List.take_of_length_le (by omega)] at heq
  clear hlt hi
  (repeat with_reducible first|refine .nil ?_|refine .then_normal ?_|refine .block_normal ?_|refine .seq ?_|refine .block ?_|refine .skip ?_|refine .region ?_|refine .ret ?_|refine .then_ret ?_|refine .block_ret ?_|refine .exit ?_|refine .then_exit ?_|refine .block_exit ?_|refine .block_other rfl ?_)
  refine StL.as TBok 1 (.bool false) rfl (bool_false (by omega)) ?_
  (repeat with_reducible first|refine .nil ?_|refine .then_normal ?_|refine .block_normal ?_|refine .seq ?_|refine .block ?_|refine .skip ?_|refine .region ?_|refine .ret ?_|refine .then_ret ?_|refine .block_ret ?_|refine .exit ?_|refine .then_exit ?_|refine .block_exit ?_|refine .block_other rfl ?_)
  refine St.condF rfl rfl ?_
  (iterate 6 ((repeat with_reducible first|refine .nil ?_|refine .then_normal ?_|refine .block_normal ?_|refine .seq ?_|refine .block ?_|refine .skip ?_|refine .region ?_|refine .ret ?_|refine .then_ret ?_|refine .block_ret ?_|refine .exit ?_|refine .then_exit ?_|refine .block_exit ?_|refine .block_other rfl ?_); try refine .run TBok 99 rfl ?_))
  have hO : SlO w'.heap.size w2 (.slice (some ⟨w'.heap.size, 0, none⟩) (xs.length + ys.length) (xs.length + ys.length)) us :=
    ⟨Blk.own hb2 (by simp [hul]) (Nat.le_refl _) (by omega), hulim⟩
  refine StL.step rfl rfl rfl (OpR.call fn_integer_trim rfl (trim_spec w2 _ _ hO.sl (by omega))) ?_
  rintro r w4 ⟨rfl, rfl, _⟩
  (iterate 6 ((repeat with_reducible first|refine .nil ?_|refine .then_normal ?_|refine .block_normal ?_|refine .seq ?_|refine .block ?_|refine .skip ?_|refine .region ?_|refine .ret ?_|refine .then_ret ?_|refine .block_ret ?_|refine .exit ?_|refine .then_exit ?_|refine .block_exit ?_|refine .block_other rfl ?_); try refine .run TBok 99 rfl ?_))
  refine Out.ret1 rfl rfl ⟨hx2, ?_⟩
  have := hO.trimmed
  rw [← heq]
  exact this

end Go.Qf

/- integer.divideByLimb, shiftLeft, shiftRight. -/
namespace Go.Qf
open Go Go.RowKit Go.Proofs
set_option maxRecDepth 20000

theorem seg_get {A D : List Value} {xs : List Nat} {off j x : Nat} (hA : A.length = off) (hx : xs[j]? = some x) : (A ++ (xs.map u32 ++ D))[off + j]? = some (u32 x) := by
  have hj : j < xs.length := (List.getElem?_eq_some_iff.1 hx).1
  rw [List.getElem?_append_right (by omega), show off + j - A.length = j from by omega, List.getElem?_append_left (by simpa using hj)]
  simp [hx]

theorem seg_set {A D : List Value} {xs : List Nat} {off j v : Nat} (hA : A.length = off) (hj : j < xs.length) : (A ++ (xs.map u32 ++ D)).set (off + j) (u32 v) = A ++ ((xs.set j v).map u32 ++ D) := by
  rw [List.set_append_right _ _ (by omega), show off + j - A.length = j from by omega, List.set_append_left _ _ (by simpa using hj), map_set_u32]

theorem drop_pred {xs : List Nat} {j x : Nat} (hx : xs[j]? = some x) : val (xs.drop j) = x + 4294967296 * val (xs.drop (j + 1)) := by
  have h1 : j < xs.length := (List.getElem?_eq_some_iff.1 hx).1
  rw [List.getElem?_eq_getElem h1] at hx
  rw [List.drop_eq_getElem_cons h1, Option.some.inj hx, val]

theorem mul_B_lt {r : Nat} (h : r < 4294967296) : r * 4294967296 < 18446744073709551616 := by omega

set_option maxHeartbeats 400000 in
theorem divideByLimb_spec (w : World) (b off cap d : Nat) (A D : List Value) (xs : List Nat) (hb : Blk 41 w b (A ++ (xs.map u32 ++ D))) (hA : A.length = off) (hlim : Lim xs) (hlen : xs.length ≤ 1000000000) (hd : 0 < d) (hd2 : d < 4294967296) :
    Calls Try.prog 71 #[.slice (some ⟨b, off, none⟩) xs.length cap, .int .u32 d] w
      (Ret fun r w' => r = .int .u32 ((val xs % d : Nat) : Int) ∧ Upd b w w' ∧ ∃ us, us.length = xs.length ∧ Lim us ∧ val us = val xs / d ∧ Blk 41 w' b (A ++ (us.map u32 ++ D))) := by
  refine calls_of_St (args := [_, _]) Try.func71 rfl Try.ntmps71 rfl ?_
  (iterate 6 ((repeat with_reducible first|refine .nil ?_|refine .then_normal ?_|refine .block_normal ?_|refine .seq ?_|refine .block ?_|refine .skip ?_|refine .region ?_|refine .ret ?_|refine .then_ret ?_|refine .block_ret ?_|refine .exit ?_|refine .then_exit ?_|refine .block_exit ?_|refine .block_other rfl ?_); try refine .run TBok 99 rfl ?_))
  refine St.loop (fun g : Nat × Nat × List Nat => [(0, .slice (some ⟨b, off, none⟩) xs.length cap), (1, .int .u32 d), (5, .int .u64 g.2.1), (6, .int .i64 ((g.1 : Int) - 1))])
    (fun g w2 => Upd b w w2 ∧ Blk 41 w2 b (A ++ (g.2.2.map u32 ++ D)) ∧ g.2.2.length = xs.length ∧ Lim g.2.2 ∧ g.2.1 < d ∧ g.1 ≤ xs.length ∧ g.2.2.take g.1 = xs.take g.1 ∧ val (xs.drop g.1) = val (g.2.2.drop g.1) * d + g.2.1)
    (fun g => g.1) (xs.length, 0, xs) ⟨rfl, rfl, rfl, ?_, trivial⟩ ⟨Upd.refl _ _, hb, rfl, hlim, hd, Nat.le_refl _, rfl, by simp [val]⟩ ?_
  · show some (Value.int .i64 (IntKind.i64.wrap ((xs.length : Int) - 1))) = _
    rw [i64_id (by omega) (by omega)]
  rintro ⟨j, r, us⟩ w2 ⟨hu2, hb2, hul, hulim, hr, hj, htk, heq⟩
  simp only at hb2 hul hulim hr hj htk heq
  dsimp only
  by_cases h0 : j = 0
  · subst h0
    (repeat with_reducible first|refine .nil ?_|refine .then_normal ?_|refine .block_normal ?_|refine .seq ?_|refine .block ?_|refine .skip ?_|refine .region ?_|refine .ret ?_|refine .then_ret ?_|refine .block_ret ?_|refine .exit ?_|refine .then_exit ?_|refine .block_exit ?_|refine .block_other rfl ?_)
    refine StL.as TBok 2 (.bool false) rfl (bool_false (by simp)) ?_
    (repeat with_reducible first|refine .nil ?_|refine .then_normal ?_|refine .block_normal ?_|refine .seq ?_|refine .block ?_|refine .skip ?_|refine .region ?_|refine .ret ?_|refine .then_ret ?_|refine .block_ret ?_|refine .exit ?_|refine .then_exit ?_|refine .block_exit ?_|refine .block_other rfl ?_)
    refine St.condF rfl rfl ?_
    (iterate 6 ((repeat with_reducible first|refine .nil ?_|refine .then_normal ?_|refine .block_normal ?_|refine .seq ?_|refine .block ?_|refine .skip ?_|refine .region ?_|refine .ret ?_|refine .then_ret ?_|refine .block_ret ?_|refine .exit ?_|refine .then_exit ?_|refine .block_exit ?_|refine .block_other rfl ?_); try refine .run TBok 99 rfl ?_))
    simp only [List.drop_zero] at heq
    refine Out.ret1 rfl rfl ⟨?_, hu2, us, hul, hulim, ?_, hb2⟩
    · rw [heq, Nat.mul_comm, Nat.mul_add_mod, Nat.mod_eq_of_lt hr, u32_id (by omega) (by omega)]
    · rw [heq]
      rw [Nat.mul_comm, Nat.mul_add_div (by omega), Nat.div_eq_of_lt hr]; simp
  obtain ⟨i, rfl⟩ : ∃ i, j = i + 1 := ⟨j - 1, by omega⟩
  have hxi : us[i]? = some us[i] := by simp
  generalize us[i] = x at hxi
  have hxl := hulim.get hxi
  have hxx : xs[i]? = some x := by
    have : (us.take (i + 1))[i]? = (xs.take (i + 1))[i]? := by rw [htk]
    rw [List.getElem?_take_of_lt (by omega), List.getElem?_take_of_lt (by omega)] at this
    rw [← this]; exact hxi
  have e0 : (((i + 1 : Nat) : Int) - 1) = (i : Int) := by omega
  simp only [e0]
  (repeat with_reducible first|refine .nil ?_|refine .then_normal ?_|refine .block_normal ?_|refine .seq ?_|refine .block ?_|refine .skip ?_|refine .region ?_|refine .ret ?_|refine .then_ret ?_|refine .block_ret ?_|refine .exit ?_|refine .then_exit ?_|refine .block_exit ?_|refine .block_other rfl ?_)
  refine StL.as TBok 2 (.bool true) rfl (bool_true (by omega)) ?_
  (repeat with_reducible first|refine .nil ?_|refine .then_normal ?_|refine .block_normal ?_|refine .seq ?_|refine .block ?_|refine .skip ?_|refine .region ?_|refine .ret ?_|refine .then_ret ?_|refine .block_ret ?_|refine .exit ?_|refine .then_exit ?_|refine .block_exit ?_|refine .block_other rfl ?_)
  refine St.condT rfl rfl ?_
  (iterate 6 ((repeat with_reducible first|refine .nil ?_|refine .then_normal ?_|refine .block_normal ?_|refine .seq ?_|refine .block ?_|refine .skip ?_|refine .region ?_|refine .ret ?_|refine .then_ret ?_|refine .block_ret ?_|refine .exit ?_|refine .then_exit ?_|refine .block_exit ?_|refine .block_other rfl ?_); try refine .run TBok 99 rfl ?_))
  refine StL.elemB TBok i (u32 x) hb2 (seg_get hA hxi) rfl (by omega) rfl rfl rfl rfl rfl rfl rfl rfl rfl rfl (fun _ => rfl) ?_
  intro p1
  have hrd : r * 4294967296 + x < d * 4294967296 := by
    have : (r + 1) * 4294967296 ≤ d * 4294967296 := Nat.mul_le_mul_right _ hr
    omega
  have hr2 : r < 4294967296 := by omega
  have hr3 : r * 4294967296 < 18446744073709551616 := mul_B_lt hr2
  have hx3 : x < 18446744073709551616 := by omega
  have e1 : bitsI .or .u64 (IntKind.u64.wrap ((r : Int) * 2 ^ 32)) (IntKind.u64.wrap (x : Int)) = ((r * 4294967296 + x : Nat) : Int) := by
    rw [show (r : Int) * 2 ^ 32 = ((r * 4294967296 : Nat) : Int) from by rw [Int.natCast_mul]; rfl, u64_id (n := ((r * 4294967296 : Nat) : Int)) (Int.natCast_nonneg _) (Int.ofNat_le.2 (Nat.le_of_lt_succ hr3)), u64_id (n := (x : Int)) (by omega) (by omega), or_u64 _ _ hr3 hx3, Nat.or_comm, or_low32 _ _ hxl, Nat.add_comm]
  refine StL.as TBok 2 (.int .u64 ((r * 4294967296 + x : Nat) : Int)) rfl (by rw [e1]) ?_
  generalize ht : r * 4294967296 + x = t at hrd
  have htb : t < 18446744073709551616 := by omega
  (iterate 6 ((repeat with_reducible first|refine .nil ?_|refine .then_normal ?_|refine .block_normal ?_|refine .seq ?_|refine .block ?_|refine .skip ?_|refine .region ?_|refine .ret ?_|refine .then_ret ?_|refine .block_ret ?_|refine .exit ?_|refine .then_exit ?_|refine .block_exit ?_|refine .block_other rfl ?_); try refine .run TBok 99 rfl ?_))
  have ed : IntKind.u64.wrap (d : Int) = (d : Int) := u64_id (by omega) (by omega)
  refine StL.step rfl rfl rfl (RunsTo.quo rfl rfl (by omega) (by rw [ed]; omega)).op ?_
  rintro _ _ ⟨rfl, rfl⟩
  rw [ed]
  have hq : t / d < 4294967296 := by
    apply Nat.div_lt_of_lt_mul
    omega
  have hdm := Nat.div_add_mod t d
  have hqi : (t : Int) / (d : Int) = ((t / d : Nat) : Int) := by simp
  have hmi : (t : Int) % (d : Int) = ((t % d : Nat) : Int) := by simp
  have hml := Nat.mod_lt t hd
  generalize t / d = q at hq hdm hqi
  generalize t % d = m at hdm hmi hml
  rw [hqi]
  have e2 : IntKind.u32.wrap (IntKind.u64.wrap (q : Int)) = (q : Int) := by
    rw [u64_id (by omega) (by omega), u32_id (by omega) (by omega)]
  refine StL.as TBok 1 (.int .u32 (q : Int)) rfl (by rw [e2]) ?_
  refine StL.put TBok i hb2 rfl (by omega) (by simp; omega) rfl rfl rfl rfl rfl rfl rfl rfl (fun _ => rfl) (fun _ => rfl) rfl rfl ?_
  intro p3 w3 hb3 hu3
  rw [seg_set hA (by omega)] at hb3
  (iterate 6 ((repeat with_reducible first|refine .nil ?_|refine .then_normal ?_|refine .block_normal ?_|refine .seq ?_|refine .block ?_|refine .skip ?_|refine .region ?_|refine .ret ?_|refine .then_ret ?_|refine .block_ret ?_|refine .exit ?_|refine .then_exit ?_|refine .block_exit ?_|refine .block_other rfl ?_); try refine .run TBok 99 rfl ?_))
  refine StL.step rfl rfl rfl (RunsTo.rem rfl rfl (by omega) (by rw [ed]; omega)).op ?_
  rintro _ _ ⟨rfl, rfl⟩
  rw [ed]
  (iterate 6 ((repeat with_reducible first|refine .nil ?_|refine .then_normal ?_|refine .block_normal ?_|refine .seq ?_|refine .block ?_|refine .skip ?_|refine .region ?_|refine .ret ?_|refine .then_ret ?_|refine .block_ret ?_|refine .exit ?_|refine .then_exit ?_|refine .block_exit ?_|refine .block_other rfl ?_); try refine .run TBok 99 rfl ?_))
  refine Out.again (i, m, us.set i q) ⟨rfl, rfl, ?_, ?_, trivial⟩ ⟨hu2.trans hu3, hb3, by simpa using hul, hulim.set _ hq, hml, by simp only; omega, ?_, ?_⟩ (by simp only; omega)
  · show some (Value.int .u64 ((t : Int) % (d : Int))) = _
    rw [hmi]
  · show some (Value.int .i64 (IntKind.i64.wrap ((i : Int) - 1))) = _
    rw [i64_id (by omega) (by omega)]
  · simp only
    rw [List.take_set_of_le (by omega)]
    have h1 : (us.take (i + 1)).take i = (xs.take (i + 1)).take i := by rw [htk]
    simpa [List.take_take, Nat.min_eq_left (Nat.le_succ i)] using h1
  · simp only
    have hs : (us.set i q)[i]? = some q := List.getElem?_set_self (by omega)
    rw [drop_pred hxx, drop_pred hs, heq, List.drop_set_of_lt (by omega)]
    have h1 : (q + 4294967296 * val (us.drop (i + 1))) * d = d * q + 4294967296 * (val (us.drop (i + 1)) * d) := by
      rw [Nat.add_mul, Nat.mul_comm q, Nat.mul_assoc]
    rw [h1, Nat.mul_add]
    omega

theorem sr_step (x y V' s : Nat) (hs : s < 32) (hx : x < 4294967296) : (x + 4294967296 * (y + 4294967296 * V')) / 2 ^ s = (x + 4294967296 * y) / 2 ^ s % 4294967296 + 4294967296 * ((y + 4294967296 * V') / 2 ^ s) := by
  have hp : 0 < 2 ^ s := Nat.pow_pos (by decide)
  have hB : 4294967296 = 2 ^ s * 2 ^ (32 - s) := by rw [← Nat.pow_add, show s + (32 - s) = 32 from by omega]
  generalize 2 ^ (32 - s) = M at hB
  generalize 2 ^ s = N at hB hp
  have hy := Nat.div_add_mod y N
  have hR := Nat.mod_lt y hp
  generalize y / N = q at hy
  generalize y % N = R at hy hR
  subst hy
  generalize hBB : 4294967296 = B at *
  have e1 : x + B * (N * q + R + B * V') = (x + B * R) + N * (B * q + B * (M * V')) := by
    have h1 : B * (B * V') = N * (B * (M * V')) := by
      conv => lhs; arg 2; rw [hB]
      rw [Nat.mul_assoc, Nat.mul_left_comm]
    have h2 : B * (N * q) = N * (B * q) := Nat.mul_left_comm _ _ _
    simp only [Nat.mul_add]
    omega
  have e2 : x + B * (N * q + R) = (x + B * R) + N * (B * q) := by
    have h2 : B * (N * q) = N * (B * q) := Nat.mul_left_comm _ _ _
    simp only [Nat.mul_add]
    omega
  have e3 : N * q + R + B * V' = R + N * (q + M * V') := by
    have h1 : B * V' = N * (M * V') := by
      conv => lhs; rw [hB]
      rw [Nat.mul_assoc]
    simp only [Nat.mul_add]
    omega
  rw [e1, e2, e3, Nat.add_mul_div_left _ _ hp, Nat.add_mul_div_left _ _ hp, Nat.add_mul_div_left _ _ hp, Nat.div_eq_of_lt hR]
  have hlt : (x + B * R) / N < B := by
    apply Nat.div_lt_of_lt_mul
    have : B * (R + 1) ≤ B * N := Nat.mul_le_mul_left _ hR
    rw [Nat.mul_comm N]
    rw [Nat.mul_add] at this
    omega
  rw [Nat.add_mul_mod_self_left, Nat.mod_eq_of_lt hlt, Nat.zero_add, Nat.mul_add]

/-- The limbs of the floor of a number by 2^s. -/
def srL (s : Nat) : List Nat → List Nat
  | [] => []
  | x :: r => (x + 4294967296 * r.headD 0) / 2 ^ s % 4294967296 :: srL s r

theorem val_srL (s : Nat) (hs : s < 32) : ∀ xs, Lim xs → val (srL s xs) = val xs / 2 ^ s := by
  intro xs
  induction xs with
  | nil => intro _; simp [srL, val]
  | cons x r ih =>
    intro h
    obtain ⟨h1, h2⟩ := Lim.cons.1 h
    simp only [srL, val, ih h2]
    cases r with
    | nil =>
      simp only [List.headD_nil, val, Nat.mul_zero, Nat.add_zero, Nat.zero_div]
      have hle : x / 2 ^ s ≤ x := Nat.div_le_self _ _
      exact Nat.mod_eq_of_lt (by omega)
    | cons y t =>
      simp only [List.headD_cons, val]
      exact (sr_step x y (val t) s hs h1).symm

theorem srL_length (s : Nat) (xs : List Nat) : (srL s xs).length = xs.length := by
  induction xs with
  | nil => rfl
  | cons x r ih => simp [srL, ih]

theorem lim_srL (s : Nat) (xs : List Nat) : Lim (srL s xs) := by
  induction xs with
  | nil => exact Lim.nil
  | cons x r ih => exact Lim.cons.2 ⟨Nat.mod_lt _ (by decide), ih⟩

theorem srL_get (s : Nat) : ∀ (xs : List Nat) (i x : Nat), xs[i]? = some x → (srL s xs)[i]? = some ((x + 4294967296 * xs.getD (i + 1) 0) / 2 ^ s % 4294967296) := by
  intro xs
  induction xs with
  | nil => intro i x h; simp at h
  | cons a r ih =>
    intro i x h
    cases i with
    | zero =>
      simp only [List.getElem?_cons_zero, Option.some.injEq] at h
      subst h
      cases r <;> simp [srL]
    | succ i =>
      have := ih i x (by simpa using h)
      simpa [srL] using this

/-- Out of a function that hands nothing back. -/
theorem Out.none0 {P : Program} {fn : Func} {n : Nat} {E : List (Nat × Value)} {w : World} {Φ : Value → World → Prop} (hr : fn.results = #[]) (h : Φ (.tuple #[]) w) : Out n E w .normal (bodyPost P fn (Ret Φ)) := fun _ ha =>
  bodyPost_end (results_none hr _ P w) ha.defers ⟨_, rfl, h⟩

set_option maxHeartbeats 400000 in
theorem shiftRight_spec (w : World) (b off cap s : Nat) (A D : List Value) (xs : List Nat) (hb : Blk 41 w b (A ++ (xs.map u32 ++ D))) (hA : A.length = off) (hlim : Lim xs) (hlen : xs.length ≤ 1000000000) (hs : s < 32) :
    Calls Try.prog 127 #[.slice (some ⟨b, off, none⟩) xs.length cap, .int .i64 s] w
      (Ret fun _ w' => Upd b w w' ∧ Blk 41 w' b (A ++ ((srL s xs).map u32 ++ D))) := by
  have hp : (0 : Nat) < 2 ^ s := Nat.pow_pos (by decide)
  refine calls_of_St (args := [_, _]) Try.func127 rfl Try.ntmps127 rfl ?_
  (iterate 6 ((repeat with_reducible first|refine .nil ?_|refine .then_normal ?_|refine .block_normal ?_|refine .seq ?_|refine .block ?_|refine .skip ?_|refine .region ?_|refine .ret ?_|refine .then_ret ?_|refine .block_ret ?_|refine .exit ?_|refine .then_exit ?_|refine .block_exit ?_|refine .block_other rfl ?_); try refine .run TBok 99 rfl ?_))
  refine St.loop (fun i : Nat => [(0, .slice (some ⟨b, off, none⟩) xs.length cap), (1, .int .i64 s), (7, .int .i64 xs.length), (8, .int .i64 i)])
    (fun i w2 => Upd b w w2 ∧ i ≤ xs.length ∧ Blk 41 w2 b (A ++ (((srL s xs).take i ++ xs.drop i).map u32 ++ D)))
    (fun i => xs.length - i) 0 ⟨rfl, rfl, rfl, rfl, trivial⟩ ⟨Upd.refl _ _, by omega, by simpa using hb⟩ ?_
  rintro i w2 ⟨hu2, hi, hb2⟩
  have hl1 : ((srL s xs).take i).length = i := by simp [srL_length]; omega
  by_cases hlt : i < xs.length
  · have hxi : xs[i]? = some xs[i] := by simp
    generalize xs[i] = x at hxi
    have hxl := hlim.get hxi
    have hci : ((srL s xs).take i ++ xs.drop i)[i]? = some x := by
      rw [List.getElem?_append_right (by omega), hl1]
      simpa using hxi
    have hyl := lim_getD hlim (i + 1)
    (repeat with_reducible first|refine .nil ?_|refine .then_normal ?_|refine .block_normal ?_|refine .seq ?_|refine .block ?_|refine .skip ?_|refine .region ?_|refine .ret ?_|refine .then_ret ?_|refine .block_ret ?_|refine .exit ?_|refine .then_exit ?_|refine .block_exit ?_|refine .block_other rfl ?_)
    refine StL.as TBok 1 (.bool true) rfl (bool_true (by omega)) ?_
    (repeat with_reducible first|refine .nil ?_|refine .then_normal ?_|refine .block_normal ?_|refine .seq ?_|refine .block ?_|refine .skip ?_|refine .region ?_|refine .ret ?_|refine .then_ret ?_|refine .block_ret ?_|refine .exit ?_|refine .then_exit ?_|refine .block_exit ?_|refine .block_other rfl ?_)
    refine St.condT rfl rfl ?_
    (repeat with_reducible first|refine .nil ?_|refine .then_normal ?_|refine .block_normal ?_|refine .seq ?_|refine .block ?_|refine .skip ?_|refine .region ?_|refine .ret ?_|refine .then_ret ?_|refine .block_ret ?_|refine .exit ?_|refine .then_exit ?_|refine .block_exit ?_|refine .block_other rfl ?_)
    refine .run TBok 99 rfl ?_
    (repeat with_reducible first|refine .nil ?_|refine .then_normal ?_|refine .block_normal ?_|refine .seq ?_|refine .block ?_|refine .skip ?_|refine .region ?_|refine .ret ?_|refine .then_ret ?_|refine .block_ret ?_|refine .exit ?_|refine .then_exit ?_|refine .block_exit ?_|refine .block_other rfl ?_)
    refine .run TBok 99 rfl ?_
    refine StL.elemB TBok i (u32 x) hb2 (seg_get hA hci) rfl (by omega) rfl rfl rfl rfl rfl rfl rfl rfl rfl rfl (fun _ => rfl) ?_
    intro p1
    refine .run TBok 99 rfl ?_
    (refine StL.nil ?_; repeat with_reducible first | refine Out.then_normal ?_ | refine Out.block_normal ?_)
    refine St.cut (fun _ : Unit => [(0, .slice (some ⟨b, off, none⟩) xs.length cap), (1, .int .i64 s), (4, .int .i64 i), (5, .int .u64 ((x + 4294967296 * xs.getD (i + 1) 0 : Nat) : Int)), (7, .int .i64 xs.length), (8, .int .i64 i)]) (fun _ w3 => w3 = w2) ?_ ?_
    · (repeat with_reducible first|refine .nil ?_|refine .then_normal ?_|refine .block_normal ?_|refine .seq ?_|refine .block ?_|refine .skip ?_|refine .region ?_|refine .ret ?_|refine .then_ret ?_|refine .block_ret ?_|refine .exit ?_|refine .then_exit ?_|refine .block_exit ?_|refine .block_other rfl ?_)
      have e1 : IntKind.i64.wrap ((i : Int) + 1) = ((i + 1 : Nat) : Int) := by rw [i64_id (by omega) (by omega)]; rfl
      by_cases hlt2 : i + 1 < xs.length
      · have hyi : xs[i + 1]? = some xs[i + 1] := by simp
        generalize xs[i + 1] = y at hyi
        have hyD : xs.getD (i + 1) 0 = y := by simp [List.getD_eq_getElem?_getD, hyi]
        have hci2 : ((srL s xs).take i ++ xs.drop i)[i + 1]? = some y := by
          rw [List.getElem?_append_right (by omega), hl1]
          simpa using hyi
        rw [hyD] at hyl ⊢
        refine StL.as TBok 5 (.bool true) rfl (bool_true (by rw [e1]; omega)) ?_
        (repeat with_reducible first|refine .nil ?_|refine .then_normal ?_|refine .block_normal ?_|refine .seq ?_|refine .block ?_|refine .skip ?_|refine .region ?_|refine .ret ?_|refine .then_ret ?_|refine .block_ret ?_|refine .exit ?_|refine .then_exit ?_|refine .block_exit ?_|refine .block_other rfl ?_)
        refine St.condT rfl rfl ?_
        (repeat with_reducible first|refine .nil ?_|refine .then_normal ?_|refine .block_normal ?_|refine .seq ?_|refine .block ?_|refine .skip ?_|refine .region ?_|refine .ret ?_|refine .then_ret ?_|refine .block_ret ?_|refine .exit ?_|refine .then_exit ?_|refine .block_exit ?_|refine .block_other rfl ?_)
        refine .run TBok 99 rfl ?_
        refine StL.elemB TBok (i + 1) (u32 y) hb2 (seg_get hA hci2) e1 (by omega) rfl rfl rfl rfl rfl rfl rfl rfl rfl rfl (fun _ => rfl) ?_
        intro p2
        refine .run TBok 99 rfl ?_
        refine StL.nil (Out.met () ⟨rfl, rfl, rfl, ?_, rfl, rfl, trivial⟩ rfl)
        show some (Value.int .u64 (bitsI .or .u64 (IntKind.u64.wrap (x : Int)) (IntKind.u64.wrap (IntKind.u64.wrap (y : Int) * 2 ^ 32)))) = _
        rw [u64_id (n := (y : Int)) (by omega) (by omega), show (y : Int) * 2 ^ 32 = ((y * 4294967296 : Nat) : Int) from by rw [Int.natCast_mul]; rfl, u64_id (n := ((y * 4294967296 : Nat) : Int)) (by omega) (by omega), u64_id (n := (x : Int)) (by omega) (by omega), or_u64 _ _ (by omega) (by omega), or_low32 _ _ hxl, Nat.mul_comm y]
      · have hyD : xs.getD (i + 1) 0 = 0 := by rw [List.getD_eq_getElem?_getD, List.getElem?_eq_none (by omega)]; rfl
        rw [hyD]
        refine StL.as TBok 5 (.bool false) rfl (bool_false (by rw [e1]; omega)) ?_
        (repeat with_reducible first|refine .nil ?_|refine .then_normal ?_|refine .block_normal ?_|refine .seq ?_|refine .block ?_|refine .skip ?_|refine .region ?_|refine .ret ?_|refine .then_ret ?_|refine .block_ret ?_|refine .exit ?_|refine .then_exit ?_|refine .block_exit ?_|refine .block_other rfl ?_)
        refine St.condF rfl rfl ?_
        refine St.skip (Out.met () ⟨rfl, rfl, rfl, ?_, rfl, rfl, trivial⟩ rfl)
        show some (Value.int .u64 (IntKind.u64.wrap (x : Int))) = _
        rw [u64_id (by omega) (by omega)]
        simp
    rintro _ w3 rfl
    generalize hy : xs.getD (i + 1) 0 = y at *
    (iterate 6 ((repeat with_reducible first|refine .nil ?_|refine .then_normal ?_|refine .block_normal ?_|refine .seq ?_|refine .block ?_|refine .skip ?_|refine .region ?_|refine .ret ?_|refine .then_ret ?_|refine .block_ret ?_|refine .exit ?_|refine .then_exit ?_|refine .block_exit ?_|refine .block_other rfl ?_); try refine .run TBok 99 rfl ?_))
    refine StL.step rfl rfl rfl (RunsTo.shr s rfl rfl rfl (by show s ≤ 64; omega)).op ?_
    rintro _ _ ⟨rfl, rfl⟩
    have e3 : ((x + 4294967296 * y : Nat) : Int) / 2 ^ s = (((x + 4294967296 * y) / 2 ^ s : Nat) : Int) := by simp
    rw [e3]
    have hle : (x + 4294967296 * y) / 2 ^ s ≤ x + 4294967296 * y := Nat.div_le_self _ _
    generalize hq : (x + 4294967296 * y) / 2 ^ s = q at hle
    refine StL.as TBok 1 (u32 (q % 4294967296)) rfl (by rw [wrap_u32]; simp) ?_
    refine StL.put TBok i hb2 rfl (by omega) (by simp [srL_length]; omega) rfl rfl rfl rfl rfl rfl rfl rfl (fun _ => rfl) (fun _ => rfl) rfl rfl ?_
    intro p3 w4 hb3 hu3
    rw [seg_set hA (by simp [srL_length]; omega)] at hb3
    (iterate 6 ((repeat with_reducible first|refine .nil ?_|refine .then_normal ?_|refine .block_normal ?_|refine .seq ?_|refine .block ?_|refine .skip ?_|refine .region ?_|refine .ret ?_|refine .then_ret ?_|refine .block_ret ?_|refine .exit ?_|refine .then_exit ?_|refine .block_exit ?_|refine .block_other rfl ?_); try refine .run TBok 99 rfl ?_))
    refine Out.again (i + 1) ⟨rfl, rfl, rfl, ?_, trivial⟩ ⟨hu2.trans hu3, by omega, ?_⟩ (by omega)
    · show some (Value.int .i64 (IntKind.i64.wrap ((i : Int) + 1))) = _
      rw [i64_id (by omega) (by omega)]
      rfl
    · have hg := srL_get s xs i x hxi
      rw [hy, hq] at hg
      have hl2 : i < (srL s xs).length := by rw [srL_length]; exact hlt
      have e4 : ((srL s xs).take i ++ xs.drop i).set i (q % 4294967296) = (srL s xs).take (i + 1) ++ xs.drop (i + 1) := by
        rw [List.set_append_right _ _ (by omega), hl1, Nat.sub_self, List.drop_eq_getElem_cons hlt, List.set_cons_zero, List.take_succ_eq_append_getElem hl2]
        rw [List.getElem?_eq_getElem hl2] at hg
        rw [Option.some.inj hg]
        simp
      rw [← e4]
      exact hb3
  obtain rfl : i = xs.length := by omega
  (repeat with_reducible first|refine .nil ?_|refine .then_normal ?_|refine .block_normal ?_|refine .seq ?_|refine .block ?_|refine .skip ?_|refine .region ?_|refine .ret ?_|refine .then_ret ?_|refine .block_ret ?_|refine .exit ?_|refine .then_exit ?_|refine .block_exit ?_|refine .block_other rfl ?_)
  refine StL.as TBok 1 (.bool false) rfl (bool_false (by omega)) ?_
  (repeat with_reducible first|refine .nil ?_|refine .then_normal ?_|refine .block_normal ?_|refine .seq ?_|refine .block ?_|refine .skip ?_|refine .region ?_|refine .ret ?_|refine .then_ret ?_|refine .block_ret ?_|refine .exit ?_|refine .then_exit ?_|refine .block_exit ?_|refine .block_other rfl ?_)
  refine St.condF rfl rfl ?_
  (repeat with_reducible first|refine .nil ?_|refine .then_normal ?_|refine .block_normal ?_|refine .seq ?_|refine .block ?_|refine .skip ?_|refine .region ?_|refine .ret ?_|refine .then_ret ?_|refine .block_ret ?_|refine .exit ?_|refine .then_exit ?_|refine .block_exit ?_|refine .block_other rfl ?_)
  refine Out.none0 rfl ⟨hu2, ?_⟩
  rw [List.drop_length, List.append_nil, List.take_of_length_le (by rw [srL_length]; exact Nat.le_refl _)] at hb2
  exact hb2

end Go.Qf

/- integer.shiftLeft; bits.LeadingZeros32. -/
namespace Go.Qf
open Go Go.RowKit Go.Proofs
set_option maxRecDepth 20000

set_option maxHeartbeats 400000 in
theorem shiftLeft_spec (w : World) (v : Value) (s : Nat) (xs : List Nat) (h : Sl w v xs) (hlen : xs.length ≤ 100000000) (hs : s < 32) :
    Calls Try.prog 125 #[v, .int .i64 s] w
      (Ret fun r w' => Ext w w' ∧ r = .slice (some ⟨w.heap.size, 0, none⟩) (xs.length + 1) (xs.length + 1) ∧ ∃ us, us.length = xs.length + 1 ∧ Lim us ∧ val us = val xs * 2 ^ s ∧ Blk 41 w' w.heap.size (us.map u32)) := by
  have hp : (0 : Nat) < 2 ^ s := Nat.pow_pos (by decide)
  have hp2 : (2 : Nat) ^ s ≤ 2147483648 := Nat.pow_le_pow_right (by decide) (show s ≤ 31 by omega)
  obtain ⟨p, cap, rfl, _⟩ := h.form
  refine calls_of_St (args := [_, _]) Try.func125 rfl Try.ntmps125 rfl ?_
  (iterate 6 ((repeat with_reducible first|refine .nil ?_|refine .then_normal ?_|refine .block_normal ?_|refine .seq ?_|refine .block ?_|refine .skip ?_|refine .region ?_|refine .ret ?_|refine .then_ret ?_|refine .block_ret ?_|refine .exit ?_|refine .then_exit ?_|refine .block_exit ?_|refine .block_other rfl ?_); try refine .run TBok 99 rfl ?_))
  refine StL.step rfl rfl rfl (OpR.make TBok (xs.length + 1) rfl rfl rfl rfl rfl (by rw [i64_id (by omega) (by omega)]; omega) rfl (by rw [i64_id (by omega) (by omega)]; omega) (by simp; omega) (by omega)) ?_
  rintro _ w1 ⟨rfl, hb1, hx1, _⟩
  (iterate 6 ((repeat with_reducible first|refine .nil ?_|refine .then_normal ?_|refine .block_normal ?_|refine .seq ?_|refine .block ?_|refine .skip ?_|refine .region ?_|refine .ret ?_|refine .then_ret ?_|refine .block_ret ?_|refine .exit ?_|refine .then_exit ?_|refine .block_exit ?_|refine .block_other rfl ?_); try refine .run TBok 99 rfl ?_))
  refine St.loop (fun g : Nat × Nat × List Nat => [(0, .slice p xs.length cap), (1, .int .i64 s), (5, .slice (some ⟨w.heap.size, 0, none⟩) (xs.length + 1) (xs.length + 1)), (6, .int .u64 g.2.1), (13, .slice p xs.length cap), (14, .int .i64 xs.length), (15, .int .i64 g.1)])
    (fun g w2 => Ext w w2 ∧ Blk 41 w2 w.heap.size (g.2.2.map u32) ∧ g.2.2.length = xs.length + 1 ∧ Lim g.2.2 ∧ g.2.1 < 2 ^ s ∧ g.1 ≤ xs.length ∧ val (g.2.2.take g.1) + g.2.1 * 4294967296 ^ g.1 = val (xs.take g.1) * 2 ^ s)
    (fun g => xs.length - g.1) (0, 0, List.replicate (xs.length + 1) 0) ⟨rfl, rfl, rfl, rfl, rfl, rfl, rfl, trivial⟩ ⟨hx1, by rw [List.map_replicate]; exact hb1, by simp, lim_replicate _, hp, by simp, by simp [val]⟩ ?_
  rintro ⟨j, cy, us⟩ w2 ⟨hx2, hb2, hul, hulim, hcy, hj, heq⟩
  simp only at hb2 hul hulim hcy hj heq
  dsimp only
  have hA := h.ext hx2
  by_cases hlt : j < xs.length
  · have hxi : xs[j]? = some xs[j] := by simp
    generalize xs[j] = x at hxi
    have hxl := h.2.get hxi
    have hxs : x * 2 ^ s ≤ 4294967295 * 2147483648 := Nat.mul_le_mul (by omega) hp2
    (repeat with_reducible first|refine .nil ?_|refine .then_normal ?_|refine .block_normal ?_|refine .seq ?_|refine .block ?_|refine .skip ?_|refine .region ?_|refine .ret ?_|refine .then_ret ?_|refine .block_ret ?_|refine .exit ?_|refine .then_exit ?_|refine .block_exit ?_|refine .block_other rfl ?_)
    refine StL.as TBok 1 (.bool true) rfl (bool_true (by omega)) ?_
    (repeat with_reducible first|refine .nil ?_|refine .then_normal ?_|refine .block_normal ?_|refine .seq ?_|refine .block ?_|refine .skip ?_|refine .region ?_|refine .ret ?_|refine .then_ret ?_|refine .block_ret ?_|refine .exit ?_|refine .then_exit ?_|refine .block_exit ?_|refine .block_other rfl ?_)
    refine St.condT rfl rfl ?_
    (iterate 6 ((repeat with_reducible first|refine .nil ?_|refine .then_normal ?_|refine .block_normal ?_|refine .seq ?_|refine .block ?_|refine .skip ?_|refine .region ?_|refine .ret ?_|refine .then_ret ?_|refine .block_ret ?_|refine .exit ?_|refine .then_exit ?_|refine .block_exit ?_|refine .block_other rfl ?_); try refine .run TBok 99 rfl ?_))
    refine StL.elem TBok j (u32 x) hA.1 (hA.get hxi) rfl rfl rfl rfl rfl rfl rfl rfl rfl rfl rfl (fun _ => rfl) ?_
    intro p1
    (iterate 6 ((repeat with_reducible first|refine .nil ?_|refine .then_normal ?_|refine .block_normal ?_|refine .seq ?_|refine .block ?_|refine .skip ?_|refine .region ?_|refine .ret ?_|refine .then_ret ?_|refine .block_ret ?_|refine .exit ?_|refine .then_exit ?_|refine .block_exit ?_|refine .block_other rfl ?_); try refine .run TBok 99 rfl ?_))
    refine StL.step rfl rfl rfl (RunsTo.shl s rfl rfl rfl (by show s ≤ 64; omega)).op ?_
    rintro _ _ ⟨rfl, rfl⟩
    have e1 : IntKind.u64.wrap (IntKind.u64.wrap (x : Int) * 2 ^ s) = ((x * 2 ^ s : Nat) : Int) := by
      rw [u64_id (n := (x : Int)) (by omega) (by omega), show (x : Int) * 2 ^ s = ((x * 2 ^ s : Nat) : Int) from by simp]
      generalize x * 2 ^ s = t at hxs
      exact u64_id (by omega) (by omega)
    rw [e1]
    refine StL.as TBok 1 (.int .u64 ((cy + x * 2 ^ s : Nat) : Int)) rfl ?_ ?_
    · have hor := or_low cy x s hcy
      generalize x * 2 ^ s = t at hxs hor
      rw [or_u64 _ _ (by omega) (by omega), hor]
    have hmul : x * 2 ^ s * 4294967296 ^ j = x * 4294967296 ^ j * 2 ^ s := Nat.mul_right_comm _ _ _
    have hdb : cy + x * 2 ^ s < 4294967296 * 2 ^ s := by
      have : (x + 1) * 2 ^ s ≤ 4294967296 * 2 ^ s := Nat.mul_le_mul_right _ hxl
      rw [Nat.add_mul, Nat.one_mul] at this
      omega
    have hstep := step_add (val (us.take j)) (val (xs.take j) * 2 ^ s) 0 (4294967296 ^ j) cy (x * 2 ^ s) 0 ((cy + x * 2 ^ s) % 4294967296) ((cy + x * 2 ^ s) / 4294967296) (by omega) (by omega)
    generalize ht : cy + x * 2 ^ s = t at *
    have htb : t < 18446744073709551616 := by omega
    (iterate 6 ((repeat with_reducible first|refine .nil ?_|refine .then_normal ?_|refine .block_normal ?_|refine .seq ?_|refine .block ?_|refine .skip ?_|refine .region ?_|refine .ret ?_|refine .then_ret ?_|refine .block_ret ?_|refine .exit ?_|refine .then_exit ?_|refine .block_exit ?_|refine .block_other rfl ?_); try refine .run TBok 99 rfl ?_))
    have e2 : IntKind.u32.wrap (t : Int) = ((t % 4294967296 : Nat) : Int) := by rw [wrap_u32]; omega
    refine StL.put TBok j hb2 rfl (by omega) (by simp; omega) rfl rfl rfl rfl rfl rfl rfl rfl (fun _ => rfl) (fun _ => rfl) rfl rfl ?_
    intro p3 w3 hb3 hu3
    rw [e2, Nat.zero_add, map_set_u32] at hb3
    (iterate 6 ((repeat with_reducible first|refine .nil ?_|refine .then_normal ?_|refine .block_normal ?_|refine .seq ?_|refine .block ?_|refine .skip ?_|refine .region ?_|refine .ret ?_|refine .then_ret ?_|refine .block_ret ?_|refine .exit ?_|refine .then_exit ?_|refine .block_exit ?_|refine .block_other rfl ?_); try refine .run TBok 99 rfl ?_))
    refine Out.again (j + 1, t / 4294967296, us.set j (t % 4294967296)) ⟨rfl, rfl, rfl, ?_, rfl, rfl, ?_, trivial⟩ ⟨hx2.then_upd hu3 (Nat.le_refl _), hb3, by simpa using hul, hulim.set _ (by omega), Nat.div_lt_of_lt_mul hdb, by simp only; omega, ?_⟩ (by simp only; omega)
    · show some (Value.int .u64 ((t : Int) / 2 ^ 32)) = some (Value.int .u64 ((t / 4294967296 : Nat) : Int))
      rw [show (t : Int) / 2 ^ 32 = ((t / 4294967296 : Nat) : Int) from by omega]
    · show some (Value.int .i64 (IntKind.i64.wrap ((j : Int) + 1))) = _
      rw [i64_id (by omega) (by omega)]
      rfl
    · simp only
      rw [val_take_set (by omega), val_take_succ hxi, Nat.pow_succ, Nat.add_mul, ← hmul]
      simpa using hstep
  obtain rfl : j = xs.length := by omega
  rw [List.take_length] at heq
  (repeat with_reducible first|refine .nil ?_|refine .then_normal ?_|refine .block_normal ?_|refine .seq ?_|refine .block ?_|refine .skip ?_|refine .region ?_|refine .ret ?_|refine .then_ret ?_|refine .block_ret ?_|refine .exit ?_|refine .then_exit ?_|refine .block_exit ?_|refine .block_other rfl ?_)
  refine StL.as TBok 1 (.bool false) rfl (bool_false (by omega)) ?_
  (repeat with_reducible first|refine .nil ?_|refine .then_normal ?_|refine .block_normal ?_|refine .seq ?_|refine .block ?_|refine .skip ?_|refine .region ?_|refine .ret ?_|refine .then_ret ?_|refine .block_ret ?_|refine .exit ?_|refine .then_exit ?_|refine .block_exit ?_|refine .block_other rfl ?_)
  refine St.condF rfl rfl ?_
  (iterate 6 ((repeat with_reducible first|refine .nil ?_|refine .then_normal ?_|refine .block_normal ?_|refine .seq ?_|refine .block ?_|refine .skip ?_|refine .region ?_|refine .ret ?_|refine .then_ret ?_|refine .block_ret ?_|refine .exit ?_|refine .then_exit ?_|refine .block_exit ?_|refine .block_other rfl ?_); try refine .run TBok 99 rfl ?_))
  have e2 : IntKind.u32.wrap (cy : Int) = (cy : Int) := u32_id (by omega) (by omega)
  refine StL.put TBok xs.length hb2 rfl (by omega) (by simp; omega) rfl rfl rfl rfl rfl rfl rfl rfl (fun _ => rfl) (fun _ => rfl) rfl rfl ?_
  intro p4 w3 hb3 hu3
  rw [e2, Nat.zero_add, map_set_u32] at hb3
  (iterate 6 ((repeat with_reducible first|refine .nil ?_|refine .then_normal ?_|refine .block_normal ?_|refine .seq ?_|refine .block ?_|refine .skip ?_|refine .region ?_|refine .ret ?_|refine .then_ret ?_|refine .block_ret ?_|refine .exit ?_|refine .then_exit ?_|refine .block_exit ?_|refine .block_other rfl ?_); try refine .run TBok 99 rfl ?_))
  refine Out.ret1 rfl rfl ⟨hx2.then_upd hu3 (Nat.le_refl _), rfl, us.set xs.length cy, by simpa using hul, hulim.set _ (by omega), ?_, hb3⟩
  have := val_take_set (us := us) (k := xs.length) (by omega) cy
  rw [List.take_of_length_le (by simp; omega)] at this
  omega

theorem RunsTo.indexStr {P : Program} {T : List (Nat × TI)} {n : Nat} {E : List (Nat × Value)} {w : World} (hT : TblOk P T) {d : Option Tmp} {t : TypeId} {x i : Operand} {ty : TypeId} {pos : String} {af : Array Edge} {g : Option (Nat × Bool)} {s1 s2 : Nat} {z : Value} {s : ByteArray} {k : IntKind} {iv : Int} (j : Nat) (c : UInt8)
    (ht : lookT T t = some ⟨.string, s1, s2, z⟩) (hx : ov E x = some (.string s)) (hi : ov E i = some (.int k iv)) (hj : iv = j) (hc : s[j]? = some c) :
    RunsTo P n ⟨d, .index t x i, ty, pos, af, g⟩ E w (.int .u8 c.toNat) := by
  intro a ha
  have e1 := ha.eval hx
  have e2 := ha.eval hi
  generalize a.eval = ρ at e1 e2
  subst hj
  have h0 : (0 : Int) ≤ (j : Int) := by omega
  simp only [execOp, Instr.index, e1, e2, asIntOf, Sem.run_bind, Sem.run_pure, Result.andThen_ok, run_underlying_T hT ht]
  simp only [if_pos h0, Int.toNat_natCast, hc, Sem.run_pure, Result.andThen_ok]

theorem RunsTo.indexTab {P : Program} {T : List (Nat × TI)} {n : Nat} {E : List (Nat × Value)} {w : World} (hT : TblOk P T) {d : Option Tmp} {t : TypeId} {x i : Operand} {ty : TypeId} {pos : String} {af : Array Edge} {g : Option (Nat × Bool)} {s1 s2 : Nat} {z : Value} {s : ByteArray} {k : IntKind} {iv : Int} (j : Nat) (f : Nat → UInt8)
    (ht : lookT T t = some ⟨.string, s1, s2, z⟩) (hx : ov E x = some (.string s)) (hi : ov E i = some (.int k iv)) (hj : iv = j) (hj2 : j < 256) (htab : ∀ i : Fin 256, s[i.1]? = some (f i.1)) :
    RunsTo P n ⟨d, .index t x i, ty, pos, af, g⟩ E w (.int .u8 (f j).toNat) :=
  RunsTo.indexStr hT j (f j) ht hx hi hj (htab ⟨j, hj2⟩)

/-- How many bits a byte has. -/
def len8 (y : Nat) : Nat := if y = 0 then 0 else Nat.log2 y + 1

theorem len8_spec : ∀ i : Fin 256, i.1 ≠ 0 → 2 ^ (len8 i.1 - 1) ≤ i.1 ∧ i.1 < 2 ^ len8 i.1 ∧ 1 ≤ len8 i.1 ∧ len8 i.1 ≤ 8 := by decide +kernel

theorem lz_bounds {x y n l : Nat} (hn : n + l ≤ 32) (hl : 1 ≤ l) (h1 : y * 2 ^ n ≤ x) (h2 : x < (y + 1) * 2 ^ n) (h3 : 2 ^ (l - 1) ≤ y) (h4 : y < 2 ^ l) : 2147483648 ≤ x * 2 ^ (32 - (n + l)) ∧ x * 2 ^ (32 - (n + l)) < 4294967296 := by
  have e1 : (2 : Nat) ^ (l - 1) * 2 ^ n * 2 ^ (32 - (n + l)) = 2147483648 := by
    rw [← Nat.pow_add, ← Nat.pow_add, show l - 1 + n + (32 - (n + l)) = 31 from by omega]
  have e2 : (2 : Nat) ^ l * 2 ^ n * 2 ^ (32 - (n + l)) = 4294967296 := by
    rw [← Nat.pow_add, ← Nat.pow_add, show l + n + (32 - (n + l)) = 32 from by omega]
  constructor
  · rw [← e1]
    exact Nat.mul_le_mul_right _ (Nat.le_trans (Nat.mul_le_mul_right _ h3) h1)
  · rw [← e2]
    refine Nat.mul_lt_mul_of_pos_right (Nat.lt_of_lt_of_le h2 (Nat.mul_le_mul_right _ h4)) (Nat.pow_pos (by decide))

set_option maxHeartbeats 400000 in
theorem len32_spec (w : World) (x : Nat) (hx0 : x ≠ 0) (hx : x < 4294967296) :
    Calls Try.prog 131 #[.int .u32 x] w (Ret fun r w' => w' = w ∧ ∃ L : Nat, r = .int .i64 L ∧ 1 ≤ L ∧ L ≤ 32 ∧ 2147483648 ≤ x * 2 ^ (32 - L) ∧ x * 2 ^ (32 - L) < 4294967296) := by
  refine calls_of_St (args := [_]) Try.func131 rfl Try.ntmps131 rfl ?_
  refine St.seq (St.region (StL.run TBok 99 rfl (StL.nil (Out.then_normal ?_))))
  refine St.cut (fun g : Nat × Nat => [(0, .int .u32 g.2), (2, .int .i64 g.1)]) (fun g w' => w' = w ∧ (g.1 = 0 ∨ g.1 = 16) ∧ g.2 < 65536 ∧ g.2 ≠ 0 ∧ g.2 * 2 ^ g.1 ≤ x ∧ x < (g.2 + 1) * 2 ^ g.1) ?_ ?_
  · (iterate 6 ((repeat with_reducible first|refine .nil ?_|refine .then_normal ?_|refine .block_normal ?_|refine .seq ?_|refine .block ?_|refine .skip ?_|refine .region ?_|refine .ret ?_|refine .then_ret ?_|refine .block_ret ?_|refine .exit ?_|refine .then_exit ?_|refine .block_exit ?_|refine .block_other rfl ?_); try refine .run TBok 99 rfl ?_))
    by_cases h1 : x < 65536
    · refine St.condF rfl (by simp; omega) ?_
      exact St.skip (Out.met (0, x) ⟨rfl, rfl, trivial⟩ ⟨rfl, .inl rfl, h1, hx0, by simp, by simp⟩)
    · refine St.condT rfl (by simp; omega) ?_
      (repeat with_reducible first|refine .nil ?_|refine .then_normal ?_|refine .block_normal ?_|refine .seq ?_|refine .block ?_|refine .skip ?_|refine .region ?_|refine .ret ?_|refine .then_ret ?_|refine .block_ret ?_|refine .exit ?_|refine .then_exit ?_|refine .block_exit ?_|refine .block_other rfl ?_)
      refine .run TBok 99 rfl ?_
      (repeat with_reducible first|refine .nil ?_|refine .then_normal ?_|refine .block_normal ?_|refine .seq ?_|refine .block ?_|refine .skip ?_|refine .region ?_|refine .ret ?_|refine .then_ret ?_|refine .block_ret ?_|refine .exit ?_|refine .then_exit ?_|refine .block_exit ?_|refine .block_other rfl ?_)
      refine .run TBok 99 rfl ?_
      refine StL.nil (Out.met (16, x / 65536) ⟨?_, rfl, trivial⟩ ⟨rfl, .inr rfl, by simp only; omega, by simp only; omega, by simp only; omega, by simp only; omega⟩)
      show some (Value.int .u32 ((x : Int) / 2 ^ 16)) = _
      rw [show (x : Int) / 2 ^ 16 = ((x / 65536 : Nat) : Int) from by omega]
  rintro ⟨m, y⟩ w1 ⟨rfl, hm, hy, hy0, hb1, hb2⟩
  simp only at hm hy hy0 hb1 hb2
  dsimp only
  refine St.cut (fun g : Nat × Nat => [(0, .int .u32 g.2), (2, .int .i64 g.1)]) (fun g w' => w' = w1 ∧ g.1 ≤ 24 ∧ g.2 < 256 ∧ g.2 ≠ 0 ∧ g.2 * 2 ^ g.1 ≤ x ∧ x < (g.2 + 1) * 2 ^ g.1) ?_ ?_
  · (iterate 6 ((repeat with_reducible first|refine .nil ?_|refine .then_normal ?_|refine .block_normal ?_|refine .seq ?_|refine .block ?_|refine .skip ?_|refine .region ?_|refine .ret ?_|refine .then_ret ?_|refine .block_ret ?_|refine .exit ?_|refine .then_exit ?_|refine .block_exit ?_|refine .block_other rfl ?_); try refine .run TBok 99 rfl ?_))
    by_cases h1 : y < 256
    · refine St.condF rfl (by simp; omega) ?_
      exact St.skip (Out.met (m, y) ⟨rfl, rfl, trivial⟩ ⟨rfl, by simp only; omega, h1, hy0, hb1, hb2⟩)
    · refine St.condT rfl (by simp; omega) ?_
      (repeat with_reducible first|refine .nil ?_|refine .then_normal ?_|refine .block_normal ?_|refine .seq ?_|refine .block ?_|refine .skip ?_|refine .region ?_|refine .ret ?_|refine .then_ret ?_|refine .block_ret ?_|refine .exit ?_|refine .then_exit ?_|refine .block_exit ?_|refine .block_other rfl ?_)
      refine .run TBok 99 rfl ?_
      (repeat with_reducible first|refine .nil ?_|refine .then_normal ?_|refine .block_normal ?_|refine .seq ?_|refine .block ?_|refine .skip ?_|refine .region ?_|refine .ret ?_|refine .then_ret ?_|refine .block_ret ?_|refine .exit ?_|refine .then_exit ?_|refine .block_exit ?_|refine .block_other rfl ?_)
      refine .run TBok 99 rfl ?_
      refine StL.nil (Out.met (m + 8, y / 256) ⟨?_, ?_, trivial⟩ ⟨rfl, by simp only; omega, by simp only; omega, by simp only; omega, ?_, ?_⟩)
      · show some (Value.int .u32 ((y : Int) / 2 ^ 8)) = _
        rw [show (y : Int) / 2 ^ 8 = ((y / 256 : Nat) : Int) from by omega]
      · show some (Value.int .i64 (IntKind.i64.wrap ((m : Int) + 8))) = _
        rw [i64_id (by omega) (by omega)]
        rfl
      · simp only
        rw [Nat.pow_add, Nat.mul_comm (2 ^ m), ← Nat.mul_assoc]
        exact Nat.le_trans (Nat.mul_le_mul_right _ (by omega)) hb1
      · simp only
        rw [Nat.pow_add, Nat.mul_comm (2 ^ m), ← Nat.mul_assoc]
        exact Nat.lt_of_lt_of_le hb2 (Nat.mul_le_mul_right _ (by omega))
  rintro ⟨m', y'⟩ w' ⟨rfl, hm', hy', hy0', hb1', hb2'⟩
  simp only at hm' hy' hy0' hb1' hb2'
  dsimp only
  obtain ⟨q1, q2, q3, q4⟩ := len8_spec ⟨y', hy'⟩ hy0'
  simp only at q1 q2 q3 q4
  (iterate 6 ((repeat with_reducible first|refine .nil ?_|refine .then_normal ?_|refine .block_normal ?_|refine .seq ?_|refine .block ?_|refine .skip ?_|refine .region ?_|refine .ret ?_|refine .then_ret ?_|refine .block_ret ?_|refine .exit ?_|refine .then_exit ?_|refine .block_exit ?_|refine .block_other rfl ?_); try refine .run TBok 99 rfl ?_))
  refine StL.step rfl rfl rfl (RunsTo.indexTab TBok y' (fun i => UInt8.ofNat (len8 i)) rfl rfl rfl ?_ hy' (by decide +kernel)).op ?_
  · show IntKind.u8.wrap (y' : Int) = _
    rw [wrap_u8]; omega
  rintro _ _ ⟨rfl, rfl⟩
  have e8 : ((UInt8.ofNat (len8 y')).toNat : Nat) = len8 y' := by
    rw [UInt8.toNat_ofNat']
    exact Nat.mod_eq_of_lt (by omega)
  rw [e8]
  generalize len8 y' = l at *
  obtain ⟨z1, z2⟩ := lz_bounds (n := m') (l := l) (by omega) q3 hb1' hb2' q1 q2
  (iterate 6 ((repeat with_reducible first|refine .nil ?_|refine .then_normal ?_|refine .block_normal ?_|refine .seq ?_|refine .block ?_|refine .skip ?_|refine .region ?_|refine .ret ?_|refine .then_ret ?_|refine .block_ret ?_|refine .exit ?_|refine .then_exit ?_|refine .block_exit ?_|refine .block_other rfl ?_); try refine .run TBok 99 rfl ?_))
  refine Out.ret1 rfl rfl ⟨rfl, m' + l, ?_, by omega, by omega, z1, z2⟩
  rw [i64_id (n := (l : Int)) (by omega) (by omega), i64_id (by omega) (by omega)]
  rfl

theorem lz32_spec (w : World) (x : Nat) (hx0 : x ≠ 0) (hx : x < 4294967296) :
    Calls Try.prog 124 #[.int .u32 x] w (Ret fun r w' => w' = w ∧ ∃ s : Nat, r = .int .i64 s ∧ s < 32 ∧ 2147483648 ≤ x * 2 ^ s ∧ x * 2 ^ s < 4294967296) := by
  refine calls_of_St (args := [_]) Try.func124 rfl Try.ntmps124 rfl ?_
  (iterate 6 ((repeat with_reducible first|refine .nil ?_|refine .then_normal ?_|refine .block_normal ?_|refine .seq ?_|refine .block ?_|refine .skip ?_|refine .region ?_|refine .ret ?_|refine .then_ret ?_|refine .block_ret ?_|refine .exit ?_|refine .then_exit ?_|refine .block_exit ?_|refine .block_other rfl ?_); try refine .run TBok 99 rfl ?_))
  refine StL.step rfl rfl rfl (OpR.call fn_math_bits_Len32 rfl (len32_spec w x hx0 hx)) ?_
  rintro r w1 ⟨rfl, L, rfl, h1, h2, h3, h4⟩
  (iterate 6 ((repeat with_reducible first|refine .nil ?_|refine .then_normal ?_|refine .block_normal ?_|refine .seq ?_|refine .block ?_|refine .skip ?_|refine .region ?_|refine .ret ?_|refine .then_ret ?_|refine .block_ret ?_|refine .exit ?_|refine .then_exit ?_|refine .block_exit ?_|refine .block_other rfl ?_); try refine .run TBok 99 rfl ?_))
  refine Out.ret1 rfl rfl ⟨rfl, 32 - L, ?_, by omega, h3, h4⟩
  rw [i64_id (by omega) (by omega)]
  rw [show (32 : Int) - (L : Int) = ((32 - L : Nat) : Int) from by omega]

end Go.Qf
