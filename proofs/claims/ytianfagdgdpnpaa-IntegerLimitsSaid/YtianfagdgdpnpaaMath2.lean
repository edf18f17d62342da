/- More on limbs: lengths, comparison, bits. -/
import Derived.Test.YtianfagdgdpnpaaMath
namespace Go.Qf

theorem limbs_length_mono : ∀ (a b : Nat), a ≤ b → (limbs a).length ≤ (limbs b).length := by
  intro a
  induction a using Nat.strongRecOn with
  | _ a ih =>
    intro b h
    by_cases h0 : a = 0
    · subst h0; simp [limbs_zero]
    · rw [limbs_eq a h0, limbs_eq b (by omega)]
      have := ih (a / 4294967296) (by omega) (b / 4294967296) (Nat.div_le_div_right h)
      simp; omega

/-- The order of two numbers: -1, 0 or 1. -/
def cmpN (a b : Nat) : Int := if a < b then -1 else if b < a then 1 else 0

theorem val_split (xs : List Nat) (i : Nat) : val xs = val (xs.take i) + 4294967296 ^ (min i xs.length) * val (xs.drop i) := by
  conv => lhs; rw [← List.take_append_drop i xs]
  rw [val_append]
  simp

/-- Equal above position i, and less there: less. -/
theorem val_lt_of (xs ys : List Nat) (hx : Lim xs) (hl : xs.length = ys.length) (i x y : Nat) (hxi : xs[i]? = some x) (hyi : ys[i]? = some y) (hlt : x < y) (heq : xs.drop (i + 1) = ys.drop (i + 1)) : val xs < val ys := by
  have hi : i < xs.length := (List.getElem?_eq_some_iff.1 hxi).1
  have hi2 : i < ys.length := by omega
  rw [val_split xs i, val_split ys i]
  have e1 : xs.drop i = x :: xs.drop (i + 1) := by
    rw [List.drop_eq_getElem_cons hi]
    rw [List.getElem?_eq_getElem hi] at hxi
    cases hxi; rfl
  have e2 : ys.drop i = y :: ys.drop (i + 1) := by
    rw [List.drop_eq_getElem_cons hi2]
    rw [List.getElem?_eq_getElem hi2] at hyi
    cases hyi; rfl
  rw [e1, e2, heq]
  simp only [val]
  have e3 : min i xs.length = i := by omega
  have e4 : min i ys.length = i := by omega
  rw [e3, e4]
  have h1 : val (xs.take i) < 4294967296 ^ i := by
    have := val_lt (xs.take i) (hx.take i)
    simpa [e3] using this
  generalize val (ys.drop (i + 1)) = t
  have h2 : 4294967296 ^ i * (x + 4294967296 * t) + 4294967296 ^ i ≤ 4294967296 ^ i * (y + 4294967296 * t) := by
    rw [← Nat.mul_succ]
    exact Nat.mul_le_mul_left _ (by omega)
  omega

theorem limbs_lt_of_length {a b : Nat} (h : (limbs a).length < (limbs b).length) : a < b := by
  rcases Nat.lt_or_ge a b with h1 | h1
  · exact h1
  · have := limbs_length_mono b a h1
    omega

theorem limbs_inj {a b : Nat} (h : limbs a = limbs b) : a = b := by
  rw [← val_limbs a, ← val_limbs b, h]

theorem lim_two (m : Nat) (_h : m < 18446744073709551616) : Lim [m % 4294967296, m / 4294967296 % 4294967296] := by
  intro x hx
  simp at hx
  rcases hx with rfl | rfl <;> omega

theorem val_two (m : Nat) (h : m < 18446744073709551616) : val [m % 4294967296, m / 4294967296 % 4294967296] = m := by
  simp only [val]; omega

theorem val_le_two {xs : List Nat} (h : Lim xs) (hl : xs.length ≤ 2) : val xs < 18446744073709551616 := by
  match xs, hl with
  | [], _ => simp [val]
  | [a], _ => have := h a (by simp); simp only [val]; omega
  | [a, b], _ => have := h a (by simp); have := h b (by simp); simp only [val]; omega

theorem limbs_length_le_two {m : Nat} (h : m < 18446744073709551616) : (limbs m).length ≤ 2 := by
  have := limbs_length_le _ (lim_two m h)
  rw [val_two m h] at this
  simpa using this

/-- The low 32 bits below, the rest above: 'or' is the sum. -/
theorem or_low (x y s : Nat) (hx : x < 2 ^ s) : (x ||| y * 2 ^ s) = x + y * 2 ^ s := by
  have := Nat.two_pow_add_eq_or_of_lt hx y
  rw [Nat.or_comm, Nat.mul_comm y, ← this, Nat.add_comm]

theorem limbs_length_lt {a k : Nat} (h : a < 4294967296 ^ k) : (limbs a).length ≤ k := by
  have : ∀ k a, a < 4294967296 ^ k → (limbs a).length ≤ k := by
    intro k
    induction k with
    | zero => intro a h; have : a = 0 := by simpa using h
              subst this; simp [limbs_zero]
    | succ k ih =>
      intro a h
      by_cases h0 : a = 0
      · subst h0; simp [limbs_zero]
      · rw [limbs_eq a h0]
        have := ih (a / 4294967296) (Nat.div_lt_of_lt_mul (by rw [Nat.pow_succ, Nat.mul_comm] at h; exact h))
        simp; omega
  exact this k a h

theorem lt_pow_length (a : Nat) : a < 4294967296 ^ (limbs a).length := by
  have := val_lt (limbs a) (lim_limbs a)
  rwa [val_limbs] at this

theorem limbs_add_length (a b : Nat) : (limbs (a + b)).length ≤ max (limbs a).length (limbs b).length + 1 := by
  apply limbs_length_lt
  have h1 := lt_pow_length a
  have h2 := lt_pow_length b
  have h3 : (4294967296 : Nat) ^ (limbs a).length ≤ 4294967296 ^ max (limbs a).length (limbs b).length := Nat.pow_le_pow_right (by decide) (Nat.le_max_left _ _)
  have h4 : (4294967296 : Nat) ^ (limbs b).length ≤ 4294967296 ^ max (limbs a).length (limbs b).length := Nat.pow_le_pow_right (by decide) (Nat.le_max_right _ _)
  rw [Nat.pow_succ]
  omega

theorem limbs_mul_length (a b : Nat) : (limbs (a * b)).length ≤ (limbs a).length + (limbs b).length := by
  apply limbs_length_lt
  rw [Nat.pow_add]
  exact Nat.mul_lt_mul'' (lt_pow_length a) (lt_pow_length b)

theorem or_low32 (x y : Nat) (hx : x < 4294967296) : (x ||| y * 4294967296) = x + y * 4294967296 := or_low x y 32 hx

end Go.Qf
