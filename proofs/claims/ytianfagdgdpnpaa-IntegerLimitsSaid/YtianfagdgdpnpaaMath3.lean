/- Long division: the guess of one limb of the quotient. Plain numbers. -/
import Derived.Test.YtianfagdgdpnpaaMath2
namespace Go.Qf

theorem mul3 (g v R : Nat) : g * (4294967296 * (v * R)) = 4294967296 * (g * v * R) := by
  rw [Nat.mul_left_comm, Nat.mul_assoc]

/-- The first guess is not too small. -/
theorem guess_first {U V R v1 v2 vr u2 ur g r high : Nat} (hV : V = 4294967296 * (v1 * R) + v2 * R + vr) (hU : U = 4294967296 * (high * R) + u2 * R + ur) (hur : ur < R) (hu2 : u2 < 4294967296) (hh : high = g * v1 + r) (hr : r < v1) : U < (g + 1) * V := by
  have h1 : g * V = 4294967296 * (g * v1 * R) + g * v2 * R + g * vr := by
    rw [hV]; simp only [Nat.mul_add, mul3, Nat.mul_assoc]
  have h2 : high * R = g * v1 * R + r * R := by rw [hh, Nat.add_mul]
  have h3 : (r + 1) * R ≤ v1 * R := Nat.mul_le_mul_right _ hr
  have h4 : (u2 + 1) * R ≤ 4294967296 * R := Nat.mul_le_mul_right _ hu2
  rw [Nat.add_mul, Nat.one_mul, h1]
  rw [Nat.add_mul, Nat.one_mul] at h3 h4
  omega

/-- Where the test says that the guess is too great it is. -/
theorem guess_less {U V R v1 v2 vr u2 ur g r high : Nat} (hV : V = 4294967296 * (v1 * R) + v2 * R + vr) (hU : U = 4294967296 * (high * R) + u2 * R + ur) (hur : ur < R) (hh : high = g * v1 + r) (ht : r * 4294967296 + u2 < g * v2) : U < g * V := by
  have h1 : g * V = 4294967296 * (g * v1 * R) + g * v2 * R + g * vr := by
    rw [hV]; simp only [Nat.mul_add, mul3, Nat.mul_assoc]
  have h2 : high * R = g * v1 * R + r * R := by rw [hh, Nat.add_mul]
  have h3 : (r * 4294967296 + u2 + 1) * R ≤ g * v2 * R := Nat.mul_le_mul_right _ ht
  have h4 : (r * 4294967296 + u2 + 1) * R = 4294967296 * (r * R) + u2 * R + R := by
    rw [Nat.add_mul, Nat.add_mul, Nat.one_mul, Nat.mul_comm r, Nat.mul_assoc]
  omega

/-- Where the test says no more the guess is at most one too great. -/
theorem guess_near {U V R v1 v2 vr u2 ur g r high : Nat} (hV : V = 4294967296 * (v1 * R) + v2 * R + vr) (hU : U = 4294967296 * (high * R) + u2 * R + ur) (hvr : vr < R) (hv1 : 0 < v1) (hg : g < 4294967296) (hh : high = g * v1 + r) (ht : g * v2 ≤ r * 4294967296 + u2) : g * V < U + V := by
  have h1 : g * V = 4294967296 * (g * v1 * R) + g * v2 * R + g * vr := by
    rw [hV]; simp only [Nat.mul_add, mul3, Nat.mul_assoc]
  have h2 : high * R = g * v1 * R + r * R := by rw [hh, Nat.add_mul]
  have h3 : g * v2 * R ≤ (r * 4294967296 + u2) * R := Nat.mul_le_mul_right _ ht
  have h4 : (r * 4294967296 + u2) * R = 4294967296 * (r * R) + u2 * R := by
    rw [Nat.add_mul, Nat.mul_comm r, Nat.mul_assoc]
  have h5 : g * vr ≤ 4294967295 * vr := Nat.mul_le_mul_right _ (by omega)
  have h6 : 1 * R ≤ v1 * R := Nat.mul_le_mul_right _ hv1
  omega

/-- The quotient out of the two bounds. -/
theorem quot_eq {U V g : Nat} (h1 : g * V ≤ U) (h2 : U < (g + 1) * V) : U / V = g := by
  have hV : 0 < V := by
    rcases Nat.eq_zero_or_pos V with h | h
    · subst h; simp at h2
    · exact h
  exact Nat.div_eq_of_lt_le (by rw [Nat.mul_comm]; rw [Nat.mul_comm] at h1; exact h1) (by rw [Nat.mul_comm]; rw [Nat.mul_comm] at h2; exact h2)

theorem mod_eq_of {U V g m : Nat} (h1 : U = g * V + m) (h2 : m < V) : U / V = g ∧ U % V = m := by
  subst h1
  constructor
  · rw [Nat.mul_comm, Nat.mul_add_div (by omega), Nat.div_eq_of_lt h2, Nat.add_zero]
  · rw [Nat.mul_comm, Nat.mul_add_mod, Nat.mod_eq_of_lt h2]

/-- One limb of 'u - g v'. -/
theorem mulsub_step (S Ui Vi D G c b x y v lo c' b' : Nat) (h : S + G * Vi = Ui + (c + b) * D) (hT : c + G * y = lo + c' * 4294967296) (hv : x + b' * 4294967296 = v + lo + b) :
    (S + v * D) + G * (Vi + y * D) = (Ui + x * D) + (c' + b') * (D * 4294967296) := by
  have h1 := congrArg (· * D) hT
  have h2 := congrArg (· * D) hv
  simp only [Nat.add_mul] at h1 h2 h
  have e1 : c' * 4294967296 * D = c' * (D * 4294967296) := by rw [Nat.mul_assoc, Nat.mul_comm 4294967296]
  have e2 : b' * 4294967296 * D = b' * (D * 4294967296) := by rw [Nat.mul_assoc, Nat.mul_comm 4294967296]
  have e3 : G * (Vi + y * D) = G * Vi + G * y * D := by rw [Nat.mul_add, Nat.mul_assoc]
  rw [e3, Nat.add_mul]
  omega

/-- Where the guess was too great by 1. -/
theorem addback {U V g S Un u0 W c M : Nat} (heq : S + g * V = Un + c * W) (hU : U = Un + u0 * W) (hM : M = S + (u0 + 4294967296 - c) * W) (hneg : u0 < c) (hc : c ≤ u0 + 4294967296) (hgn : g * V < U + V) (hS : S < W) :
    0 < g ∧ (g - 1) * V ≤ U ∧ U - (g - 1) * V < V ∧ M + V = (U - (g - 1) * V) + 4294967296 * W := by
  have h1 : (u0 + 4294967296 - c) * W = u0 * W + 4294967296 * W - c * W := by rw [Nat.sub_mul, Nat.add_mul]
  have h2 : (u0 + 1) * W ≤ c * W := Nat.mul_le_mul_right _ hneg
  have h3 : c * W ≤ (u0 + 4294967296) * W := Nat.mul_le_mul_right _ hc
  rw [Nat.add_mul] at h2 h3
  rw [Nat.one_mul] at h2
  rw [h1] at hM
  generalize c * W = K at *
  generalize u0 * W = K0 at *
  have hgpos : 0 < g := by
    rcases Nat.eq_zero_or_pos g with h | h
    · subst h; simp at heq; omega
    · exact h
  obtain ⟨k, rfl⟩ : ∃ k, g = k + 1 := ⟨g - 1, by omega⟩
  rw [Nat.add_mul, Nat.one_mul] at heq hgn
  simp only [Nat.add_sub_cancel]
  generalize k * V = kV at *
  omega

end Go.Qf
