/- Long division: the plain part. -/
import Derived.Test.YtianfagdgdpnpaaMath3
namespace Go.Qf

theorem val_one {xs : List Nat} {x : Nat} (h : xs.length = 1) (hx : xs[0]? = some x) : val xs = x := by
  match xs, h with
  | [y], _ => simp at hx; simp [val, hx]

theorem val_take_succ0 {xs : List Nat} {k x : Nat} (hx : xs[k]? = some x) : val (xs.take (k + 1)) = val (xs.take k) + x * 4294967296 ^ k := by
  have hlt : k < xs.length := (List.getElem?_eq_some_iff.1 hx).1
  rw [List.take_succ_eq_append_getElem hlt, val_append]
  have : xs[k] = x := by
    rw [List.getElem?_eq_getElem hlt] at hx
    exact Option.some.inj hx
  simp [val, this, Nat.min_eq_left (Nat.le_of_lt hlt), Nat.mul_comm]

/-- The divisor, shifted so that its first bit is set. -/
theorem norm_facts {c m s tp : Nat} {ds : List Nat} (hcl : (limbs c).length = m + 2) (htop : (limbs c)[m + 1]? = some tp) (hs : s < 32) (hs1 : 2147483648 ≤ tp * 2 ^ s) (hs2 : tp * 2 ^ s < 4294967296) (hdl : ds.length = m + 3) (hlim : Lim ds) (hv : val ds = c * 2 ^ s) :
    val (ds.take (m + 2)) = c * 2 ^ s ∧ c * 2 ^ s < 4294967296 ^ (m + 2) ∧ 2147483648 * 4294967296 ^ (m + 1) ≤ c * 2 ^ s ∧ ∃ v1, (ds.take (m + 2))[m + 1]? = some v1 ∧ 2147483648 ≤ v1 := by
  have hp : 0 < 2 ^ s := Nat.pow_pos (by decide)
  have hB : 4294967296 = 2 ^ s * 2 ^ (32 - s) := by rw [← Nat.pow_add, show s + (32 - s) = 32 from by omega]
  have hW : (0 : Nat) < 4294967296 ^ (m + 1) := Nat.pow_pos (by decide)
  have hc := val_take_succ0 htop
  rw [List.take_of_length_le (by omega), val_limbs] at hc
  have hcr := val_lt ((limbs c).take (m + 1)) ((lim_limbs c).take _)
  rw [show ((limbs c).take (m + 1)).length = m + 1 from by simp; omega] at hcr
  generalize val ((limbs c).take (m + 1)) = cr at *
  have hup : (tp + 1) * 2 ^ s ≤ 4294967296 := by
    rw [hB] at hs2 ⊢
    rw [Nat.mul_comm (2 ^ s)] at hs2 ⊢
    exact Nat.mul_le_mul_right _ (Nat.lt_of_mul_lt_mul_right hs2)
  have hpw : (4294967296 : Nat) ^ (m + 2) = 4294967296 * 4294967296 ^ (m + 1) := by rw [Nat.pow_succ, Nat.mul_comm]
  generalize hWd : (4294967296 : Nat) ^ (m + 1) = W at *
  have hVlt : c * 2 ^ s < 4294967296 ^ (m + 2) := by
    rw [hpw]
    have h1 : c * 2 ^ s < ((tp + 1) * W) * 2 ^ s := Nat.mul_lt_mul_of_pos_right (by rw [Nat.add_mul, Nat.one_mul]; omega) hp
    have h2 : ((tp + 1) * W) * 2 ^ s = ((tp + 1) * 2 ^ s) * W := Nat.mul_right_comm _ _ _
    have h3 : ((tp + 1) * 2 ^ s) * W ≤ 4294967296 * W := Nat.mul_le_mul_right _ hup
    omega
  have hVge : 2147483648 * W ≤ c * 2 ^ s := by
    have h1 : (tp * W) * 2 ^ s ≤ c * 2 ^ s := Nat.mul_le_mul_right _ (by omega)
    have h2 : (tp * W) * 2 ^ s = (tp * 2 ^ s) * W := Nat.mul_right_comm _ _ _
    have h3 : 2147483648 * W ≤ (tp * 2 ^ s) * W := Nat.mul_le_mul_right _ hs1
    omega
  have hd2 : ds[m + 2]? = some ds[m + 2] := by simp
  generalize ds[m + 2] = d2 at hd2
  have hds := val_take_succ0 hd2
  rw [List.take_of_length_le (by omega), hv] at hds
  have hvt : val (ds.take (m + 2)) = c * 2 ^ s := by
    have : d2 = 0 := by
      rcases Nat.eq_zero_or_pos d2 with h | h
      · exact h
      · exfalso
        have : 1 * 4294967296 ^ (m + 2) ≤ d2 * 4294967296 ^ (m + 2) := Nat.mul_le_mul_right _ h
        omega
    subst this
    omega
  refine ⟨hvt, hVlt, hVge, ?_⟩
  have hd1 : ds[m + 1]? = some ds[m + 1] := by simp
  generalize ds[m + 1] = d1 at hd1
  refine ⟨d1, by rw [List.getElem?_take_of_lt (by omega)]; exact hd1, ?_⟩
  have h1 := val_take_succ0 hd1
  rw [show m + 1 + 1 = m + 2 from rfl, hvt, hWd] at h1
  have h2 := val_lt (ds.take (m + 1)) (hlim.take _)
  rw [show (ds.take (m + 1)).length = m + 1 from by simp; omega, hWd] at h2
  rcases Nat.lt_or_ge d1 2147483648 with h | h
  · exfalso
    have : (d1 + 1) * W ≤ 2147483648 * W := Nat.mul_le_mul_right _ h
    rw [Nat.add_mul, Nat.one_mul] at this
    omega
  · exact h

/-- Before the first step the first limbs of the dividend are below the divisor. -/
theorem first_below {a t m s V : Nat} {rs : List Nat} (ha : a < 4294967296 ^ (m + 2 + t)) (hs : s < 32) (hV : 2147483648 * 4294967296 ^ (m + 1) ≤ V) (hl : rs.length = m + 2 + t + 1) (hv : val rs = a * 2 ^ s) : val (rs.drop (t + 1)) < V := by
  have h1 := val_split rs (t + 1)
  rw [show min (t + 1) rs.length = t + 1 from by omega, hv] at h1
  have hp : (2 : Nat) ^ s ≤ 2147483648 := Nat.pow_le_pow_right (by decide) (show s ≤ 31 by omega)
  have h2 : a * 2 ^ s < 4294967296 ^ (m + 2 + t) * 2147483648 := by
    have hpos : 0 < 2 ^ s := Nat.pow_pos (by decide)
    exact Nat.lt_of_lt_of_le (Nat.mul_lt_mul_of_pos_right ha hpos) (Nat.mul_le_mul_left _ hp)
  have h3 : (4294967296 : Nat) ^ (m + 2 + t) = 4294967296 ^ (t + 1) * 4294967296 ^ (m + 1) := by
    rw [← Nat.pow_add]; congr 1; omega
  rw [h3, Nat.mul_assoc, Nat.mul_comm _ 2147483648] at h2
  have h4 : 4294967296 ^ (t + 1) * val (rs.drop (t + 1)) < 4294967296 ^ (t + 1) * (2147483648 * 4294967296 ^ (m + 1)) := by omega
  have := Nat.lt_of_mul_lt_mul_left h4
  omega

/-- The limbs that a step looks at are all that is left. -/
theorem seg_all {rs : List Nat} {j m V x : Nat} (hx : rs[j]? = some x) (hl : j + m + 3 ≤ rs.length) (hlow : val (rs.drop (j + 1)) < V) (hV : V < 4294967296 ^ (m + 2)) :
    val ((rs.drop j).take (m + 3)) = val (rs.drop j) ∧ val (rs.drop (j + m + 3)) = 0 ∧ val (rs.drop j) = x + 4294967296 * val (rs.drop (j + 1)) := by
  have hlt : j < rs.length := (List.getElem?_eq_some_iff.1 hx).1
  have e0 : rs.drop j = x :: rs.drop (j + 1) := by
    rw [List.getElem?_eq_getElem hlt] at hx
    rw [List.drop_eq_getElem_cons hlt, Option.some.inj hx]
  have h1 := val_split (rs.drop (j + 1)) (m + 2)
  rw [show min (m + 2) (rs.drop (j + 1)).length = m + 2 from by simp; omega, List.drop_drop, show j + 1 + (m + 2) = j + m + 3 from by omega] at h1
  have hz : val (rs.drop (j + m + 3)) = 0 := by
    rcases Nat.eq_zero_or_pos (val (rs.drop (j + m + 3))) with h | h
    · exact h
    · exfalso
      have : 4294967296 ^ (m + 2) * 1 ≤ 4294967296 ^ (m + 2) * val (rs.drop (j + m + 3)) := Nat.mul_le_mul_left _ h
      omega
  have h2 := val_split (rs.drop j) (m + 3)
  rw [List.drop_drop, show j + (m + 3) = j + m + 3 from by omega, hz] at h2
  refine ⟨by omega, hz, ?_⟩
  rw [e0]; rfl

end Go.Qf
