/- Lemmas on the model and on the program's functions, part Qf. -/
import Derived.Test.YteiphfahnikikaaQa
import Derived.Test.YteiphfahnikikaaQb
import Derived.Test.YteiphfahnikikaaQc
import Derived.Test.YteiphfahnikikaaQd
import Derived.Test.YteiphfahnikikaaQe
/- Bits of a list of limbs: plain arithmetic. -/
namespace Go.Qf

theorem val_at {xs : List Nat} {k x : Nat} (h : Lim xs) (hx : xs[k]? = some x) : ∃ t, val xs / 4294967296 ^ k = x + 4294967296 * t := by
  have hk : k < xs.length := (List.getElem?_eq_some_iff.1 hx).1
  have hs := val_split xs k
  have hlt := val_lt (xs.take k) (h.take k)
  have hl : (xs.take k).length = k := by simp; omega
  rw [hl] at hlt
  rw [Nat.min_eq_left (by omega)] at hs
  have hpos : 0 < 4294967296 ^ k := Nat.pow_pos (by decide)
  refine ⟨val (xs.drop (k + 1)), ?_⟩
  rw [hs, Nat.add_mul_div_left _ _ hpos, Nat.div_eq_of_lt hlt, Nat.zero_add, List.drop_eq_getElem_cons hk]
  have : xs[k] = x := by rw [List.getElem?_eq_getElem hk] at hx; exact Option.some.inj hx
  rw [this]
  rfl

theorem pow_at (k s : Nat) : 2 ^ (32 * k + s) = 4294967296 ^ k * 2 ^ s := by
  rw [Nat.pow_add, Nat.pow_mul]

theorem bit_at {xs : List Nat} {k x s : Nat} (h : Lim xs) (hx : xs[k]? = some x) (hs : s < 32) : x / 2 ^ s % 2 = val xs / 2 ^ (32 * k + s) % 2 := by
  obtain ⟨t, ht⟩ := val_at h hx
  rw [pow_at, ← Nat.div_div_eq_div_mul, ht]
  have e : (4294967296 : Nat) = 2 ^ s * (2 * 2 ^ (31 - s)) := by
    rw [← Nat.mul_assoc, Nat.mul_comm (2 ^ s) 2, ← Nat.pow_succ', ← Nat.pow_add, show s + 1 + (31 - s) = 32 from by omega]
  rw [e, Nat.mul_assoc, Nat.add_mul_div_left _ _ (Nat.pow_pos (by decide)), Nat.mul_assoc, Nat.add_mul_mod_self_left]

/-- A limb of a number that is a multiple of a power of two. -/
theorem limb_even {xs : List Nat} {k x s : Nat} (h : Lim xs) (hx : xs[k]? = some x) (hs : s < 32) (hd : val xs % 2 ^ (32 * k + s + 1) = 0) : x % 2 ^ (s + 1) = 0 := by
  obtain ⟨t, ht⟩ := val_at h hx
  have hpos : 0 < 4294967296 ^ k := Nat.pow_pos (by decide)
  obtain ⟨c, hc⟩ := Nat.dvd_of_mod_eq_zero hd
  rw [show 32 * k + s + 1 = 32 * k + (s + 1) from by omega, pow_at, Nat.mul_assoc] at hc
  have h1 : val xs / 4294967296 ^ k = 2 ^ (s + 1) * c := by rw [hc, Nat.mul_div_cancel_left _ hpos]
  rw [ht] at h1
  have e : (4294967296 : Nat) = 2 ^ (s + 1) * 2 ^ (31 - s) := by
    rw [← Nat.pow_add, show s + 1 + (31 - s) = 32 from by omega]
  rw [e, Nat.mul_assoc] at h1
  have h2 : x = 2 ^ (s + 1) * c - 2 ^ (s + 1) * (2 ^ (31 - s) * t) := by omega
  rw [h2, ← Nat.mul_sub]
  exact Nat.mul_mod_right _ _

theorem or_bit {x s : Nat} (h : x % 2 ^ (s + 1) = 0) : x ||| 2 ^ s = x + 2 ^ s := by
  obtain ⟨y, rfl⟩ := Nat.dvd_of_mod_eq_zero h
  have hlt : 2 ^ s < 2 ^ (s + 1) := Nat.pow_lt_pow_right (by decide) (by omega)
  have := or_low (2 ^ s) y (s + 1) hlt
  rw [Nat.or_comm, Nat.mul_comm, this, Nat.add_comm]

theorem val_set_add {xs : List Nat} {k x d : Nat} (hx : xs[k]? = some x) : val (xs.set k (x + d)) = val xs + d * 4294967296 ^ k := by
  induction xs generalizing k with
  | nil => simp at hx
  | cons a r ih =>
    cases k with
    | zero =>
      simp only [List.getElem?_cons_zero, Option.some.injEq] at hx
      subst hx
      simp only [List.set_cons_zero, val, Nat.pow_zero, Nat.mul_one]
      omega
    | succ k =>
      simp only [List.getElem?_cons_succ] at hx
      have := ih hx
      simp only [List.set_cons_succ, val, this, Nat.pow_succ, Nat.mul_add]
      rw [← Nat.mul_assoc, Nat.mul_comm 4294967296 d, Nat.mul_assoc, Nat.mul_comm 4294967296 (4294967296 ^ k)]
      omega

/-- One bit more of the dividend. -/
theorem div_bit (M b n : Nat) (hn : 0 < n) (hb : b ≤ 1) :
    (n ≤ 2 * (M % n) + b → (2 * M + b) % n = 2 * (M % n) + b - n ∧ (2 * M + b) / n = 2 * (M / n) + 1) ∧ (¬ n ≤ 2 * (M % n) + b → (2 * M + b) % n = 2 * (M % n) + b ∧ (2 * M + b) / n = 2 * (M / n)) := by
  have hdm := Nat.div_add_mod M n
  have hlt := Nat.mod_lt M hn
  generalize M / n = q at *
  generalize M % n = r at *
  subst hdm
  have e : 2 * (n * q + r) + b = (2 * r + b) + n * (2 * q) := by rw [Nat.mul_add, ← Nat.mul_assoc, Nat.mul_comm 2 n, Nat.mul_assoc]; omega
  rw [e, Nat.add_mul_mod_self_left, Nat.add_mul_div_left _ _ hn]
  constructor
  · intro h
    have h1 : (2 * r + b) / n = 1 := by
      apply Nat.div_eq_of_lt_le <;> omega
    have h2 : (2 * r + b) % n = 2 * r + b - n := by
      rw [Nat.mod_eq_sub_mod h, Nat.mod_eq_of_lt (by omega)]
    exact ⟨h2, by omega⟩
  · intro h
    rw [Nat.mod_eq_of_lt (by omega), Nat.div_eq_of_lt (by omega)]
    exact ⟨rfl, by omega⟩

theorem half_step (m j : Nat) : m / 2 ^ j = 2 * (m / 2 ^ (j + 1)) + m / 2 ^ j % 2 := by
  rw [Nat.pow_succ, ← Nat.div_div_eq_div_mul]
  omega

end Go.Qf

/- quadformref01: double, divide. -/
namespace Go.Qf
open Go Go.RowKit Go.Proofs
set_option maxRecDepth 20000

section
variable {P : Program} {n : Nat} {E : List (Nat × Value)} {w : World}
theorem RunsTo.quoN {d : Option Tmp} {t t2 : TypeId} {x y : Operand} {ty : TypeId} {pos : String} {af : Array Edge} {g : Option (Nat × Bool)} {k : IntKind} (m s : Nat) {mi si : Int} (hx : ov E x = some (.int k mi)) (hm : mi = m) (hy : ov E y = some (.int k si)) (hs : si = s) (hs0 : 0 < s) (hk : k.wrap ((m / s : Nat) : Int) = ((m / s : Nat) : Int)) :
    RunsTo P n ⟨d, .binOp .quo t x y t2, ty, pos, af, g⟩ E w (.int k ((m / s : Nat) : Int)) := by
  subst hm hs
  have := RunsTo.quo (P := P) (n := n) (w := w) (d := d) (t := t) (t2 := t2) (ty := ty) (pos := pos) (af := af) (g := g) hx hy (by omega) (by omega)
  rw [← Int.natCast_ediv, hk] at this
  exact this
theorem RunsTo.remN {d : Option Tmp} {t t2 : TypeId} {x y : Operand} {ty : TypeId} {pos : String} {af : Array Edge} {g : Option (Nat × Bool)} {k : IntKind} (m s : Nat) {mi si : Int} (hx : ov E x = some (.int k mi)) (hm : mi = m) (hy : ov E y = some (.int k si)) (hs : si = s) (hs0 : 0 < s) :
    RunsTo P n ⟨d, .binOp .rem t x y t2, ty, pos, af, g⟩ E w (.int k ((m % s : Nat) : Int)) := by
  subst hm hs
  have := RunsTo.rem (P := P) (n := n) (w := w) (d := d) (t := t) (t2 := t2) (ty := ty) (pos := pos) (af := af) (g := g) hx hy (by omega) (by omega)
  rw [← Int.natCast_emod] at this
  exact this
theorem RunsTo.shrN {d : Option Tmp} {t t2 : TypeId} {x y : Operand} {ty : TypeId} {pos : String} {af : Array Edge} {g : Option (Nat × Bool)} {k k' : IntKind} (m j : Nat) {mi s : Int} (hx : ov E x = some (.int k mi)) (hm : mi = m) (hy : ov E y = some (.int k' s)) (hs : s = j) (hj : j ≤ k.bits) :
    RunsTo P n ⟨d, .binOp .shr t x y t2, ty, pos, af, g⟩ E w (.int k ((m / 2 ^ j : Nat) : Int)) := by
  subst hm
  have := RunsTo.shr (P := P) (n := n) (w := w) (d := d) (t := t) (t2 := t2) (ty := ty) (pos := pos) (af := af) (g := g) j hx hy hs hj
  rw [show ((m : Int) / 2 ^ j) = ((m / 2 ^ j : Nat) : Int) from by simp] at this
  exact this
theorem RunsTo.shlN {d : Option Tmp} {t t2 : TypeId} {x y : Operand} {ty : TypeId} {pos : String} {af : Array Edge} {g : Option (Nat × Bool)} {k k' : IntKind} (m j : Nat) {mi s : Int} (hx : ov E x = some (.int k mi)) (hm : mi = m) (hy : ov E y = some (.int k' s)) (hs : s = j) (hj : j ≤ k.bits) (hw : k.wrap ((m * 2 ^ j : Nat) : Int) = ((m * 2 ^ j : Nat) : Int)) :
    RunsTo P n ⟨d, .binOp .shl t x y t2, ty, pos, af, g⟩ E w (.int k ((m * 2 ^ j : Nat) : Int)) := by
  subst hm
  have := RunsTo.shl (P := P) (n := n) (w := w) (d := d) (t := t) (t2 := t2) (ty := ty) (pos := pos) (af := af) (g := g) j hx hy hs hj
  rw [show ((m : Int) * 2 ^ j) = ((m * 2 ^ j : Nat) : Int) from by simp, hw] at this
  exact this
end

set_option maxHeartbeats 400000 in
theorem double_spec (w : World) (u : Value) (xs : List Nat) (b : Nat) (h : Sl w u xs) (hb : b ≤ 1) (hlen : xs.length ≤ 1000000000) :
    Calls Try.prog 130 #[u, .int .u32 b] w (Ret fun r w' => Ext w w' ∧ ∃ us, SlO w.heap.size w' r us ∧ us.length = xs.length + 1 ∧ val us = 2 * val xs + b) := by
  obtain ⟨p, c, rfl, _⟩ := h.form
  refine calls_of_St (args := [_, _]) Try.func130 rfl Try.ntmps130 rfl ?_
  (iterate 6 ((repeat with_reducible first|refine .nil ?_|refine .then_normal ?_|refine .block_normal ?_|refine .seq ?_|refine .block ?_|refine .skip ?_|refine .region ?_|refine .ret ?_|refine .then_ret ?_|refine .block_ret ?_|refine .exit ?_|refine .then_exit ?_|refine .block_exit ?_|refine .block_other rfl ?_); try refine .run TBok 99 rfl ?_))
  refine St.loop (fun g : Value × List Nat × Nat × Nat => [(0, .slice p xs.length c), (1, .int .u32 g.2.2.1), (5, g.1), (8, .slice p xs.length c), (9, .int .i64 xs.length), (10, .int .i64 g.2.2.2)])
    (fun g w' => Ext w w' ∧ SlO w.heap.size w' g.1 g.2.1 ∧ g.2.1.length = g.2.2.2 ∧ g.2.2.1 ≤ 1 ∧ g.2.2.2 ≤ xs.length ∧ val g.2.1 + g.2.2.1 * 4294967296 ^ g.2.2.2 = 2 * val (xs.take g.2.2.2) + b)
    (fun g => xs.length - g.2.2.2) (.slice none 0 0, [], b, 0) ⟨rfl, rfl, rfl, rfl, rfl, rfl, trivial⟩ ⟨Ext.refl _, SlO.nil _ _, rfl, hb, Nat.zero_le _, by simp [val]⟩ ?_
  rintro ⟨ov, os, cy, i⟩ w1 ⟨hx1, ho, hol, hcy, hi, hinv⟩
  dsimp only at hx1 ho hol hcy hi hinv ⊢
  have hA := h.ext hx1
  by_cases hlt : i < xs.length
  · have hxi : xs[i]? = some xs[i] := by simp
    have hX := val_take_succ hxi
    generalize xs[i] = x at hxi hX
    have hxl := h.2.get hxi
    (repeat with_reducible first|refine .nil ?_|refine .then_normal ?_|refine .block_normal ?_|refine .seq ?_|refine .block ?_|refine .skip ?_|refine .region ?_|refine .ret ?_|refine .then_ret ?_|refine .block_ret ?_|refine .exit ?_|refine .then_exit ?_|refine .block_exit ?_|refine .block_other rfl ?_)
    refine StL.as TBok 1 (.bool true) rfl (bool_true (by omega)) ?_
    (repeat with_reducible first|refine .nil ?_|refine .then_normal ?_|refine .block_normal ?_|refine .seq ?_|refine .block ?_|refine .skip ?_|refine .region ?_|refine .ret ?_|refine .then_ret ?_|refine .block_ret ?_|refine .exit ?_|refine .then_exit ?_|refine .block_exit ?_|refine .block_other rfl ?_)
    refine St.condT rfl rfl ?_
    (iterate 6 ((repeat with_reducible first|refine .nil ?_|refine .then_normal ?_|refine .block_normal ?_|refine .seq ?_|refine .block ?_|refine .skip ?_|refine .region ?_|refine .ret ?_|refine .then_ret ?_|refine .block_ret ?_|refine .exit ?_|refine .then_exit ?_|refine .block_exit ?_|refine .block_other rfl ?_); try refine .run TBok 99 rfl ?_))
    refine StL.elem TBok i (u32 x) hA.1 (hA.get hxi) rfl rfl rfl rfl rfl rfl rfl rfl rfl rfl rfl (fun _ => rfl) ?_
    intro p1
    refine .run TBok 99 rfl ?_
    (repeat with_reducible first|refine .nil ?_|refine .then_normal ?_|refine .block_normal ?_|refine .seq ?_|refine .block ?_|refine .skip ?_|refine .region ?_|refine .ret ?_|refine .then_ret ?_|refine .block_ret ?_|refine .exit ?_|refine .then_exit ?_|refine .block_exit ?_|refine .block_other rfl ?_)
    have e1 : IntKind.u32.wrap ((x : Int) * 2 ^ 1) = ((2 * x % 4294967296 : Nat) : Int) := by rw [wrap_u32]; omega
    have e2 : 2 * x % 4294967296 ||| cy = 2 * x % 4294967296 + cy := by
      have := or_low cy (x % 2147483648) 1 (by omega)
      rw [show 2 * x % 4294967296 = x % 2147483648 * 2 ^ 1 from by omega, Nat.or_comm, this, Nat.add_comm]
    have hdl : 2 * x % 4294967296 + cy < 4294967296 := by omega
    refine StL.as TBok 3 (.int .u32 ((2 * x % 4294967296 : Nat) : Int)) rfl (by rw [e1]) ?_
    refine StL.as TBok 2 (.int .u32 ((2 * x % 4294967296 + cy : Nat) : Int)) rfl (by rw [or_u32 _ _ (by omega) (by omega), e2]) ?_
    refine StL.push32 (2 * x % 4294967296 + cy) rfl rfl hdl (fun _ => rfl) ho (by omega) hx1 (Nat.le_refl _) hx1.size rfl rfl ?_
    intro p2 v' w2 wm hxm hom hgr ho2 hx2
    (iterate 6 ((repeat with_reducible first|refine .nil ?_|refine .then_normal ?_|refine .block_normal ?_|refine .seq ?_|refine .block ?_|refine .skip ?_|refine .region ?_|refine .ret ?_|refine .then_ret ?_|refine .block_ret ?_|refine .exit ?_|refine .then_exit ?_|refine .block_exit ?_|refine .block_other rfl ?_); try refine .run TBok 99 rfl ?_))
    refine Out.again (v', os ++ [2 * x % 4294967296 + cy], x / 2147483648, i + 1) ⟨rfl, ?_, rfl, rfl, rfl, ?_, trivial⟩ ⟨hx2, ho2, by simp [hol], by dsimp only; omega, by dsimp only; omega, ?_⟩ (by dsimp only; omega)
    · show some (Value.int .u32 ((x : Int) / 2 ^ 31)) = _
      rw [show ((2 : Int) ^ 31) = 2147483648 from rfl]
      congr 2
    · show some (Value.int .i64 (IntKind.i64.wrap ((i : Int) + 1))) = _
      rw [i64_id (by omega) (by omega)]; rfl
    · dsimp only
      rw [val_snoc, hol, hX, Nat.pow_succ]
      have hdm : 2 * x % 4294967296 + 4294967296 * (x / 2147483648) = 2 * x := by omega
      generalize 4294967296 ^ i = P at *
      have e3 : P * (2 * x % 4294967296 + cy) + x / 2147483648 * (P * 4294967296) = cy * P + 2 * (x * P) := by
        rw [Nat.mul_add, Nat.mul_comm (x / 2147483648), Nat.mul_assoc P, Nat.mul_comm cy, show P * (2 * x % 4294967296) + P * cy + P * (4294967296 * (x / 2147483648)) = P * (2 * x % 4294967296) + P * (4294967296 * (x / 2147483648)) + P * cy from by omega, ← Nat.mul_add, hdm, Nat.add_comm, ← Nat.mul_assoc, Nat.mul_comm P 2, Nat.mul_assoc, Nat.mul_comm P x]
      generalize x / 2147483648 * (P * 4294967296) = A at *
      generalize P * (2 * x % 4294967296 + cy) = B at *
      generalize cy * P = C at *
      generalize x * P = D at *
      omega
  · have hi' : i = xs.length := by omega
    (repeat with_reducible first|refine .nil ?_|refine .then_normal ?_|refine .block_normal ?_|refine .seq ?_|refine .block ?_|refine .skip ?_|refine .region ?_|refine .ret ?_|refine .then_ret ?_|refine .block_ret ?_|refine .exit ?_|refine .then_exit ?_|refine .block_exit ?_|refine .block_other rfl ?_)
    refine StL.as TBok 1 (.bool false) rfl (bool_false (by omega)) ?_
    (repeat with_reducible first|refine .nil ?_|refine .then_normal ?_|refine .block_normal ?_|refine .seq ?_|refine .block ?_|refine .skip ?_|refine .region ?_|refine .ret ?_|refine .then_ret ?_|refine .block_ret ?_|refine .exit ?_|refine .then_exit ?_|refine .block_exit ?_|refine .block_other rfl ?_)
    refine St.condF rfl rfl ?_
    (repeat with_reducible first|refine .nil ?_|refine .then_normal ?_|refine .block_normal ?_|refine .seq ?_|refine .block ?_|refine .skip ?_|refine .region ?_|refine .ret ?_|refine .then_ret ?_|refine .block_ret ?_|refine .exit ?_|refine .then_exit ?_|refine .block_exit ?_|refine .block_other rfl ?_)
    refine .run TBok 99 rfl ?_
    refine StL.push32 cy rfl rfl (by omega) (fun _ => rfl) ho (by omega) hx1 (Nat.le_refl _) hx1.size rfl rfl ?_
    intro p2 v' w2 wm hxm hom hgr ho2 hx2
    (iterate 6 ((repeat with_reducible first|refine .nil ?_|refine .then_normal ?_|refine .block_normal ?_|refine .seq ?_|refine .block ?_|refine .skip ?_|refine .region ?_|refine .ret ?_|refine .then_ret ?_|refine .block_ret ?_|refine .exit ?_|refine .then_exit ?_|refine .block_exit ?_|refine .block_other rfl ?_); try refine .run TBok 99 rfl ?_))
    refine Out.ret1 rfl rfl ⟨hx2, _, ho2, by simp; omega, ?_⟩
    rw [List.take_of_length_le (by omega)] at hinv
    rw [val_snoc, hol, ← hinv, Nat.mul_comm]

end Go.Qf

/- quadformref01: divide. -/
namespace Go.Qf
open Go Go.RowKit Go.Proofs
set_option maxRecDepth 20000

theorem Own.updB {base b : Nat} {e : TypeId} {w w' : World} {v : Value} {cs : List Value} (h : Own base e w v cs) (hu : Upd b w w') (hb : b < base) : Own base e w' v cs := by
  refine ⟨h.1, ?_⟩
  rcases h.2 with h0 | ⟨g, cap, cur, hv, hg, hgg, r⟩
  · exact .inl h0
  · exact .inr ⟨g, cap, cur, hv, hg, (hu.block g (Array.getElem?_eq_some_iff.1 hgg).1 (by omega)).trans hgg, r⟩
theorem SlO.updB {base b : Nat} {w w' : World} {v : Value} {xs : List Nat} (h : SlO base w v xs) (hu : Upd b w w') (hb : b < base) : SlO base w' v xs := ⟨Own.updB h.1 hu hb, h.2⟩

/-- What divide hands back. -/
def DivN (w : World) (r : Value) (a b : Nat) : Prop := ∃ q m, r = .tuple #[q, m] ∧ SlO 0 w q (limbs (a / b)) ∧ SlO 0 w m (limbs (a % b))

set_option maxHeartbeats 1000000 in
theorem divide_spec (w : World) (u v : Value) (M K : Nat) (h : Sl w u (limbs M)) (k : Sl w v (limbs K)) (hlen : (limbs M).length ≤ 10000000) (hl : (limbs K).length ≤ 10000000) (hK : K ≠ 0) :
    Calls Try.prog 121 #[u, v] w (Ret fun r w' => Ext w w' ∧ DivN w' r M K) := by
  obtain ⟨p, c, rfl, _⟩ := h.form
  obtain ⟨q, d, rfl, _⟩ := k.form
  have hKpos : 0 < K := by omega
  refine calls_of_St (args := [_, _]) Try.func121 rfl Try.ntmps121 rfl ?_
  refine St.seq (St.region (StL.run TBok 99 rfl (StL.nil (Out.then_normal ?_))))
  by_cases hs : (limbs M).length ≤ 2 ∧ (limbs K).length ≤ 2
  · have hM : M < 18446744073709551616 := by have := val_le_two h.2 hs.1; rwa [val_limbs] at this
    have hK2 : K < 18446744073709551616 := by have := val_le_two k.2 hs.2; rwa [val_limbs] at this
    (repeat with_reducible first|refine .nil ?_|refine .then_normal ?_|refine .block_normal ?_|refine .seq ?_|refine .block ?_|refine .skip ?_|refine .region ?_|refine .ret ?_|refine .then_ret ?_|refine .block_ret ?_|refine .exit ?_|refine .then_exit ?_|refine .block_exit ?_|refine .block_other rfl ?_)
    refine StL.as TBok 3 (.bool true) rfl (bool_true (by omega)) ?_
    refine StL.as TBok 4 (.bool true) rfl (bool_true (by omega)) ?_
    (iterate 6 ((repeat with_reducible first|refine .nil ?_|refine .then_normal ?_|refine .block_normal ?_|refine .seq ?_|refine .block ?_|refine .skip ?_|refine .region ?_|refine .ret ?_|refine .then_ret ?_|refine .block_ret ?_|refine .exit ?_|refine .then_exit ?_|refine .block_exit ?_|refine .block_other rfl ?_); try refine .run TBok 99 rfl ?_))
    refine St.condT rfl rfl ?_
    (iterate 6 ((repeat with_reducible first|refine .nil ?_|refine .then_normal ?_|refine .block_normal ?_|refine .seq ?_|refine .block ?_|refine .skip ?_|refine .region ?_|refine .ret ?_|refine .then_ret ?_|refine .block_ret ?_|refine .exit ?_|refine .then_exit ?_|refine .block_exit ?_|refine .block_other rfl ?_); try refine .run TBok 99 rfl ?_))
    refine StL.step rfl rfl rfl (OpR.call fn_r01_low rfl (low_spec w _ _ h (by omega))) ?_
    rintro _ w1 ⟨hx1, rfl⟩
    rw [List.take_of_length_le hs.1, val_limbs]
    refine .run TBok 99 rfl ?_
    refine StL.step rfl rfl rfl (OpR.call fn_r01_low rfl (low_spec w1 _ _ (k.ext hx1) (by omega))) ?_
    rintro _ w2 ⟨hx2, rfl⟩
    rw [List.take_of_length_le hs.2, val_limbs]
    refine .run TBok 99 rfl ?_
    (repeat with_reducible first|refine .nil ?_|refine .then_normal ?_|refine .block_normal ?_|refine .seq ?_|refine .block ?_|refine .skip ?_|refine .region ?_|refine .ret ?_|refine .then_ret ?_|refine .block_ret ?_|refine .exit ?_|refine .then_exit ?_|refine .block_exit ?_|refine .block_other rfl ?_)
    have hq : M / K < 18446744073709551616 := Nat.lt_of_le_of_lt (Nat.div_le_self _ _) hM
    have hr : M % K < 18446744073709551616 := Nat.lt_of_le_of_lt (Nat.mod_le _ _) hM
    refine St.sub (E' := [(6, .int .u64 M), (7, .int .u64 K)]) ?_ ⟨rfl, rfl, trivial⟩
    refine St.flow 12 TBfol (by kernel_rfl) rfl (by kernel_rfl) rfl True.intro ?_
    refine FL.run TBok 99 rfl ?_
    refine FL.one (L := []) rfl rfl rfl rfl rfl (fun _ _ => RunsTo.quoN M K rfl rfl rfl rfl hKpos (u64_of _ hq)) ?_
    refine FL.callE fn_r01_word rfl rfl rfl (fun w3 hx3 => CallF.mk rfl (rword_spec (base := 0) w3 false (M / K) hq (Nat.zero_le _))) (MonoR.canO 0 _) ?_
    refine FL.fact (L := []) (ψ := fun v w' => SlO 0 w' v (limbs (M / K))) rfl rfl rfl rfl rfl ?_ (MonoR.slO 0 _) ?_
    · rintro w3 hR v24 ⟨p24, c24, rfl, h24⟩
      rw [sg_abs] at h24 ⊢
      exact RunsTo.ext (RunsTo.pure TBok rfl) h24
    refine FL.run TBok 99 rfl ?_
    refine FL.one (L := []) rfl rfl rfl rfl rfl (fun _ _ => RunsTo.remN M K rfl rfl rfl rfl hKpos) ?_
    refine FL.callE fn_r01_word rfl rfl rfl (fun w3 hx3 => CallF.mk rfl (rword_spec (base := 0) w3 false (M % K) hr (Nat.zero_le _))) (MonoR.canO 0 _) ?_
    refine FL.fact (L := []) (ψ := fun v w' => SlO 0 w' v (limbs (M % K))) rfl rfl rfl rfl rfl ?_ (MonoR.slO 0 _) ?_
    · rintro w3 hR v29 ⟨p29, c29, rfl, h29⟩
      rw [sg_abs] at h29 ⊢
      exact RunsTo.ext (RunsTo.pure TBok rfl) h29
    refine FL.fact (L := []) (ψ := fun v w' => SlO 0 w' v (limbs (M / K))) rfl rfl rfl rfl rfl (fun w3 hR v hv => RunsTo.ext (RunsTo.pure TBok rfl) hv) (MonoR.slO 0 _) ?_
    refine FL.fact (L := []) (ψ := fun v w' => SlO 0 w' v (limbs (M % K))) rfl rfl rfl rfl rfl (fun w3 hR v hv => RunsTo.ext (RunsTo.pure TBok rfl) hv) (MonoR.slO 0 _) ?_
    refine FL.endE rfl ?_
    intro w3 hx3 v5 h5 v4 h4 _ _ _ _ _ _ _ _ _ _
    (iterate 6 ((repeat with_reducible first|refine .nil ?_|refine .then_normal ?_|refine .block_normal ?_|refine .seq ?_|refine .block ?_|refine .skip ?_|refine .region ?_|refine .ret ?_|refine .then_ret ?_|refine .block_ret ?_|refine .exit ?_|refine .then_exit ?_|refine .block_exit ?_|refine .block_other rfl ?_); try refine .run TBok 99 rfl ?_))
    exact Out.ret2 rfl rfl rfl ⟨(by first | assumption | exact Ext.refl _ | (first | apply Blk.ext | apply CanO.ext | apply Den.ext | apply Sl.ext | apply SlO.ext | apply Dn.ext | apply It.ext | apply CanR.ext | apply DnR.ext | skip) <;> (repeat first | assumption | refine Ext.trans ?_ (by assumption))), _, _, rfl, h4, h5⟩
  refine St.cut (fun _ : Unit => [(0, .slice p (limbs M).length c), (1, .slice q (limbs K).length d), (5, .slice none 0 0)]) (fun _ w' => w' = w) ?_ ?_
  · (repeat with_reducible first|refine .nil ?_|refine .then_normal ?_|refine .block_normal ?_|refine .seq ?_|refine .block ?_|refine .skip ?_|refine .region ?_|refine .ret ?_|refine .then_ret ?_|refine .block_ret ?_|refine .exit ?_|refine .then_exit ?_|refine .block_exit ?_|refine .block_other rfl ?_)
    by_cases h1 : (limbs M).length ≤ 2
    · refine StL.as TBok 3 (.bool true) rfl (bool_true (by omega)) ?_
      refine StL.as TBok 4 (.bool false) rfl (bool_false (by omega)) ?_
      (iterate 6 ((repeat with_reducible first|refine .nil ?_|refine .then_normal ?_|refine .block_normal ?_|refine .seq ?_|refine .block ?_|refine .skip ?_|refine .region ?_|refine .ret ?_|refine .then_ret ?_|refine .block_ret ?_|refine .exit ?_|refine .then_exit ?_|refine .block_exit ?_|refine .block_other rfl ?_); try refine .run TBok 99 rfl ?_))
      refine St.condF rfl rfl (St.skip (Out.met () ⟨rfl, rfl, rfl, trivial⟩ rfl))
    · refine StL.as TBok 3 (.bool false) rfl (bool_false (by omega)) ?_
      (iterate 6 ((repeat with_reducible first|refine .nil ?_|refine .then_normal ?_|refine .block_normal ?_|refine .seq ?_|refine .block ?_|refine .skip ?_|refine .region ?_|refine .ret ?_|refine .then_ret ?_|refine .block_ret ?_|refine .exit ?_|refine .then_exit ?_|refine .block_exit ?_|refine .block_other rfl ?_); try refine .run TBok 99 rfl ?_))
      refine St.condF rfl rfl (St.skip (Out.met () ⟨rfl, rfl, rfl, trivial⟩ rfl))
  rintro _ w rfl
  clear hs
  have hMlt : M < 4294967296 ^ (limbs M).length := by have := val_lt _ h.2; rwa [val_limbs] at this
  generalize hxs : limbs M = xs at *
  have hval : val xs = M := by rw [← hxs, val_limbs]
  (iterate 6 ((repeat with_reducible first|refine .nil ?_|refine .then_normal ?_|refine .block_normal ?_|refine .seq ?_|refine .block ?_|refine .skip ?_|refine .region ?_|refine .ret ?_|refine .then_ret ?_|refine .block_ret ?_|refine .exit ?_|refine .then_exit ?_|refine .block_exit ?_|refine .block_other rfl ?_); try refine .run TBok 99 rfl ?_))
  refine StL.step rfl rfl rfl (OpR.make TBok xs.length rfl rfl rfl rfl rfl rfl rfl rfl (by simp; omega) (by omega)) ?_
  rintro _ w1 ⟨rfl, hb1, hx1, hz1⟩
  (iterate 6 ((repeat with_reducible first|refine .nil ?_|refine .then_normal ?_|refine .block_normal ?_|refine .seq ?_|refine .block ?_|refine .skip ?_|refine .region ?_|refine .ret ?_|refine .then_ret ?_|refine .block_ret ?_|refine .exit ?_|refine .then_exit ?_|refine .block_exit ?_|refine .block_other rfl ?_); try refine .run TBok 99 rfl ?_))
  have ei : IntKind.i64.wrap (IntKind.i64.wrap (32 * (xs.length : Int)) - 1) = ((32 * xs.length : Nat) : Int) - 1 := by
    rw [i64_id (n := 32 * (xs.length : Int)) (by omega) (by omega), i64_id (by omega) (by omega)]; omega
  have hj0 : M / 2 ^ (32 * xs.length) = 0 := by
    rw [Nat.pow_mul]
    exact Nat.div_eq_of_lt hMlt
  refine St.loop (fun g : Value × List Nat × Nat => [(0, .slice p xs.length c), (1, .slice q (limbs K).length d), (4, .slice (some ⟨w.heap.size, 0, none⟩) xs.length xs.length), (5, g.1), (8, .int .i64 ((g.2.2 : Int) - 1))])
    (fun g w' => Ext w w' ∧ w1.heap.size ≤ w'.heap.size ∧ SlO w1.heap.size w' g.1 (limbs (M / 2 ^ g.2.2 % K)) ∧ Blk 41 w' w.heap.size (g.2.1.map u32) ∧ g.2.1.length = xs.length ∧ Lim g.2.1 ∧ g.2.2 ≤ 32 * xs.length ∧ val g.2.1 = M / 2 ^ g.2.2 / K * 2 ^ g.2.2)
    (fun g => g.2.2) (.slice none 0 0, List.replicate xs.length 0, 32 * xs.length) ⟨rfl, rfl, rfl, rfl, ?_, trivial⟩ ⟨hx1, Nat.le_refl _, ?_, by rw [List.map_replicate]; exact hb1, by simp, lim_replicate _, Nat.le_refl _, ?_⟩ ?_
  · show some (Value.int .i64 (IntKind.i64.wrap (IntKind.i64.wrap (32 * (xs.length : Int)) - 1))) = _
    rw [ei]
  · dsimp only
    rw [hj0, Nat.zero_mod]
    exact SlO.nil _ _
  · dsimp only
    rw [hj0, Nat.zero_div, Nat.zero_mul, val_replicate_zero]
  rintro ⟨rv, qs, j⟩ w2 ⟨hx2, hsz2, hr2, hb2, hql, hqlim, hj, hqv⟩
  dsimp only at hx2 hsz2 hr2 hb2 hql hqlim hj hqv ⊢
  by_cases hj0' : j = 0
  · subst hj0'
    (repeat with_reducible first|refine .nil ?_|refine .then_normal ?_|refine .block_normal ?_|refine .seq ?_|refine .block ?_|refine .skip ?_|refine .region ?_|refine .ret ?_|refine .then_ret ?_|refine .block_ret ?_|refine .exit ?_|refine .then_exit ?_|refine .block_exit ?_|refine .block_other rfl ?_)
    refine StL.as TBok 2 (.bool false) rfl (bool_false (by omega)) ?_
    (repeat with_reducible first|refine .nil ?_|refine .then_normal ?_|refine .block_normal ?_|refine .seq ?_|refine .block ?_|refine .skip ?_|refine .region ?_|refine .ret ?_|refine .then_ret ?_|refine .block_ret ?_|refine .exit ?_|refine .then_exit ?_|refine .block_exit ?_|refine .block_other rfl ?_)
    refine St.condF rfl rfl ?_
    (iterate 6 ((repeat with_reducible first|refine .nil ?_|refine .then_normal ?_|refine .block_normal ?_|refine .seq ?_|refine .block ?_|refine .skip ?_|refine .region ?_|refine .ret ?_|refine .then_ret ?_|refine .block_ret ?_|refine .exit ?_|refine .then_exit ?_|refine .block_exit ?_|refine .block_other rfl ?_); try refine .run TBok 99 rfl ?_))
    have hsl : Sl w2 (.slice (some ⟨w.heap.size, 0, none⟩) xs.length xs.length) qs := ⟨hb2.row (by simp [hql]) (Nat.le_refl _) (by simp [hql]) (by rw [List.drop_zero, List.take_of_length_le (by simp [hql])]), hqlim⟩
    refine StL.step rfl rfl rfl (OpR.call fn_r01_trim rfl (rtrim_spec (base := 0) w2 _ qs hsl (by omega) (Nat.zero_le _))) ?_
    rintro t73 w3 ⟨hx3, h73⟩
    rw [hqv] at h73
    simp only [Nat.pow_zero, Nat.div_one, Nat.mul_one] at h73 hr2
    (iterate 6 ((repeat with_reducible first|refine .nil ?_|refine .then_normal ?_|refine .block_normal ?_|refine .seq ?_|refine .block ?_|refine .skip ?_|refine .region ?_|refine .ret ?_|refine .then_ret ?_|refine .block_ret ?_|refine .exit ?_|refine .then_exit ?_|refine .block_exit ?_|refine .block_other rfl ?_); try refine .run TBok 99 rfl ?_))
    exact Out.ret2 rfl rfl rfl ⟨hx2.trans hx3, _, _, rfl, h73, (hr2.ext hx3).mono (Nat.zero_le _)⟩
  obtain ⟨i, rfl⟩ : ∃ i, j = i + 1 := ⟨j - 1, by omega⟩
  have ej : ((i + 1 : Nat) : Int) - 1 = (i : Int) := by omega
  rw [ej]
  have hkl : i / 32 < xs.length := by omega
  have hxi : xs[i / 32]? = some xs[i / 32] := by simp
  have hbit := bit_at (s := i % 32) (by have := h.2; exact this) hxi (Nat.mod_lt _ (by decide))
  rw [hval, show 32 * (i / 32) + i % 32 = i from Nat.div_add_mod i 32] at hbit
  generalize xs[i / 32] = x at hxi hbit
  have hxl : x < 4294967296 := Lim.get h.2 hxi
  obtain ⟨bt, hbt⟩ : ∃ bt, bt = M / 2 ^ i % 2 := ⟨_, rfl⟩
  have hbt1 : bt ≤ 1 := by omega
  have hhalf := half_step M i
  rw [← hbt] at hhalf hbit
  have hA := h.ext hx2
  have hrl : M / 2 ^ (i + 1) % K < K := Nat.mod_lt _ hKpos
  have hrll := limbs_length_mono _ _ (Nat.le_of_lt hrl)
  (repeat with_reducible first|refine .nil ?_|refine .then_normal ?_|refine .block_normal ?_|refine .seq ?_|refine .block ?_|refine .skip ?_|refine .region ?_|refine .ret ?_|refine .then_ret ?_|refine .block_ret ?_|refine .exit ?_|refine .then_exit ?_|refine .block_exit ?_|refine .block_other rfl ?_)
  refine StL.as TBok 2 (.bool true) rfl (bool_true (by omega)) ?_
  (repeat with_reducible first|refine .nil ?_|refine .then_normal ?_|refine .block_normal ?_|refine .seq ?_|refine .block ?_|refine .skip ?_|refine .region ?_|refine .ret ?_|refine .then_ret ?_|refine .block_ret ?_|refine .exit ?_|refine .then_exit ?_|refine .block_exit ?_|refine .block_other rfl ?_)
  refine St.condT rfl rfl ?_
  (iterate 6 ((repeat with_reducible first|refine .nil ?_|refine .then_normal ?_|refine .block_normal ?_|refine .seq ?_|refine .block ?_|refine .skip ?_|refine .region ?_|refine .ret ?_|refine .then_ret ?_|refine .block_ret ?_|refine .exit ?_|refine .then_exit ?_|refine .block_exit ?_|refine .block_other rfl ?_); try refine .run TBok 99 rfl ?_))
  refine StL.step rfl rfl rfl (RunsTo.quoN i 32 rfl rfl rfl rfl (by decide) (i64_of _ (by omega))).op ?_
  rintro _ _ ⟨rfl, rfl⟩
  refine StL.elem TBok (i / 32) (u32 x) hA.1 (hA.get hxi) rfl rfl rfl rfl rfl rfl rfl rfl rfl rfl rfl (fun _ => rfl) ?_
  intro p1
  refine .run TBok 99 rfl ?_
  refine StL.step rfl rfl rfl (RunsTo.remN i 32 rfl rfl rfl rfl (by decide)).op ?_
  rintro _ _ ⟨rfl, rfl⟩
  refine StL.step rfl rfl rfl (RunsTo.shrN x (i % 32) rfl rfl rfl rfl (by show i % 32 ≤ 32; omega)).op ?_
  rintro _ _ ⟨rfl, rfl⟩
  have hx32 : x / 2 ^ (i % 32) < 4294967296 := Nat.lt_of_le_of_lt (Nat.div_le_self _ _) hxl
  refine StL.as TBok 1 (.int .u32 bt) rfl (by
    have e1 : (Value.int .u32 (bitsI .and .u32 ((x / 2 ^ (i % 32) : Nat) : Int) ((1 : Nat) : Int))) = .int .u32 bt := by
      rw [and_u32 _ 1 hx32 (by decide), Nat.and_one_is_mod, hbit]
    exact e1) ?_
  refine StL.step rfl rfl rfl (OpR.call fn_r01_double rfl (double_spec w2 _ _ bt hr2.sl hbt1 (by omega))) ?_
  rintro d52 w3 ⟨hx3, ds, hd3, hdl, hdv⟩
  rw [val_limbs] at hdv
  refine StL.step rfl rfl rfl (OpR.call fn_r01_trim rfl (rtrim_spec (base := w1.heap.size) w3 _ _ hd3.sl (by omega) (Nat.le_trans hsz2 hx3.size))) ?_
  rintro r53 w4 ⟨hx4, hr4⟩
  rw [hdv] at hr4
  have hx24 := hx3.trans hx4
  have hx04 := hx2.trans hx24
  have hb4 := hb2.ext hx24
  have hsz4 : w1.heap.size ≤ w4.heap.size := Nat.le_trans hsz2 hx24.size
  have hk4 := k.ext hx04
  obtain ⟨p53, c53, rfl, _⟩ := hr4.sl.form
  have hdb := div_bit (M / 2 ^ (i + 1)) bt K hKpos hbt1
  rw [← hhalf] at hdb
  have hl53 : (limbs (2 * (M / 2 ^ (i + 1) % K) + bt)).length ≤ 10000001 := by
    refine Nat.le_trans (limbs_length_mono _ (K + K) (by omega)) ?_
    have := limbs_add_length K K
    omega
  clear hx3 hx4 hx24 hb2 hr2 hd3
  generalize hR : 2 * (M / 2 ^ (i + 1) % K) + bt = R at *
  (iterate 6 ((repeat with_reducible first|refine .nil ?_|refine .then_normal ?_|refine .block_normal ?_|refine .seq ?_|refine .block ?_|refine .skip ?_|refine .region ?_|refine .ret ?_|refine .then_ret ?_|refine .block_ret ?_|refine .exit ?_|refine .then_exit ?_|refine .block_exit ?_|refine .block_other rfl ?_); try refine .run TBok 99 rfl ?_))
  refine StL.step rfl rfl rfl (OpR.call fn_r01_cmp rfl (rcmp_spec w4 _ _ _ _ hr4.sl hk4 (by omega) (by omega))) ?_
  rintro _ w5 ⟨hx5, rfl⟩
  rw [cmpL_limbs]
  replace hr4 := hr4.ext hx5
  replace hb4 := hb4.ext hx5
  replace hk4 := hk4.ext hx5
  replace hx04 := hx04.trans hx5
  replace hsz4 := Nat.le_trans hsz4 hx5.size
  clear hx5
  by_cases hge : K ≤ R
  · obtain ⟨hm1, hm2⟩ := hdb.1 hge
    refine StL.as TBok 1 (.bool true) rfl (bool_true (by unfold cmpN; rw [if_neg (by omega)]; split <;> decide)) ?_
    (repeat with_reducible first|refine .nil ?_|refine .then_normal ?_|refine .block_normal ?_|refine .seq ?_|refine .block ?_|refine .skip ?_|refine .region ?_|refine .ret ?_|refine .then_ret ?_|refine .block_ret ?_|refine .exit ?_|refine .then_exit ?_|refine .block_exit ?_|refine .block_other rfl ?_)
    refine St.condT rfl rfl ?_
    (iterate 6 ((repeat with_reducible first|refine .nil ?_|refine .then_normal ?_|refine .block_normal ?_|refine .seq ?_|refine .block ?_|refine .skip ?_|refine .region ?_|refine .ret ?_|refine .then_ret ?_|refine .block_ret ?_|refine .exit ?_|refine .then_exit ?_|refine .block_exit ?_|refine .block_other rfl ?_); try refine .run TBok 99 rfl ?_))
    refine StL.step rfl rfl rfl (OpR.call fn_r01_difference rfl (rdiff_spec (base := 0) w5 _ _ _ _ hr4.sl hk4 (by omega) (by omega) (limbs_length_mono _ _ hge) (by rw [val_limbs, val_limbs]; exact hge) (Nat.zero_le _))) ?_
    rintro d60 w6 ⟨hx6, es, he6, hel, hev⟩
    rw [val_limbs, val_limbs] at hev
    refine StL.step rfl rfl rfl (OpR.call fn_r01_trim rfl (rtrim_spec (base := w1.heap.size) w6 _ _ he6.sl (by omega) (Nat.le_trans hsz4 hx6.size))) ?_
    rintro r61 w7 ⟨hx7, hr7⟩
    rw [hev, ← hm1] at hr7
    have hx57 := hx6.trans hx7
    replace hb4 := hb4.ext hx57
    replace hx04 := hx04.trans hx57
    replace hsz4 := Nat.le_trans hsz4 hx57.size
    clear hx6 hx7 hx57 he6
    have hyk : qs[i / 32]? = some qs[i / 32] := by simp
    have hev2 : qs[i / 32] % 2 ^ (i % 32 + 1) = 0 := by
      refine limb_even hqlim hyk (Nat.mod_lt _ (by decide)) ?_
      rw [show 32 * (i / 32) + i % 32 + 1 = i + 1 from by omega, hqv]
      exact Nat.mul_mod_left _ _
    generalize qs[i / 32] = y at hyk hev2
    have hyl := hqlim.get hyk
    have hor := or_bit hev2
    have hp32 : 2 ^ (i % 32) < 4294967296 := Nat.pow_lt_pow_right (by decide) (Nat.mod_lt _ (by decide) : i % 32 < 32)
    have hyp : y + 2 ^ (i % 32) < 4294967296 := by
      rw [← hor]
      exact Nat.or_lt_two_pow (n := 32) hyl hp32
    have hset := val_set_add (d := 2 ^ (i % 32)) hyk
    refine .run TBok 99 rfl ?_
    (repeat with_reducible first|refine .nil ?_|refine .then_normal ?_|refine .block_normal ?_|refine .seq ?_|refine .block ?_|refine .skip ?_|refine .region ?_|refine .ret ?_|refine .then_ret ?_|refine .block_ret ?_|refine .exit ?_|refine .then_exit ?_|refine .block_exit ?_|refine .block_other rfl ?_)
    refine St.sub (E' := [(0, .slice p xs.length c), (1, .slice q (limbs K).length d), (4, .slice (some ⟨w.heap.size, 0, none⟩) xs.length xs.length), (5, r61), (8, .int .i64 i)]) ?_ ⟨rfl, rfl, rfl, rfl, rfl, trivial⟩
    refine St.flow 10 TBfol (by kernel_rfl) rfl (by kernel_rfl) rfl True.intro ?_
    refine FL.run TBok 99 rfl ?_
    refine FL.one (L := []) rfl rfl rfl rfl rfl (fun _ _ => RunsTo.quoN i 32 rfl rfl rfl rfl (by decide) (i64_of _ (by omega))) ?_
    refine FL.one (L := []) rfl rfl rfl rfl rfl (fun _ _ => RunsTo.indexAddr TBok rfl rfl rfl rfl rfl (by omega) (by omega)) ?_
    refine FL.load (L := []) TBok rfl rfl rfl rfl rfl (by simp only [Int.toNat_natCast, addr_add, Nat.zero_add]; rfl) hb4 (by simp) (by simp [hyk]; rfl) ?_
    refine FL.run TBok 99 rfl ?_
    refine FL.one (L := []) rfl rfl rfl rfl rfl (fun _ _ => RunsTo.remN i 32 rfl rfl rfl rfl (by decide)) ?_
    refine FL.one (L := []) rfl rfl rfl rfl rfl (fun _ _ => RunsTo.shlN 1 (i % 32) rfl rfl rfl rfl (by show i % 32 ≤ 32; omega) (by rw [Nat.one_mul]; exact u32_id (by omega) (by omega))) ?_
    refine FL.as TBok 1 (.int .u32 ((y + 2 ^ (i % 32) : Nat) : Int)) rfl (by rw [or_u32 _ _ hyl (by rw [Nat.one_mul]; exact hp32), Nat.one_mul, hor]) ?_
    refine FL.one (L := []) rfl rfl rfl rfl rfl (fun _ _ => RunsTo.indexAddr TBok rfl rfl rfl rfl rfl (by omega) (by omega)) ?_
    refine FL.endE rfl ?_
    intro w8 hx8 _ _
    refine StL.step0 rfl rfl (OpR.store TBok (vs := [u32 (y + 2 ^ (i % 32))]) rfl (by simp only [Int.toNat_natCast, addr_add, Nat.zero_add]; rfl) rfl rfl rfl (hb4.ext hx8) (by simp; omega) (by simp [Value.oneCell'])) ?_
    rintro _ w9 ⟨hb9, hu9⟩
    have hb9' : Blk 41 w9 w.heap.size ((qs.set (i / 32) (y + 2 ^ (i % 32))).map u32) := by
      rw [← map_set_u32]; exact hb9
    have hx09 := (hx04.trans hx8).then_upd hu9 (Nat.le_refl _)
    (iterate 6 ((repeat with_reducible first|refine .nil ?_|refine .then_normal ?_|refine .block_normal ?_|refine .seq ?_|refine .block ?_|refine .skip ?_|refine .region ?_|refine .ret ?_|refine .then_ret ?_|refine .block_ret ?_|refine .exit ?_|refine .then_exit ?_|refine .block_exit ?_|refine .block_other rfl ?_); try refine .run TBok 99 rfl ?_))
    refine Out.again (r61, qs.set (i / 32) (y + 2 ^ (i % 32)), i) ⟨rfl, rfl, rfl, rfl, ?_, trivial⟩ ⟨hx09, Nat.le_trans (Nat.le_trans hsz4 hx8.size) hu9.size, (hr7.ext hx8).updB hu9 (by omega), hb9', by simpa using hql, hqlim.set _ hyp, by dsimp only; omega, ?_⟩ (Nat.lt_succ_self i)
    · show some (Value.int .i64 (IntKind.i64.wrap ((i : Int) - 1))) = _
      rw [i64_id (by omega) (by omega)]
    · dsimp only
      rw [hset, hqv, hm2, Nat.mul_comm (2 ^ (i % 32)), ← pow_at, Nat.div_add_mod, Nat.pow_succ, Nat.add_mul, Nat.one_mul]
      congr 1
      rw [Nat.mul_comm (2 ^ i) 2, ← Nat.mul_assoc, Nat.mul_comm _ 2]
  · obtain ⟨hm1, hm2⟩ := hdb.2 hge
    refine StL.as TBok 1 (.bool false) rfl (bool_false (by unfold cmpN; rw [if_pos (by omega)]; decide)) ?_
    (repeat with_reducible first|refine .nil ?_|refine .then_normal ?_|refine .block_normal ?_|refine .seq ?_|refine .block ?_|refine .skip ?_|refine .region ?_|refine .ret ?_|refine .then_ret ?_|refine .block_ret ?_|refine .exit ?_|refine .then_exit ?_|refine .block_exit ?_|refine .block_other rfl ?_)
    refine St.condF rfl rfl ?_
    rw [← hm1] at hr4
    (iterate 6 ((repeat with_reducible first|refine .nil ?_|refine .then_normal ?_|refine .block_normal ?_|refine .seq ?_|refine .block ?_|refine .skip ?_|refine .region ?_|refine .ret ?_|refine .then_ret ?_|refine .block_ret ?_|refine .exit ?_|refine .then_exit ?_|refine .block_exit ?_|refine .block_other rfl ?_); try refine .run TBok 99 rfl ?_))
    refine Out.again (.slice p53 (limbs R).length c53, qs, i) ⟨rfl, rfl, rfl, rfl, ?_, trivial⟩ ⟨hx04, hsz4, ?_, hb4, hql, hqlim, by dsimp only; omega, ?_⟩ (Nat.lt_succ_self i)
    · show some (Value.int .i64 (IntKind.i64.wrap ((i : Int) - 1))) = _
      rw [i64_id (by omega) (by omega)]
    · dsimp only
      rw [hm1] at hr4 ⊢
      exact hr4
    · dsimp only
      rw [hqv, hm2, Nat.pow_succ, Nat.mul_comm (2 ^ i) 2, ← Nat.mul_assoc, Nat.mul_comm _ 2]

end Go.Qf

/- quadformref01: DivMod, Rem, Divides, Gcd. -/
namespace Go.Qf
open Go Go.RowKit Go.Proofs
set_option maxRecDepth 20000

theorem St.flowL {P : Program} {n : Nat} {l : List Oper} (m : Nat) (L : List Nat) {E : List (Nat × Value)} {w : World} {Q : Exit → Act → World → Prop} {id : Nat} (hP : P.follows .mixedOrders = true) (hD : flowOk l m = true) (hfree : freeE (dsts (l.take m)) E = true) (hlt : (dsts (l.take m)).all (fun d => Nat.blt d n) = true)
    (hall : allPtr E (preSlots l m) = true) (hL : blocksOf E (preSlots l m) = L) (hpre : preD w L) (h : FL P n l m E w (FlowEnd P n l m E w Q) 0 [] [] [] (l.take m)) : St P n E w (.region id l.toArray true) Q :=
  St.flow m hP hD hfree hlt hall (hL ▸ hpre) h
theorem preD1 {w : World} {b : Nat} (h : b < w.heap.size) : preD w [b] := ⟨h, fun _ hc => (by cases hc), trivial⟩

/-- The quotient and the remainder as the reference finds them. -/
theorem rdiv_law (na nb : Bool) (m k : Nat) (hk : k ≠ 0) :
    (sg na (m % k) < 0 → (nb = true → sg na m / sg nb k = sg (!(na == nb)) (m / k) + 1) ∧ (nb = false → sg na m / sg nb k = sg (!(na == nb)) (m / k) - 1) ∧ sg na m % sg nb k = sg na (m % k) + (k : Int)) ∧
    (¬ sg na (m % k) < 0 → sg na m / sg nb k = sg (!(na == nb)) (m / k) ∧ sg na m % sg nb k = sg na (m % k)) := by
  obtain ⟨h1, h2, h3⟩ := div_law na nb m k hk
  have hlt := Nat.mod_lt m (Nat.pos_of_ne_zero hk)
  constructor
  · intro h
    cases na with
    | false => rw [show sg false (m % k) = ((m % k : Nat) : Int) from rfl] at h; omega
    | true =>
      have hr : m % k ≠ 0 := by intro e; rw [e] at h; simp [sg] at h
      obtain ⟨e1, e2⟩ := h1 ⟨rfl, hr⟩
      rw [e1, e2]
      refine ⟨?_, ?_, ?_⟩
      · rintro rfl; simp [sg]
      · rintro rfl; simp [sg]; omega
      · simp [sg]; omega
  · intro h
    cases na with
    | false =>
      obtain ⟨e1, e2⟩ := h3 rfl
      rw [e1, e2]
      cases nb <;> simp [sg]
    | true =>
      have hr : m % k = 0 := by
        simp [sg] at h
        omega
      obtain ⟨e1, e2⟩ := h2 ⟨rfl, hr⟩
      rw [e1, e2, hr]
      cases nb <;> simp [sg]

set_option maxHeartbeats 1000000 in
theorem rdivMod_dn {w : World} {vx vy : Value} {a b : Int} (h : Dn w vx a) (k : Dn w vy b) : Calls Try.prog 95 #[vx, vy] w (Ret fun r w' => Ext w w' ∧ DivV 0 w' r a b) := by
  have kD := k
  have hszb := k.sz_le
  have hsza := h.sz_le
  obtain ⟨na, xs, ⟨p, cap, rfl, hs⟩, rfl, hlen⟩ := h
  obtain ⟨nb, ys, ⟨q, cb, rfl, ks⟩, rfl, hl⟩ := k
  have hl1 := limbs_length_le xs hs.2
  have hl2 := limbs_length_le ys ks.2
  refine calls_of_St (args := [_, _]) Try.func95 rfl Try.ntmps95 rfl ?_
  (repeat with_reducible first|refine .nil ?_|refine .then_normal ?_|refine .block_normal ?_|refine .seq ?_|refine .block ?_|refine .skip ?_|refine .region ?_|refine .ret ?_|refine .then_ret ?_|refine .block_ret ?_|refine .exit ?_|refine .then_exit ?_|refine .block_exit ?_|refine .block_other rfl ?_)
  refine StL.step rfl rfl rfl (OpR.box rfl) ?_
  rintro _ w1 ⟨rfl, hb1, hx1, hz1⟩
  refine StL.step rfl rfl rfl (OpR.box rfl) ?_
  rintro _ w2 ⟨rfl, hb2, hx2, hz2⟩
  refine StL.step rfl rfl rfl (OpR.alloc TBok rfl) ?_
  rintro _ w3 ⟨rfl, hb3, hx3, hz3⟩
  refine StL.step rfl rfl rfl (OpR.alloc TBok rfl) ?_
  rintro _ w4 ⟨rfl, hb4, hx4, hz4⟩
  have hx04 : Ext w w4 := (by first | assumption | exact Ext.refl _ | (first | apply Blk.ext | apply CanO.ext | apply Den.ext | apply Sl.ext | apply SlO.ext | apply Dn.ext | apply It.ext | apply CanR.ext | apply DnR.ext | skip) <;> (repeat first | assumption | refine Ext.trans ?_ (by assumption)))
  have hB1 : Blk 25 w4 w.heap.size [.bool na, .slice p xs.length cap] := ((hb1.ext hx2).ext hx3).ext hx4
  have hB2 : Blk 25 w4 w1.heap.size [.bool nb, .slice q ys.length cb] := (hb2.ext hx3).ext hx4
  have hB3 : Blk 25 w4 w2.heap.size [.bool false, .slice none 0 0] := hb3.ext hx4
  have hB4 : Blk 25 w4 w3.heap.size [.bool false, .slice none 0 0] := hb4
  clear hb1 hb2 hb3 hb4
  refine .run TBok 99 rfl ?_
  (repeat with_reducible first|refine .nil ?_|refine .then_normal ?_|refine .block_normal ?_|refine .seq ?_|refine .block ?_|refine .skip ?_|refine .region ?_|refine .ret ?_|refine .then_ret ?_|refine .block_ret ?_|refine .exit ?_|refine .then_exit ?_|refine .block_exit ?_|refine .block_other rfl ?_)
  refine St.flow 6 TBfol (by kernel_rfl) rfl (by kernel_rfl) rfl True.intro ?_
  refine FL.run TBok 99 rfl ?_
  refine FL.load (L := []) TBok rfl rfl rfl rfl rfl rfl (by first | assumption | exact Ext.refl _ | (first | apply Blk.ext | apply CanO.ext | apply Den.ext | apply Sl.ext | apply SlO.ext | apply Dn.ext | apply It.ext | apply CanR.ext | apply DnR.ext | skip) <;> (repeat first | assumption | refine Ext.trans ?_ (by assumption))) (by simp) rfl ?_
  refine FL.callE fn_r01_trim rfl rfl rfl (fun w5 hx5 => CallF.mk rfl (rtrim_spec (base := 0) w5 _ xs (hs.ext (hx04.trans hx5)) (by omega) (Nat.zero_le _))) (MonoR.slO 0 _) ?_
  refine FL.run TBok 99 rfl ?_
  refine FL.load (L := []) TBok rfl rfl rfl rfl rfl rfl (by first | assumption | exact Ext.refl _ | (first | apply Blk.ext | apply CanO.ext | apply Den.ext | apply Sl.ext | apply SlO.ext | apply Dn.ext | apply It.ext | apply CanR.ext | apply DnR.ext | skip) <;> (repeat first | assumption | refine Ext.trans ?_ (by assumption))) (by simp) rfl ?_
  refine FL.callE fn_r01_trim rfl rfl rfl (fun w5 hx5 => CallF.mk rfl (rtrim_spec (base := 0) w5 _ ys (ks.ext (hx04.trans hx5)) (by omega) (Nat.zero_le _))) (MonoR.slO 0 _) ?_
  refine FL.endE rfl ?_
  intro w5 hx5 v18 h18 v15 h15 _ _
  obtain ⟨p15, c15, rfl, _⟩ := h15.sl.form
  obtain ⟨p18, c18, rfl, _⟩ := h18.sl.form
  replace hB1 := hB1.ext hx5
  replace hB2 := hB2.ext hx5
  replace hB3 := hB3.ext hx5
  replace hB4 := hB4.ext hx5
  replace hx04 := hx04.trans hx5
  clear hx5
  (iterate 6 ((repeat with_reducible first|refine .nil ?_|refine .then_normal ?_|refine .block_normal ?_|refine .seq ?_|refine .block ?_|refine .skip ?_|refine .region ?_|refine .ret ?_|refine .then_ret ?_|refine .block_ret ?_|refine .exit ?_|refine .then_exit ?_|refine .block_exit ?_|refine .block_other rfl ?_); try refine .run TBok 99 rfl ?_))
  by_cases hk0 : val ys = 0
  · refine St.condT rfl (by rw [hk0]; rfl) ?_
    (iterate 6 ((repeat with_reducible first|refine .nil ?_|refine .then_normal ?_|refine .block_normal ?_|refine .seq ?_|refine .block ?_|refine .skip ?_|refine .region ?_|refine .ret ?_|refine .then_ret ?_|refine .block_ret ?_|refine .exit ?_|refine .then_exit ?_|refine .block_exit ?_|refine .block_other rfl ?_); try refine .run TBok 99 rfl ?_))
    refine StL.step rfl rfl rfl (RunsTo.build TBok rfl rfl rfl rfl).op ?_
    rintro _ _ ⟨rfl, rfl⟩
    refine StL.step rfl rfl rfl (RunsTo.build TBok rfl rfl rfl rfl).op ?_
    rintro _ _ ⟨rfl, rfl⟩
    refine StL.step0 rfl rfl (OpR.store TBok (vs := [.bool false, .slice none 0 0]) rfl rfl rfl rfl rfl hB3 (Nat.le_refl _) (by simp [Value.oneCell'])) ?_
    rintro _ w6 ⟨hb6, hu6⟩
    refine StL.step0 rfl rfl (OpR.store TBok (vs := [.bool false, .slice none 0 0]) rfl rfl rfl rfl rfl (hB4.upd hu6 (by omega)) (Nat.le_refl _) (by simp [Value.oneCell'])) ?_
    rintro _ w7 ⟨hb7, hu7⟩
    have hb67 := hb6.upd hu7 (by omega)
    (iterate 6 ((repeat with_reducible first|refine .nil ?_|refine .then_normal ?_|refine .block_normal ?_|refine .seq ?_|refine .block ?_|refine .skip ?_|refine .region ?_|refine .ret ?_|refine .then_ret ?_|refine .block_ret ?_|refine .exit ?_|refine .then_exit ?_|refine .block_exit ?_|refine .block_other rfl ?_); try refine .run TBok 99 rfl ?_))
    exact Out.rets TBok [IntV false (.slice none 0 0), IntV false (.slice none 0 0), .bool false] rfl ⟨⟨_, _, _, _, rfl, hb67, rfl, rfl, rfl, rfl⟩, ⟨_, _, _, _, rfl, hb7, rfl, rfl, rfl, rfl⟩, rfl, trivial⟩
      ⟨(hx04.then_upd hu6 (by omega)).then_upd hu7 (by omega), fun _ => rfl, fun h0 => absurd (by rw [hk0]; cases nb <;> rfl) h0⟩
  have hkb : sg nb (val ys) ≠ 0 := by cases nb <;> simp [sg] <;> omega
  refine St.condF rfl (by simp [limbs_eq_nil, hk0]) ?_
  (iterate 6 ((repeat with_reducible first|refine .nil ?_|refine .then_normal ?_|refine .block_normal ?_|refine .seq ?_|refine .block ?_|refine .skip ?_|refine .region ?_|refine .ret ?_|refine .then_ret ?_|refine .block_ret ?_|refine .exit ?_|refine .then_exit ?_|refine .block_exit ?_|refine .block_other rfl ?_); try refine .run TBok 99 rfl ?_))
  refine StL.step rfl rfl rfl (OpR.call fn_r01_divide rfl (divide_spec w5 _ _ _ _ h15.sl h18.sl (by omega) (by omega) hk0)) ?_
  rintro _ w6 ⟨hx6, qv, rv, rfl, hq6, hr6⟩
  replace hB1 := hB1.ext hx6
  replace hB2 := hB2.ext hx6
  replace hB3 := hB3.ext hx6
  replace hB4 := hB4.ext hx6
  replace h18 := h18.ext hx6
  replace hx04 := hx04.trans hx6
  clear hx6
  obtain ⟨hlaw1, hlaw2⟩ := rdiv_law na nb (val xs) (val ys) hk0
  have hql : (limbs (val xs / val ys)).length ≤ 1000000 := Nat.le_trans (limbs_length_mono _ _ (Nat.div_le_self _ _)) (by omega)
  have hrl : (limbs (val xs % val ys)).length ≤ 1000000 := Nat.le_trans (limbs_length_mono _ _ (Nat.mod_le _ _)) (by omega)
  have hqsz : sz (sg (!(na == nb)) (val xs / val ys)) ≤ 1000000 := by unfold sz; rw [sg_abs]; exact hql
  have hrsz : sz (sg na (val xs % val ys)) ≤ 1000000 := by unfold sz; rw [sg_abs]; exact hrl
  refine .run TBok 99 rfl ?_
  (repeat with_reducible first|refine .nil ?_|refine .then_normal ?_|refine .block_normal ?_|refine .seq ?_|refine .block ?_|refine .skip ?_|refine .region ?_|refine .ret ?_|refine .then_ret ?_|refine .block_ret ?_|refine .exit ?_|refine .then_exit ?_|refine .block_exit ?_|refine .block_other rfl ?_)
  refine St.sub (E' := [(2, .pointer (some ⟨w.heap.size, 0, none⟩)), (3, .pointer (some ⟨w1.heap.size, 0, none⟩)), (4, .pointer (some ⟨w2.heap.size, 0, none⟩)), (5, .pointer (some ⟨w3.heap.size, 0, none⟩)), (8, .slice p18 (limbs (val ys)).length c18), (9, qv), (10, rv)]) ?_ ⟨rfl, rfl, rfl, rfl, rfl, rfl, rfl, trivial⟩
  refine St.flow 13 TBfol (by kernel_rfl) rfl (by kernel_rfl) rfl True.intro ?_
  refine FL.run TBok 99 rfl ?_
  refine FL.load (L := []) TBok rfl rfl rfl rfl rfl rfl (by first | assumption | exact Ext.refl _ | (first | apply Blk.ext | apply CanO.ext | apply Den.ext | apply Sl.ext | apply SlO.ext | apply Dn.ext | apply It.ext | apply CanR.ext | apply DnR.ext | skip) <;> (repeat first | assumption | refine Ext.trans ?_ (by assumption))) (by simp) rfl ?_
  refine FL.run TBok 99 rfl ?_
  refine FL.load (L := []) TBok rfl rfl rfl rfl rfl rfl (by first | assumption | exact Ext.refl _ | (first | apply Blk.ext | apply CanO.ext | apply Den.ext | apply Sl.ext | apply SlO.ext | apply Dn.ext | apply It.ext | apply CanR.ext | apply DnR.ext | skip) <;> (repeat first | assumption | refine Ext.trans ?_ (by assumption))) (by simp) rfl ?_
  refine FL.one (L := []) rfl rfl rfl rfl rfl (fun _ _ => RunsTo.boolNe TBok rfl rfl rfl) ?_
  refine FL.run TBok 99 rfl ?_
  refine FL.callE (ψ := fun v w' => CanO 0 w' v (sg (!(na == nb)) (val xs / val ys))) fn_r01_Make rfl rfl rfl ?_ (MonoR.canO 0 _) ?_
  · intro w7 hx7
    have := make_spec (base := 0) w7 (!(na == nb)) _ _ (hq6.ext hx7).sl (by omega) (Nat.zero_le _)
    rw [val_limbs] at this
    exact CallF.mk rfl this
  refine FL.run TBok 99 rfl ?_
  refine FL.load (L := []) TBok rfl rfl rfl rfl rfl rfl (by first | assumption | exact Ext.refl _ | (first | apply Blk.ext | apply CanO.ext | apply Den.ext | apply Sl.ext | apply SlO.ext | apply Dn.ext | apply It.ext | apply CanR.ext | apply DnR.ext | skip) <;> (repeat first | assumption | refine Ext.trans ?_ (by assumption))) (by simp) rfl ?_
  refine FL.run TBok 99 rfl ?_
  refine FL.callE (ψ := fun v w' => CanO 0 w' v (sg na (val xs % val ys))) fn_r01_Make rfl rfl rfl ?_ (MonoR.canO 0 _) ?_
  · intro w7 hx7
    have := make_spec (base := 0) w7 na _ _ (hr6.ext hx7).sl (by omega) (Nat.zero_le _)
    rw [val_limbs] at this
    exact CallF.mk rfl this
  refine FL.alloc TBok rfl rfl rfl rfl ?_
  refine FL.alloc TBok rfl rfl rfl rfl ?_
  refine FL.endE rfl ?_
  rintro w7 hx7 _ ⟨b12, C12, rfl, hg12, hB12, hl12⟩ _ ⟨b11, C11, rfl, hg11, hB11, hl11⟩ v40 h40 v36 h36 _ hdist
  have hne : b11 ≠ b12 := by
    intro e
    exact hdist 11 (by decide) 12 (by decide) (by decide) _ rfl (by rw [e]; rfl)
  have hlt3 := hB4.lt
  have hlt2 := hB3.lt
  replace hB1 := hB1.ext hx7
  replace hB2 := hB2.ext hx7
  replace hB3 := hB3.ext hx7
  replace hB4 := hB4.ext hx7
  replace h18 := h18.ext hx7
  replace hx04 := hx04.trans hx7
  clear hx7
  refine StL.setCan rfl rfl hB11 hl11 h36 hx04 (by have := hB1.lt; omega) ?_
  intro w8 hS11 hu8 h36' hx8
  have hB12' := hB12.upd hu8 (fun e => hne e.symm)
  replace hB1 := hB1.upd hu8 (by omega)
  replace hB2 := hB2.upd hu8 (by omega)
  replace hB3 := hB3.upd hu8 (by omega)
  replace hB4 := hB4.upd hu8 (by omega)
  replace h18 : SlO 0 w8 _ _ := ⟨Own.updT h18.1 hu8 hB11 (by decide), h18.2⟩
  refine StL.setCan rfl rfl hB12' hl12 (CanO.upd h40 hu8 ⟨_, hB11⟩) hx8 (by have := hB1.lt; omega) ?_
  intro w9 hS12 hu9 h40' hx9
  replace hB1 := hB1.upd hu9 (by omega)
  replace hB2 := hB2.upd hu9 (by omega)
  replace hB3 := hB3.upd hu9 (by omega)
  replace hB4 := hB4.upd hu9 (by omega)
  replace h18 : SlO 0 w9 _ _ := ⟨Own.updT h18.1 hu9 hB12' (by decide), h18.2⟩
  replace hS11 := hS11.upd hu9 hne
  replace h36' := CanO.upd h36' hu9 ⟨_, hB12'⟩
  have hx09 := hx9
  clear hx8 hx9 hu8 hu9 hB12' hB12 hB11 h36 h40 hx04 hdist hl11 hl12 hx1 hx2 hx3 hx4
  have hlt11 := hS11.lt
  have hlt12 := hS12.lt
  generalize hqi : sg (!(na == nb)) (val xs / val ys) = Q at *
  generalize hri : sg na (val xs % val ys) = R at *
  (iterate 6 ((repeat with_reducible first|refine .nil ?_|refine .then_normal ?_|refine .block_normal ?_|refine .seq ?_|refine .block ?_|refine .skip ?_|refine .region ?_|refine .ret ?_|refine .then_ret ?_|refine .block_ret ?_|refine .exit ?_|refine .then_exit ?_|refine .block_exit ?_|refine .block_other rfl ?_); try refine .run TBok 99 rfl ?_))
  refine StL.step rfl rfl rfl (RunsTo.loadCan rfl hS12 h40').op ?_
  rintro _ _ ⟨rfl, rfl⟩
  refine StL.step rfl rfl rfl (OpR.call fn_r01_Sign rfl (rsign_dn (h40'.dn hrsz))) ?_
  rintro _ w10 ⟨hx10, rfl⟩
  replace hB1 := hB1.ext hx10
  replace hB2 := hB2.ext hx10
  replace hB3 := hB3.ext hx10
  replace hB4 := hB4.ext hx10
  replace h18 := h18.ext hx10
  replace hS11 := hS11.ext hx10
  replace h36' := h36'.ext hx10
  replace hS12 := hS12.ext hx10
  replace h40' := h40'.ext hx10
  replace hx09 := hx09.trans hx10
  clear hx10
  (iterate 6 ((repeat with_reducible first|refine .nil ?_|refine .then_normal ?_|refine .block_normal ?_|refine .seq ?_|refine .block ?_|refine .skip ?_|refine .region ?_|refine .ret ?_|refine .then_ret ?_|refine .block_ret ?_|refine .exit ?_|refine .then_exit ?_|refine .block_exit ?_|refine .block_other rfl ?_); try refine .run TBok 99 rfl ?_))
  by_cases hneg : R < 0
  · obtain ⟨hlt, hlf, hlm⟩ := hlaw1 hneg
    refine St.condT rfl (by simp [signI, hneg]) ?_
    (repeat with_reducible first|refine .nil ?_|refine .then_normal ?_|refine .block_normal ?_|refine .seq ?_|refine .block ?_|refine .skip ?_|refine .region ?_|refine .ret ?_|refine .then_ret ?_|refine .block_ret ?_|refine .exit ?_|refine .then_exit ?_|refine .block_exit ?_|refine .block_other rfl ?_)
    refine St.sub (E' := [(2, .pointer (some ⟨w.heap.size, 0, none⟩)), (3, .pointer (some ⟨w1.heap.size, 0, none⟩)), (4, .pointer (some ⟨w2.heap.size, 0, none⟩)), (5, .pointer (some ⟨w3.heap.size, 0, none⟩)), (8, .slice p18 (limbs (val ys)).length c18), (11, .pointer (some ⟨b11, 0, none⟩)), (12, .pointer (some ⟨b12, 0, none⟩))]) ?_ ⟨rfl, rfl, rfl, rfl, rfl, rfl, rfl, trivial⟩
    refine St.flow 4 TBfol (by kernel_rfl) rfl (by kernel_rfl) rfl True.intro ?_
    refine FL.run TBok 99 rfl ?_
    refine FL.one (L := []) rfl rfl rfl rfl rfl (fun _ hR => RunsTo.loadCan rfl (hR.blk hS12 (by simp)) h40') ?_
    refine FL.run TBok 99 rfl ?_
    refine FL.callE (ψ := fun v w' => CanO 0 w' v (val ys : Int)) fn_r01_Make rfl rfl rfl ?_ (MonoR.canO 0 _) ?_
    · intro w11 hx11
      have := make_spec (base := 0) w11 false _ _ (h18.ext hx11).sl (by omega) (Nat.zero_le _)
      rw [val_limbs] at this
      exact CallF.mk rfl this
    have hszk : sz ((val ys : Nat) : Int) ≤ 1000000 := Nat.le_trans hl2 hl
    refine FL.callE fn_r01_Add rfl rfl rfl (fun w11 hx11 v46 h46 => CallF.mk rfl (radd_dn (base := 0) ((h40'.ext hx11).dn hrsz) (h46.dn hszk) (Nat.zero_le _))) (MonoR.canO 0 _) ?_
    refine FL.endE rfl ?_
    intro w11 hx11 v47 h47 v46 _ _ _
    rw [← hlm] at h47
    replace hB1 := hB1.ext hx11
    replace hB2 := hB2.ext hx11
    replace hB3 := hB3.ext hx11
    replace hB4 := hB4.ext hx11
    replace hS11 := hS11.ext hx11
    replace h36' := h36'.ext hx11
    replace hS12 := hS12.ext hx11
    replace hx09 := hx09.trans hx11
    clear hx11
    refine StL.setCan rfl rfl hS12 h40'.two.1 h47 hx09 (by have := hB1.lt; omega) ?_
    intro w12 hS12' hu12 h47' hx12
    replace hB2 := hB2.upd hu12 (by omega)
    replace hB3 := hB3.upd hu12 (by omega)
    replace hB4 := hB4.upd hu12 (by omega)
    replace hS11 := hS11.upd hu12 hne
    replace h36' := CanO.upd h36' hu12 ⟨_, hS12⟩
    clear hx09 hu12 hS12 h40' h47 h18 hB1
    (iterate 6 ((repeat with_reducible first|refine .nil ?_|refine .then_normal ?_|refine .block_normal ?_|refine .seq ?_|refine .block ?_|refine .skip ?_|refine .region ?_|refine .ret ?_|refine .then_ret ?_|refine .block_ret ?_|refine .exit ?_|refine .then_exit ?_|refine .block_exit ?_|refine .block_other rfl ?_); try refine .run TBok 99 rfl ?_))
    refine StL.step rfl rfl rfl (RunsTo.loadInt rfl hB2 rfl rfl).op ?_
    rintro _ _ ⟨rfl, rfl⟩
    refine StL.step rfl rfl rfl (OpR.call fn_r01_Sign rfl (rsign_dn (kD.ext hx12))) ?_
    rintro _ w13 ⟨hx13, rfl⟩
    replace hB3 := hB3.ext hx13
    replace hB4 := hB4.ext hx13
    replace hS11 := hS11.ext hx13
    replace h36' := h36'.ext hx13
    replace hS12' := hS12'.ext hx13
    replace h47' := h47'.ext hx13
    replace hx12 := hx12.trans hx13
    clear hx13
    have hlt11' := hS11.lt
    have hlt12' := hS12'.lt
    have hlt3' := hB3.lt
    have hlt4' := hB4.lt
    (iterate 6 ((repeat with_reducible first|refine .nil ?_|refine .then_normal ?_|refine .block_normal ?_|refine .seq ?_|refine .block ?_|refine .skip ?_|refine .region ?_|refine .ret ?_|refine .then_ret ?_|refine .block_ret ?_|refine .exit ?_|refine .then_exit ?_|refine .block_exit ?_|refine .block_other rfl ?_); try refine .run TBok 99 rfl ?_))
    cases nb with
    | true =>
      refine St.condT rfl (by simp [signI, sg]; omega) ?_
      (repeat with_reducible first|refine .nil ?_|refine .then_normal ?_|refine .block_normal ?_|refine .seq ?_|refine .block ?_|refine .skip ?_|refine .region ?_|refine .ret ?_|refine .then_ret ?_|refine .block_ret ?_|refine .exit ?_|refine .then_exit ?_|refine .block_exit ?_|refine .block_other rfl ?_)
      refine St.sub (E' := [(4, .pointer (some ⟨w2.heap.size, 0, none⟩)), (5, .pointer (some ⟨w3.heap.size, 0, none⟩)), (11, .pointer (some ⟨b11, 0, none⟩)), (12, .pointer (some ⟨b12, 0, none⟩))]) ?_ ⟨rfl, rfl, rfl, rfl, trivial⟩
      refine St.flowL 5 [w2.heap.size] TBfol (by kernel_rfl) rfl (by kernel_rfl) rfl rfl (preD1 hB3.lt) ?_
      refine FL.run TBok 99 rfl ?_
      refine FL.one (L := []) rfl rfl rfl rfl rfl (fun _ hR => RunsTo.loadCan rfl (hR.blk hS11 (by simp)) h36') ?_
      refine FL.callE fn_r01_Small rfl rfl rfl (fun w14 hx14 => CallF.mk rfl (rsmall_spec (base := 0) w14 1 (by decide) (by decide) (Nat.zero_le _))) (MonoR.canO 0 _) ?_
      refine FL.callE fn_r01_Add rfl rfl rfl (fun w14 hx14 v52 h52 => CallF.mk rfl (radd_dn (base := 0) ((h36'.ext hx14).dn hqsz) (h52.dn (by decide +kernel)) (Nat.zero_le _))) (MonoR.canO 0 _) ?_
      refine FL.one (L := [w2.heap.size]) rfl rfl rfl rfl (by kernel_rfl) (fun _ hR => RunsTo.loadCan rfl (hR.blk hS12' (by simp; omega)) h47') ?_
      refine FL.store (L := [w2.heap.size]) TBok rfl rfl (by kernel_rfl) rfl rfl hB3 rfl (MonoR.canO 0 (Q + 1)) ?_ ?_
      · intro w14 hR v53 h53
        exact ⟨rfl, v53, rfl, h53.two.1, h53.two.2, h53⟩
      refine FL.end (L := [w2.heap.size]) rfl ?_
      rintro w14 hR v53 h53 v52 _ ⟨⟨b, u, hbu, hb14, hu14⟩, _⟩ _
      cases hbu
      have hB4' := hR.blk hB4 (by simp; omega)
      have h47'' := h47'.rg hR
      have hx14 := hR.ext_tg hx12 (by simp; omega)
      refine StL.setCan rfl rfl hB4' rfl h47'' hx14 (by omega) ?_
      intro w15 hb15 hu15 h47c hx15
      have hb14' := hb14.upd hu15 (by omega)
      (iterate 6 ((repeat with_reducible first|refine .nil ?_|refine .then_normal ?_|refine .block_normal ?_|refine .seq ?_|refine .block ?_|refine .skip ?_|refine .region ?_|refine .ret ?_|refine .then_ret ?_|refine .block_ret ?_|refine .exit ?_|refine .then_exit ?_|refine .block_exit ?_|refine .block_other rfl ?_); try refine .run TBok 99 rfl ?_))
      refine Out.rets TBok [u, v47, .bool true] rfl ⟨⟨_, _, _, _, rfl, hb14', rfl, rfl, hu14.two.1, by simpa using hu14.agg⟩, ⟨_, _, _, _, rfl, hb15, rfl, rfl, h47c.two.1, by simpa using h47c.agg⟩, rfl, trivial⟩ ⟨hx15, fun h0 => absurd h0 hkb, fun _ => ⟨u, v47, rfl, ?_, h47c⟩⟩
      rw [hlt rfl]
      exact CanO.upd hu14 hu15 ⟨_, hB4'⟩
    | false =>
      refine St.condF rfl (by have h1 : ¬ sg false (val ys) < 0 := by simp [sg]
                              simp only [signI, if_neg h1]; split <;> decide) ?_
      (repeat with_reducible first|refine .nil ?_|refine .then_normal ?_|refine .block_normal ?_|refine .seq ?_|refine .block ?_|refine .skip ?_|refine .region ?_|refine .ret ?_|refine .then_ret ?_|refine .block_ret ?_|refine .exit ?_|refine .then_exit ?_|refine .block_exit ?_|refine .block_other rfl ?_)
      refine St.sub (E' := [(4, .pointer (some ⟨w2.heap.size, 0, none⟩)), (5, .pointer (some ⟨w3.heap.size, 0, none⟩)), (11, .pointer (some ⟨b11, 0, none⟩)), (12, .pointer (some ⟨b12, 0, none⟩))]) ?_ ⟨rfl, rfl, rfl, rfl, trivial⟩
      refine St.flowL 5 [w2.heap.size] TBfol (by kernel_rfl) rfl (by kernel_rfl) rfl rfl (preD1 hB3.lt) ?_
      refine FL.run TBok 99 rfl ?_
      refine FL.one (L := []) rfl rfl rfl rfl rfl (fun _ hR => RunsTo.loadCan rfl (hR.blk hS11 (by simp)) h36') ?_
      refine FL.callE fn_r01_Small rfl rfl rfl (fun w14 hx14 => CallF.mk rfl (rsmall_spec (base := 0) w14 1 (by decide) (by decide) (Nat.zero_le _))) (MonoR.canO 0 _) ?_
      refine FL.callE fn_r01_Sub rfl rfl rfl (fun w14 hx14 v52 h52 => CallF.mk rfl (rsub_dn (base := 0) ((h36'.ext hx14).dn hqsz) (h52.dn (by decide +kernel)) (Nat.zero_le _))) (MonoR.canO 0 _) ?_
      refine FL.one (L := [w2.heap.size]) rfl rfl rfl rfl (by kernel_rfl) (fun _ hR => RunsTo.loadCan rfl (hR.blk hS12' (by simp; omega)) h47') ?_
      refine FL.store (L := [w2.heap.size]) TBok rfl rfl (by kernel_rfl) rfl rfl hB3 rfl (MonoR.canO 0 (Q - 1)) ?_ ?_
      · intro w14 hR v53 h53
        exact ⟨rfl, v53, rfl, h53.two.1, h53.two.2, h53⟩
      refine FL.end (L := [w2.heap.size]) rfl ?_
      rintro w14 hR v53 h53 v52 _ ⟨⟨b, u, hbu, hb14, hu14⟩, _⟩ _
      cases hbu
      have hB4' := hR.blk hB4 (by simp; omega)
      have h47'' := h47'.rg hR
      have hx14 := hR.ext_tg hx12 (by simp; omega)
      refine StL.setCan rfl rfl hB4' rfl h47'' hx14 (by omega) ?_
      intro w15 hb15 hu15 h47c hx15
      have hb14' := hb14.upd hu15 (by omega)
      (iterate 6 ((repeat with_reducible first|refine .nil ?_|refine .then_normal ?_|refine .block_normal ?_|refine .seq ?_|refine .block ?_|refine .skip ?_|refine .region ?_|refine .ret ?_|refine .then_ret ?_|refine .block_ret ?_|refine .exit ?_|refine .then_exit ?_|refine .block_exit ?_|refine .block_other rfl ?_); try refine .run TBok 99 rfl ?_))
      refine Out.rets TBok [u, v47, .bool true] rfl ⟨⟨_, _, _, _, rfl, hb14', rfl, rfl, hu14.two.1, by simpa using hu14.agg⟩, ⟨_, _, _, _, rfl, hb15, rfl, rfl, h47c.two.1, by simpa using h47c.agg⟩, rfl, trivial⟩ ⟨hx15, fun h0 => absurd h0 hkb, fun _ => ⟨u, v47, rfl, ?_, h47c⟩⟩
      rw [hlf rfl]
      exact CanO.upd hu14 hu15 ⟨_, hB4'⟩
  · obtain ⟨hlq, hlm⟩ := hlaw2 hneg
    refine St.condF rfl (by simp only [signI, if_neg hneg]; split <;> decide) ?_
    (repeat with_reducible first|refine .nil ?_|refine .then_normal ?_|refine .block_normal ?_|refine .seq ?_|refine .block ?_|refine .skip ?_|refine .region ?_|refine .ret ?_|refine .then_ret ?_|refine .block_ret ?_|refine .exit ?_|refine .then_exit ?_|refine .block_exit ?_|refine .block_other rfl ?_)
    refine St.sub (E' := [(4, .pointer (some ⟨w2.heap.size, 0, none⟩)), (5, .pointer (some ⟨w3.heap.size, 0, none⟩)), (11, .pointer (some ⟨b11, 0, none⟩)), (12, .pointer (some ⟨b12, 0, none⟩))]) ?_ ⟨rfl, rfl, rfl, rfl, trivial⟩
    refine St.flowL 3 [w2.heap.size] TBfol (by kernel_rfl) rfl (by kernel_rfl) rfl rfl (preD1 hB3.lt) ?_
    refine FL.run TBok 99 rfl ?_
    refine FL.one (L := []) rfl rfl rfl rfl rfl (fun _ hR => RunsTo.loadCan rfl (hR.blk hS11 (by simp)) h36') ?_
    refine FL.one (L := [w2.heap.size]) rfl rfl rfl rfl (by kernel_rfl) (fun _ hR => RunsTo.loadCan rfl (hR.blk hS12 (by simp; omega)) h40') ?_
    refine FL.store (L := [w2.heap.size]) TBok rfl rfl (by kernel_rfl) rfl rfl hB3 rfl (MonoR.canO 0 Q) ?_ ?_
    · intro w14 hR
      exact ⟨rfl, _, rfl, h36'.two.1, h36'.two.2, h36'.rg hR⟩
    refine FL.end (L := [w2.heap.size]) rfl ?_
    rintro w14 hR ⟨⟨b, u, hbu, hb14, hu14⟩, _⟩ _
    cases hbu
    have hB4' := hR.blk hB4 (by simp; omega)
    have h47'' := h40'.rg hR
    have hx14 := hR.ext_tg hx09 (by simp; omega)
    refine StL.setCan rfl rfl hB4' rfl h47'' hx14 (by omega) ?_
    intro w15 hb15 hu15 h47c hx15
    have hb14' := hb14.upd hu15 (by omega)
    (iterate 6 ((repeat with_reducible first|refine .nil ?_|refine .then_normal ?_|refine .block_normal ?_|refine .seq ?_|refine .block ?_|refine .skip ?_|refine .region ?_|refine .ret ?_|refine .then_ret ?_|refine .block_ret ?_|refine .exit ?_|refine .then_exit ?_|refine .block_exit ?_|refine .block_other rfl ?_); try refine .run TBok 99 rfl ?_))
    refine Out.rets TBok [u, v40, .bool true] rfl ⟨⟨_, _, _, _, rfl, hb14', rfl, rfl, hu14.two.1, by simpa using hu14.agg⟩, ⟨_, _, _, _, rfl, hb15, rfl, rfl, h47c.two.1, by simpa using h47c.agg⟩, rfl, trivial⟩ ⟨hx15, fun h0 => absurd h0 hkb, fun _ => ⟨u, v40, rfl, ?_, ?_⟩⟩
    · rw [hlq]
      exact CanO.upd hu14 hu15 ⟨_, hB4'⟩
    · rw [hlm]
      exact h47c

end Go.Qf

/- quadformref01: Rem, Divides, Gcd. -/
namespace Go.Qf
open Go Go.RowKit Go.Proofs
set_option maxRecDepth 20000

def quo0 (a b : Int) : Int := if b = 0 then 0 else a / b
def rem0 (a b : Int) : Int := if b = 0 then 0 else a % b

theorem canO_zero (base : Nat) (w : World) : CanO base w (IntV false (.slice none 0 0)) 0 := ⟨none, 0, rfl, SlO.nil _ _⟩

theorem DivV.open {base : Nat} {w : World} {r : Value} {a b : Int} (h : DivV base w r a b) : ∃ q m, r = .tuple #[q, m, .bool (decide (b ≠ 0))] ∧ CanO base w q (quo0 a b) ∧ CanO base w m (rem0 a b) := by
  unfold quo0 rem0
  by_cases hb : b = 0
  · rw [if_pos hb, if_pos hb]
    exact ⟨_, _, by rw [h.1 hb]; simp [hb], canO_zero _ _, canO_zero _ _⟩
  · rw [if_neg hb, if_neg hb]
    obtain ⟨q, m, e, hq, hm⟩ := h.2 hb
    exact ⟨q, m, by rw [e]; simp [hb], hq, hm⟩

theorem sz_quo0 (a b : Int) : sz (quo0 a b) ≤ sz a := by
  unfold quo0
  split
  · exact Nat.zero_le _
  · exact sz_div a b
theorem sz_rem0 (a b : Int) : sz (rem0 a b) ≤ max (sz a) (sz b) := by
  unfold rem0
  split
  · exact Nat.zero_le _
  · exact sz_mod a b

theorem rrem_dn {w : World} {x y : Value} {a b : Int} (h : Dn w x a) (k : Dn w y b) : Calls Try.prog 113 #[x, y] w (Ret fun r w' => Ext w w' ∧ CanO 0 w' r (rem0 a b)) := by
  have hD := h
  have kD := k
  obtain ⟨na, xs, ⟨p, cap, rfl, hs⟩, hva, hlen⟩ := h
  obtain ⟨nb, ys, ⟨q, cb, rfl, ks⟩, hvb, hl⟩ := k
  refine calls_of_St (args := [_, _]) Try.func113 rfl Try.ntmps113 rfl ?_
  (repeat with_reducible first|refine .nil ?_|refine .then_normal ?_|refine .block_normal ?_|refine .seq ?_|refine .block ?_|refine .skip ?_|refine .region ?_|refine .ret ?_|refine .then_ret ?_|refine .block_ret ?_|refine .exit ?_|refine .then_exit ?_|refine .block_exit ?_|refine .block_other rfl ?_)
  refine StL.step rfl rfl rfl (OpR.box rfl) ?_
  rintro _ w1 ⟨rfl, hb1, hx1, hz1⟩
  refine StL.step rfl rfl rfl (OpR.box rfl) ?_
  rintro _ w2 ⟨rfl, hb2, hx2, hz2⟩
  refine StL.step rfl rfl rfl (OpR.alloc TBok rfl) ?_
  rintro _ w3 ⟨rfl, hb3, hx3, hz3⟩
  (repeat with_reducible first|refine .nil ?_|refine .then_normal ?_|refine .block_normal ?_|refine .seq ?_|refine .block ?_|refine .skip ?_|refine .region ?_|refine .ret ?_|refine .then_ret ?_|refine .block_ret ?_|refine .exit ?_|refine .then_exit ?_|refine .block_exit ?_|refine .block_other rfl ?_)
  (refine StL.step rfl rfl rfl (RunsTo.loadInt rfl (by first | assumption | exact Ext.refl _ | (first | apply Blk.ext | apply CanO.ext | apply Den.ext | apply Sl.ext | apply SlO.ext | apply Dn.ext | apply It.ext | apply CanR.ext | apply DnR.ext | skip) <;> (repeat first | assumption | refine Ext.trans ?_ (by assumption))) (by first | rfl | assumption) (by first | rfl | assumption)).op ?_; rintro _ _ ⟨rfl, rfl⟩)
  (refine StL.step rfl rfl rfl (RunsTo.loadInt rfl (by first | assumption | exact Ext.refl _ | (first | apply Blk.ext | apply CanO.ext | apply Den.ext | apply Sl.ext | apply SlO.ext | apply Dn.ext | apply It.ext | apply CanR.ext | apply DnR.ext | skip) <;> (repeat first | assumption | refine Ext.trans ?_ (by assumption))) (by first | rfl | assumption) (by first | rfl | assumption)).op ?_; rintro _ _ ⟨rfl, rfl⟩)
  have hx03 : Ext w w3 := (by first | assumption | exact Ext.refl _ | (first | apply Blk.ext | apply CanO.ext | apply Den.ext | apply Sl.ext | apply SlO.ext | apply Dn.ext | apply It.ext | apply CanR.ext | apply DnR.ext | skip) <;> (repeat first | assumption | refine Ext.trans ?_ (by assumption)))
  refine StL.step rfl rfl rfl (OpR.call fn_r01_DivMod rfl (rdivMod_dn (hD.ext hx03) (kD.ext hx03))) ?_
  rintro _ w4 ⟨hx4, hd⟩
  obtain ⟨qv, mv, rfl, hq, hm⟩ := hd.open
  refine .run TBok 99 rfl ?_
  refine StL.step rfl rfl rfl (OpR.alloc TBok rfl) ?_
  rintro _ w5 ⟨rfl, hb5, hx5, hz5⟩
  refine StL.step rfl rfl rfl (OpR.alloc TBok rfl) ?_
  rintro _ w6 ⟨rfl, hb6, hx6, hz6⟩
  have hx06 : Ext w w6 := ((hx03.trans hx4).trans hx5).trans hx6
  have hs3 := hb3.lt
  have hs4 := hx4.size
  have hs1 := (hx1.trans hx2).size
  refine StL.setCan rfl rfl (hb5.ext hx6) rfl ((hq.ext hx5).ext hx6) hx06 (by omega) ?_
  intro w7 hS5 hu7 _ hx7
  have hb6' := hb6.upd hu7 (by omega)
  refine StL.setCan rfl rfl hb6' rfl (CanO.upd ((hm.ext hx5).ext hx6) hu7 ⟨_, hb5.ext hx6⟩) hx7 (by omega) ?_
  intro w8 hS6 hu8 hm8 hx8
  have hb38 : Blk 25 w8 w2.heap.size _ := (((((hb3.ext hx4).ext hx5).ext hx6).upd hu7 (by omega)).upd hu8 (by omega))
  (iterate 6 ((repeat with_reducible first|refine .nil ?_|refine .then_normal ?_|refine .block_normal ?_|refine .seq ?_|refine .block ?_|refine .skip ?_|refine .region ?_|refine .ret ?_|refine .then_ret ?_|refine .block_ret ?_|refine .exit ?_|refine .then_exit ?_|refine .block_exit ?_|refine .block_other rfl ?_); try refine .run TBok 99 rfl ?_))
  refine StL.step rfl rfl rfl (RunsTo.loadCan rfl hS6 hm8).op ?_
  rintro _ _ ⟨rfl, rfl⟩
  refine StL.finCan rfl rfl hb38 rfl hm8 hx8 hs1 ?_
  intro w' hxf hcf fin
  (repeat with_reducible first|refine .nil ?_|refine .then_normal ?_|refine .block_normal ?_|refine .seq ?_|refine .block ?_|refine .skip ?_|refine .region ?_|refine .ret ?_|refine .then_ret ?_|refine .block_ret ?_|refine .exit ?_|refine .then_exit ?_|refine .block_exit ?_|refine .block_other rfl ?_)
  exact fin _ _ rfl ⟨hxf, hcf⟩

theorem signI_zero (a : Int) : (signI a == 0) = decide (a = 0) := by
  unfold signI
  by_cases h : a < 0
  · rw [if_pos h, decide_eq_false (by omega)]; rfl
  · rw [if_neg h]
    by_cases h0 : a = 0
    · rw [if_pos h0, decide_eq_true h0]; rfl
    · rw [if_neg h0, decide_eq_false h0]; rfl

theorem rem0_nat (x y : Nat) (hy : y ≠ 0) : rem0 (x : Int) (y : Int) = ((x % y : Nat) : Int) := by
  unfold rem0
  rw [if_neg (by omega)]
  rfl

set_option maxHeartbeats 400000 in
theorem rgcd_dn {w : World} {x y : Value} {a b : Int} (h : Dn w x a) (k : Dn w y b) : Calls Try.prog 77 #[x, y] w (Ret fun r w' => Ext w w' ∧ CanO 0 w' r ((Nat.gcd a.natAbs b.natAbs : Nat) : Int)) := by
  have hD := h
  have kD := k
  have hsa : sz (a.natAbs : Int) ≤ 1000000 := Nat.le_trans (sz_nat_le (Nat.le_refl _)) h.sz_le
  have hsb : sz (b.natAbs : Int) ≤ 1000000 := Nat.le_trans (sz_nat_le (Nat.le_refl _)) k.sz_le
  obtain ⟨na, xs, ⟨p, cap, rfl, hs⟩, hva, hlen⟩ := h
  obtain ⟨nb, ys, ⟨q, cb, rfl, ks⟩, hvb, hl⟩ := k
  refine calls_of_St (args := [_, _]) Try.func77 rfl Try.ntmps77 rfl ?_
  (repeat with_reducible first|refine .nil ?_|refine .then_normal ?_|refine .block_normal ?_|refine .seq ?_|refine .block ?_|refine .skip ?_|refine .region ?_|refine .ret ?_|refine .then_ret ?_|refine .block_ret ?_|refine .exit ?_|refine .then_exit ?_|refine .block_exit ?_|refine .block_other rfl ?_)
  refine StL.step rfl rfl rfl (OpR.box rfl) ?_
  rintro _ w1 ⟨rfl, hb1, hx1, hz1⟩
  refine StL.step rfl rfl rfl (OpR.box rfl) ?_
  rintro _ w2 ⟨rfl, hb2, hx2, hz2⟩
  refine StL.step rfl rfl rfl (OpR.alloc TBok rfl) ?_
  rintro _ w3 ⟨rfl, hb3, hx3, hz3⟩
  (repeat with_reducible first|refine .nil ?_|refine .then_normal ?_|refine .block_normal ?_|refine .seq ?_|refine .block ?_|refine .skip ?_|refine .region ?_|refine .ret ?_|refine .then_ret ?_|refine .block_ret ?_|refine .exit ?_|refine .then_exit ?_|refine .block_exit ?_|refine .block_other rfl ?_)
  refine St.flow 6 TBfol (by kernel_rfl) rfl (by kernel_rfl) rfl True.intro ?_
  refine FL.run TBok 99 rfl ?_
  refine FL.loadAgg (L := []) TBok rfl rfl rfl rfl rfl rfl (by first | assumption | exact Ext.refl _ | (first | apply Blk.ext | apply CanO.ext | apply Den.ext | apply Sl.ext | apply SlO.ext | apply Dn.ext | apply It.ext | apply CanR.ext | apply DnR.ext | skip) <;> (repeat first | assumption | refine Ext.trans ?_ (by assumption))) (by simp) (Nat.le_refl _) rfl ?_
  refine FL.callE fn_r01_Abs rfl rfl rfl (fun w4 hx4 => CallF.mk rfl (rabs_dn (base := 0) (hD.ext (((hx1.trans hx2).trans hx3).trans hx4)) (Nat.zero_le _))) (MonoR.canO 0 _) ?_
  refine FL.loadAgg (L := []) TBok rfl rfl rfl rfl rfl rfl (by first | assumption | exact Ext.refl _ | (first | apply Blk.ext | apply CanO.ext | apply Den.ext | apply Sl.ext | apply SlO.ext | apply Dn.ext | apply It.ext | apply CanR.ext | apply DnR.ext | skip) <;> (repeat first | assumption | refine Ext.trans ?_ (by assumption))) (by simp) (Nat.le_refl _) rfl ?_
  refine FL.callE fn_r01_Abs rfl rfl rfl (fun w4 hx4 => CallF.mk rfl (rabs_dn (base := 0) (kD.ext (((hx1.trans hx2).trans hx3).trans hx4)) (Nat.zero_le _))) (MonoR.canO 0 _) ?_
  refine FL.alloc TBok rfl rfl rfl rfl ?_
  refine FL.alloc TBok rfl rfl rfl rfl ?_
  refine FL.endE rfl ?_
  rintro w4 hx4 _ ⟨b6, C6, rfl, hg6, hB6, hl6⟩ _ ⟨b5, C5, rfl, hg5, hB5, hl5⟩ v10 h10 v8 h8 _ hdist
  have hne : b5 ≠ b6 := by
    intro e
    exact hdist 5 (by decide) 6 (by decide) (by decide) _ rfl (by rw [e]; rfl)
  have hlt3 := hb3.lt
  have hs1 := (hx1.trans hx2).size
  have hB3 := hb3.ext hx4
  have hx03 := ((hx1.trans hx2).trans hx3).trans hx4
  refine StL.setCan rfl rfl hB5 hl5 h8 hx03 (by omega) ?_
  intro w5 hS5 hu5 h8' hx5
  have hB6' := hB6.upd hu5 (fun e => hne e.symm)
  refine StL.setCan rfl rfl hB6' hl6 (CanO.upd h10 hu5 ⟨_, hB5⟩) hx5 (by omega) ?_
  intro w6 hS6 hu6 h10' hx6
  replace hS5 := hS5.upd hu6 hne
  replace h8' := CanO.upd h8' hu6 ⟨_, hB6'⟩
  replace hB3 := (hB3.upd hu5 (by omega)).upd hu6 (by omega)
  clear hx5 hu5 hu6 hB5 hB6 hB6' h8 h10 hx4 hdist
  (repeat with_reducible first|refine .nil ?_|refine .then_normal ?_|refine .block_normal ?_|refine .seq ?_|refine .block ?_|refine .skip ?_|refine .region ?_|refine .ret ?_|refine .then_ret ?_|refine .block_ret ?_|refine .exit ?_|refine .then_exit ?_|refine .block_exit ?_|refine .block_other rfl ?_)
  refine St.loop (fun g : (Value × Value) × Nat × Nat => [(4, .pointer (some ⟨w2.heap.size, 0, none⟩)), (5, .pointer (some ⟨b5, 0, none⟩)), (6, .pointer (some ⟨b6, 0, none⟩))])
    (fun g w' => Ext w w' ∧ Blk 25 w' b5 g.1.1.cells.toList ∧ Blk 25 w' b6 g.1.2.cells.toList ∧ CanO 0 w' g.1.1 (g.2.1 : Int) ∧ CanO 0 w' g.1.2 (g.2.2 : Int) ∧ Blk 25 w' w2.heap.size [.bool false, .slice none 0 0] ∧ sz (g.2.1 : Int) ≤ 1000000 ∧ sz (g.2.2 : Int) ≤ 1000000 ∧ Nat.gcd g.2.1 g.2.2 = Nat.gcd a.natAbs b.natAbs)
    (fun g => g.2.2) ((v8, v10), a.natAbs, b.natAbs) ⟨rfl, rfl, rfl, trivial⟩ ⟨hx6, hS5, hS6, h8', h10', hB3, hsa, hsb, rfl⟩ ?_
  clear hx6 hS5 hS6 h8' h10' hB3
  rintro ⟨⟨v5, v6⟩, x, y⟩ w7 ⟨hx7, hS5, hS6, h5, h6, hB3, hsx, hsy, hgcd⟩
  dsimp only at hx7 hS5 hS6 h5 h6 hB3 hsx hsy hgcd ⊢
  (repeat with_reducible first|refine .nil ?_|refine .then_normal ?_|refine .block_normal ?_|refine .seq ?_|refine .block ?_|refine .skip ?_|refine .region ?_|refine .ret ?_|refine .then_ret ?_|refine .block_ret ?_|refine .exit ?_|refine .then_exit ?_|refine .block_exit ?_|refine .block_other rfl ?_)
  refine StL.step rfl rfl rfl (RunsTo.loadCan rfl hS6 h6).op ?_
  rintro _ _ ⟨rfl, rfl⟩
  refine StL.step rfl rfl rfl (OpR.call fn_r01_Sign rfl (rsign_dn (h6.dn hsy))) ?_
  rintro _ w8 ⟨hx8, rfl⟩
  replace hS5 := hS5.ext hx8
  replace hS6 := hS6.ext hx8
  replace h5 := h5.ext hx8
  replace h6 := h6.ext hx8
  replace hB3 := hB3.ext hx8
  replace hx7 := hx7.trans hx8
  clear hx8
  by_cases hy : y = 0
  · subst hy
    refine StL.as TBok 1 (.bool false) rfl rfl ?_
    (repeat with_reducible first|refine .nil ?_|refine .then_normal ?_|refine .block_normal ?_|refine .seq ?_|refine .block ?_|refine .skip ?_|refine .region ?_|refine .ret ?_|refine .then_ret ?_|refine .block_ret ?_|refine .exit ?_|refine .then_exit ?_|refine .block_exit ?_|refine .block_other rfl ?_)
    refine St.condF rfl rfl ?_
    (iterate 6 ((repeat with_reducible first|refine .nil ?_|refine .then_normal ?_|refine .block_normal ?_|refine .seq ?_|refine .block ?_|refine .skip ?_|refine .region ?_|refine .ret ?_|refine .then_ret ?_|refine .block_ret ?_|refine .exit ?_|refine .then_exit ?_|refine .block_exit ?_|refine .block_other rfl ?_); try refine .run TBok 99 rfl ?_))
    refine StL.step rfl rfl rfl (RunsTo.loadCan rfl hS5 h5).op ?_
    rintro _ _ ⟨rfl, rfl⟩
    rw [Nat.gcd_zero_right] at hgcd
    rw [hgcd] at h5
    refine StL.finCan rfl rfl hB3 rfl h5 hx7 hs1 ?_
    intro w' hxf hcf fin
    (repeat with_reducible first|refine .nil ?_|refine .then_normal ?_|refine .block_normal ?_|refine .seq ?_|refine .block ?_|refine .skip ?_|refine .region ?_|refine .ret ?_|refine .then_ret ?_|refine .block_ret ?_|refine .exit ?_|refine .then_exit ?_|refine .block_exit ?_|refine .block_other rfl ?_)
    exact fin _ _ rfl ⟨hxf, hcf⟩
  · refine StL.as TBok 1 (.bool true) rfl (by
      have := signI_zero (y : Int)
      rw [decide_eq_false (by omega)] at this
      show Value.bool (!(signI (y : Int) == 0)) = _
      rw [this]; rfl) ?_
    (repeat with_reducible first|refine .nil ?_|refine .then_normal ?_|refine .block_normal ?_|refine .seq ?_|refine .block ?_|refine .skip ?_|refine .region ?_|refine .ret ?_|refine .then_ret ?_|refine .block_ret ?_|refine .exit ?_|refine .then_exit ?_|refine .block_exit ?_|refine .block_other rfl ?_)
    refine St.condT rfl rfl ?_
    (repeat with_reducible first|refine .nil ?_|refine .then_normal ?_|refine .block_normal ?_|refine .seq ?_|refine .block ?_|refine .skip ?_|refine .region ?_|refine .ret ?_|refine .then_ret ?_|refine .block_ret ?_|refine .exit ?_|refine .then_exit ?_|refine .block_exit ?_|refine .block_other rfl ?_)
    refine St.sub (E' := [(4, .pointer (some ⟨w2.heap.size, 0, none⟩)), (5, .pointer (some ⟨b5, 0, none⟩)), (6, .pointer (some ⟨b6, 0, none⟩))]) ?_ ⟨rfl, rfl, rfl, trivial⟩
    refine St.flow 4 TBfol (by kernel_rfl) rfl (by kernel_rfl) rfl True.intro ?_
    refine FL.run TBok 99 rfl ?_
    refine FL.one (L := []) rfl rfl rfl rfl rfl (fun _ hR => RunsTo.loadCan rfl (hR.blk hS6 (by simp)) h6) ?_
    refine FL.one (L := []) rfl rfl rfl rfl rfl (fun _ hR => RunsTo.loadCan rfl (hR.blk hS5 (by simp)) h5) ?_
    refine FL.one (L := []) rfl rfl rfl rfl rfl (fun _ hR => RunsTo.loadCan rfl (hR.blk hS6 (by simp)) h6) ?_
    refine FL.callE fn_r01_Rem rfl rfl rfl (fun w9 hx9 => CallF.mk rfl (rrem_dn ((h5.ext hx9).dn hsx) ((h6.ext hx9).dn hsy))) (MonoR.canO 0 _) ?_
    refine FL.endE rfl ?_
    intro w9 hx9 v17 h17 _ _
    rw [rem0_nat x y hy] at h17
    replace hS5 := hS5.ext hx9
    replace hS6 := hS6.ext hx9
    replace h5 := h5.ext hx9
    replace h6 := h6.ext hx9
    replace hB3 := hB3.ext hx9
    replace hx7 := hx7.trans hx9
    clear hx9
    refine StL.setCan rfl rfl hS5 h5.two.1 h6 hx7 (by omega) ?_
    intro w10 hS5' hu10 h6' hx10
    have hS6' := hS6.upd hu10 (fun e => hne e.symm)
    refine StL.setCan rfl rfl hS6' h6.two.1 (CanO.upd h17 hu10 ⟨_, hS5⟩) hx10 (by omega) ?_
    intro w11 hS6'' hu11 h17' hx11
    have hsr : sz ((x % y : Nat) : Int) ≤ 1000000 := Nat.le_trans (sz_nat_le (b := (y : Int)) (by have := Nat.mod_lt x (Nat.pos_of_ne_zero hy); omega)) hsy
    (iterate 6 ((repeat with_reducible first|refine .nil ?_|refine .then_normal ?_|refine .block_normal ?_|refine .seq ?_|refine .block ?_|refine .skip ?_|refine .region ?_|refine .ret ?_|refine .then_ret ?_|refine .block_ret ?_|refine .exit ?_|refine .then_exit ?_|refine .block_exit ?_|refine .block_other rfl ?_); try refine .run TBok 99 rfl ?_))
    refine Out.again ((v6, v17), y, x % y) ⟨rfl, rfl, rfl, trivial⟩ ⟨hx11, hS5'.upd hu11 hne, hS6'', CanO.upd h6' hu11 ⟨_, hS6'⟩, h17', (hB3.upd hu10 (by omega)).upd hu11 (by omega), hsy, hsr, ?_⟩ (Nat.mod_lt _ (Nat.pos_of_ne_zero hy))
    dsimp only
    rw [← hgcd, Nat.gcd_comm x y, Nat.gcd_rec y x, Nat.gcd_comm]

end Go.Qf

/- quadformref01.Format. -/
namespace Go.Qf
open Go Go.RowKit Go.Proofs
set_option maxRecDepth 20000

theorem pad_rev (k N : Nat) : (pad (k + 1) N).reverse = (48 + N / 10 ^ k % 10) :: (pad k N).reverse := by
  rw [pad_succ, List.reverse_append]; rfl

theorem pad_b8 (k N : Nat) : B8 (pad k N).reverse := fun b hb => by
  have := pad_lim k N b (by simpa using hb); omega

theorem digit_at (N k i : Nat) (hi : i < 9) : N / 10 ^ k % 1000000000 / 10 ^ i % 10 = N / 10 ^ (k + i) % 10 := by
  have h9 : (1000000000 : Nat) = 10 ^ i * 10 ^ (9 - i) := by rw [← Nat.pow_add, show i + (9 - i) = 9 from by omega]
  rw [h9, Nat.mod_mul_right_div_self, Nat.div_div_eq_div_mul, ← Nat.pow_add, show 9 - i = (8 - i) + 1 from by omega, Nat.pow_succ, Nat.mul_comm (10 ^ (8 - i)) 10, Nat.mod_mul_right_mod]

set_option maxHeartbeats 1000000 in
theorem rformat_dn {w : World} {v : Value} {a : Int} (h : Dn w v a) : Calls Try.prog 44 #[v] w (Ret fun r w' => Ext w w' ∧ r = strV (fmtI a)) := by
  have hD := h
  have hsza := h.sz_le
  obtain ⟨neg, xs, ⟨p, cap, rfl, hs⟩, hva, hlen⟩ := h
  refine calls_of_St (args := [_]) Try.func44 rfl Try.ntmps44 rfl ?_
  (repeat with_reducible first|refine .nil ?_|refine .then_normal ?_|refine .block_normal ?_|refine .seq ?_|refine .block ?_|refine .skip ?_|refine .region ?_|refine .ret ?_|refine .then_ret ?_|refine .block_ret ?_|refine .exit ?_|refine .then_exit ?_|refine .block_exit ?_|refine .block_other rfl ?_)
  refine StL.step rfl rfl rfl (OpR.box rfl) ?_
  rintro _ w1 ⟨rfl, hb1, hx1, hz1⟩
  (iterate 6 ((repeat with_reducible first|refine .nil ?_|refine .then_normal ?_|refine .block_normal ?_|refine .seq ?_|refine .block ?_|refine .skip ?_|refine .region ?_|refine .ret ?_|refine .then_ret ?_|refine .block_ret ?_|refine .exit ?_|refine .then_exit ?_|refine .block_exit ?_|refine .block_other rfl ?_); try refine .run TBok 99 rfl ?_))
  (refine StL.step rfl rfl rfl (RunsTo.loadInt rfl (by first | assumption | exact Ext.refl _ | (first | apply Blk.ext | apply CanO.ext | apply Den.ext | apply Sl.ext | apply SlO.ext | apply Dn.ext | apply It.ext | apply CanR.ext | apply DnR.ext | skip) <;> (repeat first | assumption | refine Ext.trans ?_ (by assumption))) (by first | rfl | assumption) (by first | rfl | assumption)).op ?_; rintro _ _ ⟨rfl, rfl⟩)
  refine StL.step rfl rfl rfl (OpR.call fn_r01_Sign rfl (rsign_dn (hD.ext hx1))) ?_
  rintro _ w2 ⟨hx2, rfl⟩
  have hx02 : Ext w w2 := hx1.trans hx2
  have hB1 := hb1.ext hx2
  clear hx1 hx2 hb1 hz1
  (iterate 6 ((repeat with_reducible first|refine .nil ?_|refine .then_normal ?_|refine .block_normal ?_|refine .seq ?_|refine .block ?_|refine .skip ?_|refine .region ?_|refine .ret ?_|refine .then_ret ?_|refine .block_ret ?_|refine .exit ?_|refine .then_exit ?_|refine .block_exit ?_|refine .block_other rfl ?_); try refine .run TBok 99 rfl ?_))
  by_cases h0 : a = 0
  · subst h0
    refine St.condT rfl rfl ?_
    (iterate 6 ((repeat with_reducible first|refine .nil ?_|refine .then_normal ?_|refine .block_normal ?_|refine .seq ?_|refine .block ?_|refine .skip ?_|refine .region ?_|refine .ret ?_|refine .then_ret ?_|refine .block_ret ?_|refine .exit ?_|refine .then_exit ?_|refine .block_exit ?_|refine .block_other rfl ?_); try refine .run TBok 99 rfl ?_))
    exact Out.ret1 rfl rfl ⟨hx02, rfl⟩
  refine St.condF rfl (by simp only [signI, if_neg h0]; split <;> decide) ?_
  (iterate 6 ((repeat with_reducible first|refine .nil ?_|refine .then_normal ?_|refine .block_normal ?_|refine .seq ?_|refine .block ?_|refine .skip ?_|refine .region ?_|refine .ret ?_|refine .then_ret ?_|refine .block_ret ?_|refine .exit ?_|refine .then_exit ?_|refine .block_exit ?_|refine .block_other rfl ?_); try refine .run TBok 99 rfl ?_))
  refine StL.step rfl rfl rfl (RunsTo.loadInt rfl hB1 rfl rfl).op ?_
  rintro _ _ ⟨rfl, rfl⟩
  refine StL.step rfl rfl rfl (OpR.call fn_r01_Abs rfl (rabs_dn (base := 0) (hD.ext hx02) (Nat.zero_le _))) ?_
  rintro av w3 ⟨hx3, hav⟩
  replace hB1 := hB1.ext hx3
  replace hx02 := hx02.trans hx3
  clear hx3
  refine StL.setNew rfl (fun _ => rfl) hav hx02 ?_
  intro b4 w4 hg4 hx4 hS4 hav4 hx04
  have hlt1 := hB1.lt
  have hb4g : w.heap.size < b4 := by omega
  replace hB1 := hB1.ext hx4
  clear hx4
  generalize hN : a.natAbs = N at *
  have hN0 : N ≠ 0 := by omega
  have hszN : sz (N : Int) ≤ 1000000 := by
    have : sz (N : Int) = sz a := by unfold sz; rw [← hN]; rfl
    omega
  have hNlt : ∃ len, len ≤ 1000000 ∧ N < 4294967296 ^ len := by
    have h1 := val_lt (limbs N) (lim_limbs N)
    rw [val_limbs] at h1
    exact ⟨_, hszN, h1⟩
  obtain ⟨len, hlenN, hNlt⟩ := hNlt
  clear hav hx02
  (iterate 6 ((repeat with_reducible first|refine .nil ?_|refine .then_normal ?_|refine .block_normal ?_|refine .seq ?_|refine .block ?_|refine .skip ?_|refine .region ?_|refine .ret ?_|refine .then_ret ?_|refine .block_ret ?_|refine .exit ?_|refine .then_exit ?_|refine .block_exit ?_|refine .block_other rfl ?_); try refine .run TBok 99 rfl ?_))
  refine St.loop (fun g : Nat × Value × Nat => [(1, .pointer (some ⟨w.heap.size, 0, none⟩)), (3, strV (pad g.1 N).reverse), (4, .pointer (some ⟨g.2.2, 0, none⟩))])
    (fun g w' => Ext w w' ∧ Can w' g.2.1 ((N / 10 ^ g.1 : Nat) : Int) ∧ Blk 25 w' g.2.2 g.2.1.cells.toList ∧ w.heap.size < g.2.2 ∧ Blk 25 w' w.heap.size [.bool neg, .slice p xs.length cap] ∧ g.1 ≤ 11000009)
    (fun g => N / 10 ^ g.1) (0, av, b4) ⟨rfl, rfl, rfl, trivial⟩ ⟨hx04, by simpa using hav4, hS4, hb4g, hB1, Nat.zero_le _⟩ ?_
  clear hx04 hav4 hS4 hb4g hB1 hlt1 hg4
  rintro ⟨k, av, b4⟩ w5 ⟨hx05, hav5, hS5, hg5, hB1, hk5⟩
  dsimp only at hx05 hav5 hS5 hg5 hB1 hk5 ⊢
  have hszk : sz ((N / 10 ^ k : Nat) : Int) ≤ 1000000 := by
    exact Nat.le_trans (sz_nat_le (b := (N : Int)) (Nat.div_le_self _ _)) hszN
  (repeat with_reducible first|refine .nil ?_|refine .then_normal ?_|refine .block_normal ?_|refine .seq ?_|refine .block ?_|refine .skip ?_|refine .region ?_|refine .ret ?_|refine .then_ret ?_|refine .block_ret ?_|refine .exit ?_|refine .then_exit ?_|refine .block_exit ?_|refine .block_other rfl ?_)
  refine StL.step rfl rfl rfl (RunsTo.loadCan rfl hS5 hav5).op ?_
  rintro _ _ ⟨rfl, rfl⟩
  refine StL.step rfl rfl rfl (OpR.call fn_r01_Sign rfl (rsign_dn (hav5.dn hszk))) ?_
  rintro _ w6 ⟨hx6, rfl⟩
  replace hB1 := hB1.ext hx6
  replace hS5 := hS5.ext hx6
  replace hav5 := hav5.ext hx6
  replace hx05 := hx05.trans hx6
  clear hx6
  (iterate 6 ((repeat with_reducible first|refine .nil ?_|refine .then_normal ?_|refine .block_normal ?_|refine .seq ?_|refine .block ?_|refine .skip ?_|refine .region ?_|refine .ret ?_|refine .then_ret ?_|refine .block_ret ?_|refine .exit ?_|refine .then_exit ?_|refine .block_exit ?_|refine .block_other rfl ?_); try refine .run TBok 99 rfl ?_))
  by_cases hM : N / 10 ^ k = 0
  · refine St.condF rfl (by rw [hM]; rfl) ?_
    have hNk : N < 10 ^ k := by
      rcases Nat.lt_or_ge N (10 ^ k) with h | h
      · exact h
      · have := Nat.div_pos h (Nat.pow_pos (by decide : 0 < 10)); omega
    (repeat with_reducible first|refine .nil ?_|refine .then_normal ?_|refine .block_normal ?_|refine .seq ?_|refine .block ?_|refine .skip ?_|refine .region ?_|refine .ret ?_|refine .then_ret ?_|refine .block_ret ?_|refine .exit ?_|refine .then_exit ?_|refine .block_exit ?_|refine .block_other rfl ?_)
    refine St.loop (fun g : Nat => [(1, .pointer (some ⟨w.heap.size, 0, none⟩)), (3, strV (pad g N).reverse)])
      (fun g w' => w' = w6 ∧ N < 10 ^ g ∧ g ≤ k) (fun g => g) k ⟨rfl, rfl, trivial⟩ ⟨rfl, hNk, Nat.le_refl _⟩ ?_
    rintro j w7 ⟨rfl, hj5, hjk⟩
    obtain ⟨i, rfl⟩ : ∃ i, j = i + 1 := ⟨j - 1, by
      rcases Nat.eq_zero_or_pos j with e | e
      · subst e; simp at hj5; omega
      · omega⟩
    rw [pad_rev]
    (repeat with_reducible first|refine .nil ?_|refine .then_normal ?_|refine .block_normal ?_|refine .seq ?_|refine .block ?_|refine .skip ?_|refine .region ?_|refine .ret ?_|refine .then_ret ?_|refine .block_ret ?_|refine .exit ?_|refine .then_exit ?_|refine .block_exit ?_|refine .block_other rfl ?_)
    refine .run TBok 99 rfl ?_
    refine StL.step rfl rfl rfl (RunsTo.strIndex TBok 0 _ rfl rfl rfl rfl rfl (by omega)).op ?_
    rintro _ _ ⟨rfl, rfl⟩
    refine .run TBok 99 rfl ?_
    (refine StL.nil ?_; repeat with_reducible first | refine Out.then_normal ?_ | refine Out.block_normal ?_)
    by_cases hd : N / 10 ^ i % 10 = 0
    · refine St.condT rfl (by rw [hd]; rfl) ?_
      have hNi : N < 10 ^ i := by
        rw [Nat.pow_succ] at hj5
        rcases Nat.lt_or_ge N (10 ^ i) with h | h
        · exact h
        · have h1 := Nat.div_pos h (Nat.pow_pos (by decide : 0 < 10))
          have h2 : N / 10 ^ i < 10 := Nat.div_lt_of_lt_mul hj5
          omega
      (repeat with_reducible first|refine .nil ?_|refine .then_normal ?_|refine .block_normal ?_|refine .seq ?_|refine .block ?_|refine .skip ?_|refine .region ?_|refine .ret ?_|refine .then_ret ?_|refine .block_ret ?_|refine .exit ?_|refine .then_exit ?_|refine .block_exit ?_|refine .block_other rfl ?_)
      refine .run TBok 99 rfl ?_
      refine StL.step rfl rfl rfl (RunsTo.strFrom TBok 1 rfl rfl rfl rfl (by simp)).op ?_
      rintro _ _ ⟨rfl, rfl⟩
      (iterate 6 ((repeat with_reducible first|refine .nil ?_|refine .then_normal ?_|refine .block_normal ?_|refine .seq ?_|refine .block ?_|refine .skip ?_|refine .region ?_|refine .ret ?_|refine .then_ret ?_|refine .block_ret ?_|refine .exit ?_|refine .then_exit ?_|refine .block_exit ?_|refine .block_other rfl ?_); try refine .run TBok 99 rfl ?_))
      exact Out.again i ⟨rfl, rfl, trivial⟩ ⟨rfl, hNi, by omega⟩ (Nat.lt_succ_self i)
    · have hlow : 10 ^ (i + 1) ≤ 10 * N := by
        rw [Nat.pow_succ]
        rcases Nat.lt_or_ge N (10 ^ i) with h | h
        · rw [Nat.div_eq_of_lt h] at hd; simp at hd
        · omega
      have hpd := pad_digs (i + 1) N hj5 hlow
      refine St.condF rfl (by
        have : ¬ ((((48 + N / 10 ^ i % 10 : Nat) : Int)) = 48) := by omega
        simpa using this) ?_
      rw [← pad_rev, hpd]
      have hdl : (digs N).length ≤ 11000009 := by rw [← hpd, pad_length]; omega
      (iterate 6 ((repeat with_reducible first|refine .nil ?_|refine .then_normal ?_|refine .block_normal ?_|refine .seq ?_|refine .block ?_|refine .skip ?_|refine .region ?_|refine .ret ?_|refine .then_ret ?_|refine .block_ret ?_|refine .exit ?_|refine .then_exit ?_|refine .block_exit ?_|refine .block_other rfl ?_); try refine .run TBok 99 rfl ?_))
      refine StL.step rfl rfl rfl (RunsTo.load TBok rfl rfl rfl (hB1.cell rfl)).op ?_
      rintro _ _ ⟨rfl, rfl⟩
      have hfa : fmtI a = if neg then 45 :: (digs N).reverse else (digs N).reverse := by
        unfold fmtI fmtN
        rw [hN, if_neg hN0]
        cases neg
        · rw [if_neg (by rw [← hva]; simp [sg])]; rfl
        · rw [if_pos (by rw [← hva, sg]; rw [← hva, sg_abs] at hN; simp; omega)]; rfl
      (iterate 6 ((repeat with_reducible first|refine .nil ?_|refine .then_normal ?_|refine .block_normal ?_|refine .seq ?_|refine .block ?_|refine .skip ?_|refine .region ?_|refine .ret ?_|refine .then_ret ?_|refine .block_ret ?_|refine .exit ?_|refine .then_exit ?_|refine .block_exit ?_|refine .block_other rfl ?_); try refine .run TBok 99 rfl ?_))
      cases neg with
      | true =>
        refine St.condT rfl rfl ?_
        (iterate 6 ((repeat with_reducible first|refine .nil ?_|refine .then_normal ?_|refine .block_normal ?_|refine .seq ?_|refine .block ?_|refine .skip ?_|refine .region ?_|refine .ret ?_|refine .then_ret ?_|refine .block_ret ?_|refine .exit ?_|refine .then_exit ?_|refine .block_exit ?_|refine .block_other rfl ?_); try refine .run TBok 99 rfl ?_))
        refine StL.step rfl rfl rfl (RunsTo.strAdd (xs := [45]) rfl rfl (by simp; omega)).op ?_
        rintro _ _ ⟨rfl, rfl⟩
        (iterate 6 ((repeat with_reducible first|refine .nil ?_|refine .then_normal ?_|refine .block_normal ?_|refine .seq ?_|refine .block ?_|refine .skip ?_|refine .region ?_|refine .ret ?_|refine .then_ret ?_|refine .block_ret ?_|refine .exit ?_|refine .then_exit ?_|refine .block_exit ?_|refine .block_other rfl ?_); try refine .run TBok 99 rfl ?_))
        exact Out.ret1 rfl rfl ⟨hx05, by rw [hfa]; rfl⟩
      | false =>
        refine St.condF rfl rfl ?_
        (iterate 6 ((repeat with_reducible first|refine .nil ?_|refine .then_normal ?_|refine .block_normal ?_|refine .seq ?_|refine .block ?_|refine .skip ?_|refine .region ?_|refine .ret ?_|refine .then_ret ?_|refine .block_ret ?_|refine .exit ?_|refine .then_exit ?_|refine .block_exit ?_|refine .block_other rfl ?_); try refine .run TBok 99 rfl ?_))
        exact Out.ret1 rfl rfl ⟨hx05, by rw [hfa]; rfl⟩
  · have hk10 : 10 ^ k ≤ N := by
      rcases Nat.lt_or_ge N (10 ^ k) with h | h
      · exact absurd (Nat.div_eq_of_lt h) hM
      · exact h
    have hkb := digits_le hNlt hk10
    have hpos : 0 < N / 10 ^ k := Nat.pos_of_ne_zero hM
    refine St.condT rfl (by
      have h1 : ¬ (((N / 10 ^ k : Nat) : Int) < 0) := by omega
      have h2 : ¬ (((N / 10 ^ k : Nat) : Int) = 0) := by omega
      simp only [signI, if_neg h1, if_neg h2]; rfl) ?_
    (repeat with_reducible first|refine .nil ?_|refine .then_normal ?_|refine .block_normal ?_|refine .seq ?_|refine .block ?_|refine .skip ?_|refine .region ?_|refine .ret ?_|refine .then_ret ?_|refine .block_ret ?_|refine .exit ?_|refine .then_exit ?_|refine .block_exit ?_|refine .block_other rfl ?_)
    refine St.sub (E' := [(1, .pointer (some ⟨w.heap.size, 0, none⟩)), (3, strV (pad k N).reverse), (4, .pointer (some ⟨b4, 0, none⟩))]) ?_ ⟨rfl, rfl, rfl, trivial⟩
    refine St.flow 11 TBfol (by kernel_rfl) rfl (by kernel_rfl) rfl True.intro ?_
    refine FL.run TBok 99 rfl ?_
    refine FL.one (L := []) rfl rfl rfl rfl rfl (fun _ hR => RunsTo.loadCan rfl (hR.blk hS5 (by simp)) hav5) ?_
    refine FL.callE fn_r01_Small rfl rfl rfl (fun w7 hx7 => CallF.mk rfl (rsmall_spec (base := 0) w7 1000000000 (by decide) (by decide) (Nat.zero_le _))) (MonoR.canO 0 _) ?_
    refine FL.callE fn_r01_DivMod rfl rfl rfl (fun w7 hx7 v20 h20 => CallF.mk rfl (rdivMod_dn ((hav5.ext hx7).dn hszk) (h20.dn (by decide +kernel)))) (MonoR.divV 0 _ _) ?_
    refine FL.fact (L := []) (ψ := fun v w' => DivV 0 w' v ((N / 10 ^ k : Nat) : Int) 1000000000) rfl rfl rfl rfl rfl (fun w3 hR v hv => RunsTo.ext (RunsTo.pure TBok rfl) hv) (MonoR.divV 0 _ _) ?_
    refine FL.fact (L := []) (ψ := fun v w' => CanO 0 w' v (((N / 10 ^ k : Nat) : Int) / 1000000000)) rfl rfl rfl rfl rfl ?_ (MonoR.canO 0 _) ?_
    · intro w7 hR v18 h18
      obtain ⟨q, m, rfl, hq, hm⟩ := h18.2 (by decide)
      exact RunsTo.ext (RunsTo.pure TBok rfl) hq
    refine FL.fact (L := []) (ψ := fun v w' => CanO 0 w' v (((N / 10 ^ k : Nat) : Int) % 1000000000)) rfl rfl rfl rfl rfl ?_ (MonoR.canO 0 _) ?_
    · intro w7 hR v18 h18
      obtain ⟨q, m, rfl, hq, hm⟩ := h18.2 (by decide)
      exact RunsTo.ext (RunsTo.pure TBok rfl) hm
    refine FL.exact (L := []) (c := .bool true) rfl rfl rfl rfl rfl ?_ ?_
    · intro w7 hR v18 h18
      obtain ⟨q, m, rfl, hq, hm⟩ := h18.2 (by decide)
      exact RunsTo.ext (ψ := fun v _ => v = .bool true) (RunsTo.pure TBok rfl) rfl
    refine FL.alloc TBok rfl rfl rfl rfl ?_
    refine FL.alloc TBok rfl rfl rfl rfl ?_
    refine FL.storeN (L := []) (base := w6.heap.size) TBok rfl rfl rfl rfl rfl (MonoR.canO 0 (((N / 10 ^ k : Nat) : Int) / 1000000000)) ?_ ?_
    · intro w7 hR v5 h5 v22 h22
      exact ⟨⟨v5, rfl, h5⟩, v22, rfl, h22.two.1, h22.two.2, h22⟩
    refine FL.storeN (L := []) (base := w6.heap.size) TBok rfl rfl rfl rfl rfl (MonoR.canO 0 (((N / 10 ^ k : Nat) : Int) % 1000000000)) ?_ ?_
    · intro w7 hR v6 h6 v23 h23
      exact ⟨⟨v6, rfl, h6⟩, v23, rfl, h23.two.1, h23.two.2, h23⟩
    refine FL.endE rfl ?_
    rintro w7 hx7 _ ⟨b6, C6, rfl, hg6, _, _⟩ _ ⟨b5, C5, rfl, hg5', _, _⟩ v23 _ v22 _ v18 _ v21 _ v20 _ ⟨⟨b6', u6, hbu6, hB6, hu6⟩, ⟨b5', u5, hbu5, hB5, hu5⟩, _⟩ hdist
    cases hbu6
    cases hbu5
    have hlt4 := hS5.lt
    replace hB1 := hB1.ext hx7
    replace hS5 := hS5.ext hx7
    replace hav5 := hav5.ext hx7
    replace hx05 := hx05.trans hx7
    clear hx7
    rw [show ((N / 10 ^ k : Nat) : Int) / 1000000000 = ((N / 10 ^ k / 1000000000 : Nat) : Int) from by omega, Nat.div_div_eq_div_mul, show 10 ^ k * 1000000000 = 10 ^ (k + 9) from by rw [Nat.pow_add]] at hu5
    rw [show ((N / 10 ^ k : Nat) : Int) % 1000000000 = ((N / 10 ^ k % 1000000000 : Nat) : Int) from by omega] at hu6
    obtain ⟨p6, c6, rfl, hs6⟩ := hu6
    (iterate 6 ((repeat with_reducible first|refine .nil ?_|refine .then_normal ?_|refine .block_normal ?_|refine .seq ?_|refine .block ?_|refine .skip ?_|refine .region ?_|refine .ret ?_|refine .then_ret ?_|refine .block_ret ?_|refine .exit ?_|refine .then_exit ?_|refine .block_exit ?_|refine .block_other rfl ?_); try refine .run TBok 99 rfl ?_))
    refine StL.step rfl rfl rfl (RunsTo.load TBok rfl rfl rfl (hB6.cell rfl)).op ?_
    rintro _ _ ⟨rfl, rfl⟩
    have hrlen : (limbs (((N / 10 ^ k % 1000000000 : Nat) : Int)).natAbs).length ≤ 2 := limbs_length_le_two (by simp; omega)
    refine StL.step rfl rfl rfl (OpR.call fn_r01_low rfl (low_spec w7 _ _ hs6.sl (by omega))) ?_
    rintro _ w8 ⟨hx8, rfl⟩
    rw [List.take_of_length_le hrlen, val_limbs, Int.natAbs_natCast]
    replace hB1 := hB1.ext hx8
    replace hS5 := hS5.ext hx8
    replace hav5 := hav5.ext hx8
    replace hB5 := hB5.ext hx8
    replace hu5 := hu5.ext hx8
    replace hx05 := hx05.trans hx8
    clear hx8
    (iterate 6 ((repeat with_reducible first|refine .nil ?_|refine .then_normal ?_|refine .block_normal ?_|refine .seq ?_|refine .block ?_|refine .skip ?_|refine .region ?_|refine .ret ?_|refine .then_ret ?_|refine .block_ret ?_|refine .exit ?_|refine .then_exit ?_|refine .block_exit ?_|refine .block_other rfl ?_); try refine .run TBok 99 rfl ?_))
    refine St.loop (fun q : Nat => [(1, .pointer (some ⟨w.heap.size, 0, none⟩)), (3, strV (pad (k + q) N).reverse), (4, .pointer (some ⟨b4, 0, none⟩)), (5, .pointer (some ⟨b5, 0, none⟩)), (8, .int .u64 ((N / 10 ^ k % 1000000000 / 10 ^ q : Nat) : Int)), (9, .int .i64 q)])
      (fun q w' => Ext w w' ∧ Can w' u5 ((N / 10 ^ (k + 9) : Nat) : Int) ∧ Blk 25 w' b5 u5.cells.toList ∧ (∃ C, Blk 25 w' b4 C ∧ C.length = 2) ∧ Blk 25 w' w.heap.size [.bool neg, .slice p xs.length cap] ∧ q ≤ 9)
      (fun q => 9 - q) 0 ⟨rfl, rfl, rfl, rfl, ?_, rfl, trivial⟩ ⟨hx05, hu5, hB5, ⟨_, hS5, hav5.two.1⟩, hB1, by omega⟩ ?_
    · show some (Value.int .u64 ((N / 10 ^ k % 1000000000 : Nat) : Int)) = _
      simp
    clear hx05 hu5 hB5 hS5 hav5 hB1
    rintro i w9 ⟨hx09, hu5, hB5, ⟨C4, hB4, hC4⟩, hB1, hi⟩
    by_cases hi9 : i < 9
    · (repeat with_reducible first|refine .nil ?_|refine .then_normal ?_|refine .block_normal ?_|refine .seq ?_|refine .block ?_|refine .skip ?_|refine .region ?_|refine .ret ?_|refine .then_ret ?_|refine .block_ret ?_|refine .exit ?_|refine .then_exit ?_|refine .block_exit ?_|refine .block_other rfl ?_)
      refine StL.as TBok 2 (.bool true) rfl (bool_true (by omega)) ?_
      (iterate 6 ((repeat with_reducible first|refine .nil ?_|refine .then_normal ?_|refine .block_normal ?_|refine .seq ?_|refine .block ?_|refine .skip ?_|refine .region ?_|refine .ret ?_|refine .then_ret ?_|refine .block_ret ?_|refine .exit ?_|refine .then_exit ?_|refine .block_exit ?_|refine .block_other rfl ?_); try refine .run TBok 99 rfl ?_))
      refine St.condT rfl rfl ?_
      (iterate 6 ((repeat with_reducible first|refine .nil ?_|refine .then_normal ?_|refine .block_normal ?_|refine .seq ?_|refine .block ?_|refine .skip ?_|refine .region ?_|refine .ret ?_|refine .then_ret ?_|refine .block_ret ?_|refine .exit ?_|refine .then_exit ?_|refine .block_exit ?_|refine .block_other rfl ?_); try refine .run TBok 99 rfl ?_))
      have hdig := digit_at N k i hi9
      have hrest : N / 10 ^ k % 1000000000 / 10 ^ i < 4294967296 := by
        refine Nat.lt_of_le_of_lt (Nat.div_le_self _ _) ?_
        omega
      have hnext : N / 10 ^ k % 1000000000 / 10 ^ i / 10 = N / 10 ^ k % 1000000000 / 10 ^ (i + 1) := by
        rw [Nat.div_div_eq_div_mul, Nat.pow_succ]
      generalize N / 10 ^ k % 1000000000 / 10 ^ i = rest at hrest hdig hnext ⊢
      refine StL.step rfl rfl rfl (RunsTo.remN rest 10 rfl rfl rfl rfl (by decide)).op ?_
      rintro _ _ ⟨rfl, rfl⟩
      have e2 : IntKind.u8.wrap (IntKind.u64.wrap (48 + ((rest % 10 : Nat) : Int))) = ((48 + N / 10 ^ (k + i) % 10 : Nat) : Int) := by
        rw [← hdig]
        simp only [wrap_u64, wrap_u8]
        omega
      refine StL.as TBok 2 (.int .u8 ((48 + N / 10 ^ (k + i) % 10 : Nat) : Int)) rfl (by rw [e2]) ?_
      refine StL.step rfl rfl rfl (OpR.single TBok rfl rfl rfl rfl) ?_
      rintro _ w10 ⟨rfl, hb10, hx10, _⟩
      have hrow : Row 5 w10 (.slice (some ⟨w9.heap.size, 0, none⟩) 1 1) ([48 + N / 10 ^ (k + i) % 10].map u8) := hb10.row rfl (by simp) (by simp) rfl
      refine StL.step rfl rfl rfl (RunsTo.bytesStr TBok rfl rfl rfl rfl rfl hrow).op ?_
      rintro _ _ ⟨rfl, rfl⟩
      replace hB1 := hB1.ext hx10
      replace hB4 := hB4.ext hx10
      replace hB5 := hB5.ext hx10
      replace hu5 := hu5.ext hx10
      replace hx09 := hx09.trans hx10
      clear hx10
      refine .run TBok 99 rfl ?_
      refine StL.step rfl rfl rfl (RunsTo.strAdd (xs := [48 + N / 10 ^ (k + i) % 10]) rfl rfl (by simp [pad_length]; omega)).op ?_
      rintro _ _ ⟨rfl, rfl⟩
      (iterate 6 ((repeat with_reducible first|refine .nil ?_|refine .then_normal ?_|refine .block_normal ?_|refine .seq ?_|refine .block ?_|refine .skip ?_|refine .region ?_|refine .ret ?_|refine .then_ret ?_|refine .block_ret ?_|refine .exit ?_|refine .then_exit ?_|refine .block_exit ?_|refine .block_other rfl ?_); try refine .run TBok 99 rfl ?_))
      refine StL.step rfl rfl rfl (RunsTo.quoN rest 10 rfl rfl rfl rfl (by decide) (by rw [wrap_u64]; omega)).op ?_
      rintro _ _ ⟨rfl, rfl⟩
      rw [hnext]
      (iterate 6 ((repeat with_reducible first|refine .nil ?_|refine .then_normal ?_|refine .block_normal ?_|refine .seq ?_|refine .block ?_|refine .skip ?_|refine .region ?_|refine .ret ?_|refine .then_ret ?_|refine .block_ret ?_|refine .exit ?_|refine .then_exit ?_|refine .block_exit ?_|refine .block_other rfl ?_); try refine .run TBok 99 rfl ?_))
      refine Out.again (i + 1) ⟨rfl, ?_, rfl, rfl, rfl, ?_, trivial⟩ ⟨hx09, hu5, hB5, ⟨C4, hB4, hC4⟩, hB1, by omega⟩ (by omega)
      · rw [← Nat.add_assoc, pad_rev]; rfl
      · show some (Value.int .i64 _) = _
        rw [i64_id (by omega) (by omega)]; rfl
    · have hi' : i = 9 := by omega
      subst hi'
      (repeat with_reducible first|refine .nil ?_|refine .then_normal ?_|refine .block_normal ?_|refine .seq ?_|refine .block ?_|refine .skip ?_|refine .region ?_|refine .ret ?_|refine .then_ret ?_|refine .block_ret ?_|refine .exit ?_|refine .then_exit ?_|refine .block_exit ?_|refine .block_other rfl ?_)
      refine StL.as TBok 2 (.bool false) rfl rfl ?_
      (iterate 6 ((repeat with_reducible first|refine .nil ?_|refine .then_normal ?_|refine .block_normal ?_|refine .seq ?_|refine .block ?_|refine .skip ?_|refine .region ?_|refine .ret ?_|refine .then_ret ?_|refine .block_ret ?_|refine .exit ?_|refine .then_exit ?_|refine .block_exit ?_|refine .block_other rfl ?_); try refine .run TBok 99 rfl ?_))
      refine St.condF rfl rfl ?_
      (iterate 6 ((repeat with_reducible first|refine .nil ?_|refine .then_normal ?_|refine .block_normal ?_|refine .seq ?_|refine .block ?_|refine .skip ?_|refine .region ?_|refine .ret ?_|refine .then_ret ?_|refine .block_ret ?_|refine .exit ?_|refine .then_exit ?_|refine .block_exit ?_|refine .block_other rfl ?_); try refine .run TBok 99 rfl ?_))
      refine StL.step rfl rfl rfl (RunsTo.loadCan rfl hB5 hu5).op ?_
      rintro _ _ ⟨rfl, rfl⟩
      refine StL.setCan rfl rfl hB4 hC4 hu5 hx09 (by omega) ?_
      intro w10 hB4' hu10 hu5' hx10
      replace hB1 := hB1.upd hu10 (by omega)
      (iterate 6 ((repeat with_reducible first|refine .nil ?_|refine .then_normal ?_|refine .block_normal ?_|refine .seq ?_|refine .block ?_|refine .skip ?_|refine .region ?_|refine .ret ?_|refine .then_ret ?_|refine .block_ret ?_|refine .exit ?_|refine .then_exit ?_|refine .block_exit ?_|refine .block_other rfl ?_); try refine .run TBok 99 rfl ?_))
      refine StL.step rfl rfl rfl (RunsTo.loadCan rfl hB4' hu5').op ?_
      rintro _ _ ⟨rfl, rfl⟩
      (iterate 6 ((repeat with_reducible first|refine .nil ?_|refine .then_normal ?_|refine .block_normal ?_|refine .seq ?_|refine .block ?_|refine .skip ?_|refine .region ?_|refine .ret ?_|refine .then_ret ?_|refine .block_ret ?_|refine .exit ?_|refine .then_exit ?_|refine .block_exit ?_|refine .block_other rfl ?_); try refine .run TBok 99 rfl ?_))
      refine StL.setNew rfl (fun _ => rfl) hu5' hx10 ?_
      intro b11 w11 hg11 hx11 hS11 hu11 hx011
      have hlt1 := hB1.lt
      replace hB1 := hB1.ext hx11
      (refine StL.nil ?_; repeat with_reducible first | refine Out.then_normal ?_ | refine Out.block_normal ?_)
      refine Out.again (k + 9, u5, b11) ⟨rfl, rfl, rfl, trivial⟩ ⟨hx011, hu11, hS11, (by dsimp only; omega), hB1, (by dsimp only; omega)⟩ ?_
      show N / 10 ^ (k + 9) < N / 10 ^ k
      rw [Nat.pow_add, ← Nat.div_div_eq_div_mul]
      exact Nat.div_lt_self hpos (by decide)

end Go.Qf
