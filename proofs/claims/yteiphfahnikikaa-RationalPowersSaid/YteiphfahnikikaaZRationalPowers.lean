/- Lemmas on the model and on the program's functions, part ZRationalPowers. -/
import Derived.Test.YteiphfahnikikaaQa
import Derived.Test.YteiphfahnikikaaQb
import Derived.Test.YteiphfahnikikaaQc
import Derived.Test.YteiphfahnikikaaQd
import Derived.Test.YteiphfahnikikaaQe
import Derived.Test.YteiphfahnikikaaQf
import Derived.Test.YteiphfahnikikaaQg
import Derived.Test.YteiphfahnikikaaQh
import Derived.Test.YteiphfahnikikaaQi
/- integer.Pow, quadformref01.Pow. -/
namespace Go.Qf
open Go Go.RowKit Go.Proofs
set_option maxRecDepth 20000

def pow0 (a n : Int) : Int := if 0 ≤ n ∧ n ≤ 64 then a ^ n.toNat else 0

/-- What Pow hands back. -/
def PowV (w : World) (r : Value) (a n : Int) : Prop := ∃ v, r = .tuple #[v, .bool (decide (0 ≤ n ∧ n ≤ 64))] ∧ CanO 0 w v (pow0 a n)

theorem sz_one : sz 1 = 1 := by decide +kernel
theorem sz_pow (a : Int) (n : Nat) : sz (a ^ n) ≤ n * sz a + 1 := by
  induction n with
  | zero => simp [sz_one]
  | succ n ih =>
    rw [Int.pow_succ]
    have := sz_mul (a ^ n) a
    rw [Nat.add_mul]
    omega

theorem sz_pow0 (a n : Int) : sz (pow0 a n) ≤ 64 * sz a + 1 := by
  unfold pow0
  split
  · rename_i h
    refine Nat.le_trans (sz_pow a n.toNat) ?_
    have : n.toNat * sz a ≤ 64 * sz a := Nat.mul_le_mul_right _ (by omega)
    omega
  · exact Nat.zero_le _

theorem and_bit64 : ∀ n, n < 65 → ∀ k, k < 7 → bitsI .and .i64 ((n : Nat) : Int) ((2 ^ k : Nat) : Int) = ((n / 2 ^ k % 2 * 2 ^ k : Nat) : Int) := by decide +kernel

theorem pow_half (a : Int) (n k : Nat) : a ^ (n / 2 ^ k) = a ^ (n / 2 ^ (k + 1)) * a ^ (n / 2 ^ (k + 1)) * (if n / 2 ^ k % 2 = 0 then 1 else a) := by
  have h := half_step n k
  have h2 : n / 2 ^ k % 2 = 0 ∨ n / 2 ^ k % 2 = 1 := by omega
  rcases h2 with e | e
  · rw [if_pos e, Int.mul_one]
    rw [e] at h
    conv => lhs; rw [h]
    rw [Nat.add_zero, Nat.two_mul, Int.pow_add]
  · rw [if_neg (by omega)]
    rw [e] at h
    conv => lhs; rw [h]
    rw [Int.pow_succ, Nat.two_mul, Int.pow_add]

set_option maxHeartbeats 400000 in
theorem pow_dn {w : World} {x : Value} {a n : Int} (h : Dn w x a) (hsa : sz a ≤ 5000) (hn : -9223372036854775808 ≤ n ∧ n ≤ 9223372036854775807) : Calls Try.prog 102 #[x, .int .i64 n] w (Ret fun r w' => Ext w w' ∧ PowV w' r a n) := by
  have hD := h
  obtain ⟨na, xs, ⟨p, cap, rfl, hs⟩, hva, hlen⟩ := h
  refine calls_of_St (args := [_, _]) Try.func102 rfl Try.ntmps102 rfl ?_
  (repeat with_reducible first|refine .nil ?_|refine .then_normal ?_|refine .block_normal ?_|refine .seq ?_|refine .block ?_|refine .skip ?_|refine .region ?_|refine .ret ?_|refine .then_ret ?_|refine .block_ret ?_|refine .exit ?_|refine .then_exit ?_|refine .block_exit ?_|refine .block_other rfl ?_)
  refine StL.step rfl rfl rfl (OpR.box rfl) ?_
  rintro _ w1 ⟨rfl, hb1, hx1, hz1⟩
  refine StL.step rfl rfl rfl (OpR.alloc TBok rfl) ?_
  rintro _ w2 ⟨rfl, hb2, hx2, hz2⟩
  have hB1 := hb1.ext hx2
  have hx02 := hx1.trans hx2
  have ha := hD.ext hx02
  have hs1 := hx1.size
  refine .run TBok 99 rfl ?_
  (repeat with_reducible first|refine .nil ?_|refine .then_normal ?_|refine .block_normal ?_|refine .seq ?_|refine .block ?_|refine .skip ?_|refine .region ?_|refine .ret ?_|refine .then_ret ?_|refine .block_ret ?_|refine .exit ?_|refine .then_exit ?_|refine .block_exit ?_|refine .block_other rfl ?_)
  by_cases hneg : n < 0
  · refine StL.as TBok 2 (.bool true) rfl (bool_true (by omega)) ?_
    (iterate 6 ((repeat with_reducible first|refine .nil ?_|refine .then_normal ?_|refine .block_normal ?_|refine .seq ?_|refine .block ?_|refine .skip ?_|refine .region ?_|refine .ret ?_|refine .then_ret ?_|refine .block_ret ?_|refine .exit ?_|refine .then_exit ?_|refine .block_exit ?_|refine .block_other rfl ?_); try refine .run TBok 99 rfl ?_))
    refine St.condT rfl rfl ?_
    (iterate 6 ((repeat with_reducible first|refine .nil ?_|refine .then_normal ?_|refine .block_normal ?_|refine .seq ?_|refine .block ?_|refine .skip ?_|refine .region ?_|refine .ret ?_|refine .then_ret ?_|refine .block_ret ?_|refine .exit ?_|refine .then_exit ?_|refine .block_exit ?_|refine .block_other rfl ?_); try refine .run TBok 99 rfl ?_))
    refine StL.step rfl rfl rfl (RunsTo.build TBok rfl rfl rfl rfl).op ?_
    rintro _ _ ⟨rfl, rfl⟩
    refine StL.step0 rfl rfl (OpR.store TBok (vs := [.bool false, .slice none 0 0]) rfl rfl rfl rfl rfl hb2 (Nat.le_refl _) (by simp [Value.oneCell'])) ?_
    rintro _ w4 ⟨hb4, hu4⟩
    (iterate 6 ((repeat with_reducible first|refine .nil ?_|refine .then_normal ?_|refine .block_normal ?_|refine .seq ?_|refine .block ?_|refine .skip ?_|refine .region ?_|refine .ret ?_|refine .then_ret ?_|refine .block_ret ?_|refine .exit ?_|refine .then_exit ?_|refine .block_exit ?_|refine .block_other rfl ?_); try refine .run TBok 99 rfl ?_))
    refine Out.rets TBok [IntV false (.slice none 0 0), .bool false] rfl ⟨⟨_, _, _, _, rfl, hb4, rfl, rfl, rfl, rfl⟩, rfl, trivial⟩ ⟨hx02.then_upd hu4 hs1, IntV false (.slice none 0 0), ?_, ?_⟩
    · rw [decide_eq_false (by omega)]; rfl
    · unfold pow0; rw [if_neg (by omega)]; exact canO_zero _ _
  refine StL.as TBok 2 (.bool false) rfl (bool_false (by omega)) ?_
  by_cases hbig : 64 < n
  · refine StL.as TBok 3 (.bool true) rfl (bool_true (by omega)) ?_
    (iterate 6 ((repeat with_reducible first|refine .nil ?_|refine .then_normal ?_|refine .block_normal ?_|refine .seq ?_|refine .block ?_|refine .skip ?_|refine .region ?_|refine .ret ?_|refine .then_ret ?_|refine .block_ret ?_|refine .exit ?_|refine .then_exit ?_|refine .block_exit ?_|refine .block_other rfl ?_); try refine .run TBok 99 rfl ?_))
    refine St.condT rfl rfl ?_
    (iterate 6 ((repeat with_reducible first|refine .nil ?_|refine .then_normal ?_|refine .block_normal ?_|refine .seq ?_|refine .block ?_|refine .skip ?_|refine .region ?_|refine .ret ?_|refine .then_ret ?_|refine .block_ret ?_|refine .exit ?_|refine .then_exit ?_|refine .block_exit ?_|refine .block_other rfl ?_); try refine .run TBok 99 rfl ?_))
    refine StL.step rfl rfl rfl (RunsTo.build TBok rfl rfl rfl rfl).op ?_
    rintro _ _ ⟨rfl, rfl⟩
    refine StL.step0 rfl rfl (OpR.store TBok (vs := [.bool false, .slice none 0 0]) rfl rfl rfl rfl rfl hb2 (Nat.le_refl _) (by simp [Value.oneCell'])) ?_
    rintro _ w4 ⟨hb4, hu4⟩
    (iterate 6 ((repeat with_reducible first|refine .nil ?_|refine .then_normal ?_|refine .block_normal ?_|refine .seq ?_|refine .block ?_|refine .skip ?_|refine .region ?_|refine .ret ?_|refine .then_ret ?_|refine .block_ret ?_|refine .exit ?_|refine .then_exit ?_|refine .block_exit ?_|refine .block_other rfl ?_); try refine .run TBok 99 rfl ?_))
    refine Out.rets TBok [IntV false (.slice none 0 0), .bool false] rfl ⟨⟨_, _, _, _, rfl, hb4, rfl, rfl, rfl, rfl⟩, rfl, trivial⟩ ⟨hx02.then_upd hu4 hs1, IntV false (.slice none 0 0), ?_, ?_⟩
    · rw [decide_eq_false (by omega)]; rfl
    · unfold pow0; rw [if_neg (by omega)]; exact canO_zero _ _
  refine StL.as TBok 3 (.bool false) rfl (bool_false (by omega)) ?_
  (iterate 6 ((repeat with_reducible first|refine .nil ?_|refine .then_normal ?_|refine .block_normal ?_|refine .seq ?_|refine .block ?_|refine .skip ?_|refine .region ?_|refine .ret ?_|refine .then_ret ?_|refine .block_ret ?_|refine .exit ?_|refine .then_exit ?_|refine .block_exit ?_|refine .block_other rfl ?_); try refine .run TBok 99 rfl ?_))
  refine St.condF rfl rfl ?_
  obtain ⟨m, rfl⟩ : ∃ m : Nat, n = m := ⟨n.toNat, by omega⟩
  have hm : m ≤ 64 := by omega
  have hp0 : pow0 a (m : Int) = a ^ m := by unfold pow0; rw [if_pos (by omega)]; rfl
  have hmul : ∀ e, e ≤ 64 → sz (a ^ e) ≤ 320001 := fun e he => by
    refine Nat.le_trans (sz_pow a e) ?_
    have := Nat.mul_le_mul he hsa
    omega
  have hsz2 : ∀ k, sz (a ^ (m / 2 ^ k)) ≤ 320001 := fun k => hmul _ (Nat.le_trans (Nat.div_le_self _ _) hm)
  (repeat with_reducible first|refine .nil ?_|refine .then_normal ?_|refine .block_normal ?_|refine .seq ?_|refine .block ?_|refine .skip ?_|refine .region ?_|refine .ret ?_|refine .then_ret ?_|refine .block_ret ?_|refine .exit ?_|refine .then_exit ?_|refine .block_exit ?_|refine .block_other rfl ?_)
  refine StL.step rfl rfl rfl (OpR.call fn_integer_Small rfl (small_spec w2 1 (by decide) (by decide))) ?_
  rintro v15 w3 ⟨hx3, h15⟩
  have hB23 : Blk 25 w3 w1.heap.size [.bool false, .slice none 0 0] := hb2.ext hx3
  have hlt2 := hb2.lt
  replace hB1 := hB1.ext hx3
  replace ha := ha.ext hx3
  replace hx02 := hx02.trans hx3
  clear hx3
  refine StL.setNew rfl (fun _ => rfl) h15 hx02 ?_
  intro b6 w4 hg6 hx4 hS6 h15' hx04
  have hl3 : w1.heap.size < w3.heap.size := hB23.lt
  replace hB1 := hB1.ext hx4
  replace hB23 := hB23.ext hx4
  replace ha := ha.ext hx4
  clear hx4
  clear hx02 h15
  (iterate 6 ((repeat with_reducible first|refine .nil ?_|refine .then_normal ?_|refine .block_normal ?_|refine .seq ?_|refine .block ?_|refine .skip ?_|refine .region ?_|refine .ret ?_|refine .then_ret ?_|refine .block_ret ?_|refine .exit ?_|refine .then_exit ?_|refine .block_exit ?_|refine .block_other rfl ?_); try refine .run TBok 99 rfl ?_))
  refine St.loop (fun g : Value × Nat => [(1, .int .i64 m), (2, .pointer (some ⟨w.heap.size, 0, none⟩)), (4, .pointer (some ⟨w1.heap.size, 0, none⟩)), (6, .pointer (some ⟨b6, 0, none⟩)), (7, .int .i64 ((2 ^ g.2 / 2 : Nat) : Int))])
    (fun g w' => Ext w w' ∧ Blk 25 w' b6 g.1.cells.toList ∧ CanO 0 w' g.1 (a ^ (m / 2 ^ g.2)) ∧ Blk 25 w' w.heap.size [.bool na, .slice p xs.length cap] ∧ Blk 25 w' w1.heap.size [.bool false, .slice none 0 0] ∧ g.2 ≤ 7)
    (fun g => g.2) (v15, 7) ⟨rfl, rfl, rfl, rfl, congrArg (fun z => some (Value.int .i64 z)) (by decide : (64 : Int) = ((2 ^ 7 / 2 : Nat) : Int)), trivial⟩ ⟨hx04, hS6, ?_, hB1, hB23, Nat.le_refl _⟩ ?_
  · have e : m / 2 ^ 7 = 0 := Nat.div_eq_of_lt (by omega)
    dsimp only
    rw [e, Int.pow_zero]
    exact h15'
  clear hx04 hS6 h15' hB1 hB23 ha
  rintro ⟨v6, k⟩ w5 ⟨hx5, hS6, h6, hB1, hB2, hk⟩
  dsimp only at hx5 hS6 h6 hB1 hB2 hk ⊢
  have hlt1 := hB1.lt
  by_cases hk0 : k = 0
  · subst hk0
    (repeat with_reducible first|refine .nil ?_|refine .then_normal ?_|refine .block_normal ?_|refine .seq ?_|refine .block ?_|refine .skip ?_|refine .region ?_|refine .ret ?_|refine .then_ret ?_|refine .block_ret ?_|refine .exit ?_|refine .then_exit ?_|refine .block_exit ?_|refine .block_other rfl ?_)
    refine StL.as TBok 2 (.bool false) rfl (bool_false (by decide)) ?_
    (repeat with_reducible first|refine .nil ?_|refine .then_normal ?_|refine .block_normal ?_|refine .seq ?_|refine .block ?_|refine .skip ?_|refine .region ?_|refine .ret ?_|refine .then_ret ?_|refine .block_ret ?_|refine .exit ?_|refine .then_exit ?_|refine .block_exit ?_|refine .block_other rfl ?_)
    refine St.condF rfl rfl ?_
    (iterate 6 ((repeat with_reducible first|refine .nil ?_|refine .then_normal ?_|refine .block_normal ?_|refine .seq ?_|refine .block ?_|refine .skip ?_|refine .region ?_|refine .ret ?_|refine .then_ret ?_|refine .block_ret ?_|refine .exit ?_|refine .then_exit ?_|refine .block_exit ?_|refine .block_other rfl ?_); try refine .run TBok 99 rfl ?_))
    refine StL.step rfl rfl rfl (RunsTo.loadCan rfl hS6 h6).op ?_
    rintro _ _ ⟨rfl, rfl⟩
    refine StL.setCan rfl rfl hB2 rfl h6 hx5 hs1 ?_
    intro w6 hb6 hu6 h6' hx6
    (iterate 6 ((repeat with_reducible first|refine .nil ?_|refine .then_normal ?_|refine .block_normal ?_|refine .seq ?_|refine .block ?_|refine .skip ?_|refine .region ?_|refine .ret ?_|refine .then_ret ?_|refine .block_ret ?_|refine .exit ?_|refine .then_exit ?_|refine .block_exit ?_|refine .block_other rfl ?_); try refine .run TBok 99 rfl ?_))
    refine Out.rets TBok [v6, .bool true] rfl ⟨⟨_, _, _, _, rfl, hb6, rfl, rfl, h6'.two.1, by simpa using h6'.agg⟩, rfl, trivial⟩ ⟨hx6, v6, ?_, ?_⟩
    · rw [decide_eq_true (by omega)]; rfl
    · rw [hp0]; simpa using h6'
  obtain ⟨j, rfl⟩ : ∃ j, k = j + 1 := ⟨k - 1, by omega⟩
  have hpow : 2 ^ (j + 1) / 2 = 2 ^ j := by rw [Nat.pow_succ]; omega
  have hppos : 0 < 2 ^ j := Nat.pow_pos (by decide)
  have hple : 2 ^ j ≤ 2 ^ 6 := Nat.pow_le_pow_right (by decide) (by omega)
  rw [hpow]
  have hA5 : Dn w5 (IntV na (.slice p xs.length cap)) a := hD.ext hx5
  have hs6 := hsz2 (j + 1)
  have hsq := sz_mul (a ^ (m / 2 ^ (j + 1))) (a ^ (m / 2 ^ (j + 1)))
  have hph := pow_half a m j
  (repeat with_reducible first|refine .nil ?_|refine .then_normal ?_|refine .block_normal ?_|refine .seq ?_|refine .block ?_|refine .skip ?_|refine .region ?_|refine .ret ?_|refine .then_ret ?_|refine .block_ret ?_|refine .exit ?_|refine .then_exit ?_|refine .block_exit ?_|refine .block_other rfl ?_)
  refine StL.as TBok 2 (.bool true) rfl (bool_true (by omega)) ?_
  (repeat with_reducible first|refine .nil ?_|refine .then_normal ?_|refine .block_normal ?_|refine .seq ?_|refine .block ?_|refine .skip ?_|refine .region ?_|refine .ret ?_|refine .then_ret ?_|refine .block_ret ?_|refine .exit ?_|refine .then_exit ?_|refine .block_exit ?_|refine .block_other rfl ?_)
  refine St.condT rfl rfl ?_
  (repeat with_reducible first|refine .nil ?_|refine .then_normal ?_|refine .block_normal ?_|refine .seq ?_|refine .block ?_|refine .skip ?_|refine .region ?_|refine .ret ?_|refine .then_ret ?_|refine .block_ret ?_|refine .exit ?_|refine .then_exit ?_|refine .block_exit ?_|refine .block_other rfl ?_)
  refine StL.step rfl rfl rfl (RunsTo.loadCan rfl hS6 h6).op ?_
  rintro _ _ ⟨rfl, rfl⟩
  refine StL.step rfl rfl rfl (RunsTo.loadCan rfl hS6 h6).op ?_
  rintro _ _ ⟨rfl, rfl⟩
  refine StL.step rfl rfl rfl (OpR.call fn_integer_Mul rfl (mul_dn (h6.dn (by omega)) (h6.dn (by omega)))) ?_
  rintro v22 w6 ⟨hx6, h22⟩
  replace hS6 := hS6.ext hx6
  replace hB1 := hB1.ext hx6
  replace hB2 := hB2.ext hx6
  replace hA5 := hA5.ext hx6
  replace hx5 := hx5.trans hx6
  clear hx6
  refine StL.setCan rfl rfl hS6 h6.two.1 h22 hx5 (by omega) ?_
  intro w7 hS6' hu7 h22' hx7
  replace hB1 := hB1.upd hu7 (by omega)
  replace hB2 := hB2.upd hu7 (by omega)
  clear hS6 hu7 h22 hx5
  have hA7 : Dn w7 (IntV na (.slice p xs.length cap)) a := hD.ext hx7
  refine .run TBok 99 rfl ?_
  (refine StL.nil ?_; repeat with_reducible first | refine Out.then_normal ?_ | refine Out.block_normal ?_)
  refine St.seq ?_
  (repeat with_reducible first|refine .nil ?_|refine .then_normal ?_|refine .block_normal ?_|refine .seq ?_|refine .block ?_|refine .skip ?_|refine .region ?_|refine .ret ?_|refine .then_ret ?_|refine .block_ret ?_|refine .exit ?_|refine .then_exit ?_|refine .block_exit ?_|refine .block_other rfl ?_)
  have hand := and_bit64 m (by omega) j (by omega)
  have hb01 : m / 2 ^ j % 2 = 0 ∨ m / 2 ^ j % 2 = 1 := by omega
  rcases hb01 with e0 | e1
  · rw [e0, Nat.zero_mul] at hand
    rw [if_pos e0, Int.mul_one] at hph
    refine StL.as TBok 4 (.bool false) rfl (by rw [hand]; rfl) ?_
    (repeat with_reducible first|refine .nil ?_|refine .then_normal ?_|refine .block_normal ?_|refine .seq ?_|refine .block ?_|refine .skip ?_|refine .region ?_|refine .ret ?_|refine .then_ret ?_|refine .block_ret ?_|refine .exit ?_|refine .then_exit ?_|refine .block_exit ?_|refine .block_other rfl ?_)
    refine St.condF rfl rfl ?_
    (iterate 6 ((repeat with_reducible first|refine .nil ?_|refine .then_normal ?_|refine .block_normal ?_|refine .seq ?_|refine .block ?_|refine .skip ?_|refine .region ?_|refine .ret ?_|refine .then_ret ?_|refine .block_ret ?_|refine .exit ?_|refine .then_exit ?_|refine .block_exit ?_|refine .block_other rfl ?_); try refine .run TBok 99 rfl ?_))
    refine StL.step rfl rfl rfl (RunsTo.quoN (2 ^ j) 2 rfl rfl rfl rfl (by decide) (i64_of _ (by omega))).op ?_
    rintro _ _ ⟨rfl, rfl⟩
    (iterate 6 ((repeat with_reducible first|refine .nil ?_|refine .then_normal ?_|refine .block_normal ?_|refine .seq ?_|refine .block ?_|refine .skip ?_|refine .region ?_|refine .ret ?_|refine .then_ret ?_|refine .block_ret ?_|refine .exit ?_|refine .then_exit ?_|refine .block_exit ?_|refine .block_other rfl ?_); try refine .run TBok 99 rfl ?_))
    refine Out.again (v22, j) ⟨rfl, rfl, rfl, rfl, rfl, trivial⟩ ⟨hx7, hS6', ?_, hB1, hB2, by dsimp only; omega⟩ (Nat.lt_succ_self j)
    dsimp only
    rw [hph]
    exact h22'
  · rw [e1, Nat.one_mul] at hand
    rw [if_neg (by omega)] at hph
    refine StL.as TBok 4 (.bool true) rfl (by
      rw [hand]
      have : (((2 ^ j : Nat) : Int) != 0) = true := bne_iff_ne.2 (by omega)
      rw [this]) ?_
    (repeat with_reducible first|refine .nil ?_|refine .then_normal ?_|refine .block_normal ?_|refine .seq ?_|refine .block ?_|refine .skip ?_|refine .region ?_|refine .ret ?_|refine .then_ret ?_|refine .block_ret ?_|refine .exit ?_|refine .then_exit ?_|refine .block_exit ?_|refine .block_other rfl ?_)
    refine St.condT rfl rfl ?_
    (iterate 6 ((repeat with_reducible first|refine .nil ?_|refine .then_normal ?_|refine .block_normal ?_|refine .seq ?_|refine .block ?_|refine .skip ?_|refine .region ?_|refine .ret ?_|refine .then_ret ?_|refine .block_ret ?_|refine .exit ?_|refine .then_exit ?_|refine .block_exit ?_|refine .block_other rfl ?_); try refine .run TBok 99 rfl ?_))
    refine StL.step rfl rfl rfl (RunsTo.loadCan rfl hS6' h22').op ?_
    rintro _ _ ⟨rfl, rfl⟩
    refine StL.step rfl rfl rfl (RunsTo.loadInt rfl hB1 rfl rfl).op ?_
    rintro _ _ ⟨rfl, rfl⟩
    refine StL.step rfl rfl rfl (OpR.call fn_integer_Mul rfl (mul_dn (h22'.dn (by omega)) hA7)) ?_
    rintro v29 w8 ⟨hx8, h29⟩
    rw [← hph] at h29
    replace hS6' := hS6'.ext hx8
    replace hB1 := hB1.ext hx8
    replace hB2 := hB2.ext hx8
    replace hx7 := hx7.trans hx8
    clear hx8
    refine StL.setCan rfl rfl hS6' h22'.two.1 h29 hx7 (by omega) ?_
    intro w9 hS6'' hu9 h29' hx9
    (iterate 6 ((repeat with_reducible first|refine .nil ?_|refine .then_normal ?_|refine .block_normal ?_|refine .seq ?_|refine .block ?_|refine .skip ?_|refine .region ?_|refine .ret ?_|refine .then_ret ?_|refine .block_ret ?_|refine .exit ?_|refine .then_exit ?_|refine .block_exit ?_|refine .block_other rfl ?_); try refine .run TBok 99 rfl ?_))
    refine StL.step rfl rfl rfl (RunsTo.quoN (2 ^ j) 2 rfl rfl rfl rfl (by decide) (i64_of _ (by omega))).op ?_
    rintro _ _ ⟨rfl, rfl⟩
    (iterate 6 ((repeat with_reducible first|refine .nil ?_|refine .then_normal ?_|refine .block_normal ?_|refine .seq ?_|refine .block ?_|refine .skip ?_|refine .region ?_|refine .ret ?_|refine .then_ret ?_|refine .block_ret ?_|refine .exit ?_|refine .then_exit ?_|refine .block_exit ?_|refine .block_other rfl ?_); try refine .run TBok 99 rfl ?_))
    exact Out.again (v29, j) ⟨rfl, rfl, rfl, rfl, rfl, trivial⟩ ⟨hx9, hS6'', h29', hB1.upd hu9 (by omega), hB2.upd hu9 (by omega), by dsimp only; omega⟩ (Nat.lt_succ_self j)

set_option maxHeartbeats 400000 in
theorem rpow_dn {w : World} {x : Value} {a n : Int} (h : Dn w x a) (hsa : sz a ≤ 5000) (hn : -9223372036854775808 ≤ n ∧ n ≤ 9223372036854775807) : Calls Try.prog 103 #[x, .int .i64 n] w (Ret fun r w' => Ext w w' ∧ PowV w' r a n) := by
  have hD := h
  obtain ⟨na, xs, ⟨p, cap, rfl, hs⟩, hva, hlen⟩ := h
  refine calls_of_St (args := [_, _]) Try.func103 rfl Try.ntmps103 rfl ?_
  (repeat with_reducible first|refine .nil ?_|refine .then_normal ?_|refine .block_normal ?_|refine .seq ?_|refine .block ?_|refine .skip ?_|refine .region ?_|refine .ret ?_|refine .then_ret ?_|refine .block_ret ?_|refine .exit ?_|refine .then_exit ?_|refine .block_exit ?_|refine .block_other rfl ?_)
  refine StL.step rfl rfl rfl (OpR.box rfl) ?_
  rintro _ w1 ⟨rfl, hb1, hx1, hz1⟩
  refine StL.step rfl rfl rfl (OpR.alloc TBok rfl) ?_
  rintro _ w2 ⟨rfl, hb2, hx2, hz2⟩
  have hB1 := hb1.ext hx2
  have hx02 := hx1.trans hx2
  have ha := hD.ext hx02
  have hs1 := hx1.size
  refine .run TBok 99 rfl ?_
  (repeat with_reducible first|refine .nil ?_|refine .then_normal ?_|refine .block_normal ?_|refine .seq ?_|refine .block ?_|refine .skip ?_|refine .region ?_|refine .ret ?_|refine .then_ret ?_|refine .block_ret ?_|refine .exit ?_|refine .then_exit ?_|refine .block_exit ?_|refine .block_other rfl ?_)
  by_cases hneg : n < 0
  · refine StL.as TBok 2 (.bool true) rfl (bool_true (by omega)) ?_
    (iterate 6 ((repeat with_reducible first|refine .nil ?_|refine .then_normal ?_|refine .block_normal ?_|refine .seq ?_|refine .block ?_|refine .skip ?_|refine .region ?_|refine .ret ?_|refine .then_ret ?_|refine .block_ret ?_|refine .exit ?_|refine .then_exit ?_|refine .block_exit ?_|refine .block_other rfl ?_); try refine .run TBok 99 rfl ?_))
    refine St.condT rfl rfl ?_
    (iterate 6 ((repeat with_reducible first|refine .nil ?_|refine .then_normal ?_|refine .block_normal ?_|refine .seq ?_|refine .block ?_|refine .skip ?_|refine .region ?_|refine .ret ?_|refine .then_ret ?_|refine .block_ret ?_|refine .exit ?_|refine .then_exit ?_|refine .block_exit ?_|refine .block_other rfl ?_); try refine .run TBok 99 rfl ?_))
    refine StL.step rfl rfl rfl (RunsTo.build TBok rfl rfl rfl rfl).op ?_
    rintro _ _ ⟨rfl, rfl⟩
    refine StL.step0 rfl rfl (OpR.store TBok (vs := [.bool false, .slice none 0 0]) rfl rfl rfl rfl rfl hb2 (Nat.le_refl _) (by simp [Value.oneCell'])) ?_
    rintro _ w4 ⟨hb4, hu4⟩
    (iterate 6 ((repeat with_reducible first|refine .nil ?_|refine .then_normal ?_|refine .block_normal ?_|refine .seq ?_|refine .block ?_|refine .skip ?_|refine .region ?_|refine .ret ?_|refine .then_ret ?_|refine .block_ret ?_|refine .exit ?_|refine .then_exit ?_|refine .block_exit ?_|refine .block_other rfl ?_); try refine .run TBok 99 rfl ?_))
    refine Out.rets TBok [IntV false (.slice none 0 0), .bool false] rfl ⟨⟨_, _, _, _, rfl, hb4, rfl, rfl, rfl, rfl⟩, rfl, trivial⟩ ⟨hx02.then_upd hu4 hs1, IntV false (.slice none 0 0), ?_, ?_⟩
    · rw [decide_eq_false (by omega)]; rfl
    · unfold pow0; rw [if_neg (by omega)]; exact canO_zero _ _
  refine StL.as TBok 2 (.bool false) rfl (bool_false (by omega)) ?_
  by_cases hbig : 64 < n
  · refine StL.as TBok 3 (.bool true) rfl (bool_true (by omega)) ?_
    (iterate 6 ((repeat with_reducible first|refine .nil ?_|refine .then_normal ?_|refine .block_normal ?_|refine .seq ?_|refine .block ?_|refine .skip ?_|refine .region ?_|refine .ret ?_|refine .then_ret ?_|refine .block_ret ?_|refine .exit ?_|refine .then_exit ?_|refine .block_exit ?_|refine .block_other rfl ?_); try refine .run TBok 99 rfl ?_))
    refine St.condT rfl rfl ?_
    (iterate 6 ((repeat with_reducible first|refine .nil ?_|refine .then_normal ?_|refine .block_normal ?_|refine .seq ?_|refine .block ?_|refine .skip ?_|refine .region ?_|refine .ret ?_|refine .then_ret ?_|refine .block_ret ?_|refine .exit ?_|refine .then_exit ?_|refine .block_exit ?_|refine .block_other rfl ?_); try refine .run TBok 99 rfl ?_))
    refine StL.step rfl rfl rfl (RunsTo.build TBok rfl rfl rfl rfl).op ?_
    rintro _ _ ⟨rfl, rfl⟩
    refine StL.step0 rfl rfl (OpR.store TBok (vs := [.bool false, .slice none 0 0]) rfl rfl rfl rfl rfl hb2 (Nat.le_refl _) (by simp [Value.oneCell'])) ?_
    rintro _ w4 ⟨hb4, hu4⟩
    (iterate 6 ((repeat with_reducible first|refine .nil ?_|refine .then_normal ?_|refine .block_normal ?_|refine .seq ?_|refine .block ?_|refine .skip ?_|refine .region ?_|refine .ret ?_|refine .then_ret ?_|refine .block_ret ?_|refine .exit ?_|refine .then_exit ?_|refine .block_exit ?_|refine .block_other rfl ?_); try refine .run TBok 99 rfl ?_))
    refine Out.rets TBok [IntV false (.slice none 0 0), .bool false] rfl ⟨⟨_, _, _, _, rfl, hb4, rfl, rfl, rfl, rfl⟩, rfl, trivial⟩ ⟨hx02.then_upd hu4 hs1, IntV false (.slice none 0 0), ?_, ?_⟩
    · rw [decide_eq_false (by omega)]; rfl
    · unfold pow0; rw [if_neg (by omega)]; exact canO_zero _ _
  refine StL.as TBok 3 (.bool false) rfl (bool_false (by omega)) ?_
  (iterate 6 ((repeat with_reducible first|refine .nil ?_|refine .then_normal ?_|refine .block_normal ?_|refine .seq ?_|refine .block ?_|refine .skip ?_|refine .region ?_|refine .ret ?_|refine .then_ret ?_|refine .block_ret ?_|refine .exit ?_|refine .then_exit ?_|refine .block_exit ?_|refine .block_other rfl ?_); try refine .run TBok 99 rfl ?_))
  refine St.condF rfl rfl ?_
  obtain ⟨m, rfl⟩ : ∃ m : Nat, n = m := ⟨n.toNat, by omega⟩
  have hm : m ≤ 64 := by omega
  have hp0 : pow0 a (m : Int) = a ^ m := by unfold pow0; rw [if_pos (by omega)]; rfl
  have hmul : ∀ e, e ≤ 64 → sz (a ^ e) ≤ 320001 := fun e he => by
    refine Nat.le_trans (sz_pow a e) ?_
    have := Nat.mul_le_mul he hsa
    omega
  have hsz2 : ∀ k, sz (a ^ (m / 2 ^ k)) ≤ 320001 := fun k => hmul _ (Nat.le_trans (Nat.div_le_self _ _) hm)
  (repeat with_reducible first|refine .nil ?_|refine .then_normal ?_|refine .block_normal ?_|refine .seq ?_|refine .block ?_|refine .skip ?_|refine .region ?_|refine .ret ?_|refine .then_ret ?_|refine .block_ret ?_|refine .exit ?_|refine .then_exit ?_|refine .block_exit ?_|refine .block_other rfl ?_)
  refine StL.step rfl rfl rfl (OpR.call fn_r01_Small rfl (rsmall_spec (base := 0) w2 1 (by decide) (by decide) (Nat.zero_le _))) ?_
  rintro v15 w3 ⟨hx3, h15⟩
  have hB23 : Blk 25 w3 w1.heap.size [.bool false, .slice none 0 0] := hb2.ext hx3
  have hlt2 := hb2.lt
  replace hB1 := hB1.ext hx3
  replace ha := ha.ext hx3
  replace hx02 := hx02.trans hx3
  clear hx3
  refine StL.setNew rfl (fun _ => rfl) h15 hx02 ?_
  intro b6 w4 hg6 hx4 hS6 h15' hx04
  have hl3 : w1.heap.size < w3.heap.size := hB23.lt
  replace hB1 := hB1.ext hx4
  replace hB23 := hB23.ext hx4
  replace ha := ha.ext hx4
  clear hx4
  clear hx02 h15
  (iterate 6 ((repeat with_reducible first|refine .nil ?_|refine .then_normal ?_|refine .block_normal ?_|refine .seq ?_|refine .block ?_|refine .skip ?_|refine .region ?_|refine .ret ?_|refine .then_ret ?_|refine .block_ret ?_|refine .exit ?_|refine .then_exit ?_|refine .block_exit ?_|refine .block_other rfl ?_); try refine .run TBok 99 rfl ?_))
  refine St.loop (fun g : Value × Nat => [(1, .int .i64 m), (2, .pointer (some ⟨w.heap.size, 0, none⟩)), (4, .pointer (some ⟨w1.heap.size, 0, none⟩)), (6, .pointer (some ⟨b6, 0, none⟩)), (7, .int .i64 g.2)])
    (fun g w' => Ext w w' ∧ Blk 25 w' b6 g.1.cells.toList ∧ CanO 0 w' g.1 (a ^ g.2) ∧ Blk 25 w' w.heap.size [.bool na, .slice p xs.length cap] ∧ Blk 25 w' w1.heap.size [.bool false, .slice none 0 0] ∧ g.2 ≤ m)
    (fun g => m - g.2) (v15, 0) ⟨rfl, rfl, rfl, rfl, rfl, trivial⟩ ⟨hx04, hS6, by dsimp only; rw [Int.pow_zero]; exact h15', hB1, hB23, Nat.zero_le _⟩ ?_
  clear hx04 hS6 h15' hB1 hB23 ha
  rintro ⟨v6, k⟩ w5 ⟨hx5, hS6, h6, hB1, hB2, hk⟩
  dsimp only at hx5 hS6 h6 hB1 hB2 hk ⊢
  have hlt1 := hB1.lt
  by_cases hkm : k < m
  · have hA5 : Dn w5 (IntV na (.slice p xs.length cap)) a := hD.ext hx5
    have hs6 := hmul k (by omega)
    (repeat with_reducible first|refine .nil ?_|refine .then_normal ?_|refine .block_normal ?_|refine .seq ?_|refine .block ?_|refine .skip ?_|refine .region ?_|refine .ret ?_|refine .then_ret ?_|refine .block_ret ?_|refine .exit ?_|refine .then_exit ?_|refine .block_exit ?_|refine .block_other rfl ?_)
    refine StL.as TBok 3 (.bool true) rfl (bool_true (by omega)) ?_
    (repeat with_reducible first|refine .nil ?_|refine .then_normal ?_|refine .block_normal ?_|refine .seq ?_|refine .block ?_|refine .skip ?_|refine .region ?_|refine .ret ?_|refine .then_ret ?_|refine .block_ret ?_|refine .exit ?_|refine .then_exit ?_|refine .block_exit ?_|refine .block_other rfl ?_)
    refine St.condT rfl rfl ?_
    (iterate 6 ((repeat with_reducible first|refine .nil ?_|refine .then_normal ?_|refine .block_normal ?_|refine .seq ?_|refine .block ?_|refine .skip ?_|refine .region ?_|refine .ret ?_|refine .then_ret ?_|refine .block_ret ?_|refine .exit ?_|refine .then_exit ?_|refine .block_exit ?_|refine .block_other rfl ?_); try refine .run TBok 99 rfl ?_))
    refine StL.step rfl rfl rfl (RunsTo.loadCan rfl hS6 h6).op ?_
    rintro _ _ ⟨rfl, rfl⟩
    refine StL.step rfl rfl rfl (RunsTo.loadInt rfl hB1 rfl rfl).op ?_
    rintro _ _ ⟨rfl, rfl⟩
    refine StL.step rfl rfl rfl (OpR.call fn_r01_Mul rfl (rmul_dn (base := 0) (h6.dn (by omega)) hA5 (Nat.zero_le _))) ?_
    rintro v22 w6 ⟨hx6, h22⟩
    rw [← Int.pow_succ] at h22
    replace hS6 := hS6.ext hx6
    replace hB1 := hB1.ext hx6
    replace hB2 := hB2.ext hx6
    replace hx5 := hx5.trans hx6
    clear hx6
    refine StL.setCan rfl rfl hS6 h6.two.1 h22 hx5 (by omega) ?_
    intro w7 hS6' hu7 h22' hx7
    (iterate 6 ((repeat with_reducible first|refine .nil ?_|refine .then_normal ?_|refine .block_normal ?_|refine .seq ?_|refine .block ?_|refine .skip ?_|refine .region ?_|refine .ret ?_|refine .then_ret ?_|refine .block_ret ?_|refine .exit ?_|refine .then_exit ?_|refine .block_exit ?_|refine .block_other rfl ?_); try refine .run TBok 99 rfl ?_))
    refine Out.again (v22, k + 1) ⟨rfl, rfl, rfl, rfl, ?_, trivial⟩ ⟨hx7, hS6', h22', hB1.upd hu7 (by omega), hB2.upd hu7 (by omega), by dsimp only; omega⟩ (by dsimp only; omega)
    show some (Value.int .i64 (IntKind.i64.wrap ((k : Int) + 1))) = _
    rw [i64_id (by omega) (by omega)]; rfl
  · have hk' : k = m := by omega
    subst hk'
    (repeat with_reducible first|refine .nil ?_|refine .then_normal ?_|refine .block_normal ?_|refine .seq ?_|refine .block ?_|refine .skip ?_|refine .region ?_|refine .ret ?_|refine .then_ret ?_|refine .block_ret ?_|refine .exit ?_|refine .then_exit ?_|refine .block_exit ?_|refine .block_other rfl ?_)
    refine StL.as TBok 3 (.bool false) rfl (bool_false (by omega)) ?_
    (repeat with_reducible first|refine .nil ?_|refine .then_normal ?_|refine .block_normal ?_|refine .seq ?_|refine .block ?_|refine .skip ?_|refine .region ?_|refine .ret ?_|refine .then_ret ?_|refine .block_ret ?_|refine .exit ?_|refine .then_exit ?_|refine .block_exit ?_|refine .block_other rfl ?_)
    refine St.condF rfl rfl ?_
    (iterate 6 ((repeat with_reducible first|refine .nil ?_|refine .then_normal ?_|refine .block_normal ?_|refine .seq ?_|refine .block ?_|refine .skip ?_|refine .region ?_|refine .ret ?_|refine .then_ret ?_|refine .block_ret ?_|refine .exit ?_|refine .then_exit ?_|refine .block_exit ?_|refine .block_other rfl ?_); try refine .run TBok 99 rfl ?_))
    refine StL.step rfl rfl rfl (RunsTo.loadCan rfl hS6 h6).op ?_
    rintro _ _ ⟨rfl, rfl⟩
    refine StL.setCan rfl rfl hB2 rfl h6 hx5 hs1 ?_
    intro w6 hb6 hu6 h6' hx6
    (iterate 6 ((repeat with_reducible first|refine .nil ?_|refine .then_normal ?_|refine .block_normal ?_|refine .seq ?_|refine .block ?_|refine .skip ?_|refine .region ?_|refine .ret ?_|refine .then_ret ?_|refine .block_ret ?_|refine .exit ?_|refine .then_exit ?_|refine .block_exit ?_|refine .block_other rfl ?_); try refine .run TBok 99 rfl ?_))
    refine Out.rets TBok [v6, .bool true] rfl ⟨⟨_, _, _, _, rfl, hb6, rfl, rfl, h6'.two.1, by simpa using h6'.agg⟩, rfl, trivial⟩ ⟨hx6, v6, ?_, ?_⟩
    · rw [decide_eq_true (by omega)]; rfl
    · rw [hp0]; exact h6'

end Go.Qf

/- rational.Pow. -/
namespace Go.Qf
open Go Go.RowKit Go.Proofs
set_option maxRecDepth 20000

/-- What Pow returns: 0/0 and false, or the power and true. -/
def powOk (q : Rat) (n : Int) : Bool := decide (-64 ≤ n ∧ n ≤ 64 ∧ ¬ (n < 0 ∧ q = 0))
def powR (q : Rat) (n : Int) : Rat := if n < 0 then (q⁻¹) ^ (-n).toNat else q ^ n.toNat
def PowRV (w : World) (r : Value) (q : Rat) (n : Int) : Prop := ∃ v, r = .tuple #[v, .bool (powOk q n)] ∧ R4 v ∧ (powOk q n = false → v = zR) ∧ (powOk q n = true → CanR 0 w v (powR q n))

theorem powOk_no {q : Rat} {n : Int} (h : n < -64 ∨ 64 < n ∨ n < 0 ∧ q = 0) : powOk q n = false := by
  refine decide_eq_false ?_
  rintro ⟨h1, h2, h3⟩
  rcases h with h | h | h
  · omega
  · omega
  · exact h3 h
theorem powOk_yes {q : Rat} {n : Int} (h1 : -64 ≤ n) (h2 : n ≤ 64) (h3 : ¬ (n < 0 ∧ q = 0)) : powOk q n = true := decide_eq_true ⟨h1, h2, h3⟩
theorem pow0_eq {a n : Int} (h0 : 0 ≤ n) (h1 : n ≤ 64) : pow0 a n = a ^ n.toNat := if_pos ⟨h0, h1⟩
theorem PowV.open {w : World} {r : Value} {a n : Int} (h : PowV w r a n) (h0 : 0 ≤ n) (h1 : n ≤ 64) : ∃ v, r = .tuple #[v, .bool true] ∧ CanO 0 w v (a ^ n.toNat) := by
  obtain ⟨v, e, hv⟩ := h
  rw [pow0_eq h0 h1] at hv
  rw [decide_eq_true ⟨h0, h1⟩] at e
  exact ⟨v, e, hv⟩
theorem sz_pow64 {a n : Int} (h1 : n ≤ 64) (ha : sz a ≤ 1000) : sz (a ^ n.toNat) ≤ 64001 := by
  have h := sz_pow a n.toNat
  have : n.toNat * sz a ≤ 64 * 1000 := Nat.mul_le_mul (by omega) ha
  omega

set_option maxHeartbeats 3200000 in
theorem powR_spec {w : World} {x : Value} {q : Rat} {n : Int} (h : DnR w x q) (hq : rz q ≤ 1000) (hn : -9223372036854775808 ≤ n ∧ n ≤ 9223372036854775807) :
    Calls Try.prog 60 #[x, .int .i64 n] w (Ret fun r w' => Ext w w' ∧ PowRV w' r q n) := by
  have hzn := rz_num q
  have hzd := rz_den q
  refine calls_of_St (args := [_, _]) Try.func60 rfl Try.ntmps60 rfl ?_
  (repeat with_reducible first|refine .nil ?_|refine .then_normal ?_|refine .block_normal ?_|refine .seq ?_|refine .block ?_|refine .skip ?_|refine .region ?_|refine .ret ?_|refine .then_ret ?_|refine .block_ret ?_|refine .exit ?_|refine .then_exit ?_|refine .block_exit ?_|refine .block_other rfl ?_)
  refine StL.step rfl rfl rfl (OpR.box rfl) ?_
  rintro _ w1 ⟨rfl, B1, hx1, hz1⟩
  refine StL.step rfl rfl rfl (OpR.alloc TBok rfl) ?_
  rintro _ w2 ⟨rfl, B4, hx2, hz2⟩
  have hx0 : Ext w w2 := hx1.trans hx2
  replace B1 := B1.ext hx2
  replace h := h.ext hx0
  clear hx1 hx2
  (iterate 6 ((repeat with_reducible first|refine .nil ?_|refine .then_normal ?_|refine .block_normal ?_|refine .seq ?_|refine .block ?_|refine .skip ?_|refine .region ?_|refine .ret ?_|refine .then_ret ?_|refine .block_ret ?_|refine .exit ?_|refine .then_exit ?_|refine .block_exit ?_|refine .block_other rfl ?_); try refine .run TBok 99 rfl ?_))
  refine StL.step rfl rfl rfl (RunsTo.loadR rfl rfl (B1) (h.1)).op ?_
  rintro _ _ ⟨rfl, rfl⟩
  refine StL.step rfl rfl rfl (OpR.call fn_rational_canonical rfl (canonical_spec (base := 0) h (Nat.zero_le _))) ?_
  rintro v w3 ⟨hx3, hv⟩
  replace B4 := B4.ext hx3
  replace hx0 := hx0.trans hx3
  clear hx3
  refine StL.newR rfl rfl (fun _ => rfl) hv.1 ?_
  intro b6 w4 hl6 hx4 B6
  replace B4 := B4.ext hx4
  replace hv := hv.ext hx4
  replace hx0 := hx0.trans hx4
  clear hx4
  refine StL.nil (Out.then_normal ?_)
  (repeat with_reducible refine .seq ?_)
  refine St.cutX (fun _ : Unit => [(1, .int .i64 n), (4, .pointer (some ⟨w1.heap.size, 0, none⟩)), (6, .pointer (some ⟨b6, 0, none⟩)), (25, .bool (!powOk q n))]) (fun _ w' => Ext w4 w') ?_ ?_
  · (repeat with_reducible first|refine .nil ?_|refine .then_normal ?_|refine .block_normal ?_|refine .seq ?_|refine .block ?_|refine .skip ?_|refine .region ?_|refine .ret ?_|refine .then_ret ?_|refine .block_ret ?_|refine .exit ?_|refine .then_exit ?_|refine .block_exit ?_|refine .block_other rfl ?_)
    by_cases c1 : n < -64
    · have hk := powOk_no (q := q) (n := n) (.inl c1)
      refine StL.as TBok 2 (.bool true) rfl (bool_true c1) ?_
      refine .run TBok 99 rfl ?_
      (iterate 3 refine StL.skipU rfl rfl rfl rfl rfl ?_)
      refine .run TBok 99 rfl ?_
      exact StL.nil (Out.met () ⟨rfl, rfl, rfl, by rw [hk]; rfl, trivial⟩ (Ext.refl _))
    refine StL.as TBok 2 (.bool false) rfl (bool_false c1) ?_
    by_cases c2 : 64 < n
    · have hk := powOk_no (q := q) (n := n) (.inr (.inl c2))
      refine StL.as TBok 3 (.bool true) rfl (bool_true c2) ?_
      refine .run TBok 99 rfl ?_
      (iterate 3 refine StL.skipU rfl rfl rfl rfl rfl ?_)
      refine .run TBok 99 rfl ?_
      exact StL.nil (Out.met () ⟨rfl, rfl, rfl, by rw [hk]; rfl, trivial⟩ (Ext.refl _))
    refine StL.as TBok 3 (.bool false) rfl (bool_false c2) ?_
    by_cases c3 : n < 0
    · refine StL.as TBok 4 (.bool true) rfl (bool_true c3) ?_
      refine .run TBok 99 rfl ?_
      refine StL.step rfl rfl rfl (RunsTo.loadR rfl rfl (B6) (hv.1)).op ?_
      rintro _ _ ⟨rfl, rfl⟩
      refine StL.step rfl rfl rfl (OpR.call fn_rational_fraction_sign rfl (fsign_spec hv (by omega))) ?_
      rintro _ w5 ⟨hx5, rfl⟩
      by_cases c4 : q = 0
      · have hk := powOk_no (q := q) (n := n) (.inr (.inr ⟨c3, c4⟩))
        refine StL.as TBok 1 (.bool true) rfl (bool_true (by rw [signI_eq0, num_eq0]; exact c4)) ?_
        refine .run TBok 99 rfl ?_
        exact StL.nil (Out.met () ⟨rfl, rfl, rfl, by rw [hk]; rfl, trivial⟩ hx5)
      · have hk := powOk_yes (q := q) (n := n) (by omega) (by omega) (fun e => c4 e.2)
        refine StL.as TBok 1 (.bool false) rfl (bool_false (by rw [signI_eq0, num_eq0]; exact c4)) ?_
        refine .run TBok 99 rfl ?_
        exact StL.nil (Out.met () ⟨rfl, rfl, rfl, by rw [hk]; rfl, trivial⟩ hx5)
    · have hk := powOk_yes (q := q) (n := n) (by omega) (by omega) (fun e => c3 e.1)
      refine StL.as TBok 4 (.bool false) rfl (bool_false c3) ?_
      refine .run TBok 99 rfl ?_
      exact StL.nil (Out.met () ⟨rfl, rfl, rfl, by rw [hk]; rfl, trivial⟩ (Ext.refl _))
  rintro _ w5 hx5
  replace B4 := B4.ext hx5
  replace B6 := B6.ext hx5
  replace hv := hv.ext hx5
  replace hx0 := hx0.trans hx5
  clear hx5
  by_cases hkk : powOk q n = false
  · rw [hkk]
    (iterate 6 ((repeat with_reducible first|refine .nil ?_|refine .then_normal ?_|refine .block_normal ?_|refine .seq ?_|refine .block ?_|refine .skip ?_|refine .region ?_|refine .ret ?_|refine .then_ret ?_|refine .block_ret ?_|refine .exit ?_|refine .then_exit ?_|refine .block_exit ?_|refine .block_other rfl ?_); try refine .run TBok 99 rfl ?_))
    refine St.condT rfl rfl ?_
    (iterate 6 ((repeat with_reducible first|refine .nil ?_|refine .then_normal ?_|refine .block_normal ?_|refine .seq ?_|refine .block ?_|refine .skip ?_|refine .region ?_|refine .ret ?_|refine .then_ret ?_|refine .block_ret ?_|refine .exit ?_|refine .then_exit ?_|refine .block_exit ?_|refine .block_other rfl ?_); try refine .run TBok 99 rfl ?_))
    refine StL.step rfl rfl rfl (RunsTo.build TBok rfl rfl rfl rfl).op ?_
    rintro _ _ ⟨rfl, rfl⟩
    refine StL.setR (v := zR) rfl rfl rfl zR_R4 B4 rfl hx0 (by omega) ?_
    intro w6 B5 hu5 hx5
    (iterate 6 ((repeat with_reducible first|refine .nil ?_|refine .then_normal ?_|refine .block_normal ?_|refine .seq ?_|refine .block ?_|refine .skip ?_|refine .region ?_|refine .ret ?_|refine .then_ret ?_|refine .block_ret ?_|refine .exit ?_|refine .then_exit ?_|refine .block_exit ?_|refine .block_other rfl ?_); try refine .run TBok 99 rfl ?_))
    exact Out.retRT rfl rfl rfl B5 zR_R4 ⟨hx5, zR, by rw [hkk], zR_R4, fun _ => rfl, fun e => by rw [hkk] at e; cases e⟩
  have hk : powOk q n = true := by simpa using hkk
  rw [hk]
  have hk2 := of_decide_eq_true hk
  (iterate 6 ((repeat with_reducible first|refine .nil ?_|refine .then_normal ?_|refine .block_normal ?_|refine .seq ?_|refine .block ?_|refine .skip ?_|refine .region ?_|refine .ret ?_|refine .then_ret ?_|refine .block_ret ?_|refine .exit ?_|refine .then_exit ?_|refine .block_exit ?_|refine .block_other rfl ?_); try refine .run TBok 99 rfl ?_))
  refine St.condF rfl rfl ?_
  (repeat with_reducible first|refine .nil ?_|refine .then_normal ?_|refine .block_normal ?_|refine .seq ?_|refine .block ?_|refine .skip ?_|refine .region ?_|refine .ret ?_|refine .then_ret ?_|refine .block_ret ?_|refine .exit ?_|refine .then_exit ?_|refine .block_exit ?_|refine .block_other rfl ?_)
  refine St.sub (E' := [(1, .int .i64 n), (4, .pointer (some ⟨w1.heap.size, 0, none⟩)), (6, .pointer (some ⟨b6, 0, none⟩))]) ?_ ⟨rfl, rfl, rfl, trivial⟩
  refine St.flow 7 TBfol (by kernel_rfl) rfl (by kernel_rfl) rfl True.intro ?_
  refine FL.run TBok 99 rfl ?_
  refine FL.one (L := []) rfl rfl rfl rfl rfl (fun _ hR => RunsTo.loadN rfl (hR.blk (B6) (by simp)) (hv.1)) ?_
  refine FL.run TBok 99 rfl ?_
  refine FL.one (L := []) rfl rfl rfl rfl rfl (fun _ hR => RunsTo.loadD rfl (hR.blk (B6) (by simp)) (hv.1)) ?_
  refine FL.alloc TBok rfl rfl rfl rfl ?_
  refine FL.alloc TBok rfl rfl rfl rfl ?_
  refine FL.storeN (L := []) (base := w5.heap.size) TBok rfl rfl rfl rfl rfl (MonoR.canO 0 q.num) ?_ ?_
  · intro w6 hR v7 h7
    exact ⟨⟨v7, rfl, h7⟩, nm v, rfl, hv.2.1.two.1, hv.2.1.two.2, hv.2.1.rg hR⟩
  refine FL.endE rfl ?_
  rintro w6 hx6 _ ⟨b8, C8, rfl, hg8, B8, hl8⟩ _ ⟨b7, C7, rfl, hg7, _, _⟩ ⟨⟨b7', u7, hbu, B7, hu7⟩, _⟩ hdist
  cases hbu
  have hne : b7 ≠ b8 := fun e => hdist 7 (by decide) 8 (by decide) (by decide) _ rfl (by rw [e]; rfl)
  have hv6 := hv.ext hx6
  refine StL.setCan rfl rfl B8 hl8 hv6.2.2 hx6 hg8 ?_
  intro w7 B8' hu8 hd8 hx7
  replace B7 := B7.upd hu8 hne
  replace hu7 := hu7.updT hu8 B8 (by decide)
  have hl4 := B4.lt
  have hx7' := hx7
  have B45 := B4
  have hx05 := hx0
  clear hdist hu8 B8 hx6 hv6 hx7
  refine .run TBok 99 rfl ?_
  (repeat with_reducible first|refine .nil ?_|refine .then_normal ?_|refine .block_normal ?_|refine .seq ?_|refine .block ?_|refine .skip ?_|refine .region ?_|refine .ret ?_|refine .then_ret ?_|refine .block_ret ?_|refine .exit ?_|refine .then_exit ?_|refine .block_exit ?_|refine .block_other rfl ?_)
  refine .run TBok 99 rfl ?_
  refine StL.nil (Out.then_normal (St.cutX (fun g : (Value × Value) × Int × Int × Int => [(1, .int .i64 g.2.2.2), (4, .pointer (some ⟨w1.heap.size, 0, none⟩)), (7, .pointer (some ⟨b7, 0, none⟩)), (8, .pointer (some ⟨b8, 0, none⟩))])
    (fun g w' => Ext w5 w' ∧ Blk 25 w' b7 g.1.1.cells.toList ∧ Blk 25 w' b8 g.1.2.cells.toList ∧ CanO 0 w' g.1.1 g.2.1 ∧ CanO 0 w' g.1.2 g.2.2.1 ∧ g.2.2.1 ≠ 0 ∧ sz g.2.1 ≤ 1000 ∧ sz g.2.2.1 ≤ 1000 ∧ 0 ≤ g.2.2.2 ∧ g.2.2.2 ≤ 64 ∧ Rat.divInt (g.2.1 ^ g.2.2.2.toNat) (g.2.2.1 ^ g.2.2.2.toNat) = powR q n) ?_ ?_))
  · by_cases c3 : n < 0
    · refine St.condT rfl (decide_eq_true c3) ?_
      have hq0 : q ≠ 0 := fun e => hk2.2.2 ⟨c3, e⟩
      have hn0 : q.num ≠ 0 := fun e => hq0 ((num_eq0 q).1 e)
      have hpow : Rat.divInt ((q.den : Int) ^ (-n).toNat) (q.num ^ (-n).toNat) = powR q n := by
        unfold powR
        rw [if_pos c3, pow_divInt']
      (repeat with_reducible first|refine .nil ?_|refine .then_normal ?_|refine .block_normal ?_|refine .seq ?_|refine .block ?_|refine .skip ?_|refine .region ?_|refine .ret ?_|refine .then_ret ?_|refine .block_ret ?_|refine .exit ?_|refine .then_exit ?_|refine .block_exit ?_|refine .block_other rfl ?_)
      refine St.sub (E' := [(1, .int .i64 n), (4, .pointer (some ⟨w1.heap.size, 0, none⟩)), (7, .pointer (some ⟨b7, 0, none⟩)), (8, .pointer (some ⟨b8, 0, none⟩))]) ?_ ⟨rfl, rfl, rfl, rfl, trivial⟩
      refine St.any TBfol rfl ?_
      intro w8 hx8 _ _
      replace B7 := B7.ext hx8
      replace B8' := B8'.ext hx8
      replace hu7 := hu7.ext hx8
      replace hd8 := hd8.ext hx8
      replace hx7' := hx7'.trans hx8
      clear hx8
      refine WA.takes (fuel := 5) TBok (by kernel_rfl) (fun _ _ _ _ _ h => h) [0, 1] (by kernel_rfl) rfl ?_
      refine WA.two (i := 2) (j := 3) (by kernel_rfl) ?_ ?_
      · refine WOp.val rfl rfl rfl rfl (RunsTo.loadI2 rfl B8' hd8.r2).op ?_
        rintro _ _ ⟨rfl, rfl⟩
        refine WA.one (i := 3) (by kernel_rfl) (WOp.val rfl rfl rfl rfl (RunsTo.loadI2 rfl B7 hu7.r2).op ?_)
        rintro _ _ ⟨rfl, rfl⟩
        refine WA.one (i := 4) (by kernel_rfl) (WOp.val rfl rfl rfl rfl (RunsTo.pure TBok rfl).op ?_)
        rintro _ _ ⟨rfl, rfl⟩
        refine WA.one (i := 5) (by kernel_rfl) (WOp.eff rfl rfl rfl (OpR.storeAll TBok rfl rfl rfl rfl hd8.two.1 hu7.two.1 hd8.two.2 B7) ?_)
        rintro _ w9 ⟨B7', hu9, _⟩
        have B8'' := B8'.upd hu9 (fun e => hne e.symm)
        have hd9 := hd8.updT hu9 B7 (by decide)
        have hu9' := hu7.updT hu9 B7 (by decide)
        have hx9 := hx7'.then_upd hu9 hg7
        refine WA.one (i := 6) (by kernel_rfl) (WOp.eff rfl rfl rfl (OpR.storeAll TBok rfl rfl rfl rfl hu7.two.1 hd8.two.1 hu7.two.2 B8'') ?_)
        rintro _ w10 ⟨B8f, hu10, _⟩
        have B7f := B7'.upd hu10 hne
        have hx10 := hx9.then_upd hu10 hg8
        refine WA.done (by kernel_rfl) ?_
        refine Out.met ((dm v, u7), (q.den : Int), q.num, -n) ⟨?_, rfl, rfl, rfl, trivial⟩ ⟨hx10, B7f, B8f, hd9.updT hu10 B8'' (by decide), hu9'.updT hu10 B8'' (by decide), hn0, by dsimp only; omega, by dsimp only; omega, by dsimp only; omega, by dsimp only; omega, hpow⟩
        show some (Value.int .i64 (IntKind.i64.wrap (0 - n))) = some (Value.int .i64 (-n))
        rw [i64_id (by omega) (by omega), Int.zero_sub]
      · refine WOp.val rfl rfl rfl rfl (RunsTo.loadI2 rfl B7 hu7.r2).op ?_
        rintro _ _ ⟨rfl, rfl⟩
        refine WA.two (i := 2) (j := 4) (by kernel_rfl) ?_ ?_
        · refine WOp.val rfl rfl rfl rfl (RunsTo.loadI2 rfl B8' hd8.r2).op ?_
          rintro _ _ ⟨rfl, rfl⟩
          refine WA.one (i := 4) (by kernel_rfl) (WOp.val rfl rfl rfl rfl (RunsTo.pure TBok rfl).op ?_)
          rintro _ _ ⟨rfl, rfl⟩
          refine WA.one (i := 5) (by kernel_rfl) (WOp.eff rfl rfl rfl (OpR.storeAll TBok rfl rfl rfl rfl hd8.two.1 hu7.two.1 hd8.two.2 B7) ?_)
          rintro _ w9 ⟨B7', hu9, _⟩
          have B8'' := B8'.upd hu9 (fun e => hne e.symm)
          have hd9 := hd8.updT hu9 B7 (by decide)
          have hu9' := hu7.updT hu9 B7 (by decide)
          have hx9 := hx7'.then_upd hu9 hg7
          refine WA.one (i := 6) (by kernel_rfl) (WOp.eff rfl rfl rfl (OpR.storeAll TBok rfl rfl rfl rfl hu7.two.1 hd8.two.1 hu7.two.2 B8'') ?_)
          rintro _ w10 ⟨B8f, hu10, _⟩
          have B7f := B7'.upd hu10 hne
          have hx10 := hx9.then_upd hu10 hg8
          refine WA.done (by kernel_rfl) ?_
          refine Out.met ((dm v, u7), (q.den : Int), q.num, -n) ⟨?_, rfl, rfl, rfl, trivial⟩ ⟨hx10, B7f, B8f, hd9.updT hu10 B8'' (by decide), hu9'.updT hu10 B8'' (by decide), hn0, by dsimp only; omega, by dsimp only; omega, by dsimp only; omega, by dsimp only; omega, hpow⟩
          show some (Value.int .i64 (IntKind.i64.wrap (0 - n))) = some (Value.int .i64 (-n))
          rw [i64_id (by omega) (by omega), Int.zero_sub]
        · refine WOp.val rfl rfl rfl rfl (RunsTo.pure TBok rfl).op ?_
          rintro _ _ ⟨rfl, rfl⟩
          refine WA.one (i := 2) (by kernel_rfl) (WOp.val rfl rfl rfl rfl (RunsTo.loadI2 rfl B8' hd8.r2).op ?_)
          rintro _ _ ⟨rfl, rfl⟩
          refine WA.one (i := 5) (by kernel_rfl) (WOp.eff rfl rfl rfl (OpR.storeAll TBok rfl rfl rfl rfl hd8.two.1 hu7.two.1 hd8.two.2 B7) ?_)
          rintro _ w9 ⟨B7', hu9, _⟩
          have B8'' := B8'.upd hu9 (fun e => hne e.symm)
          have hd9 := hd8.updT hu9 B7 (by decide)
          have hu9' := hu7.updT hu9 B7 (by decide)
          have hx9 := hx7'.then_upd hu9 hg7
          refine WA.one (i := 6) (by kernel_rfl) (WOp.eff rfl rfl rfl (OpR.storeAll TBok rfl rfl rfl rfl hu7.two.1 hd8.two.1 hu7.two.2 B8'') ?_)
          rintro _ w10 ⟨B8f, hu10, _⟩
          have B7f := B7'.upd hu10 hne
          have hx10 := hx9.then_upd hu10 hg8
          refine WA.done (by kernel_rfl) ?_
          refine Out.met ((dm v, u7), (q.den : Int), q.num, -n) ⟨?_, rfl, rfl, rfl, trivial⟩ ⟨hx10, B7f, B8f, hd9.updT hu10 B8'' (by decide), hu9'.updT hu10 B8'' (by decide), hn0, by dsimp only; omega, by dsimp only; omega, by dsimp only; omega, by dsimp only; omega, hpow⟩
          show some (Value.int .i64 (IntKind.i64.wrap (0 - n))) = some (Value.int .i64 (-n))
          rw [i64_id (by omega) (by omega), Int.zero_sub]
    · refine St.condF rfl (decide_eq_false c3) (St.skip (Out.met ((u7, dm v), q.num, (q.den : Int), n) ⟨rfl, rfl, rfl, rfl, trivial⟩ ⟨hx7', B7, B8', hu7, hd8, den_ne q, by dsimp only; omega, by dsimp only; omega, by dsimp only; omega, by dsimp only; omega, ?_⟩))
      unfold powR
      rw [if_neg c3, ← pow_divInt]
  · rintro ⟨⟨u, t⟩, A, B, m⟩ w8 ⟨hx8, B7, B8, hu, ht, hB0, hsA, hsB, hm0, hm1, heq⟩
    dsimp only at B7 B8 hu ht hB0 hsA hsB hm0 hm1 heq ⊢
    have hl7 := B7.lt
    have hl8' := B8.lt
    have hpA := sz_pow64 (a := A) hm1 hsA
    have hpB := sz_pow64 (a := B) hm1 hsB
    replace B4 := B45.ext hx8
    replace hx0 := hx05.trans hx8
    have hx58 := hx8
    (iterate 6 ((repeat with_reducible first|refine .nil ?_|refine .then_normal ?_|refine .block_normal ?_|refine .seq ?_|refine .block ?_|refine .skip ?_|refine .region ?_|refine .ret ?_|refine .then_ret ?_|refine .block_ret ?_|refine .exit ?_|refine .then_exit ?_|refine .block_exit ?_|refine .block_other rfl ?_); try refine .run TBok 99 rfl ?_))
    refine StL.step rfl rfl rfl (RunsTo.loadI2 rfl (B7) (hu.r2)).op ?_
    rintro _ _ ⟨rfl, rfl⟩
    refine .run TBok 99 rfl ?_
    refine StL.step rfl rfl rfl (OpR.call fn_integer_Pow rfl (pow_dn (hu.dn (by omega)) (by omega) ⟨by omega, by omega⟩)) ?_
    rintro _ w9 ⟨hx9, hr9⟩
    obtain ⟨t41, rfl, h41⟩ := hr9.open hm0 hm1
    replace B4 := B4.ext hx9
    replace B7 := B7.ext hx9
    replace B8 := B8.ext hx9
    replace hu := hu.ext hx9
    replace ht := ht.ext hx9
    replace hx0 := hx0.trans hx9
    replace hx58 := hx58.trans hx9
    clear hx9
    refine .run TBok 99 rfl ?_
    refine StL.setCan rfl rfl B7 hu.two.1 h41 hx58 hg7 ?_
    intro w10 B7' hu10 h41' hx10
    replace B8 := B8.upd hu10 (fun e => hne e.symm)
    replace ht := ht.updT hu10 B7 (by decide)
    replace B4 := B45.ext hx10
    clear hx0 hx58
    (iterate 6 ((repeat with_reducible first|refine .nil ?_|refine .then_normal ?_|refine .block_normal ?_|refine .seq ?_|refine .block ?_|refine .skip ?_|refine .region ?_|refine .ret ?_|refine .then_ret ?_|refine .block_ret ?_|refine .exit ?_|refine .then_exit ?_|refine .block_exit ?_|refine .block_other rfl ?_); try refine .run TBok 99 rfl ?_))
    refine StL.step rfl rfl rfl (RunsTo.loadI2 rfl (B8) (ht.r2)).op ?_
    rintro _ _ ⟨rfl, rfl⟩
    refine .run TBok 99 rfl ?_
    refine StL.step rfl rfl rfl (OpR.call fn_integer_Pow rfl (pow_dn (ht.dn (by omega)) (by omega) ⟨by omega, by omega⟩)) ?_
    rintro _ w11 ⟨hx11, hr11⟩
    obtain ⟨t47, rfl, h47⟩ := hr11.open hm0 hm1
    replace B7' := B7'.ext hx11
    replace B8 := B8.ext hx11
    replace h41' := h41'.ext hx11
    replace hx10 := hx10.trans hx11
    clear hx11
    refine .run TBok 99 rfl ?_
    refine StL.setCan rfl rfl B8 ht.two.1 h47 hx10 hg8 ?_
    intro w12 B8' hu12 h47' hx12
    replace B7' := B7'.upd hu12 hne
    replace h41' := h41'.updT hu12 B8 (by decide)
    (iterate 6 ((repeat with_reducible first|refine .nil ?_|refine .then_normal ?_|refine .block_normal ?_|refine .seq ?_|refine .block ?_|refine .skip ?_|refine .region ?_|refine .ret ?_|refine .then_ret ?_|refine .block_ret ?_|refine .exit ?_|refine .then_exit ?_|refine .block_exit ?_|refine .block_other rfl ?_); try refine .run TBok 99 rfl ?_))
    refine StL.step rfl rfl rfl (RunsTo.loadI2 rfl (B7') (h41'.r2)).op ?_
    rintro _ _ ⟨rfl, rfl⟩
    refine StL.step rfl rfl rfl (RunsTo.loadI2 rfl (B8') (h47'.r2)).op ?_
    rintro _ _ ⟨rfl, rfl⟩
    refine StL.step rfl rfl rfl (OpR.call fn_rational_lowest rfl (lowest_spec (base := 0) (h41'.dn (by omega)) (h47'.dn (by omega)) (Int.pow_ne_zero hB0) (Nat.zero_le _))) ?_
    rintro r w13 ⟨hx13, hr⟩
    rw [heq] at hr
    have hx513 := hx12.trans hx13
    have B4' := B45.ext hx513
    refine StL.setR rfl rfl rfl hr.1 B4' rfl (hx05.trans hx513) (by omega) ?_
    intro w14 B14 hu14 hx14
    (iterate 6 ((repeat with_reducible first|refine .nil ?_|refine .then_normal ?_|refine .block_normal ?_|refine .seq ?_|refine .block ?_|refine .skip ?_|refine .region ?_|refine .ret ?_|refine .then_ret ?_|refine .block_ret ?_|refine .exit ?_|refine .then_exit ?_|refine .block_exit ?_|refine .block_other rfl ?_); try refine .run TBok 99 rfl ?_))
    exact Out.retRT rfl rfl rfl B14 hr.1 ⟨hx14, r, by rw [hk], hr.1, fun e => (by rw [hk] at e; cases e), fun _ => hr.upd hu14 B4' (by decide)⟩

end Go.Qf

/- The laws RationalMultiplies, RationalAdds, RationalCompares, RationalDivides, RationalFloors, RationalFormats: the walks. -/
namespace Go.Qf
open Go Go.RowKit Go.Proofs
set_option maxRecDepth 20000

set_option maxHeartbeats 800000 in
theorem lawMulR (w : World) (v : Value) (h : InR w v) (u : Value) (k : InR w u) : Calls Try.prog 14 #[v, u] w (Ret fun r w' => Ext w w' ∧ r = .bool true) := by
  refine calls_of_St (args := [_, _]) Try.func14 rfl Try.ntmps14 rfl ?_
  (repeat with_reducible first|refine .nil ?_|refine .then_normal ?_|refine .block_normal ?_|refine .seq ?_|refine .block ?_|refine .skip ?_|refine .region ?_|refine .ret ?_|refine .then_ret ?_|refine .block_ret ?_|refine .exit ?_|refine .then_exit ?_|refine .block_exit ?_|refine .block_other rfl ?_)
  refine StL.step rfl rfl rfl (OpR.box rfl) ?_
  rintro _ w1 ⟨rfl, B1, hx1, hz1⟩
  refine StL.step rfl rfl rfl (OpR.box rfl) ?_
  rintro _ w2 ⟨rfl, B2, hx2, hz2⟩
  have hx0 : Ext w w2 := (hx1.trans hx2)
  replace B1 := (B1.ext hx2)
  replace h := h.ext hx0
  replace k := k.ext hx0
  clear hx1 hx2
  (iterate 6 ((repeat with_reducible first|refine .nil ?_|refine .then_normal ?_|refine .block_normal ?_|refine .seq ?_|refine .block ?_|refine .skip ?_|refine .region ?_|refine .ret ?_|refine .then_ret ?_|refine .block_ret ?_|refine .exit ?_|refine .then_exit ?_|refine .block_exit ?_|refine .block_other rfl ?_); try refine .run TBok 99 rfl ?_))
  refine StL.step rfl rfl rfl (RunsTo.loadR rfl rfl (B1) (h.r4)).op ?_
  rintro _ _ ⟨rfl, rfl⟩
  refine StL.step rfl rfl rfl (RunsTo.loadR rfl rfl (B2) (k.r4)).op ?_
  rintro _ _ ⟨rfl, rfl⟩
  refine StL.step rfl rfl rfl (OpR.rats2 rfl rfl h.r4 k.r4) ?_
  rintro _ wL ⟨rfl, BL, hxL⟩
  replace B1 := B1.ext hxL
  replace B2 := B2.ext hxL
  replace h := h.ext hxL
  replace k := k.ext hxL
  replace hx0 := hx0.trans hxL
  clear hxL
  refine StL.step rfl rfl rfl (OpR.call fn_w02_long rfl (long2 BL h k)) ?_
  rintro _ wM ⟨hxM, c, rfl, hc⟩
  by_cases hcc : c = true
  · subst hcc
    (iterate 6 ((repeat with_reducible first|refine .nil ?_|refine .then_normal ?_|refine .block_normal ?_|refine .seq ?_|refine .block ?_|refine .skip ?_|refine .region ?_|refine .ret ?_|refine .then_ret ?_|refine .block_ret ?_|refine .exit ?_|refine .then_exit ?_|refine .block_exit ?_|refine .block_other rfl ?_); try refine .run TBok 99 rfl ?_))
    refine St.condT rfl rfl ?_
    (repeat with_reducible first|refine .nil ?_|refine .then_normal ?_|refine .block_normal ?_|refine .seq ?_|refine .block ?_|refine .skip ?_|refine .region ?_|refine .ret ?_|refine .then_ret ?_|refine .block_ret ?_|refine .exit ?_|refine .then_exit ?_|refine .block_exit ?_|refine .block_other rfl ?_)
    refine StL.awk rfl rfl ?_
    intro wz hxz
    (iterate 6 ((repeat with_reducible first|refine .nil ?_|refine .then_normal ?_|refine .block_normal ?_|refine .seq ?_|refine .block ?_|refine .skip ?_|refine .region ?_|refine .ret ?_|refine .then_ret ?_|refine .block_ret ?_|refine .exit ?_|refine .then_exit ?_|refine .block_exit ?_|refine .block_other rfl ?_); try refine .run TBok 99 rfl ?_))
    exact Out.ret1 rfl rfl ⟨(hx0.trans hxM).trans hxz, rfl⟩
  obtain rfl : c = false := by simpa using hcc
  obtain ⟨s1, s2⟩ := hc rfl
  obtain ⟨p, hp, zp⟩ := s1.q
  obtain ⟨q, hq, zq⟩ := s2.q
  replace B1 := B1.ext hxM
  replace B2 := B2.ext hxM
  replace hp := hp.ext hxM
  replace hq := hq.ext hxM
  replace hx0 := hx0.trans hxM
  clear hxM
  (iterate 6 ((repeat with_reducible first|refine .nil ?_|refine .then_normal ?_|refine .block_normal ?_|refine .seq ?_|refine .block ?_|refine .skip ?_|refine .region ?_|refine .ret ?_|refine .then_ret ?_|refine .block_ret ?_|refine .exit ?_|refine .then_exit ?_|refine .block_exit ?_|refine .block_other rfl ?_); try refine .run TBok 99 rfl ?_))
  refine St.condF rfl rfl ?_
  (repeat with_reducible first|refine .nil ?_|refine .then_normal ?_|refine .block_normal ?_|refine .seq ?_|refine .block ?_|refine .skip ?_|refine .region ?_|refine .ret ?_|refine .then_ret ?_|refine .block_ret ?_|refine .exit ?_|refine .then_exit ?_|refine .block_exit ?_|refine .block_other rfl ?_)
  refine St.sub (E' := [(2, .pointer (some ⟨w.heap.size, 0, none⟩)), (3, .pointer (some ⟨w1.heap.size, 0, none⟩))]) ?_ ⟨rfl, rfl, trivial⟩
  have z1 := rz_mul p q
  refine St.flow 5 TBfol (by kernel_rfl) rfl (by kernel_rfl) rfl True.intro ?_
  refine FL.one (L := []) rfl rfl rfl rfl rfl (fun _ hR => RunsTo.loadR rfl rfl (hR.blk (B1) (by simp)) (hp.1)) ?_
  refine FL.one (L := []) rfl rfl rfl rfl rfl (fun _ hR => RunsTo.loadR rfl rfl (hR.blk (B2) (by simp)) (hq.1)) ?_
  refine FL.callE fn_rational_Mul rfl rfl rfl (fun w5 hx5 => CallF.mk rfl (mulR_spec (hp.dn.ext hx5) (hq.dn.ext hx5) (by omega) (by omega))) (MonoR.canR 0 _) ?_
  refine FL.one (L := []) rfl rfl rfl rfl rfl (fun _ hR => RunsTo.loadR rfl rfl (hR.blk (B1) (by simp)) (hp.1)) ?_
  refine FL.one (L := []) rfl rfl rfl rfl rfl (fun _ hR => RunsTo.loadR rfl rfl (hR.blk (B2) (by simp)) (hq.1)) ?_
  refine FL.endE rfl ?_
  intro w5 hx5 a ha _ _
  replace hp := hp.ext hx5
  replace hq := hq.ext hx5
  replace hx0 := hx0.trans hx5
  clear hx5
  refine StL.step rfl rfl rfl (OpR.call fn_r02_Mul rfl (rmulR_spec hp hq (by omega) (by omega))) ?_
  rintro b w6 ⟨hx6, hb⟩
  replace ha := ha.ext hx6
  replace hx0 := hx0.trans hx6
  clear hx6
  refine StL.step rfl rfl rfl (OpR.call fn_r02_Same rfl (sameR_can ha hb (by omega))) ?_
  rintro _ w7 ⟨hx7, rfl⟩
  replace hx0 := hx0.trans hx7
  clear hx7
  refine .run TBok 99 rfl ?_
  refine StL.awk rfl rfl ?_
  intro wz hxz
  (iterate 6 ((repeat with_reducible first|refine .nil ?_|refine .then_normal ?_|refine .block_normal ?_|refine .seq ?_|refine .block ?_|refine .skip ?_|refine .region ?_|refine .ret ?_|refine .then_ret ?_|refine .block_ret ?_|refine .exit ?_|refine .then_exit ?_|refine .block_exit ?_|refine .block_other rfl ?_); try refine .run TBok 99 rfl ?_))
  exact Out.ret1 rfl rfl ⟨hx0.trans hxz, rfl⟩

set_option maxHeartbeats 1600000 in
theorem lawAddR (w : World) (v : Value) (h : InR w v) (u : Value) (k : InR w u) : Calls Try.prog 13 #[v, u] w (Ret fun r w' => Ext w w' ∧ r = .bool true) := by
  refine calls_of_St (args := [_, _]) Try.func13 rfl Try.ntmps13 rfl ?_
  (repeat with_reducible first|refine .nil ?_|refine .then_normal ?_|refine .block_normal ?_|refine .seq ?_|refine .block ?_|refine .skip ?_|refine .region ?_|refine .ret ?_|refine .then_ret ?_|refine .block_ret ?_|refine .exit ?_|refine .then_exit ?_|refine .block_exit ?_|refine .block_other rfl ?_)
  refine StL.step rfl rfl rfl (OpR.box rfl) ?_
  rintro _ w1 ⟨rfl, B1, hx1, hz1⟩
  refine StL.step rfl rfl rfl (OpR.box rfl) ?_
  rintro _ w2 ⟨rfl, B2, hx2, hz2⟩
  have hx0 : Ext w w2 := (hx1.trans hx2)
  replace B1 := (B1.ext hx2)
  replace h := h.ext hx0
  replace k := k.ext hx0
  clear hx1 hx2
  (iterate 6 ((repeat with_reducible first|refine .nil ?_|refine .then_normal ?_|refine .block_normal ?_|refine .seq ?_|refine .block ?_|refine .skip ?_|refine .region ?_|refine .ret ?_|refine .then_ret ?_|refine .block_ret ?_|refine .exit ?_|refine .then_exit ?_|refine .block_exit ?_|refine .block_other rfl ?_); try refine .run TBok 99 rfl ?_))
  refine StL.step rfl rfl rfl (RunsTo.loadR rfl rfl (B1) (h.r4)).op ?_
  rintro _ _ ⟨rfl, rfl⟩
  refine StL.step rfl rfl rfl (RunsTo.loadR rfl rfl (B2) (k.r4)).op ?_
  rintro _ _ ⟨rfl, rfl⟩
  refine StL.step rfl rfl rfl (OpR.rats2 rfl rfl h.r4 k.r4) ?_
  rintro _ wL ⟨rfl, BL, hxL⟩
  replace B1 := B1.ext hxL
  replace B2 := B2.ext hxL
  replace h := h.ext hxL
  replace k := k.ext hxL
  replace hx0 := hx0.trans hxL
  clear hxL
  refine StL.step rfl rfl rfl (OpR.call fn_w02_long rfl (long2 BL h k)) ?_
  rintro _ wM ⟨hxM, c, rfl, hc⟩
  by_cases hcc : c = true
  · subst hcc
    (iterate 6 ((repeat with_reducible first|refine .nil ?_|refine .then_normal ?_|refine .block_normal ?_|refine .seq ?_|refine .block ?_|refine .skip ?_|refine .region ?_|refine .ret ?_|refine .then_ret ?_|refine .block_ret ?_|refine .exit ?_|refine .then_exit ?_|refine .block_exit ?_|refine .block_other rfl ?_); try refine .run TBok 99 rfl ?_))
    refine St.condT rfl rfl ?_
    (repeat with_reducible first|refine .nil ?_|refine .then_normal ?_|refine .block_normal ?_|refine .seq ?_|refine .block ?_|refine .skip ?_|refine .region ?_|refine .ret ?_|refine .then_ret ?_|refine .block_ret ?_|refine .exit ?_|refine .then_exit ?_|refine .block_exit ?_|refine .block_other rfl ?_)
    refine StL.awk rfl rfl ?_
    intro wz hxz
    (iterate 6 ((repeat with_reducible first|refine .nil ?_|refine .then_normal ?_|refine .block_normal ?_|refine .seq ?_|refine .block ?_|refine .skip ?_|refine .region ?_|refine .ret ?_|refine .then_ret ?_|refine .block_ret ?_|refine .exit ?_|refine .then_exit ?_|refine .block_exit ?_|refine .block_other rfl ?_); try refine .run TBok 99 rfl ?_))
    exact Out.ret1 rfl rfl ⟨(hx0.trans hxM).trans hxz, rfl⟩
  obtain rfl : c = false := by simpa using hcc
  obtain ⟨s1, s2⟩ := hc rfl
  obtain ⟨p, hp, zp⟩ := s1.q
  obtain ⟨q, hq, zq⟩ := s2.q
  replace B1 := B1.ext hxM
  replace B2 := B2.ext hxM
  replace hp := hp.ext hxM
  replace hq := hq.ext hxM
  replace hx0 := hx0.trans hxM
  clear hxM
  (iterate 6 ((repeat with_reducible first|refine .nil ?_|refine .then_normal ?_|refine .block_normal ?_|refine .seq ?_|refine .block ?_|refine .skip ?_|refine .region ?_|refine .ret ?_|refine .then_ret ?_|refine .block_ret ?_|refine .exit ?_|refine .then_exit ?_|refine .block_exit ?_|refine .block_other rfl ?_); try refine .run TBok 99 rfl ?_))
  refine St.condF rfl rfl ?_
  (repeat with_reducible first|refine .nil ?_|refine .then_normal ?_|refine .block_normal ?_|refine .seq ?_|refine .block ?_|refine .skip ?_|refine .region ?_|refine .ret ?_|refine .then_ret ?_|refine .block_ret ?_|refine .exit ?_|refine .then_exit ?_|refine .block_exit ?_|refine .block_other rfl ?_)
  refine St.sub (E' := [(2, .pointer (some ⟨w.heap.size, 0, none⟩)), (3, .pointer (some ⟨w1.heap.size, 0, none⟩))]) ?_ ⟨rfl, rfl, trivial⟩
  have z1 := rz_add p q
  have z2 := rz_sub p q
  have z3 := rz_neg p
  refine St.flow 20 TBfol (by kernel_rfl) rfl (by kernel_rfl) rfl True.intro ?_
  refine FL.one (L := []) rfl rfl rfl rfl rfl (fun _ hR => RunsTo.loadR rfl rfl (hR.blk (B1) (by simp)) (hp.1)) ?_
  refine FL.one (L := []) rfl rfl rfl rfl rfl (fun _ hR => RunsTo.loadR rfl rfl (hR.blk (B2) (by simp)) (hq.1)) ?_
  refine FL.callE fn_rational_Add rfl rfl rfl (fun w5 hx5 => CallF.mk rfl (addR_spec (hp.dn.ext hx5) (hq.dn.ext hx5) (by omega) (by omega))) (MonoR.canR 0 _) ?_
  refine FL.one (L := []) rfl rfl rfl rfl rfl (fun _ hR => RunsTo.loadR rfl rfl (hR.blk (B1) (by simp)) (hp.1)) ?_
  refine FL.one (L := []) rfl rfl rfl rfl rfl (fun _ hR => RunsTo.loadR rfl rfl (hR.blk (B2) (by simp)) (hq.1)) ?_
  refine FL.callE fn_r02_Add rfl rfl rfl (fun w5 hx5 => CallF.mk rfl (raddR_spec (hp.ext hx5) (hq.ext hx5) (by omega) (by omega))) (MonoR.canR 0 _) ?_
  refine FL.callXE fn_r02_Same rfl rfl rfl (fun w5 hx5 a ha b hb => CallF.mk rfl (sameR_can ha hb (by omega))) ?_
  refine FL.run TBok 99 rfl ?_
  refine FL.one (L := []) rfl rfl rfl rfl rfl (fun _ hR => RunsTo.loadR rfl rfl (hR.blk (B1) (by simp)) (hp.1)) ?_
  refine FL.one (L := []) rfl rfl rfl rfl rfl (fun _ hR => RunsTo.loadR rfl rfl (hR.blk (B2) (by simp)) (hq.1)) ?_
  refine FL.callE fn_rational_Sub rfl rfl rfl (fun w5 hx5 => CallF.mk rfl (subR_spec (hp.dn.ext hx5) (hq.dn.ext hx5) (by omega) (by omega))) (MonoR.canR 0 _) ?_
  refine FL.one (L := []) rfl rfl rfl rfl rfl (fun _ hR => RunsTo.loadR rfl rfl (hR.blk (B1) (by simp)) (hp.1)) ?_
  refine FL.one (L := []) rfl rfl rfl rfl rfl (fun _ hR => RunsTo.loadR rfl rfl (hR.blk (B2) (by simp)) (hq.1)) ?_
  refine FL.callE fn_r02_Sub rfl rfl rfl (fun w5 hx5 => CallF.mk rfl (rsubR_spec (hp.ext hx5) (hq.ext hx5) (by omega) (by omega))) (MonoR.canR 0 _) ?_
  refine FL.callXE fn_r02_Same rfl rfl rfl (fun w5 hx5 a ha b hb => CallF.mk rfl (sameR_can ha hb (by omega))) ?_
  refine FL.run TBok 99 rfl ?_
  refine FL.one (L := []) rfl rfl rfl rfl rfl (fun _ hR => RunsTo.loadR rfl rfl (hR.blk (B1) (by simp)) (hp.1)) ?_
  refine FL.callE fn_rational_Neg rfl rfl rfl (fun w5 hx5 => CallF.mk rfl (negR_spec (hp.dn.ext hx5))) (MonoR.canR 0 _) ?_
  refine FL.one (L := []) rfl rfl rfl rfl rfl (fun _ hR => RunsTo.loadR rfl rfl (hR.blk (B1) (by simp)) (hp.1)) ?_
  refine FL.endE rfl ?_
  intro w5 hx5 a ha _ _ _ _ _ _ _ _ _ _
  replace hp := hp.ext hx5
  replace hx0 := hx0.trans hx5
  clear hx5
  refine StL.step rfl rfl rfl (OpR.call fn_r02_Neg rfl (rnegR_spec hp)) ?_
  rintro b w6 ⟨hx6, hb⟩
  replace ha := ha.ext hx6
  replace hx0 := hx0.trans hx6
  clear hx6
  refine StL.step rfl rfl rfl (OpR.call fn_r02_Same rfl (sameR_can ha hb (by omega))) ?_
  rintro _ w7 ⟨hx7, rfl⟩
  replace hx0 := hx0.trans hx7
  clear hx7
  refine .run TBok 99 rfl ?_
  refine StL.awk rfl rfl ?_
  intro wz hxz
  (iterate 6 ((repeat with_reducible first|refine .nil ?_|refine .then_normal ?_|refine .block_normal ?_|refine .seq ?_|refine .block ?_|refine .skip ?_|refine .region ?_|refine .ret ?_|refine .then_ret ?_|refine .block_ret ?_|refine .exit ?_|refine .then_exit ?_|refine .block_exit ?_|refine .block_other rfl ?_); try refine .run TBok 99 rfl ?_))
  exact Out.ret1 rfl rfl ⟨hx0.trans hxz, rfl⟩

set_option maxHeartbeats 1600000 in
theorem lawCmpR (w : World) (v : Value) (h : InR w v) (u : Value) (k : InR w u) : Calls Try.prog 15 #[v, u] w (Ret fun r w' => Ext w w' ∧ r = .bool true) := by
  refine calls_of_St (args := [_, _]) Try.func15 rfl Try.ntmps15 rfl ?_
  (repeat with_reducible first|refine .nil ?_|refine .then_normal ?_|refine .block_normal ?_|refine .seq ?_|refine .block ?_|refine .skip ?_|refine .region ?_|refine .ret ?_|refine .then_ret ?_|refine .block_ret ?_|refine .exit ?_|refine .then_exit ?_|refine .block_exit ?_|refine .block_other rfl ?_)
  refine StL.step rfl rfl rfl (OpR.box rfl) ?_
  rintro _ w1 ⟨rfl, B1, hx1, hz1⟩
  refine StL.step rfl rfl rfl (OpR.box rfl) ?_
  rintro _ w2 ⟨rfl, B2, hx2, hz2⟩
  have hx0 : Ext w w2 := (hx1.trans hx2)
  replace B1 := (B1.ext hx2)
  replace h := h.ext hx0
  replace k := k.ext hx0
  clear hx1 hx2
  (iterate 6 ((repeat with_reducible first|refine .nil ?_|refine .then_normal ?_|refine .block_normal ?_|refine .seq ?_|refine .block ?_|refine .skip ?_|refine .region ?_|refine .ret ?_|refine .then_ret ?_|refine .block_ret ?_|refine .exit ?_|refine .then_exit ?_|refine .block_exit ?_|refine .block_other rfl ?_); try refine .run TBok 99 rfl ?_))
  refine StL.step rfl rfl rfl (RunsTo.loadR rfl rfl (B1) (h.r4)).op ?_
  rintro _ _ ⟨rfl, rfl⟩
  refine StL.step rfl rfl rfl (RunsTo.loadR rfl rfl (B2) (k.r4)).op ?_
  rintro _ _ ⟨rfl, rfl⟩
  refine StL.step rfl rfl rfl (OpR.rats2 rfl rfl h.r4 k.r4) ?_
  rintro _ wL ⟨rfl, BL, hxL⟩
  replace B1 := B1.ext hxL
  replace B2 := B2.ext hxL
  replace h := h.ext hxL
  replace k := k.ext hxL
  replace hx0 := hx0.trans hxL
  clear hxL
  refine StL.step rfl rfl rfl (OpR.call fn_w02_long rfl (long2 BL h k)) ?_
  rintro _ wM ⟨hxM, c, rfl, hc⟩
  by_cases hcc : c = true
  · subst hcc
    (iterate 6 ((repeat with_reducible first|refine .nil ?_|refine .then_normal ?_|refine .block_normal ?_|refine .seq ?_|refine .block ?_|refine .skip ?_|refine .region ?_|refine .ret ?_|refine .then_ret ?_|refine .block_ret ?_|refine .exit ?_|refine .then_exit ?_|refine .block_exit ?_|refine .block_other rfl ?_); try refine .run TBok 99 rfl ?_))
    refine St.condT rfl rfl ?_
    (repeat with_reducible first|refine .nil ?_|refine .then_normal ?_|refine .block_normal ?_|refine .seq ?_|refine .block ?_|refine .skip ?_|refine .region ?_|refine .ret ?_|refine .then_ret ?_|refine .block_ret ?_|refine .exit ?_|refine .then_exit ?_|refine .block_exit ?_|refine .block_other rfl ?_)
    refine StL.awk rfl rfl ?_
    intro wz hxz
    (iterate 6 ((repeat with_reducible first|refine .nil ?_|refine .then_normal ?_|refine .block_normal ?_|refine .seq ?_|refine .block ?_|refine .skip ?_|refine .region ?_|refine .ret ?_|refine .then_ret ?_|refine .block_ret ?_|refine .exit ?_|refine .then_exit ?_|refine .block_exit ?_|refine .block_other rfl ?_); try refine .run TBok 99 rfl ?_))
    exact Out.ret1 rfl rfl ⟨(hx0.trans hxM).trans hxz, rfl⟩
  obtain rfl : c = false := by simpa using hcc
  obtain ⟨s1, s2⟩ := hc rfl
  obtain ⟨p, hp, zp⟩ := s1.q
  obtain ⟨q, hq, zq⟩ := s2.q
  replace B1 := B1.ext hxM
  replace B2 := B2.ext hxM
  replace hp := hp.ext hxM
  replace hq := hq.ext hxM
  replace hx0 := hx0.trans hxM
  clear hxM
  (iterate 6 ((repeat with_reducible first|refine .nil ?_|refine .then_normal ?_|refine .block_normal ?_|refine .seq ?_|refine .block ?_|refine .skip ?_|refine .region ?_|refine .ret ?_|refine .then_ret ?_|refine .block_ret ?_|refine .exit ?_|refine .then_exit ?_|refine .block_exit ?_|refine .block_other rfl ?_); try refine .run TBok 99 rfl ?_))
  refine St.condF rfl rfl ?_
  (repeat with_reducible first|refine .nil ?_|refine .then_normal ?_|refine .block_normal ?_|refine .seq ?_|refine .block ?_|refine .skip ?_|refine .region ?_|refine .ret ?_|refine .then_ret ?_|refine .block_ret ?_|refine .exit ?_|refine .then_exit ?_|refine .block_exit ?_|refine .block_other rfl ?_)
  refine St.sub (E' := [(2, .pointer (some ⟨w.heap.size, 0, none⟩)), (3, .pointer (some ⟨w1.heap.size, 0, none⟩))]) ?_ ⟨rfl, rfl, trivial⟩
  refine St.flow 18 TBfol (by kernel_rfl) rfl (by kernel_rfl) rfl True.intro ?_
  refine FL.one (L := []) rfl rfl rfl rfl rfl (fun _ hR => RunsTo.loadR rfl rfl (hR.blk (B1) (by simp)) (hp.1)) ?_
  refine FL.callXE fn_rational_Sign rfl rfl rfl (fun w5 hx5 => CallF.mk rfl (signR_spec (hp.dn.ext hx5))) ?_
  refine FL.one (L := []) rfl rfl rfl rfl rfl (fun _ hR => RunsTo.loadR rfl rfl (hR.blk (B1) (by simp)) (hp.1)) ?_
  refine FL.callXE fn_r02_Sign rfl rfl rfl (fun w5 hx5 => CallF.mk rfl (rsignR_spec (hp.ext hx5))) ?_
  refine FL.as TBok 1 (.bool true) rfl (bool_true rfl) ?_
  refine FL.run TBok 99 rfl ?_
  refine FL.one (L := []) rfl rfl rfl rfl rfl (fun _ hR => RunsTo.loadR rfl rfl (hR.blk (B1) (by simp)) (hp.1)) ?_
  refine FL.one (L := []) rfl rfl rfl rfl rfl (fun _ hR => RunsTo.loadR rfl rfl (hR.blk (B2) (by simp)) (hq.1)) ?_
  refine FL.callXE fn_rational_Cmp rfl rfl rfl (fun w5 hx5 => CallF.mk rfl (cmpR_spec (hp.dn.ext hx5) (hq.dn.ext hx5) (by omega) (by omega))) ?_
  refine FL.one (L := []) rfl rfl rfl rfl rfl (fun _ hR => RunsTo.loadR rfl rfl (hR.blk (B1) (by simp)) (hp.1)) ?_
  refine FL.one (L := []) rfl rfl rfl rfl rfl (fun _ hR => RunsTo.loadR rfl rfl (hR.blk (B2) (by simp)) (hq.1)) ?_
  refine FL.callXE fn_r02_Cmp rfl rfl rfl (fun w5 hx5 => CallF.mk rfl (rcmpR_spec (hp.ext hx5) (hq.ext hx5) (by omega) (by omega))) ?_
  refine FL.as TBok 1 (.bool true) rfl (bool_true rfl) ?_
  refine FL.run TBok 99 rfl ?_
  refine FL.one (L := []) rfl rfl rfl rfl rfl (fun _ hR => RunsTo.loadR rfl rfl (hR.blk (B1) (by simp)) (hp.1)) ?_
  refine FL.callXE fn_rational_IsWhole rfl rfl rfl (fun w5 hx5 => CallF.mk rfl (isWholeR_spec (hp.dn.ext hx5))) ?_
  refine FL.one (L := []) rfl rfl rfl rfl rfl (fun _ hR => RunsTo.loadR rfl rfl (hR.blk (B1) (by simp)) (hp.1)) ?_
  refine FL.endE rfl ?_
  intro w5 hx5 _ _
  replace hp := hp.ext hx5
  replace hx0 := hx0.trans hx5
  clear hx5
  refine StL.step rfl rfl rfl (OpR.call fn_r02_IsWhole rfl (risWhole_spec hp)) ?_
  rintro _ w6 ⟨hx6, rfl⟩
  replace hx0 := hx0.trans hx6
  clear hx6
  refine StL.step rfl rfl rfl (RunsTo.boolEq TBok rfl rfl rfl).op ?_
  rintro _ _ ⟨rfl, rfl⟩
  rw [show (decide (p.den = 1) == decide (p.den = 1)) = true from by simp]
  refine .run TBok 99 rfl ?_
  refine StL.awk rfl rfl ?_
  intro wz hxz
  (iterate 6 ((repeat with_reducible first|refine .nil ?_|refine .then_normal ?_|refine .block_normal ?_|refine .seq ?_|refine .block ?_|refine .skip ?_|refine .region ?_|refine .ret ?_|refine .then_ret ?_|refine .block_ret ?_|refine .exit ?_|refine .then_exit ?_|refine .block_exit ?_|refine .block_other rfl ?_); try refine .run TBok 99 rfl ?_))
  exact Out.ret1 rfl rfl ⟨hx0.trans hxz, rfl⟩

theorem QuoV.open {w : World} {r : Value} {p q : Rat} (h : QuoV w r p q) : ∃ v, r = .tuple #[v, .bool (decide (q ≠ 0))] ∧ R4 v ∧ (q = 0 → v = zR) ∧ (q ≠ 0 → CanR 0 w v (p / q)) := by
  by_cases e : q = 0
  · exact ⟨zR, by rw [h.1 e, decide_eq_false (fun h => h e)], zR_R4, fun _ => rfl, fun h => absurd e h⟩
  · obtain ⟨v, hr, hv⟩ := h.2 e
    exact ⟨v, by rw [hr, decide_eq_true e], hv.1, fun h => absurd h e, fun _ => hv⟩

set_option maxHeartbeats 1600000 in
theorem lawQuoR (w : World) (v : Value) (h : InR w v) (u : Value) (k : InR w u) : Calls Try.prog 16 #[v, u] w (Ret fun r w' => Ext w w' ∧ r = .bool true) := by
  refine calls_of_St (args := [_, _]) Try.func16 rfl Try.ntmps16 rfl ?_
  (repeat with_reducible first|refine .nil ?_|refine .then_normal ?_|refine .block_normal ?_|refine .seq ?_|refine .block ?_|refine .skip ?_|refine .region ?_|refine .ret ?_|refine .then_ret ?_|refine .block_ret ?_|refine .exit ?_|refine .then_exit ?_|refine .block_exit ?_|refine .block_other rfl ?_)
  refine StL.step rfl rfl rfl (OpR.box rfl) ?_
  rintro _ w1 ⟨rfl, B1, hx1, hz1⟩
  refine StL.step rfl rfl rfl (OpR.box rfl) ?_
  rintro _ w2 ⟨rfl, B2, hx2, hz2⟩
  have hx0 : Ext w w2 := (hx1.trans hx2)
  replace B1 := (B1.ext hx2)
  replace h := h.ext hx0
  replace k := k.ext hx0
  clear hx1 hx2
  (iterate 6 ((repeat with_reducible first|refine .nil ?_|refine .then_normal ?_|refine .block_normal ?_|refine .seq ?_|refine .block ?_|refine .skip ?_|refine .region ?_|refine .ret ?_|refine .then_ret ?_|refine .block_ret ?_|refine .exit ?_|refine .then_exit ?_|refine .block_exit ?_|refine .block_other rfl ?_); try refine .run TBok 99 rfl ?_))
  refine StL.step rfl rfl rfl (RunsTo.loadR rfl rfl (B1) (h.r4)).op ?_
  rintro _ _ ⟨rfl, rfl⟩
  refine StL.step rfl rfl rfl (RunsTo.loadR rfl rfl (B2) (k.r4)).op ?_
  rintro _ _ ⟨rfl, rfl⟩
  refine StL.step rfl rfl rfl (OpR.rats2 rfl rfl h.r4 k.r4) ?_
  rintro _ wL ⟨rfl, BL, hxL⟩
  replace B1 := B1.ext hxL
  replace B2 := B2.ext hxL
  replace h := h.ext hxL
  replace k := k.ext hxL
  replace hx0 := hx0.trans hxL
  clear hxL
  refine StL.step rfl rfl rfl (OpR.call fn_w02_long rfl (long2 BL h k)) ?_
  rintro _ wM ⟨hxM, c, rfl, hc⟩
  by_cases hcc : c = true
  · subst hcc
    (iterate 6 ((repeat with_reducible first|refine .nil ?_|refine .then_normal ?_|refine .block_normal ?_|refine .seq ?_|refine .block ?_|refine .skip ?_|refine .region ?_|refine .ret ?_|refine .then_ret ?_|refine .block_ret ?_|refine .exit ?_|refine .then_exit ?_|refine .block_exit ?_|refine .block_other rfl ?_); try refine .run TBok 99 rfl ?_))
    refine St.condT rfl rfl ?_
    (repeat with_reducible first|refine .nil ?_|refine .then_normal ?_|refine .block_normal ?_|refine .seq ?_|refine .block ?_|refine .skip ?_|refine .region ?_|refine .ret ?_|refine .then_ret ?_|refine .block_ret ?_|refine .exit ?_|refine .then_exit ?_|refine .block_exit ?_|refine .block_other rfl ?_)
    refine StL.awk rfl rfl ?_
    intro wz hxz
    (iterate 6 ((repeat with_reducible first|refine .nil ?_|refine .then_normal ?_|refine .block_normal ?_|refine .seq ?_|refine .block ?_|refine .skip ?_|refine .region ?_|refine .ret ?_|refine .then_ret ?_|refine .block_ret ?_|refine .exit ?_|refine .then_exit ?_|refine .block_exit ?_|refine .block_other rfl ?_); try refine .run TBok 99 rfl ?_))
    exact Out.ret1 rfl rfl ⟨(hx0.trans hxM).trans hxz, rfl⟩
  obtain rfl : c = false := by simpa using hcc
  obtain ⟨s1, s2⟩ := hc rfl
  obtain ⟨p, hp, zp⟩ := s1.q
  obtain ⟨q, hq, zq⟩ := s2.q
  replace B1 := B1.ext hxM
  replace B2 := B2.ext hxM
  replace hp := hp.ext hxM
  replace hq := hq.ext hxM
  replace hx0 := hx0.trans hxM
  clear hxM
  (iterate 6 ((repeat with_reducible first|refine .nil ?_|refine .then_normal ?_|refine .block_normal ?_|refine .seq ?_|refine .block ?_|refine .skip ?_|refine .region ?_|refine .ret ?_|refine .then_ret ?_|refine .block_ret ?_|refine .exit ?_|refine .then_exit ?_|refine .block_exit ?_|refine .block_other rfl ?_); try refine .run TBok 99 rfl ?_))
  refine St.condF rfl rfl ?_
  (repeat with_reducible first|refine .nil ?_|refine .then_normal ?_|refine .block_normal ?_|refine .seq ?_|refine .block ?_|refine .skip ?_|refine .region ?_|refine .ret ?_|refine .then_ret ?_|refine .block_ret ?_|refine .exit ?_|refine .then_exit ?_|refine .block_exit ?_|refine .block_other rfl ?_)
  have z1 := rz_mul p q⁻¹
  have z2 := rz_inv q
  rw [← Rat.div_def] at z1
  (iterate 6 ((repeat with_reducible first|refine .nil ?_|refine .then_normal ?_|refine .block_normal ?_|refine .seq ?_|refine .block ?_|refine .skip ?_|refine .region ?_|refine .ret ?_|refine .then_ret ?_|refine .block_ret ?_|refine .exit ?_|refine .then_exit ?_|refine .block_exit ?_|refine .block_other rfl ?_); try refine .run TBok 99 rfl ?_))
  refine StL.step rfl rfl rfl (RunsTo.loadR rfl rfl (B1) (hp.1)).op ?_
  rintro _ _ ⟨rfl, rfl⟩
  refine StL.step rfl rfl rfl (RunsTo.loadR rfl rfl (B2) (hq.1)).op ?_
  rintro _ _ ⟨rfl, rfl⟩
  refine StL.step rfl rfl rfl (OpR.call fn_rational_Quo rfl (quoR_spec hp.dn hq.dn (by omega) (by omega))) ?_
  rintro _ w5 ⟨hx5, hr⟩
  obtain ⟨a, rfl, a4, a0, a1⟩ := hr.open
  replace B1 := B1.ext hx5
  replace B2 := B2.ext hx5
  replace hp := hp.ext hx5
  replace hq := hq.ext hx5
  replace hx0 := hx0.trans hx5
  clear hx5
  refine .run TBok 99 rfl ?_
  refine StL.newR rfl rfl (fun _ => rfl) a4 ?_
  intro b5 w6 hl5 hx6 B5
  replace a1 := fun e => (a1 e).ext hx6
  replace B1 := B1.ext hx6
  replace B2 := B2.ext hx6
  replace hp := hp.ext hx6
  replace hq := hq.ext hx6
  replace hx0 := hx0.trans hx6
  clear hx6
  (iterate 6 ((repeat with_reducible first|refine .nil ?_|refine .then_normal ?_|refine .block_normal ?_|refine .seq ?_|refine .block ?_|refine .skip ?_|refine .region ?_|refine .ret ?_|refine .then_ret ?_|refine .block_ret ?_|refine .exit ?_|refine .then_exit ?_|refine .block_exit ?_|refine .block_other rfl ?_); try refine .run TBok 99 rfl ?_))
  refine StL.step rfl rfl rfl (RunsTo.loadR rfl rfl (B1) (hp.1)).op ?_
  rintro _ _ ⟨rfl, rfl⟩
  refine StL.step rfl rfl rfl (RunsTo.loadR rfl rfl (B2) (hq.1)).op ?_
  rintro _ _ ⟨rfl, rfl⟩
  refine StL.step rfl rfl rfl (OpR.call fn_r02_Quo rfl (rquoR_spec hp hq (by omega) (by omega))) ?_
  rintro _ w7 ⟨hx7, hr2⟩
  obtain ⟨b, rfl, b4, b0, b1⟩ := hr2.open
  replace a1 := fun e => (a1 e).ext hx7
  replace B5 := B5.ext hx7
  replace hx0 := hx0.trans hx7
  clear hx7
  refine .run TBok 99 rfl ?_
  refine StL.newR rfl rfl (fun _ => rfl) b4 ?_
  intro b7 w8 hl7 hx8 B7
  replace a1 := fun e => (a1 e).ext hx8
  replace b1 := fun e => (b1 e).ext hx8
  replace B5 := B5.ext hx8
  replace hx0 := hx0.trans hx8
  clear hx8
  (iterate 6 ((repeat with_reducible first|refine .nil ?_|refine .then_normal ?_|refine .block_normal ?_|refine .seq ?_|refine .block ?_|refine .skip ?_|refine .region ?_|refine .ret ?_|refine .then_ret ?_|refine .block_ret ?_|refine .exit ?_|refine .then_exit ?_|refine .block_exit ?_|refine .block_other rfl ?_); try refine .run TBok 99 rfl ?_))
  refine StL.step rfl rfl rfl (RunsTo.loadR rfl rfl (B5) (a4)).op ?_
  rintro _ _ ⟨rfl, rfl⟩
  refine StL.step rfl rfl rfl (RunsTo.loadR rfl rfl (B7) (b4)).op ?_
  rintro _ _ ⟨rfl, rfl⟩
  have hs : Calls Try.prog 25 #[a, b] w8 (Ret fun r w' => Ext w8 w' ∧ r = .bool true) := by
    by_cases e : q = 0
    · rw [a0 e, b0 e]; exact sameR_zero w8
    · exact sameR_can (a1 e) (b1 e) (by omega)
  refine StL.step rfl rfl rfl (OpR.call fn_r02_Same rfl (hs)) ?_
  rintro _ w9 ⟨hx9, rfl⟩
  replace hx0 := hx0.trans hx9
  clear hx9
  refine .run TBok 99 rfl ?_
  refine StL.step rfl rfl rfl (RunsTo.boolEq TBok rfl rfl rfl).op ?_
  rintro _ _ ⟨rfl, rfl⟩
  rw [show (decide (q ≠ 0) == decide (q ≠ 0)) = true from by simp]
  refine .run TBok 99 rfl ?_
  refine StL.awk rfl rfl ?_
  intro wz hxz
  (iterate 6 ((repeat with_reducible first|refine .nil ?_|refine .then_normal ?_|refine .block_normal ?_|refine .seq ?_|refine .block ?_|refine .skip ?_|refine .region ?_|refine .ret ?_|refine .then_ret ?_|refine .block_ret ?_|refine .exit ?_|refine .then_exit ?_|refine .block_exit ?_|refine .block_other rfl ?_); try refine .run TBok 99 rfl ?_))
  exact Out.ret1 rfl rfl ⟨hx0.trans hxz, rfl⟩

theorem sz_floor (q : Rat) : sz q.floor ≤ rz q := by
  rw [Rat.floor_def]
  exact Nat.le_trans (sz_div _ _) (rz_num q)

set_option maxHeartbeats 800000 in
theorem lawFloors (w : World) (v : Value) (h : InR w v) : Calls Try.prog 6 #[v] w (Ret fun r w' => Ext w w' ∧ r = .bool true) := by
  refine calls_of_St (args := [_]) Try.func6 rfl Try.ntmps6 rfl ?_
  (repeat with_reducible first|refine .nil ?_|refine .then_normal ?_|refine .block_normal ?_|refine .seq ?_|refine .block ?_|refine .skip ?_|refine .region ?_|refine .ret ?_|refine .then_ret ?_|refine .block_ret ?_|refine .exit ?_|refine .then_exit ?_|refine .block_exit ?_|refine .block_other rfl ?_)
  refine StL.step rfl rfl rfl (OpR.box rfl) ?_
  rintro _ w1 ⟨rfl, B1, hx1, hz1⟩
  have hx0 : Ext w w1 := hx1
  replace h := h.ext hx0
  clear hx1
  (iterate 6 ((repeat with_reducible first|refine .nil ?_|refine .then_normal ?_|refine .block_normal ?_|refine .seq ?_|refine .block ?_|refine .skip ?_|refine .region ?_|refine .ret ?_|refine .then_ret ?_|refine .block_ret ?_|refine .exit ?_|refine .then_exit ?_|refine .block_exit ?_|refine .block_other rfl ?_); try refine .run TBok 99 rfl ?_))
  refine StL.step rfl rfl rfl (RunsTo.loadR rfl rfl (B1) (h.r4)).op ?_
  rintro _ _ ⟨rfl, rfl⟩
  refine StL.step rfl rfl rfl (OpR.rats1 rfl h.r4) ?_
  rintro _ wL ⟨rfl, BL, hxL⟩
  replace B1 := B1.ext hxL
  replace h := h.ext hxL
  replace hx0 := hx0.trans hxL
  clear hxL
  refine StL.step rfl rfl rfl (OpR.call fn_w02_long rfl (long1 BL h)) ?_
  rintro _ wM ⟨hxM, c, rfl, hc⟩
  by_cases hcc : c = true
  · subst hcc
    (iterate 6 ((repeat with_reducible first|refine .nil ?_|refine .then_normal ?_|refine .block_normal ?_|refine .seq ?_|refine .block ?_|refine .skip ?_|refine .region ?_|refine .ret ?_|refine .then_ret ?_|refine .block_ret ?_|refine .exit ?_|refine .then_exit ?_|refine .block_exit ?_|refine .block_other rfl ?_); try refine .run TBok 99 rfl ?_))
    refine St.condT rfl rfl ?_
    (repeat with_reducible first|refine .nil ?_|refine .then_normal ?_|refine .block_normal ?_|refine .seq ?_|refine .block ?_|refine .skip ?_|refine .region ?_|refine .ret ?_|refine .then_ret ?_|refine .block_ret ?_|refine .exit ?_|refine .then_exit ?_|refine .block_exit ?_|refine .block_other rfl ?_)
    refine StL.awk rfl rfl ?_
    intro wz hxz
    (iterate 6 ((repeat with_reducible first|refine .nil ?_|refine .then_normal ?_|refine .block_normal ?_|refine .seq ?_|refine .block ?_|refine .skip ?_|refine .region ?_|refine .ret ?_|refine .then_ret ?_|refine .block_ret ?_|refine .exit ?_|refine .then_exit ?_|refine .block_exit ?_|refine .block_other rfl ?_); try refine .run TBok 99 rfl ?_))
    exact Out.ret1 rfl rfl ⟨(hx0.trans hxM).trans hxz, rfl⟩
  obtain rfl : c = false := by simpa using hcc
  have s1 := hc rfl
  obtain ⟨p, hp, zp⟩ := s1.q
  replace B1 := B1.ext hxM
  replace hp := hp.ext hxM
  replace hx0 := hx0.trans hxM
  clear hxM
  (iterate 6 ((repeat with_reducible first|refine .nil ?_|refine .then_normal ?_|refine .block_normal ?_|refine .seq ?_|refine .block ?_|refine .skip ?_|refine .region ?_|refine .ret ?_|refine .then_ret ?_|refine .block_ret ?_|refine .exit ?_|refine .then_exit ?_|refine .block_exit ?_|refine .block_other rfl ?_); try refine .run TBok 99 rfl ?_))
  refine St.condF rfl rfl ?_
  (repeat with_reducible first|refine .nil ?_|refine .then_normal ?_|refine .block_normal ?_|refine .seq ?_|refine .block ?_|refine .skip ?_|refine .region ?_|refine .ret ?_|refine .then_ret ?_|refine .block_ret ?_|refine .exit ?_|refine .then_exit ?_|refine .block_exit ?_|refine .block_other rfl ?_)
  refine St.sub (E' := [(1, .pointer (some ⟨w.heap.size, 0, none⟩))]) ?_ ⟨rfl, trivial⟩
  have z1 := sz_floor p
  have z2 := sz_floor (p + Rat.divInt 1 2)
  have z3 := rz_add p (Rat.divInt 1 2)
  have z4 := rz_half
  refine St.flow 9 TBfol (by kernel_rfl) rfl (by kernel_rfl) rfl True.intro ?_
  refine FL.one (L := []) rfl rfl rfl rfl rfl (fun _ hR => RunsTo.loadR rfl rfl (hR.blk (B1) (by simp)) (hp.1)) ?_
  refine FL.callE fn_rational_Floor rfl rfl rfl (fun w5 hx5 => CallF.mk rfl (floorR_spec (hp.dn.ext hx5))) (MonoR.canO 0 _) ?_
  refine FL.one (L := []) rfl rfl rfl rfl rfl (fun _ hR => RunsTo.loadR rfl rfl (hR.blk (B1) (by simp)) (hp.1)) ?_
  refine FL.callE fn_r02_Floor rfl rfl rfl (fun w5 hx5 => CallF.mk rfl (rfloorR_spec (hp.ext hx5))) (MonoR.canO 0 _) ?_
  refine FL.callXE fn_r01_Same rfl rfl rfl (fun w5 hx5 a ha b hb => CallF.mk rfl (same_true ha hb (by omega))) ?_
  refine FL.run TBok 99 rfl ?_
  refine FL.one (L := []) rfl rfl rfl rfl rfl (fun _ hR => RunsTo.loadR rfl rfl (hR.blk (B1) (by simp)) (hp.1)) ?_
  refine FL.callE fn_rational_Nearest rfl rfl rfl (fun w5 hx5 => CallF.mk rfl (nearestR_spec (hp.dn.ext hx5) (by omega))) (MonoR.canO 0 _) ?_
  refine FL.one (L := []) rfl rfl rfl rfl rfl (fun _ hR => RunsTo.loadR rfl rfl (hR.blk (B1) (by simp)) (hp.1)) ?_
  refine FL.endE rfl ?_
  intro w5 hx5 a ha _ _ _ _ _ _
  replace hp := hp.ext hx5
  replace hx0 := hx0.trans hx5
  clear hx5
  refine StL.step rfl rfl rfl (OpR.call fn_r02_Nearest rfl (rnearestR_spec hp (by omega))) ?_
  rintro b w6 ⟨hx6, hb⟩
  replace ha := ha.ext hx6
  replace hx0 := hx0.trans hx6
  clear hx6
  refine StL.step rfl rfl rfl (OpR.call fn_r01_Same rfl (same_true ha hb (by omega))) ?_
  rintro _ w7 ⟨hx7, rfl⟩
  replace hx0 := hx0.trans hx7
  clear hx7
  refine .run TBok 99 rfl ?_
  refine StL.awk rfl rfl ?_
  intro wz hxz
  (iterate 6 ((repeat with_reducible first|refine .nil ?_|refine .then_normal ?_|refine .block_normal ?_|refine .seq ?_|refine .block ?_|refine .skip ?_|refine .region ?_|refine .ret ?_|refine .then_ret ?_|refine .block_ret ?_|refine .exit ?_|refine .then_exit ?_|refine .block_exit ?_|refine .block_other rfl ?_); try refine .run TBok 99 rfl ?_))
  exact Out.ret1 rfl rfl ⟨hx0.trans hxz, rfl⟩

set_option maxHeartbeats 800000 in
theorem lawFormatsR (w : World) (v : Value) (h : InR w v) : Calls Try.prog 11 #[v] w (Ret fun r w' => Ext w w' ∧ r = .bool true) := by
  refine calls_of_St (args := [_]) Try.func11 rfl Try.ntmps11 rfl ?_
  (repeat with_reducible first|refine .nil ?_|refine .then_normal ?_|refine .block_normal ?_|refine .seq ?_|refine .block ?_|refine .skip ?_|refine .region ?_|refine .ret ?_|refine .then_ret ?_|refine .block_ret ?_|refine .exit ?_|refine .then_exit ?_|refine .block_exit ?_|refine .block_other rfl ?_)
  refine StL.step rfl rfl rfl (OpR.box rfl) ?_
  rintro _ w1 ⟨rfl, B1, hx1, hz1⟩
  have hx0 : Ext w w1 := hx1
  replace h := h.ext hx0
  clear hx1
  (iterate 6 ((repeat with_reducible first|refine .nil ?_|refine .then_normal ?_|refine .block_normal ?_|refine .seq ?_|refine .block ?_|refine .skip ?_|refine .region ?_|refine .ret ?_|refine .then_ret ?_|refine .block_ret ?_|refine .exit ?_|refine .then_exit ?_|refine .block_exit ?_|refine .block_other rfl ?_); try refine .run TBok 99 rfl ?_))
  refine StL.step rfl rfl rfl (RunsTo.loadR rfl rfl (B1) (h.r4)).op ?_
  rintro _ _ ⟨rfl, rfl⟩
  refine StL.step rfl rfl rfl (OpR.rats1 rfl h.r4) ?_
  rintro _ wL ⟨rfl, BL, hxL⟩
  replace B1 := B1.ext hxL
  replace h := h.ext hxL
  replace hx0 := hx0.trans hxL
  clear hxL
  refine StL.step rfl rfl rfl (OpR.call fn_w02_long rfl (long1 BL h)) ?_
  rintro _ wM ⟨hxM, c, rfl, hc⟩
  by_cases hcc : c = true
  · subst hcc
    (iterate 6 ((repeat with_reducible first|refine .nil ?_|refine .then_normal ?_|refine .block_normal ?_|refine .seq ?_|refine .block ?_|refine .skip ?_|refine .region ?_|refine .ret ?_|refine .then_ret ?_|refine .block_ret ?_|refine .exit ?_|refine .then_exit ?_|refine .block_exit ?_|refine .block_other rfl ?_); try refine .run TBok 99 rfl ?_))
    refine St.condT rfl rfl ?_
    (repeat with_reducible first|refine .nil ?_|refine .then_normal ?_|refine .block_normal ?_|refine .seq ?_|refine .block ?_|refine .skip ?_|refine .region ?_|refine .ret ?_|refine .then_ret ?_|refine .block_ret ?_|refine .exit ?_|refine .then_exit ?_|refine .block_exit ?_|refine .block_other rfl ?_)
    refine StL.awk rfl rfl ?_
    intro wz hxz
    (iterate 6 ((repeat with_reducible first|refine .nil ?_|refine .then_normal ?_|refine .block_normal ?_|refine .seq ?_|refine .block ?_|refine .skip ?_|refine .region ?_|refine .ret ?_|refine .then_ret ?_|refine .block_ret ?_|refine .exit ?_|refine .then_exit ?_|refine .block_exit ?_|refine .block_other rfl ?_); try refine .run TBok 99 rfl ?_))
    exact Out.ret1 rfl rfl ⟨(hx0.trans hxM).trans hxz, rfl⟩
  obtain rfl : c = false := by simpa using hcc
  have s1 := hc rfl
  obtain ⟨p, hp, zp⟩ := s1.q
  replace B1 := B1.ext hxM
  replace hp := hp.ext hxM
  replace hx0 := hx0.trans hxM
  clear hxM
  (iterate 6 ((repeat with_reducible first|refine .nil ?_|refine .then_normal ?_|refine .block_normal ?_|refine .seq ?_|refine .block ?_|refine .skip ?_|refine .region ?_|refine .ret ?_|refine .then_ret ?_|refine .block_ret ?_|refine .exit ?_|refine .then_exit ?_|refine .block_exit ?_|refine .block_other rfl ?_); try refine .run TBok 99 rfl ?_))
  refine St.condF rfl rfl ?_
  (repeat with_reducible first|refine .nil ?_|refine .then_normal ?_|refine .block_normal ?_|refine .seq ?_|refine .block ?_|refine .skip ?_|refine .region ?_|refine .ret ?_|refine .then_ret ?_|refine .block_ret ?_|refine .exit ?_|refine .then_exit ?_|refine .block_exit ?_|refine .block_other rfl ?_)
  refine St.sub (E' := [(1, .pointer (some ⟨w.heap.size, 0, none⟩))]) ?_ ⟨rfl, trivial⟩
  refine St.flow 3 TBfol (by kernel_rfl) rfl (by kernel_rfl) rfl True.intro ?_
  refine FL.one (L := []) rfl rfl rfl rfl rfl (fun _ hR => RunsTo.loadR rfl rfl (hR.blk (B1) (by simp)) (hp.1)) ?_
  refine FL.callXE fn_rational_Format rfl rfl rfl (fun w5 hx5 => CallF.mk rfl (formatR_spec (hp.dn.ext hx5))) ?_
  refine FL.one (L := []) rfl rfl rfl rfl rfl (fun _ hR => RunsTo.loadR rfl rfl (hR.blk (B1) (by simp)) (hp.1)) ?_
  refine FL.endE rfl ?_
  intro w5 hx5 _ _
  replace hp := hp.ext hx5
  replace hx0 := hx0.trans hx5
  clear hx5
  refine StL.step rfl rfl rfl (OpR.call fn_r02_Format rfl (rformatR_spec hp)) ?_
  rintro _ w6 ⟨hx6, rfl⟩
  replace hx0 := hx0.trans hx6
  clear hx6
  refine StL.step rfl rfl rfl (RunsTo.strIs (fmtR_b8 p) (fmtR_b8 p) rfl rfl rfl).op ?_
  rintro _ _ ⟨rfl, rfl⟩
  refine .run TBok 99 rfl ?_
  refine StL.awk rfl rfl ?_
  intro wz hxz
  (iterate 6 ((repeat with_reducible first|refine .nil ?_|refine .then_normal ?_|refine .block_normal ?_|refine .seq ?_|refine .block ?_|refine .skip ?_|refine .region ?_|refine .ret ?_|refine .then_ret ?_|refine .block_ret ?_|refine .exit ?_|refine .then_exit ?_|refine .block_exit ?_|refine .block_other rfl ?_); try refine .run TBok 99 rfl ?_))
  exact Out.ret1 rfl rfl ⟨hx0.trans hxz, rfl⟩

end Go.Qf

/- quadformref02.Pow; the law RationalPowers: the walk. -/
namespace Go.Qf
open Go Go.RowKit Go.Proofs
set_option maxRecDepth 20000

theorem MonoR.quoV (p q : Rat) : MonoR Try.prog (fun v w => QuoV w v p q) := fun _ _ _ hR h => ⟨h.1, fun e => by obtain ⟨v, e2, hv⟩ := h.2 e; exact ⟨v, e2, hv.rg hR⟩⟩
theorem one_quo (q : Rat) : ((1 : Int) : Rat) / q = q⁻¹ := by rw [Rat.div_def, Rat.intCast_one, Rat.one_mul]
theorem canR_pow {w : World} {u t : Value} {q : Rat} {n : Nat} (hu : CanO 0 w u (q.num ^ n)) (ht : CanO 0 w t ((q.den : Int) ^ n)) : CanR 0 w (mkR u t) (q ^ n) :=
  CanR.mk hu (by rw [Rat.den_pow, Int.natCast_pow]; exact ht)

set_option maxHeartbeats 3200000 in
theorem rpowR_spec {w : World} {x : Value} {q : Rat} {n : Int} (h : DnS w x q) (hq : rz q ≤ 1000) (hn : -9223372036854775808 ≤ n ∧ n ≤ 9223372036854775807) :
    Calls Try.prog 61 #[x, .int .i64 n] w (Ret fun r w' => Ext w w' ∧ PowRV w' r q n) := by
  have hzi := rz_inv q
  refine calls_of_St (args := [_, _]) Try.func61 rfl Try.ntmps61 rfl ?_
  (repeat with_reducible first|refine .nil ?_|refine .then_normal ?_|refine .block_normal ?_|refine .seq ?_|refine .block ?_|refine .skip ?_|refine .region ?_|refine .ret ?_|refine .then_ret ?_|refine .block_ret ?_|refine .exit ?_|refine .then_exit ?_|refine .block_exit ?_|refine .block_other rfl ?_)
  refine StL.step rfl rfl rfl (OpR.box rfl) ?_
  rintro _ w1 ⟨rfl, B1, hx1, hz1⟩
  refine StL.step rfl rfl rfl (OpR.alloc TBok rfl) ?_
  rintro _ w2 ⟨rfl, B4, hx2, hz2⟩
  have hx0 : Ext w w2 := hx1.trans hx2
  replace B1 := B1.ext hx2
  replace h := h.ext hx0
  clear hx1 hx2
  refine .run TBok 99 rfl ?_
  (repeat with_reducible first|refine .nil ?_|refine .then_normal ?_|refine .block_normal ?_|refine .seq ?_|refine .block ?_|refine .skip ?_|refine .region ?_|refine .ret ?_|refine .then_ret ?_|refine .block_ret ?_|refine .exit ?_|refine .then_exit ?_|refine .block_exit ?_|refine .block_other rfl ?_)
  by_cases c1 : n < -64
  · have hk := powOk_no (q := q) (n := n) (.inl c1)
    refine StL.as TBok 2 (.bool true) rfl (bool_true c1) ?_
    (iterate 6 ((repeat with_reducible first|refine .nil ?_|refine .then_normal ?_|refine .block_normal ?_|refine .seq ?_|refine .block ?_|refine .skip ?_|refine .region ?_|refine .ret ?_|refine .then_ret ?_|refine .block_ret ?_|refine .exit ?_|refine .then_exit ?_|refine .block_exit ?_|refine .block_other rfl ?_); try refine .run TBok 99 rfl ?_))
    refine St.condT rfl rfl ?_
    (iterate 6 ((repeat with_reducible first|refine .nil ?_|refine .then_normal ?_|refine .block_normal ?_|refine .seq ?_|refine .block ?_|refine .skip ?_|refine .region ?_|refine .ret ?_|refine .then_ret ?_|refine .block_ret ?_|refine .exit ?_|refine .then_exit ?_|refine .block_exit ?_|refine .block_other rfl ?_); try refine .run TBok 99 rfl ?_))
    refine StL.step rfl rfl rfl (RunsTo.build TBok rfl rfl rfl rfl).op ?_
    rintro _ _ ⟨rfl, rfl⟩
    refine StL.setR (v := zR) rfl rfl rfl zR_R4 B4 rfl hx0 (by omega) ?_
    intro w6 B5 hu5 hx5
    (iterate 6 ((repeat with_reducible first|refine .nil ?_|refine .then_normal ?_|refine .block_normal ?_|refine .seq ?_|refine .block ?_|refine .skip ?_|refine .region ?_|refine .ret ?_|refine .then_ret ?_|refine .block_ret ?_|refine .exit ?_|refine .then_exit ?_|refine .block_exit ?_|refine .block_other rfl ?_); try refine .run TBok 99 rfl ?_))
    exact Out.retRT rfl rfl rfl B5 zR_R4 ⟨hx5, zR, by rw [hk], zR_R4, fun _ => rfl, fun e => by rw [hk] at e; cases e⟩
  refine StL.as TBok 2 (.bool false) rfl (bool_false c1) ?_
  by_cases c2 : 64 < n
  · have hk := powOk_no (q := q) (n := n) (.inr (.inl c2))
    refine StL.as TBok 3 (.bool true) rfl (bool_true c2) ?_
    (iterate 6 ((repeat with_reducible first|refine .nil ?_|refine .then_normal ?_|refine .block_normal ?_|refine .seq ?_|refine .block ?_|refine .skip ?_|refine .region ?_|refine .ret ?_|refine .then_ret ?_|refine .block_ret ?_|refine .exit ?_|refine .then_exit ?_|refine .block_exit ?_|refine .block_other rfl ?_); try refine .run TBok 99 rfl ?_))
    refine St.condT rfl rfl ?_
    (iterate 6 ((repeat with_reducible first|refine .nil ?_|refine .then_normal ?_|refine .block_normal ?_|refine .seq ?_|refine .block ?_|refine .skip ?_|refine .region ?_|refine .ret ?_|refine .then_ret ?_|refine .block_ret ?_|refine .exit ?_|refine .then_exit ?_|refine .block_exit ?_|refine .block_other rfl ?_); try refine .run TBok 99 rfl ?_))
    refine StL.step rfl rfl rfl (RunsTo.build TBok rfl rfl rfl rfl).op ?_
    rintro _ _ ⟨rfl, rfl⟩
    refine StL.setR (v := zR) rfl rfl rfl zR_R4 B4 rfl hx0 (by omega) ?_
    intro w6 B5 hu5 hx5
    (iterate 6 ((repeat with_reducible first|refine .nil ?_|refine .then_normal ?_|refine .block_normal ?_|refine .seq ?_|refine .block ?_|refine .skip ?_|refine .region ?_|refine .ret ?_|refine .then_ret ?_|refine .block_ret ?_|refine .exit ?_|refine .then_exit ?_|refine .block_exit ?_|refine .block_other rfl ?_); try refine .run TBok 99 rfl ?_))
    exact Out.retRT rfl rfl rfl B5 zR_R4 ⟨hx5, zR, by rw [hk], zR_R4, fun _ => rfl, fun e => by rw [hk] at e; cases e⟩
  refine StL.as TBok 3 (.bool false) rfl (bool_false c2) ?_
  (iterate 6 ((repeat with_reducible first|refine .nil ?_|refine .then_normal ?_|refine .block_normal ?_|refine .seq ?_|refine .block ?_|refine .skip ?_|refine .region ?_|refine .ret ?_|refine .then_ret ?_|refine .block_ret ?_|refine .exit ?_|refine .then_exit ?_|refine .block_exit ?_|refine .block_other rfl ?_); try refine .run TBok 99 rfl ?_))
  refine St.condF rfl rfl ?_
  (iterate 6 ((repeat with_reducible first|refine .nil ?_|refine .then_normal ?_|refine .block_normal ?_|refine .seq ?_|refine .block ?_|refine .skip ?_|refine .region ?_|refine .ret ?_|refine .then_ret ?_|refine .block_ret ?_|refine .exit ?_|refine .then_exit ?_|refine .block_exit ?_|refine .block_other rfl ?_); try refine .run TBok 99 rfl ?_))
  refine StL.step rfl rfl rfl (RunsTo.loadR rfl rfl (B1) (h.1)).op ?_
  rintro _ _ ⟨rfl, rfl⟩
  refine StL.step rfl rfl rfl (OpR.call fn_r02_Normalize rfl (rnormalizeR_spec h)) ?_
  rintro v w3 ⟨hx3, hv⟩
  replace B4 := B4.ext hx3
  replace hx0 := hx0.trans hx3
  clear hx3
  have hl4 := B4.lt
  refine StL.newR rfl rfl (fun _ => rfl) hv.1 ?_
  intro b6 w4 hl6 hx4 B6
  replace hv := hv.ext hx4
  have B43 := B4
  have hx03 := hx0
  refine .run TBok 99 rfl ?_
  (repeat with_reducible first|refine .nil ?_|refine .then_normal ?_|refine .block_normal ?_|refine .seq ?_|refine .block ?_|refine .skip ?_|refine .region ?_|refine .ret ?_|refine .then_ret ?_|refine .block_ret ?_|refine .exit ?_|refine .then_exit ?_|refine .block_exit ?_|refine .block_other rfl ?_)
  refine .run TBok 99 rfl ?_
  refine StL.nil (Out.then_normal (St.cutX (fun g : Value × Rat × Int => [(1, .int .i64 g.2.2), (4, .pointer (some ⟨w1.heap.size, 0, none⟩)), (6, .pointer (some ⟨b6, 0, none⟩))])
    (fun g w' => Ext w3 w' ∧ Blk 33 w' b6 g.1.cells.toList ∧ CanR 0 w' g.1 g.2.1 ∧ rz g.2.1 ≤ 1000 ∧ 0 ≤ g.2.2 ∧ g.2.2 ≤ 64 ∧ g.2.1 ^ g.2.2.toNat = powR q n ∧ powOk q n = true) ?_ ?_))
  · by_cases c3 : n < 0
    · refine St.condT rfl (decide_eq_true c3) ?_
      (repeat with_reducible first|refine .nil ?_|refine .then_normal ?_|refine .block_normal ?_|refine .seq ?_|refine .block ?_|refine .skip ?_|refine .region ?_|refine .ret ?_|refine .then_ret ?_|refine .block_ret ?_|refine .exit ?_|refine .then_exit ?_|refine .block_exit ?_|refine .block_other rfl ?_)
      refine St.sub (E' := [(1, .int .i64 n), (4, .pointer (some ⟨w1.heap.size, 0, none⟩)), (6, .pointer (some ⟨b6, 0, none⟩))]) ?_ ⟨rfl, rfl, rfl, trivial⟩
      have h1z := rz_int 1
      have h1s := sz_1
      refine St.flow 8 TBfol (by kernel_rfl) rfl (by kernel_rfl) rfl True.intro ?_
      refine FL.callE fn_r02_Small rfl rfl rfl (fun w5 hx5 => CallF.mk rfl (rsmallR_spec w5 1 (by decide) (by decide))) (MonoR.canR 0 _) ?_
      refine FL.one (L := []) rfl rfl rfl rfl rfl (fun _ hR => RunsTo.loadR rfl rfl (hR.blk (B6) (by simp)) (hv.1)) ?_
      refine FL.callE fn_r02_Quo rfl rfl rfl (fun w5 hx5 t25 h25 => CallF.mk rfl (rquoR_spec (h25.dnS (by omega)) ((hv.ext hx5).dnS (by omega)) (by omega) (by omega))) (MonoR.quoV _ _) ?_
      refine FL.fact (L := []) (ψ := fun r w' => QuoV w' r ((1 : Int) : Rat) q) rfl rfl rfl rfl rfl (fun w5 hR r hr => RunsTo.ext (RunsTo.pure TBok rfl) hr) (MonoR.quoV _ _) ?_
      refine FL.fact (L := []) (ψ := fun v w' => R4 v ∧ (q = 0 → v = zR) ∧ (q ≠ 0 → CanR 0 w' v q⁻¹)) rfl rfl rfl rfl rfl ?_ (fun _ _ _ hR h => ⟨h.1, h.2.1, fun e => (h.2.2 e).rg hR⟩) ?_
      · intro w5 hR r hr
        obtain ⟨t, rfl, t4, t0, t1⟩ := hr.open
        rw [one_quo] at t1
        exact RunsTo.ext (RunsTo.pure TBok rfl) ⟨t4, t0, t1⟩
      refine FL.exact (L := []) (c := .bool (decide (q ≠ 0))) rfl rfl rfl rfl rfl ?_ ?_
      · intro w5 hR r hr
        obtain ⟨t, rfl, _⟩ := hr.open
        exact RunsTo.ext (ψ := fun v _ => v = .bool (decide (q ≠ 0))) (RunsTo.pure TBok rfl) rfl
      refine FL.alloc TBok rfl rfl rfl rfl ?_
      refine FL.storeN (L := []) (base := w4.heap.size) TBok rfl rfl rfl rfl rfl (ψ := fun v w' => R4 v ∧ (q = 0 → v = zR) ∧ (q ≠ 0 → CanR 0 w' v q⁻¹)) (fun _ _ _ hR h => ⟨h.1, h.2.1, fun e => (h.2.2 e).rg hR⟩) ?_ ?_
      · intro w5 hR v7 h7 t28 h28
        exact ⟨⟨v7, rfl, h7⟩, t28, rfl, h28.1.len, h28.1.ones, h28⟩
      refine FL.endE rfl ?_
      rintro w5 hx5 _ ⟨b7, C7, rfl, _, _, _⟩ _ _ _ _ _ _ _ _ ⟨⟨b7', t, hbb, B7, ht⟩, _⟩ _
      cases hbb
      replace B6 := B6.ext hx5
      have hx35 := hx4.trans hx5
      by_cases e : q = 0
      · rw [decide_eq_false (fun h => h e)]
        have hk := powOk_no (q := q) (n := n) (.inr (.inr ⟨c3, e⟩))
        (iterate 6 ((repeat with_reducible first|refine .nil ?_|refine .then_normal ?_|refine .block_normal ?_|refine .seq ?_|refine .block ?_|refine .skip ?_|refine .region ?_|refine .ret ?_|refine .then_ret ?_|refine .block_ret ?_|refine .exit ?_|refine .then_exit ?_|refine .block_exit ?_|refine .block_other rfl ?_); try refine .run TBok 99 rfl ?_))
        refine St.condT rfl rfl ?_
        (iterate 6 ((repeat with_reducible first|refine .nil ?_|refine .then_normal ?_|refine .block_normal ?_|refine .seq ?_|refine .block ?_|refine .skip ?_|refine .region ?_|refine .ret ?_|refine .then_ret ?_|refine .block_ret ?_|refine .exit ?_|refine .then_exit ?_|refine .block_exit ?_|refine .block_other rfl ?_); try refine .run TBok 99 rfl ?_))
        refine StL.step rfl rfl rfl (RunsTo.build TBok rfl rfl rfl rfl).op ?_
        rintro _ _ ⟨rfl, rfl⟩
        refine StL.setR (v := zR) rfl rfl rfl zR_R4 (B43.ext hx35) rfl (hx03.trans hx35) (by omega) ?_
        intro w6 B5 hu5 hx6
        (iterate 6 ((repeat with_reducible first|refine .nil ?_|refine .then_normal ?_|refine .block_normal ?_|refine .seq ?_|refine .block ?_|refine .skip ?_|refine .region ?_|refine .ret ?_|refine .then_ret ?_|refine .block_ret ?_|refine .exit ?_|refine .then_exit ?_|refine .block_exit ?_|refine .block_other rfl ?_); try refine .run TBok 99 rfl ?_))
        exact Out.retRT rfl rfl rfl B5 zR_R4 ⟨hx6, zR, by rw [hk], zR_R4, fun _ => rfl, fun e => by rw [hk] at e; cases e⟩
      · rw [decide_eq_true e]
        replace ht := ht.2.2 e
        (iterate 6 ((repeat with_reducible first|refine .nil ?_|refine .then_normal ?_|refine .block_normal ?_|refine .seq ?_|refine .block ?_|refine .skip ?_|refine .region ?_|refine .ret ?_|refine .then_ret ?_|refine .block_ret ?_|refine .exit ?_|refine .then_exit ?_|refine .block_exit ?_|refine .block_other rfl ?_); try refine .run TBok 99 rfl ?_))
        refine St.condF rfl rfl ?_
        (iterate 6 ((repeat with_reducible first|refine .nil ?_|refine .then_normal ?_|refine .block_normal ?_|refine .seq ?_|refine .block ?_|refine .skip ?_|refine .region ?_|refine .ret ?_|refine .then_ret ?_|refine .block_ret ?_|refine .exit ?_|refine .then_exit ?_|refine .block_exit ?_|refine .block_other rfl ?_); try refine .run TBok 99 rfl ?_))
        refine StL.step rfl rfl rfl (RunsTo.loadR rfl rfl (B7) (ht.1)).op ?_
        rintro _ _ ⟨rfl, rfl⟩
        refine StL.as TBok 2 (.int .i64 (-n)) rfl ?_ ?_
        · congr 1
          show IntKind.i64.wrap (0 - n) = -n
          rw [i64_id (by omega) (by omega), Int.zero_sub]
        refine StL.setR rfl rfl rfl ht.1 B6 hv.1.len hx35 hl6 ?_
        intro w6 B6' hu6 hx6
        refine .run TBok 99 rfl ?_
        refine StL.nil (Out.met (t, q⁻¹, -n) ⟨rfl, rfl, rfl, trivial⟩ ⟨hx6, B6', ht.upd hu6 B6 (by decide), by dsimp only; omega, by dsimp only; omega, by dsimp only; omega, ?_, powOk_yes (by omega) (by omega) (fun h => e h.2)⟩)
        unfold powR
        rw [if_pos c3]
    · refine St.condF rfl (decide_eq_false c3) (St.skip (Out.met (v, q, n) ⟨rfl, rfl, rfl, trivial⟩ ⟨hx4, B6, hv, hq, by dsimp only; omega, by dsimp only; omega, ?_, powOk_yes (by omega) (by omega) (fun h => c3 h.1)⟩))
      unfold powR
      rw [if_neg c3]
  rintro ⟨t, p, m⟩ w5 ⟨hx5, B6, ht, hzp, hm0, hm1, heq, hk⟩
  dsimp only at B6 ht hzp hm0 hm1 heq ⊢
  replace B4 := B43.ext hx5
  replace hx0 := hx03.trans hx5
  have hpn := rz_num p
  have hpd := rz_den p
  (iterate 6 ((repeat with_reducible first|refine .nil ?_|refine .then_normal ?_|refine .block_normal ?_|refine .seq ?_|refine .block ?_|refine .skip ?_|refine .region ?_|refine .ret ?_|refine .then_ret ?_|refine .block_ret ?_|refine .exit ?_|refine .then_exit ?_|refine .block_exit ?_|refine .block_other rfl ?_); try refine .run TBok 99 rfl ?_))
  refine StL.step rfl rfl rfl (RunsTo.loadN rfl (B6) (ht.1)).op ?_
  rintro _ _ ⟨rfl, rfl⟩
  refine .run TBok 99 rfl ?_
  refine StL.step rfl rfl rfl (OpR.call fn_r01_Pow rfl (rpow_dn (ht.2.1.dn (by omega)) (by omega) ⟨by omega, by omega⟩)) ?_
  rintro _ w6 ⟨hx6, hr6⟩
  obtain ⟨t41, rfl, h41⟩ := hr6.open hm0 hm1
  replace B4 := B4.ext hx6
  replace B6 := B6.ext hx6
  replace ht := ht.ext hx6
  replace hx0 := hx0.trans hx6
  clear hx6
  refine .run TBok 99 rfl ?_
  refine StL.setNew rfl (fun _ => rfl) h41 hx0 ?_
  intro b9 w7 hl9 hx7 B9 h41' hx07
  replace B4 := B4.ext hx7
  replace B6 := B6.ext hx7
  replace ht := ht.ext hx7
  clear hx7
  (iterate 6 ((repeat with_reducible first|refine .nil ?_|refine .then_normal ?_|refine .block_normal ?_|refine .seq ?_|refine .block ?_|refine .skip ?_|refine .region ?_|refine .ret ?_|refine .then_ret ?_|refine .block_ret ?_|refine .exit ?_|refine .then_exit ?_|refine .block_exit ?_|refine .block_other rfl ?_); try refine .run TBok 99 rfl ?_))
  refine StL.step rfl rfl rfl (RunsTo.loadD rfl (B6) (ht.1)).op ?_
  rintro _ _ ⟨rfl, rfl⟩
  refine .run TBok 99 rfl ?_
  refine StL.step rfl rfl rfl (OpR.call fn_r01_Pow rfl (rpow_dn (ht.2.2.dn (by omega)) (by omega) ⟨by omega, by omega⟩)) ?_
  rintro _ w8 ⟨hx8, hr8⟩
  obtain ⟨t48, rfl, h48⟩ := hr8.open hm0 hm1
  replace B4 := B4.ext hx8
  replace B9 := B9.ext hx8
  replace h41' := h41'.ext hx8
  replace hx07 := hx07.trans hx8
  clear hx8
  refine .run TBok 99 rfl ?_
  refine StL.setNew rfl (fun _ => rfl) h48 hx07 ?_
  intro b11 w9 hl11 hx9 B11 h48' hx09
  replace B4 := B4.ext hx9
  replace B9 := B9.ext hx9
  replace h41' := h41'.ext hx9
  clear hx9
  (iterate 6 ((repeat with_reducible first|refine .nil ?_|refine .then_normal ?_|refine .block_normal ?_|refine .seq ?_|refine .block ?_|refine .skip ?_|refine .region ?_|refine .ret ?_|refine .then_ret ?_|refine .block_ret ?_|refine .exit ?_|refine .then_exit ?_|refine .block_exit ?_|refine .block_other rfl ?_); try refine .run TBok 99 rfl ?_))
  refine StL.step rfl rfl rfl (RunsTo.loadI2 rfl (B9) (h41'.r2)).op ?_
  rintro _ _ ⟨rfl, rfl⟩
  refine StL.step rfl rfl rfl (RunsTo.loadI2 rfl (B11) (h48'.r2)).op ?_
  rintro _ _ ⟨rfl, rfl⟩
  refine StL.step rfl rfl rfl (RunsTo.buildR rfl rfl h41'.r2 h48'.r2).op ?_
  rintro _ _ ⟨rfl, rfl⟩
  have hR := canR_pow h41' h48'
  rw [heq] at hR
  refine StL.setR rfl rfl rfl hR.1 B4 rfl hx09 (by omega) ?_
  intro w12 B12 hu12 hx12
  (iterate 6 ((repeat with_reducible first|refine .nil ?_|refine .then_normal ?_|refine .block_normal ?_|refine .seq ?_|refine .block ?_|refine .skip ?_|refine .region ?_|refine .ret ?_|refine .then_ret ?_|refine .block_ret ?_|refine .exit ?_|refine .then_exit ?_|refine .block_exit ?_|refine .block_other rfl ?_); try refine .run TBok 99 rfl ?_))
  exact Out.retRT rfl rfl rfl B12 hR.1 ⟨hx12, _, by rw [hk], hR.1, fun e => (by rw [hk] at e; cases e), fun _ => hR.upd hu12 B4 (by decide)⟩

theorem tmod_b (n : Int) : -66 < n.tmod 66 ∧ n.tmod 66 < 66 := by
  have h1 := Int.natAbs_tmod n 66
  have h2 : (66 : Int).natAbs = 66 := rfl
  rw [h2] at h1
  have := Nat.mod_lt n.natAbs (show 0 < 66 by decide)
  omega

theorem rz_pow (q : Rat) (n : Nat) (hn : n ≤ 64) (hq : rz q ≤ 100) : rz (q ^ n) ≤ 6401 := by
  have h1 := sz_pow q.num n
  have h2 := sz_pow (q.den : Int) n
  have h3 := rz_num q
  have h4 := rz_den q
  have h5 : n * sz q.num ≤ 64 * 100 := Nat.mul_le_mul hn (by omega)
  have h6 : n * sz (q.den : Int) ≤ 64 * 100 := Nat.mul_le_mul hn (by omega)
  unfold rz
  rw [Rat.num_pow, Rat.den_pow, Int.natCast_pow]
  omega
theorem rz_powR {q : Rat} {n : Int} (h : powOk q n = true) (hq : rz q ≤ 99) : rz (powR q n) ≤ 6401 := by
  have hk := of_decide_eq_true h
  have hi := rz_inv q
  unfold powR
  split
  · exact rz_pow _ _ (by omega) (by omega)
  · exact rz_pow _ _ (by omega) (by omega)

set_option maxHeartbeats 3200000 in
theorem lawPowR (w : World) (v : Value) (h : InR w v) (n : Int) (hn : -9223372036854775808 ≤ n ∧ n ≤ 9223372036854775807) : Calls Try.prog 17 #[v, .int .i64 n] w (Ret fun r w' => Ext w w' ∧ r = .bool true) := by
  obtain ⟨na, xs, nb, ys, h4, hD, kD⟩ := h
  have h4' := h4
  obtain ⟨n1, s1, m1, t1, rfl, _⟩ := h4'
  have hD' := hD
  have kD' := kD
  obtain ⟨p1, c1, e1, _⟩ := hD'
  obtain ⟨p2, c2, e2, _⟩ := kD'
  cases e1
  cases e2
  refine calls_of_St (args := [_, _]) Try.func17 rfl Try.ntmps17 rfl ?_
  (repeat with_reducible first|refine .nil ?_|refine .then_normal ?_|refine .block_normal ?_|refine .seq ?_|refine .block ?_|refine .skip ?_|refine .region ?_|refine .ret ?_|refine .then_ret ?_|refine .block_ret ?_|refine .exit ?_|refine .then_exit ?_|refine .block_exit ?_|refine .block_other rfl ?_)
  refine StL.step rfl rfl rfl (OpR.box rfl) ?_
  rintro _ w1 ⟨rfl, B1, hx0, hz1⟩
  (iterate 6 ((repeat with_reducible first|refine .nil ?_|refine .then_normal ?_|refine .block_normal ?_|refine .seq ?_|refine .block ?_|refine .skip ?_|refine .region ?_|refine .ret ?_|refine .then_ret ?_|refine .block_ret ?_|refine .exit ?_|refine .then_exit ?_|refine .block_exit ?_|refine .block_other rfl ?_); try refine .run TBok 99 rfl ?_))
  refine StL.step rfl rfl rfl (RunsTo.load TBok rfl rfl rfl (B1.cell rfl)).op ?_
  rintro _ _ ⟨rfl, rfl⟩
  by_cases l1 : 2 < xs.length
  · refine StL.as TBok 2 (.bool true) rfl (bool_true (by omega)) ?_
    (iterate 6 ((repeat with_reducible first|refine .nil ?_|refine .then_normal ?_|refine .block_normal ?_|refine .seq ?_|refine .block ?_|refine .skip ?_|refine .region ?_|refine .ret ?_|refine .then_ret ?_|refine .block_ret ?_|refine .exit ?_|refine .then_exit ?_|refine .block_exit ?_|refine .block_other rfl ?_); try refine .run TBok 99 rfl ?_))
    refine St.condT rfl rfl ?_
    (repeat with_reducible first|refine .nil ?_|refine .then_normal ?_|refine .block_normal ?_|refine .seq ?_|refine .block ?_|refine .skip ?_|refine .region ?_|refine .ret ?_|refine .then_ret ?_|refine .block_ret ?_|refine .exit ?_|refine .then_exit ?_|refine .block_exit ?_|refine .block_other rfl ?_)
    refine StL.awk rfl rfl ?_
    intro wz hxz
    (iterate 6 ((repeat with_reducible first|refine .nil ?_|refine .then_normal ?_|refine .block_normal ?_|refine .seq ?_|refine .block ?_|refine .skip ?_|refine .region ?_|refine .ret ?_|refine .then_ret ?_|refine .block_ret ?_|refine .exit ?_|refine .then_exit ?_|refine .block_exit ?_|refine .block_other rfl ?_); try refine .run TBok 99 rfl ?_))
    exact Out.ret1 rfl rfl ⟨hx0.trans hxz, rfl⟩
  refine StL.as TBok 2 (.bool false) rfl (bool_false (by omega)) ?_
  refine .run TBok 99 rfl ?_
  refine StL.step rfl rfl rfl (RunsTo.load TBok rfl rfl rfl (B1.cell rfl)).op ?_
  rintro _ _ ⟨rfl, rfl⟩
  by_cases l2 : 2 < ys.length
  · refine StL.as TBok 2 (.bool true) rfl (bool_true (by omega)) ?_
    (iterate 6 ((repeat with_reducible first|refine .nil ?_|refine .then_normal ?_|refine .block_normal ?_|refine .seq ?_|refine .block ?_|refine .skip ?_|refine .region ?_|refine .ret ?_|refine .then_ret ?_|refine .block_ret ?_|refine .exit ?_|refine .then_exit ?_|refine .block_exit ?_|refine .block_other rfl ?_); try refine .run TBok 99 rfl ?_))
    refine St.condT rfl rfl ?_
    (repeat with_reducible first|refine .nil ?_|refine .then_normal ?_|refine .block_normal ?_|refine .seq ?_|refine .block ?_|refine .skip ?_|refine .region ?_|refine .ret ?_|refine .then_ret ?_|refine .block_ret ?_|refine .exit ?_|refine .then_exit ?_|refine .block_exit ?_|refine .block_other rfl ?_)
    refine StL.awk rfl rfl ?_
    intro wz hxz
    (iterate 6 ((repeat with_reducible first|refine .nil ?_|refine .then_normal ?_|refine .block_normal ?_|refine .seq ?_|refine .block ?_|refine .skip ?_|refine .region ?_|refine .ret ?_|refine .then_ret ?_|refine .block_ret ?_|refine .exit ?_|refine .then_exit ?_|refine .block_exit ?_|refine .block_other rfl ?_); try refine .run TBok 99 rfl ?_))
    exact Out.ret1 rfl rfl ⟨hx0.trans hxz, rfl⟩
  refine StL.as TBok 2 (.bool false) rfl (bool_false (by omega)) ?_
  (iterate 6 ((repeat with_reducible first|refine .nil ?_|refine .then_normal ?_|refine .block_normal ?_|refine .seq ?_|refine .block ?_|refine .skip ?_|refine .region ?_|refine .ret ?_|refine .then_ret ?_|refine .block_ret ?_|refine .exit ?_|refine .then_exit ?_|refine .block_exit ?_|refine .block_other rfl ?_); try refine .run TBok 99 rfl ?_))
  refine St.condF rfl rfl ?_
  have hsh : ShR w1 (.agg #[.bool na, .slice p1 xs.length c1, .bool nb, .slice p2 ys.length c2]) := ⟨na, xs, nb, ys, h4, hD.ext hx0, kD.ext hx0, by omega, by omega⟩
  obtain ⟨q, hq, zq⟩ := hsh.q
  generalize (Value.agg #[.bool na, .slice p1 xs.length c1, .bool nb, .slice p2 ys.length c2]) = v at *
  have htm := tmod_b n
  (iterate 6 ((repeat with_reducible first|refine .nil ?_|refine .then_normal ?_|refine .block_normal ?_|refine .seq ?_|refine .block ?_|refine .skip ?_|refine .region ?_|refine .ret ?_|refine .then_ret ?_|refine .block_ret ?_|refine .exit ?_|refine .then_exit ?_|refine .block_exit ?_|refine .block_other rfl ?_); try refine .run TBok 99 rfl ?_))
  refine StL.step rfl rfl rfl (RunsTo.remT rfl rfl (by decide)).op ?_
  rintro _ _ ⟨rfl, rfl⟩
  refine StL.step rfl rfl rfl (OpR.five TBok rfl rfl rfl rfl rfl rfl rfl rfl) ?_
  rintro _ w2 ⟨rfl, hbl, hx2, hz2⟩
  refine .run TBok 99 rfl ?_
  obtain ⟨ks, hks⟩ : ∃ ks, ks = [n, n.tmod 66, 0, -1, 65] := ⟨_, rfl⟩
  have hkl : ks.length = 5 := by rw [hks]; rfl
  have hkb : ∀ k ∈ ks, -9223372036854775808 ≤ k ∧ k ≤ 9223372036854775807 := by
    intro k hk
    rw [hks] at hk
    simp at hk
    omega
  rw [← hks] at hbl
  replace B1 := B1.ext hx2
  replace hq := hq.ext hx2
  replace hx0 := hx0.trans hx2
  clear hx2
  (repeat with_reducible first|refine .nil ?_|refine .then_normal ?_|refine .block_normal ?_|refine .seq ?_|refine .block ?_|refine .skip ?_|refine .region ?_|refine .ret ?_|refine .then_ret ?_|refine .block_ret ?_|refine .exit ?_|refine .then_exit ?_|refine .block_exit ?_|refine .block_other rfl ?_)
  refine St.loop (fun i : Nat => [(2, .pointer (some ⟨w.heap.size, 0, none⟩)), (27, .slice (some ⟨w1.heap.size, 0, none⟩) 5 5), (28, .int .i64 5), (29, .int .i64 i)])
    (fun i w' => Ext w2 w' ∧ i ≤ 5) (fun i => 5 - i) 0 ⟨rfl, rfl, rfl, rfl, trivial⟩ ⟨Ext.refl _, by decide⟩ ?_
  rintro i w3 ⟨hx23, hi⟩
  by_cases hlt : i < 5
  · have hki : ks[i]? = some ks[i] := by simp
    have hkb' := hkb ks[i] (List.getElem_mem _)
    generalize ks[i] = k at hki hkb'
    have B3 := B1.ext hx23
    have hl3 := hbl.ext hx23
    have hq3 := hq.ext hx23
    (repeat with_reducible first|refine .nil ?_|refine .then_normal ?_|refine .block_normal ?_|refine .seq ?_|refine .block ?_|refine .skip ?_|refine .region ?_|refine .ret ?_|refine .then_ret ?_|refine .block_ret ?_|refine .exit ?_|refine .then_exit ?_|refine .block_exit ?_|refine .block_other rfl ?_)
    refine StL.as TBok 1 (.bool true) rfl (bool_true (by omega)) ?_
    (repeat with_reducible first|refine .nil ?_|refine .then_normal ?_|refine .block_normal ?_|refine .seq ?_|refine .block ?_|refine .skip ?_|refine .region ?_|refine .ret ?_|refine .then_ret ?_|refine .block_ret ?_|refine .exit ?_|refine .then_exit ?_|refine .block_exit ?_|refine .block_other rfl ?_)
    refine St.condT rfl rfl ?_
    (iterate 6 ((repeat with_reducible first|refine .nil ?_|refine .then_normal ?_|refine .block_normal ?_|refine .seq ?_|refine .block ?_|refine .skip ?_|refine .region ?_|refine .ret ?_|refine .then_ret ?_|refine .block_ret ?_|refine .exit ?_|refine .then_exit ?_|refine .block_exit ?_|refine .block_other rfl ?_); try refine .run TBok 99 rfl ?_))
    refine StL.elemB TBok i (.int .i64 k) hl3 (by simp [hki]) rfl hlt rfl rfl rfl rfl rfl rfl rfl rfl rfl rfl (fun _ => rfl) ?_
    intro p1
    (iterate 6 ((repeat with_reducible first|refine .nil ?_|refine .then_normal ?_|refine .block_normal ?_|refine .seq ?_|refine .block ?_|refine .skip ?_|refine .region ?_|refine .ret ?_|refine .then_ret ?_|refine .block_ret ?_|refine .exit ?_|refine .then_exit ?_|refine .block_exit ?_|refine .block_other rfl ?_); try refine .run TBok 99 rfl ?_))
    refine StL.step rfl rfl rfl (RunsTo.loadR rfl rfl (B3) (hq3.1)).op ?_
    rintro _ _ ⟨rfl, rfl⟩
    refine .run TBok 99 rfl ?_
    refine StL.step rfl rfl rfl (OpR.call fn_rational_Pow rfl (powR_spec hq3.dn (by omega) hkb')) ?_
    rintro _ w4 ⟨hx4, a, rfl, a4, a0, a1⟩
    replace B3 := B3.ext hx4
    replace hq3 := hq3.ext hx4
    replace hx23 := hx23.trans hx4
    clear hx4
    refine .run TBok 99 rfl ?_
    refine StL.newR rfl rfl (fun _ => rfl) a4 ?_
    intro b7 w5 hl7 hx5 B7
    replace a1 := fun e => (a1 e).ext hx5
    replace B3 := B3.ext hx5
    replace hq3 := hq3.ext hx5
    replace hx23 := hx23.trans hx5
    clear hx5
    refine .run TBok 99 rfl ?_
    (repeat with_reducible first|refine .nil ?_|refine .then_normal ?_|refine .block_normal ?_|refine .seq ?_|refine .block ?_|refine .skip ?_|refine .region ?_|refine .ret ?_|refine .then_ret ?_|refine .block_ret ?_|refine .exit ?_|refine .then_exit ?_|refine .block_exit ?_|refine .block_other rfl ?_)
    refine StL.step rfl rfl rfl (RunsTo.loadR rfl rfl (B3) (hq3.1)).op ?_
    rintro _ _ ⟨rfl, rfl⟩
    refine .run TBok 99 rfl ?_
    refine StL.step rfl rfl rfl (OpR.call fn_r02_Pow rfl (rpowR_spec hq3 (by omega) hkb')) ?_
    rintro _ w6 ⟨hx6, b, rfl, b4, b0, b1⟩
    replace a1 := fun e => (a1 e).ext hx6
    replace B7 := B7.ext hx6
    replace hx23 := hx23.trans hx6
    clear hx6
    refine .run TBok 99 rfl ?_
    refine StL.newR rfl rfl (fun _ => rfl) b4 ?_
    intro b9 w7 hl9 hx7 B9
    replace a1 := fun e => (a1 e).ext hx7
    replace b1 := fun e => (b1 e).ext hx7
    replace B7 := B7.ext hx7
    replace hx23 := hx23.trans hx7
    clear hx7
    refine .run TBok 99 rfl ?_
    (repeat with_reducible first|refine .nil ?_|refine .then_normal ?_|refine .block_normal ?_|refine .seq ?_|refine .block ?_|refine .skip ?_|refine .region ?_|refine .ret ?_|refine .then_ret ?_|refine .block_ret ?_|refine .exit ?_|refine .then_exit ?_|refine .block_exit ?_|refine .block_other rfl ?_)
    have hs : Calls Try.prog 25 #[a, b] w7 (Ret fun r w' => Ext w7 w' ∧ r = .bool true) := by
      by_cases e : powOk q k = true
      · have := rz_powR e (by omega)
        exact sameR_can (a1 e) (b1 e) (by omega)
      · have e' : powOk q k = false := by simpa using e
        rw [a0 e', b0 e']
        exact sameR_zero w7
    refine StL.step rfl rfl rfl (RunsTo.loadR rfl rfl (B7) (a4)).op ?_
    rintro _ _ ⟨rfl, rfl⟩
    refine StL.step rfl rfl rfl (RunsTo.loadR rfl rfl (B9) (b4)).op ?_
    rintro _ _ ⟨rfl, rfl⟩
    refine StL.step rfl rfl rfl (OpR.call fn_r02_Same rfl (hs)) ?_
    rintro _ w8 ⟨hx8, rfl⟩
    replace hx23 := hx23.trans hx8
    clear hx8
    refine .run TBok 99 rfl ?_
    refine StL.step rfl rfl rfl (RunsTo.boolNe TBok rfl rfl rfl).op ?_
    rintro _ _ ⟨rfl, rfl⟩
    rw [show (!(powOk q k == powOk q k)) = false from by simp]
    (iterate 6 ((repeat with_reducible first|refine .nil ?_|refine .then_normal ?_|refine .block_normal ?_|refine .seq ?_|refine .block ?_|refine .skip ?_|refine .region ?_|refine .ret ?_|refine .then_ret ?_|refine .block_ret ?_|refine .exit ?_|refine .then_exit ?_|refine .block_exit ?_|refine .block_other rfl ?_); try refine .run TBok 99 rfl ?_))
    refine St.condF rfl rfl ?_
    (iterate 6 ((repeat with_reducible first|refine .nil ?_|refine .then_normal ?_|refine .block_normal ?_|refine .seq ?_|refine .block ?_|refine .skip ?_|refine .region ?_|refine .ret ?_|refine .then_ret ?_|refine .block_ret ?_|refine .exit ?_|refine .then_exit ?_|refine .block_exit ?_|refine .block_other rfl ?_); try refine .run TBok 99 rfl ?_))
    refine Out.again (i + 1) ⟨rfl, rfl, rfl, ?_, trivial⟩ ⟨hx23, by omega⟩ (by omega)
    show some (Value.int .i64 (IntKind.i64.wrap ((i : Int) + 1))) = _
    rw [i64_id (by omega) (by omega)]; rfl
  · (repeat with_reducible first|refine .nil ?_|refine .then_normal ?_|refine .block_normal ?_|refine .seq ?_|refine .block ?_|refine .skip ?_|refine .region ?_|refine .ret ?_|refine .then_ret ?_|refine .block_ret ?_|refine .exit ?_|refine .then_exit ?_|refine .block_exit ?_|refine .block_other rfl ?_)
    refine StL.as TBok 1 (.bool false) rfl (bool_false (by omega)) ?_
    (repeat with_reducible first|refine .nil ?_|refine .then_normal ?_|refine .block_normal ?_|refine .seq ?_|refine .block ?_|refine .skip ?_|refine .region ?_|refine .ret ?_|refine .then_ret ?_|refine .block_ret ?_|refine .exit ?_|refine .then_exit ?_|refine .block_exit ?_|refine .block_other rfl ?_)
    refine St.condF rfl rfl ?_
    replace hx0 := hx0.trans hx23
    (repeat with_reducible first|refine .nil ?_|refine .then_normal ?_|refine .block_normal ?_|refine .seq ?_|refine .block ?_|refine .skip ?_|refine .region ?_|refine .ret ?_|refine .then_ret ?_|refine .block_ret ?_|refine .exit ?_|refine .then_exit ?_|refine .block_exit ?_|refine .block_other rfl ?_)
    refine StL.awk rfl rfl ?_
    intro wz hxz
    (iterate 6 ((repeat with_reducible first|refine .nil ?_|refine .then_normal ?_|refine .block_normal ?_|refine .seq ?_|refine .block ?_|refine .skip ?_|refine .region ?_|refine .ret ?_|refine .then_ret ?_|refine .block_ret ?_|refine .exit ?_|refine .then_exit ?_|refine .block_exit ?_|refine .block_other rfl ?_); try refine .run TBok 99 rfl ?_))
    exact Out.ret1 rfl rfl ⟨hx0.trans hxz, rfl⟩

end Go.Qf
