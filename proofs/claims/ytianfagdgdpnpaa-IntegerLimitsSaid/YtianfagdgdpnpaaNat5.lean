/- integer.subNat. -/
import Derived.Test.YtianfagdgdpnpaaNat4
namespace Go.Qf
open Go Go.RowKit Go.Proofs

theorem val_take_succ' (xs : List Nat) (k : Nat) : val (xs.take (k + 1)) = val (xs.take k) + xs.getD k 0 * 4294967296 ^ k := by
  by_cases h : k < xs.length
  · have hx : xs[k]? = some xs[k] := by simp [h]
    rw [val_take_succ hx]
    simp [List.getD_eq_getElem?_getD, hx]
  · rw [List.take_of_length_le (by omega), List.take_of_length_le (by omega), List.getD_eq_getElem?_getD, List.getElem?_eq_none (by omega)]
    simp

theorem lim_getD {xs : List Nat} (h : Lim xs) (k : Nat) : xs.getD k 0 < 4294967296 := by
  rw [List.getD_eq_getElem?_getD]
  cases hx : xs[k]? with
  | none => simp
  | some x => simpa using h.get hx

theorem step_sub (S X Y D c x y v c' : Nat) (h : S + Y = X + c * D) (hv : x + c' * 4294967296 = v + c + y) : (S + v * D) + (Y + y * D) = (X + x * D) + c' * (D * 4294967296) := by
  have h1 := congrArg (· * D) hv
  simp only [Nat.add_mul] at h1
  have e : c' * 4294967296 * D = c' * (D * 4294967296) := by rw [Nat.mul_assoc, Nat.mul_comm 4294967296]
  omega

set_option maxRecDepth 4000 in
set_option maxHeartbeats 400000 in
theorem subNat_spec (w : World) (u v : Value) (xs ys : List Nat) (h : Sl w u xs) (k : Sl w v ys) (hlen : xs.length ≤ 100000000) (hl : ys.length ≤ 100000000) (hll : ys.length ≤ xs.length) (hge : val ys ≤ val xs) :
    Calls Try.prog 71 #[u, v] w (Ret fun r w' => Ext w w' ∧ SlO w.heap.size w' r (limbs (val xs - val ys))) := by
  obtain ⟨p, c, rfl, _⟩ := h.form
  obtain ⟨q, d, rfl, _⟩ := k.form
  refine calls_of_St (args := [_, _]) Try.func71 rfl Try.ntmps71 rfl ?_
  ((repeat with_reducible first | refine StL.nil ?_ | refine Out.then_normal ?_ | refine Out.block_normal ?_ | refine St.seq ?_ | refine St.block ?_ | refine St.skip ?_ | refine St.region ?_ | refine St.ret ?_ | refine Out.then_ret ?_ | refine Out.block_ret ?_ | refine St.exit ?_ | refine Out.then_exit ?_ | refine Out.block_exit ?_); try refine StL.run TBok 99 rfl ?_; (repeat with_reducible first | refine StL.nil ?_ | refine Out.then_normal ?_ | refine Out.block_normal ?_ | refine St.seq ?_ | refine St.block ?_ | refine St.skip ?_ | refine St.region ?_ | refine St.ret ?_ | refine Out.then_ret ?_ | refine Out.block_ret ?_ | refine St.exit ?_ | refine Out.then_exit ?_ | refine Out.block_exit ?_); try refine StL.run TBok 99 rfl ?_; (repeat with_reducible first | refine StL.nil ?_ | refine Out.then_normal ?_ | refine Out.block_normal ?_ | refine St.seq ?_ | refine St.block ?_ | refine St.skip ?_ | refine St.region ?_ | refine St.ret ?_ | refine Out.then_ret ?_ | refine Out.block_ret ?_ | refine St.exit ?_ | refine Out.then_exit ?_ | refine Out.block_exit ?_); try refine StL.run TBok 99 rfl ?_; (repeat with_reducible first | refine StL.nil ?_ | refine Out.then_normal ?_ | refine Out.block_normal ?_ | refine St.seq ?_ | refine St.block ?_ | refine St.skip ?_ | refine St.region ?_ | refine St.ret ?_ | refine Out.then_ret ?_ | refine Out.block_ret ?_ | refine St.exit ?_ | refine Out.then_exit ?_ | refine Out.block_exit ?_); try refine StL.run TBok 99 rfl ?_; (repeat with_reducible first | refine StL.nil ?_ | refine Out.then_normal ?_ | refine Out.block_normal ?_ | refine St.seq ?_ | refine St.block ?_ | refine St.skip ?_ | refine St.region ?_ | refine St.ret ?_ | refine Out.then_ret ?_ | refine Out.block_ret ?_ | refine St.exit ?_ | refine Out.then_exit ?_ | refine Out.block_exit ?_))
  refine StL.step rfl rfl rfl (OpR.make TBok xs.length rfl rfl rfl rfl rfl rfl rfl rfl (by simp; omega) (by omega)) ?_
  rintro _ w1 ⟨rfl, hb1, hx1, _⟩
  ((repeat with_reducible first | refine StL.nil ?_ | refine Out.then_normal ?_ | refine Out.block_normal ?_ | refine St.seq ?_ | refine St.block ?_ | refine St.skip ?_ | refine St.region ?_ | refine St.ret ?_ | refine Out.then_ret ?_ | refine Out.block_ret ?_ | refine St.exit ?_ | refine Out.then_exit ?_ | refine Out.block_exit ?_); try refine StL.run TBok 99 rfl ?_; (repeat with_reducible first | refine StL.nil ?_ | refine Out.then_normal ?_ | refine Out.block_normal ?_ | refine St.seq ?_ | refine St.block ?_ | refine St.skip ?_ | refine St.region ?_ | refine St.ret ?_ | refine Out.then_ret ?_ | refine Out.block_ret ?_ | refine St.exit ?_ | refine Out.then_exit ?_ | refine Out.block_exit ?_); try refine StL.run TBok 99 rfl ?_; (repeat with_reducible first | refine StL.nil ?_ | refine Out.then_normal ?_ | refine Out.block_normal ?_ | refine St.seq ?_ | refine St.block ?_ | refine St.skip ?_ | refine St.region ?_ | refine St.ret ?_ | refine Out.then_ret ?_ | refine Out.block_ret ?_ | refine St.exit ?_ | refine Out.then_exit ?_ | refine Out.block_exit ?_); try refine StL.run TBok 99 rfl ?_; (repeat with_reducible first | refine StL.nil ?_ | refine Out.then_normal ?_ | refine Out.block_normal ?_ | refine St.seq ?_ | refine St.block ?_ | refine St.skip ?_ | refine St.region ?_ | refine St.ret ?_ | refine Out.then_ret ?_ | refine Out.block_ret ?_ | refine St.exit ?_ | refine Out.then_exit ?_ | refine Out.block_exit ?_); try refine StL.run TBok 99 rfl ?_; (repeat with_reducible first | refine StL.nil ?_ | refine Out.then_normal ?_ | refine Out.block_normal ?_ | refine St.seq ?_ | refine St.block ?_ | refine St.skip ?_ | refine St.region ?_ | refine St.ret ?_ | refine Out.then_ret ?_ | refine Out.block_ret ?_ | refine St.exit ?_ | refine Out.then_exit ?_ | refine Out.block_exit ?_))
  refine St.loop (fun g : Nat × Nat × List Nat => [(0, .slice p xs.length c), (1, .slice q ys.length d), (5, .slice (some ⟨w.heap.size, 0, none⟩) xs.length xs.length), (6, .int .u64 g.2.1), (13, .int .i64 xs.length), (14, .int .i64 g.1)])
    (fun g w2 => Ext w w2 ∧ Blk 41 w2 w.heap.size (g.2.2.map u32) ∧ g.2.2.length = xs.length ∧ Lim g.2.2 ∧ g.2.1 ≤ 1 ∧ g.1 ≤ xs.length ∧ val (g.2.2.take g.1) + val (ys.take g.1) = val (xs.take g.1) + g.2.1 * 4294967296 ^ g.1)
    (fun g => xs.length - g.1) (0, 0, List.replicate xs.length 0) ⟨rfl, rfl, rfl, rfl, rfl, rfl, trivial⟩ ⟨hx1, by rw [List.map_replicate]; exact hb1, by simp, lim_replicate _, by simp, by simp, by simp [val]⟩ ?_
  rintro ⟨j, cy, us⟩ w2 ⟨hx2, hb2, hul, hulim, hcy, hj, heq⟩
  simp only at hb2 hul hulim hcy hj heq
  have hA := h.ext hx2
  have hB := k.ext hx2
  by_cases hlt : j < xs.length
  · have hxi : xs[j]? = some xs[j] := by simp
    generalize xs[j] = x at hxi
    have hxl := h.2.get hxi
    have hyl := lim_getD k.2 j
    (repeat with_reducible first | refine StL.nil ?_ | refine Out.then_normal ?_ | refine Out.block_normal ?_ | refine St.seq ?_ | refine St.block ?_ | refine St.skip ?_ | refine St.region ?_ | refine St.ret ?_ | refine Out.then_ret ?_ | refine Out.block_ret ?_ | refine St.exit ?_ | refine Out.then_exit ?_ | refine Out.block_exit ?_)
    refine StL.as TBok 1 (.bool true) rfl (bool_true (by omega)) ?_
    (repeat with_reducible first | refine StL.nil ?_ | refine Out.then_normal ?_ | refine Out.block_normal ?_ | refine St.seq ?_ | refine St.block ?_ | refine St.skip ?_ | refine St.region ?_ | refine St.ret ?_ | refine Out.then_ret ?_ | refine Out.block_ret ?_ | refine St.exit ?_ | refine Out.then_exit ?_ | refine Out.block_exit ?_)
    refine St.condT rfl rfl ?_
    (repeat with_reducible first | refine StL.nil ?_ | refine Out.then_normal ?_ | refine Out.block_normal ?_ | refine St.seq ?_ | refine St.block ?_ | refine St.skip ?_ | refine St.region ?_ | refine St.ret ?_ | refine Out.then_ret ?_ | refine Out.block_ret ?_ | refine St.exit ?_ | refine Out.then_exit ?_ | refine Out.block_exit ?_)
    refine StL.run TBok 99 rfl ?_
    (repeat with_reducible first | refine StL.nil ?_ | refine Out.then_normal ?_ | refine Out.block_normal ?_ | refine St.seq ?_ | refine St.block ?_ | refine St.skip ?_ | refine St.region ?_ | refine St.ret ?_ | refine Out.then_ret ?_ | refine Out.block_ret ?_ | refine St.exit ?_ | refine Out.then_exit ?_ | refine Out.block_exit ?_)
    refine StL.run TBok 99 rfl ?_
    refine StL.elem TBok j (u32 x) hA.1 (hA.get hxi) rfl rfl rfl rfl rfl rfl rfl rfl rfl rfl rfl (fun _ => rfl) ?_
    intro p1
    refine StL.run TBok 99 rfl ?_
    (refine StL.nil ?_; repeat with_reducible first | refine Out.then_normal ?_ | refine Out.block_normal ?_)
    refine St.cut (fun t : Int => [(0, .slice p xs.length c), (1, .slice q ys.length d), (5, .slice (some ⟨w.heap.size, 0, none⟩) xs.length xs.length), (7, .int .i64 j), (8, .int .u64 t), (13, .int .i64 xs.length), (14, .int .i64 j)])
      (fun t w3 => w3 = w2 ∧ t = IntKind.u64.wrap ((x : Int) - cy - ys.getD j 0)) ?_ ?_
    · (repeat with_reducible first | refine StL.nil ?_ | refine Out.then_normal ?_ | refine Out.block_normal ?_ | refine St.seq ?_ | refine St.block ?_ | refine St.skip ?_ | refine St.region ?_ | refine St.ret ?_ | refine Out.then_ret ?_ | refine Out.block_ret ?_ | refine St.exit ?_ | refine Out.then_exit ?_ | refine Out.block_exit ?_)
      by_cases hy : j < ys.length
      · have hyi : ys[j]? = some ys[j] := by simp
        generalize ys[j] = y at hyi
        have hyD : ys.getD j 0 = y := by simp [List.getD_eq_getElem?_getD, hyi]
        refine StL.as TBok 4 (.bool true) rfl (bool_true (by omega)) ?_
        (repeat with_reducible first | refine StL.nil ?_ | refine Out.then_normal ?_ | refine Out.block_normal ?_ | refine St.seq ?_ | refine St.block ?_ | refine St.skip ?_ | refine St.region ?_ | refine St.ret ?_ | refine Out.then_ret ?_ | refine Out.block_ret ?_ | refine St.exit ?_ | refine Out.then_exit ?_ | refine Out.block_exit ?_)
        refine St.condT rfl rfl ?_
        (repeat with_reducible first | refine StL.nil ?_ | refine Out.then_normal ?_ | refine Out.block_normal ?_ | refine St.seq ?_ | refine St.block ?_ | refine St.skip ?_ | refine St.region ?_ | refine St.ret ?_ | refine Out.then_ret ?_ | refine Out.block_ret ?_ | refine St.exit ?_ | refine Out.then_exit ?_ | refine Out.block_exit ?_)
        refine StL.run TBok 99 rfl ?_
        refine StL.elem TBok j (u32 y) hB.1 (hB.get hyi) rfl rfl rfl rfl rfl rfl rfl rfl rfl rfl rfl (fun _ => rfl) ?_
        intro p2
        refine StL.run TBok 99 rfl ?_
        refine StL.nil (Out.met _ ⟨rfl, rfl, rfl, rfl, rfl, rfl, rfl, trivial⟩ ⟨rfl, ?_⟩)
        rw [hyD]
        rw [hyD] at hyl
        simp only [wrap_u64]; omega
      · have hyD : ys.getD j 0 = 0 := by rw [List.getD_eq_getElem?_getD, List.getElem?_eq_none (by omega)]; rfl
        refine StL.as TBok 4 (.bool false) rfl (bool_false (by omega)) ?_
        (repeat with_reducible first | refine StL.nil ?_ | refine Out.then_normal ?_ | refine Out.block_normal ?_ | refine St.seq ?_ | refine St.block ?_ | refine St.skip ?_ | refine St.region ?_ | refine St.ret ?_ | refine Out.then_ret ?_ | refine Out.block_ret ?_ | refine St.exit ?_ | refine Out.then_exit ?_ | refine Out.block_exit ?_)
        refine St.condF rfl rfl ?_
        refine St.skip (Out.met _ ⟨rfl, rfl, rfl, rfl, rfl, rfl, rfl, trivial⟩ ⟨rfl, ?_⟩)
        rw [hyD]
        simp only [wrap_u64]; omega
    rintro t w3 ⟨rfl, rfl⟩
    generalize hy : ys.getD j 0 = y at *
    ((repeat with_reducible first | refine StL.nil ?_ | refine Out.then_normal ?_ | refine Out.block_normal ?_ | refine St.seq ?_ | refine St.block ?_ | refine St.skip ?_ | refine St.region ?_ | refine St.ret ?_ | refine Out.then_ret ?_ | refine Out.block_ret ?_ | refine St.exit ?_ | refine Out.then_exit ?_ | refine Out.block_exit ?_); try refine StL.run TBok 99 rfl ?_; (repeat with_reducible first | refine StL.nil ?_ | refine Out.then_normal ?_ | refine Out.block_normal ?_ | refine St.seq ?_ | refine St.block ?_ | refine St.skip ?_ | refine St.region ?_ | refine St.ret ?_ | refine Out.then_ret ?_ | refine Out.block_ret ?_ | refine St.exit ?_ | refine Out.then_exit ?_ | refine Out.block_exit ?_); try refine StL.run TBok 99 rfl ?_; (repeat with_reducible first | refine StL.nil ?_ | refine Out.then_normal ?_ | refine Out.block_normal ?_ | refine St.seq ?_ | refine St.block ?_ | refine St.skip ?_ | refine St.region ?_ | refine St.ret ?_ | refine Out.then_ret ?_ | refine Out.block_ret ?_ | refine St.exit ?_ | refine Out.then_exit ?_ | refine Out.block_exit ?_); try refine StL.run TBok 99 rfl ?_; (repeat with_reducible first | refine StL.nil ?_ | refine Out.then_normal ?_ | refine Out.block_normal ?_ | refine St.seq ?_ | refine St.block ?_ | refine St.skip ?_ | refine St.region ?_ | refine St.ret ?_ | refine Out.then_ret ?_ | refine Out.block_ret ?_ | refine St.exit ?_ | refine Out.then_exit ?_ | refine Out.block_exit ?_); try refine StL.run TBok 99 rfl ?_; (repeat with_reducible first | refine StL.nil ?_ | refine Out.then_normal ?_ | refine Out.block_normal ?_ | refine St.seq ?_ | refine St.block ?_ | refine St.skip ?_ | refine St.region ?_ | refine St.ret ?_ | refine Out.then_ret ?_ | refine Out.block_ret ?_ | refine St.exit ?_ | refine Out.then_exit ?_ | refine Out.block_exit ?_))
    have e2 : IntKind.u32.wrap (IntKind.u64.wrap ((x : Int) - cy - y)) = (((x + 8589934592 - cy - y) % 4294967296 : Nat) : Int) := by
      simp only [wrap_u32, wrap_u64]; omega
    refine StL.put TBok j hb2 rfl (by omega) (by simp; omega) rfl rfl rfl rfl rfl rfl rfl rfl (fun _ => rfl) (fun _ => rfl) rfl rfl ?_
    intro p3 w4 hb3 hu3
    rw [e2, Nat.zero_add, map_set_u32] at hb3
    ((repeat with_reducible first | refine StL.nil ?_ | refine Out.then_normal ?_ | refine Out.block_normal ?_ | refine St.seq ?_ | refine St.block ?_ | refine St.skip ?_ | refine St.region ?_ | refine St.ret ?_ | refine Out.then_ret ?_ | refine Out.block_ret ?_ | refine St.exit ?_ | refine Out.then_exit ?_ | refine Out.block_exit ?_); try refine StL.run TBok 99 rfl ?_; (repeat with_reducible first | refine StL.nil ?_ | refine Out.then_normal ?_ | refine Out.block_normal ?_ | refine St.seq ?_ | refine St.block ?_ | refine St.skip ?_ | refine St.region ?_ | refine St.ret ?_ | refine Out.then_ret ?_ | refine Out.block_ret ?_ | refine St.exit ?_ | refine Out.then_exit ?_ | refine Out.block_exit ?_); try refine StL.run TBok 99 rfl ?_; (repeat with_reducible first | refine StL.nil ?_ | refine Out.then_normal ?_ | refine Out.block_normal ?_ | refine St.seq ?_ | refine St.block ?_ | refine St.skip ?_ | refine St.region ?_ | refine St.ret ?_ | refine Out.then_ret ?_ | refine Out.block_ret ?_ | refine St.exit ?_ | refine Out.then_exit ?_ | refine Out.block_exit ?_); try refine StL.run TBok 99 rfl ?_; (repeat with_reducible first | refine StL.nil ?_ | refine Out.then_normal ?_ | refine Out.block_normal ?_ | refine St.seq ?_ | refine St.block ?_ | refine St.skip ?_ | refine St.region ?_ | refine St.ret ?_ | refine Out.then_ret ?_ | refine Out.block_ret ?_ | refine St.exit ?_ | refine Out.then_exit ?_ | refine Out.block_exit ?_); try refine StL.run TBok 99 rfl ?_; (repeat with_reducible first | refine StL.nil ?_ | refine Out.then_normal ?_ | refine Out.block_normal ?_ | refine St.seq ?_ | refine St.block ?_ | refine St.skip ?_ | refine St.region ?_ | refine St.ret ?_ | refine Out.then_ret ?_ | refine Out.block_ret ?_ | refine St.exit ?_ | refine Out.then_exit ?_ | refine Out.block_exit ?_))
    refine Out.again (j + 1, (if x < cy + y then 1 else 0), us.set j ((x + 8589934592 - cy - y) % 4294967296)) ⟨rfl, rfl, rfl, ?_, rfl, ?_, trivial⟩ ⟨hx2.then_upd hu3 (Nat.le_refl _), hb3, by simpa using hul, hulim.set _ (by omega), by simp only; split <;> omega, by simp only; omega, ?_⟩ (by simp only; omega)
    · show some (Value.int .u64 (IntKind.u64.wrap ((x : Int) - cy - y) / 2 ^ 63)) = some (Value.int .u64 ((if x < cy + y then 1 else 0 : Nat) : Int))
      congr 2
      rw [wrap_u64]
      split <;> omega
    · show some (Value.int .i64 (IntKind.i64.wrap ((j : Int) + 1))) = _
      rw [i64_id (by omega) (by omega)]
      rfl
    · simp only
      rw [val_take_set (by omega), val_take_succ hxi, val_take_succ', hy, Nat.pow_succ]
      refine step_sub _ _ _ _ _ _ _ _ _ heq ?_
      split <;> omega
  obtain rfl : j = xs.length := by omega
  rw [List.take_length, List.take_of_length_le hll, List.take_of_length_le (by omega)] at heq
  have hsz := val_lt us hulim
  rw [hul] at hsz
  have hc0 : cy = 0 := by
    rcases Nat.lt_or_ge cy 1 with h0 | h0
    · omega
    · have : cy = 1 := by omega
      subst this
      omega
  subst hc0
  clear hlt hj
  (repeat with_reducible first | refine StL.nil ?_ | refine Out.then_normal ?_ | refine Out.block_normal ?_ | refine St.seq ?_ | refine St.block ?_ | refine St.skip ?_ | refine St.region ?_ | refine St.ret ?_ | refine Out.then_ret ?_ | refine Out.block_ret ?_ | refine St.exit ?_ | refine Out.then_exit ?_ | refine Out.block_exit ?_)
  refine StL.as TBok 1 (.bool false) rfl (bool_false (by omega)) ?_
  (repeat with_reducible first | refine StL.nil ?_ | refine Out.then_normal ?_ | refine Out.block_normal ?_ | refine St.seq ?_ | refine St.block ?_ | refine St.skip ?_ | refine St.region ?_ | refine St.ret ?_ | refine Out.then_ret ?_ | refine Out.block_ret ?_ | refine St.exit ?_ | refine Out.then_exit ?_ | refine Out.block_exit ?_)
  refine St.condF rfl rfl ?_
  ((repeat with_reducible first | refine StL.nil ?_ | refine Out.then_normal ?_ | refine Out.block_normal ?_ | refine St.seq ?_ | refine St.block ?_ | refine St.skip ?_ | refine St.region ?_ | refine St.ret ?_ | refine Out.then_ret ?_ | refine Out.block_ret ?_ | refine St.exit ?_ | refine Out.then_exit ?_ | refine Out.block_exit ?_); try refine StL.run TBok 99 rfl ?_; (repeat with_reducible first | refine StL.nil ?_ | refine Out.then_normal ?_ | refine Out.block_normal ?_ | refine St.seq ?_ | refine St.block ?_ | refine St.skip ?_ | refine St.region ?_ | refine St.ret ?_ | refine Out.then_ret ?_ | refine Out.block_ret ?_ | refine St.exit ?_ | refine Out.then_exit ?_ | refine Out.block_exit ?_); try refine StL.run TBok 99 rfl ?_; (repeat with_reducible first | refine StL.nil ?_ | refine Out.then_normal ?_ | refine Out.block_normal ?_ | refine St.seq ?_ | refine St.block ?_ | refine St.skip ?_ | refine St.region ?_ | refine St.ret ?_ | refine Out.then_ret ?_ | refine Out.block_ret ?_ | refine St.exit ?_ | refine Out.then_exit ?_ | refine Out.block_exit ?_); try refine StL.run TBok 99 rfl ?_; (repeat with_reducible first | refine StL.nil ?_ | refine Out.then_normal ?_ | refine Out.block_normal ?_ | refine St.seq ?_ | refine St.block ?_ | refine St.skip ?_ | refine St.region ?_ | refine St.ret ?_ | refine Out.then_ret ?_ | refine Out.block_ret ?_ | refine St.exit ?_ | refine Out.then_exit ?_ | refine Out.block_exit ?_); try refine StL.run TBok 99 rfl ?_; (repeat with_reducible first | refine StL.nil ?_ | refine Out.then_normal ?_ | refine Out.block_normal ?_ | refine St.seq ?_ | refine St.block ?_ | refine St.skip ?_ | refine St.region ?_ | refine St.ret ?_ | refine Out.then_ret ?_ | refine Out.block_ret ?_ | refine St.exit ?_ | refine Out.then_exit ?_ | refine Out.block_exit ?_))
  have hO : SlO w.heap.size w2 (.slice (some ⟨w.heap.size, 0, none⟩) xs.length xs.length) us :=
    ⟨Blk.own hb2 (by simp [hul]) (Nat.le_refl _) (by omega), hulim⟩
  refine StL.step rfl rfl rfl (OpR.call fn_integer_trim rfl (trim_spec w2 _ _ hO.sl (by omega))) ?_
  rintro r w4 ⟨rfl, rfl, _⟩
  ((repeat with_reducible first | refine StL.nil ?_ | refine Out.then_normal ?_ | refine Out.block_normal ?_ | refine St.seq ?_ | refine St.block ?_ | refine St.skip ?_ | refine St.region ?_ | refine St.ret ?_ | refine Out.then_ret ?_ | refine Out.block_ret ?_ | refine St.exit ?_ | refine Out.then_exit ?_ | refine Out.block_exit ?_); try refine StL.run TBok 99 rfl ?_; (repeat with_reducible first | refine StL.nil ?_ | refine Out.then_normal ?_ | refine Out.block_normal ?_ | refine St.seq ?_ | refine St.block ?_ | refine St.skip ?_ | refine St.region ?_ | refine St.ret ?_ | refine Out.then_ret ?_ | refine Out.block_ret ?_ | refine St.exit ?_ | refine Out.then_exit ?_ | refine Out.block_exit ?_); try refine StL.run TBok 99 rfl ?_; (repeat with_reducible first | refine StL.nil ?_ | refine Out.then_normal ?_ | refine Out.block_normal ?_ | refine St.seq ?_ | refine St.block ?_ | refine St.skip ?_ | refine St.region ?_ | refine St.ret ?_ | refine Out.then_ret ?_ | refine Out.block_ret ?_ | refine St.exit ?_ | refine Out.then_exit ?_ | refine Out.block_exit ?_); try refine StL.run TBok 99 rfl ?_; (repeat with_reducible first | refine StL.nil ?_ | refine Out.then_normal ?_ | refine Out.block_normal ?_ | refine St.seq ?_ | refine St.block ?_ | refine St.skip ?_ | refine St.region ?_ | refine St.ret ?_ | refine Out.then_ret ?_ | refine Out.block_ret ?_ | refine St.exit ?_ | refine Out.then_exit ?_ | refine Out.block_exit ?_); try refine StL.run TBok 99 rfl ?_; (repeat with_reducible first | refine StL.nil ?_ | refine Out.then_normal ?_ | refine Out.block_normal ?_ | refine St.seq ?_ | refine St.block ?_ | refine St.skip ?_ | refine St.region ?_ | refine St.ret ?_ | refine Out.then_ret ?_ | refine Out.block_ret ?_ | refine St.exit ?_ | refine Out.then_exit ?_ | refine Out.block_exit ?_))
  refine Out.ret1 rfl rfl ⟨hx2, ?_⟩
  have := hO.trimmed
  rw [show val xs - val ys = val us from by omega]
  exact this

end Go.Qf
