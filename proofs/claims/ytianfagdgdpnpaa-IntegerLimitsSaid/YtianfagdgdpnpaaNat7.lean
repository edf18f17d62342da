/- integer.divideByLimb, shiftLeft, shiftRight. -/
import Derived.Test.YtianfagdgdpnpaaNat6
namespace Go.Qf
open Go Go.RowKit Go.Proofs

theorem seg_get {A D : List Value} {xs : List Nat} {off j x : Nat} (hA : A.length = off) (hx : xs[j]? = some x) : (A ++ (xs.map u32 ++ D))[off + j]? = some (u32 x) := by
  have hj : j < xs.length := (List.getElem?_eq_some_iff.1 hx).1
  rw [List.getElem?_append_right (by omega), show off + j - A.length = j from by omega, List.getElem?_append_left (by simpa using hj)]
  simp [hx]

theorem seg_set {A D : List Value} {xs : List Nat} {off j v : Nat} (hA : A.length = off) (hj : j < xs.length) : (A ++ (xs.map u32 ++ D)).set (off + j) (u32 v) = A ++ ((xs.set j v).map u32 ++ D) := by
  rw [List.set_append_right _ _ (by omega), show off + j - A.length = j from by omega, List.set_append_left _ _ (by simpa using hj), map_set_u32]

theorem drop_pred {xs : List Nat} {j x : Nat} (hx : xs[j]? = some x) : val (xs.drop j) = x + 4294967296 * val (xs.drop (j + 1)) := by
  have h1 : j < xs.length := (List.getElem?_eq_some_iff.1 hx).1
  rw [List.getElem?_eq_getElem h1] at hx
  rw [List.drop_eq_getElem_cons h1, Option.some.inj hx, val]

theorem mul_B_lt {r : Nat} (h : r < 4294967296) : r * 4294967296 < 18446744073709551616 := by omega

set_option maxRecDepth 4000 in
set_option maxHeartbeats 400000 in
theorem divideByLimb_spec (w : World) (b off cap d : Nat) (A D : List Value) (xs : List Nat) (hb : Blk 41 w b (A ++ (xs.map u32 ++ D))) (hA : A.length = off) (hlim : Lim xs) (hlen : xs.length ≤ 1000000000) (hd : 0 < d) (hd2 : d < 4294967296) :
    Calls Try.prog 78 #[.slice (some ⟨b, off, none⟩) xs.length cap, .int .u32 d] w
      (Ret fun r w' => r = .int .u32 ((val xs % d : Nat) : Int) ∧ Upd b w w' ∧ ∃ us, us.length = xs.length ∧ Lim us ∧ val us = val xs / d ∧ Blk 41 w' b (A ++ (us.map u32 ++ D))) := by
  refine calls_of_St (args := [_, _]) Try.func78 rfl Try.ntmps78 rfl ?_
  ((repeat with_reducible first | refine StL.nil ?_ | refine Out.then_normal ?_ | refine Out.block_normal ?_ | refine St.seq ?_ | refine St.block ?_ | refine St.skip ?_ | refine St.region ?_ | refine St.ret ?_ | refine Out.then_ret ?_ | refine Out.block_ret ?_ | refine St.exit ?_ | refine Out.then_exit ?_ | refine Out.block_exit ?_); try refine StL.run TBok 99 rfl ?_; (repeat with_reducible first | refine StL.nil ?_ | refine Out.then_normal ?_ | refine Out.block_normal ?_ | refine St.seq ?_ | refine St.block ?_ | refine St.skip ?_ | refine St.region ?_ | refine St.ret ?_ | refine Out.then_ret ?_ | refine Out.block_ret ?_ | refine St.exit ?_ | refine Out.then_exit ?_ | refine Out.block_exit ?_); try refine StL.run TBok 99 rfl ?_; (repeat with_reducible first | refine StL.nil ?_ | refine Out.then_normal ?_ | refine Out.block_normal ?_ | refine St.seq ?_ | refine St.block ?_ | refine St.skip ?_ | refine St.region ?_ | refine St.ret ?_ | refine Out.then_ret ?_ | refine Out.block_ret ?_ | refine St.exit ?_ | refine Out.then_exit ?_ | refine Out.block_exit ?_); try refine StL.run TBok 99 rfl ?_; (repeat with_reducible first | refine StL.nil ?_ | refine Out.then_normal ?_ | refine Out.block_normal ?_ | refine St.seq ?_ | refine St.block ?_ | refine St.skip ?_ | refine St.region ?_ | refine St.ret ?_ | refine Out.then_ret ?_ | refine Out.block_ret ?_ | refine St.exit ?_ | refine Out.then_exit ?_ | refine Out.block_exit ?_); try refine StL.run TBok 99 rfl ?_; (repeat with_reducible first | refine StL.nil ?_ | refine Out.then_normal ?_ | refine Out.block_normal ?_ | refine St.seq ?_ | refine St.block ?_ | refine St.skip ?_ | refine St.region ?_ | refine St.ret ?_ | refine Out.then_ret ?_ | refine Out.block_ret ?_ | refine St.exit ?_ | refine Out.then_exit ?_ | refine Out.block_exit ?_))
  refine St.loop (fun g : Nat × Nat × List Nat => [(0, .slice (some ⟨b, off, none⟩) xs.length cap), (1, .int .u32 d), (5, .int .u64 g.2.1), (6, .int .i64 ((g.1 : Int) - 1))])
    (fun g w2 => Upd b w w2 ∧ Blk 41 w2 b (A ++ (g.2.2.map u32 ++ D)) ∧ g.2.2.length = xs.length ∧ Lim g.2.2 ∧ g.2.1 < d ∧ g.1 ≤ xs.length ∧ g.2.2.take g.1 = xs.take g.1 ∧ val (xs.drop g.1) = val (g.2.2.drop g.1) * d + g.2.1)
    (fun g => g.1) (xs.length, 0, xs) ⟨rfl, rfl, rfl, ?_, trivial⟩ ⟨Upd.refl _ _, hb, rfl, hlim, hd, Nat.le_refl _, rfl, by simp [val]⟩ ?_
  · show some (Value.int .i64 (IntKind.i64.wrap ((xs.length : Int) - 1))) = _
    rw [i64_id (by omega) (by omega)]
  rintro ⟨j, r, us⟩ w2 ⟨hu2, hb2, hul, hulim, hr, hj, htk, heq⟩
  simp only at hb2 hul hulim hr hj htk heq
  dsimp only
  by_cases h0 : j = 0
  · subst h0
    (repeat with_reducible first | refine StL.nil ?_ | refine Out.then_normal ?_ | refine Out.block_normal ?_ | refine St.seq ?_ | refine St.block ?_ | refine St.skip ?_ | refine St.region ?_ | refine St.ret ?_ | refine Out.then_ret ?_ | refine Out.block_ret ?_ | refine St.exit ?_ | refine Out.then_exit ?_ | refine Out.block_exit ?_)
    refine StL.as TBok 2 (.bool false) rfl (bool_false (by simp)) ?_
    (repeat with_reducible first | refine StL.nil ?_ | refine Out.then_normal ?_ | refine Out.block_normal ?_ | refine St.seq ?_ | refine St.block ?_ | refine St.skip ?_ | refine St.region ?_ | refine St.ret ?_ | refine Out.then_ret ?_ | refine Out.block_ret ?_ | refine St.exit ?_ | refine Out.then_exit ?_ | refine Out.block_exit ?_)
    refine St.condF rfl rfl ?_
    ((repeat with_reducible first | refine StL.nil ?_ | refine Out.then_normal ?_ | refine Out.block_normal ?_ | refine St.seq ?_ | refine St.block ?_ | refine St.skip ?_ | refine St.region ?_ | refine St.ret ?_ | refine Out.then_ret ?_ | refine Out.block_ret ?_ | refine St.exit ?_ | refine Out.then_exit ?_ | refine Out.block_exit ?_); try refine StL.run TBok 99 rfl ?_; (repeat with_reducible first | refine StL.nil ?_ | refine Out.then_normal ?_ | refine Out.block_normal ?_ | refine St.seq ?_ | refine St.block ?_ | refine St.skip ?_ | refine St.region ?_ | refine St.ret ?_ | refine Out.then_ret ?_ | refine Out.block_ret ?_ | refine St.exit ?_ | refine Out.then_exit ?_ | refine Out.block_exit ?_); try refine StL.run TBok 99 rfl ?_; (repeat with_reducible first | refine StL.nil ?_ | refine Out.then_normal ?_ | refine Out.block_normal ?_ | refine St.seq ?_ | refine St.block ?_ | refine St.skip ?_ | refine St.region ?_ | refine St.ret ?_ | refine Out.then_ret ?_ | refine Out.block_ret ?_ | refine St.exit ?_ | refine Out.then_exit ?_ | refine Out.block_exit ?_); try refine StL.run TBok 99 rfl ?_; (repeat with_reducible first | refine StL.nil ?_ | refine Out.then_normal ?_ | refine Out.block_normal ?_ | refine St.seq ?_ | refine St.block ?_ | refine St.skip ?_ | refine St.region ?_ | refine St.ret ?_ | refine Out.then_ret ?_ | refine Out.block_ret ?_ | refine St.exit ?_ | refine Out.then_exit ?_ | refine Out.block_exit ?_); try refine StL.run TBok 99 rfl ?_; (repeat with_reducible first | refine StL.nil ?_ | refine Out.then_normal ?_ | refine Out.block_normal ?_ | refine St.seq ?_ | refine St.block ?_ | refine St.skip ?_ | refine St.region ?_ | refine St.ret ?_ | refine Out.then_ret ?_ | refine Out.block_ret ?_ | refine St.exit ?_ | refine Out.then_exit ?_ | refine Out.block_exit ?_))
    simp only [List.drop_zero] at heq
    refine Out.ret1 rfl rfl ⟨?_, hu2, us, hul, hulim, ?_, hb2⟩
    · rw [heq, Nat.mul_comm, Nat.mul_add_mod, Nat.mod_eq_of_lt hr, u32_id (by omega) (by omega)]
    · rw [heq]
      rw [Nat.mul_comm, Nat.mul_add_div (by omega), Nat.div_eq_of_lt hr]; simp
  obtain ⟨i, rfl⟩ : ∃ i, j = i + 1 := ⟨j - 1, by omega⟩
  have hxi : us[i]? = some us[i] := by simp
  generalize us[i] = x at hxi
  have hxl := hulim.get hxi
  have hxx : xs[i]? = some x := by
    have : (us.take (i + 1))[i]? = (xs.take (i + 1))[i]? := by rw [htk]
    rw [List.getElem?_take_of_lt (by omega), List.getElem?_take_of_lt (by omega)] at this
    rw [← this]; exact hxi
  have e0 : (((i + 1 : Nat) : Int) - 1) = (i : Int) := by omega
  simp only [e0]
  (repeat with_reducible first | refine StL.nil ?_ | refine Out.then_normal ?_ | refine Out.block_normal ?_ | refine St.seq ?_ | refine St.block ?_ | refine St.skip ?_ | refine St.region ?_ | refine St.ret ?_ | refine Out.then_ret ?_ | refine Out.block_ret ?_ | refine St.exit ?_ | refine Out.then_exit ?_ | refine Out.block_exit ?_)
  refine StL.as TBok 2 (.bool true) rfl (bool_true (by omega)) ?_
  (repeat with_reducible first | refine StL.nil ?_ | refine Out.then_normal ?_ | refine Out.block_normal ?_ | refine St.seq ?_ | refine St.block ?_ | refine St.skip ?_ | refine St.region ?_ | refine St.ret ?_ | refine Out.then_ret ?_ | refine Out.block_ret ?_ | refine St.exit ?_ | refine Out.then_exit ?_ | refine Out.block_exit ?_)
  refine St.condT rfl rfl ?_
  ((repeat with_reducible first | refine StL.nil ?_ | refine Out.then_normal ?_ | refine Out.block_normal ?_ | refine St.seq ?_ | refine St.block ?_ | refine St.skip ?_ | refine St.region ?_ | refine St.ret ?_ | refine Out.then_ret ?_ | refine Out.block_ret ?_ | refine St.exit ?_ | refine Out.then_exit ?_ | refine Out.block_exit ?_); try refine StL.run TBok 99 rfl ?_; (repeat with_reducible first | refine StL.nil ?_ | refine Out.then_normal ?_ | refine Out.block_normal ?_ | refine St.seq ?_ | refine St.block ?_ | refine St.skip ?_ | refine St.region ?_ | refine St.ret ?_ | refine Out.then_ret ?_ | refine Out.block_ret ?_ | refine St.exit ?_ | refine Out.then_exit ?_ | refine Out.block_exit ?_); try refine StL.run TBok 99 rfl ?_; (repeat with_reducible first | refine StL.nil ?_ | refine Out.then_normal ?_ | refine Out.block_normal ?_ | refine St.seq ?_ | refine St.block ?_ | refine St.skip ?_ | refine St.region ?_ | refine St.ret ?_ | refine Out.then_ret ?_ | refine Out.block_ret ?_ | refine St.exit ?_ | refine Out.then_exit ?_ | refine Out.block_exit ?_); try refine StL.run TBok 99 rfl ?_; (repeat with_reducible first | refine StL.nil ?_ | refine Out.then_normal ?_ | refine Out.block_normal ?_ | refine St.seq ?_ | refine St.block ?_ | refine St.skip ?_ | refine St.region ?_ | refine St.ret ?_ | refine Out.then_ret ?_ | refine Out.block_ret ?_ | refine St.exit ?_ | refine Out.then_exit ?_ | refine Out.block_exit ?_); try refine StL.run TBok 99 rfl ?_; (repeat with_reducible first | refine StL.nil ?_ | refine Out.then_normal ?_ | refine Out.block_normal ?_ | refine St.seq ?_ | refine St.block ?_ | refine St.skip ?_ | refine St.region ?_ | refine St.ret ?_ | refine Out.then_ret ?_ | refine Out.block_ret ?_ | refine St.exit ?_ | refine Out.then_exit ?_ | refine Out.block_exit ?_))
  refine StL.elemB TBok i (u32 x) hb2 (seg_get hA hxi) rfl (by omega) rfl rfl rfl rfl rfl rfl rfl rfl rfl rfl (fun _ => rfl) ?_
  intro p1
  have hrd : r * 4294967296 + x < d * 4294967296 := by
    have : (r + 1) * 4294967296 ≤ d * 4294967296 := Nat.mul_le_mul_right _ hr
    omega
  have hr2 : r < 4294967296 := by omega
  have hr3 : r * 4294967296 < 18446744073709551616 := mul_B_lt hr2
  have hx3 : x < 18446744073709551616 := by omega
  have e1 : bitsI .or .u64 (IntKind.u64.wrap ((r : Int) * 2 ^ 32)) (IntKind.u64.wrap (x : Int)) = ((r * 4294967296 + x : Nat) : Int) := by
    rw [show (r : Int) * 2 ^ 32 = ((r * 4294967296 : Nat) : Int) from by rw [Int.natCast_mul]; rfl, u64_id (n := ((r * 4294967296 : Nat) : Int)) (Int.natCast_nonneg _) (Int.ofNat_le.2 (Nat.le_of_lt_succ hr3)), u64_id (n := (x : Int)) (by omega) (by omega), or_u64 _ _ hr3 hx3, Nat.or_comm, or_low32 _ _ hxl, Nat.add_comm]
  refine StL.as TBok 2 (.int .u64 ((r * 4294967296 + x : Nat) : Int)) rfl (by rw [e1]) ?_
  generalize ht : r * 4294967296 + x = t at hrd
  have htb : t < 18446744073709551616 := by omega
  ((repeat with_reducible first | refine StL.nil ?_ | refine Out.then_normal ?_ | refine Out.block_normal ?_ | refine St.seq ?_ | refine St.block ?_ | refine St.skip ?_ | refine St.region ?_ | refine St.ret ?_ | refine Out.then_ret ?_ | refine Out.block_ret ?_ | refine St.exit ?_ | refine Out.then_exit ?_ | refine Out.block_exit ?_); try refine StL.run TBok 99 rfl ?_; (repeat with_reducible first | refine StL.nil ?_ | refine Out.then_normal ?_ | refine Out.block_normal ?_ | refine St.seq ?_ | refine St.block ?_ | refine St.skip ?_ | refine St.region ?_ | refine St.ret ?_ | refine Out.then_ret ?_ | refine Out.block_ret ?_ | refine St.exit ?_ | refine Out.then_exit ?_ | refine Out.block_exit ?_); try refine StL.run TBok 99 rfl ?_; (repeat with_reducible first | refine StL.nil ?_ | refine Out.then_normal ?_ | refine Out.block_normal ?_ | refine St.seq ?_ | refine St.block ?_ | refine St.skip ?_ | refine St.region ?_ | refine St.ret ?_ | refine Out.then_ret ?_ | refine Out.block_ret ?_ | refine St.exit ?_ | refine Out.then_exit ?_ | refine Out.block_exit ?_); try refine StL.run TBok 99 rfl ?_; (repeat with_reducible first | refine StL.nil ?_ | refine Out.then_normal ?_ | refine Out.block_normal ?_ | refine St.seq ?_ | refine St.block ?_ | refine St.skip ?_ | refine St.region ?_ | refine St.ret ?_ | refine Out.then_ret ?_ | refine Out.block_ret ?_ | refine St.exit ?_ | refine Out.then_exit ?_ | refine Out.block_exit ?_); try refine StL.run TBok 99 rfl ?_; (repeat with_reducible first | refine StL.nil ?_ | refine Out.then_normal ?_ | refine Out.block_normal ?_ | refine St.seq ?_ | refine St.block ?_ | refine St.skip ?_ | refine St.region ?_ | refine St.ret ?_ | refine Out.then_ret ?_ | refine Out.block_ret ?_ | refine St.exit ?_ | refine Out.then_exit ?_ | refine Out.block_exit ?_))
  have ed : IntKind.u64.wrap (d : Int) = (d : Int) := u64_id (by omega) (by omega)
  refine StL.step rfl rfl rfl (RunsTo.quo rfl rfl (by omega) (by rw [ed]; omega)).op ?_
  rintro _ _ ⟨rfl, rfl⟩
  rw [ed]
  have hq : t / d < 4294967296 := by
    apply Nat.div_lt_of_lt_mul
    omega
  have hdm := Nat.div_add_mod t d
  have hqi : (t : Int) / (d : Int) = ((t / d : Nat) : Int) := by simp
  have hmi : (t : Int) % (d : Int) = ((t % d : Nat) : Int) := by simp
  have hml := Nat.mod_lt t hd
  generalize t / d = q at hq hdm hqi
  generalize t % d = m at hdm hmi hml
  rw [hqi]
  have e2 : IntKind.u32.wrap (IntKind.u64.wrap (q : Int)) = (q : Int) := by
    rw [u64_id (by omega) (by omega), u32_id (by omega) (by omega)]
  refine StL.as TBok 1 (.int .u32 (q : Int)) rfl (by rw [e2]) ?_
  refine StL.put TBok i hb2 rfl (by omega) (by simp; omega) rfl rfl rfl rfl rfl rfl rfl rfl (fun _ => rfl) (fun _ => rfl) rfl rfl ?_
  intro p3 w3 hb3 hu3
  rw [seg_set hA (by omega)] at hb3
  ((repeat with_reducible first | refine StL.nil ?_ | refine Out.then_normal ?_ | refine Out.block_normal ?_ | refine St.seq ?_ | refine St.block ?_ | refine St.skip ?_ | refine St.region ?_ | refine St.ret ?_ | refine Out.then_ret ?_ | refine Out.block_ret ?_ | refine St.exit ?_ | refine Out.then_exit ?_ | refine Out.block_exit ?_); try refine StL.run TBok 99 rfl ?_; (repeat with_reducible first | refine StL.nil ?_ | refine Out.then_normal ?_ | refine Out.block_normal ?_ | refine St.seq ?_ | refine St.block ?_ | refine St.skip ?_ | refine St.region ?_ | refine St.ret ?_ | refine Out.then_ret ?_ | refine Out.block_ret ?_ | refine St.exit ?_ | refine Out.then_exit ?_ | refine Out.block_exit ?_); try refine StL.run TBok 99 rfl ?_; (repeat with_reducible first | refine StL.nil ?_ | refine Out.then_normal ?_ | refine Out.block_normal ?_ | refine St.seq ?_ | refine St.block ?_ | refine St.skip ?_ | refine St.region ?_ | refine St.ret ?_ | refine Out.then_ret ?_ | refine Out.block_ret ?_ | refine St.exit ?_ | refine Out.then_exit ?_ | refine Out.block_exit ?_); try refine StL.run TBok 99 rfl ?_; (repeat with_reducible first | refine StL.nil ?_ | refine Out.then_normal ?_ | refine Out.block_normal ?_ | refine St.seq ?_ | refine St.block ?_ | refine St.skip ?_ | refine St.region ?_ | refine St.ret ?_ | refine Out.then_ret ?_ | refine Out.block_ret ?_ | refine St.exit ?_ | refine Out.then_exit ?_ | refine Out.block_exit ?_); try refine StL.run TBok 99 rfl ?_; (repeat with_reducible first | refine StL.nil ?_ | refine Out.then_normal ?_ | refine Out.block_normal ?_ | refine St.seq ?_ | refine St.block ?_ | refine St.skip ?_ | refine St.region ?_ | refine St.ret ?_ | refine Out.then_ret ?_ | refine Out.block_ret ?_ | refine St.exit ?_ | refine Out.then_exit ?_ | refine Out.block_exit ?_))
  refine StL.step rfl rfl rfl (RunsTo.rem rfl rfl (by omega) (by rw [ed]; omega)).op ?_
  rintro _ _ ⟨rfl, rfl⟩
  rw [ed]
  ((repeat with_reducible first | refine StL.nil ?_ | refine Out.then_normal ?_ | refine Out.block_normal ?_ | refine St.seq ?_ | refine St.block ?_ | refine St.skip ?_ | refine St.region ?_ | refine St.ret ?_ | refine Out.then_ret ?_ | refine Out.block_ret ?_ | refine St.exit ?_ | refine Out.then_exit ?_ | refine Out.block_exit ?_); try refine StL.run TBok 99 rfl ?_; (repeat with_reducible first | refine StL.nil ?_ | refine Out.then_normal ?_ | refine Out.block_normal ?_ | refine St.seq ?_ | refine St.block ?_ | refine St.skip ?_ | refine St.region ?_ | refine St.ret ?_ | refine Out.then_ret ?_ | refine Out.block_ret ?_ | refine St.exit ?_ | refine Out.then_exit ?_ | refine Out.block_exit ?_); try refine StL.run TBok 99 rfl ?_; (repeat with_reducible first | refine StL.nil ?_ | refine Out.then_normal ?_ | refine Out.block_normal ?_ | refine St.seq ?_ | refine St.block ?_ | refine St.skip ?_ | refine St.region ?_ | refine St.ret ?_ | refine Out.then_ret ?_ | refine Out.block_ret ?_ | refine St.exit ?_ | refine Out.then_exit ?_ | refine Out.block_exit ?_); try refine StL.run TBok 99 rfl ?_; (repeat with_reducible first | refine StL.nil ?_ | refine Out.then_normal ?_ | refine Out.block_normal ?_ | refine St.seq ?_ | refine St.block ?_ | refine St.skip ?_ | refine St.region ?_ | refine St.ret ?_ | refine Out.then_ret ?_ | refine Out.block_ret ?_ | refine St.exit ?_ | refine Out.then_exit ?_ | refine Out.block_exit ?_); try refine StL.run TBok 99 rfl ?_; (repeat with_reducible first | refine StL.nil ?_ | refine Out.then_normal ?_ | refine Out.block_normal ?_ | refine St.seq ?_ | refine St.block ?_ | refine St.skip ?_ | refine St.region ?_ | refine St.ret ?_ | refine Out.then_ret ?_ | refine Out.block_ret ?_ | refine St.exit ?_ | refine Out.then_exit ?_ | refine Out.block_exit ?_))
  refine Out.again (i, m, us.set i q) ⟨rfl, rfl, ?_, ?_, trivial⟩ ⟨hu2.trans hu3, hb3, by simpa using hul, hulim.set _ hq, hml, by simp only; omega, ?_, ?_⟩ (by simp only; omega)
  · show some (Value.int .u64 ((t : Int) % (d : Int))) = _
    rw [hmi]
  · show some (Value.int .i64 (IntKind.i64.wrap ((i : Int) - 1))) = _
    rw [i64_id (by omega) (by omega)]
  · simp only
    rw [List.take_set_of_le (by omega)]
    have h1 : (us.take (i + 1)).take i = (xs.take (i + 1)).take i := by rw [htk]
    simpa [List.take_take, Nat.min_eq_left (Nat.le_succ i)] using h1
  · simp only
    have hs : (us.set i q)[i]? = some q := List.getElem?_set_self (by omega)
    rw [drop_pred hxx, drop_pred hs, heq, List.drop_set_of_lt (by omega)]
    have h1 : (q + 4294967296 * val (us.drop (i + 1))) * d = d * q + 4294967296 * (val (us.drop (i + 1)) * d) := by
      rw [Nat.add_mul, Nat.mul_comm q, Nat.mul_assoc]
    rw [h1, Nat.mul_add]
    omega

theorem sr_step (x y V' s : Nat) (hs : s < 32) (hx : x < 4294967296) : (x + 4294967296 * (y + 4294967296 * V')) / 2 ^ s = (x + 4294967296 * y) / 2 ^ s % 4294967296 + 4294967296 * ((y + 4294967296 * V') / 2 ^ s) := by
  have hp : 0 < 2 ^ s := Nat.pow_pos (by decide)
  have hB : 4294967296 = 2 ^ s * 2 ^ (32 - s) := by rw [← Nat.pow_add, show s + (32 - s) = 32 from by omega]
  generalize 2 ^ (32 - s) = M at hB
  generalize 2 ^ s = N at hB hp
  have hy := Nat.div_add_mod y N
  have hR := Nat.mod_lt y hp
  generalize y / N = q at hy
  generalize y % N = R at hy hR
  subst hy
  generalize hBB : 4294967296 = B at *
  have e1 : x + B * (N * q + R + B * V') = (x + B * R) + N * (B * q + B * (M * V')) := by
    have h1 : B * (B * V') = N * (B * (M * V')) := by
      conv => lhs; arg 2; rw [hB]
      rw [Nat.mul_assoc, Nat.mul_left_comm]
    have h2 : B * (N * q) = N * (B * q) := Nat.mul_left_comm _ _ _
    simp only [Nat.mul_add]
    omega
  have e2 : x + B * (N * q + R) = (x + B * R) + N * (B * q) := by
    have h2 : B * (N * q) = N * (B * q) := Nat.mul_left_comm _ _ _
    simp only [Nat.mul_add]
    omega
  have e3 : N * q + R + B * V' = R + N * (q + M * V') := by
    have h1 : B * V' = N * (M * V') := by
      conv => lhs; rw [hB]
      rw [Nat.mul_assoc]
    simp only [Nat.mul_add]
    omega
  rw [e1, e2, e3, Nat.add_mul_div_left _ _ hp, Nat.add_mul_div_left _ _ hp, Nat.add_mul_div_left _ _ hp, Nat.div_eq_of_lt hR]
  have hlt : (x + B * R) / N < B := by
    apply Nat.div_lt_of_lt_mul
    have : B * (R + 1) ≤ B * N := Nat.mul_le_mul_left _ hR
    rw [Nat.mul_comm N]
    rw [Nat.mul_add] at this
    omega
  rw [Nat.add_mul_mod_self_left, Nat.mod_eq_of_lt hlt, Nat.zero_add, Nat.mul_add]

/-- The limbs of the floor of a number by 2^s. -/
def srL (s : Nat) : List Nat → List Nat
  | [] => []
  | x :: r => (x + 4294967296 * r.headD 0) / 2 ^ s % 4294967296 :: srL s r

theorem val_srL (s : Nat) (hs : s < 32) : ∀ xs, Lim xs → val (srL s xs) = val xs / 2 ^ s := by
  intro xs
  induction xs with
  | nil => intro _; simp [srL, val]
  | cons x r ih =>
    intro h
    obtain ⟨h1, h2⟩ := Lim.cons.1 h
    simp only [srL, val, ih h2]
    cases r with
    | nil =>
      simp only [List.headD_nil, val, Nat.mul_zero, Nat.add_zero, Nat.zero_div]
      have hle : x / 2 ^ s ≤ x := Nat.div_le_self _ _
      exact Nat.mod_eq_of_lt (by omega)
    | cons y t =>
      simp only [List.headD_cons, val]
      exact (sr_step x y (val t) s hs h1).symm

theorem srL_length (s : Nat) (xs : List Nat) : (srL s xs).length = xs.length := by
  induction xs with
  | nil => rfl
  | cons x r ih => simp [srL, ih]

theorem lim_srL (s : Nat) (xs : List Nat) : Lim (srL s xs) := by
  induction xs with
  | nil => exact Lim.nil
  | cons x r ih => exact Lim.cons.2 ⟨Nat.mod_lt _ (by decide), ih⟩

theorem srL_get (s : Nat) : ∀ (xs : List Nat) (i x : Nat), xs[i]? = some x → (srL s xs)[i]? = some ((x + 4294967296 * xs.getD (i + 1) 0) / 2 ^ s % 4294967296) := by
  intro xs
  induction xs with
  | nil => intro i x h; simp at h
  | cons a r ih =>
    intro i x h
    cases i with
    | zero =>
      simp only [List.getElem?_cons_zero, Option.some.injEq] at h
      subst h
      cases r <;> simp [srL]
    | succ i =>
      have := ih i x (by simpa using h)
      simpa [srL] using this

/-- Out of a function that hands nothing back. -/
theorem Out.none0 {P : Program} {fn : Func} {n : Nat} {E : List (Nat × Value)} {w : World} {Φ : Value → World → Prop} (hr : fn.results = #[]) (h : Φ (.tuple #[]) w) : Out n E w .normal (bodyPost P fn (Ret Φ)) := fun a ha =>
  bodyPost_end (results_none hr _ P w) ha.defers ⟨_, rfl, h⟩

set_option maxRecDepth 4000 in
set_option maxHeartbeats 400000 in
theorem shiftRight_spec (w : World) (b off cap s : Nat) (A D : List Value) (xs : List Nat) (hb : Blk 41 w b (A ++ (xs.map u32 ++ D))) (hA : A.length = off) (hlim : Lim xs) (hlen : xs.length ≤ 1000000000) (hs : s < 32) :
    Calls Try.prog 90 #[.slice (some ⟨b, off, none⟩) xs.length cap, .int .i64 s] w
      (Ret fun _ w' => Upd b w w' ∧ Blk 41 w' b (A ++ ((srL s xs).map u32 ++ D))) := by
  have hp : (0 : Nat) < 2 ^ s := Nat.pow_pos (by decide)
  refine calls_of_St (args := [_, _]) Try.func90 rfl Try.ntmps90 rfl ?_
  ((repeat with_reducible first | refine StL.nil ?_ | refine Out.then_normal ?_ | refine Out.block_normal ?_ | refine St.seq ?_ | refine St.block ?_ | refine St.skip ?_ | refine St.region ?_ | refine St.ret ?_ | refine Out.then_ret ?_ | refine Out.block_ret ?_ | refine St.exit ?_ | refine Out.then_exit ?_ | refine Out.block_exit ?_); try refine StL.run TBok 99 rfl ?_; (repeat with_reducible first | refine StL.nil ?_ | refine Out.then_normal ?_ | refine Out.block_normal ?_ | refine St.seq ?_ | refine St.block ?_ | refine St.skip ?_ | refine St.region ?_ | refine St.ret ?_ | refine Out.then_ret ?_ | refine Out.block_ret ?_ | refine St.exit ?_ | refine Out.then_exit ?_ | refine Out.block_exit ?_); try refine StL.run TBok 99 rfl ?_; (repeat with_reducible first | refine StL.nil ?_ | refine Out.then_normal ?_ | refine Out.block_normal ?_ | refine St.seq ?_ | refine St.block ?_ | refine St.skip ?_ | refine St.region ?_ | refine St.ret ?_ | refine Out.then_ret ?_ | refine Out.block_ret ?_ | refine St.exit ?_ | refine Out.then_exit ?_ | refine Out.block_exit ?_); try refine StL.run TBok 99 rfl ?_; (repeat with_reducible first | refine StL.nil ?_ | refine Out.then_normal ?_ | refine Out.block_normal ?_ | refine St.seq ?_ | refine St.block ?_ | refine St.skip ?_ | refine St.region ?_ | refine St.ret ?_ | refine Out.then_ret ?_ | refine Out.block_ret ?_ | refine St.exit ?_ | refine Out.then_exit ?_ | refine Out.block_exit ?_); try refine StL.run TBok 99 rfl ?_; (repeat with_reducible first | refine StL.nil ?_ | refine Out.then_normal ?_ | refine Out.block_normal ?_ | refine St.seq ?_ | refine St.block ?_ | refine St.skip ?_ | refine St.region ?_ | refine St.ret ?_ | refine Out.then_ret ?_ | refine Out.block_ret ?_ | refine St.exit ?_ | refine Out.then_exit ?_ | refine Out.block_exit ?_))
  refine St.loop (fun i : Nat => [(0, .slice (some ⟨b, off, none⟩) xs.length cap), (1, .int .i64 s), (7, .int .i64 xs.length), (8, .int .i64 i)])
    (fun i w2 => Upd b w w2 ∧ i ≤ xs.length ∧ Blk 41 w2 b (A ++ (((srL s xs).take i ++ xs.drop i).map u32 ++ D)))
    (fun i => xs.length - i) 0 ⟨rfl, rfl, rfl, rfl, trivial⟩ ⟨Upd.refl _ _, by omega, by simpa using hb⟩ ?_
  rintro i w2 ⟨hu2, hi, hb2⟩
  have hl1 : ((srL s xs).take i).length = i := by simp [srL_length]; omega
  by_cases hlt : i < xs.length
  · have hxi : xs[i]? = some xs[i] := by simp
    generalize xs[i] = x at hxi
    have hxl := hlim.get hxi
    have hci : ((srL s xs).take i ++ xs.drop i)[i]? = some x := by
      rw [List.getElem?_append_right (by omega), hl1]
      simpa using hxi
    have hyl := lim_getD hlim (i + 1)
    (repeat with_reducible first | refine StL.nil ?_ | refine Out.then_normal ?_ | refine Out.block_normal ?_ | refine St.seq ?_ | refine St.block ?_ | refine St.skip ?_ | refine St.region ?_ | refine St.ret ?_ | refine Out.then_ret ?_ | refine Out.block_ret ?_ | refine St.exit ?_ | refine Out.then_exit ?_ | refine Out.block_exit ?_)
    refine StL.as TBok 1 (.bool true) rfl (bool_true (by omega)) ?_
    (repeat with_reducible first | refine StL.nil ?_ | refine Out.then_normal ?_ | refine Out.block_normal ?_ | refine St.seq ?_ | refine St.block ?_ | refine St.skip ?_ | refine St.region ?_ | refine St.ret ?_ | refine Out.then_ret ?_ | refine Out.block_ret ?_ | refine St.exit ?_ | refine Out.then_exit ?_ | refine Out.block_exit ?_)
    refine St.condT rfl rfl ?_
    (repeat with_reducible first | refine StL.nil ?_ | refine Out.then_normal ?_ | refine Out.block_normal ?_ | refine St.seq ?_ | refine St.block ?_ | refine St.skip ?_ | refine St.region ?_ | refine St.ret ?_ | refine Out.then_ret ?_ | refine Out.block_ret ?_ | refine St.exit ?_ | refine Out.then_exit ?_ | refine Out.block_exit ?_)
    refine StL.run TBok 99 rfl ?_
    (repeat with_reducible first | refine StL.nil ?_ | refine Out.then_normal ?_ | refine Out.block_normal ?_ | refine St.seq ?_ | refine St.block ?_ | refine St.skip ?_ | refine St.region ?_ | refine St.ret ?_ | refine Out.then_ret ?_ | refine Out.block_ret ?_ | refine St.exit ?_ | refine Out.then_exit ?_ | refine Out.block_exit ?_)
    refine StL.run TBok 99 rfl ?_
    refine StL.elemB TBok i (u32 x) hb2 (seg_get hA hci) rfl (by omega) rfl rfl rfl rfl rfl rfl rfl rfl rfl rfl (fun _ => rfl) ?_
    intro p1
    refine StL.run TBok 99 rfl ?_
    (refine StL.nil ?_; repeat with_reducible first | refine Out.then_normal ?_ | refine Out.block_normal ?_)
    refine St.cut (fun _ : Unit => [(0, .slice (some ⟨b, off, none⟩) xs.length cap), (1, .int .i64 s), (4, .int .i64 i), (5, .int .u64 ((x + 4294967296 * xs.getD (i + 1) 0 : Nat) : Int)), (7, .int .i64 xs.length), (8, .int .i64 i)]) (fun _ w3 => w3 = w2) ?_ ?_
    · (repeat with_reducible first | refine StL.nil ?_ | refine Out.then_normal ?_ | refine Out.block_normal ?_ | refine St.seq ?_ | refine St.block ?_ | refine St.skip ?_ | refine St.region ?_ | refine St.ret ?_ | refine Out.then_ret ?_ | refine Out.block_ret ?_ | refine St.exit ?_ | refine Out.then_exit ?_ | refine Out.block_exit ?_)
      have e1 : IntKind.i64.wrap ((i : Int) + 1) = ((i + 1 : Nat) : Int) := by rw [i64_id (by omega) (by omega)]; rfl
      by_cases hlt2 : i + 1 < xs.length
      · have hyi : xs[i + 1]? = some xs[i + 1] := by simp
        generalize xs[i + 1] = y at hyi
        have hyD : xs.getD (i + 1) 0 = y := by simp [List.getD_eq_getElem?_getD, hyi]
        have hci2 : ((srL s xs).take i ++ xs.drop i)[i + 1]? = some y := by
          rw [List.getElem?_append_right (by omega), hl1]
          simpa using hyi
        rw [hyD] at hyl ⊢
        refine StL.as TBok 5 (.bool true) rfl (bool_true (by rw [e1]; omega)) ?_
        (repeat with_reducible first | refine StL.nil ?_ | refine Out.then_normal ?_ | refine Out.block_normal ?_ | refine St.seq ?_ | refine St.block ?_ | refine St.skip ?_ | refine St.region ?_ | refine St.ret ?_ | refine Out.then_ret ?_ | refine Out.block_ret ?_ | refine St.exit ?_ | refine Out.then_exit ?_ | refine Out.block_exit ?_)
        refine St.condT rfl rfl ?_
        (repeat with_reducible first | refine StL.nil ?_ | refine Out.then_normal ?_ | refine Out.block_normal ?_ | refine St.seq ?_ | refine St.block ?_ | refine St.skip ?_ | refine St.region ?_ | refine St.ret ?_ | refine Out.then_ret ?_ | refine Out.block_ret ?_ | refine St.exit ?_ | refine Out.then_exit ?_ | refine Out.block_exit ?_)
        refine StL.run TBok 99 rfl ?_
        refine StL.elemB TBok (i + 1) (u32 y) hb2 (seg_get hA hci2) e1 (by omega) rfl rfl rfl rfl rfl rfl rfl rfl rfl rfl (fun _ => rfl) ?_
        intro p2
        refine StL.run TBok 99 rfl ?_
        refine StL.nil (Out.met () ⟨rfl, rfl, rfl, ?_, rfl, rfl, trivial⟩ rfl)
        show some (Value.int .u64 (bitsI .or .u64 (IntKind.u64.wrap (x : Int)) (IntKind.u64.wrap (IntKind.u64.wrap (y : Int) * 2 ^ 32)))) = _
        rw [u64_id (n := (y : Int)) (by omega) (by omega), show (y : Int) * 2 ^ 32 = ((y * 4294967296 : Nat) : Int) from by rw [Int.natCast_mul]; rfl, u64_id (n := ((y * 4294967296 : Nat) : Int)) (by omega) (by omega), u64_id (n := (x : Int)) (by omega) (by omega), or_u64 _ _ (by omega) (by omega), or_low32 _ _ hxl, Nat.mul_comm y]
      · have hyD : xs.getD (i + 1) 0 = 0 := by rw [List.getD_eq_getElem?_getD, List.getElem?_eq_none (by omega)]; rfl
        rw [hyD]
        refine StL.as TBok 5 (.bool false) rfl (bool_false (by rw [e1]; omega)) ?_
        (repeat with_reducible first | refine StL.nil ?_ | refine Out.then_normal ?_ | refine Out.block_normal ?_ | refine St.seq ?_ | refine St.block ?_ | refine St.skip ?_ | refine St.region ?_ | refine St.ret ?_ | refine Out.then_ret ?_ | refine Out.block_ret ?_ | refine St.exit ?_ | refine Out.then_exit ?_ | refine Out.block_exit ?_)
        refine St.condF rfl rfl ?_
        refine St.skip (Out.met () ⟨rfl, rfl, rfl, ?_, rfl, rfl, trivial⟩ rfl)
        show some (Value.int .u64 (IntKind.u64.wrap (x : Int))) = _
        rw [u64_id (by omega) (by omega)]
        simp
    rintro _ w3 rfl
    generalize hy : xs.getD (i + 1) 0 = y at *
    ((repeat with_reducible first | refine StL.nil ?_ | refine Out.then_normal ?_ | refine Out.block_normal ?_ | refine St.seq ?_ | refine St.block ?_ | refine St.skip ?_ | refine St.region ?_ | refine St.ret ?_ | refine Out.then_ret ?_ | refine Out.block_ret ?_ | refine St.exit ?_ | refine Out.then_exit ?_ | refine Out.block_exit ?_); try refine StL.run TBok 99 rfl ?_; (repeat with_reducible first | refine StL.nil ?_ | refine Out.then_normal ?_ | refine Out.block_normal ?_ | refine St.seq ?_ | refine St.block ?_ | refine St.skip ?_ | refine St.region ?_ | refine St.ret ?_ | refine Out.then_ret ?_ | refine Out.block_ret ?_ | refine St.exit ?_ | refine Out.then_exit ?_ | refine Out.block_exit ?_); try refine StL.run TBok 99 rfl ?_; (repeat with_reducible first | refine StL.nil ?_ | refine Out.then_normal ?_ | refine Out.block_normal ?_ | refine St.seq ?_ | refine St.block ?_ | refine St.skip ?_ | refine St.region ?_ | refine St.ret ?_ | refine Out.then_ret ?_ | refine Out.block_ret ?_ | refine St.exit ?_ | refine Out.then_exit ?_ | refine Out.block_exit ?_); try refine StL.run TBok 99 rfl ?_; (repeat with_reducible first | refine StL.nil ?_ | refine Out.then_normal ?_ | refine Out.block_normal ?_ | refine St.seq ?_ | refine St.block ?_ | refine St.skip ?_ | refine St.region ?_ | refine St.ret ?_ | refine Out.then_ret ?_ | refine Out.block_ret ?_ | refine St.exit ?_ | refine Out.then_exit ?_ | refine Out.block_exit ?_); try refine StL.run TBok 99 rfl ?_; (repeat with_reducible first | refine StL.nil ?_ | refine Out.then_normal ?_ | refine Out.block_normal ?_ | refine St.seq ?_ | refine St.block ?_ | refine St.skip ?_ | refine St.region ?_ | refine St.ret ?_ | refine Out.then_ret ?_ | refine Out.block_ret ?_ | refine St.exit ?_ | refine Out.then_exit ?_ | refine Out.block_exit ?_))
    refine StL.step rfl rfl rfl (RunsTo.shr s rfl rfl rfl (by show s ≤ 64; omega)).op ?_
    rintro _ _ ⟨rfl, rfl⟩
    have e3 : ((x + 4294967296 * y : Nat) : Int) / 2 ^ s = (((x + 4294967296 * y) / 2 ^ s : Nat) : Int) := by simp
    rw [e3]
    have hle : (x + 4294967296 * y) / 2 ^ s ≤ x + 4294967296 * y := Nat.div_le_self _ _
    generalize hq : (x + 4294967296 * y) / 2 ^ s = q at hle
    refine StL.as TBok 1 (u32 (q % 4294967296)) rfl (by rw [wrap_u32]; simp) ?_
    refine StL.put TBok i hb2 rfl (by omega) (by simp [srL_length]; omega) rfl rfl rfl rfl rfl rfl rfl rfl (fun _ => rfl) (fun _ => rfl) rfl rfl ?_
    intro p3 w4 hb3 hu3
    rw [seg_set hA (by simp [srL_length]; omega)] at hb3
    ((repeat with_reducible first | refine StL.nil ?_ | refine Out.then_normal ?_ | refine Out.block_normal ?_ | refine St.seq ?_ | refine St.block ?_ | refine St.skip ?_ | refine St.region ?_ | refine St.ret ?_ | refine Out.then_ret ?_ | refine Out.block_ret ?_ | refine St.exit ?_ | refine Out.then_exit ?_ | refine Out.block_exit ?_); try refine StL.run TBok 99 rfl ?_; (repeat with_reducible first | refine StL.nil ?_ | refine Out.then_normal ?_ | refine Out.block_normal ?_ | refine St.seq ?_ | refine St.block ?_ | refine St.skip ?_ | refine St.region ?_ | refine St.ret ?_ | refine Out.then_ret ?_ | refine Out.block_ret ?_ | refine St.exit ?_ | refine Out.then_exit ?_ | refine Out.block_exit ?_); try refine StL.run TBok 99 rfl ?_; (repeat with_reducible first | refine StL.nil ?_ | refine Out.then_normal ?_ | refine Out.block_normal ?_ | refine St.seq ?_ | refine St.block ?_ | refine St.skip ?_ | refine St.region ?_ | refine St.ret ?_ | refine Out.then_ret ?_ | refine Out.block_ret ?_ | refine St.exit ?_ | refine Out.then_exit ?_ | refine Out.block_exit ?_); try refine StL.run TBok 99 rfl ?_; (repeat with_reducible first | refine StL.nil ?_ | refine Out.then_normal ?_ | refine Out.block_normal ?_ | refine St.seq ?_ | refine St.block ?_ | refine St.skip ?_ | refine St.region ?_ | refine St.ret ?_ | refine Out.then_ret ?_ | refine Out.block_ret ?_ | refine St.exit ?_ | refine Out.then_exit ?_ | refine Out.block_exit ?_); try refine StL.run TBok 99 rfl ?_; (repeat with_reducible first | refine StL.nil ?_ | refine Out.then_normal ?_ | refine Out.block_normal ?_ | refine St.seq ?_ | refine St.block ?_ | refine St.skip ?_ | refine St.region ?_ | refine St.ret ?_ | refine Out.then_ret ?_ | refine Out.block_ret ?_ | refine St.exit ?_ | refine Out.then_exit ?_ | refine Out.block_exit ?_))
    refine Out.again (i + 1) ⟨rfl, rfl, rfl, ?_, trivial⟩ ⟨hu2.trans hu3, by omega, ?_⟩ (by omega)
    · show some (Value.int .i64 (IntKind.i64.wrap ((i : Int) + 1))) = _
      rw [i64_id (by omega) (by omega)]
      rfl
    · have hg := srL_get s xs i x hxi
      rw [hy, hq] at hg
      have hl2 : i < (srL s xs).length := by rw [srL_length]; exact hlt
      have e4 : ((srL s xs).take i ++ xs.drop i).set i (q % 4294967296) = (srL s xs).take (i + 1) ++ xs.drop (i + 1) := by
        rw [List.set_append_right _ _ (by omega), hl1, Nat.sub_self, List.drop_eq_getElem_cons hlt, List.set_cons_zero, List.take_succ_eq_append_getElem hl2]
        rw [List.getElem?_eq_getElem hl2] at hg
        rw [Option.some.inj hg]
        simp
      rw [← e4]
      exact hb3
  obtain rfl : i = xs.length := by omega
  (repeat with_reducible first | refine StL.nil ?_ | refine Out.then_normal ?_ | refine Out.block_normal ?_ | refine St.seq ?_ | refine St.block ?_ | refine St.skip ?_ | refine St.region ?_ | refine St.ret ?_ | refine Out.then_ret ?_ | refine Out.block_ret ?_ | refine St.exit ?_ | refine Out.then_exit ?_ | refine Out.block_exit ?_)
  refine StL.as TBok 1 (.bool false) rfl (bool_false (by omega)) ?_
  (repeat with_reducible first | refine StL.nil ?_ | refine Out.then_normal ?_ | refine Out.block_normal ?_ | refine St.seq ?_ | refine St.block ?_ | refine St.skip ?_ | refine St.region ?_ | refine St.ret ?_ | refine Out.then_ret ?_ | refine Out.block_ret ?_ | refine St.exit ?_ | refine Out.then_exit ?_ | refine Out.block_exit ?_)
  refine St.condF rfl rfl ?_
  (repeat with_reducible first | refine StL.nil ?_ | refine Out.then_normal ?_ | refine Out.block_normal ?_ | refine St.seq ?_ | refine St.block ?_ | refine St.skip ?_ | refine St.region ?_ | refine St.ret ?_ | refine Out.then_ret ?_ | refine Out.block_ret ?_ | refine St.exit ?_ | refine Out.then_exit ?_ | refine Out.block_exit ?_)
  refine Out.none0 rfl ⟨hu2, ?_⟩
  rw [List.drop_length, List.append_nil, List.take_of_length_le (by rw [srL_length]; exact Nat.le_refl _)] at hb2
  exact hb2

end Go.Qf
