/- The law IntegerLimits: the walk. -/
import Derived.Test.YtianfagdgdpnpaaInt2
namespace Go.Qf
open Go Go.RowKit Go.Proofs

theorem Can.den {w : World} {v : Value} {a : Int} (h : Can w v a) : Den w v (decide (a < 0)) (limbs a.natAbs) := h

theorem val_canon (a : Int) : sg (decide (a < 0)) (val (limbs a.natAbs)) = a := by rw [val_limbs, sg_canon]

set_option maxRecDepth 8000 in
set_option maxHeartbeats 400000 in
theorem limits_spec (w : World) : Calls Try.prog 3 #[] w (Ret fun r w' => Ext w w' ∧ r = .bool true) := by
  refine calls_of_St (args := []) Try.func3 rfl Try.ntmps3 rfl ?_
  ((repeat with_reducible first | refine StL.nil ?_ | refine Out.then_normal ?_ | refine Out.block_normal ?_ | refine St.seq ?_ | refine St.block ?_ | refine St.skip ?_ | refine St.region ?_ | refine St.ret ?_ | refine Out.then_ret ?_ | refine Out.block_ret ?_ | refine St.exit ?_ | refine Out.then_exit ?_ | refine Out.block_exit ?_); try refine StL.run TBok 99 rfl ?_; (repeat with_reducible first | refine StL.nil ?_ | refine Out.then_normal ?_ | refine Out.block_normal ?_ | refine St.seq ?_ | refine St.block ?_ | refine St.skip ?_ | refine St.region ?_ | refine St.ret ?_ | refine Out.then_ret ?_ | refine Out.block_ret ?_ | refine St.exit ?_ | refine Out.then_exit ?_ | refine Out.block_exit ?_); try refine StL.run TBok 99 rfl ?_; (repeat with_reducible first | refine StL.nil ?_ | refine Out.then_normal ?_ | refine Out.block_normal ?_ | refine St.seq ?_ | refine St.block ?_ | refine St.skip ?_ | refine St.region ?_ | refine St.ret ?_ | refine Out.then_ret ?_ | refine Out.block_ret ?_ | refine St.exit ?_ | refine Out.then_exit ?_ | refine Out.block_exit ?_); try refine StL.run TBok 99 rfl ?_; (repeat with_reducible first | refine StL.nil ?_ | refine Out.then_normal ?_ | refine Out.block_normal ?_ | refine St.seq ?_ | refine St.block ?_ | refine St.skip ?_ | refine St.region ?_ | refine St.ret ?_ | refine Out.then_ret ?_ | refine Out.block_ret ?_ | refine St.exit ?_ | refine Out.then_exit ?_ | refine Out.block_exit ?_); try refine StL.run TBok 99 rfl ?_; (repeat with_reducible first | refine StL.nil ?_ | refine Out.then_normal ?_ | refine Out.block_normal ?_ | refine St.seq ?_ | refine St.block ?_ | refine St.skip ?_ | refine St.region ?_ | refine St.ret ?_ | refine Out.then_ret ?_ | refine Out.block_ret ?_ | refine St.exit ?_ | refine Out.then_exit ?_ | refine Out.block_exit ?_))
  refine StL.step rfl rfl rfl (OpR.call fn_integer_Small rfl (small_spec w 9223372036854775807 (by decide) (by decide))) ?_
  rintro v12 w1 ⟨hx1, h12⟩
  refine StL.step rfl rfl rfl (OpR.call fn_integer_Small rfl (small_spec w1 1 (by decide) (by decide))) ?_
  rintro v13 w2 ⟨hx2, h13⟩
  refine StL.step rfl rfl rfl (OpR.alloc TBok rfl) ?_
  rintro _ w3 ⟨rfl, hb1, hx3, hs3⟩
  refine StL.step rfl rfl rfl (OpR.alloc TBok rfl) ?_
  rintro _ w4 ⟨rfl, hb2, hx4, hs4⟩
  have hx24 := hx3.trans hx4
  refine StL.retCan rfl rfl (hb1.ext hx4) rfl ((h12.ext hx2).ext hx24) hx24 (Nat.le_refl _) ?_
  intro w5 c1 e1 l1 hB1 hu5 hx25
  have h13' := Can.upd (h13.ext hx24) hu5 ⟨_, hb1.ext hx4⟩
  have h12' := Can.upd ((h12.ext hx2).ext hx24) hu5 ⟨_, hb1.ext hx4⟩
  have hb2' := hb2.upd hu5 (by omega)
  refine StL.retCan rfl rfl hb2' rfl h13' hx25 (by omega) ?_
  intro w6 c2 e2 l2 hB2 hu6 hx26
  have h12a := Can.upd h12' hu6 ⟨_, hb2'⟩
  have h13a := Can.upd h13' hu6 ⟨_, hb2'⟩
  have hB1a := hB1.upd hu6 (by omega)
  have hx06 : Ext w w6 := (hx1.trans hx2).trans hx26
  (repeat with_reducible first | refine StL.nil ?_ | refine Out.then_normal ?_ | refine Out.block_normal ?_ | refine St.seq ?_ | refine St.block ?_ | refine St.skip ?_ | refine St.region ?_ | refine St.ret ?_ | refine Out.then_ret ?_ | refine Out.block_ret ?_ | refine St.exit ?_ | refine Out.then_exit ?_ | refine Out.block_exit ?_)
  refine StL.step rfl rfl rfl (OpR.call fn_integer_Small rfl (small_spec w6 (-9223372036854775808) (by decide) (by decide))) ?_
  rintro v14 w7 ⟨hx7, h14⟩
  refine StL.step rfl rfl rfl (OpR.alloc TBok rfl) ?_
  rintro _ w8 ⟨rfl, hb3, hx8, hs8⟩
  have hx68 := hx7.trans hx8
  refine StL.retCan rfl rfl hb3 rfl (h14.ext hx8) hx68 hx7.size ?_
  intro w9 c3 e3 l3 hB3 hu9 hx69
  have h14a := Can.upd (h14.ext hx8) hu9 ⟨_, hb3⟩
  have h12b := h12a.ext hx69
  have h13b := h13a.ext hx69
  have hB1b := hB1a.ext hx69
  have hB2b := hB2.ext hx69
  have hx09 := hx06.trans hx69
  clear hu9 hx69 hx68 hx8 hx7 h14 hb3 hx06 hB1a h13a h12a hx26 hu6 hb2' h12' h13' hx25 hu5 hB1 hx24 hb1 hb2 hx3 hx4 h12 h13 hx1 hx2
  (repeat with_reducible first | refine StL.nil ?_ | refine Out.then_normal ?_ | refine Out.block_normal ?_ | refine St.seq ?_ | refine St.block ?_ | refine St.skip ?_ | refine St.region ?_ | refine St.ret ?_ | refine Out.then_ret ?_ | refine Out.block_ret ?_ | refine St.exit ?_ | refine Out.then_exit ?_ | refine Out.block_exit ?_)
  refine StL.step rfl rfl rfl (RunsTo.loadInt rfl hB1b l1 e1).op ?_
  rintro _ _ ⟨rfl, rfl⟩
  refine StL.step rfl rfl rfl (OpR.call fn_integer_Int64 rfl (int64_spec w9 v12 _ _ h12b.den (by decide +kernel))) ?_
  rintro _ w10 ⟨hx10, rfl⟩
  rw [val_canon, show int64V 9223372036854775807 = .tuple #[.int .i64 9223372036854775807, .bool true] from by unfold int64V; rw [if_pos (by decide)]]
  ((repeat with_reducible first | refine StL.nil ?_ | refine Out.then_normal ?_ | refine Out.block_normal ?_ | refine St.seq ?_ | refine St.block ?_ | refine St.skip ?_ | refine St.region ?_ | refine St.ret ?_ | refine Out.then_ret ?_ | refine Out.block_ret ?_ | refine St.exit ?_ | refine Out.then_exit ?_ | refine Out.block_exit ?_); try refine StL.run TBok 99 rfl ?_; (repeat with_reducible first | refine StL.nil ?_ | refine Out.then_normal ?_ | refine Out.block_normal ?_ | refine St.seq ?_ | refine St.block ?_ | refine St.skip ?_ | refine St.region ?_ | refine St.ret ?_ | refine Out.then_ret ?_ | refine Out.block_ret ?_ | refine St.exit ?_ | refine Out.then_exit ?_ | refine Out.block_exit ?_); try refine StL.run TBok 99 rfl ?_; (repeat with_reducible first | refine StL.nil ?_ | refine Out.then_normal ?_ | refine Out.block_normal ?_ | refine St.seq ?_ | refine St.block ?_ | refine St.skip ?_ | refine St.region ?_ | refine St.ret ?_ | refine Out.then_ret ?_ | refine Out.block_ret ?_ | refine St.exit ?_ | refine Out.then_exit ?_ | refine Out.block_exit ?_); try refine StL.run TBok 99 rfl ?_; (repeat with_reducible first | refine StL.nil ?_ | refine Out.then_normal ?_ | refine Out.block_normal ?_ | refine St.seq ?_ | refine St.block ?_ | refine St.skip ?_ | refine St.region ?_ | refine St.ret ?_ | refine Out.then_ret ?_ | refine Out.block_ret ?_ | refine St.exit ?_ | refine Out.then_exit ?_ | refine Out.block_exit ?_); try refine StL.run TBok 99 rfl ?_; (repeat with_reducible first | refine StL.nil ?_ | refine Out.then_normal ?_ | refine Out.block_normal ?_ | refine St.seq ?_ | refine St.block ?_ | refine St.skip ?_ | refine St.region ?_ | refine St.ret ?_ | refine Out.then_ret ?_ | refine Out.block_ret ?_ | refine St.exit ?_ | refine Out.then_exit ?_ | refine Out.block_exit ?_))
  refine StL.step rfl rfl rfl (RunsTo.loadInt rfl (hB3.ext hx10) l3 e3).op ?_
  rintro _ _ ⟨rfl, rfl⟩
  refine StL.step rfl rfl rfl (OpR.call fn_integer_Int64 rfl (int64_spec w10 v14 _ _ (h14a.ext hx10).den (by decide +kernel))) ?_
  rintro _ w11 ⟨hx11, rfl⟩
  rw [val_canon, show int64V (-9223372036854775808) = .tuple #[.int .i64 (-9223372036854775808), .bool true] from by unfold int64V; rw [if_pos (by decide)]]
  have hx911 := hx10.trans hx11
  ((repeat with_reducible first | refine StL.nil ?_ | refine Out.then_normal ?_ | refine Out.block_normal ?_ | refine St.seq ?_ | refine St.block ?_ | refine St.skip ?_ | refine St.region ?_ | refine St.ret ?_ | refine Out.then_ret ?_ | refine Out.block_ret ?_ | refine St.exit ?_ | refine Out.then_exit ?_ | refine Out.block_exit ?_); try refine StL.run TBok 99 rfl ?_; (repeat with_reducible first | refine StL.nil ?_ | refine Out.then_normal ?_ | refine Out.block_normal ?_ | refine St.seq ?_ | refine St.block ?_ | refine St.skip ?_ | refine St.region ?_ | refine St.ret ?_ | refine Out.then_ret ?_ | refine Out.block_ret ?_ | refine St.exit ?_ | refine Out.then_exit ?_ | refine Out.block_exit ?_); try refine StL.run TBok 99 rfl ?_; (repeat with_reducible first | refine StL.nil ?_ | refine Out.then_normal ?_ | refine Out.block_normal ?_ | refine St.seq ?_ | refine St.block ?_ | refine St.skip ?_ | refine St.region ?_ | refine St.ret ?_ | refine Out.then_ret ?_ | refine Out.block_ret ?_ | refine St.exit ?_ | refine Out.then_exit ?_ | refine Out.block_exit ?_); try refine StL.run TBok 99 rfl ?_; (repeat with_reducible first | refine StL.nil ?_ | refine Out.then_normal ?_ | refine Out.block_normal ?_ | refine St.seq ?_ | refine St.block ?_ | refine St.skip ?_ | refine St.region ?_ | refine St.ret ?_ | refine Out.then_ret ?_ | refine Out.block_ret ?_ | refine St.exit ?_ | refine Out.then_exit ?_ | refine Out.block_exit ?_); try refine StL.run TBok 99 rfl ?_; (repeat with_reducible first | refine StL.nil ?_ | refine Out.then_normal ?_ | refine Out.block_normal ?_ | refine St.seq ?_ | refine St.block ?_ | refine St.skip ?_ | refine St.region ?_ | refine St.ret ?_ | refine Out.then_ret ?_ | refine Out.block_ret ?_ | refine St.exit ?_ | refine Out.then_exit ?_ | refine Out.block_exit ?_))
  refine StL.step rfl rfl rfl (RunsTo.loadInt rfl (hB1b.ext hx911) l1 e1).op ?_
  rintro _ _ ⟨rfl, rfl⟩
  refine StL.step rfl rfl rfl (RunsTo.loadInt rfl (hB2b.ext hx911) l2 e2).op ?_
  rintro _ _ ⟨rfl, rfl⟩
  refine StL.step rfl rfl rfl (OpR.call fn_integer_Add rfl (add_spec w11 v12 v13 _ _ _ _ (h12b.ext hx911).den (h13b.ext hx911).den (by decide +kernel) (by decide +kernel))) ?_
  rintro v28 w12 ⟨hx12, h28⟩
  rw [val_canon, val_canon] at h28
  refine StL.step rfl rfl rfl (OpR.call fn_integer_Int64 rfl (int64_spec w12 v28 _ _ h28.den (by decide +kernel))) ?_
  rintro _ w13 ⟨hx13, rfl⟩
  rw [val_canon, show int64V (9223372036854775807 + 1) = .tuple #[.int .i64 0, .bool false] from by unfold int64V; rw [if_neg (by decide)]]
  have hx913 := (hx911.trans hx12).trans hx13
  ((repeat with_reducible first | refine StL.nil ?_ | refine Out.then_normal ?_ | refine Out.block_normal ?_ | refine St.seq ?_ | refine St.block ?_ | refine St.skip ?_ | refine St.region ?_ | refine St.ret ?_ | refine Out.then_ret ?_ | refine Out.block_ret ?_ | refine St.exit ?_ | refine Out.then_exit ?_ | refine Out.block_exit ?_); try refine StL.run TBok 99 rfl ?_; (repeat with_reducible first | refine StL.nil ?_ | refine Out.then_normal ?_ | refine Out.block_normal ?_ | refine St.seq ?_ | refine St.block ?_ | refine St.skip ?_ | refine St.region ?_ | refine St.ret ?_ | refine Out.then_ret ?_ | refine Out.block_ret ?_ | refine St.exit ?_ | refine Out.then_exit ?_ | refine Out.block_exit ?_); try refine StL.run TBok 99 rfl ?_; (repeat with_reducible first | refine StL.nil ?_ | refine Out.then_normal ?_ | refine Out.block_normal ?_ | refine St.seq ?_ | refine St.block ?_ | refine St.skip ?_ | refine St.region ?_ | refine St.ret ?_ | refine Out.then_ret ?_ | refine Out.block_ret ?_ | refine St.exit ?_ | refine Out.then_exit ?_ | refine Out.block_exit ?_); try refine StL.run TBok 99 rfl ?_; (repeat with_reducible first | refine StL.nil ?_ | refine Out.then_normal ?_ | refine Out.block_normal ?_ | refine St.seq ?_ | refine St.block ?_ | refine St.skip ?_ | refine St.region ?_ | refine St.ret ?_ | refine Out.then_ret ?_ | refine Out.block_ret ?_ | refine St.exit ?_ | refine Out.then_exit ?_ | refine Out.block_exit ?_); try refine StL.run TBok 99 rfl ?_; (repeat with_reducible first | refine StL.nil ?_ | refine Out.then_normal ?_ | refine Out.block_normal ?_ | refine St.seq ?_ | refine St.block ?_ | refine St.skip ?_ | refine St.region ?_ | refine St.ret ?_ | refine Out.then_ret ?_ | refine Out.block_ret ?_ | refine St.exit ?_ | refine Out.then_exit ?_ | refine Out.block_exit ?_))
  refine StL.step rfl rfl rfl (RunsTo.loadInt rfl (hB3.ext hx913) l3 e3).op ?_
  rintro _ _ ⟨rfl, rfl⟩
  refine StL.step rfl rfl rfl (RunsTo.loadInt rfl (hB2b.ext hx913) l2 e2).op ?_
  rintro _ _ ⟨rfl, rfl⟩
  refine StL.step rfl rfl rfl (OpR.call fn_integer_Sub rfl (sub_spec w13 v14 v13 _ _ _ _ (h14a.ext hx913).den (h13b.ext hx913).den (by decide +kernel) (by decide +kernel))) ?_
  rintro v35 w14 ⟨hx14, h35⟩
  rw [sg_not, val_canon, val_canon] at h35
  refine StL.step rfl rfl rfl (OpR.call fn_integer_Int64 rfl (int64_spec w14 v35 _ _ h35.den (by decide +kernel))) ?_
  rintro _ w15 ⟨hx15, rfl⟩
  rw [val_canon, show int64V (-9223372036854775808 + -1) = .tuple #[.int .i64 0, .bool false] from by unfold int64V; rw [if_neg (by decide)]]
  ((repeat with_reducible first | refine StL.nil ?_ | refine Out.then_normal ?_ | refine Out.block_normal ?_ | refine St.seq ?_ | refine St.block ?_ | refine St.skip ?_ | refine St.region ?_ | refine St.ret ?_ | refine Out.then_ret ?_ | refine Out.block_ret ?_ | refine St.exit ?_ | refine Out.then_exit ?_ | refine Out.block_exit ?_); try refine StL.run TBok 99 rfl ?_; (repeat with_reducible first | refine StL.nil ?_ | refine Out.then_normal ?_ | refine Out.block_normal ?_ | refine St.seq ?_ | refine St.block ?_ | refine St.skip ?_ | refine St.region ?_ | refine St.ret ?_ | refine Out.then_ret ?_ | refine Out.block_ret ?_ | refine St.exit ?_ | refine Out.then_exit ?_ | refine Out.block_exit ?_); try refine StL.run TBok 99 rfl ?_; (repeat with_reducible first | refine StL.nil ?_ | refine Out.then_normal ?_ | refine Out.block_normal ?_ | refine St.seq ?_ | refine St.block ?_ | refine St.skip ?_ | refine St.region ?_ | refine St.ret ?_ | refine Out.then_ret ?_ | refine Out.block_ret ?_ | refine St.exit ?_ | refine Out.then_exit ?_ | refine Out.block_exit ?_); try refine StL.run TBok 99 rfl ?_; (repeat with_reducible first | refine StL.nil ?_ | refine Out.then_normal ?_ | refine Out.block_normal ?_ | refine St.seq ?_ | refine St.block ?_ | refine St.skip ?_ | refine St.region ?_ | refine St.ret ?_ | refine Out.then_ret ?_ | refine Out.block_ret ?_ | refine St.exit ?_ | refine Out.then_exit ?_ | refine Out.block_exit ?_); try refine StL.run TBok 99 rfl ?_; (repeat with_reducible first | refine StL.nil ?_ | refine Out.then_normal ?_ | refine Out.block_normal ?_ | refine St.seq ?_ | refine St.block ?_ | refine St.skip ?_ | refine St.region ?_ | refine St.ret ?_ | refine Out.then_ret ?_ | refine Out.block_ret ?_ | refine St.exit ?_ | refine Out.then_exit ?_ | refine Out.block_exit ?_))
  exact Out.ret1 rfl rfl ⟨hx09.trans ((hx913.trans hx14).trans hx15), rfl⟩

end Go.Qf
