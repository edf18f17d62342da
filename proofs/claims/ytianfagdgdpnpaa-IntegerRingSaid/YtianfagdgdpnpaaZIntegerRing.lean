/- Lemmas on the model and on the program's functions, part ZIntegerRing. -/
import Derived.Test.YtianfagdgdpnpaaQa
import Derived.Test.YtianfagdgdpnpaaQb
import Derived.Test.YtianfagdgdpnpaaQc
import Derived.Test.YtianfagdgdpnpaaQd
import Derived.Test.YtianfagdgdpnpaaQe
/- The laws IntegerSmall, IntegerFits: the walks. -/
namespace Go.Qf
open Go Go.RowKit Go.Proofs

theorem same_true {b1 b2 : Nat} {w : World} {x y : Value} {a : Int} (h : CanO b1 w x a) (k : CanO b2 w y a) (hs : sz a ≤ 100000000) :
    Calls Try.prog 27 #[x, y] w (Ret fun r w' => Ext w w' ∧ r = .bool true) := by
  refine (same_can h k hs hs).mono ?_
  rintro e w' ⟨r, rfl, hx, rfl⟩
  exact ⟨_, rfl, hx, by simp⟩

set_option maxRecDepth 8000 in
theorem lawSmall (w : World) (a : Int) (ha : -9223372036854775808 ≤ a ∧ a ≤ 9223372036854775807) : Calls Try.prog 4 #[.int .i64 a] w (Ret fun r w' => Ext w w' ∧ r = .bool true) := by
  have hsz : sz a ≤ 2 := sz_small (by omega) (by omega)
  refine calls_of_St (args := [_]) Try.func4 rfl Try.ntmps4 rfl ?_
  (iterate 6 ((repeat with_reducible first|refine .nil ?_|refine .then_normal ?_|refine .block_normal ?_|refine .seq ?_|refine .block ?_|refine .skip ?_|refine .region ?_|refine .ret ?_|refine .then_ret ?_|refine .block_ret ?_|refine .exit ?_|refine .then_exit ?_|refine .block_exit ?_|refine .block_other rfl ?_); try refine .run TBok 99 rfl ?_))
  refine StL.step rfl rfl rfl (OpR.call fn_integer_Small rfl (small_spec w a ha.1 ha.2)) ?_
  rintro v7 w1 ⟨hx1, h7⟩
  refine StL.step rfl rfl rfl (OpR.alloc TBok rfl) ?_
  rintro _ w2 ⟨rfl, hb2, hx2, hz2⟩
  refine StL.setCan rfl rfl hb2 rfl (h7.ext hx2) hx2 (Nat.le_refl _) ?_
  intro w3 hB3 hu3 h73 hx3
  (iterate 6 ((repeat with_reducible first|refine .nil ?_|refine .then_normal ?_|refine .block_normal ?_|refine .seq ?_|refine .block ?_|refine .skip ?_|refine .region ?_|refine .ret ?_|refine .then_ret ?_|refine .block_ret ?_|refine .exit ?_|refine .then_exit ?_|refine .block_exit ?_|refine .block_other rfl ?_); try refine .run TBok 99 rfl ?_))
  refine StL.step rfl rfl rfl (RunsTo.loadCan rfl hB3 h73).op ?_
  rintro _ _ ⟨rfl, rfl⟩
  refine StL.step rfl rfl rfl (OpR.call fn_integer_Int64 rfl (int64_dn (h73.dn (by omega)))) ?_
  rintro _ w4 ⟨hx4, rfl⟩
  rw [show int64V a = .tuple #[.int .i64 a, .bool true] from by unfold int64V; rw [if_pos ha]]
  have hB4 := hB3.ext hx4
  have h74 := h73.ext hx4
  (iterate 6 ((repeat with_reducible first|refine .nil ?_|refine .then_normal ?_|refine .block_normal ?_|refine .seq ?_|refine .block ?_|refine .skip ?_|refine .region ?_|refine .ret ?_|refine .then_ret ?_|refine .block_ret ?_|refine .exit ?_|refine .then_exit ?_|refine .block_exit ?_|refine .block_other rfl ?_); try refine .run TBok 99 rfl ?_))
  refine St.flow 15 TBfol (by kernel_rfl) rfl (by kernel_rfl) rfl True.intro ?_
  refine FL.run TBok 99 rfl ?_
  refine FL.one (L := []) rfl rfl rfl rfl rfl (fun w1 hR => RunsTo.loadCan rfl (hR.blk hB4 (by simp)) h74) ?_
  refine FL.run TBok 99 rfl ?_
  refine FL.callE fn_r01_Small rfl rfl rfl (fun w5 hx5 => CallF.mk rfl (rsmall_spec (base := 0) w5 a ha.1 ha.2 (Nat.zero_le _))) (MonoR.canO 0 _) ?_
  refine FL.callXE fn_r01_Same rfl rfl rfl (fun w5 hx5 v15 h15 => CallF.mk rfl (same_true (h74.ext hx5) h15 (by omega))) ?_
  refine FL.as TBok 7 (.bool true) rfl (by simp) ?_
  refine FL.run TBok 99 rfl ?_
  refine FL.callXE fn_w01_awake rfl rfl rfl (fun w5 hx5 => CallF.mk rfl (awake_spec w5)) ?_
  refine FL.run TBok 99 rfl ?_
  refine FL.endE rfl ?_
  intro w5 hx5 v15 _ _ _
  (iterate 6 ((repeat with_reducible first|refine .nil ?_|refine .then_normal ?_|refine .block_normal ?_|refine .seq ?_|refine .block ?_|refine .skip ?_|refine .region ?_|refine .ret ?_|refine .then_ret ?_|refine .block_ret ?_|refine .exit ?_|refine .then_exit ?_|refine .block_exit ?_|refine .block_other rfl ?_); try refine .run TBok 99 rfl ?_))
  exact Out.ret1 rfl rfl ⟨((hx1.trans hx3).trans hx4).trans hx5, rfl⟩

/-- What awake says ends the law. -/
theorem StL.awake {n : Nat} {E : List (Nat × Value)} {w : World} {ops : Array Oper} {rest : List Oper} {Q : Exit → Act → World → Prop} {d : Nat} {ty : TypeId} {pos : String} {af : Array Edge} {g : Option (Nat × Bool)} (hw : wantE ops E g = some true) (hn : Nat.blt d n = true) (next : ∀ w', Ext w w' → StL Try.prog n ((d, .bool true) :: E) w' ops rest Q) :
    StL Try.prog n E w ops (⟨some d, .call ⟨.value (.func 29), #[], #[]⟩, ty, pos, af, g⟩ :: rest) Q := by
  refine StL.step rfl hw hn (OpR.call fn_w01_awake rfl (awake_spec w)) ?_
  rintro _ w' ⟨hx, rfl⟩
  exact next w' hx

set_option maxRecDepth 8000 in
theorem lawFits (w : World) (v : Value) (neg : Bool) (xs : List Nat) (h : Den w v neg xs) : Calls Try.prog 5 #[v] w (Ret fun r w' => Ext w w' ∧ r = .bool true) := by
  have hD := h
  obtain ⟨p, cap, rfl, hs⟩ := h
  refine calls_of_St (args := [_]) Try.func5 rfl Try.ntmps5 rfl ?_
  (repeat with_reducible first|refine .nil ?_|refine .then_normal ?_|refine .block_normal ?_|refine .seq ?_|refine .block ?_|refine .skip ?_|refine .region ?_|refine .ret ?_|refine .then_ret ?_|refine .block_ret ?_|refine .exit ?_|refine .then_exit ?_|refine .block_exit ?_|refine .block_other rfl ?_)
  refine StL.step rfl rfl rfl (OpR.box rfl) ?_
  rintro _ w1 ⟨rfl, hb1, hx1, hz1⟩
  (iterate 6 ((repeat with_reducible first|refine .nil ?_|refine .then_normal ?_|refine .block_normal ?_|refine .seq ?_|refine .block ?_|refine .skip ?_|refine .region ?_|refine .ret ?_|refine .then_ret ?_|refine .block_ret ?_|refine .exit ?_|refine .then_exit ?_|refine .block_exit ?_|refine .block_other rfl ?_); try refine .run TBok 99 rfl ?_))
  (refine StL.step rfl rfl rfl (RunsTo.loadInt rfl (by first | assumption | exact Ext.refl _ | (apply Blk.ext; assumption; (repeat first | assumption | refine Ext.trans ?_ (by assumption))) | (apply CanO.ext; assumption; (repeat first | assumption | refine Ext.trans ?_ (by assumption))) | (apply Den.ext; assumption; (repeat first | assumption | refine Ext.trans ?_ (by assumption))) | (apply Sl.ext; assumption; (repeat first | assumption | refine Ext.trans ?_ (by assumption))) | (apply SlO.ext; assumption; (repeat first | assumption | refine Ext.trans ?_ (by assumption))) | (apply Dn.ext; assumption; (repeat first | assumption | refine Ext.trans ?_ (by assumption))) | (apply It.ext; assumption; (repeat first | assumption | refine Ext.trans ?_ (by assumption))) | (repeat first | assumption | refine Ext.trans ?_ (by assumption))) (by first | rfl | assumption) (by first | rfl | assumption)).op ?_; rintro _ _ ⟨rfl, rfl⟩)
  refine StL.step rfl rfl rfl (OpR.call fn_w01_long rfl (long_spec w1 _ neg xs (by first | assumption | exact Ext.refl _ | (apply Blk.ext; assumption; (repeat first | assumption | refine Ext.trans ?_ (by assumption))) | (apply CanO.ext; assumption; (repeat first | assumption | refine Ext.trans ?_ (by assumption))) | (apply Den.ext; assumption; (repeat first | assumption | refine Ext.trans ?_ (by assumption))) | (apply Sl.ext; assumption; (repeat first | assumption | refine Ext.trans ?_ (by assumption))) | (apply SlO.ext; assumption; (repeat first | assumption | refine Ext.trans ?_ (by assumption))) | (apply Dn.ext; assumption; (repeat first | assumption | refine Ext.trans ?_ (by assumption))) | (apply It.ext; assumption; (repeat first | assumption | refine Ext.trans ?_ (by assumption))) | (repeat first | assumption | refine Ext.trans ?_ (by assumption))))) ?_
  rintro _ w2 ⟨hx2, rfl⟩
  (iterate 6 ((repeat with_reducible first|refine .nil ?_|refine .then_normal ?_|refine .block_normal ?_|refine .seq ?_|refine .block ?_|refine .skip ?_|refine .region ?_|refine .ret ?_|refine .then_ret ?_|refine .block_ret ?_|refine .exit ?_|refine .then_exit ?_|refine .block_exit ?_|refine .block_other rfl ?_); try refine .run TBok 99 rfl ?_))
  by_cases hlong : 40 < xs.length
  · refine St.condT rfl (by simpa using hlong) ?_
    (repeat with_reducible first|refine .nil ?_|refine .then_normal ?_|refine .block_normal ?_|refine .seq ?_|refine .block ?_|refine .skip ?_|refine .region ?_|refine .ret ?_|refine .then_ret ?_|refine .block_ret ?_|refine .exit ?_|refine .then_exit ?_|refine .block_exit ?_|refine .block_other rfl ?_)
    refine StL.awake rfl rfl ?_
    intro w3 hx3
    (iterate 6 ((repeat with_reducible first|refine .nil ?_|refine .then_normal ?_|refine .block_normal ?_|refine .seq ?_|refine .block ?_|refine .skip ?_|refine .region ?_|refine .ret ?_|refine .then_ret ?_|refine .block_ret ?_|refine .exit ?_|refine .then_exit ?_|refine .block_exit ?_|refine .block_other rfl ?_); try refine .run TBok 99 rfl ?_))
    exact Out.ret1 rfl rfl ⟨(by first | assumption | exact Ext.refl _ | (apply Blk.ext; assumption; (repeat first | assumption | refine Ext.trans ?_ (by assumption))) | (apply CanO.ext; assumption; (repeat first | assumption | refine Ext.trans ?_ (by assumption))) | (apply Den.ext; assumption; (repeat first | assumption | refine Ext.trans ?_ (by assumption))) | (apply Sl.ext; assumption; (repeat first | assumption | refine Ext.trans ?_ (by assumption))) | (apply SlO.ext; assumption; (repeat first | assumption | refine Ext.trans ?_ (by assumption))) | (apply Dn.ext; assumption; (repeat first | assumption | refine Ext.trans ?_ (by assumption))) | (apply It.ext; assumption; (repeat first | assumption | refine Ext.trans ?_ (by assumption))) | (repeat first | assumption | refine Ext.trans ?_ (by assumption))), rfl⟩
  refine St.condF rfl (by simpa using hlong) ?_
  have hdn : Dn w2 _ _ := Den.dn (neg := neg) (xs := xs) ((hD.ext hx1).ext hx2) (by omega)
  (iterate 6 ((repeat with_reducible first|refine .nil ?_|refine .then_normal ?_|refine .block_normal ?_|refine .seq ?_|refine .block ?_|refine .skip ?_|refine .region ?_|refine .ret ?_|refine .then_ret ?_|refine .block_ret ?_|refine .exit ?_|refine .then_exit ?_|refine .block_exit ?_|refine .block_other rfl ?_); try refine .run TBok 99 rfl ?_))
  (refine StL.step rfl rfl rfl (RunsTo.loadInt rfl (by first | assumption | exact Ext.refl _ | (apply Blk.ext; assumption; (repeat first | assumption | refine Ext.trans ?_ (by assumption))) | (apply CanO.ext; assumption; (repeat first | assumption | refine Ext.trans ?_ (by assumption))) | (apply Den.ext; assumption; (repeat first | assumption | refine Ext.trans ?_ (by assumption))) | (apply Sl.ext; assumption; (repeat first | assumption | refine Ext.trans ?_ (by assumption))) | (apply SlO.ext; assumption; (repeat first | assumption | refine Ext.trans ?_ (by assumption))) | (apply Dn.ext; assumption; (repeat first | assumption | refine Ext.trans ?_ (by assumption))) | (apply It.ext; assumption; (repeat first | assumption | refine Ext.trans ?_ (by assumption))) | (repeat first | assumption | refine Ext.trans ?_ (by assumption))) (by first | rfl | assumption) (by first | rfl | assumption)).op ?_; rintro _ _ ⟨rfl, rfl⟩)
  refine StL.step rfl rfl rfl (OpR.call fn_integer_Int64 rfl (int64_dn hdn)) ?_
  rintro _ w3 ⟨hx3, rfl⟩
  obtain ⟨n, ok, hv⟩ : ∃ n ok, int64V (sg neg (val xs)) = .tuple #[.int .i64 n, .bool ok] := by
    unfold int64V
    split
    · exact ⟨_, _, rfl⟩
    · exact ⟨_, _, rfl⟩
  rw [hv]
  (iterate 6 ((repeat with_reducible first|refine .nil ?_|refine .then_normal ?_|refine .block_normal ?_|refine .seq ?_|refine .block ?_|refine .skip ?_|refine .region ?_|refine .ret ?_|refine .then_ret ?_|refine .block_ret ?_|refine .exit ?_|refine .then_exit ?_|refine .block_exit ?_|refine .block_other rfl ?_); try refine .run TBok 99 rfl ?_))
  (refine StL.step rfl rfl rfl (RunsTo.loadInt rfl (by first | assumption | exact Ext.refl _ | (apply Blk.ext; assumption; (repeat first | assumption | refine Ext.trans ?_ (by assumption))) | (apply CanO.ext; assumption; (repeat first | assumption | refine Ext.trans ?_ (by assumption))) | (apply Den.ext; assumption; (repeat first | assumption | refine Ext.trans ?_ (by assumption))) | (apply Sl.ext; assumption; (repeat first | assumption | refine Ext.trans ?_ (by assumption))) | (apply SlO.ext; assumption; (repeat first | assumption | refine Ext.trans ?_ (by assumption))) | (apply Dn.ext; assumption; (repeat first | assumption | refine Ext.trans ?_ (by assumption))) | (apply It.ext; assumption; (repeat first | assumption | refine Ext.trans ?_ (by assumption))) | (repeat first | assumption | refine Ext.trans ?_ (by assumption))) (by first | rfl | assumption) (by first | rfl | assumption)).op ?_; rintro _ _ ⟨rfl, rfl⟩)
  refine StL.step rfl rfl rfl (OpR.call fn_r01_Int64 rfl (rint64_dn (hdn.ext hx3))) ?_
  rintro _ w4 ⟨hx4, rfl⟩
  rw [hv]
  refine .run TBok 99 rfl ?_
  (repeat with_reducible first|refine .nil ?_|refine .then_normal ?_|refine .block_normal ?_|refine .seq ?_|refine .block ?_|refine .skip ?_|refine .region ?_|refine .ret ?_|refine .then_ret ?_|refine .block_ret ?_|refine .exit ?_|refine .then_exit ?_|refine .block_exit ?_|refine .block_other rfl ?_)
  refine StL.as TBok 3 (.bool true) rfl (by simp) ?_
  refine .run TBok 99 rfl ?_
  refine StL.step rfl rfl rfl (RunsTo.boolEq TBok rfl rfl rfl).op ?_
  rintro _ _ ⟨rfl, rfl⟩
  rw [show (ok == ok) = true from by cases ok <;> rfl]
  refine .run TBok 99 rfl ?_
  refine StL.awake rfl rfl ?_
  intro w5 hx5
  (iterate 6 ((repeat with_reducible first|refine .nil ?_|refine .then_normal ?_|refine .block_normal ?_|refine .seq ?_|refine .block ?_|refine .skip ?_|refine .region ?_|refine .ret ?_|refine .then_ret ?_|refine .block_ret ?_|refine .exit ?_|refine .then_exit ?_|refine .block_exit ?_|refine .block_other rfl ?_); try refine .run TBok 99 rfl ?_))
  exact Out.ret1 rfl rfl ⟨(by first | assumption | exact Ext.refl _ | (apply Blk.ext; assumption; (repeat first | assumption | refine Ext.trans ?_ (by assumption))) | (apply CanO.ext; assumption; (repeat first | assumption | refine Ext.trans ?_ (by assumption))) | (apply Den.ext; assumption; (repeat first | assumption | refine Ext.trans ?_ (by assumption))) | (apply Sl.ext; assumption; (repeat first | assumption | refine Ext.trans ?_ (by assumption))) | (apply SlO.ext; assumption; (repeat first | assumption | refine Ext.trans ?_ (by assumption))) | (apply Dn.ext; assumption; (repeat first | assumption | refine Ext.trans ?_ (by assumption))) | (apply It.ext; assumption; (repeat first | assumption | refine Ext.trans ?_ (by assumption))) | (repeat first | assumption | refine Ext.trans ?_ (by assumption))), rfl⟩

end Go.Qf

/- The laws IntegerCompares, IntegerRing: the walks. -/
namespace Go.Qf
open Go Go.RowKit Go.Proofs

theorem cmpI_swap (a b : Int) : cmpI b a = - cmpI a b := by
  unfold cmpI
  repeat' split
  all_goals omega
theorem cmpI_self (a : Int) : cmpI a a = 0 := by
  unfold cmpI
  rw [if_neg (by omega), if_neg (by omega)]
theorem cmpI_bound (a b : Int) : -1 ≤ cmpI a b ∧ cmpI a b ≤ 1 := by
  unfold cmpI
  split
  · omega
  · split <;> omega

set_option maxRecDepth 8000 in
set_option maxHeartbeats 400000 in
theorem lawCompares (w : World) (v : Value) (na : Bool) (xs : List Nat) (h : Den w v na xs) (u : Value) (nb : Bool) (ys : List Nat) (k : Den w u nb ys) : Calls Try.prog 12 #[v, u] w (Ret fun r w' => Ext w w' ∧ r = .bool true) := by
  have hD := h
  have kD := k
  obtain ⟨p, cap, rfl, hs⟩ := h
  obtain ⟨q, cb, rfl, ks⟩ := k
  refine calls_of_St (args := [_, _]) Try.func12 rfl Try.ntmps12 rfl ?_
  (repeat with_reducible first|refine .nil ?_|refine .then_normal ?_|refine .block_normal ?_|refine .seq ?_|refine .block ?_|refine .skip ?_|refine .region ?_|refine .ret ?_|refine .then_ret ?_|refine .block_ret ?_|refine .exit ?_|refine .then_exit ?_|refine .block_exit ?_|refine .block_other rfl ?_)
  refine StL.step rfl rfl rfl (OpR.box rfl) ?_
  rintro _ w1 ⟨rfl, hb1, hx1, hz1⟩
  refine StL.step rfl rfl rfl (OpR.box rfl) ?_
  rintro _ w2 ⟨rfl, hb2, hx2, hz2⟩
  (iterate 6 ((repeat with_reducible first|refine .nil ?_|refine .then_normal ?_|refine .block_normal ?_|refine .seq ?_|refine .block ?_|refine .skip ?_|refine .region ?_|refine .ret ?_|refine .then_ret ?_|refine .block_ret ?_|refine .exit ?_|refine .then_exit ?_|refine .block_exit ?_|refine .block_other rfl ?_); try refine .run TBok 99 rfl ?_))
  (refine StL.step rfl rfl rfl (RunsTo.loadInt rfl (by first | assumption | exact Ext.refl _ | (apply Blk.ext; assumption; (repeat first | assumption | refine Ext.trans ?_ (by assumption))) | (apply CanO.ext; assumption; (repeat first | assumption | refine Ext.trans ?_ (by assumption))) | (apply Den.ext; assumption; (repeat first | assumption | refine Ext.trans ?_ (by assumption))) | (apply Sl.ext; assumption; (repeat first | assumption | refine Ext.trans ?_ (by assumption))) | (apply SlO.ext; assumption; (repeat first | assumption | refine Ext.trans ?_ (by assumption))) | (apply Dn.ext; assumption; (repeat first | assumption | refine Ext.trans ?_ (by assumption))) | (apply It.ext; assumption; (repeat first | assumption | refine Ext.trans ?_ (by assumption))) | (repeat first | assumption | refine Ext.trans ?_ (by assumption))) (by first | rfl | assumption) (by first | rfl | assumption)).op ?_; rintro _ _ ⟨rfl, rfl⟩)
  refine StL.step rfl rfl rfl (OpR.call fn_w01_long rfl (long_spec w2 _ na xs (by first | assumption | exact Ext.refl _ | (apply Blk.ext; assumption; (repeat first | assumption | refine Ext.trans ?_ (by assumption))) | (apply CanO.ext; assumption; (repeat first | assumption | refine Ext.trans ?_ (by assumption))) | (apply Den.ext; assumption; (repeat first | assumption | refine Ext.trans ?_ (by assumption))) | (apply Sl.ext; assumption; (repeat first | assumption | refine Ext.trans ?_ (by assumption))) | (apply SlO.ext; assumption; (repeat first | assumption | refine Ext.trans ?_ (by assumption))) | (apply Dn.ext; assumption; (repeat first | assumption | refine Ext.trans ?_ (by assumption))) | (apply It.ext; assumption; (repeat first | assumption | refine Ext.trans ?_ (by assumption))) | (repeat first | assumption | refine Ext.trans ?_ (by assumption))))) ?_
  rintro _ w3 ⟨hx3, rfl⟩
  by_cases h40a : 40 < xs.length
  · rw [decide_eq_true h40a]
    (iterate 6 ((repeat with_reducible first|refine .nil ?_|refine .then_normal ?_|refine .block_normal ?_|refine .seq ?_|refine .block ?_|refine .skip ?_|refine .region ?_|refine .ret ?_|refine .then_ret ?_|refine .block_ret ?_|refine .exit ?_|refine .then_exit ?_|refine .block_exit ?_|refine .block_other rfl ?_); try refine .run TBok 99 rfl ?_))
    refine St.condT rfl rfl ?_
    ((repeat with_reducible first|refine .nil ?_|refine .then_normal ?_|refine .block_normal ?_|refine .seq ?_|refine .block ?_|refine .skip ?_|refine .region ?_|refine .ret ?_|refine .then_ret ?_|refine .block_ret ?_|refine .exit ?_|refine .then_exit ?_|refine .block_exit ?_|refine .block_other rfl ?_); refine StL.awake rfl rfl ?_; intro wz hxz; (iterate 6 ((repeat with_reducible first|refine .nil ?_|refine .then_normal ?_|refine .block_normal ?_|refine .seq ?_|refine .block ?_|refine .skip ?_|refine .region ?_|refine .ret ?_|refine .then_ret ?_|refine .block_ret ?_|refine .exit ?_|refine .then_exit ?_|refine .block_exit ?_|refine .block_other rfl ?_); try refine .run TBok 99 rfl ?_)); exact Out.ret1 rfl rfl ⟨(by first | assumption | exact Ext.refl _ | (apply Blk.ext; assumption; (repeat first | assumption | refine Ext.trans ?_ (by assumption))) | (apply CanO.ext; assumption; (repeat first | assumption | refine Ext.trans ?_ (by assumption))) | (apply Den.ext; assumption; (repeat first | assumption | refine Ext.trans ?_ (by assumption))) | (apply Sl.ext; assumption; (repeat first | assumption | refine Ext.trans ?_ (by assumption))) | (apply SlO.ext; assumption; (repeat first | assumption | refine Ext.trans ?_ (by assumption))) | (apply Dn.ext; assumption; (repeat first | assumption | refine Ext.trans ?_ (by assumption))) | (apply It.ext; assumption; (repeat first | assumption | refine Ext.trans ?_ (by assumption))) | (repeat first | assumption | refine Ext.trans ?_ (by assumption))), rfl⟩)
  rw [decide_eq_false h40a]
  refine .run TBok 99 rfl ?_
  (refine StL.step rfl rfl rfl (RunsTo.loadInt rfl (by first | assumption | exact Ext.refl _ | (apply Blk.ext; assumption; (repeat first | assumption | refine Ext.trans ?_ (by assumption))) | (apply CanO.ext; assumption; (repeat first | assumption | refine Ext.trans ?_ (by assumption))) | (apply Den.ext; assumption; (repeat first | assumption | refine Ext.trans ?_ (by assumption))) | (apply Sl.ext; assumption; (repeat first | assumption | refine Ext.trans ?_ (by assumption))) | (apply SlO.ext; assumption; (repeat first | assumption | refine Ext.trans ?_ (by assumption))) | (apply Dn.ext; assumption; (repeat first | assumption | refine Ext.trans ?_ (by assumption))) | (apply It.ext; assumption; (repeat first | assumption | refine Ext.trans ?_ (by assumption))) | (repeat first | assumption | refine Ext.trans ?_ (by assumption))) (by first | rfl | assumption) (by first | rfl | assumption)).op ?_; rintro _ _ ⟨rfl, rfl⟩)
  refine StL.step rfl rfl rfl (OpR.call fn_w01_long rfl (long_spec w3 _ nb ys (by first | assumption | exact Ext.refl _ | (apply Blk.ext; assumption; (repeat first | assumption | refine Ext.trans ?_ (by assumption))) | (apply CanO.ext; assumption; (repeat first | assumption | refine Ext.trans ?_ (by assumption))) | (apply Den.ext; assumption; (repeat first | assumption | refine Ext.trans ?_ (by assumption))) | (apply Sl.ext; assumption; (repeat first | assumption | refine Ext.trans ?_ (by assumption))) | (apply SlO.ext; assumption; (repeat first | assumption | refine Ext.trans ?_ (by assumption))) | (apply Dn.ext; assumption; (repeat first | assumption | refine Ext.trans ?_ (by assumption))) | (apply It.ext; assumption; (repeat first | assumption | refine Ext.trans ?_ (by assumption))) | (repeat first | assumption | refine Ext.trans ?_ (by assumption))))) ?_
  rintro _ w4 ⟨hx4, rfl⟩
  by_cases h40b : 40 < ys.length
  · rw [decide_eq_true h40b]
    (iterate 6 ((repeat with_reducible first|refine .nil ?_|refine .then_normal ?_|refine .block_normal ?_|refine .seq ?_|refine .block ?_|refine .skip ?_|refine .region ?_|refine .ret ?_|refine .then_ret ?_|refine .block_ret ?_|refine .exit ?_|refine .then_exit ?_|refine .block_exit ?_|refine .block_other rfl ?_); try refine .run TBok 99 rfl ?_))
    refine St.condT rfl rfl ?_
    ((repeat with_reducible first|refine .nil ?_|refine .then_normal ?_|refine .block_normal ?_|refine .seq ?_|refine .block ?_|refine .skip ?_|refine .region ?_|refine .ret ?_|refine .then_ret ?_|refine .block_ret ?_|refine .exit ?_|refine .then_exit ?_|refine .block_exit ?_|refine .block_other rfl ?_); refine StL.awake rfl rfl ?_; intro wz hxz; (iterate 6 ((repeat with_reducible first|refine .nil ?_|refine .then_normal ?_|refine .block_normal ?_|refine .seq ?_|refine .block ?_|refine .skip ?_|refine .region ?_|refine .ret ?_|refine .then_ret ?_|refine .block_ret ?_|refine .exit ?_|refine .then_exit ?_|refine .block_exit ?_|refine .block_other rfl ?_); try refine .run TBok 99 rfl ?_)); exact Out.ret1 rfl rfl ⟨(by first | assumption | exact Ext.refl _ | (apply Blk.ext; assumption; (repeat first | assumption | refine Ext.trans ?_ (by assumption))) | (apply CanO.ext; assumption; (repeat first | assumption | refine Ext.trans ?_ (by assumption))) | (apply Den.ext; assumption; (repeat first | assumption | refine Ext.trans ?_ (by assumption))) | (apply Sl.ext; assumption; (repeat first | assumption | refine Ext.trans ?_ (by assumption))) | (apply SlO.ext; assumption; (repeat first | assumption | refine Ext.trans ?_ (by assumption))) | (apply Dn.ext; assumption; (repeat first | assumption | refine Ext.trans ?_ (by assumption))) | (apply It.ext; assumption; (repeat first | assumption | refine Ext.trans ?_ (by assumption))) | (repeat first | assumption | refine Ext.trans ?_ (by assumption))), rfl⟩)
  rw [decide_eq_false h40b]
  (iterate 6 ((repeat with_reducible first|refine .nil ?_|refine .then_normal ?_|refine .block_normal ?_|refine .seq ?_|refine .block ?_|refine .skip ?_|refine .region ?_|refine .ret ?_|refine .then_ret ?_|refine .block_ret ?_|refine .exit ?_|refine .then_exit ?_|refine .block_exit ?_|refine .block_other rfl ?_); try refine .run TBok 99 rfl ?_))
  refine St.condF rfl rfl ?_
  have hx04 : Ext w w4 := (by first | assumption | exact Ext.refl _ | (apply Blk.ext; assumption; (repeat first | assumption | refine Ext.trans ?_ (by assumption))) | (apply CanO.ext; assumption; (repeat first | assumption | refine Ext.trans ?_ (by assumption))) | (apply Den.ext; assumption; (repeat first | assumption | refine Ext.trans ?_ (by assumption))) | (apply Sl.ext; assumption; (repeat first | assumption | refine Ext.trans ?_ (by assumption))) | (apply SlO.ext; assumption; (repeat first | assumption | refine Ext.trans ?_ (by assumption))) | (apply Dn.ext; assumption; (repeat first | assumption | refine Ext.trans ?_ (by assumption))) | (apply It.ext; assumption; (repeat first | assumption | refine Ext.trans ?_ (by assumption))) | (repeat first | assumption | refine Ext.trans ?_ (by assumption)))
  have ha : Dn w4 _ (sg na (val xs)) := (hD.ext hx04).dn (by omega)
  have hb : Dn w4 _ (sg nb (val ys)) := (kD.ext hx04).dn (by omega)
  have hDa : Den w4 _ na xs := hD.ext hx04
  have hB1 : Blk 24 w4 w.heap.size _ := ((hb1.ext hx2).ext hx3).ext hx4
  have hB2 : Blk 24 w4 w1.heap.size _ := (hb2.ext hx3).ext hx4
  clear hb1 hb2 hx1 hx2 hx3 hx4 hz1 hz2
  generalize hga : sg na (val xs) = a at *
  generalize hgb : sg nb (val ys) = b at *
  have hcb := cmpI_bound a b
  (repeat with_reducible first|refine .nil ?_|refine .then_normal ?_|refine .block_normal ?_|refine .seq ?_|refine .block ?_|refine .skip ?_|refine .region ?_|refine .ret ?_|refine .then_ret ?_|refine .block_ret ?_|refine .exit ?_|refine .then_exit ?_|refine .block_exit ?_|refine .block_other rfl ?_)
  refine St.sub (E' := [(2, .pointer (some ⟨w.heap.size, 0, none⟩)), (3, .pointer (some ⟨w1.heap.size, 0, none⟩))]) ?_ ⟨rfl, rfl, trivial⟩
  refine St.flow 34 TBfol (by kernel_rfl) rfl (by kernel_rfl) rfl True.intro ?_
  refine FL.run TBok 99 rfl ?_
  refine FL.loadAgg (L := []) TBok rfl rfl rfl rfl rfl rfl (by first | assumption | exact Ext.refl _ | (apply Blk.ext; assumption; (repeat first | assumption | refine Ext.trans ?_ (by assumption))) | (apply CanO.ext; assumption; (repeat first | assumption | refine Ext.trans ?_ (by assumption))) | (apply Den.ext; assumption; (repeat first | assumption | refine Ext.trans ?_ (by assumption))) | (apply Sl.ext; assumption; (repeat first | assumption | refine Ext.trans ?_ (by assumption))) | (apply SlO.ext; assumption; (repeat first | assumption | refine Ext.trans ?_ (by assumption))) | (apply Dn.ext; assumption; (repeat first | assumption | refine Ext.trans ?_ (by assumption))) | (apply It.ext; assumption; (repeat first | assumption | refine Ext.trans ?_ (by assumption))) | (repeat first | assumption | refine Ext.trans ?_ (by assumption))) (by simp) (Nat.le_refl _) rfl ?_
  refine FL.callXE fn_integer_Sign rfl rfl rfl (fun w5 hx5 => CallF.mk rfl (sign_dn (ha.ext hx5))) ?_
  refine FL.loadAgg (L := []) TBok rfl rfl rfl rfl rfl rfl (by first | assumption | exact Ext.refl _ | (apply Blk.ext; assumption; (repeat first | assumption | refine Ext.trans ?_ (by assumption))) | (apply CanO.ext; assumption; (repeat first | assumption | refine Ext.trans ?_ (by assumption))) | (apply Den.ext; assumption; (repeat first | assumption | refine Ext.trans ?_ (by assumption))) | (apply Sl.ext; assumption; (repeat first | assumption | refine Ext.trans ?_ (by assumption))) | (apply SlO.ext; assumption; (repeat first | assumption | refine Ext.trans ?_ (by assumption))) | (apply Dn.ext; assumption; (repeat first | assumption | refine Ext.trans ?_ (by assumption))) | (apply It.ext; assumption; (repeat first | assumption | refine Ext.trans ?_ (by assumption))) | (repeat first | assumption | refine Ext.trans ?_ (by assumption))) (by simp) (Nat.le_refl _) rfl ?_
  refine FL.callXE fn_r01_Sign rfl rfl rfl (fun w5 hx5 => CallF.mk rfl (rsign_dn (ha.ext hx5))) ?_
  refine FL.as TBok 1 (.bool true) rfl (by simp) ?_
  refine FL.run TBok 99 rfl ?_
  refine FL.loadAgg (L := []) TBok rfl rfl rfl rfl rfl rfl (by first | assumption | exact Ext.refl _ | (apply Blk.ext; assumption; (repeat first | assumption | refine Ext.trans ?_ (by assumption))) | (apply CanO.ext; assumption; (repeat first | assumption | refine Ext.trans ?_ (by assumption))) | (apply Den.ext; assumption; (repeat first | assumption | refine Ext.trans ?_ (by assumption))) | (apply Sl.ext; assumption; (repeat first | assumption | refine Ext.trans ?_ (by assumption))) | (apply SlO.ext; assumption; (repeat first | assumption | refine Ext.trans ?_ (by assumption))) | (apply Dn.ext; assumption; (repeat first | assumption | refine Ext.trans ?_ (by assumption))) | (apply It.ext; assumption; (repeat first | assumption | refine Ext.trans ?_ (by assumption))) | (repeat first | assumption | refine Ext.trans ?_ (by assumption))) (by simp) (Nat.le_refl _) rfl ?_
  refine FL.loadAgg (L := []) TBok rfl rfl rfl rfl rfl rfl (by first | assumption | exact Ext.refl _ | (apply Blk.ext; assumption; (repeat first | assumption | refine Ext.trans ?_ (by assumption))) | (apply CanO.ext; assumption; (repeat first | assumption | refine Ext.trans ?_ (by assumption))) | (apply Den.ext; assumption; (repeat first | assumption | refine Ext.trans ?_ (by assumption))) | (apply Sl.ext; assumption; (repeat first | assumption | refine Ext.trans ?_ (by assumption))) | (apply SlO.ext; assumption; (repeat first | assumption | refine Ext.trans ?_ (by assumption))) | (apply Dn.ext; assumption; (repeat first | assumption | refine Ext.trans ?_ (by assumption))) | (apply It.ext; assumption; (repeat first | assumption | refine Ext.trans ?_ (by assumption))) | (repeat first | assumption | refine Ext.trans ?_ (by assumption))) (by simp) (Nat.le_refl _) rfl ?_
  refine FL.callXE fn_integer_Cmp rfl rfl rfl (fun w5 hx5 => CallF.mk rfl (cmp_dn (ha.ext hx5) (hb.ext hx5))) ?_
  refine FL.loadAgg (L := []) TBok rfl rfl rfl rfl rfl rfl (by first | assumption | exact Ext.refl _ | (apply Blk.ext; assumption; (repeat first | assumption | refine Ext.trans ?_ (by assumption))) | (apply CanO.ext; assumption; (repeat first | assumption | refine Ext.trans ?_ (by assumption))) | (apply Den.ext; assumption; (repeat first | assumption | refine Ext.trans ?_ (by assumption))) | (apply Sl.ext; assumption; (repeat first | assumption | refine Ext.trans ?_ (by assumption))) | (apply SlO.ext; assumption; (repeat first | assumption | refine Ext.trans ?_ (by assumption))) | (apply Dn.ext; assumption; (repeat first | assumption | refine Ext.trans ?_ (by assumption))) | (apply It.ext; assumption; (repeat first | assumption | refine Ext.trans ?_ (by assumption))) | (repeat first | assumption | refine Ext.trans ?_ (by assumption))) (by simp) (Nat.le_refl _) rfl ?_
  refine FL.loadAgg (L := []) TBok rfl rfl rfl rfl rfl rfl (by first | assumption | exact Ext.refl _ | (apply Blk.ext; assumption; (repeat first | assumption | refine Ext.trans ?_ (by assumption))) | (apply CanO.ext; assumption; (repeat first | assumption | refine Ext.trans ?_ (by assumption))) | (apply Den.ext; assumption; (repeat first | assumption | refine Ext.trans ?_ (by assumption))) | (apply Sl.ext; assumption; (repeat first | assumption | refine Ext.trans ?_ (by assumption))) | (apply SlO.ext; assumption; (repeat first | assumption | refine Ext.trans ?_ (by assumption))) | (apply Dn.ext; assumption; (repeat first | assumption | refine Ext.trans ?_ (by assumption))) | (apply It.ext; assumption; (repeat first | assumption | refine Ext.trans ?_ (by assumption))) | (repeat first | assumption | refine Ext.trans ?_ (by assumption))) (by simp) (Nat.le_refl _) rfl ?_
  refine FL.callXE fn_r01_Cmp rfl rfl rfl (fun w5 hx5 => CallF.mk rfl (rcmp_dn (ha.ext hx5) (hb.ext hx5))) ?_
  refine FL.as TBok 1 (.bool true) rfl (by simp) ?_
  refine FL.run TBok 99 rfl ?_
  refine FL.loadAgg (L := []) TBok rfl rfl rfl rfl rfl rfl (by first | assumption | exact Ext.refl _ | (apply Blk.ext; assumption; (repeat first | assumption | refine Ext.trans ?_ (by assumption))) | (apply CanO.ext; assumption; (repeat first | assumption | refine Ext.trans ?_ (by assumption))) | (apply Den.ext; assumption; (repeat first | assumption | refine Ext.trans ?_ (by assumption))) | (apply Sl.ext; assumption; (repeat first | assumption | refine Ext.trans ?_ (by assumption))) | (apply SlO.ext; assumption; (repeat first | assumption | refine Ext.trans ?_ (by assumption))) | (apply Dn.ext; assumption; (repeat first | assumption | refine Ext.trans ?_ (by assumption))) | (apply It.ext; assumption; (repeat first | assumption | refine Ext.trans ?_ (by assumption))) | (repeat first | assumption | refine Ext.trans ?_ (by assumption))) (by simp) (Nat.le_refl _) rfl ?_
  refine FL.loadAgg (L := []) TBok rfl rfl rfl rfl rfl rfl (by first | assumption | exact Ext.refl _ | (apply Blk.ext; assumption; (repeat first | assumption | refine Ext.trans ?_ (by assumption))) | (apply CanO.ext; assumption; (repeat first | assumption | refine Ext.trans ?_ (by assumption))) | (apply Den.ext; assumption; (repeat first | assumption | refine Ext.trans ?_ (by assumption))) | (apply Sl.ext; assumption; (repeat first | assumption | refine Ext.trans ?_ (by assumption))) | (apply SlO.ext; assumption; (repeat first | assumption | refine Ext.trans ?_ (by assumption))) | (apply Dn.ext; assumption; (repeat first | assumption | refine Ext.trans ?_ (by assumption))) | (apply It.ext; assumption; (repeat first | assumption | refine Ext.trans ?_ (by assumption))) | (repeat first | assumption | refine Ext.trans ?_ (by assumption))) (by simp) (Nat.le_refl _) rfl ?_
  refine FL.callXE fn_integer_Cmp rfl rfl rfl (fun w5 hx5 => CallF.mk rfl (cmp_dn (hb.ext hx5) (ha.ext hx5))) ?_
  refine FL.loadAgg (L := []) TBok rfl rfl rfl rfl rfl rfl (by first | assumption | exact Ext.refl _ | (apply Blk.ext; assumption; (repeat first | assumption | refine Ext.trans ?_ (by assumption))) | (apply CanO.ext; assumption; (repeat first | assumption | refine Ext.trans ?_ (by assumption))) | (apply Den.ext; assumption; (repeat first | assumption | refine Ext.trans ?_ (by assumption))) | (apply Sl.ext; assumption; (repeat first | assumption | refine Ext.trans ?_ (by assumption))) | (apply SlO.ext; assumption; (repeat first | assumption | refine Ext.trans ?_ (by assumption))) | (apply Dn.ext; assumption; (repeat first | assumption | refine Ext.trans ?_ (by assumption))) | (apply It.ext; assumption; (repeat first | assumption | refine Ext.trans ?_ (by assumption))) | (repeat first | assumption | refine Ext.trans ?_ (by assumption))) (by simp) (Nat.le_refl _) rfl ?_
  refine FL.loadAgg (L := []) TBok rfl rfl rfl rfl rfl rfl (by first | assumption | exact Ext.refl _ | (apply Blk.ext; assumption; (repeat first | assumption | refine Ext.trans ?_ (by assumption))) | (apply CanO.ext; assumption; (repeat first | assumption | refine Ext.trans ?_ (by assumption))) | (apply Den.ext; assumption; (repeat first | assumption | refine Ext.trans ?_ (by assumption))) | (apply Sl.ext; assumption; (repeat first | assumption | refine Ext.trans ?_ (by assumption))) | (apply SlO.ext; assumption; (repeat first | assumption | refine Ext.trans ?_ (by assumption))) | (apply Dn.ext; assumption; (repeat first | assumption | refine Ext.trans ?_ (by assumption))) | (apply It.ext; assumption; (repeat first | assumption | refine Ext.trans ?_ (by assumption))) | (repeat first | assumption | refine Ext.trans ?_ (by assumption))) (by simp) (Nat.le_refl _) rfl ?_
  refine FL.callXE fn_r01_Cmp rfl rfl rfl (fun w5 hx5 => CallF.mk rfl (rcmp_dn (ha.ext hx5) (hb.ext hx5))) ?_
  refine FL.as TBok 2 (.bool true) rfl (by rw [i64_id (by omega) (by omega), cmpI_swap a b]; simp) ?_
  refine FL.run TBok 99 rfl ?_
  refine FL.loadAgg (L := []) TBok rfl rfl rfl rfl rfl rfl (by first | assumption | exact Ext.refl _ | (apply Blk.ext; assumption; (repeat first | assumption | refine Ext.trans ?_ (by assumption))) | (apply CanO.ext; assumption; (repeat first | assumption | refine Ext.trans ?_ (by assumption))) | (apply Den.ext; assumption; (repeat first | assumption | refine Ext.trans ?_ (by assumption))) | (apply Sl.ext; assumption; (repeat first | assumption | refine Ext.trans ?_ (by assumption))) | (apply SlO.ext; assumption; (repeat first | assumption | refine Ext.trans ?_ (by assumption))) | (apply Dn.ext; assumption; (repeat first | assumption | refine Ext.trans ?_ (by assumption))) | (apply It.ext; assumption; (repeat first | assumption | refine Ext.trans ?_ (by assumption))) | (repeat first | assumption | refine Ext.trans ?_ (by assumption))) (by simp) (Nat.le_refl _) rfl ?_
  refine FL.loadAgg (L := []) TBok rfl rfl rfl rfl rfl rfl (by first | assumption | exact Ext.refl _ | (apply Blk.ext; assumption; (repeat first | assumption | refine Ext.trans ?_ (by assumption))) | (apply CanO.ext; assumption; (repeat first | assumption | refine Ext.trans ?_ (by assumption))) | (apply Den.ext; assumption; (repeat first | assumption | refine Ext.trans ?_ (by assumption))) | (apply Sl.ext; assumption; (repeat first | assumption | refine Ext.trans ?_ (by assumption))) | (apply SlO.ext; assumption; (repeat first | assumption | refine Ext.trans ?_ (by assumption))) | (apply Dn.ext; assumption; (repeat first | assumption | refine Ext.trans ?_ (by assumption))) | (apply It.ext; assumption; (repeat first | assumption | refine Ext.trans ?_ (by assumption))) | (repeat first | assumption | refine Ext.trans ?_ (by assumption))) (by simp) (Nat.le_refl _) rfl ?_
  refine FL.callE fn_w01_copied rfl rfl rfl (fun w5 hx5 => CallF.mk rfl (copied_spec (base := 0) w5 _ na xs (hDa.ext hx5) (by omega) (Nat.zero_le _))) (MonoR.denO 0 _ _) ?_
  refine FL.callXE fn_integer_Cmp rfl rfl rfl (fun w5 hx5 v39 h39 => CallF.mk rfl (cmp_dn (b := a) (ha.ext hx5) (hga ▸ h39.den.dn (by omega)))) ?_
  refine FL.as TBok 1 (.bool true) rfl (by rw [cmpI_self]; rfl) ?_
  refine FL.run TBok 99 rfl ?_
  refine FL.callXE fn_w01_awake rfl rfl rfl (fun w5 hx5 => CallF.mk rfl (awake_spec w5)) ?_
  refine FL.run TBok 99 rfl ?_
  refine FL.endE rfl ?_
  intro w5 hx5 v15 _ _ _
  (iterate 6 ((repeat with_reducible first|refine .nil ?_|refine .then_normal ?_|refine .block_normal ?_|refine .seq ?_|refine .block ?_|refine .skip ?_|refine .region ?_|refine .ret ?_|refine .then_ret ?_|refine .block_ret ?_|refine .exit ?_|refine .then_exit ?_|refine .block_exit ?_|refine .block_other rfl ?_); try refine .run TBok 99 rfl ?_))
  exact Out.ret1 rfl rfl ⟨hx04.trans hx5, rfl⟩

/-- The law's three arguments in their variables, all short. -/
theorem cmp_eq0 {w : World} {x y : Value} {a b : Int} (h : Dn w x a) (k : Dn w y b) (e : a = b) : Calls Try.prog 48 #[x, y] w (Ret fun r w' => Ext w w' ∧ r = .int .i64 0) := by
  have := cmp_dn h k
  rwa [e, cmpI_self] at this

theorem cmpI_add (a b c : Int) : cmpI (a + c) (b + c) = cmpI a b := by
  unfold cmpI
  repeat' split
  all_goals omega
theorem sign_sub (a b : Int) : signI (a - b) = cmpI a b := by
  unfold signI cmpI
  repeat' split
  all_goals omega

set_option maxRecDepth 8000 in
set_option maxHeartbeats 800000 in
theorem lawRing (w : World) (v : Value) (na : Bool) (xs : List Nat) (h : Den w v na xs) (u : Value) (nb : Bool) (ys : List Nat) (k : Den w u nb ys) (t : Value) (nc : Bool) (zs : List Nat) (j : Den w t nc zs) : Calls Try.prog 21 #[v, u, t] w (Ret fun r w' => Ext w w' ∧ r = .bool true) := by
  have hD := h
  have kD := k
  have jD := j
  obtain ⟨p, cap, rfl, hs⟩ := h
  obtain ⟨q, cb, rfl, ks⟩ := k
  obtain ⟨o, cc, rfl, js⟩ := j
  refine calls_of_St (args := [_, _, _]) Try.func21 rfl Try.ntmps21 rfl ?_
  (repeat with_reducible first|refine .nil ?_|refine .then_normal ?_|refine .block_normal ?_|refine .seq ?_|refine .block ?_|refine .skip ?_|refine .region ?_|refine .ret ?_|refine .then_ret ?_|refine .block_ret ?_|refine .exit ?_|refine .then_exit ?_|refine .block_exit ?_|refine .block_other rfl ?_)
  refine StL.step rfl rfl rfl (OpR.box rfl) ?_
  rintro _ w1 ⟨rfl, hb1, hx1, hz1⟩
  refine StL.step rfl rfl rfl (OpR.box rfl) ?_
  rintro _ w2 ⟨rfl, hb2, hx2, hz2⟩
  refine StL.step rfl rfl rfl (OpR.box rfl) ?_
  rintro _ w3 ⟨rfl, hb3, hx3, hz3⟩
  (iterate 6 ((repeat with_reducible first|refine .nil ?_|refine .then_normal ?_|refine .block_normal ?_|refine .seq ?_|refine .block ?_|refine .skip ?_|refine .region ?_|refine .ret ?_|refine .then_ret ?_|refine .block_ret ?_|refine .exit ?_|refine .then_exit ?_|refine .block_exit ?_|refine .block_other rfl ?_); try refine .run TBok 99 rfl ?_))
  (refine StL.step rfl rfl rfl (RunsTo.loadInt rfl (by first | assumption | exact Ext.refl _ | (apply Blk.ext; assumption; (repeat first | assumption | refine Ext.trans ?_ (by assumption))) | (apply CanO.ext; assumption; (repeat first | assumption | refine Ext.trans ?_ (by assumption))) | (apply Den.ext; assumption; (repeat first | assumption | refine Ext.trans ?_ (by assumption))) | (apply Sl.ext; assumption; (repeat first | assumption | refine Ext.trans ?_ (by assumption))) | (apply SlO.ext; assumption; (repeat first | assumption | refine Ext.trans ?_ (by assumption))) | (apply Dn.ext; assumption; (repeat first | assumption | refine Ext.trans ?_ (by assumption))) | (apply It.ext; assumption; (repeat first | assumption | refine Ext.trans ?_ (by assumption))) | (repeat first | assumption | refine Ext.trans ?_ (by assumption))) (by first | rfl | assumption) (by first | rfl | assumption)).op ?_; rintro _ _ ⟨rfl, rfl⟩)
  refine StL.step rfl rfl rfl (OpR.call fn_w01_long rfl (long_spec w3 _ na xs (by first | assumption | exact Ext.refl _ | (apply Blk.ext; assumption; (repeat first | assumption | refine Ext.trans ?_ (by assumption))) | (apply CanO.ext; assumption; (repeat first | assumption | refine Ext.trans ?_ (by assumption))) | (apply Den.ext; assumption; (repeat first | assumption | refine Ext.trans ?_ (by assumption))) | (apply Sl.ext; assumption; (repeat first | assumption | refine Ext.trans ?_ (by assumption))) | (apply SlO.ext; assumption; (repeat first | assumption | refine Ext.trans ?_ (by assumption))) | (apply Dn.ext; assumption; (repeat first | assumption | refine Ext.trans ?_ (by assumption))) | (apply It.ext; assumption; (repeat first | assumption | refine Ext.trans ?_ (by assumption))) | (repeat first | assumption | refine Ext.trans ?_ (by assumption))))) ?_
  rintro _ w4 ⟨hx4, rfl⟩
  by_cases h40a : 40 < xs.length
  · rw [decide_eq_true h40a]
    (iterate 6 ((repeat with_reducible first|refine .nil ?_|refine .then_normal ?_|refine .block_normal ?_|refine .seq ?_|refine .block ?_|refine .skip ?_|refine .region ?_|refine .ret ?_|refine .then_ret ?_|refine .block_ret ?_|refine .exit ?_|refine .then_exit ?_|refine .block_exit ?_|refine .block_other rfl ?_); try refine .run TBok 99 rfl ?_))
    refine St.condT rfl rfl ?_
    ((repeat with_reducible first|refine .nil ?_|refine .then_normal ?_|refine .block_normal ?_|refine .seq ?_|refine .block ?_|refine .skip ?_|refine .region ?_|refine .ret ?_|refine .then_ret ?_|refine .block_ret ?_|refine .exit ?_|refine .then_exit ?_|refine .block_exit ?_|refine .block_other rfl ?_); refine StL.awake rfl rfl ?_; intro wz hxz; (iterate 6 ((repeat with_reducible first|refine .nil ?_|refine .then_normal ?_|refine .block_normal ?_|refine .seq ?_|refine .block ?_|refine .skip ?_|refine .region ?_|refine .ret ?_|refine .then_ret ?_|refine .block_ret ?_|refine .exit ?_|refine .then_exit ?_|refine .block_exit ?_|refine .block_other rfl ?_); try refine .run TBok 99 rfl ?_)); exact Out.ret1 rfl rfl ⟨(by first | assumption | exact Ext.refl _ | (apply Blk.ext; assumption; (repeat first | assumption | refine Ext.trans ?_ (by assumption))) | (apply CanO.ext; assumption; (repeat first | assumption | refine Ext.trans ?_ (by assumption))) | (apply Den.ext; assumption; (repeat first | assumption | refine Ext.trans ?_ (by assumption))) | (apply Sl.ext; assumption; (repeat first | assumption | refine Ext.trans ?_ (by assumption))) | (apply SlO.ext; assumption; (repeat first | assumption | refine Ext.trans ?_ (by assumption))) | (apply Dn.ext; assumption; (repeat first | assumption | refine Ext.trans ?_ (by assumption))) | (apply It.ext; assumption; (repeat first | assumption | refine Ext.trans ?_ (by assumption))) | (repeat first | assumption | refine Ext.trans ?_ (by assumption))), rfl⟩)
  rw [decide_eq_false h40a]
  refine .run TBok 99 rfl ?_
  (refine StL.step rfl rfl rfl (RunsTo.loadInt rfl (by first | assumption | exact Ext.refl _ | (apply Blk.ext; assumption; (repeat first | assumption | refine Ext.trans ?_ (by assumption))) | (apply CanO.ext; assumption; (repeat first | assumption | refine Ext.trans ?_ (by assumption))) | (apply Den.ext; assumption; (repeat first | assumption | refine Ext.trans ?_ (by assumption))) | (apply Sl.ext; assumption; (repeat first | assumption | refine Ext.trans ?_ (by assumption))) | (apply SlO.ext; assumption; (repeat first | assumption | refine Ext.trans ?_ (by assumption))) | (apply Dn.ext; assumption; (repeat first | assumption | refine Ext.trans ?_ (by assumption))) | (apply It.ext; assumption; (repeat first | assumption | refine Ext.trans ?_ (by assumption))) | (repeat first | assumption | refine Ext.trans ?_ (by assumption))) (by first | rfl | assumption) (by first | rfl | assumption)).op ?_; rintro _ _ ⟨rfl, rfl⟩)
  refine StL.step rfl rfl rfl (OpR.call fn_w01_long rfl (long_spec w4 _ nb ys (by first | assumption | exact Ext.refl _ | (apply Blk.ext; assumption; (repeat first | assumption | refine Ext.trans ?_ (by assumption))) | (apply CanO.ext; assumption; (repeat first | assumption | refine Ext.trans ?_ (by assumption))) | (apply Den.ext; assumption; (repeat first | assumption | refine Ext.trans ?_ (by assumption))) | (apply Sl.ext; assumption; (repeat first | assumption | refine Ext.trans ?_ (by assumption))) | (apply SlO.ext; assumption; (repeat first | assumption | refine Ext.trans ?_ (by assumption))) | (apply Dn.ext; assumption; (repeat first | assumption | refine Ext.trans ?_ (by assumption))) | (apply It.ext; assumption; (repeat first | assumption | refine Ext.trans ?_ (by assumption))) | (repeat first | assumption | refine Ext.trans ?_ (by assumption))))) ?_
  rintro _ w5 ⟨hx5, rfl⟩
  by_cases h40b : 40 < ys.length
  · rw [decide_eq_true h40b]
    (iterate 6 ((repeat with_reducible first|refine .nil ?_|refine .then_normal ?_|refine .block_normal ?_|refine .seq ?_|refine .block ?_|refine .skip ?_|refine .region ?_|refine .ret ?_|refine .then_ret ?_|refine .block_ret ?_|refine .exit ?_|refine .then_exit ?_|refine .block_exit ?_|refine .block_other rfl ?_); try refine .run TBok 99 rfl ?_))
    refine St.condT rfl rfl ?_
    ((repeat with_reducible first|refine .nil ?_|refine .then_normal ?_|refine .block_normal ?_|refine .seq ?_|refine .block ?_|refine .skip ?_|refine .region ?_|refine .ret ?_|refine .then_ret ?_|refine .block_ret ?_|refine .exit ?_|refine .then_exit ?_|refine .block_exit ?_|refine .block_other rfl ?_); refine StL.awake rfl rfl ?_; intro wz hxz; (iterate 6 ((repeat with_reducible first|refine .nil ?_|refine .then_normal ?_|refine .block_normal ?_|refine .seq ?_|refine .block ?_|refine .skip ?_|refine .region ?_|refine .ret ?_|refine .then_ret ?_|refine .block_ret ?_|refine .exit ?_|refine .then_exit ?_|refine .block_exit ?_|refine .block_other rfl ?_); try refine .run TBok 99 rfl ?_)); exact Out.ret1 rfl rfl ⟨(by first | assumption | exact Ext.refl _ | (apply Blk.ext; assumption; (repeat first | assumption | refine Ext.trans ?_ (by assumption))) | (apply CanO.ext; assumption; (repeat first | assumption | refine Ext.trans ?_ (by assumption))) | (apply Den.ext; assumption; (repeat first | assumption | refine Ext.trans ?_ (by assumption))) | (apply Sl.ext; assumption; (repeat first | assumption | refine Ext.trans ?_ (by assumption))) | (apply SlO.ext; assumption; (repeat first | assumption | refine Ext.trans ?_ (by assumption))) | (apply Dn.ext; assumption; (repeat first | assumption | refine Ext.trans ?_ (by assumption))) | (apply It.ext; assumption; (repeat first | assumption | refine Ext.trans ?_ (by assumption))) | (repeat first | assumption | refine Ext.trans ?_ (by assumption))), rfl⟩)
  rw [decide_eq_false h40b]
  refine .run TBok 99 rfl ?_
  (refine StL.step rfl rfl rfl (RunsTo.loadInt rfl (by first | assumption | exact Ext.refl _ | (apply Blk.ext; assumption; (repeat first | assumption | refine Ext.trans ?_ (by assumption))) | (apply CanO.ext; assumption; (repeat first | assumption | refine Ext.trans ?_ (by assumption))) | (apply Den.ext; assumption; (repeat first | assumption | refine Ext.trans ?_ (by assumption))) | (apply Sl.ext; assumption; (repeat first | assumption | refine Ext.trans ?_ (by assumption))) | (apply SlO.ext; assumption; (repeat first | assumption | refine Ext.trans ?_ (by assumption))) | (apply Dn.ext; assumption; (repeat first | assumption | refine Ext.trans ?_ (by assumption))) | (apply It.ext; assumption; (repeat first | assumption | refine Ext.trans ?_ (by assumption))) | (repeat first | assumption | refine Ext.trans ?_ (by assumption))) (by first | rfl | assumption) (by first | rfl | assumption)).op ?_; rintro _ _ ⟨rfl, rfl⟩)
  refine StL.step rfl rfl rfl (OpR.call fn_w01_long rfl (long_spec w5 _ nc zs (by first | assumption | exact Ext.refl _ | (apply Blk.ext; assumption; (repeat first | assumption | refine Ext.trans ?_ (by assumption))) | (apply CanO.ext; assumption; (repeat first | assumption | refine Ext.trans ?_ (by assumption))) | (apply Den.ext; assumption; (repeat first | assumption | refine Ext.trans ?_ (by assumption))) | (apply Sl.ext; assumption; (repeat first | assumption | refine Ext.trans ?_ (by assumption))) | (apply SlO.ext; assumption; (repeat first | assumption | refine Ext.trans ?_ (by assumption))) | (apply Dn.ext; assumption; (repeat first | assumption | refine Ext.trans ?_ (by assumption))) | (apply It.ext; assumption; (repeat first | assumption | refine Ext.trans ?_ (by assumption))) | (repeat first | assumption | refine Ext.trans ?_ (by assumption))))) ?_
  rintro _ w6 ⟨hx6, rfl⟩
  by_cases h40c : 40 < zs.length
  · rw [decide_eq_true h40c]
    (iterate 6 ((repeat with_reducible first|refine .nil ?_|refine .then_normal ?_|refine .block_normal ?_|refine .seq ?_|refine .block ?_|refine .skip ?_|refine .region ?_|refine .ret ?_|refine .then_ret ?_|refine .block_ret ?_|refine .exit ?_|refine .then_exit ?_|refine .block_exit ?_|refine .block_other rfl ?_); try refine .run TBok 99 rfl ?_))
    refine St.condT rfl rfl ?_
    ((repeat with_reducible first|refine .nil ?_|refine .then_normal ?_|refine .block_normal ?_|refine .seq ?_|refine .block ?_|refine .skip ?_|refine .region ?_|refine .ret ?_|refine .then_ret ?_|refine .block_ret ?_|refine .exit ?_|refine .then_exit ?_|refine .block_exit ?_|refine .block_other rfl ?_); refine StL.awake rfl rfl ?_; intro wz hxz; (iterate 6 ((repeat with_reducible first|refine .nil ?_|refine .then_normal ?_|refine .block_normal ?_|refine .seq ?_|refine .block ?_|refine .skip ?_|refine .region ?_|refine .ret ?_|refine .then_ret ?_|refine .block_ret ?_|refine .exit ?_|refine .then_exit ?_|refine .block_exit ?_|refine .block_other rfl ?_); try refine .run TBok 99 rfl ?_)); exact Out.ret1 rfl rfl ⟨(by first | assumption | exact Ext.refl _ | (apply Blk.ext; assumption; (repeat first | assumption | refine Ext.trans ?_ (by assumption))) | (apply CanO.ext; assumption; (repeat first | assumption | refine Ext.trans ?_ (by assumption))) | (apply Den.ext; assumption; (repeat first | assumption | refine Ext.trans ?_ (by assumption))) | (apply Sl.ext; assumption; (repeat first | assumption | refine Ext.trans ?_ (by assumption))) | (apply SlO.ext; assumption; (repeat first | assumption | refine Ext.trans ?_ (by assumption))) | (apply Dn.ext; assumption; (repeat first | assumption | refine Ext.trans ?_ (by assumption))) | (apply It.ext; assumption; (repeat first | assumption | refine Ext.trans ?_ (by assumption))) | (repeat first | assumption | refine Ext.trans ?_ (by assumption))), rfl⟩)
  rw [decide_eq_false h40c]
  (iterate 6 ((repeat with_reducible first|refine .nil ?_|refine .then_normal ?_|refine .block_normal ?_|refine .seq ?_|refine .block ?_|refine .skip ?_|refine .region ?_|refine .ret ?_|refine .then_ret ?_|refine .block_ret ?_|refine .exit ?_|refine .then_exit ?_|refine .block_exit ?_|refine .block_other rfl ?_); try refine .run TBok 99 rfl ?_))
  refine St.condF rfl rfl ?_
  have hx06 : Ext w w6 := (by first | assumption | exact Ext.refl _ | (apply Blk.ext; assumption; (repeat first | assumption | refine Ext.trans ?_ (by assumption))) | (apply CanO.ext; assumption; (repeat first | assumption | refine Ext.trans ?_ (by assumption))) | (apply Den.ext; assumption; (repeat first | assumption | refine Ext.trans ?_ (by assumption))) | (apply Sl.ext; assumption; (repeat first | assumption | refine Ext.trans ?_ (by assumption))) | (apply SlO.ext; assumption; (repeat first | assumption | refine Ext.trans ?_ (by assumption))) | (apply Dn.ext; assumption; (repeat first | assumption | refine Ext.trans ?_ (by assumption))) | (apply It.ext; assumption; (repeat first | assumption | refine Ext.trans ?_ (by assumption))) | (repeat first | assumption | refine Ext.trans ?_ (by assumption)))
  have ha : Dn w6 _ (sg na (val xs)) := (hD.ext hx06).dn (by omega)
  have hb : Dn w6 _ (sg nb (val ys)) := (kD.ext hx06).dn (by omega)
  have hc : Dn w6 _ (sg nc (val zs)) := (jD.ext hx06).dn (by omega)
  have hsa : sz (sg na (val xs)) ≤ 40 := by unfold sz; rw [sg_abs]; exact Nat.le_trans (limbs_length_le xs hs.2) (by omega)
  have hsb : sz (sg nb (val ys)) ≤ 40 := by unfold sz; rw [sg_abs]; exact Nat.le_trans (limbs_length_le ys ks.2) (by omega)
  have hsc : sz (sg nc (val zs)) ≤ 40 := by unfold sz; rw [sg_abs]; exact Nat.le_trans (limbs_length_le zs js.2) (by omega)
  have hB1 : Blk 24 w6 w.heap.size _ := ((((hb1.ext hx2).ext hx3).ext hx4).ext hx5).ext hx6
  have hB2 : Blk 24 w6 w1.heap.size _ := (((hb2.ext hx3).ext hx4).ext hx5).ext hx6
  have hB3 : Blk 24 w6 w2.heap.size _ := ((hb3.ext hx4).ext hx5).ext hx6
  clear hb1 hb2 hb3 hx1 hx2 hx3 hx4 hx5 hx6 hz1 hz2 hz3
  generalize sg na (val xs) = a at *
  generalize sg nb (val ys) = b at *
  generalize sg nc (val zs) = c at *
  have s1 := sz_add a b
  have s2 := sz_add (a + b) c
  have s3 := sz_mul a b
  have s4 := sz_mul (a * b) c
  have s5 := sz_add b c
  have s6 := sz_mul a (b + c)
  have s7 := sz_mul a c
  have s8 := sz_add (a * b) (a * c)
  have s9 := sz_add c b
  have s10 := sz_add a (c + b)
  have s11 := sz_mul c a
  have s12 := sz_mul (c * a) b
  have s13 := sz_add a c
  have s14 := sz_sub a b
  -- sum
  (repeat with_reducible first|refine .nil ?_|refine .then_normal ?_|refine .block_normal ?_|refine .seq ?_|refine .block ?_|refine .skip ?_|refine .region ?_|refine .ret ?_|refine .then_ret ?_|refine .block_ret ?_|refine .exit ?_|refine .then_exit ?_|refine .block_exit ?_|refine .block_other rfl ?_)
  refine St.sub (E' := [(3, .pointer (some ⟨w.heap.size, 0, none⟩)), (4, .pointer (some ⟨w1.heap.size, 0, none⟩)), (5, .pointer (some ⟨w2.heap.size, 0, none⟩))]) ?_ ⟨rfl, rfl, rfl, trivial⟩
  refine St.flow 6 TBfol (by kernel_rfl) rfl (by kernel_rfl) rfl True.intro ?_
  refine FL.run TBok 99 rfl ?_
  refine FL.loadAgg (L := []) TBok rfl rfl rfl rfl rfl rfl (by first | assumption | exact Ext.refl _ | (apply Blk.ext; assumption; (repeat first | assumption | refine Ext.trans ?_ (by assumption))) | (apply CanO.ext; assumption; (repeat first | assumption | refine Ext.trans ?_ (by assumption))) | (apply Den.ext; assumption; (repeat first | assumption | refine Ext.trans ?_ (by assumption))) | (apply Sl.ext; assumption; (repeat first | assumption | refine Ext.trans ?_ (by assumption))) | (apply SlO.ext; assumption; (repeat first | assumption | refine Ext.trans ?_ (by assumption))) | (apply Dn.ext; assumption; (repeat first | assumption | refine Ext.trans ?_ (by assumption))) | (apply It.ext; assumption; (repeat first | assumption | refine Ext.trans ?_ (by assumption))) | (repeat first | assumption | refine Ext.trans ?_ (by assumption))) (by simp) (Nat.le_refl _) rfl ?_
  refine FL.loadAgg (L := []) TBok rfl rfl rfl rfl rfl rfl (by first | assumption | exact Ext.refl _ | (apply Blk.ext; assumption; (repeat first | assumption | refine Ext.trans ?_ (by assumption))) | (apply CanO.ext; assumption; (repeat first | assumption | refine Ext.trans ?_ (by assumption))) | (apply Den.ext; assumption; (repeat first | assumption | refine Ext.trans ?_ (by assumption))) | (apply Sl.ext; assumption; (repeat first | assumption | refine Ext.trans ?_ (by assumption))) | (apply SlO.ext; assumption; (repeat first | assumption | refine Ext.trans ?_ (by assumption))) | (apply Dn.ext; assumption; (repeat first | assumption | refine Ext.trans ?_ (by assumption))) | (apply It.ext; assumption; (repeat first | assumption | refine Ext.trans ?_ (by assumption))) | (repeat first | assumption | refine Ext.trans ?_ (by assumption))) (by simp) (Nat.le_refl _) rfl ?_
  refine FL.callE fn_integer_Add rfl rfl rfl (fun w5 hx5 => CallF.mk rfl (add_dn (ha.ext hx5) (hb.ext hx5))) (MonoR.canO 0 _) ?_
  refine FL.loadAgg (L := []) TBok rfl rfl rfl rfl rfl rfl (by first | assumption | exact Ext.refl _ | (apply Blk.ext; assumption; (repeat first | assumption | refine Ext.trans ?_ (by assumption))) | (apply CanO.ext; assumption; (repeat first | assumption | refine Ext.trans ?_ (by assumption))) | (apply Den.ext; assumption; (repeat first | assumption | refine Ext.trans ?_ (by assumption))) | (apply Sl.ext; assumption; (repeat first | assumption | refine Ext.trans ?_ (by assumption))) | (apply SlO.ext; assumption; (repeat first | assumption | refine Ext.trans ?_ (by assumption))) | (apply Dn.ext; assumption; (repeat first | assumption | refine Ext.trans ?_ (by assumption))) | (apply It.ext; assumption; (repeat first | assumption | refine Ext.trans ?_ (by assumption))) | (repeat first | assumption | refine Ext.trans ?_ (by assumption))) (by simp) (Nat.le_refl _) rfl ?_
  refine FL.callE fn_integer_Add rfl rfl rfl (fun w5 hx5 v24 h24 => CallF.mk rfl (add_dn (h24.dn (by omega)) (hc.ext hx5))) (MonoR.canO 0 _) ?_
  refine FL.alloc TBok rfl rfl rfl rfl ?_
  refine FL.endE rfl ?_
  rintro w7 hx7 _ ⟨b7, C7, rfl, hg7, hB7, hl7⟩ v26 h26 v24 _ _ _
  refine StL.setCan rfl rfl hB7 hl7 h26 hx7 hg7 ?_
  intro w8 hS8 hu8 h26' hx8
  replace ha := ha.ext hx8
  replace hb := hb.ext hx8
  replace hc := hc.ext hx8
  replace hB1 := hB1.ext hx8
  replace hB2 := hB2.ext hx8
  replace hB3 := hB3.ext hx8
  replace hx06 := hx06.trans hx8
  clear hx7 hB7 hu8 hx8 h26
  -- product
  (repeat with_reducible first|refine .nil ?_|refine .then_normal ?_|refine .block_normal ?_|refine .seq ?_|refine .block ?_|refine .skip ?_|refine .region ?_|refine .ret ?_|refine .then_ret ?_|refine .block_ret ?_|refine .exit ?_|refine .then_exit ?_|refine .block_exit ?_|refine .block_other rfl ?_)
  refine St.sub (E' := [(3, .pointer (some ⟨w.heap.size, 0, none⟩)), (4, .pointer (some ⟨w1.heap.size, 0, none⟩)), (5, .pointer (some ⟨w2.heap.size, 0, none⟩)), (7, .pointer (some ⟨b7, 0, none⟩))]) ?_ ⟨rfl, rfl, rfl, rfl, trivial⟩
  refine St.flow 6 TBfol (by kernel_rfl) rfl (by kernel_rfl) rfl True.intro ?_
  refine FL.run TBok 99 rfl ?_
  refine FL.loadAgg (L := []) TBok rfl rfl rfl rfl rfl rfl (by first | assumption | exact Ext.refl _ | (apply Blk.ext; assumption; (repeat first | assumption | refine Ext.trans ?_ (by assumption))) | (apply CanO.ext; assumption; (repeat first | assumption | refine Ext.trans ?_ (by assumption))) | (apply Den.ext; assumption; (repeat first | assumption | refine Ext.trans ?_ (by assumption))) | (apply Sl.ext; assumption; (repeat first | assumption | refine Ext.trans ?_ (by assumption))) | (apply SlO.ext; assumption; (repeat first | assumption | refine Ext.trans ?_ (by assumption))) | (apply Dn.ext; assumption; (repeat first | assumption | refine Ext.trans ?_ (by assumption))) | (apply It.ext; assumption; (repeat first | assumption | refine Ext.trans ?_ (by assumption))) | (repeat first | assumption | refine Ext.trans ?_ (by assumption))) (by simp) (Nat.le_refl _) rfl ?_
  refine FL.loadAgg (L := []) TBok rfl rfl rfl rfl rfl rfl (by first | assumption | exact Ext.refl _ | (apply Blk.ext; assumption; (repeat first | assumption | refine Ext.trans ?_ (by assumption))) | (apply CanO.ext; assumption; (repeat first | assumption | refine Ext.trans ?_ (by assumption))) | (apply Den.ext; assumption; (repeat first | assumption | refine Ext.trans ?_ (by assumption))) | (apply Sl.ext; assumption; (repeat first | assumption | refine Ext.trans ?_ (by assumption))) | (apply SlO.ext; assumption; (repeat first | assumption | refine Ext.trans ?_ (by assumption))) | (apply Dn.ext; assumption; (repeat first | assumption | refine Ext.trans ?_ (by assumption))) | (apply It.ext; assumption; (repeat first | assumption | refine Ext.trans ?_ (by assumption))) | (repeat first | assumption | refine Ext.trans ?_ (by assumption))) (by simp) (Nat.le_refl _) rfl ?_
  refine FL.callE fn_integer_Mul rfl rfl rfl (fun w5 hx5 => CallF.mk rfl (mul_dn (ha.ext hx5) (hb.ext hx5))) (MonoR.canO 0 _) ?_
  refine FL.loadAgg (L := []) TBok rfl rfl rfl rfl rfl rfl (by first | assumption | exact Ext.refl _ | (apply Blk.ext; assumption; (repeat first | assumption | refine Ext.trans ?_ (by assumption))) | (apply CanO.ext; assumption; (repeat first | assumption | refine Ext.trans ?_ (by assumption))) | (apply Den.ext; assumption; (repeat first | assumption | refine Ext.trans ?_ (by assumption))) | (apply Sl.ext; assumption; (repeat first | assumption | refine Ext.trans ?_ (by assumption))) | (apply SlO.ext; assumption; (repeat first | assumption | refine Ext.trans ?_ (by assumption))) | (apply Dn.ext; assumption; (repeat first | assumption | refine Ext.trans ?_ (by assumption))) | (apply It.ext; assumption; (repeat first | assumption | refine Ext.trans ?_ (by assumption))) | (repeat first | assumption | refine Ext.trans ?_ (by assumption))) (by simp) (Nat.le_refl _) rfl ?_
  refine FL.callE fn_integer_Mul rfl rfl rfl (fun w5 hx5 v24 h24 => CallF.mk rfl (mul_dn (h24.dn (by omega)) (hc.ext hx5))) (MonoR.canO 0 _) ?_
  refine FL.alloc TBok rfl rfl rfl rfl ?_
  refine FL.endE rfl ?_
  rintro w9 hx9 _ ⟨b9, C9, rfl, hg9, hB9, hl9⟩ v31 h31 v29 _ _ _
  refine StL.setCan rfl rfl hB9 hl9 h31 hx9 hg9 ?_
  intro w10 hS10 hu10 h31' hx10
  replace ha := ha.ext hx10
  replace hb := hb.ext hx10
  replace hc := hc.ext hx10
  replace hB1 := hB1.ext hx10
  replace hB2 := hB2.ext hx10
  replace hB3 := hB3.ext hx10
  replace hS8 := hS8.ext hx10
  replace h26' := h26'.ext hx10
  replace hx06 := hx06.trans hx10
  clear hx9 hB9 hu10 hx10 h31
  -- left
  (repeat with_reducible first|refine .nil ?_|refine .then_normal ?_|refine .block_normal ?_|refine .seq ?_|refine .block ?_|refine .skip ?_|refine .region ?_|refine .ret ?_|refine .then_ret ?_|refine .block_ret ?_|refine .exit ?_|refine .then_exit ?_|refine .block_exit ?_|refine .block_other rfl ?_)
  refine St.sub (E' := [(3, .pointer (some ⟨w.heap.size, 0, none⟩)), (4, .pointer (some ⟨w1.heap.size, 0, none⟩)), (5, .pointer (some ⟨w2.heap.size, 0, none⟩)), (7, .pointer (some ⟨b7, 0, none⟩)), (8, .pointer (some ⟨b9, 0, none⟩))]) ?_ ⟨rfl, rfl, rfl, rfl, rfl, trivial⟩
  refine St.flow 6 TBfol (by kernel_rfl) rfl (by kernel_rfl) rfl True.intro ?_
  refine FL.run TBok 99 rfl ?_
  refine FL.loadAgg (L := []) TBok rfl rfl rfl rfl rfl rfl (by first | assumption | exact Ext.refl _ | (apply Blk.ext; assumption; (repeat first | assumption | refine Ext.trans ?_ (by assumption))) | (apply CanO.ext; assumption; (repeat first | assumption | refine Ext.trans ?_ (by assumption))) | (apply Den.ext; assumption; (repeat first | assumption | refine Ext.trans ?_ (by assumption))) | (apply Sl.ext; assumption; (repeat first | assumption | refine Ext.trans ?_ (by assumption))) | (apply SlO.ext; assumption; (repeat first | assumption | refine Ext.trans ?_ (by assumption))) | (apply Dn.ext; assumption; (repeat first | assumption | refine Ext.trans ?_ (by assumption))) | (apply It.ext; assumption; (repeat first | assumption | refine Ext.trans ?_ (by assumption))) | (repeat first | assumption | refine Ext.trans ?_ (by assumption))) (by simp) (Nat.le_refl _) rfl ?_
  refine FL.loadAgg (L := []) TBok rfl rfl rfl rfl rfl rfl (by first | assumption | exact Ext.refl _ | (apply Blk.ext; assumption; (repeat first | assumption | refine Ext.trans ?_ (by assumption))) | (apply CanO.ext; assumption; (repeat first | assumption | refine Ext.trans ?_ (by assumption))) | (apply Den.ext; assumption; (repeat first | assumption | refine Ext.trans ?_ (by assumption))) | (apply Sl.ext; assumption; (repeat first | assumption | refine Ext.trans ?_ (by assumption))) | (apply SlO.ext; assumption; (repeat first | assumption | refine Ext.trans ?_ (by assumption))) | (apply Dn.ext; assumption; (repeat first | assumption | refine Ext.trans ?_ (by assumption))) | (apply It.ext; assumption; (repeat first | assumption | refine Ext.trans ?_ (by assumption))) | (repeat first | assumption | refine Ext.trans ?_ (by assumption))) (by simp) (Nat.le_refl _) rfl ?_
  refine FL.loadAgg (L := []) TBok rfl rfl rfl rfl rfl rfl (by first | assumption | exact Ext.refl _ | (apply Blk.ext; assumption; (repeat first | assumption | refine Ext.trans ?_ (by assumption))) | (apply CanO.ext; assumption; (repeat first | assumption | refine Ext.trans ?_ (by assumption))) | (apply Den.ext; assumption; (repeat first | assumption | refine Ext.trans ?_ (by assumption))) | (apply Sl.ext; assumption; (repeat first | assumption | refine Ext.trans ?_ (by assumption))) | (apply SlO.ext; assumption; (repeat first | assumption | refine Ext.trans ?_ (by assumption))) | (apply Dn.ext; assumption; (repeat first | assumption | refine Ext.trans ?_ (by assumption))) | (apply It.ext; assumption; (repeat first | assumption | refine Ext.trans ?_ (by assumption))) | (repeat first | assumption | refine Ext.trans ?_ (by assumption))) (by simp) (Nat.le_refl _) rfl ?_
  refine FL.callE fn_integer_Add rfl rfl rfl (fun w5 hx5 => CallF.mk rfl (add_dn (hb.ext hx5) (hc.ext hx5))) (MonoR.canO 0 _) ?_
  refine FL.callE fn_integer_Mul rfl rfl rfl (fun w5 hx5 v35 h35 => CallF.mk rfl (mul_dn (ha.ext hx5) (h35.dn (by omega)))) (MonoR.canO 0 _) ?_
  refine FL.alloc TBok rfl rfl rfl rfl ?_
  refine FL.endE rfl ?_
  rintro w11 hx11 _ ⟨b11, C11, rfl, hg11, hB11, hl11⟩ v36 h36 v35 _ _ _
  refine StL.setCan rfl rfl hB11 hl11 h36 hx11 hg11 ?_
  intro w12 hS12 hu12 h36' hx12
  replace ha := ha.ext hx12
  replace hb := hb.ext hx12
  replace hc := hc.ext hx12
  replace hB1 := hB1.ext hx12
  replace hB2 := hB2.ext hx12
  replace hB3 := hB3.ext hx12
  replace hS8 := hS8.ext hx12
  replace h26' := h26'.ext hx12
  replace hS10 := hS10.ext hx12
  replace h31' := h31'.ext hx12
  replace hx06 := hx06.trans hx12
  clear hx11 hB11 hu12 hx12 h36
  -- right
  (repeat with_reducible first|refine .nil ?_|refine .then_normal ?_|refine .block_normal ?_|refine .seq ?_|refine .block ?_|refine .skip ?_|refine .region ?_|refine .ret ?_|refine .then_ret ?_|refine .block_ret ?_|refine .exit ?_|refine .then_exit ?_|refine .block_exit ?_|refine .block_other rfl ?_)
  refine St.sub (E' := [(3, .pointer (some ⟨w.heap.size, 0, none⟩)), (4, .pointer (some ⟨w1.heap.size, 0, none⟩)), (5, .pointer (some ⟨w2.heap.size, 0, none⟩)), (7, .pointer (some ⟨b7, 0, none⟩)), (8, .pointer (some ⟨b9, 0, none⟩)), (9, .pointer (some ⟨b11, 0, none⟩))]) ?_ ⟨rfl, rfl, rfl, rfl, rfl, rfl, trivial⟩
  refine St.flow 8 TBfol (by kernel_rfl) rfl (by kernel_rfl) rfl True.intro ?_
  refine FL.run TBok 99 rfl ?_
  refine FL.loadAgg (L := []) TBok rfl rfl rfl rfl rfl rfl (by first | assumption | exact Ext.refl _ | (apply Blk.ext; assumption; (repeat first | assumption | refine Ext.trans ?_ (by assumption))) | (apply CanO.ext; assumption; (repeat first | assumption | refine Ext.trans ?_ (by assumption))) | (apply Den.ext; assumption; (repeat first | assumption | refine Ext.trans ?_ (by assumption))) | (apply Sl.ext; assumption; (repeat first | assumption | refine Ext.trans ?_ (by assumption))) | (apply SlO.ext; assumption; (repeat first | assumption | refine Ext.trans ?_ (by assumption))) | (apply Dn.ext; assumption; (repeat first | assumption | refine Ext.trans ?_ (by assumption))) | (apply It.ext; assumption; (repeat first | assumption | refine Ext.trans ?_ (by assumption))) | (repeat first | assumption | refine Ext.trans ?_ (by assumption))) (by simp) (Nat.le_refl _) rfl ?_
  refine FL.loadAgg (L := []) TBok rfl rfl rfl rfl rfl rfl (by first | assumption | exact Ext.refl _ | (apply Blk.ext; assumption; (repeat first | assumption | refine Ext.trans ?_ (by assumption))) | (apply CanO.ext; assumption; (repeat first | assumption | refine Ext.trans ?_ (by assumption))) | (apply Den.ext; assumption; (repeat first | assumption | refine Ext.trans ?_ (by assumption))) | (apply Sl.ext; assumption; (repeat first | assumption | refine Ext.trans ?_ (by assumption))) | (apply SlO.ext; assumption; (repeat first | assumption | refine Ext.trans ?_ (by assumption))) | (apply Dn.ext; assumption; (repeat first | assumption | refine Ext.trans ?_ (by assumption))) | (apply It.ext; assumption; (repeat first | assumption | refine Ext.trans ?_ (by assumption))) | (repeat first | assumption | refine Ext.trans ?_ (by assumption))) (by simp) (Nat.le_refl _) rfl ?_
  refine FL.callE fn_integer_Mul rfl rfl rfl (fun w5 hx5 => CallF.mk rfl (mul_dn (ha.ext hx5) (hb.ext hx5))) (MonoR.canO 0 _) ?_
  refine FL.loadAgg (L := []) TBok rfl rfl rfl rfl rfl rfl (by first | assumption | exact Ext.refl _ | (apply Blk.ext; assumption; (repeat first | assumption | refine Ext.trans ?_ (by assumption))) | (apply CanO.ext; assumption; (repeat first | assumption | refine Ext.trans ?_ (by assumption))) | (apply Den.ext; assumption; (repeat first | assumption | refine Ext.trans ?_ (by assumption))) | (apply Sl.ext; assumption; (repeat first | assumption | refine Ext.trans ?_ (by assumption))) | (apply SlO.ext; assumption; (repeat first | assumption | refine Ext.trans ?_ (by assumption))) | (apply Dn.ext; assumption; (repeat first | assumption | refine Ext.trans ?_ (by assumption))) | (apply It.ext; assumption; (repeat first | assumption | refine Ext.trans ?_ (by assumption))) | (repeat first | assumption | refine Ext.trans ?_ (by assumption))) (by simp) (Nat.le_refl _) rfl ?_
  refine FL.loadAgg (L := []) TBok rfl rfl rfl rfl rfl rfl (by first | assumption | exact Ext.refl _ | (apply Blk.ext; assumption; (repeat first | assumption | refine Ext.trans ?_ (by assumption))) | (apply CanO.ext; assumption; (repeat first | assumption | refine Ext.trans ?_ (by assumption))) | (apply Den.ext; assumption; (repeat first | assumption | refine Ext.trans ?_ (by assumption))) | (apply Sl.ext; assumption; (repeat first | assumption | refine Ext.trans ?_ (by assumption))) | (apply SlO.ext; assumption; (repeat first | assumption | refine Ext.trans ?_ (by assumption))) | (apply Dn.ext; assumption; (repeat first | assumption | refine Ext.trans ?_ (by assumption))) | (apply It.ext; assumption; (repeat first | assumption | refine Ext.trans ?_ (by assumption))) | (repeat first | assumption | refine Ext.trans ?_ (by assumption))) (by simp) (Nat.le_refl _) rfl ?_
  refine FL.callE fn_integer_Mul rfl rfl rfl (fun w5 hx5 => CallF.mk rfl (mul_dn (ha.ext hx5) (hc.ext hx5))) (MonoR.canO 0 _) ?_
  refine FL.callE fn_integer_Add rfl rfl rfl (fun w5 hx5 v39 h39 v42 h42 => CallF.mk rfl (add_dn (h39.dn (by omega)) (h42.dn (by omega)))) (MonoR.canO 0 _) ?_
  refine FL.alloc TBok rfl rfl rfl rfl ?_
  refine FL.endE rfl ?_
  rintro w13 hx13 _ ⟨b13, C13, rfl, hg13, hB13, hl13⟩ v43 h43 v42 _ v39 _ _ _
  refine StL.setCan rfl rfl hB13 hl13 h43 hx13 hg13 ?_
  intro w14 hS14 hu14 h43' hx14
  replace ha := ha.ext hx14
  replace hb := hb.ext hx14
  replace hc := hc.ext hx14
  replace hB1 := hB1.ext hx14
  replace hB2 := hB2.ext hx14
  replace hB3 := hB3.ext hx14
  replace hS8 := hS8.ext hx14
  replace h26' := h26'.ext hx14
  replace hS10 := hS10.ext hx14
  replace h31' := h31'.ext hx14
  replace hS12 := hS12.ext hx14
  replace h36' := h36'.ext hx14
  replace hx06 := hx06.trans hx14
  clear hx13 hB13 hu14 hx14 h43
  -- the comparisons
  (repeat with_reducible first|refine .nil ?_|refine .then_normal ?_|refine .block_normal ?_|refine .seq ?_|refine .block ?_|refine .skip ?_|refine .region ?_|refine .ret ?_|refine .then_ret ?_|refine .block_ret ?_|refine .exit ?_|refine .then_exit ?_|refine .block_exit ?_|refine .block_other rfl ?_)
  refine St.sub (E' := [(3, .pointer (some ⟨w.heap.size, 0, none⟩)), (4, .pointer (some ⟨w1.heap.size, 0, none⟩)), (5, .pointer (some ⟨w2.heap.size, 0, none⟩)), (7, .pointer (some ⟨b7, 0, none⟩)), (8, .pointer (some ⟨b9, 0, none⟩)), (9, .pointer (some ⟨b11, 0, none⟩)), (10, .pointer (some ⟨b13, 0, none⟩))]) ?_ ⟨rfl, rfl, rfl, rfl, rfl, rfl, rfl, trivial⟩
  refine St.flow 24 TBfol (by kernel_rfl) rfl (by kernel_rfl) rfl True.intro ?_
  refine FL.run TBok 99 rfl ?_
  refine FL.one (L := []) rfl rfl rfl rfl rfl (fun _ hR => RunsTo.loadCan rfl (hR.blk hS8 (by simp)) h26') ?_
  refine FL.loadAgg (L := []) TBok rfl rfl rfl rfl rfl rfl (by first | assumption | exact Ext.refl _ | (apply Blk.ext; assumption; (repeat first | assumption | refine Ext.trans ?_ (by assumption))) | (apply CanO.ext; assumption; (repeat first | assumption | refine Ext.trans ?_ (by assumption))) | (apply Den.ext; assumption; (repeat first | assumption | refine Ext.trans ?_ (by assumption))) | (apply Sl.ext; assumption; (repeat first | assumption | refine Ext.trans ?_ (by assumption))) | (apply SlO.ext; assumption; (repeat first | assumption | refine Ext.trans ?_ (by assumption))) | (apply Dn.ext; assumption; (repeat first | assumption | refine Ext.trans ?_ (by assumption))) | (apply It.ext; assumption; (repeat first | assumption | refine Ext.trans ?_ (by assumption))) | (repeat first | assumption | refine Ext.trans ?_ (by assumption))) (by simp) (Nat.le_refl _) rfl ?_
  refine FL.loadAgg (L := []) TBok rfl rfl rfl rfl rfl rfl (by first | assumption | exact Ext.refl _ | (apply Blk.ext; assumption; (repeat first | assumption | refine Ext.trans ?_ (by assumption))) | (apply CanO.ext; assumption; (repeat first | assumption | refine Ext.trans ?_ (by assumption))) | (apply Den.ext; assumption; (repeat first | assumption | refine Ext.trans ?_ (by assumption))) | (apply Sl.ext; assumption; (repeat first | assumption | refine Ext.trans ?_ (by assumption))) | (apply SlO.ext; assumption; (repeat first | assumption | refine Ext.trans ?_ (by assumption))) | (apply Dn.ext; assumption; (repeat first | assumption | refine Ext.trans ?_ (by assumption))) | (apply It.ext; assumption; (repeat first | assumption | refine Ext.trans ?_ (by assumption))) | (repeat first | assumption | refine Ext.trans ?_ (by assumption))) (by simp) (Nat.le_refl _) rfl ?_
  refine FL.loadAgg (L := []) TBok rfl rfl rfl rfl rfl rfl (by first | assumption | exact Ext.refl _ | (apply Blk.ext; assumption; (repeat first | assumption | refine Ext.trans ?_ (by assumption))) | (apply CanO.ext; assumption; (repeat first | assumption | refine Ext.trans ?_ (by assumption))) | (apply Den.ext; assumption; (repeat first | assumption | refine Ext.trans ?_ (by assumption))) | (apply Sl.ext; assumption; (repeat first | assumption | refine Ext.trans ?_ (by assumption))) | (apply SlO.ext; assumption; (repeat first | assumption | refine Ext.trans ?_ (by assumption))) | (apply Dn.ext; assumption; (repeat first | assumption | refine Ext.trans ?_ (by assumption))) | (apply It.ext; assumption; (repeat first | assumption | refine Ext.trans ?_ (by assumption))) | (repeat first | assumption | refine Ext.trans ?_ (by assumption))) (by simp) (Nat.le_refl _) rfl ?_
  refine FL.callE fn_integer_Add rfl rfl rfl (fun w5 hx5 => CallF.mk rfl (add_dn (hc.ext hx5) (hb.ext hx5))) (MonoR.canO 0 _) ?_
  refine FL.callE fn_integer_Add rfl rfl rfl (fun w5 hx5 v48 h48 => CallF.mk rfl (add_dn (ha.ext hx5) (h48.dn (by omega)))) (MonoR.canO 0 _) ?_
  refine FL.callXE fn_integer_Cmp rfl rfl rfl (fun w5 hx5 v49 h49 => CallF.mk rfl (cmp_eq0 ((h26'.ext hx5).dn (by omega)) (h49.dn (by omega)) (by omega))) ?_
  refine FL.run TBok 99 rfl ?_
  refine FL.one (L := []) rfl rfl rfl rfl rfl (fun _ hR => RunsTo.loadCan rfl (hR.blk hS10 (by simp)) h31') ?_
  refine FL.loadAgg (L := []) TBok rfl rfl rfl rfl rfl rfl (by first | assumption | exact Ext.refl _ | (apply Blk.ext; assumption; (repeat first | assumption | refine Ext.trans ?_ (by assumption))) | (apply CanO.ext; assumption; (repeat first | assumption | refine Ext.trans ?_ (by assumption))) | (apply Den.ext; assumption; (repeat first | assumption | refine Ext.trans ?_ (by assumption))) | (apply Sl.ext; assumption; (repeat first | assumption | refine Ext.trans ?_ (by assumption))) | (apply SlO.ext; assumption; (repeat first | assumption | refine Ext.trans ?_ (by assumption))) | (apply Dn.ext; assumption; (repeat first | assumption | refine Ext.trans ?_ (by assumption))) | (apply It.ext; assumption; (repeat first | assumption | refine Ext.trans ?_ (by assumption))) | (repeat first | assumption | refine Ext.trans ?_ (by assumption))) (by simp) (Nat.le_refl _) rfl ?_
  refine FL.loadAgg (L := []) TBok rfl rfl rfl rfl rfl rfl (by first | assumption | exact Ext.refl _ | (apply Blk.ext; assumption; (repeat first | assumption | refine Ext.trans ?_ (by assumption))) | (apply CanO.ext; assumption; (repeat first | assumption | refine Ext.trans ?_ (by assumption))) | (apply Den.ext; assumption; (repeat first | assumption | refine Ext.trans ?_ (by assumption))) | (apply Sl.ext; assumption; (repeat first | assumption | refine Ext.trans ?_ (by assumption))) | (apply SlO.ext; assumption; (repeat first | assumption | refine Ext.trans ?_ (by assumption))) | (apply Dn.ext; assumption; (repeat first | assumption | refine Ext.trans ?_ (by assumption))) | (apply It.ext; assumption; (repeat first | assumption | refine Ext.trans ?_ (by assumption))) | (repeat first | assumption | refine Ext.trans ?_ (by assumption))) (by simp) (Nat.le_refl _) rfl ?_
  refine FL.callE fn_integer_Mul rfl rfl rfl (fun w5 hx5 => CallF.mk rfl (mul_dn (hc.ext hx5) (ha.ext hx5))) (MonoR.canO 0 _) ?_
  refine FL.loadAgg (L := []) TBok rfl rfl rfl rfl rfl rfl (by first | assumption | exact Ext.refl _ | (apply Blk.ext; assumption; (repeat first | assumption | refine Ext.trans ?_ (by assumption))) | (apply CanO.ext; assumption; (repeat first | assumption | refine Ext.trans ?_ (by assumption))) | (apply Den.ext; assumption; (repeat first | assumption | refine Ext.trans ?_ (by assumption))) | (apply Sl.ext; assumption; (repeat first | assumption | refine Ext.trans ?_ (by assumption))) | (apply SlO.ext; assumption; (repeat first | assumption | refine Ext.trans ?_ (by assumption))) | (apply Dn.ext; assumption; (repeat first | assumption | refine Ext.trans ?_ (by assumption))) | (apply It.ext; assumption; (repeat first | assumption | refine Ext.trans ?_ (by assumption))) | (repeat first | assumption | refine Ext.trans ?_ (by assumption))) (by simp) (Nat.le_refl _) rfl ?_
  refine FL.callE fn_integer_Mul rfl rfl rfl (fun w5 hx5 v56 h56 => CallF.mk rfl (mul_dn (h56.dn (by omega)) (hb.ext hx5))) (MonoR.canO 0 _) ?_
  refine FL.callXE fn_integer_Cmp rfl rfl rfl (fun w5 hx5 v58 h58 => CallF.mk rfl (cmp_eq0 ((h31'.ext hx5).dn (by omega)) (h58.dn (by omega)) (by rw [Int.mul_comm c a, Int.mul_assoc, Int.mul_assoc, Int.mul_comm c b]))) ?_
  refine FL.run TBok 99 rfl ?_
  refine FL.one (L := []) rfl rfl rfl rfl rfl (fun _ hR => RunsTo.loadCan rfl (hR.blk hS12 (by simp)) h36') ?_
  refine FL.one (L := []) rfl rfl rfl rfl rfl (fun _ hR => RunsTo.loadCan rfl (hR.blk hS14 (by simp)) h43') ?_
  refine FL.callXE fn_integer_Cmp rfl rfl rfl (fun w5 hx5 => CallF.mk rfl (cmp_eq0 ((h36'.ext hx5).dn (by omega)) ((h43'.ext hx5).dn (by omega)) (Int.mul_add a b c))) ?_
  refine FL.run TBok 99 rfl ?_
  refine FL.endE rfl ?_
  intro w15 hx15 _ _ _ _ _ _ _ _ _ _
  (iterate 6 ((repeat with_reducible first|refine .nil ?_|refine .then_normal ?_|refine .block_normal ?_|refine .seq ?_|refine .block ?_|refine .skip ?_|refine .region ?_|refine .ret ?_|refine .then_ret ?_|refine .block_ret ?_|refine .exit ?_|refine .then_exit ?_|refine .block_exit ?_|refine .block_other rfl ?_); try refine .run TBok 99 rfl ?_))
  refine St.condF rfl rfl ?_
  replace ha := ha.ext hx15
  replace hb := hb.ext hx15
  replace hc := hc.ext hx15
  replace hB1 := hB1.ext hx15
  replace hB2 := hB2.ext hx15
  replace hB3 := hB3.ext hx15
  replace hx06 := hx06.trans hx15
  clear hx15
  -- the order
  (repeat with_reducible first|refine .nil ?_|refine .then_normal ?_|refine .block_normal ?_|refine .seq ?_|refine .block ?_|refine .skip ?_|refine .region ?_|refine .ret ?_|refine .then_ret ?_|refine .block_ret ?_|refine .exit ?_|refine .then_exit ?_|refine .block_exit ?_|refine .block_other rfl ?_)
  refine St.sub (E' := [(3, .pointer (some ⟨w.heap.size, 0, none⟩)), (4, .pointer (some ⟨w1.heap.size, 0, none⟩)), (5, .pointer (some ⟨w2.heap.size, 0, none⟩))]) ?_ ⟨rfl, rfl, rfl, trivial⟩
  refine St.flow 24 TBfol (by kernel_rfl) rfl (by kernel_rfl) rfl True.intro ?_
  refine FL.run TBok 99 rfl ?_
  refine FL.loadAgg (L := []) TBok rfl rfl rfl rfl rfl rfl (by first | assumption | exact Ext.refl _ | (apply Blk.ext; assumption; (repeat first | assumption | refine Ext.trans ?_ (by assumption))) | (apply CanO.ext; assumption; (repeat first | assumption | refine Ext.trans ?_ (by assumption))) | (apply Den.ext; assumption; (repeat first | assumption | refine Ext.trans ?_ (by assumption))) | (apply Sl.ext; assumption; (repeat first | assumption | refine Ext.trans ?_ (by assumption))) | (apply SlO.ext; assumption; (repeat first | assumption | refine Ext.trans ?_ (by assumption))) | (apply Dn.ext; assumption; (repeat first | assumption | refine Ext.trans ?_ (by assumption))) | (apply It.ext; assumption; (repeat first | assumption | refine Ext.trans ?_ (by assumption))) | (repeat first | assumption | refine Ext.trans ?_ (by assumption))) (by simp) (Nat.le_refl _) rfl ?_
  refine FL.loadAgg (L := []) TBok rfl rfl rfl rfl rfl rfl (by first | assumption | exact Ext.refl _ | (apply Blk.ext; assumption; (repeat first | assumption | refine Ext.trans ?_ (by assumption))) | (apply CanO.ext; assumption; (repeat first | assumption | refine Ext.trans ?_ (by assumption))) | (apply Den.ext; assumption; (repeat first | assumption | refine Ext.trans ?_ (by assumption))) | (apply Sl.ext; assumption; (repeat first | assumption | refine Ext.trans ?_ (by assumption))) | (apply SlO.ext; assumption; (repeat first | assumption | refine Ext.trans ?_ (by assumption))) | (apply Dn.ext; assumption; (repeat first | assumption | refine Ext.trans ?_ (by assumption))) | (apply It.ext; assumption; (repeat first | assumption | refine Ext.trans ?_ (by assumption))) | (repeat first | assumption | refine Ext.trans ?_ (by assumption))) (by simp) (Nat.le_refl _) rfl ?_
  refine FL.callE fn_integer_Add rfl rfl rfl (fun w5 hx5 => CallF.mk rfl (add_dn (ha.ext hx5) (hc.ext hx5))) (MonoR.canO 0 _) ?_
  refine FL.loadAgg (L := []) TBok rfl rfl rfl rfl rfl rfl (by first | assumption | exact Ext.refl _ | (apply Blk.ext; assumption; (repeat first | assumption | refine Ext.trans ?_ (by assumption))) | (apply CanO.ext; assumption; (repeat first | assumption | refine Ext.trans ?_ (by assumption))) | (apply Den.ext; assumption; (repeat first | assumption | refine Ext.trans ?_ (by assumption))) | (apply Sl.ext; assumption; (repeat first | assumption | refine Ext.trans ?_ (by assumption))) | (apply SlO.ext; assumption; (repeat first | assumption | refine Ext.trans ?_ (by assumption))) | (apply Dn.ext; assumption; (repeat first | assumption | refine Ext.trans ?_ (by assumption))) | (apply It.ext; assumption; (repeat first | assumption | refine Ext.trans ?_ (by assumption))) | (repeat first | assumption | refine Ext.trans ?_ (by assumption))) (by simp) (Nat.le_refl _) rfl ?_
  refine FL.loadAgg (L := []) TBok rfl rfl rfl rfl rfl rfl (by first | assumption | exact Ext.refl _ | (apply Blk.ext; assumption; (repeat first | assumption | refine Ext.trans ?_ (by assumption))) | (apply CanO.ext; assumption; (repeat first | assumption | refine Ext.trans ?_ (by assumption))) | (apply Den.ext; assumption; (repeat first | assumption | refine Ext.trans ?_ (by assumption))) | (apply Sl.ext; assumption; (repeat first | assumption | refine Ext.trans ?_ (by assumption))) | (apply SlO.ext; assumption; (repeat first | assumption | refine Ext.trans ?_ (by assumption))) | (apply Dn.ext; assumption; (repeat first | assumption | refine Ext.trans ?_ (by assumption))) | (apply It.ext; assumption; (repeat first | assumption | refine Ext.trans ?_ (by assumption))) | (repeat first | assumption | refine Ext.trans ?_ (by assumption))) (by simp) (Nat.le_refl _) rfl ?_
  refine FL.callE fn_integer_Add rfl rfl rfl (fun w5 hx5 => CallF.mk rfl (add_dn (hb.ext hx5) (hc.ext hx5))) (MonoR.canO 0 _) ?_
  refine FL.callXE fn_integer_Cmp rfl rfl rfl (fun w5 hx5 v70 h70 v73 h73 => CallF.mk rfl (cmp_dn (h70.dn (by omega)) (h73.dn (by omega)))) ?_
  refine FL.loadAgg (L := []) TBok rfl rfl rfl rfl rfl rfl (by first | assumption | exact Ext.refl _ | (apply Blk.ext; assumption; (repeat first | assumption | refine Ext.trans ?_ (by assumption))) | (apply CanO.ext; assumption; (repeat first | assumption | refine Ext.trans ?_ (by assumption))) | (apply Den.ext; assumption; (repeat first | assumption | refine Ext.trans ?_ (by assumption))) | (apply Sl.ext; assumption; (repeat first | assumption | refine Ext.trans ?_ (by assumption))) | (apply SlO.ext; assumption; (repeat first | assumption | refine Ext.trans ?_ (by assumption))) | (apply Dn.ext; assumption; (repeat first | assumption | refine Ext.trans ?_ (by assumption))) | (apply It.ext; assumption; (repeat first | assumption | refine Ext.trans ?_ (by assumption))) | (repeat first | assumption | refine Ext.trans ?_ (by assumption))) (by simp) (Nat.le_refl _) rfl ?_
  refine FL.loadAgg (L := []) TBok rfl rfl rfl rfl rfl rfl (by first | assumption | exact Ext.refl _ | (apply Blk.ext; assumption; (repeat first | assumption | refine Ext.trans ?_ (by assumption))) | (apply CanO.ext; assumption; (repeat first | assumption | refine Ext.trans ?_ (by assumption))) | (apply Den.ext; assumption; (repeat first | assumption | refine Ext.trans ?_ (by assumption))) | (apply Sl.ext; assumption; (repeat first | assumption | refine Ext.trans ?_ (by assumption))) | (apply SlO.ext; assumption; (repeat first | assumption | refine Ext.trans ?_ (by assumption))) | (apply Dn.ext; assumption; (repeat first | assumption | refine Ext.trans ?_ (by assumption))) | (apply It.ext; assumption; (repeat first | assumption | refine Ext.trans ?_ (by assumption))) | (repeat first | assumption | refine Ext.trans ?_ (by assumption))) (by simp) (Nat.le_refl _) rfl ?_
  refine FL.callXE fn_integer_Cmp rfl rfl rfl (fun w5 hx5 => CallF.mk rfl (cmp_dn (ha.ext hx5) (hb.ext hx5))) ?_
  refine FL.as TBok 1 (.bool true) rfl (by rw [cmpI_add]; simp) ?_
  refine FL.run TBok 99 rfl ?_
  refine FL.loadAgg (L := []) TBok rfl rfl rfl rfl rfl rfl (by first | assumption | exact Ext.refl _ | (apply Blk.ext; assumption; (repeat first | assumption | refine Ext.trans ?_ (by assumption))) | (apply CanO.ext; assumption; (repeat first | assumption | refine Ext.trans ?_ (by assumption))) | (apply Den.ext; assumption; (repeat first | assumption | refine Ext.trans ?_ (by assumption))) | (apply Sl.ext; assumption; (repeat first | assumption | refine Ext.trans ?_ (by assumption))) | (apply SlO.ext; assumption; (repeat first | assumption | refine Ext.trans ?_ (by assumption))) | (apply Dn.ext; assumption; (repeat first | assumption | refine Ext.trans ?_ (by assumption))) | (apply It.ext; assumption; (repeat first | assumption | refine Ext.trans ?_ (by assumption))) | (repeat first | assumption | refine Ext.trans ?_ (by assumption))) (by simp) (Nat.le_refl _) rfl ?_
  refine FL.loadAgg (L := []) TBok rfl rfl rfl rfl rfl rfl (by first | assumption | exact Ext.refl _ | (apply Blk.ext; assumption; (repeat first | assumption | refine Ext.trans ?_ (by assumption))) | (apply CanO.ext; assumption; (repeat first | assumption | refine Ext.trans ?_ (by assumption))) | (apply Den.ext; assumption; (repeat first | assumption | refine Ext.trans ?_ (by assumption))) | (apply Sl.ext; assumption; (repeat first | assumption | refine Ext.trans ?_ (by assumption))) | (apply SlO.ext; assumption; (repeat first | assumption | refine Ext.trans ?_ (by assumption))) | (apply Dn.ext; assumption; (repeat first | assumption | refine Ext.trans ?_ (by assumption))) | (apply It.ext; assumption; (repeat first | assumption | refine Ext.trans ?_ (by assumption))) | (repeat first | assumption | refine Ext.trans ?_ (by assumption))) (by simp) (Nat.le_refl _) rfl ?_
  refine FL.callE fn_integer_Sub rfl rfl rfl (fun w5 hx5 => CallF.mk rfl (sub_dn (ha.ext hx5) (hb.ext hx5))) (MonoR.canO 0 _) ?_
  refine FL.callXE fn_integer_Sign rfl rfl rfl (fun w5 hx5 v82 h82 => CallF.mk rfl (sign_dn (h82.dn (by omega)))) ?_
  refine FL.loadAgg (L := []) TBok rfl rfl rfl rfl rfl rfl (by first | assumption | exact Ext.refl _ | (apply Blk.ext; assumption; (repeat first | assumption | refine Ext.trans ?_ (by assumption))) | (apply CanO.ext; assumption; (repeat first | assumption | refine Ext.trans ?_ (by assumption))) | (apply Den.ext; assumption; (repeat first | assumption | refine Ext.trans ?_ (by assumption))) | (apply Sl.ext; assumption; (repeat first | assumption | refine Ext.trans ?_ (by assumption))) | (apply SlO.ext; assumption; (repeat first | assumption | refine Ext.trans ?_ (by assumption))) | (apply Dn.ext; assumption; (repeat first | assumption | refine Ext.trans ?_ (by assumption))) | (apply It.ext; assumption; (repeat first | assumption | refine Ext.trans ?_ (by assumption))) | (repeat first | assumption | refine Ext.trans ?_ (by assumption))) (by simp) (Nat.le_refl _) rfl ?_
  refine FL.loadAgg (L := []) TBok rfl rfl rfl rfl rfl rfl (by first | assumption | exact Ext.refl _ | (apply Blk.ext; assumption; (repeat first | assumption | refine Ext.trans ?_ (by assumption))) | (apply CanO.ext; assumption; (repeat first | assumption | refine Ext.trans ?_ (by assumption))) | (apply Den.ext; assumption; (repeat first | assumption | refine Ext.trans ?_ (by assumption))) | (apply Sl.ext; assumption; (repeat first | assumption | refine Ext.trans ?_ (by assumption))) | (apply SlO.ext; assumption; (repeat first | assumption | refine Ext.trans ?_ (by assumption))) | (apply Dn.ext; assumption; (repeat first | assumption | refine Ext.trans ?_ (by assumption))) | (apply It.ext; assumption; (repeat first | assumption | refine Ext.trans ?_ (by assumption))) | (repeat first | assumption | refine Ext.trans ?_ (by assumption))) (by simp) (Nat.le_refl _) rfl ?_
  refine FL.callXE fn_integer_Cmp rfl rfl rfl (fun w5 hx5 => CallF.mk rfl (cmp_dn (ha.ext hx5) (hb.ext hx5))) ?_
  refine FL.as TBok 1 (.bool true) rfl (by rw [sign_sub]; simp) ?_
  refine FL.run TBok 99 rfl ?_
  refine FL.callXE fn_w01_awake rfl rfl rfl (fun w5 hx5 => CallF.mk rfl (awake_spec w5)) ?_
  refine FL.run TBok 99 rfl ?_
  refine FL.endE rfl ?_
  intro w16 hx16 _ _ _ _ _ _ _ _
  (iterate 6 ((repeat with_reducible first|refine .nil ?_|refine .then_normal ?_|refine .block_normal ?_|refine .seq ?_|refine .block ?_|refine .skip ?_|refine .region ?_|refine .ret ?_|refine .then_ret ?_|refine .block_ret ?_|refine .exit ?_|refine .then_exit ?_|refine .block_exit ?_|refine .block_other rfl ?_); try refine .run TBok 99 rfl ?_))
  exact Out.ret1 rfl rfl ⟨hx06.trans hx16, rfl⟩

end Go.Qf
