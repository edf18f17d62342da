/- Lemmas on the model and on the program's functions, part Qi. -/
import Derived.Test.YtianfagdgdpnpaaQa
import Derived.Test.YtianfagdgdpnpaaQb
import Derived.Test.YtianfagdgdpnpaaQc
import Derived.Test.YtianfagdgdpnpaaQd
import Derived.Test.YtianfagdgdpnpaaQe
import Derived.Test.YtianfagdgdpnpaaQf
import Derived.Test.YtianfagdgdpnpaaQg
import Derived.Test.YtianfagdgdpnpaaQh
/- The laws IntegerDivides, IntegerDivision, IntegerGcds, IntegerCommon: the walks. -/
namespace Go.Qf
open Go Go.RowKit Go.Proofs

/-- What a division has made, laid into two variables. -/
theorem StL.setTwo {base n : Nat} {E : List (Nat × Value)} {w w0 : World} {ops : Array Oper} {rest : List Oper} {Q : Exit → Act → World → Prop} {d1 d2 s1 s2 : Nat} {ty1 ty2 ty3 ty4 : TypeId} {p1 p2 p3 p4 : String} {a1 a2 a3 a4 : Array Edge} {u v : Value} {x y : Int}
    (hn1 : Nat.blt d1 n = true) (hn2 : Nat.blt d2 n = true) (hne : Nat.beq d2 d1 = false) (hs1 : ∀ p q, look ((d2, q) :: (d1, p) :: E) s1 = some u) (hs2 : ∀ p q, look ((d2, q) :: (d1, p) :: E) s2 = some v) (hu : CanO base w u x) (hv : CanO base w v y) (hx : Ext w0 w)
    (next : ∀ b1 b2 w', b1 ≠ b2 → w.heap.size ≤ b1 → w.heap.size ≤ b2 → Ext w w' → Blk 24 w' b1 u.cells.toList → Blk 24 w' b2 v.cells.toList → CanO base w' u x → CanO base w' v y → Ext w0 w' → StL Try.prog n ((d2, .pointer (some ⟨b2, 0, none⟩)) :: (d1, .pointer (some ⟨b1, 0, none⟩)) :: E) w' ops rest Q) :
    StL Try.prog n E w ops (⟨some d1, .alloc 24, ty1, p1, a1, none⟩ :: ⟨some d2, .alloc 24, ty2, p2, a2, none⟩ :: ⟨none, .store 24 (.tmp d1) (.tmp s1), ty3, p3, a3, none⟩ :: ⟨none, .store 24 (.tmp d2) (.tmp s2), ty4, p4, a4, none⟩ :: rest) Q := by
  refine StL.step rfl rfl hn1 (OpR.alloc TBok rfl) ?_
  rintro _ w5 ⟨rfl, hb5, hx5, hz5⟩
  refine StL.step rfl rfl hn2 (OpR.alloc TBok rfl) ?_
  rintro _ w6 ⟨rfl, hb6, hx6, hz6⟩
  have hx56 := hx5.trans hx6
  have hl1 : look ((d2, Value.pointer (some ⟨w5.heap.size, 0, none⟩)) :: (d1, .pointer (some ⟨w.heap.size, 0, none⟩)) :: E) d1 = some (.pointer (some ⟨w.heap.size, 0, none⟩)) := by
    rw [look_cons_ne _ _ (fun e => by subst e; simp at hne), look_cons_self]
  refine StL.setCan hl1 (hs1 _ _) (hb5.ext hx6) rfl (hu.ext hx56) hx56 (Nat.le_refl _) ?_
  intro w7 hS5 hu7 hu7c hx7
  have hb6' := hb6.upd hu7 (by omega)
  refine StL.setCan (look_cons_self _ _ _) (hs2 _ _) hb6' rfl (CanO.upd (hv.ext hx56) hu7 ⟨_, hb5.ext hx6⟩) hx7 (by omega) ?_
  intro w8 hS6 hu8 hv8 hx8
  exact next _ _ w8 (by omega) (Nat.le_refl _) (by omega) hx8 (hS5.upd hu8 (by omega)) hS6 (CanO.upd hu7c hu8 ⟨_, hb6'⟩) hv8 (hx.trans hx8)

set_option maxRecDepth 8000 in
set_option maxHeartbeats 400000 in
theorem lawDivides (w : World) (v : Value) (na : Bool) (xs : List Nat) (h : Den w v na xs) (u : Value) (nb : Bool) (ys : List Nat) (k : Den w u nb ys) : Calls Try.prog 6 #[v, u] w (Ret fun r w' => Ext w w' ∧ r = .bool true) := by
  have hD := h
  have kD := k
  obtain ⟨p, cap, rfl, hs⟩ := h
  obtain ⟨q, cb, rfl, ks⟩ := k
  refine calls_of_St (args := [_, _]) Try.func6 rfl Try.ntmps6 rfl ?_
  (repeat with_reducible first|refine .nil ?_|refine .then_normal ?_|refine .block_normal ?_|refine .seq ?_|refine .block ?_|refine .skip ?_|refine .region ?_|refine .ret ?_|refine .then_ret ?_|refine .block_ret ?_|refine .exit ?_|refine .then_exit ?_|refine .block_exit ?_|refine .block_other rfl ?_)
  refine StL.step rfl rfl rfl (OpR.box rfl) ?_
  rintro _ w1 ⟨rfl, hb1, hx1, hz1⟩
  refine StL.step rfl rfl rfl (OpR.box rfl) ?_
  rintro _ w2 ⟨rfl, hb2, hx2, hz2⟩
  (iterate 6 ((repeat with_reducible first|refine .nil ?_|refine .then_normal ?_|refine .block_normal ?_|refine .seq ?_|refine .block ?_|refine .skip ?_|refine .region ?_|refine .ret ?_|refine .then_ret ?_|refine .block_ret ?_|refine .exit ?_|refine .then_exit ?_|refine .block_exit ?_|refine .block_other rfl ?_); try refine .run TBok 99 rfl ?_))
  (refine StL.step rfl rfl rfl (RunsTo.loadInt rfl (by first | assumption | exact Ext.refl _ | (apply Blk.ext; assumption; (repeat first | assumption | refine Ext.trans ?_ (by assumption))) | (apply CanO.ext; assumption; (repeat first | assumption | refine Ext.trans ?_ (by assumption))) | (apply Den.ext; assumption; (repeat first | assumption | refine Ext.trans ?_ (by assumption))) | (apply Sl.ext; assumption; (repeat first | assumption | refine Ext.trans ?_ (by assumption))) | (apply SlO.ext; assumption; (repeat first | assumption | refine Ext.trans ?_ (by assumption))) | (apply Dn.ext; assumption; (repeat first | assumption | refine Ext.trans ?_ (by assumption))) | (apply It.ext; assumption; (repeat first | assumption | refine Ext.trans ?_ (by assumption))) | (repeat first | assumption | refine Ext.trans ?_ (by assumption))) (by first | rfl | assumption) (by first | rfl | assumption)).op ?_; rintro _ _ ⟨rfl, rfl⟩)
  refine StL.step rfl rfl rfl (OpR.call fn_w01_long rfl (long_spec w2 _ na xs (by first | assumption | exact Ext.refl _ | (apply Blk.ext; assumption; (repeat first | assumption | refine Ext.trans ?_ (by assumption))) | (apply CanO.ext; assumption; (repeat first | assumption | refine Ext.trans ?_ (by assumption))) | (apply Den.ext; assumption; (repeat first | assumption | refine Ext.trans ?_ (by assumption))) | (apply Sl.ext; assumption; (repeat first | assumption | refine Ext.trans ?_ (by assumption))) | (apply SlO.ext; assumption; (repeat first | assumption | refine Ext.trans ?_ (by assumption))) | (apply Dn.ext; assumption; (repeat first | assumption | refine Ext.trans ?_ (by assumption))) | (apply It.ext; assumption; (repeat first | assumption | refine Ext.trans ?_ (by assumption))) | (repeat first | assumption | refine Ext.trans ?_ (by assumption))))) ?_
  rintro _ w3 ⟨hx3, rfl⟩
  by_cases hlim0 : 40 < xs.length
  · rw [decide_eq_true hlim0]
    (iterate 6 ((repeat with_reducible first|refine .nil ?_|refine .then_normal ?_|refine .block_normal ?_|refine .seq ?_|refine .block ?_|refine .skip ?_|refine .region ?_|refine .ret ?_|refine .then_ret ?_|refine .block_ret ?_|refine .exit ?_|refine .then_exit ?_|refine .block_exit ?_|refine .block_other rfl ?_); try refine .run TBok 99 rfl ?_))
    refine St.condT rfl rfl ?_
    ((repeat with_reducible first|refine .nil ?_|refine .then_normal ?_|refine .block_normal ?_|refine .seq ?_|refine .block ?_|refine .skip ?_|refine .region ?_|refine .ret ?_|refine .then_ret ?_|refine .block_ret ?_|refine .exit ?_|refine .then_exit ?_|refine .block_exit ?_|refine .block_other rfl ?_); refine StL.awake rfl rfl ?_; intro wz hxz; (iterate 6 ((repeat with_reducible first|refine .nil ?_|refine .then_normal ?_|refine .block_normal ?_|refine .seq ?_|refine .block ?_|refine .skip ?_|refine .region ?_|refine .ret ?_|refine .then_ret ?_|refine .block_ret ?_|refine .exit ?_|refine .then_exit ?_|refine .block_exit ?_|refine .block_other rfl ?_); try refine .run TBok 99 rfl ?_)); exact Out.ret1 rfl rfl ⟨(by first | assumption | exact Ext.refl _ | (apply Blk.ext; assumption; (repeat first | assumption | refine Ext.trans ?_ (by assumption))) | (apply CanO.ext; assumption; (repeat first | assumption | refine Ext.trans ?_ (by assumption))) | (apply Den.ext; assumption; (repeat first | assumption | refine Ext.trans ?_ (by assumption))) | (apply Sl.ext; assumption; (repeat first | assumption | refine Ext.trans ?_ (by assumption))) | (apply SlO.ext; assumption; (repeat first | assumption | refine Ext.trans ?_ (by assumption))) | (apply Dn.ext; assumption; (repeat first | assumption | refine Ext.trans ?_ (by assumption))) | (apply It.ext; assumption; (repeat first | assumption | refine Ext.trans ?_ (by assumption))) | (repeat first | assumption | refine Ext.trans ?_ (by assumption))), rfl⟩)
  rw [decide_eq_false hlim0]
  refine .run TBok 99 rfl ?_
  (refine StL.step rfl rfl rfl (RunsTo.loadInt rfl (by first | assumption | exact Ext.refl _ | (apply Blk.ext; assumption; (repeat first | assumption | refine Ext.trans ?_ (by assumption))) | (apply CanO.ext; assumption; (repeat first | assumption | refine Ext.trans ?_ (by assumption))) | (apply Den.ext; assumption; (repeat first | assumption | refine Ext.trans ?_ (by assumption))) | (apply Sl.ext; assumption; (repeat first | assumption | refine Ext.trans ?_ (by assumption))) | (apply SlO.ext; assumption; (repeat first | assumption | refine Ext.trans ?_ (by assumption))) | (apply Dn.ext; assumption; (repeat first | assumption | refine Ext.trans ?_ (by assumption))) | (apply It.ext; assumption; (repeat first | assumption | refine Ext.trans ?_ (by assumption))) | (repeat first | assumption | refine Ext.trans ?_ (by assumption))) (by first | rfl | assumption) (by first | rfl | assumption)).op ?_; rintro _ _ ⟨rfl, rfl⟩)
  refine StL.step rfl rfl rfl (OpR.call fn_w01_long rfl (long_spec w3 _ nb ys (by first | assumption | exact Ext.refl _ | (apply Blk.ext; assumption; (repeat first | assumption | refine Ext.trans ?_ (by assumption))) | (apply CanO.ext; assumption; (repeat first | assumption | refine Ext.trans ?_ (by assumption))) | (apply Den.ext; assumption; (repeat first | assumption | refine Ext.trans ?_ (by assumption))) | (apply Sl.ext; assumption; (repeat first | assumption | refine Ext.trans ?_ (by assumption))) | (apply SlO.ext; assumption; (repeat first | assumption | refine Ext.trans ?_ (by assumption))) | (apply Dn.ext; assumption; (repeat first | assumption | refine Ext.trans ?_ (by assumption))) | (apply It.ext; assumption; (repeat first | assumption | refine Ext.trans ?_ (by assumption))) | (repeat first | assumption | refine Ext.trans ?_ (by assumption))))) ?_
  rintro _ w4 ⟨hx4, rfl⟩
  by_cases hlim1 : 40 < ys.length
  · rw [decide_eq_true hlim1]
    (iterate 6 ((repeat with_reducible first|refine .nil ?_|refine .then_normal ?_|refine .block_normal ?_|refine .seq ?_|refine .block ?_|refine .skip ?_|refine .region ?_|refine .ret ?_|refine .then_ret ?_|refine .block_ret ?_|refine .exit ?_|refine .then_exit ?_|refine .block_exit ?_|refine .block_other rfl ?_); try refine .run TBok 99 rfl ?_))
    refine St.condT rfl rfl ?_
    ((repeat with_reducible first|refine .nil ?_|refine .then_normal ?_|refine .block_normal ?_|refine .seq ?_|refine .block ?_|refine .skip ?_|refine .region ?_|refine .ret ?_|refine .then_ret ?_|refine .block_ret ?_|refine .exit ?_|refine .then_exit ?_|refine .block_exit ?_|refine .block_other rfl ?_); refine StL.awake rfl rfl ?_; intro wz hxz; (iterate 6 ((repeat with_reducible first|refine .nil ?_|refine .then_normal ?_|refine .block_normal ?_|refine .seq ?_|refine .block ?_|refine .skip ?_|refine .region ?_|refine .ret ?_|refine .then_ret ?_|refine .block_ret ?_|refine .exit ?_|refine .then_exit ?_|refine .block_exit ?_|refine .block_other rfl ?_); try refine .run TBok 99 rfl ?_)); exact Out.ret1 rfl rfl ⟨(by first | assumption | exact Ext.refl _ | (apply Blk.ext; assumption; (repeat first | assumption | refine Ext.trans ?_ (by assumption))) | (apply CanO.ext; assumption; (repeat first | assumption | refine Ext.trans ?_ (by assumption))) | (apply Den.ext; assumption; (repeat first | assumption | refine Ext.trans ?_ (by assumption))) | (apply Sl.ext; assumption; (repeat first | assumption | refine Ext.trans ?_ (by assumption))) | (apply SlO.ext; assumption; (repeat first | assumption | refine Ext.trans ?_ (by assumption))) | (apply Dn.ext; assumption; (repeat first | assumption | refine Ext.trans ?_ (by assumption))) | (apply It.ext; assumption; (repeat first | assumption | refine Ext.trans ?_ (by assumption))) | (repeat first | assumption | refine Ext.trans ?_ (by assumption))), rfl⟩)
  rw [decide_eq_false hlim1]
  (iterate 6 ((repeat with_reducible first|refine .nil ?_|refine .then_normal ?_|refine .block_normal ?_|refine .seq ?_|refine .block ?_|refine .skip ?_|refine .region ?_|refine .ret ?_|refine .then_ret ?_|refine .block_ret ?_|refine .exit ?_|refine .then_exit ?_|refine .block_exit ?_|refine .block_other rfl ?_); try refine .run TBok 99 rfl ?_))
  refine St.condF rfl rfl ?_
  have hx0 : Ext w w4 := (by first | assumption | exact Ext.refl _ | (apply Blk.ext; assumption; (repeat first | assumption | refine Ext.trans ?_ (by assumption))) | (apply CanO.ext; assumption; (repeat first | assumption | refine Ext.trans ?_ (by assumption))) | (apply Den.ext; assumption; (repeat first | assumption | refine Ext.trans ?_ (by assumption))) | (apply Sl.ext; assumption; (repeat first | assumption | refine Ext.trans ?_ (by assumption))) | (apply SlO.ext; assumption; (repeat first | assumption | refine Ext.trans ?_ (by assumption))) | (apply Dn.ext; assumption; (repeat first | assumption | refine Ext.trans ?_ (by assumption))) | (apply It.ext; assumption; (repeat first | assumption | refine Ext.trans ?_ (by assumption))) | (repeat first | assumption | refine Ext.trans ?_ (by assumption)))
  have ha : Dn w4 _ (sg na (val xs)) := (hD.ext hx0).dn (by omega)
  have hDa : Den w4 _ na xs := hD.ext hx0
  have hsa := sz_den hD
  have hB1 : Blk 24 w4 w.heap.size _ := (((hb1.ext hx2).ext hx3).ext hx4)
  have hb : Dn w4 _ (sg nb (val ys)) := (kD.ext hx0).dn (by omega)
  have hDb : Den w4 _ nb ys := kD.ext hx0
  have hsb := sz_den kD
  have hB2 : Blk 24 w4 w1.heap.size _ := ((hb2.ext hx3).ext hx4)
  clear hb1 hb2 hx1 hx2 hx3 hx4 hz1 hz2
  generalize sg na (val xs) = a at *
  generalize sg nb (val ys) = b at *
  have s1 := sz_quo0 a b
  have s2 := sz_rem0 a b
  (repeat with_reducible first|refine .nil ?_|refine .then_normal ?_|refine .block_normal ?_|refine .seq ?_|refine .block ?_|refine .skip ?_|refine .region ?_|refine .ret ?_|refine .then_ret ?_|refine .block_ret ?_|refine .exit ?_|refine .then_exit ?_|refine .block_exit ?_|refine .block_other rfl ?_)
  refine StL.step rfl rfl rfl (RunsTo.loadInt rfl hB1 rfl rfl).op ?_
  rintro _ _ ⟨rfl, rfl⟩
  refine StL.step rfl rfl rfl (RunsTo.loadInt rfl hB2 rfl rfl).op ?_
  rintro _ _ ⟨rfl, rfl⟩
  refine StL.step rfl rfl rfl (OpR.call fn_integer_DivMod rfl (divMod_dn (base := 0) ha hb (Nat.zero_le _))) ?_
  rintro _ w5 ⟨hx5, hd⟩
  obtain ⟨q1, m1, rfl, hq1, hm1⟩ := hd.open
  replace hB1 := hB1.ext hx5
  replace hB2 := hB2.ext hx5
  replace ha := ha.ext hx5
  replace hb := hb.ext hx5
  replace hx0 := hx0.trans hx5
  clear hx5
  refine .run TBok 99 rfl ?_
  refine StL.setTwo rfl rfl rfl (fun _ _ => rfl) (fun _ _ => rfl) hq1 hm1 hx0 ?_
  intro b5 b6 w6 hne56 hg5 hg6 hx6 hS5 hS6 hq5 hm6 hx06
  replace hB1 := hB1.ext hx6
  replace hB2 := hB2.ext hx6
  replace ha := ha.ext hx6
  replace hb := hb.ext hx6
  clear hx6
  clear hx0 hq1 hm1
  (iterate 6 ((repeat with_reducible first|refine .nil ?_|refine .then_normal ?_|refine .block_normal ?_|refine .seq ?_|refine .block ?_|refine .skip ?_|refine .region ?_|refine .ret ?_|refine .then_ret ?_|refine .block_ret ?_|refine .exit ?_|refine .then_exit ?_|refine .block_exit ?_|refine .block_other rfl ?_); try refine .run TBok 99 rfl ?_))
  refine StL.step rfl rfl rfl (RunsTo.loadInt rfl hB1 rfl rfl).op ?_
  rintro _ _ ⟨rfl, rfl⟩
  refine StL.step rfl rfl rfl (RunsTo.loadInt rfl hB2 rfl rfl).op ?_
  rintro _ _ ⟨rfl, rfl⟩
  refine StL.step rfl rfl rfl (OpR.call fn_r01_DivMod rfl (rdivMod_dn ha hb)) ?_
  rintro _ w7 ⟨hx7, hd⟩
  obtain ⟨q2, m2, rfl, hq2, hm2⟩ := hd.open
  replace hS5 := hS5.ext hx7
  replace hS6 := hS6.ext hx7
  replace hq5 := hq5.ext hx7
  replace hm6 := hm6.ext hx7
  replace hx06 := hx06.trans hx7
  clear hx7
  refine .run TBok 99 rfl ?_
  refine StL.setTwo rfl rfl rfl (fun _ _ => rfl) (fun _ _ => rfl) hq2 hm2 hx06 ?_
  intro b8 b9 w8 hne89 hg8 hg9 hx8 hS8 hS9 hq8 hm9 hx08
  replace hS5 := hS5.ext hx8
  replace hS6 := hS6.ext hx8
  replace hq5 := hq5.ext hx8
  replace hm6 := hm6.ext hx8
  clear hx8
  refine .run TBok 99 rfl ?_
  (repeat with_reducible first|refine .nil ?_|refine .then_normal ?_|refine .block_normal ?_|refine .seq ?_|refine .block ?_|refine .skip ?_|refine .region ?_|refine .ret ?_|refine .then_ret ?_|refine .block_ret ?_|refine .exit ?_|refine .then_exit ?_|refine .block_exit ?_|refine .block_other rfl ?_)
  refine StL.step rfl rfl rfl (RunsTo.loadCan rfl hS5 hq5).op ?_
  rintro _ _ ⟨rfl, rfl⟩
  refine StL.step rfl rfl rfl (RunsTo.loadCan rfl hS8 hq8).op ?_
  rintro _ _ ⟨rfl, rfl⟩
  refine StL.step rfl rfl rfl (OpR.call fn_r01_Same rfl (same_true hq5 hq8 (by omega))) ?_
  rintro _ w9 ⟨hx9, rfl⟩
  replace hS6 := hS6.ext hx9
  replace hm6 := hm6.ext hx9
  replace hS9 := hS9.ext hx9
  replace hm9 := hm9.ext hx9
  replace hx08 := hx08.trans hx9
  clear hx9
  refine .run TBok 99 rfl ?_
  refine StL.step rfl rfl rfl (RunsTo.loadCan rfl hS6 hm6).op ?_
  rintro _ _ ⟨rfl, rfl⟩
  refine StL.step rfl rfl rfl (RunsTo.loadCan rfl hS9 hm9).op ?_
  rintro _ _ ⟨rfl, rfl⟩
  refine StL.step rfl rfl rfl (OpR.call fn_r01_Same rfl (same_true hm6 hm9 (by omega))) ?_
  rintro _ w10 ⟨hx10, rfl⟩
  refine .run TBok 99 rfl ?_
  refine StL.step rfl rfl rfl (RunsTo.boolEq TBok rfl rfl rfl).op ?_
  rintro _ _ ⟨rfl, rfl⟩
  rw [show (decide (b ≠ 0) == decide (b ≠ 0)) = true from by simp]
  refine .run TBok 99 rfl ?_
  refine StL.awake rfl rfl ?_
  intro w11 hx11
  (iterate 6 ((repeat with_reducible first|refine .nil ?_|refine .then_normal ?_|refine .block_normal ?_|refine .seq ?_|refine .block ?_|refine .skip ?_|refine .region ?_|refine .ret ?_|refine .then_ret ?_|refine .block_ret ?_|refine .exit ?_|refine .then_exit ?_|refine .block_exit ?_|refine .block_other rfl ?_); try refine .run TBok 99 rfl ?_))
  exact Out.ret1 rfl rfl ⟨(hx08.trans hx10).trans hx11, rfl⟩

set_option maxRecDepth 8000 in
set_option maxHeartbeats 400000 in
theorem lawGcds (w : World) (v : Value) (na : Bool) (xs : List Nat) (h : Den w v na xs) (u : Value) (nb : Bool) (ys : List Nat) (k : Den w u nb ys) : Calls Try.prog 13 #[v, u] w (Ret fun r w' => Ext w w' ∧ r = .bool true) := by
  have hD := h
  have kD := k
  obtain ⟨p, cap, rfl, hs⟩ := h
  obtain ⟨q, cb, rfl, ks⟩ := k
  refine calls_of_St (args := [_, _]) Try.func13 rfl Try.ntmps13 rfl ?_
  (repeat with_reducible first|refine .nil ?_|refine .then_normal ?_|refine .block_normal ?_|refine .seq ?_|refine .block ?_|refine .skip ?_|refine .region ?_|refine .ret ?_|refine .then_ret ?_|refine .block_ret ?_|refine .exit ?_|refine .then_exit ?_|refine .block_exit ?_|refine .block_other rfl ?_)
  refine StL.step rfl rfl rfl (OpR.box rfl) ?_
  rintro _ w1 ⟨rfl, hb1, hx1, hz1⟩
  refine StL.step rfl rfl rfl (OpR.box rfl) ?_
  rintro _ w2 ⟨rfl, hb2, hx2, hz2⟩
  (iterate 6 ((repeat with_reducible first|refine .nil ?_|refine .then_normal ?_|refine .block_normal ?_|refine .seq ?_|refine .block ?_|refine .skip ?_|refine .region ?_|refine .ret ?_|refine .then_ret ?_|refine .block_ret ?_|refine .exit ?_|refine .then_exit ?_|refine .block_exit ?_|refine .block_other rfl ?_); try refine .run TBok 99 rfl ?_))
  (refine StL.step rfl rfl rfl (RunsTo.load TBok rfl rfl rfl (Blk.cell (by first | assumption | exact Ext.refl _ | (apply Blk.ext; assumption; (repeat first | assumption | refine Ext.trans ?_ (by assumption))) | (apply CanO.ext; assumption; (repeat first | assumption | refine Ext.trans ?_ (by assumption))) | (apply Den.ext; assumption; (repeat first | assumption | refine Ext.trans ?_ (by assumption))) | (apply Sl.ext; assumption; (repeat first | assumption | refine Ext.trans ?_ (by assumption))) | (apply SlO.ext; assumption; (repeat first | assumption | refine Ext.trans ?_ (by assumption))) | (apply Dn.ext; assumption; (repeat first | assumption | refine Ext.trans ?_ (by assumption))) | (apply It.ext; assumption; (repeat first | assumption | refine Ext.trans ?_ (by assumption))) | (repeat first | assumption | refine Ext.trans ?_ (by assumption))) rfl)).op ?_; rintro _ _ ⟨rfl, rfl⟩)
  by_cases hlim0 : 12 < xs.length
  · refine StL.as TBok 2 (.bool true) rfl (bool_true (by omega)) ?_
    (iterate 6 ((repeat with_reducible first|refine .nil ?_|refine .then_normal ?_|refine .block_normal ?_|refine .seq ?_|refine .block ?_|refine .skip ?_|refine .region ?_|refine .ret ?_|refine .then_ret ?_|refine .block_ret ?_|refine .exit ?_|refine .then_exit ?_|refine .block_exit ?_|refine .block_other rfl ?_); try refine .run TBok 99 rfl ?_))
    refine St.condT rfl rfl ?_
    ((repeat with_reducible first|refine .nil ?_|refine .then_normal ?_|refine .block_normal ?_|refine .seq ?_|refine .block ?_|refine .skip ?_|refine .region ?_|refine .ret ?_|refine .then_ret ?_|refine .block_ret ?_|refine .exit ?_|refine .then_exit ?_|refine .block_exit ?_|refine .block_other rfl ?_); refine StL.awake rfl rfl ?_; intro wz hxz; (iterate 6 ((repeat with_reducible first|refine .nil ?_|refine .then_normal ?_|refine .block_normal ?_|refine .seq ?_|refine .block ?_|refine .skip ?_|refine .region ?_|refine .ret ?_|refine .then_ret ?_|refine .block_ret ?_|refine .exit ?_|refine .then_exit ?_|refine .block_exit ?_|refine .block_other rfl ?_); try refine .run TBok 99 rfl ?_)); exact Out.ret1 rfl rfl ⟨(by first | assumption | exact Ext.refl _ | (apply Blk.ext; assumption; (repeat first | assumption | refine Ext.trans ?_ (by assumption))) | (apply CanO.ext; assumption; (repeat first | assumption | refine Ext.trans ?_ (by assumption))) | (apply Den.ext; assumption; (repeat first | assumption | refine Ext.trans ?_ (by assumption))) | (apply Sl.ext; assumption; (repeat first | assumption | refine Ext.trans ?_ (by assumption))) | (apply SlO.ext; assumption; (repeat first | assumption | refine Ext.trans ?_ (by assumption))) | (apply Dn.ext; assumption; (repeat first | assumption | refine Ext.trans ?_ (by assumption))) | (apply It.ext; assumption; (repeat first | assumption | refine Ext.trans ?_ (by assumption))) | (repeat first | assumption | refine Ext.trans ?_ (by assumption))), rfl⟩)
  refine StL.as TBok 2 (.bool false) rfl (bool_false (by omega)) ?_
  refine .run TBok 99 rfl ?_
  (refine StL.step rfl rfl rfl (RunsTo.load TBok rfl rfl rfl (Blk.cell (by first | assumption | exact Ext.refl _ | (apply Blk.ext; assumption; (repeat first | assumption | refine Ext.trans ?_ (by assumption))) | (apply CanO.ext; assumption; (repeat first | assumption | refine Ext.trans ?_ (by assumption))) | (apply Den.ext; assumption; (repeat first | assumption | refine Ext.trans ?_ (by assumption))) | (apply Sl.ext; assumption; (repeat first | assumption | refine Ext.trans ?_ (by assumption))) | (apply SlO.ext; assumption; (repeat first | assumption | refine Ext.trans ?_ (by assumption))) | (apply Dn.ext; assumption; (repeat first | assumption | refine Ext.trans ?_ (by assumption))) | (apply It.ext; assumption; (repeat first | assumption | refine Ext.trans ?_ (by assumption))) | (repeat first | assumption | refine Ext.trans ?_ (by assumption))) rfl)).op ?_; rintro _ _ ⟨rfl, rfl⟩)
  by_cases hlim1 : 12 < ys.length
  · refine StL.as TBok 2 (.bool true) rfl (bool_true (by omega)) ?_
    (iterate 6 ((repeat with_reducible first|refine .nil ?_|refine .then_normal ?_|refine .block_normal ?_|refine .seq ?_|refine .block ?_|refine .skip ?_|refine .region ?_|refine .ret ?_|refine .then_ret ?_|refine .block_ret ?_|refine .exit ?_|refine .then_exit ?_|refine .block_exit ?_|refine .block_other rfl ?_); try refine .run TBok 99 rfl ?_))
    refine St.condT rfl rfl ?_
    ((repeat with_reducible first|refine .nil ?_|refine .then_normal ?_|refine .block_normal ?_|refine .seq ?_|refine .block ?_|refine .skip ?_|refine .region ?_|refine .ret ?_|refine .then_ret ?_|refine .block_ret ?_|refine .exit ?_|refine .then_exit ?_|refine .block_exit ?_|refine .block_other rfl ?_); refine StL.awake rfl rfl ?_; intro wz hxz; (iterate 6 ((repeat with_reducible first|refine .nil ?_|refine .then_normal ?_|refine .block_normal ?_|refine .seq ?_|refine .block ?_|refine .skip ?_|refine .region ?_|refine .ret ?_|refine .then_ret ?_|refine .block_ret ?_|refine .exit ?_|refine .then_exit ?_|refine .block_exit ?_|refine .block_other rfl ?_); try refine .run TBok 99 rfl ?_)); exact Out.ret1 rfl rfl ⟨(by first | assumption | exact Ext.refl _ | (apply Blk.ext; assumption; (repeat first | assumption | refine Ext.trans ?_ (by assumption))) | (apply CanO.ext; assumption; (repeat first | assumption | refine Ext.trans ?_ (by assumption))) | (apply Den.ext; assumption; (repeat first | assumption | refine Ext.trans ?_ (by assumption))) | (apply Sl.ext; assumption; (repeat first | assumption | refine Ext.trans ?_ (by assumption))) | (apply SlO.ext; assumption; (repeat first | assumption | refine Ext.trans ?_ (by assumption))) | (apply Dn.ext; assumption; (repeat first | assumption | refine Ext.trans ?_ (by assumption))) | (apply It.ext; assumption; (repeat first | assumption | refine Ext.trans ?_ (by assumption))) | (repeat first | assumption | refine Ext.trans ?_ (by assumption))), rfl⟩)
  refine StL.as TBok 2 (.bool false) rfl (bool_false (by omega)) ?_
  (iterate 6 ((repeat with_reducible first|refine .nil ?_|refine .then_normal ?_|refine .block_normal ?_|refine .seq ?_|refine .block ?_|refine .skip ?_|refine .region ?_|refine .ret ?_|refine .then_ret ?_|refine .block_ret ?_|refine .exit ?_|refine .then_exit ?_|refine .block_exit ?_|refine .block_other rfl ?_); try refine .run TBok 99 rfl ?_))
  refine St.condF rfl rfl ?_
  have hx0 : Ext w w2 := (by first | assumption | exact Ext.refl _ | (apply Blk.ext; assumption; (repeat first | assumption | refine Ext.trans ?_ (by assumption))) | (apply CanO.ext; assumption; (repeat first | assumption | refine Ext.trans ?_ (by assumption))) | (apply Den.ext; assumption; (repeat first | assumption | refine Ext.trans ?_ (by assumption))) | (apply Sl.ext; assumption; (repeat first | assumption | refine Ext.trans ?_ (by assumption))) | (apply SlO.ext; assumption; (repeat first | assumption | refine Ext.trans ?_ (by assumption))) | (apply Dn.ext; assumption; (repeat first | assumption | refine Ext.trans ?_ (by assumption))) | (apply It.ext; assumption; (repeat first | assumption | refine Ext.trans ?_ (by assumption))) | (repeat first | assumption | refine Ext.trans ?_ (by assumption)))
  have ha : Dn w2 _ (sg na (val xs)) := (hD.ext hx0).dn (by omega)
  have hDa : Den w2 _ na xs := hD.ext hx0
  have hsa := sz_den hD
  have hB1 : Blk 24 w2 w.heap.size _ := (hb1.ext hx2)
  have hb : Dn w2 _ (sg nb (val ys)) := (kD.ext hx0).dn (by omega)
  have hDb : Den w2 _ nb ys := kD.ext hx0
  have hsb := sz_den kD
  have hB2 : Blk 24 w2 w1.heap.size _ := hb2
  clear hb1 hb2 hx1 hx2 hz1 hz2
  generalize sg na (val xs) = a at *
  generalize sg nb (val ys) = b at *
  have s1 := sz_gcd a b
  (repeat with_reducible first|refine .nil ?_|refine .then_normal ?_|refine .block_normal ?_|refine .seq ?_|refine .block ?_|refine .skip ?_|refine .region ?_|refine .ret ?_|refine .then_ret ?_|refine .block_ret ?_|refine .exit ?_|refine .then_exit ?_|refine .block_exit ?_|refine .block_other rfl ?_)
  refine St.sub (E' := [(2, .pointer (some ⟨w.heap.size, 0, none⟩)), (3, .pointer (some ⟨w1.heap.size, 0, none⟩))]) ?_ ⟨rfl, rfl, trivial⟩
  refine St.flow 10 TBfol (by kernel_rfl) rfl (by kernel_rfl) rfl True.intro ?_
  refine FL.run TBok 99 rfl ?_
  refine FL.loadAgg (L := []) TBok rfl rfl rfl rfl rfl rfl (by first | assumption | exact Ext.refl _ | (apply Blk.ext; assumption; (repeat first | assumption | refine Ext.trans ?_ (by assumption))) | (apply CanO.ext; assumption; (repeat first | assumption | refine Ext.trans ?_ (by assumption))) | (apply Den.ext; assumption; (repeat first | assumption | refine Ext.trans ?_ (by assumption))) | (apply Sl.ext; assumption; (repeat first | assumption | refine Ext.trans ?_ (by assumption))) | (apply SlO.ext; assumption; (repeat first | assumption | refine Ext.trans ?_ (by assumption))) | (apply Dn.ext; assumption; (repeat first | assumption | refine Ext.trans ?_ (by assumption))) | (apply It.ext; assumption; (repeat first | assumption | refine Ext.trans ?_ (by assumption))) | (repeat first | assumption | refine Ext.trans ?_ (by assumption))) (by simp) (Nat.le_refl _) rfl ?_
  refine FL.loadAgg (L := []) TBok rfl rfl rfl rfl rfl rfl (by first | assumption | exact Ext.refl _ | (apply Blk.ext; assumption; (repeat first | assumption | refine Ext.trans ?_ (by assumption))) | (apply CanO.ext; assumption; (repeat first | assumption | refine Ext.trans ?_ (by assumption))) | (apply Den.ext; assumption; (repeat first | assumption | refine Ext.trans ?_ (by assumption))) | (apply Sl.ext; assumption; (repeat first | assumption | refine Ext.trans ?_ (by assumption))) | (apply SlO.ext; assumption; (repeat first | assumption | refine Ext.trans ?_ (by assumption))) | (apply Dn.ext; assumption; (repeat first | assumption | refine Ext.trans ?_ (by assumption))) | (apply It.ext; assumption; (repeat first | assumption | refine Ext.trans ?_ (by assumption))) | (repeat first | assumption | refine Ext.trans ?_ (by assumption))) (by simp) (Nat.le_refl _) rfl ?_
  refine FL.callE fn_integer_Gcd rfl rfl rfl (fun w5 hx5 => CallF.mk rfl (gcd_dn (ha.ext hx5) (hb.ext hx5))) (MonoR.canO 0 _) ?_
  refine FL.loadAgg (L := []) TBok rfl rfl rfl rfl rfl rfl (by first | assumption | exact Ext.refl _ | (apply Blk.ext; assumption; (repeat first | assumption | refine Ext.trans ?_ (by assumption))) | (apply CanO.ext; assumption; (repeat first | assumption | refine Ext.trans ?_ (by assumption))) | (apply Den.ext; assumption; (repeat first | assumption | refine Ext.trans ?_ (by assumption))) | (apply Sl.ext; assumption; (repeat first | assumption | refine Ext.trans ?_ (by assumption))) | (apply SlO.ext; assumption; (repeat first | assumption | refine Ext.trans ?_ (by assumption))) | (apply Dn.ext; assumption; (repeat first | assumption | refine Ext.trans ?_ (by assumption))) | (apply It.ext; assumption; (repeat first | assumption | refine Ext.trans ?_ (by assumption))) | (repeat first | assumption | refine Ext.trans ?_ (by assumption))) (by simp) (Nat.le_refl _) rfl ?_
  refine FL.loadAgg (L := []) TBok rfl rfl rfl rfl rfl rfl (by first | assumption | exact Ext.refl _ | (apply Blk.ext; assumption; (repeat first | assumption | refine Ext.trans ?_ (by assumption))) | (apply CanO.ext; assumption; (repeat first | assumption | refine Ext.trans ?_ (by assumption))) | (apply Den.ext; assumption; (repeat first | assumption | refine Ext.trans ?_ (by assumption))) | (apply Sl.ext; assumption; (repeat first | assumption | refine Ext.trans ?_ (by assumption))) | (apply SlO.ext; assumption; (repeat first | assumption | refine Ext.trans ?_ (by assumption))) | (apply Dn.ext; assumption; (repeat first | assumption | refine Ext.trans ?_ (by assumption))) | (apply It.ext; assumption; (repeat first | assumption | refine Ext.trans ?_ (by assumption))) | (repeat first | assumption | refine Ext.trans ?_ (by assumption))) (by simp) (Nat.le_refl _) rfl ?_
  refine FL.callE fn_r01_Gcd rfl rfl rfl (fun w5 hx5 => CallF.mk rfl (rgcd_dn (ha.ext hx5) (hb.ext hx5))) (MonoR.canO 0 _) ?_
  refine FL.callXE fn_r01_Same rfl rfl rfl (fun w5 hx5 v14 h14 v17 h17 => CallF.mk rfl (same_true h14 h17 (by omega))) ?_
  refine FL.run TBok 99 rfl ?_
  refine FL.callXE fn_w01_awake rfl rfl rfl (fun w5 hx5 => CallF.mk rfl (awake_spec w5)) ?_
  refine FL.run TBok 99 rfl ?_
  refine FL.endE rfl ?_
  intro w5 hx5 _ _ _ _ _ _
  (iterate 6 ((repeat with_reducible first|refine .nil ?_|refine .then_normal ?_|refine .block_normal ?_|refine .seq ?_|refine .block ?_|refine .skip ?_|refine .region ?_|refine .ret ?_|refine .then_ret ?_|refine .block_ret ?_|refine .exit ?_|refine .then_exit ?_|refine .block_exit ?_|refine .block_other rfl ?_); try refine .run TBok 99 rfl ?_))
  exact Out.ret1 rfl rfl ⟨hx0.trans hx5, rfl⟩

theorem divides_true {w : World} {x y : Value} {a b : Int} (h : Dn w x a) (k : Dn w y b) (hd : a ∣ b) : Calls Try.prog 51 #[x, y] w (Ret fun r w' => Ext w w' ∧ r = .bool true) := by
  have := rdivides_dn h k
  rwa [decide_eq_true hd] at this

set_option maxRecDepth 8000 in
set_option maxHeartbeats 400000 in
theorem lawCommon (w : World) (v : Value) (na : Bool) (xs : List Nat) (h : Den w v na xs) (u : Value) (nb : Bool) (ys : List Nat) (k : Den w u nb ys) (t : Value) (nc : Bool) (zs : List Nat) (j : Den w t nc zs) : Calls Try.prog 14 #[v, u, t] w (Ret fun r w' => Ext w w' ∧ r = .bool true) := by
  have hD := h
  have kD := k
  have jD := j
  obtain ⟨p, cap, rfl, hs⟩ := h
  obtain ⟨q, cb, rfl, ks⟩ := k
  obtain ⟨o, cc, rfl, js⟩ := j
  refine calls_of_St (args := [_, _, _]) Try.func14 rfl Try.ntmps14 rfl ?_
  (repeat with_reducible first|refine .nil ?_|refine .then_normal ?_|refine .block_normal ?_|refine .seq ?_|refine .block ?_|refine .skip ?_|refine .region ?_|refine .ret ?_|refine .then_ret ?_|refine .block_ret ?_|refine .exit ?_|refine .then_exit ?_|refine .block_exit ?_|refine .block_other rfl ?_)
  refine StL.step rfl rfl rfl (OpR.box rfl) ?_
  rintro _ w1 ⟨rfl, hb1, hx1, hz1⟩
  refine StL.step rfl rfl rfl (OpR.box rfl) ?_
  rintro _ w2 ⟨rfl, hb2, hx2, hz2⟩
  refine StL.step rfl rfl rfl (OpR.box rfl) ?_
  rintro _ w3 ⟨rfl, hb3, hx3, hz3⟩
  (iterate 6 ((repeat with_reducible first|refine .nil ?_|refine .then_normal ?_|refine .block_normal ?_|refine .seq ?_|refine .block ?_|refine .skip ?_|refine .region ?_|refine .ret ?_|refine .then_ret ?_|refine .block_ret ?_|refine .exit ?_|refine .then_exit ?_|refine .block_exit ?_|refine .block_other rfl ?_); try refine .run TBok 99 rfl ?_))
  (refine StL.step rfl rfl rfl (RunsTo.load TBok rfl rfl rfl (Blk.cell (by first | assumption | exact Ext.refl _ | (apply Blk.ext; assumption; (repeat first | assumption | refine Ext.trans ?_ (by assumption))) | (apply CanO.ext; assumption; (repeat first | assumption | refine Ext.trans ?_ (by assumption))) | (apply Den.ext; assumption; (repeat first | assumption | refine Ext.trans ?_ (by assumption))) | (apply Sl.ext; assumption; (repeat first | assumption | refine Ext.trans ?_ (by assumption))) | (apply SlO.ext; assumption; (repeat first | assumption | refine Ext.trans ?_ (by assumption))) | (apply Dn.ext; assumption; (repeat first | assumption | refine Ext.trans ?_ (by assumption))) | (apply It.ext; assumption; (repeat first | assumption | refine Ext.trans ?_ (by assumption))) | (repeat first | assumption | refine Ext.trans ?_ (by assumption))) rfl)).op ?_; rintro _ _ ⟨rfl, rfl⟩)
  by_cases hlim0 : 6 < xs.length
  · refine StL.as TBok 2 (.bool true) rfl (bool_true (by omega)) ?_
    (iterate 6 ((repeat with_reducible first|refine .nil ?_|refine .then_normal ?_|refine .block_normal ?_|refine .seq ?_|refine .block ?_|refine .skip ?_|refine .region ?_|refine .ret ?_|refine .then_ret ?_|refine .block_ret ?_|refine .exit ?_|refine .then_exit ?_|refine .block_exit ?_|refine .block_other rfl ?_); try refine .run TBok 99 rfl ?_))
    refine St.condT rfl rfl ?_
    ((repeat with_reducible first|refine .nil ?_|refine .then_normal ?_|refine .block_normal ?_|refine .seq ?_|refine .block ?_|refine .skip ?_|refine .region ?_|refine .ret ?_|refine .then_ret ?_|refine .block_ret ?_|refine .exit ?_|refine .then_exit ?_|refine .block_exit ?_|refine .block_other rfl ?_); refine StL.awake rfl rfl ?_; intro wz hxz; (iterate 6 ((repeat with_reducible first|refine .nil ?_|refine .then_normal ?_|refine .block_normal ?_|refine .seq ?_|refine .block ?_|refine .skip ?_|refine .region ?_|refine .ret ?_|refine .then_ret ?_|refine .block_ret ?_|refine .exit ?_|refine .then_exit ?_|refine .block_exit ?_|refine .block_other rfl ?_); try refine .run TBok 99 rfl ?_)); exact Out.ret1 rfl rfl ⟨(by first | assumption | exact Ext.refl _ | (apply Blk.ext; assumption; (repeat first | assumption | refine Ext.trans ?_ (by assumption))) | (apply CanO.ext; assumption; (repeat first | assumption | refine Ext.trans ?_ (by assumption))) | (apply Den.ext; assumption; (repeat first | assumption | refine Ext.trans ?_ (by assumption))) | (apply Sl.ext; assumption; (repeat first | assumption | refine Ext.trans ?_ (by assumption))) | (apply SlO.ext; assumption; (repeat first | assumption | refine Ext.trans ?_ (by assumption))) | (apply Dn.ext; assumption; (repeat first | assumption | refine Ext.trans ?_ (by assumption))) | (apply It.ext; assumption; (repeat first | assumption | refine Ext.trans ?_ (by assumption))) | (repeat first | assumption | refine Ext.trans ?_ (by assumption))), rfl⟩)
  refine StL.as TBok 2 (.bool false) rfl (bool_false (by omega)) ?_
  refine .run TBok 99 rfl ?_
  (refine StL.step rfl rfl rfl (RunsTo.load TBok rfl rfl rfl (Blk.cell (by first | assumption | exact Ext.refl _ | (apply Blk.ext; assumption; (repeat first | assumption | refine Ext.trans ?_ (by assumption))) | (apply CanO.ext; assumption; (repeat first | assumption | refine Ext.trans ?_ (by assumption))) | (apply Den.ext; assumption; (repeat first | assumption | refine Ext.trans ?_ (by assumption))) | (apply Sl.ext; assumption; (repeat first | assumption | refine Ext.trans ?_ (by assumption))) | (apply SlO.ext; assumption; (repeat first | assumption | refine Ext.trans ?_ (by assumption))) | (apply Dn.ext; assumption; (repeat first | assumption | refine Ext.trans ?_ (by assumption))) | (apply It.ext; assumption; (repeat first | assumption | refine Ext.trans ?_ (by assumption))) | (repeat first | assumption | refine Ext.trans ?_ (by assumption))) rfl)).op ?_; rintro _ _ ⟨rfl, rfl⟩)
  by_cases hlim1 : 6 < ys.length
  · refine StL.as TBok 2 (.bool true) rfl (bool_true (by omega)) ?_
    (iterate 6 ((repeat with_reducible first|refine .nil ?_|refine .then_normal ?_|refine .block_normal ?_|refine .seq ?_|refine .block ?_|refine .skip ?_|refine .region ?_|refine .ret ?_|refine .then_ret ?_|refine .block_ret ?_|refine .exit ?_|refine .then_exit ?_|refine .block_exit ?_|refine .block_other rfl ?_); try refine .run TBok 99 rfl ?_))
    refine St.condT rfl rfl ?_
    ((repeat with_reducible first|refine .nil ?_|refine .then_normal ?_|refine .block_normal ?_|refine .seq ?_|refine .block ?_|refine .skip ?_|refine .region ?_|refine .ret ?_|refine .then_ret ?_|refine .block_ret ?_|refine .exit ?_|refine .then_exit ?_|refine .block_exit ?_|refine .block_other rfl ?_); refine StL.awake rfl rfl ?_; intro wz hxz; (iterate 6 ((repeat with_reducible first|refine .nil ?_|refine .then_normal ?_|refine .block_normal ?_|refine .seq ?_|refine .block ?_|refine .skip ?_|refine .region ?_|refine .ret ?_|refine .then_ret ?_|refine .block_ret ?_|refine .exit ?_|refine .then_exit ?_|refine .block_exit ?_|refine .block_other rfl ?_); try refine .run TBok 99 rfl ?_)); exact Out.ret1 rfl rfl ⟨(by first | assumption | exact Ext.refl _ | (apply Blk.ext; assumption; (repeat first | assumption | refine Ext.trans ?_ (by assumption))) | (apply CanO.ext; assumption; (repeat first | assumption | refine Ext.trans ?_ (by assumption))) | (apply Den.ext; assumption; (repeat first | assumption | refine Ext.trans ?_ (by assumption))) | (apply Sl.ext; assumption; (repeat first | assumption | refine Ext.trans ?_ (by assumption))) | (apply SlO.ext; assumption; (repeat first | assumption | refine Ext.trans ?_ (by assumption))) | (apply Dn.ext; assumption; (repeat first | assumption | refine Ext.trans ?_ (by assumption))) | (apply It.ext; assumption; (repeat first | assumption | refine Ext.trans ?_ (by assumption))) | (repeat first | assumption | refine Ext.trans ?_ (by assumption))), rfl⟩)
  refine StL.as TBok 2 (.bool false) rfl (bool_false (by omega)) ?_
  refine .run TBok 99 rfl ?_
  (refine StL.step rfl rfl rfl (RunsTo.load TBok rfl rfl rfl (Blk.cell (by first | assumption | exact Ext.refl _ | (apply Blk.ext; assumption; (repeat first | assumption | refine Ext.trans ?_ (by assumption))) | (apply CanO.ext; assumption; (repeat first | assumption | refine Ext.trans ?_ (by assumption))) | (apply Den.ext; assumption; (repeat first | assumption | refine Ext.trans ?_ (by assumption))) | (apply Sl.ext; assumption; (repeat first | assumption | refine Ext.trans ?_ (by assumption))) | (apply SlO.ext; assumption; (repeat first | assumption | refine Ext.trans ?_ (by assumption))) | (apply Dn.ext; assumption; (repeat first | assumption | refine Ext.trans ?_ (by assumption))) | (apply It.ext; assumption; (repeat first | assumption | refine Ext.trans ?_ (by assumption))) | (repeat first | assumption | refine Ext.trans ?_ (by assumption))) rfl)).op ?_; rintro _ _ ⟨rfl, rfl⟩)
  by_cases hlim2 : 4 < zs.length
  · refine StL.as TBok 2 (.bool true) rfl (bool_true (by omega)) ?_
    (iterate 6 ((repeat with_reducible first|refine .nil ?_|refine .then_normal ?_|refine .block_normal ?_|refine .seq ?_|refine .block ?_|refine .skip ?_|refine .region ?_|refine .ret ?_|refine .then_ret ?_|refine .block_ret ?_|refine .exit ?_|refine .then_exit ?_|refine .block_exit ?_|refine .block_other rfl ?_); try refine .run TBok 99 rfl ?_))
    refine St.condT rfl rfl ?_
    ((repeat with_reducible first|refine .nil ?_|refine .then_normal ?_|refine .block_normal ?_|refine .seq ?_|refine .block ?_|refine .skip ?_|refine .region ?_|refine .ret ?_|refine .then_ret ?_|refine .block_ret ?_|refine .exit ?_|refine .then_exit ?_|refine .block_exit ?_|refine .block_other rfl ?_); refine StL.awake rfl rfl ?_; intro wz hxz; (iterate 6 ((repeat with_reducible first|refine .nil ?_|refine .then_normal ?_|refine .block_normal ?_|refine .seq ?_|refine .block ?_|refine .skip ?_|refine .region ?_|refine .ret ?_|refine .then_ret ?_|refine .block_ret ?_|refine .exit ?_|refine .then_exit ?_|refine .block_exit ?_|refine .block_other rfl ?_); try refine .run TBok 99 rfl ?_)); exact Out.ret1 rfl rfl ⟨(by first | assumption | exact Ext.refl _ | (apply Blk.ext; assumption; (repeat first | assumption | refine Ext.trans ?_ (by assumption))) | (apply CanO.ext; assumption; (repeat first | assumption | refine Ext.trans ?_ (by assumption))) | (apply Den.ext; assumption; (repeat first | assumption | refine Ext.trans ?_ (by assumption))) | (apply Sl.ext; assumption; (repeat first | assumption | refine Ext.trans ?_ (by assumption))) | (apply SlO.ext; assumption; (repeat first | assumption | refine Ext.trans ?_ (by assumption))) | (apply Dn.ext; assumption; (repeat first | assumption | refine Ext.trans ?_ (by assumption))) | (apply It.ext; assumption; (repeat first | assumption | refine Ext.trans ?_ (by assumption))) | (repeat first | assumption | refine Ext.trans ?_ (by assumption))), rfl⟩)
  refine StL.as TBok 2 (.bool false) rfl (bool_false (by omega)) ?_
  (iterate 6 ((repeat with_reducible first|refine .nil ?_|refine .then_normal ?_|refine .block_normal ?_|refine .seq ?_|refine .block ?_|refine .skip ?_|refine .region ?_|refine .ret ?_|refine .then_ret ?_|refine .block_ret ?_|refine .exit ?_|refine .then_exit ?_|refine .block_exit ?_|refine .block_other rfl ?_); try refine .run TBok 99 rfl ?_))
  refine St.condF rfl rfl ?_
  have hx0 : Ext w w3 := (by first | assumption | exact Ext.refl _ | (apply Blk.ext; assumption; (repeat first | assumption | refine Ext.trans ?_ (by assumption))) | (apply CanO.ext; assumption; (repeat first | assumption | refine Ext.trans ?_ (by assumption))) | (apply Den.ext; assumption; (repeat first | assumption | refine Ext.trans ?_ (by assumption))) | (apply Sl.ext; assumption; (repeat first | assumption | refine Ext.trans ?_ (by assumption))) | (apply SlO.ext; assumption; (repeat first | assumption | refine Ext.trans ?_ (by assumption))) | (apply Dn.ext; assumption; (repeat first | assumption | refine Ext.trans ?_ (by assumption))) | (apply It.ext; assumption; (repeat first | assumption | refine Ext.trans ?_ (by assumption))) | (repeat first | assumption | refine Ext.trans ?_ (by assumption)))
  have ha : Dn w3 _ (sg na (val xs)) := (hD.ext hx0).dn (by omega)
  have hDa : Den w3 _ na xs := hD.ext hx0
  have hsa := sz_den hD
  have hB1 : Blk 24 w3 w.heap.size _ := ((hb1.ext hx2).ext hx3)
  have hb : Dn w3 _ (sg nb (val ys)) := (kD.ext hx0).dn (by omega)
  have hDb : Den w3 _ nb ys := kD.ext hx0
  have hsb := sz_den kD
  have hB2 : Blk 24 w3 w1.heap.size _ := (hb2.ext hx3)
  have hc : Dn w3 _ (sg nc (val zs)) := (jD.ext hx0).dn (by omega)
  have hDc : Den w3 _ nc zs := jD.ext hx0
  have hsc := sz_den jD
  have hB3 : Blk 24 w3 w2.heap.size _ := hb3
  clear hb1 hb2 hb3 hx1 hx2 hx3 hz1 hz2 hz3
  generalize sg na (val xs) = a at *
  generalize sg nb (val ys) = b at *
  generalize sg nc (val zs) = c at *
  have s1 := sz_mul a c
  have s2 := sz_mul b c
  have s3 := sz_gcd (a * c) (b * c)
  (repeat with_reducible first|refine .nil ?_|refine .then_normal ?_|refine .block_normal ?_|refine .seq ?_|refine .block ?_|refine .skip ?_|refine .region ?_|refine .ret ?_|refine .then_ret ?_|refine .block_ret ?_|refine .exit ?_|refine .then_exit ?_|refine .block_exit ?_|refine .block_other rfl ?_)
  refine St.sub (E' := [(3, .pointer (some ⟨w.heap.size, 0, none⟩)), (4, .pointer (some ⟨w1.heap.size, 0, none⟩)), (5, .pointer (some ⟨w2.heap.size, 0, none⟩))]) ?_ ⟨rfl, rfl, rfl, trivial⟩
  refine St.flow 8 TBfol (by kernel_rfl) rfl (by kernel_rfl) rfl True.intro ?_
  refine FL.run TBok 99 rfl ?_
  refine FL.loadAgg (L := []) TBok rfl rfl rfl rfl rfl rfl (by first | assumption | exact Ext.refl _ | (apply Blk.ext; assumption; (repeat first | assumption | refine Ext.trans ?_ (by assumption))) | (apply CanO.ext; assumption; (repeat first | assumption | refine Ext.trans ?_ (by assumption))) | (apply Den.ext; assumption; (repeat first | assumption | refine Ext.trans ?_ (by assumption))) | (apply Sl.ext; assumption; (repeat first | assumption | refine Ext.trans ?_ (by assumption))) | (apply SlO.ext; assumption; (repeat first | assumption | refine Ext.trans ?_ (by assumption))) | (apply Dn.ext; assumption; (repeat first | assumption | refine Ext.trans ?_ (by assumption))) | (apply It.ext; assumption; (repeat first | assumption | refine Ext.trans ?_ (by assumption))) | (repeat first | assumption | refine Ext.trans ?_ (by assumption))) (by simp) (Nat.le_refl _) rfl ?_
  refine FL.loadAgg (L := []) TBok rfl rfl rfl rfl rfl rfl (by first | assumption | exact Ext.refl _ | (apply Blk.ext; assumption; (repeat first | assumption | refine Ext.trans ?_ (by assumption))) | (apply CanO.ext; assumption; (repeat first | assumption | refine Ext.trans ?_ (by assumption))) | (apply Den.ext; assumption; (repeat first | assumption | refine Ext.trans ?_ (by assumption))) | (apply Sl.ext; assumption; (repeat first | assumption | refine Ext.trans ?_ (by assumption))) | (apply SlO.ext; assumption; (repeat first | assumption | refine Ext.trans ?_ (by assumption))) | (apply Dn.ext; assumption; (repeat first | assumption | refine Ext.trans ?_ (by assumption))) | (apply It.ext; assumption; (repeat first | assumption | refine Ext.trans ?_ (by assumption))) | (repeat first | assumption | refine Ext.trans ?_ (by assumption))) (by simp) (Nat.le_refl _) rfl ?_
  refine FL.callE fn_r01_Mul rfl rfl rfl (fun w5 hx5 => CallF.mk rfl (rmul_dn (base := 0) (ha.ext hx5) (hc.ext hx5) (Nat.zero_le _))) (MonoR.canO 0 _) ?_
  refine FL.loadAgg (L := []) TBok rfl rfl rfl rfl rfl rfl (by first | assumption | exact Ext.refl _ | (apply Blk.ext; assumption; (repeat first | assumption | refine Ext.trans ?_ (by assumption))) | (apply CanO.ext; assumption; (repeat first | assumption | refine Ext.trans ?_ (by assumption))) | (apply Den.ext; assumption; (repeat first | assumption | refine Ext.trans ?_ (by assumption))) | (apply Sl.ext; assumption; (repeat first | assumption | refine Ext.trans ?_ (by assumption))) | (apply SlO.ext; assumption; (repeat first | assumption | refine Ext.trans ?_ (by assumption))) | (apply Dn.ext; assumption; (repeat first | assumption | refine Ext.trans ?_ (by assumption))) | (apply It.ext; assumption; (repeat first | assumption | refine Ext.trans ?_ (by assumption))) | (repeat first | assumption | refine Ext.trans ?_ (by assumption))) (by simp) (Nat.le_refl _) rfl ?_
  refine FL.loadAgg (L := []) TBok rfl rfl rfl rfl rfl rfl (by first | assumption | exact Ext.refl _ | (apply Blk.ext; assumption; (repeat first | assumption | refine Ext.trans ?_ (by assumption))) | (apply CanO.ext; assumption; (repeat first | assumption | refine Ext.trans ?_ (by assumption))) | (apply Den.ext; assumption; (repeat first | assumption | refine Ext.trans ?_ (by assumption))) | (apply Sl.ext; assumption; (repeat first | assumption | refine Ext.trans ?_ (by assumption))) | (apply SlO.ext; assumption; (repeat first | assumption | refine Ext.trans ?_ (by assumption))) | (apply Dn.ext; assumption; (repeat first | assumption | refine Ext.trans ?_ (by assumption))) | (apply It.ext; assumption; (repeat first | assumption | refine Ext.trans ?_ (by assumption))) | (repeat first | assumption | refine Ext.trans ?_ (by assumption))) (by simp) (Nat.le_refl _) rfl ?_
  refine FL.callE fn_r01_Mul rfl rfl rfl (fun w5 hx5 => CallF.mk rfl (rmul_dn (base := 0) (hb.ext hx5) (hc.ext hx5) (Nat.zero_le _))) (MonoR.canO 0 _) ?_
  refine FL.alloc TBok rfl rfl rfl rfl ?_
  refine FL.alloc TBok rfl rfl rfl rfl ?_
  refine FL.endE rfl ?_
  rintro w4 hx4 _ ⟨b8, C8, rfl, hg8, hB8, hl8⟩ _ ⟨b7, C7, rfl, hg7, hB7, hl7⟩ v32 h32 v29 h29 _ hdist
  have hne : b7 ≠ b8 := by
    intro e
    exact hdist 7 (by decide) 8 (by decide) (by decide) _ rfl (by rw [e]; rfl)
  have hlt3 := hB3.lt
  refine StL.setCan rfl rfl hB7 hl7 h29 hx4 hg7 ?_
  intro w5 hS7 hu5 h29' hx5
  have hB8' := hB8.upd hu5 (fun e => hne e.symm)
  refine StL.setCan rfl rfl hB8' hl8 (CanO.upd h32 hu5 ⟨_, hB7⟩) hx5 hg8 ?_
  intro w6 hS8 hu6 h32' hx6
  replace hS7 := hS7.upd hu6 hne
  replace h29' := CanO.upd h29' hu6 ⟨_, hB8'⟩
  replace hB3 := hB3.ext hx6
  replace hc := hc.ext hx6
  replace hx0 := hx0.trans hx6
  clear hx4 hx5 hu5 hu6 hB7 hB8 hB8' h29 h32 hdist hx6 hB1 hB2
  (repeat with_reducible first|refine .nil ?_|refine .then_normal ?_|refine .block_normal ?_|refine .seq ?_|refine .block ?_|refine .skip ?_|refine .region ?_|refine .ret ?_|refine .then_ret ?_|refine .block_ret ?_|refine .exit ?_|refine .then_exit ?_|refine .block_exit ?_|refine .block_other rfl ?_)
  refine StL.step rfl rfl rfl (RunsTo.loadCan rfl hS7 h29').op ?_
  rintro _ _ ⟨rfl, rfl⟩
  refine StL.step rfl rfl rfl (RunsTo.loadCan rfl hS8 h32').op ?_
  rintro _ _ ⟨rfl, rfl⟩
  refine StL.step rfl rfl rfl (OpR.call fn_integer_Gcd rfl (gcd_dn (h29'.dn (by omega)) (h32'.dn (by omega)))) ?_
  rintro v35 w7 ⟨hx7, h35⟩
  refine StL.step rfl rfl rfl (OpR.alloc TBok rfl) ?_
  rintro _ w8 ⟨rfl, hb8, hx8, hz8⟩
  refine StL.setCan rfl rfl hb8 rfl (h35.ext hx8) hx8 (Nat.le_refl _) ?_
  intro w9 hS9 hu9 h35' hx79
  have hx69 := hx7.trans hx79
  replace hS7 := hS7.ext hx69
  replace h29' := h29'.ext hx69
  replace hS8 := hS8.ext hx69
  replace h32' := h32'.ext hx69
  replace hB3 := hB3.ext hx69
  replace hc := hc.ext hx69
  replace hx0 := hx0.trans hx69
  clear hx69
  clear hx7 hx79 hu9 hb8 hx8 h35
  have hdx : ((Nat.gcd (a * c).natAbs (b * c).natAbs : Nat) : Int) ∣ a * c := by
    rw [Int.ofNat_dvd_left]; exact Nat.gcd_dvd_left _ _
  have hdy : ((Nat.gcd (a * c).natAbs (b * c).natAbs : Nat) : Int) ∣ b * c := by
    rw [Int.ofNat_dvd_left]; exact Nat.gcd_dvd_right _ _
  have hdc : c ∣ ((Nat.gcd (a * c).natAbs (b * c).natAbs : Nat) : Int) := by
    refine Int.natAbs_dvd_natAbs.1 ?_
    rw [Int.natAbs_natCast]
    refine Nat.dvd_gcd ?_ ?_
    · rw [Int.natAbs_mul]; exact Nat.dvd_mul_left _ _
    · rw [Int.natAbs_mul]; exact Nat.dvd_mul_left _ _
  generalize hG : Nat.gcd (a * c).natAbs (b * c).natAbs = G at *
  have hgd : Dn w9 v35 (G : Int) := h35'.dn (by omega)
  have hxd : Dn w9 v29 (a * c) := h29'.dn (by omega)
  have hyd : Dn w9 v32 (b * c) := h32'.dn (by omega)
  (repeat with_reducible first|refine .nil ?_|refine .then_normal ?_|refine .block_normal ?_|refine .seq ?_|refine .block ?_|refine .skip ?_|refine .region ?_|refine .ret ?_|refine .then_ret ?_|refine .block_ret ?_|refine .exit ?_|refine .then_exit ?_|refine .block_exit ?_|refine .block_other rfl ?_)
  refine StL.step rfl rfl rfl (RunsTo.loadCan rfl hS9 h35').op ?_
  rintro _ _ ⟨rfl, rfl⟩
  refine StL.step rfl rfl rfl (OpR.call fn_integer_Sign rfl (sign_dn hgd)) ?_
  rintro _ w10 ⟨hx10, rfl⟩
  refine StL.as TBok 1 (.bool true) rfl (bool_true (by unfold signI; rw [if_neg (by omega)]; split <;> decide)) ?_
  replace hS7 := hS7.ext hx10
  replace h29' := h29'.ext hx10
  replace hS8 := hS8.ext hx10
  replace h32' := h32'.ext hx10
  replace hS9 := hS9.ext hx10
  replace h35' := h35'.ext hx10
  replace hB3 := hB3.ext hx10
  replace hc := hc.ext hx10
  replace hgd := hgd.ext hx10
  replace hxd := hxd.ext hx10
  replace hyd := hyd.ext hx10
  replace hx0 := hx0.trans hx10
  clear hx10
  refine .run TBok 99 rfl ?_
  refine StL.step rfl rfl rfl (RunsTo.loadCan rfl hS9 h35').op ?_
  rintro _ _ ⟨rfl, rfl⟩
  refine StL.step rfl rfl rfl (RunsTo.loadCan rfl hS7 h29').op ?_
  rintro _ _ ⟨rfl, rfl⟩
  refine StL.step rfl rfl rfl (OpR.call fn_r01_Divides rfl (divides_true hgd hxd hdx)) ?_
  rintro _ w11 ⟨hx11, rfl⟩
  replace hS8 := hS8.ext hx11
  replace h32' := h32'.ext hx11
  replace hS9 := hS9.ext hx11
  replace h35' := h35'.ext hx11
  replace hB3 := hB3.ext hx11
  replace hc := hc.ext hx11
  replace hgd := hgd.ext hx11
  replace hyd := hyd.ext hx11
  replace hx0 := hx0.trans hx11
  clear hx11
  refine .run TBok 99 rfl ?_
  refine StL.step rfl rfl rfl (RunsTo.loadCan rfl hS9 h35').op ?_
  rintro _ _ ⟨rfl, rfl⟩
  refine StL.step rfl rfl rfl (RunsTo.loadCan rfl hS8 h32').op ?_
  rintro _ _ ⟨rfl, rfl⟩
  refine StL.step rfl rfl rfl (OpR.call fn_r01_Divides rfl (divides_true hgd hyd hdy)) ?_
  rintro _ w12 ⟨hx12, rfl⟩
  replace hS9 := hS9.ext hx12
  replace h35' := h35'.ext hx12
  replace hB3 := hB3.ext hx12
  replace hc := hc.ext hx12
  replace hgd := hgd.ext hx12
  replace hx0 := hx0.trans hx12
  clear hx12
  refine .run TBok 99 rfl ?_
  refine StL.step rfl rfl rfl (RunsTo.loadInt rfl hB3 rfl rfl).op ?_
  rintro _ _ ⟨rfl, rfl⟩
  refine StL.step rfl rfl rfl (RunsTo.loadCan rfl hS9 h35').op ?_
  rintro _ _ ⟨rfl, rfl⟩
  refine StL.step rfl rfl rfl (OpR.call fn_r01_Divides rfl (divides_true hc hgd hdc)) ?_
  rintro _ w13 ⟨hx13, rfl⟩
  refine .run TBok 99 rfl ?_
  refine StL.awake rfl rfl ?_
  intro w14 hx14
  (iterate 6 ((repeat with_reducible first|refine .nil ?_|refine .then_normal ?_|refine .block_normal ?_|refine .seq ?_|refine .block ?_|refine .skip ?_|refine .region ?_|refine .ret ?_|refine .then_ret ?_|refine .block_ret ?_|refine .exit ?_|refine .then_exit ?_|refine .block_exit ?_|refine .block_other rfl ?_); try refine .run TBok 99 rfl ?_))
  exact Out.ret1 rfl rfl ⟨(hx0.trans hx13).trans hx14, rfl⟩

set_option maxRecDepth 8000 in
set_option maxHeartbeats 400000 in
theorem lawDivision (w : World) (v : Value) (na : Bool) (xs : List Nat) (h : Den w v na xs) (u : Value) (nb : Bool) (ys : List Nat) (k : Den w u nb ys) : Calls Try.prog 7 #[v, u] w (Ret fun r w' => Ext w w' ∧ r = .bool true) := by
  have hD := h
  have kD := k
  obtain ⟨p, cap, rfl, hs⟩ := h
  obtain ⟨q, cb, rfl, ks⟩ := k
  refine calls_of_St (args := [_, _]) Try.func7 rfl Try.ntmps7 rfl ?_
  (repeat with_reducible first|refine .nil ?_|refine .then_normal ?_|refine .block_normal ?_|refine .seq ?_|refine .block ?_|refine .skip ?_|refine .region ?_|refine .ret ?_|refine .then_ret ?_|refine .block_ret ?_|refine .exit ?_|refine .then_exit ?_|refine .block_exit ?_|refine .block_other rfl ?_)
  refine StL.step rfl rfl rfl (OpR.box rfl) ?_
  rintro _ w1 ⟨rfl, hb1, hx1, hz1⟩
  refine StL.step rfl rfl rfl (OpR.box rfl) ?_
  rintro _ w2 ⟨rfl, hb2, hx2, hz2⟩
  (iterate 6 ((repeat with_reducible first|refine .nil ?_|refine .then_normal ?_|refine .block_normal ?_|refine .seq ?_|refine .block ?_|refine .skip ?_|refine .region ?_|refine .ret ?_|refine .then_ret ?_|refine .block_ret ?_|refine .exit ?_|refine .then_exit ?_|refine .block_exit ?_|refine .block_other rfl ?_); try refine .run TBok 99 rfl ?_))
  (refine StL.step rfl rfl rfl (RunsTo.loadInt rfl (by first | assumption | exact Ext.refl _ | (apply Blk.ext; assumption; (repeat first | assumption | refine Ext.trans ?_ (by assumption))) | (apply CanO.ext; assumption; (repeat first | assumption | refine Ext.trans ?_ (by assumption))) | (apply Den.ext; assumption; (repeat first | assumption | refine Ext.trans ?_ (by assumption))) | (apply Sl.ext; assumption; (repeat first | assumption | refine Ext.trans ?_ (by assumption))) | (apply SlO.ext; assumption; (repeat first | assumption | refine Ext.trans ?_ (by assumption))) | (apply Dn.ext; assumption; (repeat first | assumption | refine Ext.trans ?_ (by assumption))) | (apply It.ext; assumption; (repeat first | assumption | refine Ext.trans ?_ (by assumption))) | (repeat first | assumption | refine Ext.trans ?_ (by assumption))) (by first | rfl | assumption) (by first | rfl | assumption)).op ?_; rintro _ _ ⟨rfl, rfl⟩)
  refine StL.step rfl rfl rfl (OpR.call fn_w01_long rfl (long_spec w2 _ na xs (by first | assumption | exact Ext.refl _ | (apply Blk.ext; assumption; (repeat first | assumption | refine Ext.trans ?_ (by assumption))) | (apply CanO.ext; assumption; (repeat first | assumption | refine Ext.trans ?_ (by assumption))) | (apply Den.ext; assumption; (repeat first | assumption | refine Ext.trans ?_ (by assumption))) | (apply Sl.ext; assumption; (repeat first | assumption | refine Ext.trans ?_ (by assumption))) | (apply SlO.ext; assumption; (repeat first | assumption | refine Ext.trans ?_ (by assumption))) | (apply Dn.ext; assumption; (repeat first | assumption | refine Ext.trans ?_ (by assumption))) | (apply It.ext; assumption; (repeat first | assumption | refine Ext.trans ?_ (by assumption))) | (repeat first | assumption | refine Ext.trans ?_ (by assumption))))) ?_
  rintro _ w3 ⟨hx3, rfl⟩
  by_cases h40a : 40 < xs.length
  · rw [decide_eq_true h40a]
    (iterate 6 ((repeat with_reducible first|refine .nil ?_|refine .then_normal ?_|refine .block_normal ?_|refine .seq ?_|refine .block ?_|refine .skip ?_|refine .region ?_|refine .ret ?_|refine .then_ret ?_|refine .block_ret ?_|refine .exit ?_|refine .then_exit ?_|refine .block_exit ?_|refine .block_other rfl ?_); try refine .run TBok 99 rfl ?_))
    refine St.condT rfl rfl ?_
    ((repeat with_reducible first|refine .nil ?_|refine .then_normal ?_|refine .block_normal ?_|refine .seq ?_|refine .block ?_|refine .skip ?_|refine .region ?_|refine .ret ?_|refine .then_ret ?_|refine .block_ret ?_|refine .exit ?_|refine .then_exit ?_|refine .block_exit ?_|refine .block_other rfl ?_); refine StL.awake rfl rfl ?_; intro wz hxz; (iterate 6 ((repeat with_reducible first|refine .nil ?_|refine .then_normal ?_|refine .block_normal ?_|refine .seq ?_|refine .block ?_|refine .skip ?_|refine .region ?_|refine .ret ?_|refine .then_ret ?_|refine .block_ret ?_|refine .exit ?_|refine .then_exit ?_|refine .block_exit ?_|refine .block_other rfl ?_); try refine .run TBok 99 rfl ?_)); exact Out.ret1 rfl rfl ⟨(by first | assumption | exact Ext.refl _ | (apply Blk.ext; assumption; (repeat first | assumption | refine Ext.trans ?_ (by assumption))) | (apply CanO.ext; assumption; (repeat first | assumption | refine Ext.trans ?_ (by assumption))) | (apply Den.ext; assumption; (repeat first | assumption | refine Ext.trans ?_ (by assumption))) | (apply Sl.ext; assumption; (repeat first | assumption | refine Ext.trans ?_ (by assumption))) | (apply SlO.ext; assumption; (repeat first | assumption | refine Ext.trans ?_ (by assumption))) | (apply Dn.ext; assumption; (repeat first | assumption | refine Ext.trans ?_ (by assumption))) | (apply It.ext; assumption; (repeat first | assumption | refine Ext.trans ?_ (by assumption))) | (repeat first | assumption | refine Ext.trans ?_ (by assumption))), rfl⟩)
  rw [decide_eq_false h40a]
  refine .run TBok 99 rfl ?_
  (refine StL.step rfl rfl rfl (RunsTo.loadInt rfl (by first | assumption | exact Ext.refl _ | (apply Blk.ext; assumption; (repeat first | assumption | refine Ext.trans ?_ (by assumption))) | (apply CanO.ext; assumption; (repeat first | assumption | refine Ext.trans ?_ (by assumption))) | (apply Den.ext; assumption; (repeat first | assumption | refine Ext.trans ?_ (by assumption))) | (apply Sl.ext; assumption; (repeat first | assumption | refine Ext.trans ?_ (by assumption))) | (apply SlO.ext; assumption; (repeat first | assumption | refine Ext.trans ?_ (by assumption))) | (apply Dn.ext; assumption; (repeat first | assumption | refine Ext.trans ?_ (by assumption))) | (apply It.ext; assumption; (repeat first | assumption | refine Ext.trans ?_ (by assumption))) | (repeat first | assumption | refine Ext.trans ?_ (by assumption))) (by first | rfl | assumption) (by first | rfl | assumption)).op ?_; rintro _ _ ⟨rfl, rfl⟩)
  refine StL.step rfl rfl rfl (OpR.call fn_w01_long rfl (long_spec w3 _ nb ys (by first | assumption | exact Ext.refl _ | (apply Blk.ext; assumption; (repeat first | assumption | refine Ext.trans ?_ (by assumption))) | (apply CanO.ext; assumption; (repeat first | assumption | refine Ext.trans ?_ (by assumption))) | (apply Den.ext; assumption; (repeat first | assumption | refine Ext.trans ?_ (by assumption))) | (apply Sl.ext; assumption; (repeat first | assumption | refine Ext.trans ?_ (by assumption))) | (apply SlO.ext; assumption; (repeat first | assumption | refine Ext.trans ?_ (by assumption))) | (apply Dn.ext; assumption; (repeat first | assumption | refine Ext.trans ?_ (by assumption))) | (apply It.ext; assumption; (repeat first | assumption | refine Ext.trans ?_ (by assumption))) | (repeat first | assumption | refine Ext.trans ?_ (by assumption))))) ?_
  rintro _ w4 ⟨hx4, rfl⟩
  by_cases h40b : 40 < ys.length
  · rw [decide_eq_true h40b]
    (iterate 6 ((repeat with_reducible first|refine .nil ?_|refine .then_normal ?_|refine .block_normal ?_|refine .seq ?_|refine .block ?_|refine .skip ?_|refine .region ?_|refine .ret ?_|refine .then_ret ?_|refine .block_ret ?_|refine .exit ?_|refine .then_exit ?_|refine .block_exit ?_|refine .block_other rfl ?_); try refine .run TBok 99 rfl ?_))
    refine St.condT rfl rfl ?_
    ((repeat with_reducible first|refine .nil ?_|refine .then_normal ?_|refine .block_normal ?_|refine .seq ?_|refine .block ?_|refine .skip ?_|refine .region ?_|refine .ret ?_|refine .then_ret ?_|refine .block_ret ?_|refine .exit ?_|refine .then_exit ?_|refine .block_exit ?_|refine .block_other rfl ?_); refine StL.awake rfl rfl ?_; intro wz hxz; (iterate 6 ((repeat with_reducible first|refine .nil ?_|refine .then_normal ?_|refine .block_normal ?_|refine .seq ?_|refine .block ?_|refine .skip ?_|refine .region ?_|refine .ret ?_|refine .then_ret ?_|refine .block_ret ?_|refine .exit ?_|refine .then_exit ?_|refine .block_exit ?_|refine .block_other rfl ?_); try refine .run TBok 99 rfl ?_)); exact Out.ret1 rfl rfl ⟨(by first | assumption | exact Ext.refl _ | (apply Blk.ext; assumption; (repeat first | assumption | refine Ext.trans ?_ (by assumption))) | (apply CanO.ext; assumption; (repeat first | assumption | refine Ext.trans ?_ (by assumption))) | (apply Den.ext; assumption; (repeat first | assumption | refine Ext.trans ?_ (by assumption))) | (apply Sl.ext; assumption; (repeat first | assumption | refine Ext.trans ?_ (by assumption))) | (apply SlO.ext; assumption; (repeat first | assumption | refine Ext.trans ?_ (by assumption))) | (apply Dn.ext; assumption; (repeat first | assumption | refine Ext.trans ?_ (by assumption))) | (apply It.ext; assumption; (repeat first | assumption | refine Ext.trans ?_ (by assumption))) | (repeat first | assumption | refine Ext.trans ?_ (by assumption))), rfl⟩)
  rw [decide_eq_false h40b]
  refine .run TBok 99 rfl ?_
  (refine StL.step rfl rfl rfl (RunsTo.loadInt rfl (by first | assumption | exact Ext.refl _ | (apply Blk.ext; assumption; (repeat first | assumption | refine Ext.trans ?_ (by assumption))) | (apply CanO.ext; assumption; (repeat first | assumption | refine Ext.trans ?_ (by assumption))) | (apply Den.ext; assumption; (repeat first | assumption | refine Ext.trans ?_ (by assumption))) | (apply Sl.ext; assumption; (repeat first | assumption | refine Ext.trans ?_ (by assumption))) | (apply SlO.ext; assumption; (repeat first | assumption | refine Ext.trans ?_ (by assumption))) | (apply Dn.ext; assumption; (repeat first | assumption | refine Ext.trans ?_ (by assumption))) | (apply It.ext; assumption; (repeat first | assumption | refine Ext.trans ?_ (by assumption))) | (repeat first | assumption | refine Ext.trans ?_ (by assumption))) (by first | rfl | assumption) (by first | rfl | assumption)).op ?_; rintro _ _ ⟨rfl, rfl⟩)
  have hb4 : Dn w4 _ (sg nb (val ys)) := (kD.ext (((hx1.trans hx2).trans hx3).trans hx4)).dn (by omega)
  refine StL.step rfl rfl rfl (OpR.call fn_r01_Sign rfl (rsign_dn hb4)) ?_
  rintro _ w5 ⟨hx5, rfl⟩
  by_cases hb0 : sg nb (val ys) = 0
  · refine StL.as TBok 1 (.bool true) rfl (by rw [signI_zero, decide_eq_true hb0]) ?_
    (iterate 6 ((repeat with_reducible first|refine .nil ?_|refine .then_normal ?_|refine .block_normal ?_|refine .seq ?_|refine .block ?_|refine .skip ?_|refine .region ?_|refine .ret ?_|refine .then_ret ?_|refine .block_ret ?_|refine .exit ?_|refine .then_exit ?_|refine .block_exit ?_|refine .block_other rfl ?_); try refine .run TBok 99 rfl ?_))
    refine St.condT rfl rfl ?_
    ((repeat with_reducible first|refine .nil ?_|refine .then_normal ?_|refine .block_normal ?_|refine .seq ?_|refine .block ?_|refine .skip ?_|refine .region ?_|refine .ret ?_|refine .then_ret ?_|refine .block_ret ?_|refine .exit ?_|refine .then_exit ?_|refine .block_exit ?_|refine .block_other rfl ?_); refine StL.awake rfl rfl ?_; intro wz hxz; (iterate 6 ((repeat with_reducible first|refine .nil ?_|refine .then_normal ?_|refine .block_normal ?_|refine .seq ?_|refine .block ?_|refine .skip ?_|refine .region ?_|refine .ret ?_|refine .then_ret ?_|refine .block_ret ?_|refine .exit ?_|refine .then_exit ?_|refine .block_exit ?_|refine .block_other rfl ?_); try refine .run TBok 99 rfl ?_)); exact Out.ret1 rfl rfl ⟨(by first | assumption | exact Ext.refl _ | (apply Blk.ext; assumption; (repeat first | assumption | refine Ext.trans ?_ (by assumption))) | (apply CanO.ext; assumption; (repeat first | assumption | refine Ext.trans ?_ (by assumption))) | (apply Den.ext; assumption; (repeat first | assumption | refine Ext.trans ?_ (by assumption))) | (apply Sl.ext; assumption; (repeat first | assumption | refine Ext.trans ?_ (by assumption))) | (apply SlO.ext; assumption; (repeat first | assumption | refine Ext.trans ?_ (by assumption))) | (apply Dn.ext; assumption; (repeat first | assumption | refine Ext.trans ?_ (by assumption))) | (apply It.ext; assumption; (repeat first | assumption | refine Ext.trans ?_ (by assumption))) | (repeat first | assumption | refine Ext.trans ?_ (by assumption))), rfl⟩)
  refine StL.as TBok 1 (.bool false) rfl (by rw [signI_zero, decide_eq_false hb0]) ?_
  (iterate 6 ((repeat with_reducible first|refine .nil ?_|refine .then_normal ?_|refine .block_normal ?_|refine .seq ?_|refine .block ?_|refine .skip ?_|refine .region ?_|refine .ret ?_|refine .then_ret ?_|refine .block_ret ?_|refine .exit ?_|refine .then_exit ?_|refine .block_exit ?_|refine .block_other rfl ?_); try refine .run TBok 99 rfl ?_))
  refine St.condF rfl rfl ?_
  have hB1 : Blk 24 w5 w.heap.size _ := (((hb1.ext hx2).ext hx3).ext hx4).ext hx5
  have hB2 : Blk 24 w5 w1.heap.size _ := ((hb2.ext hx3).ext hx4).ext hx5
  have hx0 : Ext w w5 := (by first | assumption | exact Ext.refl _ | (apply Blk.ext; assumption; (repeat first | assumption | refine Ext.trans ?_ (by assumption))) | (apply CanO.ext; assumption; (repeat first | assumption | refine Ext.trans ?_ (by assumption))) | (apply Den.ext; assumption; (repeat first | assumption | refine Ext.trans ?_ (by assumption))) | (apply Sl.ext; assumption; (repeat first | assumption | refine Ext.trans ?_ (by assumption))) | (apply SlO.ext; assumption; (repeat first | assumption | refine Ext.trans ?_ (by assumption))) | (apply Dn.ext; assumption; (repeat first | assumption | refine Ext.trans ?_ (by assumption))) | (apply It.ext; assumption; (repeat first | assumption | refine Ext.trans ?_ (by assumption))) | (repeat first | assumption | refine Ext.trans ?_ (by assumption)))
  have ha : Dn w5 _ (sg na (val xs)) := (hD.ext hx0).dn (by omega)
  have hb : Dn w5 _ (sg nb (val ys)) := (kD.ext hx0).dn (by omega)
  have hsa := sz_den hD
  have hsb := sz_den kD
  clear hb1 hb2 hx1 hx2 hx3 hx4 hx5 hz1 hz2 hb4
  generalize sg na (val xs) = a at *
  generalize sg nb (val ys) = b at *
  have s1 := sz_div a b
  have s2 := sz_mod a b
  have s3 := sz_mul (a / b) b
  have s4 := sz_add (a / b * b) (a % b)
  have s5 : sz ((b.natAbs : Nat) : Int) ≤ sz b := sz_nat_le (Nat.le_refl _)
  have hmod0 := Int.emod_nonneg a hb0
  have hmodlt := Int.emod_lt a hb0
  (repeat with_reducible first|refine .nil ?_|refine .then_normal ?_|refine .block_normal ?_|refine .seq ?_|refine .block ?_|refine .skip ?_|refine .region ?_|refine .ret ?_|refine .then_ret ?_|refine .block_ret ?_|refine .exit ?_|refine .then_exit ?_|refine .block_exit ?_|refine .block_other rfl ?_)
  refine StL.step rfl rfl rfl (RunsTo.loadInt rfl hB1 rfl rfl).op ?_
  rintro _ _ ⟨rfl, rfl⟩
  refine StL.step rfl rfl rfl (RunsTo.loadInt rfl hB2 rfl rfl).op ?_
  rintro _ _ ⟨rfl, rfl⟩
  refine StL.step rfl rfl rfl (OpR.call fn_integer_DivMod rfl (divMod_dn (base := 0) ha hb (Nat.zero_le _))) ?_
  rintro _ w6 ⟨hx6, _, hd⟩
  obtain ⟨q1, m1, rfl, hq1, hm1⟩ := hd hb0
  replace hB1 := hB1.ext hx6
  replace hB2 := hB2.ext hx6
  replace ha := ha.ext hx6
  replace hb := hb.ext hx6
  replace hx0 := hx0.trans hx6
  clear hx6
  refine .run TBok 99 rfl ?_
  refine StL.setTwo rfl rfl rfl (fun _ _ => rfl) (fun _ _ => rfl) hq1 hm1 hx0 ?_
  intro b5 b6 w7 hne56 hg5 hg6 hx7 hS5 hS6 hq5 hm6 hx07
  replace hB1 := hB1.ext hx7
  replace hB2 := hB2.ext hx7
  replace ha := ha.ext hx7
  replace hb := hb.ext hx7
  clear hx7
  clear hx0 hq1 hm1
  refine .run TBok 99 rfl ?_
  (repeat with_reducible first|refine .nil ?_|refine .then_normal ?_|refine .block_normal ?_|refine .seq ?_|refine .block ?_|refine .skip ?_|refine .region ?_|refine .ret ?_|refine .then_ret ?_|refine .block_ret ?_|refine .exit ?_|refine .then_exit ?_|refine .block_exit ?_|refine .block_other rfl ?_)
  refine St.sub (E' := [(2, .pointer (some ⟨w.heap.size, 0, none⟩)), (3, .pointer (some ⟨w1.heap.size, 0, none⟩)), (5, .pointer (some ⟨b5, 0, none⟩)), (6, .pointer (some ⟨b6, 0, none⟩)), (7, .bool true)]) ?_ ⟨rfl, rfl, rfl, rfl, rfl, trivial⟩
  refine St.flow 26 TBfol (by kernel_rfl) rfl (by kernel_rfl) rfl True.intro ?_
  refine FL.run TBok 99 rfl ?_
  refine FL.one (L := []) rfl rfl rfl rfl rfl (fun _ hR => RunsTo.loadCan rfl (hR.blk hS6 (by simp)) hm6) ?_
  refine FL.callXE fn_integer_Sign rfl rfl rfl (fun w8 hx8 => CallF.mk rfl (sign_dn ((hm6.ext hx8).dn (by omega)))) ?_
  refine FL.as TBok 1 (.bool true) rfl (bool_true (by unfold signI; rw [if_neg (by omega)]; split <;> decide)) ?_
  refine FL.run TBok 99 rfl ?_
  refine FL.one (L := []) rfl rfl rfl rfl rfl (fun _ hR => RunsTo.loadCan rfl (hR.blk hS6 (by simp)) hm6) ?_
  refine FL.loadAgg (L := []) TBok rfl rfl rfl rfl rfl rfl (by first | assumption | exact Ext.refl _ | (apply Blk.ext; assumption; (repeat first | assumption | refine Ext.trans ?_ (by assumption))) | (apply CanO.ext; assumption; (repeat first | assumption | refine Ext.trans ?_ (by assumption))) | (apply Den.ext; assumption; (repeat first | assumption | refine Ext.trans ?_ (by assumption))) | (apply Sl.ext; assumption; (repeat first | assumption | refine Ext.trans ?_ (by assumption))) | (apply SlO.ext; assumption; (repeat first | assumption | refine Ext.trans ?_ (by assumption))) | (apply Dn.ext; assumption; (repeat first | assumption | refine Ext.trans ?_ (by assumption))) | (apply It.ext; assumption; (repeat first | assumption | refine Ext.trans ?_ (by assumption))) | (repeat first | assumption | refine Ext.trans ?_ (by assumption))) (by simp) (Nat.le_refl _) rfl ?_
  refine FL.callE fn_r01_Abs rfl rfl rfl (fun w8 hx8 => CallF.mk rfl (rabs_dn (base := 0) (hb.ext hx8) (Nat.zero_le _))) (MonoR.canO 0 _) ?_
  refine FL.callXE fn_r01_Cmp rfl rfl rfl (fun w8 hx8 v36 h36 => CallF.mk rfl (rcmp_dn ((hm6.ext hx8).dn (by omega)) (h36.dn (by omega)))) ?_
  refine FL.as TBok 1 (.bool true) rfl (bool_true (by unfold cmpI; rw [if_pos (by omega)]; decide)) ?_
  refine FL.run TBok 99 rfl ?_
  refine FL.one (L := []) rfl rfl rfl rfl rfl (fun _ hR => RunsTo.loadCan rfl (hR.blk hS5 (by simp)) hq5) ?_
  refine FL.loadAgg (L := []) TBok rfl rfl rfl rfl rfl rfl (by first | assumption | exact Ext.refl _ | (apply Blk.ext; assumption; (repeat first | assumption | refine Ext.trans ?_ (by assumption))) | (apply CanO.ext; assumption; (repeat first | assumption | refine Ext.trans ?_ (by assumption))) | (apply Den.ext; assumption; (repeat first | assumption | refine Ext.trans ?_ (by assumption))) | (apply Sl.ext; assumption; (repeat first | assumption | refine Ext.trans ?_ (by assumption))) | (apply SlO.ext; assumption; (repeat first | assumption | refine Ext.trans ?_ (by assumption))) | (apply Dn.ext; assumption; (repeat first | assumption | refine Ext.trans ?_ (by assumption))) | (apply It.ext; assumption; (repeat first | assumption | refine Ext.trans ?_ (by assumption))) | (repeat first | assumption | refine Ext.trans ?_ (by assumption))) (by simp) (Nat.le_refl _) rfl ?_
  refine FL.callE fn_r01_Mul rfl rfl rfl (fun w8 hx8 => CallF.mk rfl (rmul_dn (base := 0) ((hq5.ext hx8).dn (by omega)) (hb.ext hx8) (Nat.zero_le _))) (MonoR.canO 0 _) ?_
  refine FL.one (L := []) rfl rfl rfl rfl rfl (fun _ hR => RunsTo.loadCan rfl (hR.blk hS6 (by simp)) hm6) ?_
  refine FL.callE fn_r01_Add rfl rfl rfl (fun w8 hx8 v43 h43 => CallF.mk rfl (radd_dn (base := 0) (h43.dn (by omega)) ((hm6.ext hx8).dn (by omega)) (Nat.zero_le _))) (MonoR.canO 0 _) ?_
  refine FL.loadAgg (L := []) TBok rfl rfl rfl rfl rfl rfl (by first | assumption | exact Ext.refl _ | (apply Blk.ext; assumption; (repeat first | assumption | refine Ext.trans ?_ (by assumption))) | (apply CanO.ext; assumption; (repeat first | assumption | refine Ext.trans ?_ (by assumption))) | (apply Den.ext; assumption; (repeat first | assumption | refine Ext.trans ?_ (by assumption))) | (apply Sl.ext; assumption; (repeat first | assumption | refine Ext.trans ?_ (by assumption))) | (apply SlO.ext; assumption; (repeat first | assumption | refine Ext.trans ?_ (by assumption))) | (apply Dn.ext; assumption; (repeat first | assumption | refine Ext.trans ?_ (by assumption))) | (apply It.ext; assumption; (repeat first | assumption | refine Ext.trans ?_ (by assumption))) | (repeat first | assumption | refine Ext.trans ?_ (by assumption))) (by simp) (Nat.le_refl _) rfl ?_
  refine FL.callE fn_r01_Normalize rfl rfl rfl (fun w8 hx8 => CallF.mk rfl (rnormalize_dn (base := 0) (ha.ext hx8) (Nat.zero_le _))) (MonoR.canO 0 _) ?_
  have hdm : a / b * b + a % b = a := Int.ediv_mul_add_emod a b
  refine FL.callXE fn_r01_Same rfl rfl rfl (fun w8 hx8 v45 h45 v47 h47 => CallF.mk rfl (same_true (hdm ▸ h45) h47 (by omega))) ?_
  refine FL.run TBok 99 rfl ?_
  refine FL.callXE fn_w01_awake rfl rfl rfl (fun w8 hx8 => CallF.mk rfl (awake_spec w8)) ?_
  refine FL.run TBok 99 rfl ?_
  refine FL.endE rfl ?_
  intro w8 hx8 _ _ _ _ _ _ _ _ _ _
  (iterate 6 ((repeat with_reducible first|refine .nil ?_|refine .then_normal ?_|refine .block_normal ?_|refine .seq ?_|refine .block ?_|refine .skip ?_|refine .region ?_|refine .ret ?_|refine .then_ret ?_|refine .block_ret ?_|refine .exit ?_|refine .then_exit ?_|refine .block_exit ?_|refine .block_other rfl ?_); try refine .run TBok 99 rfl ?_))
  exact Out.ret1 rfl rfl ⟨hx07.trans hx8, rfl⟩

end Go.Qf

/- The law IntegerSquares: the walk. -/
namespace Go.Qf
open Go Go.RowKit Go.Proofs

theorem root_eq {m x y : Nat} (h : IsRoot m x) (hy1 : y * y ≤ m) (hy2 : m < (y + 1) * (y + 1)) : x = y := by
  obtain ⟨h1, h2⟩ := h
  rcases Nat.lt_trichotomy x y with hlt | heq | hgt
  · have := Nat.mul_le_mul (show x + 1 ≤ y from hlt) (show x + 1 ≤ y from hlt)
    omega
  · exact heq
  · have := Nat.mul_le_mul (show y + 1 ≤ x from hgt) (show y + 1 ≤ x from hgt)
    omega

theorem SqrtV.rooted {w : World} {r : Value} {a : Int} {y : Nat} (h : SqrtV w r a) (h0 : 0 ≤ a) (hy1 : y * y ≤ a.natAbs) (hy2 : a.natAbs < (y + 1) * (y + 1)) : ∃ v, r = .tuple #[v, .bool true] ∧ Can w v (y : Int) := by
  obtain ⟨v, x, e, hr, hv⟩ := h.2 h0
  have := root_eq hr hy1 hy2
  subst this
  exact ⟨v, e, hv⟩

/-- A new variable with what a call has made. -/
theorem StL.setNew {base n : Nat} {E : List (Nat × Value)} {w w0 : World} {ops : Array Oper} {rest : List Oper} {Q : Exit → Act → World → Prop} {d s : Nat} {ty1 ty2 : TypeId} {p1 p2 : String} {a1 a2 : Array Edge} {u : Value} {x : Int}
    (hn : Nat.blt d n = true) (hs : ∀ p, look ((d, p) :: E) s = some u) (hu : CanO base w u x) (hx : Ext w0 w)
    (next : ∀ b w', w.heap.size ≤ b → Ext w w' → Blk 24 w' b u.cells.toList → CanO base w' u x → Ext w0 w' → StL Try.prog n ((d, .pointer (some ⟨b, 0, none⟩)) :: E) w' ops rest Q) :
    StL Try.prog n E w ops (⟨some d, .alloc 24, ty1, p1, a1, none⟩ :: ⟨none, .store 24 (.tmp d) (.tmp s), ty2, p2, a2, none⟩ :: rest) Q := by
  refine StL.step rfl rfl hn (OpR.alloc TBok rfl) ?_
  rintro _ w5 ⟨rfl, hb5, hx5, hz5⟩
  refine StL.setCan (look_cons_self _ _ _) (hs _) hb5 rfl (hu.ext hx5) hx5 (Nat.le_refl _) ?_
  intro w7 hS5 hu7 hu7c hx7
  exact next _ w7 (Nat.le_refl _) hx7 hS5 hu7c (hx.trans hx7)

set_option maxRecDepth 8000 in
set_option maxHeartbeats 400000 in
theorem lawSquares (w : World) (v : Value) (na : Bool) (xs : List Nat) (h : Den w v na xs) (u : Value) (nb : Bool) (ys : List Nat) (k : Den w u nb ys) : Calls Try.prog 9 #[v, u] w (Ret fun r w' => Ext w w' ∧ r = .bool true) := by
  have hD := h
  have kD := k
  obtain ⟨p, cap, rfl, hs⟩ := h
  obtain ⟨q, cb, rfl, ks⟩ := k
  refine calls_of_St (args := [_, _]) Try.func9 rfl Try.ntmps9 rfl ?_
  (repeat with_reducible first|refine .nil ?_|refine .then_normal ?_|refine .block_normal ?_|refine .seq ?_|refine .block ?_|refine .skip ?_|refine .region ?_|refine .ret ?_|refine .then_ret ?_|refine .block_ret ?_|refine .exit ?_|refine .then_exit ?_|refine .block_exit ?_|refine .block_other rfl ?_)
  refine StL.step rfl rfl rfl (OpR.box rfl) ?_
  rintro _ w1 ⟨rfl, hb1, hx1, hz1⟩
  refine StL.step rfl rfl rfl (OpR.box rfl) ?_
  rintro _ w2 ⟨rfl, hb2, hx2, hz2⟩
  (iterate 6 ((repeat with_reducible first|refine .nil ?_|refine .then_normal ?_|refine .block_normal ?_|refine .seq ?_|refine .block ?_|refine .skip ?_|refine .region ?_|refine .ret ?_|refine .then_ret ?_|refine .block_ret ?_|refine .exit ?_|refine .then_exit ?_|refine .block_exit ?_|refine .block_other rfl ?_); try refine .run TBok 99 rfl ?_))
  (refine StL.step rfl rfl rfl (RunsTo.load TBok rfl rfl rfl (Blk.cell (by first | assumption | exact Ext.refl _ | (apply Blk.ext; assumption; (repeat first | assumption | refine Ext.trans ?_ (by assumption))) | (apply CanO.ext; assumption; (repeat first | assumption | refine Ext.trans ?_ (by assumption))) | (apply Den.ext; assumption; (repeat first | assumption | refine Ext.trans ?_ (by assumption))) | (apply Sl.ext; assumption; (repeat first | assumption | refine Ext.trans ?_ (by assumption))) | (apply SlO.ext; assumption; (repeat first | assumption | refine Ext.trans ?_ (by assumption))) | (apply Dn.ext; assumption; (repeat first | assumption | refine Ext.trans ?_ (by assumption))) | (apply It.ext; assumption; (repeat first | assumption | refine Ext.trans ?_ (by assumption))) | (repeat first | assumption | refine Ext.trans ?_ (by assumption))) rfl)).op ?_; rintro _ _ ⟨rfl, rfl⟩)
  by_cases hlim0 : 10 < xs.length
  · refine StL.as TBok 2 (.bool true) rfl (bool_true (by omega)) ?_
    (iterate 6 ((repeat with_reducible first|refine .nil ?_|refine .then_normal ?_|refine .block_normal ?_|refine .seq ?_|refine .block ?_|refine .skip ?_|refine .region ?_|refine .ret ?_|refine .then_ret ?_|refine .block_ret ?_|refine .exit ?_|refine .then_exit ?_|refine .block_exit ?_|refine .block_other rfl ?_); try refine .run TBok 99 rfl ?_))
    refine St.condT rfl rfl ?_
    ((repeat with_reducible first|refine .nil ?_|refine .then_normal ?_|refine .block_normal ?_|refine .seq ?_|refine .block ?_|refine .skip ?_|refine .region ?_|refine .ret ?_|refine .then_ret ?_|refine .block_ret ?_|refine .exit ?_|refine .then_exit ?_|refine .block_exit ?_|refine .block_other rfl ?_); refine StL.awake rfl rfl ?_; intro wz hxz; (iterate 6 ((repeat with_reducible first|refine .nil ?_|refine .then_normal ?_|refine .block_normal ?_|refine .seq ?_|refine .block ?_|refine .skip ?_|refine .region ?_|refine .ret ?_|refine .then_ret ?_|refine .block_ret ?_|refine .exit ?_|refine .then_exit ?_|refine .block_exit ?_|refine .block_other rfl ?_); try refine .run TBok 99 rfl ?_)); exact Out.ret1 rfl rfl ⟨(by first | assumption | exact Ext.refl _ | (apply Blk.ext; assumption; (repeat first | assumption | refine Ext.trans ?_ (by assumption))) | (apply CanO.ext; assumption; (repeat first | assumption | refine Ext.trans ?_ (by assumption))) | (apply Den.ext; assumption; (repeat first | assumption | refine Ext.trans ?_ (by assumption))) | (apply Sl.ext; assumption; (repeat first | assumption | refine Ext.trans ?_ (by assumption))) | (apply SlO.ext; assumption; (repeat first | assumption | refine Ext.trans ?_ (by assumption))) | (apply Dn.ext; assumption; (repeat first | assumption | refine Ext.trans ?_ (by assumption))) | (apply It.ext; assumption; (repeat first | assumption | refine Ext.trans ?_ (by assumption))) | (repeat first | assumption | refine Ext.trans ?_ (by assumption))), rfl⟩)
  refine StL.as TBok 2 (.bool false) rfl (bool_false (by omega)) ?_
  refine .run TBok 99 rfl ?_
  (refine StL.step rfl rfl rfl (RunsTo.load TBok rfl rfl rfl (Blk.cell (by first | assumption | exact Ext.refl _ | (apply Blk.ext; assumption; (repeat first | assumption | refine Ext.trans ?_ (by assumption))) | (apply CanO.ext; assumption; (repeat first | assumption | refine Ext.trans ?_ (by assumption))) | (apply Den.ext; assumption; (repeat first | assumption | refine Ext.trans ?_ (by assumption))) | (apply Sl.ext; assumption; (repeat first | assumption | refine Ext.trans ?_ (by assumption))) | (apply SlO.ext; assumption; (repeat first | assumption | refine Ext.trans ?_ (by assumption))) | (apply Dn.ext; assumption; (repeat first | assumption | refine Ext.trans ?_ (by assumption))) | (apply It.ext; assumption; (repeat first | assumption | refine Ext.trans ?_ (by assumption))) | (repeat first | assumption | refine Ext.trans ?_ (by assumption))) rfl)).op ?_; rintro _ _ ⟨rfl, rfl⟩)
  by_cases hlim1 : 10 < ys.length
  · refine StL.as TBok 2 (.bool true) rfl (bool_true (by omega)) ?_
    (iterate 6 ((repeat with_reducible first|refine .nil ?_|refine .then_normal ?_|refine .block_normal ?_|refine .seq ?_|refine .block ?_|refine .skip ?_|refine .region ?_|refine .ret ?_|refine .then_ret ?_|refine .block_ret ?_|refine .exit ?_|refine .then_exit ?_|refine .block_exit ?_|refine .block_other rfl ?_); try refine .run TBok 99 rfl ?_))
    refine St.condT rfl rfl ?_
    ((repeat with_reducible first|refine .nil ?_|refine .then_normal ?_|refine .block_normal ?_|refine .seq ?_|refine .block ?_|refine .skip ?_|refine .region ?_|refine .ret ?_|refine .then_ret ?_|refine .block_ret ?_|refine .exit ?_|refine .then_exit ?_|refine .block_exit ?_|refine .block_other rfl ?_); refine StL.awake rfl rfl ?_; intro wz hxz; (iterate 6 ((repeat with_reducible first|refine .nil ?_|refine .then_normal ?_|refine .block_normal ?_|refine .seq ?_|refine .block ?_|refine .skip ?_|refine .region ?_|refine .ret ?_|refine .then_ret ?_|refine .block_ret ?_|refine .exit ?_|refine .then_exit ?_|refine .block_exit ?_|refine .block_other rfl ?_); try refine .run TBok 99 rfl ?_)); exact Out.ret1 rfl rfl ⟨(by first | assumption | exact Ext.refl _ | (apply Blk.ext; assumption; (repeat first | assumption | refine Ext.trans ?_ (by assumption))) | (apply CanO.ext; assumption; (repeat first | assumption | refine Ext.trans ?_ (by assumption))) | (apply Den.ext; assumption; (repeat first | assumption | refine Ext.trans ?_ (by assumption))) | (apply Sl.ext; assumption; (repeat first | assumption | refine Ext.trans ?_ (by assumption))) | (apply SlO.ext; assumption; (repeat first | assumption | refine Ext.trans ?_ (by assumption))) | (apply Dn.ext; assumption; (repeat first | assumption | refine Ext.trans ?_ (by assumption))) | (apply It.ext; assumption; (repeat first | assumption | refine Ext.trans ?_ (by assumption))) | (repeat first | assumption | refine Ext.trans ?_ (by assumption))), rfl⟩)
  refine StL.as TBok 2 (.bool false) rfl (bool_false (by omega)) ?_
  (iterate 6 ((repeat with_reducible first|refine .nil ?_|refine .then_normal ?_|refine .block_normal ?_|refine .seq ?_|refine .block ?_|refine .skip ?_|refine .region ?_|refine .ret ?_|refine .then_ret ?_|refine .block_ret ?_|refine .exit ?_|refine .then_exit ?_|refine .block_exit ?_|refine .block_other rfl ?_); try refine .run TBok 99 rfl ?_))
  refine St.condF rfl rfl ?_
  have hx0 : Ext w w2 := (by first | assumption | exact Ext.refl _ | (apply Blk.ext; assumption; (repeat first | assumption | refine Ext.trans ?_ (by assumption))) | (apply CanO.ext; assumption; (repeat first | assumption | refine Ext.trans ?_ (by assumption))) | (apply Den.ext; assumption; (repeat first | assumption | refine Ext.trans ?_ (by assumption))) | (apply Sl.ext; assumption; (repeat first | assumption | refine Ext.trans ?_ (by assumption))) | (apply SlO.ext; assumption; (repeat first | assumption | refine Ext.trans ?_ (by assumption))) | (apply Dn.ext; assumption; (repeat first | assumption | refine Ext.trans ?_ (by assumption))) | (apply It.ext; assumption; (repeat first | assumption | refine Ext.trans ?_ (by assumption))) | (repeat first | assumption | refine Ext.trans ?_ (by assumption)))
  have ha : Dn w2 _ (sg na (val xs)) := (hD.ext hx0).dn (by omega)
  have hDa : Den w2 _ na xs := hD.ext hx0
  have hsa := sz_den hD
  have hB1 : Blk 24 w2 w.heap.size _ := (hb1.ext hx2)
  have hb : Dn w2 _ (sg nb (val ys)) := (kD.ext hx0).dn (by omega)
  have hDb : Den w2 _ nb ys := kD.ext hx0
  have hsb := sz_den kD
  have hB2 : Blk 24 w2 w1.heap.size _ := hb2
  clear hb1 hb2 hx1 hx2 hz1 hz2
  generalize sg na (val xs) = a at *
  generalize sg nb (val ys) = b at *
  obtain ⟨x, hx⟩ : ∃ x, x = a.natAbs := ⟨_, rfl⟩
  have s1 : sz (x : Int) ≤ sz a := by rw [hx]; exact sz_nat_le (Nat.le_refl _)
  have s2 : sz ((b.natAbs : Nat) : Int) ≤ sz b := sz_nat_le (Nat.le_refl _)
  have s3 := sz_mul (x : Int) (x : Int)
  have s4 := sz_add (x : Int) (x : Int)
  have s5 := sz_add ((x : Int) + (x : Int)) 1
  have s6 := sz_rem0 (b.natAbs : Int) ((x : Int) + (x : Int) + 1)
  have s7 := sz_add ((x : Int) * (x : Int)) (rem0 (b.natAbs : Int) ((x : Int) + (x : Int) + 1))
  have s1a : sz 1 ≤ 2 := sz_small (by decide) (by decide)
  (repeat with_reducible first|refine .nil ?_|refine .then_normal ?_|refine .block_normal ?_|refine .seq ?_|refine .block ?_|refine .skip ?_|refine .region ?_|refine .ret ?_|refine .then_ret ?_|refine .block_ret ?_|refine .exit ?_|refine .then_exit ?_|refine .block_exit ?_|refine .block_other rfl ?_)
  refine StL.step rfl rfl rfl (RunsTo.loadInt rfl hB1 rfl rfl).op ?_
  rintro _ _ ⟨rfl, rfl⟩
  refine StL.step rfl rfl rfl (OpR.call fn_r01_Abs rfl (rabs_dn (base := 0) ha (Nat.zero_le _))) ?_
  rintro v24 w3 ⟨hx3, h24⟩
  rw [← hx] at h24
  replace hB2 := hB2.ext hx3
  replace hb := hb.ext hx3
  replace hx0 := hx0.trans hx3
  clear hx3
  refine StL.setNew rfl (fun _ => rfl) h24 hx0 ?_
  intro b5 w4 hg5 hx4 hS5 h24' hx04
  replace hB2 := hB2.ext hx4
  replace hb := hb.ext hx4
  clear hx4
  clear hx0 h24 hg5
  (repeat with_reducible first|refine .nil ?_|refine .then_normal ?_|refine .block_normal ?_|refine .seq ?_|refine .block ?_|refine .skip ?_|refine .region ?_|refine .ret ?_|refine .then_ret ?_|refine .block_ret ?_|refine .exit ?_|refine .then_exit ?_|refine .block_exit ?_|refine .block_other rfl ?_)
  refine StL.step rfl rfl rfl (RunsTo.loadCan rfl hS5 h24').op ?_
  rintro _ _ ⟨rfl, rfl⟩
  refine StL.step rfl rfl rfl (RunsTo.loadCan rfl hS5 h24').op ?_
  rintro _ _ ⟨rfl, rfl⟩
  refine StL.step rfl rfl rfl (OpR.call fn_r01_Mul rfl (rmul_dn (base := 0) (h24'.dn (by omega)) (h24'.dn (by omega)) (Nat.zero_le _))) ?_
  rintro v27 w5 ⟨hx5, h27⟩
  replace hB2 := hB2.ext hx5
  replace hb := hb.ext hx5
  replace hS5 := hS5.ext hx5
  replace h24' := h24'.ext hx5
  replace hx04 := hx04.trans hx5
  clear hx5
  refine StL.setNew rfl (fun _ => rfl) h27 hx04 ?_
  intro b6 w6 hg6 hx6 hS6 h27' hx06
  replace hB2 := hB2.ext hx6
  replace hb := hb.ext hx6
  replace hS5 := hS5.ext hx6
  replace h24' := h24'.ext hx6
  clear hx6
  clear hx04 h27 hg6
  (repeat with_reducible first|refine .nil ?_|refine .then_normal ?_|refine .block_normal ?_|refine .seq ?_|refine .block ?_|refine .skip ?_|refine .region ?_|refine .ret ?_|refine .then_ret ?_|refine .block_ret ?_|refine .exit ?_|refine .then_exit ?_|refine .block_exit ?_|refine .block_other rfl ?_)
  refine St.sub (E' := [(3, .pointer (some ⟨w1.heap.size, 0, none⟩)), (5, .pointer (some ⟨b5, 0, none⟩)), (6, .pointer (some ⟨b6, 0, none⟩))]) ?_ ⟨rfl, rfl, rfl, trivial⟩
  refine St.flow 9 TBfol (by kernel_rfl) rfl (by kernel_rfl) rfl True.intro ?_
  refine FL.run TBok 99 rfl ?_
  refine FL.loadAgg (L := []) TBok rfl rfl rfl rfl rfl rfl (by first | assumption | exact Ext.refl _ | (apply Blk.ext; assumption; (repeat first | assumption | refine Ext.trans ?_ (by assumption))) | (apply CanO.ext; assumption; (repeat first | assumption | refine Ext.trans ?_ (by assumption))) | (apply Den.ext; assumption; (repeat first | assumption | refine Ext.trans ?_ (by assumption))) | (apply Sl.ext; assumption; (repeat first | assumption | refine Ext.trans ?_ (by assumption))) | (apply SlO.ext; assumption; (repeat first | assumption | refine Ext.trans ?_ (by assumption))) | (apply Dn.ext; assumption; (repeat first | assumption | refine Ext.trans ?_ (by assumption))) | (apply It.ext; assumption; (repeat first | assumption | refine Ext.trans ?_ (by assumption))) | (repeat first | assumption | refine Ext.trans ?_ (by assumption))) (by simp) (Nat.le_refl _) rfl ?_
  refine FL.callE fn_r01_Abs rfl rfl rfl (fun w7 hx7 => CallF.mk rfl (rabs_dn (base := 0) (hb.ext hx7) (Nat.zero_le _))) (MonoR.canO 0 _) ?_
  refine FL.one (L := []) rfl rfl rfl rfl rfl (fun _ hR => RunsTo.loadCan rfl (hR.blk hS5 (by simp)) h24') ?_
  refine FL.one (L := []) rfl rfl rfl rfl rfl (fun _ hR => RunsTo.loadCan rfl (hR.blk hS5 (by simp)) h24') ?_
  refine FL.callE fn_r01_Add rfl rfl rfl (fun w7 hx7 => CallF.mk rfl (radd_dn (base := 0) ((h24'.ext hx7).dn (by omega)) ((h24'.ext hx7).dn (by omega)) (Nat.zero_le _))) (MonoR.canO 0 _) ?_
  refine FL.callE fn_r01_Small rfl rfl rfl (fun w7 hx7 => CallF.mk rfl (rsmall_spec (base := 0) w7 1 (by decide) (by decide) (Nat.zero_le _))) (MonoR.canO 0 _) ?_
  refine FL.callE fn_r01_Add rfl rfl rfl (fun w7 hx7 v32 h32 v33 h33 => CallF.mk rfl (radd_dn (base := 0) (h32.dn (by omega)) (h33.dn (by omega)) (Nat.zero_le _))) (MonoR.canO 0 _) ?_
  refine FL.callE fn_r01_Rem rfl rfl rfl (fun w7 hx7 v29 h29 v34 h34 => CallF.mk rfl (rrem_dn (h29.dn (by omega)) (h34.dn (by omega)))) (MonoR.canO 0 _) ?_
  refine FL.alloc TBok rfl rfl rfl rfl ?_
  refine FL.endE rfl ?_
  rintro w7 hx7 _ ⟨b7, C7, rfl, hg7, hB7, hl7⟩ v35 h35 v34 _ v33 _ v32 _ v29 _ _ _
  refine StL.setCan rfl rfl hB7 hl7 h35 hx7 hg7 ?_
  intro w8 hS7 hu8 h35' hx8
  replace hS5 := hS5.ext hx8
  replace h24' := h24'.ext hx8
  replace hS6 := hS6.ext hx8
  replace h27' := h27'.ext hx8
  replace hx06 := hx06.trans hx8
  clear hx8
  clear hx7 hB7 hu8 h35
  obtain ⟨e, he⟩ : ∃ e, e = b.natAbs % (2 * x + 1) := ⟨_, rfl⟩
  have he2 : e ≤ 2 * x := by have := Nat.mod_lt b.natAbs (show 0 < 2 * x + 1 by omega); omega
  have erem : rem0 (b.natAbs : Int) ((x : Int) + (x : Int) + 1) = (e : Int) := by
    have := rem0_nat b.natAbs (2 * x + 1) (by omega)
    rw [← he] at this
    rw [← this]
    congr 1
    omega
  rw [erem] at h35' s6 s7
  (repeat with_reducible first|refine .nil ?_|refine .then_normal ?_|refine .block_normal ?_|refine .seq ?_|refine .block ?_|refine .skip ?_|refine .region ?_|refine .ret ?_|refine .then_ret ?_|refine .block_ret ?_|refine .exit ?_|refine .then_exit ?_|refine .block_exit ?_|refine .block_other rfl ?_)
  refine StL.step rfl rfl rfl (RunsTo.loadCan rfl hS6 h27').op ?_
  rintro _ _ ⟨rfl, rfl⟩
  refine StL.step rfl rfl rfl (OpR.call fn_integer_Sqrt rfl (sqrt_dn (h27'.dn (by omega)))) ?_
  rintro _ w9 ⟨hx9, hsq⟩
  have hxx : ((x : Int) * (x : Int)).natAbs = x * x := by rw [← Int.natCast_mul]; rfl
  obtain ⟨v38, rfl, h38⟩ := hsq.rooted (y := x) (Int.mul_nonneg (by omega) (by omega)) (by rw [hxx]; exact Nat.le_refl _) (by rw [hxx]; exact Nat.mul_lt_mul'' (Nat.lt_succ_self _) (Nat.lt_succ_self _))
  replace hS5 := hS5.ext hx9
  replace h24' := h24'.ext hx9
  replace hS6 := hS6.ext hx9
  replace h27' := h27'.ext hx9
  replace hS7 := hS7.ext hx9
  replace h35' := h35'.ext hx9
  replace hx06 := hx06.trans hx9
  clear hx9
  refine .run TBok 99 rfl ?_
  refine StL.setNew rfl (fun _ => rfl) h38 hx06 ?_
  intro b8 w10 hg8 hx10 hS8 h38' hx010
  replace hS5 := hS5.ext hx10
  replace h24' := h24'.ext hx10
  replace hS6 := hS6.ext hx10
  replace h27' := h27'.ext hx10
  replace hS7 := hS7.ext hx10
  replace h35' := h35'.ext hx10
  clear hx10
  clear hx06 h38 hg8
  refine .run TBok 99 rfl ?_
  (repeat with_reducible first|refine .nil ?_|refine .then_normal ?_|refine .block_normal ?_|refine .seq ?_|refine .block ?_|refine .skip ?_|refine .region ?_|refine .ret ?_|refine .then_ret ?_|refine .block_ret ?_|refine .exit ?_|refine .then_exit ?_|refine .block_exit ?_|refine .block_other rfl ?_)
  refine StL.step rfl rfl rfl (RunsTo.loadCan rfl hS6 h27').op ?_
  rintro _ _ ⟨rfl, rfl⟩
  refine StL.step rfl rfl rfl (RunsTo.loadCan rfl hS7 h35').op ?_
  rintro _ _ ⟨rfl, rfl⟩
  refine StL.step rfl rfl rfl (OpR.call fn_r01_Add rfl (radd_dn (base := 0) (h27'.dn (by omega)) (h35'.dn (by omega)) (Nat.zero_le _))) ?_
  rintro v44 w11 ⟨hx11, h44⟩
  refine StL.step rfl rfl rfl (OpR.call fn_integer_Sqrt rfl (sqrt_dn (h44.dn (by omega)))) ?_
  rintro _ w12 ⟨hx12, hsq2⟩
  have hxe : ((x : Int) * (x : Int) + (e : Int)).natAbs = x * x + e := by rw [← Int.natCast_mul, ← Int.natCast_add]; rfl
  obtain ⟨v45, rfl, h45⟩ := hsq2.rooted (y := x) (Int.add_nonneg (Int.mul_nonneg (by omega) (by omega)) (by omega)) (by rw [hxe]; omega) (by rw [hxe, Nat.add_mul, Nat.mul_add]; omega)
  have hx1012 := hx11.trans hx12
  replace hS5 := hS5.ext hx1012
  replace h24' := h24'.ext hx1012
  replace hS8 := hS8.ext hx1012
  replace h38' := h38'.ext hx1012
  replace hx010 := hx010.trans hx1012
  clear hx1012
  refine .run TBok 99 rfl ?_
  refine StL.setNew rfl (fun _ => rfl) h45 hx010 ?_
  intro b10 w13 hg10 hx13 hS10 h45' hx013
  replace hS5 := hS5.ext hx13
  replace h24' := h24'.ext hx13
  replace hS8 := hS8.ext hx13
  replace h38' := h38'.ext hx13
  clear hx13
  refine .run TBok 99 rfl ?_
  (repeat with_reducible first|refine .nil ?_|refine .then_normal ?_|refine .block_normal ?_|refine .seq ?_|refine .block ?_|refine .skip ?_|refine .region ?_|refine .ret ?_|refine .then_ret ?_|refine .block_ret ?_|refine .exit ?_|refine .then_exit ?_|refine .block_exit ?_|refine .block_other rfl ?_)
  refine .run TBok 99 rfl ?_
  refine StL.step rfl rfl rfl (RunsTo.loadCan rfl hS8 h38').op ?_
  rintro _ _ ⟨rfl, rfl⟩
  refine StL.step rfl rfl rfl (RunsTo.loadCan rfl hS5 h24').op ?_
  rintro _ _ ⟨rfl, rfl⟩
  refine StL.step rfl rfl rfl (OpR.call fn_r01_Same rfl (same_true h38' h24' (by omega))) ?_
  rintro _ w14 ⟨hx14, rfl⟩
  replace hS5 := hS5.ext hx14
  replace h24' := h24'.ext hx14
  replace hS10 := hS10.ext hx14
  replace h45' := h45'.ext hx14
  replace hx013 := hx013.trans hx14
  clear hx14
  refine .run TBok 99 rfl ?_
  refine StL.step rfl rfl rfl (RunsTo.loadCan rfl hS10 h45').op ?_
  rintro _ _ ⟨rfl, rfl⟩
  refine StL.step rfl rfl rfl (RunsTo.loadCan rfl hS5 h24').op ?_
  rintro _ _ ⟨rfl, rfl⟩
  refine StL.step rfl rfl rfl (OpR.call fn_r01_Same rfl (same_true h45' h24' (by omega))) ?_
  rintro _ w15 ⟨hx15, rfl⟩
  refine .run TBok 99 rfl ?_
  refine StL.awake rfl rfl ?_
  intro w16 hx16
  (iterate 6 ((repeat with_reducible first|refine .nil ?_|refine .then_normal ?_|refine .block_normal ?_|refine .seq ?_|refine .block ?_|refine .skip ?_|refine .region ?_|refine .ret ?_|refine .then_ret ?_|refine .block_ret ?_|refine .exit ?_|refine .then_exit ?_|refine .block_exit ?_|refine .block_other rfl ?_); try refine .run TBok 99 rfl ?_))
  exact Out.ret1 rfl rfl ⟨(hx013.trans hx15).trans hx16, rfl⟩

end Go.Qf

/- integer.Pow, quadformref01.Pow. -/
namespace Go.Qf
open Go Go.RowKit Go.Proofs

def pow0 (a n : Int) : Int := if 0 ≤ n ∧ n ≤ 64 then a ^ n.toNat else 0

/-- What Pow hands back. -/
def PowV (w : World) (r : Value) (a n : Int) : Prop := ∃ v, r = .tuple #[v, .bool (decide (0 ≤ n ∧ n ≤ 64))] ∧ CanO 0 w v (pow0 a n)

theorem sz_one : sz 1 = 1 := by decide +kernel
theorem sz_pow (a : Int) (n : Nat) : sz (a ^ n) ≤ n * sz a + 1 := by
  induction n with
  | zero => simp [sz_one]
  | succ n ih =>
    rw [Int.pow_succ]
    have := sz_mul (a ^ n) a
    rw [Nat.add_mul]
    omega

theorem sz_pow0 (a n : Int) : sz (pow0 a n) ≤ 64 * sz a + 1 := by
  unfold pow0
  split
  · rename_i h
    refine Nat.le_trans (sz_pow a n.toNat) ?_
    have : n.toNat * sz a ≤ 64 * sz a := Nat.mul_le_mul_right _ (by omega)
    omega
  · exact Nat.zero_le _

theorem and_bit64 : ∀ n, n < 65 → ∀ k, k < 7 → bitsI .and .i64 ((n : Nat) : Int) ((2 ^ k : Nat) : Int) = ((n / 2 ^ k % 2 * 2 ^ k : Nat) : Int) := by decide +kernel

theorem pow_half (a : Int) (n k : Nat) : a ^ (n / 2 ^ k) = a ^ (n / 2 ^ (k + 1)) * a ^ (n / 2 ^ (k + 1)) * (if n / 2 ^ k % 2 = 0 then 1 else a) := by
  have h := half_step n k
  have h2 : n / 2 ^ k % 2 = 0 ∨ n / 2 ^ k % 2 = 1 := by omega
  rcases h2 with e | e
  · rw [if_pos e, Int.mul_one]
    rw [e] at h
    conv => lhs; rw [h]
    rw [Nat.add_zero, Nat.two_mul, Int.pow_add]
  · rw [if_neg (by omega)]
    rw [e] at h
    conv => lhs; rw [h]
    rw [Int.pow_succ, Nat.two_mul, Int.pow_add]

set_option maxRecDepth 8000 in
set_option maxHeartbeats 400000 in
theorem pow_dn {w : World} {x : Value} {a n : Int} (h : Dn w x a) (hsa : sz a ≤ 5000) (hn : -9223372036854775808 ≤ n ∧ n ≤ 9223372036854775807) : Calls Try.prog 56 #[x, .int .i64 n] w (Ret fun r w' => Ext w w' ∧ PowV w' r a n) := by
  have hD := h
  obtain ⟨na, xs, ⟨p, cap, rfl, hs⟩, hva, hlen⟩ := h
  refine calls_of_St (args := [_, _]) Try.func56 rfl Try.ntmps56 rfl ?_
  (repeat with_reducible first|refine .nil ?_|refine .then_normal ?_|refine .block_normal ?_|refine .seq ?_|refine .block ?_|refine .skip ?_|refine .region ?_|refine .ret ?_|refine .then_ret ?_|refine .block_ret ?_|refine .exit ?_|refine .then_exit ?_|refine .block_exit ?_|refine .block_other rfl ?_)
  refine StL.step rfl rfl rfl (OpR.box rfl) ?_
  rintro _ w1 ⟨rfl, hb1, hx1, hz1⟩
  refine StL.step rfl rfl rfl (OpR.alloc TBok rfl) ?_
  rintro _ w2 ⟨rfl, hb2, hx2, hz2⟩
  have hB1 := hb1.ext hx2
  have hx02 := hx1.trans hx2
  have ha := hD.ext hx02
  have hs1 := hx1.size
  refine .run TBok 99 rfl ?_
  (repeat with_reducible first|refine .nil ?_|refine .then_normal ?_|refine .block_normal ?_|refine .seq ?_|refine .block ?_|refine .skip ?_|refine .region ?_|refine .ret ?_|refine .then_ret ?_|refine .block_ret ?_|refine .exit ?_|refine .then_exit ?_|refine .block_exit ?_|refine .block_other rfl ?_)
  by_cases hneg : n < 0
  · refine StL.as TBok 2 (.bool true) rfl (bool_true (by omega)) ?_
    (iterate 6 ((repeat with_reducible first|refine .nil ?_|refine .then_normal ?_|refine .block_normal ?_|refine .seq ?_|refine .block ?_|refine .skip ?_|refine .region ?_|refine .ret ?_|refine .then_ret ?_|refine .block_ret ?_|refine .exit ?_|refine .then_exit ?_|refine .block_exit ?_|refine .block_other rfl ?_); try refine .run TBok 99 rfl ?_))
    refine St.condT rfl rfl ?_
    (iterate 6 ((repeat with_reducible first|refine .nil ?_|refine .then_normal ?_|refine .block_normal ?_|refine .seq ?_|refine .block ?_|refine .skip ?_|refine .region ?_|refine .ret ?_|refine .then_ret ?_|refine .block_ret ?_|refine .exit ?_|refine .then_exit ?_|refine .block_exit ?_|refine .block_other rfl ?_); try refine .run TBok 99 rfl ?_))
    refine StL.step rfl rfl rfl (RunsTo.build TBok rfl rfl rfl rfl).op ?_
    rintro _ _ ⟨rfl, rfl⟩
    refine StL.step0 rfl rfl (OpR.store TBok (vs := [.bool false, .slice none 0 0]) rfl rfl rfl rfl rfl hb2 (Nat.le_refl _) (by simp [Value.oneCell'])) ?_
    rintro _ w4 ⟨hb4, hu4⟩
    (iterate 6 ((repeat with_reducible first|refine .nil ?_|refine .then_normal ?_|refine .block_normal ?_|refine .seq ?_|refine .block ?_|refine .skip ?_|refine .region ?_|refine .ret ?_|refine .then_ret ?_|refine .block_ret ?_|refine .exit ?_|refine .then_exit ?_|refine .block_exit ?_|refine .block_other rfl ?_); try refine .run TBok 99 rfl ?_))
    refine Out.rets TBok [IntV false (.slice none 0 0), .bool false] rfl ⟨⟨_, _, _, _, rfl, hb4, rfl, rfl, rfl, rfl⟩, rfl, trivial⟩ ⟨hx02.then_upd hu4 hs1, IntV false (.slice none 0 0), ?_, ?_⟩
    · rw [decide_eq_false (by omega)]; rfl
    · unfold pow0; rw [if_neg (by omega)]; exact canO_zero _ _
  refine StL.as TBok 2 (.bool false) rfl (bool_false (by omega)) ?_
  by_cases hbig : 64 < n
  · refine StL.as TBok 3 (.bool true) rfl (bool_true (by omega)) ?_
    (iterate 6 ((repeat with_reducible first|refine .nil ?_|refine .then_normal ?_|refine .block_normal ?_|refine .seq ?_|refine .block ?_|refine .skip ?_|refine .region ?_|refine .ret ?_|refine .then_ret ?_|refine .block_ret ?_|refine .exit ?_|refine .then_exit ?_|refine .block_exit ?_|refine .block_other rfl ?_); try refine .run TBok 99 rfl ?_))
    refine St.condT rfl rfl ?_
    (iterate 6 ((repeat with_reducible first|refine .nil ?_|refine .then_normal ?_|refine .block_normal ?_|refine .seq ?_|refine .block ?_|refine .skip ?_|refine .region ?_|refine .ret ?_|refine .then_ret ?_|refine .block_ret ?_|refine .exit ?_|refine .then_exit ?_|refine .block_exit ?_|refine .block_other rfl ?_); try refine .run TBok 99 rfl ?_))
    refine StL.step rfl rfl rfl (RunsTo.build TBok rfl rfl rfl rfl).op ?_
    rintro _ _ ⟨rfl, rfl⟩
    refine StL.step0 rfl rfl (OpR.store TBok (vs := [.bool false, .slice none 0 0]) rfl rfl rfl rfl rfl hb2 (Nat.le_refl _) (by simp [Value.oneCell'])) ?_
    rintro _ w4 ⟨hb4, hu4⟩
    (iterate 6 ((repeat with_reducible first|refine .nil ?_|refine .then_normal ?_|refine .block_normal ?_|refine .seq ?_|refine .block ?_|refine .skip ?_|refine .region ?_|refine .ret ?_|refine .then_ret ?_|refine .block_ret ?_|refine .exit ?_|refine .then_exit ?_|refine .block_exit ?_|refine .block_other rfl ?_); try refine .run TBok 99 rfl ?_))
    refine Out.rets TBok [IntV false (.slice none 0 0), .bool false] rfl ⟨⟨_, _, _, _, rfl, hb4, rfl, rfl, rfl, rfl⟩, rfl, trivial⟩ ⟨hx02.then_upd hu4 hs1, IntV false (.slice none 0 0), ?_, ?_⟩
    · rw [decide_eq_false (by omega)]; rfl
    · unfold pow0; rw [if_neg (by omega)]; exact canO_zero _ _
  refine StL.as TBok 3 (.bool false) rfl (bool_false (by omega)) ?_
  (iterate 6 ((repeat with_reducible first|refine .nil ?_|refine .then_normal ?_|refine .block_normal ?_|refine .seq ?_|refine .block ?_|refine .skip ?_|refine .region ?_|refine .ret ?_|refine .then_ret ?_|refine .block_ret ?_|refine .exit ?_|refine .then_exit ?_|refine .block_exit ?_|refine .block_other rfl ?_); try refine .run TBok 99 rfl ?_))
  refine St.condF rfl rfl ?_
  obtain ⟨m, rfl⟩ : ∃ m : Nat, n = m := ⟨n.toNat, by omega⟩
  have hm : m ≤ 64 := by omega
  have hp0 : pow0 a (m : Int) = a ^ m := by unfold pow0; rw [if_pos (by omega)]; rfl
  have hmul : ∀ e, e ≤ 64 → sz (a ^ e) ≤ 320001 := fun e he => by
    refine Nat.le_trans (sz_pow a e) ?_
    have := Nat.mul_le_mul he hsa
    omega
  have hsz2 : ∀ k, sz (a ^ (m / 2 ^ k)) ≤ 320001 := fun k => hmul _ (Nat.le_trans (Nat.div_le_self _ _) hm)
  (repeat with_reducible first|refine .nil ?_|refine .then_normal ?_|refine .block_normal ?_|refine .seq ?_|refine .block ?_|refine .skip ?_|refine .region ?_|refine .ret ?_|refine .then_ret ?_|refine .block_ret ?_|refine .exit ?_|refine .then_exit ?_|refine .block_exit ?_|refine .block_other rfl ?_)
  refine StL.step rfl rfl rfl (OpR.call fn_integer_Small rfl (small_spec w2 1 (by decide) (by decide))) ?_
  rintro v15 w3 ⟨hx3, h15⟩
  have hB23 : Blk 24 w3 w1.heap.size [.bool false, .slice none 0 0] := hb2.ext hx3
  have hlt2 := hb2.lt
  replace hB1 := hB1.ext hx3
  replace ha := ha.ext hx3
  replace hx02 := hx02.trans hx3
  clear hx3
  refine StL.setNew rfl (fun _ => rfl) h15 hx02 ?_
  intro b6 w4 hg6 hx4 hS6 h15' hx04
  have hl3 : w1.heap.size < w3.heap.size := hB23.lt
  replace hB1 := hB1.ext hx4
  replace hB23 := hB23.ext hx4
  replace ha := ha.ext hx4
  clear hx4
  clear hx02 h15
  (iterate 6 ((repeat with_reducible first|refine .nil ?_|refine .then_normal ?_|refine .block_normal ?_|refine .seq ?_|refine .block ?_|refine .skip ?_|refine .region ?_|refine .ret ?_|refine .then_ret ?_|refine .block_ret ?_|refine .exit ?_|refine .then_exit ?_|refine .block_exit ?_|refine .block_other rfl ?_); try refine .run TBok 99 rfl ?_))
  refine St.loop (fun g : Value × Nat => [(1, .int .i64 m), (2, .pointer (some ⟨w.heap.size, 0, none⟩)), (4, .pointer (some ⟨w1.heap.size, 0, none⟩)), (6, .pointer (some ⟨b6, 0, none⟩)), (7, .int .i64 ((2 ^ g.2 / 2 : Nat) : Int))])
    (fun g w' => Ext w w' ∧ Blk 24 w' b6 g.1.cells.toList ∧ CanO 0 w' g.1 (a ^ (m / 2 ^ g.2)) ∧ Blk 24 w' w.heap.size [.bool na, .slice p xs.length cap] ∧ Blk 24 w' w1.heap.size [.bool false, .slice none 0 0] ∧ g.2 ≤ 7)
    (fun g => g.2) (v15, 7) ⟨rfl, rfl, rfl, rfl, congrArg (fun z => some (Value.int .i64 z)) (by decide : (64 : Int) = ((2 ^ 7 / 2 : Nat) : Int)), trivial⟩ ⟨hx04, hS6, ?_, hB1, hB23, Nat.le_refl _⟩ ?_
  · have e : m / 2 ^ 7 = 0 := Nat.div_eq_of_lt (by omega)
    dsimp only
    rw [e, Int.pow_zero]
    exact h15'
  clear hx04 hS6 h15' hB1 hB23 ha
  rintro ⟨v6, k⟩ w5 ⟨hx5, hS6, h6, hB1, hB2, hk⟩
  dsimp only at hx5 hS6 h6 hB1 hB2 hk ⊢
  have hlt1 := hB1.lt
  by_cases hk0 : k = 0
  · subst hk0
    (repeat with_reducible first|refine .nil ?_|refine .then_normal ?_|refine .block_normal ?_|refine .seq ?_|refine .block ?_|refine .skip ?_|refine .region ?_|refine .ret ?_|refine .then_ret ?_|refine .block_ret ?_|refine .exit ?_|refine .then_exit ?_|refine .block_exit ?_|refine .block_other rfl ?_)
    refine StL.as TBok 2 (.bool false) rfl (bool_false (by decide)) ?_
    (repeat with_reducible first|refine .nil ?_|refine .then_normal ?_|refine .block_normal ?_|refine .seq ?_|refine .block ?_|refine .skip ?_|refine .region ?_|refine .ret ?_|refine .then_ret ?_|refine .block_ret ?_|refine .exit ?_|refine .then_exit ?_|refine .block_exit ?_|refine .block_other rfl ?_)
    refine St.condF rfl rfl ?_
    (iterate 6 ((repeat with_reducible first|refine .nil ?_|refine .then_normal ?_|refine .block_normal ?_|refine .seq ?_|refine .block ?_|refine .skip ?_|refine .region ?_|refine .ret ?_|refine .then_ret ?_|refine .block_ret ?_|refine .exit ?_|refine .then_exit ?_|refine .block_exit ?_|refine .block_other rfl ?_); try refine .run TBok 99 rfl ?_))
    refine StL.step rfl rfl rfl (RunsTo.loadCan rfl hS6 h6).op ?_
    rintro _ _ ⟨rfl, rfl⟩
    refine StL.setCan rfl rfl hB2 rfl h6 hx5 hs1 ?_
    intro w6 hb6 hu6 h6' hx6
    (iterate 6 ((repeat with_reducible first|refine .nil ?_|refine .then_normal ?_|refine .block_normal ?_|refine .seq ?_|refine .block ?_|refine .skip ?_|refine .region ?_|refine .ret ?_|refine .then_ret ?_|refine .block_ret ?_|refine .exit ?_|refine .then_exit ?_|refine .block_exit ?_|refine .block_other rfl ?_); try refine .run TBok 99 rfl ?_))
    refine Out.rets TBok [v6, .bool true] rfl ⟨⟨_, _, _, _, rfl, hb6, rfl, rfl, h6'.two.1, by simpa using h6'.agg⟩, rfl, trivial⟩ ⟨hx6, v6, ?_, ?_⟩
    · rw [decide_eq_true (by omega)]; rfl
    · rw [hp0]; simpa using h6'
  obtain ⟨j, rfl⟩ : ∃ j, k = j + 1 := ⟨k - 1, by omega⟩
  have hpow : 2 ^ (j + 1) / 2 = 2 ^ j := by rw [Nat.pow_succ]; omega
  have hppos : 0 < 2 ^ j := Nat.pow_pos (by decide)
  have hple : 2 ^ j ≤ 2 ^ 6 := Nat.pow_le_pow_right (by decide) (by omega)
  rw [hpow]
  have hA5 : Dn w5 (IntV na (.slice p xs.length cap)) a := hD.ext hx5
  have hs6 := hsz2 (j + 1)
  have hsq := sz_mul (a ^ (m / 2 ^ (j + 1))) (a ^ (m / 2 ^ (j + 1)))
  have hph := pow_half a m j
  (repeat with_reducible first|refine .nil ?_|refine .then_normal ?_|refine .block_normal ?_|refine .seq ?_|refine .block ?_|refine .skip ?_|refine .region ?_|refine .ret ?_|refine .then_ret ?_|refine .block_ret ?_|refine .exit ?_|refine .then_exit ?_|refine .block_exit ?_|refine .block_other rfl ?_)
  refine StL.as TBok 2 (.bool true) rfl (bool_true (by omega)) ?_
  (repeat with_reducible first|refine .nil ?_|refine .then_normal ?_|refine .block_normal ?_|refine .seq ?_|refine .block ?_|refine .skip ?_|refine .region ?_|refine .ret ?_|refine .then_ret ?_|refine .block_ret ?_|refine .exit ?_|refine .then_exit ?_|refine .block_exit ?_|refine .block_other rfl ?_)
  refine St.condT rfl rfl ?_
  (repeat with_reducible first|refine .nil ?_|refine .then_normal ?_|refine .block_normal ?_|refine .seq ?_|refine .block ?_|refine .skip ?_|refine .region ?_|refine .ret ?_|refine .then_ret ?_|refine .block_ret ?_|refine .exit ?_|refine .then_exit ?_|refine .block_exit ?_|refine .block_other rfl ?_)
  refine StL.step rfl rfl rfl (RunsTo.loadCan rfl hS6 h6).op ?_
  rintro _ _ ⟨rfl, rfl⟩
  refine StL.step rfl rfl rfl (RunsTo.loadCan rfl hS6 h6).op ?_
  rintro _ _ ⟨rfl, rfl⟩
  refine StL.step rfl rfl rfl (OpR.call fn_integer_Mul rfl (mul_dn (h6.dn (by omega)) (h6.dn (by omega)))) ?_
  rintro v22 w6 ⟨hx6, h22⟩
  replace hS6 := hS6.ext hx6
  replace hB1 := hB1.ext hx6
  replace hB2 := hB2.ext hx6
  replace hA5 := hA5.ext hx6
  replace hx5 := hx5.trans hx6
  clear hx6
  refine StL.setCan rfl rfl hS6 h6.two.1 h22 hx5 (by omega) ?_
  intro w7 hS6' hu7 h22' hx7
  replace hB1 := hB1.upd hu7 (by omega)
  replace hB2 := hB2.upd hu7 (by omega)
  clear hS6 hu7 h22 hx5
  have hA7 : Dn w7 (IntV na (.slice p xs.length cap)) a := hD.ext hx7
  refine .run TBok 99 rfl ?_
  (refine StL.nil ?_; repeat with_reducible first | refine Out.then_normal ?_ | refine Out.block_normal ?_)
  refine St.seq ?_
  (repeat with_reducible first|refine .nil ?_|refine .then_normal ?_|refine .block_normal ?_|refine .seq ?_|refine .block ?_|refine .skip ?_|refine .region ?_|refine .ret ?_|refine .then_ret ?_|refine .block_ret ?_|refine .exit ?_|refine .then_exit ?_|refine .block_exit ?_|refine .block_other rfl ?_)
  have hand := and_bit64 m (by omega) j (by omega)
  have hb01 : m / 2 ^ j % 2 = 0 ∨ m / 2 ^ j % 2 = 1 := by omega
  rcases hb01 with e0 | e1
  · rw [e0, Nat.zero_mul] at hand
    rw [if_pos e0, Int.mul_one] at hph
    refine StL.as TBok 4 (.bool false) rfl (by rw [hand]; rfl) ?_
    (repeat with_reducible first|refine .nil ?_|refine .then_normal ?_|refine .block_normal ?_|refine .seq ?_|refine .block ?_|refine .skip ?_|refine .region ?_|refine .ret ?_|refine .then_ret ?_|refine .block_ret ?_|refine .exit ?_|refine .then_exit ?_|refine .block_exit ?_|refine .block_other rfl ?_)
    refine St.condF rfl rfl ?_
    (iterate 6 ((repeat with_reducible first|refine .nil ?_|refine .then_normal ?_|refine .block_normal ?_|refine .seq ?_|refine .block ?_|refine .skip ?_|refine .region ?_|refine .ret ?_|refine .then_ret ?_|refine .block_ret ?_|refine .exit ?_|refine .then_exit ?_|refine .block_exit ?_|refine .block_other rfl ?_); try refine .run TBok 99 rfl ?_))
    refine StL.step rfl rfl rfl (RunsTo.quoN (2 ^ j) 2 rfl rfl rfl rfl (by decide) (i64_of _ (by omega))).op ?_
    rintro _ _ ⟨rfl, rfl⟩
    (iterate 6 ((repeat with_reducible first|refine .nil ?_|refine .then_normal ?_|refine .block_normal ?_|refine .seq ?_|refine .block ?_|refine .skip ?_|refine .region ?_|refine .ret ?_|refine .then_ret ?_|refine .block_ret ?_|refine .exit ?_|refine .then_exit ?_|refine .block_exit ?_|refine .block_other rfl ?_); try refine .run TBok 99 rfl ?_))
    refine Out.again (v22, j) ⟨rfl, rfl, rfl, rfl, rfl, trivial⟩ ⟨hx7, hS6', ?_, hB1, hB2, by dsimp only; omega⟩ (Nat.lt_succ_self j)
    dsimp only
    rw [hph]
    exact h22'
  · rw [e1, Nat.one_mul] at hand
    rw [if_neg (by omega)] at hph
    refine StL.as TBok 4 (.bool true) rfl (by
      rw [hand]
      have : (((2 ^ j : Nat) : Int) != 0) = true := bne_iff_ne.2 (by omega)
      rw [this]) ?_
    (repeat with_reducible first|refine .nil ?_|refine .then_normal ?_|refine .block_normal ?_|refine .seq ?_|refine .block ?_|refine .skip ?_|refine .region ?_|refine .ret ?_|refine .then_ret ?_|refine .block_ret ?_|refine .exit ?_|refine .then_exit ?_|refine .block_exit ?_|refine .block_other rfl ?_)
    refine St.condT rfl rfl ?_
    (iterate 6 ((repeat with_reducible first|refine .nil ?_|refine .then_normal ?_|refine .block_normal ?_|refine .seq ?_|refine .block ?_|refine .skip ?_|refine .region ?_|refine .ret ?_|refine .then_ret ?_|refine .block_ret ?_|refine .exit ?_|refine .then_exit ?_|refine .block_exit ?_|refine .block_other rfl ?_); try refine .run TBok 99 rfl ?_))
    refine StL.step rfl rfl rfl (RunsTo.loadCan rfl hS6' h22').op ?_
    rintro _ _ ⟨rfl, rfl⟩
    refine StL.step rfl rfl rfl (RunsTo.loadInt rfl hB1 rfl rfl).op ?_
    rintro _ _ ⟨rfl, rfl⟩
    refine StL.step rfl rfl rfl (OpR.call fn_integer_Mul rfl (mul_dn (h22'.dn (by omega)) hA7)) ?_
    rintro v29 w8 ⟨hx8, h29⟩
    rw [← hph] at h29
    replace hS6' := hS6'.ext hx8
    replace hB1 := hB1.ext hx8
    replace hB2 := hB2.ext hx8
    replace hx7 := hx7.trans hx8
    clear hx8
    refine StL.setCan rfl rfl hS6' h22'.two.1 h29 hx7 (by omega) ?_
    intro w9 hS6'' hu9 h29' hx9
    (iterate 6 ((repeat with_reducible first|refine .nil ?_|refine .then_normal ?_|refine .block_normal ?_|refine .seq ?_|refine .block ?_|refine .skip ?_|refine .region ?_|refine .ret ?_|refine .then_ret ?_|refine .block_ret ?_|refine .exit ?_|refine .then_exit ?_|refine .block_exit ?_|refine .block_other rfl ?_); try refine .run TBok 99 rfl ?_))
    refine StL.step rfl rfl rfl (RunsTo.quoN (2 ^ j) 2 rfl rfl rfl rfl (by decide) (i64_of _ (by omega))).op ?_
    rintro _ _ ⟨rfl, rfl⟩
    (iterate 6 ((repeat with_reducible first|refine .nil ?_|refine .then_normal ?_|refine .block_normal ?_|refine .seq ?_|refine .block ?_|refine .skip ?_|refine .region ?_|refine .ret ?_|refine .then_ret ?_|refine .block_ret ?_|refine .exit ?_|refine .then_exit ?_|refine .block_exit ?_|refine .block_other rfl ?_); try refine .run TBok 99 rfl ?_))
    exact Out.again (v29, j) ⟨rfl, rfl, rfl, rfl, rfl, trivial⟩ ⟨hx9, hS6'', h29', hB1.upd hu9 (by omega), hB2.upd hu9 (by omega), by dsimp only; omega⟩ (Nat.lt_succ_self j)

set_option maxRecDepth 8000 in
set_option maxHeartbeats 400000 in
theorem rpow_dn {w : World} {x : Value} {a n : Int} (h : Dn w x a) (hsa : sz a ≤ 5000) (hn : -9223372036854775808 ≤ n ∧ n ≤ 9223372036854775807) : Calls Try.prog 57 #[x, .int .i64 n] w (Ret fun r w' => Ext w w' ∧ PowV w' r a n) := by
  have hD := h
  obtain ⟨na, xs, ⟨p, cap, rfl, hs⟩, hva, hlen⟩ := h
  refine calls_of_St (args := [_, _]) Try.func57 rfl Try.ntmps57 rfl ?_
  (repeat with_reducible first|refine .nil ?_|refine .then_normal ?_|refine .block_normal ?_|refine .seq ?_|refine .block ?_|refine .skip ?_|refine .region ?_|refine .ret ?_|refine .then_ret ?_|refine .block_ret ?_|refine .exit ?_|refine .then_exit ?_|refine .block_exit ?_|refine .block_other rfl ?_)
  refine StL.step rfl rfl rfl (OpR.box rfl) ?_
  rintro _ w1 ⟨rfl, hb1, hx1, hz1⟩
  refine StL.step rfl rfl rfl (OpR.alloc TBok rfl) ?_
  rintro _ w2 ⟨rfl, hb2, hx2, hz2⟩
  have hB1 := hb1.ext hx2
  have hx02 := hx1.trans hx2
  have ha := hD.ext hx02
  have hs1 := hx1.size
  refine .run TBok 99 rfl ?_
  (repeat with_reducible first|refine .nil ?_|refine .then_normal ?_|refine .block_normal ?_|refine .seq ?_|refine .block ?_|refine .skip ?_|refine .region ?_|refine .ret ?_|refine .then_ret ?_|refine .block_ret ?_|refine .exit ?_|refine .then_exit ?_|refine .block_exit ?_|refine .block_other rfl ?_)
  by_cases hneg : n < 0
  · refine StL.as TBok 2 (.bool true) rfl (bool_true (by omega)) ?_
    (iterate 6 ((repeat with_reducible first|refine .nil ?_|refine .then_normal ?_|refine .block_normal ?_|refine .seq ?_|refine .block ?_|refine .skip ?_|refine .region ?_|refine .ret ?_|refine .then_ret ?_|refine .block_ret ?_|refine .exit ?_|refine .then_exit ?_|refine .block_exit ?_|refine .block_other rfl ?_); try refine .run TBok 99 rfl ?_))
    refine St.condT rfl rfl ?_
    (iterate 6 ((repeat with_reducible first|refine .nil ?_|refine .then_normal ?_|refine .block_normal ?_|refine .seq ?_|refine .block ?_|refine .skip ?_|refine .region ?_|refine .ret ?_|refine .then_ret ?_|refine .block_ret ?_|refine .exit ?_|refine .then_exit ?_|refine .block_exit ?_|refine .block_other rfl ?_); try refine .run TBok 99 rfl ?_))
    refine StL.step rfl rfl rfl (RunsTo.build TBok rfl rfl rfl rfl).op ?_
    rintro _ _ ⟨rfl, rfl⟩
    refine StL.step0 rfl rfl (OpR.store TBok (vs := [.bool false, .slice none 0 0]) rfl rfl rfl rfl rfl hb2 (Nat.le_refl _) (by simp [Value.oneCell'])) ?_
    rintro _ w4 ⟨hb4, hu4⟩
    (iterate 6 ((repeat with_reducible first|refine .nil ?_|refine .then_normal ?_|refine .block_normal ?_|refine .seq ?_|refine .block ?_|refine .skip ?_|refine .region ?_|refine .ret ?_|refine .then_ret ?_|refine .block_ret ?_|refine .exit ?_|refine .then_exit ?_|refine .block_exit ?_|refine .block_other rfl ?_); try refine .run TBok 99 rfl ?_))
    refine Out.rets TBok [IntV false (.slice none 0 0), .bool false] rfl ⟨⟨_, _, _, _, rfl, hb4, rfl, rfl, rfl, rfl⟩, rfl, trivial⟩ ⟨hx02.then_upd hu4 hs1, IntV false (.slice none 0 0), ?_, ?_⟩
    · rw [decide_eq_false (by omega)]; rfl
    · unfold pow0; rw [if_neg (by omega)]; exact canO_zero _ _
  refine StL.as TBok 2 (.bool false) rfl (bool_false (by omega)) ?_
  by_cases hbig : 64 < n
  · refine StL.as TBok 3 (.bool true) rfl (bool_true (by omega)) ?_
    (iterate 6 ((repeat with_reducible first|refine .nil ?_|refine .then_normal ?_|refine .block_normal ?_|refine .seq ?_|refine .block ?_|refine .skip ?_|refine .region ?_|refine .ret ?_|refine .then_ret ?_|refine .block_ret ?_|refine .exit ?_|refine .then_exit ?_|refine .block_exit ?_|refine .block_other rfl ?_); try refine .run TBok 99 rfl ?_))
    refine St.condT rfl rfl ?_
    (iterate 6 ((repeat with_reducible first|refine .nil ?_|refine .then_normal ?_|refine .block_normal ?_|refine .seq ?_|refine .block ?_|refine .skip ?_|refine .region ?_|refine .ret ?_|refine .then_ret ?_|refine .block_ret ?_|refine .exit ?_|refine .then_exit ?_|refine .block_exit ?_|refine .block_other rfl ?_); try refine .run TBok 99 rfl ?_))
    refine StL.step rfl rfl rfl (RunsTo.build TBok rfl rfl rfl rfl).op ?_
    rintro _ _ ⟨rfl, rfl⟩
    refine StL.step0 rfl rfl (OpR.store TBok (vs := [.bool false, .slice none 0 0]) rfl rfl rfl rfl rfl hb2 (Nat.le_refl _) (by simp [Value.oneCell'])) ?_
    rintro _ w4 ⟨hb4, hu4⟩
    (iterate 6 ((repeat with_reducible first|refine .nil ?_|refine .then_normal ?_|refine .block_normal ?_|refine .seq ?_|refine .block ?_|refine .skip ?_|refine .region ?_|refine .ret ?_|refine .then_ret ?_|refine .block_ret ?_|refine .exit ?_|refine .then_exit ?_|refine .block_exit ?_|refine .block_other rfl ?_); try refine .run TBok 99 rfl ?_))
    refine Out.rets TBok [IntV false (.slice none 0 0), .bool false] rfl ⟨⟨_, _, _, _, rfl, hb4, rfl, rfl, rfl, rfl⟩, rfl, trivial⟩ ⟨hx02.then_upd hu4 hs1, IntV false (.slice none 0 0), ?_, ?_⟩
    · rw [decide_eq_false (by omega)]; rfl
    · unfold pow0; rw [if_neg (by omega)]; exact canO_zero _ _
  refine StL.as TBok 3 (.bool false) rfl (bool_false (by omega)) ?_
  (iterate 6 ((repeat with_reducible first|refine .nil ?_|refine .then_normal ?_|refine .block_normal ?_|refine .seq ?_|refine .block ?_|refine .skip ?_|refine .region ?_|refine .ret ?_|refine .then_ret ?_|refine .block_ret ?_|refine .exit ?_|refine .then_exit ?_|refine .block_exit ?_|refine .block_other rfl ?_); try refine .run TBok 99 rfl ?_))
  refine St.condF rfl rfl ?_
  obtain ⟨m, rfl⟩ : ∃ m : Nat, n = m := ⟨n.toNat, by omega⟩
  have hm : m ≤ 64 := by omega
  have hp0 : pow0 a (m : Int) = a ^ m := by unfold pow0; rw [if_pos (by omega)]; rfl
  have hmul : ∀ e, e ≤ 64 → sz (a ^ e) ≤ 320001 := fun e he => by
    refine Nat.le_trans (sz_pow a e) ?_
    have := Nat.mul_le_mul he hsa
    omega
  have hsz2 : ∀ k, sz (a ^ (m / 2 ^ k)) ≤ 320001 := fun k => hmul _ (Nat.le_trans (Nat.div_le_self _ _) hm)
  (repeat with_reducible first|refine .nil ?_|refine .then_normal ?_|refine .block_normal ?_|refine .seq ?_|refine .block ?_|refine .skip ?_|refine .region ?_|refine .ret ?_|refine .then_ret ?_|refine .block_ret ?_|refine .exit ?_|refine .then_exit ?_|refine .block_exit ?_|refine .block_other rfl ?_)
  refine StL.step rfl rfl rfl (OpR.call fn_r01_Small rfl (rsmall_spec (base := 0) w2 1 (by decide) (by decide) (Nat.zero_le _))) ?_
  rintro v15 w3 ⟨hx3, h15⟩
  have hB23 : Blk 24 w3 w1.heap.size [.bool false, .slice none 0 0] := hb2.ext hx3
  have hlt2 := hb2.lt
  replace hB1 := hB1.ext hx3
  replace ha := ha.ext hx3
  replace hx02 := hx02.trans hx3
  clear hx3
  refine StL.setNew rfl (fun _ => rfl) h15 hx02 ?_
  intro b6 w4 hg6 hx4 hS6 h15' hx04
  have hl3 : w1.heap.size < w3.heap.size := hB23.lt
  replace hB1 := hB1.ext hx4
  replace hB23 := hB23.ext hx4
  replace ha := ha.ext hx4
  clear hx4
  clear hx02 h15
  (iterate 6 ((repeat with_reducible first|refine .nil ?_|refine .then_normal ?_|refine .block_normal ?_|refine .seq ?_|refine .block ?_|refine .skip ?_|refine .region ?_|refine .ret ?_|refine .then_ret ?_|refine .block_ret ?_|refine .exit ?_|refine .then_exit ?_|refine .block_exit ?_|refine .block_other rfl ?_); try refine .run TBok 99 rfl ?_))
  refine St.loop (fun g : Value × Nat => [(1, .int .i64 m), (2, .pointer (some ⟨w.heap.size, 0, none⟩)), (4, .pointer (some ⟨w1.heap.size, 0, none⟩)), (6, .pointer (some ⟨b6, 0, none⟩)), (7, .int .i64 g.2)])
    (fun g w' => Ext w w' ∧ Blk 24 w' b6 g.1.cells.toList ∧ CanO 0 w' g.1 (a ^ g.2) ∧ Blk 24 w' w.heap.size [.bool na, .slice p xs.length cap] ∧ Blk 24 w' w1.heap.size [.bool false, .slice none 0 0] ∧ g.2 ≤ m)
    (fun g => m - g.2) (v15, 0) ⟨rfl, rfl, rfl, rfl, rfl, trivial⟩ ⟨hx04, hS6, by dsimp only; rw [Int.pow_zero]; exact h15', hB1, hB23, Nat.zero_le _⟩ ?_
  clear hx04 hS6 h15' hB1 hB23 ha
  rintro ⟨v6, k⟩ w5 ⟨hx5, hS6, h6, hB1, hB2, hk⟩
  dsimp only at hx5 hS6 h6 hB1 hB2 hk ⊢
  have hlt1 := hB1.lt
  by_cases hkm : k < m
  · have hA5 : Dn w5 (IntV na (.slice p xs.length cap)) a := hD.ext hx5
    have hs6 := hmul k (by omega)
    (repeat with_reducible first|refine .nil ?_|refine .then_normal ?_|refine .block_normal ?_|refine .seq ?_|refine .block ?_|refine .skip ?_|refine .region ?_|refine .ret ?_|refine .then_ret ?_|refine .block_ret ?_|refine .exit ?_|refine .then_exit ?_|refine .block_exit ?_|refine .block_other rfl ?_)
    refine StL.as TBok 3 (.bool true) rfl (bool_true (by omega)) ?_
    (repeat with_reducible first|refine .nil ?_|refine .then_normal ?_|refine .block_normal ?_|refine .seq ?_|refine .block ?_|refine .skip ?_|refine .region ?_|refine .ret ?_|refine .then_ret ?_|refine .block_ret ?_|refine .exit ?_|refine .then_exit ?_|refine .block_exit ?_|refine .block_other rfl ?_)
    refine St.condT rfl rfl ?_
    (iterate 6 ((repeat with_reducible first|refine .nil ?_|refine .then_normal ?_|refine .block_normal ?_|refine .seq ?_|refine .block ?_|refine .skip ?_|refine .region ?_|refine .ret ?_|refine .then_ret ?_|refine .block_ret ?_|refine .exit ?_|refine .then_exit ?_|refine .block_exit ?_|refine .block_other rfl ?_); try refine .run TBok 99 rfl ?_))
    refine StL.step rfl rfl rfl (RunsTo.loadCan rfl hS6 h6).op ?_
    rintro _ _ ⟨rfl, rfl⟩
    refine StL.step rfl rfl rfl (RunsTo.loadInt rfl hB1 rfl rfl).op ?_
    rintro _ _ ⟨rfl, rfl⟩
    refine StL.step rfl rfl rfl (OpR.call fn_r01_Mul rfl (rmul_dn (base := 0) (h6.dn (by omega)) hA5 (Nat.zero_le _))) ?_
    rintro v22 w6 ⟨hx6, h22⟩
    rw [← Int.pow_succ] at h22
    replace hS6 := hS6.ext hx6
    replace hB1 := hB1.ext hx6
    replace hB2 := hB2.ext hx6
    replace hx5 := hx5.trans hx6
    clear hx6
    refine StL.setCan rfl rfl hS6 h6.two.1 h22 hx5 (by omega) ?_
    intro w7 hS6' hu7 h22' hx7
    (iterate 6 ((repeat with_reducible first|refine .nil ?_|refine .then_normal ?_|refine .block_normal ?_|refine .seq ?_|refine .block ?_|refine .skip ?_|refine .region ?_|refine .ret ?_|refine .then_ret ?_|refine .block_ret ?_|refine .exit ?_|refine .then_exit ?_|refine .block_exit ?_|refine .block_other rfl ?_); try refine .run TBok 99 rfl ?_))
    refine Out.again (v22, k + 1) ⟨rfl, rfl, rfl, rfl, ?_, trivial⟩ ⟨hx7, hS6', h22', hB1.upd hu7 (by omega), hB2.upd hu7 (by omega), by dsimp only; omega⟩ (by dsimp only; omega)
    show some (Value.int .i64 (IntKind.i64.wrap ((k : Int) + 1))) = _
    rw [i64_id (by omega) (by omega)]; rfl
  · have hk' : k = m := by omega
    subst hk'
    (repeat with_reducible first|refine .nil ?_|refine .then_normal ?_|refine .block_normal ?_|refine .seq ?_|refine .block ?_|refine .skip ?_|refine .region ?_|refine .ret ?_|refine .then_ret ?_|refine .block_ret ?_|refine .exit ?_|refine .then_exit ?_|refine .block_exit ?_|refine .block_other rfl ?_)
    refine StL.as TBok 3 (.bool false) rfl (bool_false (by omega)) ?_
    (repeat with_reducible first|refine .nil ?_|refine .then_normal ?_|refine .block_normal ?_|refine .seq ?_|refine .block ?_|refine .skip ?_|refine .region ?_|refine .ret ?_|refine .then_ret ?_|refine .block_ret ?_|refine .exit ?_|refine .then_exit ?_|refine .block_exit ?_|refine .block_other rfl ?_)
    refine St.condF rfl rfl ?_
    (iterate 6 ((repeat with_reducible first|refine .nil ?_|refine .then_normal ?_|refine .block_normal ?_|refine .seq ?_|refine .block ?_|refine .skip ?_|refine .region ?_|refine .ret ?_|refine .then_ret ?_|refine .block_ret ?_|refine .exit ?_|refine .then_exit ?_|refine .block_exit ?_|refine .block_other rfl ?_); try refine .run TBok 99 rfl ?_))
    refine StL.step rfl rfl rfl (RunsTo.loadCan rfl hS6 h6).op ?_
    rintro _ _ ⟨rfl, rfl⟩
    refine StL.setCan rfl rfl hB2 rfl h6 hx5 hs1 ?_
    intro w6 hb6 hu6 h6' hx6
    (iterate 6 ((repeat with_reducible first|refine .nil ?_|refine .then_normal ?_|refine .block_normal ?_|refine .seq ?_|refine .block ?_|refine .skip ?_|refine .region ?_|refine .ret ?_|refine .then_ret ?_|refine .block_ret ?_|refine .exit ?_|refine .then_exit ?_|refine .block_exit ?_|refine .block_other rfl ?_); try refine .run TBok 99 rfl ?_))
    refine Out.rets TBok [v6, .bool true] rfl ⟨⟨_, _, _, _, rfl, hb6, rfl, rfl, h6'.two.1, by simpa using h6'.agg⟩, rfl, trivial⟩ ⟨hx6, v6, ?_, ?_⟩
    · rw [decide_eq_true (by omega)]; rfl
    · rw [hp0]; exact h6'

end Go.Qf

/- The law IntegerPowers: the walk. -/
namespace Go.Qf
open Go Go.RowKit Go.Proofs

def TB2 : List (Nat × TI) := (43, ⟨.slice 3, 1, 24, .slice none 0 0⟩) :: TB
theorem TBok2 : TblOk Try.prog TB2 := TblOk.cons Try.underlying43 (by kernel_rfl) TBok

section
variable {P : Program} {T : List (Nat × TI)} {n : Nat} {E : List (Nat × Value)} {w : World}
theorem RunsTo.remT {d : Option Tmp} {t t2 : TypeId} {x y : Operand} {ty : TypeId} {pos : String} {af : Array Edge} {g : Option (Nat × Bool)} {k : IntKind} {m s : Int} (hx : ov E x = some (.int k m)) (hy : ov E y = some (.int k s)) (hs : s ≠ 0) :
    RunsTo P n ⟨d, .binOp .rem t x y t2, ty, pos, af, g⟩ E w (.int k (m.tmod s)) := by
  intro a ha
  have e1 := ha.eval hx
  have e2 := ha.eval hy
  generalize a.eval = ρ at e1 e2
  simp [execOp, e1, e2, eqGuard, binOp, Op.intDiv, hs, go_sem]

theorem OpR.five (hT : TblOk P T) {d : Option Tmp} {t : TypeId} {x0 x1 x2 x3 x4 : Operand} {ty : TypeId} {pos : String} {af : Array Edge} {g : Option (Nat × Bool)} {et : TypeId} {s1 s2 : Nat} {z : Value} {ti : TI} {k : IntKind} {m0 m1 m2 m3 m4 : Int}
    (ht : lookT T t = some ⟨.slice et, s1, s2, z⟩) (hte : lookT T et = some ti) (hsz : ti.size = 1) (h0 : ov E x0 = some (.int k m0)) (h1 : ov E x1 = some (.int k m1)) (h2 : ov E x2 = some (.int k m2)) (h3 : ov E x3 = some (.int k m3)) (h4 : ov E x4 = some (.int k m4)) :
    OpR P n ⟨d, .buildSlice t 5 #[(0, x0), (1, x1), (2, x2), (3, x3), (4, x4)], ty, pos, af, g⟩ E w (fun u w' => u = .slice (some ⟨w.heap.size, 0, none⟩) 5 5 ∧ Blk et w' w.heap.size ([m0, m1, m2, m3, m4].map (Value.int k)) ∧ Ext w w' ∧ w'.heap.size = w.heap.size + 1) := by
  intro a ha Q K hK
  obtain ⟨_, inf, hi, hsize, hby, hzero⟩ := hT et ti hte
  have e0 := ha.eval h0
  have e1 := ha.eval h1
  have e2 := ha.eval h2
  have e3 := ha.eval h3
  have e4 := ha.eval h4
  have hrun : (execOp a.eval ⟨d, .buildSlice t 5 #[(0, x0), (1, x1), (2, x2), (3, x3), (4, x4)], ty, pos, af, g⟩).run P w = .ok (.value (.slice (some ⟨w.heap.size, 0, none⟩) 5 5)) (w.alloc (.cells #[.int k m0, .int k m1, .int k m2, .int k m3, .int k m4] et (0, 0))) := by
    generalize a.eval = ρ at e0 e1 e2 e3 e4
    simp [execOp, Instr.buildSlice, e0, e1, e2, e3, e4, run_underlying_T hT ht, run_sizeOf_T hT hte, hsz, zeroValue, run_typeInfo hi, hzero, Instr.fill, newRow, go_sem]
  unfold Oper.wp
  rw [hrun, Oper.upon_value]
  exact hK _ _ ⟨rfl, blk_alloc _ _ _, ext_alloc _ _, size_alloc1 _ _⟩
end

set_option maxRecDepth 8000 in
set_option maxHeartbeats 400000 in
theorem lawPowers (w : World) (v : Value) (na : Bool) (xs : List Nat) (h : Den w v na xs) (n : Int) (hn : -9223372036854775808 ≤ n ∧ n ≤ 9223372036854775807) : Calls Try.prog 17 #[v, .int .i64 n] w (Ret fun r w' => Ext w w' ∧ r = .bool true) := by
  have hD := h
  obtain ⟨p, cap, rfl, hs⟩ := h
  refine calls_of_St (args := [_, _]) Try.func17 rfl Try.ntmps17 rfl ?_
  (repeat with_reducible first|refine .nil ?_|refine .then_normal ?_|refine .block_normal ?_|refine .seq ?_|refine .block ?_|refine .skip ?_|refine .region ?_|refine .ret ?_|refine .then_ret ?_|refine .block_ret ?_|refine .exit ?_|refine .then_exit ?_|refine .block_exit ?_|refine .block_other rfl ?_)
  refine StL.step rfl rfl rfl (OpR.box rfl) ?_
  rintro _ w1 ⟨rfl, hb1, hx1, hz1⟩
  (iterate 6 ((repeat with_reducible first|refine .nil ?_|refine .then_normal ?_|refine .block_normal ?_|refine .seq ?_|refine .block ?_|refine .skip ?_|refine .region ?_|refine .ret ?_|refine .then_ret ?_|refine .block_ret ?_|refine .exit ?_|refine .then_exit ?_|refine .block_exit ?_|refine .block_other rfl ?_); try refine .run TBok 99 rfl ?_))
  (refine StL.step rfl rfl rfl (RunsTo.load TBok rfl rfl rfl (Blk.cell (by first | assumption | exact Ext.refl _ | (apply Blk.ext; assumption; (repeat first | assumption | refine Ext.trans ?_ (by assumption))) | (apply CanO.ext; assumption; (repeat first | assumption | refine Ext.trans ?_ (by assumption))) | (apply Den.ext; assumption; (repeat first | assumption | refine Ext.trans ?_ (by assumption))) | (apply Sl.ext; assumption; (repeat first | assumption | refine Ext.trans ?_ (by assumption))) | (apply SlO.ext; assumption; (repeat first | assumption | refine Ext.trans ?_ (by assumption))) | (apply Dn.ext; assumption; (repeat first | assumption | refine Ext.trans ?_ (by assumption))) | (apply It.ext; assumption; (repeat first | assumption | refine Ext.trans ?_ (by assumption))) | (repeat first | assumption | refine Ext.trans ?_ (by assumption))) rfl)).op ?_; rintro _ _ ⟨rfl, rfl⟩)
  by_cases hlim : 6 < xs.length
  · refine StL.as TBok 2 (.bool true) rfl (bool_true (by omega)) ?_
    (iterate 6 ((repeat with_reducible first|refine .nil ?_|refine .then_normal ?_|refine .block_normal ?_|refine .seq ?_|refine .block ?_|refine .skip ?_|refine .region ?_|refine .ret ?_|refine .then_ret ?_|refine .block_ret ?_|refine .exit ?_|refine .then_exit ?_|refine .block_exit ?_|refine .block_other rfl ?_); try refine .run TBok 99 rfl ?_))
    refine St.condT rfl rfl ?_
    ((repeat with_reducible first|refine .nil ?_|refine .then_normal ?_|refine .block_normal ?_|refine .seq ?_|refine .block ?_|refine .skip ?_|refine .region ?_|refine .ret ?_|refine .then_ret ?_|refine .block_ret ?_|refine .exit ?_|refine .then_exit ?_|refine .block_exit ?_|refine .block_other rfl ?_); refine StL.awake rfl rfl ?_; intro wz hxz; (iterate 6 ((repeat with_reducible first|refine .nil ?_|refine .then_normal ?_|refine .block_normal ?_|refine .seq ?_|refine .block ?_|refine .skip ?_|refine .region ?_|refine .ret ?_|refine .then_ret ?_|refine .block_ret ?_|refine .exit ?_|refine .then_exit ?_|refine .block_exit ?_|refine .block_other rfl ?_); try refine .run TBok 99 rfl ?_)); exact Out.ret1 rfl rfl ⟨(by first | assumption | exact Ext.refl _ | (apply Blk.ext; assumption; (repeat first | assumption | refine Ext.trans ?_ (by assumption))) | (apply CanO.ext; assumption; (repeat first | assumption | refine Ext.trans ?_ (by assumption))) | (apply Den.ext; assumption; (repeat first | assumption | refine Ext.trans ?_ (by assumption))) | (apply Sl.ext; assumption; (repeat first | assumption | refine Ext.trans ?_ (by assumption))) | (apply SlO.ext; assumption; (repeat first | assumption | refine Ext.trans ?_ (by assumption))) | (apply Dn.ext; assumption; (repeat first | assumption | refine Ext.trans ?_ (by assumption))) | (apply It.ext; assumption; (repeat first | assumption | refine Ext.trans ?_ (by assumption))) | (repeat first | assumption | refine Ext.trans ?_ (by assumption))), rfl⟩)
  refine StL.as TBok 2 (.bool false) rfl (bool_false (by omega)) ?_
  (iterate 6 ((repeat with_reducible first|refine .nil ?_|refine .then_normal ?_|refine .block_normal ?_|refine .seq ?_|refine .block ?_|refine .skip ?_|refine .region ?_|refine .ret ?_|refine .then_ret ?_|refine .block_ret ?_|refine .exit ?_|refine .then_exit ?_|refine .block_exit ?_|refine .block_other rfl ?_); try refine .run TBok 99 rfl ?_))
  refine St.condF rfl rfl ?_
  have ha : Dn w1 _ (sg na (val xs)) := (hD.ext hx1).dn (by omega)
  have hsa := sz_den hD
  generalize sg na (val xs) = a at *
  have htm : -66 < n.tmod 66 ∧ n.tmod 66 < 66 := by
    have h1 := Int.natAbs_tmod n 66
    have h2 : (66 : Int).natAbs = 66 := rfl
    rw [h2] at h1
    have := Nat.mod_lt n.natAbs (show 0 < 66 by decide)
    omega
  (iterate 6 ((repeat with_reducible first|refine .nil ?_|refine .then_normal ?_|refine .block_normal ?_|refine .seq ?_|refine .block ?_|refine .skip ?_|refine .region ?_|refine .ret ?_|refine .then_ret ?_|refine .block_ret ?_|refine .exit ?_|refine .then_exit ?_|refine .block_exit ?_|refine .block_other rfl ?_); try refine .run TBok 99 rfl ?_))
  refine StL.step rfl rfl rfl (RunsTo.remT rfl rfl (by decide)).op ?_
  rintro _ _ ⟨rfl, rfl⟩
  refine StL.step rfl rfl rfl (OpR.five TBok2 rfl rfl rfl rfl rfl rfl rfl rfl) ?_
  rintro _ w2 ⟨rfl, hbl, hx2, hz2⟩
  refine StL.run TBok2 99 rfl ?_
  obtain ⟨ks, hks⟩ : ∃ ks, ks = [n, n.tmod 66, 0, 65, -1] := ⟨_, rfl⟩
  have hkl : ks.length = 5 := by rw [hks]; rfl
  have hkb : ∀ k ∈ ks, -9223372036854775808 ≤ k ∧ k ≤ 9223372036854775807 := by
    intro k hk
    rw [hks] at hk
    simp at hk
    omega
  rw [← hks] at hbl
  have hB1 := hb1.ext hx2
  have hx02 := hx1.trans hx2
  replace ha := ha.ext hx2
  clear hb1 hx1 hx2 hz1
  have hlt1 := hB1.lt
  have hltl := hbl.lt
  (repeat with_reducible first|refine .nil ?_|refine .then_normal ?_|refine .block_normal ?_|refine .seq ?_|refine .block ?_|refine .skip ?_|refine .region ?_|refine .ret ?_|refine .then_ret ?_|refine .block_ret ?_|refine .exit ?_|refine .then_exit ?_|refine .block_exit ?_|refine .block_other rfl ?_)
  refine St.loop (fun i : Nat => [(2, .pointer (some ⟨w.heap.size, 0, none⟩)), (19, .slice (some ⟨w1.heap.size, 0, none⟩) 5 5), (20, .int .i64 5), (21, .int .i64 i)])
    (fun i w' => Ext w w' ∧ Ext w2 w' ∧ i ≤ 5) (fun i => 5 - i) 0 ⟨rfl, rfl, rfl, rfl, trivial⟩ ⟨hx02, Ext.refl _, by decide⟩ ?_
  rintro i w3 ⟨hx03, hx23, hi⟩
  by_cases hlt : i < 5
  · have hki : ks[i]? = some ks[i] := by simp
    have hkb' := hkb ks[i] (List.getElem_mem _)
    generalize ks[i] = k at hki hkb'
    have hB3 := hB1.ext hx23
    have hl3 := hbl.ext hx23
    have ha3 := ha.ext hx23
    have hsp := sz_pow0 a k
    (repeat with_reducible first|refine .nil ?_|refine .then_normal ?_|refine .block_normal ?_|refine .seq ?_|refine .block ?_|refine .skip ?_|refine .region ?_|refine .ret ?_|refine .then_ret ?_|refine .block_ret ?_|refine .exit ?_|refine .then_exit ?_|refine .block_exit ?_|refine .block_other rfl ?_)
    refine StL.as TBok 1 (.bool true) rfl (bool_true (by omega)) ?_
    (repeat with_reducible first|refine .nil ?_|refine .then_normal ?_|refine .block_normal ?_|refine .seq ?_|refine .block ?_|refine .skip ?_|refine .region ?_|refine .ret ?_|refine .then_ret ?_|refine .block_ret ?_|refine .exit ?_|refine .then_exit ?_|refine .block_exit ?_|refine .block_other rfl ?_)
    refine St.condT rfl rfl ?_
    (iterate 6 ((repeat with_reducible first|refine .nil ?_|refine .then_normal ?_|refine .block_normal ?_|refine .seq ?_|refine .block ?_|refine .skip ?_|refine .region ?_|refine .ret ?_|refine .then_ret ?_|refine .block_ret ?_|refine .exit ?_|refine .then_exit ?_|refine .block_exit ?_|refine .block_other rfl ?_); try refine .run TBok 99 rfl ?_))
    refine StL.elemB TBok2 i (.int .i64 k) hl3 (by simp [hki]) rfl hlt rfl rfl rfl rfl rfl rfl rfl rfl rfl rfl (fun _ => rfl) ?_
    intro p1
    (iterate 6 ((repeat with_reducible first|refine .nil ?_|refine .then_normal ?_|refine .block_normal ?_|refine .seq ?_|refine .block ?_|refine .skip ?_|refine .region ?_|refine .ret ?_|refine .then_ret ?_|refine .block_ret ?_|refine .exit ?_|refine .then_exit ?_|refine .block_exit ?_|refine .block_other rfl ?_); try refine .run TBok 99 rfl ?_))
    refine StL.step rfl rfl rfl (RunsTo.loadInt rfl hB3 rfl rfl).op ?_
    rintro _ _ ⟨rfl, rfl⟩
    refine .run TBok 99 rfl ?_
    refine StL.step rfl rfl rfl (OpR.call fn_integer_Pow rfl (pow_dn ha3 (by omega) hkb')) ?_
    rintro _ w4 ⟨hx4, v7, rfl, h7⟩
    refine .run TBok 99 rfl ?_
    replace hB3 := hB3.ext hx4
    replace ha3 := ha3.ext hx4
    replace hx23 := hx23.trans hx4
    replace hx03 := hx03.trans hx4
    clear hx4
    refine StL.setNew rfl (fun _ => rfl) h7 hx23 ?_
    intro b7 w5 hg7 hx5 hS7 h7' hx25
    replace hx03 := hx03.trans hx5
    replace hB3 := hB3.ext hx5
    replace ha3 := ha3.ext hx5
    clear hx5
    clear h7 hx23
    refine .run TBok 99 rfl ?_
    (repeat with_reducible first|refine .nil ?_|refine .then_normal ?_|refine .block_normal ?_|refine .seq ?_|refine .block ?_|refine .skip ?_|refine .region ?_|refine .ret ?_|refine .then_ret ?_|refine .block_ret ?_|refine .exit ?_|refine .then_exit ?_|refine .block_exit ?_|refine .block_other rfl ?_)
    refine StL.step rfl rfl rfl (RunsTo.loadInt rfl hB3 rfl rfl).op ?_
    rintro _ _ ⟨rfl, rfl⟩
    refine .run TBok 99 rfl ?_
    refine StL.step rfl rfl rfl (OpR.call fn_r01_Pow rfl (rpow_dn ha3 (by omega) hkb')) ?_
    rintro _ w6 ⟨hx6, v9, rfl, h9⟩
    refine .run TBok 99 rfl ?_
    replace hS7 := hS7.ext hx6
    replace h7' := h7'.ext hx6
    replace hx25 := hx25.trans hx6
    replace hx03 := hx03.trans hx6
    clear hx6
    refine StL.setNew rfl (fun _ => rfl) h9 hx25 ?_
    intro b9 w7 hg9 hx7 hS9 h9' hx27
    replace hx03 := hx03.trans hx7
    replace hS7 := hS7.ext hx7
    replace h7' := h7'.ext hx7
    clear hx7
    refine .run TBok 99 rfl ?_
    (repeat with_reducible first|refine .nil ?_|refine .then_normal ?_|refine .block_normal ?_|refine .seq ?_|refine .block ?_|refine .skip ?_|refine .region ?_|refine .ret ?_|refine .then_ret ?_|refine .block_ret ?_|refine .exit ?_|refine .then_exit ?_|refine .block_exit ?_|refine .block_other rfl ?_)
    refine StL.step rfl rfl rfl (RunsTo.loadCan rfl hS7 h7').op ?_
    rintro _ _ ⟨rfl, rfl⟩
    refine StL.step rfl rfl rfl (RunsTo.loadCan rfl hS9 h9').op ?_
    rintro _ _ ⟨rfl, rfl⟩
    refine StL.step rfl rfl rfl (OpR.call fn_r01_Same rfl (same_true h7' h9' (by omega))) ?_
    rintro _ w8 ⟨hx8, rfl⟩
    replace hx27 := hx27.trans hx8
    replace hx03 := hx03.trans hx8
    clear hx8
    refine .run TBok 99 rfl ?_
    refine StL.step rfl rfl rfl (RunsTo.boolNe TBok rfl rfl rfl).op ?_
    rintro _ _ ⟨rfl, rfl⟩
    rw [show (!(decide (0 ≤ k ∧ k ≤ 64) == decide (0 ≤ k ∧ k ≤ 64))) = false from by simp]
    (iterate 6 ((repeat with_reducible first|refine .nil ?_|refine .then_normal ?_|refine .block_normal ?_|refine .seq ?_|refine .block ?_|refine .skip ?_|refine .region ?_|refine .ret ?_|refine .then_ret ?_|refine .block_ret ?_|refine .exit ?_|refine .then_exit ?_|refine .block_exit ?_|refine .block_other rfl ?_); try refine .run TBok 99 rfl ?_))
    refine St.condF rfl rfl ?_
    (iterate 6 ((repeat with_reducible first|refine .nil ?_|refine .then_normal ?_|refine .block_normal ?_|refine .seq ?_|refine .block ?_|refine .skip ?_|refine .region ?_|refine .ret ?_|refine .then_ret ?_|refine .block_ret ?_|refine .exit ?_|refine .then_exit ?_|refine .block_exit ?_|refine .block_other rfl ?_); try refine .run TBok 99 rfl ?_))
    refine Out.again (i + 1) ⟨rfl, rfl, rfl, ?_, trivial⟩ ⟨hx03, hx27, by omega⟩ (by omega)
    show some (Value.int .i64 (IntKind.i64.wrap ((i : Int) + 1))) = _
    rw [i64_id (by omega) (by omega)]; rfl
  · (repeat with_reducible first|refine .nil ?_|refine .then_normal ?_|refine .block_normal ?_|refine .seq ?_|refine .block ?_|refine .skip ?_|refine .region ?_|refine .ret ?_|refine .then_ret ?_|refine .block_ret ?_|refine .exit ?_|refine .then_exit ?_|refine .block_exit ?_|refine .block_other rfl ?_)
    refine StL.as TBok 1 (.bool false) rfl (bool_false (by omega)) ?_
    (repeat with_reducible first|refine .nil ?_|refine .then_normal ?_|refine .block_normal ?_|refine .seq ?_|refine .block ?_|refine .skip ?_|refine .region ?_|refine .ret ?_|refine .then_ret ?_|refine .block_ret ?_|refine .exit ?_|refine .then_exit ?_|refine .block_exit ?_|refine .block_other rfl ?_)
    refine St.condF rfl rfl ?_
    (repeat with_reducible first|refine .nil ?_|refine .then_normal ?_|refine .block_normal ?_|refine .seq ?_|refine .block ?_|refine .skip ?_|refine .region ?_|refine .ret ?_|refine .then_ret ?_|refine .block_ret ?_|refine .exit ?_|refine .then_exit ?_|refine .block_exit ?_|refine .block_other rfl ?_)
    refine StL.awake rfl rfl ?_
    intro w4 hx4
    (iterate 6 ((repeat with_reducible first|refine .nil ?_|refine .then_normal ?_|refine .block_normal ?_|refine .seq ?_|refine .block ?_|refine .skip ?_|refine .region ?_|refine .ret ?_|refine .then_ret ?_|refine .block_ret ?_|refine .exit ?_|refine .then_exit ?_|refine .block_exit ?_|refine .block_other rfl ?_); try refine .run TBok 99 rfl ?_))
    exact Out.ret1 rfl rfl ⟨hx03.trans hx4, rfl⟩

end Go.Qf

/- quadformref01: Sqrt. -/
namespace Go.Qf
open Go Go.RowKit Go.Proofs

theorem andNot_bit {y s : Nat} (hy : y % 2 ^ (s + 1) = 0) (hyl : y + 2 ^ s < 4294967296) : bitsI .andNot .u32 ((y + 2 ^ s : Nat) : Int) ((2 ^ s : Nat) : Int) = (y : Int) := by
  have hbit : y.testBit s = false := by
    obtain ⟨z, rfl⟩ := Nat.dvd_of_mod_eq_zero hy
    rw [Nat.testBit_two_pow_mul]
    simp
    intro h
    omega
  have key : BitVec.ofInt 32 ((y + 2 ^ s : Nat) : Int) &&& ~~~ BitVec.ofInt 32 ((2 ^ s : Nat) : Int) = BitVec.ofNat 32 y := by
    rw [BitVec.ofInt_natCast, BitVec.ofInt_natCast]
    apply BitVec.eq_of_getLsbD_eq
    intro i hi
    simp only [BitVec.getLsbD_and, BitVec.getLsbD_not, BitVec.getLsbD_ofNat, hi, decide_true, Bool.true_and]
    rw [← or_bit hy, Nat.testBit_or, Nat.testBit_two_pow]
    by_cases e : s = i
    · subst e; simp [hbit]
    · simp [e]
  show IntKind.u32.wrap (((BitVec.ofInt 32 ((y + 2 ^ s : Nat) : Int) &&& ~~~ BitVec.ofInt 32 ((2 ^ s : Nat) : Int)).toNat : Nat) : Int) = _
  rw [key, BitVec.toNat_ofNat, Nat.mod_eq_of_lt (by omega)]
  exact u32_id (by omega) (by omega)

theorem val_set_same {xs : List Nat} {k x : Nat} (hx : xs[k]? = some x) (y : Nat) : (xs.set k y).set k x = xs := by
  rw [List.set_set]
  apply List.ext_getElem?
  intro i
  by_cases e : k = i
  · subst e
    rw [List.getElem?_set_self (List.getElem?_eq_some_iff.1 hx).1, hx]
  · rw [List.getElem?_set_ne e]

theorem sq_step {m R p : Nat} (h1 : m < (R + 2 * p) * (R + 2 * p)) : m < (R + p + p) * (R + p + p) := by
  rwa [show R + p + p = R + 2 * p from by omega]

set_option maxRecDepth 8000 in
set_option maxHeartbeats 1000000 in
theorem rsqrt_dn {w : World} {vx : Value} {a : Int} (h : Dn w vx a) (hsa : sz a ≤ 100000) : Calls Try.prog 42 #[vx] w (Ret fun r w' => Ext w w' ∧ SqrtV w' r a) := by
  have hD := h
  obtain ⟨na, xs, ⟨p, cap, rfl, hs⟩, rfl, hlen⟩ := h
  have hl1 := limbs_length_le xs hs.2
  have hla : (limbs (val xs)).length ≤ 100000 := by unfold sz at hsa; rwa [sg_abs] at hsa
  refine calls_of_St (args := [_]) Try.func42 rfl Try.ntmps42 rfl ?_
  (repeat with_reducible first|refine .nil ?_|refine .then_normal ?_|refine .block_normal ?_|refine .seq ?_|refine .block ?_|refine .skip ?_|refine .region ?_|refine .ret ?_|refine .then_ret ?_|refine .block_ret ?_|refine .exit ?_|refine .then_exit ?_|refine .block_exit ?_|refine .block_other rfl ?_)
  refine StL.step rfl rfl rfl (OpR.box rfl) ?_
  rintro _ w1 ⟨rfl, hb1, hx1, hz1⟩
  refine StL.step rfl rfl rfl (OpR.alloc TBok rfl) ?_
  rintro _ w2 ⟨rfl, hb2, hx2, hz2⟩
  have hB1 : Blk 24 w2 w.heap.size [.bool na, .slice p xs.length cap] := hb1.ext hx2
  have hB2 : Blk 24 w2 w1.heap.size [.bool false, .slice none 0 0] := hb2
  have hx02 := hx1.trans hx2
  have hs1 := hx1.size
  have hb2lt := hb2.lt
  clear hb1 hb2 hx1 hx2
  (iterate 6 ((repeat with_reducible first|refine .nil ?_|refine .then_normal ?_|refine .block_normal ?_|refine .seq ?_|refine .block ?_|refine .skip ?_|refine .region ?_|refine .ret ?_|refine .then_ret ?_|refine .block_ret ?_|refine .exit ?_|refine .then_exit ?_|refine .block_exit ?_|refine .block_other rfl ?_); try refine .run TBok 99 rfl ?_))
  refine StL.step rfl rfl rfl (RunsTo.loadInt rfl hB1 rfl rfl).op ?_
  rintro _ _ ⟨rfl, rfl⟩
  refine StL.step rfl rfl rfl (OpR.call fn_r01_Sign rfl (rsign_dn (hD.ext hx02))) ?_
  rintro _ w3 ⟨hx3, rfl⟩
  replace hB1 := hB1.ext hx3
  replace hB2 := hB2.ext hx3
  replace hx02 := hx02.trans hx3
  clear hx3
  (iterate 6 ((repeat with_reducible first|refine .nil ?_|refine .then_normal ?_|refine .block_normal ?_|refine .seq ?_|refine .block ?_|refine .skip ?_|refine .region ?_|refine .ret ?_|refine .then_ret ?_|refine .block_ret ?_|refine .exit ?_|refine .then_exit ?_|refine .block_exit ?_|refine .block_other rfl ?_); try refine .run TBok 99 rfl ?_))
  by_cases hneg : sg na (val xs) < 0
  · refine St.condT rfl (by simp [signI, hneg]) ?_
    (iterate 6 ((repeat with_reducible first|refine .nil ?_|refine .then_normal ?_|refine .block_normal ?_|refine .seq ?_|refine .block ?_|refine .skip ?_|refine .region ?_|refine .ret ?_|refine .then_ret ?_|refine .block_ret ?_|refine .exit ?_|refine .then_exit ?_|refine .block_exit ?_|refine .block_other rfl ?_); try refine .run TBok 99 rfl ?_))
    refine StL.step rfl rfl rfl (RunsTo.build TBok rfl rfl rfl rfl).op ?_
    rintro _ _ ⟨rfl, rfl⟩
    refine StL.step0 rfl rfl (OpR.store TBok (vs := [.bool false, .slice none 0 0]) rfl rfl rfl rfl rfl hB2 (Nat.le_refl _) (by simp [Value.oneCell'])) ?_
    rintro _ w4 ⟨hb4, hu4⟩
    (iterate 6 ((repeat with_reducible first|refine .nil ?_|refine .then_normal ?_|refine .block_normal ?_|refine .seq ?_|refine .block ?_|refine .skip ?_|refine .region ?_|refine .ret ?_|refine .then_ret ?_|refine .block_ret ?_|refine .exit ?_|refine .then_exit ?_|refine .block_exit ?_|refine .block_other rfl ?_); try refine .run TBok 99 rfl ?_))
    exact Out.rets TBok [IntV false (.slice none 0 0), .bool false] rfl ⟨⟨_, _, _, _, rfl, hb4, rfl, rfl, rfl, rfl⟩, rfl, trivial⟩ ⟨hx02.then_upd hu4 hs1, fun _ => rfl, fun h0 => by omega⟩
  refine St.condF rfl (by simp only [signI, if_neg hneg]; split <;> decide) ?_
  have hA : (sg na (val xs)).natAbs = val xs := sg_abs _ _
  have hav : sg na (val xs) = (val xs : Int) := by omega
  (iterate 6 ((repeat with_reducible first|refine .nil ?_|refine .then_normal ?_|refine .block_normal ?_|refine .seq ?_|refine .block ?_|refine .skip ?_|refine .region ?_|refine .ret ?_|refine .then_ret ?_|refine .block_ret ?_|refine .exit ?_|refine .then_exit ?_|refine .block_exit ?_|refine .block_other rfl ?_); try refine .run TBok 99 rfl ?_))
  refine StL.step rfl rfl rfl (RunsTo.load TBok rfl rfl rfl (hB1.cell rfl)).op ?_
  rintro _ _ ⟨rfl, rfl⟩
  refine StL.step rfl rfl rfl (OpR.call fn_r01_trim rfl (rtrim_spec (base := 0) w3 _ xs (hs.ext hx02) (by omega) (Nat.zero_le _))) ?_
  rintro v14 w4 ⟨hx4, h14⟩
  replace hB1 := hB1.ext hx4
  replace hB2 := hB2.ext hx4
  replace hx02 := hx02.trans hx4
  clear hx4
  obtain ⟨p14, c14, rfl, _⟩ := h14.sl.form
  have hMlt : val xs < 4294967296 ^ (limbs (val xs)).length := by have := val_lt _ h14.2; rwa [val_limbs] at this
  generalize hM : val xs = M at *
  obtain ⟨L, hL⟩ : ∃ L, L = ((limbs M).length + 1) / 2 := ⟨_, rfl⟩
  have eL : IntKind.i64.wrap (((limbs M).length : Int) + 1) = (((limbs M).length + 1 : Nat) : Int) := by rw [i64_id (by omega) (by omega)]; rfl
  refine .run TBok 99 rfl ?_
  (repeat with_reducible first|refine .nil ?_|refine .then_normal ?_|refine .block_normal ?_|refine .seq ?_|refine .block ?_|refine .skip ?_|refine .region ?_|refine .ret ?_|refine .then_ret ?_|refine .block_ret ?_|refine .exit ?_|refine .then_exit ?_|refine .block_exit ?_|refine .block_other rfl ?_)
  refine StL.as TBok 3 (.int .i64 (((limbs M).length + 1 : Nat) : Int)) rfl (by rw [eL]) ?_
  refine StL.step rfl rfl rfl (RunsTo.quoN ((limbs M).length + 1) 2 rfl rfl rfl rfl (by decide) (i64_of _ (by omega))).op ?_
  rintro _ _ ⟨rfl, rfl⟩
  rw [← hL]
  refine StL.step rfl rfl rfl (OpR.make TBok L rfl rfl rfl rfl rfl rfl rfl rfl (by simp; omega) (by omega)) ?_
  rintro _ w5 ⟨rfl, hb5, hx5, hz5⟩
  have hg4 : w.heap.size ≤ w4.heap.size := hx02.size
  have hlt4 := hB2.lt
  have hx05 := hx02.trans hx5
  have hB15 := hB1.ext hx5
  have hB25 := hB2.ext hx5
  (iterate 6 ((repeat with_reducible first|refine .nil ?_|refine .then_normal ?_|refine .block_normal ?_|refine .seq ?_|refine .block ?_|refine .skip ?_|refine .region ?_|refine .ret ?_|refine .then_ret ?_|refine .block_ret ?_|refine .exit ?_|refine .then_exit ?_|refine .block_exit ?_|refine .block_other rfl ?_); try refine .run TBok 99 rfl ?_))
  have ei : IntKind.i64.wrap (IntKind.i64.wrap (32 * (L : Int)) - 1) = ((32 * L : Nat) : Int) - 1 := by
    rw [i64_id (n := 32 * (L : Int)) (by omega) (by omega), i64_id (by omega) (by omega)]; omega
  have hbig : M < 2 ^ (32 * L) * 2 ^ (32 * L) := by
    rw [← Nat.pow_add, show 32 * L + 32 * L = 32 * (2 * L) from by omega, Nat.pow_mul]
    exact Nat.lt_of_lt_of_le hMlt (Nat.pow_le_pow_right (by decide) (by omega))
  refine St.loop (fun g : List Nat × Nat => [(1, .pointer (some ⟨w.heap.size, 0, none⟩)), (2, .pointer (some ⟨w1.heap.size, 0, none⟩)), (5, .slice (some ⟨w4.heap.size, 0, none⟩) L L), (6, .int .i64 ((g.2 : Int) - 1))])
    (fun g w' => Ext w w' ∧ Blk 24 w' w.heap.size [.bool na, .slice p xs.length cap] ∧ Blk 24 w' w1.heap.size [.bool false, .slice none 0 0] ∧ Blk 41 w' w4.heap.size (g.1.map u32) ∧ g.1.length = L ∧ Lim g.1 ∧ g.2 ≤ 32 * L ∧ val g.1 % 2 ^ g.2 = 0 ∧ val g.1 * val g.1 ≤ M ∧ M < (val g.1 + 2 ^ g.2) * (val g.1 + 2 ^ g.2))
    (fun g => g.2) (List.replicate L 0, 32 * L) ⟨rfl, rfl, rfl, ?_, trivial⟩ ⟨hx05, hB15, hB25, by rw [List.map_replicate]; exact hb5, by simp, lim_replicate _, Nat.le_refl _, by simp [val_replicate_zero], by simp [val_replicate_zero], by simpa [val_replicate_zero] using hbig⟩ ?_
  · show some (Value.int .i64 (IntKind.i64.wrap (IntKind.i64.wrap (32 * (L : Int)) - 1))) = _
    rw [ei]
  clear hB1 hB2 hB15 hB25 hb5 hx5 hx05 hx02
  rintro ⟨rs, j⟩ w6 ⟨hx6, hB1, hB2, hbr, hrl, hrlim, hj, hdiv, hlo, hhi⟩
  dsimp only at hx6 hB1 hB2 hbr hrl hrlim hj hdiv hlo hhi ⊢
  have hslOf : ∀ {w' : World} {ts : List Nat}, Blk 41 w' w4.heap.size (ts.map u32) → ts.length = L → Lim ts → Sl w' (.slice (some ⟨w4.heap.size, 0, none⟩) L L) ts := fun hb hl hm => ⟨hb.row (by simp [hl]) (Nat.le_refl _) (by simp [hl]) (by rw [List.drop_zero, List.take_of_length_le (by simp [hl])]), hm⟩
  by_cases hj0 : j = 0
  · subst hj0
    (repeat with_reducible first|refine .nil ?_|refine .then_normal ?_|refine .block_normal ?_|refine .seq ?_|refine .block ?_|refine .skip ?_|refine .region ?_|refine .ret ?_|refine .then_ret ?_|refine .block_ret ?_|refine .exit ?_|refine .then_exit ?_|refine .block_exit ?_|refine .block_other rfl ?_)
    refine StL.as TBok 2 (.bool false) rfl (bool_false (by omega)) ?_
    (repeat with_reducible first|refine .nil ?_|refine .then_normal ?_|refine .block_normal ?_|refine .seq ?_|refine .block ?_|refine .skip ?_|refine .region ?_|refine .ret ?_|refine .then_ret ?_|refine .block_ret ?_|refine .exit ?_|refine .then_exit ?_|refine .block_exit ?_|refine .block_other rfl ?_)
    refine St.condF rfl rfl ?_
    (iterate 6 ((repeat with_reducible first|refine .nil ?_|refine .then_normal ?_|refine .block_normal ?_|refine .seq ?_|refine .block ?_|refine .skip ?_|refine .region ?_|refine .ret ?_|refine .then_ret ?_|refine .block_ret ?_|refine .exit ?_|refine .then_exit ?_|refine .block_exit ?_|refine .block_other rfl ?_); try refine .run TBok 99 rfl ?_))
    refine StL.step rfl rfl rfl (OpR.call fn_r01_Make rfl (make_spec (base := 0) w6 false _ rs (hslOf hbr hrl hrlim) (by omega) (Nat.zero_le _))) ?_
    rintro v57 w7 ⟨hx7, h57⟩
    replace hB2 := hB2.ext hx7
    replace hx6 := hx6.trans hx7
    clear hx7
    refine StL.setCan rfl rfl hB2 rfl h57 hx6 hs1 ?_
    intro w8 hb8 hu8 h57' hx8
    (iterate 6 ((repeat with_reducible first|refine .nil ?_|refine .then_normal ?_|refine .block_normal ?_|refine .seq ?_|refine .block ?_|refine .skip ?_|refine .region ?_|refine .ret ?_|refine .then_ret ?_|refine .block_ret ?_|refine .exit ?_|refine .then_exit ?_|refine .block_exit ?_|refine .block_other rfl ?_); try refine .run TBok 99 rfl ?_))
    refine Out.rets TBok [v57, .bool true] rfl ⟨⟨_, _, _, _, rfl, hb8, rfl, rfl, h57'.two.1, by simpa using h57'.agg⟩, rfl, trivial⟩ ⟨hx8, fun h0 => absurd h0 hneg, fun _ => ⟨v57, val rs, rfl, ?_, h57'⟩⟩
    rw [hA]
    exact ⟨hlo, by simpa using hhi⟩
  obtain ⟨i, rfl⟩ : ∃ i, j = i + 1 := ⟨j - 1, by omega⟩
  have ej : ((i + 1 : Nat) : Int) - 1 = (i : Int) := by omega
  rw [ej]
  have hyk : rs[i / 32]? = some rs[i / 32] := by simp
  have hev2 : rs[i / 32] % 2 ^ (i % 32 + 1) = 0 := by
    refine limb_even hrlim hyk (Nat.mod_lt _ (by decide)) ?_
    rw [show 32 * (i / 32) + i % 32 + 1 = i + 1 from by omega]
    exact hdiv
  generalize rs[i / 32] = y at hyk hev2
  have hyl := hrlim.get hyk
  have hor := or_bit hev2
  have hp32 : 2 ^ (i % 32) < 4294967296 := Nat.pow_lt_pow_right (by decide) (Nat.mod_lt _ (by decide) : i % 32 < 32)
  have hyp : y + 2 ^ (i % 32) < 4294967296 := by
    rw [← hor]
    exact Nat.or_lt_two_pow (n := 32) hyl hp32
  have hset : val (rs.set (i / 32) (y + 2 ^ (i % 32))) = val rs + 2 ^ i := by
    rw [val_set_add hyk, Nat.mul_comm, ← pow_at, Nat.div_add_mod]
  have hpi : (2 : Nat) ^ (i + 1) = 2 * 2 ^ i := by rw [Nat.pow_succ]; omega
  have hdivi : val rs % 2 ^ i = 0 := by
    obtain ⟨z, hz⟩ := Nat.dvd_of_mod_eq_zero hdiv
    rw [hz, Nat.pow_succ, Nat.mul_assoc]
    exact Nat.mul_mod_right _ _
  (repeat with_reducible first|refine .nil ?_|refine .then_normal ?_|refine .block_normal ?_|refine .seq ?_|refine .block ?_|refine .skip ?_|refine .region ?_|refine .ret ?_|refine .then_ret ?_|refine .block_ret ?_|refine .exit ?_|refine .then_exit ?_|refine .block_exit ?_|refine .block_other rfl ?_)
  refine StL.as TBok 2 (.bool true) rfl (bool_true (by omega)) ?_
  (repeat with_reducible first|refine .nil ?_|refine .then_normal ?_|refine .block_normal ?_|refine .seq ?_|refine .block ?_|refine .skip ?_|refine .region ?_|refine .ret ?_|refine .then_ret ?_|refine .block_ret ?_|refine .exit ?_|refine .then_exit ?_|refine .block_exit ?_|refine .block_other rfl ?_)
  refine St.condT rfl rfl ?_
  (repeat with_reducible first|refine .nil ?_|refine .then_normal ?_|refine .block_normal ?_|refine .seq ?_|refine .block ?_|refine .skip ?_|refine .region ?_|refine .ret ?_|refine .then_ret ?_|refine .block_ret ?_|refine .exit ?_|refine .then_exit ?_|refine .block_exit ?_|refine .block_other rfl ?_)
  refine St.sub (E' := [(1, .pointer (some ⟨w.heap.size, 0, none⟩)), (2, .pointer (some ⟨w1.heap.size, 0, none⟩)), (5, .slice (some ⟨w4.heap.size, 0, none⟩) L L), (6, .int .i64 i)]) ?_ ⟨rfl, rfl, rfl, rfl, trivial⟩
  refine St.flow 10 TBfol (by kernel_rfl) rfl (by kernel_rfl) rfl True.intro ?_
  refine FL.run TBok 99 rfl ?_
  refine FL.one (L := []) rfl rfl rfl rfl rfl (fun _ _ => RunsTo.quoN i 32 rfl rfl rfl rfl (by decide) (i64_of _ (by omega))) ?_
  refine FL.one (L := []) rfl rfl rfl rfl rfl (fun _ _ => RunsTo.indexAddr TBok rfl rfl rfl rfl rfl (by omega) (by omega)) ?_
  refine FL.load (L := []) TBok rfl rfl rfl rfl rfl (by simp only [Int.toNat_natCast, addr_add, Nat.zero_add]; rfl) hbr (by simp) (by simp [hyk]; rfl) ?_
  refine FL.run TBok 99 rfl ?_
  refine FL.one (L := []) rfl rfl rfl rfl rfl (fun _ _ => RunsTo.remN i 32 rfl rfl rfl rfl (by decide)) ?_
  refine FL.one (L := []) rfl rfl rfl rfl rfl (fun _ _ => RunsTo.shlN 1 (i % 32) rfl rfl rfl rfl (by show i % 32 ≤ 32; omega) (by rw [Nat.one_mul]; exact u32_id (by omega) (by omega))) ?_
  refine FL.as TBok 1 (.int .u32 ((y + 2 ^ (i % 32) : Nat) : Int)) rfl (by rw [or_u32 _ _ hyl (by rw [Nat.one_mul]; exact hp32), Nat.one_mul, hor]) ?_
  refine FL.one (L := []) rfl rfl rfl rfl rfl (fun _ _ => RunsTo.indexAddr TBok rfl rfl rfl rfl rfl (by omega) (by omega)) ?_
  refine FL.endE rfl ?_
  intro w7 hx7 _ _
  refine StL.step0 rfl rfl (OpR.store TBok (vs := [u32 (y + 2 ^ (i % 32))]) rfl (by simp only [Int.toNat_natCast, addr_add, Nat.zero_add]; rfl) rfl rfl rfl (hbr.ext hx7) (by simp; omega) (by simp [Value.oneCell'])) ?_
  rintro _ w8 ⟨hb8, hu8⟩
  have hbr8 : Blk 41 w8 w4.heap.size ((rs.set (i / 32) (y + 2 ^ (i % 32))).map u32) := by
    rw [← map_set_u32]; exact hb8
  have hx08 := (hx6.trans hx7).then_upd hu8 hg4
  have hB18 := (hB1.ext hx7).upd hu8 (by omega)
  have hB28 := (hB2.ext hx7).upd hu8 (by omega)
  have hrl8 : (rs.set (i / 32) (y + 2 ^ (i % 32))).length = L := by simpa using hrl
  have hrlim8 : Lim (rs.set (i / 32) (y + 2 ^ (i % 32))) := hrlim.set _ hyp
  clear hx7 hu8 hb8 hbr hB1 hB2 hx6
  (iterate 6 ((repeat with_reducible first|refine .nil ?_|refine .then_normal ?_|refine .block_normal ?_|refine .seq ?_|refine .block ?_|refine .skip ?_|refine .region ?_|refine .ret ?_|refine .then_ret ?_|refine .block_ret ?_|refine .exit ?_|refine .then_exit ?_|refine .block_exit ?_|refine .block_other rfl ?_); try refine .run TBok 99 rfl ?_))
  refine StL.step rfl rfl rfl (OpR.call fn_r01_Make rfl (make_spec (base := 0) w8 false _ _ (hslOf hbr8 hrl8 hrlim8) (by omega) (Nat.zero_le _))) ?_
  rintro v39 w9 ⟨hx9, h39⟩
  rw [hset] at h39
  have hszr : sz (((val rs + 2 ^ i : Nat)) : Int) ≤ 100000 := by
    unfold sz
    rw [Int.natAbs_natCast, ← hset]
    exact Nat.le_trans (limbs_length_le _ hrlim8) (by omega)
  have h39' : CanO 0 w9 v39 ((val rs + 2 ^ i : Nat) : Int) := h39
  replace hbr8 := hbr8.ext hx9
  replace hB18 := hB18.ext hx9
  replace hB28 := hB28.ext hx9
  replace hx08 := hx08.trans hx9
  clear hx9
  refine StL.setNew rfl (fun _ => rfl) h39' hx08 ?_
  intro b7 w10 hg7 hx10 hS7 h7 hx010
  replace hbr8 := hbr8.ext hx10
  replace hB18 := hB18.ext hx10
  replace hB28 := hB28.ext hx10
  clear hx10
  clear hx08 h39 h39'
  have hDa := hD.ext hx010
  rw [hav] at hDa
  have hmm := sz_mul (((val rs + 2 ^ i : Nat)) : Int) (((val rs + 2 ^ i : Nat)) : Int)
  (repeat with_reducible first|refine .nil ?_|refine .then_normal ?_|refine .block_normal ?_|refine .seq ?_|refine .block ?_|refine .skip ?_|refine .region ?_|refine .ret ?_|refine .then_ret ?_|refine .block_ret ?_|refine .exit ?_|refine .then_exit ?_|refine .block_exit ?_|refine .block_other rfl ?_)
  refine St.sub (E' := [(1, .pointer (some ⟨w.heap.size, 0, none⟩)), (2, .pointer (some ⟨w1.heap.size, 0, none⟩)), (5, .slice (some ⟨w4.heap.size, 0, none⟩) L L), (6, .int .i64 i), (7, .pointer (some ⟨b7, 0, none⟩))]) ?_ ⟨rfl, rfl, rfl, rfl, rfl, trivial⟩
  refine St.flow 6 TBfol (by kernel_rfl) rfl (by kernel_rfl) rfl True.intro ?_
  refine FL.run TBok 99 rfl ?_
  refine FL.one (L := []) rfl rfl rfl rfl rfl (fun _ hR => RunsTo.loadCan rfl (hR.blk hS7 (by simp)) h7) ?_
  refine FL.one (L := []) rfl rfl rfl rfl rfl (fun _ hR => RunsTo.loadCan rfl (hR.blk hS7 (by simp)) h7) ?_
  refine FL.callE fn_r01_Mul rfl rfl rfl (fun w11 hx11 => CallF.mk rfl (rmul_dn (base := 0) ((h7.ext hx11).dn (by omega)) ((h7.ext hx11).dn (by omega)) (Nat.zero_le _))) (MonoR.canO 0 _) ?_
  refine FL.loadAgg (L := []) TBok rfl rfl rfl rfl rfl rfl hB18 (by simp) (Nat.le_refl _) rfl ?_
  refine FL.callXE fn_r01_Cmp rfl rfl rfl (fun w11 hx11 v42 h42 => CallF.mk rfl (rcmp_dn (h42.dn (by omega)) (hDa.ext hx11))) ?_
  refine FL.run TBok 99 rfl ?_
  refine FL.endE rfl ?_
  intro w11 hx11 v42 _ _ _
  replace hbr8 := hbr8.ext hx11
  replace hB18 := hB18.ext hx11
  replace hB28 := hB28.ext hx11
  replace hx010 := hx010.trans hx11
  clear hx11
  clear hS7 h7 hDa
  have hsq : ((val rs + 2 ^ i : Nat) : Int) * ((val rs + 2 ^ i : Nat) : Int) = (((val rs + 2 ^ i) * (val rs + 2 ^ i) : Nat) : Int) := (Int.natCast_mul _ _).symm
  rw [hsq]
  (iterate 6 ((repeat with_reducible first|refine .nil ?_|refine .then_normal ?_|refine .block_normal ?_|refine .seq ?_|refine .block ?_|refine .skip ?_|refine .region ?_|refine .ret ?_|refine .then_ret ?_|refine .block_ret ?_|refine .exit ?_|refine .then_exit ?_|refine .block_exit ?_|refine .block_other rfl ?_); try refine .run TBok 99 rfl ?_))
  by_cases hgt : M < (val rs + 2 ^ i) * (val rs + 2 ^ i)
  · refine St.condT rfl (by unfold cmpI; rw [if_neg (by omega), if_pos (by omega)]; decide) ?_
    have hyk8 : (rs.set (i / 32) (y + 2 ^ (i % 32)))[i / 32]? = some (y + 2 ^ (i % 32)) := List.getElem?_set_self (by omega)
    (repeat with_reducible first|refine .nil ?_|refine .then_normal ?_|refine .block_normal ?_|refine .seq ?_|refine .block ?_|refine .skip ?_|refine .region ?_|refine .ret ?_|refine .then_ret ?_|refine .block_ret ?_|refine .exit ?_|refine .then_exit ?_|refine .block_exit ?_|refine .block_other rfl ?_)
    refine St.sub (E' := [(1, .pointer (some ⟨w.heap.size, 0, none⟩)), (2, .pointer (some ⟨w1.heap.size, 0, none⟩)), (5, .slice (some ⟨w4.heap.size, 0, none⟩) L L), (6, .int .i64 i)]) ?_ ⟨rfl, rfl, rfl, rfl, trivial⟩
    refine St.flow 10 TBfol (by kernel_rfl) rfl (by kernel_rfl) rfl True.intro ?_
    refine FL.run TBok 99 rfl ?_
    refine FL.one (L := []) rfl rfl rfl rfl rfl (fun _ _ => RunsTo.quoN i 32 rfl rfl rfl rfl (by decide) (i64_of _ (by omega))) ?_
    refine FL.one (L := []) rfl rfl rfl rfl rfl (fun _ _ => RunsTo.indexAddr TBok rfl rfl rfl rfl rfl (by omega) (by omega)) ?_
    refine FL.load (v := u32 (y + 2 ^ (i % 32))) (L := []) TBok rfl rfl rfl rfl rfl (by simp only [Int.toNat_natCast, addr_add, Nat.zero_add]; rfl) hbr8 (by simp) (by rw [List.getElem?_map, hyk8]; rfl) ?_
    refine FL.run TBok 99 rfl ?_
    refine FL.one (L := []) rfl rfl rfl rfl rfl (fun _ _ => RunsTo.remN i 32 rfl rfl rfl rfl (by decide)) ?_
    refine FL.one (L := []) rfl rfl rfl rfl rfl (fun _ _ => RunsTo.shlN 1 (i % 32) rfl rfl rfl rfl (by show i % 32 ≤ 32; omega) (by rw [Nat.one_mul]; exact u32_id (by omega) (by omega))) ?_
    refine FL.as TBok 1 (.int .u32 (y : Int)) rfl (by rw [Nat.one_mul, andNot_bit hev2 hyp]) ?_
    refine FL.one (L := []) rfl rfl rfl rfl rfl (fun _ _ => RunsTo.indexAddr TBok rfl rfl rfl rfl rfl (by omega) (by omega)) ?_
    refine FL.endE rfl ?_
    intro w12 hx12 _ _
    refine StL.step0 rfl rfl (OpR.store TBok (vs := [u32 y]) rfl (by simp only [Int.toNat_natCast, addr_add, Nat.zero_add]; rfl) rfl rfl rfl (hbr8.ext hx12) (by simp; omega) (by simp [Value.oneCell'])) ?_
    rintro _ w13 ⟨hb13, hu13⟩
    have hbr13 : Blk 41 w13 w4.heap.size (rs.map u32) := by
      have e := val_set_same hyk (y + 2 ^ (i % 32))
      rw [← e, ← map_set_u32]; exact hb13
    (iterate 6 ((repeat with_reducible first|refine .nil ?_|refine .then_normal ?_|refine .block_normal ?_|refine .seq ?_|refine .block ?_|refine .skip ?_|refine .region ?_|refine .ret ?_|refine .then_ret ?_|refine .block_ret ?_|refine .exit ?_|refine .then_exit ?_|refine .block_exit ?_|refine .block_other rfl ?_); try refine .run TBok 99 rfl ?_))
    refine Out.again (rs, i) ⟨rfl, rfl, rfl, ?_, trivial⟩ ⟨(hx010.trans hx12).then_upd hu13 hg4, (hB18.ext hx12).upd hu13 (by omega), (hB28.ext hx12).upd hu13 (by omega), hbr13, hrl, hrlim, by dsimp only; omega, hdivi, hlo, hgt⟩ (Nat.lt_succ_self i)
    show some (Value.int .i64 (IntKind.i64.wrap ((i : Int) - 1))) = _
    rw [i64_id (by omega) (by omega)]
  · refine St.condF rfl (by unfold cmpI; rw [decide_eq_false]; split <;> (try split) <;> omega) ?_
    (iterate 6 ((repeat with_reducible first|refine .nil ?_|refine .then_normal ?_|refine .block_normal ?_|refine .seq ?_|refine .block ?_|refine .skip ?_|refine .region ?_|refine .ret ?_|refine .then_ret ?_|refine .block_ret ?_|refine .exit ?_|refine .then_exit ?_|refine .block_exit ?_|refine .block_other rfl ?_); try refine .run TBok 99 rfl ?_))
    refine Out.again (rs.set (i / 32) (y + 2 ^ (i % 32)), i) ⟨rfl, rfl, rfl, ?_, trivial⟩ ⟨hx010, hB18, hB28, hbr8, hrl8, hrlim8, by dsimp only; omega, ?_, ?_, ?_⟩ (Nat.lt_succ_self i)
    · show some (Value.int .i64 (IntKind.i64.wrap ((i : Int) - 1))) = _
      rw [i64_id (by omega) (by omega)]
    · dsimp only
      rw [hset, Nat.add_mod_right]
      exact hdivi
    · dsimp only
      rw [hset]
      omega
    · dsimp only
      rw [hset]
      rw [hpi] at hhi
      exact sq_step hhi

end Go.Qf
