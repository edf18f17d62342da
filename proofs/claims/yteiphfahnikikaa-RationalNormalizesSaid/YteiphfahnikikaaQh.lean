/- Lemmas on the model and on the program's functions, part Qh. -/
import Derived.Test.YteiphfahnikikaaQa
import Derived.Test.YteiphfahnikikaaQb
import Derived.Test.YteiphfahnikikaaQc
import Derived.Test.YteiphfahnikikaaQd
import Derived.Test.YteiphfahnikikaaQe
import Derived.Test.YteiphfahnikikaaQf
import Derived.Test.YteiphfahnikikaaQg
/- rational.lowest, New, Whole, Normalize, canonical. -/
namespace Go.Qf
open Go Go.RowKit Go.Proofs
set_option maxRecDepth 20000

theorem sz_low {a b : Int} (ha : sz a ≤ 1000000) (hb : sz b ≤ 1000000) : sz (if b < 0 then -((Nat.gcd a.natAbs b.natAbs : Nat) : Int) else ((Nat.gcd a.natAbs b.natAbs : Nat) : Int)) ≤ 1000000 := by
  have h := sz_gcd a b
  split
  · rw [sz_neg]; omega
  · omega
theorem low_ne {a b : Int} (hb : b ≠ 0) : (if b < 0 then -((Nat.gcd a.natAbs b.natAbs : Nat) : Int) else ((Nat.gcd a.natAbs b.natAbs : Nat) : Int)) ≠ 0 := by
  have h := gcd_ne (a := a) hb
  split <;> omega

set_option maxHeartbeats 400000 in
theorem lowest_spec {base : Nat} {w : World} {x y : Value} {a b : Int} (hX : Dn w x a) (hY : Dn w y b) (hb : b ≠ 0) (hbase : base ≤ w.heap.size) :
    Calls Try.prog 74 #[x, y] w (Ret fun r w' => Ext w w' ∧ CanR base w' r (Rat.divInt a b)) := by
  have hX0 := hX
  have hY0 := hY
  refine calls_of_St (args := [_, _]) Try.func74 rfl Try.ntmps74 rfl ?_
  (repeat with_reducible first|refine .nil ?_|refine .then_normal ?_|refine .block_normal ?_|refine .seq ?_|refine .block ?_|refine .skip ?_|refine .region ?_|refine .ret ?_|refine .then_ret ?_|refine .block_ret ?_|refine .exit ?_|refine .then_exit ?_|refine .block_exit ?_|refine .block_other rfl ?_)
  refine StL.step rfl rfl rfl (OpR.box rfl) ?_
  rintro _ w1 ⟨rfl, B1, hx1, hz1⟩
  refine StL.step rfl rfl rfl (OpR.box rfl) ?_
  rintro _ w2 ⟨rfl, B2, hx2, hz2⟩
  refine StL.step rfl rfl rfl (OpR.alloc TBok rfl) ?_
  rintro _ w3 ⟨rfl, B3, hx3, hz3⟩
  have hx0 : Ext w w3 := (hx1.trans hx2).trans hx3
  replace B1 := (B1.ext hx2).ext hx3
  replace B2 := B2.ext hx3
  replace hX := hX.ext hx0
  replace hY := hY.ext hx0
  clear hx1 hx2 hx3
  (iterate 6 ((repeat with_reducible first|refine .nil ?_|refine .then_normal ?_|refine .block_normal ?_|refine .seq ?_|refine .block ?_|refine .skip ?_|refine .region ?_|refine .ret ?_|refine .then_ret ?_|refine .block_ret ?_|refine .exit ?_|refine .then_exit ?_|refine .block_exit ?_|refine .block_other rfl ?_); try refine .run TBok 99 rfl ?_))
  refine StL.step rfl rfl rfl (RunsTo.loadI2 rfl (B1) (hX.r2)).op ?_
  rintro _ _ ⟨rfl, rfl⟩
  refine StL.step rfl rfl rfl (RunsTo.loadI2 rfl (B2) (hY.r2)).op ?_
  rintro _ _ ⟨rfl, rfl⟩
  refine StL.step rfl rfl rfl (OpR.call fn_integer_Gcd rfl (gcd_dn hX hY)) ?_
  rintro g w4 ⟨hx4, hg⟩
  replace B1 := B1.ext hx4
  replace B2 := B2.ext hx4
  replace B3 := B3.ext hx4
  replace hX := hX.ext hx4
  replace hY := hY.ext hx4
  replace hx0 := hx0.trans hx4
  clear hx4
  refine StL.setNew rfl (fun _ => rfl) hg hx0 ?_
  intro b5 w5 hl5 hx45 B5 hg5 hx05
  (iterate 6 ((repeat with_reducible first|refine .nil ?_|refine .then_normal ?_|refine .block_normal ?_|refine .seq ?_|refine .block ?_|refine .skip ?_|refine .region ?_|refine .ret ?_|refine .then_ret ?_|refine .block_ret ?_|refine .exit ?_|refine .then_exit ?_|refine .block_exit ?_|refine .block_other rfl ?_); try refine .run TBok 99 rfl ?_))
  refine StL.step rfl rfl rfl (RunsTo.loadI2 rfl (B2.ext hx45) (hY.r2)).op ?_
  rintro _ _ ⟨rfl, rfl⟩
  refine StL.step rfl rfl rfl (OpR.call fn_integer_Sign rfl (sign_dn (hY.ext hx45))) ?_
  rintro _ w6 ⟨hx6, rfl⟩
  replace B5 := B5.ext hx6
  replace hg5 := hg5.ext hx6
  replace hx45 := hx45.trans hx6
  replace hx05 := hx05.trans hx6
  clear hx6
  have hsz := sz_low hX.sz_le hY.sz_le
  have hne := low_ne (a := a) hb
  have hnum := lowest_num (a := a) hb
  have hden := lowest_den (a := a) hb
  refine .run TBok 99 rfl ?_
  refine StL.nil (Out.then_normal (St.cutX (fun _ : Value => [(2, .pointer (some ⟨w.heap.size, 0, none⟩)), (3, .pointer (some ⟨w1.heap.size, 0, none⟩)), (4, .pointer (some ⟨w2.heap.size, 0, none⟩)), (5, .pointer (some ⟨b5, 0, none⟩))]) (fun u w' => Ext w4 w' ∧ Blk 25 w' b5 u.cells.toList ∧ CanO 0 w' u (if b < 0 then -((Nat.gcd a.natAbs b.natAbs : Nat) : Int) else ((Nat.gcd a.natAbs b.natAbs : Nat) : Int))) ?_ ?_))
  · by_cases hneg : b < 0
    · refine St.condT rfl (decide_eq_true (by unfold signI; rw [if_pos hneg]; decide)) ?_
      rw [if_pos hneg, sz_neg] at hsz
      (iterate 6 ((repeat with_reducible first|refine .nil ?_|refine .then_normal ?_|refine .block_normal ?_|refine .seq ?_|refine .block ?_|refine .skip ?_|refine .region ?_|refine .ret ?_|refine .then_ret ?_|refine .block_ret ?_|refine .exit ?_|refine .then_exit ?_|refine .block_exit ?_|refine .block_other rfl ?_); try refine .run TBok 99 rfl ?_))
      refine StL.step rfl rfl rfl (RunsTo.loadI2 rfl (B5) (hg5.r2)).op ?_
      rintro _ _ ⟨rfl, rfl⟩
      refine StL.step rfl rfl rfl (OpR.call fn_integer_Neg rfl (neg_dn (hg5.dn hsz))) ?_
      rintro v7 w7 ⟨hx7, h7⟩
      refine StL.setCan rfl rfl (B5.ext hx7) hg5.two.1 h7 (hx45.trans hx7) hl5 ?_
      intro w8 B8 hu8 h8 hx8
      refine StL.nil (Out.met v7 ⟨rfl, rfl, rfl, rfl, trivial⟩ ⟨hx8, B8, ?_⟩)
      rw [if_pos hneg]
      exact h8
    · refine St.condF rfl (decide_eq_false (by unfold signI; rw [if_neg hneg]; split <;> decide)) (St.skip (Out.met g ⟨rfl, rfl, rfl, rfl, trivial⟩ ⟨hx45, B5, ?_⟩))
      rw [if_neg hneg]
      exact hg5
  · rintro u w7 ⟨hx7, B5', hu⟩
    have hl1 := B1.lt
    have hl2 := B2.lt
    have hl3 := B3.lt
    replace B1 := B1.ext hx7
    replace B2 := B2.ext hx7
    replace B3 := B3.ext hx7
    replace hX := hX.ext hx7
    replace hY := hY.ext hx7
    replace hx0 := hx0.trans hx7
    clear hx7
    generalize (if b < 0 then -((Nat.gcd a.natAbs b.natAbs : Nat) : Int) else ((Nat.gcd a.natAbs b.natAbs : Nat) : Int)) = D at *
    clear B5 hg5 hx45 hx05 hg
    (iterate 6 ((repeat with_reducible first|refine .nil ?_|refine .then_normal ?_|refine .block_normal ?_|refine .seq ?_|refine .block ?_|refine .skip ?_|refine .region ?_|refine .ret ?_|refine .then_ret ?_|refine .block_ret ?_|refine .exit ?_|refine .then_exit ?_|refine .block_exit ?_|refine .block_other rfl ?_); try refine .run TBok 99 rfl ?_))
    refine StL.step rfl rfl rfl (RunsTo.loadI2 rfl (B1) (hX.r2)).op ?_
    rintro _ _ ⟨rfl, rfl⟩
    refine StL.step rfl rfl rfl (RunsTo.loadI2 rfl (B5') (hu.r2)).op ?_
    rintro _ _ ⟨rfl, rfl⟩
    refine StL.step rfl rfl rfl (OpR.call fn_integer_DivMod rfl (divMod_dn (base := base) hX (hu.dn hsz) (Nat.le_trans hbase hx0.size))) ?_
    rintro _ w8 ⟨hx8, _, hd⟩
    obtain ⟨q1, m1, rfl, hq1, _⟩ := hd hne
    rw [hnum] at hq1
    replace B1 := B1.ext hx8
    replace B2 := B2.ext hx8
    replace B3 := B3.ext hx8
    replace B5' := B5'.ext hx8
    replace hu := hu.ext hx8
    replace hx0 := hx0.trans hx8
    clear hx8
    refine .run TBok 99 rfl ?_
    refine StL.setCan rfl rfl B1 hX.r2.len hq1 hx0 (Nat.le_refl _) ?_
    intro w9 B1' hu9 hq1' hx9
    replace B2 := B2.upd hu9 (by omega)
    replace B3 := B3.upd hu9 (by omega)
    replace B5' := B5'.upd hu9 (by omega)
    replace hu := hu.updT hu9 B1 (by decide)
    clear hu9 B1 hx0
    (iterate 6 ((repeat with_reducible first|refine .nil ?_|refine .then_normal ?_|refine .block_normal ?_|refine .seq ?_|refine .block ?_|refine .skip ?_|refine .region ?_|refine .ret ?_|refine .then_ret ?_|refine .block_ret ?_|refine .exit ?_|refine .then_exit ?_|refine .block_exit ?_|refine .block_other rfl ?_); try refine .run TBok 99 rfl ?_))
    refine StL.step rfl rfl rfl (RunsTo.loadI2 rfl (B2) (hY.r2)).op ?_
    rintro _ _ ⟨rfl, rfl⟩
    refine StL.step rfl rfl rfl (RunsTo.loadI2 rfl (B5') (hu.r2)).op ?_
    rintro _ _ ⟨rfl, rfl⟩
    refine StL.step rfl rfl rfl (OpR.call fn_integer_DivMod rfl (divMod_dn (base := base) (hY0.ext hx9) (hu.dn hsz) (Nat.le_trans hbase hx9.size))) ?_
    rintro _ w10 ⟨hx10, _, hd⟩
    obtain ⟨q2, m2, rfl, hq2, _⟩ := hd hne
    rw [hden] at hq2
    replace B1' := B1'.ext hx10
    replace B2 := B2.ext hx10
    replace B3 := B3.ext hx10
    replace hq1' := hq1'.ext hx10
    replace hx9 := hx9.trans hx10
    clear hx10
    refine .run TBok 99 rfl ?_
    refine StL.setCan rfl rfl B2 hY.r2.len hq2 hx9 (by omega) ?_
    intro w11 B2' hu11 hq2' hx11
    replace B1' := B1'.upd hu11 (by omega)
    replace B3 := B3.upd hu11 (by omega)
    replace hq1' := hq1'.updT hu11 B2 (by decide)
    (iterate 6 ((repeat with_reducible first|refine .nil ?_|refine .then_normal ?_|refine .block_normal ?_|refine .seq ?_|refine .block ?_|refine .skip ?_|refine .region ?_|refine .ret ?_|refine .then_ret ?_|refine .block_ret ?_|refine .exit ?_|refine .then_exit ?_|refine .block_exit ?_|refine .block_other rfl ?_); try refine .run TBok 99 rfl ?_))
    refine StL.step rfl rfl rfl (RunsTo.loadI2 rfl (B1') (hq1.r2)).op ?_
    rintro _ _ ⟨rfl, rfl⟩
    refine StL.step rfl rfl rfl (RunsTo.loadI2 rfl (B2') (hq2.r2)).op ?_
    rintro _ _ ⟨rfl, rfl⟩
    refine StL.step rfl rfl rfl (RunsTo.buildR rfl rfl hq1.r2 hq2.r2).op ?_
    rintro _ _ ⟨rfl, rfl⟩
    have hR : CanR base w11 (mkR q1 q2) (Rat.divInt a b) := CanR.mk hq1' hq2'
    refine StL.setR rfl rfl rfl hR.1 B3 rfl hx11 (by omega) ?_
    intro w12 B12 hu12 hx12
    (iterate 6 ((repeat with_reducible first|refine .nil ?_|refine .then_normal ?_|refine .block_normal ?_|refine .seq ?_|refine .block ?_|refine .skip ?_|refine .region ?_|refine .ret ?_|refine .then_ret ?_|refine .block_ret ?_|refine .exit ?_|refine .then_exit ?_|refine .block_exit ?_|refine .block_other rfl ?_); try refine .run TBok 99 rfl ?_))
    exact Out.retR rfl rfl B12 hR.1 ⟨hx12, hR.upd hu12 B3 (by decide)⟩

/-- What New returns: 0/0 and false, or the quotient and true. -/
def NewV (base : Nat) (w : World) (r : Value) (a b : Int) : Prop := (b = 0 → r = .tuple #[zR, .bool false]) ∧ (b ≠ 0 → ∃ v, r = .tuple #[v, .bool true] ∧ CanR base w v (Rat.divInt a b))

theorem signI_eq0 (a : Int) : (signI a = 0) = (a = 0) := by
  unfold signI
  apply propext
  constructor
  · intro h
    split at h
    · omega
    · split at h <;> omega
  · intro h
    subst h
    rfl

theorem new_spec {base : Nat} {w : World} {x y : Value} {a b : Int} (hX : Dn w x a) (hY : Dn w y b) (hbase : base ≤ w.heap.size) :
    Calls Try.prog 23 #[x, y] w (Ret fun r w' => Ext w w' ∧ NewV base w' r a b) := by
  refine calls_of_St (args := [_, _]) Try.func23 rfl Try.ntmps23 rfl ?_
  (repeat with_reducible first|refine .nil ?_|refine .then_normal ?_|refine .block_normal ?_|refine .seq ?_|refine .block ?_|refine .skip ?_|refine .region ?_|refine .ret ?_|refine .then_ret ?_|refine .block_ret ?_|refine .exit ?_|refine .then_exit ?_|refine .block_exit ?_|refine .block_other rfl ?_)
  refine StL.step rfl rfl rfl (OpR.box rfl) ?_
  rintro _ w1 ⟨rfl, B1, hx1, hz1⟩
  refine StL.step rfl rfl rfl (OpR.box rfl) ?_
  rintro _ w2 ⟨rfl, B2, hx2, hz2⟩
  refine StL.step rfl rfl rfl (OpR.alloc TBok rfl) ?_
  rintro _ w3 ⟨rfl, B3, hx3, hz3⟩
  have hx0 : Ext w w3 := (hx1.trans hx2).trans hx3
  replace B1 := (B1.ext hx2).ext hx3
  replace B2 := B2.ext hx3
  replace hX := hX.ext hx0
  replace hY := hY.ext hx0
  clear hx1 hx2 hx3
  (iterate 6 ((repeat with_reducible first|refine .nil ?_|refine .then_normal ?_|refine .block_normal ?_|refine .seq ?_|refine .block ?_|refine .skip ?_|refine .region ?_|refine .ret ?_|refine .then_ret ?_|refine .block_ret ?_|refine .exit ?_|refine .then_exit ?_|refine .block_exit ?_|refine .block_other rfl ?_); try refine .run TBok 99 rfl ?_))
  refine StL.step rfl rfl rfl (RunsTo.loadI2 rfl (B2) (hY.r2)).op ?_
  rintro _ _ ⟨rfl, rfl⟩
  refine StL.step rfl rfl rfl (OpR.call fn_integer_Sign rfl (sign_dn hY)) ?_
  rintro _ w4 ⟨hx4, rfl⟩
  replace B1 := B1.ext hx4
  replace B2 := B2.ext hx4
  replace B3 := B3.ext hx4
  replace hX := hX.ext hx4
  replace hY := hY.ext hx4
  replace hx0 := hx0.trans hx4
  clear hx4
  by_cases h0 : b = 0
  · refine StL.as TBok 1 (.bool true) rfl (bool_true (by rw [signI_eq0]; exact h0)) ?_
    (iterate 6 ((repeat with_reducible first|refine .nil ?_|refine .then_normal ?_|refine .block_normal ?_|refine .seq ?_|refine .block ?_|refine .skip ?_|refine .region ?_|refine .ret ?_|refine .then_ret ?_|refine .block_ret ?_|refine .exit ?_|refine .then_exit ?_|refine .block_exit ?_|refine .block_other rfl ?_); try refine .run TBok 99 rfl ?_))
    refine St.condT rfl rfl ?_
    (iterate 6 ((repeat with_reducible first|refine .nil ?_|refine .then_normal ?_|refine .block_normal ?_|refine .seq ?_|refine .block ?_|refine .skip ?_|refine .region ?_|refine .ret ?_|refine .then_ret ?_|refine .block_ret ?_|refine .exit ?_|refine .then_exit ?_|refine .block_exit ?_|refine .block_other rfl ?_); try refine .run TBok 99 rfl ?_))
    refine StL.step rfl rfl rfl (RunsTo.build TBok rfl rfl rfl rfl).op ?_
    rintro _ _ ⟨rfl, rfl⟩
    refine StL.setR (v := zR) rfl rfl rfl zR_R4 B3 rfl hx0 (by omega) ?_
    intro w5 B5 hu5 hx5
    (iterate 6 ((repeat with_reducible first|refine .nil ?_|refine .then_normal ?_|refine .block_normal ?_|refine .seq ?_|refine .block ?_|refine .skip ?_|refine .region ?_|refine .ret ?_|refine .then_ret ?_|refine .block_ret ?_|refine .exit ?_|refine .then_exit ?_|refine .block_exit ?_|refine .block_other rfl ?_); try refine .run TBok 99 rfl ?_))
    exact Out.retRT rfl rfl rfl B5 zR_R4 ⟨hx5, fun _ => rfl, fun h => absurd h0 h⟩
  · refine StL.as TBok 1 (.bool false) rfl (bool_false (by rw [signI_eq0]; exact h0)) ?_
    (iterate 6 ((repeat with_reducible first|refine .nil ?_|refine .then_normal ?_|refine .block_normal ?_|refine .seq ?_|refine .block ?_|refine .skip ?_|refine .region ?_|refine .ret ?_|refine .then_ret ?_|refine .block_ret ?_|refine .exit ?_|refine .then_exit ?_|refine .block_exit ?_|refine .block_other rfl ?_); try refine .run TBok 99 rfl ?_))
    refine St.condF rfl rfl ?_
    (iterate 6 ((repeat with_reducible first|refine .nil ?_|refine .then_normal ?_|refine .block_normal ?_|refine .seq ?_|refine .block ?_|refine .skip ?_|refine .region ?_|refine .ret ?_|refine .then_ret ?_|refine .block_ret ?_|refine .exit ?_|refine .then_exit ?_|refine .block_exit ?_|refine .block_other rfl ?_); try refine .run TBok 99 rfl ?_))
    refine StL.step rfl rfl rfl (RunsTo.loadI2 rfl (B1) (hX.r2)).op ?_
    rintro _ _ ⟨rfl, rfl⟩
    refine StL.step rfl rfl rfl (RunsTo.loadI2 rfl (B2) (hY.r2)).op ?_
    rintro _ _ ⟨rfl, rfl⟩
    refine StL.step rfl rfl rfl (OpR.call fn_rational_lowest rfl (lowest_spec (base := base) hX hY h0 (Nat.le_trans hbase hx0.size))) ?_
    rintro v w5 ⟨hx5, hv⟩
    refine StL.setR rfl rfl rfl hv.1 (B3.ext hx5) rfl (hx0.trans hx5) (by omega) ?_
    intro w6 B6 hu6 hx6
    (iterate 6 ((repeat with_reducible first|refine .nil ?_|refine .then_normal ?_|refine .block_normal ?_|refine .seq ?_|refine .block ?_|refine .skip ?_|refine .region ?_|refine .ret ?_|refine .then_ret ?_|refine .block_ret ?_|refine .exit ?_|refine .then_exit ?_|refine .block_exit ?_|refine .block_other rfl ?_); try refine .run TBok 99 rfl ?_))
    exact Out.retRT rfl rfl rfl B6 hv.1 ⟨hx6, fun h => absurd h h0, fun _ => ⟨v, rfl, hv.upd hu6 (B3.ext hx5) (by decide)⟩⟩

theorem whole_spec {base : Nat} {w : World} {x : Value} {a : Int} (hX : Dn w x a) (hbase : base ≤ w.heap.size) :
    Calls Try.prog 26 #[x] w (Ret fun r w' => Ext w w' ∧ CanR base w' r (a : Rat)) := by
  refine calls_of_St (args := [_]) Try.func26 rfl Try.ntmps26 rfl ?_
  (repeat with_reducible first|refine .nil ?_|refine .then_normal ?_|refine .block_normal ?_|refine .seq ?_|refine .block ?_|refine .skip ?_|refine .region ?_|refine .ret ?_|refine .then_ret ?_|refine .block_ret ?_|refine .exit ?_|refine .then_exit ?_|refine .block_exit ?_|refine .block_other rfl ?_)
  refine StL.step rfl rfl rfl (OpR.box rfl) ?_
  rintro _ w1 ⟨rfl, B1, hx1, hz1⟩
  refine StL.step rfl rfl rfl (OpR.alloc TBok rfl) ?_
  rintro _ w2 ⟨rfl, B2, hx2, hz2⟩
  have hx0 : Ext w w2 := hx1.trans hx2
  replace B1 := B1.ext hx2
  replace hX := hX.ext hx0
  clear hx1 hx2
  (iterate 6 ((repeat with_reducible first|refine .nil ?_|refine .then_normal ?_|refine .block_normal ?_|refine .seq ?_|refine .block ?_|refine .skip ?_|refine .region ?_|refine .ret ?_|refine .then_ret ?_|refine .block_ret ?_|refine .exit ?_|refine .then_exit ?_|refine .block_exit ?_|refine .block_other rfl ?_); try refine .run TBok 99 rfl ?_))
  refine StL.step rfl rfl rfl (RunsTo.loadI2 rfl (B1) (hX.r2)).op ?_
  rintro _ _ ⟨rfl, rfl⟩
  refine StL.step rfl rfl rfl (OpR.call fn_integer_Normalize rfl (normalize_dn (base := base) hX (Nat.le_trans hbase hx0.size))) ?_
  rintro u w3 ⟨hx3, hu⟩
  replace B2 := B2.ext hx3
  replace hx0 := hx0.trans hx3
  clear hx3
  refine StL.step rfl rfl rfl (OpR.call fn_integer_Small rfl (small_specO (base := base) w3 1 (by decide) (by decide) (Nat.le_trans hbase hx0.size))) ?_
  rintro v w4 ⟨hx4, hv⟩
  replace B2 := B2.ext hx4
  replace hu := hu.ext hx4
  replace hx0 := hx0.trans hx4
  clear hx4
  refine StL.step rfl rfl rfl (RunsTo.buildR rfl rfl hu.r2 hv.r2).op ?_
  rintro _ _ ⟨rfl, rfl⟩
  have hR : CanR base w4 (mkR u v) (a : Rat) := CanR.mk hu hv
  refine StL.setR rfl rfl rfl hR.1 B2 rfl hx0 (by omega) ?_
  intro w12 B12 hu12 hx12
  (iterate 6 ((repeat with_reducible first|refine .nil ?_|refine .then_normal ?_|refine .block_normal ?_|refine .seq ?_|refine .block ?_|refine .skip ?_|refine .region ?_|refine .ret ?_|refine .then_ret ?_|refine .block_ret ?_|refine .exit ?_|refine .then_exit ?_|refine .block_exit ?_|refine .block_other rfl ?_); try refine .run TBok 99 rfl ?_))
  exact Out.retR rfl rfl B12 hR.1 ⟨hx12, hR.upd hu12 B2 (by decide)⟩

theorem dn_zero (w : World) : Dn w (IntV false (.slice none 0 0)) 0 := ⟨false, [], ⟨none, 0, rfl, ⟨⟨none, 0, rfl, Nat.le_refl _, fun _ => rfl, fun a ha => by cases ha⟩, Lim.nil⟩⟩, rfl, Nat.zero_le _⟩

theorem normalizeR_spec {base : Nat} {w : World} {x : Value} {q : Rat} (hX : DnR w x q) (hbase : base ≤ w.heap.size) :
    Calls Try.prog 29 #[x] w (Ret fun r w' => Ext w w' ∧ CanR base w' r q) := by
  refine calls_of_St (args := [_]) Try.func29 rfl Try.ntmps29 rfl ?_
  (repeat with_reducible first|refine .nil ?_|refine .then_normal ?_|refine .block_normal ?_|refine .seq ?_|refine .block ?_|refine .skip ?_|refine .region ?_|refine .ret ?_|refine .then_ret ?_|refine .block_ret ?_|refine .exit ?_|refine .then_exit ?_|refine .block_exit ?_|refine .block_other rfl ?_)
  refine StL.step rfl rfl rfl (OpR.box rfl) ?_
  rintro _ w1 ⟨rfl, B1, hx1, hz1⟩
  refine StL.step rfl rfl rfl (OpR.alloc TBok rfl) ?_
  rintro _ w2 ⟨rfl, B2, hx2, hz2⟩
  have hx0 : Ext w w2 := hx1.trans hx2
  replace B1 := B1.ext hx2
  obtain ⟨h4, a, b, ha, hb, rfl⟩ := hX.ext hx0
  clear hx1 hx2
  (iterate 6 ((repeat with_reducible first|refine .nil ?_|refine .then_normal ?_|refine .block_normal ?_|refine .seq ?_|refine .block ?_|refine .skip ?_|refine .region ?_|refine .ret ?_|refine .then_ret ?_|refine .block_ret ?_|refine .exit ?_|refine .then_exit ?_|refine .block_exit ?_|refine .block_other rfl ?_); try refine .run TBok 99 rfl ?_))
  refine StL.step rfl rfl rfl (RunsTo.loadD rfl (B1) (h4)).op ?_
  rintro _ _ ⟨rfl, rfl⟩
  refine StL.step rfl rfl rfl (OpR.call fn_integer_Sign rfl (sign_dn hb)) ?_
  rintro _ w4 ⟨hx4, rfl⟩
  replace B1 := B1.ext hx4
  replace B2 := B2.ext hx4
  replace ha := ha.ext hx4
  replace hb := hb.ext hx4
  replace hx0 := hx0.trans hx4
  clear hx4
  by_cases h0 : b = 0
  · refine StL.as TBok 1 (.bool true) rfl (bool_true (by rw [signI_eq0]; exact h0)) ?_
    subst h0
    rw [Rat.divInt_zero]
    (iterate 6 ((repeat with_reducible first|refine .nil ?_|refine .then_normal ?_|refine .block_normal ?_|refine .seq ?_|refine .block ?_|refine .skip ?_|refine .region ?_|refine .ret ?_|refine .then_ret ?_|refine .block_ret ?_|refine .exit ?_|refine .then_exit ?_|refine .block_exit ?_|refine .block_other rfl ?_); try refine .run TBok 99 rfl ?_))
    refine St.condT rfl rfl ?_
    (iterate 6 ((repeat with_reducible first|refine .nil ?_|refine .then_normal ?_|refine .block_normal ?_|refine .seq ?_|refine .block ?_|refine .skip ?_|refine .region ?_|refine .ret ?_|refine .then_ret ?_|refine .block_ret ?_|refine .exit ?_|refine .then_exit ?_|refine .block_exit ?_|refine .block_other rfl ?_); try refine .run TBok 99 rfl ?_))
    refine StL.step rfl rfl rfl (RunsTo.build TBok rfl rfl rfl rfl).op ?_
    rintro _ _ ⟨rfl, rfl⟩
    refine StL.step rfl rfl rfl (OpR.call fn_rational_Whole rfl (whole_spec (base := base) (dn_zero w4) (Nat.le_trans hbase hx0.size))) ?_
    rintro v w5 ⟨hx5, hv⟩
    refine StL.setR rfl rfl rfl hv.1 (B2.ext hx5) rfl (hx0.trans hx5) (by omega) ?_
    intro w6 B6 hu6 hx6
    (iterate 6 ((repeat with_reducible first|refine .nil ?_|refine .then_normal ?_|refine .block_normal ?_|refine .seq ?_|refine .block ?_|refine .skip ?_|refine .region ?_|refine .ret ?_|refine .then_ret ?_|refine .block_ret ?_|refine .exit ?_|refine .then_exit ?_|refine .block_exit ?_|refine .block_other rfl ?_); try refine .run TBok 99 rfl ?_))
    exact Out.retR rfl rfl B6 hv.1 ⟨hx6, hv.upd hu6 (B2.ext hx5) (by decide)⟩
  · refine StL.as TBok 1 (.bool false) rfl (bool_false (by rw [signI_eq0]; exact h0)) ?_
    (iterate 6 ((repeat with_reducible first|refine .nil ?_|refine .then_normal ?_|refine .block_normal ?_|refine .seq ?_|refine .block ?_|refine .skip ?_|refine .region ?_|refine .ret ?_|refine .then_ret ?_|refine .block_ret ?_|refine .exit ?_|refine .then_exit ?_|refine .block_exit ?_|refine .block_other rfl ?_); try refine .run TBok 99 rfl ?_))
    refine St.condF rfl rfl ?_
    (iterate 6 ((repeat with_reducible first|refine .nil ?_|refine .then_normal ?_|refine .block_normal ?_|refine .seq ?_|refine .block ?_|refine .skip ?_|refine .region ?_|refine .ret ?_|refine .then_ret ?_|refine .block_ret ?_|refine .exit ?_|refine .then_exit ?_|refine .block_exit ?_|refine .block_other rfl ?_); try refine .run TBok 99 rfl ?_))
    refine StL.step rfl rfl rfl (RunsTo.loadN rfl (B1) (h4)).op ?_
    rintro _ _ ⟨rfl, rfl⟩
    refine .run TBok 99 rfl ?_
    refine StL.step rfl rfl rfl (RunsTo.loadD rfl (B1) (h4)).op ?_
    rintro _ _ ⟨rfl, rfl⟩
    refine StL.step rfl rfl rfl (OpR.call fn_rational_lowest rfl (lowest_spec (base := base) ha hb h0 (Nat.le_trans hbase hx0.size))) ?_
    rintro v w5 ⟨hx5, hv⟩
    refine StL.setR rfl rfl rfl hv.1 (B2.ext hx5) rfl (hx0.trans hx5) (by omega) ?_
    intro w6 B6 hu6 hx6
    (iterate 6 ((repeat with_reducible first|refine .nil ?_|refine .then_normal ?_|refine .block_normal ?_|refine .seq ?_|refine .block ?_|refine .skip ?_|refine .region ?_|refine .ret ?_|refine .then_ret ?_|refine .block_ret ?_|refine .exit ?_|refine .then_exit ?_|refine .block_exit ?_|refine .block_other rfl ?_); try refine .run TBok 99 rfl ?_))
    exact Out.retR rfl rfl B6 hv.1 ⟨hx6, hv.upd hu6 (B2.ext hx5) (by decide)⟩

theorem canonical_spec {base : Nat} {w : World} {x : Value} {q : Rat} (hX : DnR w x q) (hbase : base ≤ w.heap.size) :
    Calls Try.prog 82 #[x] w (Ret fun r w' => Ext w w' ∧ CanR base w' r q) := by
  refine calls_of_St (args := [_]) Try.func82 rfl Try.ntmps82 rfl ?_
  (repeat with_reducible first|refine .nil ?_|refine .then_normal ?_|refine .block_normal ?_|refine .seq ?_|refine .block ?_|refine .skip ?_|refine .region ?_|refine .ret ?_|refine .then_ret ?_|refine .block_ret ?_|refine .exit ?_|refine .then_exit ?_|refine .block_exit ?_|refine .block_other rfl ?_)
  refine StL.step rfl rfl rfl (OpR.box rfl) ?_
  rintro _ w1 ⟨rfl, B1, hx1, hz1⟩
  refine StL.step rfl rfl rfl (OpR.alloc TBok rfl) ?_
  rintro _ w2 ⟨rfl, B2, hx2, hz2⟩
  have hx0 : Ext w w2 := hx1.trans hx2
  replace B1 := B1.ext hx2
  replace hX := hX.ext hx0
  clear hx1 hx2
  (iterate 6 ((repeat with_reducible first|refine .nil ?_|refine .then_normal ?_|refine .block_normal ?_|refine .seq ?_|refine .block ?_|refine .skip ?_|refine .region ?_|refine .ret ?_|refine .then_ret ?_|refine .block_ret ?_|refine .exit ?_|refine .then_exit ?_|refine .block_exit ?_|refine .block_other rfl ?_); try refine .run TBok 99 rfl ?_))
  refine StL.step rfl rfl rfl (RunsTo.loadR rfl rfl (B1) (hX.1)).op ?_
  rintro _ _ ⟨rfl, rfl⟩
  refine StL.step rfl rfl rfl (OpR.call fn_rational_Normalize rfl (normalizeR_spec (base := base) hX (Nat.le_trans hbase hx0.size))) ?_
  rintro v w5 ⟨hx5, hv⟩
  refine StL.setR rfl rfl rfl hv.1 (B2.ext hx5) rfl (hx0.trans hx5) (by omega) ?_
  intro w6 B6 hu6 hx6
  (iterate 6 ((repeat with_reducible first|refine .nil ?_|refine .then_normal ?_|refine .block_normal ?_|refine .seq ?_|refine .block ?_|refine .skip ?_|refine .region ?_|refine .ret ?_|refine .then_ret ?_|refine .block_ret ?_|refine .exit ?_|refine .then_exit ?_|refine .block_exit ?_|refine .block_other rfl ?_); try refine .run TBok 99 rfl ?_))
  exact Out.retF rfl rfl B6 hv.1 ⟨hx6, hv.upd hu6 (B2.ext hx5) (by decide)⟩

end Go.Qf

/- rational.sum, product, Add, Sub, Mul, Neg, Sign, Quo, Cmp, Floor, Nearest, IsWhole. -/
namespace Go.Qf
open Go Go.RowKit Go.Proofs
set_option maxRecDepth 20000

theorem DnR.rz {w : World} {v : Value} {q : Rat} (h : DnR w v q) : rz q ≤ 1000000 := by
  obtain ⟨_, a, b, ha, hb, rfl⟩ := h
  have := rz_divInt a b
  have := ha.sz_le
  have := hb.sz_le
  omega
theorem canO_zeroR (base : Nat) (w : World) : CanO base w (IntV false (.slice none 0 0)) 0 := ⟨none, 0, rfl, Own.nil _ _ _, Lim.nil⟩

/-- A call of a function that lies in a variable. -/
theorem OpR.callT {n : Nat} {E : List (Nat × Value)} {w : World} {P : Program} {f : FuncId} {fn : Func} (hF : IsFn P f fn) {d : Option Tmp} {t : Nat} {args : Array Operand} {tys : Array TypeId} {ty : TypeId} {pos : String} {af : Array Edge} {g : Option (Nat × Bool)} {vs : List Value} {Φ : Value → World → Prop}
    (ht : look E t = some (.func (.func f) #[] #[])) (hargs : ovs E args.toList = some vs) (hc : Calls P f vs.toArray w (Ret Φ)) :
    OpR P n ⟨d, .call ⟨.value (.tmp t), args, tys⟩, ty, pos, af, g⟩ E w Φ := by
  intro a ha Q K hK
  have hm := ovs_map ha _ _ hargs
  have hA : args.map a.eval = vs.toArray := by
    rw [← hm]
    apply Array.toList_inj.1
    simp
  have hev : a.eval (.tmp t) = .func (.func f) #[] #[] := ha.eval (x := .tmp t) ht
  have hrun : (execOp a.eval ⟨d, .call ⟨.value (.tmp t), args, tys⟩, ty, pos, af, g⟩).run P w = .ok (.enter f vs.toArray) w := by
    simp only [execOp, resolve, hev, Deferred.ofValue, hA, Sem.run_bind, Sem.run_pure, Result.andThen_ok, invoke, callFunc]
    simp only [Array.append_empty, Array.empty_append]
    have hp : (program).run P w = .ok P w := by simp [go_sem]
    simp only [hp, Result.andThen_ok, hF.func, hF.name, hF.body, Bool.false_eq_true, if_false, Sem.run_pure]
  unfold Oper.wp
  rw [hrun, Oper.upon_enter]
  refine hc.mono ?_
  rintro e w' ⟨v, rfl, hv⟩
  exact hK v w' hv

theorem fsign_spec {base : Nat} {w : World} {x : Value} {q : Rat} (h : CanR base w x q) (hz : rz q ≤ 1000000) :
    Calls Try.prog 100 #[x] w (Ret fun r w' => Ext w w' ∧ r = .int .i64 (signI q.num)) := by
  refine calls_of_St (args := [_]) Try.func100 rfl Try.ntmps100 rfl ?_
  (repeat with_reducible first|refine .nil ?_|refine .then_normal ?_|refine .block_normal ?_|refine .seq ?_|refine .block ?_|refine .skip ?_|refine .region ?_|refine .ret ?_|refine .then_ret ?_|refine .block_ret ?_|refine .exit ?_|refine .then_exit ?_|refine .block_exit ?_|refine .block_other rfl ?_)
  refine StL.step rfl rfl rfl (OpR.box rfl) ?_
  rintro _ w1 ⟨rfl, B1, hx1, hz1⟩
  (iterate 6 ((repeat with_reducible first|refine .nil ?_|refine .then_normal ?_|refine .block_normal ?_|refine .seq ?_|refine .block ?_|refine .skip ?_|refine .region ?_|refine .ret ?_|refine .then_ret ?_|refine .block_ret ?_|refine .exit ?_|refine .then_exit ?_|refine .block_exit ?_|refine .block_other rfl ?_); try refine .run TBok 99 rfl ?_))
  refine StL.step rfl rfl rfl (RunsTo.loadN rfl (B1) (h.1)).op ?_
  rintro _ _ ⟨rfl, rfl⟩
  refine StL.step rfl rfl rfl (OpR.call fn_integer_Sign rfl (sign_dn ((h.2.1.ext hx1).dn (Nat.le_trans (rz_num q) hz)))) ?_
  rintro _ w2 ⟨hx2, rfl⟩
  (iterate 6 ((repeat with_reducible first|refine .nil ?_|refine .then_normal ?_|refine .block_normal ?_|refine .seq ?_|refine .block ?_|refine .skip ?_|refine .region ?_|refine .ret ?_|refine .then_ret ?_|refine .block_ret ?_|refine .exit ?_|refine .then_exit ?_|refine .block_exit ?_|refine .block_other rfl ?_); try refine .run TBok 99 rfl ?_))
  exact Out.ret1 rfl rfl ⟨hx1.trans hx2, rfl⟩

theorem signR_spec {w : World} {x : Value} {q : Rat} (h : DnR w x q) :
    Calls Try.prog 53 #[x] w (Ret fun r w' => Ext w w' ∧ r = .int .i64 (signI q.num)) := by
  refine calls_of_St (args := [_]) Try.func53 rfl Try.ntmps53 rfl ?_
  (repeat with_reducible first|refine .nil ?_|refine .then_normal ?_|refine .block_normal ?_|refine .seq ?_|refine .block ?_|refine .skip ?_|refine .region ?_|refine .ret ?_|refine .then_ret ?_|refine .block_ret ?_|refine .exit ?_|refine .then_exit ?_|refine .block_exit ?_|refine .block_other rfl ?_)
  refine StL.step rfl rfl rfl (OpR.box rfl) ?_
  rintro _ w1 ⟨rfl, B1, hx1, hz1⟩
  obtain ⟨h4, a, b, ha, hb, rfl⟩ := h.ext hx1
  (iterate 6 ((repeat with_reducible first|refine .nil ?_|refine .then_normal ?_|refine .block_normal ?_|refine .seq ?_|refine .block ?_|refine .skip ?_|refine .region ?_|refine .ret ?_|refine .then_ret ?_|refine .block_ret ?_|refine .exit ?_|refine .then_exit ?_|refine .block_exit ?_|refine .block_other rfl ?_); try refine .run TBok 99 rfl ?_))
  refine St.flow 5 TBfol (by kernel_rfl) rfl (by kernel_rfl) rfl True.intro ?_
  refine FL.run TBok 99 rfl ?_
  refine FL.one (L := []) rfl rfl rfl rfl rfl (fun _ hR => RunsTo.loadN rfl (hR.blk (B1) (by simp)) (h4)) ?_
  refine FL.callXE fn_integer_Sign rfl rfl rfl (fun w2 hx2 => CallF.mk rfl (sign_dn (ha.ext hx2))) ?_
  refine FL.run TBok 99 rfl ?_
  refine FL.one (L := []) rfl rfl rfl rfl rfl (fun _ hR => RunsTo.loadD rfl (hR.blk (B1) (by simp)) (h4)) ?_
  refine FL.endE rfl ?_
  intro w2 hx2 _ _
  refine StL.step rfl rfl rfl (OpR.call fn_integer_Sign rfl (sign_dn (hb.ext hx2))) ?_
  rintro _ w3 ⟨hx3, rfl⟩
  refine StL.as TBok 1 (.int .i64 (signI (Rat.divInt a b).num)) rfl ?_ ?_
  · congr 1
    have h1 := signI_bound (Rat.divInt a b).num
    show IntKind.i64.wrap (signI a * signI b) = _
    rw [sign_divInt, i64_id (by omega) (by omega)]
  (iterate 6 ((repeat with_reducible first|refine .nil ?_|refine .then_normal ?_|refine .block_normal ?_|refine .seq ?_|refine .block ?_|refine .skip ?_|refine .region ?_|refine .ret ?_|refine .then_ret ?_|refine .block_ret ?_|refine .exit ?_|refine .then_exit ?_|refine .block_exit ?_|refine .block_other rfl ?_); try refine .run TBok 99 rfl ?_))
  exact Out.ret1 rfl rfl ⟨(hx1.trans hx2).trans hx3, rfl⟩

theorem negR_spec {w : World} {x : Value} {q : Rat} (h : DnR w x q) :
    Calls Try.prog 50 #[x] w (Ret fun r w' => Ext w w' ∧ CanR 0 w' r (-q)) := by
  have hz := h.rz
  refine calls_of_St (args := [_]) Try.func50 rfl Try.ntmps50 rfl ?_
  (repeat with_reducible first|refine .nil ?_|refine .then_normal ?_|refine .block_normal ?_|refine .seq ?_|refine .block ?_|refine .skip ?_|refine .region ?_|refine .ret ?_|refine .then_ret ?_|refine .block_ret ?_|refine .exit ?_|refine .then_exit ?_|refine .block_exit ?_|refine .block_other rfl ?_)
  refine StL.step rfl rfl rfl (OpR.box rfl) ?_
  rintro _ w1 ⟨rfl, B1, hx1, hz1⟩
  refine StL.step rfl rfl rfl (OpR.alloc TBok rfl) ?_
  rintro _ w2 ⟨rfl, B2, hx2, hz2⟩
  have hx0 : Ext w w2 := hx1.trans hx2
  replace B1 := B1.ext hx2
  replace h := h.ext hx0
  clear hx1 hx2
  (iterate 6 ((repeat with_reducible first|refine .nil ?_|refine .then_normal ?_|refine .block_normal ?_|refine .seq ?_|refine .block ?_|refine .skip ?_|refine .region ?_|refine .ret ?_|refine .then_ret ?_|refine .block_ret ?_|refine .exit ?_|refine .then_exit ?_|refine .block_exit ?_|refine .block_other rfl ?_); try refine .run TBok 99 rfl ?_))
  refine StL.step rfl rfl rfl (RunsTo.loadR rfl rfl (B1) (h.1)).op ?_
  rintro _ _ ⟨rfl, rfl⟩
  refine StL.step rfl rfl rfl (OpR.call fn_rational_canonical rfl (canonical_spec (base := 0) h (Nat.zero_le _))) ?_
  rintro v w3 ⟨hx3, hv⟩
  replace B2 := B2.ext hx3
  replace hx0 := hx0.trans hx3
  clear hx3
  refine StL.newR rfl rfl (fun _ => rfl) hv.1 ?_
  intro b5 w5 hl5 hx5 B5
  replace B2 := B2.ext hx5
  replace hv := hv.ext hx5
  replace hx0 := hx0.trans hx5
  clear hx5
  (iterate 6 ((repeat with_reducible first|refine .nil ?_|refine .then_normal ?_|refine .block_normal ?_|refine .seq ?_|refine .block ?_|refine .skip ?_|refine .region ?_|refine .ret ?_|refine .then_ret ?_|refine .block_ret ?_|refine .exit ?_|refine .then_exit ?_|refine .block_exit ?_|refine .block_other rfl ?_); try refine .run TBok 99 rfl ?_))
  refine St.flow 5 TBfol (by kernel_rfl) rfl (by kernel_rfl) rfl True.intro ?_
  refine FL.run TBok 99 rfl ?_
  refine FL.one (L := []) rfl rfl rfl rfl rfl (fun _ hR => RunsTo.loadN rfl (hR.blk (B5) (by simp)) (hv.1)) ?_
  refine FL.callE fn_integer_Neg rfl rfl rfl (fun w6 hx6 => CallF.mk rfl (neg_dn ((hv.2.1.ext hx6).dn (Nat.le_trans (rz_num q) hz)))) (MonoR.canO 0 _) ?_
  refine FL.run TBok 99 rfl ?_
  refine FL.one (L := []) rfl rfl rfl rfl rfl (fun _ hR => RunsTo.loadD rfl (hR.blk (B5) (by simp)) (hv.1)) ?_
  refine FL.endE rfl ?_
  intro w6 hx6 u hu _ _
  replace B2 := B2.ext hx6
  replace hv := hv.ext hx6
  replace hx0 := hx0.trans hx6
  clear hx6
  refine StL.step rfl rfl rfl (RunsTo.buildR rfl rfl hu.r2 hv.1.two.2).op ?_
  rintro _ _ ⟨rfl, rfl⟩
  have hR : CanR 0 w6 (mkR u (dm v)) (-q) := CanR.mk hu hv.2.2
  refine StL.setR rfl rfl rfl hR.1 B2 rfl hx0 (by omega) ?_
  intro w12 B12 hu12 hx12
  (iterate 6 ((repeat with_reducible first|refine .nil ?_|refine .then_normal ?_|refine .block_normal ?_|refine .seq ?_|refine .block ?_|refine .skip ?_|refine .region ?_|refine .ret ?_|refine .then_ret ?_|refine .block_ret ?_|refine .exit ?_|refine .then_exit ?_|refine .block_exit ?_|refine .block_other rfl ?_); try refine .run TBok 99 rfl ?_))
  exact Out.retR rfl rfl B12 hR.1 ⟨hx12, hR.upd hu12 B2 (by decide)⟩

/-- Structs that denote rational numbers, one after the other. -/
def Rats (w : World) (b : Nat) (vs : List Value) (qs : List Rat) : Prop :=
  Blk 33 w b (flat vs) ∧ (∀ v ∈ vs, R4 v) ∧ vs.length = qs.length ∧ ∀ (i : Nat) (v : Value) (q : Rat), vs[i]? = some v → qs[i]? = some q → DnR w v q
theorem Rats.ext {w w' : World} {b : Nat} {vs : List Value} {qs : List Rat} (h : Rats w b vs qs) (hx : Ext w w') : Rats w' b vs qs :=
  ⟨h.1.ext hx, h.2.1, h.2.2.1, fun i v q h1 h2 => (h.2.2.2 i v q h1 h2).ext hx⟩
theorem Rats.two {w : World} {b : Nat} {u v : Value} {p q : Rat} (hB : Blk 33 w b (flat [u, v])) (hu : DnR w u p) (hv : DnR w v q) : Rats w b [u, v] [p, q] := by
  refine ⟨hB, ?_, rfl, ?_⟩
  · intro k hk
    simp at hk
    rcases hk with rfl | rfl
    · exact hu.1
    · exact hv.1
  · intro i k r h1 h2
    match i with
    | 0 => simp at h1 h2; subst h1; subst h2; exact hu
    | 1 => simp at h1 h2; subst h1; subst h2; exact hv
    | i + 2 => simp at h1

def sumR (l : List Rat) : Rat := l.foldl (· + ·) 0
def prodR (l : List Rat) : Rat := l.foldl (· * ·) 1
theorem sumR_take {l : List Rat} {i : Nat} {q : Rat} (h : l[i]? = some q) : sumR (l.take (i + 1)) = sumR (l.take i) + q := by
  unfold sumR
  rw [List.take_add_one, h, List.foldl_append]
  rfl
theorem prodR_take {l : List Rat} {i : Nat} {q : Rat} (h : l[i]? = some q) : prodR (l.take (i + 1)) = prodR (l.take i) * q := by
  unfold prodR
  rw [List.take_add_one, h, List.foldl_append]
  rfl
theorem den_ne (q : Rat) : (q.den : Int) ≠ 0 := by have := den_pos q; omega

set_option maxHeartbeats 800000 in
theorem sum_spec {w : World} {b : Nat} {vs : List Value} {qs : List Rat} (h : Rats w b vs qs) (hlen : qs.length ≤ 3) (hq : ∀ q ∈ qs, rz q ≤ 100000) :
    Calls Try.prog 83 #[.slice (some ⟨b, 0, none⟩) vs.length vs.length] w (Ret fun r w' => Ext w w' ∧ CanR 0 w' r (sumR qs)) := by
  have hvq := h.2.2.1
  refine calls_of_St (args := [_]) Try.func83 rfl Try.ntmps83 rfl ?_
  (repeat with_reducible first|refine .nil ?_|refine .then_normal ?_|refine .block_normal ?_|refine .seq ?_|refine .block ?_|refine .skip ?_|refine .region ?_|refine .ret ?_|refine .then_ret ?_|refine .block_ret ?_|refine .exit ?_|refine .then_exit ?_|refine .block_exit ?_|refine .block_other rfl ?_)
  refine StL.step rfl rfl rfl (OpR.alloc TBok rfl) ?_
  rintro _ w1 ⟨rfl, B1, hx1, hz1⟩
  (iterate 6 ((repeat with_reducible first|refine .nil ?_|refine .then_normal ?_|refine .block_normal ?_|refine .seq ?_|refine .block ?_|refine .skip ?_|refine .region ?_|refine .ret ?_|refine .then_ret ?_|refine .block_ret ?_|refine .exit ?_|refine .then_exit ?_|refine .block_exit ?_|refine .block_other rfl ?_); try refine .run TBok 99 rfl ?_))
  refine StL.step rfl rfl rfl (RunsTo.build TBok rfl rfl rfl rfl).op ?_
  rintro _ _ ⟨rfl, rfl⟩
  refine StL.step rfl rfl rfl (OpR.call fn_integer_Small rfl (small_spec w1 1 (by decide) (by decide))) ?_
  rintro v9 w2 ⟨hx2, h9⟩
  have hx0 : Ext w w2 := hx1.trans hx2
  replace B1 := B1.ext hx2
  clear hx1 hx2
  refine StL.setTwo rfl rfl rfl (fun _ _ => rfl) (fun _ _ => rfl) (canO_zeroR 0 w2) h9 hx0 ?_
  intro b3 b4 w3 hne hl3 hl4 hx23 B3 B4 h8 h9' hx03
  have hlt1 := B1.lt
  (iterate 6 ((repeat with_reducible first|refine .nil ?_|refine .then_normal ?_|refine .block_normal ?_|refine .seq ?_|refine .block ?_|refine .skip ?_|refine .region ?_|refine .ret ?_|refine .then_ret ?_|refine .block_ret ?_|refine .exit ?_|refine .then_exit ?_|refine .block_exit ?_|refine .block_other rfl ?_); try refine .run TBok 99 rfl ?_))
  refine St.loop (fun g : Nat × (Value × Value) × Int × Int => [(2, .pointer (some ⟨w.heap.size, 0, none⟩)), (3, .pointer (some ⟨b3, 0, none⟩)), (4, .pointer (some ⟨b4, 0, none⟩)), (10, .slice (some ⟨b, 0, none⟩) vs.length vs.length), (11, .int .i64 vs.length), (12, .int .i64 g.1)])
    (fun g w' => Ext w2 w' ∧ Blk 25 w' b3 g.2.1.1.cells.toList ∧ Blk 25 w' b4 g.2.1.2.cells.toList ∧ CanO 0 w' g.2.1.1 g.2.2.1 ∧ CanO 0 w' g.2.1.2 g.2.2.2 ∧ g.2.2.2 ≠ 0 ∧ Rat.divInt g.2.2.1 g.2.2.2 = sumR (qs.take g.1) ∧ sz g.2.2.1 ≤ (g.1 + 1) * 100001 ∧ sz g.2.2.2 ≤ (g.1 + 1) * 100001 ∧ g.1 ≤ vs.length)
    (fun g => vs.length - g.1) (0, (_, v9), 0, 1) ⟨rfl, rfl, rfl, rfl, rfl, rfl, trivial⟩ ⟨hx23, B3, B4, h8, h9', by show (1 : Int) ≠ 0; decide, by rw [Rat.zero_divInt]; rfl, by have := sz_zero; dsimp only; omega, by have := sz_1; dsimp only; omega, Nat.zero_le _⟩ ?_
  rintro ⟨i, ⟨u, v⟩, A, B⟩ w4 ⟨hx24, B3, B4, hu, hv, hB0, hsum, hsA, hsB, hi⟩
  dsimp only at B3 B4 hu hv hB0 hsum hsA hsB hi ⊢
  have hx04 := hx0.trans hx24
  replace B1 := B1.ext hx24
  by_cases hlt : i < vs.length
  · have hki : vs[i]? = some vs[i] := by simp
    have hqi : qs[i]? = some (qs[i]'(by omega)) := by simp
    have hrq := hq (qs[i]'(by omega)) (List.getElem_mem _)
    generalize vs[i] = x at hki
    generalize (qs[i]'(by omega)) = q at hqi hrq
    have h4 := h.ext hx04
    have hxq := h4.2.2.2 i x q hki hqi
    have hl34 := B3.lt
    have hl44 := B4.lt
    (repeat with_reducible first|refine .nil ?_|refine .then_normal ?_|refine .block_normal ?_|refine .seq ?_|refine .block ?_|refine .skip ?_|refine .region ?_|refine .ret ?_|refine .then_ret ?_|refine .block_ret ?_|refine .exit ?_|refine .then_exit ?_|refine .block_exit ?_|refine .block_other rfl ?_)
    refine StL.as TBok 1 (.bool true) rfl (bool_true (by omega)) ?_
    (repeat with_reducible first|refine .nil ?_|refine .then_normal ?_|refine .block_normal ?_|refine .seq ?_|refine .block ?_|refine .skip ?_|refine .region ?_|refine .ret ?_|refine .then_ret ?_|refine .block_ret ?_|refine .exit ?_|refine .then_exit ?_|refine .block_exit ?_|refine .block_other rfl ?_)
    refine St.condT rfl rfl ?_
    (iterate 6 ((repeat with_reducible first|refine .nil ?_|refine .then_normal ?_|refine .block_normal ?_|refine .seq ?_|refine .block ?_|refine .skip ?_|refine .region ?_|refine .ret ?_|refine .then_ret ?_|refine .block_ret ?_|refine .exit ?_|refine .then_exit ?_|refine .block_exit ?_|refine .block_other rfl ?_); try refine .run TBok 99 rfl ?_))
    refine StL.step rfl rfl rfl (RunsTo.indexR rfl rfl hlt).op ?_
    rintro _ _ ⟨rfl, rfl⟩
    refine StL.step rfl rfl rfl (RunsTo.loadRat rfl h4.1 h4.2.1 hki).op ?_
    rintro _ _ ⟨rfl, rfl⟩
    refine StL.newR rfl rfl (fun _ => rfl) hxq.1 ?_
    intro b6 w5 hl6 hx5 B6
    replace B1 := B1.ext hx5
    replace B3 := B3.ext hx5
    replace B4 := B4.ext hx5
    replace hu := hu.ext hx5
    replace hv := hv.ext hx5
    replace hxq := hxq.ext hx5
    replace hx24 := hx24.trans hx5
    clear hx5
    (iterate 6 ((repeat with_reducible first|refine .nil ?_|refine .then_normal ?_|refine .block_normal ?_|refine .seq ?_|refine .block ?_|refine .skip ?_|refine .region ?_|refine .ret ?_|refine .then_ret ?_|refine .block_ret ?_|refine .exit ?_|refine .then_exit ?_|refine .block_exit ?_|refine .block_other rfl ?_); try refine .run TBok 99 rfl ?_))
    refine StL.step rfl rfl rfl (RunsTo.loadR rfl rfl (B6) (hxq.1)).op ?_
    rintro _ _ ⟨rfl, rfl⟩
    refine StL.step rfl rfl rfl (OpR.call fn_rational_canonical rfl (canonical_spec (base := 0) hxq (Nat.zero_le _))) ?_
    rintro t w6 ⟨hx6, ht⟩
    replace B1 := B1.ext hx6
    replace B3 := B3.ext hx6
    replace B4 := B4.ext hx6
    replace hu := hu.ext hx6
    replace hv := hv.ext hx6
    replace hx24 := hx24.trans hx6
    clear hx6
    have hs6 := hl34
    refine StL.newR rfl rfl (fun _ => rfl) ht.1 ?_
    intro b7 w7 hl7 hx7 B7
    have hl37 := B3.lt
    have hl47 := B4.lt
    replace B1 := B1.ext hx7
    replace B3 := B3.ext hx7
    replace B4 := B4.ext hx7
    replace hu := hu.ext hx7
    replace hv := hv.ext hx7
    replace ht := ht.ext hx7
    replace hx24 := hx24.trans hx7
    clear hx7
    have hrn := rz_num q
    have hrd := rz_den q
    have m1 := sz_mul A (q.den : Int)
    have m2 := sz_mul q.num B
    have m3 := sz_add (A * (q.den : Int)) (q.num * B)
    have m4 := sz_mul B (q.den : Int)
    (iterate 6 ((repeat with_reducible first|refine .nil ?_|refine .then_normal ?_|refine .block_normal ?_|refine .seq ?_|refine .block ?_|refine .skip ?_|refine .region ?_|refine .ret ?_|refine .then_ret ?_|refine .block_ret ?_|refine .exit ?_|refine .then_exit ?_|refine .block_exit ?_|refine .block_other rfl ?_); try refine .run TBok 99 rfl ?_))
    refine St.flow 7 TBfol (by kernel_rfl) rfl (by kernel_rfl) rfl True.intro ?_
    refine FL.run TBok 99 rfl ?_
    refine FL.one (L := []) rfl rfl rfl rfl rfl (fun _ hR => RunsTo.loadI2 rfl (hR.blk (B3) (by simp)) (hu.r2)) ?_
    refine FL.run TBok 99 rfl ?_
    refine FL.one (L := []) rfl rfl rfl rfl rfl (fun _ hR => RunsTo.loadD rfl (hR.blk (B7) (by simp)) (ht.1)) ?_
    refine FL.callE fn_integer_Mul rfl rfl rfl (fun w8 hx8 => CallF.mk rfl (mul_dn ((hu.ext hx8).dn (by omega)) ((ht.2.2.ext hx8).dn (by omega)))) (MonoR.canO 0 _) ?_
    refine FL.run TBok 99 rfl ?_
    refine FL.one (L := []) rfl rfl rfl rfl rfl (fun _ hR => RunsTo.loadN rfl (hR.blk (B7) (by simp)) (ht.1)) ?_
    refine FL.one (L := []) rfl rfl rfl rfl rfl (fun _ hR => RunsTo.loadI2 rfl (hR.blk (B4) (by simp)) (hv.r2)) ?_
    refine FL.endE rfl ?_
    intro w8 hx8 t21 h21 _ _
    replace B1 := B1.ext hx8
    replace B3 := B3.ext hx8
    replace B4 := B4.ext hx8
    replace B7 := B7.ext hx8
    replace hu := hu.ext hx8
    replace hv := hv.ext hx8
    replace ht := ht.ext hx8
    replace hx24 := hx24.trans hx8
    clear hx8
    refine StL.step rfl rfl rfl (OpR.call fn_integer_Mul rfl (mul_dn (ht.2.1.dn (by omega)) (hv.dn (by omega)))) ?_
    rintro t25 w9 ⟨hx9, h25⟩
    replace B1 := B1.ext hx9
    replace B3 := B3.ext hx9
    replace B4 := B4.ext hx9
    replace B7 := B7.ext hx9
    replace hu := hu.ext hx9
    replace hv := hv.ext hx9
    replace ht := ht.ext hx9
    replace h21 := h21.ext hx9
    replace hx24 := hx24.trans hx9
    clear hx9
    refine StL.step rfl rfl rfl (OpR.call fn_integer_Add rfl (add_dn (h21.dn (by omega)) (h25.dn (by omega)))) ?_
    rintro t26 w10 ⟨hx10, h26⟩
    replace B1 := B1.ext hx10
    replace B3 := B3.ext hx10
    replace B4 := B4.ext hx10
    replace B7 := B7.ext hx10
    replace hv := hv.ext hx10
    replace ht := ht.ext hx10
    replace hx24 := hx24.trans hx10
    clear hx10
    refine StL.setCan rfl rfl B3 hu.two.1 h26 hx24 hl3 ?_
    intro w11 B3' hu11 h26' hx211
    replace B4 := B4.upd hu11 (by omega)
    replace B7 := B7.upd hu11 (by omega)
    replace hv := hv.updT hu11 B3 (by decide)
    replace ht := ht.upd hu11 B3 (by decide)
    clear hu11 B3 hx24
    (iterate 6 ((repeat with_reducible first|refine .nil ?_|refine .then_normal ?_|refine .block_normal ?_|refine .seq ?_|refine .block ?_|refine .skip ?_|refine .region ?_|refine .ret ?_|refine .then_ret ?_|refine .block_ret ?_|refine .exit ?_|refine .then_exit ?_|refine .block_exit ?_|refine .block_other rfl ?_); try refine .run TBok 99 rfl ?_))
    refine StL.step rfl rfl rfl (RunsTo.loadI2 rfl (B4) (hv.r2)).op ?_
    rintro _ _ ⟨rfl, rfl⟩
    refine .run TBok 99 rfl ?_
    refine StL.step rfl rfl rfl (RunsTo.loadD rfl (B7) (ht.1)).op ?_
    rintro _ _ ⟨rfl, rfl⟩
    refine StL.step rfl rfl rfl (OpR.call fn_integer_Mul rfl (mul_dn (hv.dn (by omega)) (ht.2.2.dn (by omega)))) ?_
    rintro t30 w12 ⟨hx12, h30⟩
    replace B3' := B3'.ext hx12
    replace B4 := B4.ext hx12
    replace h26' := h26'.ext hx12
    replace hx211 := hx211.trans hx12
    clear hx12
    refine StL.setCan rfl rfl B4 hv.two.1 h30 hx211 hl4 ?_
    intro w13 B4' hu13 h30' hx213
    replace B3' := B3'.upd hu13 (by omega)
    replace h26' := h26'.updT hu13 B4 (by decide)
    (iterate 6 ((repeat with_reducible first|refine .nil ?_|refine .then_normal ?_|refine .block_normal ?_|refine .seq ?_|refine .block ?_|refine .skip ?_|refine .region ?_|refine .ret ?_|refine .then_ret ?_|refine .block_ret ?_|refine .exit ?_|refine .then_exit ?_|refine .block_exit ?_|refine .block_other rfl ?_); try refine .run TBok 99 rfl ?_))
    refine Out.again (i + 1, (t26, t30), A * (q.den : Int) + q.num * B, B * (q.den : Int)) ⟨rfl, rfl, rfl, rfl, rfl, ?_, trivial⟩ ⟨hx213, B3', B4', h26', h30', Int.mul_ne_zero hB0 (den_ne q), ?_, by dsimp only; omega, by dsimp only; omega, by dsimp only; omega⟩ (by dsimp only; omega)
    · show some (Value.int .i64 (IntKind.i64.wrap ((i : Int) + 1))) = _
      rw [i64_id (by omega) (by omega)]; rfl
    · dsimp only
      rw [sumR_take hqi, ← hsum, ← Rat.divInt_add_divInt A q.num hB0 (den_ne q), Rat.num_divInt_den]
  · (repeat with_reducible first|refine .nil ?_|refine .then_normal ?_|refine .block_normal ?_|refine .seq ?_|refine .block ?_|refine .skip ?_|refine .region ?_|refine .ret ?_|refine .then_ret ?_|refine .block_ret ?_|refine .exit ?_|refine .then_exit ?_|refine .block_exit ?_|refine .block_other rfl ?_)
    refine StL.as TBok 1 (.bool false) rfl (bool_false (by omega)) ?_
    (repeat with_reducible first|refine .nil ?_|refine .then_normal ?_|refine .block_normal ?_|refine .seq ?_|refine .block ?_|refine .skip ?_|refine .region ?_|refine .ret ?_|refine .then_ret ?_|refine .block_ret ?_|refine .exit ?_|refine .then_exit ?_|refine .block_exit ?_|refine .block_other rfl ?_)
    refine St.condF rfl rfl ?_
    (iterate 6 ((repeat with_reducible first|refine .nil ?_|refine .then_normal ?_|refine .block_normal ?_|refine .seq ?_|refine .block ?_|refine .skip ?_|refine .region ?_|refine .ret ?_|refine .then_ret ?_|refine .block_ret ?_|refine .exit ?_|refine .then_exit ?_|refine .block_exit ?_|refine .block_other rfl ?_); try refine .run TBok 99 rfl ?_))
    refine StL.step rfl rfl rfl (RunsTo.loadI2 rfl (B3) (hu.r2)).op ?_
    rintro _ _ ⟨rfl, rfl⟩
    refine StL.step rfl rfl rfl (RunsTo.loadI2 rfl (B4) (hv.r2)).op ?_
    rintro _ _ ⟨rfl, rfl⟩
    refine StL.step rfl rfl rfl (OpR.call fn_rational_lowest rfl (lowest_spec (base := 0) (hu.dn (by omega)) (hv.dn (by omega)) hB0 (Nat.zero_le _))) ?_
    rintro t w5 ⟨hx5, ht⟩
    rw [hsum, List.take_of_length_le (by omega)] at ht
    refine StL.setR rfl rfl rfl ht.1 (B1.ext hx5) rfl (hx04.trans hx5) (Nat.le_refl _) ?_
    intro w6 B6 hu6 hx6
    (iterate 6 ((repeat with_reducible first|refine .nil ?_|refine .then_normal ?_|refine .block_normal ?_|refine .seq ?_|refine .block ?_|refine .skip ?_|refine .region ?_|refine .ret ?_|refine .then_ret ?_|refine .block_ret ?_|refine .exit ?_|refine .then_exit ?_|refine .block_exit ?_|refine .block_other rfl ?_); try refine .run TBok 99 rfl ?_))
    exact Out.retR rfl rfl B6 ht.1 ⟨hx6, ht.upd hu6 (B1.ext hx5) (by decide)⟩


set_option maxHeartbeats 800000 in
theorem product_spec {w : World} {b : Nat} {vs : List Value} {qs : List Rat} (h : Rats w b vs qs) (hlen : qs.length ≤ 3) (hq : ∀ q ∈ qs, rz q ≤ 100000) :
    Calls Try.prog 99 #[.slice (some ⟨b, 0, none⟩) vs.length vs.length] w (Ret fun r w' => Ext w w' ∧ CanR 0 w' r (prodR qs)) := by
  have hvq := h.2.2.1
  refine calls_of_St (args := [_]) Try.func99 rfl Try.ntmps99 rfl ?_
  (repeat with_reducible first|refine .nil ?_|refine .then_normal ?_|refine .block_normal ?_|refine .seq ?_|refine .block ?_|refine .skip ?_|refine .region ?_|refine .ret ?_|refine .then_ret ?_|refine .block_ret ?_|refine .exit ?_|refine .then_exit ?_|refine .block_exit ?_|refine .block_other rfl ?_)
  refine StL.step rfl rfl rfl (OpR.alloc TBok rfl) ?_
  rintro _ w1 ⟨rfl, B1, hx1, hz1⟩
  (iterate 6 ((repeat with_reducible first|refine .nil ?_|refine .then_normal ?_|refine .block_normal ?_|refine .seq ?_|refine .block ?_|refine .skip ?_|refine .region ?_|refine .ret ?_|refine .then_ret ?_|refine .block_ret ?_|refine .exit ?_|refine .then_exit ?_|refine .block_exit ?_|refine .block_other rfl ?_); try refine .run TBok 99 rfl ?_))
  refine StL.step rfl rfl rfl (OpR.call fn_integer_Small rfl (small_spec w1 1 (by decide) (by decide))) ?_
  rintro v8 w1' ⟨hx1', h8⟩
  refine StL.step rfl rfl rfl (OpR.call fn_integer_Small rfl (small_spec w1' 1 (by decide) (by decide))) ?_
  rintro v9 w2 ⟨hx2, h9⟩
  have hx0 : Ext w w2 := (hx1.trans hx1').trans hx2
  replace B1 := (B1.ext hx1').ext hx2
  replace h8 := h8.ext hx2
  clear hx1 hx1' hx2
  refine StL.setTwo rfl rfl rfl (fun _ _ => rfl) (fun _ _ => rfl) h8 h9 hx0 ?_
  intro b3 b4 w3 hne hl3 hl4 hx23 B3 B4 h8' h9' hx03
  have hlt1 := B1.lt
  (iterate 6 ((repeat with_reducible first|refine .nil ?_|refine .then_normal ?_|refine .block_normal ?_|refine .seq ?_|refine .block ?_|refine .skip ?_|refine .region ?_|refine .ret ?_|refine .then_ret ?_|refine .block_ret ?_|refine .exit ?_|refine .then_exit ?_|refine .block_exit ?_|refine .block_other rfl ?_); try refine .run TBok 99 rfl ?_))
  refine St.loop (fun g : Nat × (Value × Value) × Int × Int => [(2, .pointer (some ⟨w.heap.size, 0, none⟩)), (3, .pointer (some ⟨b3, 0, none⟩)), (4, .pointer (some ⟨b4, 0, none⟩)), (10, .slice (some ⟨b, 0, none⟩) vs.length vs.length), (11, .int .i64 vs.length), (12, .int .i64 g.1)])
    (fun g w' => Ext w2 w' ∧ Blk 25 w' b3 g.2.1.1.cells.toList ∧ Blk 25 w' b4 g.2.1.2.cells.toList ∧ CanO 0 w' g.2.1.1 g.2.2.1 ∧ CanO 0 w' g.2.1.2 g.2.2.2 ∧ g.2.2.2 ≠ 0 ∧ Rat.divInt g.2.2.1 g.2.2.2 = prodR (qs.take g.1) ∧ sz g.2.2.1 ≤ (g.1 + 1) * 100001 ∧ sz g.2.2.2 ≤ (g.1 + 1) * 100001 ∧ g.1 ≤ vs.length)
    (fun g => vs.length - g.1) (0, (v8, v9), 1, 1) ⟨rfl, rfl, rfl, rfl, rfl, rfl, trivial⟩ ⟨hx23, B3, B4, h8', h9', by show (1 : Int) ≠ 0; decide, by show Rat.divInt 1 1 = 1; decide +kernel, by have := sz_1; dsimp only; omega, by have := sz_1; dsimp only; omega, Nat.zero_le _⟩ ?_
  rintro ⟨i, ⟨u, v⟩, A, B⟩ w4 ⟨hx24, B3, B4, hu, hv, hB0, hsum, hsA, hsB, hi⟩
  dsimp only at B3 B4 hu hv hB0 hsum hsA hsB hi ⊢
  have hx04 := hx0.trans hx24
  replace B1 := B1.ext hx24
  by_cases hlt : i < vs.length
  · have hki : vs[i]? = some vs[i] := by simp
    have hqi : qs[i]? = some (qs[i]'(by omega)) := by simp
    have hrq := hq (qs[i]'(by omega)) (List.getElem_mem _)
    generalize vs[i] = x at hki
    generalize (qs[i]'(by omega)) = q at hqi hrq
    have h4 := h.ext hx04
    have hxq := h4.2.2.2 i x q hki hqi
    have hl34 := B3.lt
    have hl44 := B4.lt
    (repeat with_reducible first|refine .nil ?_|refine .then_normal ?_|refine .block_normal ?_|refine .seq ?_|refine .block ?_|refine .skip ?_|refine .region ?_|refine .ret ?_|refine .then_ret ?_|refine .block_ret ?_|refine .exit ?_|refine .then_exit ?_|refine .block_exit ?_|refine .block_other rfl ?_)
    refine StL.as TBok 1 (.bool true) rfl (bool_true (by omega)) ?_
    (repeat with_reducible first|refine .nil ?_|refine .then_normal ?_|refine .block_normal ?_|refine .seq ?_|refine .block ?_|refine .skip ?_|refine .region ?_|refine .ret ?_|refine .then_ret ?_|refine .block_ret ?_|refine .exit ?_|refine .then_exit ?_|refine .block_exit ?_|refine .block_other rfl ?_)
    refine St.condT rfl rfl ?_
    (iterate 6 ((repeat with_reducible first|refine .nil ?_|refine .then_normal ?_|refine .block_normal ?_|refine .seq ?_|refine .block ?_|refine .skip ?_|refine .region ?_|refine .ret ?_|refine .then_ret ?_|refine .block_ret ?_|refine .exit ?_|refine .then_exit ?_|refine .block_exit ?_|refine .block_other rfl ?_); try refine .run TBok 99 rfl ?_))
    refine StL.step rfl rfl rfl (RunsTo.indexR rfl rfl hlt).op ?_
    rintro _ _ ⟨rfl, rfl⟩
    refine StL.step rfl rfl rfl (RunsTo.loadRat rfl h4.1 h4.2.1 hki).op ?_
    rintro _ _ ⟨rfl, rfl⟩
    refine StL.newR rfl rfl (fun _ => rfl) hxq.1 ?_
    intro b6 w5 hl6 hx5 B6
    replace B1 := B1.ext hx5
    replace B3 := B3.ext hx5
    replace B4 := B4.ext hx5
    replace hu := hu.ext hx5
    replace hv := hv.ext hx5
    replace hxq := hxq.ext hx5
    replace hx24 := hx24.trans hx5
    clear hx5
    (iterate 6 ((repeat with_reducible first|refine .nil ?_|refine .then_normal ?_|refine .block_normal ?_|refine .seq ?_|refine .block ?_|refine .skip ?_|refine .region ?_|refine .ret ?_|refine .then_ret ?_|refine .block_ret ?_|refine .exit ?_|refine .then_exit ?_|refine .block_exit ?_|refine .block_other rfl ?_); try refine .run TBok 99 rfl ?_))
    refine StL.step rfl rfl rfl (RunsTo.loadR rfl rfl (B6) (hxq.1)).op ?_
    rintro _ _ ⟨rfl, rfl⟩
    refine StL.step rfl rfl rfl (OpR.call fn_rational_canonical rfl (canonical_spec (base := 0) hxq (Nat.zero_le _))) ?_
    rintro t w6 ⟨hx6, ht⟩
    replace B1 := B1.ext hx6
    replace B3 := B3.ext hx6
    replace B4 := B4.ext hx6
    replace hu := hu.ext hx6
    replace hv := hv.ext hx6
    replace hx24 := hx24.trans hx6
    clear hx6
    refine StL.newR rfl rfl (fun _ => rfl) ht.1 ?_
    intro b7 w7 hl7 hx7 B7
    replace B1 := B1.ext hx7
    replace B3 := B3.ext hx7
    replace B4 := B4.ext hx7
    replace hu := hu.ext hx7
    replace hv := hv.ext hx7
    replace ht := ht.ext hx7
    replace hx24 := hx24.trans hx7
    clear hx7
    have hrn := rz_num q
    have hrd := rz_den q
    have m1 := sz_mul A q.num
    have m4 := sz_mul B (q.den : Int)
    (iterate 6 ((repeat with_reducible first|refine .nil ?_|refine .then_normal ?_|refine .block_normal ?_|refine .seq ?_|refine .block ?_|refine .skip ?_|refine .region ?_|refine .ret ?_|refine .then_ret ?_|refine .block_ret ?_|refine .exit ?_|refine .then_exit ?_|refine .block_exit ?_|refine .block_other rfl ?_); try refine .run TBok 99 rfl ?_))
    refine St.flow 7 TBfol (by kernel_rfl) rfl (by kernel_rfl) rfl True.intro ?_
    refine FL.run TBok 99 rfl ?_
    refine FL.one (L := []) rfl rfl rfl rfl rfl (fun _ hR => RunsTo.loadI2 rfl (hR.blk (B3) (by simp)) (hu.r2)) ?_
    refine FL.run TBok 99 rfl ?_
    refine FL.one (L := []) rfl rfl rfl rfl rfl (fun _ hR => RunsTo.loadN rfl (hR.blk (B7) (by simp)) (ht.1)) ?_
    refine FL.callE fn_integer_Mul rfl rfl rfl (fun w8 hx8 => CallF.mk rfl (mul_dn ((hu.ext hx8).dn (by omega)) ((ht.2.1.ext hx8).dn (by omega)))) (MonoR.canO 0 _) ?_
    refine FL.one (L := []) rfl rfl rfl rfl rfl (fun _ hR => RunsTo.loadI2 rfl (hR.blk (B4) (by simp)) (hv.r2)) ?_
    refine FL.run TBok 99 rfl ?_
    refine FL.one (L := []) rfl rfl rfl rfl rfl (fun _ hR => RunsTo.loadD rfl (hR.blk (B7) (by simp)) (ht.1)) ?_
    refine FL.endE rfl ?_
    intro w8 hx8 t21 h21 _ _
    replace B1 := B1.ext hx8
    replace B3 := B3.ext hx8
    replace B4 := B4.ext hx8
    replace B7 := B7.ext hx8
    replace hu := hu.ext hx8
    replace hv := hv.ext hx8
    replace ht := ht.ext hx8
    replace hx24 := hx24.trans hx8
    clear hx8
    refine StL.step rfl rfl rfl (OpR.call fn_integer_Mul rfl (mul_dn (hv.dn (by omega)) (ht.2.2.dn (by omega)))) ?_
    rintro t25 w9 ⟨hx9, h25⟩
    replace B3 := B3.ext hx9
    replace B4 := B4.ext hx9
    replace h21 := h21.ext hx9
    replace hx24 := hx24.trans hx9
    clear hx9
    refine StL.setCan rfl rfl B3 hu.two.1 h21 hx24 hl3 ?_
    intro w11 B3' hu11 h21' hx211
    replace B4 := B4.upd hu11 (by omega)
    replace h25 := h25.updT hu11 B3 (by decide)
    clear hu11 B3 hx24
    refine StL.setCan rfl rfl B4 hv.two.1 h25 hx211 hl4 ?_
    intro w13 B4' hu13 h25' hx213
    replace B3' := B3'.upd hu13 (by omega)
    replace h21' := h21'.updT hu13 B4 (by decide)
    (iterate 6 ((repeat with_reducible first|refine .nil ?_|refine .then_normal ?_|refine .block_normal ?_|refine .seq ?_|refine .block ?_|refine .skip ?_|refine .region ?_|refine .ret ?_|refine .then_ret ?_|refine .block_ret ?_|refine .exit ?_|refine .then_exit ?_|refine .block_exit ?_|refine .block_other rfl ?_); try refine .run TBok 99 rfl ?_))
    refine Out.again (i + 1, (t21, t25), A * q.num, B * (q.den : Int)) ⟨rfl, rfl, rfl, rfl, rfl, ?_, trivial⟩ ⟨hx213, B3', B4', h21', h25', Int.mul_ne_zero hB0 (den_ne q), ?_, by dsimp only; omega, by dsimp only; omega, by dsimp only; omega⟩ (by dsimp only; omega)
    · show some (Value.int .i64 (IntKind.i64.wrap ((i : Int) + 1))) = _
      rw [i64_id (by omega) (by omega)]; rfl
    · dsimp only
      rw [prodR_take hqi, ← hsum, ← Rat.divInt_mul_divInt A q.num, Rat.num_divInt_den]
  · (repeat with_reducible first|refine .nil ?_|refine .then_normal ?_|refine .block_normal ?_|refine .seq ?_|refine .block ?_|refine .skip ?_|refine .region ?_|refine .ret ?_|refine .then_ret ?_|refine .block_ret ?_|refine .exit ?_|refine .then_exit ?_|refine .block_exit ?_|refine .block_other rfl ?_)
    refine StL.as TBok 1 (.bool false) rfl (bool_false (by omega)) ?_
    (repeat with_reducible first|refine .nil ?_|refine .then_normal ?_|refine .block_normal ?_|refine .seq ?_|refine .block ?_|refine .skip ?_|refine .region ?_|refine .ret ?_|refine .then_ret ?_|refine .block_ret ?_|refine .exit ?_|refine .then_exit ?_|refine .block_exit ?_|refine .block_other rfl ?_)
    refine St.condF rfl rfl ?_
    (iterate 6 ((repeat with_reducible first|refine .nil ?_|refine .then_normal ?_|refine .block_normal ?_|refine .seq ?_|refine .block ?_|refine .skip ?_|refine .region ?_|refine .ret ?_|refine .then_ret ?_|refine .block_ret ?_|refine .exit ?_|refine .then_exit ?_|refine .block_exit ?_|refine .block_other rfl ?_); try refine .run TBok 99 rfl ?_))
    refine StL.step rfl rfl rfl (RunsTo.loadI2 rfl (B3) (hu.r2)).op ?_
    rintro _ _ ⟨rfl, rfl⟩
    refine StL.step rfl rfl rfl (RunsTo.loadI2 rfl (B4) (hv.r2)).op ?_
    rintro _ _ ⟨rfl, rfl⟩
    refine StL.step rfl rfl rfl (OpR.call fn_rational_lowest rfl (lowest_spec (base := 0) (hu.dn (by omega)) (hv.dn (by omega)) hB0 (Nat.zero_le _))) ?_
    rintro t w5 ⟨hx5, ht⟩
    rw [hsum, List.take_of_length_le (by omega)] at ht
    refine StL.setR rfl rfl rfl ht.1 (B1.ext hx5) rfl (hx04.trans hx5) (Nat.le_refl _) ?_
    intro w6 B6 hu6 hx6
    (iterate 6 ((repeat with_reducible first|refine .nil ?_|refine .then_normal ?_|refine .block_normal ?_|refine .seq ?_|refine .block ?_|refine .skip ?_|refine .region ?_|refine .ret ?_|refine .then_ret ?_|refine .block_ret ?_|refine .exit ?_|refine .then_exit ?_|refine .block_exit ?_|refine .block_other rfl ?_); try refine .run TBok 99 rfl ?_))
    exact Out.retR rfl rfl B6 ht.1 ⟨hx6, ht.upd hu6 (B1.ext hx5) (by decide)⟩

theorem sum2 (p q : Rat) : sumR [p, q] = p + q := by show (0 + p) + q = _; rw [Rat.zero_add]
theorem prod2 (p q : Rat) : prodR [p, q] = p * q := by show (1 * p) * q = _; rw [Rat.one_mul]
theorem two_le {p q : Rat} (hp : rz p ≤ 100000) (hq : rz q ≤ 100000) : ∀ r ∈ [p, q], rz r ≤ 100000 := by
  intro r hr
  simp at hr
  rcases hr with rfl | rfl
  · exact hp
  · exact hq

theorem sum2_spec {w : World} {b : Nat} {u v : Value} {p q : Rat} (B : Blk 33 w b (flat [u, v])) (h : DnR w u p) (k : DnR w v q) (hp : rz p ≤ 100000) (hq : rz q ≤ 100000) :
    Calls Try.prog 83 #[.slice (some ⟨b, 0, none⟩) 2 2] w (Ret fun r w' => Ext w w' ∧ CanR 0 w' r (p + q)) := by
  have := sum_spec (Rats.two B h k) (Nat.le_succ 2) (two_le hp hq)
  rw [sum2] at this
  exact this
theorem product2_spec {w : World} {b : Nat} {u v : Value} {p q : Rat} (B : Blk 33 w b (flat [u, v])) (h : DnR w u p) (k : DnR w v q) (hp : rz p ≤ 100000) (hq : rz q ≤ 100000) :
    Calls Try.prog 99 #[.slice (some ⟨b, 0, none⟩) 2 2] w (Ret fun r w' => Ext w w' ∧ CanR 0 w' r (p * q)) := by
  have := product_spec (Rats.two B h k) (Nat.le_succ 2) (two_le hp hq)
  rw [prod2] at this
  exact this

theorem addR_spec {w : World} {x y : Value} {p q : Rat} (h : DnR w x p) (k : DnR w y q) (hp : rz p ≤ 100000) (hq : rz q ≤ 100000) :
    Calls Try.prog 48 #[x, y] w (Ret fun r w' => Ext w w' ∧ CanR 0 w' r (p + q)) := by
  refine calls_of_St (args := [_, _]) Try.func48 rfl Try.ntmps48 rfl ?_
  (repeat with_reducible first|refine .nil ?_|refine .then_normal ?_|refine .block_normal ?_|refine .seq ?_|refine .block ?_|refine .skip ?_|refine .region ?_|refine .ret ?_|refine .then_ret ?_|refine .block_ret ?_|refine .exit ?_|refine .then_exit ?_|refine .block_exit ?_|refine .block_other rfl ?_)
  refine StL.step rfl rfl rfl (OpR.box rfl) ?_
  rintro _ w1 ⟨rfl, B1, hx1, hz1⟩
  refine StL.step rfl rfl rfl (OpR.box rfl) ?_
  rintro _ w2 ⟨rfl, B2, hx2, hz2⟩
  refine StL.step rfl rfl rfl (OpR.alloc TBok rfl) ?_
  rintro _ w3 ⟨rfl, B3, hx3, hz3⟩
  have hx0 : Ext w w3 := (hx1.trans hx2).trans hx3
  replace B1 := (B1.ext hx2).ext hx3
  replace B2 := B2.ext hx3
  replace h := h.ext hx0
  replace k := k.ext hx0
  clear hx1 hx2 hx3
  (iterate 6 ((repeat with_reducible first|refine .nil ?_|refine .then_normal ?_|refine .block_normal ?_|refine .seq ?_|refine .block ?_|refine .skip ?_|refine .region ?_|refine .ret ?_|refine .then_ret ?_|refine .block_ret ?_|refine .exit ?_|refine .then_exit ?_|refine .block_exit ?_|refine .block_other rfl ?_); try refine .run TBok 99 rfl ?_))
  refine StL.step rfl rfl rfl (RunsTo.loadR rfl rfl (B1) (h.1)).op ?_
  rintro _ _ ⟨rfl, rfl⟩
  refine StL.step rfl rfl rfl (RunsTo.loadR rfl rfl (B2) (k.1)).op ?_
  rintro _ _ ⟨rfl, rfl⟩
  refine StL.step rfl rfl rfl (OpR.rats2 rfl rfl h.1 k.1) ?_
  rintro _ w4 ⟨rfl, B4, hx4⟩
  replace B3 := B3.ext hx4
  replace h := h.ext hx4
  replace k := k.ext hx4
  replace hx0 := hx0.trans hx4
  clear hx4
  refine StL.step rfl rfl rfl (OpR.call fn_rational_sum rfl (sum2_spec B4 h k hp hq)) ?_
  rintro v w5 ⟨hx5, hv⟩
  replace B3 := B3.ext hx5
  replace hx0 := hx0.trans hx5
  clear hx5
  refine StL.setR rfl rfl rfl hv.1 B3 rfl hx0 (by omega) ?_
  intro w12 B12 hu12 hx12
  (iterate 6 ((repeat with_reducible first|refine .nil ?_|refine .then_normal ?_|refine .block_normal ?_|refine .seq ?_|refine .block ?_|refine .skip ?_|refine .region ?_|refine .ret ?_|refine .then_ret ?_|refine .block_ret ?_|refine .exit ?_|refine .then_exit ?_|refine .block_exit ?_|refine .block_other rfl ?_); try refine .run TBok 99 rfl ?_))
  exact Out.retR rfl rfl B12 hv.1 ⟨hx12, hv.upd hu12 B3 (by decide)⟩

theorem mulR_spec {w : World} {x y : Value} {p q : Rat} (h : DnR w x p) (k : DnR w y q) (hp : rz p ≤ 100000) (hq : rz q ≤ 100000) :
    Calls Try.prog 51 #[x, y] w (Ret fun r w' => Ext w w' ∧ CanR 0 w' r (p * q)) := by
  refine calls_of_St (args := [_, _]) Try.func51 rfl Try.ntmps51 rfl ?_
  (repeat with_reducible first|refine .nil ?_|refine .then_normal ?_|refine .block_normal ?_|refine .seq ?_|refine .block ?_|refine .skip ?_|refine .region ?_|refine .ret ?_|refine .then_ret ?_|refine .block_ret ?_|refine .exit ?_|refine .then_exit ?_|refine .block_exit ?_|refine .block_other rfl ?_)
  refine StL.step rfl rfl rfl (OpR.box rfl) ?_
  rintro _ w1 ⟨rfl, B1, hx1, hz1⟩
  refine StL.step rfl rfl rfl (OpR.box rfl) ?_
  rintro _ w2 ⟨rfl, B2, hx2, hz2⟩
  refine StL.step rfl rfl rfl (OpR.alloc TBok rfl) ?_
  rintro _ w3 ⟨rfl, B3, hx3, hz3⟩
  have hx0 : Ext w w3 := (hx1.trans hx2).trans hx3
  replace B1 := (B1.ext hx2).ext hx3
  replace B2 := B2.ext hx3
  replace h := h.ext hx0
  replace k := k.ext hx0
  clear hx1 hx2 hx3
  (iterate 6 ((repeat with_reducible first|refine .nil ?_|refine .then_normal ?_|refine .block_normal ?_|refine .seq ?_|refine .block ?_|refine .skip ?_|refine .region ?_|refine .ret ?_|refine .then_ret ?_|refine .block_ret ?_|refine .exit ?_|refine .then_exit ?_|refine .block_exit ?_|refine .block_other rfl ?_); try refine .run TBok 99 rfl ?_))
  refine StL.step rfl rfl rfl (RunsTo.loadR rfl rfl (B1) (h.1)).op ?_
  rintro _ _ ⟨rfl, rfl⟩
  refine StL.step rfl rfl rfl (RunsTo.loadR rfl rfl (B2) (k.1)).op ?_
  rintro _ _ ⟨rfl, rfl⟩
  refine StL.step rfl rfl rfl (OpR.rats2 rfl rfl h.1 k.1) ?_
  rintro _ w4 ⟨rfl, B4, hx4⟩
  replace B3 := B3.ext hx4
  replace h := h.ext hx4
  replace k := k.ext hx4
  replace hx0 := hx0.trans hx4
  clear hx4
  refine StL.step rfl rfl rfl (OpR.call fn_rational_product rfl (product2_spec B4 h k hp hq)) ?_
  rintro v w5 ⟨hx5, hv⟩
  replace B3 := B3.ext hx5
  replace hx0 := hx0.trans hx5
  clear hx5
  refine StL.setR rfl rfl rfl hv.1 B3 rfl hx0 (by omega) ?_
  intro w12 B12 hu12 hx12
  (iterate 6 ((repeat with_reducible first|refine .nil ?_|refine .then_normal ?_|refine .block_normal ?_|refine .seq ?_|refine .block ?_|refine .skip ?_|refine .region ?_|refine .ret ?_|refine .then_ret ?_|refine .block_ret ?_|refine .exit ?_|refine .then_exit ?_|refine .block_exit ?_|refine .block_other rfl ?_); try refine .run TBok 99 rfl ?_))
  exact Out.retR rfl rfl B12 hv.1 ⟨hx12, hv.upd hu12 B3 (by decide)⟩

theorem subR_spec {w : World} {x y : Value} {p q : Rat} (h : DnR w x p) (k : DnR w y q) (hp : rz p ≤ 100000) (hq : rz q ≤ 100000) :
    Calls Try.prog 49 #[x, y] w (Ret fun r w' => Ext w w' ∧ CanR 0 w' r (p - q)) := by
  refine calls_of_St (args := [_, _]) Try.func49 rfl Try.ntmps49 rfl ?_
  (repeat with_reducible first|refine .nil ?_|refine .then_normal ?_|refine .block_normal ?_|refine .seq ?_|refine .block ?_|refine .skip ?_|refine .region ?_|refine .ret ?_|refine .then_ret ?_|refine .block_ret ?_|refine .exit ?_|refine .then_exit ?_|refine .block_exit ?_|refine .block_other rfl ?_)
  refine StL.step rfl rfl rfl (OpR.box rfl) ?_
  rintro _ w1 ⟨rfl, B1, hx1, hz1⟩
  refine StL.step rfl rfl rfl (OpR.box rfl) ?_
  rintro _ w2 ⟨rfl, B2, hx2, hz2⟩
  refine StL.step rfl rfl rfl (OpR.alloc TBok rfl) ?_
  rintro _ w3 ⟨rfl, B3, hx3, hz3⟩
  have hx0 : Ext w w3 := (hx1.trans hx2).trans hx3
  replace B1 := (B1.ext hx2).ext hx3
  replace B2 := B2.ext hx3
  replace h := h.ext hx0
  replace k := k.ext hx0
  clear hx1 hx2 hx3
  (iterate 6 ((repeat with_reducible first|refine .nil ?_|refine .then_normal ?_|refine .block_normal ?_|refine .seq ?_|refine .block ?_|refine .skip ?_|refine .region ?_|refine .ret ?_|refine .then_ret ?_|refine .block_ret ?_|refine .exit ?_|refine .then_exit ?_|refine .block_exit ?_|refine .block_other rfl ?_); try refine .run TBok 99 rfl ?_))
  refine St.flow 3 TBfol (by kernel_rfl) rfl (by kernel_rfl) rfl True.intro ?_
  refine FL.one (L := []) rfl rfl rfl rfl rfl (fun _ hR => RunsTo.loadR rfl rfl (hR.blk (B1) (by simp)) (h.1)) ?_
  refine FL.one (L := []) rfl rfl rfl rfl rfl (fun _ hR => RunsTo.loadR rfl rfl (hR.blk (B2) (by simp)) (k.1)) ?_
  refine FL.callE fn_rational_Neg rfl rfl rfl (fun w4 hx4 => CallF.mk rfl (negR_spec (k.ext hx4))) (MonoR.canR 0 _) ?_
  refine FL.endE rfl ?_
  intro w4 hx4 u hu _ _
  have hzn := rz_neg q
  replace B3 := B3.ext hx4
  replace h := h.ext hx4
  replace hx0 := hx0.trans hx4
  clear hx4
  refine StL.step rfl rfl rfl (OpR.rats2 rfl rfl h.1 hu.1) ?_
  rintro _ w5 ⟨rfl, B4, hx5⟩
  replace B3 := B3.ext hx5
  replace h := h.ext hx5
  replace hu := hu.ext hx5
  replace hx0 := hx0.trans hx5
  clear hx5
  refine StL.step rfl rfl rfl (OpR.call fn_rational_sum rfl (sum2_spec B4 h (hu.dn (by omega)) hp (by omega))) ?_
  rintro v w6 ⟨hx6, hv⟩
  rw [← Rat.sub_eq_add_neg] at hv
  replace B3 := B3.ext hx6
  replace hx0 := hx0.trans hx6
  clear hx6
  refine StL.setR rfl rfl rfl hv.1 B3 rfl hx0 (by omega) ?_
  intro w12 B12 hu12 hx12
  (iterate 6 ((repeat with_reducible first|refine .nil ?_|refine .then_normal ?_|refine .block_normal ?_|refine .seq ?_|refine .block ?_|refine .skip ?_|refine .region ?_|refine .ret ?_|refine .then_ret ?_|refine .block_ret ?_|refine .exit ?_|refine .then_exit ?_|refine .block_exit ?_|refine .block_other rfl ?_); try refine .run TBok 99 rfl ?_))
  exact Out.retR rfl rfl B12 hv.1 ⟨hx12, hv.upd hu12 B3 (by decide)⟩

/-- What Quo returns: 0/0 and false, or the quotient and true. -/
def QuoV (w : World) (r : Value) (p q : Rat) : Prop := (q = 0 → r = .tuple #[zR, .bool false]) ∧ (q ≠ 0 → ∃ v, r = .tuple #[v, .bool true] ∧ CanR 0 w v (p / q))

theorem quoR_spec {w : World} {x y : Value} {p q : Rat} (h : DnR w x p) (k : DnR w y q) (hp : rz p ≤ 100000) (hq : rz q ≤ 99999) :
    Calls Try.prog 58 #[x, y] w (Ret fun r w' => Ext w w' ∧ QuoV w' r p q) := by
  refine calls_of_St (args := [_, _]) Try.func58 rfl Try.ntmps58 rfl ?_
  (repeat with_reducible first|refine .nil ?_|refine .then_normal ?_|refine .block_normal ?_|refine .seq ?_|refine .block ?_|refine .skip ?_|refine .region ?_|refine .ret ?_|refine .then_ret ?_|refine .block_ret ?_|refine .exit ?_|refine .then_exit ?_|refine .block_exit ?_|refine .block_other rfl ?_)
  refine StL.step rfl rfl rfl (OpR.box rfl) ?_
  rintro _ w1 ⟨rfl, B1, hx1, hz1⟩
  refine StL.step rfl rfl rfl (OpR.box rfl) ?_
  rintro _ w2 ⟨rfl, B2, hx2, hz2⟩
  refine StL.step rfl rfl rfl (OpR.alloc TBok rfl) ?_
  rintro _ w3 ⟨rfl, B3, hx3, hz3⟩
  have hx0 : Ext w w3 := (hx1.trans hx2).trans hx3
  replace B1 := (B1.ext hx2).ext hx3
  replace B2 := B2.ext hx3
  replace h := h.ext hx0
  replace k := k.ext hx0
  clear hx1 hx2 hx3
  (iterate 6 ((repeat with_reducible first|refine .nil ?_|refine .then_normal ?_|refine .block_normal ?_|refine .seq ?_|refine .block ?_|refine .skip ?_|refine .region ?_|refine .ret ?_|refine .then_ret ?_|refine .block_ret ?_|refine .exit ?_|refine .then_exit ?_|refine .block_exit ?_|refine .block_other rfl ?_); try refine .run TBok 99 rfl ?_))
  refine StL.step rfl rfl rfl (RunsTo.loadR rfl rfl (B2) (k.1)).op ?_
  rintro _ _ ⟨rfl, rfl⟩
  refine StL.step rfl rfl rfl (OpR.call fn_rational_canonical rfl (canonical_spec (base := 0) k (Nat.zero_le _))) ?_
  rintro u w4 ⟨hx4, hu⟩
  replace B1 := B1.ext hx4
  replace B3 := B3.ext hx4
  replace h := h.ext hx4
  replace hx0 := hx0.trans hx4
  clear hx4
  refine StL.newR rfl rfl (fun _ => rfl) hu.1 ?_
  intro b6 w6 hl6 hx6 B6
  replace B1 := B1.ext hx6
  replace B3 := B3.ext hx6
  replace h := h.ext hx6
  replace hu := hu.ext hx6
  replace hx0 := hx0.trans hx6
  clear hx6
  (iterate 6 ((repeat with_reducible first|refine .nil ?_|refine .then_normal ?_|refine .block_normal ?_|refine .seq ?_|refine .block ?_|refine .skip ?_|refine .region ?_|refine .ret ?_|refine .then_ret ?_|refine .block_ret ?_|refine .exit ?_|refine .then_exit ?_|refine .block_exit ?_|refine .block_other rfl ?_); try refine .run TBok 99 rfl ?_))
  refine StL.step rfl rfl rfl (RunsTo.loadR rfl rfl (B6) (hu.1)).op ?_
  rintro _ _ ⟨rfl, rfl⟩
  refine StL.step rfl rfl rfl (OpR.call fn_rational_fraction_sign rfl (fsign_spec hu (by omega))) ?_
  rintro _ w7 ⟨hx7, rfl⟩
  replace B1 := B1.ext hx7
  replace B3 := B3.ext hx7
  replace B6 := B6.ext hx7
  replace h := h.ext hx7
  replace hu := hu.ext hx7
  replace hx0 := hx0.trans hx7
  clear hx7
  by_cases h0 : q = 0
  · refine StL.as TBok 1 (.bool true) rfl (bool_true (by rw [signI_eq0]; exact (num_eq0 q).2 h0)) ?_
    (iterate 6 ((repeat with_reducible first|refine .nil ?_|refine .then_normal ?_|refine .block_normal ?_|refine .seq ?_|refine .block ?_|refine .skip ?_|refine .region ?_|refine .ret ?_|refine .then_ret ?_|refine .block_ret ?_|refine .exit ?_|refine .then_exit ?_|refine .block_exit ?_|refine .block_other rfl ?_); try refine .run TBok 99 rfl ?_))
    refine St.condT rfl rfl ?_
    (iterate 6 ((repeat with_reducible first|refine .nil ?_|refine .then_normal ?_|refine .block_normal ?_|refine .seq ?_|refine .block ?_|refine .skip ?_|refine .region ?_|refine .ret ?_|refine .then_ret ?_|refine .block_ret ?_|refine .exit ?_|refine .then_exit ?_|refine .block_exit ?_|refine .block_other rfl ?_); try refine .run TBok 99 rfl ?_))
    refine StL.step rfl rfl rfl (RunsTo.build TBok rfl rfl rfl rfl).op ?_
    rintro _ _ ⟨rfl, rfl⟩
    refine StL.setR (v := zR) rfl rfl rfl zR_R4 B3 rfl hx0 (by omega) ?_
    intro w8 B8 hu8 hx8
    (iterate 6 ((repeat with_reducible first|refine .nil ?_|refine .then_normal ?_|refine .block_normal ?_|refine .seq ?_|refine .block ?_|refine .skip ?_|refine .region ?_|refine .ret ?_|refine .then_ret ?_|refine .block_ret ?_|refine .exit ?_|refine .then_exit ?_|refine .block_exit ?_|refine .block_other rfl ?_); try refine .run TBok 99 rfl ?_))
    exact Out.retRT rfl rfl rfl B8 zR_R4 ⟨hx8, fun _ => rfl, fun h => absurd h0 h⟩
  · refine StL.as TBok 1 (.bool false) rfl (bool_false (by rw [signI_eq0]; exact fun e => h0 ((num_eq0 q).1 e))) ?_
    (iterate 6 ((repeat with_reducible first|refine .nil ?_|refine .then_normal ?_|refine .block_normal ?_|refine .seq ?_|refine .block ?_|refine .skip ?_|refine .region ?_|refine .ret ?_|refine .then_ret ?_|refine .block_ret ?_|refine .exit ?_|refine .then_exit ?_|refine .block_exit ?_|refine .block_other rfl ?_); try refine .run TBok 99 rfl ?_))
    refine St.condF rfl rfl ?_
    (iterate 6 ((repeat with_reducible first|refine .nil ?_|refine .then_normal ?_|refine .block_normal ?_|refine .seq ?_|refine .block ?_|refine .skip ?_|refine .region ?_|refine .ret ?_|refine .then_ret ?_|refine .block_ret ?_|refine .exit ?_|refine .then_exit ?_|refine .block_exit ?_|refine .block_other rfl ?_); try refine .run TBok 99 rfl ?_))
    refine StL.step rfl rfl rfl (RunsTo.loadR rfl rfl (B1) (h.1)).op ?_
    rintro _ _ ⟨rfl, rfl⟩
    refine .run TBok 99 rfl ?_
    refine StL.step rfl rfl rfl (RunsTo.loadD rfl (B6) (hu.1)).op ?_
    rintro _ _ ⟨rfl, rfl⟩
    refine .run TBok 99 rfl ?_
    refine StL.step rfl rfl rfl (RunsTo.loadN rfl (B6) (hu.1)).op ?_
    rintro _ _ ⟨rfl, rfl⟩
    refine StL.step rfl rfl rfl (RunsTo.buildR rfl rfl hu.1.two.2 hu.1.two.1).op ?_
    rintro _ _ ⟨rfl, rfl⟩
    have hi : DnR w7 (mkR (dm u) (nm u)) q⁻¹ := by
      rw [Rat.inv_def]
      exact DnR.mk (hu.2.2.dn (Nat.le_trans (rz_den q) (by omega))) (hu.2.1.dn (Nat.le_trans (rz_num q) (by omega)))
    have hzi := rz_inv q
    refine StL.step rfl rfl rfl (OpR.rats2 rfl rfl h.1 hi.1) ?_
    rintro _ w8 ⟨rfl, B8, hx8⟩
    replace B3 := B3.ext hx8
    replace h := h.ext hx8
    replace hi := hi.ext hx8
    replace hx0 := hx0.trans hx8
    clear hx8
    refine StL.step rfl rfl rfl (OpR.call fn_rational_product rfl (product2_spec B8 h hi hp (by omega))) ?_
    rintro v w9 ⟨hx9, hv⟩
    rw [← Rat.div_def] at hv
    replace B3 := B3.ext hx9
    replace hx0 := hx0.trans hx9
    clear hx9
    refine StL.setR rfl rfl rfl hv.1 B3 rfl hx0 (by omega) ?_
    intro w12 B12 hu12 hx12
    (iterate 6 ((repeat with_reducible first|refine .nil ?_|refine .then_normal ?_|refine .block_normal ?_|refine .seq ?_|refine .block ?_|refine .skip ?_|refine .region ?_|refine .ret ?_|refine .then_ret ?_|refine .block_ret ?_|refine .exit ?_|refine .then_exit ?_|refine .block_exit ?_|refine .block_other rfl ?_); try refine .run TBok 99 rfl ?_))
    exact Out.retRT rfl rfl rfl B12 hv.1 ⟨hx12, fun e => absurd e h0, fun _ => ⟨v, rfl, hv.upd hu12 B3 (by decide)⟩⟩

theorem floorR_spec {w : World} {x : Value} {q : Rat} (h : DnR w x q) :
    Calls Try.prog 32 #[x] w (Ret fun r w' => Ext w w' ∧ CanO 0 w' r q.floor) := by
  have hz := h.rz
  have hzn := rz_num q
  have hzd := rz_den q
  refine calls_of_St (args := [_]) Try.func32 rfl Try.ntmps32 rfl ?_
  (repeat with_reducible first|refine .nil ?_|refine .then_normal ?_|refine .block_normal ?_|refine .seq ?_|refine .block ?_|refine .skip ?_|refine .region ?_|refine .ret ?_|refine .then_ret ?_|refine .block_ret ?_|refine .exit ?_|refine .then_exit ?_|refine .block_exit ?_|refine .block_other rfl ?_)
  refine StL.step rfl rfl rfl (OpR.box rfl) ?_
  rintro _ w1 ⟨rfl, B1, hx1, hz1⟩
  refine StL.step rfl rfl rfl (OpR.alloc TBok rfl) ?_
  rintro _ w2 ⟨rfl, B2, hx2, hz2⟩
  have hx0 : Ext w w2 := hx1.trans hx2
  replace B1 := B1.ext hx2
  replace h := h.ext hx0
  clear hx1 hx2
  (iterate 6 ((repeat with_reducible first|refine .nil ?_|refine .then_normal ?_|refine .block_normal ?_|refine .seq ?_|refine .block ?_|refine .skip ?_|refine .region ?_|refine .ret ?_|refine .then_ret ?_|refine .block_ret ?_|refine .exit ?_|refine .then_exit ?_|refine .block_exit ?_|refine .block_other rfl ?_); try refine .run TBok 99 rfl ?_))
  refine StL.step rfl rfl rfl (RunsTo.loadR rfl rfl (B1) (h.1)).op ?_
  rintro _ _ ⟨rfl, rfl⟩
  refine StL.step rfl rfl rfl (OpR.call fn_rational_canonical rfl (canonical_spec (base := 0) h (Nat.zero_le _))) ?_
  rintro v w3 ⟨hx3, hv⟩
  replace B2 := B2.ext hx3
  replace hx0 := hx0.trans hx3
  clear hx3
  refine StL.newR rfl rfl (fun _ => rfl) hv.1 ?_
  intro b5 w5 hl5 hx5 B5
  replace B2 := B2.ext hx5
  replace hv := hv.ext hx5
  replace hx0 := hx0.trans hx5
  clear hx5
  (iterate 6 ((repeat with_reducible first|refine .nil ?_|refine .then_normal ?_|refine .block_normal ?_|refine .seq ?_|refine .block ?_|refine .skip ?_|refine .region ?_|refine .ret ?_|refine .then_ret ?_|refine .block_ret ?_|refine .exit ?_|refine .then_exit ?_|refine .block_exit ?_|refine .block_other rfl ?_); try refine .run TBok 99 rfl ?_))
  refine StL.step rfl rfl rfl (RunsTo.loadN rfl (B5) (hv.1)).op ?_
  rintro _ _ ⟨rfl, rfl⟩
  refine .run TBok 99 rfl ?_
  refine StL.step rfl rfl rfl (RunsTo.loadD rfl (B5) (hv.1)).op ?_
  rintro _ _ ⟨rfl, rfl⟩
  refine StL.step rfl rfl rfl (OpR.call fn_integer_DivMod rfl (divMod_dn (base := 0) (hv.2.1.dn (by omega)) (hv.2.2.dn (by omega)) (Nat.zero_le _))) ?_
  rintro _ w6 ⟨hx6, _, hd⟩
  obtain ⟨u, m, rfl, hu, hm⟩ := hd (den_ne q)
  rw [← Rat.floor_def] at hu
  replace B2 := B2.ext hx6
  replace hx0 := hx0.trans hx6
  clear hx6
  refine .run TBok 99 rfl ?_
  refine StL.setTwo rfl rfl rfl (fun _ _ => rfl) (fun _ _ => rfl) hu hm hx0 ?_
  intro b4 b4' w7 hne hl4 hl4' hx7 B4 _ hu7 _ hx07
  replace B2 := B2.ext hx7
  clear hx7
  (iterate 6 ((repeat with_reducible first|refine .nil ?_|refine .then_normal ?_|refine .block_normal ?_|refine .seq ?_|refine .block ?_|refine .skip ?_|refine .region ?_|refine .ret ?_|refine .then_ret ?_|refine .block_ret ?_|refine .exit ?_|refine .then_exit ?_|refine .block_exit ?_|refine .block_other rfl ?_); try refine .run TBok 99 rfl ?_))
  refine StL.step rfl rfl rfl (RunsTo.loadI2 rfl (B4) (hu7.r2)).op ?_
  rintro _ _ ⟨rfl, rfl⟩
  refine StL.setCan rfl rfl B2 rfl hu7 hx07 (by omega) ?_
  intro w8 B8 hu8 hu7' hx8
  (iterate 6 ((repeat with_reducible first|refine .nil ?_|refine .then_normal ?_|refine .block_normal ?_|refine .seq ?_|refine .block ?_|refine .skip ?_|refine .region ?_|refine .ret ?_|refine .then_ret ?_|refine .block_ret ?_|refine .exit ?_|refine .then_exit ?_|refine .block_exit ?_|refine .block_other rfl ?_); try refine .run TBok 99 rfl ?_))
  exact Out.retI rfl rfl B8 hu7' ⟨hx8, hu7'⟩

theorem half_eq : Rat.divInt 1 2 = (1 / 2 : Rat) := by decide +kernel
theorem rz_half : rz (Rat.divInt 1 2) = 1 := by decide +kernel

theorem nearestR_spec {w : World} {x : Value} {q : Rat} (h : DnR w x q) (hq : rz q ≤ 100000) :
    Calls Try.prog 34 #[x] w (Ret fun r w' => Ext w w' ∧ CanO 0 w' r (q + Rat.divInt 1 2).floor) := by
  refine calls_of_St (args := [_]) Try.func34 rfl Try.ntmps34 rfl ?_
  (repeat with_reducible first|refine .nil ?_|refine .then_normal ?_|refine .block_normal ?_|refine .seq ?_|refine .block ?_|refine .skip ?_|refine .region ?_|refine .ret ?_|refine .then_ret ?_|refine .block_ret ?_|refine .exit ?_|refine .then_exit ?_|refine .block_exit ?_|refine .block_other rfl ?_)
  refine StL.step rfl rfl rfl (OpR.box rfl) ?_
  rintro _ w1 ⟨rfl, B1, hx1, hz1⟩
  refine StL.step rfl rfl rfl (OpR.alloc TBok rfl) ?_
  rintro _ w2 ⟨rfl, B2, hx2, hz2⟩
  have hx0 : Ext w w2 := hx1.trans hx2
  replace B1 := B1.ext hx2
  replace h := h.ext hx0
  clear hx1 hx2
  (iterate 6 ((repeat with_reducible first|refine .nil ?_|refine .then_normal ?_|refine .block_normal ?_|refine .seq ?_|refine .block ?_|refine .skip ?_|refine .region ?_|refine .ret ?_|refine .then_ret ?_|refine .block_ret ?_|refine .exit ?_|refine .then_exit ?_|refine .block_exit ?_|refine .block_other rfl ?_); try refine .run TBok 99 rfl ?_))
  refine StL.step rfl rfl rfl (OpR.call fn_integer_Small rfl (small_spec w2 1 (by decide) (by decide))) ?_
  rintro u w3 ⟨hx3, hu⟩
  replace B1 := B1.ext hx3
  replace B2 := B2.ext hx3
  replace h := h.ext hx3
  replace hx0 := hx0.trans hx3
  clear hx3
  refine StL.step rfl rfl rfl (OpR.call fn_integer_Small rfl (small_spec w3 2 (by decide) (by decide))) ?_
  rintro v w4 ⟨hx4, hv⟩
  replace B1 := B1.ext hx4
  replace B2 := B2.ext hx4
  replace h := h.ext hx4
  replace hu := hu.ext hx4
  replace hx0 := hx0.trans hx4
  clear hx4
  refine StL.step rfl rfl rfl (RunsTo.buildR rfl rfl hu.r2 hv.r2).op ?_
  rintro _ _ ⟨rfl, rfl⟩
  have hh : DnR w4 (mkR u v) (Rat.divInt 1 2) := DnR.mk (hu.dn (by decide +kernel)) (hv.dn (by decide +kernel))
  refine StL.newR rfl rfl (fun _ => rfl) hh.1 ?_
  intro b5 w5 hl5 hx5 B5
  replace B1 := B1.ext hx5
  replace B2 := B2.ext hx5
  replace h := h.ext hx5
  replace hh := hh.ext hx5
  replace hx0 := hx0.trans hx5
  clear hx5
  (iterate 6 ((repeat with_reducible first|refine .nil ?_|refine .then_normal ?_|refine .block_normal ?_|refine .seq ?_|refine .block ?_|refine .skip ?_|refine .region ?_|refine .ret ?_|refine .then_ret ?_|refine .block_ret ?_|refine .exit ?_|refine .then_exit ?_|refine .block_exit ?_|refine .block_other rfl ?_); try refine .run TBok 99 rfl ?_))
  refine StL.step rfl rfl rfl (RunsTo.loadR rfl rfl (B1) (h.1)).op ?_
  rintro _ _ ⟨rfl, rfl⟩
  refine StL.step rfl rfl rfl (RunsTo.loadR rfl rfl (B5) (hh.1)).op ?_
  rintro _ _ ⟨rfl, rfl⟩
  refine StL.step rfl rfl rfl (OpR.rats2 rfl rfl h.1 hh.1) ?_
  rintro _ w6 ⟨rfl, B6, hx6⟩
  replace B2 := B2.ext hx6
  replace h := h.ext hx6
  replace hh := hh.ext hx6
  replace hx0 := hx0.trans hx6
  clear hx6
  refine StL.step rfl rfl rfl (OpR.call fn_rational_sum rfl (sum2_spec B6 h hh hq (by rw [rz_half]; decide))) ?_
  rintro s w7 ⟨hx7, hs⟩
  replace B2 := B2.ext hx7
  replace hx0 := hx0.trans hx7
  clear hx7
  have hrs := rz_add q (Rat.divInt 1 2)
  rw [rz_half] at hrs
  refine StL.step rfl rfl rfl (OpR.call fn_rational_Floor rfl (floorR_spec (hs.dn (by omega)))) ?_
  rintro f w8 ⟨hx8, hf⟩
  replace B2 := B2.ext hx8
  replace hx0 := hx0.trans hx8
  clear hx8
  refine StL.setCan rfl rfl B2 rfl hf hx0 (by omega) ?_
  intro w9 B9 hu9 hf' hx9
  (iterate 6 ((repeat with_reducible first|refine .nil ?_|refine .then_normal ?_|refine .block_normal ?_|refine .seq ?_|refine .block ?_|refine .skip ?_|refine .region ?_|refine .ret ?_|refine .then_ret ?_|refine .block_ret ?_|refine .exit ?_|refine .then_exit ?_|refine .block_exit ?_|refine .block_other rfl ?_); try refine .run TBok 99 rfl ?_))
  exact Out.retI rfl rfl B9 hf' ⟨hx9, hf'⟩

theorem den_one (q : Rat) : (cmpI (q.den : Int) 1 = 0) = (q.den = 1) := by
  unfold cmpI
  apply propext
  constructor
  · intro h
    split at h
    · omega
    · split at h <;> omega
  · intro h
    rw [h]; rfl

theorem isWholeR_spec {w : World} {x : Value} {q : Rat} (h : DnR w x q) :
    Calls Try.prog 56 #[x] w (Ret fun r w' => Ext w w' ∧ r = .bool (decide (q.den = 1))) := by
  have hz := h.rz
  have hzd := rz_den q
  refine calls_of_St (args := [_]) Try.func56 rfl Try.ntmps56 rfl ?_
  (repeat with_reducible first|refine .nil ?_|refine .then_normal ?_|refine .block_normal ?_|refine .seq ?_|refine .block ?_|refine .skip ?_|refine .region ?_|refine .ret ?_|refine .then_ret ?_|refine .block_ret ?_|refine .exit ?_|refine .then_exit ?_|refine .block_exit ?_|refine .block_other rfl ?_)
  refine StL.step rfl rfl rfl (OpR.box rfl) ?_
  rintro _ w1 ⟨rfl, B1, hx1, hz1⟩
  replace h := h.ext hx1
  (iterate 6 ((repeat with_reducible first|refine .nil ?_|refine .then_normal ?_|refine .block_normal ?_|refine .seq ?_|refine .block ?_|refine .skip ?_|refine .region ?_|refine .ret ?_|refine .then_ret ?_|refine .block_ret ?_|refine .exit ?_|refine .then_exit ?_|refine .block_exit ?_|refine .block_other rfl ?_); try refine .run TBok 99 rfl ?_))
  refine StL.step rfl rfl rfl (RunsTo.loadR rfl rfl (B1) (h.1)).op ?_
  rintro _ _ ⟨rfl, rfl⟩
  refine StL.step rfl rfl rfl (OpR.call fn_rational_canonical rfl (canonical_spec (base := 0) h (Nat.zero_le _))) ?_
  rintro v w3 ⟨hx3, hv⟩
  refine StL.step rfl rfl rfl (RunsTo.fieldD rfl rfl hv.1).op ?_
  rintro _ _ ⟨rfl, rfl⟩
  refine StL.step rfl rfl rfl (OpR.call fn_integer_Small rfl (small_spec w3 1 (by decide) (by decide))) ?_
  rintro u w4 ⟨hx4, hu⟩
  refine StL.step rfl rfl rfl (OpR.call fn_integer_Cmp rfl (cmp_dn ((hv.2.2.ext hx4).dn (by omega)) (hu.dn (by decide +kernel)))) ?_
  rintro _ w5 ⟨hx5, rfl⟩
  refine StL.as TBok 1 (.bool (decide (q.den = 1))) rfl ?_ ?_
  · congr 1
    exact decide_eq_decide.2 (by rw [den_one])
  (iterate 6 ((repeat with_reducible first|refine .nil ?_|refine .then_normal ?_|refine .block_normal ?_|refine .seq ?_|refine .block ?_|refine .skip ?_|refine .region ?_|refine .ret ?_|refine .then_ret ?_|refine .block_ret ?_|refine .exit ?_|refine .then_exit ?_|refine .block_exit ?_|refine .block_other rfl ?_); try refine .run TBok 99 rfl ?_))
  exact Out.ret1 rfl rfl ⟨((hx1.trans hx3).trans hx4).trans hx5, rfl⟩

/-- Two variables that lie ready, filled. -/
theorem StL.twoR {n : Nat} {E : List (Nat × Value)} {w w0 : World} {ops : Array Oper} {rest : List Oper} {Q : Exit → Act → World → Prop} {ty1 ty2 e : TypeId} {p1 p2 : String} {a1 a2 : Array Edge} {b1 b2 d1 d2 s1 s2 c1 c2 : Nat} {C1 C2 : List Value} {u v : Value} {p q : Rat}
    (hT : RT e = true) (ht1 : look E d1 = some (.pointer (some ⟨b1, 0, none⟩))) (ht2 : look E d2 = some (.pointer (some ⟨b2, 0, none⟩))) (hs1 : look E s1 = some u) (hs2 : look E s2 = some v) (hne : b1 ≠ b2)
    (B1 : Blk e w b1 C1) (hl1 : C1.length = 4) (B2 : Blk e w b2 C2) (hl2 : C2.length = 4) (hx : Ext w0 w) (hg1 : w0.heap.size ≤ b1) (hg2 : w0.heap.size ≤ b2) (hu : CanR c1 w u p) (hv : CanR c2 w v q)
    (next : ∀ w', Ext w0 w' → Blk e w' b1 u.cells.toList → Blk e w' b2 v.cells.toList → CanR c1 w' u p → CanR c2 w' v q → StL Try.prog n E w' ops rest Q) :
    StL Try.prog n E w ops (⟨none, .store e (.tmp d1) (.tmp s1), ty1, p1, a1, none⟩ :: ⟨none, .store e (.tmp d2) (.tmp s2), ty2, p2, a2, none⟩ :: rest) Q := by
  obtain ⟨ti, _, _, _, _, hn⟩ := RT.look hT
  refine StL.setR hT ht1 hs1 hu.1 B1 hl1 hx hg1 ?_
  intro w7 B1' hu7 hx7
  have B2' := B2.upd hu7 (fun e => hne e.symm)
  refine StL.setR hT ht2 hs2 hv.1 B2' hl2 hx7 hg2 ?_
  intro w8 B2'' hu8 hx8
  exact next w8 hx8 (B1'.upd hu8 hne) B2'' ((hu.upd hu7 B1 hn).upd hu8 B2' hn) ((hv.upd hu7 B1 hn).upd hu8 B2' hn)

theorem cmp_signs {p q : Rat} : (signI p.num < signI q.num → cmpR p q = -1) ∧ (signI q.num < signI p.num → cmpR p q = 1) := by
  have e1 : ∀ r : Rat, signI r.num < 0 → r < 0 := fun r h => (num_lt0 r).1 (by unfold signI at h; split at h <;> first | assumption | (split at h <;> omega))
  have e2 : ∀ r : Rat, 0 < signI r.num → 0 < r := fun r h => by
    have : 0 < r.num := by unfold signI at h; split at h <;> first | omega | (split at h <;> omega)
    rw [Rat.lt_iff]; simpa using this
  have e3 : ∀ r : Rat, signI r.num ≤ 0 → r ≤ 0 := fun r h => by
    have : r.num ≤ 0 := by unfold signI at h; split at h <;> first | omega | (split at h <;> omega)
    rw [Rat.le_iff]; simpa using this
  have e4 : ∀ r : Rat, 0 ≤ signI r.num → 0 ≤ r := fun r h => by
    have : 0 ≤ r.num := by unfold signI at h; split at h <;> first | omega | (split at h <;> omega)
    exact Rat.num_nonneg.1 this
  have lt_of : ∀ r s : Rat, signI r.num < signI s.num → r < s := by
    intro r s h
    rcases Int.lt_or_le (signI r.num) 0 with h1 | h1
    · have hr := e1 r h1
      rcases Int.lt_or_le (signI s.num) 0 with h2 | h2
      · have := signI_bound r.num
        omega
      · exact Rat.not_le.1 fun hc => Rat.not_le.2 hr (Rat.le_trans (e4 s h2) hc)
    · have hs := e2 s (by omega)
      have hr := e3 r (by have := signI_bound s.num; omega)
      exact Rat.not_le.1 fun hc => Rat.not_le.2 hs (Rat.le_trans hc hr)
  constructor
  · intro h
    unfold cmpR
    rw [if_pos (lt_of p q h)]
  · intro h
    have := lt_of q p h
    unfold cmpR
    rw [if_neg (Rat.not_lt.2 (Rat.le_of_lt this)), if_pos this]

set_option maxHeartbeats 400000 in
theorem cmpR_spec {w : World} {x y : Value} {p q : Rat} (h : DnR w x p) (k : DnR w y q) (hp : rz p ≤ 100000) (hq : rz q ≤ 100000) :
    Calls Try.prog 55 #[x, y] w (Ret fun r w' => Ext w w' ∧ r = .int .i64 (cmpR p q)) := by
  have h1 := rz_num p
  have h2 := rz_den p
  have h3 := rz_num q
  have h4 := rz_den q
  have m1 := sz_mul p.num (q.den : Int)
  have m2 := sz_mul q.num (p.den : Int)
  refine calls_of_St (args := [_, _]) Try.func55 rfl Try.ntmps55 rfl ?_
  (repeat with_reducible first|refine .nil ?_|refine .then_normal ?_|refine .block_normal ?_|refine .seq ?_|refine .block ?_|refine .skip ?_|refine .region ?_|refine .ret ?_|refine .then_ret ?_|refine .block_ret ?_|refine .exit ?_|refine .then_exit ?_|refine .block_exit ?_|refine .block_other rfl ?_)
  refine StL.step rfl rfl rfl (OpR.box rfl) ?_
  rintro _ w1 ⟨rfl, B1, hx1, hz1⟩
  refine StL.step rfl rfl rfl (OpR.box rfl) ?_
  rintro _ w2 ⟨rfl, B2, hx2, hz2⟩
  have hx0 : Ext w w2 := hx1.trans hx2
  replace B1 := B1.ext hx2
  replace h := h.ext hx0
  replace k := k.ext hx0
  clear hx1 hx2
  (iterate 6 ((repeat with_reducible first|refine .nil ?_|refine .then_normal ?_|refine .block_normal ?_|refine .seq ?_|refine .block ?_|refine .skip ?_|refine .region ?_|refine .ret ?_|refine .then_ret ?_|refine .block_ret ?_|refine .exit ?_|refine .then_exit ?_|refine .block_exit ?_|refine .block_other rfl ?_); try refine .run TBok 99 rfl ?_))
  refine St.flow 6 TBfol (by kernel_rfl) rfl (by kernel_rfl) rfl True.intro ?_
  refine FL.one (L := []) rfl rfl rfl rfl rfl (fun _ hR => RunsTo.loadR rfl rfl (hR.blk (B1) (by simp)) (h.1)) ?_
  refine FL.callE fn_rational_canonical rfl rfl rfl (fun w4 hx4 => CallF.mk rfl (canonical_spec (base := 0) (h.ext hx4) (Nat.zero_le _))) (MonoR.canR 0 _) ?_
  refine FL.one (L := []) rfl rfl rfl rfl rfl (fun _ hR => RunsTo.loadR rfl rfl (hR.blk (B2) (by simp)) (k.1)) ?_
  refine FL.callE fn_rational_canonical rfl rfl rfl (fun w4 hx4 => CallF.mk rfl (canonical_spec (base := 0) (k.ext hx4) (Nat.zero_le _))) (MonoR.canR 0 _) ?_
  refine FL.alloc TBok rfl rfl rfl rfl ?_
  refine FL.alloc TBok rfl rfl rfl rfl ?_
  refine FL.endE rfl ?_
  rintro w4 hx4 _ ⟨b7, C7, rfl, hg7, B7, hl7⟩ _ ⟨b6, C6, rfl, hg6, B6, hl6⟩ v hv u hu _ hdist
  refine StL.twoR rfl rfl rfl rfl rfl (fun e => hdist 6 (by decide) 7 (by decide) (by decide) _ rfl (by rw [e]; rfl)) B6 hl6 B7 hl7 hx4 hg6 hg7 hu hv ?_
  intro w8 hx8 B5' B6' hu hv
  replace hx0 := hx0.trans hx8
  clear hx8 hx4 B6 B7 hdist
  (iterate 6 ((repeat with_reducible first|refine .nil ?_|refine .then_normal ?_|refine .block_normal ?_|refine .seq ?_|refine .block ?_|refine .skip ?_|refine .region ?_|refine .ret ?_|refine .then_ret ?_|refine .block_ret ?_|refine .exit ?_|refine .then_exit ?_|refine .block_exit ?_|refine .block_other rfl ?_); try refine .run TBok 99 rfl ?_))
  refine St.flow 5 TBfol (by kernel_rfl) rfl (by kernel_rfl) rfl True.intro ?_
  refine FL.run TBok 99 rfl ?_
  refine FL.one (L := []) rfl rfl rfl rfl rfl (fun _ hR => RunsTo.loadR rfl rfl (hR.blk (B5') (by simp)) (hu.1)) ?_
  refine FL.fact (L := []) (ψ := fun r _ => r = .int .i64 (signI p.num)) rfl rfl rfl rfl rfl (fun w9 hR => OpR.callT fn_rational_fraction_sign rfl rfl (fsign_spec (hu.ext hR.ext_nil) (by omega))) (fun _ _ _ _ h => h) ?_
  refine FL.run TBok 99 rfl ?_
  refine FL.one (L := []) rfl rfl rfl rfl rfl (fun _ hR => RunsTo.loadR rfl rfl (hR.blk (B6') (by simp)) (hv.1)) ?_
  refine FL.endE rfl ?_
  rintro w9 hx9 _ rfl _ _
  replace B5' := B5'.ext hx9
  replace B6' := B6'.ext hx9
  replace hu := hu.ext hx9
  replace hv := hv.ext hx9
  replace hx0 := hx0.trans hx9
  clear hx9
  refine StL.step rfl rfl rfl (OpR.callT fn_rational_fraction_sign rfl rfl (fsign_spec hv (by omega))) ?_
  rintro _ w10 ⟨hx10, rfl⟩
  replace B5' := B5'.ext hx10
  replace B6' := B6'.ext hx10
  replace hu := hu.ext hx10
  replace hv := hv.ext hx10
  replace hx0 := hx0.trans hx10
  clear hx10
  refine .run TBok 99 rfl ?_
  (repeat with_reducible first|refine .nil ?_|refine .then_normal ?_|refine .block_normal ?_|refine .seq ?_|refine .block ?_|refine .skip ?_|refine .region ?_|refine .ret ?_|refine .then_ret ?_|refine .block_ret ?_|refine .exit ?_|refine .then_exit ?_|refine .block_exit ?_|refine .block_other rfl ?_)
  by_cases c1 : signI p.num < signI q.num
  · refine StL.as TBok 3 (.bool true) rfl (bool_true c1) ?_
    (iterate 6 ((repeat with_reducible first|refine .nil ?_|refine .then_normal ?_|refine .block_normal ?_|refine .seq ?_|refine .block ?_|refine .skip ?_|refine .region ?_|refine .ret ?_|refine .then_ret ?_|refine .block_ret ?_|refine .exit ?_|refine .then_exit ?_|refine .block_exit ?_|refine .block_other rfl ?_); try refine .run TBok 99 rfl ?_))
    refine St.condT rfl rfl ?_
    (iterate 6 ((repeat with_reducible first|refine .nil ?_|refine .then_normal ?_|refine .block_normal ?_|refine .seq ?_|refine .block ?_|refine .skip ?_|refine .region ?_|refine .ret ?_|refine .then_ret ?_|refine .block_ret ?_|refine .exit ?_|refine .then_exit ?_|refine .block_exit ?_|refine .block_other rfl ?_); try refine .run TBok 99 rfl ?_))
    exact Out.ret1 rfl rfl ⟨hx0, by rw [cmp_signs.1 c1]⟩
  refine StL.as TBok 3 (.bool false) rfl (bool_false c1) ?_
  (iterate 6 ((repeat with_reducible first|refine .nil ?_|refine .then_normal ?_|refine .block_normal ?_|refine .seq ?_|refine .block ?_|refine .skip ?_|refine .region ?_|refine .ret ?_|refine .then_ret ?_|refine .block_ret ?_|refine .exit ?_|refine .then_exit ?_|refine .block_exit ?_|refine .block_other rfl ?_); try refine .run TBok 99 rfl ?_))
  refine St.condF rfl rfl ?_
  (repeat with_reducible first|refine .nil ?_|refine .then_normal ?_|refine .block_normal ?_|refine .seq ?_|refine .block ?_|refine .skip ?_|refine .region ?_|refine .ret ?_|refine .then_ret ?_|refine .block_ret ?_|refine .exit ?_|refine .then_exit ?_|refine .block_exit ?_|refine .block_other rfl ?_)
  by_cases c2 : signI q.num < signI p.num
  · refine StL.as TBok 3 (.bool true) rfl (bool_true c2) ?_
    (iterate 6 ((repeat with_reducible first|refine .nil ?_|refine .then_normal ?_|refine .block_normal ?_|refine .seq ?_|refine .block ?_|refine .skip ?_|refine .region ?_|refine .ret ?_|refine .then_ret ?_|refine .block_ret ?_|refine .exit ?_|refine .then_exit ?_|refine .block_exit ?_|refine .block_other rfl ?_); try refine .run TBok 99 rfl ?_))
    refine St.condT rfl rfl ?_
    (iterate 6 ((repeat with_reducible first|refine .nil ?_|refine .then_normal ?_|refine .block_normal ?_|refine .seq ?_|refine .block ?_|refine .skip ?_|refine .region ?_|refine .ret ?_|refine .then_ret ?_|refine .block_ret ?_|refine .exit ?_|refine .then_exit ?_|refine .block_exit ?_|refine .block_other rfl ?_); try refine .run TBok 99 rfl ?_))
    exact Out.ret1 rfl rfl ⟨hx0, by rw [cmp_signs.2 c2]⟩
  refine StL.as TBok 3 (.bool false) rfl (bool_false c2) ?_
  (iterate 6 ((repeat with_reducible first|refine .nil ?_|refine .then_normal ?_|refine .block_normal ?_|refine .seq ?_|refine .block ?_|refine .skip ?_|refine .region ?_|refine .ret ?_|refine .then_ret ?_|refine .block_ret ?_|refine .exit ?_|refine .then_exit ?_|refine .block_exit ?_|refine .block_other rfl ?_); try refine .run TBok 99 rfl ?_))
  refine St.condF rfl rfl ?_
  (iterate 6 ((repeat with_reducible first|refine .nil ?_|refine .then_normal ?_|refine .block_normal ?_|refine .seq ?_|refine .block ?_|refine .skip ?_|refine .region ?_|refine .ret ?_|refine .then_ret ?_|refine .block_ret ?_|refine .exit ?_|refine .then_exit ?_|refine .block_exit ?_|refine .block_other rfl ?_); try refine .run TBok 99 rfl ?_))
  refine St.flow 9 TBfol (by kernel_rfl) rfl (by kernel_rfl) rfl True.intro ?_
  refine FL.run TBok 99 rfl ?_
  refine FL.one (L := []) rfl rfl rfl rfl rfl (fun _ hR => RunsTo.loadN rfl (hR.blk (B5') (by simp)) (hu.1)) ?_
  refine FL.run TBok 99 rfl ?_
  refine FL.one (L := []) rfl rfl rfl rfl rfl (fun _ hR => RunsTo.loadD rfl (hR.blk (B6') (by simp)) (hv.1)) ?_
  refine FL.callE fn_integer_Mul rfl rfl rfl (fun w11 hx11 => CallF.mk rfl (mul_dn ((hu.2.1.ext hx11).dn (by omega)) ((hv.2.2.ext hx11).dn (by omega)))) (MonoR.canO 0 _) ?_
  refine FL.run TBok 99 rfl ?_
  refine FL.one (L := []) rfl rfl rfl rfl rfl (fun _ hR => RunsTo.loadN rfl (hR.blk (B6') (by simp)) (hv.1)) ?_
  refine FL.run TBok 99 rfl ?_
  refine FL.one (L := []) rfl rfl rfl rfl rfl (fun _ hR => RunsTo.loadD rfl (hR.blk (B5') (by simp)) (hu.1)) ?_
  refine FL.endE rfl ?_
  intro w11 hx11 t32 h32 _ _
  replace hu := hu.ext hx11
  replace hv := hv.ext hx11
  replace hx0 := hx0.trans hx11
  clear hx11
  refine StL.step rfl rfl rfl (OpR.call fn_integer_Mul rfl (mul_dn (hv.2.1.dn (by omega)) (hu.2.2.dn (by omega)))) ?_
  rintro t37 w12 ⟨hx12, h37⟩
  replace h32 := h32.ext hx12
  replace hx0 := hx0.trans hx12
  clear hx12
  refine StL.step rfl rfl rfl (OpR.call fn_integer_Cmp rfl (cmp_dn (h32.dn (by omega)) (h37.dn (by omega)))) ?_
  rintro _ w13 ⟨hx13, rfl⟩
  rw [cmpR_cross]
  (iterate 6 ((repeat with_reducible first|refine .nil ?_|refine .then_normal ?_|refine .block_normal ?_|refine .seq ?_|refine .block ?_|refine .skip ?_|refine .region ?_|refine .ret ?_|refine .then_ret ?_|refine .block_ret ?_|refine .exit ?_|refine .then_exit ?_|refine .block_exit ?_|refine .block_other rfl ?_); try refine .run TBok 99 rfl ?_))
  exact Out.ret1 rfl rfl ⟨hx0.trans hx13, rfl⟩

end Go.Qf

/- rational.Parse, Format. -/
namespace Go.Qf
open Go Go.RowKit Go.Proofs
set_option maxRecDepth 20000

/-- What a text is read as: the error, and the number. -/
def rerr (s : List Nat) : Int :=
  if (pos s).isSome = true then
    (if perr (cutA s) = 2 ∨ perr (cutB s) = 2 ∨ isNeg (cutB s) = true then 2 else if perr (cutA s) ≠ 0 ∨ perr (cutB s) ≠ 0 then 7 else if pval (cutB s) ≤ 1 ∨ Nat.gcd (pval (cutA s)).natAbs (pval (cutB s)).natAbs ≠ 1 then 1 else 0)
  else perr (cutA s)
def rval (s : List Nat) : Rat := if (pos s).isSome = true then Rat.divInt (pval (cutA s)) (pval (cutB s)) else (pval (cutA s) : Rat)
def RParseV (w : World) (r : Value) (s : List Nat) : Prop := ∃ v, r = .tuple #[v, .int .i64 (rerr s)] ∧ R4 v ∧ (rerr s ≠ 0 → v = zR) ∧ (rerr s = 0 → CanR 0 w v (rval s))

theorem rerr_no {s : List Nat} (h : (pos s).isSome = false) : rerr s = perr (cutA s) := by unfold rerr; rw [h]; rfl
theorem rval_no {s : List Nat} (h : (pos s).isSome = false) : rval s = (pval (cutA s) : Rat) := by unfold rval; rw [h]; rfl
theorem rval_yes {s : List Nat} (h : (pos s).isSome = true) : rval s = Rat.divInt (pval (cutA s)) (pval (cutB s)) := by unfold rval; rw [if_pos h]

theorem ne_true {a b : Int} (h : a ≠ b) : Value.bool (a != b) = .bool true := by
  rw [show (a != b) = true from by simpa using h]
theorem ne_false {a b : Int} (h : a = b) : Value.bool (a != b) = .bool false := by
  subst h
  rw [show (a != a) = false from by simp]

theorem cmpI_le (a b : Int) : (cmpI a b ≤ 0) = (a ≤ b) := by
  apply propext
  unfold cmpI
  constructor
  · intro h
    split at h
    · omega
    · split at h <;> omega
  · intro h
    split
    · omega
    · split <;> omega
theorem cmpI_zero (a b : Int) : (cmpI a b = 0) = (a = b) := by
  apply propext
  unfold cmpI
  constructor
  · intro h
    split at h
    · omega
    · split at h <;> omega
  · intro h
    split
    · omega
    · split <;> omega
theorem divInt_coprime {a b : Int} (hb : 1 < b) (hg : Nat.gcd a.natAbs b.natAbs = 1) : (Rat.divInt a b).num = a ∧ ((Rat.divInt a b).den : Int) = b := by
  rw [num_pos (by omega), den_pos' (by omega), hg]
  exact ⟨Int.ediv_one _, Int.ediv_one _⟩

set_option maxHeartbeats 1600000 in
theorem parseR_spec (w : World) (s : List Nat) (h : B8 s) (hlen : s.length ≤ 100000) : Calls Try.prog 42 #[strV s] w (Ret fun r w' => Ext w w' ∧ RParseV w' r s) := by
  have hzA := sz_pval (cutA s)
  have hzB := sz_pval (cutB s)
  have hlA := cutA_le s
  have hlB := cutB_le s
  refine calls_of_St (args := [_]) Try.func42 rfl Try.ntmps42 rfl ?_
  (repeat with_reducible first|refine .nil ?_|refine .then_normal ?_|refine .block_normal ?_|refine .seq ?_|refine .block ?_|refine .skip ?_|refine .region ?_|refine .ret ?_|refine .then_ret ?_|refine .block_ret ?_|refine .exit ?_|refine .then_exit ?_|refine .block_exit ?_|refine .block_other rfl ?_)
  refine StL.step rfl rfl rfl (OpR.alloc TBok rfl) ?_
  rintro _ w1 ⟨rfl, B2, hx0, hz1⟩
  (iterate 6 ((repeat with_reducible first|refine .nil ?_|refine .then_normal ?_|refine .block_normal ?_|refine .seq ?_|refine .block ?_|refine .skip ?_|refine .region ?_|refine .ret ?_|refine .then_ret ?_|refine .block_ret ?_|refine .exit ?_|refine .then_exit ?_|refine .block_exit ?_|refine .block_other rfl ?_); try refine .run TBok 99 rfl ?_))
  refine StL.step rfl rfl rfl (OpR.call fn_strings_Cut rfl (cut_spec w1 s h (by omega))) ?_
  rintro _ w2 ⟨hx2, rfl⟩
  replace B2 := B2.ext hx2
  replace hx0 := hx0.trans hx2
  clear hx2
  refine .run TBok 99 rfl ?_
  (repeat with_reducible first|refine .nil ?_|refine .then_normal ?_|refine .block_normal ?_|refine .seq ?_|refine .block ?_|refine .skip ?_|refine .region ?_|refine .ret ?_|refine .then_ret ?_|refine .block_ret ?_|refine .exit ?_|refine .then_exit ?_|refine .block_exit ?_|refine .block_other rfl ?_)
  refine .run TBok 99 rfl ?_
  refine StL.step rfl rfl rfl (OpR.call fn_integer_Parse rfl (parse_spec w2 (cutA s) h.cutA (by omega))) ?_
  rintro _ w3 ⟨hx3, v7, rfl, h7⟩
  replace B2 := B2.ext hx3
  replace hx0 := hx0.trans hx3
  clear hx3
  refine .run TBok 99 rfl ?_
  refine StL.setNew rfl (fun _ => rfl) h7 hx0 ?_
  intro b7 w4 hl7 hx4 B7 h7' hx04
  replace B2 := B2.ext hx4
  clear hx4
  clear h7 hx0
  cases hb : (pos s).isSome with
  | false =>
    have hre := rerr_no hb
    (iterate 6 ((repeat with_reducible first|refine .nil ?_|refine .then_normal ?_|refine .block_normal ?_|refine .seq ?_|refine .block ?_|refine .skip ?_|refine .region ?_|refine .ret ?_|refine .then_ret ?_|refine .block_ret ?_|refine .exit ?_|refine .then_exit ?_|refine .block_exit ?_|refine .block_other rfl ?_); try refine .run TBok 99 rfl ?_))
    refine St.condT rfl rfl ?_
    (repeat with_reducible first|refine .nil ?_|refine .then_normal ?_|refine .block_normal ?_|refine .seq ?_|refine .block ?_|refine .skip ?_|refine .region ?_|refine .ret ?_|refine .then_ret ?_|refine .block_ret ?_|refine .exit ?_|refine .then_exit ?_|refine .block_exit ?_|refine .block_other rfl ?_)
    by_cases e0 : perr (cutA s) = 0
    · refine StL.as TBok 2 (.bool false) rfl (ne_false e0) ?_
      (iterate 6 ((repeat with_reducible first|refine .nil ?_|refine .then_normal ?_|refine .block_normal ?_|refine .seq ?_|refine .block ?_|refine .skip ?_|refine .region ?_|refine .ret ?_|refine .then_ret ?_|refine .block_ret ?_|refine .exit ?_|refine .then_exit ?_|refine .block_exit ?_|refine .block_other rfl ?_); try refine .run TBok 99 rfl ?_))
      refine St.condF rfl rfl ?_
      (iterate 6 ((repeat with_reducible first|refine .nil ?_|refine .then_normal ?_|refine .block_normal ?_|refine .seq ?_|refine .block ?_|refine .skip ?_|refine .region ?_|refine .ret ?_|refine .then_ret ?_|refine .block_ret ?_|refine .exit ?_|refine .then_exit ?_|refine .block_exit ?_|refine .block_other rfl ?_); try refine .run TBok 99 rfl ?_))
      refine StL.step rfl rfl rfl (RunsTo.loadI2 rfl (B7) (h7'.r2)).op ?_
      rintro _ _ ⟨rfl, rfl⟩
      refine StL.step rfl rfl rfl (OpR.call fn_rational_Whole rfl (whole_spec (base := 0) (h7'.dn (by omega)) (Nat.zero_le _))) ?_
      rintro v w5 ⟨hx5, hv⟩
      refine StL.setR rfl rfl rfl hv.1 (B2.ext hx5) rfl (hx04.trans hx5) (by omega) ?_
      intro w6 B6 hu6 hx6
      (iterate 6 ((repeat with_reducible first|refine .nil ?_|refine .then_normal ?_|refine .block_normal ?_|refine .seq ?_|refine .block ?_|refine .skip ?_|refine .region ?_|refine .ret ?_|refine .then_ret ?_|refine .block_ret ?_|refine .exit ?_|refine .then_exit ?_|refine .block_exit ?_|refine .block_other rfl ?_); try refine .run TBok 99 rfl ?_))
      refine Out.retRT rfl rfl rfl B6 hv.1 ⟨hx6, v, by rw [hre, e0]; first | done | rfl, hv.1, fun e => absurd (hre.trans e0) e, fun _ => ?_⟩
      rw [rval_no hb]
      exact hv.upd hu6 (B2.ext hx5) (by decide)
    · refine StL.as TBok 2 (.bool true) rfl (ne_true e0) ?_
      (iterate 6 ((repeat with_reducible first|refine .nil ?_|refine .then_normal ?_|refine .block_normal ?_|refine .seq ?_|refine .block ?_|refine .skip ?_|refine .region ?_|refine .ret ?_|refine .then_ret ?_|refine .block_ret ?_|refine .exit ?_|refine .then_exit ?_|refine .block_exit ?_|refine .block_other rfl ?_); try refine .run TBok 99 rfl ?_))
      refine St.condT rfl rfl ?_
      (iterate 6 ((repeat with_reducible first|refine .nil ?_|refine .then_normal ?_|refine .block_normal ?_|refine .seq ?_|refine .block ?_|refine .skip ?_|refine .region ?_|refine .ret ?_|refine .then_ret ?_|refine .block_ret ?_|refine .exit ?_|refine .then_exit ?_|refine .block_exit ?_|refine .block_other rfl ?_); try refine .run TBok 99 rfl ?_))
      refine StL.step rfl rfl rfl (RunsTo.build TBok rfl rfl rfl rfl).op ?_
      rintro _ _ ⟨rfl, rfl⟩
      refine .run TBok 99 rfl ?_
      refine StL.setR (v := zR) rfl rfl rfl zR_R4 B2 rfl hx04 (by omega) ?_
      intro w6 B6 hu6 hx6
      (iterate 6 ((repeat with_reducible first|refine .nil ?_|refine .then_normal ?_|refine .block_normal ?_|refine .seq ?_|refine .block ?_|refine .skip ?_|refine .region ?_|refine .ret ?_|refine .then_ret ?_|refine .block_ret ?_|refine .exit ?_|refine .then_exit ?_|refine .block_exit ?_|refine .block_other rfl ?_); try refine .run TBok 99 rfl ?_))
      exact Out.retRT rfl rfl rfl B6 zR_R4 ⟨hx6, zR, by rw [hre]; first | done | rfl, zR_R4, fun _ => rfl, fun e => absurd (hre.symm.trans e) e0⟩
  | true =>
    have hre : rerr s = _ := if_pos hb
    (iterate 6 ((repeat with_reducible first|refine .nil ?_|refine .then_normal ?_|refine .block_normal ?_|refine .seq ?_|refine .block ?_|refine .skip ?_|refine .region ?_|refine .ret ?_|refine .then_ret ?_|refine .block_ret ?_|refine .exit ?_|refine .then_exit ?_|refine .block_exit ?_|refine .block_other rfl ?_); try refine .run TBok 99 rfl ?_))
    refine St.condF rfl rfl ?_
    (iterate 6 ((repeat with_reducible first|refine .nil ?_|refine .then_normal ?_|refine .block_normal ?_|refine .seq ?_|refine .block ?_|refine .skip ?_|refine .region ?_|refine .ret ?_|refine .then_ret ?_|refine .block_ret ?_|refine .exit ?_|refine .then_exit ?_|refine .block_exit ?_|refine .block_other rfl ?_); try refine .run TBok 99 rfl ?_))
    refine StL.step rfl rfl rfl (OpR.call fn_integer_Parse rfl (parse_spec w4 (cutB s) h.cutB (by omega))) ?_
    rintro _ w5 ⟨hx5, v9, rfl, h9⟩
    replace B2 := B2.ext hx5
    replace B7 := B7.ext hx5
    replace h7' := h7'.ext hx5
    replace hx04 := hx04.trans hx5
    clear hx5
    refine .run TBok 99 rfl ?_
    refine StL.setNew rfl (fun _ => rfl) h9 hx04 ?_
    intro b9 w6 hl9 hx6 B9 h9' hx06
    replace B2 := B2.ext hx6
    replace B7 := B7.ext hx6
    replace h7' := h7'.ext hx6
    clear hx6
    clear h9 hx04
    (iterate 6 ((repeat with_reducible first|refine .nil ?_|refine .then_normal ?_|refine .block_normal ?_|refine .seq ?_|refine .block ?_|refine .skip ?_|refine .region ?_|refine .ret ?_|refine .then_ret ?_|refine .block_ret ?_|refine .exit ?_|refine .then_exit ?_|refine .block_exit ?_|refine .block_other rfl ?_); try refine .run TBok 99 rfl ?_))
    refine StL.step rfl rfl rfl (OpR.call fn_integer_Small rfl (small_spec w6 1 (by decide) (by decide))) ?_
    rintro v11 w7 ⟨hx7, h11⟩
    replace B2 := B2.ext hx7
    replace B7 := B7.ext hx7
    replace B9 := B9.ext hx7
    replace h7' := h7'.ext hx7
    replace h9' := h9'.ext hx7
    replace hx06 := hx06.trans hx7
    clear hx7
    refine StL.setNew rfl (fun _ => rfl) h11 hx06 ?_
    intro b11 w8 hl11 hx8 B11 h11' hx08
    replace B2 := B2.ext hx8
    replace B7 := B7.ext hx8
    replace B9 := B9.ext hx8
    replace h7' := h7'.ext hx8
    replace h9' := h9'.ext hx8
    clear hx8
    clear h11 hx06
    (repeat with_reducible first|refine .nil ?_|refine .then_normal ?_|refine .block_normal ?_|refine .seq ?_|refine .block ?_|refine .skip ?_|refine .region ?_|refine .ret ?_|refine .then_ret ?_|refine .block_ret ?_|refine .exit ?_|refine .then_exit ?_|refine .block_exit ?_|refine .block_other rfl ?_)
    by_cases c1 : perr (cutA s) = 2
    · rw [if_pos (.inl c1)] at hre
      refine StL.as TBok 2 (.bool true) rfl (bool_true c1) ?_
      (iterate 6 ((repeat with_reducible first|refine .nil ?_|refine .then_normal ?_|refine .block_normal ?_|refine .seq ?_|refine .block ?_|refine .skip ?_|refine .region ?_|refine .ret ?_|refine .then_ret ?_|refine .block_ret ?_|refine .exit ?_|refine .then_exit ?_|refine .block_exit ?_|refine .block_other rfl ?_); try refine .run TBok 99 rfl ?_))
      refine St.condT rfl rfl ?_
      (repeat with_reducible first|refine .nil ?_|refine .then_normal ?_|refine .block_normal ?_|refine .seq ?_|refine .block ?_|refine .skip ?_|refine .region ?_|refine .ret ?_|refine .then_ret ?_|refine .block_ret ?_|refine .exit ?_|refine .then_exit ?_|refine .block_exit ?_|refine .block_other rfl ?_)
      refine St.condT rfl rfl ?_
      (iterate 6 ((repeat with_reducible first|refine .nil ?_|refine .then_normal ?_|refine .block_normal ?_|refine .seq ?_|refine .block ?_|refine .skip ?_|refine .region ?_|refine .ret ?_|refine .then_ret ?_|refine .block_ret ?_|refine .exit ?_|refine .then_exit ?_|refine .block_exit ?_|refine .block_other rfl ?_); try refine .run TBok 99 rfl ?_))
      refine StL.step rfl rfl rfl (RunsTo.build TBok rfl rfl rfl rfl).op ?_
      rintro _ _ ⟨rfl, rfl⟩
      refine StL.setR (v := zR) rfl rfl rfl zR_R4 B2 rfl hx08 (by omega) ?_
      intro w9 B6 hu6 hx6
      (iterate 6 ((repeat with_reducible first|refine .nil ?_|refine .then_normal ?_|refine .block_normal ?_|refine .seq ?_|refine .block ?_|refine .skip ?_|refine .region ?_|refine .ret ?_|refine .then_ret ?_|refine .block_ret ?_|refine .exit ?_|refine .then_exit ?_|refine .block_exit ?_|refine .block_other rfl ?_); try refine .run TBok 99 rfl ?_))
      exact Out.retRT rfl rfl rfl B6 zR_R4 ⟨hx6, zR, by rw [hre]; first | done | rfl, zR_R4, fun _ => rfl, fun e => by rw [hre] at e; cases e⟩
    refine StL.as TBok 2 (.bool false) rfl (bool_false c1) ?_
    (iterate 6 ((repeat with_reducible first|refine .nil ?_|refine .then_normal ?_|refine .block_normal ?_|refine .seq ?_|refine .block ?_|refine .skip ?_|refine .region ?_|refine .ret ?_|refine .then_ret ?_|refine .block_ret ?_|refine .exit ?_|refine .then_exit ?_|refine .block_exit ?_|refine .block_other rfl ?_); try refine .run TBok 99 rfl ?_))
    refine St.condF rfl rfl ?_
    (repeat with_reducible first|refine .nil ?_|refine .then_normal ?_|refine .block_normal ?_|refine .seq ?_|refine .block ?_|refine .skip ?_|refine .region ?_|refine .ret ?_|refine .then_ret ?_|refine .block_ret ?_|refine .exit ?_|refine .then_exit ?_|refine .block_exit ?_|refine .block_other rfl ?_)
    by_cases c2 : perr (cutB s) = 2
    · rw [if_pos (.inr (.inl c2))] at hre
      refine StL.as TBok 2 (.bool true) rfl (bool_true c2) ?_
      (iterate 6 ((repeat with_reducible first|refine .nil ?_|refine .then_normal ?_|refine .block_normal ?_|refine .seq ?_|refine .block ?_|refine .skip ?_|refine .region ?_|refine .ret ?_|refine .then_ret ?_|refine .block_ret ?_|refine .exit ?_|refine .then_exit ?_|refine .block_exit ?_|refine .block_other rfl ?_); try refine .run TBok 99 rfl ?_))
      refine St.condT rfl rfl ?_
      (repeat with_reducible first|refine .nil ?_|refine .then_normal ?_|refine .block_normal ?_|refine .seq ?_|refine .block ?_|refine .skip ?_|refine .region ?_|refine .ret ?_|refine .then_ret ?_|refine .block_ret ?_|refine .exit ?_|refine .then_exit ?_|refine .block_exit ?_|refine .block_other rfl ?_)
      refine St.condT rfl rfl ?_
      (iterate 6 ((repeat with_reducible first|refine .nil ?_|refine .then_normal ?_|refine .block_normal ?_|refine .seq ?_|refine .block ?_|refine .skip ?_|refine .region ?_|refine .ret ?_|refine .then_ret ?_|refine .block_ret ?_|refine .exit ?_|refine .then_exit ?_|refine .block_exit ?_|refine .block_other rfl ?_); try refine .run TBok 99 rfl ?_))
      refine StL.step rfl rfl rfl (RunsTo.build TBok rfl rfl rfl rfl).op ?_
      rintro _ _ ⟨rfl, rfl⟩
      refine StL.setR (v := zR) rfl rfl rfl zR_R4 B2 rfl hx08 (by omega) ?_
      intro w9 B6 hu6 hx6
      (iterate 6 ((repeat with_reducible first|refine .nil ?_|refine .then_normal ?_|refine .block_normal ?_|refine .seq ?_|refine .block ?_|refine .skip ?_|refine .region ?_|refine .ret ?_|refine .then_ret ?_|refine .block_ret ?_|refine .exit ?_|refine .then_exit ?_|refine .block_exit ?_|refine .block_other rfl ?_); try refine .run TBok 99 rfl ?_))
      exact Out.retRT rfl rfl rfl B6 zR_R4 ⟨hx6, zR, by rw [hre]; first | done | rfl, zR_R4, fun _ => rfl, fun e => by rw [hre] at e; cases e⟩
    refine StL.as TBok 2 (.bool false) rfl (bool_false c2) ?_
    (iterate 6 ((repeat with_reducible first|refine .nil ?_|refine .then_normal ?_|refine .block_normal ?_|refine .seq ?_|refine .block ?_|refine .skip ?_|refine .region ?_|refine .ret ?_|refine .then_ret ?_|refine .block_ret ?_|refine .exit ?_|refine .then_exit ?_|refine .block_exit ?_|refine .block_other rfl ?_); try refine .run TBok 99 rfl ?_))
    refine St.condF rfl rfl ?_
    (iterate 6 ((repeat with_reducible first|refine .nil ?_|refine .then_normal ?_|refine .block_normal ?_|refine .seq ?_|refine .block ?_|refine .skip ?_|refine .region ?_|refine .ret ?_|refine .then_ret ?_|refine .block_ret ?_|refine .exit ?_|refine .then_exit ?_|refine .block_exit ?_|refine .block_other rfl ?_); try refine .run TBok 99 rfl ?_))
    refine StL.step rfl rfl rfl (OpR.call fn_strings_HasPrefix rfl (hasP_spec w8 (cutB s) h.cutB)) ?_
    rintro _ w9 ⟨hx9, rfl⟩
    replace B2 := B2.ext hx9
    replace B7 := B7.ext hx9
    replace B9 := B9.ext hx9
    replace B11 := B11.ext hx9
    replace h7' := h7'.ext hx9
    replace h9' := h9'.ext hx9
    replace h11' := h11'.ext hx9
    replace hx08 := hx08.trans hx9
    clear hx9
    cases c3 : isNeg (cutB s) with
    | true =>
      rw [if_pos (.inr (.inr c3))] at hre
      (iterate 6 ((repeat with_reducible first|refine .nil ?_|refine .then_normal ?_|refine .block_normal ?_|refine .seq ?_|refine .block ?_|refine .skip ?_|refine .region ?_|refine .ret ?_|refine .then_ret ?_|refine .block_ret ?_|refine .exit ?_|refine .then_exit ?_|refine .block_exit ?_|refine .block_other rfl ?_); try refine .run TBok 99 rfl ?_))
      refine St.condT rfl rfl ?_
      (iterate 6 ((repeat with_reducible first|refine .nil ?_|refine .then_normal ?_|refine .block_normal ?_|refine .seq ?_|refine .block ?_|refine .skip ?_|refine .region ?_|refine .ret ?_|refine .then_ret ?_|refine .block_ret ?_|refine .exit ?_|refine .then_exit ?_|refine .block_exit ?_|refine .block_other rfl ?_); try refine .run TBok 99 rfl ?_))
      refine StL.step rfl rfl rfl (RunsTo.build TBok rfl rfl rfl rfl).op ?_
      rintro _ _ ⟨rfl, rfl⟩
      refine StL.setR (v := zR) rfl rfl rfl zR_R4 B2 rfl hx08 (by omega) ?_
      intro w9 B6 hu6 hx6
      (iterate 6 ((repeat with_reducible first|refine .nil ?_|refine .then_normal ?_|refine .block_normal ?_|refine .seq ?_|refine .block ?_|refine .skip ?_|refine .region ?_|refine .ret ?_|refine .then_ret ?_|refine .block_ret ?_|refine .exit ?_|refine .then_exit ?_|refine .block_exit ?_|refine .block_other rfl ?_); try refine .run TBok 99 rfl ?_))
      exact Out.retRT rfl rfl rfl B6 zR_R4 ⟨hx6, zR, by rw [hre]; first | done | rfl, zR_R4, fun _ => rfl, fun e => by rw [hre] at e; cases e⟩
    | false =>
      rw [if_neg (fun e => e.elim c1 fun e => e.elim c2 fun e => by rw [c3] at e; cases e)] at hre
      (iterate 6 ((repeat with_reducible first|refine .nil ?_|refine .then_normal ?_|refine .block_normal ?_|refine .seq ?_|refine .block ?_|refine .skip ?_|refine .region ?_|refine .ret ?_|refine .then_ret ?_|refine .block_ret ?_|refine .exit ?_|refine .then_exit ?_|refine .block_exit ?_|refine .block_other rfl ?_); try refine .run TBok 99 rfl ?_))
      refine St.condF rfl rfl ?_
      (repeat with_reducible first|refine .nil ?_|refine .then_normal ?_|refine .block_normal ?_|refine .seq ?_|refine .block ?_|refine .skip ?_|refine .region ?_|refine .ret ?_|refine .then_ret ?_|refine .block_ret ?_|refine .exit ?_|refine .then_exit ?_|refine .block_exit ?_|refine .block_other rfl ?_)
      by_cases c4 : perr (cutA s) = 0
      · refine StL.as TBok 2 (.bool false) rfl (ne_false c4) ?_
        (iterate 6 ((repeat with_reducible first|refine .nil ?_|refine .then_normal ?_|refine .block_normal ?_|refine .seq ?_|refine .block ?_|refine .skip ?_|refine .region ?_|refine .ret ?_|refine .then_ret ?_|refine .block_ret ?_|refine .exit ?_|refine .then_exit ?_|refine .block_exit ?_|refine .block_other rfl ?_); try refine .run TBok 99 rfl ?_))
        refine St.condF rfl rfl ?_
        (repeat with_reducible first|refine .nil ?_|refine .then_normal ?_|refine .block_normal ?_|refine .seq ?_|refine .block ?_|refine .skip ?_|refine .region ?_|refine .ret ?_|refine .then_ret ?_|refine .block_ret ?_|refine .exit ?_|refine .then_exit ?_|refine .block_exit ?_|refine .block_other rfl ?_)
        by_cases c5 : perr (cutB s) = 0
        · rw [if_neg (fun e => e.elim (fun e => e c4) (fun e => e c5))] at hre
          refine StL.as TBok 2 (.bool false) rfl (ne_false c5) ?_
          (iterate 6 ((repeat with_reducible first|refine .nil ?_|refine .then_normal ?_|refine .block_normal ?_|refine .seq ?_|refine .block ?_|refine .skip ?_|refine .region ?_|refine .ret ?_|refine .then_ret ?_|refine .block_ret ?_|refine .exit ?_|refine .then_exit ?_|refine .block_exit ?_|refine .block_other rfl ?_); try refine .run TBok 99 rfl ?_))
          refine St.condF rfl rfl ?_
          (iterate 6 ((repeat with_reducible first|refine .nil ?_|refine .then_normal ?_|refine .block_normal ?_|refine .seq ?_|refine .block ?_|refine .skip ?_|refine .region ?_|refine .ret ?_|refine .then_ret ?_|refine .block_ret ?_|refine .exit ?_|refine .then_exit ?_|refine .block_exit ?_|refine .block_other rfl ?_); try refine .run TBok 99 rfl ?_))
          refine StL.step rfl rfl rfl (RunsTo.loadI2 rfl (B9) (h9'.r2)).op ?_
          rintro _ _ ⟨rfl, rfl⟩
          refine StL.step rfl rfl rfl (RunsTo.loadI2 rfl (B11) (h11'.r2)).op ?_
          rintro _ _ ⟨rfl, rfl⟩
          refine StL.step rfl rfl rfl (OpR.call fn_integer_Cmp rfl (cmp_dn (h9'.dn (by omega)) (h11'.dn (by decide +kernel)))) ?_
          rintro _ w10 ⟨hx10, rfl⟩
          replace B2 := B2.ext hx10
          replace B7 := B7.ext hx10
          replace B9 := B9.ext hx10
          replace B11 := B11.ext hx10
          replace h7' := h7'.ext hx10
          replace h9' := h9'.ext hx10
          replace h11' := h11'.ext hx10
          replace hx08 := hx08.trans hx10
          clear hx10
          by_cases c6 : pval (cutB s) ≤ 1
          · rw [if_pos (.inl c6)] at hre
            refine StL.as TBok 1 (.bool true) rfl (bool_true (by rw [cmpI_le]; exact c6)) ?_
            (iterate 6 ((repeat with_reducible first|refine .nil ?_|refine .then_normal ?_|refine .block_normal ?_|refine .seq ?_|refine .block ?_|refine .skip ?_|refine .region ?_|refine .ret ?_|refine .then_ret ?_|refine .block_ret ?_|refine .exit ?_|refine .then_exit ?_|refine .block_exit ?_|refine .block_other rfl ?_); try refine .run TBok 99 rfl ?_))
            refine St.condT rfl rfl ?_
            (repeat with_reducible first|refine .nil ?_|refine .then_normal ?_|refine .block_normal ?_|refine .seq ?_|refine .block ?_|refine .skip ?_|refine .region ?_|refine .ret ?_|refine .then_ret ?_|refine .block_ret ?_|refine .exit ?_|refine .then_exit ?_|refine .block_exit ?_|refine .block_other rfl ?_)
            refine St.condT rfl rfl ?_
            (iterate 6 ((repeat with_reducible first|refine .nil ?_|refine .then_normal ?_|refine .block_normal ?_|refine .seq ?_|refine .block ?_|refine .skip ?_|refine .region ?_|refine .ret ?_|refine .then_ret ?_|refine .block_ret ?_|refine .exit ?_|refine .then_exit ?_|refine .block_exit ?_|refine .block_other rfl ?_); try refine .run TBok 99 rfl ?_))
            refine StL.step rfl rfl rfl (RunsTo.build TBok rfl rfl rfl rfl).op ?_
            rintro _ _ ⟨rfl, rfl⟩
            refine StL.setR (v := zR) rfl rfl rfl zR_R4 B2 rfl hx08 (by omega) ?_
            intro w9 B6 hu6 hx6
            (iterate 6 ((repeat with_reducible first|refine .nil ?_|refine .then_normal ?_|refine .block_normal ?_|refine .seq ?_|refine .block ?_|refine .skip ?_|refine .region ?_|refine .ret ?_|refine .then_ret ?_|refine .block_ret ?_|refine .exit ?_|refine .then_exit ?_|refine .block_exit ?_|refine .block_other rfl ?_); try refine .run TBok 99 rfl ?_))
            exact Out.retRT rfl rfl rfl B6 zR_R4 ⟨hx6, zR, by rw [hre]; first | done | rfl, zR_R4, fun _ => rfl, fun e => by rw [hre] at e; cases e⟩
          refine StL.as TBok 1 (.bool false) rfl (bool_false (by rw [cmpI_le]; exact c6)) ?_
          (iterate 6 ((repeat with_reducible first|refine .nil ?_|refine .then_normal ?_|refine .block_normal ?_|refine .seq ?_|refine .block ?_|refine .skip ?_|refine .region ?_|refine .ret ?_|refine .then_ret ?_|refine .block_ret ?_|refine .exit ?_|refine .then_exit ?_|refine .block_exit ?_|refine .block_other rfl ?_); try refine .run TBok 99 rfl ?_))
          refine St.condF rfl rfl ?_
          (repeat with_reducible first|refine .nil ?_|refine .then_normal ?_|refine .block_normal ?_|refine .seq ?_|refine .block ?_|refine .skip ?_|refine .region ?_|refine .ret ?_|refine .then_ret ?_|refine .block_ret ?_|refine .exit ?_|refine .then_exit ?_|refine .block_exit ?_|refine .block_other rfl ?_)
          refine St.sub (E' := [(2, .pointer (some ⟨w.heap.size, 0, none⟩)), (7, .pointer (some ⟨b7, 0, none⟩)), (9, .pointer (some ⟨b9, 0, none⟩)), (11, .pointer (some ⟨b11, 0, none⟩))]) ?_ ⟨rfl, rfl, rfl, rfl, trivial⟩
          refine St.flow 4 TBfol (by kernel_rfl) rfl (by kernel_rfl) rfl True.intro ?_
          refine FL.one (L := []) rfl rfl rfl rfl rfl (fun _ hR => RunsTo.loadI2 rfl (hR.blk (B7) (by simp)) (h7'.r2)) ?_
          refine FL.one (L := []) rfl rfl rfl rfl rfl (fun _ hR => RunsTo.loadI2 rfl (hR.blk (B9) (by simp)) (h9'.r2)) ?_
          refine FL.callE fn_integer_Gcd rfl rfl rfl (fun w11 hx11 => CallF.mk rfl (gcd_dn ((h7'.ext hx11).dn (by omega)) ((h9'.ext hx11).dn (by omega)))) (MonoR.canO 0 _) ?_
          refine FL.one (L := []) rfl rfl rfl rfl rfl (fun _ hR => RunsTo.loadI2 rfl (hR.blk (B11) (by simp)) (h11'.r2)) ?_
          refine FL.endE rfl ?_
          intro w11 hx11 t58 h58 _ _
          replace B2 := B2.ext hx11
          replace B7 := B7.ext hx11
          replace B9 := B9.ext hx11
          replace h7' := h7'.ext hx11
          replace h9' := h9'.ext hx11
          replace h11' := h11'.ext hx11
          replace hx08 := hx08.trans hx11
          clear hx11
          have hzg := sz_gcd (pval (cutA s)) (pval (cutB s))
          refine StL.step rfl rfl rfl (OpR.call fn_integer_Cmp rfl (cmp_dn (h58.dn (by omega)) (h11'.dn (by decide +kernel)))) ?_
          rintro _ w12 ⟨hx12, rfl⟩
          replace B2 := B2.ext hx12
          replace B7 := B7.ext hx12
          replace B9 := B9.ext hx12
          replace h7' := h7'.ext hx12
          replace h9' := h9'.ext hx12
          replace hx08 := hx08.trans hx12
          clear hx12
          by_cases c7 : Nat.gcd (pval (cutA s)).natAbs (pval (cutB s)).natAbs = 1
          · rw [if_neg (fun e => e.elim c6 (fun e => e c7))] at hre
            refine StL.as TBok 1 (.bool false) rfl (ne_false (by rw [cmpI_zero]; omega)) ?_
            (iterate 6 ((repeat with_reducible first|refine .nil ?_|refine .then_normal ?_|refine .block_normal ?_|refine .seq ?_|refine .block ?_|refine .skip ?_|refine .region ?_|refine .ret ?_|refine .then_ret ?_|refine .block_ret ?_|refine .exit ?_|refine .then_exit ?_|refine .block_exit ?_|refine .block_other rfl ?_); try refine .run TBok 99 rfl ?_))
            refine St.condF rfl rfl ?_
            (iterate 6 ((repeat with_reducible first|refine .nil ?_|refine .then_normal ?_|refine .block_normal ?_|refine .seq ?_|refine .block ?_|refine .skip ?_|refine .region ?_|refine .ret ?_|refine .then_ret ?_|refine .block_ret ?_|refine .exit ?_|refine .then_exit ?_|refine .block_exit ?_|refine .block_other rfl ?_); try refine .run TBok 99 rfl ?_))
            refine StL.step rfl rfl rfl (RunsTo.loadI2 rfl (B7) (h7'.r2)).op ?_
            rintro _ _ ⟨rfl, rfl⟩
            refine StL.step rfl rfl rfl (RunsTo.loadI2 rfl (B9) (h9'.r2)).op ?_
            rintro _ _ ⟨rfl, rfl⟩
            refine StL.step rfl rfl rfl (RunsTo.buildR rfl rfl h7'.r2 h9'.r2).op ?_
            rintro _ _ ⟨rfl, rfl⟩
            obtain ⟨d1, d2⟩ := divInt_coprime (a := pval (cutA s)) (b := pval (cutB s)) (by omega) c7
            have hR : CanR 0 w12 (mkR v7 v9) (rval s) := by
              rw [rval_yes hb]
              exact CanR.mk (by rw [d1]; exact h7') (by rw [d2]; exact h9')
            refine StL.setR rfl rfl rfl hR.1 B2 rfl hx08 (by omega) ?_
            intro w13 B6 hu6 hx6
            (iterate 6 ((repeat with_reducible first|refine .nil ?_|refine .then_normal ?_|refine .block_normal ?_|refine .seq ?_|refine .block ?_|refine .skip ?_|refine .region ?_|refine .ret ?_|refine .then_ret ?_|refine .block_ret ?_|refine .exit ?_|refine .then_exit ?_|refine .block_exit ?_|refine .block_other rfl ?_); try refine .run TBok 99 rfl ?_))
            exact Out.retRT rfl rfl rfl B6 hR.1 ⟨hx6, _, by rw [hre]; first | done | rfl, hR.1, fun e => absurd hre e, fun _ => hR.upd hu6 B2 (by decide)⟩
          · rw [if_pos (.inr c7)] at hre
            refine StL.as TBok 1 (.bool true) rfl (ne_true (by rw [ne_eq, cmpI_zero]; omega)) ?_
            (iterate 6 ((repeat with_reducible first|refine .nil ?_|refine .then_normal ?_|refine .block_normal ?_|refine .seq ?_|refine .block ?_|refine .skip ?_|refine .region ?_|refine .ret ?_|refine .then_ret ?_|refine .block_ret ?_|refine .exit ?_|refine .then_exit ?_|refine .block_exit ?_|refine .block_other rfl ?_); try refine .run TBok 99 rfl ?_))
            refine St.condT rfl rfl ?_
            (iterate 6 ((repeat with_reducible first|refine .nil ?_|refine .then_normal ?_|refine .block_normal ?_|refine .seq ?_|refine .block ?_|refine .skip ?_|refine .region ?_|refine .ret ?_|refine .then_ret ?_|refine .block_ret ?_|refine .exit ?_|refine .then_exit ?_|refine .block_exit ?_|refine .block_other rfl ?_); try refine .run TBok 99 rfl ?_))
            refine StL.step rfl rfl rfl (RunsTo.build TBok rfl rfl rfl rfl).op ?_
            rintro _ _ ⟨rfl, rfl⟩
            refine StL.setR (v := zR) rfl rfl rfl zR_R4 B2 rfl hx08 (by omega) ?_
            intro w9 B6 hu6 hx6
            (iterate 6 ((repeat with_reducible first|refine .nil ?_|refine .then_normal ?_|refine .block_normal ?_|refine .seq ?_|refine .block ?_|refine .skip ?_|refine .region ?_|refine .ret ?_|refine .then_ret ?_|refine .block_ret ?_|refine .exit ?_|refine .then_exit ?_|refine .block_exit ?_|refine .block_other rfl ?_); try refine .run TBok 99 rfl ?_))
            exact Out.retRT rfl rfl rfl B6 zR_R4 ⟨hx6, zR, by rw [hre]; first | done | rfl, zR_R4, fun _ => rfl, fun e => by rw [hre] at e; cases e⟩
        · rw [if_pos (.inr c5)] at hre
          refine StL.as TBok 2 (.bool true) rfl (ne_true c5) ?_
          (iterate 6 ((repeat with_reducible first|refine .nil ?_|refine .then_normal ?_|refine .block_normal ?_|refine .seq ?_|refine .block ?_|refine .skip ?_|refine .region ?_|refine .ret ?_|refine .then_ret ?_|refine .block_ret ?_|refine .exit ?_|refine .then_exit ?_|refine .block_exit ?_|refine .block_other rfl ?_); try refine .run TBok 99 rfl ?_))
          refine St.condT rfl rfl ?_
          (iterate 6 ((repeat with_reducible first|refine .nil ?_|refine .then_normal ?_|refine .block_normal ?_|refine .seq ?_|refine .block ?_|refine .skip ?_|refine .region ?_|refine .ret ?_|refine .then_ret ?_|refine .block_ret ?_|refine .exit ?_|refine .then_exit ?_|refine .block_exit ?_|refine .block_other rfl ?_); try refine .run TBok 99 rfl ?_))
          refine StL.step rfl rfl rfl (RunsTo.build TBok rfl rfl rfl rfl).op ?_
          rintro _ _ ⟨rfl, rfl⟩
          refine StL.setR (v := zR) rfl rfl rfl zR_R4 B2 rfl hx08 (by omega) ?_
          intro w9 B6 hu6 hx6
          (iterate 6 ((repeat with_reducible first|refine .nil ?_|refine .then_normal ?_|refine .block_normal ?_|refine .seq ?_|refine .block ?_|refine .skip ?_|refine .region ?_|refine .ret ?_|refine .then_ret ?_|refine .block_ret ?_|refine .exit ?_|refine .then_exit ?_|refine .block_exit ?_|refine .block_other rfl ?_); try refine .run TBok 99 rfl ?_))
          exact Out.retRT rfl rfl rfl B6 zR_R4 ⟨hx6, zR, by rw [hre]; first | done | rfl, zR_R4, fun _ => rfl, fun e => by rw [hre] at e; cases e⟩
      · rw [if_pos (.inl c4)] at hre
        refine StL.as TBok 2 (.bool true) rfl (ne_true c4) ?_
        (iterate 6 ((repeat with_reducible first|refine .nil ?_|refine .then_normal ?_|refine .block_normal ?_|refine .seq ?_|refine .block ?_|refine .skip ?_|refine .region ?_|refine .ret ?_|refine .then_ret ?_|refine .block_ret ?_|refine .exit ?_|refine .then_exit ?_|refine .block_exit ?_|refine .block_other rfl ?_); try refine .run TBok 99 rfl ?_))
        refine St.condT rfl rfl ?_
        (repeat with_reducible first|refine .nil ?_|refine .then_normal ?_|refine .block_normal ?_|refine .seq ?_|refine .block ?_|refine .skip ?_|refine .region ?_|refine .ret ?_|refine .then_ret ?_|refine .block_ret ?_|refine .exit ?_|refine .then_exit ?_|refine .block_exit ?_|refine .block_other rfl ?_)
        refine St.condT rfl rfl ?_
        (iterate 6 ((repeat with_reducible first|refine .nil ?_|refine .then_normal ?_|refine .block_normal ?_|refine .seq ?_|refine .block ?_|refine .skip ?_|refine .region ?_|refine .ret ?_|refine .then_ret ?_|refine .block_ret ?_|refine .exit ?_|refine .then_exit ?_|refine .block_exit ?_|refine .block_other rfl ?_); try refine .run TBok 99 rfl ?_))
        refine StL.step rfl rfl rfl (RunsTo.build TBok rfl rfl rfl rfl).op ?_
        rintro _ _ ⟨rfl, rfl⟩
        refine StL.setR (v := zR) rfl rfl rfl zR_R4 B2 rfl hx08 (by omega) ?_
        intro w9 B6 hu6 hx6
        (iterate 6 ((repeat with_reducible first|refine .nil ?_|refine .then_normal ?_|refine .block_normal ?_|refine .seq ?_|refine .block ?_|refine .skip ?_|refine .region ?_|refine .ret ?_|refine .then_ret ?_|refine .block_ret ?_|refine .exit ?_|refine .then_exit ?_|refine .block_exit ?_|refine .block_other rfl ?_); try refine .run TBok 99 rfl ?_))
        exact Out.retRT rfl rfl rfl B6 zR_R4 ⟨hx6, zR, by rw [hre]; first | done | rfl, zR_R4, fun _ => rfl, fun e => by rw [hre] at e; cases e⟩

/-- The text of a rational number. -/
def fmtR (q : Rat) : List Nat := if q.den = 1 then fmtI q.num else fmtI q.num ++ 47 :: fmtI (q.den : Int)

theorem fmtI_len (a : Int) : (fmtI a).length ≤ 11 * sz a + 2 := by
  have h1 := fmtN_len a.natAbs (sz a) (by have := val_lt (limbs a.natAbs) (lim_limbs _); rw [val_limbs] at this; exact this)
  unfold fmtI
  split
  · simp; omega
  · omega

theorem formatR_spec {w : World} {x : Value} {q : Rat} (h : DnR w x q) :
    Calls Try.prog 46 #[x] w (Ret fun r w' => Ext w w' ∧ r = strV (fmtR q)) := by
  have hz := h.rz
  have hzn := rz_num q
  have hzd := rz_den q
  have hf1 := fmtI_len q.num
  have hf2 := fmtI_len (q.den : Int)
  refine calls_of_St (args := [_]) Try.func46 rfl Try.ntmps46 rfl ?_
  (repeat with_reducible first|refine .nil ?_|refine .then_normal ?_|refine .block_normal ?_|refine .seq ?_|refine .block ?_|refine .skip ?_|refine .region ?_|refine .ret ?_|refine .then_ret ?_|refine .block_ret ?_|refine .exit ?_|refine .then_exit ?_|refine .block_exit ?_|refine .block_other rfl ?_)
  refine StL.step rfl rfl rfl (OpR.box rfl) ?_
  rintro _ w1 ⟨rfl, B1, hx0, hz1⟩
  replace h := h.ext hx0
  (iterate 6 ((repeat with_reducible first|refine .nil ?_|refine .then_normal ?_|refine .block_normal ?_|refine .seq ?_|refine .block ?_|refine .skip ?_|refine .region ?_|refine .ret ?_|refine .then_ret ?_|refine .block_ret ?_|refine .exit ?_|refine .then_exit ?_|refine .block_exit ?_|refine .block_other rfl ?_); try refine .run TBok 99 rfl ?_))
  refine StL.step rfl rfl rfl (RunsTo.loadR rfl rfl (B1) (h.1)).op ?_
  rintro _ _ ⟨rfl, rfl⟩
  refine StL.step rfl rfl rfl (OpR.call fn_rational_canonical rfl (canonical_spec (base := 0) h (Nat.zero_le _))) ?_
  rintro v w3 ⟨hx3, hv⟩
  replace hx0 := hx0.trans hx3
  clear hx3
  refine StL.newR rfl rfl (fun _ => rfl) hv.1 ?_
  intro b5 w5 hl5 hx5 B5
  replace hv := hv.ext hx5
  replace hx0 := hx0.trans hx5
  clear hx5
  (iterate 6 ((repeat with_reducible first|refine .nil ?_|refine .then_normal ?_|refine .block_normal ?_|refine .seq ?_|refine .block ?_|refine .skip ?_|refine .region ?_|refine .ret ?_|refine .then_ret ?_|refine .block_ret ?_|refine .exit ?_|refine .then_exit ?_|refine .block_exit ?_|refine .block_other rfl ?_); try refine .run TBok 99 rfl ?_))
  refine StL.step rfl rfl rfl (RunsTo.loadR rfl rfl (B5) (hv.1)).op ?_
  rintro _ _ ⟨rfl, rfl⟩
  refine StL.step rfl rfl rfl (OpR.call fn_rational_IsWhole rfl (isWholeR_spec (hv.dn hz))) ?_
  rintro _ w6 ⟨hx6, rfl⟩
  replace B5 := B5.ext hx6
  replace hv := hv.ext hx6
  replace hx0 := hx0.trans hx6
  clear hx6
  unfold fmtR
  by_cases h1 : q.den = 1
  · rw [decide_eq_true h1, if_pos h1]
    (iterate 6 ((repeat with_reducible first|refine .nil ?_|refine .then_normal ?_|refine .block_normal ?_|refine .seq ?_|refine .block ?_|refine .skip ?_|refine .region ?_|refine .ret ?_|refine .then_ret ?_|refine .block_ret ?_|refine .exit ?_|refine .then_exit ?_|refine .block_exit ?_|refine .block_other rfl ?_); try refine .run TBok 99 rfl ?_))
    refine St.condT rfl rfl ?_
    (iterate 6 ((repeat with_reducible first|refine .nil ?_|refine .then_normal ?_|refine .block_normal ?_|refine .seq ?_|refine .block ?_|refine .skip ?_|refine .region ?_|refine .ret ?_|refine .then_ret ?_|refine .block_ret ?_|refine .exit ?_|refine .then_exit ?_|refine .block_exit ?_|refine .block_other rfl ?_); try refine .run TBok 99 rfl ?_))
    refine StL.step rfl rfl rfl (RunsTo.loadN rfl (B5) (hv.1)).op ?_
    rintro _ _ ⟨rfl, rfl⟩
    refine StL.step rfl rfl rfl (OpR.call fn_integer_Format rfl (format_dn (hv.2.1.dn (by omega)))) ?_
    rintro _ w7 ⟨hx7, rfl⟩
    (iterate 6 ((repeat with_reducible first|refine .nil ?_|refine .then_normal ?_|refine .block_normal ?_|refine .seq ?_|refine .block ?_|refine .skip ?_|refine .region ?_|refine .ret ?_|refine .then_ret ?_|refine .block_ret ?_|refine .exit ?_|refine .then_exit ?_|refine .block_exit ?_|refine .block_other rfl ?_); try refine .run TBok 99 rfl ?_))
    exact Out.ret1 rfl rfl ⟨hx0.trans hx7, rfl⟩
  · rw [decide_eq_false h1, if_neg h1]
    (iterate 6 ((repeat with_reducible first|refine .nil ?_|refine .then_normal ?_|refine .block_normal ?_|refine .seq ?_|refine .block ?_|refine .skip ?_|refine .region ?_|refine .ret ?_|refine .then_ret ?_|refine .block_ret ?_|refine .exit ?_|refine .then_exit ?_|refine .block_exit ?_|refine .block_other rfl ?_); try refine .run TBok 99 rfl ?_))
    refine St.condF rfl rfl ?_
    (repeat with_reducible first|refine .nil ?_|refine .then_normal ?_|refine .block_normal ?_|refine .seq ?_|refine .block ?_|refine .skip ?_|refine .region ?_|refine .ret ?_|refine .then_ret ?_|refine .block_ret ?_|refine .exit ?_|refine .then_exit ?_|refine .block_exit ?_|refine .block_other rfl ?_)
    refine St.sub (E' := [(3, .pointer (some ⟨b5, 0, none⟩))]) ?_ ⟨rfl, trivial⟩
    refine St.flow 7 TBfol (by kernel_rfl) rfl (by kernel_rfl) rfl True.intro ?_
    refine FL.run TBok 99 rfl ?_
    refine FL.one (L := []) rfl rfl rfl rfl rfl (fun _ hR => RunsTo.loadN rfl (hR.blk (B5) (by simp)) (hv.1)) ?_
    refine FL.callXE fn_integer_Format rfl rfl rfl (fun w7 hx7 => CallF.mk rfl (format_dn ((hv.2.1.ext hx7).dn (by omega)))) ?_
    refine FL.one (L := []) rfl rfl rfl rfl rfl (fun _ _ => RunsTo.strAdd (bs := [47]) rfl rfl (by simp; omega)) ?_
    refine FL.run TBok 99 rfl ?_
    refine FL.one (L := []) rfl rfl rfl rfl rfl (fun _ hR => RunsTo.loadD rfl (hR.blk (B5) (by simp)) (hv.1)) ?_
    refine FL.callXE fn_integer_Format rfl rfl rfl (fun w7 hx7 => CallF.mk rfl (format_dn ((hv.2.2.ext hx7).dn (by omega)))) ?_
    refine FL.endE rfl ?_
    intro w7 hx7 _ _
    refine StL.step rfl rfl rfl (RunsTo.strAdd rfl rfl (by simp; omega)).op ?_
    rintro _ _ ⟨rfl, rfl⟩
    (iterate 6 ((repeat with_reducible first|refine .nil ?_|refine .then_normal ?_|refine .block_normal ?_|refine .seq ?_|refine .block ?_|refine .skip ?_|refine .region ?_|refine .ret ?_|refine .then_ret ?_|refine .block_ret ?_|refine .exit ?_|refine .then_exit ?_|refine .block_exit ?_|refine .block_other rfl ?_); try refine .run TBok 99 rfl ?_))
    refine Out.ret1 rfl rfl ⟨hx0.trans hx7, ?_⟩
    rw [List.append_assoc]
    rfl

end Go.Qf
