/- Lemmas on the model and on the program's functions, part Qi. -/
import Derived.Test.YteiphfahnikikaaQa
import Derived.Test.YteiphfahnikikaaQb
import Derived.Test.YteiphfahnikikaaQc
import Derived.Test.YteiphfahnikikaaQd
import Derived.Test.YteiphfahnikikaaQe
import Derived.Test.YteiphfahnikikaaQf
import Derived.Test.YteiphfahnikikaaQg
import Derived.Test.YteiphfahnikikaaQh
/- quadformref01.Quo; quadformref02.New, Whole, Small, Normalize, Same, Sign, Neg, Add, Sub, Mul, Quo, Floor, Half, Nearest, IsWhole, Cmp. -/
namespace Go.Qf
open Go Go.RowKit Go.Proofs
set_option maxRecDepth 20000

theorem rquo_dn {w : World} {x y : Value} {a b : Int} (hX : Dn w x a) (hY : Dn w y b) (hb : b ≠ 0) (_hs : sz a ≤ 100000 ∧ sz b ≤ 100000) :
    Calls Try.prog 78 #[x, y] w (Ret fun r w' => Ext w w' ∧ CanO 0 w' r (a / b)) := by
  refine calls_of_St (args := [_, _]) Try.func78 rfl Try.ntmps78 rfl ?_
  (repeat with_reducible first|refine .nil ?_|refine .then_normal ?_|refine .block_normal ?_|refine .seq ?_|refine .block ?_|refine .skip ?_|refine .region ?_|refine .ret ?_|refine .then_ret ?_|refine .block_ret ?_|refine .exit ?_|refine .then_exit ?_|refine .block_exit ?_|refine .block_other rfl ?_)
  refine StL.step rfl rfl rfl (OpR.box rfl) ?_
  rintro _ w1 ⟨rfl, B1, hx1, hz1⟩
  refine StL.step rfl rfl rfl (OpR.box rfl) ?_
  rintro _ w2 ⟨rfl, B2, hx2, hz2⟩
  refine StL.step rfl rfl rfl (OpR.alloc TBok rfl) ?_
  rintro _ w3 ⟨rfl, B3, hx3, hz3⟩
  have hx0 : Ext w w3 := (hx1.trans hx2).trans hx3
  replace B1 := (B1.ext hx2).ext hx3
  replace B2 := B2.ext hx3
  replace hX := hX.ext hx0
  replace hY := hY.ext hx0
  clear hx1 hx2 hx3
  (iterate 6 ((repeat with_reducible first|refine .nil ?_|refine .then_normal ?_|refine .block_normal ?_|refine .seq ?_|refine .block ?_|refine .skip ?_|refine .region ?_|refine .ret ?_|refine .then_ret ?_|refine .block_ret ?_|refine .exit ?_|refine .then_exit ?_|refine .block_exit ?_|refine .block_other rfl ?_); try refine .run TBok 99 rfl ?_))
  refine StL.step rfl rfl rfl (RunsTo.loadI2 rfl (B1) (hX.r2)).op ?_
  rintro _ _ ⟨rfl, rfl⟩
  refine StL.step rfl rfl rfl (RunsTo.loadI2 rfl (B2) (hY.r2)).op ?_
  rintro _ _ ⟨rfl, rfl⟩
  refine StL.step rfl rfl rfl (OpR.call fn_r01_DivMod rfl (rdivMod_dn hX hY)) ?_
  rintro _ w4 ⟨hx4, _, hd⟩
  obtain ⟨q, m, rfl, hq, hm⟩ := hd hb
  replace B3 := B3.ext hx4
  replace hx0 := hx0.trans hx4
  clear hx4
  refine .run TBok 99 rfl ?_
  refine StL.setTwo rfl rfl rfl (fun _ _ => rfl) (fun _ _ => rfl) hq hm hx0 ?_
  intro b5 b6 w5 hne hl5 hl6 hx5 B5 _ hq5 _ hx05
  replace B3 := B3.ext hx5
  clear hx5
  (iterate 6 ((repeat with_reducible first|refine .nil ?_|refine .then_normal ?_|refine .block_normal ?_|refine .seq ?_|refine .block ?_|refine .skip ?_|refine .region ?_|refine .ret ?_|refine .then_ret ?_|refine .block_ret ?_|refine .exit ?_|refine .then_exit ?_|refine .block_exit ?_|refine .block_other rfl ?_); try refine .run TBok 99 rfl ?_))
  refine StL.step rfl rfl rfl (RunsTo.loadI2 rfl (B5) (hq5.r2)).op ?_
  rintro _ _ ⟨rfl, rfl⟩
  refine StL.setCan rfl rfl B3 rfl hq5 hx05 (by omega) ?_
  intro w8 B8 hu8 hq8 hx8
  (iterate 6 ((repeat with_reducible first|refine .nil ?_|refine .then_normal ?_|refine .block_normal ?_|refine .seq ?_|refine .block ?_|refine .skip ?_|refine .region ?_|refine .ret ?_|refine .then_ret ?_|refine .block_ret ?_|refine .exit ?_|refine .then_exit ?_|refine .block_exit ?_|refine .block_other rfl ?_); try refine .run TBok 99 rfl ?_))
  exact Out.retI rfl rfl B8 hq8 ⟨hx8, hq8⟩

theorem sz_lt {a b : Int} (ha : sz a ≤ 100000) (hb : sz b ≤ 100000) : sz ((Nat.gcd a.natAbs b.natAbs : Nat) : Int) ≤ 100000 := by
  have := sz_gcd a b
  omega

set_option maxHeartbeats 800000 in
theorem rnew_spec {w : World} {x y : Value} {a b : Int} (hX : Dn w x a) (hY : Dn w y b) (ha : sz a ≤ 100000) (hb : sz b ≤ 100000) :
    Calls Try.prog 24 #[x, y] w (Ret fun r w' => Ext w w' ∧ NewV 0 w' r a b) := by
  refine calls_of_St (args := [_, _]) Try.func24 rfl Try.ntmps24 rfl ?_
  (repeat with_reducible first|refine .nil ?_|refine .then_normal ?_|refine .block_normal ?_|refine .seq ?_|refine .block ?_|refine .skip ?_|refine .region ?_|refine .ret ?_|refine .then_ret ?_|refine .block_ret ?_|refine .exit ?_|refine .then_exit ?_|refine .block_exit ?_|refine .block_other rfl ?_)
  refine StL.step rfl rfl rfl (OpR.box rfl) ?_
  rintro _ w1 ⟨rfl, B1, hx1, hz1⟩
  refine StL.step rfl rfl rfl (OpR.box rfl) ?_
  rintro _ w2 ⟨rfl, B2, hx2, hz2⟩
  refine StL.step rfl rfl rfl (OpR.alloc TBok rfl) ?_
  rintro _ w3 ⟨rfl, B3, hx3, hz3⟩
  have hx0 : Ext w w3 := (hx1.trans hx2).trans hx3
  replace B1 := (B1.ext hx2).ext hx3
  replace B2 := B2.ext hx3
  replace hX := hX.ext hx0
  replace hY := hY.ext hx0
  clear hx1 hx2 hx3
  (iterate 6 ((repeat with_reducible first|refine .nil ?_|refine .then_normal ?_|refine .block_normal ?_|refine .seq ?_|refine .block ?_|refine .skip ?_|refine .region ?_|refine .ret ?_|refine .then_ret ?_|refine .block_ret ?_|refine .exit ?_|refine .then_exit ?_|refine .block_exit ?_|refine .block_other rfl ?_); try refine .run TBok 99 rfl ?_))
  refine StL.step rfl rfl rfl (RunsTo.loadI2 rfl (B2) (hY.r2)).op ?_
  rintro _ _ ⟨rfl, rfl⟩
  refine StL.step rfl rfl rfl (OpR.call fn_r01_Sign rfl (rsign_dn hY)) ?_
  rintro _ w4 ⟨hx4, rfl⟩
  replace B1 := B1.ext hx4
  replace B2 := B2.ext hx4
  replace B3 := B3.ext hx4
  replace hX := hX.ext hx4
  replace hY := hY.ext hx4
  replace hx0 := hx0.trans hx4
  clear hx4
  by_cases h0 : b = 0
  · refine StL.as TBok 1 (.bool true) rfl (bool_true (by rw [signI_eq0]; exact h0)) ?_
    (iterate 6 ((repeat with_reducible first|refine .nil ?_|refine .then_normal ?_|refine .block_normal ?_|refine .seq ?_|refine .block ?_|refine .skip ?_|refine .region ?_|refine .ret ?_|refine .then_ret ?_|refine .block_ret ?_|refine .exit ?_|refine .then_exit ?_|refine .block_exit ?_|refine .block_other rfl ?_); try refine .run TBok 99 rfl ?_))
    refine St.condT rfl rfl ?_
    (iterate 6 ((repeat with_reducible first|refine .nil ?_|refine .then_normal ?_|refine .block_normal ?_|refine .seq ?_|refine .block ?_|refine .skip ?_|refine .region ?_|refine .ret ?_|refine .then_ret ?_|refine .block_ret ?_|refine .exit ?_|refine .then_exit ?_|refine .block_exit ?_|refine .block_other rfl ?_); try refine .run TBok 99 rfl ?_))
    refine StL.step rfl rfl rfl (RunsTo.build TBok rfl rfl rfl rfl).op ?_
    rintro _ _ ⟨rfl, rfl⟩
    refine StL.setR (v := zR) rfl rfl rfl zR_R4 B3 rfl hx0 (by omega) ?_
    intro w5 B5 hu5 hx5
    (iterate 6 ((repeat with_reducible first|refine .nil ?_|refine .then_normal ?_|refine .block_normal ?_|refine .seq ?_|refine .block ?_|refine .skip ?_|refine .region ?_|refine .ret ?_|refine .then_ret ?_|refine .block_ret ?_|refine .exit ?_|refine .then_exit ?_|refine .block_exit ?_|refine .block_other rfl ?_); try refine .run TBok 99 rfl ?_))
    exact Out.retRT rfl rfl rfl B5 zR_R4 ⟨hx5, fun _ => rfl, fun h => absurd h0 h⟩
  refine StL.as TBok 1 (.bool false) rfl (bool_false (by rw [signI_eq0]; exact h0)) ?_
  (iterate 6 ((repeat with_reducible first|refine .nil ?_|refine .then_normal ?_|refine .block_normal ?_|refine .seq ?_|refine .block ?_|refine .skip ?_|refine .region ?_|refine .ret ?_|refine .then_ret ?_|refine .block_ret ?_|refine .exit ?_|refine .then_exit ?_|refine .block_exit ?_|refine .block_other rfl ?_); try refine .run TBok 99 rfl ?_))
  refine St.condF rfl rfl ?_
  (iterate 6 ((repeat with_reducible first|refine .nil ?_|refine .then_normal ?_|refine .block_normal ?_|refine .seq ?_|refine .block ?_|refine .skip ?_|refine .region ?_|refine .ret ?_|refine .then_ret ?_|refine .block_ret ?_|refine .exit ?_|refine .then_exit ?_|refine .block_exit ?_|refine .block_other rfl ?_); try refine .run TBok 99 rfl ?_))
  refine StL.step rfl rfl rfl (RunsTo.loadI2 rfl (B2) (hY.r2)).op ?_
  rintro _ _ ⟨rfl, rfl⟩
  refine StL.step rfl rfl rfl (OpR.call fn_r01_Sign rfl (rsign_dn hY)) ?_
  rintro _ w5 ⟨hx5, rfl⟩
  replace B1 := B1.ext hx5
  replace B2 := B2.ext hx5
  replace B3 := B3.ext hx5
  replace hX := hX.ext hx5
  replace hY := hY.ext hx5
  replace hx0 := hx0.trans hx5
  clear hx5
  refine .run TBok 99 rfl ?_
  have hl1 := B1.lt
  have hl2 := B2.lt
  have hl3 := B3.lt
  refine StL.nil (Out.then_normal (St.cutX (fun _ : (Value × Value) × Int × Int => [(2, .pointer (some ⟨w.heap.size, 0, none⟩)), (3, .pointer (some ⟨w1.heap.size, 0, none⟩)), (4, .pointer (some ⟨w2.heap.size, 0, none⟩))])
    (fun g w' => Ext w w' ∧ Blk 25 w' w.heap.size g.1.1.cells.toList ∧ Blk 25 w' w1.heap.size g.1.2.cells.toList ∧ (∃ C, Blk 33 w' w2.heap.size C ∧ C.length = 4) ∧ Dn w' g.1.1 g.2.1 ∧ Dn w' g.1.2 g.2.2 ∧ 0 < g.2.2 ∧ Rat.divInt g.2.1 g.2.2 = Rat.divInt a b ∧ sz g.2.1 ≤ 100000 ∧ sz g.2.2 ≤ 100000) ?_ ?_))
  · by_cases hneg : b < 0
    · refine St.condT rfl (decide_eq_true (by unfold signI; rw [if_pos hneg]; decide)) ?_
      (iterate 6 ((repeat with_reducible first|refine .nil ?_|refine .then_normal ?_|refine .block_normal ?_|refine .seq ?_|refine .block ?_|refine .skip ?_|refine .region ?_|refine .ret ?_|refine .then_ret ?_|refine .block_ret ?_|refine .exit ?_|refine .then_exit ?_|refine .block_exit ?_|refine .block_other rfl ?_); try refine .run TBok 99 rfl ?_))
      refine St.flow 3 TBfol (by kernel_rfl) rfl (by kernel_rfl) rfl True.intro ?_
      refine FL.one (L := []) rfl rfl rfl rfl rfl (fun _ hR => RunsTo.loadI2 rfl (hR.blk (B1) (by simp)) (hX.r2)) ?_
      refine FL.callE fn_r01_Neg rfl rfl rfl (fun w6 hx6 => CallF.mk rfl (rneg_dn (base := 0) (hX.ext hx6) (Nat.zero_le _))) (MonoR.canO 0 _) ?_
      refine FL.one (L := []) rfl rfl rfl rfl rfl (fun _ hR => RunsTo.loadI2 rfl (hR.blk (B2) (by simp)) (hY.r2)) ?_
      refine FL.endE rfl ?_
      intro w6 hx6 t15 h15 _ _
      replace B1 := B1.ext hx6
      replace B2 := B2.ext hx6
      replace B3 := B3.ext hx6
      replace hX := hX.ext hx6
      replace hY := hY.ext hx6
      replace hx0 := hx0.trans hx6
      clear hx6
      refine StL.step rfl rfl rfl (OpR.call fn_r01_Neg rfl (rneg_dn (base := 0) hY (Nat.zero_le _))) ?_
      rintro t17 w7 ⟨hx7, h17⟩
      replace B1 := B1.ext hx7
      replace B2 := B2.ext hx7
      replace B3 := B3.ext hx7
      replace h15 := h15.ext hx7
      replace hx0 := hx0.trans hx7
      clear hx7
      refine StL.setCan rfl rfl B1 hX.r2.len h15 hx0 (Nat.le_refl _) ?_
      intro w8 B1' hu8 h15' hx08
      replace B2 := B2.upd hu8 (by omega)
      replace B3 := B3.upd hu8 (by omega)
      replace h17 := h17.updT hu8 B1 (by decide)
      refine StL.setCan rfl rfl B2 hY.r2.len h17 hx08 (by omega) ?_
      intro w9 B2' hu9 h17' hx09
      replace B1' := B1'.upd hu9 (by omega)
      replace B3 := B3.upd hu9 (by omega)
      replace h15' := h15'.updT hu9 B2 (by decide)
      refine StL.nil (Out.met ((t15, t17), -a, -b) ⟨rfl, rfl, rfl, trivial⟩ ⟨hx09, B1', B2', ⟨_, B3, rfl⟩, h15'.dn (by rw [sz_neg]; omega), h17'.dn (by rw [sz_neg]; omega), by dsimp only; omega, Rat.neg_divInt_neg a b, by dsimp only; rw [sz_neg]; exact ha, by dsimp only; rw [sz_neg]; exact hb⟩)
    · refine St.condF rfl (decide_eq_false (by unfold signI; rw [if_neg hneg]; split <;> decide)) (St.skip (Out.met ((x, y), a, b) ⟨rfl, rfl, rfl, trivial⟩ ⟨hx0, B1, B2, ⟨_, B3, rfl⟩, hX, hY, by dsimp only; omega, rfl, ha, hb⟩))
  · rintro ⟨⟨x', y'⟩, a', b'⟩ w6 ⟨hx06, B1, B2, ⟨C3, B3, hC3⟩, hX, hY, hpos, heq, ha', hb'⟩
    dsimp only at B1 B2 hX hY hpos heq ha' hb'
    have hg := sz_lt ha' hb'
    have hgn := gcd_ne (a := a') (b := b') (by omega)
    (iterate 6 ((repeat with_reducible first|refine .nil ?_|refine .then_normal ?_|refine .block_normal ?_|refine .seq ?_|refine .block ?_|refine .skip ?_|refine .region ?_|refine .ret ?_|refine .then_ret ?_|refine .block_ret ?_|refine .exit ?_|refine .then_exit ?_|refine .block_exit ?_|refine .block_other rfl ?_); try refine .run TBok 99 rfl ?_))
    refine StL.step rfl rfl rfl (RunsTo.loadI2 rfl (B1) (hX.r2)).op ?_
    rintro _ _ ⟨rfl, rfl⟩
    refine StL.step rfl rfl rfl (RunsTo.loadI2 rfl (B2) (hY.r2)).op ?_
    rintro _ _ ⟨rfl, rfl⟩
    refine StL.step rfl rfl rfl (OpR.call fn_r01_Gcd rfl (rgcd_dn hX hY)) ?_
    rintro g w7 ⟨hx7, hgc⟩
    replace B1 := B1.ext hx7
    replace B2 := B2.ext hx7
    replace B3 := B3.ext hx7
    replace hX := hX.ext hx7
    replace hY := hY.ext hx7
    replace hx06 := hx06.trans hx7
    clear hx7
    refine StL.setNew rfl (fun _ => rfl) hgc hx06 ?_
    intro b6 w8 hl6 hx8 B6 hg6 hx08
    replace B1 := B1.ext hx8
    replace B2 := B2.ext hx8
    replace B3 := B3.ext hx8
    replace hX := hX.ext hx8
    replace hY := hY.ext hx8
    clear hx8
    (repeat with_reducible first|refine .nil ?_|refine .then_normal ?_|refine .block_normal ?_|refine .seq ?_|refine .block ?_|refine .skip ?_|refine .region ?_|refine .ret ?_|refine .then_ret ?_|refine .block_ret ?_|refine .exit ?_|refine .then_exit ?_|refine .block_exit ?_|refine .block_other rfl ?_)
    refine St.sub (E' := [(2, .pointer (some ⟨w.heap.size, 0, none⟩)), (3, .pointer (some ⟨w1.heap.size, 0, none⟩)), (4, .pointer (some ⟨w2.heap.size, 0, none⟩)), (6, .pointer (some ⟨b6, 0, none⟩))]) ?_ ⟨rfl, rfl, rfl, rfl, trivial⟩
    refine St.flow 5 TBfol (by kernel_rfl) rfl (by kernel_rfl) rfl True.intro ?_
    refine FL.one (L := []) rfl rfl rfl rfl rfl (fun _ hR => RunsTo.loadI2 rfl (hR.blk (B1) (by simp)) (hX.r2)) ?_
    refine FL.one (L := []) rfl rfl rfl rfl rfl (fun _ hR => RunsTo.loadI2 rfl (hR.blk (B6) (by simp)) (hg6.r2)) ?_
    refine FL.callE fn_r01_Quo rfl rfl rfl (fun w9 hx9 => CallF.mk rfl (rquo_dn (hX.ext hx9) ((hg6.ext hx9).dn (by omega)) (by omega) ⟨ha', hg⟩)) (MonoR.canO 0 _) ?_
    refine FL.one (L := []) rfl rfl rfl rfl rfl (fun _ hR => RunsTo.loadI2 rfl (hR.blk (B2) (by simp)) (hY.r2)) ?_
    refine FL.one (L := []) rfl rfl rfl rfl rfl (fun _ hR => RunsTo.loadI2 rfl (hR.blk (B6) (by simp)) (hg6.r2)) ?_
    refine FL.endE rfl ?_
    intro w9 hx9 t23 h23 _ _
    replace B3 := B3.ext hx9
    replace hY := hY.ext hx9
    replace hg6 := hg6.ext hx9
    replace hx08 := hx08.trans hx9
    clear hx9
    refine StL.step rfl rfl rfl (OpR.call fn_r01_Quo rfl (rquo_dn hY (hg6.dn (by omega)) (by omega) ⟨hb', hg⟩)) ?_
    rintro t26 w10 ⟨hx10, h26⟩
    replace B3 := B3.ext hx10
    replace h23 := h23.ext hx10
    replace hx08 := hx08.trans hx10
    clear hx10
    refine StL.step rfl rfl rfl (RunsTo.buildR rfl rfl h23.r2 h26.r2).op ?_
    rintro _ _ ⟨rfl, rfl⟩
    have hR : CanR 0 w10 (mkR t23 t26) (Rat.divInt a b) := by
      rw [← heq]
      exact CanR.mk (by rw [num_pos hpos]; exact h23) (by rw [den_pos' hpos]; exact h26)
    refine StL.setR rfl rfl rfl hR.1 B3 hC3 hx08 (by omega) ?_
    intro w12 B12 hu12 hx12
    (iterate 6 ((repeat with_reducible first|refine .nil ?_|refine .then_normal ?_|refine .block_normal ?_|refine .seq ?_|refine .block ?_|refine .skip ?_|refine .region ?_|refine .ret ?_|refine .then_ret ?_|refine .block_ret ?_|refine .exit ?_|refine .then_exit ?_|refine .block_exit ?_|refine .block_other rfl ?_); try refine .run TBok 99 rfl ?_))
    exact Out.retRT rfl rfl rfl B12 hR.1 ⟨hx12, fun e => absurd e h0, fun _ => ⟨_, rfl, hR.upd hu12 B3 (by decide)⟩⟩

theorem rwhole_spec {w : World} {x : Value} {a : Int} (hX : Dn w x a) :
    Calls Try.prog 27 #[x] w (Ret fun r w' => Ext w w' ∧ CanR 0 w' r (a : Rat)) := by
  refine calls_of_St (args := [_]) Try.func27 rfl Try.ntmps27 rfl ?_
  (repeat with_reducible first|refine .nil ?_|refine .then_normal ?_|refine .block_normal ?_|refine .seq ?_|refine .block ?_|refine .skip ?_|refine .region ?_|refine .ret ?_|refine .then_ret ?_|refine .block_ret ?_|refine .exit ?_|refine .then_exit ?_|refine .block_exit ?_|refine .block_other rfl ?_)
  refine StL.step rfl rfl rfl (OpR.box rfl) ?_
  rintro _ w1 ⟨rfl, B1, hx1, hz1⟩
  refine StL.step rfl rfl rfl (OpR.alloc TBok rfl) ?_
  rintro _ w2 ⟨rfl, B2, hx2, hz2⟩
  have hx0 : Ext w w2 := hx1.trans hx2
  replace B1 := B1.ext hx2
  replace hX := hX.ext hx0
  clear hx1 hx2
  (iterate 6 ((repeat with_reducible first|refine .nil ?_|refine .then_normal ?_|refine .block_normal ?_|refine .seq ?_|refine .block ?_|refine .skip ?_|refine .region ?_|refine .ret ?_|refine .then_ret ?_|refine .block_ret ?_|refine .exit ?_|refine .then_exit ?_|refine .block_exit ?_|refine .block_other rfl ?_); try refine .run TBok 99 rfl ?_))
  refine StL.step rfl rfl rfl (RunsTo.loadI2 rfl (B1) (hX.r2)).op ?_
  rintro _ _ ⟨rfl, rfl⟩
  refine StL.step rfl rfl rfl (OpR.call fn_r01_Normalize rfl (rnormalize_dn (base := 0) hX (Nat.zero_le _))) ?_
  rintro u w3 ⟨hx3, hu⟩
  replace B2 := B2.ext hx3
  replace hx0 := hx0.trans hx3
  clear hx3
  refine StL.step rfl rfl rfl (OpR.call fn_r01_Small rfl (rsmall_spec (base := 0) w3 1 (by decide) (by decide) (Nat.zero_le _))) ?_
  rintro v w4 ⟨hx4, hv⟩
  replace B2 := B2.ext hx4
  replace hu := hu.ext hx4
  replace hx0 := hx0.trans hx4
  clear hx4
  refine StL.step rfl rfl rfl (RunsTo.buildR rfl rfl hu.r2 hv.r2).op ?_
  rintro _ _ ⟨rfl, rfl⟩
  have hR : CanR 0 w4 (mkR u v) (a : Rat) := CanR.mk hu hv
  refine StL.setR rfl rfl rfl hR.1 B2 rfl hx0 (by omega) ?_
  intro w12 B12 hu12 hx12
  (iterate 6 ((repeat with_reducible first|refine .nil ?_|refine .then_normal ?_|refine .block_normal ?_|refine .seq ?_|refine .block ?_|refine .skip ?_|refine .region ?_|refine .ret ?_|refine .then_ret ?_|refine .block_ret ?_|refine .exit ?_|refine .then_exit ?_|refine .block_exit ?_|refine .block_other rfl ?_); try refine .run TBok 99 rfl ?_))
  exact Out.retR rfl rfl B12 hR.1 ⟨hx12, hR.upd hu12 B2 (by decide)⟩

theorem rsmallR_spec (w : World) (a : Int) (h0 : -9223372036854775808 ≤ a) (h1 : a ≤ 9223372036854775807) :
    Calls Try.prog 39 #[.int .i64 a] w (Ret fun r w' => Ext w w' ∧ CanR 0 w' r (a : Rat)) := by
  have hsz : sz a ≤ 2 := sz_small (by omega) (by omega)
  refine calls_of_St (args := [_]) Try.func39 rfl Try.ntmps39 rfl ?_
  (repeat with_reducible first|refine .nil ?_|refine .then_normal ?_|refine .block_normal ?_|refine .seq ?_|refine .block ?_|refine .skip ?_|refine .region ?_|refine .ret ?_|refine .then_ret ?_|refine .block_ret ?_|refine .exit ?_|refine .then_exit ?_|refine .block_exit ?_|refine .block_other rfl ?_)
  refine StL.step rfl rfl rfl (OpR.alloc TBok rfl) ?_
  rintro _ w2 ⟨rfl, B2, hx0, hz2⟩
  (iterate 6 ((repeat with_reducible first|refine .nil ?_|refine .then_normal ?_|refine .block_normal ?_|refine .seq ?_|refine .block ?_|refine .skip ?_|refine .region ?_|refine .ret ?_|refine .then_ret ?_|refine .block_ret ?_|refine .exit ?_|refine .then_exit ?_|refine .block_exit ?_|refine .block_other rfl ?_); try refine .run TBok 99 rfl ?_))
  refine StL.step rfl rfl rfl (OpR.call fn_r01_Small rfl (rsmall_spec (base := 0) w2 a h0 h1 (Nat.zero_le _))) ?_
  rintro u w3 ⟨hx3, hu⟩
  replace B2 := B2.ext hx3
  replace hx0 := hx0.trans hx3
  clear hx3
  refine StL.step rfl rfl rfl (OpR.call fn_r02_Whole rfl (rwhole_spec (hu.dn (by omega)))) ?_
  rintro v w4 ⟨hx4, hv⟩
  replace B2 := B2.ext hx4
  replace hx0 := hx0.trans hx4
  clear hx4
  refine StL.setR rfl rfl rfl hv.1 B2 rfl hx0 (by omega) ?_
  intro w12 B12 hu12 hx12
  (iterate 6 ((repeat with_reducible first|refine .nil ?_|refine .then_normal ?_|refine .block_normal ?_|refine .seq ?_|refine .block ?_|refine .skip ?_|refine .region ?_|refine .ret ?_|refine .then_ret ?_|refine .block_ret ?_|refine .exit ?_|refine .then_exit ?_|refine .block_exit ?_|refine .block_other rfl ?_); try refine .run TBok 99 rfl ?_))
  exact Out.retR rfl rfl B12 hv.1 ⟨hx12, hv.upd hu12 B2 (by decide)⟩

/-- A struct that denotes a rational number and is not too long. -/
def DnS (w : World) (v : Value) (q : Rat) : Prop := R4 v ∧ ∃ a b, Dn w (nm v) a ∧ Dn w (dm v) b ∧ q = Rat.divInt a b ∧ sz a ≤ 100000 ∧ sz b ≤ 100000
theorem DnS.dn {w : World} {v : Value} {q : Rat} (h : DnS w v q) : DnR w v q := by
  obtain ⟨h4, a, b, ha, hb, e, _⟩ := h
  exact ⟨h4, a, b, ha, hb, e⟩
theorem DnS.ext {w w' : World} {v : Value} {q : Rat} (h : DnS w v q) (hx : Ext w w') : DnS w' v q := by
  obtain ⟨h4, a, b, ha, hb, e, s⟩ := h
  exact ⟨h4, a, b, ha.ext hx, hb.ext hx, e, s⟩
theorem DnS.rz {w : World} {v : Value} {q : Rat} (h : DnS w v q) : rz q ≤ 100000 := by
  obtain ⟨_, a, b, _, _, rfl, h1, h2⟩ := h
  have := rz_divInt a b
  omega
theorem CanR.dnS {base : Nat} {w : World} {v : Value} {q : Rat} (h : CanR base w v q) (hz : Go.Qf.rz q ≤ 100000) : DnS w v q := by
  have h1 := rz_num q
  have h2 := rz_den q
  exact ⟨h.1, q.num, q.den, h.2.1.dn (by omega), h.2.2.dn (by omega), (Rat.num_divInt_den q).symm, by omega, by omega⟩

theorem rnormalizeR_spec {w : World} {x : Value} {q : Rat} (hX : DnS w x q) :
    Calls Try.prog 30 #[x] w (Ret fun r w' => Ext w w' ∧ CanR 0 w' r q) := by
  refine calls_of_St (args := [_]) Try.func30 rfl Try.ntmps30 rfl ?_
  (repeat with_reducible first|refine .nil ?_|refine .then_normal ?_|refine .block_normal ?_|refine .seq ?_|refine .block ?_|refine .skip ?_|refine .region ?_|refine .ret ?_|refine .then_ret ?_|refine .block_ret ?_|refine .exit ?_|refine .then_exit ?_|refine .block_exit ?_|refine .block_other rfl ?_)
  refine StL.step rfl rfl rfl (OpR.box rfl) ?_
  rintro _ w1 ⟨rfl, B1, hx1, hz1⟩
  refine StL.step rfl rfl rfl (OpR.alloc TBok rfl) ?_
  rintro _ w2 ⟨rfl, B2, hx2, hz2⟩
  have hx0 : Ext w w2 := hx1.trans hx2
  replace B1 := B1.ext hx2
  obtain ⟨h4, a, b, ha, hb, rfl, hsa, hsb⟩ := hX.ext hx0
  clear hx1 hx2
  (iterate 6 ((repeat with_reducible first|refine .nil ?_|refine .then_normal ?_|refine .block_normal ?_|refine .seq ?_|refine .block ?_|refine .skip ?_|refine .region ?_|refine .ret ?_|refine .then_ret ?_|refine .block_ret ?_|refine .exit ?_|refine .then_exit ?_|refine .block_exit ?_|refine .block_other rfl ?_); try refine .run TBok 99 rfl ?_))
  refine StL.step rfl rfl rfl (RunsTo.loadN rfl (B1) (h4)).op ?_
  rintro _ _ ⟨rfl, rfl⟩
  refine .run TBok 99 rfl ?_
  refine StL.step rfl rfl rfl (RunsTo.loadD rfl (B1) (h4)).op ?_
  rintro _ _ ⟨rfl, rfl⟩
  refine StL.step rfl rfl rfl (OpR.call fn_r02_New rfl (rnew_spec ha hb hsa hsb)) ?_
  rintro _ w4 ⟨hx4, hn0, hn1⟩
  replace B2 := B2.ext hx4
  replace hx0 := hx0.trans hx4
  clear hx4
  by_cases h0 : b = 0
  · rw [hn0 h0]
    subst h0
    rw [Rat.divInt_zero]
    refine .run TBok 99 rfl ?_
    refine StL.newR (v := zR) rfl rfl (fun _ => rfl) zR_R4 ?_
    intro b3 w5 hl3 hx5 _
    replace B2 := B2.ext hx5
    replace hx0 := hx0.trans hx5
    clear hx5
    (iterate 6 ((repeat with_reducible first|refine .nil ?_|refine .then_normal ?_|refine .block_normal ?_|refine .seq ?_|refine .block ?_|refine .skip ?_|refine .region ?_|refine .ret ?_|refine .then_ret ?_|refine .block_ret ?_|refine .exit ?_|refine .then_exit ?_|refine .block_exit ?_|refine .block_other rfl ?_); try refine .run TBok 99 rfl ?_))
    refine St.condT rfl rfl ?_
    (iterate 6 ((repeat with_reducible first|refine .nil ?_|refine .then_normal ?_|refine .block_normal ?_|refine .seq ?_|refine .block ?_|refine .skip ?_|refine .region ?_|refine .ret ?_|refine .then_ret ?_|refine .block_ret ?_|refine .exit ?_|refine .then_exit ?_|refine .block_exit ?_|refine .block_other rfl ?_); try refine .run TBok 99 rfl ?_))
    refine StL.step rfl rfl rfl (OpR.call fn_r02_Small rfl (rsmallR_spec w5 0 (by decide) (by decide))) ?_
    rintro v w6 ⟨hx6, hv⟩
    replace B2 := B2.ext hx6
    replace hx0 := hx0.trans hx6
    clear hx6
    refine StL.setR rfl rfl rfl hv.1 B2 rfl hx0 (by omega) ?_
    intro w12 B12 hu12 hx12
    (iterate 6 ((repeat with_reducible first|refine .nil ?_|refine .then_normal ?_|refine .block_normal ?_|refine .seq ?_|refine .block ?_|refine .skip ?_|refine .region ?_|refine .ret ?_|refine .then_ret ?_|refine .block_ret ?_|refine .exit ?_|refine .then_exit ?_|refine .block_exit ?_|refine .block_other rfl ?_); try refine .run TBok 99 rfl ?_))
    exact Out.retR rfl rfl B12 hv.1 ⟨hx12, hv.upd hu12 B2 (by decide)⟩
  · obtain ⟨v, rfl, hv⟩ := hn1 h0
    refine .run TBok 99 rfl ?_
    refine StL.newR rfl rfl (fun _ => rfl) hv.1 ?_
    intro b3 w5 hl3 hx5 B3
    replace B2 := B2.ext hx5
    replace hv := hv.ext hx5
    replace hx0 := hx0.trans hx5
    clear hx5
    (iterate 6 ((repeat with_reducible first|refine .nil ?_|refine .then_normal ?_|refine .block_normal ?_|refine .seq ?_|refine .block ?_|refine .skip ?_|refine .region ?_|refine .ret ?_|refine .then_ret ?_|refine .block_ret ?_|refine .exit ?_|refine .then_exit ?_|refine .block_exit ?_|refine .block_other rfl ?_); try refine .run TBok 99 rfl ?_))
    refine St.condF rfl rfl ?_
    (iterate 6 ((repeat with_reducible first|refine .nil ?_|refine .then_normal ?_|refine .block_normal ?_|refine .seq ?_|refine .block ?_|refine .skip ?_|refine .region ?_|refine .ret ?_|refine .then_ret ?_|refine .block_ret ?_|refine .exit ?_|refine .then_exit ?_|refine .block_exit ?_|refine .block_other rfl ?_); try refine .run TBok 99 rfl ?_))
    refine StL.step rfl rfl rfl (RunsTo.loadR rfl rfl (B3) (hv.1)).op ?_
    rintro _ _ ⟨rfl, rfl⟩
    refine StL.setR rfl rfl rfl hv.1 B2 rfl hx0 (by omega) ?_
    intro w12 B12 hu12 hx12
    (iterate 6 ((repeat with_reducible first|refine .nil ?_|refine .then_normal ?_|refine .block_normal ?_|refine .seq ?_|refine .block ?_|refine .skip ?_|refine .region ?_|refine .ret ?_|refine .then_ret ?_|refine .block_ret ?_|refine .exit ?_|refine .then_exit ?_|refine .block_exit ?_|refine .block_other rfl ?_); try refine .run TBok 99 rfl ?_))
    exact Out.retR rfl rfl B12 hv.1 ⟨hx12, hv.upd hu12 B2 (by decide)⟩

theorem sameR_of {w : World} {x y : Value} (hx : R4 x) (hy : R4 y) (h1 : ∀ w', Ext w w' → Calls Try.prog 31 #[nm x, nm y] w' (Ret fun r w'' => Ext w' w'' ∧ r = .bool true))
    (h2 : ∀ w', Ext w w' → Calls Try.prog 31 #[dm x, dm y] w' (Ret fun r w'' => Ext w' w'' ∧ r = .bool true)) :
    Calls Try.prog 25 #[x, y] w (Ret fun r w' => Ext w w' ∧ r = .bool true) := by
  refine calls_of_St (args := [_, _]) Try.func25 rfl Try.ntmps25 rfl ?_
  (repeat with_reducible first|refine .nil ?_|refine .then_normal ?_|refine .block_normal ?_|refine .seq ?_|refine .block ?_|refine .skip ?_|refine .region ?_|refine .ret ?_|refine .then_ret ?_|refine .block_ret ?_|refine .exit ?_|refine .then_exit ?_|refine .block_exit ?_|refine .block_other rfl ?_)
  refine StL.step rfl rfl rfl (OpR.box rfl) ?_
  rintro _ w1 ⟨rfl, B1, hx1, hz1⟩
  refine StL.step rfl rfl rfl (OpR.box rfl) ?_
  rintro _ w2 ⟨rfl, B2, hx2, hz2⟩
  have hx0 : Ext w w2 := hx1.trans hx2
  replace B1 := B1.ext hx2
  clear hx1 hx2
  (iterate 6 ((repeat with_reducible first|refine .nil ?_|refine .then_normal ?_|refine .block_normal ?_|refine .seq ?_|refine .block ?_|refine .skip ?_|refine .region ?_|refine .ret ?_|refine .then_ret ?_|refine .block_ret ?_|refine .exit ?_|refine .then_exit ?_|refine .block_exit ?_|refine .block_other rfl ?_); try refine .run TBok 99 rfl ?_))
  refine StL.step rfl rfl rfl (RunsTo.loadN rfl (B1) (hx)).op ?_
  rintro _ _ ⟨rfl, rfl⟩
  refine .run TBok 99 rfl ?_
  refine StL.step rfl rfl rfl (RunsTo.loadN rfl (B2) (hy)).op ?_
  rintro _ _ ⟨rfl, rfl⟩
  refine StL.step rfl rfl rfl (OpR.call fn_r01_Same rfl (h1 w2 hx0)) ?_
  rintro _ w3 ⟨hx3, rfl⟩
  replace B1 := B1.ext hx3
  replace B2 := B2.ext hx3
  replace hx0 := hx0.trans hx3
  clear hx3
  refine .run TBok 99 rfl ?_
  refine StL.step rfl rfl rfl (RunsTo.loadD rfl (B1) (hx)).op ?_
  rintro _ _ ⟨rfl, rfl⟩
  refine .run TBok 99 rfl ?_
  refine StL.step rfl rfl rfl (RunsTo.loadD rfl (B2) (hy)).op ?_
  rintro _ _ ⟨rfl, rfl⟩
  refine StL.step rfl rfl rfl (OpR.call fn_r01_Same rfl (h2 w3 hx0)) ?_
  rintro _ w4 ⟨hx4, rfl⟩
  (iterate 6 ((repeat with_reducible first|refine .nil ?_|refine .then_normal ?_|refine .block_normal ?_|refine .seq ?_|refine .block ?_|refine .skip ?_|refine .region ?_|refine .ret ?_|refine .then_ret ?_|refine .block_ret ?_|refine .exit ?_|refine .then_exit ?_|refine .block_exit ?_|refine .block_other rfl ?_); try refine .run TBok 99 rfl ?_))
  exact Out.ret1 rfl rfl ⟨hx0.trans hx4, rfl⟩
theorem sameR_can {b1 b2 : Nat} {w : World} {x y : Value} {q : Rat} (h : CanR b1 w x q) (k : CanR b2 w y q) (hz : rz q ≤ 100000) :
    Calls Try.prog 25 #[x, y] w (Ret fun r w' => Ext w w' ∧ r = .bool true) :=
  sameR_of h.1 k.1 (fun _ hx => same_true (h.2.1.ext hx) (k.2.1.ext hx) (Nat.le_trans (rz_num q) (by omega))) (fun _ hx => same_true (h.2.2.ext hx) (k.2.2.ext hx) (Nat.le_trans (rz_den q) (by omega)))
theorem sameR_zero (w : World) : Calls Try.prog 25 #[zR, zR] w (Ret fun r w' => Ext w w' ∧ r = .bool true) :=
  sameR_of zR_R4 zR_R4 (fun w' _ => same_true (canO_zero 0 w') (canO_zero 0 w') (by rw [sz_zero]; exact Nat.zero_le _)) (fun w' _ => same_true (canO_zero 0 w') (canO_zero 0 w') (by rw [sz_zero]; exact Nat.zero_le _))

theorem rsignR_spec {w : World} {x : Value} {q : Rat} (h : DnS w x q) :
    Calls Try.prog 54 #[x] w (Ret fun r w' => Ext w w' ∧ r = .int .i64 (signI q.num)) := by
  have hz := h.rz
  have hzn := rz_num q
  refine calls_of_St (args := [_]) Try.func54 rfl Try.ntmps54 rfl ?_
  (repeat with_reducible first|refine .nil ?_|refine .then_normal ?_|refine .block_normal ?_|refine .seq ?_|refine .block ?_|refine .skip ?_|refine .region ?_|refine .ret ?_|refine .then_ret ?_|refine .block_ret ?_|refine .exit ?_|refine .then_exit ?_|refine .block_exit ?_|refine .block_other rfl ?_)
  refine StL.step rfl rfl rfl (OpR.box rfl) ?_
  rintro _ w1 ⟨rfl, B1, hx1, hz1⟩
  replace h := h.ext hx1
  (iterate 6 ((repeat with_reducible first|refine .nil ?_|refine .then_normal ?_|refine .block_normal ?_|refine .seq ?_|refine .block ?_|refine .skip ?_|refine .region ?_|refine .ret ?_|refine .then_ret ?_|refine .block_ret ?_|refine .exit ?_|refine .then_exit ?_|refine .block_exit ?_|refine .block_other rfl ?_); try refine .run TBok 99 rfl ?_))
  refine StL.step rfl rfl rfl (RunsTo.loadR rfl rfl (B1) (h.1)).op ?_
  rintro _ _ ⟨rfl, rfl⟩
  refine StL.step rfl rfl rfl (OpR.call fn_r02_Normalize rfl (rnormalizeR_spec h)) ?_
  rintro v w3 ⟨hx3, hv⟩
  refine StL.step rfl rfl rfl (RunsTo.fieldN rfl rfl hv.1).op ?_
  rintro _ _ ⟨rfl, rfl⟩
  refine StL.step rfl rfl rfl (OpR.call fn_r01_Sign rfl (rsign_dn (hv.2.1.dn (by omega)))) ?_
  rintro _ w5 ⟨hx5, rfl⟩
  (iterate 6 ((repeat with_reducible first|refine .nil ?_|refine .then_normal ?_|refine .block_normal ?_|refine .seq ?_|refine .block ?_|refine .skip ?_|refine .region ?_|refine .ret ?_|refine .then_ret ?_|refine .block_ret ?_|refine .exit ?_|refine .then_exit ?_|refine .block_exit ?_|refine .block_other rfl ?_); try refine .run TBok 99 rfl ?_))
  exact Out.ret1 rfl rfl ⟨(hx1.trans hx3).trans hx5, rfl⟩

theorem risWhole_spec {w : World} {x : Value} {q : Rat} (h : DnS w x q) :
    Calls Try.prog 57 #[x] w (Ret fun r w' => Ext w w' ∧ r = .bool (decide (q.den = 1))) := by
  have hz := h.rz
  have hzd := rz_den q
  refine calls_of_St (args := [_]) Try.func57 rfl Try.ntmps57 rfl ?_
  (repeat with_reducible first|refine .nil ?_|refine .then_normal ?_|refine .block_normal ?_|refine .seq ?_|refine .block ?_|refine .skip ?_|refine .region ?_|refine .ret ?_|refine .then_ret ?_|refine .block_ret ?_|refine .exit ?_|refine .then_exit ?_|refine .block_exit ?_|refine .block_other rfl ?_)
  refine StL.step rfl rfl rfl (OpR.box rfl) ?_
  rintro _ w1 ⟨rfl, B1, hx1, hz1⟩
  replace h := h.ext hx1
  (iterate 6 ((repeat with_reducible first|refine .nil ?_|refine .then_normal ?_|refine .block_normal ?_|refine .seq ?_|refine .block ?_|refine .skip ?_|refine .region ?_|refine .ret ?_|refine .then_ret ?_|refine .block_ret ?_|refine .exit ?_|refine .then_exit ?_|refine .block_exit ?_|refine .block_other rfl ?_); try refine .run TBok 99 rfl ?_))
  refine StL.step rfl rfl rfl (RunsTo.loadR rfl rfl (B1) (h.1)).op ?_
  rintro _ _ ⟨rfl, rfl⟩
  refine StL.step rfl rfl rfl (OpR.call fn_r02_Normalize rfl (rnormalizeR_spec h)) ?_
  rintro v w3 ⟨hx3, hv⟩
  refine StL.step rfl rfl rfl (RunsTo.fieldD rfl rfl hv.1).op ?_
  rintro _ _ ⟨rfl, rfl⟩
  refine StL.step rfl rfl rfl (OpR.call fn_r01_Small rfl (rsmall_spec (base := 0) w3 1 (by decide) (by decide) (Nat.zero_le _))) ?_
  rintro u w4 ⟨hx4, hu⟩
  refine StL.step rfl rfl rfl (OpR.call fn_r01_Cmp rfl (rcmp_dn ((hv.2.2.ext hx4).dn (by omega)) (hu.dn (by decide +kernel)))) ?_
  rintro _ w5 ⟨hx5, rfl⟩
  refine StL.as TBok 1 (.bool (decide (q.den = 1))) rfl ?_ ?_
  · congr 1
    exact decide_eq_decide.2 (by rw [den_one])
  (iterate 6 ((repeat with_reducible first|refine .nil ?_|refine .then_normal ?_|refine .block_normal ?_|refine .seq ?_|refine .block ?_|refine .skip ?_|refine .region ?_|refine .ret ?_|refine .then_ret ?_|refine .block_ret ?_|refine .exit ?_|refine .then_exit ?_|refine .block_exit ?_|refine .block_other rfl ?_); try refine .run TBok 99 rfl ?_))
  exact Out.ret1 rfl rfl ⟨((hx1.trans hx3).trans hx4).trans hx5, rfl⟩

theorem rnegR_spec {w : World} {x : Value} {q : Rat} (h : DnS w x q) :
    Calls Try.prog 41 #[x] w (Ret fun r w' => Ext w w' ∧ CanR 0 w' r (-q)) := by
  have hz := h.rz
  have hzn := rz_num q
  refine calls_of_St (args := [_]) Try.func41 rfl Try.ntmps41 rfl ?_
  (repeat with_reducible first|refine .nil ?_|refine .then_normal ?_|refine .block_normal ?_|refine .seq ?_|refine .block ?_|refine .skip ?_|refine .region ?_|refine .ret ?_|refine .then_ret ?_|refine .block_ret ?_|refine .exit ?_|refine .then_exit ?_|refine .block_exit ?_|refine .block_other rfl ?_)
  refine StL.step rfl rfl rfl (OpR.box rfl) ?_
  rintro _ w1 ⟨rfl, B1, hx1, hz1⟩
  refine StL.step rfl rfl rfl (OpR.alloc TBok rfl) ?_
  rintro _ w2 ⟨rfl, B2, hx2, hz2⟩
  have hx0 : Ext w w2 := hx1.trans hx2
  replace B1 := B1.ext hx2
  replace h := h.ext hx0
  clear hx1 hx2
  (iterate 6 ((repeat with_reducible first|refine .nil ?_|refine .then_normal ?_|refine .block_normal ?_|refine .seq ?_|refine .block ?_|refine .skip ?_|refine .region ?_|refine .ret ?_|refine .then_ret ?_|refine .block_ret ?_|refine .exit ?_|refine .then_exit ?_|refine .block_exit ?_|refine .block_other rfl ?_); try refine .run TBok 99 rfl ?_))
  refine StL.step rfl rfl rfl (RunsTo.loadR rfl rfl (B1) (h.1)).op ?_
  rintro _ _ ⟨rfl, rfl⟩
  refine StL.step rfl rfl rfl (OpR.call fn_r02_Normalize rfl (rnormalizeR_spec h)) ?_
  rintro v w3 ⟨hx3, hv⟩
  replace B2 := B2.ext hx3
  replace hx0 := hx0.trans hx3
  clear hx3
  refine StL.newR rfl rfl (fun _ => rfl) hv.1 ?_
  intro b5 w5 hl5 hx5 B5
  replace B2 := B2.ext hx5
  replace hv := hv.ext hx5
  replace hx0 := hx0.trans hx5
  clear hx5
  (iterate 6 ((repeat with_reducible first|refine .nil ?_|refine .then_normal ?_|refine .block_normal ?_|refine .seq ?_|refine .block ?_|refine .skip ?_|refine .region ?_|refine .ret ?_|refine .then_ret ?_|refine .block_ret ?_|refine .exit ?_|refine .then_exit ?_|refine .block_exit ?_|refine .block_other rfl ?_); try refine .run TBok 99 rfl ?_))
  refine St.flow 5 TBfol (by kernel_rfl) rfl (by kernel_rfl) rfl True.intro ?_
  refine FL.run TBok 99 rfl ?_
  refine FL.one (L := []) rfl rfl rfl rfl rfl (fun _ hR => RunsTo.loadN rfl (hR.blk (B5) (by simp)) (hv.1)) ?_
  refine FL.callE fn_r01_Neg rfl rfl rfl (fun w6 hx6 => CallF.mk rfl (rneg_dn (base := 0) ((hv.2.1.ext hx6).dn (by omega)) (Nat.zero_le _))) (MonoR.canO 0 _) ?_
  refine FL.run TBok 99 rfl ?_
  refine FL.one (L := []) rfl rfl rfl rfl rfl (fun _ hR => RunsTo.loadD rfl (hR.blk (B5) (by simp)) (hv.1)) ?_
  refine FL.endE rfl ?_
  intro w6 hx6 u hu _ _
  replace B2 := B2.ext hx6
  replace hv := hv.ext hx6
  replace hx0 := hx0.trans hx6
  clear hx6
  refine StL.step rfl rfl rfl (RunsTo.buildR rfl rfl hu.r2 hv.1.two.2).op ?_
  rintro _ _ ⟨rfl, rfl⟩
  have hR : CanR 0 w6 (mkR u (dm v)) (-q) := CanR.mk hu hv.2.2
  refine StL.setR rfl rfl rfl hR.1 B2 rfl hx0 (by omega) ?_
  intro w12 B12 hu12 hx12
  (iterate 6 ((repeat with_reducible first|refine .nil ?_|refine .then_normal ?_|refine .block_normal ?_|refine .seq ?_|refine .block ?_|refine .skip ?_|refine .region ?_|refine .ret ?_|refine .then_ret ?_|refine .block_ret ?_|refine .exit ?_|refine .then_exit ?_|refine .block_exit ?_|refine .block_other rfl ?_); try refine .run TBok 99 rfl ?_))
  exact Out.retR rfl rfl B12 hR.1 ⟨hx12, hR.upd hu12 B2 (by decide)⟩

end Go.Qf

/- quadformref02.Add, Sub, Mul, Quo, Floor, Half, Nearest, Cmp, Format. -/
namespace Go.Qf
open Go Go.RowKit Go.Proofs
set_option maxRecDepth 20000

theorem NewV.rg {base : Nat} {T : Nat → Prop} {w w' : World} {r : Value} {a b : Int} (h : NewV base w r a b) (hR : Rg Try.prog T w w') : NewV base w' r a b :=
  ⟨h.1, fun h0 => by obtain ⟨v, e, hv⟩ := h.2 h0; exact ⟨v, e, hv.rg hR⟩⟩
theorem MonoR.newV (base : Nat) (a b : Int) : MonoR Try.prog (fun v w => NewV base w v a b) := fun _ _ _ hR h => h.rg hR

theorem add_divInt (p q : Rat) : Rat.divInt (p.num * q.den + q.num * p.den) (p.den * q.den) = p + q := by
  rw [← Rat.divInt_add_divInt p.num q.num (den_ne p) (den_ne q), Rat.num_divInt_den, Rat.num_divInt_den]
theorem mul_divInt (p q : Rat) : Rat.divInt (p.num * q.num) (p.den * q.den) = p * q := by
  rw [← Rat.divInt_mul_divInt, Rat.num_divInt_den, Rat.num_divInt_den]
theorem quo_divInt (p q : Rat) : Rat.divInt (p.num * q.den) (p.den * q.num) = p / q := by
  rw [← Rat.divInt_mul_divInt, Rat.num_divInt_den, ← Rat.inv_def, Rat.div_def]

set_option maxHeartbeats 1600000 in
theorem raddR_spec {w : World} {x y : Value} {p q : Rat} (h : DnS w x p) (k : DnS w y q) (hp : rz p ≤ 40000) (hq : rz q ≤ 40000) :
    Calls Try.prog 38 #[x, y] w (Ret fun r w' => Ext w w' ∧ CanR 0 w' r (p + q)) := by
  have h1 := rz_num p
  have h2 := rz_den p
  have h3 := rz_num q
  have h4 := rz_den q
  have m1 := sz_mul p.num (q.den : Int)
  have m2 := sz_mul q.num (p.den : Int)
  have m3 := sz_add (p.num * (q.den : Int)) (q.num * (p.den : Int))
  have m4 := sz_mul (p.den : Int) (q.den : Int)
  refine calls_of_St (args := [_, _]) Try.func38 rfl Try.ntmps38 rfl ?_
  (repeat with_reducible first|refine .nil ?_|refine .then_normal ?_|refine .block_normal ?_|refine .seq ?_|refine .block ?_|refine .skip ?_|refine .region ?_|refine .ret ?_|refine .then_ret ?_|refine .block_ret ?_|refine .exit ?_|refine .then_exit ?_|refine .block_exit ?_|refine .block_other rfl ?_)
  refine StL.step rfl rfl rfl (OpR.box rfl) ?_
  rintro _ w1 ⟨rfl, B1, hx1, hz1⟩
  refine StL.step rfl rfl rfl (OpR.box rfl) ?_
  rintro _ w2 ⟨rfl, B2, hx2, hz2⟩
  refine StL.step rfl rfl rfl (OpR.alloc TBok rfl) ?_
  rintro _ w3 ⟨rfl, B3, hx3, hz3⟩
  have hx0 : Ext w w3 := (hx1.trans hx2).trans hx3
  replace B1 := (B1.ext hx2).ext hx3
  replace B2 := B2.ext hx3
  replace h := h.ext hx0
  replace k := k.ext hx0
  clear hx1 hx2 hx3
  (iterate 6 ((repeat with_reducible first|refine .nil ?_|refine .then_normal ?_|refine .block_normal ?_|refine .seq ?_|refine .block ?_|refine .skip ?_|refine .region ?_|refine .ret ?_|refine .then_ret ?_|refine .block_ret ?_|refine .exit ?_|refine .then_exit ?_|refine .block_exit ?_|refine .block_other rfl ?_); try refine .run TBok 99 rfl ?_))
  refine St.flow 6 TBfol (by kernel_rfl) rfl (by kernel_rfl) rfl True.intro ?_
  refine FL.one (L := []) rfl rfl rfl rfl rfl (fun _ hR => RunsTo.loadR rfl rfl (hR.blk (B1) (by simp)) (h.1)) ?_
  refine FL.callE fn_r02_Normalize rfl rfl rfl (fun w4 hx4 => CallF.mk rfl (rnormalizeR_spec (h.ext hx4))) (MonoR.canR 0 _) ?_
  refine FL.one (L := []) rfl rfl rfl rfl rfl (fun _ hR => RunsTo.loadR rfl rfl (hR.blk (B2) (by simp)) (k.1)) ?_
  refine FL.callE fn_r02_Normalize rfl rfl rfl (fun w4 hx4 => CallF.mk rfl (rnormalizeR_spec (k.ext hx4))) (MonoR.canR 0 _) ?_
  refine FL.alloc TBok rfl rfl rfl rfl ?_
  refine FL.alloc TBok rfl rfl rfl rfl ?_
  refine FL.endE rfl ?_
  rintro w4 hx4 _ ⟨b7, C7, rfl, hg7, B7, hl7⟩ _ ⟨b6, C6, rfl, hg6, B6, hl6⟩ v hv u hu _ hdist
  refine StL.twoR rfl rfl rfl rfl rfl (fun e => hdist 5 (by decide) 6 (by decide) (by decide) _ rfl (by rw [e]; rfl)) B6 hl6 B7 hl7 hx4 hg6 hg7 hu hv ?_
  intro w8 hx8 B5' B6' hu hv
  replace hx0 := hx0.trans hx8
  replace B3 := B3.ext hx8
  clear hx8 hx4 B6 B7 hdist
  (repeat with_reducible first|refine .nil ?_|refine .then_normal ?_|refine .block_normal ?_|refine .seq ?_|refine .block ?_|refine .skip ?_|refine .region ?_|refine .ret ?_|refine .then_ret ?_|refine .block_ret ?_|refine .exit ?_|refine .then_exit ?_|refine .block_exit ?_|refine .block_other rfl ?_)
  refine St.sub (E' := [(4, .pointer (some ⟨w2.heap.size, 0, none⟩)), (5, .pointer (some ⟨b6, 0, none⟩)), (6, .pointer (some ⟨b7, 0, none⟩))]) ?_ ⟨rfl, rfl, rfl, trivial⟩
  refine St.flow 22 TBfol (by kernel_rfl) rfl (by kernel_rfl) rfl True.intro ?_
  refine FL.run TBok 99 rfl ?_
  refine FL.one (L := []) rfl rfl rfl rfl rfl (fun _ hR => RunsTo.loadN rfl (hR.blk (B5') (by simp)) (hu.1)) ?_
  refine FL.run TBok 99 rfl ?_
  refine FL.one (L := []) rfl rfl rfl rfl rfl (fun _ hR => RunsTo.loadD rfl (hR.blk (B6') (by simp)) (hv.1)) ?_
  refine FL.callE fn_r01_Mul rfl rfl rfl (fun w9 hx9 => CallF.mk rfl (rmul_dn (base := 0) ((hu.2.1.ext hx9).dn (by omega)) ((hv.2.2.ext hx9).dn (by omega)) (Nat.zero_le _))) (MonoR.canO 0 _) ?_
  refine FL.run TBok 99 rfl ?_
  refine FL.one (L := []) rfl rfl rfl rfl rfl (fun _ hR => RunsTo.loadN rfl (hR.blk (B6') (by simp)) (hv.1)) ?_
  refine FL.run TBok 99 rfl ?_
  refine FL.one (L := []) rfl rfl rfl rfl rfl (fun _ hR => RunsTo.loadD rfl (hR.blk (B5') (by simp)) (hu.1)) ?_
  refine FL.callE fn_r01_Mul rfl rfl rfl (fun w9 hx9 => CallF.mk rfl (rmul_dn (base := 0) ((hv.2.1.ext hx9).dn (by omega)) ((hu.2.2.ext hx9).dn (by omega)) (Nat.zero_le _))) (MonoR.canO 0 _) ?_
  refine FL.callE fn_r01_Add rfl rfl rfl (fun w9 hx9 t18 h18 t23 h23 => CallF.mk rfl (radd_dn (base := 0) (h18.dn (by omega)) (h23.dn (by omega)) (Nat.zero_le _))) (MonoR.canO 0 _) ?_
  refine FL.run TBok 99 rfl ?_
  refine FL.one (L := []) rfl rfl rfl rfl rfl (fun _ hR => RunsTo.loadD rfl (hR.blk (B5') (by simp)) (hu.1)) ?_
  refine FL.run TBok 99 rfl ?_
  refine FL.one (L := []) rfl rfl rfl rfl rfl (fun _ hR => RunsTo.loadD rfl (hR.blk (B6') (by simp)) (hv.1)) ?_
  refine FL.callE fn_r01_Mul rfl rfl rfl (fun w9 hx9 => CallF.mk rfl (rmul_dn (base := 0) ((hu.2.2.ext hx9).dn (by omega)) ((hv.2.2.ext hx9).dn (by omega)) (Nat.zero_le _))) (MonoR.canO 0 _) ?_
  refine FL.callE fn_r02_New rfl rfl rfl (fun w9 hx9 t24 h24 t29 h29 => CallF.mk rfl (rnew_spec (h24.dn (by omega)) (h29.dn (by omega)) (by omega) (by omega))) (MonoR.newV 0 _ _) ?_
  refine FL.fact (L := []) (ψ := fun r w' => ∃ t, r = .tuple #[t, .bool true] ∧ CanR 0 w' t (p + q)) rfl rfl rfl rfl rfl ?_ (fun _ _ _ hR ⟨t, e, ht⟩ => ⟨t, e, ht.rg hR⟩) ?_
  · intro w9 hR r hr
    obtain ⟨t, rfl, ht⟩ := hr.2 (Int.mul_ne_zero (den_ne p) (den_ne q))
    rw [add_divInt] at ht
    exact RunsTo.ext (RunsTo.pure TBok rfl) ⟨t, rfl, ht⟩
  refine FL.fact (L := []) (ψ := fun v w' => CanR 0 w' v (p + q)) rfl rfl rfl rfl rfl ?_ (MonoR.canR 0 _) ?_
  · rintro w9 hR r ⟨t, rfl, ht⟩
    exact RunsTo.ext (RunsTo.pure TBok rfl) ht
  refine FL.exact (L := []) (c := .bool true) rfl rfl rfl rfl rfl ?_ ?_
  · rintro w9 hR r ⟨t, rfl, ht⟩
    exact RunsTo.ext (ψ := fun v _ => v = .bool true) (RunsTo.pure TBok rfl) rfl
  refine FL.alloc TBok rfl rfl rfl rfl ?_
  refine FL.storeN (L := []) (base := w8.heap.size) TBok rfl rfl rfl rfl rfl (MonoR.canR 0 (p + q)) ?_ ?_
  · intro w9 hR v7 h7 t31 h31
    exact ⟨⟨v7, rfl, h7⟩, t31, rfl, h31.1.len, h31.1.ones, h31⟩
  refine FL.endE rfl ?_
  rintro w9 hx9 _ ⟨bb, CC, rfl, _, _, _⟩ _ _ _ _ _ _ _ _ _ _ _ _ _ _ ⟨⟨bb', t, hbb, BB, ht⟩, _⟩ _
  cases hbb
  replace B3 := B3.ext hx9
  replace hx0 := hx0.trans hx9
  clear hx9
  (iterate 6 ((repeat with_reducible first|refine .nil ?_|refine .then_normal ?_|refine .block_normal ?_|refine .seq ?_|refine .block ?_|refine .skip ?_|refine .region ?_|refine .ret ?_|refine .then_ret ?_|refine .block_ret ?_|refine .exit ?_|refine .then_exit ?_|refine .block_exit ?_|refine .block_other rfl ?_); try refine .run TBok 99 rfl ?_))
  refine StL.step rfl rfl rfl (RunsTo.loadR rfl rfl (BB) (ht.1)).op ?_
  rintro _ _ ⟨rfl, rfl⟩
  refine StL.setR rfl rfl rfl ht.1 B3 rfl hx0 (by omega) ?_
  intro w12 B12 hu12 hx12
  (iterate 6 ((repeat with_reducible first|refine .nil ?_|refine .then_normal ?_|refine .block_normal ?_|refine .seq ?_|refine .block ?_|refine .skip ?_|refine .region ?_|refine .ret ?_|refine .then_ret ?_|refine .block_ret ?_|refine .exit ?_|refine .then_exit ?_|refine .block_exit ?_|refine .block_other rfl ?_); try refine .run TBok 99 rfl ?_))
  exact Out.retR rfl rfl B12 ht.1 ⟨hx12, ht.upd hu12 B3 (by decide)⟩

set_option maxHeartbeats 1600000 in
theorem rmulR_spec {w : World} {x y : Value} {p q : Rat} (h : DnS w x p) (k : DnS w y q) (hp : rz p ≤ 40000) (hq : rz q ≤ 40000) :
    Calls Try.prog 52 #[x, y] w (Ret fun r w' => Ext w w' ∧ CanR 0 w' r (p * q)) := by
  have h1 := rz_num p
  have h2 := rz_den p
  have h3 := rz_num q
  have h4 := rz_den q
  have m1 := sz_mul p.num q.num
  have m4 := sz_mul (p.den : Int) (q.den : Int)
  refine calls_of_St (args := [_, _]) Try.func52 rfl Try.ntmps52 rfl ?_
  (repeat with_reducible first|refine .nil ?_|refine .then_normal ?_|refine .block_normal ?_|refine .seq ?_|refine .block ?_|refine .skip ?_|refine .region ?_|refine .ret ?_|refine .then_ret ?_|refine .block_ret ?_|refine .exit ?_|refine .then_exit ?_|refine .block_exit ?_|refine .block_other rfl ?_)
  refine StL.step rfl rfl rfl (OpR.box rfl) ?_
  rintro _ w1 ⟨rfl, B1, hx1, hz1⟩
  refine StL.step rfl rfl rfl (OpR.box rfl) ?_
  rintro _ w2 ⟨rfl, B2, hx2, hz2⟩
  refine StL.step rfl rfl rfl (OpR.alloc TBok rfl) ?_
  rintro _ w3 ⟨rfl, B3, hx3, hz3⟩
  have hx0 : Ext w w3 := (hx1.trans hx2).trans hx3
  replace B1 := (B1.ext hx2).ext hx3
  replace B2 := B2.ext hx3
  replace h := h.ext hx0
  replace k := k.ext hx0
  clear hx1 hx2 hx3
  (iterate 6 ((repeat with_reducible first|refine .nil ?_|refine .then_normal ?_|refine .block_normal ?_|refine .seq ?_|refine .block ?_|refine .skip ?_|refine .region ?_|refine .ret ?_|refine .then_ret ?_|refine .block_ret ?_|refine .exit ?_|refine .then_exit ?_|refine .block_exit ?_|refine .block_other rfl ?_); try refine .run TBok 99 rfl ?_))
  refine St.flow 6 TBfol (by kernel_rfl) rfl (by kernel_rfl) rfl True.intro ?_
  refine FL.one (L := []) rfl rfl rfl rfl rfl (fun _ hR => RunsTo.loadR rfl rfl (hR.blk (B1) (by simp)) (h.1)) ?_
  refine FL.callE fn_r02_Normalize rfl rfl rfl (fun w4 hx4 => CallF.mk rfl (rnormalizeR_spec (h.ext hx4))) (MonoR.canR 0 _) ?_
  refine FL.one (L := []) rfl rfl rfl rfl rfl (fun _ hR => RunsTo.loadR rfl rfl (hR.blk (B2) (by simp)) (k.1)) ?_
  refine FL.callE fn_r02_Normalize rfl rfl rfl (fun w4 hx4 => CallF.mk rfl (rnormalizeR_spec (k.ext hx4))) (MonoR.canR 0 _) ?_
  refine FL.alloc TBok rfl rfl rfl rfl ?_
  refine FL.alloc TBok rfl rfl rfl rfl ?_
  refine FL.endE rfl ?_
  rintro w4 hx4 _ ⟨b7, C7, rfl, hg7, B7, hl7⟩ _ ⟨b6, C6, rfl, hg6, B6, hl6⟩ v hv u hu _ hdist
  refine StL.twoR rfl rfl rfl rfl rfl (fun e => hdist 5 (by decide) 6 (by decide) (by decide) _ rfl (by rw [e]; rfl)) B6 hl6 B7 hl7 hx4 hg6 hg7 hu hv ?_
  intro w8 hx8 B5' B6' hu hv
  replace hx0 := hx0.trans hx8
  replace B3 := B3.ext hx8
  clear hx8 hx4 B6 B7 hdist
  (repeat with_reducible first|refine .nil ?_|refine .then_normal ?_|refine .block_normal ?_|refine .seq ?_|refine .block ?_|refine .skip ?_|refine .region ?_|refine .ret ?_|refine .then_ret ?_|refine .block_ret ?_|refine .exit ?_|refine .then_exit ?_|refine .block_exit ?_|refine .block_other rfl ?_)
  refine St.sub (E' := [(4, .pointer (some ⟨w2.heap.size, 0, none⟩)), (5, .pointer (some ⟨b6, 0, none⟩)), (6, .pointer (some ⟨b7, 0, none⟩))]) ?_ ⟨rfl, rfl, rfl, trivial⟩
  refine St.flow 16 TBfol (by kernel_rfl) rfl (by kernel_rfl) rfl True.intro ?_
  refine FL.run TBok 99 rfl ?_
  refine FL.one (L := []) rfl rfl rfl rfl rfl (fun _ hR => RunsTo.loadN rfl (hR.blk (B5') (by simp)) (hu.1)) ?_
  refine FL.run TBok 99 rfl ?_
  refine FL.one (L := []) rfl rfl rfl rfl rfl (fun _ hR => RunsTo.loadN rfl (hR.blk (B6') (by simp)) (hv.1)) ?_
  refine FL.callE fn_r01_Mul rfl rfl rfl (fun w9 hx9 => CallF.mk rfl (rmul_dn (base := 0) ((hu.2.1.ext hx9).dn (by omega)) ((hv.2.1.ext hx9).dn (by omega)) (Nat.zero_le _))) (MonoR.canO 0 _) ?_
  refine FL.run TBok 99 rfl ?_
  refine FL.one (L := []) rfl rfl rfl rfl rfl (fun _ hR => RunsTo.loadD rfl (hR.blk (B5') (by simp)) (hu.1)) ?_
  refine FL.run TBok 99 rfl ?_
  refine FL.one (L := []) rfl rfl rfl rfl rfl (fun _ hR => RunsTo.loadD rfl (hR.blk (B6') (by simp)) (hv.1)) ?_
  refine FL.callE fn_r01_Mul rfl rfl rfl (fun w9 hx9 => CallF.mk rfl (rmul_dn (base := 0) ((hu.2.2.ext hx9).dn (by omega)) ((hv.2.2.ext hx9).dn (by omega)) (Nat.zero_le _))) (MonoR.canO 0 _) ?_
  refine FL.callE fn_r02_New rfl rfl rfl (fun w9 hx9 t24 h24 t29 h29 => CallF.mk rfl (rnew_spec (h24.dn (by omega)) (h29.dn (by omega)) (by omega) (by omega))) (MonoR.newV 0 _ _) ?_
  refine FL.fact (L := []) (ψ := fun r w' => ∃ t, r = .tuple #[t, .bool true] ∧ CanR 0 w' t (p * q)) rfl rfl rfl rfl rfl ?_ (fun _ _ _ hR ⟨t, e, ht⟩ => ⟨t, e, ht.rg hR⟩) ?_
  · intro w9 hR r hr
    obtain ⟨t, rfl, ht⟩ := hr.2 (Int.mul_ne_zero (den_ne p) (den_ne q))
    rw [mul_divInt] at ht
    exact RunsTo.ext (RunsTo.pure TBok rfl) ⟨t, rfl, ht⟩
  refine FL.fact (L := []) (ψ := fun v w' => CanR 0 w' v (p * q)) rfl rfl rfl rfl rfl ?_ (MonoR.canR 0 _) ?_
  · rintro w9 hR r ⟨t, rfl, ht⟩
    exact RunsTo.ext (RunsTo.pure TBok rfl) ht
  refine FL.exact (L := []) (c := .bool true) rfl rfl rfl rfl rfl ?_ ?_
  · rintro w9 hR r ⟨t, rfl, ht⟩
    exact RunsTo.ext (ψ := fun v _ => v = .bool true) (RunsTo.pure TBok rfl) rfl
  refine FL.alloc TBok rfl rfl rfl rfl ?_
  refine FL.storeN (L := []) (base := w8.heap.size) TBok rfl rfl rfl rfl rfl (MonoR.canR 0 (p * q)) ?_ ?_
  · intro w9 hR v7 h7 t31 h31
    exact ⟨⟨v7, rfl, h7⟩, t31, rfl, h31.1.len, h31.1.ones, h31⟩
  refine FL.endE rfl ?_
  rintro w9 hx9 _ ⟨bb, CC, rfl, _, _, _⟩ _ _ _ _ _ _ _ _ _ _ ⟨⟨bb', t, hbb, BB, ht⟩, _⟩ _
  cases hbb
  replace B3 := B3.ext hx9
  replace hx0 := hx0.trans hx9
  clear hx9
  (iterate 6 ((repeat with_reducible first|refine .nil ?_|refine .then_normal ?_|refine .block_normal ?_|refine .seq ?_|refine .block ?_|refine .skip ?_|refine .region ?_|refine .ret ?_|refine .then_ret ?_|refine .block_ret ?_|refine .exit ?_|refine .then_exit ?_|refine .block_exit ?_|refine .block_other rfl ?_); try refine .run TBok 99 rfl ?_))
  refine StL.step rfl rfl rfl (RunsTo.loadR rfl rfl (BB) (ht.1)).op ?_
  rintro _ _ ⟨rfl, rfl⟩
  refine StL.setR rfl rfl rfl ht.1 B3 rfl hx0 (by omega) ?_
  intro w12 B12 hu12 hx12
  (iterate 6 ((repeat with_reducible first|refine .nil ?_|refine .then_normal ?_|refine .block_normal ?_|refine .seq ?_|refine .block ?_|refine .skip ?_|refine .region ?_|refine .ret ?_|refine .then_ret ?_|refine .block_ret ?_|refine .exit ?_|refine .then_exit ?_|refine .block_exit ?_|refine .block_other rfl ?_); try refine .run TBok 99 rfl ?_))
  exact Out.retR rfl rfl B12 ht.1 ⟨hx12, ht.upd hu12 B3 (by decide)⟩

set_option maxHeartbeats 1600000 in
theorem rquoR_spec {w : World} {x y : Value} {p q : Rat} (h : DnS w x p) (k : DnS w y q) (hp : rz p ≤ 40000) (hq : rz q ≤ 40000) :
    Calls Try.prog 59 #[x, y] w (Ret fun r w' => Ext w w' ∧ QuoV w' r p q) := by
  have h1 := rz_num p
  have h2 := rz_den p
  have h3 := rz_num q
  have h4 := rz_den q
  have m1 := sz_mul p.num (q.den : Int)
  have m4 := sz_mul (p.den : Int) q.num
  refine calls_of_St (args := [_, _]) Try.func59 rfl Try.ntmps59 rfl ?_
  (repeat with_reducible first|refine .nil ?_|refine .then_normal ?_|refine .block_normal ?_|refine .seq ?_|refine .block ?_|refine .skip ?_|refine .region ?_|refine .ret ?_|refine .then_ret ?_|refine .block_ret ?_|refine .exit ?_|refine .then_exit ?_|refine .block_exit ?_|refine .block_other rfl ?_)
  refine StL.step rfl rfl rfl (OpR.box rfl) ?_
  rintro _ w1 ⟨rfl, B1, hx1, hz1⟩
  refine StL.step rfl rfl rfl (OpR.box rfl) ?_
  rintro _ w2 ⟨rfl, B2, hx2, hz2⟩
  refine StL.step rfl rfl rfl (OpR.alloc TBok rfl) ?_
  rintro _ w3 ⟨rfl, B3, hx3, hz3⟩
  have hx0 : Ext w w3 := (hx1.trans hx2).trans hx3
  replace B1 := (B1.ext hx2).ext hx3
  replace B2 := B2.ext hx3
  replace h := h.ext hx0
  replace k := k.ext hx0
  clear hx1 hx2 hx3
  (iterate 6 ((repeat with_reducible first|refine .nil ?_|refine .then_normal ?_|refine .block_normal ?_|refine .seq ?_|refine .block ?_|refine .skip ?_|refine .region ?_|refine .ret ?_|refine .then_ret ?_|refine .block_ret ?_|refine .exit ?_|refine .then_exit ?_|refine .block_exit ?_|refine .block_other rfl ?_); try refine .run TBok 99 rfl ?_))
  refine St.flow 6 TBfol (by kernel_rfl) rfl (by kernel_rfl) rfl True.intro ?_
  refine FL.one (L := []) rfl rfl rfl rfl rfl (fun _ hR => RunsTo.loadR rfl rfl (hR.blk (B1) (by simp)) (h.1)) ?_
  refine FL.callE fn_r02_Normalize rfl rfl rfl (fun w4 hx4 => CallF.mk rfl (rnormalizeR_spec (h.ext hx4))) (MonoR.canR 0 _) ?_
  refine FL.one (L := []) rfl rfl rfl rfl rfl (fun _ hR => RunsTo.loadR rfl rfl (hR.blk (B2) (by simp)) (k.1)) ?_
  refine FL.callE fn_r02_Normalize rfl rfl rfl (fun w4 hx4 => CallF.mk rfl (rnormalizeR_spec (k.ext hx4))) (MonoR.canR 0 _) ?_
  refine FL.alloc TBok rfl rfl rfl rfl ?_
  refine FL.alloc TBok rfl rfl rfl rfl ?_
  refine FL.endE rfl ?_
  rintro w4 hx4 _ ⟨b7, C7, rfl, hg7, B7, hl7⟩ _ ⟨b6, C6, rfl, hg6, B6, hl6⟩ v hv u hu _ hdist
  refine StL.twoR rfl rfl rfl rfl rfl (fun e => hdist 6 (by decide) 7 (by decide) (by decide) _ rfl (by rw [e]; rfl)) B6 hl6 B7 hl7 hx4 hg6 hg7 hu hv ?_
  intro w8 hx8 B5' B6' hu hv
  replace hx0 := hx0.trans hx8
  replace B3 := B3.ext hx8
  clear hx8 hx4 B6 B7 hdist
  (repeat with_reducible first|refine .nil ?_|refine .then_normal ?_|refine .block_normal ?_|refine .seq ?_|refine .block ?_|refine .skip ?_|refine .region ?_|refine .ret ?_|refine .then_ret ?_|refine .block_ret ?_|refine .exit ?_|refine .then_exit ?_|refine .block_exit ?_|refine .block_other rfl ?_)
  refine St.sub (E' := [(4, .pointer (some ⟨w2.heap.size, 0, none⟩)), (6, .pointer (some ⟨b6, 0, none⟩)), (7, .pointer (some ⟨b7, 0, none⟩))]) ?_ ⟨rfl, rfl, rfl, trivial⟩
  refine St.flow 13 TBfol (by kernel_rfl) rfl (by kernel_rfl) rfl True.intro ?_
  refine FL.run TBok 99 rfl ?_
  refine FL.one (L := []) rfl rfl rfl rfl rfl (fun _ hR => RunsTo.loadN rfl (hR.blk (B5') (by simp)) (hu.1)) ?_
  refine FL.run TBok 99 rfl ?_
  refine FL.one (L := []) rfl rfl rfl rfl rfl (fun _ hR => RunsTo.loadD rfl (hR.blk (B6') (by simp)) (hv.1)) ?_
  refine FL.callE fn_r01_Mul rfl rfl rfl (fun w9 hx9 => CallF.mk rfl (rmul_dn (base := 0) ((hu.2.1.ext hx9).dn (by omega)) ((hv.2.2.ext hx9).dn (by omega)) (Nat.zero_le _))) (MonoR.canO 0 _) ?_
  refine FL.run TBok 99 rfl ?_
  refine FL.one (L := []) rfl rfl rfl rfl rfl (fun _ hR => RunsTo.loadD rfl (hR.blk (B5') (by simp)) (hu.1)) ?_
  refine FL.run TBok 99 rfl ?_
  refine FL.one (L := []) rfl rfl rfl rfl rfl (fun _ hR => RunsTo.loadN rfl (hR.blk (B6') (by simp)) (hv.1)) ?_
  refine FL.callE fn_r01_Mul rfl rfl rfl (fun w9 hx9 => CallF.mk rfl (rmul_dn (base := 0) ((hu.2.2.ext hx9).dn (by omega)) ((hv.2.1.ext hx9).dn (by omega)) (Nat.zero_le _))) (MonoR.canO 0 _) ?_
  refine FL.callE fn_r02_New rfl rfl rfl (fun w9 hx9 t24 h24 t29 h29 => CallF.mk rfl (rnew_spec (h24.dn (by omega)) (h29.dn (by omega)) (by omega) (by omega))) (MonoR.newV 0 _ _) ?_
  have hz : (p.den : Int) * q.num = 0 ↔ q = 0 := by
    rw [← num_eq0]
    constructor
    · intro e
      rcases Int.mul_eq_zero.1 e with e | e
      · exact absurd e (den_ne p)
      · exact e
    · intro e; rw [e, Int.mul_zero]
  refine FL.fact (L := []) (ψ := fun v w' => R4 v ∧ (q = 0 → v = zR) ∧ (q ≠ 0 → CanR 0 w' v (p / q))) rfl rfl rfl rfl rfl ?_ (fun _ _ _ hR h => ⟨h.1, h.2.1, fun e => (h.2.2 e).rg hR⟩) ?_
  · intro w9 hR r hr
    by_cases e : q = 0
    · rw [hr.1 (hz.2 e)]
      exact RunsTo.ext (RunsTo.pure TBok rfl) ⟨zR_R4, fun _ => rfl, fun h => absurd e h⟩
    · obtain ⟨t, rfl, ht⟩ := hr.2 (fun h => e (hz.1 h))
      rw [quo_divInt] at ht
      exact RunsTo.ext (RunsTo.pure TBok rfl) ⟨ht.1, fun h => absurd h e, fun _ => ht⟩
  refine FL.exact (L := []) (c := .bool (decide (q ≠ 0))) rfl rfl rfl rfl rfl ?_ ?_
  · intro w9 hR r hr
    by_cases e : q = 0
    · rw [hr.1 (hz.2 e), decide_eq_false (fun h => h e)]
      exact RunsTo.ext (ψ := fun v _ => v = .bool false) (RunsTo.pure TBok rfl) rfl
    · obtain ⟨t, rfl, ht⟩ := hr.2 (fun h => e (hz.1 h))
      rw [decide_eq_true e]
      exact RunsTo.ext (ψ := fun v _ => v = .bool true) (RunsTo.pure TBok rfl) rfl
  refine FL.endE rfl ?_
  rintro w9 hx9 t ht _ _ _ _ _ _ _ _
  replace B3 := B3.ext hx9
  replace hx0 := hx0.trans hx9
  clear hx9
  refine StL.setR rfl rfl rfl ht.1 B3 rfl hx0 (by omega) ?_
  intro w12 B12 hu12 hx12
  (iterate 6 ((repeat with_reducible first|refine .nil ?_|refine .then_normal ?_|refine .block_normal ?_|refine .seq ?_|refine .block ?_|refine .skip ?_|refine .region ?_|refine .ret ?_|refine .then_ret ?_|refine .block_ret ?_|refine .exit ?_|refine .then_exit ?_|refine .block_exit ?_|refine .block_other rfl ?_); try refine .run TBok 99 rfl ?_))
  refine Out.retRT rfl rfl rfl B12 ht.1 ⟨hx12, fun e => ?_, fun e => ⟨t, ?_, (ht.2.2 e).upd hu12 B3 (by decide)⟩⟩
  · rw [ht.2.1 e, decide_eq_false (fun h => h e)]
  · rw [decide_eq_true e]

theorem rsubR_spec {w : World} {x y : Value} {p q : Rat} (h : DnS w x p) (k : DnS w y q) (hp : rz p ≤ 40000) (hq : rz q ≤ 40000) :
    Calls Try.prog 36 #[x, y] w (Ret fun r w' => Ext w w' ∧ CanR 0 w' r (p - q)) := by
  have hzn := rz_neg q
  refine calls_of_St (args := [_, _]) Try.func36 rfl Try.ntmps36 rfl ?_
  (repeat with_reducible first|refine .nil ?_|refine .then_normal ?_|refine .block_normal ?_|refine .seq ?_|refine .block ?_|refine .skip ?_|refine .region ?_|refine .ret ?_|refine .then_ret ?_|refine .block_ret ?_|refine .exit ?_|refine .then_exit ?_|refine .block_exit ?_|refine .block_other rfl ?_)
  refine StL.step rfl rfl rfl (OpR.box rfl) ?_
  rintro _ w1 ⟨rfl, B1, hx1, hz1⟩
  refine StL.step rfl rfl rfl (OpR.box rfl) ?_
  rintro _ w2 ⟨rfl, B2, hx2, hz2⟩
  refine StL.step rfl rfl rfl (OpR.alloc TBok rfl) ?_
  rintro _ w3 ⟨rfl, B3, hx3, hz3⟩
  have hx0 : Ext w w3 := (hx1.trans hx2).trans hx3
  replace B1 := (B1.ext hx2).ext hx3
  replace B2 := B2.ext hx3
  replace h := h.ext hx0
  replace k := k.ext hx0
  clear hx1 hx2 hx3
  (iterate 6 ((repeat with_reducible first|refine .nil ?_|refine .then_normal ?_|refine .block_normal ?_|refine .seq ?_|refine .block ?_|refine .skip ?_|refine .region ?_|refine .ret ?_|refine .then_ret ?_|refine .block_ret ?_|refine .exit ?_|refine .then_exit ?_|refine .block_exit ?_|refine .block_other rfl ?_); try refine .run TBok 99 rfl ?_))
  refine St.flow 3 TBfol (by kernel_rfl) rfl (by kernel_rfl) rfl True.intro ?_
  refine FL.one (L := []) rfl rfl rfl rfl rfl (fun _ hR => RunsTo.loadR rfl rfl (hR.blk (B1) (by simp)) (h.1)) ?_
  refine FL.one (L := []) rfl rfl rfl rfl rfl (fun _ hR => RunsTo.loadR rfl rfl (hR.blk (B2) (by simp)) (k.1)) ?_
  refine FL.callE fn_r02_Neg rfl rfl rfl (fun w4 hx4 => CallF.mk rfl (rnegR_spec (k.ext hx4))) (MonoR.canR 0 _) ?_
  refine FL.endE rfl ?_
  intro w4 hx4 u hu _ _
  replace B3 := B3.ext hx4
  replace h := h.ext hx4
  replace hx0 := hx0.trans hx4
  clear hx4
  refine StL.step rfl rfl rfl (OpR.call fn_r02_Add rfl (raddR_spec h (hu.dnS (by omega)) hp (by omega))) ?_
  rintro v w6 ⟨hx6, hv⟩
  rw [← Rat.sub_eq_add_neg] at hv
  replace B3 := B3.ext hx6
  replace hx0 := hx0.trans hx6
  clear hx6
  refine StL.setR rfl rfl rfl hv.1 B3 rfl hx0 (by omega) ?_
  intro w12 B12 hu12 hx12
  (iterate 6 ((repeat with_reducible first|refine .nil ?_|refine .then_normal ?_|refine .block_normal ?_|refine .seq ?_|refine .block ?_|refine .skip ?_|refine .region ?_|refine .ret ?_|refine .then_ret ?_|refine .block_ret ?_|refine .exit ?_|refine .then_exit ?_|refine .block_exit ?_|refine .block_other rfl ?_); try refine .run TBok 99 rfl ?_))
  exact Out.retR rfl rfl B12 hv.1 ⟨hx12, hv.upd hu12 B3 (by decide)⟩

theorem rcmpR_spec {w : World} {x y : Value} {p q : Rat} (h : DnS w x p) (k : DnS w y q) (hp : rz p ≤ 40000) (hq : rz q ≤ 40000) :
    Calls Try.prog 37 #[x, y] w (Ret fun r w' => Ext w w' ∧ r = .int .i64 (cmpR p q)) := by
  have hzs := rz_sub p q
  refine calls_of_St (args := [_, _]) Try.func37 rfl Try.ntmps37 rfl ?_
  (repeat with_reducible first|refine .nil ?_|refine .then_normal ?_|refine .block_normal ?_|refine .seq ?_|refine .block ?_|refine .skip ?_|refine .region ?_|refine .ret ?_|refine .then_ret ?_|refine .block_ret ?_|refine .exit ?_|refine .then_exit ?_|refine .block_exit ?_|refine .block_other rfl ?_)
  refine StL.step rfl rfl rfl (OpR.box rfl) ?_
  rintro _ w1 ⟨rfl, B1, hx1, hz1⟩
  refine StL.step rfl rfl rfl (OpR.box rfl) ?_
  rintro _ w2 ⟨rfl, B2, hx2, hz2⟩
  have hx0 : Ext w w2 := hx1.trans hx2
  replace B1 := B1.ext hx2
  replace h := h.ext hx0
  replace k := k.ext hx0
  clear hx1 hx2
  (iterate 6 ((repeat with_reducible first|refine .nil ?_|refine .then_normal ?_|refine .block_normal ?_|refine .seq ?_|refine .block ?_|refine .skip ?_|refine .region ?_|refine .ret ?_|refine .then_ret ?_|refine .block_ret ?_|refine .exit ?_|refine .then_exit ?_|refine .block_exit ?_|refine .block_other rfl ?_); try refine .run TBok 99 rfl ?_))
  refine StL.step rfl rfl rfl (RunsTo.loadR rfl rfl (B1) (h.1)).op ?_
  rintro _ _ ⟨rfl, rfl⟩
  refine StL.step rfl rfl rfl (RunsTo.loadR rfl rfl (B2) (k.1)).op ?_
  rintro _ _ ⟨rfl, rfl⟩
  refine StL.step rfl rfl rfl (OpR.call fn_r02_Sub rfl (rsubR_spec h k hp hq)) ?_
  rintro v w3 ⟨hx3, hv⟩
  refine StL.step rfl rfl rfl (OpR.call fn_r02_Sign rfl (rsignR_spec (hv.dnS (by omega)))) ?_
  rintro _ w4 ⟨hx4, rfl⟩
  rw [sign_subR]
  (iterate 6 ((repeat with_reducible first|refine .nil ?_|refine .then_normal ?_|refine .block_normal ?_|refine .seq ?_|refine .block ?_|refine .skip ?_|refine .region ?_|refine .ret ?_|refine .then_ret ?_|refine .block_ret ?_|refine .exit ?_|refine .then_exit ?_|refine .block_exit ?_|refine .block_other rfl ?_); try refine .run TBok 99 rfl ?_))
  exact Out.ret1 rfl rfl ⟨(hx0.trans hx3).trans hx4, rfl⟩

theorem rfloorR_spec {w : World} {x : Value} {q : Rat} (h : DnS w x q) :
    Calls Try.prog 33 #[x] w (Ret fun r w' => Ext w w' ∧ CanO 0 w' r q.floor) := by
  have hz := h.rz
  have hzn := rz_num q
  have hzd := rz_den q
  refine calls_of_St (args := [_]) Try.func33 rfl Try.ntmps33 rfl ?_
  (repeat with_reducible first|refine .nil ?_|refine .then_normal ?_|refine .block_normal ?_|refine .seq ?_|refine .block ?_|refine .skip ?_|refine .region ?_|refine .ret ?_|refine .then_ret ?_|refine .block_ret ?_|refine .exit ?_|refine .then_exit ?_|refine .block_exit ?_|refine .block_other rfl ?_)
  refine StL.step rfl rfl rfl (OpR.box rfl) ?_
  rintro _ w1 ⟨rfl, B1, hx1, hz1⟩
  refine StL.step rfl rfl rfl (OpR.alloc TBok rfl) ?_
  rintro _ w2 ⟨rfl, B2, hx2, hz2⟩
  have hx0 : Ext w w2 := hx1.trans hx2
  replace B1 := B1.ext hx2
  replace h := h.ext hx0
  clear hx1 hx2
  (iterate 6 ((repeat with_reducible first|refine .nil ?_|refine .then_normal ?_|refine .block_normal ?_|refine .seq ?_|refine .block ?_|refine .skip ?_|refine .region ?_|refine .ret ?_|refine .then_ret ?_|refine .block_ret ?_|refine .exit ?_|refine .then_exit ?_|refine .block_exit ?_|refine .block_other rfl ?_); try refine .run TBok 99 rfl ?_))
  refine StL.step rfl rfl rfl (RunsTo.loadR rfl rfl (B1) (h.1)).op ?_
  rintro _ _ ⟨rfl, rfl⟩
  refine StL.step rfl rfl rfl (OpR.call fn_r02_Normalize rfl (rnormalizeR_spec h)) ?_
  rintro v w3 ⟨hx3, hv⟩
  replace B2 := B2.ext hx3
  replace hx0 := hx0.trans hx3
  clear hx3
  refine StL.newR rfl rfl (fun _ => rfl) hv.1 ?_
  intro b5 w5 hl5 hx5 B5
  replace B2 := B2.ext hx5
  replace hv := hv.ext hx5
  replace hx0 := hx0.trans hx5
  clear hx5
  (iterate 6 ((repeat with_reducible first|refine .nil ?_|refine .then_normal ?_|refine .block_normal ?_|refine .seq ?_|refine .block ?_|refine .skip ?_|refine .region ?_|refine .ret ?_|refine .then_ret ?_|refine .block_ret ?_|refine .exit ?_|refine .then_exit ?_|refine .block_exit ?_|refine .block_other rfl ?_); try refine .run TBok 99 rfl ?_))
  refine StL.step rfl rfl rfl (RunsTo.loadN rfl (B5) (hv.1)).op ?_
  rintro _ _ ⟨rfl, rfl⟩
  refine .run TBok 99 rfl ?_
  refine StL.step rfl rfl rfl (RunsTo.loadD rfl (B5) (hv.1)).op ?_
  rintro _ _ ⟨rfl, rfl⟩
  refine StL.step rfl rfl rfl (OpR.call fn_r01_Quo rfl (rquo_dn (hv.2.1.dn (by omega)) (hv.2.2.dn (by omega)) (den_ne q) ⟨by omega, by omega⟩)) ?_
  rintro u w6 ⟨hx6, hu⟩
  rw [← Rat.floor_def] at hu
  replace B2 := B2.ext hx6
  replace hx0 := hx0.trans hx6
  clear hx6
  refine StL.setCan rfl rfl B2 rfl hu hx0 (by omega) ?_
  intro w8 B8 hu8 hu7' hx8
  (iterate 6 ((repeat with_reducible first|refine .nil ?_|refine .then_normal ?_|refine .block_normal ?_|refine .seq ?_|refine .block ?_|refine .skip ?_|refine .region ?_|refine .ret ?_|refine .then_ret ?_|refine .block_ret ?_|refine .exit ?_|refine .then_exit ?_|refine .block_exit ?_|refine .block_other rfl ?_); try refine .run TBok 99 rfl ?_))
  exact Out.retI rfl rfl B8 hu7' ⟨hx8, hu7'⟩

theorem canR_half {w : World} {u v : Value} (hu : CanO 0 w u 1) (hv : CanO 0 w v 2) : CanR 0 w (mkR u v) (Rat.divInt 1 2) :=
  CanR.mk (by rw [show (Rat.divInt 1 2).num = 1 from by decide +kernel]; exact hu) (by rw [show ((Rat.divInt 1 2).den : Int) = 2 from by decide +kernel]; exact hv)

theorem rhalf_spec (w : World) : Calls Try.prog 40 #[] w (Ret fun r w' => Ext w w' ∧ CanR 0 w' r (Rat.divInt 1 2)) := by
  refine calls_of_St (args := []) Try.func40 rfl Try.ntmps40 rfl ?_
  (repeat with_reducible first|refine .nil ?_|refine .then_normal ?_|refine .block_normal ?_|refine .seq ?_|refine .block ?_|refine .skip ?_|refine .region ?_|refine .ret ?_|refine .then_ret ?_|refine .block_ret ?_|refine .exit ?_|refine .then_exit ?_|refine .block_exit ?_|refine .block_other rfl ?_)
  refine StL.step rfl rfl rfl (OpR.alloc TBok rfl) ?_
  rintro _ w2 ⟨rfl, B2, hx0, hz2⟩
  (iterate 6 ((repeat with_reducible first|refine .nil ?_|refine .then_normal ?_|refine .block_normal ?_|refine .seq ?_|refine .block ?_|refine .skip ?_|refine .region ?_|refine .ret ?_|refine .then_ret ?_|refine .block_ret ?_|refine .exit ?_|refine .then_exit ?_|refine .block_exit ?_|refine .block_other rfl ?_); try refine .run TBok 99 rfl ?_))
  refine StL.step rfl rfl rfl (OpR.call fn_r01_Small rfl (rsmall_spec (base := 0) w2 1 (by decide) (by decide) (Nat.zero_le _))) ?_
  rintro u w3 ⟨hx3, hu⟩
  replace B2 := B2.ext hx3
  replace hx0 := hx0.trans hx3
  clear hx3
  refine StL.step rfl rfl rfl (OpR.call fn_r01_Small rfl (rsmall_spec (base := 0) w3 2 (by decide) (by decide) (Nat.zero_le _))) ?_
  rintro v w4 ⟨hx4, hv⟩
  replace B2 := B2.ext hx4
  replace hu := hu.ext hx4
  replace hx0 := hx0.trans hx4
  clear hx4
  refine StL.step rfl rfl rfl (RunsTo.buildR rfl rfl hu.r2 hv.r2).op ?_
  rintro _ _ ⟨rfl, rfl⟩
  have hR := canR_half hu hv
  refine StL.setR rfl rfl rfl hR.1 B2 rfl hx0 (by omega) ?_
  intro w12 B12 hu12 hx12
  (iterate 6 ((repeat with_reducible first|refine .nil ?_|refine .then_normal ?_|refine .block_normal ?_|refine .seq ?_|refine .block ?_|refine .skip ?_|refine .region ?_|refine .ret ?_|refine .then_ret ?_|refine .block_ret ?_|refine .exit ?_|refine .then_exit ?_|refine .block_exit ?_|refine .block_other rfl ?_); try refine .run TBok 99 rfl ?_))
  exact Out.retR rfl rfl B12 hR.1 ⟨hx12, hR.upd hu12 B2 (by decide)⟩

theorem rnearestR_spec {w : World} {x : Value} {q : Rat} (h : DnS w x q) (hq : rz q ≤ 40000) :
    Calls Try.prog 35 #[x] w (Ret fun r w' => Ext w w' ∧ CanO 0 w' r (q + Rat.divInt 1 2).floor) := by
  have hrs := rz_add q (Rat.divInt 1 2)
  have hrh := rz_half
  refine calls_of_St (args := [_]) Try.func35 rfl Try.ntmps35 rfl ?_
  (repeat with_reducible first|refine .nil ?_|refine .then_normal ?_|refine .block_normal ?_|refine .seq ?_|refine .block ?_|refine .skip ?_|refine .region ?_|refine .ret ?_|refine .then_ret ?_|refine .block_ret ?_|refine .exit ?_|refine .then_exit ?_|refine .block_exit ?_|refine .block_other rfl ?_)
  refine StL.step rfl rfl rfl (OpR.box rfl) ?_
  rintro _ w1 ⟨rfl, B1, hx1, hz1⟩
  refine StL.step rfl rfl rfl (OpR.alloc TBok rfl) ?_
  rintro _ w2 ⟨rfl, B2, hx2, hz2⟩
  have hx0 : Ext w w2 := hx1.trans hx2
  replace B1 := B1.ext hx2
  replace h := h.ext hx0
  clear hx1 hx2
  (iterate 6 ((repeat with_reducible first|refine .nil ?_|refine .then_normal ?_|refine .block_normal ?_|refine .seq ?_|refine .block ?_|refine .skip ?_|refine .region ?_|refine .ret ?_|refine .then_ret ?_|refine .block_ret ?_|refine .exit ?_|refine .then_exit ?_|refine .block_exit ?_|refine .block_other rfl ?_); try refine .run TBok 99 rfl ?_))
  refine St.flow 2 TBfol (by kernel_rfl) rfl (by kernel_rfl) rfl True.intro ?_
  refine FL.one (L := []) rfl rfl rfl rfl rfl (fun _ hR => RunsTo.loadR rfl rfl (hR.blk (B1) (by simp)) (h.1)) ?_
  refine FL.callE fn_r02_Half rfl rfl rfl (fun w4 hx4 => CallF.mk rfl (rhalf_spec w4)) (MonoR.canR 0 _) ?_
  refine FL.endE rfl ?_
  intro w4 hx4 u hu _ _
  replace B2 := B2.ext hx4
  replace h := h.ext hx4
  replace hx0 := hx0.trans hx4
  clear hx4
  refine StL.step rfl rfl rfl (OpR.call fn_r02_Add rfl (raddR_spec h (hu.dnS (by omega)) hq (by omega))) ?_
  rintro s w7 ⟨hx7, hs⟩
  replace B2 := B2.ext hx7
  replace hx0 := hx0.trans hx7
  clear hx7
  refine StL.step rfl rfl rfl (OpR.call fn_r02_Floor rfl (rfloorR_spec (hs.dnS (by omega)))) ?_
  rintro f w8 ⟨hx8, hf⟩
  replace B2 := B2.ext hx8
  replace hx0 := hx0.trans hx8
  clear hx8
  refine StL.setCan rfl rfl B2 rfl hf hx0 (by omega) ?_
  intro w9 B9 hu9 hf' hx9
  (iterate 6 ((repeat with_reducible first|refine .nil ?_|refine .then_normal ?_|refine .block_normal ?_|refine .seq ?_|refine .block ?_|refine .skip ?_|refine .region ?_|refine .ret ?_|refine .then_ret ?_|refine .block_ret ?_|refine .exit ?_|refine .then_exit ?_|refine .block_exit ?_|refine .block_other rfl ?_); try refine .run TBok 99 rfl ?_))
  exact Out.retI rfl rfl B9 hf' ⟨hx9, hf'⟩

theorem rformatR_spec {w : World} {x : Value} {q : Rat} (h : DnS w x q) :
    Calls Try.prog 47 #[x] w (Ret fun r w' => Ext w w' ∧ r = strV (fmtR q)) := by
  have hz := h.rz
  have hzn := rz_num q
  have hzd := rz_den q
  have hf1 := fmtI_len q.num
  have hf2 := fmtI_len (q.den : Int)
  refine calls_of_St (args := [_]) Try.func47 rfl Try.ntmps47 rfl ?_
  (repeat with_reducible first|refine .nil ?_|refine .then_normal ?_|refine .block_normal ?_|refine .seq ?_|refine .block ?_|refine .skip ?_|refine .region ?_|refine .ret ?_|refine .then_ret ?_|refine .block_ret ?_|refine .exit ?_|refine .then_exit ?_|refine .block_exit ?_|refine .block_other rfl ?_)
  refine StL.step rfl rfl rfl (OpR.box rfl) ?_
  rintro _ w1 ⟨rfl, B1, hx0, hz1⟩
  replace h := h.ext hx0
  (iterate 6 ((repeat with_reducible first|refine .nil ?_|refine .then_normal ?_|refine .block_normal ?_|refine .seq ?_|refine .block ?_|refine .skip ?_|refine .region ?_|refine .ret ?_|refine .then_ret ?_|refine .block_ret ?_|refine .exit ?_|refine .then_exit ?_|refine .block_exit ?_|refine .block_other rfl ?_); try refine .run TBok 99 rfl ?_))
  refine StL.step rfl rfl rfl (RunsTo.loadR rfl rfl (B1) (h.1)).op ?_
  rintro _ _ ⟨rfl, rfl⟩
  refine StL.step rfl rfl rfl (OpR.call fn_r02_Normalize rfl (rnormalizeR_spec h)) ?_
  rintro v w3 ⟨hx3, hv⟩
  replace hx0 := hx0.trans hx3
  clear hx3
  refine StL.newR rfl rfl (fun _ => rfl) hv.1 ?_
  intro b5 w5 hl5 hx5 B5
  replace hv := hv.ext hx5
  replace hx0 := hx0.trans hx5
  clear hx5
  (iterate 6 ((repeat with_reducible first|refine .nil ?_|refine .then_normal ?_|refine .block_normal ?_|refine .seq ?_|refine .block ?_|refine .skip ?_|refine .region ?_|refine .ret ?_|refine .then_ret ?_|refine .block_ret ?_|refine .exit ?_|refine .then_exit ?_|refine .block_exit ?_|refine .block_other rfl ?_); try refine .run TBok 99 rfl ?_))
  refine StL.step rfl rfl rfl (RunsTo.loadR rfl rfl (B5) (hv.1)).op ?_
  rintro _ _ ⟨rfl, rfl⟩
  refine StL.step rfl rfl rfl (OpR.call fn_r02_IsWhole rfl (risWhole_spec (hv.dnS hz))) ?_
  rintro _ w6 ⟨hx6, rfl⟩
  replace B5 := B5.ext hx6
  replace hv := hv.ext hx6
  replace hx0 := hx0.trans hx6
  clear hx6
  unfold fmtR
  by_cases h1 : q.den = 1
  · rw [decide_eq_true h1, if_pos h1]
    (iterate 6 ((repeat with_reducible first|refine .nil ?_|refine .then_normal ?_|refine .block_normal ?_|refine .seq ?_|refine .block ?_|refine .skip ?_|refine .region ?_|refine .ret ?_|refine .then_ret ?_|refine .block_ret ?_|refine .exit ?_|refine .then_exit ?_|refine .block_exit ?_|refine .block_other rfl ?_); try refine .run TBok 99 rfl ?_))
    refine St.condT rfl rfl ?_
    (iterate 6 ((repeat with_reducible first|refine .nil ?_|refine .then_normal ?_|refine .block_normal ?_|refine .seq ?_|refine .block ?_|refine .skip ?_|refine .region ?_|refine .ret ?_|refine .then_ret ?_|refine .block_ret ?_|refine .exit ?_|refine .then_exit ?_|refine .block_exit ?_|refine .block_other rfl ?_); try refine .run TBok 99 rfl ?_))
    refine StL.step rfl rfl rfl (RunsTo.loadN rfl (B5) (hv.1)).op ?_
    rintro _ _ ⟨rfl, rfl⟩
    refine StL.step rfl rfl rfl (OpR.call fn_r01_Format rfl (rformat_dn (hv.2.1.dn (by omega)))) ?_
    rintro _ w7 ⟨hx7, rfl⟩
    (iterate 6 ((repeat with_reducible first|refine .nil ?_|refine .then_normal ?_|refine .block_normal ?_|refine .seq ?_|refine .block ?_|refine .skip ?_|refine .region ?_|refine .ret ?_|refine .then_ret ?_|refine .block_ret ?_|refine .exit ?_|refine .then_exit ?_|refine .block_exit ?_|refine .block_other rfl ?_); try refine .run TBok 99 rfl ?_))
    exact Out.ret1 rfl rfl ⟨hx0.trans hx7, rfl⟩
  · rw [decide_eq_false h1, if_neg h1]
    (iterate 6 ((repeat with_reducible first|refine .nil ?_|refine .then_normal ?_|refine .block_normal ?_|refine .seq ?_|refine .block ?_|refine .skip ?_|refine .region ?_|refine .ret ?_|refine .then_ret ?_|refine .block_ret ?_|refine .exit ?_|refine .then_exit ?_|refine .block_exit ?_|refine .block_other rfl ?_); try refine .run TBok 99 rfl ?_))
    refine St.condF rfl rfl ?_
    (repeat with_reducible first|refine .nil ?_|refine .then_normal ?_|refine .block_normal ?_|refine .seq ?_|refine .block ?_|refine .skip ?_|refine .region ?_|refine .ret ?_|refine .then_ret ?_|refine .block_ret ?_|refine .exit ?_|refine .then_exit ?_|refine .block_exit ?_|refine .block_other rfl ?_)
    refine St.sub (E' := [(3, .pointer (some ⟨b5, 0, none⟩))]) ?_ ⟨rfl, trivial⟩
    refine St.flow 7 TBfol (by kernel_rfl) rfl (by kernel_rfl) rfl True.intro ?_
    refine FL.run TBok 99 rfl ?_
    refine FL.one (L := []) rfl rfl rfl rfl rfl (fun _ hR => RunsTo.loadN rfl (hR.blk (B5) (by simp)) (hv.1)) ?_
    refine FL.callXE fn_r01_Format rfl rfl rfl (fun w7 hx7 => CallF.mk rfl (rformat_dn ((hv.2.1.ext hx7).dn (by omega)))) ?_
    refine FL.one (L := []) rfl rfl rfl rfl rfl (fun _ _ => RunsTo.strAdd (bs := [47]) rfl rfl (by simp; omega)) ?_
    refine FL.run TBok 99 rfl ?_
    refine FL.one (L := []) rfl rfl rfl rfl rfl (fun _ hR => RunsTo.loadD rfl (hR.blk (B5) (by simp)) (hv.1)) ?_
    refine FL.callXE fn_r01_Format rfl rfl rfl (fun w7 hx7 => CallF.mk rfl (rformat_dn ((hv.2.2.ext hx7).dn (by omega)))) ?_
    refine FL.endE rfl ?_
    intro w7 hx7 _ _
    refine StL.step rfl rfl rfl (RunsTo.strAdd rfl rfl (by simp; omega)).op ?_
    rintro _ _ ⟨rfl, rfl⟩
    (iterate 6 ((repeat with_reducible first|refine .nil ?_|refine .then_normal ?_|refine .block_normal ?_|refine .seq ?_|refine .block ?_|refine .skip ?_|refine .region ?_|refine .ret ?_|refine .then_ret ?_|refine .block_ret ?_|refine .exit ?_|refine .then_exit ?_|refine .block_exit ?_|refine .block_other rfl ?_); try refine .run TBok 99 rfl ?_))
    refine Out.ret1 rfl rfl ⟨hx0.trans hx7, ?_⟩
    rw [List.append_assoc]
    rfl

end Go.Qf

/- quadformlaw02: awake, long. -/
namespace Go.Qf
open Go Go.RowKit Go.Proofs
set_option maxRecDepth 20000

theorem canO_cast {base : Nat} {w : World} {v : Value} {a b : Int} (h : CanO base w v a) (e : a = b) : CanO base w v b := e ▸ h

theorem RunsTo.strIs {P : Program} {n : Nat} {E : List (Nat × Value)} {w : World} {d : Option Tmp} {x y : Operand} {t2 ty : TypeId} {pos : String} {af : Array Edge} {g : Option (Nat × Bool)} {xs bs : List Nat} (h1 : B8 xs) (h2 : B8 bs) (hx : ov E x = some (strV xs)) (hy : ov E y = some (strV bs)) (e : xs = bs) :
    RunsTo P n ⟨d, .binOp .eql 9 x y t2, ty, pos, af, g⟩ E w (.bool true) := by
  have := RunsTo.strEql (P := P) (n := n) (w := w) (d := d) (t := 9) (t2 := t2) (ty := ty) (pos := pos) (af := af) (g := g) h1 h2 hx hy
  rwa [decide_eq_true e] at this

theorem fmtR_b8 (q : Rat) : B8 (fmtR q) := by
  unfold fmtR
  split
  · exact fmtI_b8 _
  · exact (fmtI_b8 _).app (B8.app (xs := [47]) b8_slash (fmtI_b8 _))

theorem aw1 : rerr [45, 51, 47, 52] = 0 ∧ (rval [45, 51, 47, 52]).num = -3 := by decide +kernel
theorem aw2 : rerr [54, 47, 52] = 1 := by decide +kernel
theorem aw3 : fmtR (Rat.divInt 4 (-6)) = [45, 50, 47, 51] := by decide +kernel
theorem aw4 : (Rat.divInt (-7) 2).floor = -4 ∧ (Rat.divInt (-7) 2 + Rat.divInt 1 2).floor = -3 := by decide +kernel
theorem aw5 : rz (Rat.divInt (-7) 2) = 1 := by decide +kernel
theorem aw6 : rz (Rat.divInt 4 (-6)) = 1 := by decide +kernel

set_option maxHeartbeats 1600000 in
theorem awake2_spec (w : World) : Calls Try.prog 22 #[] w (Ret fun r w' => Ext w w' ∧ r = .bool true) := by
  refine calls_of_St (args := []) Try.func22 rfl Try.ntmps22 rfl ?_
  (iterate 6 ((repeat with_reducible first|refine .nil ?_|refine .then_normal ?_|refine .block_normal ?_|refine .seq ?_|refine .block ?_|refine .skip ?_|refine .region ?_|refine .ret ?_|refine .then_ret ?_|refine .block_ret ?_|refine .exit ?_|refine .then_exit ?_|refine .block_exit ?_|refine .block_other rfl ?_); try refine .run TBok 99 rfl ?_))
  refine StL.step rfl rfl rfl (OpR.call fn_r01_Small rfl (rsmall_spec (base := 0) w 4 (by decide) (by decide) (Nat.zero_le _))) ?_
  rintro v9 w1 ⟨hx0, h9⟩
  refine StL.step rfl rfl rfl (OpR.call fn_r01_Small rfl (rsmall_spec (base := 0) w1 (-6) (by decide) (by decide) (Nat.zero_le _))) ?_
  rintro v10 w2 ⟨hx2, h10⟩
  replace h9 := h9.ext hx2
  replace hx0 := hx0.trans hx2
  clear hx2
  refine StL.step rfl rfl rfl (OpR.call fn_rational_New rfl (new_spec (base := 0) (h9.dn (by decide +kernel)) (h10.dn (by decide +kernel)) (Nat.zero_le _))) ?_
  rintro _ w3 ⟨hx3, _, hd⟩
  obtain ⟨v1, rfl, h1⟩ := hd (by decide)
  replace hx0 := hx0.trans hx3
  clear hx3
  clear h9 h10
  refine .run TBok 99 rfl ?_
  refine StL.newR rfl rfl (fun _ => rfl) h1.1 ?_
  intro b1 w4 hl1 hx4 B1
  replace h1 := h1.ext hx4
  replace hx0 := hx0.trans hx4
  clear hx4
  (iterate 6 ((repeat with_reducible first|refine .nil ?_|refine .then_normal ?_|refine .block_normal ?_|refine .seq ?_|refine .block ?_|refine .skip ?_|refine .region ?_|refine .ret ?_|refine .then_ret ?_|refine .block_ret ?_|refine .exit ?_|refine .then_exit ?_|refine .block_exit ?_|refine .block_other rfl ?_); try refine .run TBok 99 rfl ?_))
  refine StL.step rfl rfl rfl (OpR.call fn_rational_Parse rfl (parseR_spec w4 [45, 51, 47, 52] (b8_lit _ rfl) (by decide))) ?_
  rintro _ w5 ⟨hx5, v3, rfl, h4, _, h3⟩
  replace h3 := h3 aw1.1
  replace B1 := B1.ext hx5
  replace h1 := h1.ext hx5
  replace hx0 := hx0.trans hx5
  clear hx5
  rw [aw1.1]
  refine .run TBok 99 rfl ?_
  refine StL.newR rfl rfl (fun _ => rfl) h3.1 ?_
  intro b3 w6 hl3 hx6 B3
  replace B1 := B1.ext hx6
  replace h1 := h1.ext hx6
  replace h3 := h3.ext hx6
  replace hx0 := hx0.trans hx6
  clear hx6
  (iterate 6 ((repeat with_reducible first|refine .nil ?_|refine .then_normal ?_|refine .block_normal ?_|refine .seq ?_|refine .block ?_|refine .skip ?_|refine .region ?_|refine .ret ?_|refine .then_ret ?_|refine .block_ret ?_|refine .exit ?_|refine .then_exit ?_|refine .block_exit ?_|refine .block_other rfl ?_); try refine .run TBok 99 rfl ?_))
  refine StL.step rfl rfl rfl (OpR.call fn_rational_Parse rfl (parseR_spec w6 [54, 47, 52] (b8_lit _ rfl) (by decide))) ?_
  rintro _ w7 ⟨hx7, v5, rfl, h5, _, _⟩
  replace B1 := B1.ext hx7
  replace B3 := B3.ext hx7
  replace h1 := h1.ext hx7
  replace h3 := h3.ext hx7
  replace hx0 := hx0.trans hx7
  clear hx7
  rw [aw2]
  refine .run TBok 99 rfl ?_
  refine StL.newR rfl rfl (fun _ => rfl) h5 ?_
  intro b5 w8 hl5 hx8 _
  replace B1 := B1.ext hx8
  replace B3 := B3.ext hx8
  replace h1 := h1.ext hx8
  replace h3 := h3.ext hx8
  replace hx0 := hx0.trans hx8
  clear hx8
  (iterate 6 ((repeat with_reducible first|refine .nil ?_|refine .then_normal ?_|refine .block_normal ?_|refine .seq ?_|refine .block ?_|refine .skip ?_|refine .region ?_|refine .ret ?_|refine .then_ret ?_|refine .block_ret ?_|refine .exit ?_|refine .then_exit ?_|refine .block_exit ?_|refine .block_other rfl ?_); try refine .run TBok 99 rfl ?_))
  refine StL.step rfl rfl rfl (OpR.call fn_r01_Small rfl (rsmall_spec (base := 0) w8 (-7) (by decide) (by decide) (Nat.zero_le _))) ?_
  rintro v22 w9 ⟨hx9, h22⟩
  replace B1 := B1.ext hx9
  replace B3 := B3.ext hx9
  replace h1 := h1.ext hx9
  replace h3 := h3.ext hx9
  replace hx0 := hx0.trans hx9
  clear hx9
  refine StL.step rfl rfl rfl (OpR.call fn_r01_Small rfl (rsmall_spec (base := 0) w9 2 (by decide) (by decide) (Nat.zero_le _))) ?_
  rintro v23 w10 ⟨hx10, h23⟩
  replace B1 := B1.ext hx10
  replace B3 := B3.ext hx10
  replace h1 := h1.ext hx10
  replace h3 := h3.ext hx10
  replace h22 := h22.ext hx10
  replace hx0 := hx0.trans hx10
  clear hx10
  refine StL.step rfl rfl rfl (RunsTo.buildR rfl rfl h22.r2 h23.r2).op ?_
  rintro _ _ ⟨rfl, rfl⟩
  have h7 : DnR w10 (mkR v22 v23) (Rat.divInt (-7) 2) := DnR.mk (h22.dn (by decide +kernel)) (h23.dn (by decide +kernel))
  refine StL.newR rfl rfl (fun _ => rfl) h7.1 ?_
  intro b7 w11 hl7 hx11 B7
  replace B1 := B1.ext hx11
  replace B3 := B3.ext hx11
  replace h1 := h1.ext hx11
  replace h3 := h3.ext hx11
  replace h7 := h7.ext hx11
  replace hx0 := hx0.trans hx11
  clear hx11
  clear h22 h23
  (repeat with_reducible first|refine .nil ?_|refine .then_normal ?_|refine .block_normal ?_|refine .seq ?_|refine .block ?_|refine .skip ?_|refine .region ?_|refine .ret ?_|refine .then_ret ?_|refine .block_ret ?_|refine .exit ?_|refine .then_exit ?_|refine .block_exit ?_|refine .block_other rfl ?_)
  refine St.sub (E' := [(1, .pointer (some ⟨b1, 0, none⟩)), (2, .bool true), (3, .pointer (some ⟨b3, 0, none⟩)), (4, .int .i64 0), (6, .int .i64 1), (7, .pointer (some ⟨b7, 0, none⟩))]) ?_ ⟨rfl, rfl, rfl, rfl, rfl, rfl, trivial⟩
  refine St.flow 18 TBfol (by kernel_rfl) rfl (by kernel_rfl) rfl True.intro ?_
  refine FL.run TBok 99 rfl ?_
  refine FL.one (L := []) rfl rfl rfl rfl rfl (fun _ hR => RunsTo.loadR rfl rfl (hR.blk (B1) (by simp)) (h1.1)) ?_
  refine FL.callXE fn_rational_Format rfl rfl rfl (fun w12 hx12 => CallF.mk rfl (formatR_spec ((h1.ext hx12).dn (by rw [aw6]; decide)))) ?_
  refine FL.one (L := []) rfl rfl rfl rfl rfl (fun _ _ => RunsTo.strIs (bs := [45, 50, 47, 51]) (fmtR_b8 _) (b8_lit _ rfl) rfl rfl aw3) ?_
  refine FL.run TBok 99 rfl ?_
  refine FL.one (L := []) rfl rfl rfl rfl rfl (fun _ hR => RunsTo.loadN rfl (hR.blk (B3) (by simp)) (h3.1)) ?_
  refine FL.callE fn_r01_Small rfl rfl rfl (fun w12 hx12 => CallF.mk rfl (rsmall_spec (base := 0) w12 (-3) (by decide) (by decide) (Nat.zero_le _))) (MonoR.canO 0 _) ?_
  refine FL.endE rfl ?_
  intro w12 hx12 t42 h42 _ _
  replace B7 := B7.ext hx12
  replace h3 := h3.ext hx12
  replace h7 := h7.ext hx12
  replace hx0 := hx0.trans hx12
  clear hx12
  refine StL.step rfl rfl rfl (OpR.call fn_r01_Same rfl (same_true (canO_cast h3.2.1 aw1.2) h42 (by decide +kernel))) ?_
  rintro _ w13 ⟨hx13, rfl⟩
  replace B7 := B7.ext hx13
  replace h7 := h7.ext hx13
  replace hx0 := hx0.trans hx13
  clear hx13
  refine .run TBok 99 rfl ?_
  refine StL.step rfl rfl rfl (RunsTo.loadR rfl rfl (B7) (h7.1)).op ?_
  rintro _ _ ⟨rfl, rfl⟩
  refine StL.step rfl rfl rfl (OpR.call fn_rational_Floor rfl (floorR_spec h7)) ?_
  rintro v47 w14 ⟨hx14, h47⟩
  replace B7 := B7.ext hx14
  replace h7 := h7.ext hx14
  replace hx0 := hx0.trans hx14
  clear hx14
  refine StL.step rfl rfl rfl (OpR.call fn_r01_Small rfl (rsmall_spec (base := 0) w14 (-4) (by decide) (by decide) (Nat.zero_le _))) ?_
  rintro v48 w15 ⟨hx15, h48⟩
  replace B7 := B7.ext hx15
  replace h7 := h7.ext hx15
  replace h47 := h47.ext hx15
  replace hx0 := hx0.trans hx15
  clear hx15
  refine StL.step rfl rfl rfl (OpR.call fn_r01_Same rfl (same_true (canO_cast h47 aw4.1) h48 (by decide +kernel))) ?_
  rintro _ w16 ⟨hx16, rfl⟩
  replace B7 := B7.ext hx16
  replace h7 := h7.ext hx16
  replace hx0 := hx0.trans hx16
  clear hx16
  refine .run TBok 99 rfl ?_
  refine StL.step rfl rfl rfl (RunsTo.loadR rfl rfl (B7) (h7.1)).op ?_
  rintro _ _ ⟨rfl, rfl⟩
  refine StL.step rfl rfl rfl (OpR.call fn_rational_Nearest rfl (nearestR_spec h7 (by rw [aw5]; decide))) ?_
  rintro v53 w17 ⟨hx17, h53⟩
  replace hx0 := hx0.trans hx17
  clear hx17
  refine StL.step rfl rfl rfl (OpR.call fn_r01_Small rfl (rsmall_spec (base := 0) w17 (-3) (by decide) (by decide) (Nat.zero_le _))) ?_
  rintro v54 w18 ⟨hx18, h54⟩
  replace h53 := h53.ext hx18
  replace hx0 := hx0.trans hx18
  clear hx18
  refine StL.step rfl rfl rfl (OpR.call fn_r01_Same rfl (same_true (canO_cast h53 aw4.2) h54 (by decide +kernel))) ?_
  rintro _ w19 ⟨hx19, rfl⟩
  (iterate 6 ((repeat with_reducible first|refine .nil ?_|refine .then_normal ?_|refine .block_normal ?_|refine .seq ?_|refine .block ?_|refine .skip ?_|refine .region ?_|refine .ret ?_|refine .then_ret ?_|refine .block_ret ?_|refine .exit ?_|refine .then_exit ?_|refine .block_exit ?_|refine .block_other rfl ?_); try refine .run TBok 99 rfl ?_))
  exact Out.ret1 rfl rfl ⟨hx0.trans hx19, rfl⟩

/-- What awake says ends the law. -/
theorem StL.awk {n : Nat} {E : List (Nat × Value)} {w : World} {ops : Array Oper} {rest : List Oper} {Q : Exit → Act → World → Prop} {d : Nat} {ty : TypeId} {pos : String} {af : Array Edge} {g : Option (Nat × Bool)} (hw : wantE ops E g = some true) (hn : Nat.blt d n = true) (next : ∀ w', Ext w w' → StL Try.prog n ((d, .bool true) :: E) w' ops rest Q) :
    StL Try.prog n E w ops (⟨some d, .call ⟨.value (.func 22), #[], #[]⟩, ty, pos, af, g⟩ :: rest) Q := by
  refine StL.step rfl hw hn (OpR.call fn_w02_awake rfl (awake2_spec w)) ?_
  rintro _ w' ⟨hx, rfl⟩
  exact next w' hx

/-- A struct that an input of a law may be. -/
def InR (w : World) (v : Value) : Prop := ∃ n xs m ys, R4 v ∧ Den w (nm v) n xs ∧ Den w (dm v) m ys
theorem InR.ext {w w' : World} {v : Value} (h : InR w v) (hx : Ext w w') : InR w' v := by
  obtain ⟨n, xs, m, ys, h4, h1, h2⟩ := h
  exact ⟨n, xs, m, ys, h4, h1.ext hx, h2.ext hx⟩
theorem InR.r4 {w : World} {v : Value} (h : InR w v) : R4 v := by obtain ⟨n, xs, m, ys, h4, _⟩ := h; exact h4

/-- .. one that is short. -/
def ShR (w : World) (v : Value) : Prop := ∃ n xs m ys, R4 v ∧ Den w (nm v) n xs ∧ Den w (dm v) m ys ∧ xs.length ≤ 8 ∧ ys.length ≤ 8
theorem ShR.q {w : World} {v : Value} (h : ShR w v) : ∃ q, DnS w v q ∧ rz q ≤ 8 := by
  obtain ⟨n, xs, m, ys, h4, h1, h2, l1, l2⟩ := h
  have s1 := sz_den h1
  have s2 := sz_den h2
  refine ⟨_, ⟨h4, _, _, h1.dn (by omega), h2.dn (by omega), rfl, by omega, by omega⟩, ?_⟩
  have := rz_divInt (sg n (val xs)) (sg m (val ys))
  omega

set_option maxHeartbeats 800000 in
theorem long2_spec {w : World} {b : Nat} {vs : List Value} (B : Blk 33 w b (flat vs)) (h : ∀ v ∈ vs, InR w v) (hlen : vs.length ≤ 1000) :
    Calls Try.prog 28 #[.slice (some ⟨b, 0, none⟩) vs.length vs.length] w (Ret fun r w' => Ext w w' ∧ ∃ c, r = .bool c ∧ (c = false → ∀ v ∈ vs, ShR w v)) := by
  have hR4 : ∀ v ∈ vs, R4 v := fun v hv => (h v hv).r4
  refine calls_of_St (args := [_]) Try.func28 rfl Try.ntmps28 rfl ?_
  (iterate 6 ((repeat with_reducible first|refine .nil ?_|refine .then_normal ?_|refine .block_normal ?_|refine .seq ?_|refine .block ?_|refine .skip ?_|refine .region ?_|refine .ret ?_|refine .then_ret ?_|refine .block_ret ?_|refine .exit ?_|refine .then_exit ?_|refine .block_exit ?_|refine .block_other rfl ?_); try refine .run TBok 99 rfl ?_))
  refine St.loop (fun i : Nat => [(5, .slice (some ⟨b, 0, none⟩) vs.length vs.length), (6, .int .i64 vs.length), (7, .int .i64 i)])
    (fun i w' => Ext w w' ∧ i ≤ vs.length ∧ ∀ j v, j < i → vs[j]? = some v → ShR w v) (fun i => vs.length - i) 0 ⟨rfl, rfl, rfl, trivial⟩ ⟨Ext.refl _, Nat.zero_le _, fun j v hj => by omega⟩ ?_
  rintro i w3 ⟨hx0, hi, hall⟩
  by_cases hlt : i < vs.length
  · have hki : vs[i]? = some vs[i] := by simp
    have hmem : vs[i] ∈ vs := List.getElem_mem _
    obtain ⟨n, xs, m, ys, h4, hn, hm⟩ := h _ hmem
    generalize hvx : vs[i] = x at *
    have B3 := B.ext hx0
    (repeat with_reducible first|refine .nil ?_|refine .then_normal ?_|refine .block_normal ?_|refine .seq ?_|refine .block ?_|refine .skip ?_|refine .region ?_|refine .ret ?_|refine .then_ret ?_|refine .block_ret ?_|refine .exit ?_|refine .then_exit ?_|refine .block_exit ?_|refine .block_other rfl ?_)
    refine StL.as TBok 1 (.bool true) rfl (bool_true (by omega)) ?_
    (repeat with_reducible first|refine .nil ?_|refine .then_normal ?_|refine .block_normal ?_|refine .seq ?_|refine .block ?_|refine .skip ?_|refine .region ?_|refine .ret ?_|refine .then_ret ?_|refine .block_ret ?_|refine .exit ?_|refine .then_exit ?_|refine .block_exit ?_|refine .block_other rfl ?_)
    refine St.condT rfl rfl ?_
    (iterate 6 ((repeat with_reducible first|refine .nil ?_|refine .then_normal ?_|refine .block_normal ?_|refine .seq ?_|refine .block ?_|refine .skip ?_|refine .region ?_|refine .ret ?_|refine .then_ret ?_|refine .block_ret ?_|refine .exit ?_|refine .then_exit ?_|refine .block_exit ?_|refine .block_other rfl ?_); try refine .run TBok 99 rfl ?_))
    refine StL.step rfl rfl rfl (RunsTo.indexR rfl rfl hlt).op ?_
    rintro _ _ ⟨rfl, rfl⟩
    refine StL.step rfl rfl rfl (RunsTo.loadRat rfl B3 hR4 hki).op ?_
    rintro _ _ ⟨rfl, rfl⟩
    refine StL.newR rfl rfl (fun _ => rfl) h4 ?_
    intro b4 w4 hl4 hx4 B4
    replace hx0 := hx0.trans hx4
    clear hx4
    obtain ⟨n1, s1, m1, t1, rfl, _⟩ := h4
    have hn' := hn
    have hm' := hm
    obtain ⟨p1, c1, e1, _⟩ := hn'
    obtain ⟨p2, c2, e2, _⟩ := hm'
    cases e1
    cases e2
    (iterate 6 ((repeat with_reducible first|refine .nil ?_|refine .then_normal ?_|refine .block_normal ?_|refine .seq ?_|refine .block ?_|refine .skip ?_|refine .region ?_|refine .ret ?_|refine .then_ret ?_|refine .block_ret ?_|refine .exit ?_|refine .then_exit ?_|refine .block_exit ?_|refine .block_other rfl ?_); try refine .run TBok 99 rfl ?_))
    refine StL.step rfl rfl rfl (RunsTo.load TBok rfl rfl rfl (B4.cell rfl)).op ?_
    rintro _ _ ⟨rfl, rfl⟩
    by_cases l1 : 8 < xs.length
    · refine StL.as TBok 2 (.bool true) rfl (bool_true (by omega)) ?_
      (iterate 6 ((repeat with_reducible first|refine .nil ?_|refine .then_normal ?_|refine .block_normal ?_|refine .seq ?_|refine .block ?_|refine .skip ?_|refine .region ?_|refine .ret ?_|refine .then_ret ?_|refine .block_ret ?_|refine .exit ?_|refine .then_exit ?_|refine .block_exit ?_|refine .block_other rfl ?_); try refine .run TBok 99 rfl ?_))
      refine St.condT rfl rfl ?_
      (iterate 6 ((repeat with_reducible first|refine .nil ?_|refine .then_normal ?_|refine .block_normal ?_|refine .seq ?_|refine .block ?_|refine .skip ?_|refine .region ?_|refine .ret ?_|refine .then_ret ?_|refine .block_ret ?_|refine .exit ?_|refine .then_exit ?_|refine .block_exit ?_|refine .block_other rfl ?_); try refine .run TBok 99 rfl ?_))
      exact Out.ret1 rfl rfl ⟨hx0, true, rfl, fun e => by cases e⟩
    refine StL.as TBok 2 (.bool false) rfl (bool_false (by omega)) ?_
    refine .run TBok 99 rfl ?_
    refine StL.step rfl rfl rfl (RunsTo.load TBok rfl rfl rfl (B4.cell rfl)).op ?_
    rintro _ _ ⟨rfl, rfl⟩
    by_cases l2 : 8 < ys.length
    · refine StL.as TBok 2 (.bool true) rfl (bool_true (by omega)) ?_
      (iterate 6 ((repeat with_reducible first|refine .nil ?_|refine .then_normal ?_|refine .block_normal ?_|refine .seq ?_|refine .block ?_|refine .skip ?_|refine .region ?_|refine .ret ?_|refine .then_ret ?_|refine .block_ret ?_|refine .exit ?_|refine .then_exit ?_|refine .block_exit ?_|refine .block_other rfl ?_); try refine .run TBok 99 rfl ?_))
      refine St.condT rfl rfl ?_
      (iterate 6 ((repeat with_reducible first|refine .nil ?_|refine .then_normal ?_|refine .block_normal ?_|refine .seq ?_|refine .block ?_|refine .skip ?_|refine .region ?_|refine .ret ?_|refine .then_ret ?_|refine .block_ret ?_|refine .exit ?_|refine .then_exit ?_|refine .block_exit ?_|refine .block_other rfl ?_); try refine .run TBok 99 rfl ?_))
      exact Out.ret1 rfl rfl ⟨hx0, true, rfl, fun e => by cases e⟩
    refine StL.as TBok 2 (.bool false) rfl (bool_false (by omega)) ?_
    (iterate 6 ((repeat with_reducible first|refine .nil ?_|refine .then_normal ?_|refine .block_normal ?_|refine .seq ?_|refine .block ?_|refine .skip ?_|refine .region ?_|refine .ret ?_|refine .then_ret ?_|refine .block_ret ?_|refine .exit ?_|refine .then_exit ?_|refine .block_exit ?_|refine .block_other rfl ?_); try refine .run TBok 99 rfl ?_))
    refine St.condF rfl rfl ?_
    (iterate 6 ((repeat with_reducible first|refine .nil ?_|refine .then_normal ?_|refine .block_normal ?_|refine .seq ?_|refine .block ?_|refine .skip ?_|refine .region ?_|refine .ret ?_|refine .then_ret ?_|refine .block_ret ?_|refine .exit ?_|refine .then_exit ?_|refine .block_exit ?_|refine .block_other rfl ?_); try refine .run TBok 99 rfl ?_))
    refine Out.again (i + 1) ⟨rfl, rfl, ?_, trivial⟩ ⟨hx0, by omega, ?_⟩ (by omega)
    · show some (Value.int .i64 (IntKind.i64.wrap ((i : Int) + 1))) = _
      rw [i64_id (by omega) (by omega)]; rfl
    · intro j v hj hv
      by_cases hji : j < i
      · exact hall j v hji hv
      · have : j = i := by omega
        subst this
        rw [hki] at hv
        cases hv
        exact ⟨_, xs, _, ys, ⟨_, _, _, _, rfl, rfl, rfl⟩, hn, hm, by omega, by omega⟩
  · (repeat with_reducible first|refine .nil ?_|refine .then_normal ?_|refine .block_normal ?_|refine .seq ?_|refine .block ?_|refine .skip ?_|refine .region ?_|refine .ret ?_|refine .then_ret ?_|refine .block_ret ?_|refine .exit ?_|refine .then_exit ?_|refine .block_exit ?_|refine .block_other rfl ?_)
    refine StL.as TBok 1 (.bool false) rfl (bool_false (by omega)) ?_
    (repeat with_reducible first|refine .nil ?_|refine .then_normal ?_|refine .block_normal ?_|refine .seq ?_|refine .block ?_|refine .skip ?_|refine .region ?_|refine .ret ?_|refine .then_ret ?_|refine .block_ret ?_|refine .exit ?_|refine .then_exit ?_|refine .block_exit ?_|refine .block_other rfl ?_)
    refine St.condF rfl rfl ?_
    (iterate 6 ((repeat with_reducible first|refine .nil ?_|refine .then_normal ?_|refine .block_normal ?_|refine .seq ?_|refine .block ?_|refine .skip ?_|refine .region ?_|refine .ret ?_|refine .then_ret ?_|refine .block_ret ?_|refine .exit ?_|refine .then_exit ?_|refine .block_exit ?_|refine .block_other rfl ?_); try refine .run TBok 99 rfl ?_))
    refine Out.ret1 rfl rfl ⟨hx0, false, rfl, fun _ v hv => ?_⟩
    obtain ⟨j, hj, rfl⟩ := List.getElem_of_mem hv
    exact hall j vs[j] (by omega) (by simp)

theorem long1 {w : World} {b : Nat} {u : Value} (B : Blk 33 w b (flat [u])) (h : InR w u) :
    Calls Try.prog 28 #[.slice (some ⟨b, 0, none⟩) 1 1] w (Ret fun r w' => Ext w w' ∧ ∃ c, r = .bool c ∧ (c = false → ShR w u)) := by
  refine (long2_spec B (by intro v hv; simp at hv; subst hv; exact h) (by simp)).mono ?_
  rintro e w' ⟨r, rfl, hx, c, rfl, hc⟩
  exact ⟨_, rfl, hx, c, rfl, fun e => hc e u (by simp)⟩
theorem long2 {w : World} {b : Nat} {u v : Value} (B : Blk 33 w b (flat [u, v])) (h : InR w u) (k : InR w v) :
    Calls Try.prog 28 #[.slice (some ⟨b, 0, none⟩) 2 2] w (Ret fun r w' => Ext w w' ∧ ∃ c, r = .bool c ∧ (c = false → ShR w u ∧ ShR w v)) := by
  refine (long2_spec B (by intro x hx; simp at hx; rcases hx with rfl | rfl; exact h; exact k) (by simp)).mono ?_
  rintro e w' ⟨r, rfl, hx, c, rfl, hc⟩
  exact ⟨_, rfl, hx, c, rfl, fun e => ⟨hc e u (by simp), hc e v (by simp)⟩⟩
theorem long3 {w : World} {b : Nat} {u v t : Value} (B : Blk 33 w b (flat [u, v, t])) (h : InR w u) (k : InR w v) (j : InR w t) :
    Calls Try.prog 28 #[.slice (some ⟨b, 0, none⟩) 3 3] w (Ret fun r w' => Ext w w' ∧ ∃ c, r = .bool c ∧ (c = false → ShR w u ∧ ShR w v ∧ ShR w t)) := by
  refine (long2_spec B (by intro x hx; simp at hx; rcases hx with rfl | rfl | rfl; exact h; exact k; exact j) (by simp)).mono ?_
  rintro e w' ⟨r, rfl, hx, c, rfl, hc⟩
  exact ⟨_, rfl, hx, c, rfl, fun e => ⟨hc e u (by simp), hc e v (by simp), hc e t (by simp)⟩⟩

end Go.Qf

/- The arguments of a law, opened: a struct of a rational number. -/
namespace Go.Qf
open Go Go.RowKit Go.Proofs Go.ChangeShapes Go.WideShapes Go.Joins
set_option maxRecDepth 20000

theorem open_part {H : Type} {enc : TypeId × Value → H} {W : World} {base : Nat} {spare : Nat → Bool} {held : Bool} {n : Nat} {c0 c1 : Value} {y : DataW H × List MemPlace} (h : DataW.trod enc Try.prog W base spare held n 25 [c0, c1] = some y) : ∃ neg xs q cap, c0 = .bool neg ∧ c1 = .slice q xs.length cap ∧ Sl W (.slice q xs.length cap) xs := by
  obtain ⟨y0, y1, m, _, _, h0, h1⟩ := trod_struct2 Try.underlying25 h
  have k0 : Try.prog.cellsOf 4 = 1 := by kernel_rfl
  have k1 : Try.prog.cellsOf 23 = 1 := by kernel_rfl
  simp only [k0, k1] at h0 h1
  obtain ⟨b, e0, _⟩ := DataW.trod_bool Try.underlying4 (show DataW.trod enc Try.prog W base spare held m 4 [c0] = some y0 from h0)
  simp only [List.cons.injEq, and_true] at e0
  obtain ⟨q, cap, xs, e1, hs, _⟩ := open_limbs (show DataW.trod enc Try.prog W base spare held m 23 [c1] = some y1 from h1)
  exact ⟨b, xs, q, cap, e0, e1, hs⟩

theorem open_Rat {H : Type} {enc : TypeId × Value → H} {W : World} {base : Nat} {spare : Nat → Bool} {held : Bool} {r : Reach} {b0 : Nat} {v : Value} {d : DataW H} {p : List MemPlace} (hv : Value.okWide Try.prog W r b0 33 v) (h : DataW.Trod enc Try.prog W base spare held 33 v d p) : InR W v := by
  obtain ⟨cs, rfl, hsz⟩ := okWide_struct Try.underlying33 hv
  have k4 : Try.prog.cellsOf 33 = 4 := by kernel_rfl
  have k2 : Try.prog.cellsOf 25 = 2 := by kernel_rfl
  obtain ⟨c0, c1, c2, c3, rfl⟩ := array4 (hsz.trans k4)
  obtain ⟨fuel, hf⟩ := h
  obtain ⟨y0, y1, n, _, _, h0, h1⟩ := trod_struct2 Try.underlying33 hf
  simp only [k2] at h0 h1
  obtain ⟨n1, xs, q1, cap1, rfl, rfl, hs1⟩ := open_part (show DataW.trod enc Try.prog W base spare held n 25 [c0, c1] = some y0 from h0)
  obtain ⟨n2, ys, q2, cap2, rfl, rfl, hs2⟩ := open_part (show DataW.trod enc Try.prog W base spare held n 25 [c2, c3] = some y1 from h1)
  exact ⟨n1, xs, n2, ys, ⟨_, _, _, _, rfl, rfl, rfl⟩, ⟨q1, cap1, rfl, hs1⟩, ⟨q2, cap2, rfl, hs2⟩⟩

end Go.Qf
