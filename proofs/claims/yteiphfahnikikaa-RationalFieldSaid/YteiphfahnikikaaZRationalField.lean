/- Lemmas on the model and on the program's functions, part ZRationalField. -/
import Derived.Test.YteiphfahnikikaaQa
import Derived.Test.YteiphfahnikikaaQb
import Derived.Test.YteiphfahnikikaaQc
import Derived.Test.YteiphfahnikikaaQd
import Derived.Test.YteiphfahnikikaaQe
import Derived.Test.YteiphfahnikikaaQf
import Derived.Test.YteiphfahnikikaaQg
import Derived.Test.YteiphfahnikikaaQh
import Derived.Test.YteiphfahnikikaaQi
/- The laws RationalMultiplies, RationalAdds, RationalCompares, RationalDivides, RationalFloors, RationalFormats: the walks. -/
namespace Go.Qf
open Go Go.RowKit Go.Proofs
set_option maxRecDepth 20000

set_option maxHeartbeats 800000 in
theorem lawMulR (w : World) (v : Value) (h : InR w v) (u : Value) (k : InR w u) : Calls Try.prog 14 #[v, u] w (Ret fun r w' => Ext w w' ∧ r = .bool true) := by
  refine calls_of_St (args := [_, _]) Try.func14 rfl Try.ntmps14 rfl ?_
  (repeat with_reducible first|refine .nil ?_|refine .then_normal ?_|refine .block_normal ?_|refine .seq ?_|refine .block ?_|refine .skip ?_|refine .region ?_|refine .ret ?_|refine .then_ret ?_|refine .block_ret ?_|refine .exit ?_|refine .then_exit ?_|refine .block_exit ?_|refine .block_other rfl ?_)
  refine StL.step rfl rfl rfl (OpR.box rfl) ?_
  rintro _ w1 ⟨rfl, B1, hx1, hz1⟩
  refine StL.step rfl rfl rfl (OpR.box rfl) ?_
  rintro _ w2 ⟨rfl, B2, hx2, hz2⟩
  have hx0 : Ext w w2 := (hx1.trans hx2)
  replace B1 := (B1.ext hx2)
  replace h := h.ext hx0
  replace k := k.ext hx0
  clear hx1 hx2
  (iterate 6 ((repeat with_reducible first|refine .nil ?_|refine .then_normal ?_|refine .block_normal ?_|refine .seq ?_|refine .block ?_|refine .skip ?_|refine .region ?_|refine .ret ?_|refine .then_ret ?_|refine .block_ret ?_|refine .exit ?_|refine .then_exit ?_|refine .block_exit ?_|refine .block_other rfl ?_); try refine .run TBok 99 rfl ?_))
  refine StL.step rfl rfl rfl (RunsTo.loadR rfl rfl (B1) (h.r4)).op ?_
  rintro _ _ ⟨rfl, rfl⟩
  refine StL.step rfl rfl rfl (RunsTo.loadR rfl rfl (B2) (k.r4)).op ?_
  rintro _ _ ⟨rfl, rfl⟩
  refine StL.step rfl rfl rfl (OpR.rats2 rfl rfl h.r4 k.r4) ?_
  rintro _ wL ⟨rfl, BL, hxL⟩
  replace B1 := B1.ext hxL
  replace B2 := B2.ext hxL
  replace h := h.ext hxL
  replace k := k.ext hxL
  replace hx0 := hx0.trans hxL
  clear hxL
  refine StL.step rfl rfl rfl (OpR.call fn_w02_long rfl (long2 BL h k)) ?_
  rintro _ wM ⟨hxM, c, rfl, hc⟩
  by_cases hcc : c = true
  · subst hcc
    (iterate 6 ((repeat with_reducible first|refine .nil ?_|refine .then_normal ?_|refine .block_normal ?_|refine .seq ?_|refine .block ?_|refine .skip ?_|refine .region ?_|refine .ret ?_|refine .then_ret ?_|refine .block_ret ?_|refine .exit ?_|refine .then_exit ?_|refine .block_exit ?_|refine .block_other rfl ?_); try refine .run TBok 99 rfl ?_))
    refine St.condT rfl rfl ?_
    (repeat with_reducible first|refine .nil ?_|refine .then_normal ?_|refine .block_normal ?_|refine .seq ?_|refine .block ?_|refine .skip ?_|refine .region ?_|refine .ret ?_|refine .then_ret ?_|refine .block_ret ?_|refine .exit ?_|refine .then_exit ?_|refine .block_exit ?_|refine .block_other rfl ?_)
    refine StL.awk rfl rfl ?_
    intro wz hxz
    (iterate 6 ((repeat with_reducible first|refine .nil ?_|refine .then_normal ?_|refine .block_normal ?_|refine .seq ?_|refine .block ?_|refine .skip ?_|refine .region ?_|refine .ret ?_|refine .then_ret ?_|refine .block_ret ?_|refine .exit ?_|refine .then_exit ?_|refine .block_exit ?_|refine .block_other rfl ?_); try refine .run TBok 99 rfl ?_))
    exact Out.ret1 rfl rfl ⟨(hx0.trans hxM).trans hxz, rfl⟩
  obtain rfl : c = false := by simpa using hcc
  obtain ⟨s1, s2⟩ := hc rfl
  obtain ⟨p, hp, zp⟩ := s1.q
  obtain ⟨q, hq, zq⟩ := s2.q
  replace B1 := B1.ext hxM
  replace B2 := B2.ext hxM
  replace hp := hp.ext hxM
  replace hq := hq.ext hxM
  replace hx0 := hx0.trans hxM
  clear hxM
  (iterate 6 ((repeat with_reducible first|refine .nil ?_|refine .then_normal ?_|refine .block_normal ?_|refine .seq ?_|refine .block ?_|refine .skip ?_|refine .region ?_|refine .ret ?_|refine .then_ret ?_|refine .block_ret ?_|refine .exit ?_|refine .then_exit ?_|refine .block_exit ?_|refine .block_other rfl ?_); try refine .run TBok 99 rfl ?_))
  refine St.condF rfl rfl ?_
  (repeat with_reducible first|refine .nil ?_|refine .then_normal ?_|refine .block_normal ?_|refine .seq ?_|refine .block ?_|refine .skip ?_|refine .region ?_|refine .ret ?_|refine .then_ret ?_|refine .block_ret ?_|refine .exit ?_|refine .then_exit ?_|refine .block_exit ?_|refine .block_other rfl ?_)
  refine St.sub (E' := [(2, .pointer (some ⟨w.heap.size, 0, none⟩)), (3, .pointer (some ⟨w1.heap.size, 0, none⟩))]) ?_ ⟨rfl, rfl, trivial⟩
  have z1 := rz_mul p q
  refine St.flow 5 TBfol (by kernel_rfl) rfl (by kernel_rfl) rfl True.intro ?_
  refine FL.one (L := []) rfl rfl rfl rfl rfl (fun _ hR => RunsTo.loadR rfl rfl (hR.blk (B1) (by simp)) (hp.1)) ?_
  refine FL.one (L := []) rfl rfl rfl rfl rfl (fun _ hR => RunsTo.loadR rfl rfl (hR.blk (B2) (by simp)) (hq.1)) ?_
  refine FL.callE fn_rational_Mul rfl rfl rfl (fun w5 hx5 => CallF.mk rfl (mulR_spec (hp.dn.ext hx5) (hq.dn.ext hx5) (by omega) (by omega))) (MonoR.canR 0 _) ?_
  refine FL.one (L := []) rfl rfl rfl rfl rfl (fun _ hR => RunsTo.loadR rfl rfl (hR.blk (B1) (by simp)) (hp.1)) ?_
  refine FL.one (L := []) rfl rfl rfl rfl rfl (fun _ hR => RunsTo.loadR rfl rfl (hR.blk (B2) (by simp)) (hq.1)) ?_
  refine FL.endE rfl ?_
  intro w5 hx5 a ha _ _
  replace hp := hp.ext hx5
  replace hq := hq.ext hx5
  replace hx0 := hx0.trans hx5
  clear hx5
  refine StL.step rfl rfl rfl (OpR.call fn_r02_Mul rfl (rmulR_spec hp hq (by omega) (by omega))) ?_
  rintro b w6 ⟨hx6, hb⟩
  replace ha := ha.ext hx6
  replace hx0 := hx0.trans hx6
  clear hx6
  refine StL.step rfl rfl rfl (OpR.call fn_r02_Same rfl (sameR_can ha hb (by omega))) ?_
  rintro _ w7 ⟨hx7, rfl⟩
  replace hx0 := hx0.trans hx7
  clear hx7
  refine .run TBok 99 rfl ?_
  refine StL.awk rfl rfl ?_
  intro wz hxz
  (iterate 6 ((repeat with_reducible first|refine .nil ?_|refine .then_normal ?_|refine .block_normal ?_|refine .seq ?_|refine .block ?_|refine .skip ?_|refine .region ?_|refine .ret ?_|refine .then_ret ?_|refine .block_ret ?_|refine .exit ?_|refine .then_exit ?_|refine .block_exit ?_|refine .block_other rfl ?_); try refine .run TBok 99 rfl ?_))
  exact Out.ret1 rfl rfl ⟨hx0.trans hxz, rfl⟩

set_option maxHeartbeats 1600000 in
theorem lawAddR (w : World) (v : Value) (h : InR w v) (u : Value) (k : InR w u) : Calls Try.prog 13 #[v, u] w (Ret fun r w' => Ext w w' ∧ r = .bool true) := by
  refine calls_of_St (args := [_, _]) Try.func13 rfl Try.ntmps13 rfl ?_
  (repeat with_reducible first|refine .nil ?_|refine .then_normal ?_|refine .block_normal ?_|refine .seq ?_|refine .block ?_|refine .skip ?_|refine .region ?_|refine .ret ?_|refine .then_ret ?_|refine .block_ret ?_|refine .exit ?_|refine .then_exit ?_|refine .block_exit ?_|refine .block_other rfl ?_)
  refine StL.step rfl rfl rfl (OpR.box rfl) ?_
  rintro _ w1 ⟨rfl, B1, hx1, hz1⟩
  refine StL.step rfl rfl rfl (OpR.box rfl) ?_
  rintro _ w2 ⟨rfl, B2, hx2, hz2⟩
  have hx0 : Ext w w2 := (hx1.trans hx2)
  replace B1 := (B1.ext hx2)
  replace h := h.ext hx0
  replace k := k.ext hx0
  clear hx1 hx2
  (iterate 6 ((repeat with_reducible first|refine .nil ?_|refine .then_normal ?_|refine .block_normal ?_|refine .seq ?_|refine .block ?_|refine .skip ?_|refine .region ?_|refine .ret ?_|refine .then_ret ?_|refine .block_ret ?_|refine .exit ?_|refine .then_exit ?_|refine .block_exit ?_|refine .block_other rfl ?_); try refine .run TBok 99 rfl ?_))
  refine StL.step rfl rfl rfl (RunsTo.loadR rfl rfl (B1) (h.r4)).op ?_
  rintro _ _ ⟨rfl, rfl⟩
  refine StL.step rfl rfl rfl (RunsTo.loadR rfl rfl (B2) (k.r4)).op ?_
  rintro _ _ ⟨rfl, rfl⟩
  refine StL.step rfl rfl rfl (OpR.rats2 rfl rfl h.r4 k.r4) ?_
  rintro _ wL ⟨rfl, BL, hxL⟩
  replace B1 := B1.ext hxL
  replace B2 := B2.ext hxL
  replace h := h.ext hxL
  replace k := k.ext hxL
  replace hx0 := hx0.trans hxL
  clear hxL
  refine StL.step rfl rfl rfl (OpR.call fn_w02_long rfl (long2 BL h k)) ?_
  rintro _ wM ⟨hxM, c, rfl, hc⟩
  by_cases hcc : c = true
  · subst hcc
    (iterate 6 ((repeat with_reducible first|refine .nil ?_|refine .then_normal ?_|refine .block_normal ?_|refine .seq ?_|refine .block ?_|refine .skip ?_|refine .region ?_|refine .ret ?_|refine .then_ret ?_|refine .block_ret ?_|refine .exit ?_|refine .then_exit ?_|refine .block_exit ?_|refine .block_other rfl ?_); try refine .run TBok 99 rfl ?_))
    refine St.condT rfl rfl ?_
    (repeat with_reducible first|refine .nil ?_|refine .then_normal ?_|refine .block_normal ?_|refine .seq ?_|refine .block ?_|refine .skip ?_|refine .region ?_|refine .ret ?_|refine .then_ret ?_|refine .block_ret ?_|refine .exit ?_|refine .then_exit ?_|refine .block_exit ?_|refine .block_other rfl ?_)
    refine StL.awk rfl rfl ?_
    intro wz hxz
    (iterate 6 ((repeat with_reducible first|refine .nil ?_|refine .then_normal ?_|refine .block_normal ?_|refine .seq ?_|refine .block ?_|refine .skip ?_|refine .region ?_|refine .ret ?_|refine .then_ret ?_|refine .block_ret ?_|refine .exit ?_|refine .then_exit ?_|refine .block_exit ?_|refine .block_other rfl ?_); try refine .run TBok 99 rfl ?_))
    exact Out.ret1 rfl rfl ⟨(hx0.trans hxM).trans hxz, rfl⟩
  obtain rfl : c = false := by simpa using hcc
  obtain ⟨s1, s2⟩ := hc rfl
  obtain ⟨p, hp, zp⟩ := s1.q
  obtain ⟨q, hq, zq⟩ := s2.q
  replace B1 := B1.ext hxM
  replace B2 := B2.ext hxM
  replace hp := hp.ext hxM
  replace hq := hq.ext hxM
  replace hx0 := hx0.trans hxM
  clear hxM
  (iterate 6 ((repeat with_reducible first|refine .nil ?_|refine .then_normal ?_|refine .block_normal ?_|refine .seq ?_|refine .block ?_|refine .skip ?_|refine .region ?_|refine .ret ?_|refine .then_ret ?_|refine .block_ret ?_|refine .exit ?_|refine .then_exit ?_|refine .block_exit ?_|refine .block_other rfl ?_); try refine .run TBok 99 rfl ?_))
  refine St.condF rfl rfl ?_
  (repeat with_reducible first|refine .nil ?_|refine .then_normal ?_|refine .block_normal ?_|refine .seq ?_|refine .block ?_|refine .skip ?_|refine .region ?_|refine .ret ?_|refine .then_ret ?_|refine .block_ret ?_|refine .exit ?_|refine .then_exit ?_|refine .block_exit ?_|refine .block_other rfl ?_)
  refine St.sub (E' := [(2, .pointer (some ⟨w.heap.size, 0, none⟩)), (3, .pointer (some ⟨w1.heap.size, 0, none⟩))]) ?_ ⟨rfl, rfl, trivial⟩
  have z1 := rz_add p q
  have z2 := rz_sub p q
  have z3 := rz_neg p
  refine St.flow 20 TBfol (by kernel_rfl) rfl (by kernel_rfl) rfl True.intro ?_
  refine FL.one (L := []) rfl rfl rfl rfl rfl (fun _ hR => RunsTo.loadR rfl rfl (hR.blk (B1) (by simp)) (hp.1)) ?_
  refine FL.one (L := []) rfl rfl rfl rfl rfl (fun _ hR => RunsTo.loadR rfl rfl (hR.blk (B2) (by simp)) (hq.1)) ?_
  refine FL.callE fn_rational_Add rfl rfl rfl (fun w5 hx5 => CallF.mk rfl (addR_spec (hp.dn.ext hx5) (hq.dn.ext hx5) (by omega) (by omega))) (MonoR.canR 0 _) ?_
  refine FL.one (L := []) rfl rfl rfl rfl rfl (fun _ hR => RunsTo.loadR rfl rfl (hR.blk (B1) (by simp)) (hp.1)) ?_
  refine FL.one (L := []) rfl rfl rfl rfl rfl (fun _ hR => RunsTo.loadR rfl rfl (hR.blk (B2) (by simp)) (hq.1)) ?_
  refine FL.callE fn_r02_Add rfl rfl rfl (fun w5 hx5 => CallF.mk rfl (raddR_spec (hp.ext hx5) (hq.ext hx5) (by omega) (by omega))) (MonoR.canR 0 _) ?_
  refine FL.callXE fn_r02_Same rfl rfl rfl (fun w5 hx5 a ha b hb => CallF.mk rfl (sameR_can ha hb (by omega))) ?_
  refine FL.run TBok 99 rfl ?_
  refine FL.one (L := []) rfl rfl rfl rfl rfl (fun _ hR => RunsTo.loadR rfl rfl (hR.blk (B1) (by simp)) (hp.1)) ?_
  refine FL.one (L := []) rfl rfl rfl rfl rfl (fun _ hR => RunsTo.loadR rfl rfl (hR.blk (B2) (by simp)) (hq.1)) ?_
  refine FL.callE fn_rational_Sub rfl rfl rfl (fun w5 hx5 => CallF.mk rfl (subR_spec (hp.dn.ext hx5) (hq.dn.ext hx5) (by omega) (by omega))) (MonoR.canR 0 _) ?_
  refine FL.one (L := []) rfl rfl rfl rfl rfl (fun _ hR => RunsTo.loadR rfl rfl (hR.blk (B1) (by simp)) (hp.1)) ?_
  refine FL.one (L := []) rfl rfl rfl rfl rfl (fun _ hR => RunsTo.loadR rfl rfl (hR.blk (B2) (by simp)) (hq.1)) ?_
  refine FL.callE fn_r02_Sub rfl rfl rfl (fun w5 hx5 => CallF.mk rfl (rsubR_spec (hp.ext hx5) (hq.ext hx5) (by omega) (by omega))) (MonoR.canR 0 _) ?_
  refine FL.callXE fn_r02_Same rfl rfl rfl (fun w5 hx5 a ha b hb => CallF.mk rfl (sameR_can ha hb (by omega))) ?_
  refine FL.run TBok 99 rfl ?_
  refine FL.one (L := []) rfl rfl rfl rfl rfl (fun _ hR => RunsTo.loadR rfl rfl (hR.blk (B1) (by simp)) (hp.1)) ?_
  refine FL.callE fn_rational_Neg rfl rfl rfl (fun w5 hx5 => CallF.mk rfl (negR_spec (hp.dn.ext hx5))) (MonoR.canR 0 _) ?_
  refine FL.one (L := []) rfl rfl rfl rfl rfl (fun _ hR => RunsTo.loadR rfl rfl (hR.blk (B1) (by simp)) (hp.1)) ?_
  refine FL.endE rfl ?_
  intro w5 hx5 a ha _ _ _ _ _ _ _ _ _ _
  replace hp := hp.ext hx5
  replace hx0 := hx0.trans hx5
  clear hx5
  refine StL.step rfl rfl rfl (OpR.call fn_r02_Neg rfl (rnegR_spec hp)) ?_
  rintro b w6 ⟨hx6, hb⟩
  replace ha := ha.ext hx6
  replace hx0 := hx0.trans hx6
  clear hx6
  refine StL.step rfl rfl rfl (OpR.call fn_r02_Same rfl (sameR_can ha hb (by omega))) ?_
  rintro _ w7 ⟨hx7, rfl⟩
  replace hx0 := hx0.trans hx7
  clear hx7
  refine .run TBok 99 rfl ?_
  refine StL.awk rfl rfl ?_
  intro wz hxz
  (iterate 6 ((repeat with_reducible first|refine .nil ?_|refine .then_normal ?_|refine .block_normal ?_|refine .seq ?_|refine .block ?_|refine .skip ?_|refine .region ?_|refine .ret ?_|refine .then_ret ?_|refine .block_ret ?_|refine .exit ?_|refine .then_exit ?_|refine .block_exit ?_|refine .block_other rfl ?_); try refine .run TBok 99 rfl ?_))
  exact Out.ret1 rfl rfl ⟨hx0.trans hxz, rfl⟩

set_option maxHeartbeats 1600000 in
theorem lawCmpR (w : World) (v : Value) (h : InR w v) (u : Value) (k : InR w u) : Calls Try.prog 15 #[v, u] w (Ret fun r w' => Ext w w' ∧ r = .bool true) := by
  refine calls_of_St (args := [_, _]) Try.func15 rfl Try.ntmps15 rfl ?_
  (repeat with_reducible first|refine .nil ?_|refine .then_normal ?_|refine .block_normal ?_|refine .seq ?_|refine .block ?_|refine .skip ?_|refine .region ?_|refine .ret ?_|refine .then_ret ?_|refine .block_ret ?_|refine .exit ?_|refine .then_exit ?_|refine .block_exit ?_|refine .block_other rfl ?_)
  refine StL.step rfl rfl rfl (OpR.box rfl) ?_
  rintro _ w1 ⟨rfl, B1, hx1, hz1⟩
  refine StL.step rfl rfl rfl (OpR.box rfl) ?_
  rintro _ w2 ⟨rfl, B2, hx2, hz2⟩
  have hx0 : Ext w w2 := (hx1.trans hx2)
  replace B1 := (B1.ext hx2)
  replace h := h.ext hx0
  replace k := k.ext hx0
  clear hx1 hx2
  (iterate 6 ((repeat with_reducible first|refine .nil ?_|refine .then_normal ?_|refine .block_normal ?_|refine .seq ?_|refine .block ?_|refine .skip ?_|refine .region ?_|refine .ret ?_|refine .then_ret ?_|refine .block_ret ?_|refine .exit ?_|refine .then_exit ?_|refine .block_exit ?_|refine .block_other rfl ?_); try refine .run TBok 99 rfl ?_))
  refine StL.step rfl rfl rfl (RunsTo.loadR rfl rfl (B1) (h.r4)).op ?_
  rintro _ _ ⟨rfl, rfl⟩
  refine StL.step rfl rfl rfl (RunsTo.loadR rfl rfl (B2) (k.r4)).op ?_
  rintro _ _ ⟨rfl, rfl⟩
  refine StL.step rfl rfl rfl (OpR.rats2 rfl rfl h.r4 k.r4) ?_
  rintro _ wL ⟨rfl, BL, hxL⟩
  replace B1 := B1.ext hxL
  replace B2 := B2.ext hxL
  replace h := h.ext hxL
  replace k := k.ext hxL
  replace hx0 := hx0.trans hxL
  clear hxL
  refine StL.step rfl rfl rfl (OpR.call fn_w02_long rfl (long2 BL h k)) ?_
  rintro _ wM ⟨hxM, c, rfl, hc⟩
  by_cases hcc : c = true
  · subst hcc
    (iterate 6 ((repeat with_reducible first|refine .nil ?_|refine .then_normal ?_|refine .block_normal ?_|refine .seq ?_|refine .block ?_|refine .skip ?_|refine .region ?_|refine .ret ?_|refine .then_ret ?_|refine .block_ret ?_|refine .exit ?_|refine .then_exit ?_|refine .block_exit ?_|refine .block_other rfl ?_); try refine .run TBok 99 rfl ?_))
    refine St.condT rfl rfl ?_
    (repeat with_reducible first|refine .nil ?_|refine .then_normal ?_|refine .block_normal ?_|refine .seq ?_|refine .block ?_|refine .skip ?_|refine .region ?_|refine .ret ?_|refine .then_ret ?_|refine .block_ret ?_|refine .exit ?_|refine .then_exit ?_|refine .block_exit ?_|refine .block_other rfl ?_)
    refine StL.awk rfl rfl ?_
    intro wz hxz
    (iterate 6 ((repeat with_reducible first|refine .nil ?_|refine .then_normal ?_|refine .block_normal ?_|refine .seq ?_|refine .block ?_|refine .skip ?_|refine .region ?_|refine .ret ?_|refine .then_ret ?_|refine .block_ret ?_|refine .exit ?_|refine .then_exit ?_|refine .block_exit ?_|refine .block_other rfl ?_); try refine .run TBok 99 rfl ?_))
    exact Out.ret1 rfl rfl ⟨(hx0.trans hxM).trans hxz, rfl⟩
  obtain rfl : c = false := by simpa using hcc
  obtain ⟨s1, s2⟩ := hc rfl
  obtain ⟨p, hp, zp⟩ := s1.q
  obtain ⟨q, hq, zq⟩ := s2.q
  replace B1 := B1.ext hxM
  replace B2 := B2.ext hxM
  replace hp := hp.ext hxM
  replace hq := hq.ext hxM
  replace hx0 := hx0.trans hxM
  clear hxM
  (iterate 6 ((repeat with_reducible first|refine .nil ?_|refine .then_normal ?_|refine .block_normal ?_|refine .seq ?_|refine .block ?_|refine .skip ?_|refine .region ?_|refine .ret ?_|refine .then_ret ?_|refine .block_ret ?_|refine .exit ?_|refine .then_exit ?_|refine .block_exit ?_|refine .block_other rfl ?_); try refine .run TBok 99 rfl ?_))
  refine St.condF rfl rfl ?_
  (repeat with_reducible first|refine .nil ?_|refine .then_normal ?_|refine .block_normal ?_|refine .seq ?_|refine .block ?_|refine .skip ?_|refine .region ?_|refine .ret ?_|refine .then_ret ?_|refine .block_ret ?_|refine .exit ?_|refine .then_exit ?_|refine .block_exit ?_|refine .block_other rfl ?_)
  refine St.sub (E' := [(2, .pointer (some ⟨w.heap.size, 0, none⟩)), (3, .pointer (some ⟨w1.heap.size, 0, none⟩))]) ?_ ⟨rfl, rfl, trivial⟩
  refine St.flow 18 TBfol (by kernel_rfl) rfl (by kernel_rfl) rfl True.intro ?_
  refine FL.one (L := []) rfl rfl rfl rfl rfl (fun _ hR => RunsTo.loadR rfl rfl (hR.blk (B1) (by simp)) (hp.1)) ?_
  refine FL.callXE fn_rational_Sign rfl rfl rfl (fun w5 hx5 => CallF.mk rfl (signR_spec (hp.dn.ext hx5))) ?_
  refine FL.one (L := []) rfl rfl rfl rfl rfl (fun _ hR => RunsTo.loadR rfl rfl (hR.blk (B1) (by simp)) (hp.1)) ?_
  refine FL.callXE fn_r02_Sign rfl rfl rfl (fun w5 hx5 => CallF.mk rfl (rsignR_spec (hp.ext hx5))) ?_
  refine FL.as TBok 1 (.bool true) rfl (bool_true rfl) ?_
  refine FL.run TBok 99 rfl ?_
  refine FL.one (L := []) rfl rfl rfl rfl rfl (fun _ hR => RunsTo.loadR rfl rfl (hR.blk (B1) (by simp)) (hp.1)) ?_
  refine FL.one (L := []) rfl rfl rfl rfl rfl (fun _ hR => RunsTo.loadR rfl rfl (hR.blk (B2) (by simp)) (hq.1)) ?_
  refine FL.callXE fn_rational_Cmp rfl rfl rfl (fun w5 hx5 => CallF.mk rfl (cmpR_spec (hp.dn.ext hx5) (hq.dn.ext hx5) (by omega) (by omega))) ?_
  refine FL.one (L := []) rfl rfl rfl rfl rfl (fun _ hR => RunsTo.loadR rfl rfl (hR.blk (B1) (by simp)) (hp.1)) ?_
  refine FL.one (L := []) rfl rfl rfl rfl rfl (fun _ hR => RunsTo.loadR rfl rfl (hR.blk (B2) (by simp)) (hq.1)) ?_
  refine FL.callXE fn_r02_Cmp rfl rfl rfl (fun w5 hx5 => CallF.mk rfl (rcmpR_spec (hp.ext hx5) (hq.ext hx5) (by omega) (by omega))) ?_
  refine FL.as TBok 1 (.bool true) rfl (bool_true rfl) ?_
  refine FL.run TBok 99 rfl ?_
  refine FL.one (L := []) rfl rfl rfl rfl rfl (fun _ hR => RunsTo.loadR rfl rfl (hR.blk (B1) (by simp)) (hp.1)) ?_
  refine FL.callXE fn_rational_IsWhole rfl rfl rfl (fun w5 hx5 => CallF.mk rfl (isWholeR_spec (hp.dn.ext hx5))) ?_
  refine FL.one (L := []) rfl rfl rfl rfl rfl (fun _ hR => RunsTo.loadR rfl rfl (hR.blk (B1) (by simp)) (hp.1)) ?_
  refine FL.endE rfl ?_
  intro w5 hx5 _ _
  replace hp := hp.ext hx5
  replace hx0 := hx0.trans hx5
  clear hx5
  refine StL.step rfl rfl rfl (OpR.call fn_r02_IsWhole rfl (risWhole_spec hp)) ?_
  rintro _ w6 ⟨hx6, rfl⟩
  replace hx0 := hx0.trans hx6
  clear hx6
  refine StL.step rfl rfl rfl (RunsTo.boolEq TBok rfl rfl rfl).op ?_
  rintro _ _ ⟨rfl, rfl⟩
  rw [show (decide (p.den = 1) == decide (p.den = 1)) = true from by simp]
  refine .run TBok 99 rfl ?_
  refine StL.awk rfl rfl ?_
  intro wz hxz
  (iterate 6 ((repeat with_reducible first|refine .nil ?_|refine .then_normal ?_|refine .block_normal ?_|refine .seq ?_|refine .block ?_|refine .skip ?_|refine .region ?_|refine .ret ?_|refine .then_ret ?_|refine .block_ret ?_|refine .exit ?_|refine .then_exit ?_|refine .block_exit ?_|refine .block_other rfl ?_); try refine .run TBok 99 rfl ?_))
  exact Out.ret1 rfl rfl ⟨hx0.trans hxz, rfl⟩

theorem QuoV.open {w : World} {r : Value} {p q : Rat} (h : QuoV w r p q) : ∃ v, r = .tuple #[v, .bool (decide (q ≠ 0))] ∧ R4 v ∧ (q = 0 → v = zR) ∧ (q ≠ 0 → CanR 0 w v (p / q)) := by
  by_cases e : q = 0
  · exact ⟨zR, by rw [h.1 e, decide_eq_false (fun h => h e)], zR_R4, fun _ => rfl, fun h => absurd e h⟩
  · obtain ⟨v, hr, hv⟩ := h.2 e
    exact ⟨v, by rw [hr, decide_eq_true e], hv.1, fun h => absurd h e, fun _ => hv⟩

set_option maxHeartbeats 1600000 in
theorem lawQuoR (w : World) (v : Value) (h : InR w v) (u : Value) (k : InR w u) : Calls Try.prog 16 #[v, u] w (Ret fun r w' => Ext w w' ∧ r = .bool true) := by
  refine calls_of_St (args := [_, _]) Try.func16 rfl Try.ntmps16 rfl ?_
  (repeat with_reducible first|refine .nil ?_|refine .then_normal ?_|refine .block_normal ?_|refine .seq ?_|refine .block ?_|refine .skip ?_|refine .region ?_|refine .ret ?_|refine .then_ret ?_|refine .block_ret ?_|refine .exit ?_|refine .then_exit ?_|refine .block_exit ?_|refine .block_other rfl ?_)
  refine StL.step rfl rfl rfl (OpR.box rfl) ?_
  rintro _ w1 ⟨rfl, B1, hx1, hz1⟩
  refine StL.step rfl rfl rfl (OpR.box rfl) ?_
  rintro _ w2 ⟨rfl, B2, hx2, hz2⟩
  have hx0 : Ext w w2 := (hx1.trans hx2)
  replace B1 := (B1.ext hx2)
  replace h := h.ext hx0
  replace k := k.ext hx0
  clear hx1 hx2
  (iterate 6 ((repeat with_reducible first|refine .nil ?_|refine .then_normal ?_|refine .block_normal ?_|refine .seq ?_|refine .block ?_|refine .skip ?_|refine .region ?_|refine .ret ?_|refine .then_ret ?_|refine .block_ret ?_|refine .exit ?_|refine .then_exit ?_|refine .block_exit ?_|refine .block_other rfl ?_); try refine .run TBok 99 rfl ?_))
  refine StL.step rfl rfl rfl (RunsTo.loadR rfl rfl (B1) (h.r4)).op ?_
  rintro _ _ ⟨rfl, rfl⟩
  refine StL.step rfl rfl rfl (RunsTo.loadR rfl rfl (B2) (k.r4)).op ?_
  rintro _ _ ⟨rfl, rfl⟩
  refine StL.step rfl rfl rfl (OpR.rats2 rfl rfl h.r4 k.r4) ?_
  rintro _ wL ⟨rfl, BL, hxL⟩
  replace B1 := B1.ext hxL
  replace B2 := B2.ext hxL
  replace h := h.ext hxL
  replace k := k.ext hxL
  replace hx0 := hx0.trans hxL
  clear hxL
  refine StL.step rfl rfl rfl (OpR.call fn_w02_long rfl (long2 BL h k)) ?_
  rintro _ wM ⟨hxM, c, rfl, hc⟩
  by_cases hcc : c = true
  · subst hcc
    (iterate 6 ((repeat with_reducible first|refine .nil ?_|refine .then_normal ?_|refine .block_normal ?_|refine .seq ?_|refine .block ?_|refine .skip ?_|refine .region ?_|refine .ret ?_|refine .then_ret ?_|refine .block_ret ?_|refine .exit ?_|refine .then_exit ?_|refine .block_exit ?_|refine .block_other rfl ?_); try refine .run TBok 99 rfl ?_))
    refine St.condT rfl rfl ?_
    (repeat with_reducible first|refine .nil ?_|refine .then_normal ?_|refine .block_normal ?_|refine .seq ?_|refine .block ?_|refine .skip ?_|refine .region ?_|refine .ret ?_|refine .then_ret ?_|refine .block_ret ?_|refine .exit ?_|refine .then_exit ?_|refine .block_exit ?_|refine .block_other rfl ?_)
    refine StL.awk rfl rfl ?_
    intro wz hxz
    (iterate 6 ((repeat with_reducible first|refine .nil ?_|refine .then_normal ?_|refine .block_normal ?_|refine .seq ?_|refine .block ?_|refine .skip ?_|refine .region ?_|refine .ret ?_|refine .then_ret ?_|refine .block_ret ?_|refine .exit ?_|refine .then_exit ?_|refine .block_exit ?_|refine .block_other rfl ?_); try refine .run TBok 99 rfl ?_))
    exact Out.ret1 rfl rfl ⟨(hx0.trans hxM).trans hxz, rfl⟩
  obtain rfl : c = false := by simpa using hcc
  obtain ⟨s1, s2⟩ := hc rfl
  obtain ⟨p, hp, zp⟩ := s1.q
  obtain ⟨q, hq, zq⟩ := s2.q
  replace B1 := B1.ext hxM
  replace B2 := B2.ext hxM
  replace hp := hp.ext hxM
  replace hq := hq.ext hxM
  replace hx0 := hx0.trans hxM
  clear hxM
  (iterate 6 ((repeat with_reducible first|refine .nil ?_|refine .then_normal ?_|refine .block_normal ?_|refine .seq ?_|refine .block ?_|refine .skip ?_|refine .region ?_|refine .ret ?_|refine .then_ret ?_|refine .block_ret ?_|refine .exit ?_|refine .then_exit ?_|refine .block_exit ?_|refine .block_other rfl ?_); try refine .run TBok 99 rfl ?_))
  refine St.condF rfl rfl ?_
  (repeat with_reducible first|refine .nil ?_|refine .then_normal ?_|refine .block_normal ?_|refine .seq ?_|refine .block ?_|refine .skip ?_|refine .region ?_|refine .ret ?_|refine .then_ret ?_|refine .block_ret ?_|refine .exit ?_|refine .then_exit ?_|refine .block_exit ?_|refine .block_other rfl ?_)
  have z1 := rz_mul p q⁻¹
  have z2 := rz_inv q
  rw [← Rat.div_def] at z1
  (iterate 6 ((repeat with_reducible first|refine .nil ?_|refine .then_normal ?_|refine .block_normal ?_|refine .seq ?_|refine .block ?_|refine .skip ?_|refine .region ?_|refine .ret ?_|refine .then_ret ?_|refine .block_ret ?_|refine .exit ?_|refine .then_exit ?_|refine .block_exit ?_|refine .block_other rfl ?_); try refine .run TBok 99 rfl ?_))
  refine StL.step rfl rfl rfl (RunsTo.loadR rfl rfl (B1) (hp.1)).op ?_
  rintro _ _ ⟨rfl, rfl⟩
  refine StL.step rfl rfl rfl (RunsTo.loadR rfl rfl (B2) (hq.1)).op ?_
  rintro _ _ ⟨rfl, rfl⟩
  refine StL.step rfl rfl rfl (OpR.call fn_rational_Quo rfl (quoR_spec hp.dn hq.dn (by omega) (by omega))) ?_
  rintro _ w5 ⟨hx5, hr⟩
  obtain ⟨a, rfl, a4, a0, a1⟩ := hr.open
  replace B1 := B1.ext hx5
  replace B2 := B2.ext hx5
  replace hp := hp.ext hx5
  replace hq := hq.ext hx5
  replace hx0 := hx0.trans hx5
  clear hx5
  refine .run TBok 99 rfl ?_
  refine StL.newR rfl rfl (fun _ => rfl) a4 ?_
  intro b5 w6 hl5 hx6 B5
  replace a1 := fun e => (a1 e).ext hx6
  replace B1 := B1.ext hx6
  replace B2 := B2.ext hx6
  replace hp := hp.ext hx6
  replace hq := hq.ext hx6
  replace hx0 := hx0.trans hx6
  clear hx6
  (iterate 6 ((repeat with_reducible first|refine .nil ?_|refine .then_normal ?_|refine .block_normal ?_|refine .seq ?_|refine .block ?_|refine .skip ?_|refine .region ?_|refine .ret ?_|refine .then_ret ?_|refine .block_ret ?_|refine .exit ?_|refine .then_exit ?_|refine .block_exit ?_|refine .block_other rfl ?_); try refine .run TBok 99 rfl ?_))
  refine StL.step rfl rfl rfl (RunsTo.loadR rfl rfl (B1) (hp.1)).op ?_
  rintro _ _ ⟨rfl, rfl⟩
  refine StL.step rfl rfl rfl (RunsTo.loadR rfl rfl (B2) (hq.1)).op ?_
  rintro _ _ ⟨rfl, rfl⟩
  refine StL.step rfl rfl rfl (OpR.call fn_r02_Quo rfl (rquoR_spec hp hq (by omega) (by omega))) ?_
  rintro _ w7 ⟨hx7, hr2⟩
  obtain ⟨b, rfl, b4, b0, b1⟩ := hr2.open
  replace a1 := fun e => (a1 e).ext hx7
  replace B5 := B5.ext hx7
  replace hx0 := hx0.trans hx7
  clear hx7
  refine .run TBok 99 rfl ?_
  refine StL.newR rfl rfl (fun _ => rfl) b4 ?_
  intro b7 w8 hl7 hx8 B7
  replace a1 := fun e => (a1 e).ext hx8
  replace b1 := fun e => (b1 e).ext hx8
  replace B5 := B5.ext hx8
  replace hx0 := hx0.trans hx8
  clear hx8
  (iterate 6 ((repeat with_reducible first|refine .nil ?_|refine .then_normal ?_|refine .block_normal ?_|refine .seq ?_|refine .block ?_|refine .skip ?_|refine .region ?_|refine .ret ?_|refine .then_ret ?_|refine .block_ret ?_|refine .exit ?_|refine .then_exit ?_|refine .block_exit ?_|refine .block_other rfl ?_); try refine .run TBok 99 rfl ?_))
  refine StL.step rfl rfl rfl (RunsTo.loadR rfl rfl (B5) (a4)).op ?_
  rintro _ _ ⟨rfl, rfl⟩
  refine StL.step rfl rfl rfl (RunsTo.loadR rfl rfl (B7) (b4)).op ?_
  rintro _ _ ⟨rfl, rfl⟩
  have hs : Calls Try.prog 25 #[a, b] w8 (Ret fun r w' => Ext w8 w' ∧ r = .bool true) := by
    by_cases e : q = 0
    · rw [a0 e, b0 e]; exact sameR_zero w8
    · exact sameR_can (a1 e) (b1 e) (by omega)
  refine StL.step rfl rfl rfl (OpR.call fn_r02_Same rfl (hs)) ?_
  rintro _ w9 ⟨hx9, rfl⟩
  replace hx0 := hx0.trans hx9
  clear hx9
  refine .run TBok 99 rfl ?_
  refine StL.step rfl rfl rfl (RunsTo.boolEq TBok rfl rfl rfl).op ?_
  rintro _ _ ⟨rfl, rfl⟩
  rw [show (decide (q ≠ 0) == decide (q ≠ 0)) = true from by simp]
  refine .run TBok 99 rfl ?_
  refine StL.awk rfl rfl ?_
  intro wz hxz
  (iterate 6 ((repeat with_reducible first|refine .nil ?_|refine .then_normal ?_|refine .block_normal ?_|refine .seq ?_|refine .block ?_|refine .skip ?_|refine .region ?_|refine .ret ?_|refine .then_ret ?_|refine .block_ret ?_|refine .exit ?_|refine .then_exit ?_|refine .block_exit ?_|refine .block_other rfl ?_); try refine .run TBok 99 rfl ?_))
  exact Out.ret1 rfl rfl ⟨hx0.trans hxz, rfl⟩

theorem sz_floor (q : Rat) : sz q.floor ≤ rz q := by
  rw [Rat.floor_def]
  exact Nat.le_trans (sz_div _ _) (rz_num q)

set_option maxHeartbeats 800000 in
theorem lawFloors (w : World) (v : Value) (h : InR w v) : Calls Try.prog 6 #[v] w (Ret fun r w' => Ext w w' ∧ r = .bool true) := by
  refine calls_of_St (args := [_]) Try.func6 rfl Try.ntmps6 rfl ?_
  (repeat with_reducible first|refine .nil ?_|refine .then_normal ?_|refine .block_normal ?_|refine .seq ?_|refine .block ?_|refine .skip ?_|refine .region ?_|refine .ret ?_|refine .then_ret ?_|refine .block_ret ?_|refine .exit ?_|refine .then_exit ?_|refine .block_exit ?_|refine .block_other rfl ?_)
  refine StL.step rfl rfl rfl (OpR.box rfl) ?_
  rintro _ w1 ⟨rfl, B1, hx1, hz1⟩
  have hx0 : Ext w w1 := hx1
  replace h := h.ext hx0
  clear hx1
  (iterate 6 ((repeat with_reducible first|refine .nil ?_|refine .then_normal ?_|refine .block_normal ?_|refine .seq ?_|refine .block ?_|refine .skip ?_|refine .region ?_|refine .ret ?_|refine .then_ret ?_|refine .block_ret ?_|refine .exit ?_|refine .then_exit ?_|refine .block_exit ?_|refine .block_other rfl ?_); try refine .run TBok 99 rfl ?_))
  refine StL.step rfl rfl rfl (RunsTo.loadR rfl rfl (B1) (h.r4)).op ?_
  rintro _ _ ⟨rfl, rfl⟩
  refine StL.step rfl rfl rfl (OpR.rats1 rfl h.r4) ?_
  rintro _ wL ⟨rfl, BL, hxL⟩
  replace B1 := B1.ext hxL
  replace h := h.ext hxL
  replace hx0 := hx0.trans hxL
  clear hxL
  refine StL.step rfl rfl rfl (OpR.call fn_w02_long rfl (long1 BL h)) ?_
  rintro _ wM ⟨hxM, c, rfl, hc⟩
  by_cases hcc : c = true
  · subst hcc
    (iterate 6 ((repeat with_reducible first|refine .nil ?_|refine .then_normal ?_|refine .block_normal ?_|refine .seq ?_|refine .block ?_|refine .skip ?_|refine .region ?_|refine .ret ?_|refine .then_ret ?_|refine .block_ret ?_|refine .exit ?_|refine .then_exit ?_|refine .block_exit ?_|refine .block_other rfl ?_); try refine .run TBok 99 rfl ?_))
    refine St.condT rfl rfl ?_
    (repeat with_reducible first|refine .nil ?_|refine .then_normal ?_|refine .block_normal ?_|refine .seq ?_|refine .block ?_|refine .skip ?_|refine .region ?_|refine .ret ?_|refine .then_ret ?_|refine .block_ret ?_|refine .exit ?_|refine .then_exit ?_|refine .block_exit ?_|refine .block_other rfl ?_)
    refine StL.awk rfl rfl ?_
    intro wz hxz
    (iterate 6 ((repeat with_reducible first|refine .nil ?_|refine .then_normal ?_|refine .block_normal ?_|refine .seq ?_|refine .block ?_|refine .skip ?_|refine .region ?_|refine .ret ?_|refine .then_ret ?_|refine .block_ret ?_|refine .exit ?_|refine .then_exit ?_|refine .block_exit ?_|refine .block_other rfl ?_); try refine .run TBok 99 rfl ?_))
    exact Out.ret1 rfl rfl ⟨(hx0.trans hxM).trans hxz, rfl⟩
  obtain rfl : c = false := by simpa using hcc
  have s1 := hc rfl
  obtain ⟨p, hp, zp⟩ := s1.q
  replace B1 := B1.ext hxM
  replace hp := hp.ext hxM
  replace hx0 := hx0.trans hxM
  clear hxM
  (iterate 6 ((repeat with_reducible first|refine .nil ?_|refine .then_normal ?_|refine .block_normal ?_|refine .seq ?_|refine .block ?_|refine .skip ?_|refine .region ?_|refine .ret ?_|refine .then_ret ?_|refine .block_ret ?_|refine .exit ?_|refine .then_exit ?_|refine .block_exit ?_|refine .block_other rfl ?_); try refine .run TBok 99 rfl ?_))
  refine St.condF rfl rfl ?_
  (repeat with_reducible first|refine .nil ?_|refine .then_normal ?_|refine .block_normal ?_|refine .seq ?_|refine .block ?_|refine .skip ?_|refine .region ?_|refine .ret ?_|refine .then_ret ?_|refine .block_ret ?_|refine .exit ?_|refine .then_exit ?_|refine .block_exit ?_|refine .block_other rfl ?_)
  refine St.sub (E' := [(1, .pointer (some ⟨w.heap.size, 0, none⟩))]) ?_ ⟨rfl, trivial⟩
  have z1 := sz_floor p
  have z2 := sz_floor (p + Rat.divInt 1 2)
  have z3 := rz_add p (Rat.divInt 1 2)
  have z4 := rz_half
  refine St.flow 9 TBfol (by kernel_rfl) rfl (by kernel_rfl) rfl True.intro ?_
  refine FL.one (L := []) rfl rfl rfl rfl rfl (fun _ hR => RunsTo.loadR rfl rfl (hR.blk (B1) (by simp)) (hp.1)) ?_
  refine FL.callE fn_rational_Floor rfl rfl rfl (fun w5 hx5 => CallF.mk rfl (floorR_spec (hp.dn.ext hx5))) (MonoR.canO 0 _) ?_
  refine FL.one (L := []) rfl rfl rfl rfl rfl (fun _ hR => RunsTo.loadR rfl rfl (hR.blk (B1) (by simp)) (hp.1)) ?_
  refine FL.callE fn_r02_Floor rfl rfl rfl (fun w5 hx5 => CallF.mk rfl (rfloorR_spec (hp.ext hx5))) (MonoR.canO 0 _) ?_
  refine FL.callXE fn_r01_Same rfl rfl rfl (fun w5 hx5 a ha b hb => CallF.mk rfl (same_true ha hb (by omega))) ?_
  refine FL.run TBok 99 rfl ?_
  refine FL.one (L := []) rfl rfl rfl rfl rfl (fun _ hR => RunsTo.loadR rfl rfl (hR.blk (B1) (by simp)) (hp.1)) ?_
  refine FL.callE fn_rational_Nearest rfl rfl rfl (fun w5 hx5 => CallF.mk rfl (nearestR_spec (hp.dn.ext hx5) (by omega))) (MonoR.canO 0 _) ?_
  refine FL.one (L := []) rfl rfl rfl rfl rfl (fun _ hR => RunsTo.loadR rfl rfl (hR.blk (B1) (by simp)) (hp.1)) ?_
  refine FL.endE rfl ?_
  intro w5 hx5 a ha _ _ _ _ _ _
  replace hp := hp.ext hx5
  replace hx0 := hx0.trans hx5
  clear hx5
  refine StL.step rfl rfl rfl (OpR.call fn_r02_Nearest rfl (rnearestR_spec hp (by omega))) ?_
  rintro b w6 ⟨hx6, hb⟩
  replace ha := ha.ext hx6
  replace hx0 := hx0.trans hx6
  clear hx6
  refine StL.step rfl rfl rfl (OpR.call fn_r01_Same rfl (same_true ha hb (by omega))) ?_
  rintro _ w7 ⟨hx7, rfl⟩
  replace hx0 := hx0.trans hx7
  clear hx7
  refine .run TBok 99 rfl ?_
  refine StL.awk rfl rfl ?_
  intro wz hxz
  (iterate 6 ((repeat with_reducible first|refine .nil ?_|refine .then_normal ?_|refine .block_normal ?_|refine .seq ?_|refine .block ?_|refine .skip ?_|refine .region ?_|refine .ret ?_|refine .then_ret ?_|refine .block_ret ?_|refine .exit ?_|refine .then_exit ?_|refine .block_exit ?_|refine .block_other rfl ?_); try refine .run TBok 99 rfl ?_))
  exact Out.ret1 rfl rfl ⟨hx0.trans hxz, rfl⟩

set_option maxHeartbeats 800000 in
theorem lawFormatsR (w : World) (v : Value) (h : InR w v) : Calls Try.prog 11 #[v] w (Ret fun r w' => Ext w w' ∧ r = .bool true) := by
  refine calls_of_St (args := [_]) Try.func11 rfl Try.ntmps11 rfl ?_
  (repeat with_reducible first|refine .nil ?_|refine .then_normal ?_|refine .block_normal ?_|refine .seq ?_|refine .block ?_|refine .skip ?_|refine .region ?_|refine .ret ?_|refine .then_ret ?_|refine .block_ret ?_|refine .exit ?_|refine .then_exit ?_|refine .block_exit ?_|refine .block_other rfl ?_)
  refine StL.step rfl rfl rfl (OpR.box rfl) ?_
  rintro _ w1 ⟨rfl, B1, hx1, hz1⟩
  have hx0 : Ext w w1 := hx1
  replace h := h.ext hx0
  clear hx1
  (iterate 6 ((repeat with_reducible first|refine .nil ?_|refine .then_normal ?_|refine .block_normal ?_|refine .seq ?_|refine .block ?_|refine .skip ?_|refine .region ?_|refine .ret ?_|refine .then_ret ?_|refine .block_ret ?_|refine .exit ?_|refine .then_exit ?_|refine .block_exit ?_|refine .block_other rfl ?_); try refine .run TBok 99 rfl ?_))
  refine StL.step rfl rfl rfl (RunsTo.loadR rfl rfl (B1) (h.r4)).op ?_
  rintro _ _ ⟨rfl, rfl⟩
  refine StL.step rfl rfl rfl (OpR.rats1 rfl h.r4) ?_
  rintro _ wL ⟨rfl, BL, hxL⟩
  replace B1 := B1.ext hxL
  replace h := h.ext hxL
  replace hx0 := hx0.trans hxL
  clear hxL
  refine StL.step rfl rfl rfl (OpR.call fn_w02_long rfl (long1 BL h)) ?_
  rintro _ wM ⟨hxM, c, rfl, hc⟩
  by_cases hcc : c = true
  · subst hcc
    (iterate 6 ((repeat with_reducible first|refine .nil ?_|refine .then_normal ?_|refine .block_normal ?_|refine .seq ?_|refine .block ?_|refine .skip ?_|refine .region ?_|refine .ret ?_|refine .then_ret ?_|refine .block_ret ?_|refine .exit ?_|refine .then_exit ?_|refine .block_exit ?_|refine .block_other rfl ?_); try refine .run TBok 99 rfl ?_))
    refine St.condT rfl rfl ?_
    (repeat with_reducible first|refine .nil ?_|refine .then_normal ?_|refine .block_normal ?_|refine .seq ?_|refine .block ?_|refine .skip ?_|refine .region ?_|refine .ret ?_|refine .then_ret ?_|refine .block_ret ?_|refine .exit ?_|refine .then_exit ?_|refine .block_exit ?_|refine .block_other rfl ?_)
    refine StL.awk rfl rfl ?_
    intro wz hxz
    (iterate 6 ((repeat with_reducible first|refine .nil ?_|refine .then_normal ?_|refine .block_normal ?_|refine .seq ?_|refine .block ?_|refine .skip ?_|refine .region ?_|refine .ret ?_|refine .then_ret ?_|refine .block_ret ?_|refine .exit ?_|refine .then_exit ?_|refine .block_exit ?_|refine .block_other rfl ?_); try refine .run TBok 99 rfl ?_))
    exact Out.ret1 rfl rfl ⟨(hx0.trans hxM).trans hxz, rfl⟩
  obtain rfl : c = false := by simpa using hcc
  have s1 := hc rfl
  obtain ⟨p, hp, zp⟩ := s1.q
  replace B1 := B1.ext hxM
  replace hp := hp.ext hxM
  replace hx0 := hx0.trans hxM
  clear hxM
  (iterate 6 ((repeat with_reducible first|refine .nil ?_|refine .then_normal ?_|refine .block_normal ?_|refine .seq ?_|refine .block ?_|refine .skip ?_|refine .region ?_|refine .ret ?_|refine .then_ret ?_|refine .block_ret ?_|refine .exit ?_|refine .then_exit ?_|refine .block_exit ?_|refine .block_other rfl ?_); try refine .run TBok 99 rfl ?_))
  refine St.condF rfl rfl ?_
  (repeat with_reducible first|refine .nil ?_|refine .then_normal ?_|refine .block_normal ?_|refine .seq ?_|refine .block ?_|refine .skip ?_|refine .region ?_|refine .ret ?_|refine .then_ret ?_|refine .block_ret ?_|refine .exit ?_|refine .then_exit ?_|refine .block_exit ?_|refine .block_other rfl ?_)
  refine St.sub (E' := [(1, .pointer (some ⟨w.heap.size, 0, none⟩))]) ?_ ⟨rfl, trivial⟩
  refine St.flow 3 TBfol (by kernel_rfl) rfl (by kernel_rfl) rfl True.intro ?_
  refine FL.one (L := []) rfl rfl rfl rfl rfl (fun _ hR => RunsTo.loadR rfl rfl (hR.blk (B1) (by simp)) (hp.1)) ?_
  refine FL.callXE fn_rational_Format rfl rfl rfl (fun w5 hx5 => CallF.mk rfl (formatR_spec (hp.dn.ext hx5))) ?_
  refine FL.one (L := []) rfl rfl rfl rfl rfl (fun _ hR => RunsTo.loadR rfl rfl (hR.blk (B1) (by simp)) (hp.1)) ?_
  refine FL.endE rfl ?_
  intro w5 hx5 _ _
  replace hp := hp.ext hx5
  replace hx0 := hx0.trans hx5
  clear hx5
  refine StL.step rfl rfl rfl (OpR.call fn_r02_Format rfl (rformatR_spec hp)) ?_
  rintro _ w6 ⟨hx6, rfl⟩
  replace hx0 := hx0.trans hx6
  clear hx6
  refine StL.step rfl rfl rfl (RunsTo.strIs (fmtR_b8 p) (fmtR_b8 p) rfl rfl rfl).op ?_
  rintro _ _ ⟨rfl, rfl⟩
  refine .run TBok 99 rfl ?_
  refine StL.awk rfl rfl ?_
  intro wz hxz
  (iterate 6 ((repeat with_reducible first|refine .nil ?_|refine .then_normal ?_|refine .block_normal ?_|refine .seq ?_|refine .block ?_|refine .skip ?_|refine .region ?_|refine .ret ?_|refine .then_ret ?_|refine .block_ret ?_|refine .exit ?_|refine .then_exit ?_|refine .block_exit ?_|refine .block_other rfl ?_); try refine .run TBok 99 rfl ?_))
  exact Out.ret1 rfl rfl ⟨hx0.trans hxz, rfl⟩

end Go.Qf

/- The law RationalField: the walk. -/
namespace Go.Qf
open Go Go.RowKit Go.Proofs
set_option maxRecDepth 20000

theorem signI_pos {r : Rat} : (0 < signI r.num) ↔ 0 < r := by
  constructor
  · intro h
    have : 0 < r.num := by
      unfold signI at h
      split at h
      · omega
      · split at h <;> omega
    rw [Rat.lt_iff]; simpa using this
  · intro h
    rw [Rat.lt_iff] at h
    have : 0 < r.num := by simpa using h
    unfold signI
    rw [if_neg (by omega), if_neg (by omega)]; decide

set_option maxHeartbeats 3200000 in
theorem lawField (w : World) (v : Value) (h : InR w v) (u : Value) (k : InR w u) (t : Value) (j : InR w t) : Calls Try.prog 18 #[v, u, t] w (Ret fun r w' => Ext w w' ∧ r = .bool true) := by
  refine calls_of_St (args := [_, _, _]) Try.func18 rfl Try.ntmps18 rfl ?_
  (repeat with_reducible first|refine .nil ?_|refine .then_normal ?_|refine .block_normal ?_|refine .seq ?_|refine .block ?_|refine .skip ?_|refine .region ?_|refine .ret ?_|refine .then_ret ?_|refine .block_ret ?_|refine .exit ?_|refine .then_exit ?_|refine .block_exit ?_|refine .block_other rfl ?_)
  refine StL.step rfl rfl rfl (OpR.box rfl) ?_
  rintro _ w1 ⟨rfl, B1, hx1, hz1⟩
  refine StL.step rfl rfl rfl (OpR.box rfl) ?_
  rintro _ w2 ⟨rfl, B2, hx2, hz2⟩
  refine StL.step rfl rfl rfl (OpR.box rfl) ?_
  rintro _ w3 ⟨rfl, B3, hx3, hz3⟩
  have hx0 : Ext w w3 := ((hx1.trans hx2).trans hx3)
  replace B1 := ((B1.ext hx2).ext hx3)
  replace B2 := (B2.ext hx3)
  replace h := h.ext hx0
  replace k := k.ext hx0
  replace j := j.ext hx0
  clear hx1 hx2 hx3
  (iterate 6 ((repeat with_reducible first|refine .nil ?_|refine .then_normal ?_|refine .block_normal ?_|refine .seq ?_|refine .block ?_|refine .skip ?_|refine .region ?_|refine .ret ?_|refine .then_ret ?_|refine .block_ret ?_|refine .exit ?_|refine .then_exit ?_|refine .block_exit ?_|refine .block_other rfl ?_); try refine .run TBok 99 rfl ?_))
  refine StL.step rfl rfl rfl (RunsTo.loadR rfl rfl (B1) (h.r4)).op ?_
  rintro _ _ ⟨rfl, rfl⟩
  refine StL.step rfl rfl rfl (RunsTo.loadR rfl rfl (B2) (k.r4)).op ?_
  rintro _ _ ⟨rfl, rfl⟩
  refine StL.step rfl rfl rfl (RunsTo.loadR rfl rfl (B3) (j.r4)).op ?_
  rintro _ _ ⟨rfl, rfl⟩
  refine StL.step rfl rfl rfl (OpR.rats3 rfl rfl rfl h.r4 k.r4 j.r4) ?_
  rintro _ wL ⟨rfl, BL, hxL⟩
  replace B1 := B1.ext hxL
  replace B2 := B2.ext hxL
  replace B3 := B3.ext hxL
  replace h := h.ext hxL
  replace k := k.ext hxL
  replace j := j.ext hxL
  replace hx0 := hx0.trans hxL
  clear hxL
  refine StL.step rfl rfl rfl (OpR.call fn_w02_long rfl (long3 BL h k j)) ?_
  rintro _ wM ⟨hxM, c, rfl, hc⟩
  by_cases hcc : c = true
  · subst hcc
    (iterate 6 ((repeat with_reducible first|refine .nil ?_|refine .then_normal ?_|refine .block_normal ?_|refine .seq ?_|refine .block ?_|refine .skip ?_|refine .region ?_|refine .ret ?_|refine .then_ret ?_|refine .block_ret ?_|refine .exit ?_|refine .then_exit ?_|refine .block_exit ?_|refine .block_other rfl ?_); try refine .run TBok 99 rfl ?_))
    refine St.condT rfl rfl ?_
    (repeat with_reducible first|refine .nil ?_|refine .then_normal ?_|refine .block_normal ?_|refine .seq ?_|refine .block ?_|refine .skip ?_|refine .region ?_|refine .ret ?_|refine .then_ret ?_|refine .block_ret ?_|refine .exit ?_|refine .then_exit ?_|refine .block_exit ?_|refine .block_other rfl ?_)
    refine StL.awk rfl rfl ?_
    intro wz hxz
    (iterate 6 ((repeat with_reducible first|refine .nil ?_|refine .then_normal ?_|refine .block_normal ?_|refine .seq ?_|refine .block ?_|refine .skip ?_|refine .region ?_|refine .ret ?_|refine .then_ret ?_|refine .block_ret ?_|refine .exit ?_|refine .then_exit ?_|refine .block_exit ?_|refine .block_other rfl ?_); try refine .run TBok 99 rfl ?_))
    exact Out.ret1 rfl rfl ⟨(hx0.trans hxM).trans hxz, rfl⟩
  obtain rfl : c = false := by simpa using hcc
  obtain ⟨s1, s2, s3⟩ := hc rfl
  obtain ⟨p, hp, zp⟩ := s1.q
  obtain ⟨q, hq, zq⟩ := s2.q
  obtain ⟨r, hr, zr⟩ := s3.q
  replace B1 := B1.ext hxM
  replace B2 := B2.ext hxM
  replace B3 := B3.ext hxM
  replace hp := hp.ext hxM
  replace hq := hq.ext hxM
  replace hr := hr.ext hxM
  replace hx0 := hx0.trans hxM
  clear hxM
  (iterate 6 ((repeat with_reducible first|refine .nil ?_|refine .then_normal ?_|refine .block_normal ?_|refine .seq ?_|refine .block ?_|refine .skip ?_|refine .region ?_|refine .ret ?_|refine .then_ret ?_|refine .block_ret ?_|refine .exit ?_|refine .then_exit ?_|refine .block_exit ?_|refine .block_other rfl ?_); try refine .run TBok 99 rfl ?_))
  refine St.condF rfl rfl ?_
  (repeat with_reducible first|refine .nil ?_|refine .then_normal ?_|refine .block_normal ?_|refine .seq ?_|refine .block ?_|refine .skip ?_|refine .region ?_|refine .ret ?_|refine .then_ret ?_|refine .block_ret ?_|refine .exit ?_|refine .then_exit ?_|refine .block_exit ?_|refine .block_other rfl ?_)
  refine St.sub (E' := [(3, .pointer (some ⟨w.heap.size, 0, none⟩)), (4, .pointer (some ⟨w1.heap.size, 0, none⟩)), (5, .pointer (some ⟨w2.heap.size, 0, none⟩))]) ?_ ⟨rfl, rfl, rfl, trivial⟩
  have zqr := rz_add q r
  have zpqr := rz_mul p (q + r)
  have zpq := rz_mul p q
  have zpr := rz_mul p r
  have zqr' := rz_mul q r
  have zs := rz_add (p * q) (p * r)
  have zap := rz_add p r
  have zi := rz_inv r
  have zd := rz_mul p r⁻¹
  rw [← Rat.div_def] at zd
  have zdr := rz_mul (p / r) r
  refine St.flow 6 TBfol (by kernel_rfl) rfl (by kernel_rfl) rfl True.intro ?_
  refine FL.one (L := []) rfl rfl rfl rfl rfl (fun _ hR => RunsTo.loadR rfl rfl (hR.blk (B1) (by simp)) (hp.1)) ?_
  refine FL.one (L := []) rfl rfl rfl rfl rfl (fun _ hR => RunsTo.loadR rfl rfl (hR.blk (B2) (by simp)) (hq.1)) ?_
  refine FL.one (L := []) rfl rfl rfl rfl rfl (fun _ hR => RunsTo.loadR rfl rfl (hR.blk (B3) (by simp)) (hr.1)) ?_
  refine FL.callE fn_rational_Add rfl rfl rfl (fun w5 hx5 => CallF.mk rfl (addR_spec (hq.dn.ext hx5) (hr.dn.ext hx5) (by omega) (by omega))) (MonoR.canR 0 _) ?_
  refine FL.callE fn_rational_Mul rfl rfl rfl (fun w5 hx5 t20 h20 => CallF.mk rfl (mulR_spec (hp.dn.ext hx5) (h20.dn (by omega)) (by omega) (by omega))) (MonoR.canR 0 _) ?_
  refine FL.alloc TBok rfl rfl rfl rfl ?_
  refine FL.endE rfl ?_
  rintro w5 hx5 _ ⟨b7, C7, rfl, hg7, B7, hl7⟩ t21 h21 _ _ _ _
  refine StL.setR rfl rfl rfl h21.1 B7 hl7 hx5 hg7 ?_
  intro w6 B7' hu6 hx6
  replace h21 := h21.upd hu6 B7 (by decide)
  clear hu6 B7 hx5
  replace B1 := B1.ext hx6
  replace B2 := B2.ext hx6
  replace B3 := B3.ext hx6
  replace hp := hp.ext hx6
  replace hq := hq.ext hx6
  replace hr := hr.ext hx6
  replace hx0 := hx0.trans hx6
  clear hx6
  (repeat with_reducible first|refine .nil ?_|refine .then_normal ?_|refine .block_normal ?_|refine .seq ?_|refine .block ?_|refine .skip ?_|refine .region ?_|refine .ret ?_|refine .then_ret ?_|refine .block_ret ?_|refine .exit ?_|refine .then_exit ?_|refine .block_exit ?_|refine .block_other rfl ?_)
  refine St.sub (E' := [(3, .pointer (some ⟨w.heap.size, 0, none⟩)), (4, .pointer (some ⟨w1.heap.size, 0, none⟩)), (5, .pointer (some ⟨w2.heap.size, 0, none⟩)), (7, .pointer (some ⟨b7, 0, none⟩))]) ?_ ⟨rfl, rfl, rfl, rfl, trivial⟩
  refine St.flow 8 TBfol (by kernel_rfl) rfl (by kernel_rfl) rfl True.intro ?_
  refine FL.one (L := []) rfl rfl rfl rfl rfl (fun _ hR => RunsTo.loadR rfl rfl (hR.blk (B1) (by simp)) (hp.1)) ?_
  refine FL.one (L := []) rfl rfl rfl rfl rfl (fun _ hR => RunsTo.loadR rfl rfl (hR.blk (B2) (by simp)) (hq.1)) ?_
  refine FL.callE fn_rational_Mul rfl rfl rfl (fun w7 hx7 => CallF.mk rfl (mulR_spec (hp.dn.ext hx7) (hq.dn.ext hx7) (by omega) (by omega))) (MonoR.canR 0 _) ?_
  refine FL.one (L := []) rfl rfl rfl rfl rfl (fun _ hR => RunsTo.loadR rfl rfl (hR.blk (B1) (by simp)) (hp.1)) ?_
  refine FL.one (L := []) rfl rfl rfl rfl rfl (fun _ hR => RunsTo.loadR rfl rfl (hR.blk (B3) (by simp)) (hr.1)) ?_
  refine FL.callE fn_rational_Mul rfl rfl rfl (fun w7 hx7 => CallF.mk rfl (mulR_spec (hp.dn.ext hx7) (hr.dn.ext hx7) (by omega) (by omega))) (MonoR.canR 0 _) ?_
  refine FL.callE fn_rational_Add rfl rfl rfl (fun w7 hx7 t24 h24 t27 h27 => CallF.mk rfl (addR_spec (h24.dn (by omega)) (h27.dn (by omega)) (by omega) (by omega))) (MonoR.canR 0 _) ?_
  refine FL.alloc TBok rfl rfl rfl rfl ?_
  refine FL.endE rfl ?_
  rintro w7 hx7 _ ⟨b8, C8, rfl, hg8, B8, hl8⟩ t28 h28 _ _ _ _ _ _
  refine StL.setR rfl rfl rfl h28.1 B8 hl8 hx7 hg8 ?_
  intro w8 B8' hu8 hx8
  replace h28 := h28.upd hu8 B8 (by decide)
  clear hu8 B8 hx7
  replace B1 := B1.ext hx8
  replace B2 := B2.ext hx8
  replace B3 := B3.ext hx8
  replace B7' := B7'.ext hx8
  replace hp := hp.ext hx8
  replace hq := hq.ext hx8
  replace hr := hr.ext hx8
  replace h21 := h21.ext hx8
  replace hx0 := hx0.trans hx8
  clear hx8
  (repeat with_reducible first|refine .nil ?_|refine .then_normal ?_|refine .block_normal ?_|refine .seq ?_|refine .block ?_|refine .skip ?_|refine .region ?_|refine .ret ?_|refine .then_ret ?_|refine .block_ret ?_|refine .exit ?_|refine .then_exit ?_|refine .block_exit ?_|refine .block_other rfl ?_)
  refine St.sub (E' := [(3, .pointer (some ⟨w.heap.size, 0, none⟩)), (4, .pointer (some ⟨w1.heap.size, 0, none⟩)), (5, .pointer (some ⟨w2.heap.size, 0, none⟩)), (7, .pointer (some ⟨b7, 0, none⟩)), (8, .pointer (some ⟨b8, 0, none⟩))]) ?_ ⟨rfl, rfl, rfl, rfl, rfl, trivial⟩
  refine St.flow 14 TBfol (by kernel_rfl) rfl (by kernel_rfl) rfl True.intro ?_
  refine FL.one (L := []) rfl rfl rfl rfl rfl (fun _ hR => RunsTo.loadR rfl rfl (hR.blk (B7') (by simp)) (h21.1)) ?_
  refine FL.one (L := []) rfl rfl rfl rfl rfl (fun _ hR => RunsTo.loadR rfl rfl (hR.blk (B8') (by simp)) (h28.1)) ?_
  refine FL.callXE fn_rational_Cmp rfl rfl rfl (fun w9 hx9 => CallF.mk rfl (cmpR_spec ((h21.ext hx9).dn (by omega)) ((h28.ext hx9).dn (by omega)) (by omega) (by omega))) ?_
  refine FL.as TBok 1 (.bool false) rfl (ne_false (by rw [Rat.mul_add, cmpR_self])) ?_
  refine FL.run TBok 99 rfl ?_
  refine FL.one (L := []) rfl rfl rfl rfl rfl (fun _ hR => RunsTo.loadR rfl rfl (hR.blk (B1) (by simp)) (hp.1)) ?_
  refine FL.one (L := []) rfl rfl rfl rfl rfl (fun _ hR => RunsTo.loadR rfl rfl (hR.blk (B3) (by simp)) (hr.1)) ?_
  refine FL.callE fn_rational_Add rfl rfl rfl (fun w9 hx9 => CallF.mk rfl (addR_spec (hp.dn.ext hx9) (hr.dn.ext hx9) (by omega) (by omega))) (MonoR.canR 0 _) ?_
  refine FL.one (L := []) rfl rfl rfl rfl rfl (fun _ hR => RunsTo.loadR rfl rfl (hR.blk (B2) (by simp)) (hq.1)) ?_
  refine FL.one (L := []) rfl rfl rfl rfl rfl (fun _ hR => RunsTo.loadR rfl rfl (hR.blk (B3) (by simp)) (hr.1)) ?_
  refine FL.callE fn_rational_Add rfl rfl rfl (fun w9 hx9 => CallF.mk rfl (addR_spec (hq.dn.ext hx9) (hr.dn.ext hx9) (by omega) (by omega))) (MonoR.canR 0 _) ?_
  refine FL.callXE fn_rational_Cmp rfl rfl rfl (fun w9 hx9 t36 h36 t39 h39 => CallF.mk rfl (cmpR_spec (h36.dn (by omega)) (h39.dn (by omega)) (by omega) (by omega))) ?_
  refine FL.one (L := []) rfl rfl rfl rfl rfl (fun _ hR => RunsTo.loadR rfl rfl (hR.blk (B1) (by simp)) (hp.1)) ?_
  refine FL.one (L := []) rfl rfl rfl rfl rfl (fun _ hR => RunsTo.loadR rfl rfl (hR.blk (B2) (by simp)) (hq.1)) ?_
  refine FL.endE rfl ?_
  intro w9 hx9 _ _ _ _ _ _
  replace B1 := B1.ext hx9
  replace B2 := B2.ext hx9
  replace B3 := B3.ext hx9
  replace hp := hp.ext hx9
  replace hq := hq.ext hx9
  replace hr := hr.ext hx9
  replace hx0 := hx0.trans hx9
  clear hx9
  refine StL.step rfl rfl rfl (OpR.call fn_rational_Cmp rfl (cmpR_spec hp.dn hq.dn (by omega) (by omega))) ?_
  rintro _ w10 ⟨hx10, rfl⟩
  replace B1 := B1.ext hx10
  replace B2 := B2.ext hx10
  replace B3 := B3.ext hx10
  replace hp := hp.ext hx10
  replace hq := hq.ext hx10
  replace hr := hr.ext hx10
  replace hx0 := hx0.trans hx10
  clear hx10
  refine StL.as TBok 1 (.bool false) rfl (ne_false (cmpR_add p q r)) ?_
  (iterate 6 ((repeat with_reducible first|refine .nil ?_|refine .then_normal ?_|refine .block_normal ?_|refine .seq ?_|refine .block ?_|refine .skip ?_|refine .region ?_|refine .ret ?_|refine .then_ret ?_|refine .block_ret ?_|refine .exit ?_|refine .then_exit ?_|refine .block_exit ?_|refine .block_other rfl ?_); try refine .run TBok 99 rfl ?_))
  refine St.condF rfl rfl ?_
  clear h21 h28 B7' B8'
  (repeat with_reducible first|refine .nil ?_|refine .then_normal ?_|refine .block_normal ?_|refine .seq ?_|refine .block ?_|refine .skip ?_|refine .region ?_|refine .ret ?_|refine .then_ret ?_|refine .block_ret ?_|refine .exit ?_|refine .then_exit ?_|refine .block_exit ?_|refine .block_other rfl ?_)
  refine St.sub (E' := [(3, .pointer (some ⟨w.heap.size, 0, none⟩)), (4, .pointer (some ⟨w1.heap.size, 0, none⟩)), (5, .pointer (some ⟨w2.heap.size, 0, none⟩))]) ?_ ⟨rfl, rfl, rfl, trivial⟩
  refine St.cutX (fun _ : Unit => [(3, .pointer (some ⟨w.heap.size, 0, none⟩)), (4, .pointer (some ⟨w1.heap.size, 0, none⟩)), (5, .pointer (some ⟨w2.heap.size, 0, none⟩)), (61, .bool false)]) (fun _ w' => Ext w10 w') ?_ ?_
  · by_cases hs : 0 < signI r.num
    · refine St.flow 13 TBfol (by kernel_rfl) rfl (by kernel_rfl) rfl True.intro ?_
      refine FL.one (L := []) rfl rfl rfl rfl rfl (fun _ hR => RunsTo.loadR rfl rfl (hR.blk (B3) (by simp)) (hr.1)) ?_
      refine FL.callXE fn_rational_Sign rfl rfl rfl (fun w11 hx11 => CallF.mk rfl (signR_spec (hr.dn.ext hx11))) ?_
      refine FL.as TBok 1 (.bool true) rfl (bool_true hs) ?_
      refine FL.run TBok 99 rfl ?_
      refine FL.one (L := []) rfl rfl rfl rfl rfl (fun _ hR => RunsTo.loadR rfl rfl (hR.blk (B1) (by simp)) (hp.1)) ?_
      refine FL.one (L := []) rfl rfl rfl rfl rfl (fun _ hR => RunsTo.loadR rfl rfl (hR.blk (B3) (by simp)) (hr.1)) ?_
      refine FL.callE fn_rational_Mul rfl rfl rfl (fun w11 hx11 => CallF.mk rfl (mulR_spec (hp.dn.ext hx11) (hr.dn.ext hx11) (by omega) (by omega))) (MonoR.canR 0 _) ?_
      refine FL.one (L := []) rfl rfl rfl rfl rfl (fun _ hR => RunsTo.loadR rfl rfl (hR.blk (B2) (by simp)) (hq.1)) ?_
      refine FL.one (L := []) rfl rfl rfl rfl rfl (fun _ hR => RunsTo.loadR rfl rfl (hR.blk (B3) (by simp)) (hr.1)) ?_
      refine FL.callE fn_rational_Mul rfl rfl rfl (fun w11 hx11 => CallF.mk rfl (mulR_spec (hq.dn.ext hx11) (hr.dn.ext hx11) (by omega) (by omega))) (MonoR.canR 0 _) ?_
      refine FL.callXE fn_rational_Cmp rfl rfl rfl (fun w11 hx11 t52 h52 t55 h55 => CallF.mk rfl (cmpR_spec (h52.dn (by omega)) (h55.dn (by omega)) (by omega) (by omega))) ?_
      refine FL.one (L := []) rfl rfl rfl rfl rfl (fun _ hR => RunsTo.loadR rfl rfl (hR.blk (B1) (by simp)) (hp.1)) ?_
      refine FL.one (L := []) rfl rfl rfl rfl rfl (fun _ hR => RunsTo.loadR rfl rfl (hR.blk (B2) (by simp)) (hq.1)) ?_
      refine FL.endE rfl ?_
      intro w11 hx11 _ _ _ _ _ _
      refine StL.step rfl rfl rfl (OpR.call fn_rational_Cmp rfl (cmpR_spec (hp.dn.ext hx11) (hq.dn.ext hx11) (by omega) (by omega))) ?_
      rintro _ w12 ⟨hx12, rfl⟩
      refine StL.as TBok 1 (.bool false) rfl (ne_false (cmpR_mul (signI_pos.1 hs))) ?_
      refine .run TBok 99 rfl ?_
      exact StL.nil (Out.met () ⟨rfl, rfl, rfl, rfl, trivial⟩ (hx11.trans hx12))
    · refine St.flow 13 TBfol (by kernel_rfl) rfl (by kernel_rfl) rfl True.intro ?_
      refine FL.one (L := []) rfl rfl rfl rfl rfl (fun _ hR => RunsTo.loadR rfl rfl (hR.blk (B3) (by simp)) (hr.1)) ?_
      refine FL.callXE fn_rational_Sign rfl rfl rfl (fun w11 hx11 => CallF.mk rfl (signR_spec (hr.dn.ext hx11))) ?_
      refine FL.as TBok 1 (.bool false) rfl (bool_false hs) ?_
      refine FL.run TBok 99 rfl ?_
      refine FL.endE rfl ?_
      intro w11 hx11 _ _
      refine .run TBok 99 rfl ?_
      exact StL.nil (Out.met () ⟨rfl, rfl, rfl, rfl, trivial⟩ hx11)
  rintro _ w11 hx11
  replace B1 := B1.ext hx11
  replace B2 := B2.ext hx11
  replace B3 := B3.ext hx11
  replace hp := hp.ext hx11
  replace hq := hq.ext hx11
  replace hr := hr.ext hx11
  replace hx0 := hx0.trans hx11
  clear hx11
  (iterate 6 ((repeat with_reducible first|refine .nil ?_|refine .then_normal ?_|refine .block_normal ?_|refine .seq ?_|refine .block ?_|refine .skip ?_|refine .region ?_|refine .ret ?_|refine .then_ret ?_|refine .block_ret ?_|refine .exit ?_|refine .then_exit ?_|refine .block_exit ?_|refine .block_other rfl ?_); try refine .run TBok 99 rfl ?_))
  refine St.condF rfl rfl ?_
  (iterate 6 ((repeat with_reducible first|refine .nil ?_|refine .then_normal ?_|refine .block_normal ?_|refine .seq ?_|refine .block ?_|refine .skip ?_|refine .region ?_|refine .ret ?_|refine .then_ret ?_|refine .block_ret ?_|refine .exit ?_|refine .then_exit ?_|refine .block_exit ?_|refine .block_other rfl ?_); try refine .run TBok 99 rfl ?_))
  refine StL.step rfl rfl rfl (RunsTo.loadR rfl rfl (B1) (hp.1)).op ?_
  rintro _ _ ⟨rfl, rfl⟩
  refine StL.step rfl rfl rfl (RunsTo.loadR rfl rfl (B3) (hr.1)).op ?_
  rintro _ _ ⟨rfl, rfl⟩
  refine StL.step rfl rfl rfl (OpR.call fn_rational_Quo rfl (quoR_spec hp.dn hr.dn (by omega) (by omega))) ?_
  rintro _ w12 ⟨hx12, hr2⟩
  obtain ⟨a, rfl, a4, a0, a1⟩ := hr2.open
  replace B1 := B1.ext hx12
  replace B2 := B2.ext hx12
  replace B3 := B3.ext hx12
  replace hp := hp.ext hx12
  replace hq := hq.ext hx12
  replace hr := hr.ext hx12
  replace hx0 := hx0.trans hx12
  clear hx12
  refine .run TBok 99 rfl ?_
  refine StL.newR rfl rfl (fun _ => rfl) a4 ?_
  intro b9 w13 hl9 hx13 B9
  replace a1 := fun e => (a1 e).ext hx13
  replace B1 := B1.ext hx13
  replace B2 := B2.ext hx13
  replace B3 := B3.ext hx13
  replace hp := hp.ext hx13
  replace hq := hq.ext hx13
  replace hr := hr.ext hx13
  replace hx0 := hx0.trans hx13
  clear hx13
  refine .run TBok 99 rfl ?_
  (repeat with_reducible first|refine .nil ?_|refine .then_normal ?_|refine .block_normal ?_|refine .seq ?_|refine .block ?_|refine .skip ?_|refine .region ?_|refine .ret ?_|refine .then_ret ?_|refine .block_ret ?_|refine .exit ?_|refine .then_exit ?_|refine .block_exit ?_|refine .block_other rfl ?_)
  refine St.sub (E' := [(3, .pointer (some ⟨w.heap.size, 0, none⟩)), (5, .pointer (some ⟨w2.heap.size, 0, none⟩)), (9, .pointer (some ⟨b9, 0, none⟩)), (10, .bool (decide (r ≠ 0)))]) ?_ ⟨rfl, rfl, rfl, rfl, trivial⟩
  by_cases e : r = 0
  · rw [decide_eq_false (fun h => h e)]
    have hs0 : signI r.num = 0 := by rw [signI_eq0]; exact (num_eq0 r).2 e
    refine St.flow 13 TBfol (by kernel_rfl) rfl (by kernel_rfl) rfl True.intro ?_
    refine FL.run TBok 99 rfl ?_
    refine FL.one (L := []) rfl rfl rfl rfl rfl (fun _ hR => RunsTo.loadR rfl rfl (hR.blk (B3) (by simp)) (hr.1)) ?_
    refine FL.callXE fn_r02_Sign rfl rfl rfl (fun w14 hx14 => CallF.mk rfl (rsignR_spec (hr.ext hx14))) ?_
    refine FL.as TBok 1 (.bool false) rfl (ne_false hs0) ?_
    refine FL.one (L := []) rfl rfl rfl rfl rfl (fun _ _ => RunsTo.boolEq TBok rfl rfl rfl) ?_
    refine FL.run TBok 99 rfl ?_
    refine FL.endE rfl ?_
    intro w14 hx14 _ _
    replace hx0 := hx0.trans hx14
    clear hx14
    refine .run TBok 99 rfl ?_
    refine StL.awk rfl rfl ?_
    intro wz hxz
    (iterate 6 ((repeat with_reducible first|refine .nil ?_|refine .then_normal ?_|refine .block_normal ?_|refine .seq ?_|refine .block ?_|refine .skip ?_|refine .region ?_|refine .ret ?_|refine .then_ret ?_|refine .block_ret ?_|refine .exit ?_|refine .then_exit ?_|refine .block_exit ?_|refine .block_other rfl ?_); try refine .run TBok 99 rfl ?_))
    exact Out.ret1 rfl rfl ⟨hx0.trans hxz, rfl⟩
  · rw [decide_eq_true e]
    have hs0 : signI r.num ≠ 0 := by rw [ne_eq, signI_eq0]; exact fun h => e ((num_eq0 r).1 h)
    replace a1 := a1 e
    refine St.flow 13 TBfol (by kernel_rfl) rfl (by kernel_rfl) rfl True.intro ?_
    refine FL.run TBok 99 rfl ?_
    refine FL.one (L := []) rfl rfl rfl rfl rfl (fun _ hR => RunsTo.loadR rfl rfl (hR.blk (B3) (by simp)) (hr.1)) ?_
    refine FL.callXE fn_r02_Sign rfl rfl rfl (fun w14 hx14 => CallF.mk rfl (rsignR_spec (hr.ext hx14))) ?_
    refine FL.as TBok 1 (.bool true) rfl (ne_true hs0) ?_
    refine FL.one (L := []) rfl rfl rfl rfl rfl (fun _ _ => RunsTo.boolEq TBok rfl rfl rfl) ?_
    refine FL.run TBok 99 rfl ?_
    refine FL.one (L := []) rfl rfl rfl rfl rfl (fun _ hR => RunsTo.loadR rfl rfl (hR.blk (B9) (by simp)) (a4)) ?_
    refine FL.one (L := []) rfl rfl rfl rfl rfl (fun _ hR => RunsTo.loadR rfl rfl (hR.blk (B3) (by simp)) (hr.1)) ?_
    refine FL.callE fn_rational_Mul rfl rfl rfl (fun w14 hx14 => CallF.mk rfl (mulR_spec ((a1.ext hx14).dn (by omega)) (hr.dn.ext hx14) (by omega) (by omega))) (MonoR.canR 0 _) ?_
    refine FL.one (L := []) rfl rfl rfl rfl rfl (fun _ hR => RunsTo.loadR rfl rfl (hR.blk (B1) (by simp)) (hp.1)) ?_
    refine FL.endE rfl ?_
    intro w14 hx14 b hb _ _
    replace hp := hp.ext hx14
    replace hx0 := hx0.trans hx14
    clear hx14
    refine StL.step rfl rfl rfl (OpR.call fn_rational_Cmp rfl (cmpR_spec (hb.dn (by omega)) hp.dn (by omega) (by omega))) ?_
    rintro _ w15 ⟨hx15, rfl⟩
    replace hx0 := hx0.trans hx15
    clear hx15
    refine StL.as TBok 1 (.bool true) rfl (bool_true (by rw [Rat.div_mul_cancel e, cmpR_self])) ?_
    refine .run TBok 99 rfl ?_
    refine StL.awk rfl rfl ?_
    intro wz hxz
    (iterate 6 ((repeat with_reducible first|refine .nil ?_|refine .then_normal ?_|refine .block_normal ?_|refine .seq ?_|refine .block ?_|refine .skip ?_|refine .region ?_|refine .ret ?_|refine .then_ret ?_|refine .block_ret ?_|refine .exit ?_|refine .then_exit ?_|refine .block_exit ?_|refine .block_other rfl ?_); try refine .run TBok 99 rfl ?_))
    exact Out.ret1 rfl rfl ⟨hx0.trans hxz, rfl⟩

end Go.Qf
