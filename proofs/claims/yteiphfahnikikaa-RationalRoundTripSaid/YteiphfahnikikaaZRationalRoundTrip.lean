/- Lemmas on the model and on the program's functions, part ZRationalRoundTrip. -/
import Derived.Test.YteiphfahnikikaaQa
import Derived.Test.YteiphfahnikikaaQb
import Derived.Test.YteiphfahnikikaaQc
import Derived.Test.YteiphfahnikikaaQd
import Derived.Test.YteiphfahnikikaaQe
import Derived.Test.YteiphfahnikikaaQf
import Derived.Test.YteiphfahnikikaaQg
import Derived.Test.YteiphfahnikikaaQh
import Derived.Test.YteiphfahnikikaaQi
/- The laws RationalBetween, RationalRoundTrip: the walks. -/
namespace Go.Qf
open Go Go.RowKit Go.Proofs
set_option maxRecDepth 20000

theorem half2 : Rat.divInt 1 2 + Rat.divInt 1 2 = 1 := by decide +kernel
theorem cmpR_le {p q : Rat} (h : p ≤ q) : cmpR p q ≤ 0 := by
  unfold cmpR
  split
  · decide
  · rw [if_neg (Rat.not_lt.2 h)]; decide
theorem cmpR_lt {p q : Rat} (h : p < q) : cmpR p q < 0 := by
  unfold cmpR
  rw [if_pos h]; decide
theorem cmpR_ge {p q : Rat} (h : q ≤ p) : 0 ≤ cmpR p q := by
  unfold cmpR
  rw [if_neg (Rat.not_lt.2 h)]
  split <;> decide
theorem near_lt (p : Rat) : p - ((p + Rat.divInt 1 2).floor : Rat) < Rat.divInt 1 2 := by
  have h := Rat.lt_floor_add_one (p + Rat.divInt 1 2)
  generalize (p + Rat.divInt 1 2).floor = N at h ⊢
  rw [Rat.sub_lt_iff]
  rw [Rat.intCast_add, Rat.intCast_one, ← half2, ← Rat.add_assoc, Rat.add_lt_add_right, Rat.add_comm] at h
  exact h
theorem near_ge (p : Rat) : -(Rat.divInt 1 2) ≤ p - ((p + Rat.divInt 1 2).floor : Rat) := by
  have h := Rat.floor_le (p + Rat.divInt 1 2)
  generalize (p + Rat.divInt 1 2).floor = N at h ⊢
  rw [Rat.le_sub_iff]
  have h2 := (Rat.add_le_add_right (c := -(Rat.divInt 1 2))).2 h
  rw [Rat.add_assoc, Rat.add_neg_cancel, Rat.add_zero, Rat.add_comm] at h2
  exact h2
theorem low_lt (p : Rat) : p < (p.floor : Rat) + ((1 : Int) : Rat) := by
  have h := Rat.lt_floor_add_one p
  rw [Rat.intCast_add] at h
  exact h
theorem sz_fl (q : Rat) : sz q.floor ≤ rz q := by
  rw [Rat.floor_def]
  exact Nat.le_trans (sz_div _ _) (rz_num q)

set_option maxHeartbeats 1600000 in
theorem lawBetween (w : World) (v : Value) (h : InR w v) : Calls Try.prog 7 #[v] w (Ret fun r w' => Ext w w' ∧ r = .bool true) := by
  refine calls_of_St (args := [_]) Try.func7 rfl Try.ntmps7 rfl ?_
  (repeat with_reducible first|refine .nil ?_|refine .then_normal ?_|refine .block_normal ?_|refine .seq ?_|refine .block ?_|refine .skip ?_|refine .region ?_|refine .ret ?_|refine .then_ret ?_|refine .block_ret ?_|refine .exit ?_|refine .then_exit ?_|refine .block_exit ?_|refine .block_other rfl ?_)
  refine StL.step rfl rfl rfl (OpR.box rfl) ?_
  rintro _ w1 ⟨rfl, B1, hx1, hz1⟩
  have hx0 : Ext w w1 := hx1
  replace h := h.ext hx0
  clear hx1
  (iterate 6 ((repeat with_reducible first|refine .nil ?_|refine .then_normal ?_|refine .block_normal ?_|refine .seq ?_|refine .block ?_|refine .skip ?_|refine .region ?_|refine .ret ?_|refine .then_ret ?_|refine .block_ret ?_|refine .exit ?_|refine .then_exit ?_|refine .block_exit ?_|refine .block_other rfl ?_); try refine .run TBok 99 rfl ?_))
  refine StL.step rfl rfl rfl (RunsTo.loadR rfl rfl (B1) (h.r4)).op ?_
  rintro _ _ ⟨rfl, rfl⟩
  refine StL.step rfl rfl rfl (OpR.rats1 rfl h.r4) ?_
  rintro _ wL ⟨rfl, BL, hxL⟩
  replace B1 := B1.ext hxL
  replace h := h.ext hxL
  replace hx0 := hx0.trans hxL
  clear hxL
  refine StL.step rfl rfl rfl (OpR.call fn_w02_long rfl (long1 BL h)) ?_
  rintro _ wM ⟨hxM, c, rfl, hc⟩
  by_cases hcc : c = true
  · subst hcc
    (iterate 6 ((repeat with_reducible first|refine .nil ?_|refine .then_normal ?_|refine .block_normal ?_|refine .seq ?_|refine .block ?_|refine .skip ?_|refine .region ?_|refine .ret ?_|refine .then_ret ?_|refine .block_ret ?_|refine .exit ?_|refine .then_exit ?_|refine .block_exit ?_|refine .block_other rfl ?_); try refine .run TBok 99 rfl ?_))
    refine St.condT rfl rfl ?_
    (repeat with_reducible first|refine .nil ?_|refine .then_normal ?_|refine .block_normal ?_|refine .seq ?_|refine .block ?_|refine .skip ?_|refine .region ?_|refine .ret ?_|refine .then_ret ?_|refine .block_ret ?_|refine .exit ?_|refine .then_exit ?_|refine .block_exit ?_|refine .block_other rfl ?_)
    refine StL.awk rfl rfl ?_
    intro wz hxz
    (iterate 6 ((repeat with_reducible first|refine .nil ?_|refine .then_normal ?_|refine .block_normal ?_|refine .seq ?_|refine .block ?_|refine .skip ?_|refine .region ?_|refine .ret ?_|refine .then_ret ?_|refine .block_ret ?_|refine .exit ?_|refine .then_exit ?_|refine .block_exit ?_|refine .block_other rfl ?_); try refine .run TBok 99 rfl ?_))
    exact Out.ret1 rfl rfl ⟨(hx0.trans hxM).trans hxz, rfl⟩
  obtain rfl : c = false := by simpa using hcc
  have s1 := hc rfl
  obtain ⟨p, hp, zp⟩ := s1.q
  replace B1 := B1.ext hxM
  replace hp := hp.ext hxM
  replace hx0 := hx0.trans hxM
  clear hxM
  (iterate 6 ((repeat with_reducible first|refine .nil ?_|refine .then_normal ?_|refine .block_normal ?_|refine .seq ?_|refine .block ?_|refine .skip ?_|refine .region ?_|refine .ret ?_|refine .then_ret ?_|refine .block_ret ?_|refine .exit ?_|refine .then_exit ?_|refine .block_exit ?_|refine .block_other rfl ?_); try refine .run TBok 99 rfl ?_))
  refine St.condF rfl rfl ?_
  (repeat with_reducible first|refine .nil ?_|refine .then_normal ?_|refine .block_normal ?_|refine .seq ?_|refine .block ?_|refine .skip ?_|refine .region ?_|refine .ret ?_|refine .then_ret ?_|refine .block_ret ?_|refine .exit ?_|refine .then_exit ?_|refine .block_exit ?_|refine .block_other rfl ?_)
  have hh := rz_half
  have z1 := sz_fl p
  have z2 := rz_int p.floor
  have z3 := rz_add p (Rat.divInt 1 2)
  have z4 := sz_fl (p + Rat.divInt 1 2)
  have z5 := rz_int (p + Rat.divInt 1 2).floor
  have z6 := rz_sub p ((p + Rat.divInt 1 2).floor : Rat)
  have z7 := rz_int 1
  have z8 := sz_1
  have z9 := rz_add (p.floor : Rat) ((1 : Int) : Rat)
  have z10 := rz_neg (Rat.divInt 1 2)
  (iterate 6 ((repeat with_reducible first|refine .nil ?_|refine .then_normal ?_|refine .block_normal ?_|refine .seq ?_|refine .block ?_|refine .skip ?_|refine .region ?_|refine .ret ?_|refine .then_ret ?_|refine .block_ret ?_|refine .exit ?_|refine .then_exit ?_|refine .block_exit ?_|refine .block_other rfl ?_); try refine .run TBok 99 rfl ?_))
  refine StL.step rfl rfl rfl (RunsTo.loadR rfl rfl (B1) (hp.1)).op ?_
  rintro _ _ ⟨rfl, rfl⟩
  refine StL.step rfl rfl rfl (OpR.call fn_rational_Floor rfl (floorR_spec hp.dn)) ?_
  rintro a w5 ⟨hx5, ha⟩
  replace B1 := B1.ext hx5
  replace hp := hp.ext hx5
  replace hx0 := hx0.trans hx5
  clear hx5
  refine StL.step rfl rfl rfl (OpR.call fn_r02_Whole rfl (rwhole_spec (ha.dn (by omega)))) ?_
  rintro b w6 ⟨hx6, hb⟩
  replace B1 := B1.ext hx6
  replace hp := hp.ext hx6
  replace hx0 := hx0.trans hx6
  clear hx6
  refine StL.newR rfl rfl (fun _ => rfl) hb.1 ?_
  intro b3 w7 hl3 hx7 B3
  replace B1 := B1.ext hx7
  replace hp := hp.ext hx7
  replace hb := hb.ext hx7
  replace hx0 := hx0.trans hx7
  clear hx7
  (repeat with_reducible first|refine .nil ?_|refine .then_normal ?_|refine .block_normal ?_|refine .seq ?_|refine .block ?_|refine .skip ?_|refine .region ?_|refine .ret ?_|refine .then_ret ?_|refine .block_ret ?_|refine .exit ?_|refine .then_exit ?_|refine .block_exit ?_|refine .block_other rfl ?_)
  refine St.sub (E' := [(1, .pointer (some ⟨w.heap.size, 0, none⟩)), (3, .pointer (some ⟨b3, 0, none⟩))]) ?_ ⟨rfl, rfl, trivial⟩
  refine St.flow 6 TBfol (by kernel_rfl) rfl (by kernel_rfl) rfl True.intro ?_
  refine FL.one (L := []) rfl rfl rfl rfl rfl (fun _ hR => RunsTo.loadR rfl rfl (hR.blk (B1) (by simp)) (hp.1)) ?_
  refine FL.one (L := []) rfl rfl rfl rfl rfl (fun _ hR => RunsTo.loadR rfl rfl (hR.blk (B1) (by simp)) (hp.1)) ?_
  refine FL.callE fn_rational_Nearest rfl rfl rfl (fun w8 hx8 => CallF.mk rfl (nearestR_spec (hp.dn.ext hx8) (by omega))) (MonoR.canO 0 _) ?_
  refine FL.callE fn_r02_Whole rfl rfl rfl (fun w8 hx8 t14 h14 => CallF.mk rfl (rwhole_spec (h14.dn (by omega)))) (MonoR.canR 0 _) ?_
  refine FL.callE fn_r02_Sub rfl rfl rfl (fun w8 hx8 t15 h15 => CallF.mk rfl (rsubR_spec (hp.ext hx8) (h15.dnS (by omega)) (by omega) (by omega))) (MonoR.canR 0 _) ?_
  refine FL.alloc TBok rfl rfl rfl rfl ?_
  refine FL.endE rfl ?_
  rintro w8 hx8 _ ⟨b4, C4, rfl, hg4, B4, hl4⟩ t16 h16 _ _ _ _ _ _
  refine StL.setR rfl rfl rfl h16.1 B4 hl4 hx8 hg4 ?_
  intro w9 B4' hu9 hx9
  replace h16 := h16.upd hu9 B4 (by decide)
  clear hu9 B4 hx8
  replace B1 := B1.ext hx9
  replace B3 := B3.ext hx9
  replace hp := hp.ext hx9
  replace hb := hb.ext hx9
  replace hx0 := hx0.trans hx9
  clear hx9
  (repeat with_reducible first|refine .nil ?_|refine .then_normal ?_|refine .block_normal ?_|refine .seq ?_|refine .block ?_|refine .skip ?_|refine .region ?_|refine .ret ?_|refine .then_ret ?_|refine .block_ret ?_|refine .exit ?_|refine .then_exit ?_|refine .block_exit ?_|refine .block_other rfl ?_)
  refine St.sub (E' := [(1, .pointer (some ⟨w.heap.size, 0, none⟩)), (3, .pointer (some ⟨b3, 0, none⟩)), (4, .pointer (some ⟨b4, 0, none⟩))]) ?_ ⟨rfl, rfl, rfl, trivial⟩
  refine St.flow 22 TBfol (by kernel_rfl) rfl (by kernel_rfl) rfl True.intro ?_
  refine FL.one (L := []) rfl rfl rfl rfl rfl (fun _ hR => RunsTo.loadR rfl rfl (hR.blk (B3) (by simp)) (hb.1)) ?_
  refine FL.one (L := []) rfl rfl rfl rfl rfl (fun _ hR => RunsTo.loadR rfl rfl (hR.blk (B1) (by simp)) (hp.1)) ?_
  refine FL.callXE fn_r02_Cmp rfl rfl rfl (fun w10 hx10 => CallF.mk rfl (rcmpR_spec ((hb.ext hx10).dnS (by omega)) (hp.ext hx10) (by omega) (by omega))) ?_
  refine FL.as TBok 1 (.bool true) rfl (bool_true (cmpR_le (Rat.floor_le p))) ?_
  refine FL.run TBok 99 rfl ?_
  refine FL.one (L := []) rfl rfl rfl rfl rfl (fun _ hR => RunsTo.loadR rfl rfl (hR.blk (B1) (by simp)) (hp.1)) ?_
  refine FL.one (L := []) rfl rfl rfl rfl rfl (fun _ hR => RunsTo.loadR rfl rfl (hR.blk (B3) (by simp)) (hb.1)) ?_
  refine FL.callE fn_r02_Small rfl rfl rfl (fun w10 hx10 => CallF.mk rfl (rsmallR_spec w10 1 (by decide) (by decide))) (MonoR.canR 0 _) ?_
  refine FL.callE fn_r02_Add rfl rfl rfl (fun w10 hx10 t24 h24 => CallF.mk rfl (raddR_spec ((hb.ext hx10).dnS (by omega)) (h24.dnS (by omega)) (by omega) (by omega))) (MonoR.canR 0 _) ?_
  refine FL.callXE fn_r02_Cmp rfl rfl rfl (fun w10 hx10 t25 h25 => CallF.mk rfl (rcmpR_spec (hp.ext hx10) (h25.dnS (by omega)) (by omega) (by omega))) ?_
  refine FL.as TBok 1 (.bool true) rfl (bool_true (cmpR_lt (low_lt p))) ?_
  refine FL.run TBok 99 rfl ?_
  refine FL.one (L := []) rfl rfl rfl rfl rfl (fun _ hR => RunsTo.loadR rfl rfl (hR.blk (B4') (by simp)) (h16.1)) ?_
  refine FL.callE fn_r02_Half rfl rfl rfl (fun w10 hx10 => CallF.mk rfl (rhalf_spec w10)) (MonoR.canR 0 _) ?_
  refine FL.callXE fn_r02_Cmp rfl rfl rfl (fun w10 hx10 t31 h31 => CallF.mk rfl (rcmpR_spec ((h16.ext hx10).dnS (by omega)) (h31.dnS (by omega)) (by omega) (by omega))) ?_
  refine FL.as TBok 1 (.bool true) rfl (bool_true (cmpR_lt (near_lt p))) ?_
  refine FL.run TBok 99 rfl ?_
  refine FL.one (L := []) rfl rfl rfl rfl rfl (fun _ hR => RunsTo.loadR rfl rfl (hR.blk (B4') (by simp)) (h16.1)) ?_
  refine FL.callE fn_r02_Half rfl rfl rfl (fun w10 hx10 => CallF.mk rfl (rhalf_spec w10)) (MonoR.canR 0 _) ?_
  refine FL.callE fn_r02_Neg rfl rfl rfl (fun w10 hx10 t37 h37 => CallF.mk rfl (rnegR_spec (h37.dnS (by omega)))) (MonoR.canR 0 _) ?_
  refine FL.endE rfl ?_
  intro w10 hx10 t38 h38 _ _ _ _ _ _ _ _ _ _
  replace h16 := h16.ext hx10
  replace hx0 := hx0.trans hx10
  clear hx10
  refine StL.step rfl rfl rfl (OpR.call fn_r02_Cmp rfl (rcmpR_spec (h16.dnS (by omega)) (h38.dnS (by omega)) (by omega) (by omega))) ?_
  rintro _ w11 ⟨hx11, rfl⟩
  replace hx0 := hx0.trans hx11
  clear hx11
  refine StL.as TBok 1 (.bool true) rfl (bool_true (cmpR_ge (near_ge p))) ?_
  refine .run TBok 99 rfl ?_
  refine StL.awk rfl rfl ?_
  intro wz hxz
  (iterate 6 ((repeat with_reducible first|refine .nil ?_|refine .then_normal ?_|refine .block_normal ?_|refine .seq ?_|refine .block ?_|refine .skip ?_|refine .region ?_|refine .ret ?_|refine .then_ret ?_|refine .block_ret ?_|refine .exit ?_|refine .then_exit ?_|refine .block_exit ?_|refine .block_other rfl ?_); try refine .run TBok 99 rfl ?_))
  exact Out.ret1 rfl rfl ⟨hx0.trans hxz, rfl⟩

theorem no47 (a : Int) : ∀ b ∈ fmtI a, b ≠ 47 := by
  unfold fmtI
  split
  · intro b hb
    rcases List.mem_cons.1 hb with rfl | hb
    · decide
    · have := fmtN_lim _ b hb; omega
  · intro b hb; have := fmtN_lim _ b hb; omega
theorem fmtN_short {a : Int} (h : sz a ≤ 100) : (fmtN a.natAbs).length ≤ 2000 := by
  have h1 := fmtN_len a.natAbs (sz a) (by have := val_lt (limbs a.natAbs) (lim_limbs _); rw [val_limbs] at this; exact this)
  omega
theorem cut_app {t r : List Nat} (h : ∀ b ∈ t, b ≠ 47) : pos (t ++ 47 :: r) = some t.length ∧ cutA (t ++ 47 :: r) = t ∧ cutB (t ++ 47 :: r) = r := by
  have h1 := pos_app t r h
  refine ⟨h1, ?_, ?_⟩
  · unfold cutA; rw [h1]; simp
  · unfold cutB; rw [h1]; simp
theorem parse_fmtR {q : Rat} (hz : rz q ≤ 100) : rerr (fmtR q) = 0 ∧ rval (fmtR q) = q := by
  have h1 := rz_num q
  have h2 := rz_den q
  have l1 := fmtN_short (a := q.num) (by omega)
  have l2 := fmtN_short (a := (q.den : Int)) (by omega)
  unfold fmtR
  by_cases hd : q.den = 1
  · rw [if_pos hd]
    have hp := pos_no _ (no47 q.num)
    have hc : cutA (fmtI q.num) = fmtI q.num := by unfold cutA; rw [hp]
    have hn : (pos (fmtI q.num)).isSome = false := by rw [hp]; rfl
    refine ⟨by rw [rerr_no hn, hc, perr_fmtI l1], ?_⟩
    rw [rval_no hn, hc, pval_fmtI l1]
    exact Rat.ext rfl hd.symm
  · rw [if_neg hd]
    obtain ⟨hp, hA, hB⟩ := cut_app (t := fmtI q.num) (r := fmtI (q.den : Int)) (no47 _)
    have hs : (pos (fmtI q.num ++ 47 :: fmtI (q.den : Int))).isSome = true := by rw [hp]; rfl
    have hdp := den_pos q
    have hng : isNeg (fmtI (q.den : Int)) = false := by rw [isNeg_fmtI]; exact decide_eq_false (by omega)
    refine ⟨?_, ?_⟩
    · unfold rerr
      rw [if_pos hs, hA, hB, perr_fmtI l1, perr_fmtI l2, pval_fmtI l1, pval_fmtI l2, hng]
      rw [if_neg (by simp), if_neg (by simp), if_neg]
      rintro (e | e)
      · omega
      · exact e q.reduced
    · rw [rval_yes hs, hA, hB, pval_fmtI l1, pval_fmtI l2, Rat.num_divInt_den]

set_option maxHeartbeats 800000 in
theorem lawRound (w : World) (v : Value) (h : InR w v) : Calls Try.prog 12 #[v] w (Ret fun r w' => Ext w w' ∧ r = .bool true) := by
  refine calls_of_St (args := [_]) Try.func12 rfl Try.ntmps12 rfl ?_
  (repeat with_reducible first|refine .nil ?_|refine .then_normal ?_|refine .block_normal ?_|refine .seq ?_|refine .block ?_|refine .skip ?_|refine .region ?_|refine .ret ?_|refine .then_ret ?_|refine .block_ret ?_|refine .exit ?_|refine .then_exit ?_|refine .block_exit ?_|refine .block_other rfl ?_)
  refine StL.step rfl rfl rfl (OpR.box rfl) ?_
  rintro _ w1 ⟨rfl, B1, hx1, hz1⟩
  have hx0 : Ext w w1 := hx1
  replace h := h.ext hx0
  clear hx1
  (iterate 6 ((repeat with_reducible first|refine .nil ?_|refine .then_normal ?_|refine .block_normal ?_|refine .seq ?_|refine .block ?_|refine .skip ?_|refine .region ?_|refine .ret ?_|refine .then_ret ?_|refine .block_ret ?_|refine .exit ?_|refine .then_exit ?_|refine .block_exit ?_|refine .block_other rfl ?_); try refine .run TBok 99 rfl ?_))
  refine StL.step rfl rfl rfl (RunsTo.loadR rfl rfl (B1) (h.r4)).op ?_
  rintro _ _ ⟨rfl, rfl⟩
  refine StL.step rfl rfl rfl (OpR.rats1 rfl h.r4) ?_
  rintro _ wL ⟨rfl, BL, hxL⟩
  replace B1 := B1.ext hxL
  replace h := h.ext hxL
  replace hx0 := hx0.trans hxL
  clear hxL
  refine StL.step rfl rfl rfl (OpR.call fn_w02_long rfl (long1 BL h)) ?_
  rintro _ wM ⟨hxM, c, rfl, hc⟩
  by_cases hcc : c = true
  · subst hcc
    (iterate 6 ((repeat with_reducible first|refine .nil ?_|refine .then_normal ?_|refine .block_normal ?_|refine .seq ?_|refine .block ?_|refine .skip ?_|refine .region ?_|refine .ret ?_|refine .then_ret ?_|refine .block_ret ?_|refine .exit ?_|refine .then_exit ?_|refine .block_exit ?_|refine .block_other rfl ?_); try refine .run TBok 99 rfl ?_))
    refine St.condT rfl rfl ?_
    (repeat with_reducible first|refine .nil ?_|refine .then_normal ?_|refine .block_normal ?_|refine .seq ?_|refine .block ?_|refine .skip ?_|refine .region ?_|refine .ret ?_|refine .then_ret ?_|refine .block_ret ?_|refine .exit ?_|refine .then_exit ?_|refine .block_exit ?_|refine .block_other rfl ?_)
    refine StL.awk rfl rfl ?_
    intro wz hxz
    (iterate 6 ((repeat with_reducible first|refine .nil ?_|refine .then_normal ?_|refine .block_normal ?_|refine .seq ?_|refine .block ?_|refine .skip ?_|refine .region ?_|refine .ret ?_|refine .then_ret ?_|refine .block_ret ?_|refine .exit ?_|refine .then_exit ?_|refine .block_exit ?_|refine .block_other rfl ?_); try refine .run TBok 99 rfl ?_))
    exact Out.ret1 rfl rfl ⟨(hx0.trans hxM).trans hxz, rfl⟩
  obtain rfl : c = false := by simpa using hcc
  have s1 := hc rfl
  obtain ⟨p, hp, zp⟩ := s1.q
  replace B1 := B1.ext hxM
  replace hp := hp.ext hxM
  replace hx0 := hx0.trans hxM
  clear hxM
  (iterate 6 ((repeat with_reducible first|refine .nil ?_|refine .then_normal ?_|refine .block_normal ?_|refine .seq ?_|refine .block ?_|refine .skip ?_|refine .region ?_|refine .ret ?_|refine .then_ret ?_|refine .block_ret ?_|refine .exit ?_|refine .then_exit ?_|refine .block_exit ?_|refine .block_other rfl ?_); try refine .run TBok 99 rfl ?_))
  refine St.condF rfl rfl ?_
  (repeat with_reducible first|refine .nil ?_|refine .then_normal ?_|refine .block_normal ?_|refine .seq ?_|refine .block ?_|refine .skip ?_|refine .region ?_|refine .ret ?_|refine .then_ret ?_|refine .block_ret ?_|refine .exit ?_|refine .then_exit ?_|refine .block_exit ?_|refine .block_other rfl ?_)
  obtain ⟨e1, e2⟩ := parse_fmtR (q := p) (by omega)
  have hl : (fmtR p).length ≤ 1000 := by
    have f1 := fmtI_len p.num
    have f2 := fmtI_len (p.den : Int)
    have n1 := rz_num p
    have n2 := rz_den p
    unfold fmtR
    split
    · omega
    · simp; omega
  (iterate 6 ((repeat with_reducible first|refine .nil ?_|refine .then_normal ?_|refine .block_normal ?_|refine .seq ?_|refine .block ?_|refine .skip ?_|refine .region ?_|refine .ret ?_|refine .then_ret ?_|refine .block_ret ?_|refine .exit ?_|refine .then_exit ?_|refine .block_exit ?_|refine .block_other rfl ?_); try refine .run TBok 99 rfl ?_))
  refine StL.step rfl rfl rfl (RunsTo.loadR rfl rfl (B1) (hp.1)).op ?_
  rintro _ _ ⟨rfl, rfl⟩
  refine StL.step rfl rfl rfl (OpR.call fn_rational_Format rfl (formatR_spec hp.dn)) ?_
  rintro _ w5 ⟨hx5, rfl⟩
  replace B1 := B1.ext hx5
  replace hp := hp.ext hx5
  replace hx0 := hx0.trans hx5
  clear hx5
  refine StL.step rfl rfl rfl (OpR.call fn_rational_Parse rfl (parseR_spec w5 (fmtR p) (fmtR_b8 p) (by omega))) ?_
  rintro _ w6 ⟨hx6, a, rfl, _, _, ha⟩
  replace ha := ha e1
  rw [e2] at ha
  rw [e1]
  replace B1 := B1.ext hx6
  replace hp := hp.ext hx6
  replace hx0 := hx0.trans hx6
  clear hx6
  refine .run TBok 99 rfl ?_
  refine StL.newR rfl rfl (fun _ => rfl) ha.1 ?_
  intro b3 w7 hl3 hx7 B3
  replace B1 := B1.ext hx7
  replace hp := hp.ext hx7
  replace ha := ha.ext hx7
  replace hx0 := hx0.trans hx7
  clear hx7
  refine .run TBok 99 rfl ?_
  (repeat with_reducible first|refine .nil ?_|refine .then_normal ?_|refine .block_normal ?_|refine .seq ?_|refine .block ?_|refine .skip ?_|refine .region ?_|refine .ret ?_|refine .then_ret ?_|refine .block_ret ?_|refine .exit ?_|refine .then_exit ?_|refine .block_exit ?_|refine .block_other rfl ?_)
  refine St.sub (E' := [(1, .pointer (some ⟨w.heap.size, 0, none⟩)), (3, .pointer (some ⟨b3, 0, none⟩)), (4, .int .i64 0)]) ?_ ⟨rfl, rfl, rfl, trivial⟩
  refine St.flow 6 TBfol (by kernel_rfl) rfl (by kernel_rfl) rfl True.intro ?_
  refine FL.run TBok 99 rfl ?_
  refine FL.one (L := []) rfl rfl rfl rfl rfl (fun _ hR => RunsTo.loadR rfl rfl (hR.blk (B3) (by simp)) (ha.1)) ?_
  refine FL.one (L := []) rfl rfl rfl rfl rfl (fun _ hR => RunsTo.loadR rfl rfl (hR.blk (B1) (by simp)) (hp.1)) ?_
  refine FL.callE fn_r02_Normalize rfl rfl rfl (fun w8 hx8 => CallF.mk rfl (rnormalizeR_spec (hp.ext hx8))) (MonoR.canR 0 _) ?_
  refine FL.endE rfl ?_
  intro w8 hx8 b hb _ _
  replace ha := ha.ext hx8
  replace hx0 := hx0.trans hx8
  clear hx8
  refine StL.step rfl rfl rfl (OpR.call fn_r02_Same rfl (sameR_can ha hb (by omega))) ?_
  rintro _ w9 ⟨hx9, rfl⟩
  replace hx0 := hx0.trans hx9
  clear hx9
  refine .run TBok 99 rfl ?_
  refine StL.awk rfl rfl ?_
  intro wz hxz
  (iterate 6 ((repeat with_reducible first|refine .nil ?_|refine .then_normal ?_|refine .block_normal ?_|refine .seq ?_|refine .block ?_|refine .skip ?_|refine .region ?_|refine .ret ?_|refine .then_ret ?_|refine .block_ret ?_|refine .exit ?_|refine .then_exit ?_|refine .block_exit ?_|refine .block_other rfl ?_); try refine .run TBok 99 rfl ?_))
  exact Out.ret1 rfl rfl ⟨hx0.trans hxz, rfl⟩

end Go.Qf
