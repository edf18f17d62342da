/- integer.divideStep: one limb of a long division. -/
import Derived.Test.YtianfagdgdpnpaaNat8
namespace Go.Qf
open Go Go.RowKit Go.Proofs

theorem Sl.upd {w w' : World} {v : Value} {xs : List Nat} (h : Sl w v xs) {b : Nat} (hx : Upd b w w') (ha : Apart b v) : Sl w' v xs := ⟨h.1.upd hx ha, h.2⟩
theorem Upd.drewN {b : Nat} {w w' : World} (h : Upd b w w') (m : Nat) : Upd b w (w'.drewN m) := ⟨h.os, h.tape, h.output, h.size, h.block⟩

theorem val_top2 {vs : List Nat} {m v1 v2 : Nat} (h1 : vs[m + 1]? = some v1) (h2 : vs[m]? = some v2) (hl : vs.length = m + 2) : val vs = 4294967296 * (v1 * 4294967296 ^ m) + v2 * 4294967296 ^ m + val (vs.take m) := by
  have a1 := val_take_succ h1
  have a2 := val_take_succ h2
  rw [List.take_of_length_le (by omega)] at a1
  rw [a1, a2, Nat.pow_succ]
  have : v1 * (4294967296 ^ m * 4294967296) = 4294967296 * (v1 * 4294967296 ^ m) := by rw [← Nat.mul_assoc, Nat.mul_comm]
  omega

theorem val_top3 {us : List Nat} {m u0 u1 u2 : Nat} (h0 : us[m + 2]? = some u0) (h1 : us[m + 1]? = some u1) (h2 : us[m]? = some u2) (hl : us.length = m + 3) : val us = 4294967296 * ((u0 * 4294967296 + u1) * 4294967296 ^ m) + u2 * 4294967296 ^ m + val (us.take m) := by
  have a0 := val_take_succ h0
  have a1 := val_take_succ h1
  have a2 := val_take_succ h2
  rw [List.take_of_length_le (by omega)] at a0
  have p2 : (4294967296 : Nat) ^ (m + 2) = 4294967296 ^ m * 4294967296 * 4294967296 := by rw [Nat.pow_succ, Nat.pow_succ]
  rw [a0, a1, a2, p2, Nat.pow_succ, Nat.add_mul, Nat.mul_add]
  have e1 : u1 * (4294967296 ^ m * 4294967296) = 4294967296 * (u1 * 4294967296 ^ m) := by rw [← Nat.mul_assoc, Nat.mul_comm]
  have e0 : u0 * (4294967296 ^ m * 4294967296 * 4294967296) = 4294967296 * (u0 * 4294967296 * 4294967296 ^ m) := by
    rw [← Nat.mul_assoc, Nat.mul_comm _ 4294967296, Nat.mul_assoc u0, Nat.mul_comm 4294967296 (4294967296 ^ m)]
  omega

/-- The guess: what the loop keeps. -/
structure Guess (U V v1 v2 u2 high g r : Nat) : Prop where
  high : high = g * v1 + r
  enough : U < (g + 1) * V
  le : g ≤ 4294967297
  r : r < 4294967296

set_option maxRecDepth 8000 in
set_option maxHeartbeats 4000000 in
theorem divideStep_spec (w : World) (b off cap m : Nat) (A D : List Value) (us vs : List Nat) (vv : Value) (v1 : Nat) (hb : Blk 41 w b (A ++ (us.map u32 ++ D))) (hA : A.length = off) (hu : Lim us) (hv : Sl w vv vs) (hap : Apart b vv)
    (hvl : vs.length = m + 2) (hul : us.length = m + 3) (hlen : m ≤ 100000000) (htop : vs[m + 1]? = some v1) (hv1 : 2147483648 ≤ v1) (hlt : val us < val vs * 4294967296) :
    Calls Try.prog 89 #[.slice (some ⟨b, off, none⟩) (m + 3) cap, vv] w
      (Ret fun r w' => r = .int .u32 ((val us / val vs : Nat) : Int) ∧ Upd b w w' ∧ ∃ us', us'.length = m + 3 ∧ Lim us' ∧ val us' = val us % val vs ∧ Blk 41 w' b (A ++ (us'.map u32 ++ D))) := by
  obtain ⟨q, d, rfl, _⟩ := hv.form
  rw [hvl] at hv hap
  rw [hvl]
  have hv1l := hv.2.get htop
  have hv2 : vs[m]? = some vs[m] := by simp
  generalize vs[m] = v2 at hv2
  have hv2l := hv.2.get hv2
  have hu0 : us[m + 2]? = some us[m + 2] := by simp
  generalize us[m + 2] = u0 at hu0
  have hu0l := hu.get hu0
  have hu1 : us[m + 1]? = some us[m + 1] := by simp
  generalize us[m + 1] = u1 at hu1
  have hu1l := hu.get hu1
  have hu2 : us[m]? = some us[m] := by simp
  generalize us[m] = u2 at hu2
  have hu2l := hu.get hu2
  have hV := val_top2 htop hv2 hvl
  have hU := val_top3 hu0 hu1 hu2 hul
  have hvr := val_lt (vs.take m) (hv.2.take m)
  have hur := val_lt (us.take m) (hu.take m)
  rw [show (vs.take m).length = m from by simp; omega] at hvr
  rw [show (us.take m).length = m from by simp; omega] at hur
  generalize hVd : val vs = V at *
  generalize hUd : val us = U at *
  generalize hR : 4294967296 ^ m = R at *
  generalize val (vs.take m) = vr at *
  generalize val (us.take m) = ur at *
  -- the first limb of u is not above that of v
  have hu0v : u0 ≤ v1 := by
    rcases Nat.lt_or_ge v1 u0 with h | h
    · exfalso
      have h1 : (v1 + 1) * R ≤ u0 * R := Nat.mul_le_mul_right _ h
      have h2 : (u0 * 4294967296 + u1) * R = 4294967296 * (u0 * R) + u1 * R := by rw [Nat.add_mul, Nat.mul_comm u0, Nat.mul_assoc]
      have h3 : (v2 + 1) * R ≤ 4294967296 * R := Nat.mul_le_mul_right _ hv2l
      rw [Nat.add_mul, Nat.one_mul] at h1 h3
      omega
    · exact h
  generalize hh : u0 * 4294967296 + u1 = high at *
  have hhb : high < 18446744073709551616 := by omega
  have e1 : IntKind.i64.wrap (((m + 2 : Nat) : Int) - 1) = ((m + 1 : Nat) : Int) := by rw [i64_id (by omega) (by omega)]; omega
  have e2 : IntKind.i64.wrap (((m + 2 : Nat) : Int) - 2) = ((m : Nat) : Int) := by rw [i64_id (by omega) (by omega)]; omega
  have ev1 : IntKind.u64.wrap (v1 : Int) = (v1 : Int) := u64_id (by omega) (by omega)
  have hdm := Nat.div_add_mod high v1
  have hml := Nat.mod_lt high (show v1 > 0 by omega)
  have hqi : (high : Int) / (v1 : Int) = ((high / v1 : Nat) : Int) := by simp
  have hmi : (high : Int) % (v1 : Int) = ((high % v1 : Nat) : Int) := by simp
  have hg0 : high / v1 ≤ 4294967297 := by
    have : high / v1 < 4294967298 := Nat.div_lt_of_lt_mul (by omega)
    omega
  generalize high / v1 = g0 at *
  generalize high % v1 = r0 at *
  have hG0 : Guess U V v1 v2 u2 high g0 r0 := ⟨by rw [Nat.mul_comm]; exact hdm.symm, guess_first hV hU hur hu2l (by rw [Nat.mul_comm]; exact hdm.symm) hml, hg0, by omega⟩
  refine calls_of_St (args := [_, _]) Try.func89 rfl Try.ntmps89 rfl ?_
  (repeat with_reducible first | refine StL.nil ?_ | refine Out.then_normal ?_ | refine Out.block_normal ?_ | refine St.seq ?_ | refine St.block ?_ | refine St.skip ?_ | refine St.region ?_ | refine St.ret ?_ | refine Out.then_ret ?_ | refine Out.block_ret ?_ | refine St.exit ?_ | refine Out.then_exit ?_ | refine Out.block_exit ?_)
  refine StL.run TBok 99 rfl ?_
  (repeat with_reducible first | refine StL.nil ?_ | refine Out.then_normal ?_ | refine Out.block_normal ?_ | refine St.seq ?_ | refine St.block ?_ | refine St.skip ?_ | refine St.region ?_ | refine St.ret ?_ | refine Out.then_ret ?_ | refine Out.block_ret ?_ | refine St.exit ?_ | refine Out.then_exit ?_ | refine Out.block_exit ?_)
  refine StL.run TBok 99 rfl ?_
  (repeat with_reducible first | refine StL.nil ?_ | refine Out.then_normal ?_ | refine Out.block_normal ?_ | refine St.seq ?_ | refine St.block ?_ | refine St.skip ?_ | refine St.region ?_ | refine St.ret ?_ | refine Out.then_ret ?_ | refine Out.block_ret ?_ | refine St.exit ?_ | refine Out.then_exit ?_ | refine Out.block_exit ?_)
  refine St.quiet TBfol (by kernel_rfl) ?_
  refine QL.run TBok 99 rfl ?_
  refine QL.elemB TBok (m + 2) (u32 u0) hb (seg_get hA hu0) rfl (by omega) rfl rfl rfl rfl rfl rfl rfl rfl rfl rfl (fun _ => rfl) ?_
  intro p1
  refine QL.run TBok 99 rfl ?_
  refine QL.elemB TBok (m + 1) (u32 u1) hb (seg_get hA hu1) e1 (by omega) rfl rfl rfl rfl rfl rfl rfl rfl rfl rfl (fun _ => rfl) ?_
  intro p2
  have eh : bitsI .or .u64 (IntKind.u64.wrap (IntKind.u64.wrap (u0 : Int) * 2 ^ 32)) (IntKind.u64.wrap (u1 : Int)) = (high : Int) := by
    rw [u64_id (n := (u0 : Int)) (by omega) (by omega), show (u0 : Int) * 2 ^ 32 = ((u0 * 4294967296 : Nat) : Int) from by rw [Int.natCast_mul]; rfl, u64_id (n := ((u0 * 4294967296 : Nat) : Int)) (Int.natCast_nonneg _) (Int.ofNat_le.2 (Nat.le_of_lt_succ (mul_B_lt hu0l))), u64_id (n := (u1 : Int)) (by omega) (by omega), or_u64 _ _ (mul_B_lt hu0l) (by omega), Nat.or_comm, or_low32 _ _ hu1l, Nat.add_comm, hh]
  refine QL.as TBok 2 (.int .u64 (high : Int)) rfl (by rw [eh]) ?_
  refine QL.run TBok 99 rfl ?_
  refine QL.nil fun m1 => ?_
  (repeat with_reducible first | refine StL.nil ?_ | refine Out.then_normal ?_ | refine Out.block_normal ?_ | refine St.seq ?_ | refine St.block ?_ | refine St.skip ?_ | refine St.region ?_ | refine St.ret ?_ | refine Out.then_ret ?_ | refine Out.block_ret ?_ | refine St.exit ?_ | refine Out.then_exit ?_ | refine Out.block_exit ?_)
  refine St.quiet TBfol (by kernel_rfl) ?_
  refine QL.run TBok 99 rfl ?_
  refine QL.elem TBok (m + 1) (u32 v1) (hv.drewN m1).1 (hv.get htop) e1 rfl rfl rfl rfl rfl rfl rfl rfl rfl rfl (fun _ => rfl) ?_
  intro p3
  refine QL.run TBok 99 rfl ?_
  refine QL.step rfl rfl rfl (fun _ => RunsTo.quo rfl rfl (by omega) (by rw [ev1]; omega)) ?_
  rw [ev1, hqi]
  refine QL.run TBok 99 rfl ?_
  refine QL.elem TBok (m + 1) (u32 v1) (hv.drewN m1).1 (hv.get htop) e1 rfl rfl rfl rfl rfl rfl rfl rfl rfl rfl (fun _ => rfl) ?_
  intro p4
  refine QL.run TBok 99 rfl ?_
  refine QL.step rfl rfl rfl (fun _ => RunsTo.rem rfl rfl (by omega) (by rw [ev1]; omega)) ?_
  rw [ev1, hmi, u64_id (n := (g0 : Int)) (by omega) (by omega)]
  refine QL.run TBok 99 rfl ?_
  refine QL.nil fun m2 => ?_
  (repeat with_reducible first | refine Out.then_normal ?_ | refine Out.block_normal ?_)
  have hx2 : Ext w ((w.drewN m1).drewN m2) := ((Ext.refl w).drewN m1).drewN m2
  refine St.cut (fun g : Nat => [(0, .slice (some ⟨b, off, none⟩) (m + 3) cap), (1, .slice q (m + 2) d), (5, .int .i64 ((m + 2 : Nat) : Int)), (7, .int .u64 g)]) (fun g w' => Ext w w' ∧ g < 4294967296 ∧ U < (g + 1) * V ∧ g * V < U + V) ?_ ?_
  · -- the loop that lowers the guess
    (repeat with_reducible first | refine StL.nil ?_ | refine Out.then_normal ?_ | refine Out.block_normal ?_ | refine St.seq ?_ | refine St.block ?_ | refine St.skip ?_ | refine St.region ?_ | refine St.ret ?_ | refine Out.then_ret ?_ | refine Out.block_ret ?_ | refine St.exit ?_ | refine Out.then_exit ?_ | refine Out.block_exit ?_)
    refine St.loop (fun g : Nat × Nat => [(0, .slice (some ⟨b, off, none⟩) (m + 3) cap), (1, .slice q (m + 2) d), (5, .int .i64 ((m + 2 : Nat) : Int)), (7, .int .u64 g.1), (8, .int .u64 g.2)]) (fun g w' => Ext w w' ∧ Guess U V v1 v2 u2 high g.1 g.2) (fun g => g.1) (g0, r0) ⟨rfl, rfl, rfl, rfl, rfl, trivial⟩ ⟨hx2, hG0⟩ ?_
    rintro ⟨g, r⟩ w3 ⟨hx3, hG⟩
    obtain ⟨hGh, hGe, hGl, hGr⟩ := hG
    dsimp only at hGh hGe hGl hGr ⊢
    have hb3 := hb.ext hx3
    have hv3 := hv.ext hx3
    -- what one round more does
    have down : 0 < g → U < g * V → high = (g - 1) * v1 + (r + v1) ∧ U < (g - 1 + 1) * V := by
      intro hg hlt2
      obtain ⟨k, rfl⟩ : ∃ k, g = k + 1 := ⟨g - 1, by omega⟩
      rw [Nat.add_mul, Nat.one_mul] at hGh
      exact ⟨by simp only [Nat.add_sub_cancel]; omega, by simpa using hlt2⟩
    (repeat with_reducible first | refine StL.nil ?_ | refine Out.then_normal ?_ | refine Out.block_normal ?_ | refine St.seq ?_ | refine St.block ?_ | refine St.skip ?_ | refine St.region ?_ | refine St.ret ?_ | refine Out.then_ret ?_ | refine Out.block_ret ?_ | refine St.exit ?_ | refine Out.then_exit ?_ | refine Out.block_exit ?_)
    refine St.quiet TBfol (by kernel_rfl) ?_
    by_cases hge : 4294967296 ≤ g
    · have hltg : U < g * V := Nat.lt_of_lt_of_le hlt (by rw [Nat.mul_comm]; exact Nat.mul_le_mul_right _ hge)
      obtain ⟨hd1, hd2⟩ := down (by omega) hltg
      refine QL.as TBok 3 (.bool true) rfl (by congr 1; simp; omega) ?_
      refine QL.run TBok 99 rfl ?_
      refine QL.nil fun m3 => ?_
      (repeat with_reducible first | refine StL.nil ?_ | refine Out.then_normal ?_ | refine Out.block_normal ?_ | refine St.seq ?_ | refine St.block ?_ | refine St.skip ?_ | refine St.region ?_ | refine St.ret ?_ | refine Out.then_ret ?_ | refine Out.block_ret ?_ | refine St.exit ?_ | refine Out.then_exit ?_ | refine Out.block_exit ?_)
      refine St.condT rfl rfl ?_
      ((repeat with_reducible first | refine StL.nil ?_ | refine Out.then_normal ?_ | refine Out.block_normal ?_ | refine St.seq ?_ | refine St.block ?_ | refine St.skip ?_ | refine St.region ?_ | refine St.ret ?_ | refine Out.then_ret ?_ | refine Out.block_ret ?_ | refine St.exit ?_ | refine Out.then_exit ?_ | refine Out.block_exit ?_); try refine StL.run TBok 99 rfl ?_; (repeat with_reducible first | refine StL.nil ?_ | refine Out.then_normal ?_ | refine Out.block_normal ?_ | refine St.seq ?_ | refine St.block ?_ | refine St.skip ?_ | refine St.region ?_ | refine St.ret ?_ | refine Out.then_ret ?_ | refine Out.block_ret ?_ | refine St.exit ?_ | refine Out.then_exit ?_ | refine Out.block_exit ?_); try refine StL.run TBok 99 rfl ?_; (repeat with_reducible first | refine StL.nil ?_ | refine Out.then_normal ?_ | refine Out.block_normal ?_ | refine St.seq ?_ | refine St.block ?_ | refine St.skip ?_ | refine St.region ?_ | refine St.ret ?_ | refine Out.then_ret ?_ | refine Out.block_ret ?_ | refine St.exit ?_ | refine Out.then_exit ?_ | refine Out.block_exit ?_); try refine StL.run TBok 99 rfl ?_; (repeat with_reducible first | refine StL.nil ?_ | refine Out.then_normal ?_ | refine Out.block_normal ?_ | refine St.seq ?_ | refine St.block ?_ | refine St.skip ?_ | refine St.region ?_ | refine St.ret ?_ | refine Out.then_ret ?_ | refine Out.block_ret ?_ | refine St.exit ?_ | refine Out.then_exit ?_ | refine Out.block_exit ?_); try refine StL.run TBok 99 rfl ?_; (repeat with_reducible first | refine StL.nil ?_ | refine Out.then_normal ?_ | refine Out.block_normal ?_ | refine St.seq ?_ | refine St.block ?_ | refine St.skip ?_ | refine St.region ?_ | refine St.ret ?_ | refine Out.then_ret ?_ | refine Out.block_ret ?_ | refine St.exit ?_ | refine Out.then_exit ?_ | refine Out.block_exit ?_))
      refine StL.elem TBok (m + 1) (u32 v1) (hv3.drewN m3).1 (hv.get htop) e1 rfl rfl rfl rfl rfl rfl rfl rfl rfl rfl (fun _ => rfl) ?_
      intro p5
      have er : IntKind.u64.wrap ((r : Int) + IntKind.u64.wrap (v1 : Int)) = ((r + v1 : Nat) : Int) := by
        rw [ev1, u64_id (by omega) (by omega)]; rfl
      have eg : IntKind.u64.wrap ((g : Int) - 1) = ((g - 1 : Nat) : Int) := by
        rw [u64_id (by omega) (by omega)]; omega
      refine StL.as TBok 2 (.int .u64 ((r + v1 : Nat) : Int)) rfl (by rw [er]) ?_
      rw [eg]
      ((repeat with_reducible first | refine StL.nil ?_ | refine Out.then_normal ?_ | refine Out.block_normal ?_ | refine St.seq ?_ | refine St.block ?_ | refine St.skip ?_ | refine St.region ?_ | refine St.ret ?_ | refine Out.then_ret ?_ | refine Out.block_ret ?_ | refine St.exit ?_ | refine Out.then_exit ?_ | refine Out.block_exit ?_); try refine StL.run TBok 99 rfl ?_; (repeat with_reducible first | refine StL.nil ?_ | refine Out.then_normal ?_ | refine Out.block_normal ?_ | refine St.seq ?_ | refine St.block ?_ | refine St.skip ?_ | refine St.region ?_ | refine St.ret ?_ | refine Out.then_ret ?_ | refine Out.block_ret ?_ | refine St.exit ?_ | refine Out.then_exit ?_ | refine Out.block_exit ?_); try refine StL.run TBok 99 rfl ?_; (repeat with_reducible first | refine StL.nil ?_ | refine Out.then_normal ?_ | refine Out.block_normal ?_ | refine St.seq ?_ | refine St.block ?_ | refine St.skip ?_ | refine St.region ?_ | refine St.ret ?_ | refine Out.then_ret ?_ | refine Out.block_ret ?_ | refine St.exit ?_ | refine Out.then_exit ?_ | refine Out.block_exit ?_); try refine StL.run TBok 99 rfl ?_; (repeat with_reducible first | refine StL.nil ?_ | refine Out.then_normal ?_ | refine Out.block_normal ?_ | refine St.seq ?_ | refine St.block ?_ | refine St.skip ?_ | refine St.region ?_ | refine St.ret ?_ | refine Out.then_ret ?_ | refine Out.block_ret ?_ | refine St.exit ?_ | refine Out.then_exit ?_ | refine Out.block_exit ?_); try refine StL.run TBok 99 rfl ?_; (repeat with_reducible first | refine StL.nil ?_ | refine Out.then_normal ?_ | refine Out.block_normal ?_ | refine St.seq ?_ | refine St.block ?_ | refine St.skip ?_ | refine St.region ?_ | refine St.ret ?_ | refine Out.then_ret ?_ | refine Out.block_ret ?_ | refine St.exit ?_ | refine Out.then_exit ?_ | refine Out.block_exit ?_))
      by_cases hbr : 4294967296 ≤ r + v1
      · refine St.condT rfl (by simp; omega) ?_
        have hgB : g - 1 < 4294967296 := by
          rcases Nat.lt_or_ge (g - 1) 4294967296 with h | h
          · exact h
          · exfalso
            have : 4294967296 * v1 ≤ (g - 1) * v1 := Nat.mul_le_mul_right _ h
            omega
        refine St.exit ?_
        (repeat with_reducible refine Out.then_exit ?_)
        refine Out.block_other rfl ?_
        (repeat with_reducible refine Out.then_exit ?_)
        refine Out.block_exit (Out.met (g - 1) ⟨rfl, rfl, rfl, rfl, trivial⟩ ⟨hx3.drewN m3, hgB, hd2, ?_⟩)
        refine guess_near hV hU hvr (by omega) hgB hd1 ?_
        have h5 : (g - 1) * v2 ≤ 4294967295 * 4294967295 := Nat.mul_le_mul (by omega) (by omega)
        omega
      · refine St.condF rfl (by simp; omega) ?_
        (repeat with_reducible first | refine StL.nil ?_ | refine Out.then_normal ?_ | refine Out.block_normal ?_ | refine St.seq ?_ | refine St.block ?_ | refine St.skip ?_ | refine St.region ?_ | refine St.ret ?_ | refine Out.then_ret ?_ | refine Out.block_ret ?_ | refine St.exit ?_ | refine Out.then_exit ?_ | refine Out.block_exit ?_)
        exact Out.again (g - 1, r + v1) ⟨rfl, rfl, rfl, rfl, rfl, trivial⟩ ⟨hx3.drewN m3, hd1, hd2, by simp only; omega, by simp only; omega⟩ (by simp only; omega)
    · have hgv : g * v2 ≤ 4294967295 * 4294967295 := Nat.mul_le_mul (by omega) (by omega)
      refine QL.as TBok 3 (.bool false) rfl (by congr 1; simp; omega) ?_
      refine QL.run TBok 99 rfl ?_
      refine QL.elem TBok m (u32 v2) hv3.1 (hv.get hv2) e2 rfl rfl rfl rfl rfl rfl rfl rfl rfl rfl (fun _ => rfl) ?_
      intro p5
      have egv : IntKind.u64.wrap ((g : Int) * IntKind.u64.wrap (v2 : Int)) = ((g * v2 : Nat) : Int) := by
        rw [u64_id (n := (v2 : Int)) (by omega) (by omega), show (g : Int) * (v2 : Int) = ((g * v2 : Nat) : Int) from by simp]
        generalize g * v2 = t at hgv
        exact u64_id (by omega) (by omega)
      refine QL.as TBok 2 (.int .u64 ((g * v2 : Nat) : Int)) rfl (by rw [egv]) ?_
      refine QL.run TBok 99 rfl ?_
      refine QL.elemB TBok m (u32 u2) hb3 (seg_get hA hu2) e2 (by omega) rfl rfl rfl rfl rfl rfl rfl rfl rfl rfl (fun _ => rfl) ?_
      intro p6
      have ero : bitsI .or .u64 (IntKind.u64.wrap ((r : Int) * 2 ^ 32)) (IntKind.u64.wrap (u2 : Int)) = ((r * 4294967296 + u2 : Nat) : Int) := by
        rw [show (r : Int) * 2 ^ 32 = ((r * 4294967296 : Nat) : Int) from by rw [Int.natCast_mul]; rfl, u64_id (n := ((r * 4294967296 : Nat) : Int)) (Int.natCast_nonneg _) (Int.ofNat_le.2 (Nat.le_of_lt_succ (mul_B_lt hGr))), u64_id (n := (u2 : Int)) (by omega) (by omega), or_u64 _ _ (mul_B_lt hGr) (by omega), Nat.or_comm, or_low32 _ _ hu2l, Nat.add_comm]
      refine QL.as TBok 2 (.int .u64 ((r * 4294967296 + u2 : Nat) : Int)) rfl (by rw [ero]) ?_
      by_cases htest : r * 4294967296 + u2 < g * v2
      · have hltg := guess_less hV hU hur hGh htest
        have hgpos : 0 < g := by
          rcases Nat.eq_zero_or_pos g with h | h
          · subst h; simp at htest
          · exact h
        obtain ⟨hd1, hd2⟩ := down hgpos hltg
        refine QL.as TBok 1 (.bool true) rfl (bool_true (Int.ofNat_lt.2 htest)) ?_
        refine QL.run TBok 99 rfl ?_
        refine QL.nil fun m3 => ?_
        (repeat with_reducible first | refine StL.nil ?_ | refine Out.then_normal ?_ | refine Out.block_normal ?_ | refine St.seq ?_ | refine St.block ?_ | refine St.skip ?_ | refine St.region ?_ | refine St.ret ?_ | refine Out.then_ret ?_ | refine Out.block_ret ?_ | refine St.exit ?_ | refine Out.then_exit ?_ | refine Out.block_exit ?_)
        refine St.condT rfl rfl ?_
        ((repeat with_reducible first | refine StL.nil ?_ | refine Out.then_normal ?_ | refine Out.block_normal ?_ | refine St.seq ?_ | refine St.block ?_ | refine St.skip ?_ | refine St.region ?_ | refine St.ret ?_ | refine Out.then_ret ?_ | refine Out.block_ret ?_ | refine St.exit ?_ | refine Out.then_exit ?_ | refine Out.block_exit ?_); try refine StL.run TBok 99 rfl ?_; (repeat with_reducible first | refine StL.nil ?_ | refine Out.then_normal ?_ | refine Out.block_normal ?_ | refine St.seq ?_ | refine St.block ?_ | refine St.skip ?_ | refine St.region ?_ | refine St.ret ?_ | refine Out.then_ret ?_ | refine Out.block_ret ?_ | refine St.exit ?_ | refine Out.then_exit ?_ | refine Out.block_exit ?_); try refine StL.run TBok 99 rfl ?_; (repeat with_reducible first | refine StL.nil ?_ | refine Out.then_normal ?_ | refine Out.block_normal ?_ | refine St.seq ?_ | refine St.block ?_ | refine St.skip ?_ | refine St.region ?_ | refine St.ret ?_ | refine Out.then_ret ?_ | refine Out.block_ret ?_ | refine St.exit ?_ | refine Out.then_exit ?_ | refine Out.block_exit ?_); try refine StL.run TBok 99 rfl ?_; (repeat with_reducible first | refine StL.nil ?_ | refine Out.then_normal ?_ | refine Out.block_normal ?_ | refine St.seq ?_ | refine St.block ?_ | refine St.skip ?_ | refine St.region ?_ | refine St.ret ?_ | refine Out.then_ret ?_ | refine Out.block_ret ?_ | refine St.exit ?_ | refine Out.then_exit ?_ | refine Out.block_exit ?_); try refine StL.run TBok 99 rfl ?_; (repeat with_reducible first | refine StL.nil ?_ | refine Out.then_normal ?_ | refine Out.block_normal ?_ | refine St.seq ?_ | refine St.block ?_ | refine St.skip ?_ | refine St.region ?_ | refine St.ret ?_ | refine Out.then_ret ?_ | refine Out.block_ret ?_ | refine St.exit ?_ | refine Out.then_exit ?_ | refine Out.block_exit ?_))
        refine StL.elem TBok (m + 1) (u32 v1) (hv3.drewN m3).1 (hv.get htop) e1 rfl rfl rfl rfl rfl rfl rfl rfl rfl rfl (fun _ => rfl) ?_
        intro p7
        have er : IntKind.u64.wrap ((r : Int) + IntKind.u64.wrap (v1 : Int)) = ((r + v1 : Nat) : Int) := by
          rw [ev1, u64_id (by omega) (by omega)]; rfl
        have eg : IntKind.u64.wrap ((g : Int) - 1) = ((g - 1 : Nat) : Int) := by
          rw [u64_id (by omega) (by omega)]; omega
        refine StL.as TBok 2 (.int .u64 ((r + v1 : Nat) : Int)) rfl (by rw [er]) ?_
        rw [eg]
        ((repeat with_reducible first | refine StL.nil ?_ | refine Out.then_normal ?_ | refine Out.block_normal ?_ | refine St.seq ?_ | refine St.block ?_ | refine St.skip ?_ | refine St.region ?_ | refine St.ret ?_ | refine Out.then_ret ?_ | refine Out.block_ret ?_ | refine St.exit ?_ | refine Out.then_exit ?_ | refine Out.block_exit ?_); try refine StL.run TBok 99 rfl ?_; (repeat with_reducible first | refine StL.nil ?_ | refine Out.then_normal ?_ | refine Out.block_normal ?_ | refine St.seq ?_ | refine St.block ?_ | refine St.skip ?_ | refine St.region ?_ | refine St.ret ?_ | refine Out.then_ret ?_ | refine Out.block_ret ?_ | refine St.exit ?_ | refine Out.then_exit ?_ | refine Out.block_exit ?_); try refine StL.run TBok 99 rfl ?_; (repeat with_reducible first | refine StL.nil ?_ | refine Out.then_normal ?_ | refine Out.block_normal ?_ | refine St.seq ?_ | refine St.block ?_ | refine St.skip ?_ | refine St.region ?_ | refine St.ret ?_ | refine Out.then_ret ?_ | refine Out.block_ret ?_ | refine St.exit ?_ | refine Out.then_exit ?_ | refine Out.block_exit ?_); try refine StL.run TBok 99 rfl ?_; (repeat with_reducible first | refine StL.nil ?_ | refine Out.then_normal ?_ | refine Out.block_normal ?_ | refine St.seq ?_ | refine St.block ?_ | refine St.skip ?_ | refine St.region ?_ | refine St.ret ?_ | refine Out.then_ret ?_ | refine Out.block_ret ?_ | refine St.exit ?_ | refine Out.then_exit ?_ | refine Out.block_exit ?_); try refine StL.run TBok 99 rfl ?_; (repeat with_reducible first | refine StL.nil ?_ | refine Out.then_normal ?_ | refine Out.block_normal ?_ | refine St.seq ?_ | refine St.block ?_ | refine St.skip ?_ | refine St.region ?_ | refine St.ret ?_ | refine Out.then_ret ?_ | refine Out.block_ret ?_ | refine St.exit ?_ | refine Out.then_exit ?_ | refine Out.block_exit ?_))
        by_cases hbr : 4294967296 ≤ r + v1
        · refine St.condT rfl (by simp; omega) ?_
          refine St.exit ?_
          (repeat with_reducible refine Out.then_exit ?_)
          refine Out.block_other rfl ?_
          (repeat with_reducible refine Out.then_exit ?_)
          refine Out.block_exit (Out.met (g - 1) ⟨rfl, rfl, rfl, rfl, trivial⟩ ⟨hx3.drewN m3, by omega, hd2, ?_⟩)
          refine guess_near hV hU hvr (by omega) (by omega) hd1 ?_
          have h5 : (g - 1) * v2 ≤ 4294967295 * 4294967295 := Nat.mul_le_mul (by omega) (by omega)
          omega
        · refine St.condF rfl (by simp; omega) ?_
          (repeat with_reducible first | refine StL.nil ?_ | refine Out.then_normal ?_ | refine Out.block_normal ?_ | refine St.seq ?_ | refine St.block ?_ | refine St.skip ?_ | refine St.region ?_ | refine St.ret ?_ | refine Out.then_ret ?_ | refine Out.block_ret ?_ | refine St.exit ?_ | refine Out.then_exit ?_ | refine Out.block_exit ?_)
          exact Out.again (g - 1, r + v1) ⟨rfl, rfl, rfl, rfl, rfl, trivial⟩ ⟨hx3.drewN m3, hd1, hd2, by simp only; omega, by simp only; omega⟩ (by simp only; omega)
      · refine QL.as TBok 1 (.bool false) rfl (bool_false (fun h => htest (Int.ofNat_lt.1 h))) ?_
        refine QL.run TBok 99 rfl ?_
        refine QL.nil fun m3 => ?_
        (repeat with_reducible first | refine StL.nil ?_ | refine Out.then_normal ?_ | refine Out.block_normal ?_ | refine St.seq ?_ | refine St.block ?_ | refine St.skip ?_ | refine St.region ?_ | refine St.ret ?_ | refine Out.then_ret ?_ | refine Out.block_ret ?_ | refine St.exit ?_ | refine Out.then_exit ?_ | refine Out.block_exit ?_)
        refine St.condF rfl rfl ?_
        refine St.exit (Out.then_exit (Out.then_exit (Out.block_exit (Out.met g ⟨rfl, rfl, rfl, rfl, trivial⟩ ⟨hx3.drewN m3, by omega, hGe, ?_⟩))))
        exact guess_near hV hU hvr (by omega) (by omega) hGh (by omega)
  rintro g w3 ⟨hx3, hgB, hge, hgn⟩
  have hb3 := hb.ext hx3
  have hu3 : Upd b w w3 := hx3.upd b
  clear hG0 hg0 hdm hml hqi hmi hx2 eh
  ((repeat with_reducible first | refine StL.nil ?_ | refine Out.then_normal ?_ | refine Out.block_normal ?_ | refine St.seq ?_ | refine St.block ?_ | refine St.skip ?_ | refine St.region ?_ | refine St.ret ?_ | refine Out.then_ret ?_ | refine Out.block_ret ?_ | refine St.exit ?_ | refine Out.then_exit ?_ | refine Out.block_exit ?_); try refine StL.run TBok 99 rfl ?_; (repeat with_reducible first | refine StL.nil ?_ | refine Out.then_normal ?_ | refine Out.block_normal ?_ | refine St.seq ?_ | refine St.block ?_ | refine St.skip ?_ | refine St.region ?_ | refine St.ret ?_ | refine Out.then_ret ?_ | refine Out.block_ret ?_ | refine St.exit ?_ | refine Out.then_exit ?_ | refine Out.block_exit ?_); try refine StL.run TBok 99 rfl ?_; (repeat with_reducible first | refine StL.nil ?_ | refine Out.then_normal ?_ | refine Out.block_normal ?_ | refine St.seq ?_ | refine St.block ?_ | refine St.skip ?_ | refine St.region ?_ | refine St.ret ?_ | refine Out.then_ret ?_ | refine Out.block_ret ?_ | refine St.exit ?_ | refine Out.then_exit ?_ | refine Out.block_exit ?_); try refine StL.run TBok 99 rfl ?_; (repeat with_reducible first | refine StL.nil ?_ | refine Out.then_normal ?_ | refine Out.block_normal ?_ | refine St.seq ?_ | refine St.block ?_ | refine St.skip ?_ | refine St.region ?_ | refine St.ret ?_ | refine Out.then_ret ?_ | refine Out.block_ret ?_ | refine St.exit ?_ | refine Out.then_exit ?_ | refine Out.block_exit ?_); try refine StL.run TBok 99 rfl ?_; (repeat with_reducible first | refine StL.nil ?_ | refine Out.then_normal ?_ | refine Out.block_normal ?_ | refine St.seq ?_ | refine St.block ?_ | refine St.skip ?_ | refine St.region ?_ | refine St.ret ?_ | refine Out.then_ret ?_ | refine Out.block_ret ?_ | refine St.exit ?_ | refine Out.then_exit ?_ | refine Out.block_exit ?_))
  refine St.loop (fun s : Nat × Nat × Nat × List Nat => [(0, .slice (some ⟨b, off, none⟩) (m + 3) cap), (1, .slice q (m + 2) d), (5, .int .i64 ((m + 2 : Nat) : Int)), (7, .int .u64 g), (9, .int .u64 s.2.1), (10, .int .u64 s.2.2.1), (82, .int .i64 ((m + 2 : Nat) : Int)), (83, .int .i64 s.1)])
    (fun s w' => Upd b w w' ∧ Blk 41 w' b (A ++ (s.2.2.2.map u32 ++ D)) ∧ s.2.2.2.length = m + 3 ∧ Lim s.2.2.2 ∧ s.2.2.2.drop s.1 = us.drop s.1 ∧ s.2.1 < 4294967296 ∧ s.2.2.1 ≤ 1 ∧ s.1 ≤ m + 2 ∧ val (s.2.2.2.take s.1) + g * val (vs.take s.1) = val (us.take s.1) + (s.2.1 + s.2.2.1) * 4294967296 ^ s.1)
    (fun s => m + 2 - s.1) (0, 0, 0, us) ⟨rfl, rfl, rfl, rfl, rfl, rfl, rfl, rfl, trivial⟩ ⟨hu3, hb3, hul, hu, rfl, by simp, by simp, by simp, by simp [val]⟩ ?_
  rintro ⟨i, c, bo, ws⟩ w4 ⟨hu4, hb4, hwl, hwlim, hdr, hc, hbo, hi, heq⟩
  dsimp only at hb4 hwl hwlim hdr hc hbo hi heq ⊢
  have hv4 := hv.upd hu4 hap
  by_cases hlt4 : i < m + 2
  · have hyi : vs[i]? = some vs[i] := by simp
    generalize vs[i] = y at hyi
    have hyl := hv.2.get hyi
    have hxi : ws[i]? = some ws[i] := by simp
    generalize ws[i] = x at hxi
    have hxl := hwlim.get hxi
    have hxu : us[i]? = some x := by rw [← getElem?_of_drop hdr (Nat.le_refl _)]; exact hxi
    have hbd := mul_bound hc hgB hyl (show (0 : Nat) < 4294967296 by decide)
    rw [Nat.add_zero] at hbd
    (repeat with_reducible first | refine StL.nil ?_ | refine Out.then_normal ?_ | refine Out.block_normal ?_ | refine St.seq ?_ | refine St.block ?_ | refine St.skip ?_ | refine St.region ?_ | refine St.ret ?_ | refine Out.then_ret ?_ | refine Out.block_ret ?_ | refine St.exit ?_ | refine Out.then_exit ?_ | refine Out.block_exit ?_)
    refine StL.as TBok 1 (.bool true) rfl (bool_true (by omega)) ?_
    (repeat with_reducible first | refine StL.nil ?_ | refine Out.then_normal ?_ | refine Out.block_normal ?_ | refine St.seq ?_ | refine St.block ?_ | refine St.skip ?_ | refine St.region ?_ | refine St.ret ?_ | refine Out.then_ret ?_ | refine Out.block_ret ?_ | refine St.exit ?_ | refine Out.then_exit ?_ | refine Out.block_exit ?_)
    refine St.condT rfl rfl ?_
    ((repeat with_reducible first | refine StL.nil ?_ | refine Out.then_normal ?_ | refine Out.block_normal ?_ | refine St.seq ?_ | refine St.block ?_ | refine St.skip ?_ | refine St.region ?_ | refine St.ret ?_ | refine Out.then_ret ?_ | refine Out.block_ret ?_ | refine St.exit ?_ | refine Out.then_exit ?_ | refine Out.block_exit ?_); try refine StL.run TBok 99 rfl ?_; (repeat with_reducible first | refine StL.nil ?_ | refine Out.then_normal ?_ | refine Out.block_normal ?_ | refine St.seq ?_ | refine St.block ?_ | refine St.skip ?_ | refine St.region ?_ | refine St.ret ?_ | refine Out.then_ret ?_ | refine Out.block_ret ?_ | refine St.exit ?_ | refine Out.then_exit ?_ | refine Out.block_exit ?_); try refine StL.run TBok 99 rfl ?_; (repeat with_reducible first | refine StL.nil ?_ | refine Out.then_normal ?_ | refine Out.block_normal ?_ | refine St.seq ?_ | refine St.block ?_ | refine St.skip ?_ | refine St.region ?_ | refine St.ret ?_ | refine Out.then_ret ?_ | refine Out.block_ret ?_ | refine St.exit ?_ | refine Out.then_exit ?_ | refine Out.block_exit ?_); try refine StL.run TBok 99 rfl ?_; (repeat with_reducible first | refine StL.nil ?_ | refine Out.then_normal ?_ | refine Out.block_normal ?_ | refine St.seq ?_ | refine St.block ?_ | refine St.skip ?_ | refine St.region ?_ | refine St.ret ?_ | refine Out.then_ret ?_ | refine Out.block_ret ?_ | refine St.exit ?_ | refine Out.then_exit ?_ | refine Out.block_exit ?_); try refine StL.run TBok 99 rfl ?_; (repeat with_reducible first | refine StL.nil ?_ | refine Out.then_normal ?_ | refine Out.block_normal ?_ | refine St.seq ?_ | refine St.block ?_ | refine St.skip ?_ | refine St.region ?_ | refine St.ret ?_ | refine Out.then_ret ?_ | refine Out.block_ret ?_ | refine St.exit ?_ | refine Out.then_exit ?_ | refine Out.block_exit ?_))
    refine StL.elem TBok i (u32 y) hv4.1 (hv.get hyi) rfl rfl rfl rfl rfl rfl rfl rfl rfl rfl rfl (fun _ => rfl) ?_
    intro p8
    have ec : IntKind.u64.wrap ((c : Int) + IntKind.u64.wrap ((g : Int) * IntKind.u64.wrap (y : Int))) = ((c + g * y : Nat) : Int) := by
      rw [u64_id (n := (y : Int)) (by omega) (by omega), show (g : Int) * (y : Int) = ((g * y : Nat) : Int) from by simp]
      generalize g * y = t at hbd
      rw [u64_id (n := (t : Int)) (by omega) (by omega), u64_id (by omega) (by omega)]; rfl
    refine StL.as TBok 3 (.int .u64 ((c + g * y : Nat) : Int)) rfl (by rw [ec]) ?_
    have hstep := mulsub_step (val (ws.take i)) (val (us.take i)) (val (vs.take i)) (4294967296 ^ i) g c bo x y ((x + 8589934592 - (c + g * y) % 4294967296 - bo) % 4294967296) ((c + g * y) % 4294967296) ((c + g * y) / 4294967296) (if x < (c + g * y) % 4294967296 + bo then 1 else 0) heq (by omega) (by split <;> omega)
    generalize c + g * y = T at *
    ((repeat with_reducible first | refine StL.nil ?_ | refine Out.then_normal ?_ | refine Out.block_normal ?_ | refine St.seq ?_ | refine St.block ?_ | refine St.skip ?_ | refine St.region ?_ | refine St.ret ?_ | refine Out.then_ret ?_ | refine Out.block_ret ?_ | refine St.exit ?_ | refine Out.then_exit ?_ | refine Out.block_exit ?_); try refine StL.run TBok 99 rfl ?_; (repeat with_reducible first | refine StL.nil ?_ | refine Out.then_normal ?_ | refine Out.block_normal ?_ | refine St.seq ?_ | refine St.block ?_ | refine St.skip ?_ | refine St.region ?_ | refine St.ret ?_ | refine Out.then_ret ?_ | refine Out.block_ret ?_ | refine St.exit ?_ | refine Out.then_exit ?_ | refine Out.block_exit ?_); try refine StL.run TBok 99 rfl ?_; (repeat with_reducible first | refine StL.nil ?_ | refine Out.then_normal ?_ | refine Out.block_normal ?_ | refine St.seq ?_ | refine St.block ?_ | refine St.skip ?_ | refine St.region ?_ | refine St.ret ?_ | refine Out.then_ret ?_ | refine Out.block_ret ?_ | refine St.exit ?_ | refine Out.then_exit ?_ | refine Out.block_exit ?_); try refine StL.run TBok 99 rfl ?_; (repeat with_reducible first | refine StL.nil ?_ | refine Out.then_normal ?_ | refine Out.block_normal ?_ | refine St.seq ?_ | refine St.block ?_ | refine St.skip ?_ | refine St.region ?_ | refine St.ret ?_ | refine Out.then_ret ?_ | refine Out.block_ret ?_ | refine St.exit ?_ | refine Out.then_exit ?_ | refine Out.block_exit ?_); try refine StL.run TBok 99 rfl ?_; (repeat with_reducible first | refine StL.nil ?_ | refine Out.then_normal ?_ | refine Out.block_normal ?_ | refine St.seq ?_ | refine St.block ?_ | refine St.skip ?_ | refine St.region ?_ | refine St.ret ?_ | refine Out.then_ret ?_ | refine Out.block_ret ?_ | refine St.exit ?_ | refine Out.then_exit ?_ | refine Out.block_exit ?_))
    refine StL.elemB TBok i (u32 x) hb4 (seg_get hA hxi) rfl (by omega) rfl rfl rfl rfl rfl rfl rfl rfl rfl rfl (fun _ => rfl) ?_
    intro p9
    have et : IntKind.u64.wrap (IntKind.u64.wrap (IntKind.u64.wrap (x : Int) - IntKind.u64.wrap (IntKind.u32.wrap (T : Int))) - (bo : Int)) = IntKind.u64.wrap ((x : Int) - ((T % 4294967296 : Nat) : Int) - (bo : Int)) := by
      simp only [wrap_u64, wrap_u32]; omega
    refine StL.as TBok 7 (.int .u64 (IntKind.u64.wrap ((x : Int) - ((T % 4294967296 : Nat) : Int) - (bo : Int)))) rfl (by rw [et]) ?_
    have hlo : T % 4294967296 < 4294967296 := Nat.mod_lt _ (by decide)
    generalize T % 4294967296 = lo at *
    ((repeat with_reducible first | refine StL.nil ?_ | refine Out.then_normal ?_ | refine Out.block_normal ?_ | refine St.seq ?_ | refine St.block ?_ | refine St.skip ?_ | refine St.region ?_ | refine St.ret ?_ | refine Out.then_ret ?_ | refine Out.block_ret ?_ | refine St.exit ?_ | refine Out.then_exit ?_ | refine Out.block_exit ?_); try refine StL.run TBok 99 rfl ?_; (repeat with_reducible first | refine StL.nil ?_ | refine Out.then_normal ?_ | refine Out.block_normal ?_ | refine St.seq ?_ | refine St.block ?_ | refine St.skip ?_ | refine St.region ?_ | refine St.ret ?_ | refine Out.then_ret ?_ | refine Out.block_ret ?_ | refine St.exit ?_ | refine Out.then_exit ?_ | refine Out.block_exit ?_); try refine StL.run TBok 99 rfl ?_; (repeat with_reducible first | refine StL.nil ?_ | refine Out.then_normal ?_ | refine Out.block_normal ?_ | refine St.seq ?_ | refine St.block ?_ | refine St.skip ?_ | refine St.region ?_ | refine St.ret ?_ | refine Out.then_ret ?_ | refine Out.block_ret ?_ | refine St.exit ?_ | refine Out.then_exit ?_ | refine Out.block_exit ?_); try refine StL.run TBok 99 rfl ?_; (repeat with_reducible first | refine StL.nil ?_ | refine Out.then_normal ?_ | refine Out.block_normal ?_ | refine St.seq ?_ | refine St.block ?_ | refine St.skip ?_ | refine St.region ?_ | refine St.ret ?_ | refine Out.then_ret ?_ | refine Out.block_ret ?_ | refine St.exit ?_ | refine Out.then_exit ?_ | refine Out.block_exit ?_); try refine StL.run TBok 99 rfl ?_; (repeat with_reducible first | refine StL.nil ?_ | refine Out.then_normal ?_ | refine Out.block_normal ?_ | refine St.seq ?_ | refine St.block ?_ | refine St.skip ?_ | refine St.region ?_ | refine St.ret ?_ | refine Out.then_ret ?_ | refine Out.block_ret ?_ | refine St.exit ?_ | refine Out.then_exit ?_ | refine Out.block_exit ?_))
    have e3 : IntKind.u32.wrap (IntKind.u64.wrap ((x : Int) - (lo : Int) - (bo : Int))) = (((x + 8589934592 - lo - bo) % 4294967296 : Nat) : Int) := by
      simp only [wrap_u32, wrap_u64]; omega
    refine StL.put TBok i hb4 rfl (by omega) (by simp; omega) rfl rfl rfl rfl rfl rfl rfl rfl (fun _ => rfl) (fun _ => rfl) rfl rfl ?_
    intro p10 w5 hb5 hu5
    rw [e3, seg_set hA (by omega)] at hb5
    ((repeat with_reducible first | refine StL.nil ?_ | refine Out.then_normal ?_ | refine Out.block_normal ?_ | refine St.seq ?_ | refine St.block ?_ | refine St.skip ?_ | refine St.region ?_ | refine St.ret ?_ | refine Out.then_ret ?_ | refine Out.block_ret ?_ | refine St.exit ?_ | refine Out.then_exit ?_ | refine Out.block_exit ?_); try refine StL.run TBok 99 rfl ?_; (repeat with_reducible first | refine StL.nil ?_ | refine Out.then_normal ?_ | refine Out.block_normal ?_ | refine St.seq ?_ | refine St.block ?_ | refine St.skip ?_ | refine St.region ?_ | refine St.ret ?_ | refine Out.then_ret ?_ | refine Out.block_ret ?_ | refine St.exit ?_ | refine Out.then_exit ?_ | refine Out.block_exit ?_); try refine StL.run TBok 99 rfl ?_; (repeat with_reducible first | refine StL.nil ?_ | refine Out.then_normal ?_ | refine Out.block_normal ?_ | refine St.seq ?_ | refine St.block ?_ | refine St.skip ?_ | refine St.region ?_ | refine St.ret ?_ | refine Out.then_ret ?_ | refine Out.block_ret ?_ | refine St.exit ?_ | refine Out.then_exit ?_ | refine Out.block_exit ?_); try refine StL.run TBok 99 rfl ?_; (repeat with_reducible first | refine StL.nil ?_ | refine Out.then_normal ?_ | refine Out.block_normal ?_ | refine St.seq ?_ | refine St.block ?_ | refine St.skip ?_ | refine St.region ?_ | refine St.ret ?_ | refine Out.then_ret ?_ | refine Out.block_ret ?_ | refine St.exit ?_ | refine Out.then_exit ?_ | refine Out.block_exit ?_); try refine StL.run TBok 99 rfl ?_; (repeat with_reducible first | refine StL.nil ?_ | refine Out.then_normal ?_ | refine Out.block_normal ?_ | refine St.seq ?_ | refine St.block ?_ | refine St.skip ?_ | refine St.region ?_ | refine St.ret ?_ | refine Out.then_ret ?_ | refine Out.block_ret ?_ | refine St.exit ?_ | refine Out.then_exit ?_ | refine Out.block_exit ?_))
    refine Out.again (i + 1, T / 4294967296, (if x < lo + bo then 1 else 0), ws.set i ((x + 8589934592 - lo - bo) % 4294967296)) ⟨rfl, rfl, rfl, rfl, ?_, ?_, rfl, ?_, trivial⟩ ⟨hu4.trans hu5, hb5, by simpa using hwl, hwlim.set _ (Nat.mod_lt _ (by decide)), drop_set_of hdr, by simp only; omega, by simp only; split <;> omega, by simp only; omega, ?_⟩ (by simp only; omega)
    · show some (Value.int .u64 ((T : Int) / 2 ^ 32)) = some (Value.int .u64 ((T / 4294967296 : Nat) : Int))
      rw [show (T : Int) / 2 ^ 32 = ((T / 4294967296 : Nat) : Int) from by omega]
    · show some (Value.int .u64 (IntKind.u64.wrap ((x : Int) - (lo : Int) - (bo : Int)) / 2 ^ 63)) = some (Value.int .u64 ((if x < lo + bo then 1 else 0 : Nat) : Int))
      congr 2
      rw [wrap_u64]
      split <;> omega
    · show some (Value.int .i64 (IntKind.i64.wrap ((i : Int) + 1))) = _
      rw [i64_id (by omega) (by omega)]
      rfl
    · simp only
      rw [val_take_set (by omega), val_take_succ hxu, val_take_succ hyi, Nat.pow_succ]
      exact hstep
  obtain rfl : i = m + 2 := by omega
  clear hlt4 hi
  rw [List.take_of_length_le (show vs.length ≤ m + 2 by omega), hVd] at heq
  have hx0 : ws[m + 2]? = some u0 := by rw [getElem?_of_drop hdr (Nat.le_refl _)]; exact hu0
  have hUs := val_take_succ hu0
  rw [List.take_of_length_le (by omega), hUd] at hUs
  (repeat with_reducible first | refine StL.nil ?_ | refine Out.then_normal ?_ | refine Out.block_normal ?_ | refine St.seq ?_ | refine St.block ?_ | refine St.skip ?_ | refine St.region ?_ | refine St.ret ?_ | refine Out.then_ret ?_ | refine Out.block_ret ?_ | refine St.exit ?_ | refine Out.then_exit ?_ | refine Out.block_exit ?_)
  refine StL.as TBok 1 (.bool false) rfl (bool_false (by omega)) ?_
  (repeat with_reducible first | refine StL.nil ?_ | refine Out.then_normal ?_ | refine Out.block_normal ?_ | refine St.seq ?_ | refine St.block ?_ | refine St.skip ?_ | refine St.region ?_ | refine St.ret ?_ | refine Out.then_ret ?_ | refine Out.block_ret ?_ | refine St.exit ?_ | refine Out.then_exit ?_ | refine Out.block_exit ?_)
  refine St.condF rfl rfl ?_
  ((repeat with_reducible first | refine StL.nil ?_ | refine Out.then_normal ?_ | refine Out.block_normal ?_ | refine St.seq ?_ | refine St.block ?_ | refine St.skip ?_ | refine St.region ?_ | refine St.ret ?_ | refine Out.then_ret ?_ | refine Out.block_ret ?_ | refine St.exit ?_ | refine Out.then_exit ?_ | refine Out.block_exit ?_); try refine StL.run TBok 99 rfl ?_; (repeat with_reducible first | refine StL.nil ?_ | refine Out.then_normal ?_ | refine Out.block_normal ?_ | refine St.seq ?_ | refine St.block ?_ | refine St.skip ?_ | refine St.region ?_ | refine St.ret ?_ | refine Out.then_ret ?_ | refine Out.block_ret ?_ | refine St.exit ?_ | refine Out.then_exit ?_ | refine Out.block_exit ?_); try refine StL.run TBok 99 rfl ?_; (repeat with_reducible first | refine StL.nil ?_ | refine Out.then_normal ?_ | refine Out.block_normal ?_ | refine St.seq ?_ | refine St.block ?_ | refine St.skip ?_ | refine St.region ?_ | refine St.ret ?_ | refine Out.then_ret ?_ | refine Out.block_ret ?_ | refine St.exit ?_ | refine Out.then_exit ?_ | refine Out.block_exit ?_); try refine StL.run TBok 99 rfl ?_; (repeat with_reducible first | refine StL.nil ?_ | refine Out.then_normal ?_ | refine Out.block_normal ?_ | refine St.seq ?_ | refine St.block ?_ | refine St.skip ?_ | refine St.region ?_ | refine St.ret ?_ | refine Out.then_ret ?_ | refine Out.block_ret ?_ | refine St.exit ?_ | refine Out.then_exit ?_ | refine Out.block_exit ?_); try refine StL.run TBok 99 rfl ?_; (repeat with_reducible first | refine StL.nil ?_ | refine Out.then_normal ?_ | refine Out.block_normal ?_ | refine St.seq ?_ | refine St.block ?_ | refine St.skip ?_ | refine St.region ?_ | refine St.ret ?_ | refine Out.then_ret ?_ | refine Out.block_ret ?_ | refine St.exit ?_ | refine Out.then_exit ?_ | refine Out.block_exit ?_))
  refine StL.elemB TBok (m + 2) (u32 u0) hb4 (seg_get hA hx0) rfl (by omega) rfl rfl rfl rfl rfl rfl rfl rfl rfl rfl (fun _ => rfl) ?_
  intro p11
  have et : IntKind.u64.wrap (IntKind.u64.wrap (IntKind.u64.wrap (u0 : Int) - (c : Int)) - (bo : Int)) = IntKind.u64.wrap ((u0 : Int) - (c : Int) - (bo : Int)) := by
    simp only [wrap_u64]; omega
  refine StL.as TBok 5 (.int .u64 (IntKind.u64.wrap ((u0 : Int) - (c : Int) - (bo : Int)))) rfl (by rw [et]) ?_
  ((repeat with_reducible first | refine StL.nil ?_ | refine Out.then_normal ?_ | refine Out.block_normal ?_ | refine St.seq ?_ | refine St.block ?_ | refine St.skip ?_ | refine St.region ?_ | refine St.ret ?_ | refine Out.then_ret ?_ | refine Out.block_ret ?_ | refine St.exit ?_ | refine Out.then_exit ?_ | refine Out.block_exit ?_); try refine StL.run TBok 99 rfl ?_; (repeat with_reducible first | refine StL.nil ?_ | refine Out.then_normal ?_ | refine Out.block_normal ?_ | refine St.seq ?_ | refine St.block ?_ | refine St.skip ?_ | refine St.region ?_ | refine St.ret ?_ | refine Out.then_ret ?_ | refine Out.block_ret ?_ | refine St.exit ?_ | refine Out.then_exit ?_ | refine Out.block_exit ?_); try refine StL.run TBok 99 rfl ?_; (repeat with_reducible first | refine StL.nil ?_ | refine Out.then_normal ?_ | refine Out.block_normal ?_ | refine St.seq ?_ | refine St.block ?_ | refine St.skip ?_ | refine St.region ?_ | refine St.ret ?_ | refine Out.then_ret ?_ | refine Out.block_ret ?_ | refine St.exit ?_ | refine Out.then_exit ?_ | refine Out.block_exit ?_); try refine StL.run TBok 99 rfl ?_; (repeat with_reducible first | refine StL.nil ?_ | refine Out.then_normal ?_ | refine Out.block_normal ?_ | refine St.seq ?_ | refine St.block ?_ | refine St.skip ?_ | refine St.region ?_ | refine St.ret ?_ | refine Out.then_ret ?_ | refine Out.block_ret ?_ | refine St.exit ?_ | refine Out.then_exit ?_ | refine Out.block_exit ?_); try refine StL.run TBok 99 rfl ?_; (repeat with_reducible first | refine StL.nil ?_ | refine Out.then_normal ?_ | refine Out.block_normal ?_ | refine St.seq ?_ | refine St.block ?_ | refine St.skip ?_ | refine St.region ?_ | refine St.ret ?_ | refine Out.then_ret ?_ | refine Out.block_ret ?_ | refine St.exit ?_ | refine Out.then_exit ?_ | refine Out.block_exit ?_))
  have e3 : IntKind.u32.wrap (IntKind.u64.wrap ((u0 : Int) - (c : Int) - (bo : Int))) = (((u0 + 8589934592 - c - bo) % 4294967296 : Nat) : Int) := by
    simp only [wrap_u32, wrap_u64]; omega
  refine StL.put TBok (m + 2) hb4 rfl (by omega) (by simp; omega) rfl rfl rfl rfl rfl rfl rfl rfl (fun _ => rfl) (fun _ => rfl) rfl rfl ?_
  intro p12 w5 hb5 hu5
  rw [e3, seg_set hA (by omega)] at hb5
  have hup := hu4.trans hu5
  have hvw := val_take_set (us := ws) (k := m + 2) (by omega) ((u0 + 8589934592 - c - bo) % 4294967296)
  rw [List.take_of_length_le (by simp; omega)] at hvw
  have hS := val_lt (ws.take (m + 2)) (hwlim.take _)
  rw [show (ws.take (m + 2)).length = m + 2 from by simp; omega] at hS
  generalize hW : 4294967296 ^ (m + 2) = W at *
  generalize hSd : val (ws.take (m + 2)) = S at *
  generalize val (us.take (m + 2)) = Un at *
  by_cases hneg : u0 < c + bo
  · -- the guess was too great by 1
    have htop0 : (u0 + 8589934592 - c - bo) % 4294967296 = u0 + 4294967296 - (c + bo) := by omega
    rw [htop0] at hvw hb5
    obtain ⟨hgpos, hge1, hrest, hM⟩ := addback heq hUs hvw hneg (by omega) hgn hS
    have hUg : U = (g - 1) * V + (U - (g - 1) * V) := by omega
    have hres := mod_eq_of hUg hrest
    generalize hwd : ws.set (m + 2) (u0 + 4294967296 - (c + bo)) = xs at *
    have hxlen : xs.length = m + 3 := by rw [← hwd]; simpa using hwl
    have hxlim : Lim xs := by rw [← hwd]; exact hwlim.set _ (by omega)
    have hxtop : xs[m + 2]? = some (u0 + 4294967296 - (c + bo)) := by rw [← hwd]; exact List.getElem?_set_self (by omega)
    have hxval := val_take_succ hxtop
    rw [List.take_of_length_le (by omega), hW] at hxval
    generalize hpd : u0 + 4294967296 - (c + bo) = tp at *
    have ez : IntKind.u64.wrap ((u0 : Int) - (c : Int) - (bo : Int)) = ((18446744073709551616 + u0 - (c + bo) : Nat) : Int) := by
      rw [wrap_u64]; omega
    rw [ez]
    ((repeat with_reducible first | refine StL.nil ?_ | refine Out.then_normal ?_ | refine Out.block_normal ?_ | refine St.seq ?_ | refine St.block ?_ | refine St.skip ?_ | refine St.region ?_ | refine St.ret ?_ | refine Out.then_ret ?_ | refine Out.block_ret ?_ | refine St.exit ?_ | refine Out.then_exit ?_ | refine Out.block_exit ?_); try refine StL.run TBok 99 rfl ?_; (repeat with_reducible first | refine StL.nil ?_ | refine Out.then_normal ?_ | refine Out.block_normal ?_ | refine St.seq ?_ | refine St.block ?_ | refine St.skip ?_ | refine St.region ?_ | refine St.ret ?_ | refine Out.then_ret ?_ | refine Out.block_ret ?_ | refine St.exit ?_ | refine Out.then_exit ?_ | refine Out.block_exit ?_); try refine StL.run TBok 99 rfl ?_; (repeat with_reducible first | refine StL.nil ?_ | refine Out.then_normal ?_ | refine Out.block_normal ?_ | refine St.seq ?_ | refine St.block ?_ | refine St.skip ?_ | refine St.region ?_ | refine St.ret ?_ | refine Out.then_ret ?_ | refine Out.block_ret ?_ | refine St.exit ?_ | refine Out.then_exit ?_ | refine Out.block_exit ?_); try refine StL.run TBok 99 rfl ?_; (repeat with_reducible first | refine StL.nil ?_ | refine Out.then_normal ?_ | refine Out.block_normal ?_ | refine St.seq ?_ | refine St.block ?_ | refine St.skip ?_ | refine St.region ?_ | refine St.ret ?_ | refine Out.then_ret ?_ | refine Out.block_ret ?_ | refine St.exit ?_ | refine Out.then_exit ?_ | refine Out.block_exit ?_); try refine StL.run TBok 99 rfl ?_; (repeat with_reducible first | refine StL.nil ?_ | refine Out.then_normal ?_ | refine Out.block_normal ?_ | refine St.seq ?_ | refine St.block ?_ | refine St.skip ?_ | refine St.region ?_ | refine St.ret ?_ | refine Out.then_ret ?_ | refine Out.block_ret ?_ | refine St.exit ?_ | refine Out.then_exit ?_ | refine Out.block_exit ?_))
    refine St.condF rfl (by simp; omega) ?_
    ((repeat with_reducible first | refine StL.nil ?_ | refine Out.then_normal ?_ | refine Out.block_normal ?_ | refine St.seq ?_ | refine St.block ?_ | refine St.skip ?_ | refine St.region ?_ | refine St.ret ?_ | refine Out.then_ret ?_ | refine Out.block_ret ?_ | refine St.exit ?_ | refine Out.then_exit ?_ | refine Out.block_exit ?_); try refine StL.run TBok 99 rfl ?_; (repeat with_reducible first | refine StL.nil ?_ | refine Out.then_normal ?_ | refine Out.block_normal ?_ | refine St.seq ?_ | refine St.block ?_ | refine St.skip ?_ | refine St.region ?_ | refine St.ret ?_ | refine Out.then_ret ?_ | refine Out.block_ret ?_ | refine St.exit ?_ | refine Out.then_exit ?_ | refine Out.block_exit ?_); try refine StL.run TBok 99 rfl ?_; (repeat with_reducible first | refine StL.nil ?_ | refine Out.then_normal ?_ | refine Out.block_normal ?_ | refine St.seq ?_ | refine St.block ?_ | refine St.skip ?_ | refine St.region ?_ | refine St.ret ?_ | refine Out.then_ret ?_ | refine Out.block_ret ?_ | refine St.exit ?_ | refine Out.then_exit ?_ | refine Out.block_exit ?_); try refine StL.run TBok 99 rfl ?_; (repeat with_reducible first | refine StL.nil ?_ | refine Out.then_normal ?_ | refine Out.block_normal ?_ | refine St.seq ?_ | refine St.block ?_ | refine St.skip ?_ | refine St.region ?_ | refine St.ret ?_ | refine Out.then_ret ?_ | refine Out.block_ret ?_ | refine St.exit ?_ | refine Out.then_exit ?_ | refine Out.block_exit ?_); try refine StL.run TBok 99 rfl ?_; (repeat with_reducible first | refine StL.nil ?_ | refine Out.then_normal ?_ | refine Out.block_normal ?_ | refine St.seq ?_ | refine St.block ?_ | refine St.skip ?_ | refine St.region ?_ | refine St.ret ?_ | refine Out.then_ret ?_ | refine Out.block_ret ?_ | refine St.exit ?_ | refine Out.then_exit ?_ | refine Out.block_exit ?_))
    refine St.loop (fun s : Nat × Nat × List Nat => [(0, .slice (some ⟨b, off, none⟩) (m + 3) cap), (1, .slice q (m + 2) d), (5, .int .i64 ((m + 2 : Nat) : Int)), (7, .int .u64 g), (9, .int .u64 s.2.1), (135, .int .i64 ((m + 2 : Nat) : Int)), (136, .int .i64 s.1)])
      (fun s w' => Upd b w w' ∧ Blk 41 w' b (A ++ (s.2.2.map u32 ++ D)) ∧ s.2.2.length = m + 3 ∧ Lim s.2.2 ∧ s.2.2.drop s.1 = xs.drop s.1 ∧ s.2.1 ≤ 1 ∧ s.1 ≤ m + 2 ∧ val (s.2.2.take s.1) + s.2.1 * 4294967296 ^ s.1 = val (xs.take s.1) + val (vs.take s.1))
      (fun s => m + 2 - s.1) (0, 0, xs) ⟨rfl, rfl, rfl, rfl, rfl, rfl, rfl, trivial⟩ ⟨hup, hb5, hxlen, hxlim, rfl, by simp, by simp, by simp [val]⟩ ?_
    rintro ⟨i, cy, zs⟩ w6 ⟨hu6, hb6, hzl, hzlim, hdr6, hcy, hi6, heq6⟩
    dsimp only at hb6 hzl hzlim hdr6 hcy hi6 heq6 ⊢
    have hv6 := hv.upd hu6 hap
    by_cases hlt6 : i < m + 2
    · have hyi : vs[i]? = some vs[i] := by simp
      generalize vs[i] = y at hyi
      have hyl := hv.2.get hyi
      have hxi : zs[i]? = some zs[i] := by simp
      generalize zs[i] = x at hxi
      have hxl := hzlim.get hxi
      have hxu : xs[i]? = some x := by rw [← getElem?_of_drop hdr6 (Nat.le_refl _)]; exact hxi
      (repeat with_reducible first | refine StL.nil ?_ | refine Out.then_normal ?_ | refine Out.block_normal ?_ | refine St.seq ?_ | refine St.block ?_ | refine St.skip ?_ | refine St.region ?_ | refine St.ret ?_ | refine Out.then_ret ?_ | refine Out.block_ret ?_ | refine St.exit ?_ | refine Out.then_exit ?_ | refine Out.block_exit ?_)
      refine StL.as TBok 1 (.bool true) rfl (bool_true (by omega)) ?_
      (repeat with_reducible first | refine StL.nil ?_ | refine Out.then_normal ?_ | refine Out.block_normal ?_ | refine St.seq ?_ | refine St.block ?_ | refine St.skip ?_ | refine St.region ?_ | refine St.ret ?_ | refine Out.then_ret ?_ | refine Out.block_ret ?_ | refine St.exit ?_ | refine Out.then_exit ?_ | refine Out.block_exit ?_)
      refine St.condT rfl rfl ?_
      (repeat with_reducible first | refine StL.nil ?_ | refine Out.then_normal ?_ | refine Out.block_normal ?_ | refine St.seq ?_ | refine St.block ?_ | refine St.skip ?_ | refine St.region ?_ | refine St.ret ?_ | refine Out.then_ret ?_ | refine Out.block_ret ?_ | refine St.exit ?_ | refine Out.then_exit ?_ | refine Out.block_exit ?_)
      refine StL.run TBok 99 rfl ?_
      (repeat with_reducible first | refine StL.nil ?_ | refine Out.then_normal ?_ | refine Out.block_normal ?_ | refine St.seq ?_ | refine St.block ?_ | refine St.skip ?_ | refine St.region ?_ | refine St.ret ?_ | refine Out.then_ret ?_ | refine Out.block_ret ?_ | refine St.exit ?_ | refine Out.then_exit ?_ | refine Out.block_exit ?_)
      refine St.quiet TBfol (by kernel_rfl) ?_
      refine QL.run TBok 99 rfl ?_
      refine QL.elemB TBok i (u32 x) hb6 (seg_get hA hxi) rfl (by omega) rfl rfl rfl rfl rfl rfl rfl rfl rfl rfl (fun _ => rfl) ?_
      intro p13
      refine QL.run TBok 99 rfl ?_
      refine QL.elem TBok i (u32 y) hv6.1 (hv.get hyi) rfl rfl rfl rfl rfl rfl rfl rfl rfl rfl rfl (fun _ => rfl) ?_
      intro p14
      have ea : IntKind.u64.wrap ((cy : Int) + IntKind.u64.wrap (IntKind.u64.wrap (x : Int) + IntKind.u64.wrap (y : Int))) = ((cy + x + y : Nat) : Int) := by
        simp only [wrap_u64]; omega
      refine QL.as TBok 3 (.int .u64 ((cy + x + y : Nat) : Int)) rfl (by rw [ea]) ?_
      refine QL.run TBok 99 rfl ?_
      refine QL.nil fun m6 => ?_
      ((repeat with_reducible first | refine StL.nil ?_ | refine Out.then_normal ?_ | refine Out.block_normal ?_ | refine St.seq ?_ | refine St.block ?_ | refine St.skip ?_ | refine St.region ?_ | refine St.ret ?_ | refine Out.then_ret ?_ | refine Out.block_ret ?_ | refine St.exit ?_ | refine Out.then_exit ?_ | refine Out.block_exit ?_); try refine StL.run TBok 99 rfl ?_; (repeat with_reducible first | refine StL.nil ?_ | refine Out.then_normal ?_ | refine Out.block_normal ?_ | refine St.seq ?_ | refine St.block ?_ | refine St.skip ?_ | refine St.region ?_ | refine St.ret ?_ | refine Out.then_ret ?_ | refine Out.block_ret ?_ | refine St.exit ?_ | refine Out.then_exit ?_ | refine Out.block_exit ?_); try refine StL.run TBok 99 rfl ?_; (repeat with_reducible first | refine StL.nil ?_ | refine Out.then_normal ?_ | refine Out.block_normal ?_ | refine St.seq ?_ | refine St.block ?_ | refine St.skip ?_ | refine St.region ?_ | refine St.ret ?_ | refine Out.then_ret ?_ | refine Out.block_ret ?_ | refine St.exit ?_ | refine Out.then_exit ?_ | refine Out.block_exit ?_); try refine StL.run TBok 99 rfl ?_; (repeat with_reducible first | refine StL.nil ?_ | refine Out.then_normal ?_ | refine Out.block_normal ?_ | refine St.seq ?_ | refine St.block ?_ | refine St.skip ?_ | refine St.region ?_ | refine St.ret ?_ | refine Out.then_ret ?_ | refine Out.block_ret ?_ | refine St.exit ?_ | refine Out.then_exit ?_ | refine Out.block_exit ?_); try refine StL.run TBok 99 rfl ?_; (repeat with_reducible first | refine StL.nil ?_ | refine Out.then_normal ?_ | refine Out.block_normal ?_ | refine St.seq ?_ | refine St.block ?_ | refine St.skip ?_ | refine St.region ?_ | refine St.ret ?_ | refine Out.then_ret ?_ | refine Out.block_ret ?_ | refine St.exit ?_ | refine Out.then_exit ?_ | refine Out.block_exit ?_))
      have e4 : IntKind.u32.wrap ((cy + x + y : Nat) : Int) = (((cy + x + y) % 4294967296 : Nat) : Int) := by rw [wrap_u32]; omega
      refine StL.put TBok i (hb6.drewN m6) rfl (by omega) (by simp; omega) rfl rfl rfl rfl rfl rfl rfl rfl (fun _ => rfl) (fun _ => rfl) rfl rfl ?_
      intro p15 w7 hb7 hu7
      rw [e4, seg_set hA (by omega)] at hb7
      ((repeat with_reducible first | refine StL.nil ?_ | refine Out.then_normal ?_ | refine Out.block_normal ?_ | refine St.seq ?_ | refine St.block ?_ | refine St.skip ?_ | refine St.region ?_ | refine St.ret ?_ | refine Out.then_ret ?_ | refine Out.block_ret ?_ | refine St.exit ?_ | refine Out.then_exit ?_ | refine Out.block_exit ?_); try refine StL.run TBok 99 rfl ?_; (repeat with_reducible first | refine StL.nil ?_ | refine Out.then_normal ?_ | refine Out.block_normal ?_ | refine St.seq ?_ | refine St.block ?_ | refine St.skip ?_ | refine St.region ?_ | refine St.ret ?_ | refine Out.then_ret ?_ | refine Out.block_ret ?_ | refine St.exit ?_ | refine Out.then_exit ?_ | refine Out.block_exit ?_); try refine StL.run TBok 99 rfl ?_; (repeat with_reducible first | refine StL.nil ?_ | refine Out.then_normal ?_ | refine Out.block_normal ?_ | refine St.seq ?_ | refine St.block ?_ | refine St.skip ?_ | refine St.region ?_ | refine St.ret ?_ | refine Out.then_ret ?_ | refine Out.block_ret ?_ | refine St.exit ?_ | refine Out.then_exit ?_ | refine Out.block_exit ?_); try refine StL.run TBok 99 rfl ?_; (repeat with_reducible first | refine StL.nil ?_ | refine Out.then_normal ?_ | refine Out.block_normal ?_ | refine St.seq ?_ | refine St.block ?_ | refine St.skip ?_ | refine St.region ?_ | refine St.ret ?_ | refine Out.then_ret ?_ | refine Out.block_ret ?_ | refine St.exit ?_ | refine Out.then_exit ?_ | refine Out.block_exit ?_); try refine StL.run TBok 99 rfl ?_; (repeat with_reducible first | refine StL.nil ?_ | refine Out.then_normal ?_ | refine Out.block_normal ?_ | refine St.seq ?_ | refine St.block ?_ | refine St.skip ?_ | refine St.region ?_ | refine St.ret ?_ | refine Out.then_ret ?_ | refine Out.block_ret ?_ | refine St.exit ?_ | refine Out.then_exit ?_ | refine Out.block_exit ?_))
      refine Out.again (i + 1, (cy + x + y) / 4294967296, zs.set i ((cy + x + y) % 4294967296)) ⟨rfl, rfl, rfl, rfl, ?_, rfl, ?_, trivial⟩ ⟨(hu6.drewN m6).trans hu7, hb7, by simpa using hzl, hzlim.set _ (Nat.mod_lt _ (by decide)), drop_set_of hdr6, by simp only; omega, by simp only; omega, ?_⟩ (by simp only; omega)
      · show some (Value.int .u64 (((cy + x + y : Nat) : Int) / 2 ^ 32)) = some (Value.int .u64 (((cy + x + y) / 4294967296 : Nat) : Int))
        rw [show ((cy + x + y : Nat) : Int) / 2 ^ 32 = (((cy + x + y) / 4294967296 : Nat) : Int) from by omega]
      · show some (Value.int .i64 (IntKind.i64.wrap ((i : Int) + 1))) = _
        rw [i64_id (by omega) (by omega)]
        rfl
      · simp only
        rw [val_take_set (by omega), val_take_succ hxu, val_take_succ hyi, Nat.pow_succ]
        exact step_add _ _ _ _ _ _ _ _ _ heq6 (by omega)
    obtain rfl : i = m + 2 := by omega
    rw [List.take_of_length_le (show vs.length ≤ m + 2 by omega), hVd, hW] at heq6
    have hzt : zs[m + 2]? = some tp := by rw [getElem?_of_drop hdr6 (Nat.le_refl _)]; exact hxtop
    have hzS := val_lt (zs.take (m + 2)) (hzlim.take _)
    rw [show (zs.take (m + 2)).length = m + 2 from by simp; omega, hW] at hzS
    -- the carry runs over: the first limb becomes 0
    have hover : tp + cy = 4294967296 := by
      have h1 : (tp + cy) * W = tp * W + cy * W := Nat.add_mul _ _ _
      rcases Nat.lt_or_ge (tp + cy) 4294967296 with h | h
      · exfalso
        have : (tp + cy + 1) * W ≤ 4294967296 * W := Nat.mul_le_mul_right _ h
        rw [Nat.add_mul, Nat.one_mul] at this
        omega
      · omega
    (repeat with_reducible first | refine StL.nil ?_ | refine Out.then_normal ?_ | refine Out.block_normal ?_ | refine St.seq ?_ | refine St.block ?_ | refine St.skip ?_ | refine St.region ?_ | refine St.ret ?_ | refine Out.then_ret ?_ | refine Out.block_ret ?_ | refine St.exit ?_ | refine Out.then_exit ?_ | refine Out.block_exit ?_)
    refine StL.as TBok 1 (.bool false) rfl (bool_false (by omega)) ?_
    (repeat with_reducible first | refine StL.nil ?_ | refine Out.then_normal ?_ | refine Out.block_normal ?_ | refine St.seq ?_ | refine St.block ?_ | refine St.skip ?_ | refine St.region ?_ | refine St.ret ?_ | refine Out.then_ret ?_ | refine Out.block_ret ?_ | refine St.exit ?_ | refine Out.then_exit ?_ | refine Out.block_exit ?_)
    refine St.condF rfl rfl ?_
    ((repeat with_reducible first | refine StL.nil ?_ | refine Out.then_normal ?_ | refine Out.block_normal ?_ | refine St.seq ?_ | refine St.block ?_ | refine St.skip ?_ | refine St.region ?_ | refine St.ret ?_ | refine Out.then_ret ?_ | refine Out.block_ret ?_ | refine St.exit ?_ | refine Out.then_exit ?_ | refine Out.block_exit ?_); try refine StL.run TBok 99 rfl ?_; (repeat with_reducible first | refine StL.nil ?_ | refine Out.then_normal ?_ | refine Out.block_normal ?_ | refine St.seq ?_ | refine St.block ?_ | refine St.skip ?_ | refine St.region ?_ | refine St.ret ?_ | refine Out.then_ret ?_ | refine Out.block_ret ?_ | refine St.exit ?_ | refine Out.then_exit ?_ | refine Out.block_exit ?_); try refine StL.run TBok 99 rfl ?_; (repeat with_reducible first | refine StL.nil ?_ | refine Out.then_normal ?_ | refine Out.block_normal ?_ | refine St.seq ?_ | refine St.block ?_ | refine St.skip ?_ | refine St.region ?_ | refine St.ret ?_ | refine Out.then_ret ?_ | refine Out.block_ret ?_ | refine St.exit ?_ | refine Out.then_exit ?_ | refine Out.block_exit ?_); try refine StL.run TBok 99 rfl ?_; (repeat with_reducible first | refine StL.nil ?_ | refine Out.then_normal ?_ | refine Out.block_normal ?_ | refine St.seq ?_ | refine St.block ?_ | refine St.skip ?_ | refine St.region ?_ | refine St.ret ?_ | refine Out.then_ret ?_ | refine Out.block_ret ?_ | refine St.exit ?_ | refine Out.then_exit ?_ | refine Out.block_exit ?_); try refine StL.run TBok 99 rfl ?_; (repeat with_reducible first | refine StL.nil ?_ | refine Out.then_normal ?_ | refine Out.block_normal ?_ | refine St.seq ?_ | refine St.block ?_ | refine St.skip ?_ | refine St.region ?_ | refine St.ret ?_ | refine Out.then_ret ?_ | refine Out.block_ret ?_ | refine St.exit ?_ | refine Out.then_exit ?_ | refine Out.block_exit ?_))
    refine StL.elemB TBok (m + 2) (u32 tp) hb6 (seg_get hA hzt) rfl (by omega) rfl rfl rfl rfl rfl rfl rfl rfl rfl rfl (fun _ => rfl) ?_
    intro p16
    refine StL.as TBok 3 (u32 0) rfl (by simp only [wrap_u32]; congr 1; omega) ?_
    refine StL.put TBok (m + 2) hb6 rfl (by omega) (by simp; omega) rfl rfl rfl rfl rfl rfl rfl rfl (fun _ => rfl) (fun _ => rfl) rfl rfl ?_
    intro p17 w7 hb7 hu7
    rw [seg_set hA (by omega)] at hb7
    ((repeat with_reducible first | refine StL.nil ?_ | refine Out.then_normal ?_ | refine Out.block_normal ?_ | refine St.seq ?_ | refine St.block ?_ | refine St.skip ?_ | refine St.region ?_ | refine St.ret ?_ | refine Out.then_ret ?_ | refine Out.block_ret ?_ | refine St.exit ?_ | refine Out.then_exit ?_ | refine Out.block_exit ?_); try refine StL.run TBok 99 rfl ?_; (repeat with_reducible first | refine StL.nil ?_ | refine Out.then_normal ?_ | refine Out.block_normal ?_ | refine St.seq ?_ | refine St.block ?_ | refine St.skip ?_ | refine St.region ?_ | refine St.ret ?_ | refine Out.then_ret ?_ | refine Out.block_ret ?_ | refine St.exit ?_ | refine Out.then_exit ?_ | refine Out.block_exit ?_); try refine StL.run TBok 99 rfl ?_; (repeat with_reducible first | refine StL.nil ?_ | refine Out.then_normal ?_ | refine Out.block_normal ?_ | refine St.seq ?_ | refine St.block ?_ | refine St.skip ?_ | refine St.region ?_ | refine St.ret ?_ | refine Out.then_ret ?_ | refine Out.block_ret ?_ | refine St.exit ?_ | refine Out.then_exit ?_ | refine Out.block_exit ?_); try refine StL.run TBok 99 rfl ?_; (repeat with_reducible first | refine StL.nil ?_ | refine Out.then_normal ?_ | refine Out.block_normal ?_ | refine St.seq ?_ | refine St.block ?_ | refine St.skip ?_ | refine St.region ?_ | refine St.ret ?_ | refine Out.then_ret ?_ | refine Out.block_ret ?_ | refine St.exit ?_ | refine Out.then_exit ?_ | refine Out.block_exit ?_); try refine StL.run TBok 99 rfl ?_; (repeat with_reducible first | refine StL.nil ?_ | refine Out.then_normal ?_ | refine Out.block_normal ?_ | refine St.seq ?_ | refine St.block ?_ | refine St.skip ?_ | refine St.region ?_ | refine St.ret ?_ | refine Out.then_ret ?_ | refine Out.block_ret ?_ | refine St.exit ?_ | refine Out.then_exit ?_ | refine Out.block_exit ?_))
    refine Out.ret1 rfl rfl ⟨?_, hu6.trans hu7, _, by simpa using hzl, hzlim.set _ (by decide), ?_, hb7⟩
    · rw [hres.1, u64_id (by omega) (by omega), u32_id (by omega) (by omega)]
      rw [show (g : Int) - 1 = ((g - 1 : Nat) : Int) from by omega]
    · rw [hres.2]
      have hvz := val_take_set (us := zs) (k := m + 2) (by omega) 0
      rw [List.take_of_length_le (by simp; omega)] at hvz
      have h1 : (tp + cy) * W = tp * W + cy * W := Nat.add_mul _ _ _
      rw [hover] at h1
      omega
  · -- the guess was right
    have htop0 : (u0 + 8589934592 - c - bo) % 4294967296 = u0 - (c + bo) := by omega
    rw [htop0] at hvw hb5
    have hmul : (u0 - (c + bo)) * W = u0 * W - (c + bo) * W := Nat.sub_mul _ _ _
    have hle : (c + bo) * W ≤ u0 * W := Nat.mul_le_mul_right _ (by omega)
    have hUg : U = g * V + val (ws.set (m + 2) (u0 - (c + bo))) := by omega
    have hres := mod_eq_of hUg (by rw [Nat.add_mul, Nat.one_mul] at hge; omega)
    have ez : IntKind.u64.wrap ((u0 : Int) - (c : Int) - (bo : Int)) = ((u0 - (c + bo) : Nat) : Int) := by rw [u64_id (by omega) (by omega)]; omega
    rw [ez]
    ((repeat with_reducible first | refine StL.nil ?_ | refine Out.then_normal ?_ | refine Out.block_normal ?_ | refine St.seq ?_ | refine St.block ?_ | refine St.skip ?_ | refine St.region ?_ | refine St.ret ?_ | refine Out.then_ret ?_ | refine Out.block_ret ?_ | refine St.exit ?_ | refine Out.then_exit ?_ | refine Out.block_exit ?_); try refine StL.run TBok 99 rfl ?_; (repeat with_reducible first | refine StL.nil ?_ | refine Out.then_normal ?_ | refine Out.block_normal ?_ | refine St.seq ?_ | refine St.block ?_ | refine St.skip ?_ | refine St.region ?_ | refine St.ret ?_ | refine Out.then_ret ?_ | refine Out.block_ret ?_ | refine St.exit ?_ | refine Out.then_exit ?_ | refine Out.block_exit ?_); try refine StL.run TBok 99 rfl ?_; (repeat with_reducible first | refine StL.nil ?_ | refine Out.then_normal ?_ | refine Out.block_normal ?_ | refine St.seq ?_ | refine St.block ?_ | refine St.skip ?_ | refine St.region ?_ | refine St.ret ?_ | refine Out.then_ret ?_ | refine Out.block_ret ?_ | refine St.exit ?_ | refine Out.then_exit ?_ | refine Out.block_exit ?_); try refine StL.run TBok 99 rfl ?_; (repeat with_reducible first | refine StL.nil ?_ | refine Out.then_normal ?_ | refine Out.block_normal ?_ | refine St.seq ?_ | refine St.block ?_ | refine St.skip ?_ | refine St.region ?_ | refine St.ret ?_ | refine Out.then_ret ?_ | refine Out.block_ret ?_ | refine St.exit ?_ | refine Out.then_exit ?_ | refine Out.block_exit ?_); try refine StL.run TBok 99 rfl ?_; (repeat with_reducible first | refine StL.nil ?_ | refine Out.then_normal ?_ | refine Out.block_normal ?_ | refine St.seq ?_ | refine St.block ?_ | refine St.skip ?_ | refine St.region ?_ | refine St.ret ?_ | refine Out.then_ret ?_ | refine Out.block_ret ?_ | refine St.exit ?_ | refine Out.then_exit ?_ | refine Out.block_exit ?_))
    refine St.condT rfl (by simp; omega) ?_
    ((repeat with_reducible first | refine StL.nil ?_ | refine Out.then_normal ?_ | refine Out.block_normal ?_ | refine St.seq ?_ | refine St.block ?_ | refine St.skip ?_ | refine St.region ?_ | refine St.ret ?_ | refine Out.then_ret ?_ | refine Out.block_ret ?_ | refine St.exit ?_ | refine Out.then_exit ?_ | refine Out.block_exit ?_); try refine StL.run TBok 99 rfl ?_; (repeat with_reducible first | refine StL.nil ?_ | refine Out.then_normal ?_ | refine Out.block_normal ?_ | refine St.seq ?_ | refine St.block ?_ | refine St.skip ?_ | refine St.region ?_ | refine St.ret ?_ | refine Out.then_ret ?_ | refine Out.block_ret ?_ | refine St.exit ?_ | refine Out.then_exit ?_ | refine Out.block_exit ?_); try refine StL.run TBok 99 rfl ?_; (repeat with_reducible first | refine StL.nil ?_ | refine Out.then_normal ?_ | refine Out.block_normal ?_ | refine St.seq ?_ | refine St.block ?_ | refine St.skip ?_ | refine St.region ?_ | refine St.ret ?_ | refine Out.then_ret ?_ | refine Out.block_ret ?_ | refine St.exit ?_ | refine Out.then_exit ?_ | refine Out.block_exit ?_); try refine StL.run TBok 99 rfl ?_; (repeat with_reducible first | refine StL.nil ?_ | refine Out.then_normal ?_ | refine Out.block_normal ?_ | refine St.seq ?_ | refine St.block ?_ | refine St.skip ?_ | refine St.region ?_ | refine St.ret ?_ | refine Out.then_ret ?_ | refine Out.block_ret ?_ | refine St.exit ?_ | refine Out.then_exit ?_ | refine Out.block_exit ?_); try refine StL.run TBok 99 rfl ?_; (repeat with_reducible first | refine StL.nil ?_ | refine Out.then_normal ?_ | refine Out.block_normal ?_ | refine St.seq ?_ | refine St.block ?_ | refine St.skip ?_ | refine St.region ?_ | refine St.ret ?_ | refine Out.then_ret ?_ | refine Out.block_ret ?_ | refine St.exit ?_ | refine Out.then_exit ?_ | refine Out.block_exit ?_))
    refine Out.ret1 rfl rfl ⟨?_, hup, _, by simpa using hwl, hwlim.set _ (by omega), ?_, hb5⟩
    · rw [hres.1, u32_id (by omega) (by omega)]
    · rw [hres.2]

end Go.Qf
