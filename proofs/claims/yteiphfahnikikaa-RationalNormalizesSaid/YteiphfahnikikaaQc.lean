/- Lemmas on the model and on the program's functions, part Qc. -/
import Derived.Test.YteiphfahnikikaaQa
import Derived.Test.YteiphfahnikikaaQb
/- integer.divideStep: one limb of a long division. -/
namespace Go.Qf
open Go Go.RowKit Go.Proofs
set_option maxRecDepth 20000

theorem Sl.upd {w w' : World} {v : Value} {xs : List Nat} (h : Sl w v xs) {b : Nat} (hx : Upd b w w') (ha : Apart b v) : Sl w' v xs := ⟨h.1.upd hx ha, h.2⟩
theorem Upd.drewN {b : Nat} {w w' : World} (h : Upd b w w') (m : Nat) : Upd b w (w'.drewN m) := ⟨h.os, h.tape, h.output, h.size, h.block⟩

theorem val_top2 {vs : List Nat} {m v1 v2 : Nat} (h1 : vs[m + 1]? = some v1) (h2 : vs[m]? = some v2) (hl : vs.length = m + 2) : val vs = 4294967296 * (v1 * 4294967296 ^ m) + v2 * 4294967296 ^ m + val (vs.take m) := by
  have a1 := val_take_succ h1
  have a2 := val_take_succ h2
  rw [List.take_of_length_le (by omega)] at a1
  rw [a1, a2, Nat.pow_succ]
  have : v1 * (4294967296 ^ m * 4294967296) = 4294967296 * (v1 * 4294967296 ^ m) := by rw [← Nat.mul_assoc, Nat.mul_comm]
  omega

theorem val_top3 {us : List Nat} {m u0 u1 u2 : Nat} (h0 : us[m + 2]? = some u0) (h1 : us[m + 1]? = some u1) (h2 : us[m]? = some u2) (hl : us.length = m + 3) : val us = 4294967296 * ((u0 * 4294967296 + u1) * 4294967296 ^ m) + u2 * 4294967296 ^ m + val (us.take m) := by
  have a0 := val_take_succ h0
  have a1 := val_take_succ h1
  have a2 := val_take_succ h2
  rw [List.take_of_length_le (by omega)] at a0
  have p2 : (4294967296 : Nat) ^ (m + 2) = 4294967296 ^ m * 4294967296 * 4294967296 := by rw [Nat.pow_succ, Nat.pow_succ]
  rw [a0, a1, a2, p2, Nat.pow_succ, Nat.add_mul, Nat.mul_add]
  have e1 : u1 * (4294967296 ^ m * 4294967296) = 4294967296 * (u1 * 4294967296 ^ m) := by rw [← Nat.mul_assoc, Nat.mul_comm]
  have e0 : u0 * (4294967296 ^ m * 4294967296 * 4294967296) = 4294967296 * (u0 * 4294967296 * 4294967296 ^ m) := by
    rw [← Nat.mul_assoc, Nat.mul_comm _ 4294967296, Nat.mul_assoc u0, Nat.mul_comm 4294967296 (4294967296 ^ m)]
  omega

/-- The guess: what the loop keeps. -/
structure Guess (U V v1 v2 u2 high g r : Nat) : Prop where
  high : high = g * v1 + r
  enough : U < (g + 1) * V
  le : g ≤ 4294967297
  r : r < 4294967296

set_option maxHeartbeats 4000000 in
theorem divideStep_spec (w : World) (b off cap m : Nat) (A D : List Value) (us vs : List Nat) (vv : Value) (v1 : Nat) (hb : Blk 41 w b (A ++ (us.map u32 ++ D))) (hA : A.length = off) (hu : Lim us) (hv : Sl w vv vs) (hap : Apart b vv)
    (hvl : vs.length = m + 2) (hul : us.length = m + 3) (hlen : m ≤ 100000000) (htop : vs[m + 1]? = some v1) (hv1 : 2147483648 ≤ v1) (hlt : val us < val vs * 4294967296) :
    Calls Try.prog 126 #[.slice (some ⟨b, off, none⟩) (m + 3) cap, vv] w
      (Ret fun r w' => r = .int .u32 ((val us / val vs : Nat) : Int) ∧ Upd b w w' ∧ ∃ us', us'.length = m + 3 ∧ Lim us' ∧ val us' = val us % val vs ∧ Blk 41 w' b (A ++ (us'.map u32 ++ D))) := by
  obtain ⟨q, d, rfl, _⟩ := hv.form
  rw [hvl] at hv hap
  rw [hvl]
  have hv1l := hv.2.get htop
  have hv2 : vs[m]? = some vs[m] := by simp
  generalize vs[m] = v2 at hv2
  have hv2l := hv.2.get hv2
  have hu0 : us[m + 2]? = some us[m + 2] := by simp
  generalize us[m + 2] = u0 at hu0
  have hu0l := hu.get hu0
  have hu1 : us[m + 1]? = some us[m + 1] := by simp
  generalize us[m + 1] = u1 at hu1
  have hu1l := hu.get hu1
  have hu2 : us[m]? = some us[m] := by simp
  generalize us[m] = u2 at hu2
  have hu2l := hu.get hu2
  have hV := val_top2 htop hv2 hvl
  have hU := val_top3 hu0 hu1 hu2 hul
  have hvr := val_lt (vs.take m) (hv.2.take m)
  have hur := val_lt (us.take m) (hu.take m)
  rw [show (vs.take m).length = m from by simp; omega] at hvr
  rw [show (us.take m).length = m from by simp; omega] at hur
  generalize hVd : val vs = V at *
  generalize hUd : val us = U at *
  generalize hR : 4294967296 ^ m = R at *
  generalize val (vs.take m) = vr at *
  generalize val (us.take m) = ur at *
  -- the first limb of u is not above that of v
  have hu0v : u0 ≤ v1 := by
    rcases Nat.lt_or_ge v1 u0 with h | h
    · exfalso
      have h1 : (v1 + 1) * R ≤ u0 * R := Nat.mul_le_mul_right _ h
      have h2 : (u0 * 4294967296 + u1) * R = 4294967296 * (u0 * R) + u1 * R := by rw [Nat.add_mul, Nat.mul_comm u0, Nat.mul_assoc]
      have h3 : (v2 + 1) * R ≤ 4294967296 * R := Nat.mul_le_mul_right _ hv2l
      rw [Nat.add_mul, Nat.one_mul] at h1 h3
      omega
    · exact h
  generalize hh : u0 * 4294967296 + u1 = high at *
  have hhb : high < 18446744073709551616 := by omega
  have e1 : IntKind.i64.wrap (((m + 2 : Nat) : Int) - 1) = ((m + 1 : Nat) : Int) := by rw [i64_id (by omega) (by omega)]; omega
  have e2 : IntKind.i64.wrap (((m + 2 : Nat) : Int) - 2) = ((m : Nat) : Int) := by rw [i64_id (by omega) (by omega)]; omega
  have ev1 : IntKind.u64.wrap (v1 : Int) = (v1 : Int) := u64_id (by omega) (by omega)
  have hdm := Nat.div_add_mod high v1
  have hml := Nat.mod_lt high (show v1 > 0 by omega)
  have hqi : (high : Int) / (v1 : Int) = ((high / v1 : Nat) : Int) := by simp
  have hmi : (high : Int) % (v1 : Int) = ((high % v1 : Nat) : Int) := by simp
  have hg0 : high / v1 ≤ 4294967297 := by
    have : high / v1 < 4294967298 := Nat.div_lt_of_lt_mul (by omega)
    omega
  generalize high / v1 = g0 at *
  generalize high % v1 = r0 at *
  have hG0 : Guess U V v1 v2 u2 high g0 r0 := ⟨by rw [Nat.mul_comm]; exact hdm.symm, guess_first hV hU hur hu2l (by rw [Nat.mul_comm]; exact hdm.symm) hml, hg0, by omega⟩
  refine calls_of_St (args := [_, _]) Try.func126 rfl Try.ntmps126 rfl ?_
  (repeat with_reducible first|refine .nil ?_|refine .then_normal ?_|refine .block_normal ?_|refine .seq ?_|refine .block ?_|refine .skip ?_|refine .region ?_|refine .ret ?_|refine .then_ret ?_|refine .block_ret ?_|refine .exit ?_|refine .then_exit ?_|refine .block_exit ?_|refine .block_other rfl ?_)
  refine .run TBok 99 rfl ?_
  (repeat with_reducible first|refine .nil ?_|refine .then_normal ?_|refine .block_normal ?_|refine .seq ?_|refine .block ?_|refine .skip ?_|refine .region ?_|refine .ret ?_|refine .then_ret ?_|refine .block_ret ?_|refine .exit ?_|refine .then_exit ?_|refine .block_exit ?_|refine .block_other rfl ?_)
  refine .run TBok 99 rfl ?_
  (repeat with_reducible first|refine .nil ?_|refine .then_normal ?_|refine .block_normal ?_|refine .seq ?_|refine .block ?_|refine .skip ?_|refine .region ?_|refine .ret ?_|refine .then_ret ?_|refine .block_ret ?_|refine .exit ?_|refine .then_exit ?_|refine .block_exit ?_|refine .block_other rfl ?_)
  refine St.quiet TBfol (by kernel_rfl) ?_
  refine .run TBok 99 rfl ?_
  refine QL.elemB TBok (m + 2) (u32 u0) hb (seg_get hA hu0) rfl (by omega) rfl rfl rfl rfl rfl rfl rfl rfl rfl rfl (fun _ => rfl) ?_
  intro p1
  refine .run TBok 99 rfl ?_
  refine QL.elemB TBok (m + 1) (u32 u1) hb (seg_get hA hu1) e1 (by omega) rfl rfl rfl rfl rfl rfl rfl rfl rfl rfl (fun _ => rfl) ?_
  intro p2
  have eh : bitsI .or .u64 (IntKind.u64.wrap (IntKind.u64.wrap (u0 : Int) * 2 ^ 32)) (IntKind.u64.wrap (u1 : Int)) = (high : Int) := by
    rw [u64_id (n := (u0 : Int)) (by omega) (by omega), show (u0 : Int) * 2 ^ 32 = ((u0 * 4294967296 : Nat) : Int) from by rw [Int.natCast_mul]; rfl, u64_id (n := ((u0 * 4294967296 : Nat) : Int)) (Int.natCast_nonneg _) (Int.ofNat_le.2 (Nat.le_of_lt_succ (mul_B_lt hu0l))), u64_id (n := (u1 : Int)) (by omega) (by omega), or_u64 _ _ (mul_B_lt hu0l) (by omega), Nat.or_comm, or_low32 _ _ hu1l, Nat.add_comm, hh]
  refine QL.as TBok 2 (.int .u64 (high : Int)) rfl (by rw [eh]) ?_
  refine .run TBok 99 rfl ?_
  refine QL.nil fun m1 => ?_
  (repeat with_reducible first|refine .nil ?_|refine .then_normal ?_|refine .block_normal ?_|refine .seq ?_|refine .block ?_|refine .skip ?_|refine .region ?_|refine .ret ?_|refine .then_ret ?_|refine .block_ret ?_|refine .exit ?_|refine .then_exit ?_|refine .block_exit ?_|refine .block_other rfl ?_)
  refine St.quiet TBfol (by kernel_rfl) ?_
  refine .run TBok 99 rfl ?_
  refine QL.elem TBok (m + 1) (u32 v1) (hv.drewN m1).1 (hv.get htop) e1 rfl rfl rfl rfl rfl rfl rfl rfl rfl rfl (fun _ => rfl) ?_
  intro p3
  refine .run TBok 99 rfl ?_
  refine QL.step rfl rfl rfl (fun _ => RunsTo.quo rfl rfl (by omega) (by rw [ev1]; omega)) ?_
  rw [ev1, hqi]
  refine .run TBok 99 rfl ?_
  refine QL.elem TBok (m + 1) (u32 v1) (hv.drewN m1).1 (hv.get htop) e1 rfl rfl rfl rfl rfl rfl rfl rfl rfl rfl (fun _ => rfl) ?_
  intro p4
  refine .run TBok 99 rfl ?_
  refine QL.step rfl rfl rfl (fun _ => RunsTo.rem rfl rfl (by omega) (by rw [ev1]; omega)) ?_
  rw [ev1, hmi, u64_id (n := (g0 : Int)) (by omega) (by omega)]
  refine .run TBok 99 rfl ?_
  refine QL.nil fun m2 => ?_
  (repeat with_reducible first | refine Out.then_normal ?_ | refine Out.block_normal ?_)
  have hx2 : Ext w ((w.drewN m1).drewN m2) := ((Ext.refl w).drewN m1).drewN m2
  refine St.cut (fun g : Nat => [(0, .slice (some ⟨b, off, none⟩) (m + 3) cap), (1, .slice q (m + 2) d), (5, .int .i64 ((m + 2 : Nat) : Int)), (7, .int .u64 g)]) (fun g w' => Ext w w' ∧ g < 4294967296 ∧ U < (g + 1) * V ∧ g * V < U + V) ?_ ?_
  · -- the loop that lowers the guess
    (repeat with_reducible first|refine .nil ?_|refine .then_normal ?_|refine .block_normal ?_|refine .seq ?_|refine .block ?_|refine .skip ?_|refine .region ?_|refine .ret ?_|refine .then_ret ?_|refine .block_ret ?_|refine .exit ?_|refine .then_exit ?_|refine .block_exit ?_|refine .block_other rfl ?_)
    refine St.loop (fun g : Nat × Nat => [(0, .slice (some ⟨b, off, none⟩) (m + 3) cap), (1, .slice q (m + 2) d), (5, .int .i64 ((m + 2 : Nat) : Int)), (7, .int .u64 g.1), (8, .int .u64 g.2)]) (fun g w' => Ext w w' ∧ Guess U V v1 v2 u2 high g.1 g.2) (fun g => g.1) (g0, r0) ⟨rfl, rfl, rfl, rfl, rfl, trivial⟩ ⟨hx2, hG0⟩ ?_
    rintro ⟨g, r⟩ w3 ⟨hx3, hG⟩
    obtain ⟨hGh, hGe, hGl, hGr⟩ := hG
    dsimp only at hGh hGe hGl hGr ⊢
    have hb3 := hb.ext hx3
    have hv3 := hv.ext hx3
    -- what one round more does
    have down : 0 < g → U < g * V → high = (g - 1) * v1 + (r + v1) ∧ U < (g - 1 + 1) * V := by
      intro hg hlt2
      obtain ⟨k, rfl⟩ : ∃ k, g = k + 1 := ⟨g - 1, by omega⟩
      rw [Nat.add_mul, Nat.one_mul] at hGh
      exact ⟨by simp only [Nat.add_sub_cancel]; omega, by simpa using hlt2⟩
    (repeat with_reducible first|refine .nil ?_|refine .then_normal ?_|refine .block_normal ?_|refine .seq ?_|refine .block ?_|refine .skip ?_|refine .region ?_|refine .ret ?_|refine .then_ret ?_|refine .block_ret ?_|refine .exit ?_|refine .then_exit ?_|refine .block_exit ?_|refine .block_other rfl ?_)
    refine St.quiet TBfol (by kernel_rfl) ?_
    by_cases hge : 4294967296 ≤ g
    · have hltg : U < g * V := Nat.lt_of_lt_of_le hlt (by rw [Nat.mul_comm]; exact Nat.mul_le_mul_right _ hge)
      obtain ⟨hd1, hd2⟩ := down (by omega) hltg
      refine QL.as TBok 3 (.bool true) rfl (by congr 1; simp; omega) ?_
      refine .run TBok 99 rfl ?_
      refine QL.nil fun m3 => ?_
      (repeat with_reducible first|refine .nil ?_|refine .then_normal ?_|refine .block_normal ?_|refine .seq ?_|refine .block ?_|refine .skip ?_|refine .region ?_|refine .ret ?_|refine .then_ret ?_|refine .block_ret ?_|refine .exit ?_|refine .then_exit ?_|refine .block_exit ?_|refine .block_other rfl ?_)
      refine St.condT rfl rfl ?_
      (iterate 6 ((repeat with_reducible first|refine .nil ?_|refine .then_normal ?_|refine .block_normal ?_|refine .seq ?_|refine .block ?_|refine .skip ?_|refine .region ?_|refine .ret ?_|refine .then_ret ?_|refine .block_ret ?_|refine .exit ?_|refine .then_exit ?_|refine .block_exit ?_|refine .block_other rfl ?_); try refine .run TBok 99 rfl ?_))
      refine StL.elem TBok (m + 1) (u32 v1) (hv3.drewN m3).1 (hv.get htop) e1 rfl rfl rfl rfl rfl rfl rfl rfl rfl rfl (fun _ => rfl) ?_
      intro p5
      have er : IntKind.u64.wrap ((r : Int) + IntKind.u64.wrap (v1 : Int)) = ((r + v1 : Nat) : Int) := by
        rw [ev1, u64_id (by omega) (by omega)]; rfl
      have eg : IntKind.u64.wrap ((g : Int) - 1) = ((g - 1 : Nat) : Int) := by
        rw [u64_id (by omega) (by omega)]; omega
      refine StL.as TBok 2 (.int .u64 ((r + v1 : Nat) : Int)) rfl (by rw [er]) ?_
      rw [eg]
      (iterate 6 ((repeat with_reducible first|refine .nil ?_|refine .then_normal ?_|refine .block_normal ?_|refine .seq ?_|refine .block ?_|refine .skip ?_|refine .region ?_|refine .ret ?_|refine .then_ret ?_|refine .block_ret ?_|refine .exit ?_|refine .then_exit ?_|refine .block_exit ?_|refine .block_other rfl ?_); try refine .run TBok 99 rfl ?_))
      by_cases hbr : 4294967296 ≤ r + v1
      · refine St.condT rfl (by simp; omega) ?_
        have hgB : g - 1 < 4294967296 := by
          rcases Nat.lt_or_ge (g - 1) 4294967296 with h | h
          · exact h
          · exfalso
            have : 4294967296 * v1 ≤ (g - 1) * v1 := Nat.mul_le_mul_right _ h
            omega
        refine St.exit ?_
        (repeat with_reducible refine Out.then_exit ?_)
        refine Out.block_other rfl ?_
        (repeat with_reducible refine Out.then_exit ?_)
        refine Out.block_exit (Out.met (g - 1) ⟨rfl, rfl, rfl, rfl, trivial⟩ ⟨hx3.drewN m3, hgB, hd2, ?_⟩)
        refine guess_near hV hU hvr (by omega) hgB hd1 ?_
        have h5 : (g - 1) * v2 ≤ 4294967295 * 4294967295 := Nat.mul_le_mul (by omega) (by omega)
        omega
      · refine St.condF rfl (by simp; omega) ?_
        (repeat with_reducible first|refine .nil ?_|refine .then_normal ?_|refine .block_normal ?_|refine .seq ?_|refine .block ?_|refine .skip ?_|refine .region ?_|refine .ret ?_|refine .then_ret ?_|refine .block_ret ?_|refine .exit ?_|refine .then_exit ?_|refine .block_exit ?_|refine .block_other rfl ?_)
        exact Out.again (g - 1, r + v1) ⟨rfl, rfl, rfl, rfl, rfl, trivial⟩ ⟨hx3.drewN m3, hd1, hd2, by simp only; omega, by simp only; omega⟩ (by simp only; omega)
    · have hgv : g * v2 ≤ 4294967295 * 4294967295 := Nat.mul_le_mul (by omega) (by omega)
      refine QL.as TBok 3 (.bool false) rfl (by congr 1; simp; omega) ?_
      refine .run TBok 99 rfl ?_
      refine QL.elem TBok m (u32 v2) hv3.1 (hv.get hv2) e2 rfl rfl rfl rfl rfl rfl rfl rfl rfl rfl (fun _ => rfl) ?_
      intro p5
      have egv : IntKind.u64.wrap ((g : Int) * IntKind.u64.wrap (v2 : Int)) = ((g * v2 : Nat) : Int) := by
        rw [u64_id (n := (v2 : Int)) (by omega) (by omega), show (g : Int) * (v2 : Int) = ((g * v2 : Nat) : Int) from by simp]
        generalize g * v2 = t at hgv
        exact u64_id (by omega) (by omega)
      refine QL.as TBok 2 (.int .u64 ((g * v2 : Nat) : Int)) rfl (by rw [egv]) ?_
      refine .run TBok 99 rfl ?_
      refine QL.elemB TBok m (u32 u2) hb3 (seg_get hA hu2) e2 (by omega) rfl rfl rfl rfl rfl rfl rfl rfl rfl rfl (fun _ => rfl) ?_
      intro p6
      have ero : bitsI .or .u64 (IntKind.u64.wrap ((r : Int) * 2 ^ 32)) (IntKind.u64.wrap (u2 : Int)) = ((r * 4294967296 + u2 : Nat) : Int) := by
        rw [show (r : Int) * 2 ^ 32 = ((r * 4294967296 : Nat) : Int) from by rw [Int.natCast_mul]; rfl, u64_id (n := ((r * 4294967296 : Nat) : Int)) (Int.natCast_nonneg _) (Int.ofNat_le.2 (Nat.le_of_lt_succ (mul_B_lt hGr))), u64_id (n := (u2 : Int)) (by omega) (by omega), or_u64 _ _ (mul_B_lt hGr) (by omega), Nat.or_comm, or_low32 _ _ hu2l, Nat.add_comm]
      refine QL.as TBok 2 (.int .u64 ((r * 4294967296 + u2 : Nat) : Int)) rfl (by rw [ero]) ?_
      by_cases htest : r * 4294967296 + u2 < g * v2
      · have hltg := guess_less hV hU hur hGh htest
        have hgpos : 0 < g := by
          rcases Nat.eq_zero_or_pos g with h | h
          · subst h; simp at htest
          · exact h
        obtain ⟨hd1, hd2⟩ := down hgpos hltg
        refine QL.as TBok 1 (.bool true) rfl (bool_true (Int.ofNat_lt.2 htest)) ?_
        refine .run TBok 99 rfl ?_
        refine QL.nil fun m3 => ?_
        (repeat with_reducible first|refine .nil ?_|refine .then_normal ?_|refine .block_normal ?_|refine .seq ?_|refine .block ?_|refine .skip ?_|refine .region ?_|refine .ret ?_|refine .then_ret ?_|refine .block_ret ?_|refine .exit ?_|refine .then_exit ?_|refine .block_exit ?_|refine .block_other rfl ?_)
        refine St.condT rfl rfl ?_
        (iterate 6 ((repeat with_reducible first|refine .nil ?_|refine .then_normal ?_|refine .block_normal ?_|refine .seq ?_|refine .block ?_|refine .skip ?_|refine .region ?_|refine .ret ?_|refine .then_ret ?_|refine .block_ret ?_|refine .exit ?_|refine .then_exit ?_|refine .block_exit ?_|refine .block_other rfl ?_); try refine .run TBok 99 rfl ?_))
        refine StL.elem TBok (m + 1) (u32 v1) (hv3.drewN m3).1 (hv.get htop) e1 rfl rfl rfl rfl rfl rfl rfl rfl rfl rfl (fun _ => rfl) ?_
        intro p7
        have er : IntKind.u64.wrap ((r : Int) + IntKind.u64.wrap (v1 : Int)) = ((r + v1 : Nat) : Int) := by
          rw [ev1, u64_id (by omega) (by omega)]; rfl
        have eg : IntKind.u64.wrap ((g : Int) - 1) = ((g - 1 : Nat) : Int) := by
          rw [u64_id (by omega) (by omega)]; omega
        refine StL.as TBok 2 (.int .u64 ((r + v1 : Nat) : Int)) rfl (by rw [er]) ?_
        rw [eg]
        (iterate 6 ((repeat with_reducible first|refine .nil ?_|refine .then_normal ?_|refine .block_normal ?_|refine .seq ?_|refine .block ?_|refine .skip ?_|refine .region ?_|refine .ret ?_|refine .then_ret ?_|refine .block_ret ?_|refine .exit ?_|refine .then_exit ?_|refine .block_exit ?_|refine .block_other rfl ?_); try refine .run TBok 99 rfl ?_))
        by_cases hbr : 4294967296 ≤ r + v1
        · refine St.condT rfl (by simp; omega) ?_
          refine St.exit ?_
          (repeat with_reducible refine Out.then_exit ?_)
          refine Out.block_other rfl ?_
          (repeat with_reducible refine Out.then_exit ?_)
          refine Out.block_exit (Out.met (g - 1) ⟨rfl, rfl, rfl, rfl, trivial⟩ ⟨hx3.drewN m3, by omega, hd2, ?_⟩)
          refine guess_near hV hU hvr (by omega) (by omega) hd1 ?_
          have h5 : (g - 1) * v2 ≤ 4294967295 * 4294967295 := Nat.mul_le_mul (by omega) (by omega)
          omega
        · refine St.condF rfl (by simp; omega) ?_
          (repeat with_reducible first|refine .nil ?_|refine .then_normal ?_|refine .block_normal ?_|refine .seq ?_|refine .block ?_|refine .skip ?_|refine .region ?_|refine .ret ?_|refine .then_ret ?_|refine .block_ret ?_|refine .exit ?_|refine .then_exit ?_|refine .block_exit ?_|refine .block_other rfl ?_)
          exact Out.again (g - 1, r + v1) ⟨rfl, rfl, rfl, rfl, rfl, trivial⟩ ⟨hx3.drewN m3, hd1, hd2, by simp only; omega, by simp only; omega⟩ (by simp only; omega)
      · refine QL.as TBok 1 (.bool false) rfl (bool_false (fun h => htest (Int.ofNat_lt.1 h))) ?_
        refine .run TBok 99 rfl ?_
        refine QL.nil fun m3 => ?_
        (repeat with_reducible first|refine .nil ?_|refine .then_normal ?_|refine .block_normal ?_|refine .seq ?_|refine .block ?_|refine .skip ?_|refine .region ?_|refine .ret ?_|refine .then_ret ?_|refine .block_ret ?_|refine .exit ?_|refine .then_exit ?_|refine .block_exit ?_|refine .block_other rfl ?_)
        refine St.condF rfl rfl ?_
        refine St.exit (Out.then_exit (Out.then_exit (Out.block_exit (Out.met g ⟨rfl, rfl, rfl, rfl, trivial⟩ ⟨hx3.drewN m3, by omega, hGe, ?_⟩))))
        exact guess_near hV hU hvr (by omega) (by omega) hGh (by omega)
  rintro g w3 ⟨hx3, hgB, hge, hgn⟩
  have hb3 := hb.ext hx3
  have hu3 : Upd b w w3 := hx3.upd b
  clear hG0 hg0 hdm hml hqi hmi hx2 eh
  (iterate 6 ((repeat with_reducible first|refine .nil ?_|refine .then_normal ?_|refine .block_normal ?_|refine .seq ?_|refine .block ?_|refine .skip ?_|refine .region ?_|refine .ret ?_|refine .then_ret ?_|refine .block_ret ?_|refine .exit ?_|refine .then_exit ?_|refine .block_exit ?_|refine .block_other rfl ?_); try refine .run TBok 99 rfl ?_))
  refine St.loop (fun s : Nat × Nat × Nat × List Nat => [(0, .slice (some ⟨b, off, none⟩) (m + 3) cap), (1, .slice q (m + 2) d), (5, .int .i64 ((m + 2 : Nat) : Int)), (7, .int .u64 g), (9, .int .u64 s.2.1), (10, .int .u64 s.2.2.1), (82, .int .i64 ((m + 2 : Nat) : Int)), (83, .int .i64 s.1)])
    (fun s w' => Upd b w w' ∧ Blk 41 w' b (A ++ (s.2.2.2.map u32 ++ D)) ∧ s.2.2.2.length = m + 3 ∧ Lim s.2.2.2 ∧ s.2.2.2.drop s.1 = us.drop s.1 ∧ s.2.1 < 4294967296 ∧ s.2.2.1 ≤ 1 ∧ s.1 ≤ m + 2 ∧ val (s.2.2.2.take s.1) + g * val (vs.take s.1) = val (us.take s.1) + (s.2.1 + s.2.2.1) * 4294967296 ^ s.1)
    (fun s => m + 2 - s.1) (0, 0, 0, us) ⟨rfl, rfl, rfl, rfl, rfl, rfl, rfl, rfl, trivial⟩ ⟨hu3, hb3, hul, hu, rfl, by simp, by simp, by simp, by simp [val]⟩ ?_
  rintro ⟨i, c, bo, ws⟩ w4 ⟨hu4, hb4, hwl, hwlim, hdr, hc, hbo, hi, heq⟩
  dsimp only at hb4 hwl hwlim hdr hc hbo hi heq ⊢
  have hv4 := hv.upd hu4 hap
  by_cases hlt4 : i < m + 2
  · have hyi : vs[i]? = some vs[i] := by simp
    generalize vs[i] = y at hyi
    have hyl := hv.2.get hyi
    have hxi : ws[i]? = some ws[i] := by simp
    generalize ws[i] = x at hxi
    have hxl := hwlim.get hxi
    have hxu : us[i]? = some x := by rw [← getElem?_of_drop hdr (Nat.le_refl _)]; exact hxi
    have hbd := mul_bound hc hgB hyl (show (0 : Nat) < 4294967296 by decide)
    rw [Nat.add_zero] at hbd
    (repeat with_reducible first|refine .nil ?_|refine .then_normal ?_|refine .block_normal ?_|refine .seq ?_|refine .block ?_|refine .skip ?_|refine .region ?_|refine .ret ?_|refine .then_ret ?_|refine .block_ret ?_|refine .exit ?_|refine .then_exit ?_|refine .block_exit ?_|refine .block_other rfl ?_)
    refine StL.as TBok 1 (.bool true) rfl (bool_true (by omega)) ?_
    (repeat with_reducible first|refine .nil ?_|refine .then_normal ?_|refine .block_normal ?_|refine .seq ?_|refine .block ?_|refine .skip ?_|refine .region ?_|refine .ret ?_|refine .then_ret ?_|refine .block_ret ?_|refine .exit ?_|refine .then_exit ?_|refine .block_exit ?_|refine .block_other rfl ?_)
    refine St.condT rfl rfl ?_
    (iterate 6 ((repeat with_reducible first|refine .nil ?_|refine .then_normal ?_|refine .block_normal ?_|refine .seq ?_|refine .block ?_|refine .skip ?_|refine .region ?_|refine .ret ?_|refine .then_ret ?_|refine .block_ret ?_|refine .exit ?_|refine .then_exit ?_|refine .block_exit ?_|refine .block_other rfl ?_); try refine .run TBok 99 rfl ?_))
    refine StL.elem TBok i (u32 y) hv4.1 (hv.get hyi) rfl rfl rfl rfl rfl rfl rfl rfl rfl rfl rfl (fun _ => rfl) ?_
    intro p8
    have ec : IntKind.u64.wrap ((c : Int) + IntKind.u64.wrap ((g : Int) * IntKind.u64.wrap (y : Int))) = ((c + g * y : Nat) : Int) := by
      rw [u64_id (n := (y : Int)) (by omega) (by omega), show (g : Int) * (y : Int) = ((g * y : Nat) : Int) from by simp]
      generalize g * y = t at hbd
      rw [u64_id (n := (t : Int)) (by omega) (by omega), u64_id (by omega) (by omega)]; rfl
    refine StL.as TBok 3 (.int .u64 ((c + g * y : Nat) : Int)) rfl (by rw [ec]) ?_
    have hstep := mulsub_step (val (ws.take i)) (val (us.take i)) (val (vs.take i)) (4294967296 ^ i) g c bo x y ((x + 8589934592 - (c + g * y) % 4294967296 - bo) % 4294967296) ((c + g * y) % 4294967296) ((c + g * y) / 4294967296) (if x < (c + g * y) % 4294967296 + bo then 1 else 0) heq (by omega) (by split <;> omega)
    generalize c + g * y = T at *
    (iterate 6 ((repeat with_reducible first|refine .nil ?_|refine .then_normal ?_|refine .block_normal ?_|refine .seq ?_|refine .block ?_|refine .skip ?_|refine .region ?_|refine .ret ?_|refine .then_ret ?_|refine .block_ret ?_|refine .exit ?_|refine .then_exit ?_|refine .block_exit ?_|refine .block_other rfl ?_); try refine .run TBok 99 rfl ?_))
    refine StL.elemB TBok i (u32 x) hb4 (seg_get hA hxi) rfl (by omega) rfl rfl rfl rfl rfl rfl rfl rfl rfl rfl (fun _ => rfl) ?_
    intro p9
    have et : IntKind.u64.wrap (IntKind.u64.wrap (IntKind.u64.wrap (x : Int) - IntKind.u64.wrap (IntKind.u32.wrap (T : Int))) - (bo : Int)) = IntKind.u64.wrap ((x : Int) - ((T % 4294967296 : Nat) : Int) - (bo : Int)) := by
      simp only [wrap_u64, wrap_u32]; omega
    refine StL.as TBok 7 (.int .u64 (IntKind.u64.wrap ((x : Int) - ((T % 4294967296 : Nat) : Int) - (bo : Int)))) rfl (by rw [et]) ?_
    have hlo : T % 4294967296 < 4294967296 := Nat.mod_lt _ (by decide)
    generalize T % 4294967296 = lo at *
    (iterate 6 ((repeat with_reducible first|refine .nil ?_|refine .then_normal ?_|refine .block_normal ?_|refine .seq ?_|refine .block ?_|refine .skip ?_|refine .region ?_|refine .ret ?_|refine .then_ret ?_|refine .block_ret ?_|refine .exit ?_|refine .then_exit ?_|refine .block_exit ?_|refine .block_other rfl ?_); try refine .run TBok 99 rfl ?_))
    have e3 : IntKind.u32.wrap (IntKind.u64.wrap ((x : Int) - (lo : Int) - (bo : Int))) = (((x + 8589934592 - lo - bo) % 4294967296 : Nat) : Int) := by
      simp only [wrap_u32, wrap_u64]; omega
    refine StL.put TBok i hb4 rfl (by omega) (by simp; omega) rfl rfl rfl rfl rfl rfl rfl rfl (fun _ => rfl) (fun _ => rfl) rfl rfl ?_
    intro p10 w5 hb5 hu5
    rw [e3, seg_set hA (by omega)] at hb5
    (iterate 6 ((repeat with_reducible first|refine .nil ?_|refine .then_normal ?_|refine .block_normal ?_|refine .seq ?_|refine .block ?_|refine .skip ?_|refine .region ?_|refine .ret ?_|refine .then_ret ?_|refine .block_ret ?_|refine .exit ?_|refine .then_exit ?_|refine .block_exit ?_|refine .block_other rfl ?_); try refine .run TBok 99 rfl ?_))
    refine Out.again (i + 1, T / 4294967296, (if x < lo + bo then 1 else 0), ws.set i ((x + 8589934592 - lo - bo) % 4294967296)) ⟨rfl, rfl, rfl, rfl, ?_, ?_, rfl, ?_, trivial⟩ ⟨hu4.trans hu5, hb5, by simpa using hwl, hwlim.set _ (Nat.mod_lt _ (by decide)), drop_set_of hdr, by simp only; omega, by simp only; split <;> omega, by simp only; omega, ?_⟩ (by simp only; omega)
    · show some (Value.int .u64 ((T : Int) / 2 ^ 32)) = some (Value.int .u64 ((T / 4294967296 : Nat) : Int))
      rw [show (T : Int) / 2 ^ 32 = ((T / 4294967296 : Nat) : Int) from by omega]
    · show some (Value.int .u64 (IntKind.u64.wrap ((x : Int) - (lo : Int) - (bo : Int)) / 2 ^ 63)) = some (Value.int .u64 ((if x < lo + bo then 1 else 0 : Nat) : Int))
      congr 2
      rw [wrap_u64]
      split <;> omega
    · show some (Value.int .i64 (IntKind.i64.wrap ((i : Int) + 1))) = _
      rw [i64_id (by omega) (by omega)]
      rfl
    · simp only
      rw [val_take_set (by omega), val_take_succ hxu, val_take_succ hyi, Nat.pow_succ]
      exact hstep
  obtain rfl : i = m + 2 := by omega
  clear hlt4 hi
  rw [List.take_of_length_le (show vs.length ≤ m + 2 by omega), hVd] at heq
  have hx0 : ws[m + 2]? = some u0 := by rw [getElem?_of_drop hdr (Nat.le_refl _)]; exact hu0
  have hUs := val_take_succ hu0
  rw [List.take_of_length_le (by omega), hUd] at hUs
  (repeat with_reducible first|refine .nil ?_|refine .then_normal ?_|refine .block_normal ?_|refine .seq ?_|refine .block ?_|refine .skip ?_|refine .region ?_|refine .ret ?_|refine .then_ret ?_|refine .block_ret ?_|refine .exit ?_|refine .then_exit ?_|refine .block_exit ?_|refine .block_other rfl ?_)
  refine StL.as TBok 1 (.bool false) rfl (bool_false (by omega)) ?_
  (repeat with_reducible first|refine .nil ?_|refine .then_normal ?_|refine .block_normal ?_|refine .seq ?_|refine .block ?_|refine .skip ?_|refine .region ?_|refine .ret ?_|refine .then_ret ?_|refine .block_ret ?_|refine .exit ?_|refine .then_exit ?_|refine .block_exit ?_|refine .block_other rfl ?_)
  refine St.condF rfl rfl ?_
  (iterate 6 ((repeat with_reducible first|refine .nil ?_|refine .then_normal ?_|refine .block_normal ?_|refine .seq ?_|refine .block ?_|refine .skip ?_|refine .region ?_|refine .ret ?_|refine .then_ret ?_|refine .block_ret ?_|refine .exit ?_|refine .then_exit ?_|refine .block_exit ?_|refine .block_other rfl ?_); try refine .run TBok 99 rfl ?_))
  refine StL.elemB TBok (m + 2) (u32 u0) hb4 (seg_get hA hx0) rfl (by omega) rfl rfl rfl rfl rfl rfl rfl rfl rfl rfl (fun _ => rfl) ?_
  intro p11
  have et : IntKind.u64.wrap (IntKind.u64.wrap (IntKind.u64.wrap (u0 : Int) - (c : Int)) - (bo : Int)) = IntKind.u64.wrap ((u0 : Int) - (c : Int) - (bo : Int)) := by
    simp only [wrap_u64]; omega
  refine StL.as TBok 5 (.int .u64 (IntKind.u64.wrap ((u0 : Int) - (c : Int) - (bo : Int)))) rfl (by rw [et]) ?_
  (iterate 6 ((repeat with_reducible first|refine .nil ?_|refine .then_normal ?_|refine .block_normal ?_|refine .seq ?_|refine .block ?_|refine .skip ?_|refine .region ?_|refine .ret ?_|refine .then_ret ?_|refine .block_ret ?_|refine .exit ?_|refine .then_exit ?_|refine .block_exit ?_|refine .block_other rfl ?_); try refine .run TBok 99 rfl ?_))
  have e3 : IntKind.u32.wrap (IntKind.u64.wrap ((u0 : Int) - (c : Int) - (bo : Int))) = (((u0 + 8589934592 - c - bo) % 4294967296 : Nat) : Int) := by
    simp only [wrap_u32, wrap_u64]; omega
  refine StL.put TBok (m + 2) hb4 rfl (by omega) (by simp; omega) rfl rfl rfl rfl rfl rfl rfl rfl (fun _ => rfl) (fun _ => rfl) rfl rfl ?_
  intro p12 w5 hb5 hu5
  rw [e3, seg_set hA (by omega)] at hb5
  have hup := hu4.trans hu5
  have hvw := val_take_set (us := ws) (k := m + 2) (by omega) ((u0 + 8589934592 - c - bo) % 4294967296)
  rw [List.take_of_length_le (by simp; omega)] at hvw
  have hS := val_lt (ws.take (m + 2)) (hwlim.take _)
  rw [show (ws.take (m + 2)).length = m + 2 from by simp; omega] at hS
  generalize hW : 4294967296 ^ (m + 2) = W at *
  generalize hSd : val (ws.take (m + 2)) = S at *
  generalize val (us.take (m + 2)) = Un at *
  by_cases hneg : u0 < c + bo
  · -- the guess was too great by 1
    have htop0 : (u0 + 8589934592 - c - bo) % 4294967296 = u0 + 4294967296 - (c + bo) := by omega
    rw [htop0] at hvw hb5
    obtain ⟨hgpos, hge1, hrest, hM⟩ := addback heq hUs hvw hneg (by omega) hgn hS
    have hUg : U = (g - 1) * V + (U - (g - 1) * V) := by omega
    have hres := mod_eq_of hUg hrest
    generalize hwd : ws.set (m + 2) (u0 + 4294967296 - (c + bo)) = xs at *
    have hxlen : xs.length = m + 3 := by rw [← hwd]; simpa using hwl
    have hxlim : Lim xs := by rw [← hwd]; exact hwlim.set _ (by omega)
    have hxtop : xs[m + 2]? = some (u0 + 4294967296 - (c + bo)) := by rw [← hwd]; exact List.getElem?_set_self (by omega)
    have hxval := val_take_succ hxtop
    rw [List.take_of_length_le (by omega), hW] at hxval
    generalize hpd : u0 + 4294967296 - (c + bo) = tp at *
    have ez : IntKind.u64.wrap ((u0 : Int) - (c : Int) - (bo : Int)) = ((18446744073709551616 + u0 - (c + bo) : Nat) : Int) := by
      rw [wrap_u64]; omega
    rw [ez]
    (iterate 6 ((repeat with_reducible first|refine .nil ?_|refine .then_normal ?_|refine .block_normal ?_|refine .seq ?_|refine .block ?_|refine .skip ?_|refine .region ?_|refine .ret ?_|refine .then_ret ?_|refine .block_ret ?_|refine .exit ?_|refine .then_exit ?_|refine .block_exit ?_|refine .block_other rfl ?_); try refine .run TBok 99 rfl ?_))
    refine St.condF rfl (by simp; omega) ?_
    (iterate 6 ((repeat with_reducible first|refine .nil ?_|refine .then_normal ?_|refine .block_normal ?_|refine .seq ?_|refine .block ?_|refine .skip ?_|refine .region ?_|refine .ret ?_|refine .then_ret ?_|refine .block_ret ?_|refine .exit ?_|refine .then_exit ?_|refine .block_exit ?_|refine .block_other rfl ?_); try refine .run TBok 99 rfl ?_))
    refine St.loop (fun s : Nat × Nat × List Nat => [(0, .slice (some ⟨b, off, none⟩) (m + 3) cap), (1, .slice q (m + 2) d), (5, .int .i64 ((m + 2 : Nat) : Int)), (7, .int .u64 g), (9, .int .u64 s.2.1), (135, .int .i64 ((m + 2 : Nat) : Int)), (136, .int .i64 s.1)])
      (fun s w' => Upd b w w' ∧ Blk 41 w' b (A ++ (s.2.2.map u32 ++ D)) ∧ s.2.2.length = m + 3 ∧ Lim s.2.2 ∧ s.2.2.drop s.1 = xs.drop s.1 ∧ s.2.1 ≤ 1 ∧ s.1 ≤ m + 2 ∧ val (s.2.2.take s.1) + s.2.1 * 4294967296 ^ s.1 = val (xs.take s.1) + val (vs.take s.1))
      (fun s => m + 2 - s.1) (0, 0, xs) ⟨rfl, rfl, rfl, rfl, rfl, rfl, rfl, trivial⟩ ⟨hup, hb5, hxlen, hxlim, rfl, by simp, by simp, by simp [val]⟩ ?_
    rintro ⟨i, cy, zs⟩ w6 ⟨hu6, hb6, hzl, hzlim, hdr6, hcy, hi6, heq6⟩
    dsimp only at hb6 hzl hzlim hdr6 hcy hi6 heq6 ⊢
    have hv6 := hv.upd hu6 hap
    by_cases hlt6 : i < m + 2
    · have hyi : vs[i]? = some vs[i] := by simp
      generalize vs[i] = y at hyi
      have hyl := hv.2.get hyi
      have hxi : zs[i]? = some zs[i] := by simp
      generalize zs[i] = x at hxi
      have hxl := hzlim.get hxi
      have hxu : xs[i]? = some x := by rw [← getElem?_of_drop hdr6 (Nat.le_refl _)]; exact hxi
      (repeat with_reducible first|refine .nil ?_|refine .then_normal ?_|refine .block_normal ?_|refine .seq ?_|refine .block ?_|refine .skip ?_|refine .region ?_|refine .ret ?_|refine .then_ret ?_|refine .block_ret ?_|refine .exit ?_|refine .then_exit ?_|refine .block_exit ?_|refine .block_other rfl ?_)
      refine StL.as TBok 1 (.bool true) rfl (bool_true (by omega)) ?_
      (repeat with_reducible first|refine .nil ?_|refine .then_normal ?_|refine .block_normal ?_|refine .seq ?_|refine .block ?_|refine .skip ?_|refine .region ?_|refine .ret ?_|refine .then_ret ?_|refine .block_ret ?_|refine .exit ?_|refine .then_exit ?_|refine .block_exit ?_|refine .block_other rfl ?_)
      refine St.condT rfl rfl ?_
      (repeat with_reducible first|refine .nil ?_|refine .then_normal ?_|refine .block_normal ?_|refine .seq ?_|refine .block ?_|refine .skip ?_|refine .region ?_|refine .ret ?_|refine .then_ret ?_|refine .block_ret ?_|refine .exit ?_|refine .then_exit ?_|refine .block_exit ?_|refine .block_other rfl ?_)
      refine .run TBok 99 rfl ?_
      (repeat with_reducible first|refine .nil ?_|refine .then_normal ?_|refine .block_normal ?_|refine .seq ?_|refine .block ?_|refine .skip ?_|refine .region ?_|refine .ret ?_|refine .then_ret ?_|refine .block_ret ?_|refine .exit ?_|refine .then_exit ?_|refine .block_exit ?_|refine .block_other rfl ?_)
      refine St.quiet TBfol (by kernel_rfl) ?_
      refine .run TBok 99 rfl ?_
      refine QL.elemB TBok i (u32 x) hb6 (seg_get hA hxi) rfl (by omega) rfl rfl rfl rfl rfl rfl rfl rfl rfl rfl (fun _ => rfl) ?_
      intro p13
      refine .run TBok 99 rfl ?_
      refine QL.elem TBok i (u32 y) hv6.1 (hv.get hyi) rfl rfl rfl rfl rfl rfl rfl rfl rfl rfl rfl (fun _ => rfl) ?_
      intro p14
      have ea : IntKind.u64.wrap ((cy : Int) + IntKind.u64.wrap (IntKind.u64.wrap (x : Int) + IntKind.u64.wrap (y : Int))) = ((cy + x + y : Nat) : Int) := by
        simp only [wrap_u64]; omega
      refine QL.as TBok 3 (.int .u64 ((cy + x + y : Nat) : Int)) rfl (by rw [ea]) ?_
      refine .run TBok 99 rfl ?_
      refine QL.nil fun m6 => ?_
      (iterate 6 ((repeat with_reducible first|refine .nil ?_|refine .then_normal ?_|refine .block_normal ?_|refine .seq ?_|refine .block ?_|refine .skip ?_|refine .region ?_|refine .ret ?_|refine .then_ret ?_|refine .block_ret ?_|refine .exit ?_|refine .then_exit ?_|refine .block_exit ?_|refine .block_other rfl ?_); try refine .run TBok 99 rfl ?_))
      have e4 : IntKind.u32.wrap ((cy + x + y : Nat) : Int) = (((cy + x + y) % 4294967296 : Nat) : Int) := by rw [wrap_u32]; omega
      refine StL.put TBok i (hb6.drewN m6) rfl (by omega) (by simp; omega) rfl rfl rfl rfl rfl rfl rfl rfl (fun _ => rfl) (fun _ => rfl) rfl rfl ?_
      intro p15 w7 hb7 hu7
      rw [e4, seg_set hA (by omega)] at hb7
      (iterate 6 ((repeat with_reducible first|refine .nil ?_|refine .then_normal ?_|refine .block_normal ?_|refine .seq ?_|refine .block ?_|refine .skip ?_|refine .region ?_|refine .ret ?_|refine .then_ret ?_|refine .block_ret ?_|refine .exit ?_|refine .then_exit ?_|refine .block_exit ?_|refine .block_other rfl ?_); try refine .run TBok 99 rfl ?_))
      refine Out.again (i + 1, (cy + x + y) / 4294967296, zs.set i ((cy + x + y) % 4294967296)) ⟨rfl, rfl, rfl, rfl, ?_, rfl, ?_, trivial⟩ ⟨(hu6.drewN m6).trans hu7, hb7, by simpa using hzl, hzlim.set _ (Nat.mod_lt _ (by decide)), drop_set_of hdr6, by simp only; omega, by simp only; omega, ?_⟩ (by simp only; omega)
      · show some (Value.int .u64 (((cy + x + y : Nat) : Int) / 2 ^ 32)) = some (Value.int .u64 (((cy + x + y) / 4294967296 : Nat) : Int))
        rw [show ((cy + x + y : Nat) : Int) / 2 ^ 32 = (((cy + x + y) / 4294967296 : Nat) : Int) from by omega]
      · show some (Value.int .i64 (IntKind.i64.wrap ((i : Int) + 1))) = _
        rw [i64_id (by omega) (by omega)]
        rfl
      · simp only
        rw [val_take_set (by omega), val_take_succ hxu, val_take_succ hyi, Nat.pow_succ]
        exact step_add _ _ _ _ _ _ _ _ _ heq6 (by omega)
    obtain rfl : i = m + 2 := by omega
    rw [List.take_of_length_le (show vs.length ≤ m + 2 by omega), hVd, hW] at heq6
    have hzt : zs[m + 2]? = some tp := by rw [getElem?_of_drop hdr6 (Nat.le_refl _)]; exact hxtop
    have hzS := val_lt (zs.take (m + 2)) (hzlim.take _)
    rw [show (zs.take (m + 2)).length = m + 2 from by simp; omega, hW] at hzS
    -- the carry runs over: the first limb becomes 0
    have hover : tp + cy = 4294967296 := by
      have h1 : (tp + cy) * W = tp * W + cy * W := Nat.add_mul _ _ _
      rcases Nat.lt_or_ge (tp + cy) 4294967296 with h | h
      · exfalso
        have : (tp + cy + 1) * W ≤ 4294967296 * W := Nat.mul_le_mul_right _ h
        rw [Nat.add_mul, Nat.one_mul] at this
        omega
      · omega
    (repeat with_reducible first|refine .nil ?_|refine .then_normal ?_|refine .block_normal ?_|refine .seq ?_|refine .block ?_|refine .skip ?_|refine .region ?_|refine .ret ?_|refine .then_ret ?_|refine .block_ret ?_|refine .exit ?_|refine .then_exit ?_|refine .block_exit ?_|refine .block_other rfl ?_)
    refine StL.as TBok 1 (.bool false) rfl (bool_false (by omega)) ?_
    (repeat with_reducible first|refine .nil ?_|refine .then_normal ?_|refine .block_normal ?_|refine .seq ?_|refine .block ?_|refine .skip ?_|refine .region ?_|refine .ret ?_|refine .then_ret ?_|refine .block_ret ?_|refine .exit ?_|refine .then_exit ?_|refine .block_exit ?_|refine .block_other rfl ?_)
    refine St.condF rfl rfl ?_
    (iterate 6 ((repeat with_reducible first|refine .nil ?_|refine .then_normal ?_|refine .block_normal ?_|refine .seq ?_|refine .block ?_|refine .skip ?_|refine .region ?_|refine .ret ?_|refine .then_ret ?_|refine .block_ret ?_|refine .exit ?_|refine .then_exit ?_|refine .block_exit ?_|refine .block_other rfl ?_); try refine .run TBok 99 rfl ?_))
    refine StL.elemB TBok (m + 2) (u32 tp) hb6 (seg_get hA hzt) rfl (by omega) rfl rfl rfl rfl rfl rfl rfl rfl rfl rfl (fun _ => rfl) ?_
    intro p16
    refine StL.as TBok 3 (u32 0) rfl (by simp only [wrap_u32]; congr 1; omega) ?_
    refine StL.put TBok (m + 2) hb6 rfl (by omega) (by simp; omega) rfl rfl rfl rfl rfl rfl rfl rfl (fun _ => rfl) (fun _ => rfl) rfl rfl ?_
    intro p17 w7 hb7 hu7
    rw [seg_set hA (by omega)] at hb7
    (iterate 6 ((repeat with_reducible first|refine .nil ?_|refine .then_normal ?_|refine .block_normal ?_|refine .seq ?_|refine .block ?_|refine .skip ?_|refine .region ?_|refine .ret ?_|refine .then_ret ?_|refine .block_ret ?_|refine .exit ?_|refine .then_exit ?_|refine .block_exit ?_|refine .block_other rfl ?_); try refine .run TBok 99 rfl ?_))
    refine Out.ret1 rfl rfl ⟨?_, hu6.trans hu7, _, by simpa using hzl, hzlim.set _ (by decide), ?_, hb7⟩
    · rw [hres.1, u64_id (by omega) (by omega), u32_id (by omega) (by omega)]
      rw [show (g : Int) - 1 = ((g - 1 : Nat) : Int) from by omega]
    · rw [hres.2]
      have hvz := val_take_set (us := zs) (k := m + 2) (by omega) 0
      rw [List.take_of_length_le (by simp; omega)] at hvz
      have h1 : (tp + cy) * W = tp * W + cy * W := Nat.add_mul _ _ _
      rw [hover] at h1
      omega
  · -- the guess was right
    have htop0 : (u0 + 8589934592 - c - bo) % 4294967296 = u0 - (c + bo) := by omega
    rw [htop0] at hvw hb5
    have hmul : (u0 - (c + bo)) * W = u0 * W - (c + bo) * W := Nat.sub_mul _ _ _
    have hle : (c + bo) * W ≤ u0 * W := Nat.mul_le_mul_right _ (by omega)
    have hUg : U = g * V + val (ws.set (m + 2) (u0 - (c + bo))) := by omega
    have hres := mod_eq_of hUg (by rw [Nat.add_mul, Nat.one_mul] at hge; omega)
    have ez : IntKind.u64.wrap ((u0 : Int) - (c : Int) - (bo : Int)) = ((u0 - (c + bo) : Nat) : Int) := by rw [u64_id (by omega) (by omega)]; omega
    rw [ez]
    (iterate 6 ((repeat with_reducible first|refine .nil ?_|refine .then_normal ?_|refine .block_normal ?_|refine .seq ?_|refine .block ?_|refine .skip ?_|refine .region ?_|refine .ret ?_|refine .then_ret ?_|refine .block_ret ?_|refine .exit ?_|refine .then_exit ?_|refine .block_exit ?_|refine .block_other rfl ?_); try refine .run TBok 99 rfl ?_))
    refine St.condT rfl (by simp; omega) ?_
    (iterate 6 ((repeat with_reducible first|refine .nil ?_|refine .then_normal ?_|refine .block_normal ?_|refine .seq ?_|refine .block ?_|refine .skip ?_|refine .region ?_|refine .ret ?_|refine .then_ret ?_|refine .block_ret ?_|refine .exit ?_|refine .then_exit ?_|refine .block_exit ?_|refine .block_other rfl ?_); try refine .run TBok 99 rfl ?_))
    refine Out.ret1 rfl rfl ⟨?_, hup, _, by simpa using hwl, hwlim.set _ (by omega), ?_, hb5⟩
    · rw [hres.1, u32_id (by omega) (by omega)]
    · rw [hres.2]

end Go.Qf

/- integer.divNat. -/
namespace Go.Qf
open Go Go.RowKit Go.Proofs
set_option maxRecDepth 20000

theorem SlO.opened {base : Nat} {w : World} {v : Value} {xs : List Nat} (h : SlO base w v xs) (hne : xs ≠ []) : ∃ g cap D, v = .slice (some ⟨g, 0, none⟩) xs.length cap ∧ base ≤ g ∧ Blk 41 w g ([] ++ (xs.map u32 ++ D)) ∧ cap = xs.length + D.length ∧ cap ≤ maxLen := by
  obtain ⟨⟨_, h2⟩, _⟩ := h
  rcases h2 with ⟨_, h0⟩ | ⟨g, cap, cur, hv, hg, hh, hn, hm, hs, ht⟩
  · simp at h0; exact absurd h0 hne
  · simp only [List.length_map, Nat.mul_one] at hv hn hs ht
    refine ⟨g, cap, cur.toList.drop xs.length, hv, hg, ?_, ?_, hm⟩
    · unfold Blk
      rw [hh, List.nil_append, ← ht]
      simp
    · simp; omega

theorem SlO.closed {base : Nat} {w : World} {us : List Nat} {g cap len : Nat} {D : List Value} (hb : Blk 41 w g ([] ++ (us.map u32 ++ D))) (hl : Lim us) (hlen : len = us.length) (hg : base ≤ g) (hcap : cap = us.length + D.length) (hm : cap ≤ maxLen) : SlO base w (.slice (some ⟨g, 0, none⟩) len cap) us := by
  refine ⟨⟨by simp, .inr ⟨g, cap, (us.map u32 ++ D).toArray, ?_, hg, ?_, ?_, hm, ?_, ?_⟩⟩, hl⟩
  · simp [hlen]
  · simpa [Blk] using hb
  · simp; omega
  · simp; omega
  · simp

theorem limbs_last_ne {c i x : Nat} (hx : (limbs c)[i]? = some x) (hi : (limbs c).length = i + 1) : x ≠ 0 := by
  intro e
  subst e
  have hsp : val (limbs c) = val ((limbs c).take i) := by
    have := val_take_succ hx
    rw [List.take_of_length_le (by omega)] at this
    simpa using this
  have h1 := limbs_length_le ((limbs c).take i) ((lim_limbs c).take i)
  rw [← hsp, val_limbs] at h1
  simp at h1
  omega

theorem val_drop_le (xs : List Nat) (k : Nat) : val xs = val (xs.take k) + 4294967296 ^ (min k xs.length) * val (xs.drop k) := val_split xs k

set_option maxHeartbeats 4000000 in
theorem divNat_spec (w : World) (u v : Value) (a c : Nat) (h : Sl w u (limbs a)) (k : Sl w v (limbs c)) (hlen : (limbs a).length ≤ 10000000) (hl : (limbs c).length ≤ 10000000) (hc0 : c ≠ 0) :
    Calls Try.prog 105 #[u, v] w (Ret fun r w' => Ext w w' ∧ ∃ q rm, r = .tuple #[q, rm] ∧ SlO w.heap.size w' q (limbs (a / c)) ∧ SlO w.heap.size w' rm (limbs (a % c))) := by
  have hval : val (limbs a) = a := val_limbs a
  have hvalc : val (limbs c) = c := val_limbs c
  have hcne : limbs c ≠ [] := fun e => hc0 (limbs_eq_nil.1 e)
  have hcl : 0 < (limbs c).length := List.length_pos_iff.2 hcne
  obtain ⟨p, ca, rfl, _⟩ := h.form
  obtain ⟨q, cb, rfl, _⟩ := k.form
  refine calls_of_St (args := [_, _]) Try.func105 rfl Try.ntmps105 rfl ?_
  (iterate 6 ((repeat with_reducible first|refine .nil ?_|refine .then_normal ?_|refine .block_normal ?_|refine .seq ?_|refine .block ?_|refine .skip ?_|refine .region ?_|refine .ret ?_|refine .then_ret ?_|refine .block_ret ?_|refine .exit ?_|refine .then_exit ?_|refine .block_exit ?_|refine .block_other rfl ?_); try refine .run TBok 99 rfl ?_))
  refine StL.step rfl rfl rfl (OpR.call fn_integer_compareNat rfl (compareNat_spec w _ _ a c h k (by omega) (by omega))) ?_
  rintro _ w1 ⟨hx1, rfl⟩
  have h1 := h.ext hx1
  have k1 := k.ext hx1
  by_cases hac : a < c
  · refine StL.as TBok 1 (.bool true) rfl (bool_true (by simp [cmpN, hac])) ?_
    (iterate 6 ((repeat with_reducible first|refine .nil ?_|refine .then_normal ?_|refine .block_normal ?_|refine .seq ?_|refine .block ?_|refine .skip ?_|refine .region ?_|refine .ret ?_|refine .then_ret ?_|refine .block_ret ?_|refine .exit ?_|refine .then_exit ?_|refine .block_exit ?_|refine .block_other rfl ?_); try refine .run TBok 99 rfl ?_))
    refine St.condT rfl rfl ?_
    (iterate 6 ((repeat with_reducible first|refine .nil ?_|refine .then_normal ?_|refine .block_normal ?_|refine .seq ?_|refine .block ?_|refine .skip ?_|refine .region ?_|refine .ret ?_|refine .then_ret ?_|refine .block_ret ?_|refine .exit ?_|refine .then_exit ?_|refine .block_exit ?_|refine .block_other rfl ?_); try refine .run TBok 99 rfl ?_))
    refine StL.step rfl rfl rfl (OpR.call fn_slices_Clone_uint32_uint32 rfl (clone_spec w1 _ _ h1 (by omega))) ?_
    rintro r w2 ⟨hx2, hr⟩
    (iterate 6 ((repeat with_reducible first|refine .nil ?_|refine .then_normal ?_|refine .block_normal ?_|refine .seq ?_|refine .block ?_|refine .skip ?_|refine .region ?_|refine .ret ?_|refine .then_ret ?_|refine .block_ret ?_|refine .exit ?_|refine .then_exit ?_|refine .block_exit ?_|refine .block_other rfl ?_); try refine .run TBok 99 rfl ?_))
    refine Out.ret2 rfl rfl rfl ⟨hx1.trans hx2, _, _, rfl, ?_, ?_⟩
    · rw [Nat.div_eq_of_lt hac]; exact SlO.nil _ _
    · rw [Nat.mod_eq_of_lt hac]; exact hr.mono hx1.size
  refine StL.as TBok 1 (.bool false) rfl (bool_false (by unfold cmpN; rw [if_neg hac]; split <;> decide)) ?_
  have hll : (limbs c).length ≤ (limbs a).length := limbs_length_mono c a (by omega)
  (iterate 6 ((repeat with_reducible first|refine .nil ?_|refine .then_normal ?_|refine .block_normal ?_|refine .seq ?_|refine .block ?_|refine .skip ?_|refine .region ?_|refine .ret ?_|refine .then_ret ?_|refine .block_ret ?_|refine .exit ?_|refine .then_exit ?_|refine .block_exit ?_|refine .block_other rfl ?_); try refine .run TBok 99 rfl ?_))
  refine St.condF rfl rfl ?_
  (iterate 6 ((repeat with_reducible first|refine .nil ?_|refine .then_normal ?_|refine .block_normal ?_|refine .seq ?_|refine .block ?_|refine .skip ?_|refine .region ?_|refine .ret ?_|refine .then_ret ?_|refine .block_ret ?_|refine .exit ?_|refine .then_exit ?_|refine .block_exit ?_|refine .block_other rfl ?_); try refine .run TBok 99 rfl ?_))
  by_cases hw2 : (limbs a).length ≤ 2
  · -- two words
    have ha64 : a < 18446744073709551616 := by rw [← hval]; exact val_le_two h.2 hw2
    have hc64 : c < 18446744073709551616 := by rw [← hvalc]; exact val_le_two k.2 (by omega)
    refine St.condT rfl (by simp; omega) ?_
    (iterate 6 ((repeat with_reducible first|refine .nil ?_|refine .then_normal ?_|refine .block_normal ?_|refine .seq ?_|refine .block ?_|refine .skip ?_|refine .region ?_|refine .ret ?_|refine .then_ret ?_|refine .block_ret ?_|refine .exit ?_|refine .then_exit ?_|refine .block_exit ?_|refine .block_other rfl ?_); try refine .run TBok 99 rfl ?_))
    refine StL.step rfl rfl rfl (OpR.call fn_integer_word rfl (word_spec w1 _ _ h1 hw2)) ?_
    rintro r w2 ⟨rfl, rfl⟩
    refine .run TBok 99 rfl ?_
    refine StL.step rfl rfl rfl (OpR.call fn_integer_word rfl (word_spec _ _ _ k1 (by omega))) ?_
    rintro r w2 ⟨rfl, rfl⟩
    rw [hval, hvalc]
    refine .run TBok 99 rfl ?_
    (repeat with_reducible first|refine .nil ?_|refine .then_normal ?_|refine .block_normal ?_|refine .seq ?_|refine .block ?_|refine .skip ?_|refine .region ?_|refine .ret ?_|refine .then_ret ?_|refine .block_ret ?_|refine .exit ?_|refine .then_exit ?_|refine .block_exit ?_|refine .block_other rfl ?_)
    have hqi : (a : Int) / (c : Int) = ((a / c : Nat) : Int) := by simp
    have hmi : (a : Int) % (c : Int) = ((a % c : Nat) : Int) := by simp
    have hq64 : a / c < 18446744073709551616 := Nat.lt_of_le_of_lt (Nat.div_le_self _ _) ha64
    have hm64 : a % c < 18446744073709551616 := Nat.lt_of_le_of_lt (Nat.mod_le _ _) ha64
    generalize hqd : a / c = qq at *
    generalize hmd : a % c = mm at *
    refine St.draw 8 [(28, Is (.int .u64 a)), (29, Is (.int .u64 c)), (30, Is (.int .u64 qq)), (31, fun v w' => SlO w.heap.size w' v (limbs qq)), (32, Is (.int .u64 a)), (33, Is (.int .u64 c)), (34, Is (.int .u64 mm)), (35, fun v w' => SlO w.heap.size w' v (limbs mm))] TBfol (by kernel_rfl) rfl (by kernel_rfl) (by kernel_rfl)
      ⟨Is.mono _, Is.mono _, Is.mono _, fun _ _ _ hx hv => hv.ext hx, Is.mono _, Is.mono _, Is.mono _, fun _ _ _ hx hv => hv.ext hx, trivial⟩ ?_ ?_
    · refine ⟨?_, ?_, ?_, ?_, ?_, ?_, ?_, ?_, trivial⟩
      · exact fun w3 hx3 => OpG.pure TBok rfl rfl rfl rfl rfl rfl
      · exact fun w3 hx3 => OpG.pure TBok rfl rfl rfl rfl rfl rfl
      · rintro w3 hx3 _ rfl _ rfl
        exact OpG.run rfl rfl rfl rfl (RunsTo.quo rfl rfl (by omega) (by omega)) (by rw [hqi, u64_id (by omega) (by omega)]; rfl)
      · rintro w3 hx3 _ rfl
        refine OpG.call fn_integer_fromWord rfl rfl rfl (fromWord_spec w3 qq hq64) ?_
        rintro v w4 ⟨hx4, hv4⟩
        exact ⟨hx4, hv4.mono (Nat.le_trans hx1.size hx3.size)⟩
      · exact fun w3 hx3 => OpG.pure TBok rfl rfl rfl rfl rfl rfl
      · exact fun w3 hx3 => OpG.pure TBok rfl rfl rfl rfl rfl rfl
      · rintro w3 hx3 _ rfl _ rfl
        exact OpG.run rfl rfl rfl rfl (RunsTo.rem rfl rfl (by omega) (by omega)) (by rw [hmi]; rfl)
      · rintro w3 hx3 _ rfl
        refine OpG.call fn_integer_fromWord rfl rfl rfl (fromWord_spec w3 mm hm64) ?_
        rintro v w4 ⟨hx4, hv4⟩
        exact ⟨hx4, hv4.mono (Nat.le_trans hx1.size hx3.size)⟩
    rintro w3 hx3 _ _ _ _ _ _ v31 h31 _ _ _ _ _ _ v35 h35 _
    refine .run TBok 99 rfl ?_
    (iterate 6 ((repeat with_reducible first|refine .nil ?_|refine .then_normal ?_|refine .block_normal ?_|refine .seq ?_|refine .block ?_|refine .skip ?_|refine .region ?_|refine .ret ?_|refine .then_ret ?_|refine .block_ret ?_|refine .exit ?_|refine .then_exit ?_|refine .block_exit ?_|refine .block_other rfl ?_); try refine .run TBok 99 rfl ?_))
    exact Out.ret2 rfl rfl rfl ⟨hx1.trans hx3, _, _, rfl, h31, h35⟩
  refine St.condF rfl (by simp; omega) ?_
  (iterate 6 ((repeat with_reducible first|refine .nil ?_|refine .then_normal ?_|refine .block_normal ?_|refine .seq ?_|refine .block ?_|refine .skip ?_|refine .region ?_|refine .ret ?_|refine .then_ret ?_|refine .block_ret ?_|refine .exit ?_|refine .then_exit ?_|refine .block_exit ?_|refine .block_other rfl ?_); try refine .run TBok 99 rfl ?_))
  by_cases hn1 : (limbs c).length = 1
  · -- one limb
    refine St.condT rfl (by simp; omega) ?_
    (iterate 6 ((repeat with_reducible first|refine .nil ?_|refine .then_normal ?_|refine .block_normal ?_|refine .seq ?_|refine .block ?_|refine .skip ?_|refine .region ?_|refine .ret ?_|refine .then_ret ?_|refine .block_ret ?_|refine .exit ?_|refine .then_exit ?_|refine .block_exit ?_|refine .block_other rfl ?_); try refine .run TBok 99 rfl ?_))
    have hane : limbs a ≠ [] := fun e => by rw [e] at hw2; simp at hw2
    refine StL.step rfl rfl rfl (OpR.call fn_slices_Clone_uint32_uint32 rfl (clone_spec w1 _ _ h1 (by omega))) ?_
    rintro r w2 ⟨hx2, hr⟩
    have k2 := k1.ext hx2
    obtain ⟨g, cap, D, rfl, hg, hb2, hcap, hcapm⟩ := hr.opened hane
    have hcx : (limbs c)[0]? = some (limbs c)[0] := by simp
    generalize (limbs c)[0] = x at hcx
    have hcv : c = x := hvalc.symm.trans (val_one hn1 hcx)
    subst hcv
    have hxl := k.2.get hcx
    (iterate 6 ((repeat with_reducible first|refine .nil ?_|refine .then_normal ?_|refine .block_normal ?_|refine .seq ?_|refine .block ?_|refine .skip ?_|refine .region ?_|refine .ret ?_|refine .then_ret ?_|refine .block_ret ?_|refine .exit ?_|refine .then_exit ?_|refine .block_exit ?_|refine .block_other rfl ?_); try refine .run TBok 99 rfl ?_))
    refine StL.elem TBok 0 (u32 c) k2.1 (k2.get hcx) rfl rfl rfl rfl rfl rfl rfl rfl rfl rfl rfl (fun _ => rfl) ?_
    intro p1
    refine .run TBok 99 rfl ?_
    refine StL.step rfl rfl rfl (OpR.call fn_integer_divideByLimb rfl (divideByLimb_spec w2 g 0 cap c [] D (limbs a) hb2 rfl h.2 (by omega) (by omega) hxl)) ?_
    rintro _ w3 ⟨rfl, hu3, us, husl, huslim, husv, hb3⟩
    rw [hval]
    rw [hval] at husv
    have hmb : a % c < 4294967296 := Nat.lt_trans (Nat.mod_lt _ (by omega)) hxl
    have hx12 : Ext w w2 := hx1.trans hx2
    have hx3 : Ext w w3 := hx12.then_upd hu3 (Nat.le_trans hx1.size hg)
    have hO : SlO w.heap.size w3 (.slice (some ⟨g, 0, none⟩) (limbs a).length cap) us := SlO.closed hb3 huslim husl.symm (Nat.le_trans hx1.size hg) (by omega) hcapm
    (iterate 6 ((repeat with_reducible first|refine .nil ?_|refine .then_normal ?_|refine .block_normal ?_|refine .seq ?_|refine .block ?_|refine .skip ?_|refine .region ?_|refine .ret ?_|refine .then_ret ?_|refine .block_ret ?_|refine .exit ?_|refine .then_exit ?_|refine .block_exit ?_|refine .block_other rfl ?_); try refine .run TBok 99 rfl ?_))
    refine StL.step rfl rfl rfl (OpR.call fn_integer_trim rfl (trim_spec w3 _ _ hO.sl (by omega))) ?_
    rintro _ w4 ⟨rfl, rfl, _⟩
    have hOt := hO.trimmed
    rw [husv] at hOt ⊢
    generalize hmd : a % c = mm at *
    refine StL.as TBok 2 (.int .u64 (mm : Int)) rfl (by rw [u64_id (by omega) (by omega)]) ?_
    refine StL.step rfl rfl rfl (OpR.call fn_integer_fromWord rfl (fromWord_spec _ mm (by omega))) ?_
    rintro rr w5 ⟨hx5, hr5⟩
    (iterate 6 ((repeat with_reducible first|refine .nil ?_|refine .then_normal ?_|refine .block_normal ?_|refine .seq ?_|refine .block ?_|refine .skip ?_|refine .region ?_|refine .ret ?_|refine .then_ret ?_|refine .block_ret ?_|refine .exit ?_|refine .then_exit ?_|refine .block_exit ?_|refine .block_other rfl ?_); try refine .run TBok 99 rfl ?_))
    exact Out.ret2 rfl rfl rfl ⟨hx3.trans hx5, _, _, rfl, hOt.ext hx5, hr5.mono hx3.size⟩
  refine St.condF rfl (by simp; omega) ?_
  -- long division
  obtain ⟨m, hm⟩ : ∃ m, (limbs c).length = m + 2 := ⟨(limbs c).length - 2, by omega⟩
  obtain ⟨t, ht⟩ : ∃ t, (limbs a).length = m + 2 + t := ⟨(limbs a).length - (m + 2), by omega⟩
  have htop : (limbs c)[m + 1]? = some (limbs c)[m + 1] := by simp
  generalize (limbs c)[m + 1] = tp at htop
  have htpl := k.2.get htop
  have htp0 : tp ≠ 0 := limbs_last_ne htop (by omega)
  (iterate 6 ((repeat with_reducible first|refine .nil ?_|refine .then_normal ?_|refine .block_normal ?_|refine .seq ?_|refine .block ?_|refine .skip ?_|refine .region ?_|refine .ret ?_|refine .then_ret ?_|refine .block_ret ?_|refine .exit ?_|refine .then_exit ?_|refine .block_exit ?_|refine .block_other rfl ?_); try refine .run TBok 99 rfl ?_))
  refine StL.elem TBok (m + 1) (u32 tp) k1.1 (k1.get htop) (by rw [hm, i64_id (by omega) (by omega)]; omega) rfl rfl rfl rfl rfl rfl rfl rfl rfl rfl (fun _ => rfl) ?_
  intro p1
  refine StL.step rfl rfl rfl (OpR.call fn_math_bits_LeadingZeros32 rfl (lz32_spec w1 tp htp0 htpl)) ?_
  rintro _ w2 ⟨rfl, s, rfl, hs, hs1, hs2⟩
  (iterate 6 ((repeat with_reducible first|refine .nil ?_|refine .then_normal ?_|refine .block_normal ?_|refine .seq ?_|refine .block ?_|refine .skip ?_|refine .region ?_|refine .ret ?_|refine .then_ret ?_|refine .block_ret ?_|refine .exit ?_|refine .then_exit ?_|refine .block_exit ?_|refine .block_other rfl ?_); try refine .run TBok 99 rfl ?_))
  refine StL.step rfl rfl rfl (OpR.call fn_integer_shiftLeft rfl (shiftLeft_spec _ _ s _ k1 (by omega) hs)) ?_
  rintro _ w3 ⟨hx3, rfl, ds, hdsl, hdslim, hdsv, hbd⟩
  rw [hvalc] at hdsv
  refine .run TBok 99 rfl ?_
  refine StL.step rfl rfl rfl (RunsTo.sliceHi TBok rfl rfl rfl rfl (by omega) (by omega)).op ?_
  rintro _ _ ⟨rfl, rfl⟩
  rw [Int.toNat_natCast]
  have h3 := h1.ext hx3
  (iterate 6 ((repeat with_reducible first|refine .nil ?_|refine .then_normal ?_|refine .block_normal ?_|refine .seq ?_|refine .block ?_|refine .skip ?_|refine .region ?_|refine .ret ?_|refine .then_ret ?_|refine .block_ret ?_|refine .exit ?_|refine .then_exit ?_|refine .block_exit ?_|refine .block_other rfl ?_); try refine .run TBok 99 rfl ?_))
  refine StL.step rfl rfl rfl (OpR.call fn_integer_shiftLeft rfl (shiftLeft_spec _ _ s _ h3 (by omega) hs)) ?_
  rintro _ w4 ⟨hx4, rfl, rs0, hrsl, hrslim, hrsv, hbr⟩
  rw [hval] at hrsv
  (iterate 6 ((repeat with_reducible first|refine .nil ?_|refine .then_normal ?_|refine .block_normal ?_|refine .seq ?_|refine .block ?_|refine .skip ?_|refine .region ?_|refine .ret ?_|refine .then_ret ?_|refine .block_ret ?_|refine .exit ?_|refine .then_exit ?_|refine .block_exit ?_|refine .block_other rfl ?_); try refine .run TBok 99 rfl ?_))
  have eq1 : IntKind.i64.wrap (IntKind.i64.wrap (((limbs a).length : Int) - ((limbs c).length : Int)) + 1) = ((t + 1 : Nat) : Int) := by
    rw [i64_id (n := ((limbs a).length : Int) - ((limbs c).length : Int)) (by omega) (by omega), i64_id (by omega) (by omega)]; omega
  have eq0 : IntKind.i64.wrap (((limbs a).length : Int) - ((limbs c).length : Int)) = (t : Int) := by
    rw [i64_id (by omega) (by omega)]; omega
  refine StL.step rfl rfl rfl (OpR.make TBok (t + 1) rfl rfl rfl rfl rfl eq1 rfl eq1 (by simp; omega) (by omega)) ?_
  rintro _ w5 ⟨rfl, hbq, hx5, _⟩
  rw [hm] at hdsl
  obtain ⟨hvsv, hVlt, hVge, v1, hv1, hv1ge⟩ := norm_facts hm htop hs hs1 hs2 hdsl hdslim hdsv
  have hsz2 : w2.heap.size < w3.heap.size := hbd.lt
  have hsz3 : w3.heap.size < w4.heap.size := hbr.lt
  have hx04 : Ext w w4 := (hx1.trans hx3).trans hx4
  have hx05 : Ext w w5 := hx04.trans hx5
  have halt := val_lt (limbs a) (lim_limbs a)
  rw [hval, ht] at halt
  have hfirst := first_below halt hs hVge (by omega) hrsv
  have hV0 : 0 < c * 2 ^ s := Nat.mul_pos (by omega) (Nat.pow_pos (by decide))
  generalize hVd : c * 2 ^ s = V at *
  (iterate 6 ((repeat with_reducible first|refine .nil ?_|refine .then_normal ?_|refine .block_normal ?_|refine .seq ?_|refine .block ?_|refine .skip ?_|refine .region ?_|refine .ret ?_|refine .then_ret ?_|refine .block_ret ?_|refine .exit ?_|refine .then_exit ?_|refine .block_exit ?_|refine .block_other rfl ?_); try refine .run TBok 99 rfl ?_))
  refine St.loop (fun g : Nat × List Nat × List Nat => [(1, .slice q (limbs c).length cb), (4, .slice (some ⟨w4.heap.size, 0, none⟩) (t + 1) (t + 1)), (9, .int .i64 s), (10, .slice (some ⟨w2.heap.size, 0, none⟩) (limbs c).length ((limbs c).length + 1)), (11, .slice (some ⟨w3.heap.size, 0, none⟩) ((limbs a).length + 1) ((limbs a).length + 1)), (12, .int .i64 ((g.1 : Int) - 1))])
    (fun g w' => Ext w w' ∧ Blk 41 w' w3.heap.size (g.2.1.map u32) ∧ g.2.1.length = t + m + 3 ∧ Lim g.2.1 ∧ Blk 41 w' w4.heap.size (g.2.2.map u32) ∧ g.2.2.length = t + 1 ∧ Lim g.2.2 ∧ Blk 41 w' w2.heap.size (ds.map u32) ∧ g.1 ≤ t + 1 ∧ val (g.2.1.drop g.1) < V ∧ val rs0 = val g.2.1 + (val (g.2.2.drop g.1) * 4294967296 ^ g.1) * V)
    (fun g => g.1) (t + 1, rs0, List.replicate (t + 1) 0) ⟨rfl, rfl, rfl, rfl, rfl, ?_, trivial⟩ ⟨hx05, hbr.ext hx5, by simp only; omega, hrslim, by rw [List.map_replicate]; exact hbq, by simp, lim_replicate _, (hbd.ext hx4).ext hx5, Nat.le_refl _, hfirst, by simp [val]⟩ ?_
  · show some (Value.int .i64 (IntKind.i64.wrap (((limbs a).length : Int) - ((limbs c).length : Int)))) = _
    rw [eq0]
    simp
  rintro ⟨jj, rs, qs⟩ w6 ⟨hx6, hb6, hrl, hrlim, hbq6, hql, hqlim, hbd6, hjj, hlow, heq⟩
  dsimp only at hb6 hrl hrlim hbq6 hql hqlim hbd6 hjj hlow heq ⊢
  by_cases hj0 : jj = 0
  · subst hj0
    simp only [List.drop_zero, Nat.pow_zero, Nat.mul_one] at hlow heq
    have hfin : a / c = val qs ∧ a % c = val rs / 2 ^ s := by
      have hp : 0 < 2 ^ s := Nat.pow_pos (by decide)
      have hU : a * 2 ^ s = val qs * V + val rs := by rw [← hrsv]; omega
      obtain ⟨q1, q2⟩ := mod_eq_of hU hlow
      rw [← hVd] at q1 q2
      rw [Nat.mul_div_mul_right _ _ hp] at q1
      rw [Nat.mul_mod_mul_right] at q2
      exact ⟨q1, by rw [← q2, Nat.mul_div_cancel _ hp]⟩
    (repeat with_reducible first|refine .nil ?_|refine .then_normal ?_|refine .block_normal ?_|refine .seq ?_|refine .block ?_|refine .skip ?_|refine .region ?_|refine .ret ?_|refine .then_ret ?_|refine .block_ret ?_|refine .exit ?_|refine .then_exit ?_|refine .block_exit ?_|refine .block_other rfl ?_)
    refine StL.as TBok 2 (.bool false) rfl (bool_false (by simp)) ?_
    (repeat with_reducible first|refine .nil ?_|refine .then_normal ?_|refine .block_normal ?_|refine .seq ?_|refine .block ?_|refine .skip ?_|refine .region ?_|refine .ret ?_|refine .then_ret ?_|refine .block_ret ?_|refine .exit ?_|refine .then_exit ?_|refine .block_exit ?_|refine .block_other rfl ?_)
    refine St.condF rfl rfl ?_
    (iterate 6 ((repeat with_reducible first|refine .nil ?_|refine .then_normal ?_|refine .block_normal ?_|refine .seq ?_|refine .block ?_|refine .skip ?_|refine .region ?_|refine .ret ?_|refine .then_ret ?_|refine .block_ret ?_|refine .exit ?_|refine .then_exit ?_|refine .block_exit ?_|refine .block_other rfl ?_); try refine .run TBok 99 rfl ?_))
    have hb6' : Blk 41 w6 w3.heap.size ([] ++ (rs.map u32 ++ [])) := by simpa using hb6
    have hsr := shiftRight_spec w6 w3.heap.size 0 ((limbs a).length + 1) s [] [] rs hb6' rfl hrlim (by omega) hs
    rw [show rs.length = (limbs a).length + 1 from by omega] at hsr
    refine StL.step rfl rfl rfl (OpR.call fn_integer_shiftRight rfl hsr) ?_
    rintro _ w7 ⟨hu7, hb7⟩
    have hx7 : Ext w w7 := hx6.then_upd hu7 (by have := hx1.size; have := hx3.size; omega)
    have hbq7 := hbq6.upd hu7 (by omega)
    have hOq : SlO w.heap.size w7 (.slice (some ⟨w4.heap.size, 0, none⟩) (t + 1) (t + 1)) qs := ⟨Blk.own hbq7 (by simp; omega) hx04.size (by omega), hqlim⟩
    have hOr : SlO w.heap.size w7 (.slice (some ⟨w3.heap.size, 0, none⟩) ((limbs a).length + 1) ((limbs a).length + 1)) (srL s rs) := ⟨Blk.own (by simpa using hb7) (by simp [srL_length]; omega) (hx1.trans hx3).size (by omega), lim_srL _ _⟩
    (iterate 6 ((repeat with_reducible first|refine .nil ?_|refine .then_normal ?_|refine .block_normal ?_|refine .seq ?_|refine .block ?_|refine .skip ?_|refine .region ?_|refine .ret ?_|refine .then_ret ?_|refine .block_ret ?_|refine .exit ?_|refine .then_exit ?_|refine .block_exit ?_|refine .block_other rfl ?_); try refine .run TBok 99 rfl ?_))
    refine StL.step rfl rfl rfl (OpR.call fn_integer_trim rfl (trim_spec w7 _ _ hOq.sl (by omega))) ?_
    rintro _ w8 ⟨rfl, rfl, _⟩
    refine .run TBok 99 rfl ?_
    refine StL.step rfl rfl rfl (OpR.call fn_integer_trim rfl (trim_spec _ _ _ hOr.sl (by rw [srL_length]; omega))) ?_
    rintro _ w8 ⟨rfl, rfl, _⟩
    (iterate 6 ((repeat with_reducible first|refine .nil ?_|refine .then_normal ?_|refine .block_normal ?_|refine .seq ?_|refine .block ?_|refine .skip ?_|refine .region ?_|refine .ret ?_|refine .then_ret ?_|refine .block_ret ?_|refine .exit ?_|refine .then_exit ?_|refine .block_exit ?_|refine .block_other rfl ?_); try refine .run TBok 99 rfl ?_))
    have t1 := hOq.trimmed
    have t2 := hOr.trimmed
    rw [val_srL s hs rs hrlim] at t2 ⊢
    rw [← hfin.2] at t2 ⊢
    rw [← hfin.1] at t1 ⊢
    exact Out.ret2 rfl rfl rfl ⟨hx7, _, _, rfl, t1, t2⟩
  obtain ⟨j, rfl⟩ : ∃ j, jj = j + 1 := ⟨jj - 1, by omega⟩
  have hxj : rs[j]? = some rs[j] := by simp
  generalize rs[j] = xj at hxj
  have hxjl := hrlim.get hxj
  obtain ⟨hs1', hs2', hs3'⟩ := seg_all (m := m) hxj (by omega) hlow hVlt
  have e0 : (((j + 1 : Nat) : Int) - 1) = (j : Int) := by omega
  rw [e0]
  have hsegl : ((rs.drop j).take (m + 3)).length = m + 3 := by simp; omega
  have hsplit : rs.map u32 = (rs.take j).map u32 ++ (((rs.drop j).take (m + 3)).map u32 ++ (rs.drop (j + m + 3)).map u32) := by
    rw [← List.map_append, ← List.map_append]
    congr 1
    rw [show j + m + 3 = j + (m + 3) from by omega, ← List.drop_drop, List.take_append_drop, List.take_append_drop]
  (repeat with_reducible first|refine .nil ?_|refine .then_normal ?_|refine .block_normal ?_|refine .seq ?_|refine .block ?_|refine .skip ?_|refine .region ?_|refine .ret ?_|refine .then_ret ?_|refine .block_ret ?_|refine .exit ?_|refine .then_exit ?_|refine .block_exit ?_|refine .block_other rfl ?_)
  refine StL.as TBok 2 (.bool true) rfl (bool_true (by omega)) ?_
  (repeat with_reducible first|refine .nil ?_|refine .then_normal ?_|refine .block_normal ?_|refine .seq ?_|refine .block ?_|refine .skip ?_|refine .region ?_|refine .ret ?_|refine .then_ret ?_|refine .block_ret ?_|refine .exit ?_|refine .then_exit ?_|refine .block_exit ?_|refine .block_other rfl ?_)
  refine St.condT rfl rfl ?_
  (iterate 6 ((repeat with_reducible first|refine .nil ?_|refine .then_normal ?_|refine .block_normal ?_|refine .seq ?_|refine .block ?_|refine .skip ?_|refine .region ?_|refine .ret ?_|refine .then_ret ?_|refine .block_ret ?_|refine .exit ?_|refine .then_exit ?_|refine .block_exit ?_|refine .block_other rfl ?_); try refine .run TBok 99 rfl ?_))
  have eL : IntKind.i64.wrap (IntKind.i64.wrap ((j : Int) + ((limbs c).length : Int)) + 1) = ((j + m + 3 : Nat) : Int) := by
    rw [i64_id (n := (j : Int) + ((limbs c).length : Int)) (by omega) (by omega), i64_id (by omega) (by omega)]; omega
  refine StL.step rfl rfl rfl (RunsTo.sliceLoHi TBok rfl rfl rfl rfl rfl rfl (by omega) (by rw [eL]; omega) (by rw [eL]; omega) (by omega)).op ?_
  rintro _ _ ⟨rfl, rfl⟩
  rw [eL, show (((j + m + 3 : Nat) : Int).toNat - (j : Int).toNat) = m + 3 from by omega, show (0 + (j : Int).toNat) = j from by omega]
  refine .run TBok 99 rfl ?_
  have hdiv : Sl w6 (.slice (some ⟨w2.heap.size, 0, none⟩) (limbs c).length ((limbs c).length + 1)) (ds.take (m + 2)) := by
    refine ⟨Blk.row hbd6 (by simp; omega) (by omega) (by simp; omega) ?_, hdslim.take _⟩
    rw [List.drop_zero, List.map_take, hm]
  rw [hsplit] at hb6
  have hds := divideStep_spec w6 w3.heap.size j ((limbs a).length + 1 - (j : Int).toNat) m _ _ _ _ _ v1 hb6 (by simp; omega) ((hrlim.drop j).take (m + 3)) hdiv (fun c' o' s' l' cap' e => by cases e; omega) (by simp; omega) hsegl (by omega) hv1 hv1ge (by
    rw [hs1', hs3', hvsv]
    have : (val (rs.drop (j + 1)) + 1) * 4294967296 ≤ V * 4294967296 := Nat.mul_le_mul_right _ hlow
    omega)
  refine StL.step rfl rfl rfl (OpR.call fn_integer_divideStep rfl hds) ?_
  rintro _ w7 ⟨rfl, hu7, us', husl, huslim, husv, hb7⟩
  rw [hs1', hvsv] at husv ⊢
  have hbq7 := hbq6.upd hu7 (by omega)
  have hbd7 := hbd6.upd hu7 (by omega)
  have hx7 : Ext w w7 := hx6.then_upd hu7 (hx1.trans hx3).size
  have hqlt : val (rs.drop j) / V < 4294967296 := by
    apply Nat.div_lt_of_lt_mul
    rw [hs3']
    have : (val (rs.drop (j + 1)) + 1) * 4294967296 ≤ V * 4294967296 := Nat.mul_le_mul_right _ hlow
    omega
  have hdm := Nat.div_add_mod (val (rs.drop j)) V
  have hml := Nat.mod_lt (val (rs.drop j)) hV0
  generalize val (rs.drop j) / V = qd at *
  refine StL.put TBok j hbq7 rfl (by omega) (by simp; omega) rfl rfl rfl rfl rfl rfl rfl rfl (fun _ => rfl) (fun _ => rfl) rfl rfl ?_
  intro p3 w8 hb8 hu8
  rw [Nat.zero_add, map_set_u32] at hb8
  (iterate 6 ((repeat with_reducible first|refine .nil ?_|refine .then_normal ?_|refine .block_normal ?_|refine .seq ?_|refine .block ?_|refine .skip ?_|refine .region ?_|refine .ret ?_|refine .then_ret ?_|refine .block_ret ?_|refine .exit ?_|refine .then_exit ?_|refine .block_exit ?_|refine .block_other rfl ?_); try refine .run TBok 99 rfl ?_))
  have hb7' : Blk 41 w8 w3.heap.size ((rs.take j ++ (us' ++ rs.drop (j + m + 3))).map u32) := by
    have := hb7.upd hu8 (by omega)
    simpa using this
  have hdrop : (rs.take j ++ (us' ++ rs.drop (j + m + 3))).drop j = us' ++ rs.drop (j + m + 3) := by
    rw [List.drop_append_of_le_length (by simp; omega), List.drop_of_length_le (by simp; omega)]; simp
  have hvd : val (us' ++ rs.drop (j + m + 3)) = val us' := by rw [val_append, hs2']; simp
  have hlj : (rs.take j).length = j := by simp; omega
  refine Out.again (j, rs.take j ++ (us' ++ rs.drop (j + m + 3)), qs.set j qd) ⟨rfl, rfl, rfl, rfl, rfl, ?_, trivial⟩ ⟨hx7.then_upd hu8 hx04.size, hb7', by simp; omega, (hrlim.take j).append (huslim.append (hrlim.drop _)), hb8, by simpa using hql, hqlim.set _ hqlt, hbd7.upd hu8 (by omega), by simp only; omega, ?_, ?_⟩ (by simp only; omega)
  · show some (Value.int .i64 (IntKind.i64.wrap ((j : Int) - 1))) = _
    rw [i64_id (by omega) (by omega)]
  · simp only
    rw [hdrop, hvd, husv]
    exact hml
  · simp only
    have hqs : (qs.set j qd)[j]? = some qd := List.getElem?_set_self (by omega)
    rw [drop_pred hqs, List.drop_set_of_lt (by omega), val_append (rs.take j), hlj, hvd, husv, heq]
    have hv0 := val_split rs j
    rw [show min j rs.length = j from by omega] at hv0
    rw [hv0]
    conv => lhs; rw [← hdm]
    rw [Nat.pow_succ]
    generalize 4294967296 ^ j = W
    generalize val (qs.drop (j + 1)) = Q
    generalize val (rs.drop j) % V = M
    have e1 : W * (V * qd + M) = W * M + qd * W * V := by rw [Nat.mul_add, Nat.add_comm]; congr 1; rw [Nat.mul_comm V, ← Nat.mul_assoc, Nat.mul_comm W]
    have e2 : (qd + 4294967296 * Q) * W * V = qd * W * V + Q * (W * 4294967296) * V := by
      rw [Nat.add_mul, Nat.add_mul]; congr 2; rw [Nat.mul_comm 4294967296, Nat.mul_assoc, Nat.mul_comm 4294967296]
    rw [e1, e2]
    omega

end Go.Qf

/- integer.gcdNat, sqrtNat. -/
namespace Go.Qf
open Go Go.RowKit Go.Proofs
set_option maxRecDepth 20000

theorem gcd_step (a b : Nat) : Nat.gcd b (a % b) = Nat.gcd a b := by
  rw [Nat.gcd_comm a b, Nat.gcd_rec b a, Nat.gcd_comm]

set_option maxHeartbeats 1000000 in
theorem gcdNat_spec (w : World) (u v : Value) (a b : Nat) (h : Sl w u (limbs a)) (k : Sl w v (limbs b)) (hlen : (limbs a).length ≤ 10000000) (hl : (limbs b).length ≤ 10000000) :
    Calls Try.prog 120 #[u, v] w (Ret fun r w' => Ext w w' ∧ SlO w.heap.size w' r (limbs (Nat.gcd a b))) := by
  refine calls_of_St (args := [_, _]) Try.func120 rfl Try.ntmps120 rfl ?_
  refine St.seq (St.region (StL.run TBok 99 rfl (StL.nil (Out.then_normal ?_))))
  refine St.cut (fun g : (Value × Value) × Nat × Nat => [(0, g.1.1), (1, g.1.2)]) (fun g w' => Ext w w' ∧ Sl w' g.1.1 (limbs g.2.1) ∧ Sl w' g.1.2 (limbs g.2.2) ∧ Nat.gcd g.2.1 g.2.2 = Nat.gcd a b ∧ (limbs g.2.1).length ≤ 2 ∧ (limbs g.2.2).length ≤ 2) ?_ ?_
  · (repeat with_reducible first|refine .nil ?_|refine .then_normal ?_|refine .block_normal ?_|refine .seq ?_|refine .block ?_|refine .skip ?_|refine .region ?_|refine .ret ?_|refine .then_ret ?_|refine .block_ret ?_|refine .exit ?_|refine .then_exit ?_|refine .block_exit ?_|refine .block_other rfl ?_)
    refine St.loop (fun g : (Value × Value) × Nat × Nat => [(0, g.1.1), (1, g.1.2)]) (fun g w' => Ext w w' ∧ Sl w' g.1.1 (limbs g.2.1) ∧ Sl w' g.1.2 (limbs g.2.2) ∧ Nat.gcd g.2.1 g.2.2 = Nat.gcd a b ∧ (limbs g.2.1).length ≤ 10000000 ∧ (limbs g.2.2).length ≤ 10000000) (fun g => g.2.2) ((u, v), a, b) ⟨rfl, rfl, trivial⟩ ⟨Ext.refl _, h, k, rfl, hlen, hl⟩ ?_
    rintro ⟨⟨u1, v1⟩, a1, b1⟩ w1 ⟨hx1, h1, k1, hg1, hl1, hl2⟩
    dsimp only at h1 k1 hg1 hl1 hl2 ⊢
    obtain ⟨p, c, rfl, _⟩ := h1.form
    obtain ⟨q, d, rfl, _⟩ := k1.form
    by_cases hbig : 2 < (limbs a1).length ∨ 2 < (limbs b1).length
    · refine St.seq (St.cut (fun _ : Unit => [(0, .slice p (limbs a1).length c), (1, .slice q (limbs b1).length d), (16, .bool true)]) (fun _ w' => w' = w1) ?_ ?_)
      · (repeat with_reducible first|refine .nil ?_|refine .then_normal ?_|refine .block_normal ?_|refine .seq ?_|refine .block ?_|refine .skip ?_|refine .region ?_|refine .ret ?_|refine .then_ret ?_|refine .block_ret ?_|refine .exit ?_|refine .then_exit ?_|refine .block_exit ?_|refine .block_other rfl ?_)
        by_cases hb1 : 2 < (limbs a1).length
        · refine StL.as TBok 3 (.bool true) rfl (bool_true (by omega)) ?_
          refine .run TBok 99 rfl ?_
          exact StL.nil (Out.met () ⟨rfl, rfl, rfl, trivial⟩ rfl)
        · refine StL.as TBok 3 (.bool false) rfl (bool_false (by omega)) ?_
          refine StL.as TBok 4 (.bool true) rfl (bool_true (by omega)) ?_
          refine .run TBok 99 rfl ?_
          exact StL.nil (Out.met () ⟨rfl, rfl, rfl, trivial⟩ rfl)
      rintro _ w' rfl
      refine St.condT rfl rfl ?_
      (iterate 6 ((repeat with_reducible first|refine .nil ?_|refine .then_normal ?_|refine .block_normal ?_|refine .seq ?_|refine .block ?_|refine .skip ?_|refine .region ?_|refine .ret ?_|refine .then_ret ?_|refine .block_ret ?_|refine .exit ?_|refine .then_exit ?_|refine .block_exit ?_|refine .block_other rfl ?_); try refine .run TBok 99 rfl ?_))
      by_cases hb0 : b1 = 0
      · subst hb0
        refine St.condT rfl rfl ?_
        (iterate 6 ((repeat with_reducible first|refine .nil ?_|refine .then_normal ?_|refine .block_normal ?_|refine .seq ?_|refine .block ?_|refine .skip ?_|refine .region ?_|refine .ret ?_|refine .then_ret ?_|refine .block_ret ?_|refine .exit ?_|refine .then_exit ?_|refine .block_exit ?_|refine .block_other rfl ?_); try refine .run TBok 99 rfl ?_))
        refine StL.step rfl rfl rfl (OpR.call fn_slices_Clone_uint32_uint32 rfl (clone_spec _ _ _ h1 (by omega))) ?_
        rintro r w2 ⟨hx2, hr⟩
        (iterate 6 ((repeat with_reducible first|refine .nil ?_|refine .then_normal ?_|refine .block_normal ?_|refine .seq ?_|refine .block ?_|refine .skip ?_|refine .region ?_|refine .ret ?_|refine .then_ret ?_|refine .block_ret ?_|refine .exit ?_|refine .then_exit ?_|refine .block_exit ?_|refine .block_other rfl ?_); try refine .run TBok 99 rfl ?_))
        refine Out.ret1 rfl rfl ⟨hx1.trans hx2, ?_⟩
        rw [← hg1, Nat.gcd_zero_right]
        exact hr.mono hx1.size
      · refine St.condF rfl (by simp [limbs_eq_nil, hb0]) ?_
        (iterate 6 ((repeat with_reducible first|refine .nil ?_|refine .then_normal ?_|refine .block_normal ?_|refine .seq ?_|refine .block ?_|refine .skip ?_|refine .region ?_|refine .ret ?_|refine .then_ret ?_|refine .block_ret ?_|refine .exit ?_|refine .then_exit ?_|refine .block_exit ?_|refine .block_other rfl ?_); try refine .run TBok 99 rfl ?_))
        refine StL.step rfl rfl rfl (OpR.call fn_integer_divNat rfl (divNat_spec _ _ _ a1 b1 h1 k1 hl1 hl2 hb0)) ?_
        rintro _ w2 ⟨hx2, q2, r2, rfl, hq2, hr2⟩
        have hmod := Nat.mod_lt a1 (Nat.pos_of_ne_zero hb0)
        (iterate 6 ((repeat with_reducible first|refine .nil ?_|refine .then_normal ?_|refine .block_normal ?_|refine .seq ?_|refine .block ?_|refine .skip ?_|refine .region ?_|refine .ret ?_|refine .then_ret ?_|refine .block_ret ?_|refine .exit ?_|refine .then_exit ?_|refine .block_exit ?_|refine .block_other rfl ?_); try refine .run TBok 99 rfl ?_))
        refine Out.again ((_, _), b1, a1 % b1) ⟨rfl, rfl, trivial⟩ ⟨hx1.trans hx2, k1.ext hx2, hr2.sl, by simp only; rw [gcd_step]; exact hg1, hl2, Nat.le_trans (limbs_length_mono _ _ (Nat.le_of_lt hmod)) hl2⟩ hmod
    · (repeat with_reducible first|refine .nil ?_|refine .then_normal ?_|refine .block_normal ?_|refine .seq ?_|refine .block ?_|refine .skip ?_|refine .region ?_|refine .ret ?_|refine .then_ret ?_|refine .block_ret ?_|refine .exit ?_|refine .then_exit ?_|refine .block_exit ?_|refine .block_other rfl ?_)
      refine StL.as TBok 3 (.bool false) rfl (bool_false (by omega)) ?_
      refine StL.as TBok 4 (.bool false) rfl (bool_false (by omega)) ?_
      (iterate 6 ((repeat with_reducible first|refine .nil ?_|refine .then_normal ?_|refine .block_normal ?_|refine .seq ?_|refine .block ?_|refine .skip ?_|refine .region ?_|refine .ret ?_|refine .then_ret ?_|refine .block_ret ?_|refine .exit ?_|refine .then_exit ?_|refine .block_exit ?_|refine .block_other rfl ?_); try refine .run TBok 99 rfl ?_))
      refine St.condF rfl rfl (St.exit (Out.then_exit (Out.then_exit (Out.block_exit (Out.met ((_, _), a1, b1) ⟨rfl, rfl, trivial⟩ ⟨hx1, h1, k1, hg1, by simp only; omega, by simp only; omega⟩)))))
  rintro ⟨⟨u1, v1⟩, a1, b1⟩ w1 ⟨hx1, h1, k1, hg1, hl1, hl2⟩
  dsimp only at h1 k1 hg1 hl1 hl2 ⊢
  have ha64 : a1 < 18446744073709551616 := by rw [← val_limbs a1]; exact val_le_two h1.2 hl1
  have hb64 : b1 < 18446744073709551616 := by rw [← val_limbs b1]; exact val_le_two k1.2 hl2
  (iterate 6 ((repeat with_reducible first|refine .nil ?_|refine .then_normal ?_|refine .block_normal ?_|refine .seq ?_|refine .block ?_|refine .skip ?_|refine .region ?_|refine .ret ?_|refine .then_ret ?_|refine .block_ret ?_|refine .exit ?_|refine .then_exit ?_|refine .block_exit ?_|refine .block_other rfl ?_); try refine .run TBok 99 rfl ?_))
  refine StL.step rfl rfl rfl (OpR.call fn_integer_word rfl (word_spec _ _ _ h1 hl1)) ?_
  rintro _ w2 ⟨rfl, rfl⟩
  refine .run TBok 99 rfl ?_
  refine StL.step rfl rfl rfl (OpR.call fn_integer_word rfl (word_spec _ _ _ k1 hl2)) ?_
  rintro _ w2 ⟨rfl, rfl⟩
  rw [val_limbs, val_limbs]
  (iterate 6 ((repeat with_reducible first|refine .nil ?_|refine .then_normal ?_|refine .block_normal ?_|refine .seq ?_|refine .block ?_|refine .skip ?_|refine .region ?_|refine .ret ?_|refine .then_ret ?_|refine .block_ret ?_|refine .exit ?_|refine .then_exit ?_|refine .block_exit ?_|refine .block_other rfl ?_); try refine .run TBok 99 rfl ?_))
  refine St.loop (fun g : Nat × Nat => [(7, .int .u64 g.1), (8, .int .u64 g.2)]) (fun g w' => Ext w w' ∧ Nat.gcd g.1 g.2 = Nat.gcd a b ∧ g.1 < 18446744073709551616 ∧ g.2 < 18446744073709551616) (fun g => g.2) (a1, b1) ⟨rfl, rfl, trivial⟩ ⟨hx1, hg1, ha64, hb64⟩ ?_
  rintro ⟨x, y⟩ w3 ⟨hx3, hg3, hx64, hy64⟩
  dsimp only at hg3 hx64 hy64 ⊢
  (iterate 6 ((repeat with_reducible first|refine .nil ?_|refine .then_normal ?_|refine .block_normal ?_|refine .seq ?_|refine .block ?_|refine .skip ?_|refine .region ?_|refine .ret ?_|refine .then_ret ?_|refine .block_ret ?_|refine .exit ?_|refine .then_exit ?_|refine .block_exit ?_|refine .block_other rfl ?_); try refine .run TBok 99 rfl ?_))
  by_cases hy0 : y = 0
  · subst hy0
    refine St.condF rfl rfl ?_
    (iterate 6 ((repeat with_reducible first|refine .nil ?_|refine .then_normal ?_|refine .block_normal ?_|refine .seq ?_|refine .block ?_|refine .skip ?_|refine .region ?_|refine .ret ?_|refine .then_ret ?_|refine .block_ret ?_|refine .exit ?_|refine .then_exit ?_|refine .block_exit ?_|refine .block_other rfl ?_); try refine .run TBok 99 rfl ?_))
    refine StL.step rfl rfl rfl (OpR.call fn_integer_fromWord rfl (fromWord_spec w3 x hx64)) ?_
    rintro r w4 ⟨hx4, hr4⟩
    (iterate 6 ((repeat with_reducible first|refine .nil ?_|refine .then_normal ?_|refine .block_normal ?_|refine .seq ?_|refine .block ?_|refine .skip ?_|refine .region ?_|refine .ret ?_|refine .then_ret ?_|refine .block_ret ?_|refine .exit ?_|refine .then_exit ?_|refine .block_exit ?_|refine .block_other rfl ?_); try refine .run TBok 99 rfl ?_))
    refine Out.ret1 rfl rfl ⟨hx3.trans hx4, ?_⟩
    rw [← hg3, Nat.gcd_zero_right]
    exact hr4.mono hx3.size
  · refine St.condT rfl (by simp; omega) ?_
    (repeat with_reducible first|refine .nil ?_|refine .then_normal ?_|refine .block_normal ?_|refine .seq ?_|refine .block ?_|refine .skip ?_|refine .region ?_|refine .ret ?_|refine .then_ret ?_|refine .block_ret ?_|refine .exit ?_|refine .then_exit ?_|refine .block_exit ?_|refine .block_other rfl ?_)
    refine St.quiet TBfol (by kernel_rfl) ?_
    refine .run TBok 99 rfl ?_
    refine QL.step rfl rfl rfl (fun _ => RunsTo.rem rfl rfl (by omega) (by omega)) ?_
    rw [show (x : Int) % (y : Int) = ((x % y : Nat) : Int) from by simp]
    have hmod := Nat.mod_lt x (Nat.pos_of_ne_zero hy0)
    refine .run TBok 99 rfl ?_
    refine QL.nil fun m3 => ?_
    (repeat with_reducible first|refine .nil ?_|refine .then_normal ?_|refine .block_normal ?_|refine .seq ?_|refine .block ?_|refine .skip ?_|refine .region ?_|refine .ret ?_|refine .then_ret ?_|refine .block_ret ?_|refine .exit ?_|refine .then_exit ?_|refine .block_exit ?_|refine .block_other rfl ?_)
    refine Out.again (y, x % y) ⟨rfl, rfl, trivial⟩ ⟨hx3.drewN m3, by simp only; rw [gcd_step]; exact hg3, hy64, by simp only; omega⟩ hmod

/-- The floor of the square root. -/
def IsRoot (a r : Nat) : Prop := r * r ≤ a ∧ a < (r + 1) * (r + 1)

theorem IsRoot.unique {a r s : Nat} (h : IsRoot a r) (k : IsRoot a s) : r = s := by
  rcases Nat.lt_trichotomy r s with h1 | h1 | h1
  · exfalso
    have : (r + 1) * (r + 1) ≤ s * s := Nat.mul_le_mul h1 h1
    have := h.2; have := k.1; omega
  · exact h1
  · exfalso
    have : (s + 1) * (s + 1) ≤ r * r := Nat.mul_le_mul h1 h1
    have := h.1; have := k.2; omega

theorem four_mul (x z : Nat) : 4 * (x * z) ≤ (x + z) * (x + z) := by
  rcases Nat.le_total x z with h | h
  · obtain ⟨d, rfl⟩ := Nat.exists_eq_add_of_le h
    have : (x + (x + d)) * (x + (x + d)) = 4 * (x * (x + d)) + d * d := by
      simp only [Nat.mul_add, Nat.add_mul]
      have := Nat.mul_comm d x
      omega
    omega
  · obtain ⟨d, rfl⟩ := Nat.exists_eq_add_of_le h
    have : ((z + d) + z) * ((z + d) + z) = 4 * ((z + d) * z) + d * d := by
      simp only [Nat.mul_add, Nat.add_mul]
      have := Nat.mul_comm d z
      omega
    omega

theorem newton_above {a x : Nat} (hx : 0 < x) : a < ((x + a / x) / 2 + 1) * ((x + a / x) / 2 + 1) := by
  have h1 : a < x * (a / x + 1) := by
    have := Nat.div_add_mod a x
    have := Nat.mod_lt a hx
    rw [Nat.mul_add]; omega
  have h2 := four_mul x (a / x + 1)
  generalize a / x = q at *
  have h3 : x + (q + 1) ≤ 2 * ((x + q) / 2 + 1) := by omega
  have h4 : (x + (q + 1)) * (x + (q + 1)) ≤ (2 * ((x + q) / 2 + 1)) * (2 * ((x + q) / 2 + 1)) := Nat.mul_le_mul h3 h3
  have h5 : (2 * ((x + q) / 2 + 1)) * (2 * ((x + q) / 2 + 1)) = 4 * (((x + q) / 2 + 1) * ((x + q) / 2 + 1)) := by
    rw [Nat.mul_mul_mul_comm]
  omega

theorem newton_done {a x : Nat} (h : x ≤ (x + a / x) / 2) : x * x ≤ a := by
  have h1 : x ≤ a / x := by omega
  exact Nat.le_trans (Nat.mul_le_mul_right _ h1) (Nat.div_mul_le_self a x)

theorem pow_limbs (e : Nat) : limbs (2 ^ e) = List.replicate (e / 32) 0 ++ [2 ^ (e % 32)] := by
  have hv : val (List.replicate (e / 32) 0 ++ [2 ^ (e % 32)]) = 2 ^ e := by
    rw [val_append, val_replicate_zero, List.length_replicate]
    simp only [val, Nat.mul_zero, Nat.add_zero, Nat.zero_add]
    rw [show (4294967296 : Nat) = 2 ^ 32 from rfl, ← Nat.pow_mul, ← Nat.pow_add]
    congr 1
    omega
  have hlt : 2 ^ (e % 32) < 4294967296 := Nat.pow_lt_pow_right (by decide) (show e % 32 < 32 by omega)
  rw [← hv]
  refine limbs_val_snoc _ _ ?_ (by have : 0 < 2 ^ (e % 32) := Nat.pow_pos (by decide); omega)
  exact (lim_replicate _).append (fun x hx => by simp at hx; omega)

theorem set_last_replicate (k v : Nat) : (List.replicate (k + 1) 0).set k v = List.replicate k 0 ++ [v] := by
  rw [List.replicate_succ', List.set_append_right _ _ (by simp)]
  simp

/-- How many bits a number has. -/
theorem bits_bound {a s tp n : Nat} (hn : (limbs a).length = n + 1) (htop : (limbs a)[n]? = some tp) (hs : s < 32) (hs2 : tp * 2 ^ s < 4294967296) : a < 2 ^ (32 * (n + 1) - s) := by
  have ha := val_take_succ htop
  rw [List.take_of_length_le (by omega), val_limbs] at ha
  have har := val_lt ((limbs a).take n) ((lim_limbs a).take _)
  rw [show ((limbs a).take n).length = n from by simp; omega] at har
  have htl : tp < 2 ^ (32 - s) := by
    have hB : 4294967296 = 2 ^ (32 - s) * 2 ^ s := by rw [← Nat.pow_add, show 32 - s + s = 32 from by omega]
    rw [hB] at hs2
    exact Nat.lt_of_mul_lt_mul_right hs2
  have h1 : (tp + 1) * 4294967296 ^ n ≤ 2 ^ (32 - s) * 4294967296 ^ n := Nat.mul_le_mul_right _ htl
  have h2 : (2 : Nat) ^ (32 - s) * 4294967296 ^ n = 2 ^ (32 * (n + 1) - s) := by
    rw [show (4294967296 : Nat) = 2 ^ 32 from rfl, ← Nat.pow_mul, ← Nat.pow_add]
    congr 1
    omega
  rw [Nat.add_mul, Nat.one_mul] at h1
  omega

set_option maxHeartbeats 1000000 in
theorem sqrtNat_spec (w : World) (u : Value) (a : Nat) (h : Sl w u (limbs a)) (hlen : (limbs a).length ≤ 1000000) :
    Calls Try.prog 110 #[u] w (Ret fun r w' => Ext w w' ∧ ∃ x, IsRoot a x ∧ SlO w.heap.size w' r (limbs x)) := by
  obtain ⟨p, c, rfl, _⟩ := h.form
  refine calls_of_St (args := [_]) Try.func110 rfl Try.ntmps110 rfl ?_
  (iterate 6 ((repeat with_reducible first|refine .nil ?_|refine .then_normal ?_|refine .block_normal ?_|refine .seq ?_|refine .block ?_|refine .skip ?_|refine .region ?_|refine .ret ?_|refine .then_ret ?_|refine .block_ret ?_|refine .exit ?_|refine .then_exit ?_|refine .block_exit ?_|refine .block_other rfl ?_); try refine .run TBok 99 rfl ?_))
  by_cases ha0 : a = 0
  · subst ha0
    refine St.condT rfl rfl ?_
    (iterate 6 ((repeat with_reducible first|refine .nil ?_|refine .then_normal ?_|refine .block_normal ?_|refine .seq ?_|refine .block ?_|refine .skip ?_|refine .region ?_|refine .ret ?_|refine .then_ret ?_|refine .block_ret ?_|refine .exit ?_|refine .then_exit ?_|refine .block_exit ?_|refine .block_other rfl ?_); try refine .run TBok 99 rfl ?_))
    exact Out.ret1 rfl rfl ⟨Ext.refl _, 0, ⟨by decide, by decide⟩, SlO.nil _ _⟩
  refine St.condF rfl (by simp [limbs_eq_nil, ha0]) ?_
  have hpos : 0 < (limbs a).length := List.length_pos_iff.2 (fun e => ha0 (limbs_eq_nil.1 e))
  obtain ⟨m, hm⟩ : ∃ m, (limbs a).length = m + 1 := ⟨(limbs a).length - 1, by omega⟩
  have htop : (limbs a)[m]? = some (limbs a)[m] := by simp
  generalize (limbs a)[m] = tp at htop
  have htpl := h.2.get htop
  have htp0 : tp ≠ 0 := limbs_last_ne htop (by omega)
  (iterate 6 ((repeat with_reducible first|refine .nil ?_|refine .then_normal ?_|refine .block_normal ?_|refine .seq ?_|refine .block ?_|refine .skip ?_|refine .region ?_|refine .ret ?_|refine .then_ret ?_|refine .block_ret ?_|refine .exit ?_|refine .then_exit ?_|refine .block_exit ?_|refine .block_other rfl ?_); try refine .run TBok 99 rfl ?_))
  refine StL.elem TBok m (u32 tp) h.1 (h.get htop) (by rw [hm, i64_id (by omega) (by omega)]; omega) rfl rfl rfl rfl rfl rfl rfl rfl rfl rfl (fun _ => rfl) ?_
  intro p1
  refine StL.step rfl rfl rfl (OpR.call fn_math_bits_LeadingZeros32 rfl (lz32_spec w tp htp0 htpl)) ?_
  rintro _ w1 ⟨rfl, s, rfl, hs, hs1, hs2⟩
  have hab := bits_bound hm htop hs hs2
  have eL : IntKind.i64.wrap (IntKind.i64.wrap (32 * ((limbs a).length : Int)) - (s : Int)) = ((32 * (m + 1) - s : Nat) : Int) := by
    rw [i64_id (n := 32 * ((limbs a).length : Int)) (by omega) (by omega), i64_id (by omega) (by omega)]; omega
  refine StL.as TBok 1 (.int .i64 ((32 * (m + 1) - s : Nat) : Int)) rfl (by rw [eL]) ?_
  generalize hL : 32 * (m + 1) - s = L at *
  (iterate 6 ((repeat with_reducible first|refine .nil ?_|refine .then_normal ?_|refine .block_normal ?_|refine .seq ?_|refine .block ?_|refine .skip ?_|refine .region ?_|refine .ret ?_|refine .then_ret ?_|refine .block_ret ?_|refine .exit ?_|refine .then_exit ?_|refine .block_exit ?_|refine .block_other rfl ?_); try refine .run TBok 99 rfl ?_))
  refine StL.step rfl rfl rfl (RunsTo.quo rfl rfl (by rw [i64_id (by omega) (by omega)]; omega) (by omega)).op ?_
  rintro _ _ ⟨rfl, rfl⟩
  have eh : IntKind.i64.wrap (IntKind.i64.wrap ((L : Int) + 1) / 2) = (((L + 1) / 2 : Nat) : Int) := by
    rw [i64_id (n := (L : Int) + 1) (by omega) (by omega), i64_id (by omega) (by omega)]; omega
  rw [eh]
  have hsq : a < 2 ^ ((L + 1) / 2) * 2 ^ ((L + 1) / 2) := by
    rw [← Nat.pow_add]
    exact Nat.lt_of_lt_of_le hab (Nat.pow_le_pow_right (by decide) (by omega))
  have hfb : (L + 1) / 2 ≤ 20000000 := by omega
  generalize hh : (L + 1) / 2 = hf at *
  (iterate 6 ((repeat with_reducible first|refine .nil ?_|refine .then_normal ?_|refine .block_normal ?_|refine .seq ?_|refine .block ?_|refine .skip ?_|refine .region ?_|refine .ret ?_|refine .then_ret ?_|refine .block_ret ?_|refine .exit ?_|refine .then_exit ?_|refine .block_exit ?_|refine .block_other rfl ?_); try refine .run TBok 99 rfl ?_))
  refine StL.step rfl rfl rfl (RunsTo.quo rfl rfl (by omega) (by omega)).op ?_
  rintro _ _ ⟨rfl, rfl⟩
  have ed : IntKind.i64.wrap ((hf : Int) / 32) = ((hf / 32 : Nat) : Int) := by rw [i64_id (by omega) (by omega)]; omega
  rw [ed]
  refine .run TBok 99 rfl ?_
  have ed1 : IntKind.i64.wrap (((hf / 32 : Nat) : Int) + 1) = ((hf / 32 + 1 : Nat) : Int) := by rw [i64_id (by omega) (by omega)]; omega
  refine StL.step rfl rfl rfl (OpR.make TBok (hf / 32 + 1) rfl rfl rfl rfl rfl ed1 rfl ed1 (by simp; omega) (by omega)) ?_
  rintro _ w2 ⟨rfl, hb2, hx2, hsz2⟩
  (iterate 6 ((repeat with_reducible first|refine .nil ?_|refine .then_normal ?_|refine .block_normal ?_|refine .seq ?_|refine .block ?_|refine .skip ?_|refine .region ?_|refine .ret ?_|refine .then_ret ?_|refine .block_ret ?_|refine .exit ?_|refine .then_exit ?_|refine .block_exit ?_|refine .block_other rfl ?_); try refine .run TBok 99 rfl ?_))
  refine StL.step rfl rfl rfl (RunsTo.quo rfl rfl (by omega) (by omega)).op ?_
  rintro _ _ ⟨rfl, rfl⟩
  rw [ed]
  refine .run TBok 99 rfl ?_
  refine StL.step rfl rfl rfl (RunsTo.rem rfl rfl (by omega) (by omega)).op ?_
  rintro _ _ ⟨rfl, rfl⟩
  rw [show (hf : Int) % 32 = ((hf % 32 : Nat) : Int) from by omega]
  refine StL.step rfl rfl rfl (RunsTo.shl (hf % 32) rfl rfl rfl (by show hf % 32 ≤ 32; omega)).op ?_
  rintro _ _ ⟨rfl, rfl⟩
  have hpl : 2 ^ (hf % 32) < 4294967296 := Nat.pow_lt_pow_right (by decide) (show hf % 32 < 32 by omega)
  have es : IntKind.u32.wrap (1 * 2 ^ (hf % 32)) = ((2 ^ (hf % 32) : Nat) : Int) := by
    rw [Int.one_mul, show (2 : Int) ^ (hf % 32) = ((2 ^ (hf % 32) : Nat) : Int) from by simp]
    generalize 2 ^ (hf % 32) = t at hpl
    exact u32_id (by omega) (by omega)
  rw [es]
  have hb2' : Blk 41 w2 w1.heap.size ((List.replicate (hf / 32 + 1) 0).map u32) := by rw [List.map_replicate]; exact hb2
  refine StL.put TBok (hf / 32) hb2' rfl (by omega) (by simp) rfl rfl rfl rfl rfl rfl rfl rfl (fun _ => rfl) (fun _ => rfl) rfl rfl ?_
  intro p2 w3 hb3 hu3
  rw [Nat.zero_add, map_set_u32, set_last_replicate, ← pow_limbs] at hb3
  have hx3 : Ext w1 w3 := hx2.then_upd hu3 (Nat.le_refl _)
  have hrl : (limbs (2 ^ hf)).length = hf / 32 + 1 := by rw [pow_limbs]; simp
  have hO : SlO w1.heap.size w3 (.slice (some ⟨w1.heap.size, 0, none⟩) (hf / 32 + 1) (hf / 32 + 1)) (limbs (2 ^ hf)) := ⟨Blk.own hb3 (by simp [hrl]) (Nat.le_refl _) (by omega), lim_limbs _⟩
  (iterate 6 ((repeat with_reducible first|refine .nil ?_|refine .then_normal ?_|refine .block_normal ?_|refine .seq ?_|refine .block ?_|refine .skip ?_|refine .region ?_|refine .ret ?_|refine .then_ret ?_|refine .block_ret ?_|refine .exit ?_|refine .then_exit ?_|refine .block_exit ?_|refine .block_other rfl ?_); try refine .run TBok 99 rfl ?_))
  refine St.loop (fun g : Value × Nat => [(0, .slice p (limbs a).length c), (5, g.1)]) (fun g w' => Ext w1 w' ∧ SlO w1.heap.size w' g.1 (limbs g.2) ∧ 0 < g.2 ∧ g.2 ≤ 2 ^ hf ∧ a < (g.2 + 1) * (g.2 + 1)) (fun g => g.2) (_, 2 ^ hf) ⟨rfl, rfl, trivial⟩ ⟨hx3, hO, Nat.pow_pos (by decide), Nat.le_refl _, ?_⟩ ?_
  · exact Nat.lt_of_lt_of_le hsq (Nat.mul_le_mul (Nat.le_succ _) (Nat.le_succ _))
  rintro ⟨rv, x⟩ w4 ⟨hx4, hO4, hxp, hxle, hxa⟩
  dsimp only at hO4 hxp hxle hxa ⊢
  have hxl : (limbs x).length ≤ 1000000 := Nat.le_trans (limbs_length_mono _ _ hxle) (by rw [hrl]; omega)
  have h4 := h.ext hx4
  (iterate 6 ((repeat with_reducible first|refine .nil ?_|refine .then_normal ?_|refine .block_normal ?_|refine .seq ?_|refine .block ?_|refine .skip ?_|refine .region ?_|refine .ret ?_|refine .then_ret ?_|refine .block_ret ?_|refine .exit ?_|refine .then_exit ?_|refine .block_exit ?_|refine .block_other rfl ?_); try refine .run TBok 99 rfl ?_))
  refine StL.step rfl rfl rfl (OpR.call fn_integer_divNat rfl (divNat_spec w4 _ _ a x h4 hO4.sl (by omega) (by omega) (by omega))) ?_
  rintro _ w5 ⟨hx5, qv, _, rfl, hq5, _⟩
  have hql : (limbs (a / x)).length ≤ 1000000 := Nat.le_trans (limbs_length_mono _ _ (Nat.div_le_self _ _)) hlen
  have hO5 := hO4.ext hx5
  (iterate 6 ((repeat with_reducible first|refine .nil ?_|refine .then_normal ?_|refine .block_normal ?_|refine .seq ?_|refine .block ?_|refine .skip ?_|refine .region ?_|refine .ret ?_|refine .then_ret ?_|refine .block_ret ?_|refine .exit ?_|refine .then_exit ?_|refine .block_exit ?_|refine .block_other rfl ?_); try refine .run TBok 99 rfl ?_))
  refine StL.step rfl rfl rfl (OpR.call fn_integer_addNat rfl (addNat_spec w5 _ _ _ _ hO5.sl hq5.sl (by omega) (by omega))) ?_
  rintro nv w6 ⟨hx6, hO6⟩
  rw [val_limbs, val_limbs] at hO6
  have habove := newton_above (a := a) hxp
  have hsumlen : (limbs (x + a / x)).length ≤ 1000001 := by
    have := limbs_add_length x (a / x)
    omega
  have hsm0 : x + a / x ≠ 0 := Nat.ne_of_gt (Nat.lt_of_lt_of_le hxp (Nat.le_add_right _ _))
  generalize hsum : x + a / x = sm at *
  obtain ⟨g, cap, D, rfl, hg, hb6, hcap, hcapm⟩ := hO6.opened (fun e => hsm0 (limbs_eq_nil.1 e))
  (iterate 6 ((repeat with_reducible first|refine .nil ?_|refine .then_normal ?_|refine .block_normal ?_|refine .seq ?_|refine .block ?_|refine .skip ?_|refine .region ?_|refine .ret ?_|refine .then_ret ?_|refine .block_ret ?_|refine .exit ?_|refine .then_exit ?_|refine .block_exit ?_|refine .block_other rfl ?_); try refine .run TBok 99 rfl ?_))
  refine StL.step rfl rfl rfl (OpR.call fn_integer_shiftRight rfl (shiftRight_spec w6 g 0 cap 1 [] D (limbs sm) hb6 rfl (lim_limbs _) (by omega) (by decide))) ?_
  rintro _ w7 ⟨hu7, hb7⟩
  have hx7 : Ext w5 w7 := hx6.then_upd hu7 hg
  have hx17 : Ext w1 w7 := (hx4.trans hx5).trans hx7
  have hO7 : SlO w1.heap.size w7 (.slice (some ⟨g, 0, none⟩) (limbs sm).length cap) (srL 1 (limbs sm)) := SlO.closed hb7 (lim_srL _ _) (srL_length _ _).symm (Nat.le_trans (hx4.trans hx5).size hg) (by rw [srL_length]; exact hcap) hcapm
  (iterate 6 ((repeat with_reducible first|refine .nil ?_|refine .then_normal ?_|refine .block_normal ?_|refine .seq ?_|refine .block ?_|refine .skip ?_|refine .region ?_|refine .ret ?_|refine .then_ret ?_|refine .block_ret ?_|refine .exit ?_|refine .then_exit ?_|refine .block_exit ?_|refine .block_other rfl ?_); try refine .run TBok 99 rfl ?_))
  refine StL.step rfl rfl rfl (OpR.call fn_integer_trim rfl (trim_spec w7 _ _ hO7.sl (by rw [srL_length]; omega))) ?_
  rintro _ w8 ⟨rfl, rfl, _⟩
  have hOt := hO7.trimmed
  rw [val_srL 1 (by decide) _ (lim_limbs _), val_limbs, Nat.pow_one] at hOt ⊢
  have hnl : (limbs (sm / 2)).length ≤ 1000001 := Nat.le_trans (limbs_length_mono _ _ (Nat.div_le_self _ _)) hsumlen
  have hn0 : 0 < sm / 2 := by
    rcases Nat.eq_zero_or_pos (sm / 2) with h0 | h0
    · rw [h0] at habove; simp at habove; omega
    · exact h0
  have hO8 := hO5.ext hx7
  (iterate 6 ((repeat with_reducible first|refine .nil ?_|refine .then_normal ?_|refine .block_normal ?_|refine .seq ?_|refine .block ?_|refine .skip ?_|refine .region ?_|refine .ret ?_|refine .then_ret ?_|refine .block_ret ?_|refine .exit ?_|refine .then_exit ?_|refine .block_exit ?_|refine .block_other rfl ?_); try refine .run TBok 99 rfl ?_))
  refine StL.step rfl rfl rfl (OpR.call fn_integer_compareNat rfl (compareNat_spec _ _ _ (sm / 2) x hOt.sl hO8.sl (by omega) (by omega))) ?_
  rintro _ w9 ⟨hx9, rfl⟩
  by_cases hdone : x ≤ sm / 2
  · refine StL.as TBok 1 (.bool true) rfl (bool_true (by unfold cmpN; rw [if_neg (by omega)]; split <;> decide)) ?_
    (iterate 6 ((repeat with_reducible first|refine .nil ?_|refine .then_normal ?_|refine .block_normal ?_|refine .seq ?_|refine .block ?_|refine .skip ?_|refine .region ?_|refine .ret ?_|refine .then_ret ?_|refine .block_ret ?_|refine .exit ?_|refine .then_exit ?_|refine .block_exit ?_|refine .block_other rfl ?_); try refine .run TBok 99 rfl ?_))
    refine St.condT rfl rfl ?_
    (iterate 6 ((repeat with_reducible first|refine .nil ?_|refine .then_normal ?_|refine .block_normal ?_|refine .seq ?_|refine .block ?_|refine .skip ?_|refine .region ?_|refine .ret ?_|refine .then_ret ?_|refine .block_ret ?_|refine .exit ?_|refine .then_exit ?_|refine .block_exit ?_|refine .block_other rfl ?_); try refine .run TBok 99 rfl ?_))
    refine Out.ret1 rfl rfl ⟨hx17.trans hx9, x, ⟨newton_done (by rw [hsum]; exact hdone), hxa⟩, hO8.ext hx9⟩
  · refine StL.as TBok 1 (.bool false) rfl (bool_false (by unfold cmpN; rw [if_pos (by omega)]; decide)) ?_
    (iterate 6 ((repeat with_reducible first|refine .nil ?_|refine .then_normal ?_|refine .block_normal ?_|refine .seq ?_|refine .block ?_|refine .skip ?_|refine .region ?_|refine .ret ?_|refine .then_ret ?_|refine .block_ret ?_|refine .exit ?_|refine .then_exit ?_|refine .block_exit ?_|refine .block_other rfl ?_); try refine .run TBok 99 rfl ?_))
    refine St.condF rfl rfl ?_
    (iterate 6 ((repeat with_reducible first|refine .nil ?_|refine .then_normal ?_|refine .block_normal ?_|refine .seq ?_|refine .block ?_|refine .skip ?_|refine .region ?_|refine .ret ?_|refine .then_ret ?_|refine .block_ret ?_|refine .exit ?_|refine .then_exit ?_|refine .block_exit ?_|refine .block_other rfl ?_); try refine .run TBok 99 rfl ?_))
    refine Out.again (_, sm / 2) ⟨rfl, rfl, trivial⟩ ⟨hx17.trans hx9, hOt.ext hx9, hn0, by simp only; omega, habove⟩ (by simp only; omega)

end Go.Qf

/- integer.Small, Int64, addSigned, Add, Sub. -/
namespace Go.Qf
open Go Go.RowKit Go.Proofs
set_option maxRecDepth 20000

/-- The struct v has this sign and these limbs. -/
def Den (w : World) (v : Value) (neg : Bool) (xs : List Nat) : Prop := ∃ p cap, v = IntV neg (.slice p xs.length cap) ∧ Sl w (.slice p xs.length cap) xs

/-- The integer with a sign and an absolute value. -/
def sg (neg : Bool) (m : Nat) : Int := if neg then -(m : Int) else m

/-- The canonical struct of the integer a, its limbs nil or at the head of a block from base on. -/
def CanO (base : Nat) (w : World) (v : Value) (a : Int) : Prop := ∃ p cap, v = IntV (decide (a < 0)) (.slice p (limbs a.natAbs).length cap) ∧ SlO base w (.slice p (limbs a.natAbs).length cap) (limbs a.natAbs)
/-- .. wherever. -/
abbrev Can (w : World) (v : Value) (a : Int) : Prop := CanO 0 w v a

theorem Den.ext {w w' : World} {v : Value} {neg : Bool} {xs : List Nat} (h : Den w v neg xs) (hx : Ext w w') : Den w' v neg xs := by
  obtain ⟨p, cap, hv, hs⟩ := h
  exact ⟨p, cap, hv, hs.ext hx⟩
theorem CanO.ext {base : Nat} {w w' : World} {v : Value} {a : Int} (h : CanO base w v a) (hx : Ext w w') : CanO base w' v a := by
  obtain ⟨p, cap, hv, hs⟩ := h
  exact ⟨p, cap, hv, hs.ext hx⟩
theorem Can.ext {w w' : World} {v : Value} {a : Int} (h : Can w v a) (hx : Ext w w') : Can w' v a := CanO.ext h hx
theorem CanO.mono {base base' : Nat} {w : World} {v : Value} {a : Int} (h : CanO base w v a) (hb : base' ≤ base) : CanO base' w v a := by
  obtain ⟨p, cap, hv, hs⟩ := h
  exact ⟨p, cap, hv, hs.mono hb⟩
theorem CanO.can {base : Nat} {w : World} {v : Value} {a : Int} (h : CanO base w v a) : Can w v a := h.mono (Nat.zero_le _)
theorem Can.den {w : World} {v : Value} {a : Int} (h : Can w v a) : Den w v (decide (a < 0)) (limbs a.natAbs) := by
  obtain ⟨p, cap, hv, hs⟩ := h
  exact ⟨p, cap, hv, hs.sl⟩
theorem Den.lim {w : World} {v : Value} {neg : Bool} {xs : List Nat} (h : Den w v neg xs) : Lim xs := by
  obtain ⟨_, _, _, hs⟩ := h
  exact hs.2

theorem sg_abs (neg : Bool) (m : Nat) : (sg neg m).natAbs = m := by
  cases neg <;> simp [sg]

theorem sg_canon (a : Int) : sg (decide (a < 0)) a.natAbs = a := by
  unfold sg
  by_cases h : a < 0
  · simp [h]; omega
  · simp [h]; omega

/-- What build hands back, as an integer. -/
def builtV (neg : Bool) (m : Nat) (sl : Value) : Value := if limbs m = [] then IntV false (.slice none 0 0) else IntV neg sl

theorem sl_nil (w : World) : Sl w (.slice none 0 0) [] := (SlO.nil 0 w).sl

theorem canO_built {base : Nat} {w : World} {sl : Value} {m : Nat} (neg : Bool) (h : SlO base w sl (limbs m)) : CanO base w (builtV neg m sl) (sg neg m) := by
  unfold builtV CanO
  rw [sg_abs]
  by_cases h0 : m = 0
  · subst h0
    have e : sg neg 0 = 0 := by cases neg <;> rfl
    rw [e, limbs_zero, if_pos rfl]
    exact ⟨none, 0, rfl, SlO.nil _ w⟩
  · rw [if_neg (fun e => h0 (limbs_eq_nil.1 e))]
    obtain ⟨p, cap, rfl, _⟩ := h.sl.form
    refine ⟨p, cap, ?_, h⟩
    have : decide (sg neg m < 0) = neg := by
      cases neg
      · exact decide_eq_false (by simp [sg])
      · exact decide_eq_true (by simp [sg]; omega)
    rw [this]

theorem build_specO {base : Nat} (w : World) (neg : Bool) (sl : Value) (m : Nat) (h : SlO base w sl (limbs m)) (hlen : (limbs m).length ≤ 1000000000) :
    Calls Try.prog 64 #[.bool neg, sl] w (Ret fun r w' => Ext w w' ∧ CanO base w' r (sg neg m)) := by
  refine (build_spec w neg sl (limbs m) h.sl hlen).mono ?_
  rintro e w' ⟨r, rfl, hx, hr⟩
  refine ⟨r, rfl, hx, ?_⟩
  have := canO_built neg (h.ext hx)
  unfold builtV at this
  rw [hr]
  exact this

theorem build_spec' {base : Nat} (w : World) (neg : Bool) (sl : Value) (m : Nat) (h : SlO base w sl (limbs m)) (hlen : (limbs m).length ≤ 1000000000) :
    Calls Try.prog 64 #[.bool neg, sl] w (Ret fun r w' => Ext w w' ∧ Can w' r (sg neg m)) := by
  refine (build_specO w neg sl m h hlen).mono ?_
  rintro e w' ⟨r, rfl, hx, hr⟩
  exact ⟨r, rfl, hx, hr.can⟩

theorem CanO.cells {base : Nat} {w : World} {v : Value} {a : Int} (h : CanO base w v a) : ∃ p cap, v = .agg #[.bool (decide (a < 0)), .slice p (limbs a.natAbs).length cap] ∧ SlO base w (.slice p (limbs a.natAbs).length cap) (limbs a.natAbs) := h

/-- A struct result, stored into the variable that the function hands back. -/
theorem StL.retCan {base n : Nat} {E : List (Nat × Value)} {w w0 : World} {ops : Array Oper} {rest : List Oper} {Q : Exit → Act → World → Prop} {t s : Nat} {ty : TypeId} {pos : String} {af : Array Edge} {b : Nat} {C : List Value} {v : Value} {a : Int}
    (ht : look E t = some (.pointer (some ⟨b, 0, none⟩))) (hs : look E s = some v) (hb : Blk 25 w b C) (hC : C.length = 2) (hv : CanO base w v a) (hx : Ext w0 w) (hb0 : w0.heap.size ≤ b)
    (next : ∀ w' cs, v = .agg cs.toArray → cs.length = 2 → Blk 25 w' b cs → Upd b w w' → Ext w0 w' → StL Try.prog n E w' ops rest Q) :
    StL Try.prog n E w ops (⟨none, .store 25 (.tmp t) (.tmp s), ty, pos, af, none⟩ :: rest) Q := by
  obtain ⟨p, cap, rfl, _⟩ := hv.cells
  refine StL.step0 rfl rfl (OpR.store TBok (vs := [.bool (decide (a < 0)), .slice p (limbs a.natAbs).length cap]) rfl ht hs rfl rfl hb (by simp [hC]) (by simp [Value.oneCell'])) ?_
  rintro _ w' ⟨hb', hu⟩
  match C, hC with
  | [c0, c1], _ => exact next w' _ rfl rfl hb' hu (hx.then_upd hu hb0)

/-- The struct's block is not the variable's. -/
theorem Own.upd {base b : Nat} {e : TypeId} {w w' : World} {v : Value} {cs : List Value} (h : Own base e w v cs) (hu : Upd b w w') (hne : ∀ g cap, v = .slice (some ⟨g, 0, none⟩) cs.length cap → g ≠ b) : Own base e w' v cs := by
  refine ⟨h.1, ?_⟩
  rcases h.2 with h0 | ⟨g, cap, cur, hv, hb, hg, r⟩
  · exact .inl h0
  · exact .inr ⟨g, cap, cur, hv, hb, (hu.block g (Array.getElem?_eq_some_iff.1 hg).1 (hne g cap hv)).trans hg, r⟩

/-- A block of another type has changed. -/
theorem Own.updT {base b : Nat} {e t : TypeId} {w w' : World} {v : Value} {cs C : List Value} (h : Own base e w v cs) (hu : Upd b w w') (hb : Blk t w b C) (hne : e ≠ t) : Own base e w' v cs := by
  refine h.upd hu ?_
  intro g cap hv hgb
  subst hgb
  rcases h.2 with ⟨h0, _⟩ | ⟨g', cap', cur, hv', _, hg, _⟩
  · rw [h0] at hv; cases hv
  · rw [hv] at hv'
    simp only [Value.slice.injEq, Option.some.injEq, Addr.mk.injEq] at hv'
    obtain ⟨⟨rfl, _⟩, _⟩ := hv'
    unfold Blk at hb
    rw [hb] at hg
    simp only [Option.some.injEq, Obj.cells.injEq] at hg
    exact hne hg.2.1.symm

theorem CanO.upd {base : Nat} {w w' : World} {v : Value} {a : Int} {b : Nat} (h : CanO base w v a) (hu : Upd b w w') (hb : ∃ C, Blk 25 w b C) : CanO base w' v a := by
  obtain ⟨p, cap, hv, hs⟩ := h
  obtain ⟨C, hC⟩ := hb
  exact ⟨p, cap, hv, Own.updT hs.1 hu hC (by decide), hs.2⟩
theorem Can.upd {w w' : World} {v : Value} {a : Int} {b : Nat} (h : Can w v a) (hu : Upd b w w') (hb : ∃ C, Blk 25 w b C) : Can w' v a := CanO.upd h hu hb

theorem notV : isV Try.prog 41 = false := by
  unfold isV
  rw [Try.underlying41]
theorem SlO.rg {base : Nat} {T : Nat → Prop} {w w' : World} {v : Value} {xs : List Nat} (h : SlO base w v xs) (hR : Rg Try.prog T w w') : SlO base w' v xs := ⟨hR.own notV h.1, h.2⟩
theorem CanO.rg {base : Nat} {T : Nat → Prop} {w w' : World} {v : Value} {a : Int} (h : CanO base w v a) (hR : Rg Try.prog T w w') : CanO base w' v a := by
  obtain ⟨p, cap, hv, hs⟩ := h
  exact ⟨p, cap, hv, hs.rg hR⟩
theorem MonoR.canO (base : Nat) (a : Int) : MonoR Try.prog (fun v w => CanO base w v a) := fun _ _ _ hR h => h.rg hR
theorem MonoR.slO (base : Nat) (xs : List Nat) : MonoR Try.prog (fun v w => SlO base w v xs) := fun _ _ _ hR h => h.rg hR

/-- Canonical structs are two cells. -/
theorem CanO.two {base : Nat} {w : World} {v : Value} {a : Int} (h : CanO base w v a) : v.cells.toList.length = 2 ∧ ∀ u ∈ v.cells.toList, u.oneCell' = true := by
  obtain ⟨p, cap, rfl, _⟩ := h
  exact ⟨rfl, by simp [IntV, Value.cells, Value.oneCell']⟩

theorem small_specO {base : Nat} (w : World) (a : Int) (h0 : -9223372036854775808 ≤ a) (h1 : a ≤ 9223372036854775807) (hbase : base ≤ w.heap.size) :
    Calls Try.prog 66 #[.int .i64 a] w (Ret fun r w' => Ext w w' ∧ CanO base w' r a) := by
  refine calls_of_St (args := [_]) Try.func66 rfl Try.ntmps66 rfl ?_
  (repeat with_reducible first|refine .nil ?_|refine .then_normal ?_|refine .block_normal ?_|refine .seq ?_|refine .block ?_|refine .skip ?_|refine .region ?_|refine .ret ?_|refine .then_ret ?_|refine .block_ret ?_|refine .exit ?_|refine .then_exit ?_|refine .block_exit ?_|refine .block_other rfl ?_)
  refine StL.step rfl rfl rfl (OpR.alloc TBok rfl) ?_
  rintro _ w1 ⟨rfl, hb, hx1, _⟩
  (iterate 6 ((repeat with_reducible first|refine .nil ?_|refine .then_normal ?_|refine .block_normal ?_|refine .seq ?_|refine .block ?_|refine .skip ?_|refine .region ?_|refine .ret ?_|refine .then_ret ?_|refine .block_ret ?_|refine .exit ?_|refine .then_exit ?_|refine .block_exit ?_|refine .block_other rfl ?_); try refine .run TBok 99 rfl ?_))
  by_cases hneg : a < 0
  · refine St.condT rfl (by simp; omega) ?_
    (iterate 6 ((repeat with_reducible first|refine .nil ?_|refine .then_normal ?_|refine .block_normal ?_|refine .seq ?_|refine .block ?_|refine .skip ?_|refine .region ?_|refine .ret ?_|refine .then_ret ?_|refine .block_ret ?_|refine .exit ?_|refine .then_exit ?_|refine .block_exit ?_|refine .block_other rfl ?_); try refine .run TBok 99 rfl ?_))
    obtain ⟨m, hm⟩ : ∃ m : Nat, a = -(m : Int) := ⟨a.natAbs, by omega⟩
    subst hm
    refine StL.as TBok 1 (.int .u64 (m : Int)) rfl (by congr 1; simp only [wrap_u64]; omega) ?_
    refine StL.step rfl rfl rfl (OpR.call fn_integer_fromWord rfl (fromWord_spec w1 m (by omega))) ?_
    rintro sl w2 ⟨hx2, hsl⟩
    have hll := limbs_length_le_two (m := m) (by omega)
    refine StL.step rfl rfl rfl (OpR.call fn_integer_build rfl (build_specO w2 true sl m (hsl.mono (Nat.le_trans hbase hx1.size)) (by omega))) ?_
    rintro v w3 ⟨hx3, hv⟩
    refine StL.retCan rfl rfl ((hb.ext hx2).ext hx3) rfl hv ((hx1.trans hx2).trans hx3) (Nat.le_refl _) ?_
    intro w4 cs hcs hl hb4 hu4 hx4
    (iterate 6 ((repeat with_reducible first|refine .nil ?_|refine .then_normal ?_|refine .block_normal ?_|refine .seq ?_|refine .block ?_|refine .skip ?_|refine .region ?_|refine .ret ?_|refine .then_ret ?_|refine .block_ret ?_|refine .exit ?_|refine .then_exit ?_|refine .block_exit ?_|refine .block_other rfl ?_); try refine .run TBok 99 rfl ?_))
    refine Out.rets TBok [v] rfl ⟨⟨_, _, _, _, rfl, hb4, rfl, rfl, hl, hcs⟩, trivial⟩ ⟨hx4, ?_⟩
    exact CanO.upd hv hu4 ⟨_, (hb.ext hx2).ext hx3⟩
  · refine St.condF rfl (by simp; omega) ?_
    (iterate 6 ((repeat with_reducible first|refine .nil ?_|refine .then_normal ?_|refine .block_normal ?_|refine .seq ?_|refine .block ?_|refine .skip ?_|refine .region ?_|refine .ret ?_|refine .then_ret ?_|refine .block_ret ?_|refine .exit ?_|refine .then_exit ?_|refine .block_exit ?_|refine .block_other rfl ?_); try refine .run TBok 99 rfl ?_))
    obtain ⟨m, rfl⟩ : ∃ m : Nat, a = (m : Int) := ⟨a.natAbs, by omega⟩
    refine StL.as TBok 1 (.int .u64 (m : Int)) rfl (by rw [u64_id (by omega) (by omega)]) ?_
    refine StL.step rfl rfl rfl (OpR.call fn_integer_fromWord rfl (fromWord_spec w1 m (by omega))) ?_
    rintro sl w2 ⟨hx2, hsl⟩
    have hll := limbs_length_le_two (m := m) (by omega)
    refine StL.step rfl rfl rfl (OpR.call fn_integer_build rfl (build_specO w2 false sl m (hsl.mono (Nat.le_trans hbase hx1.size)) (by omega))) ?_
    rintro v w3 ⟨hx3, hv⟩
    refine StL.retCan rfl rfl ((hb.ext hx2).ext hx3) rfl hv ((hx1.trans hx2).trans hx3) (Nat.le_refl _) ?_
    intro w4 cs hcs hl hb4 hu4 hx4
    (iterate 6 ((repeat with_reducible first|refine .nil ?_|refine .then_normal ?_|refine .block_normal ?_|refine .seq ?_|refine .block ?_|refine .skip ?_|refine .region ?_|refine .ret ?_|refine .then_ret ?_|refine .block_ret ?_|refine .exit ?_|refine .then_exit ?_|refine .block_exit ?_|refine .block_other rfl ?_); try refine .run TBok 99 rfl ?_))
    refine Out.rets TBok [v] rfl ⟨⟨_, _, _, _, rfl, hb4, rfl, rfl, hl, hcs⟩, trivial⟩ ⟨hx4, ?_⟩
    exact CanO.upd hv hu4 ⟨_, (hb.ext hx2).ext hx3⟩

theorem small_spec (w : World) (a : Int) (h0 : -9223372036854775808 ≤ a) (h1 : a ≤ 9223372036854775807) :
    Calls Try.prog 66 #[.int .i64 a] w (Ret fun r w' => Ext w w' ∧ Can w' r a) := small_specO w a h0 h1 (Nat.zero_le _)

/-- '==' and '!=' on bools. -/
theorem RunsTo.boolEq {P : Program} {T : List (Nat × TI)} {n : Nat} {E : List (Nat × Value)} {w : World} (hT : TblOk P T) {d : Option Tmp} {t t2 : TypeId} {x y : Operand} {ty : TypeId} {pos : String} {af : Array Edge} {g : Option (Nat × Bool)} {s1 s2 : Nat} {z : Value} {a b : Bool} (ht : lookT T t = some ⟨.bool, s1, s2, z⟩) (hx : ov E x = some (.bool a)) (hy : ov E y = some (.bool b)) :
    RunsTo P n ⟨d, .binOp .eql t x y t2, ty, pos, af, g⟩ E w (.bool (a == b)) := by
  intro f hf
  have e1 := hf.eval hx
  have e2 := hf.eval hy
  generalize f.eval = ρ at e1 e2
  have heq : (Op.equal t (.bool a) (.bool b)).run P w = .ok (a == b) w := by
    show (Op.equalIn (9999 + 1) t _ _).run P w = _
    unfold Op.equalIn
    simp only [Sem.run_bind, run_underlying_T hT ht, Result.andThen_ok, Sem.run_pure]
  simp only [execOp, e1, e2, eqGuard, binOp, Sem.run_bind, Sem.run_pure]
  simp only [Bool.not_true, Bool.false_eq_true, if_false, Sem.run_pure, Result.andThen_ok, heq]

theorem RunsTo.boolNe {P : Program} {T : List (Nat × TI)} {n : Nat} {E : List (Nat × Value)} {w : World} (hT : TblOk P T) {d : Option Tmp} {t t2 : TypeId} {x y : Operand} {ty : TypeId} {pos : String} {af : Array Edge} {g : Option (Nat × Bool)} {s1 s2 : Nat} {z : Value} {a b : Bool} (ht : lookT T t = some ⟨.bool, s1, s2, z⟩) (hx : ov E x = some (.bool a)) (hy : ov E y = some (.bool b)) :
    RunsTo P n ⟨d, .binOp .neq t x y t2, ty, pos, af, g⟩ E w (.bool (!(a == b))) := by
  intro f hf
  have e1 := hf.eval hx
  have e2 := hf.eval hy
  generalize f.eval = ρ at e1 e2
  have heq : (Op.equal t (.bool a) (.bool b)).run P w = .ok (a == b) w := by
    show (Op.equalIn (9999 + 1) t _ _).run P w = _
    unfold Op.equalIn
    simp only [Sem.run_bind, run_underlying_T hT ht, Result.andThen_ok, Sem.run_pure]
  simp only [execOp, e1, e2, eqGuard, binOp, Sem.run_bind, Sem.run_pure]
  simp only [Bool.not_true, Bool.false_eq_true, if_false, Sem.run_pure, Result.andThen_ok, heq]

/-- What Int64 hands back. -/
def int64V (a : Int) : Value := if -9223372036854775808 ≤ a ∧ a ≤ 9223372036854775807 then .tuple #[.int .i64 a, .bool true] else .tuple #[.int .i64 0, .bool false]

set_option maxHeartbeats 400000 in
theorem int64_spec (w : World) (v : Value) (neg : Bool) (xs : List Nat) (h : Den w v neg xs) (hlen : xs.length ≤ 100000000) :
    Calls Try.prog 67 #[v] w (Ret fun r w' => Ext w w' ∧ r = int64V (sg neg (val xs))) := by
  obtain ⟨p, cap, rfl, hs⟩ := h
  refine calls_of_St (args := [_]) Try.func67 rfl Try.ntmps67 rfl ?_
  (repeat with_reducible first|refine .nil ?_|refine .then_normal ?_|refine .block_normal ?_|refine .seq ?_|refine .block ?_|refine .skip ?_|refine .region ?_|refine .ret ?_|refine .then_ret ?_|refine .block_ret ?_|refine .exit ?_|refine .then_exit ?_|refine .block_exit ?_|refine .block_other rfl ?_)
  refine StL.step rfl rfl rfl (OpR.box rfl) ?_
  rintro _ w1 ⟨rfl, hb, hx1, _⟩
  have hs1 := hs.ext hx1
  (iterate 6 ((repeat with_reducible first|refine .nil ?_|refine .then_normal ?_|refine .block_normal ?_|refine .seq ?_|refine .block ?_|refine .skip ?_|refine .region ?_|refine .ret ?_|refine .then_ret ?_|refine .block_ret ?_|refine .exit ?_|refine .then_exit ?_|refine .block_exit ?_|refine .block_other rfl ?_); try refine .run TBok 99 rfl ?_))
  refine StL.step rfl rfl rfl (RunsTo.load TBok rfl rfl rfl (hb.cell rfl)).op ?_
  rintro _ _ ⟨rfl, rfl⟩
  refine StL.step rfl rfl rfl (OpR.call fn_integer_trim rfl (trim_spec w1 _ _ hs1 (by omega))) ?_
  rintro _ w2 ⟨rfl, rfl, ht⟩
  obtain ⟨p2, cap2, hform, _⟩ := ht.form
  rw [hform] at ht ⊢
  (iterate 6 ((repeat with_reducible first|refine .nil ?_|refine .then_normal ?_|refine .block_normal ?_|refine .seq ?_|refine .block ?_|refine .skip ?_|refine .region ?_|refine .ret ?_|refine .then_ret ?_|refine .block_ret ?_|refine .exit ?_|refine .then_exit ?_|refine .block_exit ?_|refine .block_other rfl ?_); try refine .run TBok 99 rfl ?_))
  by_cases hbig : 2 < (limbs (val xs)).length
  · refine St.condT rfl (by simp; omega) ?_
    (iterate 6 ((repeat with_reducible first|refine .nil ?_|refine .then_normal ?_|refine .block_normal ?_|refine .seq ?_|refine .block ?_|refine .skip ?_|refine .region ?_|refine .ret ?_|refine .then_ret ?_|refine .block_ret ?_|refine .exit ?_|refine .then_exit ?_|refine .block_exit ?_|refine .block_other rfl ?_); try refine .run TBok 99 rfl ?_))
    refine Out.ret2 rfl rfl rfl ⟨hx1, ?_⟩
    have hge : 18446744073709551616 ≤ val xs := by
      rcases Nat.lt_or_ge (val xs) 18446744073709551616 with h | h
      · have := limbs_length_le_two h; omega
      · exact h
    unfold int64V
    rw [if_neg]
    cases neg <;> simp [sg] <;> omega
  refine St.condF rfl (by simp; omega) ?_
  have hv64 : val xs < 18446744073709551616 := by
    have := val_le_two ht.2 (by omega)
    rwa [val_limbs] at this
  (iterate 6 ((repeat with_reducible first|refine .nil ?_|refine .then_normal ?_|refine .block_normal ?_|refine .seq ?_|refine .block ?_|refine .skip ?_|refine .region ?_|refine .ret ?_|refine .then_ret ?_|refine .block_ret ?_|refine .exit ?_|refine .then_exit ?_|refine .block_exit ?_|refine .block_other rfl ?_); try refine .run TBok 99 rfl ?_))
  refine StL.step rfl rfl rfl (OpR.call fn_integer_word rfl (word_spec _ _ _ ht (by omega))) ?_
  rintro _ w3 ⟨rfl, rfl⟩
  rw [val_limbs]
  generalize val xs = m at *
  (iterate 6 ((repeat with_reducible first|refine .nil ?_|refine .then_normal ?_|refine .block_normal ?_|refine .seq ?_|refine .block ?_|refine .skip ?_|refine .region ?_|refine .ret ?_|refine .then_ret ?_|refine .block_ret ?_|refine .exit ?_|refine .then_exit ?_|refine .block_exit ?_|refine .block_other rfl ?_); try refine .run TBok 99 rfl ?_))
  refine StL.step rfl rfl rfl (RunsTo.load TBok rfl rfl rfl (hb.cell rfl)).op ?_
  rintro _ _ ⟨rfl, rfl⟩
  unfold int64V
  cases neg with
  | true =>
    by_cases hm : m ≤ 9223372036854775808
    · refine StL.as TBok 3 (.bool true) rfl (bool_true (by omega)) ?_
      (iterate 6 ((repeat with_reducible first|refine .nil ?_|refine .then_normal ?_|refine .block_normal ?_|refine .seq ?_|refine .block ?_|refine .skip ?_|refine .region ?_|refine .ret ?_|refine .then_ret ?_|refine .block_ret ?_|refine .exit ?_|refine .then_exit ?_|refine .block_exit ?_|refine .block_other rfl ?_); try refine .run TBok 99 rfl ?_))
      refine St.condT rfl rfl ?_
      (iterate 6 ((repeat with_reducible first|refine .nil ?_|refine .then_normal ?_|refine .block_normal ?_|refine .seq ?_|refine .block ?_|refine .skip ?_|refine .region ?_|refine .ret ?_|refine .then_ret ?_|refine .block_ret ?_|refine .exit ?_|refine .then_exit ?_|refine .block_exit ?_|refine .block_other rfl ?_); try refine .run TBok 99 rfl ?_))
      refine Out.ret2 rfl rfl rfl ⟨hx1, ?_⟩
      rw [if_pos (by simp [sg]; omega)]
      congr 4
      simp only [wrap_i64, wrap_u64, sg, if_true]
      omega
    · refine StL.as TBok 3 (.bool false) rfl (bool_false (by omega)) ?_
      (iterate 6 ((repeat with_reducible first|refine .nil ?_|refine .then_normal ?_|refine .block_normal ?_|refine .seq ?_|refine .block ?_|refine .skip ?_|refine .region ?_|refine .ret ?_|refine .then_ret ?_|refine .block_ret ?_|refine .exit ?_|refine .then_exit ?_|refine .block_exit ?_|refine .block_other rfl ?_); try refine .run TBok 99 rfl ?_))
      refine St.condF rfl rfl ?_
      (iterate 6 ((repeat with_reducible first|refine .nil ?_|refine .then_normal ?_|refine .block_normal ?_|refine .seq ?_|refine .block ?_|refine .skip ?_|refine .region ?_|refine .ret ?_|refine .then_ret ?_|refine .block_ret ?_|refine .exit ?_|refine .then_exit ?_|refine .block_exit ?_|refine .block_other rfl ?_); try refine .run TBok 99 rfl ?_))
      refine StL.step rfl rfl rfl (RunsTo.load TBok rfl rfl rfl (hb.cell rfl)).op ?_
      rintro _ _ ⟨rfl, rfl⟩
      (iterate 6 ((repeat with_reducible first|refine .nil ?_|refine .then_normal ?_|refine .block_normal ?_|refine .seq ?_|refine .block ?_|refine .skip ?_|refine .region ?_|refine .ret ?_|refine .then_ret ?_|refine .block_ret ?_|refine .exit ?_|refine .then_exit ?_|refine .block_exit ?_|refine .block_other rfl ?_); try refine .run TBok 99 rfl ?_))
      refine St.condF rfl rfl ?_
      (iterate 6 ((repeat with_reducible first|refine .nil ?_|refine .then_normal ?_|refine .block_normal ?_|refine .seq ?_|refine .block ?_|refine .skip ?_|refine .region ?_|refine .ret ?_|refine .then_ret ?_|refine .block_ret ?_|refine .exit ?_|refine .then_exit ?_|refine .block_exit ?_|refine .block_other rfl ?_); try refine .run TBok 99 rfl ?_))
      refine Out.ret2 rfl rfl rfl ⟨hx1, ?_⟩
      rw [if_neg (by simp [sg]; omega)]
  | false =>
    (iterate 6 ((repeat with_reducible first|refine .nil ?_|refine .then_normal ?_|refine .block_normal ?_|refine .seq ?_|refine .block ?_|refine .skip ?_|refine .region ?_|refine .ret ?_|refine .then_ret ?_|refine .block_ret ?_|refine .exit ?_|refine .then_exit ?_|refine .block_exit ?_|refine .block_other rfl ?_); try refine .run TBok 99 rfl ?_))
    refine St.condF rfl rfl ?_
    (iterate 6 ((repeat with_reducible first|refine .nil ?_|refine .then_normal ?_|refine .block_normal ?_|refine .seq ?_|refine .block ?_|refine .skip ?_|refine .region ?_|refine .ret ?_|refine .then_ret ?_|refine .block_ret ?_|refine .exit ?_|refine .then_exit ?_|refine .block_exit ?_|refine .block_other rfl ?_); try refine .run TBok 99 rfl ?_))
    refine StL.step rfl rfl rfl (RunsTo.load TBok rfl rfl rfl (hb.cell rfl)).op ?_
    rintro _ _ ⟨rfl, rfl⟩
    by_cases hm : m < 9223372036854775808
    · refine StL.as TBok 4 (.bool true) rfl (bool_true (by omega)) ?_
      (iterate 6 ((repeat with_reducible first|refine .nil ?_|refine .then_normal ?_|refine .block_normal ?_|refine .seq ?_|refine .block ?_|refine .skip ?_|refine .region ?_|refine .ret ?_|refine .then_ret ?_|refine .block_ret ?_|refine .exit ?_|refine .then_exit ?_|refine .block_exit ?_|refine .block_other rfl ?_); try refine .run TBok 99 rfl ?_))
      refine St.condT rfl rfl ?_
      (iterate 6 ((repeat with_reducible first|refine .nil ?_|refine .then_normal ?_|refine .block_normal ?_|refine .seq ?_|refine .block ?_|refine .skip ?_|refine .region ?_|refine .ret ?_|refine .then_ret ?_|refine .block_ret ?_|refine .exit ?_|refine .then_exit ?_|refine .block_exit ?_|refine .block_other rfl ?_); try refine .run TBok 99 rfl ?_))
      refine Out.ret2 rfl rfl rfl ⟨hx1, ?_⟩
      rw [if_pos (by simp [sg]; omega)]
      congr 4
      simp only [wrap_i64, sg]
      simp
      omega
    · refine StL.as TBok 4 (.bool false) rfl (bool_false (by omega)) ?_
      (iterate 6 ((repeat with_reducible first|refine .nil ?_|refine .then_normal ?_|refine .block_normal ?_|refine .seq ?_|refine .block ?_|refine .skip ?_|refine .region ?_|refine .ret ?_|refine .then_ret ?_|refine .block_ret ?_|refine .exit ?_|refine .then_exit ?_|refine .block_exit ?_|refine .block_other rfl ?_); try refine .run TBok 99 rfl ?_))
      refine St.condF rfl rfl ?_
      (iterate 6 ((repeat with_reducible first|refine .nil ?_|refine .then_normal ?_|refine .block_normal ?_|refine .seq ?_|refine .block ?_|refine .skip ?_|refine .region ?_|refine .ret ?_|refine .then_ret ?_|refine .block_ret ?_|refine .exit ?_|refine .then_exit ?_|refine .block_exit ?_|refine .block_other rfl ?_); try refine .run TBok 99 rfl ?_))
      refine Out.ret2 rfl rfl rfl ⟨hx1, ?_⟩
      rw [if_neg (by simp [sg]; omega)]

end Go.Qf

/- integer.addSigned, Add, Sub. -/
namespace Go.Qf
open Go Go.RowKit Go.Proofs
set_option maxRecDepth 20000

theorem sg_sum_same (neg : Bool) (m k : Nat) : sg neg (m + k) = sg neg m + sg neg k := by
  cases neg <;> simp [sg]; omega

theorem sg_diff (neg : Bool) (m k : Nat) (h : k ≤ m) : sg neg (m - k) = sg neg m + sg (!neg) k := by
  cases neg <;> simp [sg] <;> omega

/-- The end of a function that hands back one Int: its value has just been made. -/
theorem StL.finCan {base n : Nat} {E : List (Nat × Value)} {w w0 : World} {ops : Array Oper} {Q : Exit → Act → World → Prop} {t s : Nat} {ty : TypeId} {pos : String} {af : Array Edge} {b : Nat} {C : List Value} {v : Value} {a : Int}
    (ht : look E t = some (.pointer (some ⟨b, 0, none⟩))) (hs : look E s = some v) (hb : Blk 25 w b C) (hC : C.length = 2) (hv : CanO base w v a) (hx : Ext w0 w) (hb0 : w0.heap.size ≤ b)
    (hQ : ∀ w', Ext w0 w' → CanO base w' v a → (∀ (fn : Func) (Φ : Value → World → Prop), fn.results = #[.cell t 25] → Φ v w' → Out n E w' .ret (bodyPost Try.prog fn (Ret Φ))) → Out n E w' .normal Q) :
    StL Try.prog n E w ops [⟨none, .store 25 (.tmp t) (.tmp s), ty, pos, af, none⟩] Q := by
  refine StL.retCan ht hs hb hC hv hx hb0 ?_
  intro w4 cs hcs hl hb4 hu4 hx4
  refine StL.nil (hQ w4 hx4 (CanO.upd hv hu4 ⟨_, hb⟩) ?_)
  intro fn Φ hr hΦ
  exact Out.rets TBok [v] hr ⟨⟨_, _, _, _, ht, hb4, rfl, rfl, hl, hcs⟩, trivial⟩ hΦ

set_option maxHeartbeats 400000 in
theorem addSigned_spec (w : World) (na nb : Bool) (u v : Value) (m k : Nat) (h : Sl w u (limbs m)) (hk : Sl w v (limbs k)) (hlen : (limbs m).length ≤ 10000000) (hl : (limbs k).length ≤ 10000000) :
    Calls Try.prog 128 #[.bool na, u, .bool nb, v] w (Ret fun r w' => Ext w w' ∧ Can w' r (sg na m + sg nb k)) := by
  refine calls_of_St (args := [_, _, _, _]) Try.func128 rfl Try.ntmps128 rfl ?_
  (repeat with_reducible first|refine .nil ?_|refine .then_normal ?_|refine .block_normal ?_|refine .seq ?_|refine .block ?_|refine .skip ?_|refine .region ?_|refine .ret ?_|refine .then_ret ?_|refine .block_ret ?_|refine .exit ?_|refine .then_exit ?_|refine .block_exit ?_|refine .block_other rfl ?_)
  refine StL.step rfl rfl rfl (OpR.alloc TBok rfl) ?_
  rintro _ w1 ⟨rfl, hb, hx1, _⟩
  have h1 := h.ext hx1
  have k1 := hk.ext hx1
  (iterate 6 ((repeat with_reducible first|refine .nil ?_|refine .then_normal ?_|refine .block_normal ?_|refine .seq ?_|refine .block ?_|refine .skip ?_|refine .region ?_|refine .ret ?_|refine .then_ret ?_|refine .block_ret ?_|refine .exit ?_|refine .then_exit ?_|refine .block_exit ?_|refine .block_other rfl ?_); try refine .run TBok 99 rfl ?_))
  refine StL.step rfl rfl rfl (RunsTo.boolEq TBok rfl rfl rfl).op ?_
  rintro _ _ ⟨rfl, rfl⟩
  (iterate 6 ((repeat with_reducible first|refine .nil ?_|refine .then_normal ?_|refine .block_normal ?_|refine .seq ?_|refine .block ?_|refine .skip ?_|refine .region ?_|refine .ret ?_|refine .then_ret ?_|refine .block_ret ?_|refine .exit ?_|refine .then_exit ?_|refine .block_exit ?_|refine .block_other rfl ?_); try refine .run TBok 99 rfl ?_))
  by_cases hs : na = nb
  · subst hs
    refine St.condT rfl (by simp) ?_
    (iterate 6 ((repeat with_reducible first|refine .nil ?_|refine .then_normal ?_|refine .block_normal ?_|refine .seq ?_|refine .block ?_|refine .skip ?_|refine .region ?_|refine .ret ?_|refine .then_ret ?_|refine .block_ret ?_|refine .exit ?_|refine .then_exit ?_|refine .block_exit ?_|refine .block_other rfl ?_); try refine .run TBok 99 rfl ?_))
    refine StL.step rfl rfl rfl (OpR.call fn_integer_addNat rfl (addNat_spec w1 _ _ _ _ h1 k1 (by omega) (by omega))) ?_
    rintro sl w2 ⟨hx2, hsl⟩
    rw [val_limbs, val_limbs] at hsl
    have hll := limbs_add_length m k
    refine StL.step rfl rfl rfl (OpR.call fn_integer_build rfl (build_spec' w2 na sl (m + k) hsl (by omega))) ?_
    rintro r w3 ⟨hx3, hv⟩
    rw [sg_sum_same] at hv
    refine StL.finCan rfl rfl ((hb.ext hx2).ext hx3) rfl hv ((hx1.trans hx2).trans hx3) (Nat.le_refl _) ?_
    intro w' hxf hcf fin
    (repeat with_reducible first|refine .nil ?_|refine .then_normal ?_|refine .block_normal ?_|refine .seq ?_|refine .block ?_|refine .skip ?_|refine .region ?_|refine .ret ?_|refine .then_ret ?_|refine .block_ret ?_|refine .exit ?_|refine .then_exit ?_|refine .block_exit ?_|refine .block_other rfl ?_)
    exact fin _ _ rfl ⟨hxf, hcf⟩
  have hnb : nb = !na := by cases na <;> cases nb <;> simp_all
  subst hnb
  refine St.condF rfl (by cases na <;> rfl) ?_
  (iterate 6 ((repeat with_reducible first|refine .nil ?_|refine .then_normal ?_|refine .block_normal ?_|refine .seq ?_|refine .block ?_|refine .skip ?_|refine .region ?_|refine .ret ?_|refine .then_ret ?_|refine .block_ret ?_|refine .exit ?_|refine .then_exit ?_|refine .block_exit ?_|refine .block_other rfl ?_); try refine .run TBok 99 rfl ?_))
  refine StL.step rfl rfl rfl (OpR.call fn_integer_compareNat rfl (compareNat_spec w1 _ _ m k h1 k1 (by omega) (by omega))) ?_
  rintro _ w2 ⟨hx2, rfl⟩
  have h2 := h1.ext hx2
  have k2 := k1.ext hx2
  have hb2 := hb.ext hx2
  have hx12 := hx1.trans hx2
  by_cases hge : k ≤ m
  · refine StL.as TBok 1 (.bool true) rfl (bool_true (by unfold cmpN; rw [if_neg (by omega)]; split <;> decide)) ?_
    (iterate 6 ((repeat with_reducible first|refine .nil ?_|refine .then_normal ?_|refine .block_normal ?_|refine .seq ?_|refine .block ?_|refine .skip ?_|refine .region ?_|refine .ret ?_|refine .then_ret ?_|refine .block_ret ?_|refine .exit ?_|refine .then_exit ?_|refine .block_exit ?_|refine .block_other rfl ?_); try refine .run TBok 99 rfl ?_))
    refine St.condT rfl rfl ?_
    (iterate 6 ((repeat with_reducible first|refine .nil ?_|refine .then_normal ?_|refine .block_normal ?_|refine .seq ?_|refine .block ?_|refine .skip ?_|refine .region ?_|refine .ret ?_|refine .then_ret ?_|refine .block_ret ?_|refine .exit ?_|refine .then_exit ?_|refine .block_exit ?_|refine .block_other rfl ?_); try refine .run TBok 99 rfl ?_))
    have hmono := limbs_length_mono k m hge
    refine StL.step rfl rfl rfl (OpR.call fn_integer_subNat rfl (subNat_spec w2 _ _ _ _ h2 k2 (by omega) (by omega) hmono (by rw [val_limbs, val_limbs]; exact hge))) ?_
    rintro sl w3 ⟨hx3, hsl⟩
    rw [val_limbs, val_limbs] at hsl
    have hll := limbs_length_mono (m - k) m (Nat.sub_le _ _)
    refine StL.step rfl rfl rfl (OpR.call fn_integer_build rfl (build_spec' w3 na sl (m - k) hsl (by omega))) ?_
    rintro r w4 ⟨hx4, hv⟩
    rw [sg_diff _ _ _ hge] at hv
    refine StL.finCan rfl rfl ((hb2.ext hx3).ext hx4) rfl hv ((hx12.trans hx3).trans hx4) (Nat.le_refl _) ?_
    intro w' hxf hcf fin
    (repeat with_reducible first|refine .nil ?_|refine .then_normal ?_|refine .block_normal ?_|refine .seq ?_|refine .block ?_|refine .skip ?_|refine .region ?_|refine .ret ?_|refine .then_ret ?_|refine .block_ret ?_|refine .exit ?_|refine .then_exit ?_|refine .block_exit ?_|refine .block_other rfl ?_)
    exact fin _ _ rfl ⟨hxf, hcf⟩
  · refine StL.as TBok 1 (.bool false) rfl (bool_false (by unfold cmpN; rw [if_pos (by omega)]; decide)) ?_
    (iterate 6 ((repeat with_reducible first|refine .nil ?_|refine .then_normal ?_|refine .block_normal ?_|refine .seq ?_|refine .block ?_|refine .skip ?_|refine .region ?_|refine .ret ?_|refine .then_ret ?_|refine .block_ret ?_|refine .exit ?_|refine .then_exit ?_|refine .block_exit ?_|refine .block_other rfl ?_); try refine .run TBok 99 rfl ?_))
    refine St.condF rfl rfl ?_
    (iterate 6 ((repeat with_reducible first|refine .nil ?_|refine .then_normal ?_|refine .block_normal ?_|refine .seq ?_|refine .block ?_|refine .skip ?_|refine .region ?_|refine .ret ?_|refine .then_ret ?_|refine .block_ret ?_|refine .exit ?_|refine .then_exit ?_|refine .block_exit ?_|refine .block_other rfl ?_); try refine .run TBok 99 rfl ?_))
    have hmono := limbs_length_mono m k (by omega)
    refine StL.step rfl rfl rfl (OpR.call fn_integer_subNat rfl (subNat_spec w2 _ _ _ _ k2 h2 (by omega) (by omega) hmono (by rw [val_limbs, val_limbs]; omega))) ?_
    rintro sl w3 ⟨hx3, hsl⟩
    rw [val_limbs, val_limbs] at hsl
    have hll := limbs_length_mono (k - m) k (Nat.sub_le _ _)
    refine StL.step rfl rfl rfl (OpR.call fn_integer_build rfl (build_spec' w3 (!na) sl (k - m) hsl (by omega))) ?_
    rintro r w4 ⟨hx4, hv⟩
    rw [sg_diff _ _ _ (by omega), Bool.not_not, Int.add_comm] at hv
    refine StL.finCan rfl rfl ((hb2.ext hx3).ext hx4) rfl hv ((hx12.trans hx3).trans hx4) (Nat.le_refl _) ?_
    intro w' hxf hcf fin
    (repeat with_reducible first|refine .nil ?_|refine .then_normal ?_|refine .block_normal ?_|refine .seq ?_|refine .block ?_|refine .skip ?_|refine .region ?_|refine .ret ?_|refine .then_ret ?_|refine .block_ret ?_|refine .exit ?_|refine .then_exit ?_|refine .block_exit ?_|refine .block_other rfl ?_)
    exact fin _ _ rfl ⟨hxf, hcf⟩

/-- The limbs of a struct, trimmed. -/
theorem Den.trimmed {w : World} {_neg : Bool} {p : Option Addr} {cap : Nat} {xs : List Nat} (hs : Sl w (.slice p xs.length cap) xs) : Sl w (.slice p (limbs (val xs)).length cap) (limbs (val xs)) := by
  have := hs.cut (limbs (val xs)).length (limbs_length_le _ hs.2)
  rwa [← limbs_is_take hs.2] at this

theorem pointer_add0 (b : Nat) : Addr.add ⟨b, 0, none⟩ 0 = ⟨b, 0, none⟩ := rfl

set_option maxHeartbeats 400000 in
theorem add_spec (w : World) (x y : Value) (na nb : Bool) (xs ys : List Nat) (h : Den w x na xs) (k : Den w y nb ys) (hlen : xs.length ≤ 10000000) (hl : ys.length ≤ 10000000) :
    Calls Try.prog 114 #[x, y] w (Ret fun r w' => Ext w w' ∧ Can w' r (sg na (val xs) + sg nb (val ys))) := by
  obtain ⟨p, cap, rfl, hs⟩ := h
  obtain ⟨q, cb, rfl, ks⟩ := k
  refine calls_of_St (args := [_, _]) Try.func114 rfl Try.ntmps114 rfl ?_
  (repeat with_reducible first|refine .nil ?_|refine .then_normal ?_|refine .block_normal ?_|refine .seq ?_|refine .block ?_|refine .skip ?_|refine .region ?_|refine .ret ?_|refine .then_ret ?_|refine .block_ret ?_|refine .exit ?_|refine .then_exit ?_|refine .block_exit ?_|refine .block_other rfl ?_)
  refine StL.step rfl rfl rfl (OpR.box rfl) ?_
  rintro _ w1 ⟨rfl, hb1, hx1, _⟩
  refine StL.step rfl rfl rfl (OpR.box rfl) ?_
  rintro _ w2 ⟨rfl, hb2, hx2, _⟩
  refine StL.step rfl rfl rfl (OpR.alloc TBok rfl) ?_
  rintro _ w3 ⟨rfl, hb3, hx3, _⟩
  have hx03 := (hx1.trans hx2).trans hx3
  have h3 := hs.ext hx03
  have k3 := ks.ext hx03
  have hba := (hb1.ext hx2).ext hx3
  have hbb := hb2.ext hx3
  have hl1 := limbs_length_le xs hs.2
  have hl2 := limbs_length_le ys ks.2
  (repeat with_reducible first|refine .nil ?_|refine .then_normal ?_|refine .block_normal ?_|refine .seq ?_|refine .block ?_|refine .skip ?_|refine .region ?_|refine .ret ?_|refine .then_ret ?_|refine .block_ret ?_|refine .exit ?_|refine .then_exit ?_|refine .block_exit ?_|refine .block_other rfl ?_)
  refine St.draw 11 [(5, Is (.pointer (some ⟨w.heap.size, 0, none⟩))), (6, Is (.bool na)), (7, Is (.pointer (some ⟨w.heap.size, 1, none⟩))), (8, Is (.slice p xs.length cap)), (9, Is (.slice p (limbs (val xs)).length cap)), (10, Is (.pointer (some ⟨w1.heap.size, 0, none⟩))), (11, Is (.bool nb)), (12, Is (.pointer (some ⟨w1.heap.size, 1, none⟩))), (13, Is (.slice q ys.length cb)), (14, Is (.slice q (limbs (val ys)).length cb)), (15, fun v w' => Can w' v (sg na (val xs) + sg nb (val ys)))] TBfol (by kernel_rfl) rfl (by kernel_rfl) (by kernel_rfl)
    ⟨Is.mono _, Is.mono _, Is.mono _, Is.mono _, Is.mono _, Is.mono _, Is.mono _, Is.mono _, Is.mono _, Is.mono _, fun _ _ _ hx hv => hv.ext hx, trivial⟩ ?_ ?_
  · refine ⟨?_, ?_, ?_, ?_, ?_, ?_, ?_, ?_, ?_, ?_, ?_, trivial⟩
    · exact fun w4 hx4 => OpG.pure TBok rfl rfl rfl rfl rfl rfl
    · rintro w4 hx4 _ rfl
      exact OpG.run rfl rfl rfl rfl (RunsTo.load TBok rfl rfl rfl ((hba.ext hx4).cell rfl)) rfl
    · exact fun w4 hx4 => OpG.pure TBok rfl rfl rfl rfl rfl rfl
    · rintro w4 hx4 _ rfl
      exact OpG.run rfl rfl rfl rfl (RunsTo.load TBok rfl rfl rfl ((hba.ext hx4).cell rfl)) rfl
    · rintro w4 hx4 _ rfl
      refine OpG.call fn_integer_trim rfl rfl rfl (trim_spec w4 _ _ (h3.ext hx4) (by omega)) ?_
      rintro v w5 ⟨rfl, rfl, _⟩
      exact ⟨Ext.refl _, rfl⟩
    · exact fun w4 hx4 => OpG.pure TBok rfl rfl rfl rfl rfl rfl
    · rintro w4 hx4 _ rfl
      exact OpG.run rfl rfl rfl rfl (RunsTo.load TBok rfl rfl rfl ((hbb.ext hx4).cell rfl)) rfl
    · exact fun w4 hx4 => OpG.pure TBok rfl rfl rfl rfl rfl rfl
    · rintro w4 hx4 _ rfl
      exact OpG.run rfl rfl rfl rfl (RunsTo.load TBok rfl rfl rfl ((hbb.ext hx4).cell rfl)) rfl
    · rintro w4 hx4 _ rfl
      refine OpG.call fn_integer_trim rfl rfl rfl (trim_spec w4 _ _ (k3.ext hx4) (by omega)) ?_
      rintro v w5 ⟨rfl, rfl, _⟩
      exact ⟨Ext.refl _, rfl⟩
    · rintro w4 hx4 _ rfl _ rfl _ rfl _ rfl
      exact OpG.call fn_integer_addSigned rfl rfl rfl (addSigned_spec w4 na nb _ _ _ _ (Den.trimmed (_neg := na) (h3.ext hx4)) (Den.trimmed (_neg := nb) (k3.ext hx4)) (by omega) (by omega)) (fun v w' hv => hv)
  intro w4 hx4 v5 _ v6 _ v7 _ v8 _ v9 _ v10 _ v11 _ v12 _ v13 _ v14 _ v15 h15 _
  refine StL.finCan rfl rfl (hb3.ext hx4) rfl h15 (hx03.trans hx4) (hx1.trans hx2).size ?_
  intro w' hxf hcf fin
  (repeat with_reducible first|refine .nil ?_|refine .then_normal ?_|refine .block_normal ?_|refine .seq ?_|refine .block ?_|refine .skip ?_|refine .region ?_|refine .ret ?_|refine .then_ret ?_|refine .block_ret ?_|refine .exit ?_|refine .then_exit ?_|refine .block_exit ?_|refine .block_other rfl ?_)
  exact fin _ _ rfl ⟨hxf, hcf⟩

theorem sg_not (neg : Bool) (m : Nat) : sg (!neg) m = - sg neg m := by
  cases neg <;> simp [sg]

/-- An Int out of its variable. -/
theorem RunsTo.loadInt {n : Nat} {E : List (Nat × Value)} {w : World} {d : Option Tmp} {x : Operand} {ty : TypeId} {pos : String} {af : Array Edge} {g : Option (Nat × Bool)} {b : Nat} {cs : List Value} {v : Value} (hx : ov E x = some (.pointer (some ⟨b, 0, none⟩))) (hb : Blk 25 w b cs) (hl : cs.length = 2) (hv : v = .agg cs.toArray) :
    RunsTo Try.prog n ⟨d, .load 25 x, ty, pos, af, g⟩ E w v := by
  subst hv
  refine RunsTo.loadAgg TBok rfl rfl hx hb (by rw [hl]; exact Nat.le_refl 2) ?_
  rw [List.drop_zero]
  exact List.take_of_length_le (by rw [hl]; exact Nat.le_refl 2)

end Go.Qf

/- integer.Sign, Mul, Gcd, Normalize, Neg, Sqrt. -/
namespace Go.Qf
open Go Go.RowKit Go.Proofs
set_option maxRecDepth 20000

/-- The sign of an integer. -/
def signI (a : Int) : Int := if a < 0 then -1 else if a = 0 then 0 else 1

theorem signI_sg (neg : Bool) (m : Nat) : signI (sg neg m) = if m = 0 then 0 else if neg then -1 else 1 := by
  unfold signI sg
  cases neg <;> by_cases h : m = 0 <;> simp [h] <;> omega

theorem sign_spec (w : World) (v : Value) (neg : Bool) (xs : List Nat) (h : Den w v neg xs) (hlen : xs.length ≤ 100000000) :
    Calls Try.prog 73 #[v] w (Ret fun r w' => Ext w w' ∧ r = .int .i64 (signI (sg neg (val xs)))) := by
  obtain ⟨p, cap, rfl, hs⟩ := h
  refine calls_of_St (args := [_]) Try.func73 rfl Try.ntmps73 rfl ?_
  (repeat with_reducible first|refine .nil ?_|refine .then_normal ?_|refine .block_normal ?_|refine .seq ?_|refine .block ?_|refine .skip ?_|refine .region ?_|refine .ret ?_|refine .then_ret ?_|refine .block_ret ?_|refine .exit ?_|refine .then_exit ?_|refine .block_exit ?_|refine .block_other rfl ?_)
  refine StL.step rfl rfl rfl (OpR.box rfl) ?_
  rintro _ w1 ⟨rfl, hb, hx1, _⟩
  have hs1 := hs.ext hx1
  (iterate 6 ((repeat with_reducible first|refine .nil ?_|refine .then_normal ?_|refine .block_normal ?_|refine .seq ?_|refine .block ?_|refine .skip ?_|refine .region ?_|refine .ret ?_|refine .then_ret ?_|refine .block_ret ?_|refine .exit ?_|refine .then_exit ?_|refine .block_exit ?_|refine .block_other rfl ?_); try refine .run TBok 99 rfl ?_))
  refine StL.step rfl rfl rfl (RunsTo.load TBok rfl rfl rfl (hb.cell rfl)).op ?_
  rintro _ _ ⟨rfl, rfl⟩
  refine StL.step rfl rfl rfl (OpR.call fn_integer_trim rfl (trim_spec w1 _ _ hs1 (by omega))) ?_
  rintro _ w2 ⟨rfl, rfl, _⟩
  rw [signI_sg]
  (iterate 6 ((repeat with_reducible first|refine .nil ?_|refine .then_normal ?_|refine .block_normal ?_|refine .seq ?_|refine .block ?_|refine .skip ?_|refine .region ?_|refine .ret ?_|refine .then_ret ?_|refine .block_ret ?_|refine .exit ?_|refine .then_exit ?_|refine .block_exit ?_|refine .block_other rfl ?_); try refine .run TBok 99 rfl ?_))
  by_cases h0 : val xs = 0
  · refine St.condT rfl (by rw [h0]; rfl) ?_
    (iterate 6 ((repeat with_reducible first|refine .nil ?_|refine .then_normal ?_|refine .block_normal ?_|refine .seq ?_|refine .block ?_|refine .skip ?_|refine .region ?_|refine .ret ?_|refine .then_ret ?_|refine .block_ret ?_|refine .exit ?_|refine .then_exit ?_|refine .block_exit ?_|refine .block_other rfl ?_); try refine .run TBok 99 rfl ?_))
    exact Out.ret1 rfl rfl ⟨hx1, by rw [if_pos h0]⟩
  refine St.condF rfl (by simp [limbs_eq_nil, h0]) ?_
  (iterate 6 ((repeat with_reducible first|refine .nil ?_|refine .then_normal ?_|refine .block_normal ?_|refine .seq ?_|refine .block ?_|refine .skip ?_|refine .region ?_|refine .ret ?_|refine .then_ret ?_|refine .block_ret ?_|refine .exit ?_|refine .then_exit ?_|refine .block_exit ?_|refine .block_other rfl ?_); try refine .run TBok 99 rfl ?_))
  refine StL.step rfl rfl rfl (RunsTo.load TBok rfl rfl rfl (hb.cell rfl)).op ?_
  rintro _ _ ⟨rfl, rfl⟩
  (iterate 6 ((repeat with_reducible first|refine .nil ?_|refine .then_normal ?_|refine .block_normal ?_|refine .seq ?_|refine .block ?_|refine .skip ?_|refine .region ?_|refine .ret ?_|refine .then_ret ?_|refine .block_ret ?_|refine .exit ?_|refine .then_exit ?_|refine .block_exit ?_|refine .block_other rfl ?_); try refine .run TBok 99 rfl ?_))
  cases neg with
  | true =>
    refine St.condT rfl rfl ?_
    (iterate 6 ((repeat with_reducible first|refine .nil ?_|refine .then_normal ?_|refine .block_normal ?_|refine .seq ?_|refine .block ?_|refine .skip ?_|refine .region ?_|refine .ret ?_|refine .then_ret ?_|refine .block_ret ?_|refine .exit ?_|refine .then_exit ?_|refine .block_exit ?_|refine .block_other rfl ?_); try refine .run TBok 99 rfl ?_))
    exact Out.ret1 rfl rfl ⟨hx1, by rw [if_neg h0]; rfl⟩
  | false =>
    refine St.condF rfl rfl ?_
    (iterate 6 ((repeat with_reducible first|refine .nil ?_|refine .then_normal ?_|refine .block_normal ?_|refine .seq ?_|refine .block ?_|refine .skip ?_|refine .region ?_|refine .ret ?_|refine .then_ret ?_|refine .block_ret ?_|refine .exit ?_|refine .then_exit ?_|refine .block_exit ?_|refine .block_other rfl ?_); try refine .run TBok 99 rfl ?_))
    exact Out.ret1 rfl rfl ⟨hx1, by rw [if_neg h0]; rfl⟩

theorem sg_mul (na nb : Bool) (m k : Nat) : sg (!(na == nb)) (m * k) = sg na m * sg nb k := by
  cases na <;> cases nb <;> simp [sg, Int.mul_neg, Int.neg_mul]

set_option maxHeartbeats 400000 in
theorem mul_spec (w : World) (x y : Value) (na nb : Bool) (xs ys : List Nat) (h : Den w x na xs) (k : Den w y nb ys) (hlen : xs.length ≤ 10000000) (hl : ys.length ≤ 10000000) :
    Calls Try.prog 101 #[x, y] w (Ret fun r w' => Ext w w' ∧ Can w' r (sg na (val xs) * sg nb (val ys))) := by
  obtain ⟨p, cap, rfl, hs⟩ := h
  obtain ⟨q, cb, rfl, ks⟩ := k
  refine calls_of_St (args := [_, _]) Try.func101 rfl Try.ntmps101 rfl ?_
  (repeat with_reducible first|refine .nil ?_|refine .then_normal ?_|refine .block_normal ?_|refine .seq ?_|refine .block ?_|refine .skip ?_|refine .region ?_|refine .ret ?_|refine .then_ret ?_|refine .block_ret ?_|refine .exit ?_|refine .then_exit ?_|refine .block_exit ?_|refine .block_other rfl ?_)
  refine StL.step rfl rfl rfl (OpR.box rfl) ?_
  rintro _ w1 ⟨rfl, hb1, hx1, _⟩
  refine StL.step rfl rfl rfl (OpR.box rfl) ?_
  rintro _ w2 ⟨rfl, hb2, hx2, _⟩
  refine StL.step rfl rfl rfl (OpR.alloc TBok rfl) ?_
  rintro _ w3 ⟨rfl, hb3, hx3, _⟩
  have hx03 := (hx1.trans hx2).trans hx3
  have h3 := hs.ext hx03
  have k3 := ks.ext hx03
  have hba := (hb1.ext hx2).ext hx3
  have hbb := hb2.ext hx3
  have hl1 := limbs_length_le xs hs.2
  have hl2 := limbs_length_le ys ks.2
  have hl3 := limbs_mul_length (val xs) (val ys)
  (repeat with_reducible first|refine .nil ?_|refine .then_normal ?_|refine .block_normal ?_|refine .seq ?_|refine .block ?_|refine .skip ?_|refine .region ?_|refine .ret ?_|refine .then_ret ?_|refine .block_ret ?_|refine .exit ?_|refine .then_exit ?_|refine .block_exit ?_|refine .block_other rfl ?_)
  refine St.draw 13 [(5, Is (.pointer (some ⟨w.heap.size, 0, none⟩))), (6, Is (.bool na)), (7, Is (.pointer (some ⟨w1.heap.size, 0, none⟩))), (8, Is (.bool nb)), (9, Is (.bool (!(na == nb)))), (10, Is (.pointer (some ⟨w.heap.size, 1, none⟩))), (11, Is (.slice p xs.length cap)), (12, Is (.slice p (limbs (val xs)).length cap)), (13, Is (.pointer (some ⟨w1.heap.size, 1, none⟩))), (14, Is (.slice q ys.length cb)), (15, Is (.slice q (limbs (val ys)).length cb)), (16, fun v w' => SlO 0 w' v (limbs (val xs * val ys))), (17, fun v w' => Can w' v (sg na (val xs) * sg nb (val ys)))] TBfol (by kernel_rfl) rfl (by kernel_rfl) (by kernel_rfl)
    ⟨Is.mono _, Is.mono _, Is.mono _, Is.mono _, Is.mono _, Is.mono _, Is.mono _, Is.mono _, Is.mono _, Is.mono _, Is.mono _, fun _ _ _ hx hv => hv.ext hx, fun _ _ _ hx hv => hv.ext hx, trivial⟩ ?_ ?_
  · refine ⟨?_, ?_, ?_, ?_, ?_, ?_, ?_, ?_, ?_, ?_, ?_, ?_, ?_, trivial⟩
    · exact fun w4 hx4 => OpG.pure TBok rfl rfl rfl rfl rfl rfl
    · rintro w4 hx4 _ rfl
      exact OpG.run rfl rfl rfl rfl (RunsTo.load TBok rfl rfl rfl ((hba.ext hx4).cell rfl)) rfl
    · exact fun w4 hx4 => OpG.pure TBok rfl rfl rfl rfl rfl rfl
    · rintro w4 hx4 _ rfl
      exact OpG.run rfl rfl rfl rfl (RunsTo.load TBok rfl rfl rfl ((hbb.ext hx4).cell rfl)) rfl
    · rintro w4 hx4 _ rfl _ rfl
      exact OpG.run rfl rfl rfl rfl (RunsTo.boolNe TBok rfl rfl rfl) rfl
    · exact fun w4 hx4 => OpG.pure TBok rfl rfl rfl rfl rfl rfl
    · rintro w4 hx4 _ rfl
      exact OpG.run rfl rfl rfl rfl (RunsTo.load TBok rfl rfl rfl ((hba.ext hx4).cell rfl)) rfl
    · rintro w4 hx4 _ rfl
      refine OpG.call fn_integer_trim rfl rfl rfl (trim_spec w4 _ _ (h3.ext hx4) (by omega)) ?_
      rintro v w5 ⟨rfl, rfl, _⟩
      exact ⟨Ext.refl _, rfl⟩
    · exact fun w4 hx4 => OpG.pure TBok rfl rfl rfl rfl rfl rfl
    · rintro w4 hx4 _ rfl
      exact OpG.run rfl rfl rfl rfl (RunsTo.load TBok rfl rfl rfl ((hbb.ext hx4).cell rfl)) rfl
    · rintro w4 hx4 _ rfl
      refine OpG.call fn_integer_trim rfl rfl rfl (trim_spec w4 _ _ (k3.ext hx4) (by omega)) ?_
      rintro v w5 ⟨rfl, rfl, _⟩
      exact ⟨Ext.refl _, rfl⟩
    · rintro w4 hx4 _ rfl _ rfl
      refine OpG.call fn_integer_mulNat rfl rfl rfl (mulNat_spec w4 _ _ _ _ (Den.trimmed (_neg := na) (h3.ext hx4)) (Den.trimmed (_neg := nb) (k3.ext hx4)) (by omega) (by omega)) ?_
      rintro v w5 ⟨hx5, hv⟩
      rw [val_limbs, val_limbs] at hv
      exact ⟨hx5, hv.mono (Nat.zero_le _)⟩
    · rintro w4 hx4 _ rfl v16 h16
      refine OpG.call fn_integer_build rfl rfl rfl (build_spec' w4 _ v16 _ h16 (by omega)) ?_
      rintro v w5 ⟨hx5, hv⟩
      rw [sg_mul] at hv
      exact ⟨hx5, hv⟩
  intro w4 hx4 v5 _ v6 _ v7 _ v8 _ v9 _ v10 _ v11 _ v12 _ v13 _ v14 _ v15 _ v16 _ v17 h17 _
  refine StL.finCan rfl rfl (hb3.ext hx4) rfl h17 (hx03.trans hx4) (hx1.trans hx2).size ?_
  intro w' hxf hcf fin
  (repeat with_reducible first|refine .nil ?_|refine .then_normal ?_|refine .block_normal ?_|refine .seq ?_|refine .block ?_|refine .skip ?_|refine .region ?_|refine .ret ?_|refine .then_ret ?_|refine .block_ret ?_|refine .exit ?_|refine .then_exit ?_|refine .block_exit ?_|refine .block_other rfl ?_)
  exact fin _ _ rfl ⟨hxf, hcf⟩

set_option maxHeartbeats 400000 in
theorem igcd_spec (w : World) (x y : Value) (na nb : Bool) (xs ys : List Nat) (h : Den w x na xs) (k : Den w y nb ys) (hlen : xs.length ≤ 10000000) (hl : ys.length ≤ 10000000) :
    Calls Try.prog 89 #[x, y] w (Ret fun r w' => Ext w w' ∧ Can w' r ((Nat.gcd (val xs) (val ys) : Nat) : Int)) := by
  obtain ⟨p, cap, rfl, hs⟩ := h
  obtain ⟨q, cb, rfl, ks⟩ := k
  refine calls_of_St (args := [_, _]) Try.func89 rfl Try.ntmps89 rfl ?_
  (repeat with_reducible first|refine .nil ?_|refine .then_normal ?_|refine .block_normal ?_|refine .seq ?_|refine .block ?_|refine .skip ?_|refine .region ?_|refine .ret ?_|refine .then_ret ?_|refine .block_ret ?_|refine .exit ?_|refine .then_exit ?_|refine .block_exit ?_|refine .block_other rfl ?_)
  refine StL.step rfl rfl rfl (OpR.box rfl) ?_
  rintro _ w1 ⟨rfl, hb1, hx1, _⟩
  refine StL.step rfl rfl rfl (OpR.box rfl) ?_
  rintro _ w2 ⟨rfl, hb2, hx2, _⟩
  refine StL.step rfl rfl rfl (OpR.alloc TBok rfl) ?_
  rintro _ w3 ⟨rfl, hb3, hx3, _⟩
  have hx03 := (hx1.trans hx2).trans hx3
  have h3 := hs.ext hx03
  have k3 := ks.ext hx03
  have hba := (hb1.ext hx2).ext hx3
  have hbb := hb2.ext hx3
  have hl1 := limbs_length_le xs hs.2
  have hl2 := limbs_length_le ys ks.2
  have hl3 : (limbs (Nat.gcd (val xs) (val ys))).length ≤ 10000000 := by
    rcases Nat.eq_zero_or_pos (val xs) with h0 | h0
    · rw [h0, Nat.gcd_zero_left]; omega
    · exact Nat.le_trans (limbs_length_mono _ _ (Nat.gcd_le_left _ h0)) (by omega)
  (repeat with_reducible first|refine .nil ?_|refine .then_normal ?_|refine .block_normal ?_|refine .seq ?_|refine .block ?_|refine .skip ?_|refine .region ?_|refine .ret ?_|refine .then_ret ?_|refine .block_ret ?_|refine .exit ?_|refine .then_exit ?_|refine .block_exit ?_|refine .block_other rfl ?_)
  refine St.draw 8 [(5, Is (.pointer (some ⟨w.heap.size, 1, none⟩))), (6, Is (.slice p xs.length cap)), (7, Is (.slice p (limbs (val xs)).length cap)), (8, Is (.pointer (some ⟨w1.heap.size, 1, none⟩))), (9, Is (.slice q ys.length cb)), (10, Is (.slice q (limbs (val ys)).length cb)), (11, fun v w' => SlO 0 w' v (limbs (Nat.gcd (val xs) (val ys)))), (12, fun v w' => Can w' v ((Nat.gcd (val xs) (val ys) : Nat) : Int))] TBfol (by kernel_rfl) rfl (by kernel_rfl) (by kernel_rfl)
    ⟨Is.mono _, Is.mono _, Is.mono _, Is.mono _, Is.mono _, Is.mono _, fun _ _ _ hx hv => hv.ext hx, fun _ _ _ hx hv => hv.ext hx, trivial⟩ ?_ ?_
  · refine ⟨?_, ?_, ?_, ?_, ?_, ?_, ?_, ?_, trivial⟩
    · exact fun w4 hx4 => OpG.pure TBok rfl rfl rfl rfl rfl rfl
    · rintro w4 hx4 _ rfl
      exact OpG.run rfl rfl rfl rfl (RunsTo.load TBok rfl rfl rfl ((hba.ext hx4).cell rfl)) rfl
    · rintro w4 hx4 _ rfl
      refine OpG.call fn_integer_trim rfl rfl rfl (trim_spec w4 _ _ (h3.ext hx4) (by omega)) ?_
      rintro v w5 ⟨rfl, rfl, _⟩
      exact ⟨Ext.refl _, rfl⟩
    · exact fun w4 hx4 => OpG.pure TBok rfl rfl rfl rfl rfl rfl
    · rintro w4 hx4 _ rfl
      exact OpG.run rfl rfl rfl rfl (RunsTo.load TBok rfl rfl rfl ((hbb.ext hx4).cell rfl)) rfl
    · rintro w4 hx4 _ rfl
      refine OpG.call fn_integer_trim rfl rfl rfl (trim_spec w4 _ _ (k3.ext hx4) (by omega)) ?_
      rintro v w5 ⟨rfl, rfl, _⟩
      exact ⟨Ext.refl _, rfl⟩
    · rintro w4 hx4 _ rfl _ rfl
      refine OpG.call fn_integer_gcdNat rfl rfl rfl (gcdNat_spec w4 _ _ _ _ (Den.trimmed (_neg := na) (h3.ext hx4)) (Den.trimmed (_neg := nb) (k3.ext hx4)) (by omega) (by omega)) ?_
      rintro v w5 ⟨hx5, hv⟩
      exact ⟨hx5, hv.mono (Nat.zero_le _)⟩
    · rintro w4 hx4 v11 h11
      refine OpG.call fn_integer_build rfl rfl rfl (build_spec' w4 false v11 _ h11 (by omega)) ?_
      rintro v w5 ⟨hx5, hv⟩
      exact ⟨hx5, hv⟩
  intro w4 hx4 v5 _ v6 _ v7 _ v8 _ v9 _ v10 _ v11 _ v12 h12 _
  refine StL.finCan rfl rfl (hb3.ext hx4) rfl h12 (hx03.trans hx4) (hx1.trans hx2).size ?_
  intro w' hxf hcf fin
  (repeat with_reducible first|refine .nil ?_|refine .then_normal ?_|refine .block_normal ?_|refine .seq ?_|refine .block ?_|refine .skip ?_|refine .region ?_|refine .ret ?_|refine .then_ret ?_|refine .block_ret ?_|refine .exit ?_|refine .then_exit ?_|refine .block_exit ?_|refine .block_other rfl ?_)
  exact fin _ _ rfl ⟨hxf, hcf⟩

end Go.Qf

/- integer.Normalize, Neg, Sqrt, Cmp. -/
namespace Go.Qf
open Go Go.RowKit Go.Proofs
set_option maxRecDepth 20000

theorem clone_trim {w : World} {p : Option Addr} {cap : Nat} {xs : List Nat} (hs : Sl w (.slice p xs.length cap) xs) : Sl w (.slice p (limbs (val xs)).length cap) (limbs (val xs)) := Den.trimmed (_neg := true) hs

theorem trim_flow (w : World) (p : Option Addr) (cap : Nat) (xs : List Nat) (h : Sl w (.slice p xs.length cap) xs) (hlen : xs.length ≤ 1000000000) :
    Calls Try.prog 70 #[.slice p xs.length cap] w (Ret fun r w' => Ext w w' ∧ r = .slice p (limbs (val xs)).length cap) := by
  refine (trim_spec w _ xs h hlen).mono ?_
  rintro _ _ ⟨r, rfl, rfl, rfl, _⟩
  exact ⟨_, rfl, Ext.refl _, rfl⟩

theorem clone_flow {base : Nat} (w : World) (v : Value) (xs : List Nat) (h : Sl w v xs) (hlen : xs.length ≤ 1000000000) (hb : base ≤ w.heap.size) :
    Calls Try.prog 69 #[v] w (Ret fun r w' => Ext w w' ∧ SlO base w' r xs) := by
  refine (clone_spec w v xs h hlen).mono ?_
  rintro _ _ ⟨r, rfl, hx, hv⟩
  exact ⟨_, rfl, hx, hv.mono hb⟩

theorem neg_spec (w : World) (x : Value) (na : Bool) (xs : List Nat) (h : Den w x na xs) (hlen : xs.length ≤ 10000000) :
    Calls Try.prog 98 #[x] w (Ret fun r w' => Ext w w' ∧ Can w' r (- sg na (val xs))) := by
  obtain ⟨p, cap, rfl, hs⟩ := h
  refine calls_of_St (args := [_]) Try.func98 rfl Try.ntmps98 rfl ?_
  (repeat with_reducible first|refine .nil ?_|refine .then_normal ?_|refine .block_normal ?_|refine .seq ?_|refine .block ?_|refine .skip ?_|refine .region ?_|refine .ret ?_|refine .then_ret ?_|refine .block_ret ?_|refine .exit ?_|refine .then_exit ?_|refine .block_exit ?_|refine .block_other rfl ?_)
  refine StL.step rfl rfl rfl (OpR.box rfl) ?_
  rintro _ w1 ⟨rfl, hb1, hx1, hz1⟩
  refine StL.step rfl rfl rfl (OpR.alloc TBok rfl) ?_
  rintro _ w2 ⟨rfl, hb2, hx2, hz2⟩
  have hl1 := limbs_length_le xs hs.2
  (repeat with_reducible first|refine .nil ?_|refine .then_normal ?_|refine .block_normal ?_|refine .seq ?_|refine .block ?_|refine .skip ?_|refine .region ?_|refine .ret ?_|refine .then_ret ?_|refine .block_ret ?_|refine .exit ?_|refine .then_exit ?_|refine .block_exit ?_|refine .block_other rfl ?_)
  refine St.flow 8 TBfol (by kernel_rfl) rfl (by kernel_rfl) rfl True.intro ?_
  refine FL.run TBok 99 rfl ?_
  refine FL.load (L := []) TBok rfl rfl rfl rfl rfl rfl (by first | assumption | exact Ext.refl _ | (first | apply Blk.ext | apply CanO.ext | apply Den.ext | apply Sl.ext | apply SlO.ext | apply Dn.ext | apply It.ext | apply CanR.ext | apply DnR.ext | skip) <;> (repeat first | assumption | refine Ext.trans ?_ (by assumption))) (by simp) rfl ?_
  refine FL.run TBok 99 rfl ?_
  refine FL.load (L := []) TBok rfl rfl rfl rfl rfl rfl (by first | assumption | exact Ext.refl _ | (first | apply Blk.ext | apply CanO.ext | apply Den.ext | apply Sl.ext | apply SlO.ext | apply Dn.ext | apply It.ext | apply CanR.ext | apply DnR.ext | skip) <;> (repeat first | assumption | refine Ext.trans ?_ (by assumption))) (by simp) rfl ?_
  refine FL.callXE fn_integer_trim rfl rfl rfl (fun w4 hx4 => CallF.mk rfl (trim_flow w4 _ _ _ (by first | assumption | exact Ext.refl _ | (first | apply Blk.ext | apply CanO.ext | apply Den.ext | apply Sl.ext | apply SlO.ext | apply Dn.ext | apply It.ext | apply CanR.ext | apply DnR.ext | skip) <;> (repeat first | assumption | refine Ext.trans ?_ (by assumption))) (by omega))) ?_
  refine FL.callE fn_slices_Clone_uint32_uint32 rfl rfl rfl (fun w4 hx4 => CallF.mk rfl (clone_flow w4 _ _ (clone_trim (by first | assumption | exact Ext.refl _ | (first | apply Blk.ext | apply CanO.ext | apply Den.ext | apply Sl.ext | apply SlO.ext | apply Dn.ext | apply It.ext | apply CanR.ext | apply DnR.ext | skip) <;> (repeat first | assumption | refine Ext.trans ?_ (by assumption)))) (by omega) (Nat.zero_le _))) (MonoR.slO 0 _) ?_
  refine FL.callE fn_integer_build rfl rfl rfl (fun w4 hx4 v9 h9 => CallF.mk rfl (build_spec' w4 _ v9 _ h9 (by omega))) (MonoR.canO 0 _) ?_
  refine FL.endE rfl ?_
  intro w4 hx4 v10 h10 v9 _ _ _
  rw [sg_not] at h10
  refine StL.finCan rfl rfl (by first | assumption | exact Ext.refl _ | (first | apply Blk.ext | apply CanO.ext | apply Den.ext | apply Sl.ext | apply SlO.ext | apply Dn.ext | apply It.ext | apply CanR.ext | apply DnR.ext | skip) <;> (repeat first | assumption | refine Ext.trans ?_ (by assumption))) rfl h10 (w0 := w) (by first | assumption | exact Ext.refl _ | (first | apply Blk.ext | apply CanO.ext | apply Den.ext | apply Sl.ext | apply SlO.ext | apply Dn.ext | apply It.ext | apply CanR.ext | apply DnR.ext | skip) <;> (repeat first | assumption | refine Ext.trans ?_ (by assumption))) hx1.size ?_
  intro w' hxf hcf fin
  (repeat with_reducible first|refine .nil ?_|refine .then_normal ?_|refine .block_normal ?_|refine .seq ?_|refine .block ?_|refine .skip ?_|refine .region ?_|refine .ret ?_|refine .then_ret ?_|refine .block_ret ?_|refine .exit ?_|refine .then_exit ?_|refine .block_exit ?_|refine .block_other rfl ?_)
  exact fin _ _ rfl ⟨hxf, hcf⟩

/-- The result lies in new memory. -/
theorem normalize_spec (w : World) (x : Value) (na : Bool) (xs : List Nat) (h : Den w x na xs) (hlen : xs.length ≤ 10000000) :
    Calls Try.prog 79 #[x] w (Ret fun r w' => Ext w w' ∧ CanO w.heap.size w' r (sg na (val xs))) := by
  obtain ⟨p, cap, rfl, hs⟩ := h
  refine calls_of_St (args := [_]) Try.func79 rfl Try.ntmps79 rfl ?_
  (repeat with_reducible first|refine .nil ?_|refine .then_normal ?_|refine .block_normal ?_|refine .seq ?_|refine .block ?_|refine .skip ?_|refine .region ?_|refine .ret ?_|refine .then_ret ?_|refine .block_ret ?_|refine .exit ?_|refine .then_exit ?_|refine .block_exit ?_|refine .block_other rfl ?_)
  refine StL.step rfl rfl rfl (OpR.box rfl) ?_
  rintro _ w1 ⟨rfl, hb1, hx1, hz1⟩
  refine StL.step rfl rfl rfl (OpR.alloc TBok rfl) ?_
  rintro _ w2 ⟨rfl, hb2, hx2, hz2⟩
  have hl1 := limbs_length_le xs hs.2
  (repeat with_reducible first|refine .nil ?_|refine .then_normal ?_|refine .block_normal ?_|refine .seq ?_|refine .block ?_|refine .skip ?_|refine .region ?_|refine .ret ?_|refine .then_ret ?_|refine .block_ret ?_|refine .exit ?_|refine .then_exit ?_|refine .block_exit ?_|refine .block_other rfl ?_)
  refine St.flow 7 TBfol (by kernel_rfl) rfl (by kernel_rfl) rfl True.intro ?_
  refine FL.run TBok 99 rfl ?_
  refine FL.load (L := []) TBok rfl rfl rfl rfl rfl rfl (by first | assumption | exact Ext.refl _ | (first | apply Blk.ext | apply CanO.ext | apply Den.ext | apply Sl.ext | apply SlO.ext | apply Dn.ext | apply It.ext | apply CanR.ext | apply DnR.ext | skip) <;> (repeat first | assumption | refine Ext.trans ?_ (by assumption))) (by simp) rfl ?_
  refine FL.run TBok 99 rfl ?_
  refine FL.load (L := []) TBok rfl rfl rfl rfl rfl rfl (by first | assumption | exact Ext.refl _ | (first | apply Blk.ext | apply CanO.ext | apply Den.ext | apply Sl.ext | apply SlO.ext | apply Dn.ext | apply It.ext | apply CanR.ext | apply DnR.ext | skip) <;> (repeat first | assumption | refine Ext.trans ?_ (by assumption))) (by simp) rfl ?_
  refine FL.callXE fn_integer_trim rfl rfl rfl (fun w4 hx4 => CallF.mk rfl (trim_flow w4 _ _ _ (by first | assumption | exact Ext.refl _ | (first | apply Blk.ext | apply CanO.ext | apply Den.ext | apply Sl.ext | apply SlO.ext | apply Dn.ext | apply It.ext | apply CanR.ext | apply DnR.ext | skip) <;> (repeat first | assumption | refine Ext.trans ?_ (by assumption))) (by omega))) ?_
  refine FL.callE fn_slices_Clone_uint32_uint32 rfl rfl rfl (fun w4 hx4 => CallF.mk rfl (clone_flow w4 _ _ (clone_trim (by first | assumption | exact Ext.refl _ | (first | apply Blk.ext | apply CanO.ext | apply Den.ext | apply Sl.ext | apply SlO.ext | apply Dn.ext | apply It.ext | apply CanR.ext | apply DnR.ext | skip) <;> (repeat first | assumption | refine Ext.trans ?_ (by assumption)))) (by omega) (Nat.le_trans ((hx1.trans hx2).trans hx4).size (Nat.le_refl _)))) (MonoR.slO w.heap.size _) ?_
  refine FL.callE fn_integer_build rfl rfl rfl (fun w4 hx4 v9 h9 => CallF.mk rfl (build_specO w4 _ v9 _ h9 (by omega))) (MonoR.canO w.heap.size _) ?_
  refine FL.endE rfl ?_
  intro w4 hx4 v10 h10 v9 _ _ _
  refine StL.finCan rfl rfl (by first | assumption | exact Ext.refl _ | (first | apply Blk.ext | apply CanO.ext | apply Den.ext | apply Sl.ext | apply SlO.ext | apply Dn.ext | apply It.ext | apply CanR.ext | apply DnR.ext | skip) <;> (repeat first | assumption | refine Ext.trans ?_ (by assumption))) rfl h10 (w0 := w) (by first | assumption | exact Ext.refl _ | (first | apply Blk.ext | apply CanO.ext | apply Den.ext | apply Sl.ext | apply SlO.ext | apply Dn.ext | apply It.ext | apply CanR.ext | apply DnR.ext | skip) <;> (repeat first | assumption | refine Ext.trans ?_ (by assumption))) hx1.size ?_
  intro w' hxf hcf fin
  (repeat with_reducible first|refine .nil ?_|refine .then_normal ?_|refine .block_normal ?_|refine .seq ?_|refine .block ?_|refine .skip ?_|refine .region ?_|refine .ret ?_|refine .then_ret ?_|refine .block_ret ?_|refine .exit ?_|refine .then_exit ?_|refine .block_exit ?_|refine .block_other rfl ?_)
  exact fin _ _ rfl ⟨hxf, hcf⟩

/-- What Sqrt hands back. -/
def SqrtV (w : World) (r : Value) (a : Int) : Prop :=
  (a < 0 → r = .tuple #[IntV false (.slice none 0 0), .bool false]) ∧ (0 ≤ a → ∃ v x, r = .tuple #[v, .bool true] ∧ IsRoot a.natAbs x ∧ Can w v (x : Int))

set_option maxHeartbeats 400000 in
theorem isqrt_spec (w : World) (x : Value) (na : Bool) (xs : List Nat) (h : Den w x na xs) (hlen : xs.length ≤ 1000000) :
    Calls Try.prog 68 #[x] w (Ret fun r w' => Ext w w' ∧ SqrtV w' r (sg na (val xs))) := by
  have hD := h
  obtain ⟨p, cap, rfl, hs⟩ := h
  refine calls_of_St (args := [_]) Try.func68 rfl Try.ntmps68 rfl ?_
  (repeat with_reducible first|refine .nil ?_|refine .then_normal ?_|refine .block_normal ?_|refine .seq ?_|refine .block ?_|refine .skip ?_|refine .region ?_|refine .ret ?_|refine .then_ret ?_|refine .block_ret ?_|refine .exit ?_|refine .then_exit ?_|refine .block_exit ?_|refine .block_other rfl ?_)
  refine StL.step rfl rfl rfl (OpR.box rfl) ?_
  rintro _ w1 ⟨rfl, hb1, hx1, _⟩
  refine StL.step rfl rfl rfl (OpR.alloc TBok rfl) ?_
  rintro _ w2 ⟨rfl, hb2, hx2, _⟩
  have hx02 := hx1.trans hx2
  have hba := hb1.ext hx2
  have hl1 := limbs_length_le xs hs.2
  (iterate 6 ((repeat with_reducible first|refine .nil ?_|refine .then_normal ?_|refine .block_normal ?_|refine .seq ?_|refine .block ?_|refine .skip ?_|refine .region ?_|refine .ret ?_|refine .then_ret ?_|refine .block_ret ?_|refine .exit ?_|refine .then_exit ?_|refine .block_exit ?_|refine .block_other rfl ?_); try refine .run TBok 99 rfl ?_))
  refine StL.step rfl rfl rfl (RunsTo.loadInt rfl hba rfl rfl).op ?_
  rintro _ _ ⟨rfl, rfl⟩
  refine StL.step rfl rfl rfl (OpR.call fn_integer_Sign rfl (sign_spec w2 _ na xs (hD.ext hx02) (by omega))) ?_
  rintro _ w3 ⟨hx3, rfl⟩
  have hx03 := hx02.trans hx3
  have hb3 := hb2.ext hx3
  have hba3 := hba.ext hx3
  have hs3 := hs.ext hx03
  (iterate 6 ((repeat with_reducible first|refine .nil ?_|refine .then_normal ?_|refine .block_normal ?_|refine .seq ?_|refine .block ?_|refine .skip ?_|refine .region ?_|refine .ret ?_|refine .then_ret ?_|refine .block_ret ?_|refine .exit ?_|refine .then_exit ?_|refine .block_exit ?_|refine .block_other rfl ?_); try refine .run TBok 99 rfl ?_))
  by_cases hneg : sg na (val xs) < 0
  · refine St.condT rfl (by simp [signI, hneg]) ?_
    (iterate 6 ((repeat with_reducible first|refine .nil ?_|refine .then_normal ?_|refine .block_normal ?_|refine .seq ?_|refine .block ?_|refine .skip ?_|refine .region ?_|refine .ret ?_|refine .then_ret ?_|refine .block_ret ?_|refine .exit ?_|refine .then_exit ?_|refine .block_exit ?_|refine .block_other rfl ?_); try refine .run TBok 99 rfl ?_))
    refine StL.step rfl rfl rfl (RunsTo.build TBok rfl rfl rfl rfl).op ?_
    rintro _ _ ⟨rfl, rfl⟩
    refine StL.step0 rfl rfl (OpR.store TBok (vs := [.bool false, .slice none 0 0]) rfl rfl rfl rfl rfl hb3 (Nat.le_refl _) (by simp [Value.oneCell'])) ?_
    rintro _ w4 ⟨hb4, hu4⟩
    (iterate 6 ((repeat with_reducible first|refine .nil ?_|refine .then_normal ?_|refine .block_normal ?_|refine .seq ?_|refine .block ?_|refine .skip ?_|refine .region ?_|refine .ret ?_|refine .then_ret ?_|refine .block_ret ?_|refine .exit ?_|refine .then_exit ?_|refine .block_exit ?_|refine .block_other rfl ?_); try refine .run TBok 99 rfl ?_))
    exact Out.rets TBok [IntV false (.slice none 0 0), .bool false] rfl ⟨⟨_, _, _, _, rfl, hb4, rfl, rfl, rfl, rfl⟩, rfl, trivial⟩ ⟨hx03.then_upd hu4 hx1.size, fun _ => rfl, fun h0 => by omega⟩
  · refine St.condF rfl (by simp only [signI, if_neg hneg]; split <;> decide) ?_
    (iterate 6 ((repeat with_reducible first|refine .nil ?_|refine .then_normal ?_|refine .block_normal ?_|refine .seq ?_|refine .block ?_|refine .skip ?_|refine .region ?_|refine .ret ?_|refine .then_ret ?_|refine .block_ret ?_|refine .exit ?_|refine .then_exit ?_|refine .block_exit ?_|refine .block_other rfl ?_); try refine .run TBok 99 rfl ?_))
    refine StL.step rfl rfl rfl (RunsTo.load TBok rfl rfl rfl (hba3.cell rfl)).op ?_
    rintro _ _ ⟨rfl, rfl⟩
    refine StL.step rfl rfl rfl (OpR.call fn_integer_trim rfl (trim_spec w3 _ _ hs3 (by omega))) ?_
    rintro _ w4 ⟨rfl, rfl, ht⟩
    refine StL.step rfl rfl rfl (OpR.call fn_integer_sqrtNat rfl (sqrtNat_spec _ _ _ ht (by omega))) ?_
    rintro sl w5 ⟨hx5, y, hy, hsl⟩
    have hyl : (limbs y).length ≤ 1000000 := by
      refine Nat.le_trans (limbs_length_mono y (val xs) ?_) (by omega)
      have := hy.1
      rcases Nat.eq_zero_or_pos y with h0 | h0
      · omega
      · exact Nat.le_trans (Nat.le_mul_of_pos_left y h0) this
    refine StL.step rfl rfl rfl (OpR.call fn_integer_build rfl (build_spec' w5 false sl y hsl (by omega))) ?_
    rintro v w6 ⟨hx6, hv⟩
    have hb6 := (hb3.ext hx5).ext hx6
    refine StL.retCan rfl rfl hb6 rfl hv ((hx03.trans hx5).trans hx6) hx1.size ?_
    intro w7 cs hcs hl hb7 hu7 hx7
    (iterate 6 ((repeat with_reducible first|refine .nil ?_|refine .then_normal ?_|refine .block_normal ?_|refine .seq ?_|refine .block ?_|refine .skip ?_|refine .region ?_|refine .ret ?_|refine .then_ret ?_|refine .block_ret ?_|refine .exit ?_|refine .then_exit ?_|refine .block_exit ?_|refine .block_other rfl ?_); try refine .run TBok 99 rfl ?_))
    refine Out.rets TBok [v, .bool true] rfl ⟨⟨_, _, _, _, rfl, hb7, rfl, rfl, hl, hcs⟩, rfl, trivial⟩ ⟨hx7, fun h0 => absurd h0 hneg, fun _ => ⟨v, y, rfl, ?_, Can.upd hv hu7 ⟨_, hb6⟩⟩⟩
    rw [sg_abs]; exact hy

end Go.Qf

/- integer.Cmp. -/
namespace Go.Qf
open Go Go.RowKit Go.Proofs
set_option maxRecDepth 20000

/-- The order of two integers. -/
def cmpI (a b : Int) : Int := if a < b then -1 else if b < a then 1 else 0

theorem cmpI_sign (na nb : Bool) (m k : Nat) (h : signI (sg na m) = signI (sg nb k)) : signI (sg na m) * cmpN m k = cmpI (sg na m) (sg nb k) := by
  rw [signI_sg, signI_sg] at h
  rw [signI_sg]
  unfold cmpN cmpI sg
  by_cases hm : m = 0 <;> by_cases hk : k = 0 <;> cases na <;> cases nb <;> simp [hm, hk] at h ⊢ <;> (repeat' split) <;> omega

theorem cmpI_lt (a b : Int) (h : signI a < signI b) : cmpI a b = -1 := by
  unfold signI at h
  unfold cmpI
  rw [if_pos]
  revert h
  split <;> split <;> (try split) <;> intro h <;> omega

theorem cmpI_gt (a b : Int) (h : signI b < signI a) : cmpI a b = 1 := by
  unfold signI at h
  unfold cmpI
  have : b < a := by
    revert h
    split <;> split <;> (try split) <;> intro h <;> omega
  rw [if_neg (by omega), if_pos this]

theorem signI_bound (a : Int) : -1 ≤ signI a ∧ signI a ≤ 1 := by
  unfold signI
  split
  · omega
  · split <;> omega

theorem cmpN_bound (m k : Nat) : -1 ≤ cmpN m k ∧ cmpN m k ≤ 1 := by
  unfold cmpN
  split
  · omega
  · split <;> omega

theorem mul_small {a b : Int} (ha : -1 ≤ a ∧ a ≤ 1) (hb : -1 ≤ b ∧ b ≤ 1) : -1 ≤ a * b ∧ a * b ≤ 1 := by
  have : a = -1 ∨ a = 0 ∨ a = 1 := by omega
  rcases this with rfl | rfl | rfl <;> omega

set_option maxHeartbeats 400000 in
theorem icmp_spec (w : World) (x y : Value) (na nb : Bool) (xs ys : List Nat) (h : Den w x na xs) (k : Den w y nb ys) (hlen : xs.length ≤ 10000000) (hl : ys.length ≤ 10000000) :
    Calls Try.prog 88 #[x, y] w (Ret fun r w' => Ext w w' ∧ r = .int .i64 (cmpI (sg na (val xs)) (sg nb (val ys)))) := by
  have hD := h
  have kD := k
  obtain ⟨p, cap, rfl, hs⟩ := h
  obtain ⟨q, cb, rfl, ks⟩ := k
  refine calls_of_St (args := [_, _]) Try.func88 rfl Try.ntmps88 rfl ?_
  (repeat with_reducible first|refine .nil ?_|refine .then_normal ?_|refine .block_normal ?_|refine .seq ?_|refine .block ?_|refine .skip ?_|refine .region ?_|refine .ret ?_|refine .then_ret ?_|refine .block_ret ?_|refine .exit ?_|refine .then_exit ?_|refine .block_exit ?_|refine .block_other rfl ?_)
  refine StL.step rfl rfl rfl (OpR.box rfl) ?_
  rintro _ w1 ⟨rfl, hb1, hx1, _⟩
  refine StL.step rfl rfl rfl (OpR.box rfl) ?_
  rintro _ w2 ⟨rfl, hb2, hx2, _⟩
  have hx02 := hx1.trans hx2
  have hba := hb1.ext hx2
  have hl1 := limbs_length_le xs hs.2
  have hl2 := limbs_length_le ys ks.2
  have hsa := signI_bound (sg na (val xs))
  have hsb := signI_bound (sg nb (val ys))
  refine .run TBok 99 rfl ?_
  (repeat with_reducible first|refine .nil ?_|refine .then_normal ?_|refine .block_normal ?_|refine .seq ?_|refine .block ?_|refine .skip ?_|refine .region ?_|refine .ret ?_|refine .then_ret ?_|refine .block_ret ?_|refine .exit ?_|refine .then_exit ?_|refine .block_exit ?_|refine .block_other rfl ?_)
  refine St.draw 4 [(7, Is (IntV na (.slice p xs.length cap))), (8, Is (.int .i64 (signI (sg na (val xs))))), (9, Is (IntV nb (.slice q ys.length cb))), (10, Is (.int .i64 (signI (sg nb (val ys)))))] TBfol (by kernel_rfl) rfl (by kernel_rfl) (by kernel_rfl)
    ⟨Is.mono _, Is.mono _, Is.mono _, Is.mono _, trivial⟩ ?_ ?_
  · refine ⟨?_, ?_, ?_, ?_, trivial⟩
    · exact fun w4 hx4 => OpG.run rfl rfl rfl rfl (RunsTo.loadInt rfl (hba.ext hx4) rfl rfl) rfl
    · rintro w4 hx4 _ rfl
      refine OpG.call fn_integer_Sign rfl rfl rfl (sign_spec w4 _ na xs (hD.ext (hx02.trans hx4)) (by omega)) ?_
      rintro v w5 ⟨hx5, rfl⟩
      exact ⟨hx5, rfl⟩
    · exact fun w4 hx4 => OpG.run rfl rfl rfl rfl (RunsTo.loadInt rfl (hb2.ext hx4) rfl rfl) rfl
    · rintro w4 hx4 _ rfl
      refine OpG.call fn_integer_Sign rfl rfl rfl (sign_spec w4 _ nb ys (kD.ext (hx02.trans hx4)) (by omega)) ?_
      rintro v w5 ⟨hx5, rfl⟩
      exact ⟨hx5, rfl⟩
  rintro w4 hx4 _ rfl _ rfl _ rfl _ rfl _
  have hx04 := hx02.trans hx4
  have hba4 := hba.ext hx4
  have hbb4 := hb2.ext hx4
  have h4 := hs.ext hx04
  have k4 := ks.ext hx04
  (iterate 6 ((repeat with_reducible first|refine .nil ?_|refine .then_normal ?_|refine .block_normal ?_|refine .seq ?_|refine .block ?_|refine .skip ?_|refine .region ?_|refine .ret ?_|refine .then_ret ?_|refine .block_ret ?_|refine .exit ?_|refine .then_exit ?_|refine .block_exit ?_|refine .block_other rfl ?_); try refine .run TBok 99 rfl ?_))
  by_cases hlt : signI (sg na (val xs)) < signI (sg nb (val ys))
  · refine St.condT rfl (by simpa using hlt) ?_
    (iterate 6 ((repeat with_reducible first|refine .nil ?_|refine .then_normal ?_|refine .block_normal ?_|refine .seq ?_|refine .block ?_|refine .skip ?_|refine .region ?_|refine .ret ?_|refine .then_ret ?_|refine .block_ret ?_|refine .exit ?_|refine .then_exit ?_|refine .block_exit ?_|refine .block_other rfl ?_); try refine .run TBok 99 rfl ?_))
    exact Out.ret1 rfl rfl ⟨hx04, by rw [cmpI_lt _ _ hlt]⟩
  refine St.condF rfl (by simp; omega) ?_
  (iterate 6 ((repeat with_reducible first|refine .nil ?_|refine .then_normal ?_|refine .block_normal ?_|refine .seq ?_|refine .block ?_|refine .skip ?_|refine .region ?_|refine .ret ?_|refine .then_ret ?_|refine .block_ret ?_|refine .exit ?_|refine .then_exit ?_|refine .block_exit ?_|refine .block_other rfl ?_); try refine .run TBok 99 rfl ?_))
  by_cases hgt : signI (sg nb (val ys)) < signI (sg na (val xs))
  · refine St.condT rfl (by simpa using hgt) ?_
    (iterate 6 ((repeat with_reducible first|refine .nil ?_|refine .then_normal ?_|refine .block_normal ?_|refine .seq ?_|refine .block ?_|refine .skip ?_|refine .region ?_|refine .ret ?_|refine .then_ret ?_|refine .block_ret ?_|refine .exit ?_|refine .then_exit ?_|refine .block_exit ?_|refine .block_other rfl ?_); try refine .run TBok 99 rfl ?_))
    exact Out.ret1 rfl rfl ⟨hx04, by rw [cmpI_gt _ _ hgt]⟩
  refine St.condF rfl (by simp; omega) ?_
  have heq : signI (sg na (val xs)) = signI (sg nb (val ys)) := by omega
  have hfin := cmpI_sign na nb (val xs) (val ys) heq
  have hcb := cmpN_bound (val xs) (val ys)
  have hms := mul_small hsa hcb
  rw [← hfin]
  generalize signI (sg na (val xs)) = sv at *
  generalize hcn : cmpN (val xs) (val ys) = cv at *
  (repeat with_reducible first|refine .nil ?_|refine .then_normal ?_|refine .block_normal ?_|refine .seq ?_|refine .block ?_|refine .skip ?_|refine .region ?_|refine .ret ?_|refine .then_ret ?_|refine .block_ret ?_|refine .exit ?_|refine .then_exit ?_|refine .block_exit ?_|refine .block_other rfl ?_)
  refine St.sub (E' := [(2, .pointer (some ⟨w.heap.size, 0, none⟩)), (3, .pointer (some ⟨w1.heap.size, 0, none⟩)), (5, .int .i64 sv)]) ?_ ⟨rfl, rfl, rfl, trivial⟩
  refine St.draw 9 [(19, Is (.int .i64 sv)), (20, Is (.pointer (some ⟨w.heap.size, 1, none⟩))), (21, Is (.slice p xs.length cap)), (22, Is (.slice p (limbs (val xs)).length cap)), (23, Is (.pointer (some ⟨w1.heap.size, 1, none⟩))), (24, Is (.slice q ys.length cb)), (25, Is (.slice q (limbs (val ys)).length cb)), (26, Is (.int .i64 cv)), (27, Is (.int .i64 (sv * cv)))] TBfol (by kernel_rfl) rfl (by kernel_rfl) (by kernel_rfl)
    ⟨Is.mono _, Is.mono _, Is.mono _, Is.mono _, Is.mono _, Is.mono _, Is.mono _, Is.mono _, Is.mono _, trivial⟩ ?_ ?_
  · refine ⟨?_, ?_, ?_, ?_, ?_, ?_, ?_, ?_, ?_, trivial⟩
    · exact fun w5 hx5 => OpG.pure TBok rfl rfl rfl rfl rfl rfl
    · exact fun w5 hx5 => OpG.pure TBok rfl rfl rfl rfl rfl rfl
    · rintro w5 hx5 _ rfl
      exact OpG.run rfl rfl rfl rfl (RunsTo.load TBok rfl rfl rfl ((hba4.ext hx5).cell rfl)) rfl
    · rintro w5 hx5 _ rfl
      refine OpG.call fn_integer_trim rfl rfl rfl (trim_spec w5 _ _ (h4.ext hx5) (by omega)) ?_
      rintro v w6 ⟨rfl, rfl, _⟩
      exact ⟨Ext.refl _, rfl⟩
    · exact fun w5 hx5 => OpG.pure TBok rfl rfl rfl rfl rfl rfl
    · rintro w5 hx5 _ rfl
      exact OpG.run rfl rfl rfl rfl (RunsTo.load TBok rfl rfl rfl ((hbb4.ext hx5).cell rfl)) rfl
    · rintro w5 hx5 _ rfl
      refine OpG.call fn_integer_trim rfl rfl rfl (trim_spec w5 _ _ (k4.ext hx5) (by omega)) ?_
      rintro v w6 ⟨rfl, rfl, _⟩
      exact ⟨Ext.refl _, rfl⟩
    · rintro w5 hx5 _ rfl _ rfl
      refine OpG.call fn_integer_compareNat rfl rfl rfl (compareNat_spec w5 _ _ _ _ (clone_trim (h4.ext hx5)) (clone_trim (k4.ext hx5)) (by omega) (by omega)) ?_
      rintro v w6 ⟨hx6, rfl⟩
      exact ⟨hx6, by rw [hcn]; rfl⟩
    · rintro w5 hx5 _ rfl _ rfl
      exact OpG.pure TBok rfl rfl rfl rfl rfl (by rw [i64_id (by omega) (by omega)]; rfl)
  rintro w5 hx5 v19 _ v20 _ v21 _ v22 _ v23 _ v24 _ v25 _ v26 _ _ rfl _
  (iterate 6 ((repeat with_reducible first|refine .nil ?_|refine .then_normal ?_|refine .block_normal ?_|refine .seq ?_|refine .block ?_|refine .skip ?_|refine .region ?_|refine .ret ?_|refine .then_ret ?_|refine .block_ret ?_|refine .exit ?_|refine .then_exit ?_|refine .block_exit ?_|refine .block_other rfl ?_); try refine .run TBok 99 rfl ?_))
  exact Out.ret1 rfl rfl ⟨hx04.trans hx5, rfl⟩

/-- Quotient and remainder out of what they must be. -/
theorem ediv_of {a b q r : Int} (h : a = b * q + r) (h0 : 0 ≤ r) (h1 : r < b.natAbs) (_hb : b ≠ 0) : a / b = q ∧ a % b = r := by
  rcases Int.lt_or_gt_of_ne _hb with hneg | hpos
  · obtain ⟨c, rfl⟩ : ∃ c, b = -c := ⟨-b, by omega⟩
    have hc : 0 < c := by omega
    have hcn : ((-c).natAbs : Int) = c := by omega
    have key := (Int.ediv_emod_unique (a := a) (b := c) (r := r) (q := -q) hc).2 ⟨by rw [h, Int.neg_mul, Int.mul_neg]; omega, h0, by omega⟩
    constructor
    · rw [Int.ediv_neg, key.1]; omega
    · rw [Int.emod_neg]; exact key.2
  · have hcn : (b.natAbs : Int) = b := by omega
    exact (Int.ediv_emod_unique (a := a) (b := b) (r := r) (q := q) hpos).2 ⟨by omega, h0, by omega⟩

end Go.Qf

/- integer.DivMod. -/
namespace Go.Qf
open Go Go.RowKit Go.Proofs
set_option maxRecDepth 20000

/-- What DivMod hands back. -/
def DivV (base : Nat) (w : World) (r : Value) (a b : Int) : Prop :=
  (b = 0 → r = .tuple #[IntV false (.slice none 0 0), IntV false (.slice none 0 0), .bool false]) ∧ (b ≠ 0 → ∃ q m, r = .tuple #[q, m, .bool true] ∧ CanO base w q (a / b) ∧ CanO base w m (a % b))

/-- The quotient as the program finds it. -/
theorem div_law (na nb : Bool) (m k : Nat) (hk : k ≠ 0) :
    ((na = true ∧ m % k ≠ 0) → sg na m / sg nb k = sg (!nb) (m / k + 1) ∧ sg na m % sg nb k = ((k - m % k : Nat) : Int)) ∧
    ((na = true ∧ m % k = 0) → sg na m / sg nb k = sg (!nb) (m / k) ∧ sg na m % sg nb k = ((m % k : Nat) : Int)) ∧
    (na = false → sg na m / sg nb k = sg nb (m / k) ∧ sg na m % sg nb k = ((m % k : Nat) : Int)) := by
  have hm := Nat.div_add_mod m k
  have hlt := Nat.mod_lt m (Nat.pos_of_ne_zero hk)
  have hb : sg nb k ≠ 0 := by cases nb <;> simp [sg] <;> omega
  have hab : (sg nb k).natAbs = k := sg_abs nb k
  have hmI : (k : Int) * ((m / k : Nat) : Int) + ((m % k : Nat) : Int) = m := by exact_mod_cast hm
  generalize m / k = q at *
  generalize m % k = r at *
  refine ⟨?_, ?_, ?_⟩
  · rintro ⟨rfl, hr⟩
    refine ediv_of ?_ (by omega) (by rw [hab]; omega) hb
    rw [Int.ofNat_sub (by omega)]
    cases nb <;> simp only [sg, Bool.not_true, Bool.not_false, if_true, if_false, Bool.false_eq_true, Int.mul_neg, Int.neg_mul, Int.natCast_add, Int.mul_add] <;> omega
  · rintro ⟨rfl, hr⟩
    refine ediv_of ?_ (by omega) (by rw [hab]; omega) hb
    subst hr
    cases nb <;> simp only [sg, Bool.not_true, Bool.not_false, if_true, if_false, Bool.false_eq_true, Int.mul_neg, Int.neg_mul] <;> omega
  · rintro rfl
    refine ediv_of ?_ (by omega) (by rw [hab]; omega) hb
    cases nb <;> simp only [sg, if_true, if_false, Bool.false_eq_true, Int.mul_neg, Int.neg_mul, Int.neg_neg] <;> omega

theorem one_sl {base b : Nat} {w : World} (hb : Blk 41 w b [.int .u32 1]) (hg : base ≤ b) : SlO base w (.slice (some ⟨b, 0, none⟩) 1 1) [1] :=
  SlO.closed (D := []) hb (by intro x hx; simp at hx; omega) rfl hg rfl (by decide)

set_option maxHeartbeats 800000 in
theorem divMod_spec (w : World) (x y : Value) (na nb : Bool) (xs ys : List Nat) (h : Den w x na xs) (k : Den w y nb ys) (hlen : xs.length ≤ 9000000) (hl : ys.length ≤ 9000000) :
    Calls Try.prog 65 #[x, y] w (Ret fun r w' => Ext w w' ∧ DivV w.heap.size w' r (sg na (val xs)) (sg nb (val ys))) := by
  obtain ⟨p, cap, rfl, hs⟩ := h
  obtain ⟨q, cb, rfl, ks⟩ := k
  refine calls_of_St (args := [_, _]) Try.func65 rfl Try.ntmps65 rfl ?_
  (repeat with_reducible first|refine .nil ?_|refine .then_normal ?_|refine .block_normal ?_|refine .seq ?_|refine .block ?_|refine .skip ?_|refine .region ?_|refine .ret ?_|refine .then_ret ?_|refine .block_ret ?_|refine .exit ?_|refine .then_exit ?_|refine .block_exit ?_|refine .block_other rfl ?_)
  refine StL.step rfl rfl rfl (OpR.box rfl) ?_
  rintro _ w1 ⟨rfl, hb1, hx1, hz1⟩
  refine StL.step rfl rfl rfl (OpR.box rfl) ?_
  rintro _ w2 ⟨rfl, hb2, hx2, hz2⟩
  refine StL.step rfl rfl rfl (OpR.alloc TBok rfl) ?_
  rintro _ w3 ⟨rfl, hb3, hx3, hz3⟩
  refine StL.step rfl rfl rfl (OpR.alloc TBok rfl) ?_
  rintro _ w4 ⟨rfl, hb4, hx4, hz4⟩
  have hx04 := ((hx1.trans hx2).trans hx3).trans hx4
  have h4 := hs.ext hx04
  have k4 := ks.ext hx04
  have hba := ((hb1.ext hx2).ext hx3).ext hx4
  have hbb := (hb2.ext hx3).ext hx4
  have hbq := hb3.ext hx4
  have hl1 := limbs_length_le xs hs.2
  have hl2 := limbs_length_le ys ks.2
  (iterate 6 ((repeat with_reducible first|refine .nil ?_|refine .then_normal ?_|refine .block_normal ?_|refine .seq ?_|refine .block ?_|refine .skip ?_|refine .region ?_|refine .ret ?_|refine .then_ret ?_|refine .block_ret ?_|refine .exit ?_|refine .then_exit ?_|refine .block_exit ?_|refine .block_other rfl ?_); try refine .run TBok 99 rfl ?_))
  refine StL.step rfl rfl rfl (RunsTo.load TBok rfl rfl rfl (hbb.cell rfl)).op ?_
  rintro _ _ ⟨rfl, rfl⟩
  refine StL.step rfl rfl rfl (OpR.call fn_integer_trim rfl (trim_spec w4 _ _ k4 (by omega))) ?_
  rintro _ w4 ⟨rfl, rfl, kt⟩
  (iterate 6 ((repeat with_reducible first|refine .nil ?_|refine .then_normal ?_|refine .block_normal ?_|refine .seq ?_|refine .block ?_|refine .skip ?_|refine .region ?_|refine .ret ?_|refine .then_ret ?_|refine .block_ret ?_|refine .exit ?_|refine .then_exit ?_|refine .block_exit ?_|refine .block_other rfl ?_); try refine .run TBok 99 rfl ?_))
  by_cases hk0 : val ys = 0
  · refine St.condT rfl (by rw [hk0]; rfl) ?_
    (iterate 6 ((repeat with_reducible first|refine .nil ?_|refine .then_normal ?_|refine .block_normal ?_|refine .seq ?_|refine .block ?_|refine .skip ?_|refine .region ?_|refine .ret ?_|refine .then_ret ?_|refine .block_ret ?_|refine .exit ?_|refine .then_exit ?_|refine .block_exit ?_|refine .block_other rfl ?_); try refine .run TBok 99 rfl ?_))
    refine StL.step rfl rfl rfl (RunsTo.build TBok rfl rfl rfl rfl).op ?_
    rintro _ _ ⟨rfl, rfl⟩
    refine StL.step rfl rfl rfl (RunsTo.build TBok rfl rfl rfl rfl).op ?_
    rintro _ _ ⟨rfl, rfl⟩
    refine StL.step0 rfl rfl (OpR.store TBok (vs := [.bool false, .slice none 0 0]) rfl rfl rfl rfl rfl hbq (Nat.le_refl _) (by simp [Value.oneCell'])) ?_
    rintro _ w5 ⟨hb5, hu5⟩
    refine StL.step0 rfl rfl (OpR.store TBok (vs := [.bool false, .slice none 0 0]) rfl rfl rfl rfl rfl (hb4.upd hu5 (by omega)) (Nat.le_refl _) (by simp [Value.oneCell'])) ?_
    rintro _ w6 ⟨hb6, hu6⟩
    have hb56 := hb5.upd hu6 (by omega)
    (iterate 6 ((repeat with_reducible first|refine .nil ?_|refine .then_normal ?_|refine .block_normal ?_|refine .seq ?_|refine .block ?_|refine .skip ?_|refine .region ?_|refine .ret ?_|refine .then_ret ?_|refine .block_ret ?_|refine .exit ?_|refine .then_exit ?_|refine .block_exit ?_|refine .block_other rfl ?_); try refine .run TBok 99 rfl ?_))
    exact Out.rets TBok [IntV false (.slice none 0 0), IntV false (.slice none 0 0), .bool false] rfl ⟨⟨_, _, _, _, rfl, hb56, rfl, rfl, rfl, rfl⟩, ⟨_, _, _, _, rfl, hb6, rfl, rfl, rfl, rfl⟩, rfl, trivial⟩
      ⟨(hx04.then_upd hu5 (by omega)).then_upd hu6 (by omega), fun _ => rfl, fun h0 => absurd (by rw [hk0]; cases nb <;> rfl) h0⟩
  have hkb : sg nb (val ys) ≠ 0 := by cases nb <;> simp [sg] <;> omega
  refine St.condF rfl (by simp [limbs_eq_nil, hk0]) ?_
  (iterate 6 ((repeat with_reducible first|refine .nil ?_|refine .then_normal ?_|refine .block_normal ?_|refine .seq ?_|refine .block ?_|refine .skip ?_|refine .region ?_|refine .ret ?_|refine .then_ret ?_|refine .block_ret ?_|refine .exit ?_|refine .then_exit ?_|refine .block_exit ?_|refine .block_other rfl ?_); try refine .run TBok 99 rfl ?_))
  refine StL.step rfl rfl rfl (RunsTo.load TBok rfl rfl rfl (hba.cell rfl)).op ?_
  rintro _ _ ⟨rfl, rfl⟩
  refine StL.step rfl rfl rfl (OpR.call fn_integer_trim rfl (trim_spec w4 _ _ h4 (by omega))) ?_
  rintro _ w4 ⟨rfl, rfl, ht⟩
  refine .run TBok 99 rfl ?_
  refine StL.step rfl rfl rfl (OpR.call fn_integer_divNat rfl (divNat_spec w4 _ _ (val xs) (val ys) ht kt (by omega) (by omega) hk0)) ?_
  rintro _ w5 ⟨hx5, qv, rv, rfl, hq5, hr5⟩
  have hx05 := hx04.trans hx5
  have hba5 := hba.ext hx5
  have hbb5 := hbb.ext hx5
  (iterate 6 ((repeat with_reducible first|refine .nil ?_|refine .then_normal ?_|refine .block_normal ?_|refine .seq ?_|refine .block ?_|refine .skip ?_|refine .region ?_|refine .ret ?_|refine .then_ret ?_|refine .block_ret ?_|refine .exit ?_|refine .then_exit ?_|refine .block_exit ?_|refine .block_other rfl ?_); try refine .run TBok 99 rfl ?_))
  refine StL.step rfl rfl rfl (RunsTo.load TBok rfl rfl rfl (hbb5.cell rfl)).op ?_
  rintro _ _ ⟨rfl, rfl⟩
  refine .run TBok 99 rfl ?_
  have hlaw := div_law na nb (val xs) (val ys) hk0
  have hql : (limbs (val xs / val ys)).length ≤ 9000000 := Nat.le_trans (limbs_length_mono _ _ (Nat.div_le_self _ _)) (by omega)
  have hrl : (limbs (val xs % val ys)).length ≤ 9000000 := Nat.le_trans (limbs_length_mono _ _ (Nat.mod_le _ _)) (by omega)
  have hrlt := Nat.mod_lt (val xs) (Nat.pos_of_ne_zero hk0)
  refine StL.nil (Out.then_normal (St.cut (fun g : (Value × Value) × Bool × Nat × Nat => [(4, .pointer (some ⟨w2.heap.size, 0, none⟩)), (5, .pointer (some ⟨w3.heap.size, 0, none⟩)), (8, g.1.1), (9, g.1.2), (10, .bool g.2.1)])
    (fun g w' => Ext w4 w' ∧ SlO w.heap.size w' g.1.1 (limbs g.2.2.1) ∧ SlO w.heap.size w' g.1.2 (limbs g.2.2.2) ∧ (limbs g.2.2.1).length ≤ 10000000 ∧ (limbs g.2.2.2).length ≤ 10000000 ∧ sg na (val xs) / sg nb (val ys) = sg g.2.1 g.2.2.1 ∧ sg na (val xs) % sg nb (val ys) = (g.2.2.2 : Int)) ?_ ?_))
  · have hq5' := hq5.mono hx04.size
    have hr5' := hr5.mono hx04.size
    (repeat with_reducible first|refine .nil ?_|refine .then_normal ?_|refine .block_normal ?_|refine .seq ?_|refine .block ?_|refine .skip ?_|refine .region ?_|refine .ret ?_|refine .then_ret ?_|refine .block_ret ?_|refine .exit ?_|refine .then_exit ?_|refine .block_exit ?_|refine .block_other rfl ?_)
    refine .run TBok 99 rfl ?_
    refine StL.step rfl rfl rfl (RunsTo.load TBok rfl rfl rfl (hba5.cell rfl)).op ?_
    rintro _ _ ⟨rfl, rfl⟩
    obtain ⟨rp, rc, rfl, _⟩ := hr5.sl.form
    cases na with
    | true =>
      by_cases hr0 : val xs % val ys = 0
      · refine StL.as TBok 5 (.bool false) rfl (bool_false (by rw [hr0]; decide)) ?_
        (iterate 6 ((repeat with_reducible first|refine .nil ?_|refine .then_normal ?_|refine .block_normal ?_|refine .seq ?_|refine .block ?_|refine .skip ?_|refine .region ?_|refine .ret ?_|refine .then_ret ?_|refine .block_ret ?_|refine .exit ?_|refine .then_exit ?_|refine .block_exit ?_|refine .block_other rfl ?_); try refine .run TBok 99 rfl ?_))
        refine St.condF rfl rfl ?_
        (iterate 6 ((repeat with_reducible first|refine .nil ?_|refine .then_normal ?_|refine .block_normal ?_|refine .seq ?_|refine .block ?_|refine .skip ?_|refine .region ?_|refine .ret ?_|refine .then_ret ?_|refine .block_ret ?_|refine .exit ?_|refine .then_exit ?_|refine .block_exit ?_|refine .block_other rfl ?_); try refine .run TBok 99 rfl ?_))
        refine StL.step rfl rfl rfl (RunsTo.load TBok rfl rfl rfl (hba5.cell rfl)).op ?_
        rintro _ _ ⟨rfl, rfl⟩
        (iterate 6 ((repeat with_reducible first|refine .nil ?_|refine .then_normal ?_|refine .block_normal ?_|refine .seq ?_|refine .block ?_|refine .skip ?_|refine .region ?_|refine .ret ?_|refine .then_ret ?_|refine .block_ret ?_|refine .exit ?_|refine .then_exit ?_|refine .block_exit ?_|refine .block_other rfl ?_); try refine .run TBok 99 rfl ?_))
        refine St.condT rfl rfl ?_
        (iterate 6 ((repeat with_reducible first|refine .nil ?_|refine .then_normal ?_|refine .block_normal ?_|refine .seq ?_|refine .block ?_|refine .skip ?_|refine .region ?_|refine .ret ?_|refine .then_ret ?_|refine .block_ret ?_|refine .exit ?_|refine .then_exit ?_|refine .block_exit ?_|refine .block_other rfl ?_); try refine .run TBok 99 rfl ?_))
        refine Out.met ((qv, .slice rp _ rc), !nb, val xs / val ys, val xs % val ys) ⟨rfl, rfl, rfl, rfl, rfl, trivial⟩ ⟨hx5, hq5', hr5', by dsimp only; omega, by dsimp only; omega, ?_, ?_⟩
        · exact (hlaw.2.1 ⟨rfl, hr0⟩).1
        · exact (hlaw.2.1 ⟨rfl, hr0⟩).2
      · have hpos : 0 < (limbs (val xs % val ys)).length := by
          rcases Nat.eq_zero_or_pos (limbs (val xs % val ys)).length with h0 | h0
          · exact absurd (limbs_eq_nil.1 (List.eq_nil_of_length_eq_zero h0)) hr0
          · exact h0
        refine StL.as TBok 5 (.bool true) rfl (bool_true (by omega)) ?_
        (iterate 6 ((repeat with_reducible first|refine .nil ?_|refine .then_normal ?_|refine .block_normal ?_|refine .seq ?_|refine .block ?_|refine .skip ?_|refine .region ?_|refine .ret ?_|refine .then_ret ?_|refine .block_ret ?_|refine .exit ?_|refine .then_exit ?_|refine .block_exit ?_|refine .block_other rfl ?_); try refine .run TBok 99 rfl ?_))
        refine St.condT rfl rfl ?_
        (iterate 6 ((repeat with_reducible first|refine .nil ?_|refine .then_normal ?_|refine .block_normal ?_|refine .seq ?_|refine .block ?_|refine .skip ?_|refine .region ?_|refine .ret ?_|refine .then_ret ?_|refine .block_ret ?_|refine .exit ?_|refine .then_exit ?_|refine .block_exit ?_|refine .block_other rfl ?_); try refine .run TBok 99 rfl ?_))
        refine StL.step rfl rfl rfl (OpR.single TBok rfl rfl rfl rfl) ?_
        rintro _ w6 ⟨rfl, hb6, hx6, hz6⟩
        have hone := one_sl hb6 (Nat.le_refl _)
        refine StL.step rfl rfl rfl (OpR.call fn_integer_addNat rfl (addNat_spec w6 _ _ _ _ (hq5.ext hx6).sl hone.sl (by omega) (by decide))) ?_
        rintro q6 w7 ⟨hx7, hq7⟩
        have e1 : val [1] = 1 := rfl
        rw [val_limbs, e1] at hq7
        (iterate 6 ((repeat with_reducible first|refine .nil ?_|refine .then_normal ?_|refine .block_normal ?_|refine .seq ?_|refine .block ?_|refine .skip ?_|refine .region ?_|refine .ret ?_|refine .then_ret ?_|refine .block_ret ?_|refine .exit ?_|refine .then_exit ?_|refine .block_exit ?_|refine .block_other rfl ?_); try refine .run TBok 99 rfl ?_))
        have hmn := limbs_length_mono _ _ (Nat.le_of_lt hrlt)
        have hx57 := hx6.trans hx7
        refine StL.step rfl rfl rfl (OpR.call fn_integer_subNat rfl (subNat_spec w7 _ _ _ _ (kt.ext (hx5.trans hx57)) (hr5.ext hx57).sl (by omega) (by omega) hmn (by rw [val_limbs, val_limbs]; omega))) ?_
        rintro r7 w8 ⟨hx8, hr8⟩
        rw [val_limbs, val_limbs] at hr8
        have hl8 := limbs_add_length (val xs / val ys) 1
        have hone1 : (limbs 1).length ≤ 2 := limbs_length_le_two (by decide)
        have hl9 := limbs_length_mono (val ys - val xs % val ys) (val ys) (Nat.sub_le _ _)
        have hx08 : Ext w w7 := hx05.trans hx57
        (iterate 6 ((repeat with_reducible first|refine .nil ?_|refine .then_normal ?_|refine .block_normal ?_|refine .seq ?_|refine .block ?_|refine .skip ?_|refine .region ?_|refine .ret ?_|refine .then_ret ?_|refine .block_ret ?_|refine .exit ?_|refine .then_exit ?_|refine .block_exit ?_|refine .block_other rfl ?_); try refine .run TBok 99 rfl ?_))
        refine Out.met ((q6, r7), !nb, val xs / val ys + 1, val ys - val xs % val ys) ⟨rfl, rfl, rfl, rfl, rfl, trivial⟩ ⟨hx5.trans (hx57.trans hx8), (hq7.ext hx8).mono (hx05.trans hx6).size, hr8.mono hx08.size, by dsimp only; omega, by dsimp only; omega, ?_, ?_⟩
        · exact (hlaw.1 ⟨rfl, hr0⟩).1
        · exact (hlaw.1 ⟨rfl, hr0⟩).2
    | false =>
      (iterate 6 ((repeat with_reducible first|refine .nil ?_|refine .then_normal ?_|refine .block_normal ?_|refine .seq ?_|refine .block ?_|refine .skip ?_|refine .region ?_|refine .ret ?_|refine .then_ret ?_|refine .block_ret ?_|refine .exit ?_|refine .then_exit ?_|refine .block_exit ?_|refine .block_other rfl ?_); try refine .run TBok 99 rfl ?_))
      refine St.condF rfl rfl ?_
      (iterate 6 ((repeat with_reducible first|refine .nil ?_|refine .then_normal ?_|refine .block_normal ?_|refine .seq ?_|refine .block ?_|refine .skip ?_|refine .region ?_|refine .ret ?_|refine .then_ret ?_|refine .block_ret ?_|refine .exit ?_|refine .then_exit ?_|refine .block_exit ?_|refine .block_other rfl ?_); try refine .run TBok 99 rfl ?_))
      refine StL.step rfl rfl rfl (RunsTo.load TBok rfl rfl rfl (hba5.cell rfl)).op ?_
      rintro _ _ ⟨rfl, rfl⟩
      (iterate 6 ((repeat with_reducible first|refine .nil ?_|refine .then_normal ?_|refine .block_normal ?_|refine .seq ?_|refine .block ?_|refine .skip ?_|refine .region ?_|refine .ret ?_|refine .then_ret ?_|refine .block_ret ?_|refine .exit ?_|refine .then_exit ?_|refine .block_exit ?_|refine .block_other rfl ?_); try refine .run TBok 99 rfl ?_))
      refine St.condF rfl rfl ?_
      (iterate 6 ((repeat with_reducible first|refine .nil ?_|refine .then_normal ?_|refine .block_normal ?_|refine .seq ?_|refine .block ?_|refine .skip ?_|refine .region ?_|refine .ret ?_|refine .then_ret ?_|refine .block_ret ?_|refine .exit ?_|refine .then_exit ?_|refine .block_exit ?_|refine .block_other rfl ?_); try refine .run TBok 99 rfl ?_))
      refine Out.met ((qv, .slice rp _ rc), nb, val xs / val ys, val xs % val ys) ⟨rfl, rfl, rfl, rfl, rfl, trivial⟩ ⟨hx5, hq5', hr5', by dsimp only; omega, by dsimp only; omega, ?_, ?_⟩
      · exact (hlaw.2.2 rfl).1
      · exact (hlaw.2.2 rfl).2
  rintro ⟨⟨qv6, rv6⟩, nq, mq, mr⟩ w6 ⟨hx6, hq6, hr6, hlq, hlr, eq1, eq2⟩
  dsimp only at hx6 hq6 hr6 hlq hlr eq1 eq2 ⊢
  (iterate 6 ((repeat with_reducible first|refine .nil ?_|refine .then_normal ?_|refine .block_normal ?_|refine .seq ?_|refine .block ?_|refine .skip ?_|refine .region ?_|refine .ret ?_|refine .then_ret ?_|refine .block_ret ?_|refine .exit ?_|refine .then_exit ?_|refine .block_exit ?_|refine .block_other rfl ?_); try refine .run TBok 99 rfl ?_))
  refine StL.step rfl rfl rfl (OpR.call fn_integer_build rfl (build_specO w6 nq qv6 mq hq6 (by omega))) ?_
  rintro v7 w7 ⟨hx7, hv7⟩
  rw [← eq1] at hv7
  refine .run TBok 99 rfl ?_
  refine StL.step rfl rfl rfl (OpR.call fn_integer_build rfl (build_specO w7 false rv6 mr (hr6.ext hx7) (by omega))) ?_
  rintro v8 w8 ⟨hx8, hv8⟩
  have e8 : sg false mr = (mr : Int) := rfl
  rw [e8, ← eq2] at hv8
  have hx48 := (hx6.trans hx7).trans hx8
  have hbq8 := hbq.ext hx48
  have hbr8 := hb4.ext hx48
  refine StL.retCan rfl rfl hbq8 rfl (hv7.ext hx8) (hx04.trans hx48) (by omega) ?_
  intro w9 cs hcs hlc hb9 hu9 hx9
  have hbr9 := hbr8.upd hu9 (by omega)
  have hv79 := CanO.upd (hv7.ext hx8) hu9 ⟨_, hbq8⟩
  have hv89 := CanO.upd hv8 hu9 ⟨_, hbq8⟩
  refine StL.retCan rfl rfl hbr9 rfl hv89 hx9 (by omega) ?_
  intro wA cs2 hcs2 hlc2 hbA huA hxA
  have hbqA := hb9.upd huA (by omega)
  (iterate 6 ((repeat with_reducible first|refine .nil ?_|refine .then_normal ?_|refine .block_normal ?_|refine .seq ?_|refine .block ?_|refine .skip ?_|refine .region ?_|refine .ret ?_|refine .then_ret ?_|refine .block_ret ?_|refine .exit ?_|refine .then_exit ?_|refine .block_exit ?_|refine .block_other rfl ?_); try refine .run TBok 99 rfl ?_))
  exact Out.rets TBok [v7, v8, .bool true] rfl ⟨⟨_, _, _, _, rfl, hbqA, rfl, rfl, hlc, hcs⟩, ⟨_, _, _, _, rfl, hbA, rfl, rfl, hlc2, hcs2⟩, rfl, trivial⟩
    ⟨hxA, fun h0 => absurd h0 hkb, fun _ => ⟨v7, v8, rfl, CanO.upd hv79 huA ⟨_, hbr9⟩, CanO.upd hv89 huA ⟨_, hbr9⟩⟩⟩

end Go.Qf
