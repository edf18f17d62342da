/- Lemmas on the model and on the program's functions, part ZRationalNormalizes. -/
import Derived.Test.YteiphfahnikikaaQa
import Derived.Test.YteiphfahnikikaaQb
import Derived.Test.YteiphfahnikikaaQc
import Derived.Test.YteiphfahnikikaaQd
import Derived.Test.YteiphfahnikikaaQe
import Derived.Test.YteiphfahnikikaaQf
import Derived.Test.YteiphfahnikikaaQg
import Derived.Test.YteiphfahnikikaaQh
import Derived.Test.YteiphfahnikikaaQi
/- The law RationalNormalizes: the walk. -/
namespace Go.Qf
open Go Go.RowKit Go.Proofs
set_option maxRecDepth 20000

theorem Blk.inj {e e' : TypeId} {w : World} {b : Nat} {C C' : List Value} (h : Blk e w b C) (k : Blk e' w b C') : C = C' ∧ e = e' := by
  have := h.symm.trans k
  simp only [Option.some.injEq, Obj.cells.injEq] at this
  exact ⟨by simpa using congrArg Array.toList this.1, this.2.1⟩

/-- Limbs of one's own, after a write into limbs. -/
theorem SlO.over {base : Nat} {w w' : World} {p : Option Addr} {len cap g j x : Nat} {us : List Nat} {C : List Value} (h : SlO base w (.slice p len cap) us) (hl : us.length = len) (hne : 0 < len) (hu : Upd g w w') (hB : Blk 41 w g C) (hB' : Blk 41 w' g (C.set j (u32 x))) (hx : x < 4294967296) :
    ∃ us', SlO base w' (.slice p len cap) us' ∧ us'.length = len := by
  obtain ⟨g2, cp, D, hv, hg, hb, hcp, hcm⟩ := h.opened (by intro e; rw [e] at hl; simp at hl; omega)
  simp only [Value.slice.injEq] at hv
  obtain ⟨rfl, hv2, rfl⟩ := hv
  by_cases e : g2 = g
  · subst e
    obtain ⟨rfl, _⟩ := hB.inj hb
    rw [List.nil_append] at hB'
    by_cases hj : j < us.length
    · refine ⟨us.set j x, SlO.closed (D := D) ?_ (h.2.set j hx) (by simp [hl]) hg (by simpa using hcp) hcm, by simp [hl]⟩
      rw [List.set_append_left _ _ (by simpa using hj), ← List.map_set] at hB'
      exact hB'
    · refine ⟨us, SlO.closed (D := D.set (j - us.length) (u32 x)) ?_ h.2 hl.symm hg (by simpa using hcp) hcm, hl⟩
      rw [List.set_append_right _ _ (by simpa using hj)] at hB'
      simpa using hB'
  · exact ⟨us, SlO.closed (hb.upd hu e) h.2 hl.symm hg hcp hcm, hl⟩

/-- A struct with its own limbs, whatever they are. -/
def WasR (w : World) (v : Value) (n : Bool) (xs : List Nat) (m : Bool) (ys : List Nat) : Prop := R4 v ∧ DenO 0 w (nm v) n xs ∧ DenO 0 w (dm v) m ys
theorem WasR.ext {w w' : World} {v : Value} {n m : Bool} {xs ys : List Nat} (h : WasR w v n xs m ys) (hx : Ext w w') : WasR w' v n xs m ys := ⟨h.1, h.2.1.ext hx, h.2.2.ext hx⟩
theorem DenO.r2 {base : Nat} {w : World} {v : Value} {n : Bool} {xs : List Nat} (h : DenO base w v n xs) : R2 v := by obtain ⟨p, cap, rfl, _⟩ := h; exact ⟨_, _, rfl, rfl⟩

set_option maxHeartbeats 6400000 in
theorem lawNormR (w : World) (v : Value) (h : InR w v) : Calls Try.prog 5 #[v] w (Ret fun r w' => Ext w w' ∧ r = .bool true) := by
  refine calls_of_St (args := [_]) Try.func5 rfl Try.ntmps5 rfl ?_
  (repeat with_reducible first|refine .nil ?_|refine .then_normal ?_|refine .block_normal ?_|refine .seq ?_|refine .block ?_|refine .skip ?_|refine .region ?_|refine .ret ?_|refine .then_ret ?_|refine .block_ret ?_|refine .exit ?_|refine .then_exit ?_|refine .block_exit ?_|refine .block_other rfl ?_)
  refine StL.step rfl rfl rfl (OpR.box rfl) ?_
  rintro _ w1 ⟨rfl, B1, hx0, hz1⟩
  replace h := h.ext hx0
  (iterate 6 ((repeat with_reducible first|refine .nil ?_|refine .then_normal ?_|refine .block_normal ?_|refine .seq ?_|refine .block ?_|refine .skip ?_|refine .region ?_|refine .ret ?_|refine .then_ret ?_|refine .block_ret ?_|refine .exit ?_|refine .then_exit ?_|refine .block_exit ?_|refine .block_other rfl ?_); try refine .run TBok 99 rfl ?_))
  refine StL.step rfl rfl rfl (RunsTo.loadR rfl rfl (B1) (h.r4)).op ?_
  rintro _ _ ⟨rfl, rfl⟩
  refine StL.step rfl rfl rfl (OpR.rats1 rfl h.r4) ?_
  rintro _ wL ⟨rfl, BL, hxL⟩
  replace B1 := B1.ext hxL
  replace h := h.ext hxL
  replace hx0 := hx0.trans hxL
  clear hxL
  refine StL.step rfl rfl rfl (OpR.call fn_w02_long rfl (long1 BL h)) ?_
  rintro _ wM ⟨hxM, c, rfl, hc⟩
  by_cases hcc : c = true
  · subst hcc
    (iterate 6 ((repeat with_reducible first|refine .nil ?_|refine .then_normal ?_|refine .block_normal ?_|refine .seq ?_|refine .block ?_|refine .skip ?_|refine .region ?_|refine .ret ?_|refine .then_ret ?_|refine .block_ret ?_|refine .exit ?_|refine .then_exit ?_|refine .block_exit ?_|refine .block_other rfl ?_); try refine .run TBok 99 rfl ?_))
    refine St.condT rfl rfl ?_
    (repeat with_reducible first|refine .nil ?_|refine .then_normal ?_|refine .block_normal ?_|refine .seq ?_|refine .block ?_|refine .skip ?_|refine .region ?_|refine .ret ?_|refine .then_ret ?_|refine .block_ret ?_|refine .exit ?_|refine .then_exit ?_|refine .block_exit ?_|refine .block_other rfl ?_)
    refine StL.awk rfl rfl ?_
    intro wz hxz
    (iterate 6 ((repeat with_reducible first|refine .nil ?_|refine .then_normal ?_|refine .block_normal ?_|refine .seq ?_|refine .block ?_|refine .skip ?_|refine .region ?_|refine .ret ?_|refine .then_ret ?_|refine .block_ret ?_|refine .exit ?_|refine .then_exit ?_|refine .block_exit ?_|refine .block_other rfl ?_); try refine .run TBok 99 rfl ?_))
    exact Out.ret1 rfl rfl ⟨(hx0.trans hxM).trans hxz, rfl⟩
  obtain rfl : c = false := by simpa using hcc
  obtain ⟨n, xs, m, ys, h4, hn, hm, lx, ly⟩ := hc rfl
  replace hn := hn.ext hxM
  replace hm := hm.ext hxM
  replace B1 := B1.ext hxM
  replace hx0 := hx0.trans hxM
  clear hxM
  have sx := sz_den hn
  have sy := sz_den hm
  obtain ⟨q, hqe⟩ : ∃ q, q = Rat.divInt (sg n (val xs)) (sg m (val ys)) := ⟨_, rfl⟩
  have hq : DnS wM v q := ⟨h4, _, _, hn.dn (by omega), hm.dn (by omega), hqe, by omega, by omega⟩
  have zq : rz q ≤ 8 := by
    have := rz_divInt (sg n (val xs)) (sg m (val ys))
    rw [hqe]
    omega
  have h4' := h4
  have hn' := hn
  have hm' := hm
  obtain ⟨n1, s1, m1, t1, rfl, _⟩ := h4'
  obtain ⟨p1, c1, e1, l1⟩ := hn'
  obtain ⟨p2, c2, e2, l2⟩ := hm'
  cases e1
  cases e2
  (iterate 6 ((repeat with_reducible first|refine .nil ?_|refine .then_normal ?_|refine .block_normal ?_|refine .seq ?_|refine .block ?_|refine .skip ?_|refine .region ?_|refine .ret ?_|refine .then_ret ?_|refine .block_ret ?_|refine .exit ?_|refine .then_exit ?_|refine .block_exit ?_|refine .block_other rfl ?_); try refine .run TBok 99 rfl ?_))
  refine St.condF rfl rfl ?_
  (repeat with_reducible first|refine .nil ?_|refine .then_normal ?_|refine .block_normal ?_|refine .seq ?_|refine .block ?_|refine .skip ?_|refine .region ?_|refine .ret ?_|refine .then_ret ?_|refine .block_ret ?_|refine .exit ?_|refine .then_exit ?_|refine .block_exit ?_|refine .block_other rfl ?_)
  refine St.sub (E' := [(1, .pointer (some ⟨w.heap.size, 0, none⟩))]) ?_ ⟨rfl, trivial⟩
  refine St.flow 18 TBfol (by kernel_rfl) rfl (by kernel_rfl) rfl True.intro ?_
  refine FL.run TBok 99 rfl ?_
  refine FL.load (L := []) TBok rfl rfl rfl rfl rfl rfl B1 (by simp) rfl ?_
  refine FL.run TBok 99 rfl ?_
  refine FL.load (L := []) TBok rfl rfl rfl rfl rfl rfl B1 (by simp) rfl ?_
  refine FL.fact (L := []) (ψ := fun v w' => SlO 0 w' v xs) rfl rfl rfl rfl rfl (fun w3 hR => (OpR.append TBok rfl rfl rfl rfl rfl rfl (Own.nil 0 _ _) (l1.ext hR.ext_nil).1 (by intro c hc; simp only [List.mem_map] at hc; obtain ⟨x, _, rfl⟩ := hc; rfl) (by simp; omega) (by simp; omega) (Nat.zero_le _)).mono ?_) (MonoR.slO 0 xs) ?_
  · rintro v' w4 ⟨ho, hg, _⟩
    exact ⟨(Ext.refl _).grown (Own.nil w3.heap.size 41 _) (Nat.le_refl _) hg, by simpa using ho, l1.2⟩
  refine FL.fact (L := []) (ψ := fun v w' => DenO 0 w' v n xs) rfl rfl rfl rfl rfl ?_ (MonoR.denO 0 n xs) ?_
  · intro w3 hR v7 h7
    obtain ⟨p7, c7, rfl, _⟩ := h7.sl.form
    exact RunsTo.ext (RunsTo.build TBok rfl rfl rfl rfl) ⟨p7, c7, rfl, h7⟩
  refine FL.run TBok 99 rfl ?_
  refine FL.load (L := []) TBok rfl rfl rfl rfl rfl rfl B1 (by simp) rfl ?_
  refine FL.run TBok 99 rfl ?_
  refine FL.load (L := []) TBok rfl rfl rfl rfl rfl rfl B1 (by simp) rfl ?_
  refine FL.fact (L := []) (ψ := fun v w' => SlO 0 w' v ys) rfl rfl rfl rfl rfl (fun w3 hR => (OpR.append TBok rfl rfl rfl rfl rfl rfl (Own.nil 0 _ _) (l2.ext hR.ext_nil).1 (by intro c hc; simp only [List.mem_map] at hc; obtain ⟨x, _, rfl⟩ := hc; rfl) (by simp; omega) (by simp; omega) (Nat.zero_le _)).mono ?_) (MonoR.slO 0 ys) ?_
  · rintro v' w4 ⟨ho, hg, _⟩
    exact ⟨(Ext.refl _).grown (Own.nil w3.heap.size 41 _) (Nat.le_refl _) hg, by simpa using ho, l2.2⟩
  refine FL.fact (L := []) (ψ := fun v w' => DenO 0 w' v m ys) rfl rfl rfl rfl rfl ?_ (MonoR.denO 0 m ys) ?_
  · intro w3 hR v7 h7
    obtain ⟨p7, c7, rfl, _⟩ := h7.sl.form
    exact RunsTo.ext (RunsTo.build TBok rfl rfl rfl rfl) ⟨p7, c7, rfl, h7⟩
  refine FL.fact (L := []) (ψ := fun v w' => WasR w' v n xs m ys) rfl rfl rfl rfl rfl ?_ (fun _ _ _ hR h => ⟨h.1, h.2.1.rg hR, h.2.2.rg hR⟩) ?_
  · intro w3 hR v18 h18 v26 h26
    exact RunsTo.ext (RunsTo.buildR rfl rfl h18.r2 h26.r2) ⟨mkR_R4 h18.r2 h26.r2, by rw [nm_mkR h18.r2]; exact h18, by rw [dm_mkR h26.r2]; exact h26⟩
  refine FL.alloc TBok rfl rfl rfl rfl ?_
  refine FL.endE rfl ?_
  rintro w4 hx4 _ ⟨b3, C3, rfl, hg3, B3, hl3⟩ was hwas _ _ _ _ _ _ _ _ _ _
  refine StL.setR rfl rfl rfl hwas.1 B3 hl3 hx4 hg3 ?_
  intro w5 B3' hu5 hx5
  have hw5 : WasR w5 was n xs m ys := by
    obtain ⟨r4, ⟨pa, ca, ea, sa⟩, ⟨pb, cb, eb, sb⟩⟩ := hwas
    exact ⟨r4, ⟨pa, ca, ea, Own.updT sa.1 hu5 B3 (by decide), sa.2⟩, ⟨pb, cb, eb, Own.updT sb.1 hu5 B3 (by decide), sb.2⟩⟩
  clear hwas hu5 B3 hx4
  generalize (Value.agg #[.bool n, .slice p1 xs.length c1, .bool m, .slice p2 ys.length c2]) = v at *
  replace B1 := B1.ext hx5
  replace hq := hq.ext hx5
  replace hn := hn.ext hx5
  replace hm := hm.ext hx5
  replace hx0 := hx0.trans hx5
  clear hx5
  have hwq : DnR w5 was q := ⟨hw5.1, _, _, hw5.2.1.den.dn (by omega), hw5.2.2.den.dn (by omega), hqe⟩
  (iterate 6 ((repeat with_reducible first|refine .nil ?_|refine .then_normal ?_|refine .block_normal ?_|refine .seq ?_|refine .block ?_|refine .skip ?_|refine .region ?_|refine .ret ?_|refine .then_ret ?_|refine .block_ret ?_|refine .exit ?_|refine .then_exit ?_|refine .block_exit ?_|refine .block_other rfl ?_); try refine .run TBok 99 rfl ?_))
  refine StL.step rfl rfl rfl (RunsTo.loadR rfl rfl (B3') (hw5.1)).op ?_
  rintro _ _ ⟨rfl, rfl⟩
  refine StL.step rfl rfl rfl (OpR.call fn_rational_Normalize rfl (normalizeR_spec (base := w5.heap.size) hwq (Nat.le_refl _))) ?_
  rintro t w6 ⟨hx6, ht⟩
  refine StL.newR rfl rfl (fun _ => rfl) ht.1 ?_
  intro b4 w7 hl4 hx7 B4
  replace ht := ht.ext hx7
  have hx57 := hx6.trans hx7
  clear hx6 hx7
  (repeat with_reducible first|refine .nil ?_|refine .then_normal ?_|refine .block_normal ?_|refine .seq ?_|refine .block ?_|refine .skip ?_|refine .region ?_|refine .ret ?_|refine .then_ret ?_|refine .block_ret ?_|refine .exit ?_|refine .then_exit ?_|refine .block_exit ?_|refine .block_other rfl ?_)
  refine St.sub (E' := [(1, .pointer (some ⟨w.heap.size, 0, none⟩)), (3, .pointer (some ⟨b3, 0, none⟩)), (4, .pointer (some ⟨b4, 0, none⟩))]) ?_ ⟨rfl, rfl, rfl, trivial⟩
  refine St.flow 3 TBfol (by kernel_rfl) rfl (by kernel_rfl) rfl True.intro ?_
  refine FL.one (L := []) rfl rfl rfl rfl rfl (fun _ hR => RunsTo.loadR rfl rfl (hR.blk (B4) (by simp)) (ht.1)) ?_
  refine FL.one (L := []) rfl rfl rfl rfl rfl (fun _ hR => RunsTo.loadR rfl rfl (hR.blk (B1.ext hx57) (by simp)) (h4)) ?_
  refine FL.callE fn_r02_Normalize rfl rfl rfl (fun w8 hx8 => CallF.mk rfl (rnormalizeR_spec ((hq.ext hx57).ext hx8))) (MonoR.canR 0 _) ?_
  refine FL.endE rfl ?_
  intro w8 hx8 o ho _ _
  replace B4 := B4.ext hx8
  replace ht := ht.ext hx8
  replace hx57 := hx57.trans hx8
  clear hx8
  refine StL.step rfl rfl rfl (OpR.call fn_r02_Same rfl (sameR_can ht ho (by omega))) ?_
  rintro _ w9 ⟨hx9, rfl⟩
  replace B4 := B4.ext hx9
  replace ht := ht.ext hx9
  replace hx57 := hx57.trans hx9
  clear hx9
  (iterate 6 ((repeat with_reducible first|refine .nil ?_|refine .then_normal ?_|refine .block_normal ?_|refine .seq ?_|refine .block ?_|refine .skip ?_|refine .region ?_|refine .ret ?_|refine .then_ret ?_|refine .block_ret ?_|refine .exit ?_|refine .then_exit ?_|refine .block_exit ?_|refine .block_other rfl ?_); try refine .run TBok 99 rfl ?_))
  refine St.condF rfl rfl ?_
  obtain ⟨r4t, hnum, hden⟩ := ht
  obtain ⟨tn, ts, tm, tt, rfl, _⟩ := r4t
  obtain ⟨pn, cn, en, sn⟩ := hnum
  obtain ⟨pd, cd, ed, sd⟩ := hden
  cases en
  cases ed
  have hdl : 0 < (limbs (q.den : Int).natAbs).length := by
    have hp := den_pos q
    rcases Nat.eq_zero_or_pos (limbs (q.den : Int).natAbs).length with e | e
    · have h0 := val_limbs (q.den : Int).natAbs
      rw [List.eq_nil_of_length_eq_zero e] at h0
      have h1 : val [] = 0 := rfl
      omega
    · exact e
  have zn1 := rz_num q
  have zd1 := rz_den q
  have hnl : (limbs q.num.natAbs).length ≤ 8 := by
    have : (limbs q.num.natAbs).length = sz q.num := rfl
    omega
  have hdl8 : (limbs (q.den : Int).natAbs).length ≤ 8 := by
    have : (limbs (q.den : Int).natAbs).length = sz (q.den : Int) := rfl
    omega
  generalize hxl : (limbs q.num.natAbs).length = N at *
  generalize hyl : (limbs (q.den : Int).natAbs).length = D at *
  generalize decide (q.num < 0) = bn at *
  generalize decide ((q.den : Int) < 0) = bd at *
  (iterate 6 ((repeat with_reducible first|refine .nil ?_|refine .then_normal ?_|refine .block_normal ?_|refine .seq ?_|refine .block ?_|refine .skip ?_|refine .region ?_|refine .ret ?_|refine .then_ret ?_|refine .block_ret ?_|refine .exit ?_|refine .then_exit ?_|refine .block_exit ?_|refine .block_other rfl ?_); try refine .run TBok 99 rfl ?_))
  refine StL.step rfl rfl rfl (RunsTo.load TBok rfl rfl rfl (B4.cell rfl)).op ?_
  rintro _ _ ⟨rfl, rfl⟩
  (iterate 6 ((repeat with_reducible first|refine .nil ?_|refine .then_normal ?_|refine .block_normal ?_|refine .seq ?_|refine .block ?_|refine .skip ?_|refine .region ?_|refine .ret ?_|refine .then_ret ?_|refine .block_ret ?_|refine .exit ?_|refine .then_exit ?_|refine .block_exit ?_|refine .block_other rfl ?_); try refine .run TBok 99 rfl ?_))
  -- the limbs are written over; they lie in new memory
  refine St.loop (fun i : Nat => [(1, .pointer (some ⟨w.heap.size, 0, none⟩)), (3, .pointer (some ⟨b3, 0, none⟩)), (4, .pointer (some ⟨b4, 0, none⟩)), (38, .int .i64 N), (39, .int .i64 i)])
    (fun i w' => Ext w5 w' ∧ i ≤ N ∧ Blk 33 w' b4 [.bool bn, .slice pn N cn, .bool bd, .slice pd D cd] ∧ (∃ us, SlO w5.heap.size w' (.slice pn N cn) us ∧ us.length = N) ∧ ∃ us, SlO w5.heap.size w' (.slice pd D cd) us ∧ us.length = D)
    (fun i => N - i) 0 ⟨rfl, rfl, rfl, rfl, rfl, trivial⟩ ⟨hx57, Nat.zero_le _, B4, ⟨_, sn, hxl⟩, _, sd, hyl⟩ ?_
  rintro i w10 ⟨hx10, hi, hb10, ⟨us, hus, hul⟩, us2, hus2, hul2⟩
  by_cases hlt : i < N
  · obtain ⟨g, cp, E', hv, hg, hbu, hcp, hcm⟩ := hus.opened (by intro e; rw [e] at hul; simp at hul; omega)
    simp only [Value.slice.injEq] at hv
    obtain ⟨rfl, hv2, rfl⟩ := hv
    (repeat with_reducible first|refine .nil ?_|refine .then_normal ?_|refine .block_normal ?_|refine .seq ?_|refine .block ?_|refine .skip ?_|refine .region ?_|refine .ret ?_|refine .then_ret ?_|refine .block_ret ?_|refine .exit ?_|refine .then_exit ?_|refine .block_exit ?_|refine .block_other rfl ?_)
    refine StL.as TBok 1 (.bool true) rfl (bool_true (by omega)) ?_
    (repeat with_reducible first|refine .nil ?_|refine .then_normal ?_|refine .block_normal ?_|refine .seq ?_|refine .block ?_|refine .skip ?_|refine .region ?_|refine .ret ?_|refine .then_ret ?_|refine .block_ret ?_|refine .exit ?_|refine .then_exit ?_|refine .block_exit ?_|refine .block_other rfl ?_)
    refine St.condT rfl rfl ?_
    (iterate 6 ((repeat with_reducible first|refine .nil ?_|refine .then_normal ?_|refine .block_normal ?_|refine .seq ?_|refine .block ?_|refine .skip ?_|refine .region ?_|refine .ret ?_|refine .then_ret ?_|refine .block_ret ?_|refine .exit ?_|refine .then_exit ?_|refine .block_exit ?_|refine .block_other rfl ?_); try refine .run TBok 99 rfl ?_))
    refine StL.step rfl rfl rfl (RunsTo.load TBok rfl rfl rfl (hb10.cell rfl)).op ?_
    rintro _ _ ⟨rfl, rfl⟩
    refine .run TBok 99 rfl ?_
    refine StL.put TBok i hbu rfl hlt (by simp; omega) rfl rfl rfl rfl rfl rfl rfl rfl (fun _ => rfl) (fun _ => rfl) rfl rfl ?_
    intro p1 w11 hb11 hu11
    have hne : b4 ≠ g := by
      intro e; subst e
      exact absurd (hb10.inj hbu).2 (by decide)
    (iterate 6 ((repeat with_reducible first|refine .nil ?_|refine .then_normal ?_|refine .block_normal ?_|refine .seq ?_|refine .block ?_|refine .skip ?_|refine .region ?_|refine .ret ?_|refine .then_ret ?_|refine .block_ret ?_|refine .exit ?_|refine .then_exit ?_|refine .block_exit ?_|refine .block_other rfl ?_); try refine .run TBok 99 rfl ?_))
    refine Out.again (i + 1) ⟨rfl, rfl, rfl, rfl, ?_, trivial⟩ ⟨hx10.then_upd hu11 hg, by omega, hb10.upd hu11 hne, ⟨us.set i 7, ?_, by simpa using hul⟩, hus2.over hul2 hdl hu11 hbu hb11 (by decide)⟩ (by omega)
    · show some (Value.int .i64 (IntKind.i64.wrap ((i : Int) + 1))) = _
      rw [i64_id (by omega) (by omega)]; rfl
    · refine SlO.closed (D := E') ?_ (hus.2.set i (by decide)) (by simp [hul]) hg (by simpa using hcp) hcm
      have hb12 : Blk 41 w11 g (([] ++ (us.map u32 ++ E')).set (0 + i) (u32 7)) := hb11
      rw [seg_set (A := []) (off := 0) rfl (by omega)] at hb12
      exact hb12
  (repeat with_reducible first|refine .nil ?_|refine .then_normal ?_|refine .block_normal ?_|refine .seq ?_|refine .block ?_|refine .skip ?_|refine .region ?_|refine .ret ?_|refine .then_ret ?_|refine .block_ret ?_|refine .exit ?_|refine .then_exit ?_|refine .block_exit ?_|refine .block_other rfl ?_)
  refine StL.as TBok 1 (.bool false) rfl (bool_false (by omega)) ?_
  (repeat with_reducible first|refine .nil ?_|refine .then_normal ?_|refine .block_normal ?_|refine .seq ?_|refine .block ?_|refine .skip ?_|refine .region ?_|refine .ret ?_|refine .then_ret ?_|refine .block_ret ?_|refine .exit ?_|refine .then_exit ?_|refine .block_exit ?_|refine .block_other rfl ?_)
  refine St.condF rfl rfl ?_
  (iterate 6 ((repeat with_reducible first|refine .nil ?_|refine .then_normal ?_|refine .block_normal ?_|refine .seq ?_|refine .block ?_|refine .skip ?_|refine .region ?_|refine .ret ?_|refine .then_ret ?_|refine .block_ret ?_|refine .exit ?_|refine .then_exit ?_|refine .block_exit ?_|refine .block_other rfl ?_); try refine .run TBok 99 rfl ?_))
  refine StL.step rfl rfl rfl (RunsTo.load TBok rfl rfl rfl (hb10.cell rfl)).op ?_
  rintro _ _ ⟨rfl, rfl⟩
  (iterate 6 ((repeat with_reducible first|refine .nil ?_|refine .then_normal ?_|refine .block_normal ?_|refine .seq ?_|refine .block ?_|refine .skip ?_|refine .region ?_|refine .ret ?_|refine .then_ret ?_|refine .block_ret ?_|refine .exit ?_|refine .then_exit ?_|refine .block_exit ?_|refine .block_other rfl ?_); try refine .run TBok 99 rfl ?_))
  refine St.loop (fun i : Nat => [(1, .pointer (some ⟨w.heap.size, 0, none⟩)), (3, .pointer (some ⟨b3, 0, none⟩)), (4, .pointer (some ⟨b4, 0, none⟩)), (51, .int .i64 D), (52, .int .i64 i)])
    (fun i w' => Ext w5 w' ∧ i ≤ D ∧ Blk 33 w' b4 [.bool bn, .slice pn N cn, .bool bd, .slice pd D cd] ∧ ∃ us, SlO w5.heap.size w' (.slice pd D cd) us ∧ us.length = D)
    (fun i => D - i) 0 ⟨rfl, rfl, rfl, rfl, rfl, trivial⟩ ⟨hx10, Nat.zero_le _, hb10, _, hus2, hul2⟩ ?_
  clear hus hus2 hul hul2 hx10 hi hb10 hlt
  rintro i w10 ⟨hx10, hi, hb10, us, hus, hul⟩
  by_cases hlt : i < D
  · obtain ⟨g, cp, E', hv, hg, hbu, hcp, hcm⟩ := hus.opened (by intro e; rw [e] at hul; simp at hul; omega)
    simp only [Value.slice.injEq] at hv
    obtain ⟨rfl, hv2, rfl⟩ := hv
    (repeat with_reducible first|refine .nil ?_|refine .then_normal ?_|refine .block_normal ?_|refine .seq ?_|refine .block ?_|refine .skip ?_|refine .region ?_|refine .ret ?_|refine .then_ret ?_|refine .block_ret ?_|refine .exit ?_|refine .then_exit ?_|refine .block_exit ?_|refine .block_other rfl ?_)
    refine StL.as TBok 1 (.bool true) rfl (bool_true (by omega)) ?_
    (repeat with_reducible first|refine .nil ?_|refine .then_normal ?_|refine .block_normal ?_|refine .seq ?_|refine .block ?_|refine .skip ?_|refine .region ?_|refine .ret ?_|refine .then_ret ?_|refine .block_ret ?_|refine .exit ?_|refine .then_exit ?_|refine .block_exit ?_|refine .block_other rfl ?_)
    refine St.condT rfl rfl ?_
    (iterate 6 ((repeat with_reducible first|refine .nil ?_|refine .then_normal ?_|refine .block_normal ?_|refine .seq ?_|refine .block ?_|refine .skip ?_|refine .region ?_|refine .ret ?_|refine .then_ret ?_|refine .block_ret ?_|refine .exit ?_|refine .then_exit ?_|refine .block_exit ?_|refine .block_other rfl ?_); try refine .run TBok 99 rfl ?_))
    refine StL.step rfl rfl rfl (RunsTo.load TBok rfl rfl rfl (hb10.cell rfl)).op ?_
    rintro _ _ ⟨rfl, rfl⟩
    refine .run TBok 99 rfl ?_
    refine StL.put TBok i hbu rfl hlt (by simp; omega) rfl rfl rfl rfl rfl rfl rfl rfl (fun _ => rfl) (fun _ => rfl) rfl rfl ?_
    intro p1 w11 hb11 hu11
    have hne : b4 ≠ g := by
      intro e; subst e
      exact absurd (hb10.inj hbu).2 (by decide)
    (iterate 6 ((repeat with_reducible first|refine .nil ?_|refine .then_normal ?_|refine .block_normal ?_|refine .seq ?_|refine .block ?_|refine .skip ?_|refine .region ?_|refine .ret ?_|refine .then_ret ?_|refine .block_ret ?_|refine .exit ?_|refine .then_exit ?_|refine .block_exit ?_|refine .block_other rfl ?_); try refine .run TBok 99 rfl ?_))
    refine Out.again (i + 1) ⟨rfl, rfl, rfl, rfl, ?_, trivial⟩ ⟨hx10.then_upd hu11 hg, by omega, hb10.upd hu11 hne, us.set i 7, ?_, by simpa using hul⟩ (by omega)
    · show some (Value.int .i64 (IntKind.i64.wrap ((i : Int) + 1))) = _
      rw [i64_id (by omega) (by omega)]; rfl
    · refine SlO.closed (D := E') ?_ (hus.2.set i (by decide)) (by simp [hul]) hg (by simpa using hcp) hcm
      have hb12 : Blk 41 w11 g (([] ++ (us.map u32 ++ E')).set (0 + i) (u32 7)) := hb11
      rw [seg_set (A := []) (off := 0) rfl (by omega)] at hb12
      exact hb12
  (repeat with_reducible first|refine .nil ?_|refine .then_normal ?_|refine .block_normal ?_|refine .seq ?_|refine .block ?_|refine .skip ?_|refine .region ?_|refine .ret ?_|refine .then_ret ?_|refine .block_ret ?_|refine .exit ?_|refine .then_exit ?_|refine .block_exit ?_|refine .block_other rfl ?_)
  refine StL.as TBok 1 (.bool false) rfl (bool_false (by omega)) ?_
  (repeat with_reducible first|refine .nil ?_|refine .then_normal ?_|refine .block_normal ?_|refine .seq ?_|refine .block ?_|refine .skip ?_|refine .region ?_|refine .ret ?_|refine .then_ret ?_|refine .block_ret ?_|refine .exit ?_|refine .then_exit ?_|refine .block_exit ?_|refine .block_other rfl ?_)
  refine St.condF rfl rfl ?_
  (iterate 6 ((repeat with_reducible first|refine .nil ?_|refine .then_normal ?_|refine .block_normal ?_|refine .seq ?_|refine .block ?_|refine .skip ?_|refine .region ?_|refine .ret ?_|refine .then_ret ?_|refine .block_ret ?_|refine .exit ?_|refine .then_exit ?_|refine .block_exit ?_|refine .block_other rfl ?_); try refine .run TBok 99 rfl ?_))
  replace hw5 := hw5.ext hx10
  replace B1 := B1.ext hx10
  replace B3' := B3'.ext hx10
  replace hn := hn.ext hx10
  replace hm := hm.ext hx10
  replace hx0 := hx0.trans hx10
  clear hx10
  refine StL.step rfl rfl rfl (RunsTo.loadR rfl rfl (B3') (hw5.1)).op ?_
  rintro _ _ ⟨rfl, rfl⟩
  refine StL.step rfl rfl rfl (RunsTo.loadR rfl rfl (B1) (h4)).op ?_
  rintro _ _ ⟨rfl, rfl⟩
  refine StL.step rfl rfl rfl (OpR.call fn_r02_Same rfl (sameR_of hw5.1 h4 (fun w' hx' => same_den (hw5.2.1.den.ext hx') (hn.ext hx') (by omega)) (fun w' hx' => same_den (hw5.2.2.den.ext hx') (hm.ext hx') (by omega)))) ?_
  rintro _ w11 ⟨hx11, rfl⟩
  replace hx0 := hx0.trans hx11
  clear hx11
  refine .run TBok 99 rfl ?_
  refine StL.awk rfl rfl ?_
  intro wz hxz
  (iterate 6 ((repeat with_reducible first|refine .nil ?_|refine .then_normal ?_|refine .block_normal ?_|refine .seq ?_|refine .block ?_|refine .skip ?_|refine .region ?_|refine .ret ?_|refine .then_ret ?_|refine .block_ret ?_|refine .exit ?_|refine .then_exit ?_|refine .block_exit ?_|refine .block_other rfl ?_); try refine .run TBok 99 rfl ?_))
  exact Out.ret1 rfl rfl ⟨hx0.trans hxz, rfl⟩

end Go.Qf
