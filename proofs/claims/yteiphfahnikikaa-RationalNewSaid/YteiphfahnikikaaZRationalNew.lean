/- Lemmas on the model and on the program's functions, part ZRationalNew. -/
import Derived.Test.YteiphfahnikikaaQa
import Derived.Test.YteiphfahnikikaaQb
import Derived.Test.YteiphfahnikikaaQc
import Derived.Test.YteiphfahnikikaaQd
import Derived.Test.YteiphfahnikikaaQe
import Derived.Test.YteiphfahnikikaaQf
import Derived.Test.YteiphfahnikikaaQg
import Derived.Test.YteiphfahnikikaaQh
import Derived.Test.YteiphfahnikikaaQi
/- quadformref02.Parse. -/
namespace Go.Qf
open Go Go.RowKit Go.Proofs
set_option maxRecDepth 20000

theorem perr_two (s : List Nat) : perr s = 2 ↔ ¬ Numb s := by
  unfold perr
  by_cases h : Numb s
  · rw [if_pos h]
    constructor
    · intro e
      split at e <;> cases e
    · intro e; exact absurd h e
  · rw [if_neg h]
    exact ⟨fun _ => h, fun _ => rfl⟩
theorem perr_zero {s : List Nat} (h : Numb s) : perr s = 0 ↔ ¬ 2000 < (body s).length := by
  unfold perr
  rw [if_pos h]
  split
  · rename_i e
    exact ⟨fun e2 => (by cases e2), fun e2 => absurd e e2⟩
  · rename_i e
    exact ⟨fun _ => e, fun _ => rfl⟩
theorem numb_cons {s : List Nat} (h : Numb s) : ∃ b r, s = b :: r := by
  cases s with
  | nil => exact absurd rfl h.1.1
  | cons b r => exact ⟨b, r, rfl⟩

set_option maxHeartbeats 3200000 in
theorem rparseR_spec (w : World) (s : List Nat) (h : B8 s) (hlen : s.length ≤ 100000) : Calls Try.prog 43 #[strV s] w (Ret fun r w' => Ext w w' ∧ RParseV w' r s) := by
  have hzA := sz_pval (cutA s)
  have hzB := sz_pval (cutB s)
  have hlA := cutA_le s
  have hlB := cutB_le s
  refine calls_of_St (args := [_]) Try.func43 rfl Try.ntmps43 rfl ?_
  (repeat with_reducible first|refine .nil ?_|refine .then_normal ?_|refine .block_normal ?_|refine .seq ?_|refine .block ?_|refine .skip ?_|refine .region ?_|refine .ret ?_|refine .then_ret ?_|refine .block_ret ?_|refine .exit ?_|refine .then_exit ?_|refine .block_exit ?_|refine .block_other rfl ?_)
  refine StL.step rfl rfl rfl (OpR.alloc TBok rfl) ?_
  rintro _ w1 ⟨rfl, B2, hx0, hz1⟩
  (iterate 6 ((repeat with_reducible first|refine .nil ?_|refine .then_normal ?_|refine .block_normal ?_|refine .seq ?_|refine .block ?_|refine .skip ?_|refine .region ?_|refine .ret ?_|refine .then_ret ?_|refine .block_ret ?_|refine .exit ?_|refine .then_exit ?_|refine .block_exit ?_|refine .block_other rfl ?_); try refine .run TBok 99 rfl ?_))
  refine StL.step rfl rfl rfl (OpR.call fn_strings_Cut rfl (cut_spec w1 s h (by omega))) ?_
  rintro _ w2 ⟨hx2, rfl⟩
  replace B2 := B2.ext hx2
  replace hx0 := hx0.trans hx2
  clear hx2
  cases hb : (pos s).isSome with
  | false =>
    have hre := rerr_no hb
    (iterate 6 ((repeat with_reducible first|refine .nil ?_|refine .then_normal ?_|refine .block_normal ?_|refine .seq ?_|refine .block ?_|refine .skip ?_|refine .region ?_|refine .ret ?_|refine .then_ret ?_|refine .block_ret ?_|refine .exit ?_|refine .then_exit ?_|refine .block_exit ?_|refine .block_other rfl ?_); try refine .run TBok 99 rfl ?_))
    refine St.condT rfl rfl ?_
    (iterate 6 ((repeat with_reducible first|refine .nil ?_|refine .then_normal ?_|refine .block_normal ?_|refine .seq ?_|refine .block ?_|refine .skip ?_|refine .region ?_|refine .ret ?_|refine .then_ret ?_|refine .block_ret ?_|refine .exit ?_|refine .then_exit ?_|refine .block_exit ?_|refine .block_other rfl ?_); try refine .run TBok 99 rfl ?_))
    refine StL.step rfl rfl rfl (OpR.call fn_r01_Parse rfl (rparse_spec w2 (cutA s) h.cutA (by omega))) ?_
    rintro _ w3 ⟨hx3, v7, rfl, h7⟩
    replace B2 := B2.ext hx3
    replace hx0 := hx0.trans hx3
    clear hx3
    refine .run TBok 99 rfl ?_
    refine StL.setNew rfl (fun _ => rfl) h7 hx0 ?_
    intro b7 w4 hl7 hx4 B7 h7' hx04
    replace B2 := B2.ext hx4
    clear hx4
    clear h7 hx0
    refine .run TBok 99 rfl ?_
    (repeat with_reducible first|refine .nil ?_|refine .then_normal ?_|refine .block_normal ?_|refine .seq ?_|refine .block ?_|refine .skip ?_|refine .region ?_|refine .ret ?_|refine .then_ret ?_|refine .block_ret ?_|refine .exit ?_|refine .then_exit ?_|refine .block_exit ?_|refine .block_other rfl ?_)
    by_cases e0 : perr (cutA s) = 0
    · refine StL.as TBok 2 (.bool false) rfl (ne_false e0) ?_
      (iterate 6 ((repeat with_reducible first|refine .nil ?_|refine .then_normal ?_|refine .block_normal ?_|refine .seq ?_|refine .block ?_|refine .skip ?_|refine .region ?_|refine .ret ?_|refine .then_ret ?_|refine .block_ret ?_|refine .exit ?_|refine .then_exit ?_|refine .block_exit ?_|refine .block_other rfl ?_); try refine .run TBok 99 rfl ?_))
      refine St.condF rfl rfl ?_
      (iterate 6 ((repeat with_reducible first|refine .nil ?_|refine .then_normal ?_|refine .block_normal ?_|refine .seq ?_|refine .block ?_|refine .skip ?_|refine .region ?_|refine .ret ?_|refine .then_ret ?_|refine .block_ret ?_|refine .exit ?_|refine .then_exit ?_|refine .block_exit ?_|refine .block_other rfl ?_); try refine .run TBok 99 rfl ?_))
      refine StL.step rfl rfl rfl (RunsTo.loadI2 rfl (B7) (h7'.r2)).op ?_
      rintro _ _ ⟨rfl, rfl⟩
      refine StL.step rfl rfl rfl (OpR.call fn_r02_Whole rfl (rwhole_spec (h7'.dn (by omega)))) ?_
      rintro v w5 ⟨hx5, hv⟩
      refine StL.setR rfl rfl rfl hv.1 (B2.ext hx5) rfl (hx04.trans hx5) (by omega) ?_
      intro w6 B6 hu6 hx6
      (iterate 6 ((repeat with_reducible first|refine .nil ?_|refine .then_normal ?_|refine .block_normal ?_|refine .seq ?_|refine .block ?_|refine .skip ?_|refine .region ?_|refine .ret ?_|refine .then_ret ?_|refine .block_ret ?_|refine .exit ?_|refine .then_exit ?_|refine .block_exit ?_|refine .block_other rfl ?_); try refine .run TBok 99 rfl ?_))
      refine Out.retRT rfl rfl rfl B6 hv.1 ⟨hx6, v, by rw [hre, e0]; first | done | rfl, hv.1, fun e => absurd (hre.trans e0) e, fun _ => ?_⟩
      rw [rval_no hb]
      exact hv.upd hu6 (B2.ext hx5) (by decide)
    · refine StL.as TBok 2 (.bool true) rfl (ne_true e0) ?_
      (iterate 6 ((repeat with_reducible first|refine .nil ?_|refine .then_normal ?_|refine .block_normal ?_|refine .seq ?_|refine .block ?_|refine .skip ?_|refine .region ?_|refine .ret ?_|refine .then_ret ?_|refine .block_ret ?_|refine .exit ?_|refine .then_exit ?_|refine .block_exit ?_|refine .block_other rfl ?_); try refine .run TBok 99 rfl ?_))
      refine St.condT rfl rfl ?_
      (iterate 6 ((repeat with_reducible first|refine .nil ?_|refine .then_normal ?_|refine .block_normal ?_|refine .seq ?_|refine .block ?_|refine .skip ?_|refine .region ?_|refine .ret ?_|refine .then_ret ?_|refine .block_ret ?_|refine .exit ?_|refine .then_exit ?_|refine .block_exit ?_|refine .block_other rfl ?_); try refine .run TBok 99 rfl ?_))
      refine StL.step rfl rfl rfl (RunsTo.build TBok rfl rfl rfl rfl).op ?_
      rintro _ _ ⟨rfl, rfl⟩
      refine .run TBok 99 rfl ?_
      refine StL.setR (v := zR) rfl rfl rfl zR_R4 B2 rfl hx04 (by omega) ?_
      intro w6 B6 hu6 hx6
      (iterate 6 ((repeat with_reducible first|refine .nil ?_|refine .then_normal ?_|refine .block_normal ?_|refine .seq ?_|refine .block ?_|refine .skip ?_|refine .region ?_|refine .ret ?_|refine .then_ret ?_|refine .block_ret ?_|refine .exit ?_|refine .then_exit ?_|refine .block_exit ?_|refine .block_other rfl ?_); try refine .run TBok 99 rfl ?_))
      exact Out.retRT rfl rfl rfl B6 zR_R4 ⟨hx6, zR, by rw [hre]; first | done | rfl, zR_R4, fun _ => rfl, fun e => absurd (hre.symm.trans e) e0⟩
  | true =>
    have hre : rerr s = _ := if_pos hb
    (iterate 6 ((repeat with_reducible first|refine .nil ?_|refine .then_normal ?_|refine .block_normal ?_|refine .seq ?_|refine .block ?_|refine .skip ?_|refine .region ?_|refine .ret ?_|refine .then_ret ?_|refine .block_ret ?_|refine .exit ?_|refine .then_exit ?_|refine .block_exit ?_|refine .block_other rfl ?_); try refine .run TBok 99 rfl ?_))
    refine St.condF rfl rfl ?_
    (iterate 6 ((repeat with_reducible first|refine .nil ?_|refine .then_normal ?_|refine .block_normal ?_|refine .seq ?_|refine .block ?_|refine .skip ?_|refine .region ?_|refine .ret ?_|refine .then_ret ?_|refine .block_ret ?_|refine .exit ?_|refine .then_exit ?_|refine .block_exit ?_|refine .block_other rfl ?_); try refine .run TBok 99 rfl ?_))
    refine StL.step rfl rfl rfl (OpR.call fn_r01_IsNumber rfl (isNumber_spec w2 (cutA s) h.cutA (by omega))) ?_
    rintro _ w3 ⟨hx3, rfl⟩
    replace B2 := B2.ext hx3
    replace hx0 := hx0.trans hx3
    clear hx3
    by_cases c1 : Numb (cutA s)
    · rw [decide_eq_true c1]
      refine .run TBok 99 rfl ?_
      refine StL.step rfl rfl rfl (OpR.call fn_r01_IsNumber rfl (isNumber_spec w3 (cutB s) h.cutB (by omega))) ?_
      rintro _ w4 ⟨hx4, rfl⟩
      replace B2 := B2.ext hx4
      replace hx0 := hx0.trans hx4
      clear hx4
      by_cases c2 : Numb (cutB s)
      · rw [decide_eq_true c2]
        refine .run TBok 99 rfl ?_
        obtain ⟨b, r, hbr⟩ := numb_cons c2
        have hb8 : b < 256 := h.cutB b (by rw [hbr]; simp)
        refine StL.step rfl rfl rfl (RunsTo.strIndex TBok (bs := cutB s) 0 b rfl rfl rfl rfl (by rw [hbr]; rfl) hb8).op ?_
        rintro _ _ ⟨rfl, rfl⟩
        have hng : isNeg (cutB s) = decide (b = 45) := by unfold isNeg; rw [hbr]; simp
        by_cases c3 : b = 45
        · rw [decide_eq_true c3] at hng
          rw [if_pos (.inr (.inr hng))] at hre
          refine StL.as TBok 1 (.bool true) rfl (bool_true (by omega)) ?_
          (iterate 6 ((repeat with_reducible first|refine .nil ?_|refine .then_normal ?_|refine .block_normal ?_|refine .seq ?_|refine .block ?_|refine .skip ?_|refine .region ?_|refine .ret ?_|refine .then_ret ?_|refine .block_ret ?_|refine .exit ?_|refine .then_exit ?_|refine .block_exit ?_|refine .block_other rfl ?_); try refine .run TBok 99 rfl ?_))
          refine St.condT rfl rfl ?_
          (iterate 6 ((repeat with_reducible first|refine .nil ?_|refine .then_normal ?_|refine .block_normal ?_|refine .seq ?_|refine .block ?_|refine .skip ?_|refine .region ?_|refine .ret ?_|refine .then_ret ?_|refine .block_ret ?_|refine .exit ?_|refine .then_exit ?_|refine .block_exit ?_|refine .block_other rfl ?_); try refine .run TBok 99 rfl ?_))
          refine StL.step rfl rfl rfl (RunsTo.build TBok rfl rfl rfl rfl).op ?_
          rintro _ _ ⟨rfl, rfl⟩
          refine StL.setR (v := zR) rfl rfl rfl zR_R4 B2 rfl hx0 (by omega) ?_
          intro w9 B6 hu6 hx6
          (iterate 6 ((repeat with_reducible first|refine .nil ?_|refine .then_normal ?_|refine .block_normal ?_|refine .seq ?_|refine .block ?_|refine .skip ?_|refine .region ?_|refine .ret ?_|refine .then_ret ?_|refine .block_ret ?_|refine .exit ?_|refine .then_exit ?_|refine .block_exit ?_|refine .block_other rfl ?_); try refine .run TBok 99 rfl ?_))
          exact Out.retRT rfl rfl rfl B6 zR_R4 ⟨hx6, zR, by rw [hre]; first | done | rfl, zR_R4, fun _ => rfl, fun e => by rw [hre] at e; cases e⟩
        rw [decide_eq_false c3] at hng
        rw [if_neg (fun e => e.elim (fun e => (perr_two _).1 e c1) fun e => e.elim (fun e => (perr_two _).1 e c2) fun e => by rw [hng] at e; cases e)] at hre
        refine StL.as TBok 1 (.bool false) rfl (bool_false (by omega)) ?_
        (iterate 6 ((repeat with_reducible first|refine .nil ?_|refine .then_normal ?_|refine .block_normal ?_|refine .seq ?_|refine .block ?_|refine .skip ?_|refine .region ?_|refine .ret ?_|refine .then_ret ?_|refine .block_ret ?_|refine .exit ?_|refine .then_exit ?_|refine .block_exit ?_|refine .block_other rfl ?_); try refine .run TBok 99 rfl ?_))
        refine St.condF rfl rfl ?_
        (iterate 6 ((repeat with_reducible first|refine .nil ?_|refine .then_normal ?_|refine .block_normal ?_|refine .seq ?_|refine .block ?_|refine .skip ?_|refine .region ?_|refine .ret ?_|refine .then_ret ?_|refine .block_ret ?_|refine .exit ?_|refine .then_exit ?_|refine .block_exit ?_|refine .block_other rfl ?_); try refine .run TBok 99 rfl ?_))
        refine StL.step rfl rfl rfl (OpR.call fn_r01_Long rfl (rlong_spec w4 (cutA s) h.cutA (by omega))) ?_
        rintro _ w5 ⟨hx5, rfl⟩
        replace B2 := B2.ext hx5
        replace hx0 := hx0.trans hx5
        clear hx5
        by_cases c4 : 2000 < (body (cutA s)).length
        · rw [if_pos (.inl fun e => (perr_zero c1).1 e c4)] at hre
          rw [decide_eq_true c4]
          (iterate 6 ((repeat with_reducible first|refine .nil ?_|refine .then_normal ?_|refine .block_normal ?_|refine .seq ?_|refine .block ?_|refine .skip ?_|refine .region ?_|refine .ret ?_|refine .then_ret ?_|refine .block_ret ?_|refine .exit ?_|refine .then_exit ?_|refine .block_exit ?_|refine .block_other rfl ?_); try refine .run TBok 99 rfl ?_))
          refine St.condT rfl rfl ?_
          (iterate 6 ((repeat with_reducible first|refine .nil ?_|refine .then_normal ?_|refine .block_normal ?_|refine .seq ?_|refine .block ?_|refine .skip ?_|refine .region ?_|refine .ret ?_|refine .then_ret ?_|refine .block_ret ?_|refine .exit ?_|refine .then_exit ?_|refine .block_exit ?_|refine .block_other rfl ?_); try refine .run TBok 99 rfl ?_))
          refine StL.step rfl rfl rfl (RunsTo.build TBok rfl rfl rfl rfl).op ?_
          rintro _ _ ⟨rfl, rfl⟩
          refine StL.setR (v := zR) rfl rfl rfl zR_R4 B2 rfl hx0 (by omega) ?_
          intro w9 B6 hu6 hx6
          (iterate 6 ((repeat with_reducible first|refine .nil ?_|refine .then_normal ?_|refine .block_normal ?_|refine .seq ?_|refine .block ?_|refine .skip ?_|refine .region ?_|refine .ret ?_|refine .then_ret ?_|refine .block_ret ?_|refine .exit ?_|refine .then_exit ?_|refine .block_exit ?_|refine .block_other rfl ?_); try refine .run TBok 99 rfl ?_))
          exact Out.retRT rfl rfl rfl B6 zR_R4 ⟨hx6, zR, by rw [hre]; first | done | rfl, zR_R4, fun _ => rfl, fun e => by rw [hre] at e; cases e⟩
        rw [decide_eq_false c4]
        refine .run TBok 99 rfl ?_
        refine StL.step rfl rfl rfl (OpR.call fn_r01_Long rfl (rlong_spec w5 (cutB s) h.cutB (by omega))) ?_
        rintro _ w6 ⟨hx6, rfl⟩
        replace B2 := B2.ext hx6
        replace hx0 := hx0.trans hx6
        clear hx6
        by_cases c5 : 2000 < (body (cutB s)).length
        · rw [if_pos (.inr fun e => (perr_zero c2).1 e c5)] at hre
          rw [decide_eq_true c5]
          (iterate 6 ((repeat with_reducible first|refine .nil ?_|refine .then_normal ?_|refine .block_normal ?_|refine .seq ?_|refine .block ?_|refine .skip ?_|refine .region ?_|refine .ret ?_|refine .then_ret ?_|refine .block_ret ?_|refine .exit ?_|refine .then_exit ?_|refine .block_exit ?_|refine .block_other rfl ?_); try refine .run TBok 99 rfl ?_))
          refine St.condT rfl rfl ?_
          (iterate 6 ((repeat with_reducible first|refine .nil ?_|refine .then_normal ?_|refine .block_normal ?_|refine .seq ?_|refine .block ?_|refine .skip ?_|refine .region ?_|refine .ret ?_|refine .then_ret ?_|refine .block_ret ?_|refine .exit ?_|refine .then_exit ?_|refine .block_exit ?_|refine .block_other rfl ?_); try refine .run TBok 99 rfl ?_))
          refine StL.step rfl rfl rfl (RunsTo.build TBok rfl rfl rfl rfl).op ?_
          rintro _ _ ⟨rfl, rfl⟩
          refine StL.setR (v := zR) rfl rfl rfl zR_R4 B2 rfl hx0 (by omega) ?_
          intro w9 B6 hu6 hx6
          (iterate 6 ((repeat with_reducible first|refine .nil ?_|refine .then_normal ?_|refine .block_normal ?_|refine .seq ?_|refine .block ?_|refine .skip ?_|refine .region ?_|refine .ret ?_|refine .then_ret ?_|refine .block_ret ?_|refine .exit ?_|refine .then_exit ?_|refine .block_exit ?_|refine .block_other rfl ?_); try refine .run TBok 99 rfl ?_))
          exact Out.retRT rfl rfl rfl B6 zR_R4 ⟨hx6, zR, by rw [hre]; first | done | rfl, zR_R4, fun _ => rfl, fun e => by rw [hre] at e; cases e⟩
        rw [decide_eq_false c5]
        rw [if_neg (fun e => e.elim (fun e => e ((perr_zero c1).2 c4)) (fun e => e ((perr_zero c2).2 c5)))] at hre
        (iterate 6 ((repeat with_reducible first|refine .nil ?_|refine .then_normal ?_|refine .block_normal ?_|refine .seq ?_|refine .block ?_|refine .skip ?_|refine .region ?_|refine .ret ?_|refine .then_ret ?_|refine .block_ret ?_|refine .exit ?_|refine .then_exit ?_|refine .block_exit ?_|refine .block_other rfl ?_); try refine .run TBok 99 rfl ?_))
        refine St.condF rfl rfl ?_
        (iterate 6 ((repeat with_reducible first|refine .nil ?_|refine .then_normal ?_|refine .block_normal ?_|refine .seq ?_|refine .block ?_|refine .skip ?_|refine .region ?_|refine .ret ?_|refine .then_ret ?_|refine .block_ret ?_|refine .exit ?_|refine .then_exit ?_|refine .block_exit ?_|refine .block_other rfl ?_); try refine .run TBok 99 rfl ?_))
        refine StL.step rfl rfl rfl (OpR.call fn_r01_Parse rfl (rparse_spec w6 (cutA s) h.cutA (by omega))) ?_
        rintro _ w7 ⟨hx7, v9, rfl, h9⟩
        replace B2 := B2.ext hx7
        replace hx0 := hx0.trans hx7
        clear hx7
        refine .run TBok 99 rfl ?_
        refine StL.setNew rfl (fun _ => rfl) h9 hx0 ?_
        intro b9 w8 hl9 hx8 B9 h9' hx08
        replace B2 := B2.ext hx8
        clear hx8
        clear h9 hx0
        refine .run TBok 99 rfl ?_
        (repeat with_reducible first|refine .nil ?_|refine .then_normal ?_|refine .block_normal ?_|refine .seq ?_|refine .block ?_|refine .skip ?_|refine .region ?_|refine .ret ?_|refine .then_ret ?_|refine .block_ret ?_|refine .exit ?_|refine .then_exit ?_|refine .block_exit ?_|refine .block_other rfl ?_)
        refine .run TBok 99 rfl ?_
        refine StL.step rfl rfl rfl (OpR.call fn_r01_Parse rfl (rparse_spec w8 (cutB s) h.cutB (by omega))) ?_
        rintro _ w9 ⟨hx9, v11, rfl, h11⟩
        replace B2 := B2.ext hx9
        replace B9 := B9.ext hx9
        replace h9' := h9'.ext hx9
        replace hx08 := hx08.trans hx9
        clear hx9
        refine .run TBok 99 rfl ?_
        refine StL.setNew rfl (fun _ => rfl) h11 hx08 ?_
        intro b11 w10 hl11 hx10 B11 h11' hx0
        replace B2 := B2.ext hx10
        replace B9 := B9.ext hx10
        replace h9' := h9'.ext hx10
        clear hx10
        clear h11 hx08
        refine .run TBok 99 rfl ?_
        (repeat with_reducible first|refine .nil ?_|refine .then_normal ?_|refine .block_normal ?_|refine .seq ?_|refine .block ?_|refine .skip ?_|refine .region ?_|refine .ret ?_|refine .then_ret ?_|refine .block_ret ?_|refine .exit ?_|refine .then_exit ?_|refine .block_exit ?_|refine .block_other rfl ?_)
        refine St.sub (E' := [(2, .pointer (some ⟨w.heap.size, 0, none⟩)), (9, .pointer (some ⟨b9, 0, none⟩)), (11, .pointer (some ⟨b11, 0, none⟩))]) ?_ ⟨rfl, rfl, rfl, trivial⟩
        by_cases c6 : pval (cutB s) ≤ 1
        · rw [if_pos (.inl c6)] at hre
          refine St.flow 7 TBfol (by kernel_rfl) rfl (by kernel_rfl) rfl True.intro ?_
          refine FL.one (L := []) rfl rfl rfl rfl rfl (fun _ hR => RunsTo.loadI2 rfl (hR.blk (B11) (by simp)) (h11'.r2)) ?_
          refine FL.callE fn_r01_Small rfl rfl rfl (fun w11 hx11 => CallF.mk rfl (rsmall_spec (base := 0) w11 1 (by decide) (by decide) (Nat.zero_le _))) (MonoR.canO 0 _) ?_
          refine FL.callXE fn_r01_Cmp rfl rfl rfl (fun w11 hx11 t64 h64 => CallF.mk rfl (rcmp_dn ((h11'.ext hx11).dn (by omega)) (h64.dn (by decide +kernel)))) ?_
          refine FL.as TBok 1 (.bool true) rfl (bool_true (by rw [cmpI_le]; exact c6)) ?_
          refine FL.run TBok 99 rfl ?_
          refine FL.endE rfl ?_
          intro w11 hx11 _ _ _ _
          replace B2 := B2.ext hx11
          replace hx0 := hx0.trans hx11
          clear hx11
          (iterate 6 ((repeat with_reducible first|refine .nil ?_|refine .then_normal ?_|refine .block_normal ?_|refine .seq ?_|refine .block ?_|refine .skip ?_|refine .region ?_|refine .ret ?_|refine .then_ret ?_|refine .block_ret ?_|refine .exit ?_|refine .then_exit ?_|refine .block_exit ?_|refine .block_other rfl ?_); try refine .run TBok 99 rfl ?_))
          refine St.condT rfl rfl ?_
          (iterate 6 ((repeat with_reducible first|refine .nil ?_|refine .then_normal ?_|refine .block_normal ?_|refine .seq ?_|refine .block ?_|refine .skip ?_|refine .region ?_|refine .ret ?_|refine .then_ret ?_|refine .block_ret ?_|refine .exit ?_|refine .then_exit ?_|refine .block_exit ?_|refine .block_other rfl ?_); try refine .run TBok 99 rfl ?_))
          refine StL.step rfl rfl rfl (RunsTo.build TBok rfl rfl rfl rfl).op ?_
          rintro _ _ ⟨rfl, rfl⟩
          refine StL.setR (v := zR) rfl rfl rfl zR_R4 B2 rfl hx0 (by omega) ?_
          intro w9 B6 hu6 hx6
          (iterate 6 ((repeat with_reducible first|refine .nil ?_|refine .then_normal ?_|refine .block_normal ?_|refine .seq ?_|refine .block ?_|refine .skip ?_|refine .region ?_|refine .ret ?_|refine .then_ret ?_|refine .block_ret ?_|refine .exit ?_|refine .then_exit ?_|refine .block_exit ?_|refine .block_other rfl ?_); try refine .run TBok 99 rfl ?_))
          exact Out.retRT rfl rfl rfl B6 zR_R4 ⟨hx6, zR, by rw [hre]; first | done | rfl, zR_R4, fun _ => rfl, fun e => by rw [hre] at e; cases e⟩
        refine St.flow 7 TBfol (by kernel_rfl) rfl (by kernel_rfl) rfl True.intro ?_
        refine FL.one (L := []) rfl rfl rfl rfl rfl (fun _ hR => RunsTo.loadI2 rfl (hR.blk (B11) (by simp)) (h11'.r2)) ?_
        refine FL.callE fn_r01_Small rfl rfl rfl (fun w11 hx11 => CallF.mk rfl (rsmall_spec (base := 0) w11 1 (by decide) (by decide) (Nat.zero_le _))) (MonoR.canO 0 _) ?_
        refine FL.callXE fn_r01_Cmp rfl rfl rfl (fun w11 hx11 t64 h64 => CallF.mk rfl (rcmp_dn ((h11'.ext hx11).dn (by omega)) (h64.dn (by decide +kernel)))) ?_
        refine FL.as TBok 1 (.bool false) rfl (bool_false (by rw [cmpI_le]; exact c6)) ?_
        refine FL.run TBok 99 rfl ?_
        refine FL.one (L := []) rfl rfl rfl rfl rfl (fun _ hR => RunsTo.loadI2 rfl (hR.blk (B9) (by simp)) (h9'.r2)) ?_
        refine FL.one (L := []) rfl rfl rfl rfl rfl (fun _ hR => RunsTo.loadI2 rfl (hR.blk (B11) (by simp)) (h11'.r2)) ?_
        refine FL.endE rfl ?_
        intro w11 hx11 _ _ _ _
        replace B2 := B2.ext hx11
        replace B9 := B9.ext hx11
        replace B11 := B11.ext hx11
        replace h9' := h9'.ext hx11
        replace h11' := h11'.ext hx11
        replace hx0 := hx0.trans hx11
        clear hx11
        have hzg := sz_gcd (pval (cutA s)) (pval (cutB s))
        refine StL.step rfl rfl rfl (OpR.call fn_r01_Gcd rfl (rgcd_dn (h9'.dn (by omega)) (h11'.dn (by omega)))) ?_
        rintro t70 w12 ⟨hx12, h70⟩
        replace B2 := B2.ext hx12
        replace B9 := B9.ext hx12
        replace B11 := B11.ext hx12
        replace h9' := h9'.ext hx12
        replace h11' := h11'.ext hx12
        replace hx0 := hx0.trans hx12
        clear hx12
        refine StL.step rfl rfl rfl (OpR.call fn_r01_Small rfl (rsmall_spec (base := 0) w12 1 (by decide) (by decide) (Nat.zero_le _))) ?_
        rintro t71 w13 ⟨hx13, h71⟩
        replace B2 := B2.ext hx13
        replace B9 := B9.ext hx13
        replace B11 := B11.ext hx13
        replace h9' := h9'.ext hx13
        replace h11' := h11'.ext hx13
        replace h70 := h70.ext hx13
        replace hx0 := hx0.trans hx13
        clear hx13
        refine StL.step rfl rfl rfl (OpR.call fn_r01_Cmp rfl (rcmp_dn (h70.dn (by omega)) (h71.dn (by decide +kernel)))) ?_
        rintro _ w14 ⟨hx14, rfl⟩
        replace B2 := B2.ext hx14
        replace B9 := B9.ext hx14
        replace B11 := B11.ext hx14
        replace h9' := h9'.ext hx14
        replace h11' := h11'.ext hx14
        replace hx0 := hx0.trans hx14
        clear hx14
        by_cases c7 : Nat.gcd (pval (cutA s)).natAbs (pval (cutB s)).natAbs = 1
        · rw [if_neg (fun e => e.elim c6 (fun e => e c7))] at hre
          refine StL.as TBok 1 (.bool false) rfl (ne_false (by rw [cmpI_zero]; omega)) ?_
          (iterate 6 ((repeat with_reducible first|refine .nil ?_|refine .then_normal ?_|refine .block_normal ?_|refine .seq ?_|refine .block ?_|refine .skip ?_|refine .region ?_|refine .ret ?_|refine .then_ret ?_|refine .block_ret ?_|refine .exit ?_|refine .then_exit ?_|refine .block_exit ?_|refine .block_other rfl ?_); try refine .run TBok 99 rfl ?_))
          refine St.condF rfl rfl ?_
          (iterate 6 ((repeat with_reducible first|refine .nil ?_|refine .then_normal ?_|refine .block_normal ?_|refine .seq ?_|refine .block ?_|refine .skip ?_|refine .region ?_|refine .ret ?_|refine .then_ret ?_|refine .block_ret ?_|refine .exit ?_|refine .then_exit ?_|refine .block_exit ?_|refine .block_other rfl ?_); try refine .run TBok 99 rfl ?_))
          refine StL.step rfl rfl rfl (RunsTo.loadI2 rfl (B9) (h9'.r2)).op ?_
          rintro _ _ ⟨rfl, rfl⟩
          refine StL.step rfl rfl rfl (RunsTo.loadI2 rfl (B11) (h11'.r2)).op ?_
          rintro _ _ ⟨rfl, rfl⟩
          refine StL.step rfl rfl rfl (RunsTo.buildR rfl rfl h9'.r2 h11'.r2).op ?_
          rintro _ _ ⟨rfl, rfl⟩
          obtain ⟨d1, d2⟩ := divInt_coprime (a := pval (cutA s)) (b := pval (cutB s)) (by omega) c7
          have hR : CanR 0 w14 (mkR v9 v11) (rval s) := by
            rw [rval_yes hb]
            exact CanR.mk (by rw [d1]; exact h9') (by rw [d2]; exact h11')
          refine StL.setR rfl rfl rfl hR.1 B2 rfl hx0 (by omega) ?_
          intro w15 B6 hu6 hx6
          (iterate 6 ((repeat with_reducible first|refine .nil ?_|refine .then_normal ?_|refine .block_normal ?_|refine .seq ?_|refine .block ?_|refine .skip ?_|refine .region ?_|refine .ret ?_|refine .then_ret ?_|refine .block_ret ?_|refine .exit ?_|refine .then_exit ?_|refine .block_exit ?_|refine .block_other rfl ?_); try refine .run TBok 99 rfl ?_))
          exact Out.retRT rfl rfl rfl B6 hR.1 ⟨hx6, _, by rw [hre]; first | done | rfl, hR.1, fun e => absurd hre e, fun _ => hR.upd hu6 B2 (by decide)⟩
        · rw [if_pos (.inr c7)] at hre
          refine StL.as TBok 1 (.bool true) rfl (ne_true (by rw [ne_eq, cmpI_zero]; omega)) ?_
          (iterate 6 ((repeat with_reducible first|refine .nil ?_|refine .then_normal ?_|refine .block_normal ?_|refine .seq ?_|refine .block ?_|refine .skip ?_|refine .region ?_|refine .ret ?_|refine .then_ret ?_|refine .block_ret ?_|refine .exit ?_|refine .then_exit ?_|refine .block_exit ?_|refine .block_other rfl ?_); try refine .run TBok 99 rfl ?_))
          refine St.condT rfl rfl ?_
          (iterate 6 ((repeat with_reducible first|refine .nil ?_|refine .then_normal ?_|refine .block_normal ?_|refine .seq ?_|refine .block ?_|refine .skip ?_|refine .region ?_|refine .ret ?_|refine .then_ret ?_|refine .block_ret ?_|refine .exit ?_|refine .then_exit ?_|refine .block_exit ?_|refine .block_other rfl ?_); try refine .run TBok 99 rfl ?_))
          refine StL.step rfl rfl rfl (RunsTo.build TBok rfl rfl rfl rfl).op ?_
          rintro _ _ ⟨rfl, rfl⟩
          refine StL.setR (v := zR) rfl rfl rfl zR_R4 B2 rfl hx0 (by omega) ?_
          intro w9 B6 hu6 hx6
          (iterate 6 ((repeat with_reducible first|refine .nil ?_|refine .then_normal ?_|refine .block_normal ?_|refine .seq ?_|refine .block ?_|refine .skip ?_|refine .region ?_|refine .ret ?_|refine .then_ret ?_|refine .block_ret ?_|refine .exit ?_|refine .then_exit ?_|refine .block_exit ?_|refine .block_other rfl ?_); try refine .run TBok 99 rfl ?_))
          exact Out.retRT rfl rfl rfl B6 zR_R4 ⟨hx6, zR, by rw [hre]; first | done | rfl, zR_R4, fun _ => rfl, fun e => by rw [hre] at e; cases e⟩
      · rw [decide_eq_false c2]
        rw [if_pos (.inr (.inl ((perr_two _).2 c2)))] at hre
        (iterate 6 ((repeat with_reducible first|refine .nil ?_|refine .then_normal ?_|refine .block_normal ?_|refine .seq ?_|refine .block ?_|refine .skip ?_|refine .region ?_|refine .ret ?_|refine .then_ret ?_|refine .block_ret ?_|refine .exit ?_|refine .then_exit ?_|refine .block_exit ?_|refine .block_other rfl ?_); try refine .run TBok 99 rfl ?_))
        refine St.condT rfl rfl ?_
        (iterate 6 ((repeat with_reducible first|refine .nil ?_|refine .then_normal ?_|refine .block_normal ?_|refine .seq ?_|refine .block ?_|refine .skip ?_|refine .region ?_|refine .ret ?_|refine .then_ret ?_|refine .block_ret ?_|refine .exit ?_|refine .then_exit ?_|refine .block_exit ?_|refine .block_other rfl ?_); try refine .run TBok 99 rfl ?_))
        refine StL.step rfl rfl rfl (RunsTo.build TBok rfl rfl rfl rfl).op ?_
        rintro _ _ ⟨rfl, rfl⟩
        refine StL.setR (v := zR) rfl rfl rfl zR_R4 B2 rfl hx0 (by omega) ?_
        intro w9 B6 hu6 hx6
        (iterate 6 ((repeat with_reducible first|refine .nil ?_|refine .then_normal ?_|refine .block_normal ?_|refine .seq ?_|refine .block ?_|refine .skip ?_|refine .region ?_|refine .ret ?_|refine .then_ret ?_|refine .block_ret ?_|refine .exit ?_|refine .then_exit ?_|refine .block_exit ?_|refine .block_other rfl ?_); try refine .run TBok 99 rfl ?_))
        exact Out.retRT rfl rfl rfl B6 zR_R4 ⟨hx6, zR, by rw [hre]; first | done | rfl, zR_R4, fun _ => rfl, fun e => by rw [hre] at e; cases e⟩
    · rw [decide_eq_false c1]
      rw [if_pos (.inl ((perr_two _).2 c1))] at hre
      (iterate 6 ((repeat with_reducible first|refine .nil ?_|refine .then_normal ?_|refine .block_normal ?_|refine .seq ?_|refine .block ?_|refine .skip ?_|refine .region ?_|refine .ret ?_|refine .then_ret ?_|refine .block_ret ?_|refine .exit ?_|refine .then_exit ?_|refine .block_exit ?_|refine .block_other rfl ?_); try refine .run TBok 99 rfl ?_))
      refine St.condT rfl rfl ?_
      (iterate 6 ((repeat with_reducible first|refine .nil ?_|refine .then_normal ?_|refine .block_normal ?_|refine .seq ?_|refine .block ?_|refine .skip ?_|refine .region ?_|refine .ret ?_|refine .then_ret ?_|refine .block_ret ?_|refine .exit ?_|refine .then_exit ?_|refine .block_exit ?_|refine .block_other rfl ?_); try refine .run TBok 99 rfl ?_))
      refine StL.step rfl rfl rfl (RunsTo.build TBok rfl rfl rfl rfl).op ?_
      rintro _ _ ⟨rfl, rfl⟩
      refine StL.setR (v := zR) rfl rfl rfl zR_R4 B2 rfl hx0 (by omega) ?_
      intro w9 B6 hu6 hx6
      (iterate 6 ((repeat with_reducible first|refine .nil ?_|refine .then_normal ?_|refine .block_normal ?_|refine .seq ?_|refine .block ?_|refine .skip ?_|refine .region ?_|refine .ret ?_|refine .then_ret ?_|refine .block_ret ?_|refine .exit ?_|refine .then_exit ?_|refine .block_exit ?_|refine .block_other rfl ?_); try refine .run TBok 99 rfl ?_))
      exact Out.retRT rfl rfl rfl B6 zR_R4 ⟨hx6, zR, by rw [hre]; first | done | rfl, zR_R4, fun _ => rfl, fun e => by rw [hre] at e; cases e⟩

end Go.Qf

/- The laws RationalParses, RationalReads, RationalNew: the walks. -/
namespace Go.Qf
open Go Go.RowKit Go.Proofs
set_option maxRecDepth 20000

theorem rz_rval (s : List Nat) : rz (rval s) ≤ s.length + 1 := by
  have h1 := sz_pval (cutA s)
  have h2 := sz_pval (cutB s)
  have h3 := cutA_le s
  have h4 := cutB_le s
  unfold rval
  split
  · have := rz_divInt (pval (cutA s)) (pval (cutB s))
    omega
  · have := rz_int (pval (cutA s))
    omega

theorem sameP {w : World} {a b : Value} {s : List Nat} (hl : s.length ≤ 10000) (a0 : rerr s ≠ 0 → a = zR) (a1 : rerr s = 0 → CanR 0 w a (rval s)) (b0 : rerr s ≠ 0 → b = zR) (b1 : rerr s = 0 → CanR 0 w b (rval s)) :
    Calls Try.prog 25 #[a, b] w (Ret fun r w' => Ext w w' ∧ r = .bool true) := by
  by_cases e : rerr s = 0
  · have := rz_rval s
    exact sameR_can (a1 e) (b1 e) (by omega)
  · rw [a0 e, b0 e]
    exact sameR_zero w

set_option maxHeartbeats 800000 in
theorem lawParsesR (w : World) (s : List Nat) (h : B8 s) : Calls Try.prog 8 #[strV s] w (Ret fun r w' => Ext w w' ∧ r = .bool true) := by
  refine calls_of_St (args := [_]) Try.func8 rfl Try.ntmps8 rfl ?_
  (repeat with_reducible first|refine .nil ?_|refine .then_normal ?_|refine .block_normal ?_|refine .seq ?_|refine .block ?_|refine .skip ?_|refine .region ?_|refine .ret ?_|refine .then_ret ?_|refine .block_ret ?_|refine .exit ?_|refine .then_exit ?_|refine .block_exit ?_|refine .block_other rfl ?_)
  refine .run TBok 99 rfl ?_
  (repeat with_reducible first|refine .nil ?_|refine .then_normal ?_|refine .block_normal ?_|refine .seq ?_|refine .block ?_|refine .skip ?_|refine .region ?_|refine .ret ?_|refine .then_ret ?_|refine .block_ret ?_|refine .exit ?_|refine .then_exit ?_|refine .block_exit ?_|refine .block_other rfl ?_)
  refine StL.as TBok 2 (.int .i64 (s.length : Int)) rfl (by rw [strB_size]) ?_
  by_cases hl : 200 < s.length
  · refine StL.as TBok 1 (.bool true) rfl (bool_true (by omega)) ?_
    (iterate 6 ((repeat with_reducible first|refine .nil ?_|refine .then_normal ?_|refine .block_normal ?_|refine .seq ?_|refine .block ?_|refine .skip ?_|refine .region ?_|refine .ret ?_|refine .then_ret ?_|refine .block_ret ?_|refine .exit ?_|refine .then_exit ?_|refine .block_exit ?_|refine .block_other rfl ?_); try refine .run TBok 99 rfl ?_))
    refine St.condT rfl rfl ?_
    (repeat with_reducible first|refine .nil ?_|refine .then_normal ?_|refine .block_normal ?_|refine .seq ?_|refine .block ?_|refine .skip ?_|refine .region ?_|refine .ret ?_|refine .then_ret ?_|refine .block_ret ?_|refine .exit ?_|refine .then_exit ?_|refine .block_exit ?_|refine .block_other rfl ?_)
    refine StL.awk rfl rfl ?_
    intro wz hxz
    (iterate 6 ((repeat with_reducible first|refine .nil ?_|refine .then_normal ?_|refine .block_normal ?_|refine .seq ?_|refine .block ?_|refine .skip ?_|refine .region ?_|refine .ret ?_|refine .then_ret ?_|refine .block_ret ?_|refine .exit ?_|refine .then_exit ?_|refine .block_exit ?_|refine .block_other rfl ?_); try refine .run TBok 99 rfl ?_))
    exact Out.ret1 rfl rfl ⟨hxz, rfl⟩
  refine StL.as TBok 1 (.bool false) rfl (bool_false (by omega)) ?_
  (iterate 6 ((repeat with_reducible first|refine .nil ?_|refine .then_normal ?_|refine .block_normal ?_|refine .seq ?_|refine .block ?_|refine .skip ?_|refine .region ?_|refine .ret ?_|refine .then_ret ?_|refine .block_ret ?_|refine .exit ?_|refine .then_exit ?_|refine .block_exit ?_|refine .block_other rfl ?_); try refine .run TBok 99 rfl ?_))
  refine St.condF rfl rfl ?_
  (iterate 6 ((repeat with_reducible first|refine .nil ?_|refine .then_normal ?_|refine .block_normal ?_|refine .seq ?_|refine .block ?_|refine .skip ?_|refine .region ?_|refine .ret ?_|refine .then_ret ?_|refine .block_ret ?_|refine .exit ?_|refine .then_exit ?_|refine .block_exit ?_|refine .block_other rfl ?_); try refine .run TBok 99 rfl ?_))
  refine StL.step rfl rfl rfl (OpR.call fn_rational_Parse rfl (parseR_spec w s h (by omega))) ?_
  rintro _ w1 ⟨hx0, a, rfl, a4, a0, a1⟩
  refine .run TBok 99 rfl ?_
  refine StL.newR rfl rfl (fun _ => rfl) a4 ?_
  intro b3 w2 hl3 hx2 B3
  replace a1 := fun e => (a1 e).ext hx2
  replace hx0 := hx0.trans hx2
  clear hx2
  (iterate 6 ((repeat with_reducible first|refine .nil ?_|refine .then_normal ?_|refine .block_normal ?_|refine .seq ?_|refine .block ?_|refine .skip ?_|refine .region ?_|refine .ret ?_|refine .then_ret ?_|refine .block_ret ?_|refine .exit ?_|refine .then_exit ?_|refine .block_exit ?_|refine .block_other rfl ?_); try refine .run TBok 99 rfl ?_))
  refine StL.step rfl rfl rfl (OpR.call fn_r02_Parse rfl (rparseR_spec w2 s h (by omega))) ?_
  rintro _ w3 ⟨hx3, b, rfl, b4, b0, b1⟩
  replace a1 := fun e => (a1 e).ext hx3
  replace B3 := B3.ext hx3
  replace hx0 := hx0.trans hx3
  clear hx3
  refine .run TBok 99 rfl ?_
  refine StL.newR rfl rfl (fun _ => rfl) b4 ?_
  intro b5 w4 hl5 hx4 B5
  replace a1 := fun e => (a1 e).ext hx4
  replace b1 := fun e => (b1 e).ext hx4
  replace B3 := B3.ext hx4
  replace hx0 := hx0.trans hx4
  clear hx4
  (iterate 6 ((repeat with_reducible first|refine .nil ?_|refine .then_normal ?_|refine .block_normal ?_|refine .seq ?_|refine .block ?_|refine .skip ?_|refine .region ?_|refine .ret ?_|refine .then_ret ?_|refine .block_ret ?_|refine .exit ?_|refine .then_exit ?_|refine .block_exit ?_|refine .block_other rfl ?_); try refine .run TBok 99 rfl ?_))
  refine StL.step rfl rfl rfl (RunsTo.loadR rfl rfl (B3) (a4)).op ?_
  rintro _ _ ⟨rfl, rfl⟩
  refine StL.step rfl rfl rfl (RunsTo.loadR rfl rfl (B5) (b4)).op ?_
  rintro _ _ ⟨rfl, rfl⟩
  refine StL.step rfl rfl rfl (OpR.call fn_r02_Same rfl (sameP (by omega) a0 a1 b0 b1)) ?_
  rintro _ w5 ⟨hx5, rfl⟩
  replace hx0 := hx0.trans hx5
  clear hx5
  refine StL.as TBok 4 (.bool true) rfl (by simp) ?_
  refine .run TBok 99 rfl ?_
  refine StL.awk rfl rfl ?_
  intro wz hxz
  (iterate 6 ((repeat with_reducible first|refine .nil ?_|refine .then_normal ?_|refine .block_normal ?_|refine .seq ?_|refine .block ?_|refine .skip ?_|refine .region ?_|refine .ret ?_|refine .then_ret ?_|refine .block_ret ?_|refine .exit ?_|refine .then_exit ?_|refine .block_exit ?_|refine .block_other rfl ?_); try refine .run TBok 99 rfl ?_))
  exact Out.ret1 rfl rfl ⟨hx0.trans hxz, rfl⟩

theorem RunsTo.remI {P : Program} {n : Nat} {E : List (Nat × Value)} {w : World} {d : Option Tmp} {t t2 : TypeId} {x y : Operand} {ty : TypeId} {pos : String} {af : Array Edge} {g : Option (Nat × Bool)} {m s : Int} (hx : ov E x = some (.int .i64 m)) (hy : ov E y = some (.int .i64 s)) (hs : s ≠ 0) :
    RunsTo P n ⟨d, .binOp .rem t x y t2, ty, pos, af, g⟩ E w (.int .i64 (m.tmod s)) := RunsTo.remT hx hy hs

theorem tmod_bound (a k : Int) (hk : 0 < k) (hk2 : k ≤ 1000) : -1000 ≤ a.tmod k ∧ a.tmod k ≤ 1000 := by
  have h1 := Int.natAbs_tmod a k
  have h2 := Nat.mod_lt a.natAbs (show 0 < k.natAbs by omega)
  omega

set_option maxHeartbeats 800000 in
theorem lawReads (w : World) (x : Int) (hx : -9223372036854775808 ≤ x ∧ x ≤ 9223372036854775807) (y : Int) (hy : -9223372036854775808 ≤ y ∧ y ≤ 9223372036854775807) (small : Bool) : Calls Try.prog 9 #[.int .i64 x, .int .i64 y, .bool small] w (Ret fun r w' => Ext w w' ∧ r = .bool true) := by
  refine calls_of_St (args := [_, _, _]) Try.func9 rfl Try.ntmps9 rfl ?_
  (iterate 6 ((repeat with_reducible first|refine .nil ?_|refine .then_normal ?_|refine .block_normal ?_|refine .seq ?_|refine .block ?_|refine .skip ?_|refine .region ?_|refine .ret ?_|refine .then_ret ?_|refine .block_ret ?_|refine .exit ?_|refine .then_exit ?_|refine .block_exit ?_|refine .block_other rfl ?_); try refine .run TBok 99 rfl ?_))
  refine St.cutX (fun g : Int × Int => [(0, .int .i64 g.1), (1, .int .i64 g.2)]) (fun g w' => w' = w ∧ (-9223372036854775808 ≤ g.1 ∧ g.1 ≤ 9223372036854775807) ∧ -9223372036854775808 ≤ g.2 ∧ g.2 ≤ 9223372036854775807) ?_ ?_
  · cases small with
    | true =>
      refine St.condT rfl rfl ?_
      (iterate 6 ((repeat with_reducible first|refine .nil ?_|refine .then_normal ?_|refine .block_normal ?_|refine .seq ?_|refine .block ?_|refine .skip ?_|refine .region ?_|refine .ret ?_|refine .then_ret ?_|refine .block_ret ?_|refine .exit ?_|refine .then_exit ?_|refine .block_exit ?_|refine .block_other rfl ?_); try refine .run TBok 99 rfl ?_))
      refine StL.step rfl rfl rfl (RunsTo.remI rfl rfl (by decide)).op ?_
      rintro _ _ ⟨rfl, rfl⟩
      refine .run TBok 99 rfl ?_
      refine StL.step rfl rfl rfl (RunsTo.remI rfl rfl (by decide)).op ?_
      rintro _ _ ⟨rfl, rfl⟩
      refine .run TBok 99 rfl ?_
      have t1 := tmod_bound x 40 (by decide) (by decide)
      have t2 := tmod_bound y 20 (by decide) (by decide)
      exact StL.nil (Out.met (x.tmod 40, y.tmod 20) ⟨rfl, rfl, trivial⟩ ⟨rfl, ⟨by dsimp only; omega, by dsimp only; omega⟩, by dsimp only; omega, by dsimp only; omega⟩)
    | false => exact St.condF rfl rfl (St.skip (Out.met (x, y) ⟨rfl, rfl, trivial⟩ ⟨rfl, hx, hy⟩))
  rintro ⟨x, y⟩ w' ⟨hw, hx, hy⟩
  subst hw
  dsimp only at hx hy ⊢
  have zx : sz x ≤ 2 := sz_small (by omega) (by omega)
  have zy : sz y ≤ 2 := sz_small (by omega) (by omega)
  have fx := fmtI_len x
  have fy := fmtI_len y
  (iterate 6 ((repeat with_reducible first|refine .nil ?_|refine .then_normal ?_|refine .block_normal ?_|refine .seq ?_|refine .block ?_|refine .skip ?_|refine .region ?_|refine .ret ?_|refine .then_ret ?_|refine .block_ret ?_|refine .exit ?_|refine .then_exit ?_|refine .block_exit ?_|refine .block_other rfl ?_); try refine .run TBok 99 rfl ?_))
  refine StL.step rfl rfl rfl (OpR.call fn_r01_Small rfl (rsmall_spec (base := 0) w' x hx.1 hx.2 (Nat.zero_le _))) ?_
  rintro v18 w1 ⟨hx0, h18⟩
  refine StL.step rfl rfl rfl (OpR.call fn_r01_Format rfl (rformat_dn (h18.dn (by omega)))) ?_
  rintro _ w2 ⟨hx2, rfl⟩
  replace hx0 := hx0.trans hx2
  clear hx2
  refine StL.step rfl rfl rfl (RunsTo.strAdd (bs := [47]) rfl rfl (by simp; omega)).op ?_
  rintro _ _ ⟨rfl, rfl⟩
  refine .run TBok 99 rfl ?_
  refine StL.step rfl rfl rfl (OpR.call fn_r01_Small rfl (rsmall_spec (base := 0) w2 y hy.1 hy.2 (Nat.zero_le _))) ?_
  rintro v22 w3 ⟨hx3, h22⟩
  replace hx0 := hx0.trans hx3
  clear hx3
  refine StL.step rfl rfl rfl (OpR.call fn_r01_Format rfl (rformat_dn (h22.dn (by omega)))) ?_
  rintro _ w4 ⟨hx4, rfl⟩
  replace hx0 := hx0.trans hx4
  clear hx4
  refine StL.step rfl rfl rfl (RunsTo.strAdd rfl rfl (by simp; omega)).op ?_
  rintro _ _ ⟨rfl, rfl⟩
  have h : B8 (fmtI x ++ [47] ++ fmtI y) := ((fmtI_b8 x).app b8_slash).app (fmtI_b8 y)
  have hl : (fmtI x ++ [47] ++ fmtI y).length ≤ 100 := by simp; omega
  generalize fmtI x ++ [47] ++ fmtI y = s at h hl ⊢
  (iterate 6 ((repeat with_reducible first|refine .nil ?_|refine .then_normal ?_|refine .block_normal ?_|refine .seq ?_|refine .block ?_|refine .skip ?_|refine .region ?_|refine .ret ?_|refine .then_ret ?_|refine .block_ret ?_|refine .exit ?_|refine .then_exit ?_|refine .block_exit ?_|refine .block_other rfl ?_); try refine .run TBok 99 rfl ?_))
  refine StL.step rfl rfl rfl (OpR.call fn_rational_Parse rfl (parseR_spec w4 s h (by omega))) ?_
  rintro _ w5 ⟨hx5, a, rfl, a4, a0, a1⟩
  replace hx0 := hx0.trans hx5
  clear hx5
  refine .run TBok 99 rfl ?_
  refine StL.newR rfl rfl (fun _ => rfl) a4 ?_
  intro b3 w6 hl3 hx6 B3
  replace a1 := fun e => (a1 e).ext hx6
  replace hx0 := hx0.trans hx6
  clear hx6
  (iterate 6 ((repeat with_reducible first|refine .nil ?_|refine .then_normal ?_|refine .block_normal ?_|refine .seq ?_|refine .block ?_|refine .skip ?_|refine .region ?_|refine .ret ?_|refine .then_ret ?_|refine .block_ret ?_|refine .exit ?_|refine .then_exit ?_|refine .block_exit ?_|refine .block_other rfl ?_); try refine .run TBok 99 rfl ?_))
  refine StL.step rfl rfl rfl (OpR.call fn_r02_Parse rfl (rparseR_spec w6 s h (by omega))) ?_
  rintro _ w7 ⟨hx7, b, rfl, b4, b0, b1⟩
  replace a1 := fun e => (a1 e).ext hx7
  replace B3 := B3.ext hx7
  replace hx0 := hx0.trans hx7
  clear hx7
  refine .run TBok 99 rfl ?_
  refine StL.newR rfl rfl (fun _ => rfl) b4 ?_
  intro b5 w8 hl5 hx8 B5
  replace a1 := fun e => (a1 e).ext hx8
  replace b1 := fun e => (b1 e).ext hx8
  replace B3 := B3.ext hx8
  replace hx0 := hx0.trans hx8
  clear hx8
  (iterate 6 ((repeat with_reducible first|refine .nil ?_|refine .then_normal ?_|refine .block_normal ?_|refine .seq ?_|refine .block ?_|refine .skip ?_|refine .region ?_|refine .ret ?_|refine .then_ret ?_|refine .block_ret ?_|refine .exit ?_|refine .then_exit ?_|refine .block_exit ?_|refine .block_other rfl ?_); try refine .run TBok 99 rfl ?_))
  refine StL.step rfl rfl rfl (RunsTo.loadR rfl rfl (B3) (a4)).op ?_
  rintro _ _ ⟨rfl, rfl⟩
  refine StL.step rfl rfl rfl (RunsTo.loadR rfl rfl (B5) (b4)).op ?_
  rintro _ _ ⟨rfl, rfl⟩
  refine StL.step rfl rfl rfl (OpR.call fn_r02_Same rfl (sameP (by omega) a0 a1 b0 b1)) ?_
  rintro _ w9 ⟨hx9, rfl⟩
  replace hx0 := hx0.trans hx9
  clear hx9
  refine StL.as TBok 4 (.bool true) rfl (by simp) ?_
  refine .run TBok 99 rfl ?_
  refine StL.awk rfl rfl ?_
  intro wz hxz
  (iterate 6 ((repeat with_reducible first|refine .nil ?_|refine .then_normal ?_|refine .block_normal ?_|refine .seq ?_|refine .block ?_|refine .skip ?_|refine .region ?_|refine .ret ?_|refine .then_ret ?_|refine .block_ret ?_|refine .exit ?_|refine .then_exit ?_|refine .block_exit ?_|refine .block_other rfl ?_); try refine .run TBok 99 rfl ?_))
  exact Out.ret1 rfl rfl ⟨hx0.trans hxz, rfl⟩

theorem NewV.open {w : World} {r : Value} {a b : Int} (h : NewV 0 w r a b) : ∃ v, r = .tuple #[v, .bool (decide (b ≠ 0))] ∧ R4 v ∧ (b = 0 → v = zR) ∧ (b ≠ 0 → CanR 0 w v (Rat.divInt a b)) := by
  by_cases e : b = 0
  · exact ⟨zR, by rw [h.1 e, decide_eq_false (fun h => h e)], zR_R4, fun _ => rfl, fun h => absurd e h⟩
  · obtain ⟨v, hr, hv⟩ := h.2 e
    exact ⟨v, by rw [hr, decide_eq_true e], hv.1, fun h => absurd h e, fun _ => hv⟩

set_option maxHeartbeats 1600000 in
theorem lawNew (w : World) (v : Value) (na : Bool) (xs : List Nat) (h : Den w v na xs) (u : Value) (nb : Bool) (ys : List Nat) (k : Den w u nb ys) : Calls Try.prog 4 #[v, u] w (Ret fun r w' => Ext w w' ∧ r = .bool true) := by
  have hD := h
  have kD := k
  obtain ⟨p, cp, rfl, _⟩ := h
  obtain ⟨q, cq, rfl, _⟩ := k
  refine calls_of_St (args := [_, _]) Try.func4 rfl Try.ntmps4 rfl ?_
  (repeat with_reducible first|refine .nil ?_|refine .then_normal ?_|refine .block_normal ?_|refine .seq ?_|refine .block ?_|refine .skip ?_|refine .region ?_|refine .ret ?_|refine .then_ret ?_|refine .block_ret ?_|refine .exit ?_|refine .then_exit ?_|refine .block_exit ?_|refine .block_other rfl ?_)
  refine StL.step rfl rfl rfl (OpR.box rfl) ?_
  rintro _ w1 ⟨rfl, B1, hx1, hz1⟩
  refine StL.step rfl rfl rfl (OpR.box rfl) ?_
  rintro _ w2 ⟨rfl, B2, hx2, hz2⟩
  have hx0 : Ext w w2 := hx1.trans hx2
  replace B1 := B1.ext hx2
  replace hD := hD.ext hx0
  replace kD := kD.ext hx0
  clear hx1 hx2
  (iterate 6 ((repeat with_reducible first|refine .nil ?_|refine .then_normal ?_|refine .block_normal ?_|refine .seq ?_|refine .block ?_|refine .skip ?_|refine .region ?_|refine .ret ?_|refine .then_ret ?_|refine .block_ret ?_|refine .exit ?_|refine .then_exit ?_|refine .block_exit ?_|refine .block_other rfl ?_); try refine .run TBok 99 rfl ?_))
  refine StL.step rfl rfl rfl (RunsTo.load TBok rfl rfl rfl (B1.cell rfl)).op ?_
  rintro _ _ ⟨rfl, rfl⟩
  by_cases l1 : 8 < xs.length
  · refine StL.as TBok 2 (.bool true) rfl (bool_true (by omega)) ?_
    (iterate 6 ((repeat with_reducible first|refine .nil ?_|refine .then_normal ?_|refine .block_normal ?_|refine .seq ?_|refine .block ?_|refine .skip ?_|refine .region ?_|refine .ret ?_|refine .then_ret ?_|refine .block_ret ?_|refine .exit ?_|refine .then_exit ?_|refine .block_exit ?_|refine .block_other rfl ?_); try refine .run TBok 99 rfl ?_))
    refine St.condT rfl rfl ?_
    (repeat with_reducible first|refine .nil ?_|refine .then_normal ?_|refine .block_normal ?_|refine .seq ?_|refine .block ?_|refine .skip ?_|refine .region ?_|refine .ret ?_|refine .then_ret ?_|refine .block_ret ?_|refine .exit ?_|refine .then_exit ?_|refine .block_exit ?_|refine .block_other rfl ?_)
    refine StL.awk rfl rfl ?_
    intro wz hxz
    (iterate 6 ((repeat with_reducible first|refine .nil ?_|refine .then_normal ?_|refine .block_normal ?_|refine .seq ?_|refine .block ?_|refine .skip ?_|refine .region ?_|refine .ret ?_|refine .then_ret ?_|refine .block_ret ?_|refine .exit ?_|refine .then_exit ?_|refine .block_exit ?_|refine .block_other rfl ?_); try refine .run TBok 99 rfl ?_))
    exact Out.ret1 rfl rfl ⟨hx0.trans hxz, rfl⟩
  refine StL.as TBok 2 (.bool false) rfl (bool_false (by omega)) ?_
  refine .run TBok 99 rfl ?_
  refine StL.step rfl rfl rfl (RunsTo.load TBok rfl rfl rfl (B2.cell rfl)).op ?_
  rintro _ _ ⟨rfl, rfl⟩
  by_cases l2 : 8 < ys.length
  · refine StL.as TBok 2 (.bool true) rfl (bool_true (by omega)) ?_
    (iterate 6 ((repeat with_reducible first|refine .nil ?_|refine .then_normal ?_|refine .block_normal ?_|refine .seq ?_|refine .block ?_|refine .skip ?_|refine .region ?_|refine .ret ?_|refine .then_ret ?_|refine .block_ret ?_|refine .exit ?_|refine .then_exit ?_|refine .block_exit ?_|refine .block_other rfl ?_); try refine .run TBok 99 rfl ?_))
    refine St.condT rfl rfl ?_
    (repeat with_reducible first|refine .nil ?_|refine .then_normal ?_|refine .block_normal ?_|refine .seq ?_|refine .block ?_|refine .skip ?_|refine .region ?_|refine .ret ?_|refine .then_ret ?_|refine .block_ret ?_|refine .exit ?_|refine .then_exit ?_|refine .block_exit ?_|refine .block_other rfl ?_)
    refine StL.awk rfl rfl ?_
    intro wz hxz
    (iterate 6 ((repeat with_reducible first|refine .nil ?_|refine .then_normal ?_|refine .block_normal ?_|refine .seq ?_|refine .block ?_|refine .skip ?_|refine .region ?_|refine .ret ?_|refine .then_ret ?_|refine .block_ret ?_|refine .exit ?_|refine .then_exit ?_|refine .block_exit ?_|refine .block_other rfl ?_); try refine .run TBok 99 rfl ?_))
    exact Out.ret1 rfl rfl ⟨hx0.trans hxz, rfl⟩
  refine StL.as TBok 2 (.bool false) rfl (bool_false (by omega)) ?_
  (iterate 6 ((repeat with_reducible first|refine .nil ?_|refine .then_normal ?_|refine .block_normal ?_|refine .seq ?_|refine .block ?_|refine .skip ?_|refine .region ?_|refine .ret ?_|refine .then_ret ?_|refine .block_ret ?_|refine .exit ?_|refine .then_exit ?_|refine .block_exit ?_|refine .block_other rfl ?_); try refine .run TBok 99 rfl ?_))
  refine St.condF rfl rfl ?_
  have s1 := sz_den hD
  have s2 := sz_den kD
  have hX : Dn w2 _ _ := hD.dn (by omega)
  have hY : Dn w2 _ _ := kD.dn (by omega)
  have r1 := hX.r2
  have r2 := hY.r2
  generalize sg na (val xs) = a at *
  generalize sg nb (val ys) = b at *
  have zd := rz_divInt a b
  have zi := rz_int a
  generalize IntV na (.slice p xs.length cp) = x at *
  generalize IntV nb (.slice q ys.length cq) = y at *
  (iterate 6 ((repeat with_reducible first|refine .nil ?_|refine .then_normal ?_|refine .block_normal ?_|refine .seq ?_|refine .block ?_|refine .skip ?_|refine .region ?_|refine .ret ?_|refine .then_ret ?_|refine .block_ret ?_|refine .exit ?_|refine .then_exit ?_|refine .block_exit ?_|refine .block_other rfl ?_); try refine .run TBok 99 rfl ?_))
  refine StL.step rfl rfl rfl (RunsTo.loadI2 rfl (B1) (r1)).op ?_
  rintro _ _ ⟨rfl, rfl⟩
  refine StL.step rfl rfl rfl (RunsTo.loadI2 rfl (B2) (r2)).op ?_
  rintro _ _ ⟨rfl, rfl⟩
  refine StL.step rfl rfl rfl (OpR.call fn_rational_New rfl (new_spec (base := 0) hX hY (Nat.zero_le _))) ?_
  rintro _ w3 ⟨hx3, hn⟩
  obtain ⟨t, rfl, t4, t0, t1⟩ := hn.open
  replace B1 := B1.ext hx3
  replace B2 := B2.ext hx3
  replace hX := hX.ext hx3
  replace hY := hY.ext hx3
  replace hx0 := hx0.trans hx3
  clear hx3
  refine .run TBok 99 rfl ?_
  refine StL.newR rfl rfl (fun _ => rfl) t4 ?_
  intro b5 w4 hl5 hx4 B5
  replace t1 := fun e => (t1 e).ext hx4
  replace B1 := B1.ext hx4
  replace B2 := B2.ext hx4
  replace hX := hX.ext hx4
  replace hY := hY.ext hx4
  replace hx0 := hx0.trans hx4
  clear hx4
  (iterate 6 ((repeat with_reducible first|refine .nil ?_|refine .then_normal ?_|refine .block_normal ?_|refine .seq ?_|refine .block ?_|refine .skip ?_|refine .region ?_|refine .ret ?_|refine .then_ret ?_|refine .block_ret ?_|refine .exit ?_|refine .then_exit ?_|refine .block_exit ?_|refine .block_other rfl ?_); try refine .run TBok 99 rfl ?_))
  refine StL.step rfl rfl rfl (RunsTo.loadI2 rfl (B1) (r1)).op ?_
  rintro _ _ ⟨rfl, rfl⟩
  refine StL.step rfl rfl rfl (RunsTo.loadI2 rfl (B2) (r2)).op ?_
  rintro _ _ ⟨rfl, rfl⟩
  refine StL.step rfl rfl rfl (OpR.call fn_r02_New rfl (rnew_spec hX hY (by omega) (by omega))) ?_
  rintro _ w5 ⟨hx5, hm⟩
  obtain ⟨e, rfl, e4, e0, e1⟩ := hm.open
  replace t1 := fun e => (t1 e).ext hx5
  replace B1 := B1.ext hx5
  replace B5 := B5.ext hx5
  replace hX := hX.ext hx5
  replace hx0 := hx0.trans hx5
  clear hx5
  refine .run TBok 99 rfl ?_
  refine StL.newR rfl rfl (fun _ => rfl) e4 ?_
  intro b7 w6 hl7 hx6 B7
  replace t1 := fun e => (t1 e).ext hx6
  replace e1 := fun e => (e1 e).ext hx6
  replace B1 := B1.ext hx6
  replace B5 := B5.ext hx6
  replace hX := hX.ext hx6
  replace hx0 := hx0.trans hx6
  clear hx6
  have hs : ∀ w', Ext w6 w' → Calls Try.prog 25 #[t, e] w' (Ret fun r w'' => Ext w' w'' ∧ r = .bool true) := by
    intro w' hw
    by_cases c : b = 0
    · rw [t0 c, e0 c]; exact sameR_zero w'
    · exact sameR_can ((t1 c).ext hw) ((e1 c).ext hw) (by omega)
  refine .run TBok 99 rfl ?_
  (repeat with_reducible first|refine .nil ?_|refine .then_normal ?_|refine .block_normal ?_|refine .seq ?_|refine .block ?_|refine .skip ?_|refine .region ?_|refine .ret ?_|refine .then_ret ?_|refine .block_ret ?_|refine .exit ?_|refine .then_exit ?_|refine .block_exit ?_|refine .block_other rfl ?_)
  refine St.sub (E' := [(2, .pointer (some ⟨w.heap.size, 0, none⟩)), (5, .pointer (some ⟨b5, 0, none⟩)), (6, .bool (decide (b ≠ 0))), (7, .pointer (some ⟨b7, 0, none⟩)), (8, .bool (decide (b ≠ 0)))]) ?_ ⟨rfl, rfl, rfl, rfl, rfl, trivial⟩
  refine St.flow 12 TBfol (by kernel_rfl) rfl (by kernel_rfl) rfl True.intro ?_
  refine FL.one (L := []) rfl rfl rfl rfl rfl (fun _ hR => RunsTo.loadR rfl rfl (hR.blk (B5) (by simp)) (t4)) ?_
  refine FL.one (L := []) rfl rfl rfl rfl rfl (fun _ hR => RunsTo.loadR rfl rfl (hR.blk (B7) (by simp)) (e4)) ?_
  refine FL.callXE fn_r02_Same rfl rfl rfl (fun w7 hx7 => CallF.mk rfl (hs w7 hx7)) ?_
  refine FL.run TBok 99 rfl ?_
  refine FL.one (L := []) rfl rfl rfl rfl rfl (fun _ _ => RunsTo.boolEq TBok rfl rfl rfl) ?_
  rw [show (decide (b ≠ 0) == decide (b ≠ 0)) = true from by simp]
  refine FL.run TBok 99 rfl ?_
  refine FL.one (L := []) rfl rfl rfl rfl rfl (fun _ hR => RunsTo.loadI2 rfl (hR.blk (B1) (by simp)) (r1)) ?_
  refine FL.callE fn_rational_Whole rfl rfl rfl (fun w7 hx7 => CallF.mk rfl (whole_spec (base := 0) (hX.ext hx7) (Nat.zero_le _))) (MonoR.canR 0 _) ?_
  refine FL.one (L := []) rfl rfl rfl rfl rfl (fun _ hR => RunsTo.loadI2 rfl (hR.blk (B1) (by simp)) (r1)) ?_
  refine FL.endE rfl ?_
  intro w7 hx7 c hc _ _
  replace hX := hX.ext hx7
  replace hx0 := hx0.trans hx7
  clear hx7
  refine StL.step rfl rfl rfl (OpR.call fn_r02_Whole rfl (rwhole_spec hX)) ?_
  rintro d w8 ⟨hx8, hd⟩
  replace hc := hc.ext hx8
  replace hx0 := hx0.trans hx8
  clear hx8
  refine StL.step rfl rfl rfl (OpR.call fn_r02_Same rfl (sameR_can hc hd (by omega))) ?_
  rintro _ w9 ⟨hx9, rfl⟩
  replace hx0 := hx0.trans hx9
  clear hx9
  refine .run TBok 99 rfl ?_
  refine StL.awk rfl rfl ?_
  intro wz hxz
  (iterate 6 ((repeat with_reducible first|refine .nil ?_|refine .then_normal ?_|refine .block_normal ?_|refine .seq ?_|refine .block ?_|refine .skip ?_|refine .region ?_|refine .ret ?_|refine .then_ret ?_|refine .block_ret ?_|refine .exit ?_|refine .then_exit ?_|refine .block_exit ?_|refine .block_other rfl ?_); try refine .run TBok 99 rfl ?_))
  exact Out.ret1 rfl rfl ⟨hx0.trans hxz, rfl⟩

end Go.Qf
