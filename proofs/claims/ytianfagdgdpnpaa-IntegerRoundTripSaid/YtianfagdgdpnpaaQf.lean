/- Lemmas on the model and on the program's functions, part Qf. -/
import Derived.Test.YtianfagdgdpnpaaQa
import Derived.Test.YtianfagdgdpnpaaQb
import Derived.Test.YtianfagdgdpnpaaQc
import Derived.Test.YtianfagdgdpnpaaQd
import Derived.Test.YtianfagdgdpnpaaQe
/- quadformref01: sum, difference, Add, Sub. -/
namespace Go.Qf
open Go Go.RowKit Go.Proofs

/-- append(out, x): limbs in a slice of the call's own. -/
theorem StL.push32 {n : Nat} {E : List (Nat × Value)} {w w0 : World} {ops : Array Oper} {rest : List Oper} {Q : Exit → Act → World → Prop} {d1 d2 : Nat} {x : Operand} {s : Nat} {ty ty2 : TypeId} {pos pos2 : String} {af af2 : Array Edge} {base : Nat} {tv : Value} {xs : List Nat} (b : Nat) {bv : Int}
    (hx : ov E x = some (.int .u32 bv)) (hbv : bv = b) (hb32 : b < 4294967296) (hs : ∀ p, look ((d1, p) :: E) s = some tv) (hown : SlO base w tv xs) (hlen : xs.length ≤ 10000000000) (hx0 : Ext w0 w) (hb0 : w0.heap.size ≤ base) (hbase : base ≤ w.heap.size) (hn : Nat.blt d1 n = true) (hn2 : Nat.blt d2 n = true)
    (next : ∀ p v' w' wm, Ext w wm → SlO base wm tv xs → wm.grownBy w' tv.ownBlock → SlO base w' v' (xs ++ [b]) → Ext w0 w' → StL Try.prog n ((d2, v') :: (d1, p) :: E) w' ops rest Q) :
    StL Try.prog n E w ops (⟨some d1, .buildSlice 22 1 #[(0, x)], ty, pos, af, none⟩ :: ⟨some d2, .call ⟨.builtin .append, #[.tmp s, .tmp d1], #[22, 22]⟩, ty2, pos2, af2, none⟩ :: rest) Q := by
  subst hbv
  refine StL.step rfl rfl hn (OpR.single TBok rfl rfl rfl hx) ?_
  rintro _ wm ⟨rfl, hbm, hxm, hzm⟩
  have hown' := hown.ext hxm
  have hrow : Row 41 wm (.slice (some ⟨w.heap.size, 0, none⟩) 1 1) ([b].map u32) := hbm.row rfl (by simp) (by simp) rfl
  refine StL.step rfl rfl hn2 (OpR.append TBok rfl rfl rfl rfl (hs _) (look_cons_self _ _ _) hown'.1 hrow (u32_one [b]) (by simp; omega) (by simp; omega) (by have := hxm.size; omega)) ?_
  rintro v' w' ⟨ho, hg, _⟩
  refine next _ v' w' wm hxm hown' hg ⟨?_, ?_⟩ ((hx0.trans hxm).grown hown'.1 hb0 hg)
  · rw [List.map_append]; exact ho
  · refine hown.2.append ?_
    intro y hy; simp at hy; omega

theorem take_succ_getD (xs : List Nat) (i : Nat) : val (xs.take (i + 1)) = val (xs.take i) + xs.getD i 0 * 4294967296 ^ i := by
  by_cases h : i < xs.length
  · have hx : xs[i]? = some xs[i] := by simp
    rw [val_take_succ hx]
    simp [List.getD_eq_getElem?_getD, hx]
  · rw [List.take_of_length_le (by omega), List.take_of_length_le (by omega), List.getD_eq_getElem?_getD, List.getElem?_eq_none (by omega)]
    simp

theorem getD_lim {xs : List Nat} (h : Lim xs) (i : Nat) : xs.getD i 0 < 4294967296 := lim_getD h i

theorem val_snoc (xs : List Nat) (x : Nat) : val (xs ++ [x]) = val xs + 4294967296 ^ xs.length * x := by
  rw [val_append]; simp [val]

theorem u32_of (t : Nat) : IntKind.u32.wrap (t : Int) = ((t % 4294967296 : Nat) : Int) := by rw [wrap_u32]; omega
theorem u64_of (t : Nat) (h : t < 18446744073709551616) : IntKind.u64.wrap (t : Int) = (t : Int) := u64_id (by omega) (by omega)

set_option maxRecDepth 8000 in
set_option maxHeartbeats 400000 in
theorem rsum_spec (w : World) (u v : Value) (xs ys : List Nat) (h : Sl w u xs) (k : Sl w v ys) (hlen : xs.length ≤ 1000000000) (hl : ys.length ≤ 1000000000) :
    Calls Try.prog 74 #[u, v] w (Ret fun r w' => Ext w w' ∧ ∃ us, SlO 0 w' r us ∧ us.length ≤ max xs.length ys.length + 1 ∧ val us = val xs + val ys) := by
  obtain ⟨p, c, rfl, _⟩ := h.form
  obtain ⟨q, d, rfl, _⟩ := k.form
  refine calls_of_St (args := [_, _]) Try.func74 rfl Try.ntmps74 rfl ?_
  (iterate 6 ((repeat with_reducible first|refine .nil ?_|refine .then_normal ?_|refine .block_normal ?_|refine .seq ?_|refine .block ?_|refine .skip ?_|refine .region ?_|refine .ret ?_|refine .then_ret ?_|refine .block_ret ?_|refine .exit ?_|refine .then_exit ?_|refine .block_exit ?_|refine .block_other rfl ?_); try refine .run TBok 99 rfl ?_))
  refine St.loop (fun g : Value × List Nat × Nat × Nat => [(0, .slice p xs.length c), (1, .slice q ys.length d), (5, g.1), (6, .int .u64 g.2.2.1), (7, .int .i64 g.2.2.2)])
    (fun g w' => Ext w w' ∧ SlO w.heap.size w' g.1 g.2.1 ∧ g.2.1.length = g.2.2.2 ∧ g.2.2.1 ≤ 1 ∧ g.2.2.2 ≤ max xs.length ys.length ∧ val g.2.1 + g.2.2.1 * 4294967296 ^ g.2.2.2 = val (xs.take g.2.2.2) + val (ys.take g.2.2.2))
    (fun g => max xs.length ys.length - g.2.2.2) (.slice none 0 0, [], 0, 0) ⟨rfl, rfl, rfl, rfl, rfl, trivial⟩ ⟨Ext.refl _, SlO.nil _ _, rfl, by decide, Nat.zero_le _, rfl⟩ ?_
  rintro ⟨ov, os, cy, i⟩ w1 ⟨hx1, ho, hol, hcy, hi, hinv⟩
  dsimp only at hx1 ho hol hcy hi hinv ⊢
  have hA := h.ext hx1
  have hB := k.ext hx1
  have hxl := getD_lim h.2 i
  have hyl := getD_lim k.2 i
  by_cases hlt : i < max xs.length ys.length
  · refine St.cut (fun _ : Unit => [(0, .slice p xs.length c), (1, .slice q ys.length d), (5, ov), (6, .int .u64 cy), (7, .int .i64 i)]) (fun _ w' => w' = w1) ?_ ?_
    · (repeat with_reducible first|refine .nil ?_|refine .then_normal ?_|refine .block_normal ?_|refine .seq ?_|refine .block ?_|refine .skip ?_|refine .region ?_|refine .ret ?_|refine .then_ret ?_|refine .block_ret ?_|refine .exit ?_|refine .then_exit ?_|refine .block_exit ?_|refine .block_other rfl ?_)
      by_cases hx : i < xs.length
      · refine StL.as TBok 4 (.bool true) rfl (bool_true (by omega)) ?_
        (iterate 6 ((repeat with_reducible first|refine .nil ?_|refine .then_normal ?_|refine .block_normal ?_|refine .seq ?_|refine .block ?_|refine .skip ?_|refine .region ?_|refine .ret ?_|refine .then_ret ?_|refine .block_ret ?_|refine .exit ?_|refine .then_exit ?_|refine .block_exit ?_|refine .block_other rfl ?_); try refine .run TBok 99 rfl ?_))
        refine St.condT rfl rfl ?_
        exact St.skip (Out.met () ⟨rfl, rfl, rfl, rfl, rfl, trivial⟩ rfl)
      · refine StL.as TBok 4 (.bool false) rfl (bool_false (by omega)) ?_
        refine StL.as TBok 5 (.bool true) rfl (bool_true (by omega)) ?_
        (iterate 6 ((repeat with_reducible first|refine .nil ?_|refine .then_normal ?_|refine .block_normal ?_|refine .seq ?_|refine .block ?_|refine .skip ?_|refine .region ?_|refine .ret ?_|refine .then_ret ?_|refine .block_ret ?_|refine .exit ?_|refine .then_exit ?_|refine .block_exit ?_|refine .block_other rfl ?_); try refine .run TBok 99 rfl ?_))
        refine St.condT rfl rfl ?_
        exact St.skip (Out.met () ⟨rfl, rfl, rfl, rfl, rfl, trivial⟩ rfl)
    rintro _ w1 rfl
    refine St.seq (St.block (St.seq (St.cutX (fun _ : Unit => [(0, .slice p xs.length c), (1, .slice q ys.length d), (5, ov), (6, .int .u64 ((cy + xs.getD i 0 : Nat) : Int)), (7, .int .i64 i)]) (fun _ w' => w' = w1) ?_ ?_)))
    · (iterate 6 ((repeat with_reducible first|refine .nil ?_|refine .then_normal ?_|refine .block_normal ?_|refine .seq ?_|refine .block ?_|refine .skip ?_|refine .region ?_|refine .ret ?_|refine .then_ret ?_|refine .block_ret ?_|refine .exit ?_|refine .then_exit ?_|refine .block_exit ?_|refine .block_other rfl ?_); try refine .run TBok 99 rfl ?_))
      by_cases hx : i < xs.length
      · refine St.condT rfl (by simp; omega) ?_
        have hxi : xs[i]? = some xs[i] := by simp
        have hg : xs.getD i 0 = xs[i] := by simp [List.getD_eq_getElem?_getD, hxi]
        rw [hg] at hxl ⊢
        generalize xs[i] = x at hxi hxl ⊢
        (repeat with_reducible first|refine .nil ?_|refine .then_normal ?_|refine .block_normal ?_|refine .seq ?_|refine .block ?_|refine .skip ?_|refine .region ?_|refine .ret ?_|refine .then_ret ?_|refine .block_ret ?_|refine .exit ?_|refine .then_exit ?_|refine .block_exit ?_|refine .block_other rfl ?_)
        refine .run TBok 99 rfl ?_
        refine StL.elem TBok i (u32 x) hA.1 (hA.get hxi) rfl rfl rfl rfl rfl rfl rfl rfl rfl rfl rfl (fun _ => rfl) ?_
        intro p1
        refine StL.as TBok 2 (.int .u64 ((cy + x : Nat) : Int)) rfl (by congr 1; rw [u64_of x (by omega)]; exact u64_of (cy + x) (by omega)) ?_
        refine .run TBok 99 rfl ?_
        exact StL.nil (Out.met () ⟨rfl, rfl, rfl, rfl, rfl, trivial⟩ rfl)
      · refine St.condF rfl (by simp; omega) ?_
        have hg : xs.getD i 0 = 0 := by rw [List.getD_eq_getElem?_getD, List.getElem?_eq_none (by omega)]; rfl
        rw [hg]
        exact St.skip (Out.met () ⟨rfl, rfl, rfl, rfl, rfl, trivial⟩ rfl)
    rintro _ w1 rfl
    refine St.seq (St.cutX (fun _ : Unit => [(0, .slice p xs.length c), (1, .slice q ys.length d), (5, ov), (6, .int .u64 ((cy + xs.getD i 0 + ys.getD i 0 : Nat) : Int)), (7, .int .i64 i)]) (fun _ w' => w' = w1) ?_ ?_)
    · (iterate 6 ((repeat with_reducible first|refine .nil ?_|refine .then_normal ?_|refine .block_normal ?_|refine .seq ?_|refine .block ?_|refine .skip ?_|refine .region ?_|refine .ret ?_|refine .then_ret ?_|refine .block_ret ?_|refine .exit ?_|refine .then_exit ?_|refine .block_exit ?_|refine .block_other rfl ?_); try refine .run TBok 99 rfl ?_))
      by_cases hx : i < ys.length
      · refine St.condT rfl (by simp; omega) ?_
        have hyi : ys[i]? = some ys[i] := by simp
        have hg : ys.getD i 0 = ys[i] := by simp [List.getD_eq_getElem?_getD, hyi]
        rw [hg] at hyl ⊢
        generalize ys[i] = y at hyi hyl ⊢
        generalize xs.getD i 0 = x at hxl ⊢
        (repeat with_reducible first|refine .nil ?_|refine .then_normal ?_|refine .block_normal ?_|refine .seq ?_|refine .block ?_|refine .skip ?_|refine .region ?_|refine .ret ?_|refine .then_ret ?_|refine .block_ret ?_|refine .exit ?_|refine .then_exit ?_|refine .block_exit ?_|refine .block_other rfl ?_)
        refine .run TBok 99 rfl ?_
        refine StL.elem TBok i (u32 y) hB.1 (hB.get hyi) rfl rfl rfl rfl rfl rfl rfl rfl rfl rfl rfl (fun _ => rfl) ?_
        intro p1
        refine StL.as TBok 2 (.int .u64 ((cy + x + y : Nat) : Int)) rfl (by congr 1; rw [u64_of y (by omega)]; exact u64_of (cy + x + y) (by omega)) ?_
        refine .run TBok 99 rfl ?_
        exact StL.nil (Out.met () ⟨rfl, rfl, rfl, rfl, rfl, trivial⟩ rfl)
      · refine St.condF rfl (by simp; omega) ?_
        have hg : ys.getD i 0 = 0 := by rw [List.getD_eq_getElem?_getD, List.getElem?_eq_none (by omega)]; rfl
        rw [hg]
        exact St.skip (Out.met () ⟨rfl, rfl, rfl, rfl, rfl, trivial⟩ rfl)
    rintro _ w1 rfl
    have hX := take_succ_getD xs i
    have hY := take_succ_getD ys i
    generalize xs.getD i 0 = x at hxl hX ⊢
    generalize ys.getD i 0 = y at hyl hY ⊢
    (repeat with_reducible first|refine .nil ?_|refine .then_normal ?_|refine .block_normal ?_|refine .seq ?_|refine .block ?_|refine .skip ?_|refine .region ?_|refine .ret ?_|refine .then_ret ?_|refine .block_ret ?_|refine .exit ?_|refine .then_exit ?_|refine .block_exit ?_|refine .block_other rfl ?_)
    refine .run TBok 99 rfl ?_
    refine StL.push32 ((cy + x + y) % 4294967296) rfl (u32_of _) (Nat.mod_lt _ (by decide)) (fun _ => rfl) ho (by omega) hx1 (Nat.le_refl _) hx1.size rfl rfl ?_
    intro p2 v' w2 wm hxm hom hgr ho2 hx2
    (iterate 6 ((repeat with_reducible first|refine .nil ?_|refine .then_normal ?_|refine .block_normal ?_|refine .seq ?_|refine .block ?_|refine .skip ?_|refine .region ?_|refine .ret ?_|refine .then_ret ?_|refine .block_ret ?_|refine .exit ?_|refine .then_exit ?_|refine .block_exit ?_|refine .block_other rfl ?_); try refine .run TBok 99 rfl ?_))
    refine Out.again (v', os ++ [(cy + x + y) % 4294967296], (cy + x + y) / 4294967296, i + 1) ⟨rfl, rfl, rfl, ?_, ?_, trivial⟩ ⟨hx2, ho2, by simp [hol], by dsimp only; omega, by dsimp only; omega, ?_⟩ (by dsimp only; omega)
    · show some (Value.int .u64 (((cy + x + y : Nat) : Int) / 2 ^ 32)) = _
      rw [show ((2 : Int) ^ 32) = 4294967296 from rfl]
      congr 2
    · show some (Value.int .i64 (IntKind.i64.wrap ((i : Int) + 1))) = _
      rw [i64_id (by omega) (by omega)]; rfl
    · dsimp only
      rw [val_snoc, hol, hX, hY, Nat.pow_succ]
      have hdm := Nat.mod_add_div (cy + x + y) 4294967296
      have e : (cy + x + y) / 4294967296 * (4294967296 ^ i * 4294967296) = 4294967296 ^ i * (4294967296 * ((cy + x + y) / 4294967296)) := by
        rw [Nat.mul_comm, Nat.mul_assoc]
      rw [e, Nat.add_assoc, ← Nat.mul_add, hdm, Nat.mul_add, Nat.mul_add, Nat.mul_comm x, Nat.mul_comm y, Nat.mul_comm _ cy]
      omega
  · have hi' : i = max xs.length ys.length := by omega
    (repeat with_reducible first|refine .nil ?_|refine .then_normal ?_|refine .block_normal ?_|refine .seq ?_|refine .block ?_|refine .skip ?_|refine .region ?_|refine .ret ?_|refine .then_ret ?_|refine .block_ret ?_|refine .exit ?_|refine .then_exit ?_|refine .block_exit ?_|refine .block_other rfl ?_)
    refine StL.as TBok 4 (.bool false) rfl (bool_false (by omega)) ?_
    refine StL.as TBok 5 (.bool false) rfl (bool_false (by omega)) ?_
    (iterate 6 ((repeat with_reducible first|refine .nil ?_|refine .then_normal ?_|refine .block_normal ?_|refine .seq ?_|refine .block ?_|refine .skip ?_|refine .region ?_|refine .ret ?_|refine .then_ret ?_|refine .block_ret ?_|refine .exit ?_|refine .then_exit ?_|refine .block_exit ?_|refine .block_other rfl ?_); try refine .run TBok 99 rfl ?_))
    refine St.condF rfl rfl ?_
    (repeat with_reducible first|refine .nil ?_|refine .then_normal ?_|refine .block_normal ?_|refine .seq ?_|refine .block ?_|refine .skip ?_|refine .region ?_|refine .ret ?_|refine .then_ret ?_|refine .block_ret ?_|refine .exit ?_|refine .then_exit ?_|refine .block_exit ?_|refine .block_other rfl ?_)
    refine .run TBok 99 rfl ?_
    refine StL.push32 cy rfl (by rw [u32_of]; congr 1; omega) (by omega) (fun _ => rfl) ho (by omega) hx1 (Nat.le_refl _) hx1.size rfl rfl ?_
    intro p2 v' w2 wm hxm hom hgr ho2 hx2
    (iterate 6 ((repeat with_reducible first|refine .nil ?_|refine .then_normal ?_|refine .block_normal ?_|refine .seq ?_|refine .block ?_|refine .skip ?_|refine .region ?_|refine .ret ?_|refine .then_ret ?_|refine .block_ret ?_|refine .exit ?_|refine .then_exit ?_|refine .block_exit ?_|refine .block_other rfl ?_); try refine .run TBok 99 rfl ?_))
    refine Out.ret1 rfl rfl ⟨hx2, _, ho2.mono (Nat.zero_le _), by simp; omega, ?_⟩
    rw [List.take_of_length_le (by omega), List.take_of_length_le (by omega)] at hinv
    rw [val_snoc, hol, ← hinv, Nat.mul_comm]

set_option maxRecDepth 8000 in
set_option maxHeartbeats 400000 in
theorem rdiff_spec {base : Nat} (w : World) (u v : Value) (xs ys : List Nat) (h : Sl w u xs) (k : Sl w v ys) (hlen : xs.length ≤ 1000000000) (hl : ys.length ≤ 1000000000) (hll : ys.length ≤ xs.length) (hge : val ys ≤ val xs) (hbase : base ≤ w.heap.size) :
    Calls Try.prog 75 #[u, v] w (Ret fun r w' => Ext w w' ∧ ∃ us, SlO base w' r us ∧ us.length = xs.length ∧ val us = val xs - val ys) := by
  obtain ⟨p, c, rfl, _⟩ := h.form
  obtain ⟨q, d, rfl, _⟩ := k.form
  refine calls_of_St (args := [_, _]) Try.func75 rfl Try.ntmps75 rfl ?_
  (iterate 6 ((repeat with_reducible first|refine .nil ?_|refine .then_normal ?_|refine .block_normal ?_|refine .seq ?_|refine .block ?_|refine .skip ?_|refine .region ?_|refine .ret ?_|refine .then_ret ?_|refine .block_ret ?_|refine .exit ?_|refine .then_exit ?_|refine .block_exit ?_|refine .block_other rfl ?_); try refine .run TBok 99 rfl ?_))
  refine St.loop (fun g : Value × List Nat × Nat × Nat => [(0, .slice p xs.length c), (1, .slice q ys.length d), (5, g.1), (6, .int .u64 g.2.2.1), (7, .int .i64 g.2.2.2)])
    (fun g w' => Ext w w' ∧ SlO w.heap.size w' g.1 g.2.1 ∧ g.2.1.length = g.2.2.2 ∧ g.2.2.1 ≤ 1 ∧ g.2.2.2 ≤ xs.length ∧ val g.2.1 + val (ys.take g.2.2.2) = val (xs.take g.2.2.2) + g.2.2.1 * 4294967296 ^ g.2.2.2)
    (fun g => xs.length - g.2.2.2) (.slice none 0 0, [], 0, 0) ⟨rfl, rfl, rfl, rfl, rfl, trivial⟩ ⟨Ext.refl _, SlO.nil _ _, rfl, by decide, Nat.zero_le _, rfl⟩ ?_
  rintro ⟨ov, os, cy, i⟩ w1 ⟨hx1, ho, hol, hcy, hi, hinv⟩
  dsimp only at hx1 ho hol hcy hi hinv ⊢
  have hA := h.ext hx1
  have hB := k.ext hx1
  have hyl := getD_lim k.2 i
  by_cases hlt : i < xs.length
  · have hxi : xs[i]? = some xs[i] := by simp
    have hX := val_take_succ hxi
    generalize xs[i] = x at hxi hX
    have hxl := h.2.get hxi
    (repeat with_reducible first|refine .nil ?_|refine .then_normal ?_|refine .block_normal ?_|refine .seq ?_|refine .block ?_|refine .skip ?_|refine .region ?_|refine .ret ?_|refine .then_ret ?_|refine .block_ret ?_|refine .exit ?_|refine .then_exit ?_|refine .block_exit ?_|refine .block_other rfl ?_)
    refine StL.as TBok 4 (.bool true) rfl (bool_true (by omega)) ?_
    (repeat with_reducible first|refine .nil ?_|refine .then_normal ?_|refine .block_normal ?_|refine .seq ?_|refine .block ?_|refine .skip ?_|refine .region ?_|refine .ret ?_|refine .then_ret ?_|refine .block_ret ?_|refine .exit ?_|refine .then_exit ?_|refine .block_exit ?_|refine .block_other rfl ?_)
    refine St.condT rfl rfl ?_
    refine St.skip (Out.then_normal (St.seq (St.block ?_)))
    (repeat with_reducible first|refine .nil ?_|refine .then_normal ?_|refine .block_normal ?_|refine .seq ?_|refine .block ?_|refine .skip ?_|refine .region ?_|refine .ret ?_|refine .then_ret ?_|refine .block_ret ?_|refine .exit ?_|refine .then_exit ?_|refine .block_exit ?_|refine .block_other rfl ?_)
    refine .run TBok 99 rfl ?_
    (refine StL.nil ?_; repeat with_reducible first | refine Out.then_normal ?_ | refine Out.block_normal ?_)
    refine St.cut (fun _ : Unit => [(0, .slice p xs.length c), (1, .slice q ys.length d), (5, ov), (7, .int .i64 i), (8, .int .u64 ((cy + ys.getD i 0 : Nat) : Int))]) (fun _ w' => w' = w1) ?_ ?_
    · (iterate 6 ((repeat with_reducible first|refine .nil ?_|refine .then_normal ?_|refine .block_normal ?_|refine .seq ?_|refine .block ?_|refine .skip ?_|refine .region ?_|refine .ret ?_|refine .then_ret ?_|refine .block_ret ?_|refine .exit ?_|refine .then_exit ?_|refine .block_exit ?_|refine .block_other rfl ?_); try refine .run TBok 99 rfl ?_))
      by_cases hx : i < ys.length
      · refine St.condT rfl (by simp; omega) ?_
        have hyi : ys[i]? = some ys[i] := by simp
        have hg : ys.getD i 0 = ys[i] := by simp [List.getD_eq_getElem?_getD, hyi]
        rw [hg] at hyl ⊢
        generalize ys[i] = y at hyi hyl ⊢
        (repeat with_reducible first|refine .nil ?_|refine .then_normal ?_|refine .block_normal ?_|refine .seq ?_|refine .block ?_|refine .skip ?_|refine .region ?_|refine .ret ?_|refine .then_ret ?_|refine .block_ret ?_|refine .exit ?_|refine .then_exit ?_|refine .block_exit ?_|refine .block_other rfl ?_)
        refine .run TBok 99 rfl ?_
        refine StL.elem TBok i (u32 y) hB.1 (hB.get hyi) rfl rfl rfl rfl rfl rfl rfl rfl rfl rfl rfl (fun _ => rfl) ?_
        intro p1
        refine StL.as TBok 2 (.int .u64 ((cy + y : Nat) : Int)) rfl (by congr 1; rw [u64_of y (by omega)]; exact u64_of (cy + y) (by omega)) ?_
        refine .run TBok 99 rfl ?_
        exact StL.nil (Out.met () ⟨rfl, rfl, rfl, rfl, rfl, trivial⟩ rfl)
      · refine St.condF rfl (by simp; omega) ?_
        have hg : ys.getD i 0 = 0 := by rw [List.getD_eq_getElem?_getD, List.getElem?_eq_none (by omega)]; rfl
        rw [hg]
        exact St.skip (Out.met () ⟨rfl, rfl, rfl, rfl, rfl, trivial⟩ rfl)
    rintro _ w1 rfl
    have hY := take_succ_getD ys i
    generalize ys.getD i 0 = y at hyl hY ⊢
    obtain ⟨t, ht⟩ : ∃ t, t = cy + y := ⟨_, rfl⟩
    rw [← ht]
    obtain ⟨nb, hnb, hnb1⟩ : ∃ nb, nb = (if x < t then 1 else 0) ∧ nb ≤ 1 := ⟨_, rfl, by split <;> omega⟩
    obtain ⟨dg, hdg⟩ : ∃ dg, dg = x + nb * 4294967296 - t := ⟨_, rfl⟩
    have hdig : dg < 4294967296 ∧ dg + t = x + nb * 4294967296 := by
      rw [hdg, hnb]
      split <;> omega
    (repeat with_reducible first|refine .nil ?_|refine .then_normal ?_|refine .block_normal ?_|refine .seq ?_|refine .block ?_|refine .skip ?_|refine .region ?_|refine .ret ?_|refine .then_ret ?_|refine .block_ret ?_|refine .exit ?_|refine .then_exit ?_|refine .block_exit ?_|refine .block_other rfl ?_)
    refine .run TBok 99 rfl ?_
    refine StL.elem TBok i (u32 x) hA.1 (hA.get hxi) rfl rfl rfl rfl rfl rfl rfl rfl rfl rfl rfl (fun _ => rfl) ?_
    intro p1
    refine .run TBok 99 rfl ?_
    refine StL.push32 dg rfl (by rw [u64_of x (by omega), wrap_u32, wrap_u64]; omega) hdig.1 (fun _ => rfl) ho (by omega) hx1 (Nat.le_refl _) hx1.size rfl rfl ?_
    intro p2 v' w2 wm hxm hom hgr ho2 hx2
    (iterate 6 ((repeat with_reducible first|refine .nil ?_|refine .then_normal ?_|refine .block_normal ?_|refine .seq ?_|refine .block ?_|refine .skip ?_|refine .region ?_|refine .ret ?_|refine .then_ret ?_|refine .block_ret ?_|refine .exit ?_|refine .then_exit ?_|refine .block_exit ?_|refine .block_other rfl ?_); try refine .run TBok 99 rfl ?_))
    refine StL.elem TBok i (u32 x) (h.ext hx2).1 ((h.ext hx2).get hxi) rfl rfl rfl rfl rfl rfl rfl rfl rfl rfl rfl (fun _ => rfl) ?_
    intro p3
    refine StL.as TBok 1 (.int .u64 x) rfl (by rw [u64_of x (by omega)]) ?_
    refine .run TBok 99 rfl ?_
    (refine StL.nil ?_; repeat with_reducible first | refine Out.then_normal ?_ | refine Out.block_normal ?_)
    have hfin : val (os ++ [dg]) + val (ys.take (i + 1)) = val (xs.take (i + 1)) + nb * 4294967296 ^ (i + 1) := by
      rw [val_snoc, hol, hX, hY, Nat.pow_succ]
      generalize 4294967296 ^ i = P at *
      have e1 : P * dg + (cy * P + y * P) = x * P + nb * (P * 4294967296) := by
        have := congrArg (fun z => P * z) hdig.2
        simp only [ht, Nat.mul_add] at this
        rw [Nat.mul_comm cy, Nat.mul_comm y, Nat.mul_comm x, this, ← Nat.mul_assoc, Nat.mul_comm P nb, Nat.mul_assoc]
      generalize P * dg = A at *
      generalize cy * P = B at *
      generalize y * P = C at *
      generalize x * P = D at *
      generalize nb * (P * 4294967296) = F at *
      omega
    by_cases hx : x < t
    · refine St.condT rfl (by simp; omega) ?_
      rw [if_pos hx] at hnb
      subst hnb
      (iterate 6 ((repeat with_reducible first|refine .nil ?_|refine .then_normal ?_|refine .block_normal ?_|refine .seq ?_|refine .block ?_|refine .skip ?_|refine .region ?_|refine .ret ?_|refine .then_ret ?_|refine .block_ret ?_|refine .exit ?_|refine .then_exit ?_|refine .block_exit ?_|refine .block_other rfl ?_); try refine .run TBok 99 rfl ?_))
      refine Out.again (v', os ++ [dg], 1, i + 1) ⟨rfl, rfl, rfl, rfl, ?_, trivial⟩ ⟨hx2, ho2, by simp [hol], hnb1, by dsimp only; omega, hfin⟩ (by dsimp only; omega)
      show some (Value.int .i64 (IntKind.i64.wrap ((i : Int) + 1))) = _
      rw [i64_id (by omega) (by omega)]; rfl
    · refine St.condF rfl (by simp; omega) ?_
      rw [if_neg hx] at hnb
      subst hnb
      (iterate 6 ((repeat with_reducible first|refine .nil ?_|refine .then_normal ?_|refine .block_normal ?_|refine .seq ?_|refine .block ?_|refine .skip ?_|refine .region ?_|refine .ret ?_|refine .then_ret ?_|refine .block_ret ?_|refine .exit ?_|refine .then_exit ?_|refine .block_exit ?_|refine .block_other rfl ?_); try refine .run TBok 99 rfl ?_))
      refine Out.again (v', os ++ [dg], 0, i + 1) ⟨rfl, rfl, rfl, rfl, ?_, trivial⟩ ⟨hx2, ho2, by simp [hol], hnb1, by dsimp only; omega, hfin⟩ (by dsimp only; omega)
      show some (Value.int .i64 (IntKind.i64.wrap ((i : Int) + 1))) = _
      rw [i64_id (by omega) (by omega)]; rfl
  · have hi' : i = xs.length := by omega
    (repeat with_reducible first|refine .nil ?_|refine .then_normal ?_|refine .block_normal ?_|refine .seq ?_|refine .block ?_|refine .skip ?_|refine .region ?_|refine .ret ?_|refine .then_ret ?_|refine .block_ret ?_|refine .exit ?_|refine .then_exit ?_|refine .block_exit ?_|refine .block_other rfl ?_)
    refine StL.as TBok 4 (.bool false) rfl (bool_false (by omega)) ?_
    (repeat with_reducible first|refine .nil ?_|refine .then_normal ?_|refine .block_normal ?_|refine .seq ?_|refine .block ?_|refine .skip ?_|refine .region ?_|refine .ret ?_|refine .then_ret ?_|refine .block_ret ?_|refine .exit ?_|refine .then_exit ?_|refine .block_exit ?_|refine .block_other rfl ?_)
    refine St.condF rfl rfl ?_
    (iterate 6 ((repeat with_reducible first|refine .nil ?_|refine .then_normal ?_|refine .block_normal ?_|refine .seq ?_|refine .block ?_|refine .skip ?_|refine .region ?_|refine .ret ?_|refine .then_ret ?_|refine .block_ret ?_|refine .exit ?_|refine .then_exit ?_|refine .block_exit ?_|refine .block_other rfl ?_); try refine .run TBok 99 rfl ?_))
    refine Out.ret1 rfl rfl ⟨hx1, os, ho.mono hbase, by omega, ?_⟩
    rw [List.take_of_length_le (by omega), List.take_of_length_le (by omega)] at hinv
    have hlt2 := val_lt os ho.2
    rw [hol] at hlt2
    have : cy = 0 := by
      rcases Nat.eq_zero_or_pos cy with e | e
      · exact e
      · have : cy = 1 := by omega
        subst this
        omega
    subst this
    omega

set_option maxRecDepth 8000 in
theorem radd_dn {base : Nat} {w : World} {x y : Value} {a b : Int} (h : Dn w x a) (k : Dn w y b) (hbase : base ≤ w.heap.size) : Calls Try.prog 38 #[x, y] w (Ret fun r w' => Ext w w' ∧ CanO base w' r (a + b)) := by
  obtain ⟨na, xs, ⟨p, cap, rfl, hs⟩, rfl, hlen⟩ := h
  obtain ⟨nb, ys, ⟨q, cb, rfl, ks⟩, rfl, hl⟩ := k
  have hl1 := limbs_length_le xs hs.2
  have hl2 := limbs_length_le ys ks.2
  refine calls_of_St (args := [_, _]) Try.func38 rfl Try.ntmps38 rfl ?_
  (repeat with_reducible first|refine .nil ?_|refine .then_normal ?_|refine .block_normal ?_|refine .seq ?_|refine .block ?_|refine .skip ?_|refine .region ?_|refine .ret ?_|refine .then_ret ?_|refine .block_ret ?_|refine .exit ?_|refine .then_exit ?_|refine .block_exit ?_|refine .block_other rfl ?_)
  refine StL.step rfl rfl rfl (OpR.box rfl) ?_
  rintro _ w1 ⟨rfl, hb1, hx1, hz1⟩
  refine StL.step rfl rfl rfl (OpR.box rfl) ?_
  rintro _ w2 ⟨rfl, hb2, hx2, hz2⟩
  refine StL.step rfl rfl rfl (OpR.alloc TBok rfl) ?_
  rintro _ w3 ⟨rfl, hb3, hx3, hz3⟩
  (repeat with_reducible first|refine .nil ?_|refine .then_normal ?_|refine .block_normal ?_|refine .seq ?_|refine .block ?_|refine .skip ?_|refine .region ?_|refine .ret ?_|refine .then_ret ?_|refine .block_ret ?_|refine .exit ?_|refine .then_exit ?_|refine .block_exit ?_|refine .block_other rfl ?_)
  refine St.flow 6 TBfol (by kernel_rfl) rfl (by kernel_rfl) rfl True.intro ?_
  refine FL.run TBok 99 rfl ?_
  refine FL.load (L := []) TBok rfl rfl rfl rfl rfl rfl (by first | assumption | exact Ext.refl _ | (apply Blk.ext; assumption; (repeat first | assumption | refine Ext.trans ?_ (by assumption))) | (apply CanO.ext; assumption; (repeat first | assumption | refine Ext.trans ?_ (by assumption))) | (apply Den.ext; assumption; (repeat first | assumption | refine Ext.trans ?_ (by assumption))) | (apply Sl.ext; assumption; (repeat first | assumption | refine Ext.trans ?_ (by assumption))) | (apply SlO.ext; assumption; (repeat first | assumption | refine Ext.trans ?_ (by assumption))) | (apply Dn.ext; assumption; (repeat first | assumption | refine Ext.trans ?_ (by assumption))) | (apply It.ext; assumption; (repeat first | assumption | refine Ext.trans ?_ (by assumption))) | (repeat first | assumption | refine Ext.trans ?_ (by assumption))) (by simp) rfl ?_
  refine FL.callE fn_r01_trim rfl rfl rfl (fun w4 hx4 => CallF.mk rfl (rtrim_spec (base := 0) w4 _ xs (by first | assumption | exact Ext.refl _ | (apply Blk.ext; assumption; (repeat first | assumption | refine Ext.trans ?_ (by assumption))) | (apply CanO.ext; assumption; (repeat first | assumption | refine Ext.trans ?_ (by assumption))) | (apply Den.ext; assumption; (repeat first | assumption | refine Ext.trans ?_ (by assumption))) | (apply Sl.ext; assumption; (repeat first | assumption | refine Ext.trans ?_ (by assumption))) | (apply SlO.ext; assumption; (repeat first | assumption | refine Ext.trans ?_ (by assumption))) | (apply Dn.ext; assumption; (repeat first | assumption | refine Ext.trans ?_ (by assumption))) | (apply It.ext; assumption; (repeat first | assumption | refine Ext.trans ?_ (by assumption))) | (repeat first | assumption | refine Ext.trans ?_ (by assumption))) (by omega) (Nat.zero_le _))) (MonoR.slO 0 _) ?_
  refine FL.run TBok 99 rfl ?_
  refine FL.load (L := []) TBok rfl rfl rfl rfl rfl rfl (by first | assumption | exact Ext.refl _ | (apply Blk.ext; assumption; (repeat first | assumption | refine Ext.trans ?_ (by assumption))) | (apply CanO.ext; assumption; (repeat first | assumption | refine Ext.trans ?_ (by assumption))) | (apply Den.ext; assumption; (repeat first | assumption | refine Ext.trans ?_ (by assumption))) | (apply Sl.ext; assumption; (repeat first | assumption | refine Ext.trans ?_ (by assumption))) | (apply SlO.ext; assumption; (repeat first | assumption | refine Ext.trans ?_ (by assumption))) | (apply Dn.ext; assumption; (repeat first | assumption | refine Ext.trans ?_ (by assumption))) | (apply It.ext; assumption; (repeat first | assumption | refine Ext.trans ?_ (by assumption))) | (repeat first | assumption | refine Ext.trans ?_ (by assumption))) (by simp) rfl ?_
  refine FL.callE fn_r01_trim rfl rfl rfl (fun w4 hx4 => CallF.mk rfl (rtrim_spec (base := 0) w4 _ ys (by first | assumption | exact Ext.refl _ | (apply Blk.ext; assumption; (repeat first | assumption | refine Ext.trans ?_ (by assumption))) | (apply CanO.ext; assumption; (repeat first | assumption | refine Ext.trans ?_ (by assumption))) | (apply Den.ext; assumption; (repeat first | assumption | refine Ext.trans ?_ (by assumption))) | (apply Sl.ext; assumption; (repeat first | assumption | refine Ext.trans ?_ (by assumption))) | (apply SlO.ext; assumption; (repeat first | assumption | refine Ext.trans ?_ (by assumption))) | (apply Dn.ext; assumption; (repeat first | assumption | refine Ext.trans ?_ (by assumption))) | (apply It.ext; assumption; (repeat first | assumption | refine Ext.trans ?_ (by assumption))) | (repeat first | assumption | refine Ext.trans ?_ (by assumption))) (by omega) (Nat.zero_le _))) (MonoR.slO 0 _) ?_
  refine FL.endE rfl ?_
  intro w4 hx4 v12 h12 v9 h9 _ _
  obtain ⟨p9, c9, rfl, _⟩ := h9.sl.form
  obtain ⟨p12, c12, rfl, _⟩ := h12.sl.form
  generalize val xs = m at *
  generalize val ys = k at *
  have hx14 : Ext w w4 := (by first | assumption | exact Ext.refl _ | (apply Blk.ext; assumption; (repeat first | assumption | refine Ext.trans ?_ (by assumption))) | (apply CanO.ext; assumption; (repeat first | assumption | refine Ext.trans ?_ (by assumption))) | (apply Den.ext; assumption; (repeat first | assumption | refine Ext.trans ?_ (by assumption))) | (apply Sl.ext; assumption; (repeat first | assumption | refine Ext.trans ?_ (by assumption))) | (apply SlO.ext; assumption; (repeat first | assumption | refine Ext.trans ?_ (by assumption))) | (apply Dn.ext; assumption; (repeat first | assumption | refine Ext.trans ?_ (by assumption))) | (apply It.ext; assumption; (repeat first | assumption | refine Ext.trans ?_ (by assumption))) | (repeat first | assumption | refine Ext.trans ?_ (by assumption)))
  have hB1 : Blk 24 w4 w.heap.size _ := ((hb1.ext hx2).ext hx3).ext hx4
  have hB2 : Blk 24 w4 w1.heap.size _ := (hb2.ext hx3).ext hx4
  have hB3 : Blk 24 w4 w2.heap.size _ := hb3.ext hx4
  have hg : w.heap.size ≤ w2.heap.size := (hx1.trans hx2).size
  have hb4 : base ≤ w4.heap.size := Nat.le_trans hbase hx14.size
  clear hb1 hb2 hb3 hx1 hx2 hx3 hx4 hz1 hz2 hz3
  (iterate 6 ((repeat with_reducible first|refine .nil ?_|refine .then_normal ?_|refine .block_normal ?_|refine .seq ?_|refine .block ?_|refine .skip ?_|refine .region ?_|refine .ret ?_|refine .then_ret ?_|refine .block_ret ?_|refine .exit ?_|refine .then_exit ?_|refine .block_exit ?_|refine .block_other rfl ?_); try refine .run TBok 99 rfl ?_))
  refine StL.step rfl rfl rfl (RunsTo.load TBok rfl rfl rfl (hB1.cell rfl)).op ?_
  rintro _ _ ⟨rfl, rfl⟩
  refine .run TBok 99 rfl ?_
  refine StL.step rfl rfl rfl (RunsTo.load TBok rfl rfl rfl (hB2.cell rfl)).op ?_
  rintro _ _ ⟨rfl, rfl⟩
  refine StL.step rfl rfl rfl (RunsTo.boolEq TBok rfl rfl rfl).op ?_
  rintro _ _ ⟨rfl, rfl⟩
  (refine StL.nil ?_; repeat with_reducible first | refine Out.then_normal ?_ | refine Out.block_normal ?_)
  by_cases hn : na = nb
  · subst hn
    refine St.condT rfl (by simp) ?_
    (repeat with_reducible first|refine .nil ?_|refine .then_normal ?_|refine .block_normal ?_|refine .seq ?_|refine .block ?_|refine .skip ?_|refine .region ?_|refine .ret ?_|refine .then_ret ?_|refine .block_ret ?_|refine .exit ?_|refine .then_exit ?_|refine .block_exit ?_|refine .block_other rfl ?_)
    refine St.sub (E' := [(2, .pointer (some ⟨w.heap.size, 0, none⟩)), (4, .pointer (some ⟨w2.heap.size, 0, none⟩)), (5, .slice p9 (limbs m).length c9), (6, .slice p12 (limbs k).length c12)]) ?_ ⟨rfl, rfl, rfl, rfl, trivial⟩
    refine St.flow 6 TBfol (by kernel_rfl) rfl (by kernel_rfl) rfl True.intro ?_
    refine FL.run TBok 99 rfl ?_
    refine FL.load (L := []) TBok rfl rfl rfl rfl rfl rfl (by first | assumption | exact Ext.refl _ | (apply Blk.ext; assumption; (repeat first | assumption | refine Ext.trans ?_ (by assumption))) | (apply CanO.ext; assumption; (repeat first | assumption | refine Ext.trans ?_ (by assumption))) | (apply Den.ext; assumption; (repeat first | assumption | refine Ext.trans ?_ (by assumption))) | (apply Sl.ext; assumption; (repeat first | assumption | refine Ext.trans ?_ (by assumption))) | (apply SlO.ext; assumption; (repeat first | assumption | refine Ext.trans ?_ (by assumption))) | (apply Dn.ext; assumption; (repeat first | assumption | refine Ext.trans ?_ (by assumption))) | (apply It.ext; assumption; (repeat first | assumption | refine Ext.trans ?_ (by assumption))) | (repeat first | assumption | refine Ext.trans ?_ (by assumption))) (by simp) rfl ?_
    refine FL.run TBok 99 rfl ?_
    refine FL.callE fn_r01_sum rfl rfl rfl (fun w5 hx5 => CallF.mk rfl (rsum_spec w5 _ _ _ _ (h9.ext hx5).sl (h12.ext hx5).sl (by omega) (by omega))) ?_ ?_
    · rintro v w5 w6 hR ⟨us, h1, h2⟩
      exact ⟨us, h1.rg hR, h2⟩
    refine FL.callE (ψ := fun v w' => CanO base w' v (sg na m + sg na k)) fn_r01_Make rfl rfl rfl ?_ (MonoR.canO base _) ?_
    · rintro w5 hx5 v22 ⟨us, h22, hul, huv⟩
      rw [val_limbs, val_limbs] at huv
      have := make_spec (base := base) w5 na v22 us h22.sl (by omega) (Nat.le_trans hb4 hx5.size)
      rw [huv, sg_sum_same] at this
      exact CallF.mk rfl this
    refine FL.endE rfl ?_
    intro w5 hx5 v23 h23 v22 _ _ _
    refine StL.finCan rfl rfl (hB3.ext hx5) rfl h23 (hx14.trans hx5) hg ?_
    intro w' hxf hcf fin
    (repeat with_reducible first|refine .nil ?_|refine .then_normal ?_|refine .block_normal ?_|refine .seq ?_|refine .block ?_|refine .skip ?_|refine .region ?_|refine .ret ?_|refine .then_ret ?_|refine .block_ret ?_|refine .exit ?_|refine .then_exit ?_|refine .block_exit ?_|refine .block_other rfl ?_)
    exact fin _ _ rfl ⟨hxf, hcf⟩
  have hnb : nb = !na := by cases na <;> cases nb <;> simp_all
  subst hnb
  refine St.condF rfl (by cases na <;> rfl) ?_
  (iterate 6 ((repeat with_reducible first|refine .nil ?_|refine .then_normal ?_|refine .block_normal ?_|refine .seq ?_|refine .block ?_|refine .skip ?_|refine .region ?_|refine .ret ?_|refine .then_ret ?_|refine .block_ret ?_|refine .exit ?_|refine .then_exit ?_|refine .block_exit ?_|refine .block_other rfl ?_); try refine .run TBok 99 rfl ?_))
  refine StL.step rfl rfl rfl (OpR.call fn_r01_cmp rfl (rcmp_spec w4 _ _ _ _ h9.sl h12.sl (by omega) (by omega))) ?_
  rintro _ w5 ⟨hx5, rfl⟩
  rw [cmpL_limbs]
  replace h9 := h9.ext hx5
  replace h12 := h12.ext hx5
  replace hB1 := hB1.ext hx5
  replace hB2 := hB2.ext hx5
  replace hB3 := hB3.ext hx5
  replace hx14 := hx14.trans hx5
  replace hb4 := Nat.le_trans hb4 hx5.size
  clear hx5
  by_cases hge : k ≤ m
  · refine StL.as TBok 1 (.bool true) rfl (bool_true (by unfold cmpN; rw [if_neg (by omega)]; split <;> decide)) ?_
    (repeat with_reducible first|refine .nil ?_|refine .then_normal ?_|refine .block_normal ?_|refine .seq ?_|refine .block ?_|refine .skip ?_|refine .region ?_|refine .ret ?_|refine .then_ret ?_|refine .block_ret ?_|refine .exit ?_|refine .then_exit ?_|refine .block_exit ?_|refine .block_other rfl ?_)
    refine St.condT rfl rfl ?_
    have hmono := limbs_length_mono k m hge
    (repeat with_reducible first|refine .nil ?_|refine .then_normal ?_|refine .block_normal ?_|refine .seq ?_|refine .block ?_|refine .skip ?_|refine .region ?_|refine .ret ?_|refine .then_ret ?_|refine .block_ret ?_|refine .exit ?_|refine .then_exit ?_|refine .block_exit ?_|refine .block_other rfl ?_)
    refine St.sub (E' := [(2, .pointer (some ⟨w.heap.size, 0, none⟩)), (4, .pointer (some ⟨w2.heap.size, 0, none⟩)), (5, .slice p9 (limbs m).length c9), (6, .slice p12 (limbs k).length c12)]) ?_ ⟨rfl, rfl, rfl, rfl, trivial⟩
    refine St.flow 6 TBfol (by kernel_rfl) rfl (by kernel_rfl) rfl True.intro ?_
    refine FL.run TBok 99 rfl ?_
    refine FL.load (L := []) TBok rfl rfl rfl rfl rfl rfl (by first | assumption | exact Ext.refl _ | (apply Blk.ext; assumption; (repeat first | assumption | refine Ext.trans ?_ (by assumption))) | (apply CanO.ext; assumption; (repeat first | assumption | refine Ext.trans ?_ (by assumption))) | (apply Den.ext; assumption; (repeat first | assumption | refine Ext.trans ?_ (by assumption))) | (apply Sl.ext; assumption; (repeat first | assumption | refine Ext.trans ?_ (by assumption))) | (apply SlO.ext; assumption; (repeat first | assumption | refine Ext.trans ?_ (by assumption))) | (apply Dn.ext; assumption; (repeat first | assumption | refine Ext.trans ?_ (by assumption))) | (apply It.ext; assumption; (repeat first | assumption | refine Ext.trans ?_ (by assumption))) | (repeat first | assumption | refine Ext.trans ?_ (by assumption))) (by simp) rfl ?_
    refine FL.run TBok 99 rfl ?_
    refine FL.callE fn_r01_difference rfl rfl rfl (fun w6 hx6 => CallF.mk rfl (rdiff_spec (base := 0) w6 _ _ _ _ (h9.ext hx6).sl (h12.ext hx6).sl (by omega) (by omega) hmono (by rw [val_limbs, val_limbs]; exact hge) (Nat.zero_le _))) ?_ ?_
    · rintro v w6 w7 hR ⟨us, h1, h2⟩
      exact ⟨us, h1.rg hR, h2⟩
    refine FL.callE (ψ := fun v w' => CanO base w' v (sg na m + sg (!na) k)) fn_r01_Make rfl rfl rfl ?_ (MonoR.canO base _) ?_
    · rintro w6 hx6 v32 ⟨us, h32, hul, huv⟩
      rw [val_limbs, val_limbs] at huv
      have := make_spec (base := base) w6 na v32 us h32.sl (by omega) (Nat.le_trans hb4 hx6.size)
      rw [huv, sg_diff _ _ _ hge] at this
      exact CallF.mk rfl this
    refine FL.endE rfl ?_
    intro w6 hx6 v33 h33 v32 _ _ _
    refine StL.finCan rfl rfl (hB3.ext hx6) rfl h33 (hx14.trans hx6) hg ?_
    intro w' hxf hcf fin
    (repeat with_reducible first|refine .nil ?_|refine .then_normal ?_|refine .block_normal ?_|refine .seq ?_|refine .block ?_|refine .skip ?_|refine .region ?_|refine .ret ?_|refine .then_ret ?_|refine .block_ret ?_|refine .exit ?_|refine .then_exit ?_|refine .block_exit ?_|refine .block_other rfl ?_)
    exact fin _ _ rfl ⟨hxf, hcf⟩
  · refine StL.as TBok 1 (.bool false) rfl (bool_false (by unfold cmpN; rw [if_pos (by omega)]; decide)) ?_
    (repeat with_reducible first|refine .nil ?_|refine .then_normal ?_|refine .block_normal ?_|refine .seq ?_|refine .block ?_|refine .skip ?_|refine .region ?_|refine .ret ?_|refine .then_ret ?_|refine .block_ret ?_|refine .exit ?_|refine .then_exit ?_|refine .block_exit ?_|refine .block_other rfl ?_)
    refine St.condF rfl rfl ?_
    have hmono := limbs_length_mono m k (by omega)
    (repeat with_reducible first|refine .nil ?_|refine .then_normal ?_|refine .block_normal ?_|refine .seq ?_|refine .block ?_|refine .skip ?_|refine .region ?_|refine .ret ?_|refine .then_ret ?_|refine .block_ret ?_|refine .exit ?_|refine .then_exit ?_|refine .block_exit ?_|refine .block_other rfl ?_)
    refine St.sub (E' := [(3, .pointer (some ⟨w1.heap.size, 0, none⟩)), (4, .pointer (some ⟨w2.heap.size, 0, none⟩)), (5, .slice p9 (limbs m).length c9), (6, .slice p12 (limbs k).length c12)]) ?_ ⟨rfl, rfl, rfl, rfl, trivial⟩
    refine St.flow 6 TBfol (by kernel_rfl) rfl (by kernel_rfl) rfl True.intro ?_
    refine FL.run TBok 99 rfl ?_
    refine FL.load (L := []) TBok rfl rfl rfl rfl rfl rfl (by first | assumption | exact Ext.refl _ | (apply Blk.ext; assumption; (repeat first | assumption | refine Ext.trans ?_ (by assumption))) | (apply CanO.ext; assumption; (repeat first | assumption | refine Ext.trans ?_ (by assumption))) | (apply Den.ext; assumption; (repeat first | assumption | refine Ext.trans ?_ (by assumption))) | (apply Sl.ext; assumption; (repeat first | assumption | refine Ext.trans ?_ (by assumption))) | (apply SlO.ext; assumption; (repeat first | assumption | refine Ext.trans ?_ (by assumption))) | (apply Dn.ext; assumption; (repeat first | assumption | refine Ext.trans ?_ (by assumption))) | (apply It.ext; assumption; (repeat first | assumption | refine Ext.trans ?_ (by assumption))) | (repeat first | assumption | refine Ext.trans ?_ (by assumption))) (by simp) rfl ?_
    refine FL.run TBok 99 rfl ?_
    refine FL.callE fn_r01_difference rfl rfl rfl (fun w6 hx6 => CallF.mk rfl (rdiff_spec (base := 0) w6 _ _ _ _ (h12.ext hx6).sl (h9.ext hx6).sl (by omega) (by omega) hmono (by rw [val_limbs, val_limbs]; omega) (Nat.zero_le _))) ?_ ?_
    · rintro v w6 w7 hR ⟨us, h1, h2⟩
      exact ⟨us, h1.rg hR, h2⟩
    refine FL.callE (ψ := fun v w' => CanO base w' v (sg na m + sg (!na) k)) fn_r01_Make rfl rfl rfl ?_ (MonoR.canO base _) ?_
    · rintro w6 hx6 v38 ⟨us, h38, hul, huv⟩
      rw [val_limbs, val_limbs] at huv
      have := make_spec (base := base) w6 (!na) v38 us h38.sl (by omega) (Nat.le_trans hb4 hx6.size)
      rw [huv, sg_diff _ _ _ (by omega), Bool.not_not, Int.add_comm] at this
      exact CallF.mk rfl this
    refine FL.endE rfl ?_
    intro w6 hx6 v39 h39 v38 _ _ _
    refine StL.finCan rfl rfl (hB3.ext hx6) rfl h39 (hx14.trans hx6) hg ?_
    intro w' hxf hcf fin
    (repeat with_reducible first|refine .nil ?_|refine .then_normal ?_|refine .block_normal ?_|refine .seq ?_|refine .block ?_|refine .skip ?_|refine .region ?_|refine .ret ?_|refine .then_ret ?_|refine .block_ret ?_|refine .exit ?_|refine .then_exit ?_|refine .block_exit ?_|refine .block_other rfl ?_)
    exact fin _ _ rfl ⟨hxf, hcf⟩

set_option maxRecDepth 8000 in
theorem rsub_dn {base : Nat} {w : World} {x y : Value} {a b : Int} (h : Dn w x a) (k : Dn w y b) (hbase : base ≤ w.heap.size) : Calls Try.prog 52 #[x, y] w (Ret fun r w' => Ext w w' ∧ CanO base w' r (a - b)) := by
  have hsb := k.sz_le
  have hD := h
  have kD := k
  obtain ⟨na, xs, ⟨p, cap, rfl, hs⟩, rfl, hlen⟩ := h
  obtain ⟨nb, ys, ⟨q, cb, rfl, ks⟩, rfl, hl⟩ := k
  refine calls_of_St (args := [_, _]) Try.func52 rfl Try.ntmps52 rfl ?_
  (repeat with_reducible first|refine .nil ?_|refine .then_normal ?_|refine .block_normal ?_|refine .seq ?_|refine .block ?_|refine .skip ?_|refine .region ?_|refine .ret ?_|refine .then_ret ?_|refine .block_ret ?_|refine .exit ?_|refine .then_exit ?_|refine .block_exit ?_|refine .block_other rfl ?_)
  refine StL.step rfl rfl rfl (OpR.box rfl) ?_
  rintro _ w1 ⟨rfl, hb1, hx1, hz1⟩
  refine StL.step rfl rfl rfl (OpR.box rfl) ?_
  rintro _ w2 ⟨rfl, hb2, hx2, hz2⟩
  refine StL.step rfl rfl rfl (OpR.alloc TBok rfl) ?_
  rintro _ w3 ⟨rfl, hb3, hx3, hz3⟩
  (repeat with_reducible first|refine .nil ?_|refine .then_normal ?_|refine .block_normal ?_|refine .seq ?_|refine .block ?_|refine .skip ?_|refine .region ?_|refine .ret ?_|refine .then_ret ?_|refine .block_ret ?_|refine .exit ?_|refine .then_exit ?_|refine .block_exit ?_|refine .block_other rfl ?_)
  refine St.flow 4 TBfol (by kernel_rfl) rfl (by kernel_rfl) rfl True.intro ?_
  refine FL.run TBok 99 rfl ?_
  refine FL.loadAgg (L := []) TBok rfl rfl rfl rfl rfl rfl (by first | assumption | exact Ext.refl _ | (apply Blk.ext; assumption; (repeat first | assumption | refine Ext.trans ?_ (by assumption))) | (apply CanO.ext; assumption; (repeat first | assumption | refine Ext.trans ?_ (by assumption))) | (apply Den.ext; assumption; (repeat first | assumption | refine Ext.trans ?_ (by assumption))) | (apply Sl.ext; assumption; (repeat first | assumption | refine Ext.trans ?_ (by assumption))) | (apply SlO.ext; assumption; (repeat first | assumption | refine Ext.trans ?_ (by assumption))) | (apply Dn.ext; assumption; (repeat first | assumption | refine Ext.trans ?_ (by assumption))) | (apply It.ext; assumption; (repeat first | assumption | refine Ext.trans ?_ (by assumption))) | (repeat first | assumption | refine Ext.trans ?_ (by assumption))) (by simp) (Nat.le_refl _) rfl ?_
  refine FL.loadAgg (L := []) TBok rfl rfl rfl rfl rfl rfl (by first | assumption | exact Ext.refl _ | (apply Blk.ext; assumption; (repeat first | assumption | refine Ext.trans ?_ (by assumption))) | (apply CanO.ext; assumption; (repeat first | assumption | refine Ext.trans ?_ (by assumption))) | (apply Den.ext; assumption; (repeat first | assumption | refine Ext.trans ?_ (by assumption))) | (apply Sl.ext; assumption; (repeat first | assumption | refine Ext.trans ?_ (by assumption))) | (apply SlO.ext; assumption; (repeat first | assumption | refine Ext.trans ?_ (by assumption))) | (apply Dn.ext; assumption; (repeat first | assumption | refine Ext.trans ?_ (by assumption))) | (apply It.ext; assumption; (repeat first | assumption | refine Ext.trans ?_ (by assumption))) | (repeat first | assumption | refine Ext.trans ?_ (by assumption))) (by simp) (Nat.le_refl _) rfl ?_
  refine FL.callE fn_r01_Neg rfl rfl rfl (fun w4 hx4 => CallF.mk rfl (rneg_dn (base := 0) (a := sg nb (val ys)) (by first | assumption | exact Ext.refl _ | (apply Blk.ext; assumption; (repeat first | assumption | refine Ext.trans ?_ (by assumption))) | (apply CanO.ext; assumption; (repeat first | assumption | refine Ext.trans ?_ (by assumption))) | (apply Den.ext; assumption; (repeat first | assumption | refine Ext.trans ?_ (by assumption))) | (apply Sl.ext; assumption; (repeat first | assumption | refine Ext.trans ?_ (by assumption))) | (apply SlO.ext; assumption; (repeat first | assumption | refine Ext.trans ?_ (by assumption))) | (apply Dn.ext; assumption; (repeat first | assumption | refine Ext.trans ?_ (by assumption))) | (apply It.ext; assumption; (repeat first | assumption | refine Ext.trans ?_ (by assumption))) | (repeat first | assumption | refine Ext.trans ?_ (by assumption))) (Nat.zero_le _))) (MonoR.canO 0 _) ?_
  refine FL.callE fn_r01_Add rfl rfl rfl (fun w4 hx4 v7 h7 => CallF.mk rfl (radd_dn (base := base) (a := sg na (val xs)) (by first | assumption | exact Ext.refl _ | (apply Blk.ext; assumption; (repeat first | assumption | refine Ext.trans ?_ (by assumption))) | (apply CanO.ext; assumption; (repeat first | assumption | refine Ext.trans ?_ (by assumption))) | (apply Den.ext; assumption; (repeat first | assumption | refine Ext.trans ?_ (by assumption))) | (apply Sl.ext; assumption; (repeat first | assumption | refine Ext.trans ?_ (by assumption))) | (apply SlO.ext; assumption; (repeat first | assumption | refine Ext.trans ?_ (by assumption))) | (apply Dn.ext; assumption; (repeat first | assumption | refine Ext.trans ?_ (by assumption))) | (apply It.ext; assumption; (repeat first | assumption | refine Ext.trans ?_ (by assumption))) | (repeat first | assumption | refine Ext.trans ?_ (by assumption))) (h7.dn (by rw [sz_neg]; exact hsb)) (Nat.le_trans hbase (((hx1.trans hx2).trans hx3).trans hx4).size))) (MonoR.canO base _) ?_
  refine FL.endE rfl ?_
  intro w4 hx4 v8 h8 v7 _ _ _
  rw [← Int.sub_eq_add_neg] at h8
  refine StL.finCan rfl rfl (hb3.ext hx4) rfl h8 (w0 := w) (by first | assumption | exact Ext.refl _ | (apply Blk.ext; assumption; (repeat first | assumption | refine Ext.trans ?_ (by assumption))) | (apply CanO.ext; assumption; (repeat first | assumption | refine Ext.trans ?_ (by assumption))) | (apply Den.ext; assumption; (repeat first | assumption | refine Ext.trans ?_ (by assumption))) | (apply Sl.ext; assumption; (repeat first | assumption | refine Ext.trans ?_ (by assumption))) | (apply SlO.ext; assumption; (repeat first | assumption | refine Ext.trans ?_ (by assumption))) | (apply Dn.ext; assumption; (repeat first | assumption | refine Ext.trans ?_ (by assumption))) | (apply It.ext; assumption; (repeat first | assumption | refine Ext.trans ?_ (by assumption))) | (repeat first | assumption | refine Ext.trans ?_ (by assumption))) (hx1.trans hx2).size ?_
  intro w' hxf hcf fin
  (repeat with_reducible first|refine .nil ?_|refine .then_normal ?_|refine .block_normal ?_|refine .seq ?_|refine .block ?_|refine .skip ?_|refine .region ?_|refine .ret ?_|refine .then_ret ?_|refine .block_ret ?_|refine .exit ?_|refine .then_exit ?_|refine .block_exit ?_|refine .block_other rfl ?_)
  exact fin _ _ rfl ⟨hxf, hcf⟩

end Go.Qf

/- quadformref01: Mul. -/
namespace Go.Qf
open Go Go.RowKit Go.Proofs

set_option maxRecDepth 8000 in
set_option maxHeartbeats 1000000 in
theorem rmul_dn {base : Nat} {w : World} {vx vy : Value} {a b : Int} (h : Dn w vx a) (k : Dn w vy b) (hbase : base ≤ w.heap.size) : Calls Try.prog 39 #[vx, vy] w (Ret fun r w' => Ext w w' ∧ CanO base w' r (a * b)) := by
  obtain ⟨na, xs, ⟨p, c, rfl, h⟩, rfl, hlen⟩ := h
  obtain ⟨nb, ys, ⟨q, d, rfl, k⟩, rfl, hl⟩ := k
  refine calls_of_St (args := [_, _]) Try.func39 rfl Try.ntmps39 rfl ?_
  (repeat with_reducible first|refine .nil ?_|refine .then_normal ?_|refine .block_normal ?_|refine .seq ?_|refine .block ?_|refine .skip ?_|refine .region ?_|refine .ret ?_|refine .then_ret ?_|refine .block_ret ?_|refine .exit ?_|refine .then_exit ?_|refine .block_exit ?_|refine .block_other rfl ?_)
  refine StL.step rfl rfl rfl (OpR.box rfl) ?_
  rintro _ wa ⟨rfl, hba, hxa, hza⟩
  refine StL.step rfl rfl rfl (OpR.box rfl) ?_
  rintro _ wb ⟨rfl, hbb, hxb, hzb⟩
  refine StL.step rfl rfl rfl (OpR.alloc TBok rfl) ?_
  rintro _ wc ⟨rfl, hbc, hxc, hzc⟩
  have hx0c : Ext w wc := (by first | assumption | exact Ext.refl _ | (apply Blk.ext; assumption; (repeat first | assumption | refine Ext.trans ?_ (by assumption))) | (apply CanO.ext; assumption; (repeat first | assumption | refine Ext.trans ?_ (by assumption))) | (apply Den.ext; assumption; (repeat first | assumption | refine Ext.trans ?_ (by assumption))) | (apply Sl.ext; assumption; (repeat first | assumption | refine Ext.trans ?_ (by assumption))) | (apply SlO.ext; assumption; (repeat first | assumption | refine Ext.trans ?_ (by assumption))) | (apply Dn.ext; assumption; (repeat first | assumption | refine Ext.trans ?_ (by assumption))) | (apply It.ext; assumption; (repeat first | assumption | refine Ext.trans ?_ (by assumption))) | (repeat first | assumption | refine Ext.trans ?_ (by assumption)))
  have hB1 : Blk 24 wc w.heap.size [.bool na, .slice p xs.length c] := (hba.ext hxb).ext hxc
  have hB2 : Blk 24 wc wa.heap.size [.bool nb, .slice q ys.length d] := hbb.ext hxc
  (iterate 6 ((repeat with_reducible first|refine .nil ?_|refine .then_normal ?_|refine .block_normal ?_|refine .seq ?_|refine .block ?_|refine .skip ?_|refine .region ?_|refine .ret ?_|refine .then_ret ?_|refine .block_ret ?_|refine .exit ?_|refine .then_exit ?_|refine .block_exit ?_|refine .block_other rfl ?_); try refine .run TBok 99 rfl ?_))
  (refine StL.step rfl rfl rfl (RunsTo.load TBok rfl rfl rfl (Blk.cell (by first | assumption | exact Ext.refl _ | (apply Blk.ext; assumption; (repeat first | assumption | refine Ext.trans ?_ (by assumption))) | (apply CanO.ext; assumption; (repeat first | assumption | refine Ext.trans ?_ (by assumption))) | (apply Den.ext; assumption; (repeat first | assumption | refine Ext.trans ?_ (by assumption))) | (apply Sl.ext; assumption; (repeat first | assumption | refine Ext.trans ?_ (by assumption))) | (apply SlO.ext; assumption; (repeat first | assumption | refine Ext.trans ?_ (by assumption))) | (apply Dn.ext; assumption; (repeat first | assumption | refine Ext.trans ?_ (by assumption))) | (apply It.ext; assumption; (repeat first | assumption | refine Ext.trans ?_ (by assumption))) | (repeat first | assumption | refine Ext.trans ?_ (by assumption))) rfl)).op ?_; rintro _ _ ⟨rfl, rfl⟩)
  (iterate 6 ((repeat with_reducible first|refine .nil ?_|refine .then_normal ?_|refine .block_normal ?_|refine .seq ?_|refine .block ?_|refine .skip ?_|refine .region ?_|refine .ret ?_|refine .then_ret ?_|refine .block_ret ?_|refine .exit ?_|refine .then_exit ?_|refine .block_exit ?_|refine .block_other rfl ?_); try refine .run TBok 99 rfl ?_))
  (refine StL.step rfl rfl rfl (RunsTo.load TBok rfl rfl rfl (Blk.cell (by first | assumption | exact Ext.refl _ | (apply Blk.ext; assumption; (repeat first | assumption | refine Ext.trans ?_ (by assumption))) | (apply CanO.ext; assumption; (repeat first | assumption | refine Ext.trans ?_ (by assumption))) | (apply Den.ext; assumption; (repeat first | assumption | refine Ext.trans ?_ (by assumption))) | (apply Sl.ext; assumption; (repeat first | assumption | refine Ext.trans ?_ (by assumption))) | (apply SlO.ext; assumption; (repeat first | assumption | refine Ext.trans ?_ (by assumption))) | (apply Dn.ext; assumption; (repeat first | assumption | refine Ext.trans ?_ (by assumption))) | (apply It.ext; assumption; (repeat first | assumption | refine Ext.trans ?_ (by assumption))) | (repeat first | assumption | refine Ext.trans ?_ (by assumption))) rfl)).op ?_; rintro _ _ ⟨rfl, rfl⟩)
  refine .run TBok 99 rfl ?_
  refine StL.step rfl rfl rfl (OpR.make TBok (xs.length + ys.length) rfl rfl rfl rfl rfl (by rw [i64_id (by omega) (by omega)]; omega) rfl (by rw [i64_id (by omega) (by omega)]; omega) (by simp; omega) (by omega)) ?_
  rintro _ w1 ⟨rfl, hb1, hx1, hz1⟩
  have hx01 := hx0c.trans hx1
  (iterate 6 ((repeat with_reducible first|refine .nil ?_|refine .then_normal ?_|refine .block_normal ?_|refine .seq ?_|refine .block ?_|refine .skip ?_|refine .region ?_|refine .ret ?_|refine .then_ret ?_|refine .block_ret ?_|refine .exit ?_|refine .then_exit ?_|refine .block_exit ?_|refine .block_other rfl ?_); try refine .run TBok 99 rfl ?_))
  (refine StL.step rfl rfl rfl (RunsTo.load TBok rfl rfl rfl (Blk.cell (by first | assumption | exact Ext.refl _ | (apply Blk.ext; assumption; (repeat first | assumption | refine Ext.trans ?_ (by assumption))) | (apply CanO.ext; assumption; (repeat first | assumption | refine Ext.trans ?_ (by assumption))) | (apply Den.ext; assumption; (repeat first | assumption | refine Ext.trans ?_ (by assumption))) | (apply Sl.ext; assumption; (repeat first | assumption | refine Ext.trans ?_ (by assumption))) | (apply SlO.ext; assumption; (repeat first | assumption | refine Ext.trans ?_ (by assumption))) | (apply Dn.ext; assumption; (repeat first | assumption | refine Ext.trans ?_ (by assumption))) | (apply It.ext; assumption; (repeat first | assumption | refine Ext.trans ?_ (by assumption))) | (repeat first | assumption | refine Ext.trans ?_ (by assumption))) rfl)).op ?_; rintro _ _ ⟨rfl, rfl⟩)
  (iterate 6 ((repeat with_reducible first|refine .nil ?_|refine .then_normal ?_|refine .block_normal ?_|refine .seq ?_|refine .block ?_|refine .skip ?_|refine .region ?_|refine .ret ?_|refine .then_ret ?_|refine .block_ret ?_|refine .exit ?_|refine .then_exit ?_|refine .block_exit ?_|refine .block_other rfl ?_); try refine .run TBok 99 rfl ?_))
  refine St.loop (fun g : Nat × List Nat => [(2, .pointer (some ⟨w.heap.size, 0, none⟩)), (3, .pointer (some ⟨wa.heap.size, 0, none⟩)), (4, .pointer (some ⟨wb.heap.size, 0, none⟩)), (5, .slice (some ⟨wc.heap.size, 0, none⟩) (xs.length + ys.length) (xs.length + ys.length)), (20, .slice p xs.length c), (21, .int .i64 xs.length), (22, .int .i64 g.1)])
    (fun g w2 => Ext wc w2 ∧ Blk 41 w2 wc.heap.size (g.2.map u32) ∧ g.2.length = xs.length + ys.length ∧ Lim g.2 ∧ g.1 ≤ xs.length ∧ val (g.2.take (g.1 + ys.length)) = val (xs.take g.1) * val ys)
    (fun g => xs.length - g.1) (0, List.replicate (xs.length + ys.length) 0) ⟨rfl, rfl, rfl, rfl, rfl, rfl, rfl, trivial⟩ ⟨hx1, by rw [List.map_replicate]; exact hb1, by simp, lim_replicate _, by simp, by simp [val, List.take_replicate, val_replicate_zero]⟩ ?_
  rintro ⟨i, us⟩ w2 ⟨hx2, hb2, hul, hulim, hi, heq⟩
  simp only at hb2 hul hulim hi heq
  have hx02 := hx0c.trans hx2
  have hA := h.ext hx02
  have hB22 := hB2.ext hx2
  by_cases hlt : i < xs.length
  · have hxi : xs[i]? = some xs[i] := by simp
    generalize xs[i] = x at hxi
    have hxl := h.2.get hxi
    (repeat with_reducible first|refine .nil ?_|refine .then_normal ?_|refine .block_normal ?_|refine .seq ?_|refine .block ?_|refine .skip ?_|refine .region ?_|refine .ret ?_|refine .then_ret ?_|refine .block_ret ?_|refine .exit ?_|refine .then_exit ?_|refine .block_exit ?_|refine .block_other rfl ?_)
    refine StL.as TBok 1 (.bool true) rfl (bool_true (by omega)) ?_
    (repeat with_reducible first|refine .nil ?_|refine .then_normal ?_|refine .block_normal ?_|refine .seq ?_|refine .block ?_|refine .skip ?_|refine .region ?_|refine .ret ?_|refine .then_ret ?_|refine .block_ret ?_|refine .exit ?_|refine .then_exit ?_|refine .block_exit ?_|refine .block_other rfl ?_)
    refine St.condT rfl rfl ?_
    (iterate 6 ((repeat with_reducible first|refine .nil ?_|refine .then_normal ?_|refine .block_normal ?_|refine .seq ?_|refine .block ?_|refine .skip ?_|refine .region ?_|refine .ret ?_|refine .then_ret ?_|refine .block_ret ?_|refine .exit ?_|refine .then_exit ?_|refine .block_exit ?_|refine .block_other rfl ?_); try refine .run TBok 99 rfl ?_))
    refine StL.elem TBok i (u32 x) hA.1 (hA.get hxi) rfl rfl rfl rfl rfl rfl rfl rfl rfl rfl rfl (fun _ => rfl) ?_
    intro p1
    (iterate 6 ((repeat with_reducible first|refine .nil ?_|refine .then_normal ?_|refine .block_normal ?_|refine .seq ?_|refine .block ?_|refine .skip ?_|refine .region ?_|refine .ret ?_|refine .then_ret ?_|refine .block_ret ?_|refine .exit ?_|refine .then_exit ?_|refine .block_exit ?_|refine .block_other rfl ?_); try refine .run TBok 99 rfl ?_))
    refine StL.step rfl rfl rfl (RunsTo.load TBok rfl rfl rfl (hB22.cell rfl)).op ?_
    rintro _ _ ⟨rfl, rfl⟩
    (iterate 6 ((repeat with_reducible first|refine .nil ?_|refine .then_normal ?_|refine .block_normal ?_|refine .seq ?_|refine .block ?_|refine .skip ?_|refine .region ?_|refine .ret ?_|refine .then_ret ?_|refine .block_ret ?_|refine .exit ?_|refine .then_exit ?_|refine .block_exit ?_|refine .block_other rfl ?_); try refine .run TBok 99 rfl ?_))
    refine St.loop (fun g : Nat × Nat × List Nat => [(2, .pointer (some ⟨w.heap.size, 0, none⟩)), (3, .pointer (some ⟨wa.heap.size, 0, none⟩)), (4, .pointer (some ⟨wb.heap.size, 0, none⟩)), (5, .slice (some ⟨wc.heap.size, 0, none⟩) (xs.length + ys.length) (xs.length + ys.length)), (20, .slice p xs.length c), (21, .int .i64 xs.length), (22, .int .i64 i), (6, .int .i64 i), (7, u32 x), (8, .int .u64 g.2.1), (28, .slice q ys.length d), (29, .int .i64 ys.length), (30, .int .i64 g.1)])
      (fun g w3 => Ext wc w3 ∧ Blk 41 w3 wc.heap.size (g.2.2.map u32) ∧ g.2.2.length = xs.length + ys.length ∧ Lim g.2.2 ∧ g.2.1 < 4294967296 ∧ g.1 ≤ ys.length ∧ g.2.2.drop (i + g.1) = us.drop (i + g.1) ∧ val (g.2.2.take (i + g.1)) + g.2.1 * 4294967296 ^ (i + g.1) = val (us.take (i + g.1)) + x * val (ys.take g.1) * 4294967296 ^ i)
      (fun g => ys.length - g.1) (0, 0, us) ⟨rfl, rfl, rfl, rfl, rfl, rfl, rfl, rfl, rfl, rfl, rfl, rfl, rfl, trivial⟩ ⟨hx2, hb2, hul, hulim, by simp, by simp, rfl, by simp [val]⟩ ?_
    rintro ⟨j, cy, vs⟩ w3 ⟨hx3, hb3, hvl, hvlim, hcy, hj, hdr, heq3⟩
    simp only at hb3 hvl hvlim hcy hj hdr heq3
    have hB := k.ext (hx0c.trans hx3)
    by_cases hlt2 : j < ys.length
    · have hyi : ys[j]? = some ys[j] := by simp
      generalize ys[j] = y at hyi
      have hyl := k.2.get hyi
      have hzi : vs[i + j]? = some vs[i + j] := by simp
      generalize vs[i + j] = z at hzi
      have hzl := hvlim.get hzi
      have hzu : us[i + j]? = some z := by rw [← getElem?_of_drop hdr (Nat.le_refl _)]; exact hzi
      have hbd := mul_bound hcy hxl hyl hzl
      have eij : IntKind.i64.wrap ((i : Int) + (j : Int)) = ((i + j : Nat) : Int) := by rw [i64_id (by omega) (by omega)]; rfl
      (repeat with_reducible first|refine .nil ?_|refine .then_normal ?_|refine .block_normal ?_|refine .seq ?_|refine .block ?_|refine .skip ?_|refine .region ?_|refine .ret ?_|refine .then_ret ?_|refine .block_ret ?_|refine .exit ?_|refine .then_exit ?_|refine .block_exit ?_|refine .block_other rfl ?_)
      refine StL.as TBok 1 (.bool true) rfl (bool_true (by omega)) ?_
      (repeat with_reducible first|refine .nil ?_|refine .then_normal ?_|refine .block_normal ?_|refine .seq ?_|refine .block ?_|refine .skip ?_|refine .region ?_|refine .ret ?_|refine .then_ret ?_|refine .block_ret ?_|refine .exit ?_|refine .then_exit ?_|refine .block_exit ?_|refine .block_other rfl ?_)
      refine St.condT rfl rfl ?_
      (iterate 6 ((repeat with_reducible first|refine .nil ?_|refine .then_normal ?_|refine .block_normal ?_|refine .seq ?_|refine .block ?_|refine .skip ?_|refine .region ?_|refine .ret ?_|refine .then_ret ?_|refine .block_ret ?_|refine .exit ?_|refine .then_exit ?_|refine .block_exit ?_|refine .block_other rfl ?_); try refine .run TBok 99 rfl ?_))
      refine StL.elem TBok j (u32 y) hB.1 (hB.get hyi) rfl rfl rfl rfl rfl rfl rfl rfl rfl rfl rfl (fun _ => rfl) ?_
      intro p2
      (iterate 6 ((repeat with_reducible first|refine .nil ?_|refine .then_normal ?_|refine .block_normal ?_|refine .seq ?_|refine .block ?_|refine .skip ?_|refine .region ?_|refine .ret ?_|refine .then_ret ?_|refine .block_ret ?_|refine .exit ?_|refine .then_exit ?_|refine .block_exit ?_|refine .block_other rfl ?_); try refine .run TBok 99 rfl ?_))
      refine StL.elemB TBok (i + j) (u32 z) hb3 (by simp [hzi]) eij (by omega) rfl rfl rfl rfl rfl rfl rfl rfl rfl rfl (fun _ => rfl) ?_
      intro p3
      have e1 : IntKind.u64.wrap ((cy : Int) + IntKind.u64.wrap (IntKind.u64.wrap (IntKind.u64.wrap (x : Int) * IntKind.u64.wrap (y : Int)) + IntKind.u64.wrap (z : Int))) = ((cy + x * y + z : Nat) : Int) := by
        rw [u64_id (n := (x : Int)) (by omega) (by omega), u64_id (n := (y : Int)) (by omega) (by omega), show (x : Int) * (y : Int) = ((x * y : Nat) : Int) from by simp]
        generalize x * y = xy at hbd
        simp only [wrap_u64]; omega
      refine StL.as TBok 3 (.int .u64 ((cy + x * y + z : Nat) : Int)) rfl (by rw [e1]) ?_
      generalize ht : cy + x * y + z = t at hbd
      (iterate 6 ((repeat with_reducible first|refine .nil ?_|refine .then_normal ?_|refine .block_normal ?_|refine .seq ?_|refine .block ?_|refine .skip ?_|refine .region ?_|refine .ret ?_|refine .then_ret ?_|refine .block_ret ?_|refine .exit ?_|refine .then_exit ?_|refine .block_exit ?_|refine .block_other rfl ?_); try refine .run TBok 99 rfl ?_))
      have e2 : IntKind.u32.wrap (t : Int) = ((t % 4294967296 : Nat) : Int) := by rw [wrap_u32]; omega
      refine StL.put TBok (i + j) hb3 eij (by omega) (by simp; omega) rfl rfl rfl rfl rfl rfl rfl rfl (fun _ => rfl) (fun _ => rfl) rfl rfl ?_
      intro p4 w4 hb4 hu4
      rw [e2, map_set_u32, Nat.zero_add] at hb4
      (iterate 6 ((repeat with_reducible first|refine .nil ?_|refine .then_normal ?_|refine .block_normal ?_|refine .seq ?_|refine .block ?_|refine .skip ?_|refine .region ?_|refine .ret ?_|refine .then_ret ?_|refine .block_ret ?_|refine .exit ?_|refine .then_exit ?_|refine .block_exit ?_|refine .block_other rfl ?_); try refine .run TBok 99 rfl ?_))
      refine Out.again (j + 1, t / 4294967296, vs.set (i + j) (t % 4294967296)) ⟨rfl, rfl, rfl, rfl, rfl, rfl, rfl, rfl, rfl, ?_, rfl, rfl, ?_, trivial⟩ ⟨hx3.then_upd hu4 (Nat.le_refl _), hb4, by simpa using hvl, hvlim.set _ (by omega), by simp only; omega, by simp only; omega, ?_, ?_⟩ (by simp only; omega)
      · show some (Value.int .u64 ((t : Int) / 2 ^ 32)) = some (Value.int .u64 ((t / 4294967296 : Nat) : Int))
        rw [show (t : Int) / 2 ^ 32 = ((t / 4294967296 : Nat) : Int) from by omega]
      · show some (Value.int .i64 (IntKind.i64.wrap ((j : Int) + 1))) = _
        rw [i64_id (by omega) (by omega)]
        rfl
      · simp only
        rw [← Nat.add_assoc]
        exact drop_set_of hdr
      · simp only
        rw [← Nat.add_assoc, val_take_set (by omega), val_take_succ hzu, val_take_succ hyi, Nat.pow_succ]
        exact mul_step _ _ _ _ _ _ _ _ _ _ _ _ (Nat.pow_add _ _ _) heq3 (by omega)
    obtain rfl : j = ys.length := by omega
    rw [List.take_length] at heq3
    clear hlt2 hj
    have hB23 := hB2.ext hx3
    have eiy : IntKind.i64.wrap ((i : Int) + (ys.length : Int)) = ((i + ys.length : Nat) : Int) := by rw [i64_id (by omega) (by omega)]; rfl
    (repeat with_reducible first|refine .nil ?_|refine .then_normal ?_|refine .block_normal ?_|refine .seq ?_|refine .block ?_|refine .skip ?_|refine .region ?_|refine .ret ?_|refine .then_ret ?_|refine .block_ret ?_|refine .exit ?_|refine .then_exit ?_|refine .block_exit ?_|refine .block_other rfl ?_)
    refine StL.as TBok 1 (.bool false) rfl (bool_false (by omega)) ?_
    (repeat with_reducible first|refine .nil ?_|refine .then_normal ?_|refine .block_normal ?_|refine .seq ?_|refine .block ?_|refine .skip ?_|refine .region ?_|refine .ret ?_|refine .then_ret ?_|refine .block_ret ?_|refine .exit ?_|refine .then_exit ?_|refine .block_exit ?_|refine .block_other rfl ?_)
    refine St.condF rfl rfl ?_
    (iterate 6 ((repeat with_reducible first|refine .nil ?_|refine .then_normal ?_|refine .block_normal ?_|refine .seq ?_|refine .block ?_|refine .skip ?_|refine .region ?_|refine .ret ?_|refine .then_ret ?_|refine .block_ret ?_|refine .exit ?_|refine .then_exit ?_|refine .block_exit ?_|refine .block_other rfl ?_); try refine .run TBok 99 rfl ?_))
    refine StL.step rfl rfl rfl (RunsTo.load TBok rfl rfl rfl (hB23.cell rfl)).op ?_
    rintro _ _ ⟨rfl, rfl⟩
    refine .run TBok 99 rfl ?_
    have e2 : IntKind.u32.wrap (cy : Int) = (cy : Int) := u32_id (by omega) (by omega)
    refine StL.put TBok (i + ys.length) hb3 eiy (by omega) (by simp; omega) rfl rfl rfl rfl rfl rfl rfl rfl (fun _ => rfl) (fun _ => rfl) rfl rfl ?_
    intro p4 w4 hb4 hu4
    rw [e2, map_set_u32, Nat.zero_add] at hb4
    (iterate 6 ((repeat with_reducible first|refine .nil ?_|refine .then_normal ?_|refine .block_normal ?_|refine .seq ?_|refine .block ?_|refine .skip ?_|refine .region ?_|refine .ret ?_|refine .then_ret ?_|refine .block_ret ?_|refine .exit ?_|refine .then_exit ?_|refine .block_exit ?_|refine .block_other rfl ?_); try refine .run TBok 99 rfl ?_))
    refine Out.again (i + 1, vs.set (i + ys.length) cy) ⟨rfl, rfl, rfl, rfl, rfl, rfl, ?_, trivial⟩ ⟨hx3.then_upd hu4 (Nat.le_refl _), hb4, by simpa using hvl, hvlim.set _ hcy, by simp only; omega, ?_⟩ (by simp only; omega)
    · show some (Value.int .i64 (IntKind.i64.wrap ((i : Int) + 1))) = _
      rw [i64_id (by omega) (by omega)]
      rfl
    · simp only
      rw [show i + 1 + ys.length = i + ys.length + 1 from by omega, val_take_set (by omega), heq3, heq, val_take_succ hxi, Nat.add_mul]
      congr 1
      rw [Nat.mul_assoc, Nat.mul_comm (val ys), ← Nat.mul_assoc]
  · obtain rfl : i = xs.length := by omega
    rw [List.take_of_length_le (by omega), List.take_of_length_le (Nat.le_refl _)] at heq
    have hB12 := hB1.ext hx2
    (repeat with_reducible first|refine .nil ?_|refine .then_normal ?_|refine .block_normal ?_|refine .seq ?_|refine .block ?_|refine .skip ?_|refine .region ?_|refine .ret ?_|refine .then_ret ?_|refine .block_ret ?_|refine .exit ?_|refine .then_exit ?_|refine .block_exit ?_|refine .block_other rfl ?_)
    refine StL.as TBok 1 (.bool false) rfl (bool_false (by omega)) ?_
    (repeat with_reducible first|refine .nil ?_|refine .then_normal ?_|refine .block_normal ?_|refine .seq ?_|refine .block ?_|refine .skip ?_|refine .region ?_|refine .ret ?_|refine .then_ret ?_|refine .block_ret ?_|refine .exit ?_|refine .then_exit ?_|refine .block_exit ?_|refine .block_other rfl ?_)
    refine St.condF rfl rfl ?_
    (iterate 6 ((repeat with_reducible first|refine .nil ?_|refine .then_normal ?_|refine .block_normal ?_|refine .seq ?_|refine .block ?_|refine .skip ?_|refine .region ?_|refine .ret ?_|refine .then_ret ?_|refine .block_ret ?_|refine .exit ?_|refine .then_exit ?_|refine .block_exit ?_|refine .block_other rfl ?_); try refine .run TBok 99 rfl ?_))
    refine StL.step rfl rfl rfl (RunsTo.load TBok rfl rfl rfl (hB12.cell rfl)).op ?_
    rintro _ _ ⟨rfl, rfl⟩
    refine .run TBok 99 rfl ?_
    refine StL.step rfl rfl rfl (RunsTo.load TBok rfl rfl rfl (hB22.cell rfl)).op ?_
    rintro _ _ ⟨rfl, rfl⟩
    refine StL.step rfl rfl rfl (RunsTo.boolNe TBok rfl rfl rfl).op ?_
    rintro _ _ ⟨rfl, rfl⟩
    refine .run TBok 99 rfl ?_
    have hsl : Sl w2 (.slice (some ⟨wc.heap.size, 0, none⟩) (xs.length + ys.length) (xs.length + ys.length)) us := ⟨hb2.row (by simp [hul]) (Nat.le_refl _) (by simp [hul]) (by rw [List.drop_zero, List.take_of_length_le (by simp [hul])]), hulim⟩
    refine StL.step rfl rfl rfl (OpR.call fn_r01_Make rfl (make_spec (base := base) w2 _ _ us hsl (by omega) (Nat.le_trans hbase hx02.size))) ?_
    rintro r w3 ⟨hx3, hr⟩
    rw [heq, sg_mul] at hr
    refine StL.finCan rfl rfl ((hbc.ext hx2).ext hx3) rfl hr (hx02.trans hx3) (hxa.trans hxb).size ?_
    intro w' hxf hcf fin
    (repeat with_reducible first|refine .nil ?_|refine .then_normal ?_|refine .block_normal ?_|refine .seq ?_|refine .block ?_|refine .skip ?_|refine .region ?_|refine .ret ?_|refine .then_ret ?_|refine .block_ret ?_|refine .exit ?_|refine .then_exit ?_|refine .block_exit ?_|refine .block_other rfl ?_)
    exact fin _ _ rfl ⟨hxf, hcf⟩

end Go.Qf
