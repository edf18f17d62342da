/- Lemmas on the model and on the program's functions, part ZRationalLengths. -/
import Derived.Test.YteiphfahnikikaaQa
import Derived.Test.YteiphfahnikikaaQb
import Derived.Test.YteiphfahnikikaaQc
import Derived.Test.YteiphfahnikikaaQd
import Derived.Test.YteiphfahnikikaaQe
import Derived.Test.YteiphfahnikikaaQf
import Derived.Test.YteiphfahnikikaaQg
import Derived.Test.YteiphfahnikikaaQh
import Derived.Test.YteiphfahnikikaaQi
/- Texts that a law writes byte by byte: plain. -/
namespace Go.Qf
open Go Go.RowKit Go.Proofs

/-- The first i bytes written, the others 0. -/
def fillB (f : Nat → Nat) (i n : Nat) : List Value := (List.range i).map (fun j => u8 (f j)) ++ List.replicate (n - i) (u8 0)
theorem fillB_len (f : Nat → Nat) {i n : Nat} (h : i ≤ n) : (fillB f i n).length = n := by
  unfold fillB
  simp
  omega
theorem fillB_zero (f : Nat → Nat) (n : Nat) : List.replicate n (Value.int .u8 0) = fillB f 0 n := by
  unfold fillB
  simp
theorem fillB_set (f : Nat → Nat) {i n : Nat} (h : i < n) : (fillB f i n).set (0 + i) (u8 (f i)) = fillB f (i + 1) n := by
  obtain ⟨k, hk⟩ : ∃ k, n - i = k + 1 := ⟨n - i - 1, by omega⟩
  have hk2 : n - (i + 1) = k := by omega
  unfold fillB
  rw [hk, hk2, Nat.zero_add, List.range_succ, List.map_append, List.replicate_succ]
  rw [List.set_append_right _ _ (by simp)]
  simp
theorem fillB_all (f : Nat → Nat) (n : Nat) : fillB f n n = ((List.range n).map f).map u8 := by
  unfold fillB
  simp

theorem digT_head {n : Nat} (h : 0 < n) : ((List.range n).map (fun i => 49 + i % 9)).head? = some 49 := by
  obtain ⟨k, rfl⟩ : ∃ k, n = k + 1 := ⟨n - 1, by omega⟩
  rw [List.range_succ_eq_map]
  rfl
theorem digT_dig (n : Nat) : ∀ b ∈ (List.range n).map (fun i => 49 + i % 9), isDig b := by
  intro b hb
  simp only [List.mem_map] at hb
  obtain ⟨i, _, rfl⟩ := hb
  unfold isDig
  omega
theorem isDig_b8 {t : List Nat} (h : ∀ b ∈ t, isDig b) : B8 t := fun b hb => by have := h b hb; unfold isDig at this; omega
theorem sgnT_b8 {neg : Bool} {t : List Nat} (h : B8 t) : B8 (sgnT neg t) := by
  cases neg
  · exact h
  · exact B8.app (xs := [45]) b8_one h
theorem sgnT_len (neg : Bool) (t : List Nat) : (sgnT neg t).length ≤ t.length + 1 := by
  cases neg
  · exact Nat.le_succ _
  · exact Nat.le_refl _
theorem set_head {t : List Nat} {d k b : Nat} (h : t.head? = some d) (hk : 0 < k) : (t.set k b).head? = some d := by
  cases t with
  | nil => cases h
  | cons c r =>
    obtain ⟨j, rfl⟩ : ∃ j, k = j + 1 := ⟨k - 1, by omega⟩
    exact h
theorem set_mem {t : List Nat} {k b : Nat} (hk : k < t.length) : b ∈ t.set k b := List.mem_of_getElem? (i := k) (by simp [hk])
theorem set_b8 {t : List Nat} {k b : Nat} (h : B8 t) (hb : b < 256) : B8 (t.set k b) := by
  intro c hc
  rcases List.mem_or_eq_of_mem_set hc with h1 | h1
  · exact h c h1
  · omega
theorem pval_zero {s : List Nat} (h : perr s ≠ 0) : pval s = 0 := if_neg h

theorem cut_app' {t r : List Nat} (h : ∀ b ∈ t, b ≠ 47) : pos (t ++ 47 :: r) = some t.length ∧ cutA (t ++ 47 :: r) = t ∧ cutB (t ++ 47 :: r) = r := by
  have h1 := pos_app t r h
  refine ⟨h1, ?_, ?_⟩
  · unfold cutA; rw [h1]; simp
  · unfold cutB; rw [h1]; simp

/-- n times the digit 4. -/
theorem four_range (n : Nat) : (List.range n).map (fun _ => 52) = List.replicate n 52 := by
  rw [List.map_const', List.length_range]
theorem dec_four (n : Nat) : ∃ k, dec (List.replicate n 52) = 4 * k := by
  induction n with
  | zero => exact ⟨0, rfl⟩
  | succ n ih =>
    obtain ⟨k, hk⟩ := ih
    rw [List.replicate_succ', dec_snoc, hk]
    exact ⟨10 * k + 1, by omega⟩
theorem four_head {n : Nat} (h : 0 < n) : (List.replicate n 52).head? = some 52 := by
  obtain ⟨k, rfl⟩ : ∃ k, n = k + 1 := ⟨n - 1, by omega⟩
  rfl
theorem four_dig (n : Nat) : ∀ b ∈ List.replicate n 52, isDig b := by
  intro b hb
  rw [List.eq_of_mem_replicate hb]
  exact ⟨by decide, by decide⟩
theorem four_ne (n : Nat) : ∀ b ∈ List.replicate n 52, b ≠ 47 := by
  intro b hb
  rw [List.eq_of_mem_replicate hb]
  decide
theorem four_perr {n : Nat} (h : 0 < n) : perr (List.replicate n 52) = if 2000 < n then 7 else 0 := by
  have := perr_sgnT (neg := false) (four_head h) (by decide) (four_dig n)
  rw [List.length_replicate] at this
  exact this
theorem four_neg {n : Nat} (h : 0 < n) : isNeg (List.replicate n 52) = false := (body_sgnT (neg := false) (four_head h) (by decide)).2
theorem four_pval {n : Nat} (h : 0 < n) (hn : n ≤ 2000) : ∃ k : Nat, pval (List.replicate n 52) = ((4 * k : Nat) : Int) := by
  obtain ⟨k, hk⟩ := dec_four n
  refine ⟨k, ?_⟩
  have hp := four_perr h
  rw [if_neg (by omega)] at hp
  obtain ⟨hb, hng⟩ := body_sgnT (neg := false) (four_head h) (by decide)
  unfold pval
  rw [if_pos hp]
  have hb' : body (List.replicate n 52) = List.replicate n 52 := hb
  rw [hb', four_neg h, hk]
  rfl

end Go.Qf

/- The law RationalLengths: the walk. -/
namespace Go.Qf
open Go Go.RowKit Go.Proofs
set_option maxRecDepth 20000

/-- The text that the law writes. -/
def lenT (n m : Nat) (wrong : Bool) : List Nat := List.replicate n 52 ++ 47 :: (if wrong then (List.replicate m 52).set (m - 1) 45 else List.replicate m 52)
theorem lenT_len (n m : Nat) (wrong : Bool) : (lenT n m wrong).length = n + m + 1 := by
  unfold lenT
  cases wrong <;> simp <;> omega
theorem lenT_b8 (n m : Nat) (wrong : Bool) : B8 (lenT n m wrong) := by
  unfold lenT
  refine B8.app (isDig_b8 (four_dig n)) (B8.app (xs := [47]) b8_slash ?_)
  cases wrong
  · exact isDig_b8 (four_dig m)
  · exact set_b8 (isDig_b8 (four_dig m)) (by decide)
theorem lenT_start (n m : Nat) : (List.replicate (n + m + 1) 52).set n 47 = lenT n m false := by
  unfold lenT
  rw [show n + m + 1 = n + (m + 1) by omega, ← List.replicate_append_replicate, List.set_append_right _ _ (by simp)]
  simp [List.replicate_succ]
theorem lenT_wrong (n m : Nat) (hm : 0 < m) : (lenT n m false).set (n + m) 45 = lenT n m true := by
  unfold lenT
  rw [List.set_append_right _ _ (by simp)]
  obtain ⟨k, rfl⟩ : ∃ k, m = k + 1 := ⟨m - 1, by omega⟩
  simp
theorem lenT_err {n m : Nat} (wrong : Bool) (hn : 1999 ≤ n) (hm : 1999 ≤ m) : rerr (lenT n m wrong) = if wrong then 2 else if 2000 < n ∨ 2000 < m then 7 else 1 := by
  have hcut : pos (lenT n m wrong) = some n ∧ cutA (lenT n m wrong) = List.replicate n 52 ∧ cutB (lenT n m wrong) = if wrong then (List.replicate m 52).set (m - 1) 45 else List.replicate m 52 := by
    have := cut_app' (t := List.replicate n 52) (r := if wrong then (List.replicate m 52).set (m - 1) 45 else List.replicate m 52) (four_ne n)
    rw [List.length_replicate] at this
    exact this
  obtain ⟨hp, hA, hB⟩ := hcut
  have hs : (pos (lenT n m wrong)).isSome = true := by rw [hp]; rfl
  have pA := four_perr (n := n) (by omega)
  have pB := four_perr (n := m) (by omega)
  unfold rerr
  rw [if_pos hs, hA, hB]
  cases wrong
  · simp only [Bool.false_eq_true, if_false]
    rw [four_neg (by omega), if_neg (by
      rintro (e | e | e)
      · rw [pA] at e; split at e <;> cases e
      · rw [pB] at e; split at e <;> cases e
      · cases e)]
    by_cases h : 2000 < n ∨ 2000 < m
    · rw [if_pos h, if_pos]
      rcases h with h | h
      · left; rw [pA, if_pos h]; decide
      · right; rw [pB, if_pos h]; decide
    · rw [if_neg h, if_neg, if_pos]
      · right
        obtain ⟨a, ha⟩ := four_pval (n := n) (by omega) (by omega)
        obtain ⟨b, hb⟩ := four_pval (n := m) (by omega) (by omega)
        rw [ha, hb, Int.natAbs_natCast, Int.natAbs_natCast, Nat.gcd_mul_left]
        omega
      · rintro (e | e)
        · exact e (by rw [pA, if_neg (by omega)])
        · exact e (by rw [pB, if_neg (by omega)])
  · simp only [if_true]
    rw [if_pos]
    right; left
    exact perr_bad (neg := false) (d := 52) (b := 45) (set_head (four_head (by omega)) (by omega)) (by decide) (set_mem (by simp; omega)) (by unfold isDig; omega)

set_option maxHeartbeats 3200000 in
theorem lawLengths (w : World) (x : Nat) (hx : x < 256) (y : Nat) (hy : y < 256) (wrong : Bool) : Calls Try.prog 10 #[u8 x, u8 y, .bool wrong] w (Ret fun r w' => Ext w w' ∧ r = .bool true) := by
  refine calls_of_St (args := [_, _, _]) Try.func10 rfl Try.ntmps10 rfl ?_
  (repeat with_reducible first|refine .nil ?_|refine .then_normal ?_|refine .block_normal ?_|refine .seq ?_|refine .block ?_|refine .skip ?_|refine .region ?_|refine .ret ?_|refine .then_ret ?_|refine .block_ret ?_|refine .exit ?_|refine .then_exit ?_|refine .block_exit ?_|refine .block_other rfl ?_)
  refine .run TBok 99 rfl ?_
  (repeat with_reducible first|refine .nil ?_|refine .then_normal ?_|refine .block_normal ?_|refine .seq ?_|refine .block ?_|refine .skip ?_|refine .region ?_|refine .ret ?_|refine .then_ret ?_|refine .block_ret ?_|refine .exit ?_|refine .then_exit ?_|refine .block_exit ?_|refine .block_other rfl ?_)
  refine StL.as TBok 2 (.int .i64 (x : Int)) rfl (by congr 1; show IntKind.i64.wrap (x : Int) = _; rw [i64_id (by omega) (by omega)]) ?_
  refine StL.step rfl rfl rfl (RunsTo.remN x 3 rfl rfl rfl rfl (by decide)).op ?_
  rintro _ _ ⟨rfl, rfl⟩
  refine StL.as TBok 1 (.int .i64 ((1999 + x % 3 : Nat) : Int)) rfl (by congr 1; show IntKind.i64.wrap (1999 + ((x % 3 : Nat) : Int)) = _; rw [i64_id (by omega) (by omega)]; omega) ?_
  refine StL.as TBok 2 (.int .i64 (y : Int)) rfl (by congr 1; show IntKind.i64.wrap (y : Int) = _; rw [i64_id (by omega) (by omega)]) ?_
  refine StL.step rfl rfl rfl (RunsTo.remN y 3 rfl rfl rfl rfl (by decide)).op ?_
  rintro _ _ ⟨rfl, rfl⟩
  refine StL.as TBok 1 (.int .i64 ((1999 + y % 3 : Nat) : Int)) rfl (by congr 1; show IntKind.i64.wrap (1999 + ((y % 3 : Nat) : Int)) = _; rw [i64_id (by omega) (by omega)]; omega) ?_
  obtain ⟨n, hn⟩ : ∃ n, n = 1999 + x % 3 := ⟨_, rfl⟩
  obtain ⟨m, hm⟩ : ∃ m, m = 1999 + y % 3 := ⟨_, rfl⟩
  rw [← hn, ← hm]
  have hn0 : 1999 ≤ n ∧ n ≤ 2001 := by omega
  have hm0 : 1999 ≤ m ∧ m ≤ 2001 := by omega
  have herr := lenT_err (n := n) (m := m) wrong hn0.1 hm0.1
  clear hn hm
  refine .run TBok 99 rfl ?_
  (repeat with_reducible first|refine .nil ?_|refine .then_normal ?_|refine .block_normal ?_|refine .seq ?_|refine .block ?_|refine .skip ?_|refine .region ?_|refine .ret ?_|refine .then_ret ?_|refine .block_ret ?_|refine .exit ?_|refine .then_exit ?_|refine .block_exit ?_|refine .block_other rfl ?_)
  refine StL.as TBok 4 (.int .i64 ((n + m + 1 : Nat) : Int)) rfl ?_ ?_
  · congr 1
    show IntKind.i64.wrap (IntKind.i64.wrap ((n : Int) + (m : Int)) + 1) = _
    rw [i64_id (n := (n : Int) + m) (by omega) (by omega), i64_id (by omega) (by omega)]
    omega
  refine StL.step rfl rfl rfl (OpR.make TBok (n + m + 1) rfl rfl rfl rfl rfl rfl rfl rfl (by show (n + m + 1) * 1 ≤ _; omega) (by omega)) ?_
  rintro _ w1 ⟨rfl, B, hx0, hz1⟩
  rw [show List.replicate (n + m + 1) (Value.int .u8 0) = fillB (fun _ => 52) 0 (n + m + 1) from fillB_zero _ _] at B
  (iterate 6 ((repeat with_reducible first|refine .nil ?_|refine .then_normal ?_|refine .block_normal ?_|refine .seq ?_|refine .block ?_|refine .skip ?_|refine .region ?_|refine .ret ?_|refine .then_ret ?_|refine .block_ret ?_|refine .exit ?_|refine .then_exit ?_|refine .block_exit ?_|refine .block_other rfl ?_); try refine .run TBok 99 rfl ?_))
  refine St.loop (fun i : Nat => [(2, .bool wrong), (7, .int .i64 n), (8, .int .i64 m), (9, .slice (some ⟨w.heap.size, 0, none⟩) (n + m + 1) (n + m + 1)), (27, .int .i64 ((n + m + 1 : Nat) : Int)), (28, .int .i64 i)])
    (fun i w' => Ext w w' ∧ Blk 5 w' w.heap.size (fillB (fun _ => 52) i (n + m + 1)) ∧ i ≤ n + m + 1) (fun i => n + m + 1 - i) 0 ⟨rfl, rfl, rfl, rfl, rfl, rfl, trivial⟩ ⟨hx0, B, Nat.zero_le _⟩ ?_
  rintro i w2 ⟨hx2, B, hi⟩
  by_cases hlt : i < n + m + 1
  · (repeat with_reducible first|refine .nil ?_|refine .then_normal ?_|refine .block_normal ?_|refine .seq ?_|refine .block ?_|refine .skip ?_|refine .region ?_|refine .ret ?_|refine .then_ret ?_|refine .block_ret ?_|refine .exit ?_|refine .then_exit ?_|refine .block_exit ?_|refine .block_other rfl ?_)
    refine StL.as TBok 1 (.bool true) rfl (bool_true (by omega)) ?_
    (repeat with_reducible first|refine .nil ?_|refine .then_normal ?_|refine .block_normal ?_|refine .seq ?_|refine .block ?_|refine .skip ?_|refine .region ?_|refine .ret ?_|refine .then_ret ?_|refine .block_ret ?_|refine .exit ?_|refine .then_exit ?_|refine .block_exit ?_|refine .block_other rfl ?_)
    refine St.condT rfl rfl ?_
    (iterate 6 ((repeat with_reducible first|refine .nil ?_|refine .then_normal ?_|refine .block_normal ?_|refine .seq ?_|refine .block ?_|refine .skip ?_|refine .region ?_|refine .ret ?_|refine .then_ret ?_|refine .block_ret ?_|refine .exit ?_|refine .then_exit ?_|refine .block_exit ?_|refine .block_other rfl ?_); try refine .run TBok 99 rfl ?_))
    refine StL.put TBok i B rfl hlt (by rw [fillB_len _ hi]; omega) rfl rfl rfl rfl rfl rfl rfl rfl (fun _ => rfl) (fun _ => rfl) rfl rfl ?_
    intro p w3 B3 hu3
    rw [show (Value.int .u8 52) = u8 52 from rfl, fillB_set (fun _ => 52) hlt] at B3
    (iterate 6 ((repeat with_reducible first|refine .nil ?_|refine .then_normal ?_|refine .block_normal ?_|refine .seq ?_|refine .block ?_|refine .skip ?_|refine .region ?_|refine .ret ?_|refine .then_ret ?_|refine .block_ret ?_|refine .exit ?_|refine .then_exit ?_|refine .block_exit ?_|refine .block_other rfl ?_); try refine .run TBok 99 rfl ?_))
    refine Out.again (i + 1) ⟨rfl, rfl, rfl, rfl, rfl, ?_, trivial⟩ ⟨hx2.then_upd hu3 (Nat.le_refl _), B3, by omega⟩ (by omega)
    show some (Value.int .i64 (IntKind.i64.wrap ((i : Int) + 1))) = _
    rw [i64_id (by omega) (by omega)]; rfl
  have hi2 : i = n + m + 1 := by omega
  subst hi2
  rw [fillB_all, four_range] at B
  (repeat with_reducible first|refine .nil ?_|refine .then_normal ?_|refine .block_normal ?_|refine .seq ?_|refine .block ?_|refine .skip ?_|refine .region ?_|refine .ret ?_|refine .then_ret ?_|refine .block_ret ?_|refine .exit ?_|refine .then_exit ?_|refine .block_exit ?_|refine .block_other rfl ?_)
  refine StL.as TBok 1 (.bool false) rfl (bool_false (by omega)) ?_
  (repeat with_reducible first|refine .nil ?_|refine .then_normal ?_|refine .block_normal ?_|refine .seq ?_|refine .block ?_|refine .skip ?_|refine .region ?_|refine .ret ?_|refine .then_ret ?_|refine .block_ret ?_|refine .exit ?_|refine .then_exit ?_|refine .block_exit ?_|refine .block_other rfl ?_)
  refine St.condF rfl rfl ?_
  (iterate 6 ((repeat with_reducible first|refine .nil ?_|refine .then_normal ?_|refine .block_normal ?_|refine .seq ?_|refine .block ?_|refine .skip ?_|refine .region ?_|refine .ret ?_|refine .then_ret ?_|refine .block_ret ?_|refine .exit ?_|refine .then_exit ?_|refine .block_exit ?_|refine .block_other rfl ?_); try refine .run TBok 99 rfl ?_))
  refine StL.put TBok n B rfl (by omega) (by simp) rfl rfl rfl rfl rfl rfl rfl rfl (fun _ => rfl) (fun _ => rfl) rfl rfl ?_
  intro p w3 B3 hu3
  rw [Nat.zero_add, show (Value.int .u8 47) = u8 47 from rfl, ← List.map_set, lenT_start] at B3
  have hx3 := hx2.then_upd hu3 (Nat.le_refl _)
  refine .run TBok 99 rfl ?_
  (repeat with_reducible first|refine .nil ?_|refine .then_normal ?_|refine .block_normal ?_|refine .seq ?_|refine .block ?_|refine .skip ?_|refine .region ?_|refine .ret ?_|refine .then_ret ?_|refine .block_ret ?_|refine .exit ?_|refine .then_exit ?_|refine .block_exit ?_|refine .block_other rfl ?_)
  refine .run TBok 99 rfl ?_
  refine StL.nil (Out.then_normal (St.cutX (fun _ : Unit => [(2, .bool wrong), (7, .int .i64 n), (8, .int .i64 m), (9, .slice (some ⟨w.heap.size, 0, none⟩) (n + m + 1) (n + m + 1))]) (fun _ w' => Ext w w' ∧ Blk 5 w' w.heap.size ((lenT n m wrong).map u8)) ?_ ?_))
  · cases wrong with
    | true =>
      refine St.condT rfl rfl ?_
      (repeat with_reducible first|refine .nil ?_|refine .then_normal ?_|refine .block_normal ?_|refine .seq ?_|refine .block ?_|refine .skip ?_|refine .region ?_|refine .ret ?_|refine .then_ret ?_|refine .block_ret ?_|refine .exit ?_|refine .then_exit ?_|refine .block_exit ?_|refine .block_other rfl ?_)
      refine StL.as TBok 4 (.int .i64 ((n + m : Nat) : Int)) rfl ?_ ?_
      · congr 1
        show IntKind.i64.wrap ((n : Int) + (m : Int)) = _
        rw [i64_id (by omega) (by omega)]
        omega
      refine StL.put TBok (n + m) B3 rfl (by omega) (by rw [List.length_map, lenT_len]; omega) rfl rfl rfl rfl rfl rfl rfl rfl (fun _ => rfl) (fun _ => rfl) rfl rfl ?_
      intro p w4 B4 hu4
      rw [Nat.zero_add, show (Value.int .u8 45) = u8 45 from rfl, ← List.map_set, lenT_wrong n m (by omega)] at B4
      exact StL.nil (Out.met () ⟨rfl, rfl, rfl, rfl, trivial⟩ ⟨hx3.then_upd hu4 (Nat.le_refl _), B4⟩)
    | false => exact St.condF rfl rfl (St.skip (Out.met () ⟨rfl, rfl, rfl, rfl, trivial⟩ ⟨hx3, B3⟩))
  rintro _ w4 ⟨hx0, B⟩
  have hlen := lenT_len n m wrong
  have hb8 := lenT_b8 n m wrong
  have hrow : Row 5 w4 (.slice (some ⟨w.heap.size, 0, none⟩) (n + m + 1) (n + m + 1)) ((lenT n m wrong).map u8) := B.row (by simp [hlen]) (Nat.le_refl _) (by simp [hlen]) (by rw [List.drop_zero]; exact List.take_of_length_le (by simp [hlen]))
  generalize lenT n m wrong = s at *
  (iterate 6 ((repeat with_reducible first|refine .nil ?_|refine .then_normal ?_|refine .block_normal ?_|refine .seq ?_|refine .block ?_|refine .skip ?_|refine .region ?_|refine .ret ?_|refine .then_ret ?_|refine .block_ret ?_|refine .exit ?_|refine .then_exit ?_|refine .block_exit ?_|refine .block_other rfl ?_); try refine .run TBok 99 rfl ?_))
  refine StL.step rfl rfl rfl (RunsTo.bytesStr TBok rfl rfl rfl rfl rfl hrow).op ?_
  rintro _ _ ⟨rfl, rfl⟩
  refine StL.step rfl rfl rfl (OpR.call fn_rational_Parse rfl (parseR_spec w4 s hb8 (by omega))) ?_
  rintro _ w5 ⟨hx5, v, rfl, v4, _, _⟩
  rw [herr]
  replace hx0 := hx0.trans hx5
  clear hx5
  refine .run TBok 99 rfl ?_
  refine StL.newR rfl rfl (fun _ => rfl) v4 ?_
  intro b11 w6 hl11 hx6 _
  replace hx0 := hx0.trans hx6
  clear hx6
  cases wrong with
  | true =>
    (iterate 6 ((repeat with_reducible first|refine .nil ?_|refine .then_normal ?_|refine .block_normal ?_|refine .seq ?_|refine .block ?_|refine .skip ?_|refine .region ?_|refine .ret ?_|refine .then_ret ?_|refine .block_ret ?_|refine .exit ?_|refine .then_exit ?_|refine .block_exit ?_|refine .block_other rfl ?_); try refine .run TBok 99 rfl ?_))
    refine St.condT rfl rfl ?_
    (iterate 6 ((repeat with_reducible first|refine .nil ?_|refine .then_normal ?_|refine .block_normal ?_|refine .seq ?_|refine .block ?_|refine .skip ?_|refine .region ?_|refine .ret ?_|refine .then_ret ?_|refine .block_ret ?_|refine .exit ?_|refine .then_exit ?_|refine .block_exit ?_|refine .block_other rfl ?_); try refine .run TBok 99 rfl ?_))
    refine StL.awk rfl rfl ?_
    intro wz hxz
    (iterate 6 ((repeat with_reducible first|refine .nil ?_|refine .then_normal ?_|refine .block_normal ?_|refine .seq ?_|refine .block ?_|refine .skip ?_|refine .region ?_|refine .ret ?_|refine .then_ret ?_|refine .block_ret ?_|refine .exit ?_|refine .then_exit ?_|refine .block_exit ?_|refine .block_other rfl ?_); try refine .run TBok 99 rfl ?_))
    exact Out.ret1 rfl rfl ⟨hx0.trans hxz, rfl⟩
  | false =>
    simp only [Bool.false_eq_true, if_false]
    (iterate 6 ((repeat with_reducible first|refine .nil ?_|refine .then_normal ?_|refine .block_normal ?_|refine .seq ?_|refine .block ?_|refine .skip ?_|refine .region ?_|refine .ret ?_|refine .then_ret ?_|refine .block_ret ?_|refine .exit ?_|refine .then_exit ?_|refine .block_exit ?_|refine .block_other rfl ?_); try refine .run TBok 99 rfl ?_))
    refine St.condF rfl rfl ?_
    (repeat with_reducible first|refine .nil ?_|refine .then_normal ?_|refine .block_normal ?_|refine .seq ?_|refine .block ?_|refine .skip ?_|refine .region ?_|refine .ret ?_|refine .then_ret ?_|refine .block_ret ?_|refine .exit ?_|refine .then_exit ?_|refine .block_exit ?_|refine .block_other rfl ?_)
    by_cases c1 : 2000 < n
    · rw [if_pos (.inl c1)]
      refine StL.as TBok 2 (.bool true) rfl (bool_true (by omega)) ?_
      (iterate 6 ((repeat with_reducible first|refine .nil ?_|refine .then_normal ?_|refine .block_normal ?_|refine .seq ?_|refine .block ?_|refine .skip ?_|refine .region ?_|refine .ret ?_|refine .then_ret ?_|refine .block_ret ?_|refine .exit ?_|refine .then_exit ?_|refine .block_exit ?_|refine .block_other rfl ?_); try refine .run TBok 99 rfl ?_))
      refine St.condT rfl rfl ?_
      (iterate 6 ((repeat with_reducible first|refine .nil ?_|refine .then_normal ?_|refine .block_normal ?_|refine .seq ?_|refine .block ?_|refine .skip ?_|refine .region ?_|refine .ret ?_|refine .then_ret ?_|refine .block_ret ?_|refine .exit ?_|refine .then_exit ?_|refine .block_exit ?_|refine .block_other rfl ?_); try refine .run TBok 99 rfl ?_))
      refine StL.awk rfl rfl ?_
      intro wz hxz
      (iterate 6 ((repeat with_reducible first|refine .nil ?_|refine .then_normal ?_|refine .block_normal ?_|refine .seq ?_|refine .block ?_|refine .skip ?_|refine .region ?_|refine .ret ?_|refine .then_ret ?_|refine .block_ret ?_|refine .exit ?_|refine .then_exit ?_|refine .block_exit ?_|refine .block_other rfl ?_); try refine .run TBok 99 rfl ?_))
      exact Out.ret1 rfl rfl ⟨hx0.trans hxz, rfl⟩
    refine StL.as TBok 2 (.bool false) rfl (bool_false (by omega)) ?_
    by_cases c2 : 2000 < m
    · rw [if_pos (.inr c2)]
      refine StL.as TBok 3 (.bool true) rfl (bool_true (by omega)) ?_
      (iterate 6 ((repeat with_reducible first|refine .nil ?_|refine .then_normal ?_|refine .block_normal ?_|refine .seq ?_|refine .block ?_|refine .skip ?_|refine .region ?_|refine .ret ?_|refine .then_ret ?_|refine .block_ret ?_|refine .exit ?_|refine .then_exit ?_|refine .block_exit ?_|refine .block_other rfl ?_); try refine .run TBok 99 rfl ?_))
      refine St.condT rfl rfl ?_
      (iterate 6 ((repeat with_reducible first|refine .nil ?_|refine .then_normal ?_|refine .block_normal ?_|refine .seq ?_|refine .block ?_|refine .skip ?_|refine .region ?_|refine .ret ?_|refine .then_ret ?_|refine .block_ret ?_|refine .exit ?_|refine .then_exit ?_|refine .block_exit ?_|refine .block_other rfl ?_); try refine .run TBok 99 rfl ?_))
      refine StL.awk rfl rfl ?_
      intro wz hxz
      (iterate 6 ((repeat with_reducible first|refine .nil ?_|refine .then_normal ?_|refine .block_normal ?_|refine .seq ?_|refine .block ?_|refine .skip ?_|refine .region ?_|refine .ret ?_|refine .then_ret ?_|refine .block_ret ?_|refine .exit ?_|refine .then_exit ?_|refine .block_exit ?_|refine .block_other rfl ?_); try refine .run TBok 99 rfl ?_))
      exact Out.ret1 rfl rfl ⟨hx0.trans hxz, rfl⟩
    rw [if_neg (by omega)]
    refine StL.as TBok 3 (.bool false) rfl (bool_false (by omega)) ?_
    (iterate 6 ((repeat with_reducible first|refine .nil ?_|refine .then_normal ?_|refine .block_normal ?_|refine .seq ?_|refine .block ?_|refine .skip ?_|refine .region ?_|refine .ret ?_|refine .then_ret ?_|refine .block_ret ?_|refine .exit ?_|refine .then_exit ?_|refine .block_exit ?_|refine .block_other rfl ?_); try refine .run TBok 99 rfl ?_))
    refine St.condF rfl rfl ?_
    (iterate 6 ((repeat with_reducible first|refine .nil ?_|refine .then_normal ?_|refine .block_normal ?_|refine .seq ?_|refine .block ?_|refine .skip ?_|refine .region ?_|refine .ret ?_|refine .then_ret ?_|refine .block_ret ?_|refine .exit ?_|refine .then_exit ?_|refine .block_exit ?_|refine .block_other rfl ?_); try refine .run TBok 99 rfl ?_))
    refine StL.awk rfl rfl ?_
    intro wz hxz
    (iterate 6 ((repeat with_reducible first|refine .nil ?_|refine .then_normal ?_|refine .block_normal ?_|refine .seq ?_|refine .block ?_|refine .skip ?_|refine .region ?_|refine .ret ?_|refine .then_ret ?_|refine .block_ret ?_|refine .exit ?_|refine .then_exit ?_|refine .block_exit ?_|refine .block_other rfl ?_); try refine .run TBok 99 rfl ?_))
    exact Out.ret1 rfl rfl ⟨hx0.trans hxz, rfl⟩

end Go.Qf
