/- Lemmas on the model and on the program's functions, part ZIntegerDigits. -/
import Derived.Test.YteiphfahnikikaaQa
import Derived.Test.YteiphfahnikikaaQb
import Derived.Test.YteiphfahnikikaaQc
import Derived.Test.YteiphfahnikikaaQd
import Derived.Test.YteiphfahnikikaaQe
import Derived.Test.YteiphfahnikikaaQf
import Derived.Test.YteiphfahnikikaaQg
/- quadformlaw01: awake, long, copied. -/
namespace Go.Qf
open Go Go.RowKit Go.Proofs
set_option maxRecDepth 20000

theorem awake_spec (w : World) : Calls Try.prog 20 #[] w (Ret fun r w' => Ext w w' ∧ r = .bool true) := by
  refine calls_of_St (args := []) Try.func20 rfl Try.ntmps20 rfl ?_
  (iterate 6 ((repeat with_reducible first|refine .nil ?_|refine .then_normal ?_|refine .block_normal ?_|refine .seq ?_|refine .block ?_|refine .skip ?_|refine .region ?_|refine .ret ?_|refine .then_ret ?_|refine .block_ret ?_|refine .exit ?_|refine .then_exit ?_|refine .block_exit ?_|refine .block_other rfl ?_); try refine .run TBok 99 rfl ?_))
  refine StL.step rfl rfl rfl (OpR.call fn_integer_Small rfl (small_spec w (-7) (by decide) (by decide))) ?_
  rintro v9 w1 ⟨hx1, h9⟩
  refine StL.step rfl rfl rfl (OpR.call fn_integer_Small rfl (small_spec w1 3 (by decide) (by decide))) ?_
  rintro v10 w2 ⟨hx2, h10⟩
  refine StL.step rfl rfl rfl (OpR.call fn_integer_DivMod rfl (divMod_dn (base := 0) ((h9.ext hx2).dn (by decide +kernel)) (h10.dn (by decide +kernel)) (Nat.zero_le _))) ?_
  rintro _ w3 ⟨hx3, _, hd⟩
  obtain ⟨q, m, rfl, hq, hm⟩ := hd (by decide)
  refine .run TBok 99 rfl ?_
  refine StL.step rfl rfl rfl (OpR.alloc TBok rfl) ?_
  rintro _ w4 ⟨rfl, hb4, hx4, hz4⟩
  refine StL.step rfl rfl rfl (OpR.alloc TBok rfl) ?_
  rintro _ w5 ⟨rfl, hb5, hx5, hz5⟩
  refine StL.setCan rfl rfl (hb4.ext hx5) rfl ((hq.ext hx4).ext hx5) (hx4.trans hx5) (Nat.le_refl _) ?_
  intro w6 hB6 hu6 hq6 hx6
  refine StL.setCan rfl rfl (hb5.upd hu6 (by omega)) rfl (CanO.upd ((hm.ext hx4).ext hx5) hu6 ⟨_, hb4.ext hx5⟩) hx6 (by omega) ?_
  intro w7 hB7 hu7 hm7 hx7
  have hB6' := hB6.upd hu7 (by omega)
  have hq7 := CanO.upd hq6 hu7 ⟨_, hb5.upd hu6 (by omega)⟩
  have hx07 : Ext w w7 := ((hx1.trans hx2).trans hx3).trans hx7
  clear hB6 hu6 hq6 hu7 hx6 hx7 hx4 hx5 hb4 hb5 h9 h10 hx1 hx2 hx3 hq hm
  (iterate 6 ((repeat with_reducible first|refine .nil ?_|refine .then_normal ?_|refine .block_normal ?_|refine .seq ?_|refine .block ?_|refine .skip ?_|refine .region ?_|refine .ret ?_|refine .then_ret ?_|refine .block_ret ?_|refine .exit ?_|refine .then_exit ?_|refine .block_exit ?_|refine .block_other rfl ?_); try refine .run TBok 99 rfl ?_))
  refine StL.step rfl rfl rfl (RunsTo.loadCan rfl hB6' hq7).op ?_
  rintro _ _ ⟨rfl, rfl⟩
  refine StL.step rfl rfl rfl (OpR.call fn_integer_Int64 rfl (int64_dn (hq7.dn (by decide +kernel)))) ?_
  rintro _ w8 ⟨hx8, rfl⟩
  rw [show int64V (-7 / 3) = .tuple #[.int .i64 (-3), .bool true] from by unfold int64V; rw [if_pos (by decide)]; rfl]
  (iterate 6 ((repeat with_reducible first|refine .nil ?_|refine .then_normal ?_|refine .block_normal ?_|refine .seq ?_|refine .block ?_|refine .skip ?_|refine .region ?_|refine .ret ?_|refine .then_ret ?_|refine .block_ret ?_|refine .exit ?_|refine .then_exit ?_|refine .block_exit ?_|refine .block_other rfl ?_); try refine .run TBok 99 rfl ?_))
  refine StL.step rfl rfl rfl (OpR.call fn_integer_Small rfl (small_spec w8 24 (by decide) (by decide))) ?_
  rintro v21 w9 ⟨hx9, h21⟩
  refine StL.step rfl rfl rfl (OpR.call fn_integer_Sqrt rfl (sqrt_dn (h21.dn (by decide +kernel)))) ?_
  rintro _ w10 ⟨hx10, _, hs⟩
  obtain ⟨s, x, rfl, hroot, hs10⟩ := hs (by decide)
  have hx4 : x = 4 := by
    obtain ⟨h1, h2⟩ := hroot
    have h24 : (24 : Int).natAbs = 24 := rfl
    rw [h24] at h1 h2
    rcases Nat.lt_or_ge x 5 with h | h
    · rcases Nat.lt_or_ge x 4 with h' | h'
      · have : (x + 1) * (x + 1) ≤ 4 * 4 := Nat.mul_le_mul (by omega) (by omega)
        omega
      · omega
    · have : 5 * 5 ≤ x * x := Nat.mul_le_mul h h
      omega
  subst hx4
  refine .run TBok 99 rfl ?_
  refine StL.step rfl rfl rfl (OpR.alloc TBok rfl) ?_
  rintro _ w11 ⟨rfl, hb11, hx11, hz11⟩
  refine StL.setCan rfl rfl hb11 rfl (hs10.ext hx11) hx11 (Nat.le_refl _) ?_
  intro w12 hB12 hu12 hs12 hx12
  have hx712 : Ext w7 w12 := ((hx8.trans hx9).trans hx10).trans hx12
  have hm12 := hm7.ext hx712
  have hB7' := hB7.ext hx712
  have hx012 := hx07.trans hx712
  (iterate 6 ((repeat with_reducible first|refine .nil ?_|refine .then_normal ?_|refine .block_normal ?_|refine .seq ?_|refine .block ?_|refine .skip ?_|refine .region ?_|refine .ret ?_|refine .then_ret ?_|refine .block_ret ?_|refine .exit ?_|refine .then_exit ?_|refine .block_exit ?_|refine .block_other rfl ?_); try refine .run TBok 99 rfl ?_))
  refine StL.step rfl rfl rfl (RunsTo.loadCan rfl hB7' hm12).op ?_
  rintro _ _ ⟨rfl, rfl⟩
  refine StL.step rfl rfl rfl (OpR.call fn_integer_Format rfl (format_dn (hm12.dn (by decide +kernel)))) ?_
  rintro _ w13 ⟨hx13, rfl⟩
  refine StL.step rfl rfl rfl (RunsTo.strEql (bs := [50]) (b8_lit _ (by decide +kernel)) (b8_lit _ rfl) rfl rfl).op ?_
  rintro _ _ ⟨rfl, rfl⟩
  rw [show decide (fmtI (-7 % 3) = [50]) = true from by decide +kernel]
  refine .run TBok 99 rfl ?_
  refine StL.step rfl rfl rfl (RunsTo.loadCan rfl (hB12.ext hx13) hs12).op ?_
  rintro _ _ ⟨rfl, rfl⟩
  refine StL.step rfl rfl rfl (OpR.call fn_integer_Format rfl (format_dn ((hs12.ext hx13).dn (by decide +kernel)))) ?_
  rintro _ w14 ⟨hx14, rfl⟩
  refine StL.step rfl rfl rfl (RunsTo.strEql (bs := [52]) (b8_lit _ (by decide +kernel)) (b8_lit _ rfl) rfl rfl).op ?_
  rintro _ _ ⟨rfl, rfl⟩
  rw [show decide (fmtI ((4 : Nat) : Int) = [52]) = true from by decide +kernel]
  (iterate 6 ((repeat with_reducible first|refine .nil ?_|refine .then_normal ?_|refine .block_normal ?_|refine .seq ?_|refine .block ?_|refine .skip ?_|refine .region ?_|refine .ret ?_|refine .then_ret ?_|refine .block_ret ?_|refine .exit ?_|refine .then_exit ?_|refine .block_exit ?_|refine .block_other rfl ?_); try refine .run TBok 99 rfl ?_))
  exact Out.ret1 rfl rfl ⟨(hx012.trans hx13).trans hx14, rfl⟩

/-- What awake says ends the law. -/
theorem StL.awake {n : Nat} {E : List (Nat × Value)} {w : World} {ops : Array Oper} {rest : List Oper} {Q : Exit → Act → World → Prop} {d : Nat} {ty : TypeId} {pos : String} {af : Array Edge} {g : Option (Nat × Bool)} (hw : wantE ops E g = some true) (hn : Nat.blt d n = true) (next : ∀ w', Ext w w' → StL Try.prog n ((d, .bool true) :: E) w' ops rest Q) :
    StL Try.prog n E w ops (⟨some d, .call ⟨.value (.func 20), #[], #[]⟩, ty, pos, af, g⟩ :: rest) Q := by
  refine StL.step rfl hw hn (OpR.call fn_w01_awake rfl (awake_spec w)) ?_
  rintro _ w' ⟨hx, rfl⟩
  exact next w' hx

end Go.Qf

/- Texts that a law writes byte by byte: plain. -/
namespace Go.Qf
open Go Go.RowKit Go.Proofs

/-- The first i bytes written, the others 0. -/
def fillB (f : Nat → Nat) (i n : Nat) : List Value := (List.range i).map (fun j => u8 (f j)) ++ List.replicate (n - i) (u8 0)
theorem fillB_len (f : Nat → Nat) {i n : Nat} (h : i ≤ n) : (fillB f i n).length = n := by
  unfold fillB
  simp
  omega
theorem fillB_zero (f : Nat → Nat) (n : Nat) : List.replicate n (Value.int .u8 0) = fillB f 0 n := by
  unfold fillB
  simp
theorem fillB_set (f : Nat → Nat) {i n : Nat} (h : i < n) : (fillB f i n).set (0 + i) (u8 (f i)) = fillB f (i + 1) n := by
  obtain ⟨k, hk⟩ : ∃ k, n - i = k + 1 := ⟨n - i - 1, by omega⟩
  have hk2 : n - (i + 1) = k := by omega
  unfold fillB
  rw [hk, hk2, Nat.zero_add, List.range_succ, List.map_append, List.replicate_succ]
  rw [List.set_append_right _ _ (by simp)]
  simp
theorem fillB_all (f : Nat → Nat) (n : Nat) : fillB f n n = ((List.range n).map f).map u8 := by
  unfold fillB
  simp

theorem digT_head {n : Nat} (h : 0 < n) : ((List.range n).map (fun i => 49 + i % 9)).head? = some 49 := by
  obtain ⟨k, rfl⟩ : ∃ k, n = k + 1 := ⟨n - 1, by omega⟩
  rw [List.range_succ_eq_map]
  rfl
theorem digT_dig (n : Nat) : ∀ b ∈ (List.range n).map (fun i => 49 + i % 9), isDig b := by
  intro b hb
  simp only [List.mem_map] at hb
  obtain ⟨i, _, rfl⟩ := hb
  unfold isDig
  omega
theorem isDig_b8 {t : List Nat} (h : ∀ b ∈ t, isDig b) : B8 t := fun b hb => by have := h b hb; unfold isDig at this; omega
theorem sgnT_b8 {neg : Bool} {t : List Nat} (h : B8 t) : B8 (sgnT neg t) := by
  cases neg
  · exact h
  · exact B8.app (xs := [45]) b8_one h
theorem sgnT_len (neg : Bool) (t : List Nat) : (sgnT neg t).length ≤ t.length + 1 := by
  cases neg
  · exact Nat.le_succ _
  · exact Nat.le_refl _
theorem set_head {t : List Nat} {d k b : Nat} (h : t.head? = some d) (hk : 0 < k) : (t.set k b).head? = some d := by
  cases t with
  | nil => cases h
  | cons c r =>
    obtain ⟨j, rfl⟩ : ∃ j, k = j + 1 := ⟨k - 1, by omega⟩
    exact h
theorem set_mem {t : List Nat} {k b : Nat} (hk : k < t.length) : b ∈ t.set k b := List.mem_of_getElem? (i := k) (by simp [hk])
theorem set_b8 {t : List Nat} {k b : Nat} (h : B8 t) (hb : b < 256) : B8 (t.set k b) := by
  intro c hc
  rcases List.mem_or_eq_of_mem_set hc with h1 | h1
  · exact h c h1
  · omega
theorem pval_zero {s : List Nat} (h : perr s ≠ 0) : pval s = 0 := if_neg h

theorem cut_app' {t r : List Nat} (h : ∀ b ∈ t, b ≠ 47) : pos (t ++ 47 :: r) = some t.length ∧ cutA (t ++ 47 :: r) = t ∧ cutB (t ++ 47 :: r) = r := by
  have h1 := pos_app t r h
  refine ⟨h1, ?_, ?_⟩
  · unfold cutA; rw [h1]; simp
  · unfold cutB; rw [h1]; simp

/-- n times the digit 4. -/
theorem four_range (n : Nat) : (List.range n).map (fun _ => 52) = List.replicate n 52 := by
  rw [List.map_const', List.length_range]
theorem dec_four (n : Nat) : ∃ k, dec (List.replicate n 52) = 4 * k := by
  induction n with
  | zero => exact ⟨0, rfl⟩
  | succ n ih =>
    obtain ⟨k, hk⟩ := ih
    rw [List.replicate_succ', dec_snoc, hk]
    exact ⟨10 * k + 1, by omega⟩
theorem four_head {n : Nat} (h : 0 < n) : (List.replicate n 52).head? = some 52 := by
  obtain ⟨k, rfl⟩ : ∃ k, n = k + 1 := ⟨n - 1, by omega⟩
  rfl
theorem four_dig (n : Nat) : ∀ b ∈ List.replicate n 52, isDig b := by
  intro b hb
  rw [List.eq_of_mem_replicate hb]
  exact ⟨by decide, by decide⟩
theorem four_ne (n : Nat) : ∀ b ∈ List.replicate n 52, b ≠ 47 := by
  intro b hb
  rw [List.eq_of_mem_replicate hb]
  decide
theorem four_perr {n : Nat} (h : 0 < n) : perr (List.replicate n 52) = if 2000 < n then 7 else 0 := by
  have := perr_sgnT (neg := false) (four_head h) (by decide) (four_dig n)
  rw [List.length_replicate] at this
  exact this
theorem four_neg {n : Nat} (h : 0 < n) : isNeg (List.replicate n 52) = false := (body_sgnT (neg := false) (four_head h) (by decide)).2
theorem four_pval {n : Nat} (h : 0 < n) (hn : n ≤ 2000) : ∃ k : Nat, pval (List.replicate n 52) = ((4 * k : Nat) : Int) := by
  obtain ⟨k, hk⟩ := dec_four n
  refine ⟨k, ?_⟩
  have hp := four_perr h
  rw [if_neg (by omega)] at hp
  obtain ⟨hb, hng⟩ := body_sgnT (neg := false) (four_head h) (by decide)
  unfold pval
  rw [if_pos hp]
  have hb' : body (List.replicate n 52) = List.replicate n 52 := hb
  rw [hb', four_neg h, hk]
  rfl

end Go.Qf

/- The law IntegerDigits: the walk. -/
namespace Go.Qf
open Go Go.RowKit Go.Proofs
set_option maxRecDepth 20000

/-- The text that the law writes. -/
def digT (n : Nat) (wrong : Bool) : List Nat := if wrong then ((List.range n).map (fun i => 49 + i % 9)).set (n - 1) 120 else (List.range n).map (fun i => 49 + i % 9)
theorem digT_len (n : Nat) (wrong : Bool) : (digT n wrong).length = n := by
  unfold digT
  cases wrong <;> simp
theorem digT_hd {n : Nat} (wrong : Bool) (h : 2 ≤ n) : (digT n wrong).head? = some 49 := by
  unfold digT
  cases wrong
  · exact digT_head (by omega)
  · exact set_head (digT_head (by omega)) (by omega)
theorem digT_b8 (n : Nat) (wrong : Bool) : B8 (digT n wrong) := by
  unfold digT
  cases wrong
  · exact isDig_b8 (digT_dig n)
  · exact set_b8 (isDig_b8 (digT_dig n)) (by decide)
theorem digT_err {n : Nat} (neg wrong : Bool) (h : 2 ≤ n) : perr (sgnT neg (digT n wrong)) = if wrong then 2 else if 2000 < n then 7 else 0 := by
  cases wrong
  · have := perr_sgnT (neg := neg) (digT_hd false h) (Nat.le_refl _) (digT_dig n)
    rw [digT_len] at this
    exact this
  · exact perr_bad (neg := neg) (digT_hd true h) (Nat.le_refl _) (b := 120) (set_mem (by simp; omega)) (by unfold isDig; omega)

set_option maxHeartbeats 3200000 in
theorem lawDigits (w : World) (x : Nat) (hx : x < 256) (neg wrong : Bool) : Calls Try.prog 3 #[u8 x, .bool neg, .bool wrong] w (Ret fun r w' => Ext w w' ∧ r = .bool true) := by
  refine calls_of_St (args := [_, _, _]) Try.func3 rfl Try.ntmps3 rfl ?_
  (repeat with_reducible first|refine .nil ?_|refine .then_normal ?_|refine .block_normal ?_|refine .seq ?_|refine .block ?_|refine .skip ?_|refine .region ?_|refine .ret ?_|refine .then_ret ?_|refine .block_ret ?_|refine .exit ?_|refine .then_exit ?_|refine .block_exit ?_|refine .block_other rfl ?_)
  refine .run TBok 99 rfl ?_
  (repeat with_reducible first|refine .nil ?_|refine .then_normal ?_|refine .block_normal ?_|refine .seq ?_|refine .block ?_|refine .skip ?_|refine .region ?_|refine .ret ?_|refine .then_ret ?_|refine .block_ret ?_|refine .exit ?_|refine .then_exit ?_|refine .block_exit ?_|refine .block_other rfl ?_)
  refine StL.as TBok 2 (.int .i64 (x : Int)) rfl (by congr 1; show IntKind.i64.wrap (x : Int) = _; rw [i64_id (by omega) (by omega)]) ?_
  refine StL.step rfl rfl rfl (RunsTo.remN x 5 rfl rfl rfl rfl (by decide)).op ?_
  rintro _ _ ⟨rfl, rfl⟩
  refine StL.as TBok 1 (.int .i64 ((1998 + x % 5 : Nat) : Int)) rfl (by congr 1; show IntKind.i64.wrap (1998 + ((x % 5 : Nat) : Int)) = _; rw [i64_id (by omega) (by omega)]; omega) ?_
  obtain ⟨n, hn⟩ : ∃ n, n = 1998 + x % 5 := ⟨_, rfl⟩
  rw [← hn]
  have hn0 : 1998 ≤ n ∧ n ≤ 2002 := by omega
  have herr := digT_err (n := n) neg wrong (by omega)
  clear hn
  refine .run TBok 99 rfl ?_
  (repeat with_reducible first|refine .nil ?_|refine .then_normal ?_|refine .block_normal ?_|refine .seq ?_|refine .block ?_|refine .skip ?_|refine .region ?_|refine .ret ?_|refine .then_ret ?_|refine .block_ret ?_|refine .exit ?_|refine .then_exit ?_|refine .block_exit ?_|refine .block_other rfl ?_)
  refine .run TBok 99 rfl ?_
  refine StL.step rfl rfl rfl (OpR.make TBok n rfl rfl rfl rfl rfl rfl rfl rfl (by show n * 1 ≤ _; omega) (by omega)) ?_
  rintro _ w1 ⟨rfl, B, hx0, hz1⟩
  rw [show List.replicate n (Value.int .u8 0) = fillB (fun i => 49 + i % 9) 0 n from fillB_zero _ _] at B
  (iterate 6 ((repeat with_reducible first|refine .nil ?_|refine .then_normal ?_|refine .block_normal ?_|refine .seq ?_|refine .block ?_|refine .skip ?_|refine .region ?_|refine .ret ?_|refine .then_ret ?_|refine .block_ret ?_|refine .exit ?_|refine .then_exit ?_|refine .block_exit ?_|refine .block_other rfl ?_); try refine .run TBok 99 rfl ?_))
  refine St.loop (fun i : Nat => [(1, .bool neg), (2, .bool wrong), (7, .int .i64 n), (8, .slice (some ⟨w.heap.size, 0, none⟩) n n), (20, .int .i64 n), (21, .int .i64 i)])
    (fun i w' => Ext w w' ∧ Blk 5 w' w.heap.size (fillB (fun i => 49 + i % 9) i n) ∧ i ≤ n) (fun i => n - i) 0 ⟨rfl, rfl, rfl, rfl, rfl, rfl, trivial⟩ ⟨hx0, B, Nat.zero_le _⟩ ?_
  rintro i w2 ⟨hx2, B, hi⟩
  by_cases hlt : i < n
  · (repeat with_reducible first|refine .nil ?_|refine .then_normal ?_|refine .block_normal ?_|refine .seq ?_|refine .block ?_|refine .skip ?_|refine .region ?_|refine .ret ?_|refine .then_ret ?_|refine .block_ret ?_|refine .exit ?_|refine .then_exit ?_|refine .block_exit ?_|refine .block_other rfl ?_)
    refine StL.as TBok 1 (.bool true) rfl (bool_true (by omega)) ?_
    (repeat with_reducible first|refine .nil ?_|refine .then_normal ?_|refine .block_normal ?_|refine .seq ?_|refine .block ?_|refine .skip ?_|refine .region ?_|refine .ret ?_|refine .then_ret ?_|refine .block_ret ?_|refine .exit ?_|refine .then_exit ?_|refine .block_exit ?_|refine .block_other rfl ?_)
    refine St.condT rfl rfl ?_
    (iterate 6 ((repeat with_reducible first|refine .nil ?_|refine .then_normal ?_|refine .block_normal ?_|refine .seq ?_|refine .block ?_|refine .skip ?_|refine .region ?_|refine .ret ?_|refine .then_ret ?_|refine .block_ret ?_|refine .exit ?_|refine .then_exit ?_|refine .block_exit ?_|refine .block_other rfl ?_); try refine .run TBok 99 rfl ?_))
    refine StL.step rfl rfl rfl (RunsTo.remN i 9 rfl rfl rfl rfl (by decide)).op ?_
    rintro _ _ ⟨rfl, rfl⟩
    refine StL.as TBok 2 (u8 (49 + i % 9)) rfl ?_ ?_
    · congr 1
      show IntKind.u8.wrap (IntKind.i64.wrap (49 + ((i % 9 : Nat) : Int))) = _
      rw [i64_id (by omega) (by omega), wrap_u8]
      omega
    refine StL.put TBok i B rfl hlt (by rw [fillB_len _ hi]; omega) rfl rfl rfl rfl rfl rfl rfl rfl (fun _ => rfl) (fun _ => rfl) rfl rfl ?_
    intro p w3 B3 hu3
    rw [fillB_set (fun i => 49 + i % 9) hlt] at B3
    (iterate 6 ((repeat with_reducible first|refine .nil ?_|refine .then_normal ?_|refine .block_normal ?_|refine .seq ?_|refine .block ?_|refine .skip ?_|refine .region ?_|refine .ret ?_|refine .then_ret ?_|refine .block_ret ?_|refine .exit ?_|refine .then_exit ?_|refine .block_exit ?_|refine .block_other rfl ?_); try refine .run TBok 99 rfl ?_))
    refine Out.again (i + 1) ⟨rfl, rfl, rfl, rfl, rfl, ?_, trivial⟩ ⟨hx2.then_upd hu3 (Nat.le_refl _), B3, by omega⟩ (by omega)
    show some (Value.int .i64 (IntKind.i64.wrap ((i : Int) + 1))) = _
    rw [i64_id (by omega) (by omega)]; rfl
  have hi2 : i = n := by omega
  subst hi2
  rw [fillB_all] at B
  (repeat with_reducible first|refine .nil ?_|refine .then_normal ?_|refine .block_normal ?_|refine .seq ?_|refine .block ?_|refine .skip ?_|refine .region ?_|refine .ret ?_|refine .then_ret ?_|refine .block_ret ?_|refine .exit ?_|refine .then_exit ?_|refine .block_exit ?_|refine .block_other rfl ?_)
  refine StL.as TBok 1 (.bool false) rfl (bool_false (by omega)) ?_
  (repeat with_reducible first|refine .nil ?_|refine .then_normal ?_|refine .block_normal ?_|refine .seq ?_|refine .block ?_|refine .skip ?_|refine .region ?_|refine .ret ?_|refine .then_ret ?_|refine .block_ret ?_|refine .exit ?_|refine .then_exit ?_|refine .block_exit ?_|refine .block_other rfl ?_)
  refine St.condF rfl rfl ?_
  (repeat with_reducible first|refine .nil ?_|refine .then_normal ?_|refine .block_normal ?_|refine .seq ?_|refine .block ?_|refine .skip ?_|refine .region ?_|refine .ret ?_|refine .then_ret ?_|refine .block_ret ?_|refine .exit ?_|refine .then_exit ?_|refine .block_exit ?_|refine .block_other rfl ?_)
  refine .run TBok 99 rfl ?_
  refine StL.nil (Out.then_normal (St.cutX (fun _ : Unit => [(1, .bool neg), (2, .bool wrong), (7, .int .i64 i), (8, .slice (some ⟨w.heap.size, 0, none⟩) i i)]) (fun _ w' => Ext w w' ∧ Blk 5 w' w.heap.size ((digT i wrong).map u8)) ?_ ?_))
  · cases wrong with
    | true =>
      refine St.condT rfl rfl ?_
      (repeat with_reducible first|refine .nil ?_|refine .then_normal ?_|refine .block_normal ?_|refine .seq ?_|refine .block ?_|refine .skip ?_|refine .region ?_|refine .ret ?_|refine .then_ret ?_|refine .block_ret ?_|refine .exit ?_|refine .then_exit ?_|refine .block_exit ?_|refine .block_other rfl ?_)
      refine StL.as TBok 3 (.int .i64 ((i - 1 : Nat) : Int)) rfl ?_ ?_
      · congr 1
        show IntKind.i64.wrap ((i : Int) - 1) = _
        rw [i64_id (by omega) (by omega)]
        omega
      refine StL.put TBok (i - 1) B rfl (by omega) (by simp) rfl rfl rfl rfl rfl rfl rfl rfl (fun _ => rfl) (fun _ => rfl) rfl rfl ?_
      intro p w4 B4 hu4
      rw [Nat.zero_add, show (Value.int .u8 120) = u8 120 from rfl, ← List.map_set] at B4
      exact StL.nil (Out.met () ⟨rfl, rfl, rfl, rfl, trivial⟩ ⟨hx2.then_upd hu4 (Nat.le_refl _), B4⟩)
    | false => exact St.condF rfl rfl (St.skip (Out.met () ⟨rfl, rfl, rfl, rfl, trivial⟩ ⟨hx2, B⟩))
  clear B hx2 hx0
  rintro _ w4 ⟨hx0, B⟩
  have hlen := digT_len i wrong
  have hb8 := digT_b8 i wrong
  have hhd := digT_hd (n := i) wrong (by omega)
  have hrow : Row 5 w4 (.slice (some ⟨w.heap.size, 0, none⟩) i i) ((digT i wrong).map u8) := B.row (by simp [hlen]) (Nat.le_refl _) (by simp [hlen]) (by rw [List.drop_zero]; exact List.take_of_length_le (by simp [hlen]))
  have hfp : wrong = false → i ≤ 2000 → fmtI (pval (sgnT neg (digT i wrong))) = sgnT neg (digT i wrong) ∧ decide (pval (sgnT neg (digT i wrong)) < 0) = neg := by
    intro e hl
    subst e
    exact fmtI_pval hhd (Nat.le_refl _) (digT_dig i) (by rw [hlen]; exact hl)
  generalize digT i wrong = t at *
  have hsl := sgnT_len neg t
  have hsb := sgnT_b8 (neg := neg) hb8
  (iterate 6 ((repeat with_reducible first|refine .nil ?_|refine .then_normal ?_|refine .block_normal ?_|refine .seq ?_|refine .block ?_|refine .skip ?_|refine .region ?_|refine .ret ?_|refine .then_ret ?_|refine .block_ret ?_|refine .exit ?_|refine .then_exit ?_|refine .block_exit ?_|refine .block_other rfl ?_); try refine .run TBok 99 rfl ?_))
  refine StL.step rfl rfl rfl (RunsTo.bytesStr TBok rfl rfl rfl rfl rfl hrow).op ?_
  rintro _ _ ⟨rfl, rfl⟩
  refine .run TBok 99 rfl ?_
  (repeat with_reducible first|refine .nil ?_|refine .then_normal ?_|refine .block_normal ?_|refine .seq ?_|refine .block ?_|refine .skip ?_|refine .region ?_|refine .ret ?_|refine .then_ret ?_|refine .block_ret ?_|refine .exit ?_|refine .then_exit ?_|refine .block_exit ?_|refine .block_other rfl ?_)
  refine .run TBok 99 rfl ?_
  refine StL.nil (Out.then_normal (St.cutX (fun _ : Unit => [(1, .bool neg), (2, .bool wrong), (7, .int .i64 i), (10, strV (sgnT neg t))]) (fun _ w' => w' = w4) ?_ ?_))
  · cases neg with
    | true =>
      refine St.condT rfl rfl ?_
      (iterate 6 ((repeat with_reducible first|refine .nil ?_|refine .then_normal ?_|refine .block_normal ?_|refine .seq ?_|refine .block ?_|refine .skip ?_|refine .region ?_|refine .ret ?_|refine .then_ret ?_|refine .block_ret ?_|refine .exit ?_|refine .then_exit ?_|refine .block_exit ?_|refine .block_other rfl ?_); try refine .run TBok 99 rfl ?_))
      refine StL.step rfl rfl rfl (RunsTo.strAdd (xs := [45]) rfl rfl (by simp; omega)).op ?_
      rintro _ _ ⟨rfl, rfl⟩
      refine .run TBok 99 rfl ?_
      exact StL.nil (Out.met () ⟨rfl, rfl, rfl, rfl, trivial⟩ rfl)
    | false => exact St.condF rfl rfl (St.skip (Out.met () ⟨rfl, rfl, rfl, rfl, trivial⟩ rfl))
  intro _ w5 hw5
  subst hw5
  generalize sgnT neg t = s at *
  (iterate 6 ((repeat with_reducible first|refine .nil ?_|refine .then_normal ?_|refine .block_normal ?_|refine .seq ?_|refine .block ?_|refine .skip ?_|refine .region ?_|refine .ret ?_|refine .then_ret ?_|refine .block_ret ?_|refine .exit ?_|refine .then_exit ?_|refine .block_exit ?_|refine .block_other rfl ?_); try refine .run TBok 99 rfl ?_))
  refine StL.step rfl rfl rfl (OpR.call fn_integer_Parse rfl (parse_spec w5 s hsb (by omega))) ?_
  rintro _ w6 ⟨hx6, v, rfl, hv⟩
  rw [herr]
  have hsv := sz_pval s
  replace hx0 := hx0.trans hx6
  clear hx6
  refine .run TBok 99 rfl ?_
  refine StL.setNew rfl (fun _ => rfl) hv hx0 ?_
  intro b11 w7 hl11 hx7 B11 hv7 hx07
  have hfin : ∀ (e : pval s = 0), ∃ p cap, v = IntV false (.slice p 0 cap) := by
    intro e
    rw [e] at hv
    obtain ⟨p, cap, rfl, _⟩ := hv
    exact ⟨p, cap, rfl⟩
  cases wrong with
  | true =>
    simp only [if_true] at herr ⊢
    obtain ⟨p, cap, rfl⟩ := hfin (pval_zero (by rw [herr]; decide))
    (iterate 6 ((repeat with_reducible first|refine .nil ?_|refine .then_normal ?_|refine .block_normal ?_|refine .seq ?_|refine .block ?_|refine .skip ?_|refine .region ?_|refine .ret ?_|refine .then_ret ?_|refine .block_ret ?_|refine .exit ?_|refine .then_exit ?_|refine .block_exit ?_|refine .block_other rfl ?_); try refine .run TBok 99 rfl ?_))
    refine St.condT rfl rfl ?_
    (iterate 6 ((repeat with_reducible first|refine .nil ?_|refine .then_normal ?_|refine .block_normal ?_|refine .seq ?_|refine .block ?_|refine .skip ?_|refine .region ?_|refine .ret ?_|refine .then_ret ?_|refine .block_ret ?_|refine .exit ?_|refine .then_exit ?_|refine .block_exit ?_|refine .block_other rfl ?_); try refine .run TBok 99 rfl ?_))
    refine StL.step rfl rfl rfl (RunsTo.load TBok rfl rfl rfl (B11.cell rfl)).op ?_
    rintro _ _ ⟨rfl, rfl⟩
    refine .run TBok 99 rfl ?_
    refine StL.awake rfl rfl ?_
    intro wz hxz
    (iterate 6 ((repeat with_reducible first|refine .nil ?_|refine .then_normal ?_|refine .block_normal ?_|refine .seq ?_|refine .block ?_|refine .skip ?_|refine .region ?_|refine .ret ?_|refine .then_ret ?_|refine .block_ret ?_|refine .exit ?_|refine .then_exit ?_|refine .block_exit ?_|refine .block_other rfl ?_); try refine .run TBok 99 rfl ?_))
    exact Out.ret1 rfl rfl ⟨hx07.trans hxz, rfl⟩
  | false =>
    simp only [Bool.false_eq_true, if_false] at herr ⊢
    (iterate 6 ((repeat with_reducible first|refine .nil ?_|refine .then_normal ?_|refine .block_normal ?_|refine .seq ?_|refine .block ?_|refine .skip ?_|refine .region ?_|refine .ret ?_|refine .then_ret ?_|refine .block_ret ?_|refine .exit ?_|refine .then_exit ?_|refine .block_exit ?_|refine .block_other rfl ?_); try refine .run TBok 99 rfl ?_))
    refine St.condF rfl rfl ?_
    (repeat with_reducible first|refine .nil ?_|refine .then_normal ?_|refine .block_normal ?_|refine .seq ?_|refine .block ?_|refine .skip ?_|refine .region ?_|refine .ret ?_|refine .then_ret ?_|refine .block_ret ?_|refine .exit ?_|refine .then_exit ?_|refine .block_exit ?_|refine .block_other rfl ?_)
    by_cases c1 : 2000 < i
    · rw [if_pos c1] at herr ⊢
      obtain ⟨p, cap, rfl⟩ := hfin (pval_zero (by rw [herr]; decide))
      refine StL.as TBok 2 (.bool true) rfl (bool_true (by omega)) ?_
      (iterate 6 ((repeat with_reducible first|refine .nil ?_|refine .then_normal ?_|refine .block_normal ?_|refine .seq ?_|refine .block ?_|refine .skip ?_|refine .region ?_|refine .ret ?_|refine .then_ret ?_|refine .block_ret ?_|refine .exit ?_|refine .then_exit ?_|refine .block_exit ?_|refine .block_other rfl ?_); try refine .run TBok 99 rfl ?_))
      refine St.condT rfl rfl ?_
      (iterate 6 ((repeat with_reducible first|refine .nil ?_|refine .then_normal ?_|refine .block_normal ?_|refine .seq ?_|refine .block ?_|refine .skip ?_|refine .region ?_|refine .ret ?_|refine .then_ret ?_|refine .block_ret ?_|refine .exit ?_|refine .then_exit ?_|refine .block_exit ?_|refine .block_other rfl ?_); try refine .run TBok 99 rfl ?_))
      refine StL.step rfl rfl rfl (RunsTo.load TBok rfl rfl rfl (B11.cell rfl)).op ?_
      rintro _ _ ⟨rfl, rfl⟩
      refine .run TBok 99 rfl ?_
      refine StL.awake rfl rfl ?_
      intro wz hxz
      (iterate 6 ((repeat with_reducible first|refine .nil ?_|refine .then_normal ?_|refine .block_normal ?_|refine .seq ?_|refine .block ?_|refine .skip ?_|refine .region ?_|refine .ret ?_|refine .then_ret ?_|refine .block_ret ?_|refine .exit ?_|refine .then_exit ?_|refine .block_exit ?_|refine .block_other rfl ?_); try refine .run TBok 99 rfl ?_))
      exact Out.ret1 rfl rfl ⟨hx07.trans hxz, rfl⟩
    rw [if_neg c1] at herr ⊢
    obtain ⟨f1, f2⟩ := hfp rfl (by omega)
    refine StL.as TBok 2 (.bool false) rfl (bool_false (by omega)) ?_
    (iterate 6 ((repeat with_reducible first|refine .nil ?_|refine .then_normal ?_|refine .block_normal ?_|refine .seq ?_|refine .block ?_|refine .skip ?_|refine .region ?_|refine .ret ?_|refine .then_ret ?_|refine .block_ret ?_|refine .exit ?_|refine .then_exit ?_|refine .block_exit ?_|refine .block_other rfl ?_); try refine .run TBok 99 rfl ?_))
    refine St.condF rfl rfl ?_
    have hv7' := hv7
    obtain ⟨p, cap, rfl, _⟩ := hv7'
    (iterate 6 ((repeat with_reducible first|refine .nil ?_|refine .then_normal ?_|refine .block_normal ?_|refine .seq ?_|refine .block ?_|refine .skip ?_|refine .region ?_|refine .ret ?_|refine .then_ret ?_|refine .block_ret ?_|refine .exit ?_|refine .then_exit ?_|refine .block_exit ?_|refine .block_other rfl ?_); try refine .run TBok 99 rfl ?_))
    refine StL.step rfl rfl rfl (RunsTo.load TBok rfl rfl rfl (B11.cell rfl)).op ?_
    rintro _ _ ⟨rfl, rfl⟩
    rw [f2]
    refine .run TBok 99 rfl ?_
    refine StL.step rfl rfl rfl (RunsTo.boolEq TBok rfl rfl rfl).op ?_
    rintro _ _ ⟨rfl, rfl⟩
    rw [show (neg == neg) = true from by simp]
    refine .run TBok 99 rfl ?_
    refine StL.step rfl rfl rfl (RunsTo.loadI2 rfl B11 hv7.r2).op ?_
    rintro _ _ ⟨rfl, rfl⟩
    refine StL.step rfl rfl rfl (OpR.call fn_integer_Format rfl (format_dn (hv7.dn (by omega)))) ?_
    rintro _ w8 ⟨hx8, rfl⟩
    replace hx07 := hx07.trans hx8
    clear hx8
    refine .run TBok 99 rfl ?_
    refine StL.step rfl rfl rfl (RunsTo.strEql (fmtI_b8 _) hsb rfl rfl).op ?_
    rintro _ _ ⟨rfl, rfl⟩
    rw [decide_eq_true f1]
    refine .run TBok 99 rfl ?_
    refine StL.awake rfl rfl ?_
    intro wz hxz
    (iterate 6 ((repeat with_reducible first|refine .nil ?_|refine .then_normal ?_|refine .block_normal ?_|refine .seq ?_|refine .block ?_|refine .skip ?_|refine .region ?_|refine .ret ?_|refine .then_ret ?_|refine .block_ret ?_|refine .exit ?_|refine .then_exit ?_|refine .block_exit ?_|refine .block_other rfl ?_); try refine .run TBok 99 rfl ?_))
    exact Out.ret1 rfl rfl ⟨hx07.trans hxz, rfl⟩

end Go.Qf
