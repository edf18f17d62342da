/- Lemmas on the model and on the program's functions, part Qe. -/
import Derived.Test.YteiphfahnikikaaQa
import Derived.Test.YteiphfahnikikaaQb
import Derived.Test.YteiphfahnikikaaQc
import Derived.Test.YteiphfahnikikaaQd
/- quadformref01: trim, Make, word, Small, cmp, Same, Normalize, Neg, Abs. -/
namespace Go.Qf
open Go Go.RowKit Go.Proofs
set_option maxRecDepth 20000

theorem u32_one (xs : List Nat) : ∀ c ∈ xs.map u32, c.oneCell' = true := by
  intro c hc; simp only [List.mem_map] at hc; obtain ⟨x, _, rfl⟩ := hc; rfl

theorem rtrim_spec {base : Nat} (w : World) (v : Value) (xs : List Nat) (h : Sl w v xs) (hlen : xs.length ≤ 1000000000) (hbase : base ≤ w.heap.size) :
    Calls Try.prog 111 #[v] w (Ret fun r w' => Ext w w' ∧ SlO base w' r (limbs (val xs))) := by
  obtain ⟨p, cap, rfl, hcap⟩ := h.form
  refine calls_of_St (args := [_]) Try.func111 rfl Try.ntmps111 rfl ?_
  (iterate 6 ((repeat with_reducible first|refine .nil ?_|refine .then_normal ?_|refine .block_normal ?_|refine .seq ?_|refine .block ?_|refine .skip ?_|refine .region ?_|refine .ret ?_|refine .then_ret ?_|refine .block_ret ?_|refine .exit ?_|refine .then_exit ?_|refine .block_exit ?_|refine .block_other rfl ?_); try refine .run TBok 99 rfl ?_))
  refine St.loop (fun k : Nat => [(0, .slice p xs.length cap), (3, .int .i64 k)]) (fun k w' => w' = w ∧ k ≤ xs.length ∧ ∀ j, k ≤ j → j < xs.length → xs[j]? = some 0) (fun k => k) xs.length ⟨rfl, rfl, trivial⟩ ⟨rfl, Nat.le_refl _, fun j h1 h2 => by omega⟩ ?_
  rintro k w' ⟨rfl, hk, hz⟩
  by_cases h0 : k = 0
  · subst h0
    (repeat with_reducible first|refine .nil ?_|refine .then_normal ?_|refine .block_normal ?_|refine .seq ?_|refine .block ?_|refine .skip ?_|refine .region ?_|refine .ret ?_|refine .then_ret ?_|refine .block_ret ?_|refine .exit ?_|refine .then_exit ?_|refine .block_exit ?_|refine .block_other rfl ?_)
    refine StL.as TBok 3 (.bool false) rfl (bool_false (by omega)) ?_
    (iterate 6 ((repeat with_reducible first|refine .nil ?_|refine .then_normal ?_|refine .block_normal ?_|refine .seq ?_|refine .block ?_|refine .skip ?_|refine .region ?_|refine .ret ?_|refine .then_ret ?_|refine .block_ret ?_|refine .exit ?_|refine .then_exit ?_|refine .block_exit ?_|refine .block_other rfl ?_); try refine .run TBok 99 rfl ?_))
    refine St.condF rfl rfl ?_
    (repeat with_reducible first|refine .nil ?_|refine .then_normal ?_|refine .block_normal ?_|refine .seq ?_|refine .block ?_|refine .skip ?_|refine .region ?_|refine .ret ?_|refine .then_ret ?_|refine .block_ret ?_|refine .exit ?_|refine .then_exit ?_|refine .block_exit ?_|refine .block_other rfl ?_)
    refine .run TBok 99 rfl ?_
    refine StL.step rfl rfl rfl (RunsTo.sliceHi TBok rfl rfl rfl rfl (by omega) (by omega)).op ?_
    rintro _ _ ⟨rfl, rfl⟩
    have e : limbs (val xs) = xs.take 0 := limbs_take xs h.2 0 hz hk (.inl rfl)
    have hc := h.cut 0 hk
    refine StL.step rfl rfl rfl (OpR.append TBok rfl rfl rfl rfl rfl rfl (Own.nil base _ _) hc.1 (by simp) (by simp) (by simp) hbase) ?_
    rintro v' w2 ⟨ho, hg, _⟩
    (iterate 6 ((repeat with_reducible first|refine .nil ?_|refine .then_normal ?_|refine .block_normal ?_|refine .seq ?_|refine .block ?_|refine .skip ?_|refine .region ?_|refine .ret ?_|refine .then_ret ?_|refine .block_ret ?_|refine .exit ?_|refine .then_exit ?_|refine .block_exit ?_|refine .block_other rfl ?_); try refine .run TBok 99 rfl ?_))
    refine Out.ret1 rfl rfl ⟨(Ext.refl _).grown (Own.nil w'.heap.size 41 _) (Nat.le_refl _) hg, ?_⟩
    rw [e]
    exact ⟨ho, hc.2⟩
  · obtain ⟨m, rfl⟩ : ∃ m, k = m + 1 := ⟨k - 1, by omega⟩
    have hx : xs[m]? = some xs[m] := by simp
    generalize xs[m] = x at hx
    have e1 : IntKind.i64.wrap ((((m + 1 : Nat) : Nat) : Int) - 1) = m := by rw [i64_id (by omega) (by omega)]; omega
    (repeat with_reducible first|refine .nil ?_|refine .then_normal ?_|refine .block_normal ?_|refine .seq ?_|refine .block ?_|refine .skip ?_|refine .region ?_|refine .ret ?_|refine .then_ret ?_|refine .block_ret ?_|refine .exit ?_|refine .then_exit ?_|refine .block_exit ?_|refine .block_other rfl ?_)
    refine StL.as TBok 3 (.bool true) rfl (bool_true (by omega)) ?_
    refine .run TBok 99 rfl ?_
    refine StL.elem TBok m (u32 x) h.1 (h.get hx) e1 rfl rfl rfl rfl rfl rfl rfl rfl rfl rfl (fun _ => rfl) ?_
    intro p1
    refine .run TBok 99 rfl ?_
    (refine StL.nil ?_; repeat with_reducible first | refine Out.then_normal ?_ | refine Out.block_normal ?_)
    by_cases hx0 : x = 0
    · subst hx0
      refine St.condT rfl rfl ?_
      (iterate 6 ((repeat with_reducible first|refine .nil ?_|refine .then_normal ?_|refine .block_normal ?_|refine .seq ?_|refine .block ?_|refine .skip ?_|refine .region ?_|refine .ret ?_|refine .then_ret ?_|refine .block_ret ?_|refine .exit ?_|refine .then_exit ?_|refine .block_exit ?_|refine .block_other rfl ?_); try refine .run TBok 99 rfl ?_))
      refine Out.again m ⟨rfl, ?_, trivial⟩ ⟨rfl, by omega, fun j h1 h2 => ?_⟩ (Nat.lt_succ_self m)
      · show some (Value.int .i64 (IntKind.i64.wrap ((((m + 1 : Nat) : Nat) : Int) - 1))) = _
        rw [e1]
      · by_cases hj : j = m
        · subst hj; exact hx
        · exact hz j (by omega) h2
    · refine St.condF rfl (by simp; omega) ?_
      have e : limbs (val xs) = xs.take (m + 1) := limbs_take xs h.2 (m + 1) hz hk (.inr ⟨x, by simpa using hx, hx0⟩)
      have hc := h.cut (m + 1) hk
      (repeat with_reducible first|refine .nil ?_|refine .then_normal ?_|refine .block_normal ?_|refine .seq ?_|refine .block ?_|refine .skip ?_|refine .region ?_|refine .ret ?_|refine .then_ret ?_|refine .block_ret ?_|refine .exit ?_|refine .then_exit ?_|refine .block_exit ?_|refine .block_other rfl ?_)
      refine .run TBok 99 rfl ?_
      refine StL.step rfl rfl rfl (RunsTo.sliceHi TBok rfl rfl rfl rfl (by omega) (by omega)).op ?_
      rintro _ _ ⟨rfl, rfl⟩
      refine StL.step rfl rfl rfl (OpR.append TBok rfl rfl rfl rfl rfl rfl (Own.nil base _ _) hc.1 (u32_one _) (by simp; omega) (by simp; omega) hbase) ?_
      rintro v' w2 ⟨ho, hg, _⟩
      (iterate 6 ((repeat with_reducible first|refine .nil ?_|refine .then_normal ?_|refine .block_normal ?_|refine .seq ?_|refine .block ?_|refine .skip ?_|refine .region ?_|refine .ret ?_|refine .then_ret ?_|refine .block_ret ?_|refine .exit ?_|refine .then_exit ?_|refine .block_exit ?_|refine .block_other rfl ?_); try refine .run TBok 99 rfl ?_))
      refine Out.ret1 rfl rfl ⟨(Ext.refl _).grown (Own.nil w'.heap.size 41 _) (Nat.le_refl _) hg, ?_⟩
      rw [e]
      exact ⟨ho, hc.2⟩

theorem make_spec {base : Nat} (w : World) (neg : Bool) (v : Value) (xs : List Nat) (h : Sl w v xs) (hlen : xs.length ≤ 1000000000) (hbase : base ≤ w.heap.size) :
    Calls Try.prog 112 #[.bool neg, v] w (Ret fun r w' => Ext w w' ∧ CanO base w' r (sg neg (val xs))) := by
  refine calls_of_St (args := [_, _]) Try.func112 rfl Try.ntmps112 rfl ?_
  (repeat with_reducible first|refine .nil ?_|refine .then_normal ?_|refine .block_normal ?_|refine .seq ?_|refine .block ?_|refine .skip ?_|refine .region ?_|refine .ret ?_|refine .then_ret ?_|refine .block_ret ?_|refine .exit ?_|refine .then_exit ?_|refine .block_exit ?_|refine .block_other rfl ?_)
  refine StL.step rfl rfl rfl (OpR.alloc TBok rfl) ?_
  rintro _ w1 ⟨rfl, hb1, hx1, hz1⟩
  (iterate 6 ((repeat with_reducible first|refine .nil ?_|refine .then_normal ?_|refine .block_normal ?_|refine .seq ?_|refine .block ?_|refine .skip ?_|refine .region ?_|refine .ret ?_|refine .then_ret ?_|refine .block_ret ?_|refine .exit ?_|refine .then_exit ?_|refine .block_exit ?_|refine .block_other rfl ?_); try refine .run TBok 99 rfl ?_))
  refine StL.step rfl rfl rfl (OpR.call fn_r01_trim rfl (rtrim_spec (base := base) w1 v xs (by first | assumption | exact Ext.refl _ | (first | apply Blk.ext | apply CanO.ext | apply Den.ext | apply Sl.ext | apply SlO.ext | apply Dn.ext | apply It.ext | apply CanR.ext | apply DnR.ext | skip) <;> (repeat first | assumption | refine Ext.trans ?_ (by assumption))) hlen (Nat.le_trans hbase hx1.size))) ?_
  rintro sl w2 ⟨hx2, hsl⟩
  obtain ⟨p, cap, rfl, _⟩ := hsl.sl.form
  have hcan : CanO base w2 (IntV (decide (sg neg (val xs) < 0)) (.slice p (limbs (val xs)).length cap)) (sg neg (val xs)) := by
    refine ⟨p, cap, ?_, ?_⟩
    · rw [sg_abs]
    · rw [sg_abs]; exact hsl
  have fin : ∀ {E : List (Nat × Value)} {ops : Array Oper} {af : Array Edge} {pos : String} {Q : Exit → Act → World → Prop}, look E 4 = some (.pointer (some ⟨w.heap.size, 0, none⟩)) → look E 15 = some (IntV (decide (sg neg (val xs) < 0)) (.slice p (limbs (val xs)).length cap)) →
      (∀ w', Ext w w' → CanO base w' (IntV (decide (sg neg (val xs) < 0)) (.slice p (limbs (val xs)).length cap)) (sg neg (val xs)) → (∀ (fn : Func) (Φ : Value → World → Prop), fn.results = #[.cell 4 25] → Φ (IntV (decide (sg neg (val xs) < 0)) (.slice p (limbs (val xs)).length cap)) w' → Out 16 E w' .ret (bodyPost Try.prog fn (Ret Φ))) → Out 16 E w' .normal Q) →
      StL Try.prog 16 E w2 ops [⟨none, .store 25 (.tmp 4) (.tmp 15), 0, pos, af, none⟩] Q :=
    fun h4 h15 hQ => StL.finCan h4 h15 (hb1.ext hx2) rfl hcan (hx1.trans hx2) (Nat.le_refl _) hQ
  cases neg with
  | false =>
    (iterate 6 ((repeat with_reducible first|refine .nil ?_|refine .then_normal ?_|refine .block_normal ?_|refine .seq ?_|refine .block ?_|refine .skip ?_|refine .region ?_|refine .ret ?_|refine .then_ret ?_|refine .block_ret ?_|refine .exit ?_|refine .then_exit ?_|refine .block_exit ?_|refine .block_other rfl ?_); try refine .run TBok 99 rfl ?_))
    refine StL.step rfl rfl rfl (RunsTo.build TBok rfl rfl rfl rfl).op ?_
    rintro _ _ ⟨rfl, rfl⟩
    have e : decide (sg false (val xs) < 0) = false := decide_eq_false (by simp [sg])
    rw [e] at fin hcan
    refine fin rfl rfl ?_
    intro w' hxf hcf fin
    (repeat with_reducible first|refine .nil ?_|refine .then_normal ?_|refine .block_normal ?_|refine .seq ?_|refine .block ?_|refine .skip ?_|refine .region ?_|refine .ret ?_|refine .then_ret ?_|refine .block_ret ?_|refine .exit ?_|refine .then_exit ?_|refine .block_exit ?_|refine .block_other rfl ?_)
    exact fin _ _ rfl ⟨hxf, hcf⟩
  | true =>
    have e : decide (sg true (val xs) < 0) = decide (((limbs (val xs)).length : Int) > 0) := by
      by_cases h0 : val xs = 0
      · rw [h0]; rfl
      · have hpos : 0 < (limbs (val xs)).length := by
          rcases Nat.eq_zero_or_pos (limbs (val xs)).length with e | e
          · exact absurd (limbs_eq_nil.1 (List.eq_nil_of_length_eq_zero e)) h0
          · exact e
        rw [decide_eq_true (show sg true (val xs) < 0 by simp [sg]; omega), decide_eq_true (by omega)]
    rw [e] at fin hcan
    (iterate 6 ((repeat with_reducible first|refine .nil ?_|refine .then_normal ?_|refine .block_normal ?_|refine .seq ?_|refine .block ?_|refine .skip ?_|refine .region ?_|refine .ret ?_|refine .then_ret ?_|refine .block_ret ?_|refine .exit ?_|refine .then_exit ?_|refine .block_exit ?_|refine .block_other rfl ?_); try refine .run TBok 99 rfl ?_))
    refine StL.step rfl rfl rfl (RunsTo.build TBok rfl rfl rfl rfl).op ?_
    rintro _ _ ⟨rfl, rfl⟩
    refine fin rfl rfl ?_
    intro w' hxf hcf fin
    (repeat with_reducible first|refine .nil ?_|refine .then_normal ?_|refine .block_normal ?_|refine .seq ?_|refine .block ?_|refine .skip ?_|refine .region ?_|refine .ret ?_|refine .then_ret ?_|refine .block_ret ?_|refine .exit ?_|refine .then_exit ?_|refine .block_exit ?_|refine .block_other rfl ?_)
    exact fin _ _ rfl ⟨hxf, hcf⟩

theorem rword_spec {base : Nat} (w : World) (neg : Bool) (m : Nat) (hm : m < 18446744073709551616) (hbase : base ≤ w.heap.size) :
    Calls Try.prog 97 #[.bool neg, .int .u64 m] w (Ret fun r w' => Ext w w' ∧ CanO base w' r (sg neg m)) := by
  refine calls_of_St (args := [_, _]) Try.func97 rfl Try.ntmps97 rfl ?_
  (repeat with_reducible first|refine .nil ?_|refine .then_normal ?_|refine .block_normal ?_|refine .seq ?_|refine .block ?_|refine .skip ?_|refine .region ?_|refine .ret ?_|refine .then_ret ?_|refine .block_ret ?_|refine .exit ?_|refine .then_exit ?_|refine .block_exit ?_|refine .block_other rfl ?_)
  refine StL.step rfl rfl rfl (OpR.alloc TBok rfl) ?_
  rintro _ w1 ⟨rfl, hb1, hx1, hz1⟩
  (iterate 6 ((repeat with_reducible first|refine .nil ?_|refine .then_normal ?_|refine .block_normal ?_|refine .seq ?_|refine .block ?_|refine .skip ?_|refine .region ?_|refine .ret ?_|refine .then_ret ?_|refine .block_ret ?_|refine .exit ?_|refine .then_exit ?_|refine .block_exit ?_|refine .block_other rfl ?_); try refine .run TBok 99 rfl ?_))
  have e1 : IntKind.u32.wrap (m : Int) = ((m % 4294967296 : Nat) : Int) := by rw [wrap_u32]; omega
  have e2 : IntKind.u32.wrap ((m : Int) / 2 ^ 32) = ((m / 4294967296 % 4294967296 : Nat) : Int) := by rw [wrap_u32, show ((2 : Int) ^ 32) = 4294967296 from rfl]; omega
  refine StL.step rfl rfl rfl (OpR.pair TBok rfl rfl rfl rfl rfl) ?_
  rintro _ w2 ⟨rfl, hb2, hx2, hz2⟩
  rw [e1, e2] at hb2
  have hsl : Sl w2 (.slice (some ⟨w1.heap.size, 0, none⟩) 2 2) [m % 4294967296, m / 4294967296 % 4294967296] :=
    ⟨hb2.row rfl (by simp) (by simp) rfl, by intro x hx; simp at hx; omega⟩
  refine StL.step rfl rfl rfl (OpR.call fn_r01_Make rfl (make_spec (base := base) w2 neg _ _ hsl (by simp) (Nat.le_trans hbase (hx1.trans hx2).size))) ?_
  rintro r w3 ⟨hx3, hr⟩
  rw [val_two m hm] at hr
  refine StL.finCan rfl rfl ((hb1.ext hx2).ext hx3) rfl hr ((hx1.trans hx2).trans hx3) (Nat.le_refl _) ?_
  intro w' hxf hcf fin
  (repeat with_reducible first|refine .nil ?_|refine .then_normal ?_|refine .block_normal ?_|refine .seq ?_|refine .block ?_|refine .skip ?_|refine .region ?_|refine .ret ?_|refine .then_ret ?_|refine .block_ret ?_|refine .exit ?_|refine .then_exit ?_|refine .block_exit ?_|refine .block_other rfl ?_)
  exact fin _ _ rfl ⟨hxf, hcf⟩

theorem rsmall_spec {base : Nat} (w : World) (a : Int) (h0 : -9223372036854775808 ≤ a) (h1 : a ≤ 9223372036854775807) (hbase : base ≤ w.heap.size) :
    Calls Try.prog 45 #[.int .i64 a] w (Ret fun r w' => Ext w w' ∧ CanO base w' r a) := by
  refine calls_of_St (args := [_]) Try.func45 rfl Try.ntmps45 rfl ?_
  (repeat with_reducible first|refine .nil ?_|refine .then_normal ?_|refine .block_normal ?_|refine .seq ?_|refine .block ?_|refine .skip ?_|refine .region ?_|refine .ret ?_|refine .then_ret ?_|refine .block_ret ?_|refine .exit ?_|refine .then_exit ?_|refine .block_exit ?_|refine .block_other rfl ?_)
  refine StL.step rfl rfl rfl (OpR.alloc TBok rfl) ?_
  rintro _ w1 ⟨rfl, hb1, hx1, hz1⟩
  (iterate 6 ((repeat with_reducible first|refine .nil ?_|refine .then_normal ?_|refine .block_normal ?_|refine .seq ?_|refine .block ?_|refine .skip ?_|refine .region ?_|refine .ret ?_|refine .then_ret ?_|refine .block_ret ?_|refine .exit ?_|refine .then_exit ?_|refine .block_exit ?_|refine .block_other rfl ?_); try refine .run TBok 99 rfl ?_))
  by_cases hneg : a < 0
  · refine St.condT rfl (by simp; omega) ?_
    (iterate 6 ((repeat with_reducible first|refine .nil ?_|refine .then_normal ?_|refine .block_normal ?_|refine .seq ?_|refine .block ?_|refine .skip ?_|refine .region ?_|refine .ret ?_|refine .then_ret ?_|refine .block_ret ?_|refine .exit ?_|refine .then_exit ?_|refine .block_exit ?_|refine .block_other rfl ?_); try refine .run TBok 99 rfl ?_))
    obtain ⟨m, hm⟩ : ∃ m : Nat, a = -(m : Int) := ⟨a.natAbs, by omega⟩
    subst hm
    refine StL.as TBok 1 (.int .u64 (m : Int)) rfl (by congr 1; simp only [wrap_u64]; omega) ?_
    refine StL.step rfl rfl rfl (OpR.call fn_r01_word rfl (rword_spec (base := base) w1 true m (by omega) (Nat.le_trans hbase hx1.size))) ?_
    rintro v w3 ⟨hx3, hv⟩
    refine StL.finCan rfl rfl (hb1.ext hx3) rfl hv (hx1.trans hx3) (Nat.le_refl _) ?_
    intro w' hxf hcf fin
    (repeat with_reducible first|refine .nil ?_|refine .then_normal ?_|refine .block_normal ?_|refine .seq ?_|refine .block ?_|refine .skip ?_|refine .region ?_|refine .ret ?_|refine .then_ret ?_|refine .block_ret ?_|refine .exit ?_|refine .then_exit ?_|refine .block_exit ?_|refine .block_other rfl ?_)
    exact fin _ _ rfl ⟨hxf, hcf⟩
  · refine St.condF rfl (by simp; omega) ?_
    (iterate 6 ((repeat with_reducible first|refine .nil ?_|refine .then_normal ?_|refine .block_normal ?_|refine .seq ?_|refine .block ?_|refine .skip ?_|refine .region ?_|refine .ret ?_|refine .then_ret ?_|refine .block_ret ?_|refine .exit ?_|refine .then_exit ?_|refine .block_exit ?_|refine .block_other rfl ?_); try refine .run TBok 99 rfl ?_))
    obtain ⟨m, rfl⟩ : ∃ m : Nat, a = (m : Int) := ⟨a.natAbs, by omega⟩
    refine StL.as TBok 1 (.int .u64 (m : Int)) rfl (by rw [u64_id (by omega) (by omega)]) ?_
    refine StL.step rfl rfl rfl (OpR.call fn_r01_word rfl (rword_spec (base := base) w1 false m (by omega) (Nat.le_trans hbase hx1.size))) ?_
    rintro v w3 ⟨hx3, hv⟩
    refine StL.finCan rfl rfl (hb1.ext hx3) rfl hv (hx1.trans hx3) (Nat.le_refl _) ?_
    intro w' hxf hcf fin
    (repeat with_reducible first|refine .nil ?_|refine .then_normal ?_|refine .block_normal ?_|refine .seq ?_|refine .block ?_|refine .skip ?_|refine .region ?_|refine .ret ?_|refine .then_ret ?_|refine .block_ret ?_|refine .exit ?_|refine .then_exit ?_|refine .block_exit ?_|refine .block_other rfl ?_)
    exact fin _ _ rfl ⟨hxf, hcf⟩

end Go.Qf

/- quadformref01: cmp, Same, Sign, Cmp, low, Int64, Normalize, Neg, Abs. -/
namespace Go.Qf
open Go Go.RowKit Go.Proofs
set_option maxRecDepth 20000

/-- How two lists of limbs compare. -/
def cmpL (xs ys : List Nat) : Int := if xs.length < ys.length then -1 else if ys.length < xs.length then 1 else cmpN (val xs) (val ys)

theorem cmpL_limbs (a b : Nat) : cmpL (limbs a) (limbs b) = cmpN a b := by
  unfold cmpL
  rw [val_limbs, val_limbs]
  split
  · rename_i h1
    have := limbs_lt_of_length h1
    simp [cmpN, this]
  · split
    · rename_i _ h2
      have := limbs_lt_of_length h2
      unfold cmpN; rw [if_neg (by omega), if_pos this]
    · rfl

theorem val_inj_len : ∀ {xs ys : List Nat}, Lim xs → Lim ys → xs.length = ys.length → val xs = val ys → xs = ys := by
  intro xs
  induction xs with
  | nil => intro ys _ _ hl _; exact (List.eq_nil_of_length_eq_zero hl.symm).symm
  | cons x r ih =>
    intro ys hx hy hl hv
    cases ys with
    | nil => simp at hl
    | cons y s =>
      obtain ⟨hx1, hx2⟩ := Lim.cons.1 hx
      obtain ⟨hy1, hy2⟩ := Lim.cons.1 hy
      simp only [val] at hv
      have e1 : x = y := by omega
      have e2 : val r = val s := by omega
      rw [e1, ih hx2 hy2 (by simpa using hl) e2]

theorem cmpL_eq {xs ys : List Nat} (hx : Lim xs) (hy : Lim ys) : cmpL xs ys = 0 ↔ xs = ys := by
  unfold cmpL
  constructor
  · intro h
    split at h
    · omega
    · split at h
      · omega
      · refine val_inj_len hx hy (by omega) ?_
        unfold cmpN at h
        split at h
        · omega
        · split at h
          · omega
          · omega
  · rintro rfl
    simp [cmpN]

theorem cmpL_bound (xs ys : List Nat) : -1 ≤ cmpL xs ys ∧ cmpL xs ys ≤ 1 := by
  unfold cmpL
  split
  · omega
  · split
    · omega
    · exact cmpN_bound _ _

theorem rcmp_spec (w : World) (u v : Value) (xs ys : List Nat) (h : Sl w u xs) (k : Sl w v ys) (hlen : xs.length ≤ 1000000000) (hl : ys.length ≤ 1000000000) :
    Calls Try.prog 81 #[u, v] w (Ret fun r w' => Ext w w' ∧ r = .int .i64 (cmpL xs ys)) := by
  obtain ⟨p, c, rfl, _⟩ := h.form
  obtain ⟨q, d, rfl, _⟩ := k.form
  obtain ⟨R, hR⟩ : ∃ R, R = cmpL xs ys := ⟨_, rfl⟩
  rw [← hR]
  unfold cmpL at hR
  refine calls_of_St (args := [_, _]) Try.func81 rfl Try.ntmps81 rfl ?_
  (iterate 6 ((repeat with_reducible first|refine .nil ?_|refine .then_normal ?_|refine .block_normal ?_|refine .seq ?_|refine .block ?_|refine .skip ?_|refine .region ?_|refine .ret ?_|refine .then_ret ?_|refine .block_ret ?_|refine .exit ?_|refine .then_exit ?_|refine .block_exit ?_|refine .block_other rfl ?_); try refine .run TBok 99 rfl ?_))
  by_cases hne : xs.length = ys.length
  · rw [if_neg (by omega), if_neg (by omega)] at hR
    refine St.condF rfl (by simp; omega) ?_
    (iterate 6 ((repeat with_reducible first|refine .nil ?_|refine .then_normal ?_|refine .block_normal ?_|refine .seq ?_|refine .block ?_|refine .skip ?_|refine .region ?_|refine .ret ?_|refine .then_ret ?_|refine .block_ret ?_|refine .exit ?_|refine .then_exit ?_|refine .block_exit ?_|refine .block_other rfl ?_); try refine .run TBok 99 rfl ?_))
    refine St.loop (fun j : Nat => [(0, .slice p xs.length c), (1, .slice q ys.length d), (5, .int .i64 ((j : Int) - 1))]) (fun j w' => Ext w w' ∧ j ≤ xs.length ∧ xs.drop j = ys.drop j) (fun j => j) xs.length ⟨rfl, rfl, ?_, trivial⟩ ⟨Ext.refl _, by omega, ?_⟩ ?_
    · show some (Value.int .i64 (IntKind.i64.wrap ((xs.length : Int) - 1))) = _
      rw [i64_id (by omega) (by omega)]
    · rw [List.drop_length, hne, List.drop_length]
    rintro j w' ⟨hx, hj, heq⟩
    have hA := h.ext hx
    have hB := k.ext hx
    by_cases h0 : j = 0
    · subst h0
      (repeat with_reducible first|refine .nil ?_|refine .then_normal ?_|refine .block_normal ?_|refine .seq ?_|refine .block ?_|refine .skip ?_|refine .region ?_|refine .ret ?_|refine .then_ret ?_|refine .block_ret ?_|refine .exit ?_|refine .then_exit ?_|refine .block_exit ?_|refine .block_other rfl ?_)
      refine StL.as TBok 2 (.bool false) rfl (bool_false (by omega)) ?_
      (repeat with_reducible first|refine .nil ?_|refine .then_normal ?_|refine .block_normal ?_|refine .seq ?_|refine .block ?_|refine .skip ?_|refine .region ?_|refine .ret ?_|refine .then_ret ?_|refine .block_ret ?_|refine .exit ?_|refine .then_exit ?_|refine .block_exit ?_|refine .block_other rfl ?_)
      refine St.condF rfl rfl ?_
      (iterate 6 ((repeat with_reducible first|refine .nil ?_|refine .then_normal ?_|refine .block_normal ?_|refine .seq ?_|refine .block ?_|refine .skip ?_|refine .region ?_|refine .ret ?_|refine .then_ret ?_|refine .block_ret ?_|refine .exit ?_|refine .then_exit ?_|refine .block_exit ?_|refine .block_other rfl ?_); try refine .run TBok 99 rfl ?_))
      have : xs = ys := by simpa using heq
      subst this
      exact Out.ret1 rfl rfl ⟨hx, by rw [hR]; simp [cmpN]⟩
    · obtain ⟨i, rfl⟩ : ∃ i, j = i + 1 := ⟨j - 1, by omega⟩
      have hxi : xs[i]? = some xs[i] := by simp
      generalize xs[i] = x at hxi
      have hyi : ys[i]? = some ys[i] := by simp
      generalize ys[i] = y at hyi
      have e0 : (((i + 1 : Nat) : Int) - 1) = (i : Int) := by omega
      rw [e0]
      (repeat with_reducible first|refine .nil ?_|refine .then_normal ?_|refine .block_normal ?_|refine .seq ?_|refine .block ?_|refine .skip ?_|refine .region ?_|refine .ret ?_|refine .then_ret ?_|refine .block_ret ?_|refine .exit ?_|refine .then_exit ?_|refine .block_exit ?_|refine .block_other rfl ?_)
      refine StL.as TBok 2 (.bool true) rfl (bool_true (by omega)) ?_
      (repeat with_reducible first|refine .nil ?_|refine .then_normal ?_|refine .block_normal ?_|refine .seq ?_|refine .block ?_|refine .skip ?_|refine .region ?_|refine .ret ?_|refine .then_ret ?_|refine .block_ret ?_|refine .exit ?_|refine .then_exit ?_|refine .block_exit ?_|refine .block_other rfl ?_)
      refine St.condT rfl rfl ?_
      (repeat with_reducible first|refine .nil ?_|refine .then_normal ?_|refine .block_normal ?_|refine .seq ?_|refine .block ?_|refine .skip ?_|refine .region ?_|refine .ret ?_|refine .then_ret ?_|refine .block_ret ?_|refine .exit ?_|refine .then_exit ?_|refine .block_exit ?_|refine .block_other rfl ?_)
      refine St.quiet TBfol (by kernel_rfl) ?_
      refine .run TBok 99 rfl ?_
      refine QL.elem TBok i (u32 x) hA.1 (hA.get hxi) rfl rfl rfl rfl rfl rfl rfl rfl rfl rfl rfl (fun _ => rfl) ?_
      intro p1
      refine .run TBok 99 rfl ?_
      refine QL.elem TBok i (u32 y) hB.1 (hB.get hyi) rfl rfl rfl rfl rfl rfl rfl rfl rfl rfl rfl (fun _ => rfl) ?_
      intro p2
      refine .run TBok 99 rfl ?_
      refine QL.nil fun m1 => ?_
      (repeat with_reducible first|refine .nil ?_|refine .then_normal ?_|refine .block_normal ?_|refine .seq ?_|refine .block ?_|refine .skip ?_|refine .region ?_|refine .ret ?_|refine .then_ret ?_|refine .block_ret ?_|refine .exit ?_|refine .then_exit ?_|refine .block_exit ?_|refine .block_other rfl ?_)
      by_cases hxy : x = y
      · subst hxy
        refine St.condF rfl (by simp) ?_
        (iterate 6 ((repeat with_reducible first|refine .nil ?_|refine .then_normal ?_|refine .block_normal ?_|refine .seq ?_|refine .block ?_|refine .skip ?_|refine .region ?_|refine .ret ?_|refine .then_ret ?_|refine .block_ret ?_|refine .exit ?_|refine .then_exit ?_|refine .block_exit ?_|refine .block_other rfl ?_); try refine .run TBok 99 rfl ?_))
        refine Out.again i ⟨rfl, rfl, ?_, trivial⟩ ⟨hx.drewN _, by omega, drop_succ_eq hxi hyi heq⟩ (by omega)
        show some (Value.int .i64 (IntKind.i64.wrap ((i : Int) - 1))) = _
        rw [i64_id (by omega) (by omega)]
      refine St.condT rfl (by simp; omega) ?_
      (repeat with_reducible first|refine .nil ?_|refine .then_normal ?_|refine .block_normal ?_|refine .seq ?_|refine .block ?_|refine .skip ?_|refine .region ?_|refine .ret ?_|refine .then_ret ?_|refine .block_ret ?_|refine .exit ?_|refine .then_exit ?_|refine .block_exit ?_|refine .block_other rfl ?_)
      refine St.quiet TBfol (by kernel_rfl) ?_
      refine .run TBok 99 rfl ?_
      refine QL.elem TBok i (u32 x) (hA.drewN m1).1 (hA.get hxi) rfl rfl rfl rfl rfl rfl rfl rfl rfl rfl rfl (fun _ => rfl) ?_
      intro p3
      refine .run TBok 99 rfl ?_
      refine QL.elem TBok i (u32 y) (hB.drewN m1).1 (hB.get hyi) rfl rfl rfl rfl rfl rfl rfl rfl rfl rfl rfl (fun _ => rfl) ?_
      intro p4
      refine .run TBok 99 rfl ?_
      refine QL.nil fun m2 => ?_
      (repeat with_reducible first|refine .nil ?_|refine .then_normal ?_|refine .block_normal ?_|refine .seq ?_|refine .block ?_|refine .skip ?_|refine .region ?_|refine .ret ?_|refine .then_ret ?_|refine .block_ret ?_|refine .exit ?_|refine .then_exit ?_|refine .block_exit ?_|refine .block_other rfl ?_)
      by_cases hlt : x < y
      · refine St.condT rfl (by simp; omega) ?_
        (iterate 6 ((repeat with_reducible first|refine .nil ?_|refine .then_normal ?_|refine .block_normal ?_|refine .seq ?_|refine .block ?_|refine .skip ?_|refine .region ?_|refine .ret ?_|refine .then_ret ?_|refine .block_ret ?_|refine .exit ?_|refine .then_exit ?_|refine .block_exit ?_|refine .block_other rfl ?_); try refine .run TBok 99 rfl ?_))
        have := val_lt_of xs ys h.2 hne i x y hxi hyi hlt heq
        exact Out.ret1 rfl rfl ⟨(hx.drewN _).drewN _, by rw [hR]; simp [cmpN, this]⟩
      · refine St.condF rfl (by simp; omega) ?_
        (iterate 6 ((repeat with_reducible first|refine .nil ?_|refine .then_normal ?_|refine .block_normal ?_|refine .seq ?_|refine .block ?_|refine .skip ?_|refine .region ?_|refine .ret ?_|refine .then_ret ?_|refine .block_ret ?_|refine .exit ?_|refine .then_exit ?_|refine .block_exit ?_|refine .block_other rfl ?_); try refine .run TBok 99 rfl ?_))
        have := val_lt_of ys xs k.2 hne.symm i y x hyi hxi (by omega) heq.symm
        exact Out.ret1 rfl rfl ⟨(hx.drewN _).drewN _, by rw [hR]; unfold cmpN; rw [if_neg (by omega), if_pos this]⟩
  · refine St.condT rfl (by simp; omega) ?_
    (iterate 6 ((repeat with_reducible first|refine .nil ?_|refine .then_normal ?_|refine .block_normal ?_|refine .seq ?_|refine .block ?_|refine .skip ?_|refine .region ?_|refine .ret ?_|refine .then_ret ?_|refine .block_ret ?_|refine .exit ?_|refine .then_exit ?_|refine .block_exit ?_|refine .block_other rfl ?_); try refine .run TBok 99 rfl ?_))
    by_cases h1 : xs.length < ys.length
    · rw [if_pos h1] at hR
      refine St.condT rfl (by simp; omega) ?_
      (iterate 6 ((repeat with_reducible first|refine .nil ?_|refine .then_normal ?_|refine .block_normal ?_|refine .seq ?_|refine .block ?_|refine .skip ?_|refine .region ?_|refine .ret ?_|refine .then_ret ?_|refine .block_ret ?_|refine .exit ?_|refine .then_exit ?_|refine .block_exit ?_|refine .block_other rfl ?_); try refine .run TBok 99 rfl ?_))
      exact Out.ret1 rfl rfl ⟨Ext.refl _, by rw [hR]⟩
    · rw [if_neg h1, if_pos (by omega)] at hR
      refine St.condF rfl (by simp; omega) ?_
      (iterate 6 ((repeat with_reducible first|refine .nil ?_|refine .then_normal ?_|refine .block_normal ?_|refine .seq ?_|refine .block ?_|refine .skip ?_|refine .region ?_|refine .ret ?_|refine .then_ret ?_|refine .block_ret ?_|refine .exit ?_|refine .then_exit ?_|refine .block_exit ?_|refine .block_other rfl ?_); try refine .run TBok 99 rfl ?_))
      exact Out.ret1 rfl rfl ⟨Ext.refl _, by rw [hR]⟩

theorem same_spec (w : World) (x y : Value) (na nb : Bool) (xs ys : List Nat) (h : Den w x na xs) (k : Den w y nb ys) (hlen : xs.length ≤ 100000000) (hl : ys.length ≤ 100000000) :
    Calls Try.prog 31 #[x, y] w (Ret fun r w' => Ext w w' ∧ r = .bool (decide (na = nb ∧ xs = ys))) := by
  obtain ⟨p, cap, rfl, hs⟩ := h
  obtain ⟨q, cb, rfl, ks⟩ := k
  refine calls_of_St (args := [_, _]) Try.func31 rfl Try.ntmps31 rfl ?_
  (repeat with_reducible first|refine .nil ?_|refine .then_normal ?_|refine .block_normal ?_|refine .seq ?_|refine .block ?_|refine .skip ?_|refine .region ?_|refine .ret ?_|refine .then_ret ?_|refine .block_ret ?_|refine .exit ?_|refine .then_exit ?_|refine .block_exit ?_|refine .block_other rfl ?_)
  refine StL.step rfl rfl rfl (OpR.box rfl) ?_
  rintro _ w1 ⟨rfl, hb1, hx1, hz1⟩
  refine StL.step rfl rfl rfl (OpR.box rfl) ?_
  rintro _ w2 ⟨rfl, hb2, hx2, hz2⟩
  (iterate 6 ((repeat with_reducible first|refine .nil ?_|refine .then_normal ?_|refine .block_normal ?_|refine .seq ?_|refine .block ?_|refine .skip ?_|refine .region ?_|refine .ret ?_|refine .then_ret ?_|refine .block_ret ?_|refine .exit ?_|refine .then_exit ?_|refine .block_exit ?_|refine .block_other rfl ?_); try refine .run TBok 99 rfl ?_))
  (refine StL.step rfl rfl rfl (RunsTo.load TBok rfl rfl rfl (Blk.cell (by first | assumption | exact Ext.refl _ | (first | apply Blk.ext | apply CanO.ext | apply Den.ext | apply Sl.ext | apply SlO.ext | apply Dn.ext | apply It.ext | apply CanR.ext | apply DnR.ext | skip) <;> (repeat first | assumption | refine Ext.trans ?_ (by assumption))) rfl)).op ?_; rintro _ _ ⟨rfl, rfl⟩)
  (iterate 6 ((repeat with_reducible first|refine .nil ?_|refine .then_normal ?_|refine .block_normal ?_|refine .seq ?_|refine .block ?_|refine .skip ?_|refine .region ?_|refine .ret ?_|refine .then_ret ?_|refine .block_ret ?_|refine .exit ?_|refine .then_exit ?_|refine .block_exit ?_|refine .block_other rfl ?_); try refine .run TBok 99 rfl ?_))
  (refine StL.step rfl rfl rfl (RunsTo.load TBok rfl rfl rfl (Blk.cell (by first | assumption | exact Ext.refl _ | (first | apply Blk.ext | apply CanO.ext | apply Den.ext | apply Sl.ext | apply SlO.ext | apply Dn.ext | apply It.ext | apply CanR.ext | apply DnR.ext | skip) <;> (repeat first | assumption | refine Ext.trans ?_ (by assumption))) rfl)).op ?_; rintro _ _ ⟨rfl, rfl⟩)
  refine StL.step rfl rfl rfl (RunsTo.boolEq TBok rfl rfl rfl).op ?_
  rintro _ _ ⟨rfl, rfl⟩
  by_cases hn : na = nb
  · subst hn
    rw [show (na == na) = true from by cases na <;> rfl]
    refine .run TBok 99 rfl ?_
    (refine StL.step rfl rfl rfl (RunsTo.load TBok rfl rfl rfl (Blk.cell (by first | assumption | exact Ext.refl _ | (first | apply Blk.ext | apply CanO.ext | apply Den.ext | apply Sl.ext | apply SlO.ext | apply Dn.ext | apply It.ext | apply CanR.ext | apply DnR.ext | skip) <;> (repeat first | assumption | refine Ext.trans ?_ (by assumption))) rfl)).op ?_; rintro _ _ ⟨rfl, rfl⟩)
    refine .run TBok 99 rfl ?_
    (refine StL.step rfl rfl rfl (RunsTo.load TBok rfl rfl rfl (Blk.cell (by first | assumption | exact Ext.refl _ | (first | apply Blk.ext | apply CanO.ext | apply Den.ext | apply Sl.ext | apply SlO.ext | apply Dn.ext | apply It.ext | apply CanR.ext | apply DnR.ext | skip) <;> (repeat first | assumption | refine Ext.trans ?_ (by assumption))) rfl)).op ?_; rintro _ _ ⟨rfl, rfl⟩)
    by_cases he : xs.length = ys.length
    · refine StL.as TBok 2 (.bool true) rfl (by simp [he]) ?_
      refine .run TBok 99 rfl ?_
      (refine StL.step rfl rfl rfl (RunsTo.load TBok rfl rfl rfl (Blk.cell (by first | assumption | exact Ext.refl _ | (first | apply Blk.ext | apply CanO.ext | apply Den.ext | apply Sl.ext | apply SlO.ext | apply Dn.ext | apply It.ext | apply CanR.ext | apply DnR.ext | skip) <;> (repeat first | assumption | refine Ext.trans ?_ (by assumption))) rfl)).op ?_; rintro _ _ ⟨rfl, rfl⟩)
      refine .run TBok 99 rfl ?_
      (refine StL.step rfl rfl rfl (RunsTo.load TBok rfl rfl rfl (Blk.cell (by first | assumption | exact Ext.refl _ | (first | apply Blk.ext | apply CanO.ext | apply Den.ext | apply Sl.ext | apply SlO.ext | apply Dn.ext | apply It.ext | apply CanR.ext | apply DnR.ext | skip) <;> (repeat first | assumption | refine Ext.trans ?_ (by assumption))) rfl)).op ?_; rintro _ _ ⟨rfl, rfl⟩)
      refine StL.step rfl rfl rfl (OpR.call fn_r01_cmp rfl (rcmp_spec w2 _ _ xs ys (by first | assumption | exact Ext.refl _ | (first | apply Blk.ext | apply CanO.ext | apply Den.ext | apply Sl.ext | apply SlO.ext | apply Dn.ext | apply It.ext | apply CanR.ext | apply DnR.ext | skip) <;> (repeat first | assumption | refine Ext.trans ?_ (by assumption))) (by first | assumption | exact Ext.refl _ | (first | apply Blk.ext | apply CanO.ext | apply Den.ext | apply Sl.ext | apply SlO.ext | apply Dn.ext | apply It.ext | apply CanR.ext | apply DnR.ext | skip) <;> (repeat first | assumption | refine Ext.trans ?_ (by assumption))) (by omega) (by omega))) ?_
      rintro _ w3 ⟨hx3, rfl⟩
      (iterate 6 ((repeat with_reducible first|refine .nil ?_|refine .then_normal ?_|refine .block_normal ?_|refine .seq ?_|refine .block ?_|refine .skip ?_|refine .region ?_|refine .ret ?_|refine .then_ret ?_|refine .block_ret ?_|refine .exit ?_|refine .then_exit ?_|refine .block_exit ?_|refine .block_other rfl ?_); try refine .run TBok 99 rfl ?_))
      refine Out.ret1 rfl rfl ⟨(by first | assumption | exact Ext.refl _ | (first | apply Blk.ext | apply CanO.ext | apply Den.ext | apply Sl.ext | apply SlO.ext | apply Dn.ext | apply It.ext | apply CanR.ext | apply DnR.ext | skip) <;> (repeat first | assumption | refine Ext.trans ?_ (by assumption))), ?_⟩
      congr 1
      have := cmpL_eq hs.2 ks.2
      by_cases hc : cmpL xs ys = 0
      · rw [hc, decide_eq_true (⟨rfl, this.1 hc⟩ : na = na ∧ xs = ys)]; rfl
      · rw [decide_eq_false (fun h => hc (this.2 h.2))]; simpa using hc
    · refine StL.as TBok 2 (.bool false) rfl (by simp; omega) ?_
      (iterate 6 ((repeat with_reducible first|refine .nil ?_|refine .then_normal ?_|refine .block_normal ?_|refine .seq ?_|refine .block ?_|refine .skip ?_|refine .region ?_|refine .ret ?_|refine .then_ret ?_|refine .block_ret ?_|refine .exit ?_|refine .then_exit ?_|refine .block_exit ?_|refine .block_other rfl ?_); try refine .run TBok 99 rfl ?_))
      refine Out.ret1 rfl rfl ⟨(by first | assumption | exact Ext.refl _ | (first | apply Blk.ext | apply CanO.ext | apply Den.ext | apply Sl.ext | apply SlO.ext | apply Dn.ext | apply It.ext | apply CanR.ext | apply DnR.ext | skip) <;> (repeat first | assumption | refine Ext.trans ?_ (by assumption))), ?_⟩
      rw [decide_eq_false]
      rintro ⟨_, rfl⟩
      exact he rfl
  · rw [show (na == nb) = false from by cases na <;> cases nb <;> simp_all]
    (iterate 6 ((repeat with_reducible first|refine .nil ?_|refine .then_normal ?_|refine .block_normal ?_|refine .seq ?_|refine .block ?_|refine .skip ?_|refine .region ?_|refine .ret ?_|refine .then_ret ?_|refine .block_ret ?_|refine .exit ?_|refine .then_exit ?_|refine .block_exit ?_|refine .block_other rfl ?_); try refine .run TBok 99 rfl ?_))
    refine Out.ret1 rfl rfl ⟨(by first | assumption | exact Ext.refl _ | (first | apply Blk.ext | apply CanO.ext | apply Den.ext | apply Sl.ext | apply SlO.ext | apply Dn.ext | apply It.ext | apply CanR.ext | apply DnR.ext | skip) <;> (repeat first | assumption | refine Ext.trans ?_ (by assumption))), ?_⟩
    rw [decide_eq_false (fun h => hn h.1)]

theorem same_can {b1 b2 : Nat} {w : World} {x y : Value} {a b : Int} (h : CanO b1 w x a) (k : CanO b2 w y b) (hs : sz a ≤ 100000000) (ks : sz b ≤ 100000000) :
    Calls Try.prog 31 #[x, y] w (Ret fun r w' => Ext w w' ∧ r = .bool (decide (a = b))) := by
  refine (same_spec w x y _ _ _ _ h.den' k.den' hs ks).mono ?_
  rintro e w' ⟨r, rfl, hx, rfl⟩
  refine ⟨_, rfl, hx, ?_⟩
  congr 1
  by_cases he : a = b
  · subst he; simp
  · rw [decide_eq_false he, decide_eq_false]
    rintro ⟨h1, h2⟩
    have h3 := limbs_inj h2
    have h4 : (a < 0) ↔ (b < 0) := by simpa using h1
    omega

theorem rsign_dn {w : World} {x : Value} {a : Int} (h : Dn w x a) : Calls Try.prog 75 #[x] w (Ret fun r w' => Ext w w' ∧ r = .int .i64 (signI a)) := by
  obtain ⟨neg, xs, ⟨p, cap, rfl, hs⟩, rfl, hlen⟩ := h
  refine calls_of_St (args := [_]) Try.func75 rfl Try.ntmps75 rfl ?_
  (repeat with_reducible first|refine .nil ?_|refine .then_normal ?_|refine .block_normal ?_|refine .seq ?_|refine .block ?_|refine .skip ?_|refine .region ?_|refine .ret ?_|refine .then_ret ?_|refine .block_ret ?_|refine .exit ?_|refine .then_exit ?_|refine .block_exit ?_|refine .block_other rfl ?_)
  refine StL.step rfl rfl rfl (OpR.box rfl) ?_
  rintro _ w1 ⟨rfl, hb1, hx1, hz1⟩
  (iterate 6 ((repeat with_reducible first|refine .nil ?_|refine .then_normal ?_|refine .block_normal ?_|refine .seq ?_|refine .block ?_|refine .skip ?_|refine .region ?_|refine .ret ?_|refine .then_ret ?_|refine .block_ret ?_|refine .exit ?_|refine .then_exit ?_|refine .block_exit ?_|refine .block_other rfl ?_); try refine .run TBok 99 rfl ?_))
  (refine StL.step rfl rfl rfl (RunsTo.load TBok rfl rfl rfl (Blk.cell (by first | assumption | exact Ext.refl _ | (first | apply Blk.ext | apply CanO.ext | apply Den.ext | apply Sl.ext | apply SlO.ext | apply Dn.ext | apply It.ext | apply CanR.ext | apply DnR.ext | skip) <;> (repeat first | assumption | refine Ext.trans ?_ (by assumption))) rfl)).op ?_; rintro _ _ ⟨rfl, rfl⟩)
  refine StL.step rfl rfl rfl (OpR.call fn_r01_trim rfl (rtrim_spec (base := 0) w1 _ xs (by first | assumption | exact Ext.refl _ | (first | apply Blk.ext | apply CanO.ext | apply Den.ext | apply Sl.ext | apply SlO.ext | apply Dn.ext | apply It.ext | apply CanR.ext | apply DnR.ext | skip) <;> (repeat first | assumption | refine Ext.trans ?_ (by assumption))) (by omega) (Nat.zero_le _))) ?_
  rintro sl w2 ⟨hx2, hsl⟩
  obtain ⟨p2, cap2, rfl, _⟩ := hsl.sl.form
  rw [signI_sg]
  (iterate 6 ((repeat with_reducible first|refine .nil ?_|refine .then_normal ?_|refine .block_normal ?_|refine .seq ?_|refine .block ?_|refine .skip ?_|refine .region ?_|refine .ret ?_|refine .then_ret ?_|refine .block_ret ?_|refine .exit ?_|refine .then_exit ?_|refine .block_exit ?_|refine .block_other rfl ?_); try refine .run TBok 99 rfl ?_))
  by_cases h0 : val xs = 0
  · refine St.condT rfl (by rw [h0]; rfl) ?_
    (iterate 6 ((repeat with_reducible first|refine .nil ?_|refine .then_normal ?_|refine .block_normal ?_|refine .seq ?_|refine .block ?_|refine .skip ?_|refine .region ?_|refine .ret ?_|refine .then_ret ?_|refine .block_ret ?_|refine .exit ?_|refine .then_exit ?_|refine .block_exit ?_|refine .block_other rfl ?_); try refine .run TBok 99 rfl ?_))
    exact Out.ret1 rfl rfl ⟨(by first | assumption | exact Ext.refl _ | (first | apply Blk.ext | apply CanO.ext | apply Den.ext | apply Sl.ext | apply SlO.ext | apply Dn.ext | apply It.ext | apply CanR.ext | apply DnR.ext | skip) <;> (repeat first | assumption | refine Ext.trans ?_ (by assumption))), by rw [if_pos h0]⟩
  refine St.condF rfl (by simp [limbs_eq_nil, h0]) ?_
  (iterate 6 ((repeat with_reducible first|refine .nil ?_|refine .then_normal ?_|refine .block_normal ?_|refine .seq ?_|refine .block ?_|refine .skip ?_|refine .region ?_|refine .ret ?_|refine .then_ret ?_|refine .block_ret ?_|refine .exit ?_|refine .then_exit ?_|refine .block_exit ?_|refine .block_other rfl ?_); try refine .run TBok 99 rfl ?_))
  (refine StL.step rfl rfl rfl (RunsTo.load TBok rfl rfl rfl (Blk.cell (by first | assumption | exact Ext.refl _ | (first | apply Blk.ext | apply CanO.ext | apply Den.ext | apply Sl.ext | apply SlO.ext | apply Dn.ext | apply It.ext | apply CanR.ext | apply DnR.ext | skip) <;> (repeat first | assumption | refine Ext.trans ?_ (by assumption))) rfl)).op ?_; rintro _ _ ⟨rfl, rfl⟩)
  (iterate 6 ((repeat with_reducible first|refine .nil ?_|refine .then_normal ?_|refine .block_normal ?_|refine .seq ?_|refine .block ?_|refine .skip ?_|refine .region ?_|refine .ret ?_|refine .then_ret ?_|refine .block_ret ?_|refine .exit ?_|refine .then_exit ?_|refine .block_exit ?_|refine .block_other rfl ?_); try refine .run TBok 99 rfl ?_))
  cases neg with
  | true =>
    refine St.condT rfl rfl ?_
    (iterate 6 ((repeat with_reducible first|refine .nil ?_|refine .then_normal ?_|refine .block_normal ?_|refine .seq ?_|refine .block ?_|refine .skip ?_|refine .region ?_|refine .ret ?_|refine .then_ret ?_|refine .block_ret ?_|refine .exit ?_|refine .then_exit ?_|refine .block_exit ?_|refine .block_other rfl ?_); try refine .run TBok 99 rfl ?_))
    exact Out.ret1 rfl rfl ⟨(by first | assumption | exact Ext.refl _ | (first | apply Blk.ext | apply CanO.ext | apply Den.ext | apply Sl.ext | apply SlO.ext | apply Dn.ext | apply It.ext | apply CanR.ext | apply DnR.ext | skip) <;> (repeat first | assumption | refine Ext.trans ?_ (by assumption))), by rw [if_neg h0]; rfl⟩
  | false =>
    refine St.condF rfl rfl ?_
    (iterate 6 ((repeat with_reducible first|refine .nil ?_|refine .then_normal ?_|refine .block_normal ?_|refine .seq ?_|refine .block ?_|refine .skip ?_|refine .region ?_|refine .ret ?_|refine .then_ret ?_|refine .block_ret ?_|refine .exit ?_|refine .then_exit ?_|refine .block_exit ?_|refine .block_other rfl ?_); try refine .run TBok 99 rfl ?_))
    exact Out.ret1 rfl rfl ⟨(by first | assumption | exact Ext.refl _ | (first | apply Blk.ext | apply CanO.ext | apply Den.ext | apply Sl.ext | apply SlO.ext | apply Dn.ext | apply It.ext | apply CanR.ext | apply DnR.ext | skip) <;> (repeat first | assumption | refine Ext.trans ?_ (by assumption))), by rw [if_neg h0]; rfl⟩

theorem rcmp_dn {w : World} {x y : Value} {a b : Int} (h : Dn w x a) (k : Dn w y b) : Calls Try.prog 93 #[x, y] w (Ret fun r w' => Ext w w' ∧ r = .int .i64 (cmpI a b)) := by
  have hD := h
  have kD := k
  obtain ⟨na, xs, ⟨p, cap, rfl, hs⟩, rfl, hlen⟩ := h
  obtain ⟨nb, ys, ⟨q, cb, rfl, ks⟩, rfl, hl⟩ := k
  have hsa := signI_bound (sg na (val xs))
  have hsb := signI_bound (sg nb (val ys))
  refine calls_of_St (args := [_, _]) Try.func93 rfl Try.ntmps93 rfl ?_
  (repeat with_reducible first|refine .nil ?_|refine .then_normal ?_|refine .block_normal ?_|refine .seq ?_|refine .block ?_|refine .skip ?_|refine .region ?_|refine .ret ?_|refine .then_ret ?_|refine .block_ret ?_|refine .exit ?_|refine .then_exit ?_|refine .block_exit ?_|refine .block_other rfl ?_)
  refine StL.step rfl rfl rfl (OpR.box rfl) ?_
  rintro _ w1 ⟨rfl, hb1, hx1, hz1⟩
  refine StL.step rfl rfl rfl (OpR.box rfl) ?_
  rintro _ w2 ⟨rfl, hb2, hx2, hz2⟩
  refine .run TBok 99 rfl ?_
  (repeat with_reducible first|refine .nil ?_|refine .then_normal ?_|refine .block_normal ?_|refine .seq ?_|refine .block ?_|refine .skip ?_|refine .region ?_|refine .ret ?_|refine .then_ret ?_|refine .block_ret ?_|refine .exit ?_|refine .then_exit ?_|refine .block_exit ?_|refine .block_other rfl ?_)
  refine St.flow 4 TBfol (by kernel_rfl) rfl (by kernel_rfl) rfl True.intro ?_
  refine FL.run TBok 99 rfl ?_
  refine FL.loadAgg (L := []) TBok rfl rfl rfl rfl rfl rfl (by first | assumption | exact Ext.refl _ | (first | apply Blk.ext | apply CanO.ext | apply Den.ext | apply Sl.ext | apply SlO.ext | apply Dn.ext | apply It.ext | apply CanR.ext | apply DnR.ext | skip) <;> (repeat first | assumption | refine Ext.trans ?_ (by assumption))) (by simp) (Nat.le_refl _) rfl ?_
  refine FL.callXE fn_r01_Sign rfl rfl rfl (fun w3 hx3 => CallF.mk rfl (rsign_dn (a := sg na (val xs)) (by first | assumption | exact Ext.refl _ | (first | apply Blk.ext | apply CanO.ext | apply Den.ext | apply Sl.ext | apply SlO.ext | apply Dn.ext | apply It.ext | apply CanR.ext | apply DnR.ext | skip) <;> (repeat first | assumption | refine Ext.trans ?_ (by assumption))))) ?_
  refine FL.loadAgg (L := []) TBok rfl rfl rfl rfl rfl rfl (by first | assumption | exact Ext.refl _ | (first | apply Blk.ext | apply CanO.ext | apply Den.ext | apply Sl.ext | apply SlO.ext | apply Dn.ext | apply It.ext | apply CanR.ext | apply DnR.ext | skip) <;> (repeat first | assumption | refine Ext.trans ?_ (by assumption))) (by simp) (Nat.le_refl _) rfl ?_
  refine FL.callXE fn_r01_Sign rfl rfl rfl (fun w3 hx3 => CallF.mk rfl (rsign_dn (a := sg nb (val ys)) (by first | assumption | exact Ext.refl _ | (first | apply Blk.ext | apply CanO.ext | apply Den.ext | apply Sl.ext | apply SlO.ext | apply Dn.ext | apply It.ext | apply CanR.ext | apply DnR.ext | skip) <;> (repeat first | assumption | refine Ext.trans ?_ (by assumption))))) ?_
  refine FL.endE rfl ?_
  intro w3 hx3 _ _
  (iterate 6 ((repeat with_reducible first|refine .nil ?_|refine .then_normal ?_|refine .block_normal ?_|refine .seq ?_|refine .block ?_|refine .skip ?_|refine .region ?_|refine .ret ?_|refine .then_ret ?_|refine .block_ret ?_|refine .exit ?_|refine .then_exit ?_|refine .block_exit ?_|refine .block_other rfl ?_); try refine .run TBok 99 rfl ?_))
  by_cases hne : signI (sg na (val xs)) = signI (sg nb (val ys))
  · refine St.condF rfl (by simp [hne]) ?_
    have hfin := cmpI_sign na nb (val xs) (val ys) hne
    have hcb := cmpN_bound (val xs) (val ys)
    have hms := mul_small hsa hcb
    rw [← hfin]
    (repeat with_reducible first|refine .nil ?_|refine .then_normal ?_|refine .block_normal ?_|refine .seq ?_|refine .block ?_|refine .skip ?_|refine .region ?_|refine .ret ?_|refine .then_ret ?_|refine .block_ret ?_|refine .exit ?_|refine .then_exit ?_|refine .block_exit ?_|refine .block_other rfl ?_)
    refine St.sub (E' := [(2, .pointer (some ⟨w.heap.size, 0, none⟩)), (3, .pointer (some ⟨w1.heap.size, 0, none⟩)), (5, .int .i64 (signI (sg na (val xs))))]) ?_ ⟨rfl, rfl, rfl, trivial⟩
    refine St.flow 9 TBfol (by kernel_rfl) rfl (by kernel_rfl) rfl True.intro ?_
    refine FL.run TBok 99 rfl ?_
    refine FL.load (L := []) TBok rfl rfl rfl rfl rfl rfl (by first | assumption | exact Ext.refl _ | (first | apply Blk.ext | apply CanO.ext | apply Den.ext | apply Sl.ext | apply SlO.ext | apply Dn.ext | apply It.ext | apply CanR.ext | apply DnR.ext | skip) <;> (repeat first | assumption | refine Ext.trans ?_ (by assumption))) (by simp) rfl ?_
    refine FL.callE fn_r01_trim rfl rfl rfl (fun w4 hx4 => CallF.mk rfl (rtrim_spec (base := 0) w4 _ xs (by first | assumption | exact Ext.refl _ | (first | apply Blk.ext | apply CanO.ext | apply Den.ext | apply Sl.ext | apply SlO.ext | apply Dn.ext | apply It.ext | apply CanR.ext | apply DnR.ext | skip) <;> (repeat first | assumption | refine Ext.trans ?_ (by assumption))) (by omega) (Nat.zero_le _))) (MonoR.slO 0 _) ?_
    refine FL.run TBok 99 rfl ?_
    refine FL.load (L := []) TBok rfl rfl rfl rfl rfl rfl (by first | assumption | exact Ext.refl _ | (first | apply Blk.ext | apply CanO.ext | apply Den.ext | apply Sl.ext | apply SlO.ext | apply Dn.ext | apply It.ext | apply CanR.ext | apply DnR.ext | skip) <;> (repeat first | assumption | refine Ext.trans ?_ (by assumption))) (by simp) rfl ?_
    refine FL.callE fn_r01_trim rfl rfl rfl (fun w4 hx4 => CallF.mk rfl (rtrim_spec (base := 0) w4 _ ys (by first | assumption | exact Ext.refl _ | (first | apply Blk.ext | apply CanO.ext | apply Den.ext | apply Sl.ext | apply SlO.ext | apply Dn.ext | apply It.ext | apply CanR.ext | apply DnR.ext | skip) <;> (repeat first | assumption | refine Ext.trans ?_ (by assumption))) (by omega) (Nat.zero_le _))) (MonoR.slO 0 _) ?_
    have hl1 := limbs_length_le xs hs.2
    have hl2 := limbs_length_le ys ks.2
    refine FL.callXE fn_r01_cmp rfl rfl rfl (fun w4 hx4 u hu v hv => CallF.mk rfl (rcmp_spec w4 u v _ _ hu.sl hv.sl (by omega) (by omega))) ?_
    rw [cmpL_limbs]
    refine FL.run TBok 99 rfl ?_
    refine FL.endE rfl ?_
    intro w4 hx4 _ _ _ _ _ _
    (iterate 6 ((repeat with_reducible first|refine .nil ?_|refine .then_normal ?_|refine .block_normal ?_|refine .seq ?_|refine .block ?_|refine .skip ?_|refine .region ?_|refine .ret ?_|refine .then_ret ?_|refine .block_ret ?_|refine .exit ?_|refine .then_exit ?_|refine .block_exit ?_|refine .block_other rfl ?_); try refine .run TBok 99 rfl ?_))
    refine Out.ret1 rfl rfl ⟨(by first | assumption | exact Ext.refl _ | (first | apply Blk.ext | apply CanO.ext | apply Den.ext | apply Sl.ext | apply SlO.ext | apply Dn.ext | apply It.ext | apply CanR.ext | apply DnR.ext | skip) <;> (repeat first | assumption | refine Ext.trans ?_ (by assumption))), ?_⟩
    rw [i64_id (by omega) (by omega)]
  · refine St.condT rfl (by simp; omega) ?_
    (iterate 6 ((repeat with_reducible first|refine .nil ?_|refine .then_normal ?_|refine .block_normal ?_|refine .seq ?_|refine .block ?_|refine .skip ?_|refine .region ?_|refine .ret ?_|refine .then_ret ?_|refine .block_ret ?_|refine .exit ?_|refine .then_exit ?_|refine .block_exit ?_|refine .block_other rfl ?_); try refine .run TBok 99 rfl ?_))
    by_cases hlt : signI (sg na (val xs)) < signI (sg nb (val ys))
    · refine St.condT rfl (by simpa using hlt) ?_
      (iterate 6 ((repeat with_reducible first|refine .nil ?_|refine .then_normal ?_|refine .block_normal ?_|refine .seq ?_|refine .block ?_|refine .skip ?_|refine .region ?_|refine .ret ?_|refine .then_ret ?_|refine .block_ret ?_|refine .exit ?_|refine .then_exit ?_|refine .block_exit ?_|refine .block_other rfl ?_); try refine .run TBok 99 rfl ?_))
      exact Out.ret1 rfl rfl ⟨(by first | assumption | exact Ext.refl _ | (first | apply Blk.ext | apply CanO.ext | apply Den.ext | apply Sl.ext | apply SlO.ext | apply Dn.ext | apply It.ext | apply CanR.ext | apply DnR.ext | skip) <;> (repeat first | assumption | refine Ext.trans ?_ (by assumption))), by rw [cmpI_lt _ _ hlt]⟩
    · refine St.condF rfl (by simp; omega) ?_
      (iterate 6 ((repeat with_reducible first|refine .nil ?_|refine .then_normal ?_|refine .block_normal ?_|refine .seq ?_|refine .block ?_|refine .skip ?_|refine .region ?_|refine .ret ?_|refine .then_ret ?_|refine .block_ret ?_|refine .exit ?_|refine .then_exit ?_|refine .block_exit ?_|refine .block_other rfl ?_); try refine .run TBok 99 rfl ?_))
      exact Out.ret1 rfl rfl ⟨(by first | assumption | exact Ext.refl _ | (first | apply Blk.ext | apply CanO.ext | apply Den.ext | apply Sl.ext | apply SlO.ext | apply Dn.ext | apply It.ext | apply CanR.ext | apply DnR.ext | skip) <;> (repeat first | assumption | refine Ext.trans ?_ (by assumption))), by rw [cmpI_gt _ _ (by omega)]⟩

theorem rnormalize_dn {base : Nat} {w : World} {x : Value} {a : Int} (h : Dn w x a) (hb : base ≤ w.heap.size) : Calls Try.prog 80 #[x] w (Ret fun r w' => Ext w w' ∧ CanO base w' r a) := by
  obtain ⟨neg, xs, ⟨p, cap, rfl, hs⟩, rfl, hlen⟩ := h
  refine calls_of_St (args := [_]) Try.func80 rfl Try.ntmps80 rfl ?_
  (repeat with_reducible first|refine .nil ?_|refine .then_normal ?_|refine .block_normal ?_|refine .seq ?_|refine .block ?_|refine .skip ?_|refine .region ?_|refine .ret ?_|refine .then_ret ?_|refine .block_ret ?_|refine .exit ?_|refine .then_exit ?_|refine .block_exit ?_|refine .block_other rfl ?_)
  refine StL.step rfl rfl rfl (OpR.box rfl) ?_
  rintro _ w1 ⟨rfl, hb1, hx1, hz1⟩
  refine StL.step rfl rfl rfl (OpR.alloc TBok rfl) ?_
  rintro _ w2 ⟨rfl, hb2, hx2, hz2⟩
  (iterate 6 ((repeat with_reducible first|refine .nil ?_|refine .then_normal ?_|refine .block_normal ?_|refine .seq ?_|refine .block ?_|refine .skip ?_|refine .region ?_|refine .ret ?_|refine .then_ret ?_|refine .block_ret ?_|refine .exit ?_|refine .then_exit ?_|refine .block_exit ?_|refine .block_other rfl ?_); try refine .run TBok 99 rfl ?_))
  (refine StL.step rfl rfl rfl (RunsTo.load TBok rfl rfl rfl (Blk.cell (by first | assumption | exact Ext.refl _ | (first | apply Blk.ext | apply CanO.ext | apply Den.ext | apply Sl.ext | apply SlO.ext | apply Dn.ext | apply It.ext | apply CanR.ext | apply DnR.ext | skip) <;> (repeat first | assumption | refine Ext.trans ?_ (by assumption))) rfl)).op ?_; rintro _ _ ⟨rfl, rfl⟩)
  (iterate 6 ((repeat with_reducible first|refine .nil ?_|refine .then_normal ?_|refine .block_normal ?_|refine .seq ?_|refine .block ?_|refine .skip ?_|refine .region ?_|refine .ret ?_|refine .then_ret ?_|refine .block_ret ?_|refine .exit ?_|refine .then_exit ?_|refine .block_exit ?_|refine .block_other rfl ?_); try refine .run TBok 99 rfl ?_))
  (refine StL.step rfl rfl rfl (RunsTo.load TBok rfl rfl rfl (Blk.cell (by first | assumption | exact Ext.refl _ | (first | apply Blk.ext | apply CanO.ext | apply Den.ext | apply Sl.ext | apply SlO.ext | apply Dn.ext | apply It.ext | apply CanR.ext | apply DnR.ext | skip) <;> (repeat first | assumption | refine Ext.trans ?_ (by assumption))) rfl)).op ?_; rintro _ _ ⟨rfl, rfl⟩)
  refine StL.step rfl rfl rfl (OpR.call fn_r01_Make rfl (make_spec (base := base) w2 neg _ xs (by first | assumption | exact Ext.refl _ | (first | apply Blk.ext | apply CanO.ext | apply Den.ext | apply Sl.ext | apply SlO.ext | apply Dn.ext | apply It.ext | apply CanR.ext | apply DnR.ext | skip) <;> (repeat first | assumption | refine Ext.trans ?_ (by assumption))) (by omega) (Nat.le_trans hb (hx1.trans hx2).size))) ?_
  rintro r w3 ⟨hx3, hr⟩
  refine StL.finCan rfl rfl (hb2.ext hx3) rfl hr (w0 := w) (by first | assumption | exact Ext.refl _ | (first | apply Blk.ext | apply CanO.ext | apply Den.ext | apply Sl.ext | apply SlO.ext | apply Dn.ext | apply It.ext | apply CanR.ext | apply DnR.ext | skip) <;> (repeat first | assumption | refine Ext.trans ?_ (by assumption))) hx1.size ?_
  intro w' hxf hcf fin
  (repeat with_reducible first|refine .nil ?_|refine .then_normal ?_|refine .block_normal ?_|refine .seq ?_|refine .block ?_|refine .skip ?_|refine .region ?_|refine .ret ?_|refine .then_ret ?_|refine .block_ret ?_|refine .exit ?_|refine .then_exit ?_|refine .block_exit ?_|refine .block_other rfl ?_)
  exact fin _ _ rfl ⟨hxf, hcf⟩

theorem rneg_dn {base : Nat} {w : World} {x : Value} {a : Int} (h : Dn w x a) (hb : base ≤ w.heap.size) : Calls Try.prog 76 #[x] w (Ret fun r w' => Ext w w' ∧ CanO base w' r (-a)) := by
  obtain ⟨neg, xs, ⟨p, cap, rfl, hs⟩, rfl, hlen⟩ := h
  refine calls_of_St (args := [_]) Try.func76 rfl Try.ntmps76 rfl ?_
  (repeat with_reducible first|refine .nil ?_|refine .then_normal ?_|refine .block_normal ?_|refine .seq ?_|refine .block ?_|refine .skip ?_|refine .region ?_|refine .ret ?_|refine .then_ret ?_|refine .block_ret ?_|refine .exit ?_|refine .then_exit ?_|refine .block_exit ?_|refine .block_other rfl ?_)
  refine StL.step rfl rfl rfl (OpR.box rfl) ?_
  rintro _ w1 ⟨rfl, hb1, hx1, hz1⟩
  refine StL.step rfl rfl rfl (OpR.alloc TBok rfl) ?_
  rintro _ w2 ⟨rfl, hb2, hx2, hz2⟩
  (iterate 6 ((repeat with_reducible first|refine .nil ?_|refine .then_normal ?_|refine .block_normal ?_|refine .seq ?_|refine .block ?_|refine .skip ?_|refine .region ?_|refine .ret ?_|refine .then_ret ?_|refine .block_ret ?_|refine .exit ?_|refine .then_exit ?_|refine .block_exit ?_|refine .block_other rfl ?_); try refine .run TBok 99 rfl ?_))
  (refine StL.step rfl rfl rfl (RunsTo.load TBok rfl rfl rfl (Blk.cell (by first | assumption | exact Ext.refl _ | (first | apply Blk.ext | apply CanO.ext | apply Den.ext | apply Sl.ext | apply SlO.ext | apply Dn.ext | apply It.ext | apply CanR.ext | apply DnR.ext | skip) <;> (repeat first | assumption | refine Ext.trans ?_ (by assumption))) rfl)).op ?_; rintro _ _ ⟨rfl, rfl⟩)
  (iterate 6 ((repeat with_reducible first|refine .nil ?_|refine .then_normal ?_|refine .block_normal ?_|refine .seq ?_|refine .block ?_|refine .skip ?_|refine .region ?_|refine .ret ?_|refine .then_ret ?_|refine .block_ret ?_|refine .exit ?_|refine .then_exit ?_|refine .block_exit ?_|refine .block_other rfl ?_); try refine .run TBok 99 rfl ?_))
  (refine StL.step rfl rfl rfl (RunsTo.load TBok rfl rfl rfl (Blk.cell (by first | assumption | exact Ext.refl _ | (first | apply Blk.ext | apply CanO.ext | apply Den.ext | apply Sl.ext | apply SlO.ext | apply Dn.ext | apply It.ext | apply CanR.ext | apply DnR.ext | skip) <;> (repeat first | assumption | refine Ext.trans ?_ (by assumption))) rfl)).op ?_; rintro _ _ ⟨rfl, rfl⟩)
  refine StL.step rfl rfl rfl (OpR.call fn_r01_Make rfl (make_spec (base := base) w2 (!neg) _ xs (by first | assumption | exact Ext.refl _ | (first | apply Blk.ext | apply CanO.ext | apply Den.ext | apply Sl.ext | apply SlO.ext | apply Dn.ext | apply It.ext | apply CanR.ext | apply DnR.ext | skip) <;> (repeat first | assumption | refine Ext.trans ?_ (by assumption))) (by omega) (Nat.le_trans hb (hx1.trans hx2).size))) ?_
  rintro r w3 ⟨hx3, hr⟩
  rw [sg_not] at hr
  refine StL.finCan rfl rfl (hb2.ext hx3) rfl hr (w0 := w) (by first | assumption | exact Ext.refl _ | (first | apply Blk.ext | apply CanO.ext | apply Den.ext | apply Sl.ext | apply SlO.ext | apply Dn.ext | apply It.ext | apply CanR.ext | apply DnR.ext | skip) <;> (repeat first | assumption | refine Ext.trans ?_ (by assumption))) hx1.size ?_
  intro w' hxf hcf fin
  (repeat with_reducible first|refine .nil ?_|refine .then_normal ?_|refine .block_normal ?_|refine .seq ?_|refine .block ?_|refine .skip ?_|refine .region ?_|refine .ret ?_|refine .then_ret ?_|refine .block_ret ?_|refine .exit ?_|refine .then_exit ?_|refine .block_exit ?_|refine .block_other rfl ?_)
  exact fin _ _ rfl ⟨hxf, hcf⟩

theorem rabs_dn {base : Nat} {w : World} {x : Value} {a : Int} (h : Dn w x a) (hb : base ≤ w.heap.size) : Calls Try.prog 94 #[x] w (Ret fun r w' => Ext w w' ∧ CanO base w' r (a.natAbs : Int)) := by
  obtain ⟨neg, xs, ⟨p, cap, rfl, hs⟩, rfl, hlen⟩ := h
  refine calls_of_St (args := [_]) Try.func94 rfl Try.ntmps94 rfl ?_
  (repeat with_reducible first|refine .nil ?_|refine .then_normal ?_|refine .block_normal ?_|refine .seq ?_|refine .block ?_|refine .skip ?_|refine .region ?_|refine .ret ?_|refine .then_ret ?_|refine .block_ret ?_|refine .exit ?_|refine .then_exit ?_|refine .block_exit ?_|refine .block_other rfl ?_)
  refine StL.step rfl rfl rfl (OpR.box rfl) ?_
  rintro _ w1 ⟨rfl, hb1, hx1, hz1⟩
  refine StL.step rfl rfl rfl (OpR.alloc TBok rfl) ?_
  rintro _ w2 ⟨rfl, hb2, hx2, hz2⟩
  (iterate 6 ((repeat with_reducible first|refine .nil ?_|refine .then_normal ?_|refine .block_normal ?_|refine .seq ?_|refine .block ?_|refine .skip ?_|refine .region ?_|refine .ret ?_|refine .then_ret ?_|refine .block_ret ?_|refine .exit ?_|refine .then_exit ?_|refine .block_exit ?_|refine .block_other rfl ?_); try refine .run TBok 99 rfl ?_))
  (refine StL.step rfl rfl rfl (RunsTo.load TBok rfl rfl rfl (Blk.cell (by first | assumption | exact Ext.refl _ | (first | apply Blk.ext | apply CanO.ext | apply Den.ext | apply Sl.ext | apply SlO.ext | apply Dn.ext | apply It.ext | apply CanR.ext | apply DnR.ext | skip) <;> (repeat first | assumption | refine Ext.trans ?_ (by assumption))) rfl)).op ?_; rintro _ _ ⟨rfl, rfl⟩)
  refine StL.step rfl rfl rfl (OpR.call fn_r01_Make rfl (make_spec (base := base) w2 false _ xs (by first | assumption | exact Ext.refl _ | (first | apply Blk.ext | apply CanO.ext | apply Den.ext | apply Sl.ext | apply SlO.ext | apply Dn.ext | apply It.ext | apply CanR.ext | apply DnR.ext | skip) <;> (repeat first | assumption | refine Ext.trans ?_ (by assumption))) (by omega) (Nat.le_trans hb (hx1.trans hx2).size))) ?_
  rintro r w3 ⟨hx3, hr⟩
  have e : sg false (val xs) = ((sg neg (val xs)).natAbs : Int) := by rw [sg_abs]; rfl
  rw [e] at hr
  refine StL.finCan rfl rfl (hb2.ext hx3) rfl hr (w0 := w) (by first | assumption | exact Ext.refl _ | (first | apply Blk.ext | apply CanO.ext | apply Den.ext | apply Sl.ext | apply SlO.ext | apply Dn.ext | apply It.ext | apply CanR.ext | apply DnR.ext | skip) <;> (repeat first | assumption | refine Ext.trans ?_ (by assumption))) hx1.size ?_
  intro w' hxf hcf fin
  (repeat with_reducible first|refine .nil ?_|refine .then_normal ?_|refine .block_normal ?_|refine .seq ?_|refine .block ?_|refine .skip ?_|refine .region ?_|refine .ret ?_|refine .then_ret ?_|refine .block_ret ?_|refine .exit ?_|refine .then_exit ?_|refine .block_exit ?_|refine .block_other rfl ?_)
  exact fin _ _ rfl ⟨hxf, hcf⟩

end Go.Qf

/- quadformref01: low, Int64. -/
namespace Go.Qf
open Go Go.RowKit Go.Proofs
set_option maxRecDepth 20000

theorem low_spec (w : World) (v : Value) (xs : List Nat) (h : Sl w v xs) (hlen : xs.length ≤ 1000000000) :
    Calls Try.prog 96 #[v] w (Ret fun r w' => Ext w w' ∧ r = .int .u64 (val (xs.take 2))) := by
  obtain ⟨p, cap, rfl, hcap⟩ := h.form
  refine calls_of_St (args := [_]) Try.func96 rfl Try.ntmps96 rfl ?_
  (iterate 6 ((repeat with_reducible first|refine .nil ?_|refine .then_normal ?_|refine .block_normal ?_|refine .seq ?_|refine .block ?_|refine .skip ?_|refine .region ?_|refine .ret ?_|refine .then_ret ?_|refine .block_ret ?_|refine .exit ?_|refine .then_exit ?_|refine .block_exit ?_|refine .block_other rfl ?_); try refine .run TBok 99 rfl ?_))
  refine St.loop (fun k : Nat => [(0, .slice p xs.length cap), (3, .int .u64 (val (xs.take k))), (4, .int .i64 k)]) (fun k w' => w' = w ∧ k ≤ xs.length ∧ k ≤ 2) (fun k => 2 - k) 0 ⟨rfl, rfl, rfl, trivial⟩ ⟨rfl, by omega, by omega⟩ ?_
  rintro k w' ⟨rfl, hk, hk2⟩
  by_cases hlt : k < xs.length
  · by_cases hlt2 : k < 2
    · have hx : xs[k]? = some xs[k] := by simp
      generalize xs[k] = x at hx
      have hxl := h.2.get hx
      have hv := val_lt (xs.take k) (h.2.take k)
      have hv2 := val_le_two (h.2.take (k + 1)) (by simp; omega)
      have hs := val_take_succ hx
      (repeat with_reducible first|refine .nil ?_|refine .then_normal ?_|refine .block_normal ?_|refine .seq ?_|refine .block ?_|refine .skip ?_|refine .region ?_|refine .ret ?_|refine .then_ret ?_|refine .block_ret ?_|refine .exit ?_|refine .then_exit ?_|refine .block_exit ?_|refine .block_other rfl ?_)
      refine StL.as TBok 4 (.bool true) rfl (bool_true (by omega)) ?_
      refine StL.as TBok 3 (.bool true) rfl (bool_true (by omega)) ?_
      (iterate 6 ((repeat with_reducible first|refine .nil ?_|refine .then_normal ?_|refine .block_normal ?_|refine .seq ?_|refine .block ?_|refine .skip ?_|refine .region ?_|refine .ret ?_|refine .then_ret ?_|refine .block_ret ?_|refine .exit ?_|refine .then_exit ?_|refine .block_exit ?_|refine .block_other rfl ?_); try refine .run TBok 99 rfl ?_))
      refine St.condT rfl rfl ?_
      (iterate 6 ((repeat with_reducible first|refine .nil ?_|refine .then_normal ?_|refine .block_normal ?_|refine .seq ?_|refine .block ?_|refine .skip ?_|refine .region ?_|refine .ret ?_|refine .then_ret ?_|refine .block_ret ?_|refine .exit ?_|refine .then_exit ?_|refine .block_exit ?_|refine .block_other rfl ?_); try refine .run TBok 99 rfl ?_))
      refine StL.elem TBok k (u32 x) h.1 (h.get hx) rfl rfl rfl rfl rfl rfl rfl rfl rfl rfl rfl (fun _ => rfl) ?_
      intro p1
      (iterate 6 ((repeat with_reducible first|refine .nil ?_|refine .then_normal ?_|refine .block_normal ?_|refine .seq ?_|refine .block ?_|refine .skip ?_|refine .region ?_|refine .ret ?_|refine .then_ret ?_|refine .block_ret ?_|refine .exit ?_|refine .then_exit ?_|refine .block_exit ?_|refine .block_other rfl ?_); try refine .run TBok 99 rfl ?_))
      refine StL.step rfl rfl rfl (RunsTo.shl (32 * k) rfl rfl (by rw [i64_id (by omega) (by omega)]; omega) (by show 32 * k ≤ 64; omega)).op ?_
      rintro _ _ ⟨rfl, rfl⟩
      have e0 : (4294967296 : Nat) ^ k = 2 ^ (32 * k) := by rw [Nat.pow_mul]
      have hlk : (xs.take k).length = k := by simp; omega
      rw [hlk, e0] at hv
      rw [e0] at hs
      have e1 : IntKind.u64.wrap (IntKind.u64.wrap (x : Int) * 2 ^ (32 * k)) = ((x * 2 ^ (32 * k) : Nat) : Int) := by
        rw [u64_id (n := (x : Int)) (by omega) (by omega), u64_id]
        · simp
        · exact Int.mul_nonneg (by omega) (Int.le_of_lt (Int.pow_pos (by decide)))
        · have : (x : Int) * 2 ^ (32 * k) = ((x * 2 ^ (32 * k) : Nat) : Int) := by simp
          omega
      rw [e1]
      refine StL.as TBok 1 (.int .u64 (val (xs.take (k + 1)))) rfl ?_ ?_
      · rw [or_u64 _ _ (by omega) (by omega), or_low _ _ _ hv, hs]
      (iterate 6 ((repeat with_reducible first|refine .nil ?_|refine .then_normal ?_|refine .block_normal ?_|refine .seq ?_|refine .block ?_|refine .skip ?_|refine .region ?_|refine .ret ?_|refine .then_ret ?_|refine .block_ret ?_|refine .exit ?_|refine .then_exit ?_|refine .block_exit ?_|refine .block_other rfl ?_); try refine .run TBok 99 rfl ?_))
      refine Out.again (k + 1) ⟨rfl, rfl, ?_, trivial⟩ ⟨rfl, by omega, by omega⟩ (by omega)
      show some (Value.int .i64 (IntKind.i64.wrap ((k : Int) + 1))) = _
      rw [i64_id (by omega) (by omega)]
      rfl
    · have hk' : k = 2 := by omega
      subst hk'
      (repeat with_reducible first|refine .nil ?_|refine .then_normal ?_|refine .block_normal ?_|refine .seq ?_|refine .block ?_|refine .skip ?_|refine .region ?_|refine .ret ?_|refine .then_ret ?_|refine .block_ret ?_|refine .exit ?_|refine .then_exit ?_|refine .block_exit ?_|refine .block_other rfl ?_)
      refine StL.as TBok 4 (.bool true) rfl (bool_true (by omega)) ?_
      (iterate 6 ((repeat with_reducible first|refine .nil ?_|refine .then_normal ?_|refine .block_normal ?_|refine .seq ?_|refine .block ?_|refine .skip ?_|refine .region ?_|refine .ret ?_|refine .then_ret ?_|refine .block_ret ?_|refine .exit ?_|refine .then_exit ?_|refine .block_exit ?_|refine .block_other rfl ?_); try refine .run TBok 99 rfl ?_))
      refine St.condF rfl rfl ?_
      (iterate 6 ((repeat with_reducible first|refine .nil ?_|refine .then_normal ?_|refine .block_normal ?_|refine .seq ?_|refine .block ?_|refine .skip ?_|refine .region ?_|refine .ret ?_|refine .then_ret ?_|refine .block_ret ?_|refine .exit ?_|refine .then_exit ?_|refine .block_exit ?_|refine .block_other rfl ?_); try refine .run TBok 99 rfl ?_))
      exact Out.ret1 rfl rfl ⟨Ext.refl _, rfl⟩
  · (repeat with_reducible first|refine .nil ?_|refine .then_normal ?_|refine .block_normal ?_|refine .seq ?_|refine .block ?_|refine .skip ?_|refine .region ?_|refine .ret ?_|refine .then_ret ?_|refine .block_ret ?_|refine .exit ?_|refine .then_exit ?_|refine .block_exit ?_|refine .block_other rfl ?_)
    refine StL.as TBok 4 (.bool false) rfl (bool_false (by omega)) ?_
    (iterate 6 ((repeat with_reducible first|refine .nil ?_|refine .then_normal ?_|refine .block_normal ?_|refine .seq ?_|refine .block ?_|refine .skip ?_|refine .region ?_|refine .ret ?_|refine .then_ret ?_|refine .block_ret ?_|refine .exit ?_|refine .then_exit ?_|refine .block_exit ?_|refine .block_other rfl ?_); try refine .run TBok 99 rfl ?_))
    refine St.condF rfl rfl ?_
    (iterate 6 ((repeat with_reducible first|refine .nil ?_|refine .then_normal ?_|refine .block_normal ?_|refine .seq ?_|refine .block ?_|refine .skip ?_|refine .region ?_|refine .ret ?_|refine .then_ret ?_|refine .block_ret ?_|refine .exit ?_|refine .then_exit ?_|refine .block_exit ?_|refine .block_other rfl ?_); try refine .run TBok 99 rfl ?_))
    refine Out.ret1 rfl rfl ⟨Ext.refl _, ?_⟩
    rw [List.take_of_length_le (by omega), List.take_of_length_le (by omega)]

theorem same_true {b1 b2 : Nat} {w : World} {x y : Value} {a : Int} (h : CanO b1 w x a) (k : CanO b2 w y a) (hs : sz a ≤ 100000000) :
    Calls Try.prog 31 #[x, y] w (Ret fun r w' => Ext w w' ∧ r = .bool true) := by
  refine (same_can h k hs hs).mono ?_
  rintro e w' ⟨r, rfl, hx, rfl⟩
  exact ⟨_, rfl, hx, by simp⟩

theorem same_den {w : World} {x y : Value} {na : Bool} {xs : List Nat} (h : Den w x na xs) (k : Den w y na xs) (hlen : xs.length ≤ 100000000) : Calls Try.prog 31 #[x, y] w (Ret fun r w' => Ext w w' ∧ r = .bool true) := by
  refine (same_spec w x y na na xs xs h k hlen hlen).mono ?_
  rintro e w' ⟨r, rfl, hx, rfl⟩
  exact ⟨_, rfl, hx, by simp⟩

end Go.Qf

/- quadformref01: sum, difference, Add, Sub. -/
namespace Go.Qf
open Go Go.RowKit Go.Proofs
set_option maxRecDepth 20000

/-- append(out, x): limbs in a slice of the call's own. -/
theorem StL.push32 {n : Nat} {E : List (Nat × Value)} {w w0 : World} {ops : Array Oper} {rest : List Oper} {Q : Exit → Act → World → Prop} {d1 d2 : Nat} {x : Operand} {s : Nat} {ty ty2 : TypeId} {pos pos2 : String} {af af2 : Array Edge} {base : Nat} {tv : Value} {xs : List Nat} (b : Nat) {bv : Int}
    (hx : ov E x = some (.int .u32 bv)) (hbv : bv = b) (hb32 : b < 4294967296) (hs : ∀ p, look ((d1, p) :: E) s = some tv) (hown : SlO base w tv xs) (hlen : xs.length ≤ 10000000000) (hx0 : Ext w0 w) (hb0 : w0.heap.size ≤ base) (hbase : base ≤ w.heap.size) (hn : Nat.blt d1 n = true) (hn2 : Nat.blt d2 n = true)
    (next : ∀ p v' w' wm, Ext w wm → SlO base wm tv xs → wm.grownBy w' tv.ownBlock → SlO base w' v' (xs ++ [b]) → Ext w0 w' → StL Try.prog n ((d2, v') :: (d1, p) :: E) w' ops rest Q) :
    StL Try.prog n E w ops (⟨some d1, .buildSlice 23 1 #[(0, x)], ty, pos, af, none⟩ :: ⟨some d2, .call ⟨.builtin .append, #[.tmp s, .tmp d1], #[23, 23]⟩, ty2, pos2, af2, none⟩ :: rest) Q := by
  subst hbv
  refine StL.step rfl rfl hn (OpR.single TBok rfl rfl rfl hx) ?_
  rintro _ wm ⟨rfl, hbm, hxm, hzm⟩
  have hown' := hown.ext hxm
  have hrow : Row 41 wm (.slice (some ⟨w.heap.size, 0, none⟩) 1 1) ([b].map u32) := hbm.row rfl (by simp) (by simp) rfl
  refine StL.step rfl rfl hn2 (OpR.append TBok rfl rfl rfl rfl (hs _) (look_cons_self _ _ _) hown'.1 hrow (u32_one [b]) (by simp; omega) (by simp; omega) (by have := hxm.size; omega)) ?_
  rintro v' w' ⟨ho, hg, _⟩
  refine next _ v' w' wm hxm hown' hg ⟨?_, ?_⟩ ((hx0.trans hxm).grown hown'.1 hb0 hg)
  · rw [List.map_append]; exact ho
  · refine hown.2.append ?_
    intro y hy; simp at hy; omega

theorem take_succ_getD (xs : List Nat) (i : Nat) : val (xs.take (i + 1)) = val (xs.take i) + xs.getD i 0 * 4294967296 ^ i := by
  by_cases h : i < xs.length
  · have hx : xs[i]? = some xs[i] := by simp
    rw [val_take_succ hx]
    simp [List.getD_eq_getElem?_getD, hx]
  · rw [List.take_of_length_le (by omega), List.take_of_length_le (by omega), List.getD_eq_getElem?_getD, List.getElem?_eq_none (by omega)]
    simp

theorem getD_lim {xs : List Nat} (h : Lim xs) (i : Nat) : xs.getD i 0 < 4294967296 := lim_getD h i

theorem val_snoc (xs : List Nat) (x : Nat) : val (xs ++ [x]) = val xs + 4294967296 ^ xs.length * x := by
  rw [val_append]; simp [val]

theorem u32_of (t : Nat) : IntKind.u32.wrap (t : Int) = ((t % 4294967296 : Nat) : Int) := by rw [wrap_u32]; omega
theorem u64_of (t : Nat) (h : t < 18446744073709551616) : IntKind.u64.wrap (t : Int) = (t : Int) := u64_id (by omega) (by omega)

set_option maxHeartbeats 400000 in
theorem rsum_spec (w : World) (u v : Value) (xs ys : List Nat) (h : Sl w u xs) (k : Sl w v ys) (hlen : xs.length ≤ 1000000000) (hl : ys.length ≤ 1000000000) :
    Calls Try.prog 115 #[u, v] w (Ret fun r w' => Ext w w' ∧ ∃ us, SlO 0 w' r us ∧ us.length ≤ max xs.length ys.length + 1 ∧ val us = val xs + val ys) := by
  obtain ⟨p, c, rfl, _⟩ := h.form
  obtain ⟨q, d, rfl, _⟩ := k.form
  refine calls_of_St (args := [_, _]) Try.func115 rfl Try.ntmps115 rfl ?_
  (iterate 6 ((repeat with_reducible first|refine .nil ?_|refine .then_normal ?_|refine .block_normal ?_|refine .seq ?_|refine .block ?_|refine .skip ?_|refine .region ?_|refine .ret ?_|refine .then_ret ?_|refine .block_ret ?_|refine .exit ?_|refine .then_exit ?_|refine .block_exit ?_|refine .block_other rfl ?_); try refine .run TBok 99 rfl ?_))
  refine St.loop (fun g : Value × List Nat × Nat × Nat => [(0, .slice p xs.length c), (1, .slice q ys.length d), (5, g.1), (6, .int .u64 g.2.2.1), (7, .int .i64 g.2.2.2)])
    (fun g w' => Ext w w' ∧ SlO w.heap.size w' g.1 g.2.1 ∧ g.2.1.length = g.2.2.2 ∧ g.2.2.1 ≤ 1 ∧ g.2.2.2 ≤ max xs.length ys.length ∧ val g.2.1 + g.2.2.1 * 4294967296 ^ g.2.2.2 = val (xs.take g.2.2.2) + val (ys.take g.2.2.2))
    (fun g => max xs.length ys.length - g.2.2.2) (.slice none 0 0, [], 0, 0) ⟨rfl, rfl, rfl, rfl, rfl, trivial⟩ ⟨Ext.refl _, SlO.nil _ _, rfl, by decide, Nat.zero_le _, rfl⟩ ?_
  rintro ⟨ov, os, cy, i⟩ w1 ⟨hx1, ho, hol, hcy, hi, hinv⟩
  dsimp only at hx1 ho hol hcy hi hinv ⊢
  have hA := h.ext hx1
  have hB := k.ext hx1
  have hxl := getD_lim h.2 i
  have hyl := getD_lim k.2 i
  by_cases hlt : i < max xs.length ys.length
  · refine St.cut (fun _ : Unit => [(0, .slice p xs.length c), (1, .slice q ys.length d), (5, ov), (6, .int .u64 cy), (7, .int .i64 i)]) (fun _ w' => w' = w1) ?_ ?_
    · (repeat with_reducible first|refine .nil ?_|refine .then_normal ?_|refine .block_normal ?_|refine .seq ?_|refine .block ?_|refine .skip ?_|refine .region ?_|refine .ret ?_|refine .then_ret ?_|refine .block_ret ?_|refine .exit ?_|refine .then_exit ?_|refine .block_exit ?_|refine .block_other rfl ?_)
      by_cases hx : i < xs.length
      · refine StL.as TBok 4 (.bool true) rfl (bool_true (by omega)) ?_
        (iterate 6 ((repeat with_reducible first|refine .nil ?_|refine .then_normal ?_|refine .block_normal ?_|refine .seq ?_|refine .block ?_|refine .skip ?_|refine .region ?_|refine .ret ?_|refine .then_ret ?_|refine .block_ret ?_|refine .exit ?_|refine .then_exit ?_|refine .block_exit ?_|refine .block_other rfl ?_); try refine .run TBok 99 rfl ?_))
        refine St.condT rfl rfl ?_
        exact St.skip (Out.met () ⟨rfl, rfl, rfl, rfl, rfl, trivial⟩ rfl)
      · refine StL.as TBok 4 (.bool false) rfl (bool_false (by omega)) ?_
        refine StL.as TBok 5 (.bool true) rfl (bool_true (by omega)) ?_
        (iterate 6 ((repeat with_reducible first|refine .nil ?_|refine .then_normal ?_|refine .block_normal ?_|refine .seq ?_|refine .block ?_|refine .skip ?_|refine .region ?_|refine .ret ?_|refine .then_ret ?_|refine .block_ret ?_|refine .exit ?_|refine .then_exit ?_|refine .block_exit ?_|refine .block_other rfl ?_); try refine .run TBok 99 rfl ?_))
        refine St.condT rfl rfl ?_
        exact St.skip (Out.met () ⟨rfl, rfl, rfl, rfl, rfl, trivial⟩ rfl)
    rintro _ w1 rfl
    refine St.seq (St.block (St.seq (St.cutX (fun _ : Unit => [(0, .slice p xs.length c), (1, .slice q ys.length d), (5, ov), (6, .int .u64 ((cy + xs.getD i 0 : Nat) : Int)), (7, .int .i64 i)]) (fun _ w' => w' = w1) ?_ ?_)))
    · (iterate 6 ((repeat with_reducible first|refine .nil ?_|refine .then_normal ?_|refine .block_normal ?_|refine .seq ?_|refine .block ?_|refine .skip ?_|refine .region ?_|refine .ret ?_|refine .then_ret ?_|refine .block_ret ?_|refine .exit ?_|refine .then_exit ?_|refine .block_exit ?_|refine .block_other rfl ?_); try refine .run TBok 99 rfl ?_))
      by_cases hx : i < xs.length
      · refine St.condT rfl (by simp; omega) ?_
        have hxi : xs[i]? = some xs[i] := by simp
        have hg : xs.getD i 0 = xs[i] := by simp [List.getD_eq_getElem?_getD, hxi]
        rw [hg] at hxl ⊢
        generalize xs[i] = x at hxi hxl ⊢
        (repeat with_reducible first|refine .nil ?_|refine .then_normal ?_|refine .block_normal ?_|refine .seq ?_|refine .block ?_|refine .skip ?_|refine .region ?_|refine .ret ?_|refine .then_ret ?_|refine .block_ret ?_|refine .exit ?_|refine .then_exit ?_|refine .block_exit ?_|refine .block_other rfl ?_)
        refine .run TBok 99 rfl ?_
        refine StL.elem TBok i (u32 x) hA.1 (hA.get hxi) rfl rfl rfl rfl rfl rfl rfl rfl rfl rfl rfl (fun _ => rfl) ?_
        intro p1
        refine StL.as TBok 2 (.int .u64 ((cy + x : Nat) : Int)) rfl (by congr 1; rw [u64_of x (by omega)]; exact u64_of (cy + x) (by omega)) ?_
        refine .run TBok 99 rfl ?_
        exact StL.nil (Out.met () ⟨rfl, rfl, rfl, rfl, rfl, trivial⟩ rfl)
      · refine St.condF rfl (by simp; omega) ?_
        have hg : xs.getD i 0 = 0 := by rw [List.getD_eq_getElem?_getD, List.getElem?_eq_none (by omega)]; rfl
        rw [hg]
        exact St.skip (Out.met () ⟨rfl, rfl, rfl, rfl, rfl, trivial⟩ rfl)
    rintro _ w1 rfl
    refine St.seq (St.cutX (fun _ : Unit => [(0, .slice p xs.length c), (1, .slice q ys.length d), (5, ov), (6, .int .u64 ((cy + xs.getD i 0 + ys.getD i 0 : Nat) : Int)), (7, .int .i64 i)]) (fun _ w' => w' = w1) ?_ ?_)
    · (iterate 6 ((repeat with_reducible first|refine .nil ?_|refine .then_normal ?_|refine .block_normal ?_|refine .seq ?_|refine .block ?_|refine .skip ?_|refine .region ?_|refine .ret ?_|refine .then_ret ?_|refine .block_ret ?_|refine .exit ?_|refine .then_exit ?_|refine .block_exit ?_|refine .block_other rfl ?_); try refine .run TBok 99 rfl ?_))
      by_cases hx : i < ys.length
      · refine St.condT rfl (by simp; omega) ?_
        have hyi : ys[i]? = some ys[i] := by simp
        have hg : ys.getD i 0 = ys[i] := by simp [List.getD_eq_getElem?_getD, hyi]
        rw [hg] at hyl ⊢
        generalize ys[i] = y at hyi hyl ⊢
        generalize xs.getD i 0 = x at hxl ⊢
        (repeat with_reducible first|refine .nil ?_|refine .then_normal ?_|refine .block_normal ?_|refine .seq ?_|refine .block ?_|refine .skip ?_|refine .region ?_|refine .ret ?_|refine .then_ret ?_|refine .block_ret ?_|refine .exit ?_|refine .then_exit ?_|refine .block_exit ?_|refine .block_other rfl ?_)
        refine .run TBok 99 rfl ?_
        refine StL.elem TBok i (u32 y) hB.1 (hB.get hyi) rfl rfl rfl rfl rfl rfl rfl rfl rfl rfl rfl (fun _ => rfl) ?_
        intro p1
        refine StL.as TBok 2 (.int .u64 ((cy + x + y : Nat) : Int)) rfl (by congr 1; rw [u64_of y (by omega)]; exact u64_of (cy + x + y) (by omega)) ?_
        refine .run TBok 99 rfl ?_
        exact StL.nil (Out.met () ⟨rfl, rfl, rfl, rfl, rfl, trivial⟩ rfl)
      · refine St.condF rfl (by simp; omega) ?_
        have hg : ys.getD i 0 = 0 := by rw [List.getD_eq_getElem?_getD, List.getElem?_eq_none (by omega)]; rfl
        rw [hg]
        exact St.skip (Out.met () ⟨rfl, rfl, rfl, rfl, rfl, trivial⟩ rfl)
    rintro _ w1 rfl
    have hX := take_succ_getD xs i
    have hY := take_succ_getD ys i
    generalize xs.getD i 0 = x at hxl hX ⊢
    generalize ys.getD i 0 = y at hyl hY ⊢
    (repeat with_reducible first|refine .nil ?_|refine .then_normal ?_|refine .block_normal ?_|refine .seq ?_|refine .block ?_|refine .skip ?_|refine .region ?_|refine .ret ?_|refine .then_ret ?_|refine .block_ret ?_|refine .exit ?_|refine .then_exit ?_|refine .block_exit ?_|refine .block_other rfl ?_)
    refine .run TBok 99 rfl ?_
    refine StL.push32 ((cy + x + y) % 4294967296) rfl (u32_of _) (Nat.mod_lt _ (by decide)) (fun _ => rfl) ho (by omega) hx1 (Nat.le_refl _) hx1.size rfl rfl ?_
    intro p2 v' w2 wm hxm hom hgr ho2 hx2
    (iterate 6 ((repeat with_reducible first|refine .nil ?_|refine .then_normal ?_|refine .block_normal ?_|refine .seq ?_|refine .block ?_|refine .skip ?_|refine .region ?_|refine .ret ?_|refine .then_ret ?_|refine .block_ret ?_|refine .exit ?_|refine .then_exit ?_|refine .block_exit ?_|refine .block_other rfl ?_); try refine .run TBok 99 rfl ?_))
    refine Out.again (v', os ++ [(cy + x + y) % 4294967296], (cy + x + y) / 4294967296, i + 1) ⟨rfl, rfl, rfl, ?_, ?_, trivial⟩ ⟨hx2, ho2, by simp [hol], by dsimp only; omega, by dsimp only; omega, ?_⟩ (by dsimp only; omega)
    · show some (Value.int .u64 (((cy + x + y : Nat) : Int) / 2 ^ 32)) = _
      rw [show ((2 : Int) ^ 32) = 4294967296 from rfl]
      congr 2
    · show some (Value.int .i64 (IntKind.i64.wrap ((i : Int) + 1))) = _
      rw [i64_id (by omega) (by omega)]; rfl
    · dsimp only
      rw [val_snoc, hol, hX, hY, Nat.pow_succ]
      have hdm := Nat.mod_add_div (cy + x + y) 4294967296
      have e : (cy + x + y) / 4294967296 * (4294967296 ^ i * 4294967296) = 4294967296 ^ i * (4294967296 * ((cy + x + y) / 4294967296)) := by
        rw [Nat.mul_comm, Nat.mul_assoc]
      rw [e, Nat.add_assoc, ← Nat.mul_add, hdm, Nat.mul_add, Nat.mul_add, Nat.mul_comm x, Nat.mul_comm y, Nat.mul_comm _ cy]
      omega
  · have hi' : i = max xs.length ys.length := by omega
    (repeat with_reducible first|refine .nil ?_|refine .then_normal ?_|refine .block_normal ?_|refine .seq ?_|refine .block ?_|refine .skip ?_|refine .region ?_|refine .ret ?_|refine .then_ret ?_|refine .block_ret ?_|refine .exit ?_|refine .then_exit ?_|refine .block_exit ?_|refine .block_other rfl ?_)
    refine StL.as TBok 4 (.bool false) rfl (bool_false (by omega)) ?_
    refine StL.as TBok 5 (.bool false) rfl (bool_false (by omega)) ?_
    (iterate 6 ((repeat with_reducible first|refine .nil ?_|refine .then_normal ?_|refine .block_normal ?_|refine .seq ?_|refine .block ?_|refine .skip ?_|refine .region ?_|refine .ret ?_|refine .then_ret ?_|refine .block_ret ?_|refine .exit ?_|refine .then_exit ?_|refine .block_exit ?_|refine .block_other rfl ?_); try refine .run TBok 99 rfl ?_))
    refine St.condF rfl rfl ?_
    (repeat with_reducible first|refine .nil ?_|refine .then_normal ?_|refine .block_normal ?_|refine .seq ?_|refine .block ?_|refine .skip ?_|refine .region ?_|refine .ret ?_|refine .then_ret ?_|refine .block_ret ?_|refine .exit ?_|refine .then_exit ?_|refine .block_exit ?_|refine .block_other rfl ?_)
    refine .run TBok 99 rfl ?_
    refine StL.push32 cy rfl (by rw [u32_of]; congr 1; omega) (by omega) (fun _ => rfl) ho (by omega) hx1 (Nat.le_refl _) hx1.size rfl rfl ?_
    intro p2 v' w2 wm hxm hom hgr ho2 hx2
    (iterate 6 ((repeat with_reducible first|refine .nil ?_|refine .then_normal ?_|refine .block_normal ?_|refine .seq ?_|refine .block ?_|refine .skip ?_|refine .region ?_|refine .ret ?_|refine .then_ret ?_|refine .block_ret ?_|refine .exit ?_|refine .then_exit ?_|refine .block_exit ?_|refine .block_other rfl ?_); try refine .run TBok 99 rfl ?_))
    refine Out.ret1 rfl rfl ⟨hx2, _, ho2.mono (Nat.zero_le _), by simp; omega, ?_⟩
    rw [List.take_of_length_le (by omega), List.take_of_length_le (by omega)] at hinv
    rw [val_snoc, hol, ← hinv, Nat.mul_comm]

set_option maxHeartbeats 400000 in
theorem rdiff_spec {base : Nat} (w : World) (u v : Value) (xs ys : List Nat) (h : Sl w u xs) (k : Sl w v ys) (hlen : xs.length ≤ 1000000000) (_hl : ys.length ≤ 1000000000) (hll : ys.length ≤ xs.length) (hge : val ys ≤ val xs) (hbase : base ≤ w.heap.size) :
    Calls Try.prog 116 #[u, v] w (Ret fun r w' => Ext w w' ∧ ∃ us, SlO base w' r us ∧ us.length = xs.length ∧ val us = val xs - val ys) := by
  obtain ⟨p, c, rfl, _⟩ := h.form
  obtain ⟨q, d, rfl, _⟩ := k.form
  refine calls_of_St (args := [_, _]) Try.func116 rfl Try.ntmps116 rfl ?_
  (iterate 6 ((repeat with_reducible first|refine .nil ?_|refine .then_normal ?_|refine .block_normal ?_|refine .seq ?_|refine .block ?_|refine .skip ?_|refine .region ?_|refine .ret ?_|refine .then_ret ?_|refine .block_ret ?_|refine .exit ?_|refine .then_exit ?_|refine .block_exit ?_|refine .block_other rfl ?_); try refine .run TBok 99 rfl ?_))
  refine St.loop (fun g : Value × List Nat × Nat × Nat => [(0, .slice p xs.length c), (1, .slice q ys.length d), (5, g.1), (6, .int .u64 g.2.2.1), (7, .int .i64 g.2.2.2)])
    (fun g w' => Ext w w' ∧ SlO w.heap.size w' g.1 g.2.1 ∧ g.2.1.length = g.2.2.2 ∧ g.2.2.1 ≤ 1 ∧ g.2.2.2 ≤ xs.length ∧ val g.2.1 + val (ys.take g.2.2.2) = val (xs.take g.2.2.2) + g.2.2.1 * 4294967296 ^ g.2.2.2)
    (fun g => xs.length - g.2.2.2) (.slice none 0 0, [], 0, 0) ⟨rfl, rfl, rfl, rfl, rfl, trivial⟩ ⟨Ext.refl _, SlO.nil _ _, rfl, by decide, Nat.zero_le _, rfl⟩ ?_
  rintro ⟨ov, os, cy, i⟩ w1 ⟨hx1, ho, hol, hcy, hi, hinv⟩
  dsimp only at hx1 ho hol hcy hi hinv ⊢
  have hA := h.ext hx1
  have hB := k.ext hx1
  have hyl := getD_lim k.2 i
  by_cases hlt : i < xs.length
  · have hxi : xs[i]? = some xs[i] := by simp
    have hX := val_take_succ hxi
    generalize xs[i] = x at hxi hX
    have hxl := h.2.get hxi
    (repeat with_reducible first|refine .nil ?_|refine .then_normal ?_|refine .block_normal ?_|refine .seq ?_|refine .block ?_|refine .skip ?_|refine .region ?_|refine .ret ?_|refine .then_ret ?_|refine .block_ret ?_|refine .exit ?_|refine .then_exit ?_|refine .block_exit ?_|refine .block_other rfl ?_)
    refine StL.as TBok 4 (.bool true) rfl (bool_true (by omega)) ?_
    (repeat with_reducible first|refine .nil ?_|refine .then_normal ?_|refine .block_normal ?_|refine .seq ?_|refine .block ?_|refine .skip ?_|refine .region ?_|refine .ret ?_|refine .then_ret ?_|refine .block_ret ?_|refine .exit ?_|refine .then_exit ?_|refine .block_exit ?_|refine .block_other rfl ?_)
    refine St.condT rfl rfl ?_
    refine St.skip (Out.then_normal (St.seq (St.block ?_)))
    (repeat with_reducible first|refine .nil ?_|refine .then_normal ?_|refine .block_normal ?_|refine .seq ?_|refine .block ?_|refine .skip ?_|refine .region ?_|refine .ret ?_|refine .then_ret ?_|refine .block_ret ?_|refine .exit ?_|refine .then_exit ?_|refine .block_exit ?_|refine .block_other rfl ?_)
    refine .run TBok 99 rfl ?_
    (refine StL.nil ?_; repeat with_reducible first | refine Out.then_normal ?_ | refine Out.block_normal ?_)
    refine St.cut (fun _ : Unit => [(0, .slice p xs.length c), (1, .slice q ys.length d), (5, ov), (7, .int .i64 i), (8, .int .u64 ((cy + ys.getD i 0 : Nat) : Int))]) (fun _ w' => w' = w1) ?_ ?_
    · (iterate 6 ((repeat with_reducible first|refine .nil ?_|refine .then_normal ?_|refine .block_normal ?_|refine .seq ?_|refine .block ?_|refine .skip ?_|refine .region ?_|refine .ret ?_|refine .then_ret ?_|refine .block_ret ?_|refine .exit ?_|refine .then_exit ?_|refine .block_exit ?_|refine .block_other rfl ?_); try refine .run TBok 99 rfl ?_))
      by_cases hx : i < ys.length
      · refine St.condT rfl (by simp; omega) ?_
        have hyi : ys[i]? = some ys[i] := by simp
        have hg : ys.getD i 0 = ys[i] := by simp [List.getD_eq_getElem?_getD, hyi]
        rw [hg] at hyl ⊢
        generalize ys[i] = y at hyi hyl ⊢
        (repeat with_reducible first|refine .nil ?_|refine .then_normal ?_|refine .block_normal ?_|refine .seq ?_|refine .block ?_|refine .skip ?_|refine .region ?_|refine .ret ?_|refine .then_ret ?_|refine .block_ret ?_|refine .exit ?_|refine .then_exit ?_|refine .block_exit ?_|refine .block_other rfl ?_)
        refine .run TBok 99 rfl ?_
        refine StL.elem TBok i (u32 y) hB.1 (hB.get hyi) rfl rfl rfl rfl rfl rfl rfl rfl rfl rfl rfl (fun _ => rfl) ?_
        intro p1
        refine StL.as TBok 2 (.int .u64 ((cy + y : Nat) : Int)) rfl (by congr 1; rw [u64_of y (by omega)]; exact u64_of (cy + y) (by omega)) ?_
        refine .run TBok 99 rfl ?_
        exact StL.nil (Out.met () ⟨rfl, rfl, rfl, rfl, rfl, trivial⟩ rfl)
      · refine St.condF rfl (by simp; omega) ?_
        have hg : ys.getD i 0 = 0 := by rw [List.getD_eq_getElem?_getD, List.getElem?_eq_none (by omega)]; rfl
        rw [hg]
        exact St.skip (Out.met () ⟨rfl, rfl, rfl, rfl, rfl, trivial⟩ rfl)
    rintro _ w1 rfl
    have hY := take_succ_getD ys i
    generalize ys.getD i 0 = y at hyl hY ⊢
    obtain ⟨t, ht⟩ : ∃ t, t = cy + y := ⟨_, rfl⟩
    rw [← ht]
    obtain ⟨nb, hnb, hnb1⟩ : ∃ nb, nb = (if x < t then 1 else 0) ∧ nb ≤ 1 := ⟨_, rfl, by split <;> omega⟩
    obtain ⟨dg, hdg⟩ : ∃ dg, dg = x + nb * 4294967296 - t := ⟨_, rfl⟩
    have hdig : dg < 4294967296 ∧ dg + t = x + nb * 4294967296 := by
      rw [hdg, hnb]
      split <;> omega
    (repeat with_reducible first|refine .nil ?_|refine .then_normal ?_|refine .block_normal ?_|refine .seq ?_|refine .block ?_|refine .skip ?_|refine .region ?_|refine .ret ?_|refine .then_ret ?_|refine .block_ret ?_|refine .exit ?_|refine .then_exit ?_|refine .block_exit ?_|refine .block_other rfl ?_)
    refine .run TBok 99 rfl ?_
    refine StL.elem TBok i (u32 x) hA.1 (hA.get hxi) rfl rfl rfl rfl rfl rfl rfl rfl rfl rfl rfl (fun _ => rfl) ?_
    intro p1
    refine .run TBok 99 rfl ?_
    refine StL.push32 dg rfl (by rw [u64_of x (by omega), wrap_u32, wrap_u64]; omega) hdig.1 (fun _ => rfl) ho (by omega) hx1 (Nat.le_refl _) hx1.size rfl rfl ?_
    intro p2 v' w2 wm hxm hom hgr ho2 hx2
    (iterate 6 ((repeat with_reducible first|refine .nil ?_|refine .then_normal ?_|refine .block_normal ?_|refine .seq ?_|refine .block ?_|refine .skip ?_|refine .region ?_|refine .ret ?_|refine .then_ret ?_|refine .block_ret ?_|refine .exit ?_|refine .then_exit ?_|refine .block_exit ?_|refine .block_other rfl ?_); try refine .run TBok 99 rfl ?_))
    refine StL.elem TBok i (u32 x) (h.ext hx2).1 ((h.ext hx2).get hxi) rfl rfl rfl rfl rfl rfl rfl rfl rfl rfl rfl (fun _ => rfl) ?_
    intro p3
    refine StL.as TBok 1 (.int .u64 x) rfl (by rw [u64_of x (by omega)]) ?_
    refine .run TBok 99 rfl ?_
    (refine StL.nil ?_; repeat with_reducible first | refine Out.then_normal ?_ | refine Out.block_normal ?_)
    have hfin : val (os ++ [dg]) + val (ys.take (i + 1)) = val (xs.take (i + 1)) + nb * 4294967296 ^ (i + 1) := by
      rw [val_snoc, hol, hX, hY, Nat.pow_succ]
      generalize 4294967296 ^ i = P at *
      have e1 : P * dg + (cy * P + y * P) = x * P + nb * (P * 4294967296) := by
        have := congrArg (fun z => P * z) hdig.2
        simp only [ht, Nat.mul_add] at this
        rw [Nat.mul_comm cy, Nat.mul_comm y, Nat.mul_comm x, this, ← Nat.mul_assoc, Nat.mul_comm P nb, Nat.mul_assoc]
      generalize P * dg = A at *
      generalize cy * P = B at *
      generalize y * P = C at *
      generalize x * P = D at *
      generalize nb * (P * 4294967296) = F at *
      omega
    by_cases hx : x < t
    · refine St.condT rfl (by simp; omega) ?_
      rw [if_pos hx] at hnb
      subst hnb
      (iterate 6 ((repeat with_reducible first|refine .nil ?_|refine .then_normal ?_|refine .block_normal ?_|refine .seq ?_|refine .block ?_|refine .skip ?_|refine .region ?_|refine .ret ?_|refine .then_ret ?_|refine .block_ret ?_|refine .exit ?_|refine .then_exit ?_|refine .block_exit ?_|refine .block_other rfl ?_); try refine .run TBok 99 rfl ?_))
      refine Out.again (v', os ++ [dg], 1, i + 1) ⟨rfl, rfl, rfl, rfl, ?_, trivial⟩ ⟨hx2, ho2, by simp [hol], hnb1, by dsimp only; omega, hfin⟩ (by dsimp only; omega)
      show some (Value.int .i64 (IntKind.i64.wrap ((i : Int) + 1))) = _
      rw [i64_id (by omega) (by omega)]; rfl
    · refine St.condF rfl (by simp; omega) ?_
      rw [if_neg hx] at hnb
      subst hnb
      (iterate 6 ((repeat with_reducible first|refine .nil ?_|refine .then_normal ?_|refine .block_normal ?_|refine .seq ?_|refine .block ?_|refine .skip ?_|refine .region ?_|refine .ret ?_|refine .then_ret ?_|refine .block_ret ?_|refine .exit ?_|refine .then_exit ?_|refine .block_exit ?_|refine .block_other rfl ?_); try refine .run TBok 99 rfl ?_))
      refine Out.again (v', os ++ [dg], 0, i + 1) ⟨rfl, rfl, rfl, rfl, ?_, trivial⟩ ⟨hx2, ho2, by simp [hol], hnb1, by dsimp only; omega, hfin⟩ (by dsimp only; omega)
      show some (Value.int .i64 (IntKind.i64.wrap ((i : Int) + 1))) = _
      rw [i64_id (by omega) (by omega)]; rfl
  · have hi' : i = xs.length := by omega
    (repeat with_reducible first|refine .nil ?_|refine .then_normal ?_|refine .block_normal ?_|refine .seq ?_|refine .block ?_|refine .skip ?_|refine .region ?_|refine .ret ?_|refine .then_ret ?_|refine .block_ret ?_|refine .exit ?_|refine .then_exit ?_|refine .block_exit ?_|refine .block_other rfl ?_)
    refine StL.as TBok 4 (.bool false) rfl (bool_false (by omega)) ?_
    (repeat with_reducible first|refine .nil ?_|refine .then_normal ?_|refine .block_normal ?_|refine .seq ?_|refine .block ?_|refine .skip ?_|refine .region ?_|refine .ret ?_|refine .then_ret ?_|refine .block_ret ?_|refine .exit ?_|refine .then_exit ?_|refine .block_exit ?_|refine .block_other rfl ?_)
    refine St.condF rfl rfl ?_
    (iterate 6 ((repeat with_reducible first|refine .nil ?_|refine .then_normal ?_|refine .block_normal ?_|refine .seq ?_|refine .block ?_|refine .skip ?_|refine .region ?_|refine .ret ?_|refine .then_ret ?_|refine .block_ret ?_|refine .exit ?_|refine .then_exit ?_|refine .block_exit ?_|refine .block_other rfl ?_); try refine .run TBok 99 rfl ?_))
    refine Out.ret1 rfl rfl ⟨hx1, os, ho.mono hbase, by omega, ?_⟩
    rw [List.take_of_length_le (by omega), List.take_of_length_le (by omega)] at hinv
    have hlt2 := val_lt os ho.2
    rw [hol] at hlt2
    have : cy = 0 := by
      rcases Nat.eq_zero_or_pos cy with e | e
      · exact e
      · have : cy = 1 := by omega
        subst this
        omega
    subst this
    omega

theorem radd_dn {base : Nat} {w : World} {x y : Value} {a b : Int} (h : Dn w x a) (k : Dn w y b) (hbase : base ≤ w.heap.size) : Calls Try.prog 84 #[x, y] w (Ret fun r w' => Ext w w' ∧ CanO base w' r (a + b)) := by
  obtain ⟨na, xs, ⟨p, cap, rfl, hs⟩, rfl, hlen⟩ := h
  obtain ⟨nb, ys, ⟨q, cb, rfl, ks⟩, rfl, hl⟩ := k
  have hl1 := limbs_length_le xs hs.2
  have hl2 := limbs_length_le ys ks.2
  refine calls_of_St (args := [_, _]) Try.func84 rfl Try.ntmps84 rfl ?_
  (repeat with_reducible first|refine .nil ?_|refine .then_normal ?_|refine .block_normal ?_|refine .seq ?_|refine .block ?_|refine .skip ?_|refine .region ?_|refine .ret ?_|refine .then_ret ?_|refine .block_ret ?_|refine .exit ?_|refine .then_exit ?_|refine .block_exit ?_|refine .block_other rfl ?_)
  refine StL.step rfl rfl rfl (OpR.box rfl) ?_
  rintro _ w1 ⟨rfl, hb1, hx1, hz1⟩
  refine StL.step rfl rfl rfl (OpR.box rfl) ?_
  rintro _ w2 ⟨rfl, hb2, hx2, hz2⟩
  refine StL.step rfl rfl rfl (OpR.alloc TBok rfl) ?_
  rintro _ w3 ⟨rfl, hb3, hx3, hz3⟩
  (repeat with_reducible first|refine .nil ?_|refine .then_normal ?_|refine .block_normal ?_|refine .seq ?_|refine .block ?_|refine .skip ?_|refine .region ?_|refine .ret ?_|refine .then_ret ?_|refine .block_ret ?_|refine .exit ?_|refine .then_exit ?_|refine .block_exit ?_|refine .block_other rfl ?_)
  refine St.flow 6 TBfol (by kernel_rfl) rfl (by kernel_rfl) rfl True.intro ?_
  refine FL.run TBok 99 rfl ?_
  refine FL.load (L := []) TBok rfl rfl rfl rfl rfl rfl (by first | assumption | exact Ext.refl _ | (first | apply Blk.ext | apply CanO.ext | apply Den.ext | apply Sl.ext | apply SlO.ext | apply Dn.ext | apply It.ext | apply CanR.ext | apply DnR.ext | skip) <;> (repeat first | assumption | refine Ext.trans ?_ (by assumption))) (by simp) rfl ?_
  refine FL.callE fn_r01_trim rfl rfl rfl (fun w4 hx4 => CallF.mk rfl (rtrim_spec (base := 0) w4 _ xs (by first | assumption | exact Ext.refl _ | (first | apply Blk.ext | apply CanO.ext | apply Den.ext | apply Sl.ext | apply SlO.ext | apply Dn.ext | apply It.ext | apply CanR.ext | apply DnR.ext | skip) <;> (repeat first | assumption | refine Ext.trans ?_ (by assumption))) (by omega) (Nat.zero_le _))) (MonoR.slO 0 _) ?_
  refine FL.run TBok 99 rfl ?_
  refine FL.load (L := []) TBok rfl rfl rfl rfl rfl rfl (by first | assumption | exact Ext.refl _ | (first | apply Blk.ext | apply CanO.ext | apply Den.ext | apply Sl.ext | apply SlO.ext | apply Dn.ext | apply It.ext | apply CanR.ext | apply DnR.ext | skip) <;> (repeat first | assumption | refine Ext.trans ?_ (by assumption))) (by simp) rfl ?_
  refine FL.callE fn_r01_trim rfl rfl rfl (fun w4 hx4 => CallF.mk rfl (rtrim_spec (base := 0) w4 _ ys (by first | assumption | exact Ext.refl _ | (first | apply Blk.ext | apply CanO.ext | apply Den.ext | apply Sl.ext | apply SlO.ext | apply Dn.ext | apply It.ext | apply CanR.ext | apply DnR.ext | skip) <;> (repeat first | assumption | refine Ext.trans ?_ (by assumption))) (by omega) (Nat.zero_le _))) (MonoR.slO 0 _) ?_
  refine FL.endE rfl ?_
  intro w4 hx4 v12 h12 v9 h9 _ _
  obtain ⟨p9, c9, rfl, _⟩ := h9.sl.form
  obtain ⟨p12, c12, rfl, _⟩ := h12.sl.form
  generalize val xs = m at *
  generalize val ys = k at *
  have hx14 : Ext w w4 := (by first | assumption | exact Ext.refl _ | (first | apply Blk.ext | apply CanO.ext | apply Den.ext | apply Sl.ext | apply SlO.ext | apply Dn.ext | apply It.ext | apply CanR.ext | apply DnR.ext | skip) <;> (repeat first | assumption | refine Ext.trans ?_ (by assumption)))
  have hB1 : Blk 25 w4 w.heap.size _ := ((hb1.ext hx2).ext hx3).ext hx4
  have hB2 : Blk 25 w4 w1.heap.size _ := (hb2.ext hx3).ext hx4
  have hB3 : Blk 25 w4 w2.heap.size _ := hb3.ext hx4
  have hg : w.heap.size ≤ w2.heap.size := (hx1.trans hx2).size
  have hb4 : base ≤ w4.heap.size := Nat.le_trans hbase hx14.size
  clear hb1 hb2 hb3 hx1 hx2 hx3 hx4 hz1 hz2 hz3
  (iterate 6 ((repeat with_reducible first|refine .nil ?_|refine .then_normal ?_|refine .block_normal ?_|refine .seq ?_|refine .block ?_|refine .skip ?_|refine .region ?_|refine .ret ?_|refine .then_ret ?_|refine .block_ret ?_|refine .exit ?_|refine .then_exit ?_|refine .block_exit ?_|refine .block_other rfl ?_); try refine .run TBok 99 rfl ?_))
  refine StL.step rfl rfl rfl (RunsTo.load TBok rfl rfl rfl (hB1.cell rfl)).op ?_
  rintro _ _ ⟨rfl, rfl⟩
  refine .run TBok 99 rfl ?_
  refine StL.step rfl rfl rfl (RunsTo.load TBok rfl rfl rfl (hB2.cell rfl)).op ?_
  rintro _ _ ⟨rfl, rfl⟩
  refine StL.step rfl rfl rfl (RunsTo.boolEq TBok rfl rfl rfl).op ?_
  rintro _ _ ⟨rfl, rfl⟩
  (refine StL.nil ?_; repeat with_reducible first | refine Out.then_normal ?_ | refine Out.block_normal ?_)
  by_cases hn : na = nb
  · subst hn
    refine St.condT rfl (by simp) ?_
    (repeat with_reducible first|refine .nil ?_|refine .then_normal ?_|refine .block_normal ?_|refine .seq ?_|refine .block ?_|refine .skip ?_|refine .region ?_|refine .ret ?_|refine .then_ret ?_|refine .block_ret ?_|refine .exit ?_|refine .then_exit ?_|refine .block_exit ?_|refine .block_other rfl ?_)
    refine St.sub (E' := [(2, .pointer (some ⟨w.heap.size, 0, none⟩)), (4, .pointer (some ⟨w2.heap.size, 0, none⟩)), (5, .slice p9 (limbs m).length c9), (6, .slice p12 (limbs k).length c12)]) ?_ ⟨rfl, rfl, rfl, rfl, trivial⟩
    refine St.flow 6 TBfol (by kernel_rfl) rfl (by kernel_rfl) rfl True.intro ?_
    refine FL.run TBok 99 rfl ?_
    refine FL.load (L := []) TBok rfl rfl rfl rfl rfl rfl (by first | assumption | exact Ext.refl _ | (first | apply Blk.ext | apply CanO.ext | apply Den.ext | apply Sl.ext | apply SlO.ext | apply Dn.ext | apply It.ext | apply CanR.ext | apply DnR.ext | skip) <;> (repeat first | assumption | refine Ext.trans ?_ (by assumption))) (by simp) rfl ?_
    refine FL.run TBok 99 rfl ?_
    refine FL.callE fn_r01_sum rfl rfl rfl (fun w5 hx5 => CallF.mk rfl (rsum_spec w5 _ _ _ _ (h9.ext hx5).sl (h12.ext hx5).sl (by omega) (by omega))) ?_ ?_
    · rintro v w5 w6 hR ⟨us, h1, h2⟩
      exact ⟨us, h1.rg hR, h2⟩
    refine FL.callE (ψ := fun v w' => CanO base w' v (sg na m + sg na k)) fn_r01_Make rfl rfl rfl ?_ (MonoR.canO base _) ?_
    · rintro w5 hx5 v22 ⟨us, h22, hul, huv⟩
      rw [val_limbs, val_limbs] at huv
      have := make_spec (base := base) w5 na v22 us h22.sl (by omega) (Nat.le_trans hb4 hx5.size)
      rw [huv, sg_sum_same] at this
      exact CallF.mk rfl this
    refine FL.endE rfl ?_
    intro w5 hx5 v23 h23 v22 _ _ _
    refine StL.finCan rfl rfl (hB3.ext hx5) rfl h23 (hx14.trans hx5) hg ?_
    intro w' hxf hcf fin
    (repeat with_reducible first|refine .nil ?_|refine .then_normal ?_|refine .block_normal ?_|refine .seq ?_|refine .block ?_|refine .skip ?_|refine .region ?_|refine .ret ?_|refine .then_ret ?_|refine .block_ret ?_|refine .exit ?_|refine .then_exit ?_|refine .block_exit ?_|refine .block_other rfl ?_)
    exact fin _ _ rfl ⟨hxf, hcf⟩
  have hnb : nb = !na := by cases na <;> cases nb <;> simp_all
  subst hnb
  refine St.condF rfl (by cases na <;> rfl) ?_
  (iterate 6 ((repeat with_reducible first|refine .nil ?_|refine .then_normal ?_|refine .block_normal ?_|refine .seq ?_|refine .block ?_|refine .skip ?_|refine .region ?_|refine .ret ?_|refine .then_ret ?_|refine .block_ret ?_|refine .exit ?_|refine .then_exit ?_|refine .block_exit ?_|refine .block_other rfl ?_); try refine .run TBok 99 rfl ?_))
  refine StL.step rfl rfl rfl (OpR.call fn_r01_cmp rfl (rcmp_spec w4 _ _ _ _ h9.sl h12.sl (by omega) (by omega))) ?_
  rintro _ w5 ⟨hx5, rfl⟩
  rw [cmpL_limbs]
  replace h9 := h9.ext hx5
  replace h12 := h12.ext hx5
  replace hB1 := hB1.ext hx5
  replace hB2 := hB2.ext hx5
  replace hB3 := hB3.ext hx5
  replace hx14 := hx14.trans hx5
  replace hb4 := Nat.le_trans hb4 hx5.size
  clear hx5
  by_cases hge : k ≤ m
  · refine StL.as TBok 1 (.bool true) rfl (bool_true (by unfold cmpN; rw [if_neg (by omega)]; split <;> decide)) ?_
    (repeat with_reducible first|refine .nil ?_|refine .then_normal ?_|refine .block_normal ?_|refine .seq ?_|refine .block ?_|refine .skip ?_|refine .region ?_|refine .ret ?_|refine .then_ret ?_|refine .block_ret ?_|refine .exit ?_|refine .then_exit ?_|refine .block_exit ?_|refine .block_other rfl ?_)
    refine St.condT rfl rfl ?_
    have hmono := limbs_length_mono k m hge
    (repeat with_reducible first|refine .nil ?_|refine .then_normal ?_|refine .block_normal ?_|refine .seq ?_|refine .block ?_|refine .skip ?_|refine .region ?_|refine .ret ?_|refine .then_ret ?_|refine .block_ret ?_|refine .exit ?_|refine .then_exit ?_|refine .block_exit ?_|refine .block_other rfl ?_)
    refine St.sub (E' := [(2, .pointer (some ⟨w.heap.size, 0, none⟩)), (4, .pointer (some ⟨w2.heap.size, 0, none⟩)), (5, .slice p9 (limbs m).length c9), (6, .slice p12 (limbs k).length c12)]) ?_ ⟨rfl, rfl, rfl, rfl, trivial⟩
    refine St.flow 6 TBfol (by kernel_rfl) rfl (by kernel_rfl) rfl True.intro ?_
    refine FL.run TBok 99 rfl ?_
    refine FL.load (L := []) TBok rfl rfl rfl rfl rfl rfl (by first | assumption | exact Ext.refl _ | (first | apply Blk.ext | apply CanO.ext | apply Den.ext | apply Sl.ext | apply SlO.ext | apply Dn.ext | apply It.ext | apply CanR.ext | apply DnR.ext | skip) <;> (repeat first | assumption | refine Ext.trans ?_ (by assumption))) (by simp) rfl ?_
    refine FL.run TBok 99 rfl ?_
    refine FL.callE fn_r01_difference rfl rfl rfl (fun w6 hx6 => CallF.mk rfl (rdiff_spec (base := 0) w6 _ _ _ _ (h9.ext hx6).sl (h12.ext hx6).sl (by omega) (by omega) hmono (by rw [val_limbs, val_limbs]; exact hge) (Nat.zero_le _))) ?_ ?_
    · rintro v w6 w7 hR ⟨us, h1, h2⟩
      exact ⟨us, h1.rg hR, h2⟩
    refine FL.callE (ψ := fun v w' => CanO base w' v (sg na m + sg (!na) k)) fn_r01_Make rfl rfl rfl ?_ (MonoR.canO base _) ?_
    · rintro w6 hx6 v32 ⟨us, h32, hul, huv⟩
      rw [val_limbs, val_limbs] at huv
      have := make_spec (base := base) w6 na v32 us h32.sl (by omega) (Nat.le_trans hb4 hx6.size)
      rw [huv, sg_diff _ _ _ hge] at this
      exact CallF.mk rfl this
    refine FL.endE rfl ?_
    intro w6 hx6 v33 h33 v32 _ _ _
    refine StL.finCan rfl rfl (hB3.ext hx6) rfl h33 (hx14.trans hx6) hg ?_
    intro w' hxf hcf fin
    (repeat with_reducible first|refine .nil ?_|refine .then_normal ?_|refine .block_normal ?_|refine .seq ?_|refine .block ?_|refine .skip ?_|refine .region ?_|refine .ret ?_|refine .then_ret ?_|refine .block_ret ?_|refine .exit ?_|refine .then_exit ?_|refine .block_exit ?_|refine .block_other rfl ?_)
    exact fin _ _ rfl ⟨hxf, hcf⟩
  · refine StL.as TBok 1 (.bool false) rfl (bool_false (by unfold cmpN; rw [if_pos (by omega)]; decide)) ?_
    (repeat with_reducible first|refine .nil ?_|refine .then_normal ?_|refine .block_normal ?_|refine .seq ?_|refine .block ?_|refine .skip ?_|refine .region ?_|refine .ret ?_|refine .then_ret ?_|refine .block_ret ?_|refine .exit ?_|refine .then_exit ?_|refine .block_exit ?_|refine .block_other rfl ?_)
    refine St.condF rfl rfl ?_
    have hmono := limbs_length_mono m k (by omega)
    (repeat with_reducible first|refine .nil ?_|refine .then_normal ?_|refine .block_normal ?_|refine .seq ?_|refine .block ?_|refine .skip ?_|refine .region ?_|refine .ret ?_|refine .then_ret ?_|refine .block_ret ?_|refine .exit ?_|refine .then_exit ?_|refine .block_exit ?_|refine .block_other rfl ?_)
    refine St.sub (E' := [(3, .pointer (some ⟨w1.heap.size, 0, none⟩)), (4, .pointer (some ⟨w2.heap.size, 0, none⟩)), (5, .slice p9 (limbs m).length c9), (6, .slice p12 (limbs k).length c12)]) ?_ ⟨rfl, rfl, rfl, rfl, trivial⟩
    refine St.flow 6 TBfol (by kernel_rfl) rfl (by kernel_rfl) rfl True.intro ?_
    refine FL.run TBok 99 rfl ?_
    refine FL.load (L := []) TBok rfl rfl rfl rfl rfl rfl (by first | assumption | exact Ext.refl _ | (first | apply Blk.ext | apply CanO.ext | apply Den.ext | apply Sl.ext | apply SlO.ext | apply Dn.ext | apply It.ext | apply CanR.ext | apply DnR.ext | skip) <;> (repeat first | assumption | refine Ext.trans ?_ (by assumption))) (by simp) rfl ?_
    refine FL.run TBok 99 rfl ?_
    refine FL.callE fn_r01_difference rfl rfl rfl (fun w6 hx6 => CallF.mk rfl (rdiff_spec (base := 0) w6 _ _ _ _ (h12.ext hx6).sl (h9.ext hx6).sl (by omega) (by omega) hmono (by rw [val_limbs, val_limbs]; omega) (Nat.zero_le _))) ?_ ?_
    · rintro v w6 w7 hR ⟨us, h1, h2⟩
      exact ⟨us, h1.rg hR, h2⟩
    refine FL.callE (ψ := fun v w' => CanO base w' v (sg na m + sg (!na) k)) fn_r01_Make rfl rfl rfl ?_ (MonoR.canO base _) ?_
    · rintro w6 hx6 v38 ⟨us, h38, hul, huv⟩
      rw [val_limbs, val_limbs] at huv
      have := make_spec (base := base) w6 (!na) v38 us h38.sl (by omega) (Nat.le_trans hb4 hx6.size)
      rw [huv, sg_diff _ _ _ (by omega), Bool.not_not, Int.add_comm] at this
      exact CallF.mk rfl this
    refine FL.endE rfl ?_
    intro w6 hx6 v39 h39 v38 _ _ _
    refine StL.finCan rfl rfl (hB3.ext hx6) rfl h39 (hx14.trans hx6) hg ?_
    intro w' hxf hcf fin
    (repeat with_reducible first|refine .nil ?_|refine .then_normal ?_|refine .block_normal ?_|refine .seq ?_|refine .block ?_|refine .skip ?_|refine .region ?_|refine .ret ?_|refine .then_ret ?_|refine .block_ret ?_|refine .exit ?_|refine .then_exit ?_|refine .block_exit ?_|refine .block_other rfl ?_)
    exact fin _ _ rfl ⟨hxf, hcf⟩

theorem rsub_dn {base : Nat} {w : World} {x y : Value} {a b : Int} (h : Dn w x a) (k : Dn w y b) (hbase : base ≤ w.heap.size) : Calls Try.prog 122 #[x, y] w (Ret fun r w' => Ext w w' ∧ CanO base w' r (a - b)) := by
  have hsb := k.sz_le
  have hD := h
  have kD := k
  obtain ⟨na, xs, ⟨p, cap, rfl, hs⟩, rfl, hlen⟩ := h
  obtain ⟨nb, ys, ⟨q, cb, rfl, ks⟩, rfl, hl⟩ := k
  refine calls_of_St (args := [_, _]) Try.func122 rfl Try.ntmps122 rfl ?_
  (repeat with_reducible first|refine .nil ?_|refine .then_normal ?_|refine .block_normal ?_|refine .seq ?_|refine .block ?_|refine .skip ?_|refine .region ?_|refine .ret ?_|refine .then_ret ?_|refine .block_ret ?_|refine .exit ?_|refine .then_exit ?_|refine .block_exit ?_|refine .block_other rfl ?_)
  refine StL.step rfl rfl rfl (OpR.box rfl) ?_
  rintro _ w1 ⟨rfl, hb1, hx1, hz1⟩
  refine StL.step rfl rfl rfl (OpR.box rfl) ?_
  rintro _ w2 ⟨rfl, hb2, hx2, hz2⟩
  refine StL.step rfl rfl rfl (OpR.alloc TBok rfl) ?_
  rintro _ w3 ⟨rfl, hb3, hx3, hz3⟩
  (repeat with_reducible first|refine .nil ?_|refine .then_normal ?_|refine .block_normal ?_|refine .seq ?_|refine .block ?_|refine .skip ?_|refine .region ?_|refine .ret ?_|refine .then_ret ?_|refine .block_ret ?_|refine .exit ?_|refine .then_exit ?_|refine .block_exit ?_|refine .block_other rfl ?_)
  refine St.flow 4 TBfol (by kernel_rfl) rfl (by kernel_rfl) rfl True.intro ?_
  refine FL.run TBok 99 rfl ?_
  refine FL.loadAgg (L := []) TBok rfl rfl rfl rfl rfl rfl (by first | assumption | exact Ext.refl _ | (first | apply Blk.ext | apply CanO.ext | apply Den.ext | apply Sl.ext | apply SlO.ext | apply Dn.ext | apply It.ext | apply CanR.ext | apply DnR.ext | skip) <;> (repeat first | assumption | refine Ext.trans ?_ (by assumption))) (by simp) (Nat.le_refl _) rfl ?_
  refine FL.loadAgg (L := []) TBok rfl rfl rfl rfl rfl rfl (by first | assumption | exact Ext.refl _ | (first | apply Blk.ext | apply CanO.ext | apply Den.ext | apply Sl.ext | apply SlO.ext | apply Dn.ext | apply It.ext | apply CanR.ext | apply DnR.ext | skip) <;> (repeat first | assumption | refine Ext.trans ?_ (by assumption))) (by simp) (Nat.le_refl _) rfl ?_
  refine FL.callE fn_r01_Neg rfl rfl rfl (fun w4 hx4 => CallF.mk rfl (rneg_dn (base := 0) (a := sg nb (val ys)) (by first | assumption | exact Ext.refl _ | (first | apply Blk.ext | apply CanO.ext | apply Den.ext | apply Sl.ext | apply SlO.ext | apply Dn.ext | apply It.ext | apply CanR.ext | apply DnR.ext | skip) <;> (repeat first | assumption | refine Ext.trans ?_ (by assumption))) (Nat.zero_le _))) (MonoR.canO 0 _) ?_
  refine FL.callE fn_r01_Add rfl rfl rfl (fun w4 hx4 v7 h7 => CallF.mk rfl (radd_dn (base := base) (a := sg na (val xs)) (by first | assumption | exact Ext.refl _ | (first | apply Blk.ext | apply CanO.ext | apply Den.ext | apply Sl.ext | apply SlO.ext | apply Dn.ext | apply It.ext | apply CanR.ext | apply DnR.ext | skip) <;> (repeat first | assumption | refine Ext.trans ?_ (by assumption))) (h7.dn (by rw [sz_neg]; exact hsb)) (Nat.le_trans hbase (((hx1.trans hx2).trans hx3).trans hx4).size))) (MonoR.canO base _) ?_
  refine FL.endE rfl ?_
  intro w4 hx4 v8 h8 v7 _ _ _
  rw [← Int.sub_eq_add_neg] at h8
  refine StL.finCan rfl rfl (hb3.ext hx4) rfl h8 (w0 := w) (by first | assumption | exact Ext.refl _ | (first | apply Blk.ext | apply CanO.ext | apply Den.ext | apply Sl.ext | apply SlO.ext | apply Dn.ext | apply It.ext | apply CanR.ext | apply DnR.ext | skip) <;> (repeat first | assumption | refine Ext.trans ?_ (by assumption))) (hx1.trans hx2).size ?_
  intro w' hxf hcf fin
  (repeat with_reducible first|refine .nil ?_|refine .then_normal ?_|refine .block_normal ?_|refine .seq ?_|refine .block ?_|refine .skip ?_|refine .region ?_|refine .ret ?_|refine .then_ret ?_|refine .block_ret ?_|refine .exit ?_|refine .then_exit ?_|refine .block_exit ?_|refine .block_other rfl ?_)
  exact fin _ _ rfl ⟨hxf, hcf⟩

end Go.Qf

/- quadformref01: Mul. -/
namespace Go.Qf
open Go Go.RowKit Go.Proofs
set_option maxRecDepth 20000

set_option maxHeartbeats 1000000 in
theorem rmul_dn {base : Nat} {w : World} {vx vy : Value} {a b : Int} (h : Dn w vx a) (k : Dn w vy b) (hbase : base ≤ w.heap.size) : Calls Try.prog 85 #[vx, vy] w (Ret fun r w' => Ext w w' ∧ CanO base w' r (a * b)) := by
  obtain ⟨na, xs, ⟨p, c, rfl, h⟩, rfl, hlen⟩ := h
  obtain ⟨nb, ys, ⟨q, d, rfl, k⟩, rfl, hl⟩ := k
  refine calls_of_St (args := [_, _]) Try.func85 rfl Try.ntmps85 rfl ?_
  (repeat with_reducible first|refine .nil ?_|refine .then_normal ?_|refine .block_normal ?_|refine .seq ?_|refine .block ?_|refine .skip ?_|refine .region ?_|refine .ret ?_|refine .then_ret ?_|refine .block_ret ?_|refine .exit ?_|refine .then_exit ?_|refine .block_exit ?_|refine .block_other rfl ?_)
  refine StL.step rfl rfl rfl (OpR.box rfl) ?_
  rintro _ wa ⟨rfl, hba, hxa, hza⟩
  refine StL.step rfl rfl rfl (OpR.box rfl) ?_
  rintro _ wb ⟨rfl, hbb, hxb, hzb⟩
  refine StL.step rfl rfl rfl (OpR.alloc TBok rfl) ?_
  rintro _ wc ⟨rfl, hbc, hxc, hzc⟩
  have hx0c : Ext w wc := (by first | assumption | exact Ext.refl _ | (first | apply Blk.ext | apply CanO.ext | apply Den.ext | apply Sl.ext | apply SlO.ext | apply Dn.ext | apply It.ext | apply CanR.ext | apply DnR.ext | skip) <;> (repeat first | assumption | refine Ext.trans ?_ (by assumption)))
  have hB1 : Blk 25 wc w.heap.size [.bool na, .slice p xs.length c] := (hba.ext hxb).ext hxc
  have hB2 : Blk 25 wc wa.heap.size [.bool nb, .slice q ys.length d] := hbb.ext hxc
  (iterate 6 ((repeat with_reducible first|refine .nil ?_|refine .then_normal ?_|refine .block_normal ?_|refine .seq ?_|refine .block ?_|refine .skip ?_|refine .region ?_|refine .ret ?_|refine .then_ret ?_|refine .block_ret ?_|refine .exit ?_|refine .then_exit ?_|refine .block_exit ?_|refine .block_other rfl ?_); try refine .run TBok 99 rfl ?_))
  (refine StL.step rfl rfl rfl (RunsTo.load TBok rfl rfl rfl (Blk.cell (by first | assumption | exact Ext.refl _ | (first | apply Blk.ext | apply CanO.ext | apply Den.ext | apply Sl.ext | apply SlO.ext | apply Dn.ext | apply It.ext | apply CanR.ext | apply DnR.ext | skip) <;> (repeat first | assumption | refine Ext.trans ?_ (by assumption))) rfl)).op ?_; rintro _ _ ⟨rfl, rfl⟩)
  (iterate 6 ((repeat with_reducible first|refine .nil ?_|refine .then_normal ?_|refine .block_normal ?_|refine .seq ?_|refine .block ?_|refine .skip ?_|refine .region ?_|refine .ret ?_|refine .then_ret ?_|refine .block_ret ?_|refine .exit ?_|refine .then_exit ?_|refine .block_exit ?_|refine .block_other rfl ?_); try refine .run TBok 99 rfl ?_))
  (refine StL.step rfl rfl rfl (RunsTo.load TBok rfl rfl rfl (Blk.cell (by first | assumption | exact Ext.refl _ | (first | apply Blk.ext | apply CanO.ext | apply Den.ext | apply Sl.ext | apply SlO.ext | apply Dn.ext | apply It.ext | apply CanR.ext | apply DnR.ext | skip) <;> (repeat first | assumption | refine Ext.trans ?_ (by assumption))) rfl)).op ?_; rintro _ _ ⟨rfl, rfl⟩)
  refine .run TBok 99 rfl ?_
  refine StL.step rfl rfl rfl (OpR.make TBok (xs.length + ys.length) rfl rfl rfl rfl rfl (by rw [i64_id (by omega) (by omega)]; omega) rfl (by rw [i64_id (by omega) (by omega)]; omega) (by simp; omega) (by omega)) ?_
  rintro _ w1 ⟨rfl, hb1, hx1, hz1⟩
  have hx01 := hx0c.trans hx1
  (iterate 6 ((repeat with_reducible first|refine .nil ?_|refine .then_normal ?_|refine .block_normal ?_|refine .seq ?_|refine .block ?_|refine .skip ?_|refine .region ?_|refine .ret ?_|refine .then_ret ?_|refine .block_ret ?_|refine .exit ?_|refine .then_exit ?_|refine .block_exit ?_|refine .block_other rfl ?_); try refine .run TBok 99 rfl ?_))
  (refine StL.step rfl rfl rfl (RunsTo.load TBok rfl rfl rfl (Blk.cell (by first | assumption | exact Ext.refl _ | (first | apply Blk.ext | apply CanO.ext | apply Den.ext | apply Sl.ext | apply SlO.ext | apply Dn.ext | apply It.ext | apply CanR.ext | apply DnR.ext | skip) <;> (repeat first | assumption | refine Ext.trans ?_ (by assumption))) rfl)).op ?_; rintro _ _ ⟨rfl, rfl⟩)
  (iterate 6 ((repeat with_reducible first|refine .nil ?_|refine .then_normal ?_|refine .block_normal ?_|refine .seq ?_|refine .block ?_|refine .skip ?_|refine .region ?_|refine .ret ?_|refine .then_ret ?_|refine .block_ret ?_|refine .exit ?_|refine .then_exit ?_|refine .block_exit ?_|refine .block_other rfl ?_); try refine .run TBok 99 rfl ?_))
  refine St.loop (fun g : Nat × List Nat => [(2, .pointer (some ⟨w.heap.size, 0, none⟩)), (3, .pointer (some ⟨wa.heap.size, 0, none⟩)), (4, .pointer (some ⟨wb.heap.size, 0, none⟩)), (5, .slice (some ⟨wc.heap.size, 0, none⟩) (xs.length + ys.length) (xs.length + ys.length)), (20, .slice p xs.length c), (21, .int .i64 xs.length), (22, .int .i64 g.1)])
    (fun g w2 => Ext wc w2 ∧ Blk 41 w2 wc.heap.size (g.2.map u32) ∧ g.2.length = xs.length + ys.length ∧ Lim g.2 ∧ g.1 ≤ xs.length ∧ val (g.2.take (g.1 + ys.length)) = val (xs.take g.1) * val ys)
    (fun g => xs.length - g.1) (0, List.replicate (xs.length + ys.length) 0) ⟨rfl, rfl, rfl, rfl, rfl, rfl, rfl, trivial⟩ ⟨hx1, by rw [List.map_replicate]; exact hb1, by simp, lim_replicate _, by simp, by simp [val, List.take_replicate, val_replicate_zero]⟩ ?_
  rintro ⟨i, us⟩ w2 ⟨hx2, hb2, hul, hulim, hi, heq⟩
  simp only at hb2 hul hulim hi heq
  have hx02 := hx0c.trans hx2
  have hA := h.ext hx02
  have hB22 := hB2.ext hx2
  by_cases hlt : i < xs.length
  · have hxi : xs[i]? = some xs[i] := by simp
    generalize xs[i] = x at hxi
    have hxl := h.2.get hxi
    (repeat with_reducible first|refine .nil ?_|refine .then_normal ?_|refine .block_normal ?_|refine .seq ?_|refine .block ?_|refine .skip ?_|refine .region ?_|refine .ret ?_|refine .then_ret ?_|refine .block_ret ?_|refine .exit ?_|refine .then_exit ?_|refine .block_exit ?_|refine .block_other rfl ?_)
    refine StL.as TBok 1 (.bool true) rfl (bool_true (by omega)) ?_
    (repeat with_reducible first|refine .nil ?_|refine .then_normal ?_|refine .block_normal ?_|refine .seq ?_|refine .block ?_|refine .skip ?_|refine .region ?_|refine .ret ?_|refine .then_ret ?_|refine .block_ret ?_|refine .exit ?_|refine .then_exit ?_|refine .block_exit ?_|refine .block_other rfl ?_)
    refine St.condT rfl rfl ?_
    (iterate 6 ((repeat with_reducible first|refine .nil ?_|refine .then_normal ?_|refine .block_normal ?_|refine .seq ?_|refine .block ?_|refine .skip ?_|refine .region ?_|refine .ret ?_|refine .then_ret ?_|refine .block_ret ?_|refine .exit ?_|refine .then_exit ?_|refine .block_exit ?_|refine .block_other rfl ?_); try refine .run TBok 99 rfl ?_))
    refine StL.elem TBok i (u32 x) hA.1 (hA.get hxi) rfl rfl rfl rfl rfl rfl rfl rfl rfl rfl rfl (fun _ => rfl) ?_
    intro p1
    (iterate 6 ((repeat with_reducible first|refine .nil ?_|refine .then_normal ?_|refine .block_normal ?_|refine .seq ?_|refine .block ?_|refine .skip ?_|refine .region ?_|refine .ret ?_|refine .then_ret ?_|refine .block_ret ?_|refine .exit ?_|refine .then_exit ?_|refine .block_exit ?_|refine .block_other rfl ?_); try refine .run TBok 99 rfl ?_))
    refine StL.step rfl rfl rfl (RunsTo.load TBok rfl rfl rfl (hB22.cell rfl)).op ?_
    rintro _ _ ⟨rfl, rfl⟩
    (iterate 6 ((repeat with_reducible first|refine .nil ?_|refine .then_normal ?_|refine .block_normal ?_|refine .seq ?_|refine .block ?_|refine .skip ?_|refine .region ?_|refine .ret ?_|refine .then_ret ?_|refine .block_ret ?_|refine .exit ?_|refine .then_exit ?_|refine .block_exit ?_|refine .block_other rfl ?_); try refine .run TBok 99 rfl ?_))
    refine St.loop (fun g : Nat × Nat × List Nat => [(2, .pointer (some ⟨w.heap.size, 0, none⟩)), (3, .pointer (some ⟨wa.heap.size, 0, none⟩)), (4, .pointer (some ⟨wb.heap.size, 0, none⟩)), (5, .slice (some ⟨wc.heap.size, 0, none⟩) (xs.length + ys.length) (xs.length + ys.length)), (20, .slice p xs.length c), (21, .int .i64 xs.length), (22, .int .i64 i), (6, .int .i64 i), (7, u32 x), (8, .int .u64 g.2.1), (28, .slice q ys.length d), (29, .int .i64 ys.length), (30, .int .i64 g.1)])
      (fun g w3 => Ext wc w3 ∧ Blk 41 w3 wc.heap.size (g.2.2.map u32) ∧ g.2.2.length = xs.length + ys.length ∧ Lim g.2.2 ∧ g.2.1 < 4294967296 ∧ g.1 ≤ ys.length ∧ g.2.2.drop (i + g.1) = us.drop (i + g.1) ∧ val (g.2.2.take (i + g.1)) + g.2.1 * 4294967296 ^ (i + g.1) = val (us.take (i + g.1)) + x * val (ys.take g.1) * 4294967296 ^ i)
      (fun g => ys.length - g.1) (0, 0, us) ⟨rfl, rfl, rfl, rfl, rfl, rfl, rfl, rfl, rfl, rfl, rfl, rfl, rfl, trivial⟩ ⟨hx2, hb2, hul, hulim, by simp, by simp, rfl, by simp [val]⟩ ?_
    rintro ⟨j, cy, vs⟩ w3 ⟨hx3, hb3, hvl, hvlim, hcy, hj, hdr, heq3⟩
    simp only at hb3 hvl hvlim hcy hj hdr heq3
    have hB := k.ext (hx0c.trans hx3)
    by_cases hlt2 : j < ys.length
    · have hyi : ys[j]? = some ys[j] := by simp
      generalize ys[j] = y at hyi
      have hyl := k.2.get hyi
      have hzi : vs[i + j]? = some vs[i + j] := by simp
      generalize vs[i + j] = z at hzi
      have hzl := hvlim.get hzi
      have hzu : us[i + j]? = some z := by rw [← getElem?_of_drop hdr (Nat.le_refl _)]; exact hzi
      have hbd := mul_bound hcy hxl hyl hzl
      have eij : IntKind.i64.wrap ((i : Int) + (j : Int)) = ((i + j : Nat) : Int) := by rw [i64_id (by omega) (by omega)]; rfl
      (repeat with_reducible first|refine .nil ?_|refine .then_normal ?_|refine .block_normal ?_|refine .seq ?_|refine .block ?_|refine .skip ?_|refine .region ?_|refine .ret ?_|refine .then_ret ?_|refine .block_ret ?_|refine .exit ?_|refine .then_exit ?_|refine .block_exit ?_|refine .block_other rfl ?_)
      refine StL.as TBok 1 (.bool true) rfl (bool_true (by omega)) ?_
      (repeat with_reducible first|refine .nil ?_|refine .then_normal ?_|refine .block_normal ?_|refine .seq ?_|refine .block ?_|refine .skip ?_|refine .region ?_|refine .ret ?_|refine .then_ret ?_|refine .block_ret ?_|refine .exit ?_|refine .then_exit ?_|refine .block_exit ?_|refine .block_other rfl ?_)
      refine St.condT rfl rfl ?_
      (iterate 6 ((repeat with_reducible first|refine .nil ?_|refine .then_normal ?_|refine .block_normal ?_|refine .seq ?_|refine .block ?_|refine .skip ?_|refine .region ?_|refine .ret ?_|refine .then_ret ?_|refine .block_ret ?_|refine .exit ?_|refine .then_exit ?_|refine .block_exit ?_|refine .block_other rfl ?_); try refine .run TBok 99 rfl ?_))
      refine StL.elem TBok j (u32 y) hB.1 (hB.get hyi) rfl rfl rfl rfl rfl rfl rfl rfl rfl rfl rfl (fun _ => rfl) ?_
      intro p2
      (iterate 6 ((repeat with_reducible first|refine .nil ?_|refine .then_normal ?_|refine .block_normal ?_|refine .seq ?_|refine .block ?_|refine .skip ?_|refine .region ?_|refine .ret ?_|refine .then_ret ?_|refine .block_ret ?_|refine .exit ?_|refine .then_exit ?_|refine .block_exit ?_|refine .block_other rfl ?_); try refine .run TBok 99 rfl ?_))
      refine StL.elemB TBok (i + j) (u32 z) hb3 (by simp [hzi]) eij (by omega) rfl rfl rfl rfl rfl rfl rfl rfl rfl rfl (fun _ => rfl) ?_
      intro p3
      have e1 : IntKind.u64.wrap ((cy : Int) + IntKind.u64.wrap (IntKind.u64.wrap (IntKind.u64.wrap (x : Int) * IntKind.u64.wrap (y : Int)) + IntKind.u64.wrap (z : Int))) = ((cy + x * y + z : Nat) : Int) := by
        rw [u64_id (n := (x : Int)) (by omega) (by omega), u64_id (n := (y : Int)) (by omega) (by omega), show (x : Int) * (y : Int) = ((x * y : Nat) : Int) from by simp]
        generalize x * y = xy at hbd
        simp only [wrap_u64]; omega
      refine StL.as TBok 3 (.int .u64 ((cy + x * y + z : Nat) : Int)) rfl (by rw [e1]) ?_
      generalize ht : cy + x * y + z = t at hbd
      (iterate 6 ((repeat with_reducible first|refine .nil ?_|refine .then_normal ?_|refine .block_normal ?_|refine .seq ?_|refine .block ?_|refine .skip ?_|refine .region ?_|refine .ret ?_|refine .then_ret ?_|refine .block_ret ?_|refine .exit ?_|refine .then_exit ?_|refine .block_exit ?_|refine .block_other rfl ?_); try refine .run TBok 99 rfl ?_))
      have e2 : IntKind.u32.wrap (t : Int) = ((t % 4294967296 : Nat) : Int) := by rw [wrap_u32]; omega
      refine StL.put TBok (i + j) hb3 eij (by omega) (by simp; omega) rfl rfl rfl rfl rfl rfl rfl rfl (fun _ => rfl) (fun _ => rfl) rfl rfl ?_
      intro p4 w4 hb4 hu4
      rw [e2, map_set_u32, Nat.zero_add] at hb4
      (iterate 6 ((repeat with_reducible first|refine .nil ?_|refine .then_normal ?_|refine .block_normal ?_|refine .seq ?_|refine .block ?_|refine .skip ?_|refine .region ?_|refine .ret ?_|refine .then_ret ?_|refine .block_ret ?_|refine .exit ?_|refine .then_exit ?_|refine .block_exit ?_|refine .block_other rfl ?_); try refine .run TBok 99 rfl ?_))
      refine Out.again (j + 1, t / 4294967296, vs.set (i + j) (t % 4294967296)) ⟨rfl, rfl, rfl, rfl, rfl, rfl, rfl, rfl, rfl, ?_, rfl, rfl, ?_, trivial⟩ ⟨hx3.then_upd hu4 (Nat.le_refl _), hb4, by simpa using hvl, hvlim.set _ (by omega), by simp only; omega, by simp only; omega, ?_, ?_⟩ (by simp only; omega)
      · show some (Value.int .u64 ((t : Int) / 2 ^ 32)) = some (Value.int .u64 ((t / 4294967296 : Nat) : Int))
        rw [show (t : Int) / 2 ^ 32 = ((t / 4294967296 : Nat) : Int) from by omega]
      · show some (Value.int .i64 (IntKind.i64.wrap ((j : Int) + 1))) = _
        rw [i64_id (by omega) (by omega)]
        rfl
      · simp only
        rw [← Nat.add_assoc]
        exact drop_set_of hdr
      · simp only
        rw [← Nat.add_assoc, val_take_set (by omega), val_take_succ hzu, val_take_succ hyi, Nat.pow_succ]
        exact mul_step _ _ _ _ _ _ _ _ _ _ _ _ (Nat.pow_add _ _ _) heq3 (by omega)
    obtain rfl : j = ys.length := by omega
    rw [List.take_length] at heq3
    clear hlt2 hj
    have hB23 := hB2.ext hx3
    have eiy : IntKind.i64.wrap ((i : Int) + (ys.length : Int)) = ((i + ys.length : Nat) : Int) := by rw [i64_id (by omega) (by omega)]; rfl
    (repeat with_reducible first|refine .nil ?_|refine .then_normal ?_|refine .block_normal ?_|refine .seq ?_|refine .block ?_|refine .skip ?_|refine .region ?_|refine .ret ?_|refine .then_ret ?_|refine .block_ret ?_|refine .exit ?_|refine .then_exit ?_|refine .block_exit ?_|refine .block_other rfl ?_)
    refine StL.as TBok 1 (.bool false) rfl (bool_false (by omega)) ?_
    (repeat with_reducible first|refine .nil ?_|refine .then_normal ?_|refine .block_normal ?_|refine .seq ?_|refine .block ?_|refine .skip ?_|refine .region ?_|refine .ret ?_|refine .then_ret ?_|refine .block_ret ?_|refine .exit ?_|refine .then_exit ?_|refine .block_exit ?_|refine .block_other rfl ?_)
    refine St.condF rfl rfl ?_
    (iterate 6 ((repeat with_reducible first|refine .nil ?_|refine .then_normal ?_|refine .block_normal ?_|refine .seq ?_|refine .block ?_|refine .skip ?_|refine .region ?_|refine .ret ?_|refine .then_ret ?_|refine .block_ret ?_|refine .exit ?_|refine .then_exit ?_|refine .block_exit ?_|refine .block_other rfl ?_); try refine .run TBok 99 rfl ?_))
    refine StL.step rfl rfl rfl (RunsTo.load TBok rfl rfl rfl (hB23.cell rfl)).op ?_
    rintro _ _ ⟨rfl, rfl⟩
    refine .run TBok 99 rfl ?_
    have e2 : IntKind.u32.wrap (cy : Int) = (cy : Int) := u32_id (by omega) (by omega)
    refine StL.put TBok (i + ys.length) hb3 eiy (by omega) (by simp; omega) rfl rfl rfl rfl rfl rfl rfl rfl (fun _ => rfl) (fun _ => rfl) rfl rfl ?_
    intro p4 w4 hb4 hu4
    rw [e2, map_set_u32, Nat.zero_add] at hb4
    (iterate 6 ((repeat with_reducible first|refine .nil ?_|refine .then_normal ?_|refine .block_normal ?_|refine .seq ?_|refine .block ?_|refine .skip ?_|refine .region ?_|refine .ret ?_|refine .then_ret ?_|refine .block_ret ?_|refine .exit ?_|refine .then_exit ?_|refine .block_exit ?_|refine .block_other rfl ?_); try refine .run TBok 99 rfl ?_))
    refine Out.again (i + 1, vs.set (i + ys.length) cy) ⟨rfl, rfl, rfl, rfl, rfl, rfl, ?_, trivial⟩ ⟨hx3.then_upd hu4 (Nat.le_refl _), hb4, by simpa using hvl, hvlim.set _ hcy, by simp only; omega, ?_⟩ (by simp only; omega)
    · show some (Value.int .i64 (IntKind.i64.wrap ((i : Int) + 1))) = _
      rw [i64_id (by omega) (by omega)]
      rfl
    · simp only
      rw [show i + 1 + ys.length = i + ys.length + 1 from by omega, val_take_set (by omega), heq3, heq, val_take_succ hxi, Nat.add_mul]
      congr 1
      rw [Nat.mul_assoc, Nat.mul_comm (val ys), ← Nat.mul_assoc]
  · obtain rfl : i = xs.length := by omega
    rw [List.take_of_length_le (by omega), List.take_of_length_le (Nat.le_refl _)] at heq
    have hB12 := hB1.ext hx2
    (repeat with_reducible first|refine .nil ?_|refine .then_normal ?_|refine .block_normal ?_|refine .seq ?_|refine .block ?_|refine .skip ?_|refine .region ?_|refine .ret ?_|refine .then_ret ?_|refine .block_ret ?_|refine .exit ?_|refine .then_exit ?_|refine .block_exit ?_|refine .block_other rfl ?_)
    refine StL.as TBok 1 (.bool false) rfl (bool_false (by omega)) ?_
    (repeat with_reducible first|refine .nil ?_|refine .then_normal ?_|refine .block_normal ?_|refine .seq ?_|refine .block ?_|refine .skip ?_|refine .region ?_|refine .ret ?_|refine .then_ret ?_|refine .block_ret ?_|refine .exit ?_|refine .then_exit ?_|refine .block_exit ?_|refine .block_other rfl ?_)
    refine St.condF rfl rfl ?_
    (iterate 6 ((repeat with_reducible first|refine .nil ?_|refine .then_normal ?_|refine .block_normal ?_|refine .seq ?_|refine .block ?_|refine .skip ?_|refine .region ?_|refine .ret ?_|refine .then_ret ?_|refine .block_ret ?_|refine .exit ?_|refine .then_exit ?_|refine .block_exit ?_|refine .block_other rfl ?_); try refine .run TBok 99 rfl ?_))
    refine StL.step rfl rfl rfl (RunsTo.load TBok rfl rfl rfl (hB12.cell rfl)).op ?_
    rintro _ _ ⟨rfl, rfl⟩
    refine .run TBok 99 rfl ?_
    refine StL.step rfl rfl rfl (RunsTo.load TBok rfl rfl rfl (hB22.cell rfl)).op ?_
    rintro _ _ ⟨rfl, rfl⟩
    refine StL.step rfl rfl rfl (RunsTo.boolNe TBok rfl rfl rfl).op ?_
    rintro _ _ ⟨rfl, rfl⟩
    refine .run TBok 99 rfl ?_
    have hsl : Sl w2 (.slice (some ⟨wc.heap.size, 0, none⟩) (xs.length + ys.length) (xs.length + ys.length)) us := ⟨hb2.row (by simp [hul]) (Nat.le_refl _) (by simp [hul]) (by rw [List.drop_zero, List.take_of_length_le (by simp [hul])]), hulim⟩
    refine StL.step rfl rfl rfl (OpR.call fn_r01_Make rfl (make_spec (base := base) w2 _ _ us hsl (by omega) (Nat.le_trans hbase hx02.size))) ?_
    rintro r w3 ⟨hx3, hr⟩
    rw [heq, sg_mul] at hr
    refine StL.finCan rfl rfl ((hbc.ext hx2).ext hx3) rfl hr (hx02.trans hx3) (hxa.trans hxb).size ?_
    intro w' hxf hcf fin
    (repeat with_reducible first|refine .nil ?_|refine .then_normal ?_|refine .block_normal ?_|refine .seq ?_|refine .block ?_|refine .skip ?_|refine .region ?_|refine .ret ?_|refine .then_ret ?_|refine .block_ret ?_|refine .exit ?_|refine .then_exit ?_|refine .block_exit ?_|refine .block_other rfl ?_)
    exact fin _ _ rfl ⟨hxf, hcf⟩

end Go.Qf
