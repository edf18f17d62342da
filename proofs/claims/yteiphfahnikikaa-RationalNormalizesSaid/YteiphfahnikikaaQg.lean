/- Lemmas on the model and on the program's functions, part Qg. -/
import Derived.Laws.Externs
import Derived.Lib.Bytealg
import Derived.Test.YteiphfahnikikaaQa
import Derived.Test.YteiphfahnikikaaQb
import Derived.Test.YteiphfahnikikaaQc
import Derived.Test.YteiphfahnikikaaQd
import Derived.Test.YteiphfahnikikaaQe
import Derived.Test.YteiphfahnikikaaQf
/- Numerals: strings.CutPrefix, integer.isNumeral, quadformref01.IsNumber, Long. -/
namespace Go.Qf
open Go Go.RowKit Go.Proofs
set_option maxRecDepth 20000

/-- Has it a sign, and the text behind it. -/
def isNeg (s : List Nat) : Bool := decide (s.head? = some 45)
def body (s : List Nat) : List Nat := if s.head? = some 45 then s.tail else s
def isDig (b : Nat) : Prop := 48 ≤ b ∧ b ≤ 57
/-- A numeral without a sign. -/
def Numl (s : List Nat) : Prop := s ≠ [] ∧ (∀ b ∈ s, isDig b) ∧ ¬ (2 ≤ s.length ∧ s.head? = some 48)

theorem B8.body {s : List Nat} (h : B8 s) : B8 (body s) := by
  unfold Go.Qf.body
  split
  · exact fun b hb => h b (List.mem_of_mem_tail hb)
  · exact h

theorem body_le (s : List Nat) : (body s).length ≤ s.length := by
  unfold body
  split
  · simp
  · exact Nat.le_refl _

theorem b8_one : B8 [45] := fun b hb => by simp at hb; omega
theorem b8_zero : B8 [48] := fun b hb => by simp at hb; omega
theorem b8_nil : B8 [] := fun b hb => by cases hb

theorem hasPrefix_spec (w : World) (s : List Nat) (h : B8 s) : Calls Try.prog 118 #[strV s, strV [45]] w (Ret fun r w' => Ext w w' ∧ r = .bool (isNeg s)) := by
  refine calls_of_St (args := [_, _]) Try.func118 rfl Try.ntmps118 rfl ?_
  (repeat with_reducible first|refine .nil ?_|refine .then_normal ?_|refine .block_normal ?_|refine .seq ?_|refine .block ?_|refine .skip ?_|refine .region ?_|refine .ret ?_|refine .then_ret ?_|refine .block_ret ?_|refine .exit ?_|refine .then_exit ?_|refine .block_exit ?_|refine .block_other rfl ?_)
  refine .run TBok 99 rfl ?_
  (repeat with_reducible first|refine .nil ?_|refine .then_normal ?_|refine .block_normal ?_|refine .seq ?_|refine .block ?_|refine .skip ?_|refine .region ?_|refine .ret ?_|refine .then_ret ?_|refine .block_ret ?_|refine .exit ?_|refine .then_exit ?_|refine .block_exit ?_|refine .block_other rfl ?_)
  refine StL.as TBok 2 (.int .i64 (s.length : Int)) rfl (by rw [strB_size]) ?_
  refine StL.as TBok 2 (.int .i64 1) rfl (by rw [strB_size]; rfl) ?_
  cases s with
  | nil =>
    (iterate 6 ((repeat with_reducible first|refine .nil ?_|refine .then_normal ?_|refine .block_normal ?_|refine .seq ?_|refine .block ?_|refine .skip ?_|refine .region ?_|refine .ret ?_|refine .then_ret ?_|refine .block_ret ?_|refine .exit ?_|refine .then_exit ?_|refine .block_exit ?_|refine .block_other rfl ?_); try refine .run TBok 99 rfl ?_))
    exact Out.ret1 rfl rfl ⟨Ext.refl _, rfl⟩
  | cons b r =>
    refine StL.as TBok 1 (.bool true) rfl (bool_true (by simp; omega)) ?_
    refine StL.as TBok 4 (.int .i64 1) rfl (by rw [strB_size]; rfl) ?_
    refine StL.step rfl rfl rfl (RunsTo.strTo TBok 1 rfl rfl rfl rfl (by simp)).op ?_
    rintro _ _ ⟨rfl, rfl⟩
    refine .run TBok 99 rfl ?_
    refine StL.step rfl rfl rfl (RunsTo.strEql (xs := [b]) (bs := [45]) (fun x hx => h x (by simp at hx; simp [hx])) b8_one rfl rfl).op ?_
    rintro _ _ ⟨rfl, rfl⟩
    (iterate 6 ((repeat with_reducible first|refine .nil ?_|refine .then_normal ?_|refine .block_normal ?_|refine .seq ?_|refine .block ?_|refine .skip ?_|refine .region ?_|refine .ret ?_|refine .then_ret ?_|refine .block_ret ?_|refine .exit ?_|refine .then_exit ?_|refine .block_exit ?_|refine .block_other rfl ?_); try refine .run TBok 99 rfl ?_))
    refine Out.ret1 rfl rfl ⟨Ext.refl _, ?_⟩
    unfold isNeg
    congr 1
    simp

theorem sliteCut_spec (w : World) (s : List Nat) (h : B8 s) : Calls Try.prog 104 #[strV s, strV [45]] w (Ret fun r w' => Ext w w' ∧ r = .tuple #[strV (body s), .bool (isNeg s)]) := by
  refine calls_of_St (args := [_, _]) Try.func104 rfl Try.ntmps104 rfl ?_
  (iterate 6 ((repeat with_reducible first|refine .nil ?_|refine .then_normal ?_|refine .block_normal ?_|refine .seq ?_|refine .block ?_|refine .skip ?_|refine .region ?_|refine .ret ?_|refine .then_ret ?_|refine .block_ret ?_|refine .exit ?_|refine .then_exit ?_|refine .block_exit ?_|refine .block_other rfl ?_); try refine .run TBok 99 rfl ?_))
  refine StL.step rfl rfl rfl (OpR.call fn_internal_stringslite_HasPrefix rfl (hasPrefix_spec w s h)) ?_
  rintro _ w1 ⟨hx1, rfl⟩
  unfold isNeg body
  by_cases hh : s.head? = some 45
  · rw [decide_eq_true hh, if_pos hh]
    (iterate 6 ((repeat with_reducible first|refine .nil ?_|refine .then_normal ?_|refine .block_normal ?_|refine .seq ?_|refine .block ?_|refine .skip ?_|refine .region ?_|refine .ret ?_|refine .then_ret ?_|refine .block_ret ?_|refine .exit ?_|refine .then_exit ?_|refine .block_exit ?_|refine .block_other rfl ?_); try refine .run TBok 99 rfl ?_))
    refine St.condF rfl rfl ?_
    (repeat with_reducible first|refine .nil ?_|refine .then_normal ?_|refine .block_normal ?_|refine .seq ?_|refine .block ?_|refine .skip ?_|refine .region ?_|refine .ret ?_|refine .then_ret ?_|refine .block_ret ?_|refine .exit ?_|refine .then_exit ?_|refine .block_exit ?_|refine .block_other rfl ?_)
    refine StL.as TBok 3 (.int .i64 1) rfl (by rw [strB_size]; rfl) ?_
    refine StL.step rfl rfl rfl (RunsTo.strFrom TBok 1 rfl rfl rfl rfl (by cases s <;> simp at hh ⊢)).op ?_
    rintro _ _ ⟨rfl, rfl⟩
    (iterate 6 ((repeat with_reducible first|refine .nil ?_|refine .then_normal ?_|refine .block_normal ?_|refine .seq ?_|refine .block ?_|refine .skip ?_|refine .region ?_|refine .ret ?_|refine .then_ret ?_|refine .block_ret ?_|refine .exit ?_|refine .then_exit ?_|refine .block_exit ?_|refine .block_other rfl ?_); try refine .run TBok 99 rfl ?_))
    exact Out.ret2 rfl rfl rfl ⟨hx1, by rw [List.drop_one]⟩
  · rw [decide_eq_false hh, if_neg hh]
    (iterate 6 ((repeat with_reducible first|refine .nil ?_|refine .then_normal ?_|refine .block_normal ?_|refine .seq ?_|refine .block ?_|refine .skip ?_|refine .region ?_|refine .ret ?_|refine .then_ret ?_|refine .block_ret ?_|refine .exit ?_|refine .then_exit ?_|refine .block_exit ?_|refine .block_other rfl ?_); try refine .run TBok 99 rfl ?_))
    refine St.condT rfl rfl ?_
    (iterate 6 ((repeat with_reducible first|refine .nil ?_|refine .then_normal ?_|refine .block_normal ?_|refine .seq ?_|refine .block ?_|refine .skip ?_|refine .region ?_|refine .ret ?_|refine .then_ret ?_|refine .block_ret ?_|refine .exit ?_|refine .then_exit ?_|refine .block_exit ?_|refine .block_other rfl ?_); try refine .run TBok 99 rfl ?_))
    exact Out.ret2 rfl rfl rfl ⟨hx1, rfl⟩

theorem cutPrefix_spec (w : World) (s : List Nat) (h : B8 s) : Calls Try.prog 62 #[strV s, strV [45]] w (Ret fun r w' => Ext w w' ∧ r = .tuple #[strV (body s), .bool (isNeg s)]) := by
  refine calls_of_St (args := [_, _]) Try.func62 rfl Try.ntmps62 rfl ?_
  (iterate 6 ((repeat with_reducible first|refine .nil ?_|refine .then_normal ?_|refine .block_normal ?_|refine .seq ?_|refine .block ?_|refine .skip ?_|refine .region ?_|refine .ret ?_|refine .then_ret ?_|refine .block_ret ?_|refine .exit ?_|refine .then_exit ?_|refine .block_exit ?_|refine .block_other rfl ?_); try refine .run TBok 99 rfl ?_))
  refine StL.step rfl rfl rfl (OpR.call fn_internal_stringslite_CutPrefix rfl (sliteCut_spec w s h)) ?_
  rintro _ w1 ⟨hx1, rfl⟩
  (iterate 6 ((repeat with_reducible first|refine .nil ?_|refine .then_normal ?_|refine .block_normal ?_|refine .seq ?_|refine .block ?_|refine .skip ?_|refine .region ?_|refine .ret ?_|refine .then_ret ?_|refine .block_ret ?_|refine .exit ?_|refine .then_exit ?_|refine .block_exit ?_|refine .block_other rfl ?_); try refine .run TBok 99 rfl ?_))
  exact Out.ret2 rfl rfl rfl ⟨hx1, rfl⟩

end Go.Qf

/- integer.isNumeral. -/
namespace Go.Qf
open Go Go.RowKit Go.Proofs
set_option maxRecDepth 20000

instance (b : Nat) : Decidable (isDig b) := by unfold isDig; infer_instance
instance (s : List Nat) : Decidable (Numl s) := by unfold Numl; infer_instance

/-- A guard that stands on an operation that was passed over: the operation is passed over too. -/
theorem StL.skipU {P : Program} {n : Nat} {E : List (Nat × Value)} {w : World} {Q : Exit → Act → World → Prop} {ops : Array Oper} {rest : List Oper} {o : Oper} {d j e : Nat} {want : Bool} (hd : o.dst = some d) (hg : o.guard = some (j, want)) (hj : (ops[j]?).bind (·.dst) = some e) (hu : look E e = some undef) (hn : Nat.blt d n = true)
    (next : StL P n ((d, undef) :: E) w ops rest Q) : StL P n E w ops (o :: rest) Q := by
  intro a ha
  refine wpList_step fun K hK => ?_
  have hs := ha.slots e undef hu
  have hf : Region.wanted o (yielded ops a.tmps) = false := by
    unfold Region.wanted
    rw [hg]
    simp [yielded, hj, hs, undef]
  rw [if_neg (by rw [hf]; simp)]
  exact hK _ _ (next _ (by rw [hd]; exact ha.put hn undef))

theorem numl_not {s : List Nat} {p b : Nat} (hb : s[p]? = some b) (h : ¬ isDig b) : decide (Numl s) = false :=
  decide_eq_false fun hn => h (hn.2.1 b (List.mem_of_getElem? hb))

set_option maxHeartbeats 400000 in
theorem isNumeral_spec (w : World) (s : List Nat) (h : B8 s) (hlen : s.length ≤ 1000000000000) : Calls Try.prog 63 #[strV s] w (Ret fun r w' => Ext w w' ∧ r = .bool (decide (Numl s))) := by
  refine calls_of_St (args := [_]) Try.func63 rfl Try.ntmps63 rfl ?_
  (repeat with_reducible first|refine .nil ?_|refine .then_normal ?_|refine .block_normal ?_|refine .seq ?_|refine .block ?_|refine .skip ?_|refine .region ?_|refine .ret ?_|refine .then_ret ?_|refine .block_ret ?_|refine .exit ?_|refine .then_exit ?_|refine .block_exit ?_|refine .block_other rfl ?_)
  refine .run TBok 99 rfl ?_
  (repeat with_reducible first|refine .nil ?_|refine .then_normal ?_|refine .block_normal ?_|refine .seq ?_|refine .block ?_|refine .skip ?_|refine .region ?_|refine .ret ?_|refine .then_ret ?_|refine .block_ret ?_|refine .exit ?_|refine .then_exit ?_|refine .block_exit ?_|refine .block_other rfl ?_)
  refine .run TBok 99 rfl ?_
  refine StL.step rfl rfl rfl (OpR.rangeStr TBok rfl rfl) ?_
  rintro _ w1 ⟨rfl, hi1, hx1, _⟩
  (refine StL.nil ?_; repeat with_reducible first | refine Out.then_normal ?_ | refine Out.block_normal ?_)
  (repeat with_reducible first|refine .nil ?_|refine .then_normal ?_|refine .block_normal ?_|refine .seq ?_|refine .block ?_|refine .skip ?_|refine .region ?_|refine .ret ?_|refine .then_ret ?_|refine .block_ret ?_|refine .exit ?_|refine .then_exit ?_|refine .block_exit ?_|refine .block_other rfl ?_)
  refine St.loop (fun p : Nat => [(0, strV s), (6, .pointer (some ⟨w.heap.size, 0, none⟩))])
    (fun p w' => Ext w w' ∧ It w' w.heap.size (strB s) p ∧ p ≤ s.length ∧ (∀ i b, i < p → s[i]? = some b → isDig b) ∧ ¬ (2 ≤ p ∧ s.head? = some 48)) (fun p => s.length - p) 0 ⟨rfl, rfl, trivial⟩ ⟨hx1, hi1, Nat.zero_le _, fun i b hi => by omega, by omega⟩ ?_
  rintro p w2 ⟨hx2, hi2, hp2, hd2, hz2⟩
  by_cases hp : p < s.length
  · (repeat with_reducible first|refine .nil ?_|refine .then_normal ?_|refine .block_normal ?_|refine .seq ?_|refine .block ?_|refine .skip ?_|refine .region ?_|refine .ret ?_|refine .then_ret ?_|refine .block_ret ?_|refine .exit ?_|refine .then_exit ?_|refine .block_exit ?_|refine .block_other rfl ?_)
    refine StL.step rfl rfl rfl (OpR.nextAny rfl hi2 (by rw [strB_size]; exact hp)) ?_
    rintro _ w3 ⟨rfl, hi3, hu3⟩
    have hx3 := hx2.then_upd hu3 (Nat.le_refl _)
    obtain ⟨b, hb⟩ : ∃ b, s[p]? = some b := ⟨s[p], by simp [hp]⟩
    have hb8 := h.get hb
    (iterate 6 ((repeat with_reducible first|refine .nil ?_|refine .then_normal ?_|refine .block_normal ?_|refine .seq ?_|refine .block ?_|refine .skip ?_|refine .region ?_|refine .ret ?_|refine .then_ret ?_|refine .block_ret ?_|refine .exit ?_|refine .then_exit ?_|refine .block_exit ?_|refine .block_other rfl ?_); try refine .run TBok 99 rfl ?_))
    refine St.condT rfl rfl ?_
    (repeat with_reducible first|refine .nil ?_|refine .then_normal ?_|refine .block_normal ?_|refine .seq ?_|refine .block ?_|refine .skip ?_|refine .region ?_|refine .ret ?_|refine .then_ret ?_|refine .block_ret ?_|refine .exit ?_|refine .then_exit ?_|refine .block_exit ?_|refine .block_other rfl ?_)
    refine .run TBok 99 rfl ?_
    (repeat with_reducible first|refine .nil ?_|refine .then_normal ?_|refine .block_normal ?_|refine .seq ?_|refine .block ?_|refine .skip ?_|refine .region ?_|refine .ret ?_|refine .then_ret ?_|refine .block_ret ?_|refine .exit ?_|refine .then_exit ?_|refine .block_exit ?_|refine .block_other rfl ?_)
    by_cases h128 : b < 128
    · rw [decode_low hb h128] at hi3 ⊢
      dsimp only at hi3 ⊢
      by_cases hlo : b < 48
      · refine StL.as TBok 2 (.bool true) rfl (bool_true (by omega)) ?_
        refine .run TBok 99 rfl ?_
        (iterate 3 refine StL.skipU rfl rfl rfl rfl rfl ?_)
        (iterate 6 ((repeat with_reducible first|refine .nil ?_|refine .then_normal ?_|refine .block_normal ?_|refine .seq ?_|refine .block ?_|refine .skip ?_|refine .region ?_|refine .ret ?_|refine .then_ret ?_|refine .block_ret ?_|refine .exit ?_|refine .then_exit ?_|refine .block_exit ?_|refine .block_other rfl ?_); try refine .run TBok 99 rfl ?_))
        refine St.condT rfl rfl ?_
        (iterate 6 ((repeat with_reducible first|refine .nil ?_|refine .then_normal ?_|refine .block_normal ?_|refine .seq ?_|refine .block ?_|refine .skip ?_|refine .region ?_|refine .ret ?_|refine .then_ret ?_|refine .block_ret ?_|refine .exit ?_|refine .then_exit ?_|refine .block_exit ?_|refine .block_other rfl ?_); try refine .run TBok 99 rfl ?_))
        exact Out.ret1 rfl rfl ⟨hx3, by rw [numl_not hb (by unfold isDig; omega)]⟩
      refine StL.as TBok 2 (.bool false) rfl (bool_false (by omega)) ?_
      by_cases hhi : 57 < b
      · refine StL.as TBok 3 (.bool true) rfl (bool_true (by omega)) ?_
        refine .run TBok 99 rfl ?_
        (iterate 3 refine StL.skipU rfl rfl rfl rfl rfl ?_)
        (iterate 6 ((repeat with_reducible first|refine .nil ?_|refine .then_normal ?_|refine .block_normal ?_|refine .seq ?_|refine .block ?_|refine .skip ?_|refine .region ?_|refine .ret ?_|refine .then_ret ?_|refine .block_ret ?_|refine .exit ?_|refine .then_exit ?_|refine .block_exit ?_|refine .block_other rfl ?_); try refine .run TBok 99 rfl ?_))
        refine St.condT rfl rfl ?_
        (iterate 6 ((repeat with_reducible first|refine .nil ?_|refine .then_normal ?_|refine .block_normal ?_|refine .seq ?_|refine .block ?_|refine .skip ?_|refine .region ?_|refine .ret ?_|refine .then_ret ?_|refine .block_ret ?_|refine .exit ?_|refine .then_exit ?_|refine .block_exit ?_|refine .block_other rfl ?_); try refine .run TBok 99 rfl ?_))
        exact Out.ret1 rfl rfl ⟨hx3, by rw [numl_not hb (by unfold isDig; omega)]⟩
      refine StL.as TBok 3 (.bool false) rfl (bool_false (by omega)) ?_
      have hdig : isDig b := by unfold isDig; omega
      have hd3 : ∀ i b, i < p + 1 → s[i]? = some b → isDig b := by
        intro i c hi hc
        rcases Nat.lt_or_ge i p with h1 | h1
        · exact hd2 i c h1 hc
        · have : i = p := by omega
          subst this
          rw [hb] at hc
          cases hc
          exact hdig
      by_cases hp1 : p = 1
      · subst hp1
        refine StL.as TBok 4 (.bool true) rfl rfl ?_
        obtain ⟨b0, hb0⟩ : ∃ b, s[0]? = some b := ⟨s[0], by simp⟩
        have hh : s.head? = some b0 := by rw [List.head?_eq_getElem?]; exact hb0
        refine .run TBok 99 rfl ?_
        refine StL.step rfl rfl rfl (RunsTo.strIndex TBok 0 b0 rfl rfl rfl rfl hb0 (h.get hb0)).op ?_
        rintro _ _ ⟨rfl, rfl⟩
        by_cases h48 : b0 = 48
        · subst h48
          (iterate 6 ((repeat with_reducible first|refine .nil ?_|refine .then_normal ?_|refine .block_normal ?_|refine .seq ?_|refine .block ?_|refine .skip ?_|refine .region ?_|refine .ret ?_|refine .then_ret ?_|refine .block_ret ?_|refine .exit ?_|refine .then_exit ?_|refine .block_exit ?_|refine .block_other rfl ?_); try refine .run TBok 99 rfl ?_))
          refine St.condT rfl rfl ?_
          (iterate 6 ((repeat with_reducible first|refine .nil ?_|refine .then_normal ?_|refine .block_normal ?_|refine .seq ?_|refine .block ?_|refine .skip ?_|refine .region ?_|refine .ret ?_|refine .then_ret ?_|refine .block_ret ?_|refine .exit ?_|refine .then_exit ?_|refine .block_exit ?_|refine .block_other rfl ?_); try refine .run TBok 99 rfl ?_))
          refine Out.ret1 rfl rfl ⟨hx3, ?_⟩
          rw [decide_eq_false]
          rintro ⟨_, _, hn⟩
          exact hn ⟨by omega, hh⟩
        · refine StL.as TBok 1 (.bool false) rfl (by
            have : ¬ ((b0 : Int) = 48) := by omega
            simpa using this) ?_
          (iterate 6 ((repeat with_reducible first|refine .nil ?_|refine .then_normal ?_|refine .block_normal ?_|refine .seq ?_|refine .block ?_|refine .skip ?_|refine .region ?_|refine .ret ?_|refine .then_ret ?_|refine .block_ret ?_|refine .exit ?_|refine .then_exit ?_|refine .block_exit ?_|refine .block_other rfl ?_); try refine .run TBok 99 rfl ?_))
          refine St.condF rfl rfl ?_
          (iterate 6 ((repeat with_reducible first|refine .nil ?_|refine .then_normal ?_|refine .block_normal ?_|refine .seq ?_|refine .block ?_|refine .skip ?_|refine .region ?_|refine .ret ?_|refine .then_ret ?_|refine .block_ret ?_|refine .exit ?_|refine .then_exit ?_|refine .block_exit ?_|refine .block_other rfl ?_); try refine .run TBok 99 rfl ?_))
          refine Out.again 2 ⟨rfl, rfl, trivial⟩ ⟨hx3, hi3, by omega, hd3, ?_⟩ (by omega)
          rintro ⟨_, h2⟩
          rw [hh] at h2
          exact h48 (Option.some.inj h2)
      · refine StL.as TBok 4 (.bool false) rfl (by
          have : ¬ ((p : Int) = 1) := by omega
          simpa using this) ?_
        (iterate 6 ((repeat with_reducible first|refine .nil ?_|refine .then_normal ?_|refine .block_normal ?_|refine .seq ?_|refine .block ?_|refine .skip ?_|refine .region ?_|refine .ret ?_|refine .then_ret ?_|refine .block_ret ?_|refine .exit ?_|refine .then_exit ?_|refine .block_exit ?_|refine .block_other rfl ?_); try refine .run TBok 99 rfl ?_))
        refine St.condF rfl rfl ?_
        (iterate 6 ((repeat with_reducible first|refine .nil ?_|refine .then_normal ?_|refine .block_normal ?_|refine .seq ?_|refine .block ?_|refine .skip ?_|refine .region ?_|refine .ret ?_|refine .then_ret ?_|refine .block_ret ?_|refine .exit ?_|refine .then_exit ?_|refine .block_exit ?_|refine .block_other rfl ?_); try refine .run TBok 99 rfl ?_))
        refine Out.again (p + 1) ⟨rfl, rfl, trivial⟩ ⟨hx3, hi3, by omega, hd3, ?_⟩ (by omega)
        rintro ⟨h1, h2⟩
        exact hz2 ⟨by omega, h2⟩
    · have hr := decode_high hb hb8 (by omega)
      generalize Utf8.decode (strB s) p = D at hr hi3 ⊢
      refine StL.as TBok 2 (.bool false) rfl (bool_false (by omega)) ?_
      refine StL.as TBok 3 (.bool true) rfl (bool_true (by omega)) ?_
      refine .run TBok 99 rfl ?_
      (iterate 3 refine StL.skipU rfl rfl rfl rfl rfl ?_)
      (iterate 6 ((repeat with_reducible first|refine .nil ?_|refine .then_normal ?_|refine .block_normal ?_|refine .seq ?_|refine .block ?_|refine .skip ?_|refine .region ?_|refine .ret ?_|refine .then_ret ?_|refine .block_ret ?_|refine .exit ?_|refine .then_exit ?_|refine .block_exit ?_|refine .block_other rfl ?_); try refine .run TBok 99 rfl ?_))
      refine St.condT rfl rfl ?_
      (iterate 6 ((repeat with_reducible first|refine .nil ?_|refine .then_normal ?_|refine .block_normal ?_|refine .seq ?_|refine .block ?_|refine .skip ?_|refine .region ?_|refine .ret ?_|refine .then_ret ?_|refine .block_ret ?_|refine .exit ?_|refine .then_exit ?_|refine .block_exit ?_|refine .block_other rfl ?_); try refine .run TBok 99 rfl ?_))
      exact Out.ret1 rfl rfl ⟨hx3, by rw [numl_not hb (by unfold isDig; omega)]⟩
  · have hpl : p = s.length := by omega
    subst hpl
    (repeat with_reducible first|refine .nil ?_|refine .then_normal ?_|refine .block_normal ?_|refine .seq ?_|refine .block ?_|refine .skip ?_|refine .region ?_|refine .ret ?_|refine .then_ret ?_|refine .block_ret ?_|refine .exit ?_|refine .then_exit ?_|refine .block_exit ?_|refine .block_other rfl ?_)
    refine StL.step rfl rfl rfl (OpR.nextEnd rfl hi2 (by rw [strB_size]; omega)) ?_
    rintro _ _ ⟨rfl, rfl⟩
    (iterate 6 ((repeat with_reducible first|refine .nil ?_|refine .then_normal ?_|refine .block_normal ?_|refine .seq ?_|refine .block ?_|refine .skip ?_|refine .region ?_|refine .ret ?_|refine .then_ret ?_|refine .block_ret ?_|refine .exit ?_|refine .then_exit ?_|refine .block_exit ?_|refine .block_other rfl ?_); try refine .run TBok 99 rfl ?_))
    refine St.condF rfl rfl ?_
    (iterate 6 ((repeat with_reducible first|refine .nil ?_|refine .then_normal ?_|refine .block_normal ?_|refine .seq ?_|refine .block ?_|refine .skip ?_|refine .region ?_|refine .ret ?_|refine .then_ret ?_|refine .block_ret ?_|refine .exit ?_|refine .then_exit ?_|refine .block_exit ?_|refine .block_other rfl ?_); try refine .run TBok 99 rfl ?_))
    refine StL.step rfl rfl rfl (RunsTo.strNeq (bs := []) h b8_nil rfl rfl).op ?_
    rintro _ _ ⟨rfl, rfl⟩
    (iterate 6 ((repeat with_reducible first|refine .nil ?_|refine .then_normal ?_|refine .block_normal ?_|refine .seq ?_|refine .block ?_|refine .skip ?_|refine .region ?_|refine .ret ?_|refine .then_ret ?_|refine .block_ret ?_|refine .exit ?_|refine .then_exit ?_|refine .block_exit ?_|refine .block_other rfl ?_); try refine .run TBok 99 rfl ?_))
    refine Out.ret1 rfl rfl ⟨hx2, ?_⟩
    by_cases h0 : s = []
    · subst h0; rfl
    · rw [decide_eq_false h0, decide_eq_true]; rfl
      refine ⟨h0, fun b hb => ?_, hz2⟩
      obtain ⟨i, hi⟩ := List.getElem?_of_mem hb
      exact hd2 i b (List.getElem?_eq_some_iff.1 hi).1 hi

end Go.Qf

/- quadformref01.IsNumber, Long. -/
namespace Go.Qf
open Go Go.RowKit Go.Proofs
set_option maxRecDepth 20000

/-- The text of a number. -/
def Numb (s : List Nat) : Prop := Numl (body s) ∧ ¬ (isNeg s = true ∧ body s = [48])
instance (s : List Nat) : Decidable (Numb s) := by unfold Numb; infer_instance

theorem numb_not_dig {s : List Nat} {p b : Nat} (hb : (body s)[p]? = some b) (h : ¬ isDig b) : decide (Numb s) = false :=
  decide_eq_false fun hn => h (hn.1.2.1 b (List.mem_of_getElem? hb))

theorem numb_zero {s r : List Nat} (hb : body s = 48 :: r) (hs : s ≠ [48]) : decide (Numb s) = false := by
  refine decide_eq_false ?_
  rintro ⟨⟨_, _, h1⟩, h2⟩
  rw [hb] at h1 h2
  cases r with
  | nil =>
    by_cases hn : isNeg s = true
    · exact h2 ⟨hn, rfl⟩
    · unfold isNeg at hn
      unfold body at hb
      rw [if_neg (by simpa using hn)] at hb
      exact hs hb
  | cons c t => exact h1 ⟨by simp, rfl⟩

theorem numb_yes {s r : List Nat} {b : Nat} (hb : body s = b :: r) (h48 : b = 48 → s = [48]) (hd : ∀ c ∈ b :: r, isDig c) : decide (Numb s) = true := by
  refine decide_eq_true ⟨⟨by rw [hb]; simp, by rw [hb]; exact hd, ?_⟩, ?_⟩
  · rintro ⟨h1, h2⟩
    rw [hb] at h1 h2
    have e := h48 (by simpa using h2)
    subst e
    simp [body] at hb
    rw [hb.2] at h1
    simp at h1
  · rintro ⟨h1, h2⟩
    rw [hb] at h2
    have e := h48 (by simp at h2; exact h2.1)
    subst e
    simp [isNeg] at h1

set_option maxHeartbeats 400000 in
theorem isNumber_spec (w : World) (s : List Nat) (h : B8 s) (hlen : s.length ≤ 1000000000000) : Calls Try.prog 91 #[strV s] w (Ret fun r w' => Ext w w' ∧ r = .bool (decide (Numb s))) := by
  have hbl := body_le s
  have hB8 := h.body
  refine calls_of_St (args := [_]) Try.func91 rfl Try.ntmps91 rfl ?_
  (repeat with_reducible first|refine .nil ?_|refine .then_normal ?_|refine .block_normal ?_|refine .seq ?_|refine .block ?_|refine .skip ?_|refine .region ?_|refine .ret ?_|refine .then_ret ?_|refine .block_ret ?_|refine .exit ?_|refine .then_exit ?_|refine .block_exit ?_|refine .block_other rfl ?_)
  refine .run TBok 99 rfl ?_
  (repeat with_reducible first|refine .nil ?_|refine .then_normal ?_|refine .block_normal ?_|refine .seq ?_|refine .block ?_|refine .skip ?_|refine .region ?_|refine .ret ?_|refine .then_ret ?_|refine .block_ret ?_|refine .exit ?_|refine .then_exit ?_|refine .block_exit ?_|refine .block_other rfl ?_)
  refine .run TBok 99 rfl ?_
  (refine StL.nil ?_; repeat with_reducible first | refine Out.then_normal ?_ | refine Out.block_normal ?_)
  refine St.cut (fun _ : Unit => [(0, strV s), (3, strV (body s))]) (fun _ w' => w' = w) ?_ ?_
  · (repeat with_reducible first|refine .nil ?_|refine .then_normal ?_|refine .block_normal ?_|refine .seq ?_|refine .block ?_|refine .skip ?_|refine .region ?_|refine .ret ?_|refine .then_ret ?_|refine .block_ret ?_|refine .exit ?_|refine .then_exit ?_|refine .block_exit ?_|refine .block_other rfl ?_)
    refine StL.as TBok 2 (.int .i64 (s.length : Int)) rfl (by rw [strB_size]) ?_
    cases s with
    | nil =>
      (iterate 6 ((repeat with_reducible first|refine .nil ?_|refine .then_normal ?_|refine .block_normal ?_|refine .seq ?_|refine .block ?_|refine .skip ?_|refine .region ?_|refine .ret ?_|refine .then_ret ?_|refine .block_ret ?_|refine .exit ?_|refine .then_exit ?_|refine .block_exit ?_|refine .block_other rfl ?_); try refine .run TBok 99 rfl ?_))
      refine St.condF rfl rfl ?_
      exact St.skip (Out.met () ⟨rfl, rfl, trivial⟩ rfl)
    | cons b r =>
      refine StL.as TBok 1 (.bool true) rfl (bool_true (by simp only [List.length_cons]; omega)) ?_
      refine .run TBok 99 rfl ?_
      refine StL.step rfl rfl rfl (RunsTo.strIndex TBok 0 b rfl rfl rfl rfl rfl (h.get (i := 0) rfl)).op ?_
      rintro _ _ ⟨rfl, rfl⟩
      by_cases h45 : b = 45
      · subst h45
        (iterate 6 ((repeat with_reducible first|refine .nil ?_|refine .then_normal ?_|refine .block_normal ?_|refine .seq ?_|refine .block ?_|refine .skip ?_|refine .region ?_|refine .ret ?_|refine .then_ret ?_|refine .block_ret ?_|refine .exit ?_|refine .then_exit ?_|refine .block_exit ?_|refine .block_other rfl ?_); try refine .run TBok 99 rfl ?_))
        refine St.condT rfl rfl ?_
        (repeat with_reducible first|refine .nil ?_|refine .then_normal ?_|refine .block_normal ?_|refine .seq ?_|refine .block ?_|refine .skip ?_|refine .region ?_|refine .ret ?_|refine .then_ret ?_|refine .block_ret ?_|refine .exit ?_|refine .then_exit ?_|refine .block_exit ?_|refine .block_other rfl ?_)
        refine .run TBok 99 rfl ?_
        refine StL.step rfl rfl rfl (RunsTo.strFrom TBok 1 rfl rfl rfl rfl (by simp)).op ?_
        rintro _ _ ⟨rfl, rfl⟩
        refine .run TBok 99 rfl ?_
        exact StL.nil (Out.met () ⟨rfl, rfl, trivial⟩ rfl)
      · refine StL.as TBok 1 (.bool false) rfl (by
          have : ¬ ((b : Int) = 45) := by omega
          simpa using this) ?_
        (iterate 6 ((repeat with_reducible first|refine .nil ?_|refine .then_normal ?_|refine .block_normal ?_|refine .seq ?_|refine .block ?_|refine .skip ?_|refine .region ?_|refine .ret ?_|refine .then_ret ?_|refine .block_ret ?_|refine .exit ?_|refine .then_exit ?_|refine .block_exit ?_|refine .block_other rfl ?_); try refine .run TBok 99 rfl ?_))
        refine St.condF rfl rfl ?_
        have e : body (b :: r) = b :: r := by
          unfold body
          rw [if_neg (by simp [h45])]
        rw [e]
        exact St.skip (Out.met () ⟨rfl, rfl, trivial⟩ rfl)
  rintro _ w1 rfl
  generalize ht : body s = t at *
  refine St.cut (fun _ : Unit => [(0, strV s), (3, strV t)]) (fun _ w' => w' = w1 ∧ ∃ b r, t = b :: r ∧ (b = 48 → s = [48])) ?_ ?_
  · (repeat with_reducible first|refine .nil ?_|refine .then_normal ?_|refine .block_normal ?_|refine .seq ?_|refine .block ?_|refine .skip ?_|refine .region ?_|refine .ret ?_|refine .then_ret ?_|refine .block_ret ?_|refine .exit ?_|refine .then_exit ?_|refine .block_exit ?_|refine .block_other rfl ?_)
    refine StL.as TBok 2 (.int .i64 (t.length : Int)) rfl (by rw [strB_size]) ?_
    cases t with
    | nil =>
      refine .run TBok 99 rfl ?_
      (iterate 2 refine StL.skipU rfl rfl rfl rfl rfl ?_)
      (iterate 6 ((repeat with_reducible first|refine .nil ?_|refine .then_normal ?_|refine .block_normal ?_|refine .seq ?_|refine .block ?_|refine .skip ?_|refine .region ?_|refine .ret ?_|refine .then_ret ?_|refine .block_ret ?_|refine .exit ?_|refine .then_exit ?_|refine .block_exit ?_|refine .block_other rfl ?_); try refine .run TBok 99 rfl ?_))
      refine St.condT rfl rfl ?_
      (iterate 6 ((repeat with_reducible first|refine .nil ?_|refine .then_normal ?_|refine .block_normal ?_|refine .seq ?_|refine .block ?_|refine .skip ?_|refine .region ?_|refine .ret ?_|refine .then_ret ?_|refine .block_ret ?_|refine .exit ?_|refine .then_exit ?_|refine .block_exit ?_|refine .block_other rfl ?_); try refine .run TBok 99 rfl ?_))
      refine Out.ret1 rfl rfl ⟨Ext.refl _, ?_⟩
      rw [decide_eq_false]
      rintro ⟨⟨h1, _⟩, _⟩
      exact h1 ht
    | cons b r =>
      refine StL.as TBok 1 (.bool false) rfl (by
        have : ¬ (((b :: r).length : Int) = 0) := by simp; omega
        simpa using this) ?_
      refine .run TBok 99 rfl ?_
      refine StL.step rfl rfl rfl (RunsTo.strIndex TBok 0 b rfl rfl rfl rfl rfl (hB8.get (i := 0) rfl)).op ?_
      rintro _ _ ⟨rfl, rfl⟩
      by_cases h48 : b = 48
      · subst h48
        refine .run TBok 99 rfl ?_
        refine StL.step rfl rfl rfl (RunsTo.strNeq (bs := [48]) h b8_zero rfl rfl).op ?_
        rintro _ _ ⟨rfl, rfl⟩
        by_cases h1 : s = [48]
        · rw [decide_eq_true h1]
          (iterate 6 ((repeat with_reducible first|refine .nil ?_|refine .then_normal ?_|refine .block_normal ?_|refine .seq ?_|refine .block ?_|refine .skip ?_|refine .region ?_|refine .ret ?_|refine .then_ret ?_|refine .block_ret ?_|refine .exit ?_|refine .then_exit ?_|refine .block_exit ?_|refine .block_other rfl ?_); try refine .run TBok 99 rfl ?_))
          refine St.condF rfl rfl ?_
          exact St.skip (Out.met () ⟨rfl, rfl, trivial⟩ ⟨rfl, _, _, rfl, fun _ => h1⟩)
        · rw [decide_eq_false h1]
          (iterate 6 ((repeat with_reducible first|refine .nil ?_|refine .then_normal ?_|refine .block_normal ?_|refine .seq ?_|refine .block ?_|refine .skip ?_|refine .region ?_|refine .ret ?_|refine .then_ret ?_|refine .block_ret ?_|refine .exit ?_|refine .then_exit ?_|refine .block_exit ?_|refine .block_other rfl ?_); try refine .run TBok 99 rfl ?_))
          refine St.condT rfl rfl ?_
          (iterate 6 ((repeat with_reducible first|refine .nil ?_|refine .then_normal ?_|refine .block_normal ?_|refine .seq ?_|refine .block ?_|refine .skip ?_|refine .region ?_|refine .ret ?_|refine .then_ret ?_|refine .block_ret ?_|refine .exit ?_|refine .then_exit ?_|refine .block_exit ?_|refine .block_other rfl ?_); try refine .run TBok 99 rfl ?_))
          exact Out.ret1 rfl rfl ⟨Ext.refl _, by rw [numb_zero ht h1]⟩
      · refine StL.as TBok 1 (.bool false) rfl (by
          have : ¬ ((b : Int) = 48) := by omega
          simpa using this) ?_
        (iterate 6 ((repeat with_reducible first|refine .nil ?_|refine .then_normal ?_|refine .block_normal ?_|refine .seq ?_|refine .block ?_|refine .skip ?_|refine .region ?_|refine .ret ?_|refine .then_ret ?_|refine .block_ret ?_|refine .exit ?_|refine .then_exit ?_|refine .block_exit ?_|refine .block_other rfl ?_); try refine .run TBok 99 rfl ?_))
        refine St.condF rfl rfl ?_
        exact St.skip (Out.met () ⟨rfl, rfl, trivial⟩ ⟨rfl, _, _, rfl, fun e => absurd e h48⟩)
  rintro _ w1 ⟨rfl, b, r, rfl, hz⟩
  (iterate 6 ((repeat with_reducible first|refine .nil ?_|refine .then_normal ?_|refine .block_normal ?_|refine .seq ?_|refine .block ?_|refine .skip ?_|refine .region ?_|refine .ret ?_|refine .then_ret ?_|refine .block_ret ?_|refine .exit ?_|refine .then_exit ?_|refine .block_exit ?_|refine .block_other rfl ?_); try refine .run TBok 99 rfl ?_))
  refine St.loop (fun i : Nat => [(0, strV s), (3, strV (b :: r)), (4, .int .i64 i)]) (fun i w' => w' = w1 ∧ i ≤ (b :: r).length ∧ ∀ j c, j < i → (b :: r)[j]? = some c → isDig c) (fun i => (b :: r).length - i) 0 ⟨rfl, rfl, rfl, trivial⟩ ⟨rfl, Nat.zero_le _, fun j c hj => by omega⟩ ?_
  rintro i w2 ⟨rfl, hi, hd⟩
  (repeat with_reducible first|refine .nil ?_|refine .then_normal ?_|refine .block_normal ?_|refine .seq ?_|refine .block ?_|refine .skip ?_|refine .region ?_|refine .ret ?_|refine .then_ret ?_|refine .block_ret ?_|refine .exit ?_|refine .then_exit ?_|refine .block_exit ?_|refine .block_other rfl ?_)
  refine StL.as TBok 3 (.int .i64 ((b :: r).length : Int)) rfl (by rw [strB_size]) ?_
  by_cases hil : i < (b :: r).length
  · refine StL.as TBok 1 (.bool true) rfl (bool_true (by omega)) ?_
    obtain ⟨c, hc⟩ : ∃ c, (b :: r)[i]? = some c := ⟨(b :: r)[i], by simp⟩
    have hc' : (body s)[i]? = some c := by rw [ht]; exact hc
    (iterate 6 ((repeat with_reducible first|refine .nil ?_|refine .then_normal ?_|refine .block_normal ?_|refine .seq ?_|refine .block ?_|refine .skip ?_|refine .region ?_|refine .ret ?_|refine .then_ret ?_|refine .block_ret ?_|refine .exit ?_|refine .then_exit ?_|refine .block_exit ?_|refine .block_other rfl ?_); try refine .run TBok 99 rfl ?_))
    refine St.condT rfl rfl ?_
    (repeat with_reducible first|refine .nil ?_|refine .then_normal ?_|refine .block_normal ?_|refine .seq ?_|refine .block ?_|refine .skip ?_|refine .region ?_|refine .ret ?_|refine .then_ret ?_|refine .block_ret ?_|refine .exit ?_|refine .then_exit ?_|refine .block_exit ?_|refine .block_other rfl ?_)
    refine .run TBok 99 rfl ?_
    refine StL.step rfl rfl rfl (RunsTo.strIndex TBok i c rfl rfl rfl rfl hc (hB8.get hc)).op ?_
    rintro _ _ ⟨rfl, rfl⟩
    by_cases hlo : c < 48
    · refine StL.as TBok 1 (.bool true) rfl (bool_true (by omega)) ?_
      (iterate 6 ((repeat with_reducible first|refine .nil ?_|refine .then_normal ?_|refine .block_normal ?_|refine .seq ?_|refine .block ?_|refine .skip ?_|refine .region ?_|refine .ret ?_|refine .then_ret ?_|refine .block_ret ?_|refine .exit ?_|refine .then_exit ?_|refine .block_exit ?_|refine .block_other rfl ?_); try refine .run TBok 99 rfl ?_))
      refine St.condT rfl rfl ?_
      (iterate 6 ((repeat with_reducible first|refine .nil ?_|refine .then_normal ?_|refine .block_normal ?_|refine .seq ?_|refine .block ?_|refine .skip ?_|refine .region ?_|refine .ret ?_|refine .then_ret ?_|refine .block_ret ?_|refine .exit ?_|refine .then_exit ?_|refine .block_exit ?_|refine .block_other rfl ?_); try refine .run TBok 99 rfl ?_))
      exact Out.ret1 rfl rfl ⟨Ext.refl _, by rw [numb_not_dig hc' (by unfold isDig; omega)]⟩
    refine StL.as TBok 1 (.bool false) rfl (bool_false (by omega)) ?_
    refine .run TBok 99 rfl ?_
    refine StL.step rfl rfl rfl (RunsTo.strIndex TBok i c rfl rfl rfl rfl hc (hB8.get hc)).op ?_
    rintro _ _ ⟨rfl, rfl⟩
    by_cases hhi : 57 < c
    · refine StL.as TBok 1 (.bool true) rfl (bool_true (by omega)) ?_
      (iterate 6 ((repeat with_reducible first|refine .nil ?_|refine .then_normal ?_|refine .block_normal ?_|refine .seq ?_|refine .block ?_|refine .skip ?_|refine .region ?_|refine .ret ?_|refine .then_ret ?_|refine .block_ret ?_|refine .exit ?_|refine .then_exit ?_|refine .block_exit ?_|refine .block_other rfl ?_); try refine .run TBok 99 rfl ?_))
      refine St.condT rfl rfl ?_
      (iterate 6 ((repeat with_reducible first|refine .nil ?_|refine .then_normal ?_|refine .block_normal ?_|refine .seq ?_|refine .block ?_|refine .skip ?_|refine .region ?_|refine .ret ?_|refine .then_ret ?_|refine .block_ret ?_|refine .exit ?_|refine .then_exit ?_|refine .block_exit ?_|refine .block_other rfl ?_); try refine .run TBok 99 rfl ?_))
      exact Out.ret1 rfl rfl ⟨Ext.refl _, by rw [numb_not_dig hc' (by unfold isDig; omega)]⟩
    refine StL.as TBok 1 (.bool false) rfl (bool_false (by omega)) ?_
    (iterate 6 ((repeat with_reducible first|refine .nil ?_|refine .then_normal ?_|refine .block_normal ?_|refine .seq ?_|refine .block ?_|refine .skip ?_|refine .region ?_|refine .ret ?_|refine .then_ret ?_|refine .block_ret ?_|refine .exit ?_|refine .then_exit ?_|refine .block_exit ?_|refine .block_other rfl ?_); try refine .run TBok 99 rfl ?_))
    refine St.condF rfl rfl ?_
    (iterate 6 ((repeat with_reducible first|refine .nil ?_|refine .then_normal ?_|refine .block_normal ?_|refine .seq ?_|refine .block ?_|refine .skip ?_|refine .region ?_|refine .ret ?_|refine .then_ret ?_|refine .block_ret ?_|refine .exit ?_|refine .then_exit ?_|refine .block_exit ?_|refine .block_other rfl ?_); try refine .run TBok 99 rfl ?_))
    refine Out.again (i + 1) ⟨rfl, rfl, ?_, trivial⟩ ⟨rfl, by omega, ?_⟩ (by omega)
    · show some (Value.int .i64 _) = _
      rw [i64_id (by omega) (by omega)]; rfl
    · intro j e hj he
      rcases Nat.lt_or_ge j i with h1 | h1
      · exact hd j e h1 he
      · have : j = i := by omega
        subst this
        rw [hc] at he
        cases he
        unfold isDig; omega
  · refine StL.as TBok 1 (.bool false) rfl (bool_false (by omega)) ?_
    (iterate 6 ((repeat with_reducible first|refine .nil ?_|refine .then_normal ?_|refine .block_normal ?_|refine .seq ?_|refine .block ?_|refine .skip ?_|refine .region ?_|refine .ret ?_|refine .then_ret ?_|refine .block_ret ?_|refine .exit ?_|refine .then_exit ?_|refine .block_exit ?_|refine .block_other rfl ?_); try refine .run TBok 99 rfl ?_))
    refine St.condF rfl rfl ?_
    (iterate 6 ((repeat with_reducible first|refine .nil ?_|refine .then_normal ?_|refine .block_normal ?_|refine .seq ?_|refine .block ?_|refine .skip ?_|refine .region ?_|refine .ret ?_|refine .then_ret ?_|refine .block_ret ?_|refine .exit ?_|refine .then_exit ?_|refine .block_exit ?_|refine .block_other rfl ?_); try refine .run TBok 99 rfl ?_))
    refine Out.ret1 rfl rfl ⟨Ext.refl _, ?_⟩
    rw [numb_yes ht hz]
    intro e he
    obtain ⟨j, hj⟩ := List.getElem?_of_mem he
    have := (List.getElem?_eq_some_iff.1 hj).1
    exact hd j e (by omega) hj

set_option maxHeartbeats 400000 in
theorem rlong_spec (w : World) (s : List Nat) (h : B8 s) (hlen : s.length ≤ 1000000000000) : Calls Try.prog 92 #[strV s] w (Ret fun r w' => Ext w w' ∧ r = .bool (decide (2000 < (body s).length))) := by
  refine calls_of_St (args := [_]) Try.func92 rfl Try.ntmps92 rfl ?_
  (repeat with_reducible first|refine .nil ?_|refine .then_normal ?_|refine .block_normal ?_|refine .seq ?_|refine .block ?_|refine .skip ?_|refine .region ?_|refine .ret ?_|refine .then_ret ?_|refine .block_ret ?_|refine .exit ?_|refine .then_exit ?_|refine .block_exit ?_|refine .block_other rfl ?_)
  refine .run TBok 99 rfl ?_
  (repeat with_reducible first|refine .nil ?_|refine .then_normal ?_|refine .block_normal ?_|refine .seq ?_|refine .block ?_|refine .skip ?_|refine .region ?_|refine .ret ?_|refine .then_ret ?_|refine .block_ret ?_|refine .exit ?_|refine .then_exit ?_|refine .block_exit ?_|refine .block_other rfl ?_)
  refine StL.as TBok 2 (.int .i64 (s.length : Int)) rfl (by rw [strB_size]) ?_
  have hbl := body_le s
  by_cases h1 : 2000 < s.length
  · refine StL.as TBok 1 (.bool true) rfl (bool_true (by omega)) ?_
    cases s with
    | nil => simp at h1
    | cons b r =>
      refine .run TBok 99 rfl ?_
      refine StL.step rfl rfl rfl (RunsTo.strIndex TBok 0 b rfl rfl rfl rfl rfl (h.get (i := 0) rfl)).op ?_
      rintro _ _ ⟨rfl, rfl⟩
      by_cases h45 : b = 45
      · subst h45
        refine StL.as TBok 1 (.bool false) rfl rfl ?_
        refine StL.as TBok 3 (.int .i64 ((45 :: r).length : Int)) rfl (by rw [strB_size]) ?_
        have e : body (45 :: r) = r := rfl
        rw [e]
        by_cases h2 : 2001 < (45 :: r).length
        · refine StL.as TBok 1 (.bool true) rfl (bool_true (by omega)) ?_
          (iterate 6 ((repeat with_reducible first|refine .nil ?_|refine .then_normal ?_|refine .block_normal ?_|refine .seq ?_|refine .block ?_|refine .skip ?_|refine .region ?_|refine .ret ?_|refine .then_ret ?_|refine .block_ret ?_|refine .exit ?_|refine .then_exit ?_|refine .block_exit ?_|refine .block_other rfl ?_); try refine .run TBok 99 rfl ?_))
          exact Out.ret1 rfl rfl ⟨Ext.refl _, by rw [decide_eq_true (by simp at h2; omega)]⟩
        · refine StL.as TBok 1 (.bool false) rfl (bool_false (by omega)) ?_
          (iterate 6 ((repeat with_reducible first|refine .nil ?_|refine .then_normal ?_|refine .block_normal ?_|refine .seq ?_|refine .block ?_|refine .skip ?_|refine .region ?_|refine .ret ?_|refine .then_ret ?_|refine .block_ret ?_|refine .exit ?_|refine .then_exit ?_|refine .block_exit ?_|refine .block_other rfl ?_); try refine .run TBok 99 rfl ?_))
          exact Out.ret1 rfl rfl ⟨Ext.refl _, by rw [decide_eq_false (by simp at h2; omega)]⟩
      · refine StL.as TBok 1 (.bool true) rfl (by
          have : ¬ ((b : Int) = 45) := by omega
          simpa using this) ?_
        have e : body (b :: r) = b :: r := by
          unfold body
          rw [if_neg (by simp [h45])]
        (iterate 6 ((repeat with_reducible first|refine .nil ?_|refine .then_normal ?_|refine .block_normal ?_|refine .seq ?_|refine .block ?_|refine .skip ?_|refine .region ?_|refine .ret ?_|refine .then_ret ?_|refine .block_ret ?_|refine .exit ?_|refine .then_exit ?_|refine .block_exit ?_|refine .block_other rfl ?_); try refine .run TBok 99 rfl ?_))
        exact Out.ret1 rfl rfl ⟨Ext.refl _, by rw [e, decide_eq_true h1]⟩
  · refine StL.as TBok 1 (.bool false) rfl (bool_false (by omega)) ?_
    refine .run TBok 99 rfl ?_
    (iterate 3 refine StL.skipU rfl rfl rfl rfl rfl ?_)
    (iterate 6 ((repeat with_reducible first|refine .nil ?_|refine .then_normal ?_|refine .block_normal ?_|refine .seq ?_|refine .block ?_|refine .skip ?_|refine .region ?_|refine .ret ?_|refine .then_ret ?_|refine .block_ret ?_|refine .exit ?_|refine .then_exit ?_|refine .block_exit ?_|refine .block_other rfl ?_); try refine .run TBok 99 rfl ?_))
    exact Out.ret1 rfl rfl ⟨Ext.refl _, by rw [decide_eq_false (by omega)]⟩

end Go.Qf

/- quadformref01.Parse. -/
namespace Go.Qf
open Go Go.RowKit Go.Proofs
set_option maxRecDepth 20000

/-- The number that digits say. -/
def dec (l : List Nat) : Nat := l.foldl (fun n b => 10 * n + (b - 48)) 0
theorem dec_snoc (l : List Nat) (b : Nat) : dec (l ++ [b]) = 10 * dec l + (b - 48) := by
  unfold dec; rw [List.foldl_append]; rfl

theorem dec_from : ∀ (l : List Nat) (n : Nat), (∀ b ∈ l, isDig b) → l.foldl (fun n b => 10 * n + (b - 48)) n < (n + 1) * 10 ^ l.length := by
  intro l
  induction l with
  | nil => intro n _; simp
  | cons b l ih =>
    intro n h
    have h1 := ih (10 * n + (b - 48)) (fun c hc => h c (by simp [hc]))
    have h2 := h b (by simp)
    unfold isDig at h2
    rw [List.foldl_cons, List.length_cons, Nat.pow_succ]
    refine Nat.lt_of_lt_of_le h1 ?_
    have h3 : 10 * n + (b - 48) + 1 ≤ (n + 1) * 10 := by omega
    have h4 := Nat.mul_le_mul_right (10 ^ l.length) h3
    rw [Nat.mul_assoc, Nat.mul_comm 10 (10 ^ l.length)] at h4
    exact h4

theorem dec_lt (l : List Nat) (h : ∀ b ∈ l, isDig b) : dec l < 10 ^ l.length := by
  have := dec_from l 0 h
  simpa [dec] using this

theorem dec_sz (l : List Nat) (h : ∀ b ∈ l, isDig b) : sz ((dec l : Nat) : Int) ≤ l.length := by
  have h1 := dec_lt l h
  have h2 : 10 ^ l.length ≤ 4294967296 ^ l.length := Nat.pow_le_pow_left (by decide) _
  unfold sz
  exact limbs_length_lt (Nat.lt_of_lt_of_le h1 h2)

/-- What a text is read as. -/
def perr (s : List Nat) : Int := if Numb s then (if 2000 < (body s).length then 7 else 0) else 2
def pval (s : List Nat) : Int := if perr s = 0 then sg (isNeg s) (dec (body s)) else 0
def ParseV (w : World) (r : Value) (s : List Nat) : Prop := ∃ v, r = .tuple #[v, .int .i64 (perr s)] ∧ Can w v (pval s)

def unsig (l : List Nat) : List Nat := l.filter (fun b => b != 45)

theorem unsig_snoc (l : List Nat) (b : Nat) : unsig (l ++ [b]) = if b = 45 then unsig l else unsig l ++ [b] := by
  unfold unsig
  rw [List.filter_append]
  by_cases h : b = 45
  · subst h; simp
  · rw [if_neg h]; simp [h]

theorem unsig_digs {l : List Nat} (h : ∀ b ∈ l, isDig b) : unsig l = l := by
  unfold unsig
  rw [List.filter_eq_self]
  intro b hb
  have := h b hb
  unfold isDig at this
  have : b ≠ 45 := by omega
  simpa using this

theorem unsig_body {s : List Nat} (h : Numb s) : unsig s = body s := by
  have h1 := unsig_digs h.1.2.1
  unfold body at h1 ⊢
  by_cases h45 : s.head? = some 45
  · rw [if_pos h45] at h1 ⊢
    cases s with
    | nil => simp at h45
    | cons b r =>
      simp at h45
      subst h45
      simpa [unsig] using h1
  · rw [if_neg h45] at h1 ⊢
    exact h1

theorem unsig_dig {s : List Nat} (h : Numb s) {i : Nat} : ∀ b ∈ unsig (s.take i), isDig b := by
  intro b hb
  have h1 : b ∈ unsig s := by
    unfold unsig at hb ⊢
    rw [List.mem_filter] at hb ⊢
    exact ⟨List.mem_of_mem_take hb.1, hb.2⟩
  rw [unsig_body h] at h1
  exact h.1.2.1 b h1

theorem unsig_len (l : List Nat) : (unsig l).length ≤ l.length := List.length_filter_le _ _

set_option maxHeartbeats 600000 in
theorem rparse_spec (w : World) (s : List Nat) (h : B8 s) (hlen : s.length ≤ 1000000000000) : Calls Try.prog 90 #[strV s] w (Ret fun r w' => Ext w w' ∧ ParseV w' r s) := by
  refine calls_of_St (args := [_]) Try.func90 rfl Try.ntmps90 rfl ?_
  (repeat with_reducible first|refine .nil ?_|refine .then_normal ?_|refine .block_normal ?_|refine .seq ?_|refine .block ?_|refine .skip ?_|refine .region ?_|refine .ret ?_|refine .then_ret ?_|refine .block_ret ?_|refine .exit ?_|refine .then_exit ?_|refine .block_exit ?_|refine .block_other rfl ?_)
  refine StL.step rfl rfl rfl (OpR.alloc TBok rfl) ?_
  rintro _ w1 ⟨rfl, hb1, hx1, hz1⟩
  (iterate 6 ((repeat with_reducible first|refine .nil ?_|refine .then_normal ?_|refine .block_normal ?_|refine .seq ?_|refine .block ?_|refine .skip ?_|refine .region ?_|refine .ret ?_|refine .then_ret ?_|refine .block_ret ?_|refine .exit ?_|refine .then_exit ?_|refine .block_exit ?_|refine .block_other rfl ?_); try refine .run TBok 99 rfl ?_))
  refine StL.step rfl rfl rfl (OpR.call fn_r01_IsNumber rfl (isNumber_spec w1 s h hlen)) ?_
  rintro _ w2 ⟨hx2, rfl⟩
  have hx02 := hx1.trans hx2
  have hB2 := hb1.ext hx2
  clear hx1 hx2 hb1
  by_cases hN : Numb s
  case neg =>
    rw [decide_eq_false hN]
    (iterate 6 ((repeat with_reducible first|refine .nil ?_|refine .then_normal ?_|refine .block_normal ?_|refine .seq ?_|refine .block ?_|refine .skip ?_|refine .region ?_|refine .ret ?_|refine .then_ret ?_|refine .block_ret ?_|refine .exit ?_|refine .then_exit ?_|refine .block_exit ?_|refine .block_other rfl ?_); try refine .run TBok 99 rfl ?_))
    refine St.condT rfl rfl ?_
    (iterate 6 ((repeat with_reducible first|refine .nil ?_|refine .then_normal ?_|refine .block_normal ?_|refine .seq ?_|refine .block ?_|refine .skip ?_|refine .region ?_|refine .ret ?_|refine .then_ret ?_|refine .block_ret ?_|refine .exit ?_|refine .then_exit ?_|refine .block_exit ?_|refine .block_other rfl ?_); try refine .run TBok 99 rfl ?_))
    refine StL.step rfl rfl rfl (RunsTo.build TBok rfl rfl rfl rfl).op ?_
    rintro _ _ ⟨rfl, rfl⟩
    refine StL.step0 rfl rfl (OpR.store TBok (vs := [.bool false, .slice none 0 0]) rfl rfl rfl rfl rfl hB2 (Nat.le_refl _) (by simp [Value.oneCell'])) ?_
    rintro _ w3 ⟨hb3, hu3⟩
    (iterate 6 ((repeat with_reducible first|refine .nil ?_|refine .then_normal ?_|refine .block_normal ?_|refine .seq ?_|refine .block ?_|refine .skip ?_|refine .region ?_|refine .ret ?_|refine .then_ret ?_|refine .block_ret ?_|refine .exit ?_|refine .then_exit ?_|refine .block_exit ?_|refine .block_other rfl ?_); try refine .run TBok 99 rfl ?_))
    refine Out.rets TBok [IntV false (.slice none 0 0), .int .i64 2] rfl ⟨⟨_, _, _, _, rfl, hb3, rfl, rfl, rfl, rfl⟩, rfl, trivial⟩ ⟨hx02.then_upd hu3 (Nat.le_refl _), IntV false (.slice none 0 0), ?_, ?_⟩
    · unfold perr; rw [if_neg hN]; rfl
    · unfold pval perr; rw [if_neg hN, if_neg (by decide)]; exact canO_zero _ _
  rw [decide_eq_true hN]
  (iterate 6 ((repeat with_reducible first|refine .nil ?_|refine .then_normal ?_|refine .block_normal ?_|refine .seq ?_|refine .block ?_|refine .skip ?_|refine .region ?_|refine .ret ?_|refine .then_ret ?_|refine .block_ret ?_|refine .exit ?_|refine .then_exit ?_|refine .block_exit ?_|refine .block_other rfl ?_); try refine .run TBok 99 rfl ?_))
  refine St.condF rfl rfl ?_
  (iterate 6 ((repeat with_reducible first|refine .nil ?_|refine .then_normal ?_|refine .block_normal ?_|refine .seq ?_|refine .block ?_|refine .skip ?_|refine .region ?_|refine .ret ?_|refine .then_ret ?_|refine .block_ret ?_|refine .exit ?_|refine .then_exit ?_|refine .block_exit ?_|refine .block_other rfl ?_); try refine .run TBok 99 rfl ?_))
  refine StL.step rfl rfl rfl (OpR.call fn_r01_Long rfl (rlong_spec w2 s h hlen)) ?_
  rintro _ w3 ⟨hx3, rfl⟩
  replace hB2 := hB2.ext hx3
  replace hx02 := hx02.trans hx3
  clear hx3
  by_cases hL : 2000 < (body s).length
  · rw [decide_eq_true hL]
    (iterate 6 ((repeat with_reducible first|refine .nil ?_|refine .then_normal ?_|refine .block_normal ?_|refine .seq ?_|refine .block ?_|refine .skip ?_|refine .region ?_|refine .ret ?_|refine .then_ret ?_|refine .block_ret ?_|refine .exit ?_|refine .then_exit ?_|refine .block_exit ?_|refine .block_other rfl ?_); try refine .run TBok 99 rfl ?_))
    refine St.condT rfl rfl ?_
    (iterate 6 ((repeat with_reducible first|refine .nil ?_|refine .then_normal ?_|refine .block_normal ?_|refine .seq ?_|refine .block ?_|refine .skip ?_|refine .region ?_|refine .ret ?_|refine .then_ret ?_|refine .block_ret ?_|refine .exit ?_|refine .then_exit ?_|refine .block_exit ?_|refine .block_other rfl ?_); try refine .run TBok 99 rfl ?_))
    refine StL.step rfl rfl rfl (RunsTo.build TBok rfl rfl rfl rfl).op ?_
    rintro _ _ ⟨rfl, rfl⟩
    refine StL.step0 rfl rfl (OpR.store TBok (vs := [.bool false, .slice none 0 0]) rfl rfl rfl rfl rfl hB2 (Nat.le_refl _) (by simp [Value.oneCell'])) ?_
    rintro _ w4 ⟨hb3, hu3⟩
    (iterate 6 ((repeat with_reducible first|refine .nil ?_|refine .then_normal ?_|refine .block_normal ?_|refine .seq ?_|refine .block ?_|refine .skip ?_|refine .region ?_|refine .ret ?_|refine .then_ret ?_|refine .block_ret ?_|refine .exit ?_|refine .then_exit ?_|refine .block_exit ?_|refine .block_other rfl ?_); try refine .run TBok 99 rfl ?_))
    refine Out.rets TBok [IntV false (.slice none 0 0), .int .i64 7] rfl ⟨⟨_, _, _, _, rfl, hb3, rfl, rfl, rfl, rfl⟩, rfl, trivial⟩ ⟨hx02.then_upd hu3 (Nat.le_refl _), IntV false (.slice none 0 0), ?_, ?_⟩
    · unfold perr; rw [if_pos hN, if_pos hL]; rfl
    · unfold pval perr; rw [if_pos hN, if_pos hL, if_neg (by decide)]; exact canO_zero _ _
  rw [decide_eq_false hL]
  have hslen : s.length ≤ 2001 := by
    unfold body at hL
    split at hL
    · simp at hL; omega
    · omega
  (iterate 6 ((repeat with_reducible first|refine .nil ?_|refine .then_normal ?_|refine .block_normal ?_|refine .seq ?_|refine .block ?_|refine .skip ?_|refine .region ?_|refine .ret ?_|refine .then_ret ?_|refine .block_ret ?_|refine .exit ?_|refine .then_exit ?_|refine .block_exit ?_|refine .block_other rfl ?_); try refine .run TBok 99 rfl ?_))
  refine St.condF rfl rfl ?_
  (iterate 6 ((repeat with_reducible first|refine .nil ?_|refine .then_normal ?_|refine .block_normal ?_|refine .seq ?_|refine .block ?_|refine .skip ?_|refine .region ?_|refine .ret ?_|refine .then_ret ?_|refine .block_ret ?_|refine .exit ?_|refine .then_exit ?_|refine .block_exit ?_|refine .block_other rfl ?_); try refine .run TBok 99 rfl ?_))
  refine StL.step rfl rfl rfl (RunsTo.build TBok rfl rfl rfl rfl).op ?_
  rintro _ _ ⟨rfl, rfl⟩
  refine StL.setNew rfl (fun _ => rfl) (canO_zero 0 w3) hx02 ?_
  intro b4 w4 hg4 hx4 hS4 hv4 hx04
  have hlt2 := hB2.lt
  replace hB2 := hB2.ext hx4
  (iterate 6 ((repeat with_reducible first|refine .nil ?_|refine .then_normal ?_|refine .block_normal ?_|refine .seq ?_|refine .block ?_|refine .skip ?_|refine .region ?_|refine .ret ?_|refine .then_ret ?_|refine .block_ret ?_|refine .exit ?_|refine .then_exit ?_|refine .block_exit ?_|refine .block_other rfl ?_); try refine .run TBok 99 rfl ?_))
  refine St.loop (fun g : Nat × Value => [(0, strV s), (2, .pointer (some ⟨w.heap.size, 0, none⟩)), (4, .pointer (some ⟨b4, 0, none⟩)), (5, .int .i64 g.1)])
    (fun g w' => Ext w w' ∧ Can w' g.2 ((dec (unsig (s.take g.1)) : Nat) : Int) ∧ Blk 25 w' b4 g.2.cells.toList ∧ Blk 25 w' w.heap.size [.bool false, .slice none 0 0] ∧ g.1 ≤ s.length)
    (fun g => s.length - g.1) (0, _) ⟨rfl, rfl, rfl, rfl, trivial⟩ ⟨hx04, hv4, hS4, hB2, Nat.zero_le _⟩ ?_
  clear hx04 hv4 hS4 hB2 hx4 hx02
  rintro ⟨i, nv⟩ w5 ⟨hx5, hv5, hS5, hB5, hi5⟩
  dsimp only at hx5 hv5 hS5 hB5 hi5 ⊢
  have hdg := unsig_dig hN (i := i)
  have hszi : sz ((dec (unsig (s.take i)) : Nat) : Int) ≤ 2001 := by
    have h1 := dec_sz _ hdg
    have h2 := unsig_len (s.take i)
    have h3 : (s.take i).length ≤ s.length := by simp; omega
    omega
  (repeat with_reducible first|refine .nil ?_|refine .then_normal ?_|refine .block_normal ?_|refine .seq ?_|refine .block ?_|refine .skip ?_|refine .region ?_|refine .ret ?_|refine .then_ret ?_|refine .block_ret ?_|refine .exit ?_|refine .then_exit ?_|refine .block_exit ?_|refine .block_other rfl ?_)
  refine StL.as TBok 3 (.int .i64 (s.length : Int)) rfl (by rw [strB_size]) ?_
  by_cases hil : i < s.length
  · refine StL.as TBok 1 (.bool true) rfl (bool_true (by omega)) ?_
    obtain ⟨b, hb⟩ : ∃ b, s[i]? = some b := ⟨s[i], by simp [hil]⟩
    have hb8 := h.get hb
    have htk : s.take (i + 1) = s.take i ++ [b] := by
      rw [List.take_add_one, hb]; rfl
    (iterate 6 ((repeat with_reducible first|refine .nil ?_|refine .then_normal ?_|refine .block_normal ?_|refine .seq ?_|refine .block ?_|refine .skip ?_|refine .region ?_|refine .ret ?_|refine .then_ret ?_|refine .block_ret ?_|refine .exit ?_|refine .then_exit ?_|refine .block_exit ?_|refine .block_other rfl ?_); try refine .run TBok 99 rfl ?_))
    refine St.condT rfl rfl ?_
    (repeat with_reducible first|refine .nil ?_|refine .then_normal ?_|refine .block_normal ?_|refine .seq ?_|refine .block ?_|refine .skip ?_|refine .region ?_|refine .ret ?_|refine .then_ret ?_|refine .block_ret ?_|refine .exit ?_|refine .then_exit ?_|refine .block_exit ?_|refine .block_other rfl ?_)
    refine .run TBok 99 rfl ?_
    refine StL.step rfl rfl rfl (RunsTo.strIndex TBok i b rfl rfl rfl rfl hb hb8).op ?_
    rintro _ _ ⟨rfl, rfl⟩
    by_cases h45 : b = 45
    · subst h45
      (iterate 6 ((repeat with_reducible first|refine .nil ?_|refine .then_normal ?_|refine .block_normal ?_|refine .seq ?_|refine .block ?_|refine .skip ?_|refine .region ?_|refine .ret ?_|refine .then_ret ?_|refine .block_ret ?_|refine .exit ?_|refine .then_exit ?_|refine .block_exit ?_|refine .block_other rfl ?_); try refine .run TBok 99 rfl ?_))
      refine St.condF rfl rfl ?_
      (iterate 6 ((repeat with_reducible first|refine .nil ?_|refine .then_normal ?_|refine .block_normal ?_|refine .seq ?_|refine .block ?_|refine .skip ?_|refine .region ?_|refine .ret ?_|refine .then_ret ?_|refine .block_ret ?_|refine .exit ?_|refine .then_exit ?_|refine .block_exit ?_|refine .block_other rfl ?_); try refine .run TBok 99 rfl ?_))
      refine Out.again (i + 1, nv) ⟨rfl, rfl, rfl, ?_, trivial⟩ ⟨hx5, ?_, hS5, hB5, hil⟩ (by dsimp only; omega)
      · show some (Value.int .i64 _) = _
        rw [i64_id (by omega) (by omega)]; rfl
      · dsimp only
        rw [htk, unsig_snoc, if_pos rfl]
        exact hv5
    · have hdb : isDig b := by
        have h1 := unsig_dig hN (i := i + 1)
        rw [htk, unsig_snoc, if_neg h45] at h1
        exact h1 b (by simp)
      have hdec : dec (unsig (s.take (i + 1))) = 10 * dec (unsig (s.take i)) + (b - 48) := by
        rw [htk, unsig_snoc, if_neg h45, dec_snoc]
      unfold isDig at hdb
      refine StL.as TBok 1 (.bool true) rfl (by
        have : ¬ ((b : Int) = 45) := by omega
        simpa using this) ?_
      (iterate 6 ((repeat with_reducible first|refine .nil ?_|refine .then_normal ?_|refine .block_normal ?_|refine .seq ?_|refine .block ?_|refine .skip ?_|refine .region ?_|refine .ret ?_|refine .then_ret ?_|refine .block_ret ?_|refine .exit ?_|refine .then_exit ?_|refine .block_exit ?_|refine .block_other rfl ?_); try refine .run TBok 99 rfl ?_))
      refine St.condT rfl rfl ?_
      (repeat with_reducible first|refine .nil ?_|refine .then_normal ?_|refine .block_normal ?_|refine .seq ?_|refine .block ?_|refine .skip ?_|refine .region ?_|refine .ret ?_|refine .then_ret ?_|refine .block_ret ?_|refine .exit ?_|refine .then_exit ?_|refine .block_exit ?_|refine .block_other rfl ?_)
      refine St.sub (E' := [(0, strV s), (2, .pointer (some ⟨w.heap.size, 0, none⟩)), (4, .pointer (some ⟨b4, 0, none⟩)), (5, .int .i64 i)]) ?_ ⟨rfl, rfl, rfl, rfl, trivial⟩
      generalize hn : dec (unsig (s.take i)) = N at *
      refine St.flow 10 TBfol (by kernel_rfl) rfl (by kernel_rfl) rfl True.intro ?_
      refine FL.run TBok 99 rfl ?_
      refine FL.one (L := []) rfl rfl rfl rfl rfl (fun _ hR => RunsTo.loadCan rfl (hR.blk hS5 (by simp)) hv5) ?_
      refine FL.callE fn_r01_Small rfl rfl rfl (fun w6 hx6 => CallF.mk rfl (rsmall_spec (base := 0) w6 10 (by decide) (by decide) (Nat.zero_le _))) (MonoR.canO 0 _) ?_
      refine FL.callE fn_r01_Mul rfl rfl rfl (fun w6 hx6 v25 h25 => CallF.mk rfl (rmul_dn (base := 0) ((hv5.ext hx6).dn (by omega)) (h25.dn (by decide +kernel)) (Nat.zero_le _))) (MonoR.canO 0 _) ?_
      refine FL.run TBok 99 rfl ?_
      refine FL.one (L := []) rfl rfl rfl rfl rfl (fun _ _ => RunsTo.strIndex TBok i b rfl rfl rfl rfl hb hb8) ?_
      refine FL.as TBok 2 (.int .i64 ((b - 48 : Nat) : Int)) rfl (by
        congr 1
        simp only [wrap_u8]
        rw [i64_id (by omega) (by omega)]
        omega) ?_
      have hm10 : sz ((N : Int) * 10) ≤ 1000000 := by
        have h1 := sz_mul (N : Int) 10
        have h2 : sz 10 ≤ 1 := by decide +kernel
        omega
      have hb48 : sz ((b - 48 : Nat) : Int) ≤ 1000000 := by
        have : sz ((b - 48 : Nat) : Int) ≤ 1 := limbs_length_lt (by simp; omega)
        omega
      refine FL.callE fn_r01_Small rfl rfl rfl (fun w6 hx6 => CallF.mk rfl (rsmall_spec (base := 0) w6 ((b - 48 : Nat) : Int) (by omega) (by omega) (Nat.zero_le _))) (MonoR.canO 0 _) ?_
      refine FL.callE fn_r01_Add rfl rfl rfl (fun w6 hx6 v26 h26 v32 h32 => CallF.mk rfl (radd_dn (base := 0) (h26.dn hm10) (h32.dn hb48) (Nat.zero_le _))) (MonoR.canO 0 _) ?_
      refine FL.endE rfl ?_
      intro w6 hx6 v33 h33 v32 _ v26 _ v25 _ _ _
      rw [show (N : Int) * 10 + ((b - 48 : Nat) : Int) = ((10 * N + (b - 48) : Nat) : Int) from by omega, ← hdec] at h33
      have hlt4 := hS5.lt
      replace hS5 := hS5.ext hx6
      replace hB5 := hB5.ext hx6
      replace hx5 := hx5.trans hx6
      clear hx6
      refine StL.setCan rfl rfl hS5 hv5.two.1 h33 hx5 (by omega) ?_
      intro w7 hS7 hu7 h7 hx7
      replace hB5 := hB5.upd hu7 (by omega)
      (iterate 6 ((repeat with_reducible first|refine .nil ?_|refine .then_normal ?_|refine .block_normal ?_|refine .seq ?_|refine .block ?_|refine .skip ?_|refine .region ?_|refine .ret ?_|refine .then_ret ?_|refine .block_ret ?_|refine .exit ?_|refine .then_exit ?_|refine .block_exit ?_|refine .block_other rfl ?_); try refine .run TBok 99 rfl ?_))
      refine Out.again (i + 1, v33) ⟨rfl, rfl, rfl, ?_, trivial⟩ ⟨hx7, h7, hS7, hB5, hil⟩ (by dsimp only; omega)
      show some (Value.int .i64 _) = _
      rw [i64_id (by omega) (by omega)]; rfl
  · refine StL.as TBok 1 (.bool false) rfl (bool_false (by omega)) ?_
    have hi' : i = s.length := by omega
    subst hi'
    rw [List.take_length, unsig_body hN] at hv5
    have hdb := dec_sz (body s) hN.1.2.1
    have hne : s ≠ [] := by
      rintro rfl
      exact hN.1.1 rfl
    obtain ⟨b, r, hs⟩ : ∃ b r, s = b :: r := by
      cases s with
      | nil => exact absurd rfl hne
      | cons b r => exact ⟨b, r, rfl⟩
    have hs0 : s[0]? = some b := by rw [hs]; rfl
    have hb8 := h.get hs0
    have hneg : isNeg s = decide (b = 45) := by
      unfold isNeg
      rw [hs]
      simp
    obtain ⟨np, nc, rfl, hns⟩ := hv5
    rw [Int.natAbs_natCast] at hns hS5
    have hnl : (limbs (dec (body s))).length ≤ 1000000000 := by
      have : (limbs (dec (body s))).length = sz ((dec (body s) : Nat) : Int) := rfl
      have := body_le s
      omega
    (iterate 6 ((repeat with_reducible first|refine .nil ?_|refine .then_normal ?_|refine .block_normal ?_|refine .seq ?_|refine .block ?_|refine .skip ?_|refine .region ?_|refine .ret ?_|refine .then_ret ?_|refine .block_ret ?_|refine .exit ?_|refine .then_exit ?_|refine .block_exit ?_|refine .block_other rfl ?_); try refine .run TBok 99 rfl ?_))
    refine St.condF rfl rfl ?_
    (repeat with_reducible first|refine .nil ?_|refine .then_normal ?_|refine .block_normal ?_|refine .seq ?_|refine .block ?_|refine .skip ?_|refine .region ?_|refine .ret ?_|refine .then_ret ?_|refine .block_ret ?_|refine .exit ?_|refine .then_exit ?_|refine .block_exit ?_|refine .block_other rfl ?_)
    refine St.sub (E' := [(0, strV s), (2, .pointer (some ⟨w.heap.size, 0, none⟩)), (4, .pointer (some ⟨b4, 0, none⟩))]) ?_ ⟨rfl, rfl, rfl, trivial⟩
    refine St.flow 6 TBfol (by kernel_rfl) rfl (by kernel_rfl) rfl True.intro ?_
    refine FL.run TBok 99 rfl ?_
    refine FL.one (L := []) rfl rfl rfl rfl rfl (fun _ _ => RunsTo.strIndex TBok 0 b rfl rfl rfl rfl hs0 hb8) ?_
    refine FL.as TBok 1 (.bool (isNeg s)) rfl (by
      rw [hneg]
      congr 1
      by_cases h45 : b = 45
      · subst h45; rfl
      · have : ¬ ((b : Int) = 45) := by omega
        rw [decide_eq_false h45]
        simpa using this) ?_
    refine FL.run TBok 99 rfl ?_
    refine FL.load (L := []) TBok rfl rfl rfl rfl rfl rfl (by first | assumption | exact Ext.refl _ | (first | apply Blk.ext | apply CanO.ext | apply Den.ext | apply Sl.ext | apply SlO.ext | apply Dn.ext | apply It.ext | apply CanR.ext | apply DnR.ext | skip) <;> (repeat first | assumption | refine Ext.trans ?_ (by assumption))) (by simp) rfl ?_
    refine FL.callE fn_r01_Make rfl rfl rfl (fun w6 hx6 => CallF.mk rfl (make_spec (base := 0) w6 (isNeg s) _ _ (hns.ext hx6).sl hnl (Nat.zero_le _))) (MonoR.canO 0 _) ?_
    refine FL.endE rfl ?_
    intro w6 hx6 v39 h39 _ _
    rw [val_limbs] at h39
    replace hB5 := hB5.ext hx6
    replace hx5 := hx5.trans hx6
    clear hx6
    refine StL.setCan rfl rfl hB5 rfl h39 hx5 (Nat.le_refl _) ?_
    intro w7 hS7 hu7 h7 hx7
    (iterate 6 ((repeat with_reducible first|refine .nil ?_|refine .then_normal ?_|refine .block_normal ?_|refine .seq ?_|refine .block ?_|refine .skip ?_|refine .region ?_|refine .ret ?_|refine .then_ret ?_|refine .block_ret ?_|refine .exit ?_|refine .then_exit ?_|refine .block_exit ?_|refine .block_other rfl ?_); try refine .run TBok 99 rfl ?_))
    refine Out.rets TBok [v39, .int .i64 0] rfl ⟨⟨_, _, _, _, rfl, hS7, rfl, rfl, h7.two.1, by simpa using h7.agg⟩, rfl, trivial⟩ ⟨hx7, v39, ?_, ?_⟩
    · unfold perr; rw [if_pos hN, if_neg hL]; rfl
    · unfold pval perr; rw [if_pos hN, if_neg hL, if_pos rfl]; exact h7

end Go.Qf

/- What Parse reads from what Format writes: plain. -/
namespace Go.Qf
open Go Go.RowKit Go.Proofs

theorem dec_digs (n : Nat) : dec (digs n).reverse = n := by
  induction n using Nat.strongRecOn with
  | _ n ih =>
    by_cases h : n = 0
    · subst h; rfl
    · rw [digs_eq n h, List.reverse_cons, dec_snoc, ih (n / 10) (by omega)]
      omega

theorem dec_fmtN (n : Nat) : dec (fmtN n) = n := by
  unfold fmtN
  split
  · rename_i h; subst h; rfl
  · exact dec_digs n

theorem digs_last (n : Nat) (h : n ≠ 0) : (digs n).getLast? ≠ some 48 := by
  induction n using Nat.strongRecOn with
  | _ n ih =>
    rw [digs_eq n h]
    by_cases h1 : n / 10 = 0
    · rw [h1, digs_zero]
      simp
      omega
    · have h2 := ih (n / 10) (by omega) h1
      have h3 := digs_pos (n / 10) h1
      rw [List.getLast?_cons]
      cases hd : (digs (n / 10)).getLast? with
      | none => simp at hd; exact absurd hd h3
      | some x =>
        rw [hd] at h2
        simpa using h2

theorem numl_fmtN (n : Nat) : Numl (fmtN n) := by
  refine ⟨?_, fun b hb => fmtN_lim n b hb, ?_⟩
  · unfold fmtN
    split
    · simp
    · rename_i h
      have := digs_pos n h
      simpa using this
  · rintro ⟨h1, h2⟩
    unfold fmtN at h1 h2
    split at h1
    · simp at h1
    · rename_i h
      rw [if_neg h, List.head?_reverse] at h2
      exact digs_last n h h2

theorem fmtN_head (n : Nat) : (fmtN n).head? ≠ some 45 := by
  intro h
  have := fmtN_lim n 45 (List.mem_of_head? h)
  omega

theorem isNeg_fmtI (a : Int) : isNeg (fmtI a) = decide (a < 0) := by
  unfold isNeg fmtI
  by_cases h : a < 0
  · rw [if_pos h, decide_eq_true h]; rfl
  · rw [if_neg h, decide_eq_false h, decide_eq_false (fmtN_head _)]

theorem body_fmtI (a : Int) : body (fmtI a) = fmtN a.natAbs := by
  unfold body fmtI
  by_cases h : a < 0
  · rw [if_pos h]; rfl
  · rw [if_neg h, if_neg (fmtN_head _)]

theorem numb_fmtI (a : Int) : Numb (fmtI a) := by
  refine ⟨by rw [body_fmtI]; exact numl_fmtN _, ?_⟩
  rw [isNeg_fmtI, body_fmtI]
  rintro ⟨h1, h2⟩
  have h3 := dec_fmtN a.natAbs
  rw [h2] at h3
  have : a < 0 := by simpa using h1
  have h4 : dec [48] = 0 := rfl
  omega

theorem perr_fmtI {a : Int} (h : (fmtN a.natAbs).length ≤ 2000) : perr (fmtI a) = 0 := by
  unfold perr
  rw [if_pos (numb_fmtI a), body_fmtI, if_neg (by omega)]

theorem pval_fmtI {a : Int} (h : (fmtN a.natAbs).length ≤ 2000) : pval (fmtI a) = a := by
  unfold pval
  rw [if_pos (perr_fmtI h), isNeg_fmtI, body_fmtI, dec_fmtN, sg_canon]

theorem fmtN_len (n k : Nat) (h : n < 4294967296 ^ k) : (fmtN n).length ≤ 11 * k + 1 := by
  unfold fmtN
  split
  · simp
  · rw [List.length_reverse]
    exact digs_length_limbs h

end Go.Qf

/- integer.Parse. -/
namespace Go.Qf
open Go Go.RowKit Go.Proofs
set_option maxRecDepth 20000

theorem limbs_ten {D d c : Nat} {vs : List Nat} (hl : vs.length = (limbs D).length) (hlim : Lim vs) (hc : c < 10) (hv : val vs + c * 4294967296 ^ vs.length = 10 * D + d) : limbs (10 * D + d) = if c = 0 then vs else vs ++ [c] := by
  by_cases h0 : c = 0
  · subst h0
    rw [if_pos rfl]
    rw [Nat.zero_mul, Nat.add_zero] at hv
    have h1 := limbs_is_take hlim
    have h2 := limbs_length_mono D (val vs) (by omega)
    rw [List.take_of_length_le (by omega)] at h1
    rw [← hv, h1]
  · rw [if_neg h0]
    have hlim2 : Lim (vs ++ [c]) := by
      intro x hx
      rcases List.mem_append.1 hx with h | h
      · exact hlim x h
      · simp at h; omega
    have h1 := limbs_val_snoc vs c hlim2 h0
    have h2 := val_take_succ0 (xs := vs ++ [c]) (k := vs.length) (x := c) (by simp)
    rw [List.take_of_length_le (by simp), List.take_left' rfl, hv] at h2
    rw [← h2, h1]

theorem Blk.neIt {t : TypeId} {w : World} {k g p : Nat} {s : ByteArray} {C : List Value} (hi : It w k s p) (hb : Blk t w g C) : k ≠ g := by
  intro e; subst e
  unfold It at hi
  unfold Blk at hb
  rw [hi] at hb
  simp at hb

theorem Blk.neTy {t u : TypeId} {w : World} {k g : Nat} {C D : List Value} (hne : t ≠ u) (ha : Blk t w k C) (hb : Blk u w g D) : k ≠ g := by
  intro e; subst e
  unfold Blk at ha hb
  rw [ha] at hb
  simp at hb
  first | exact hne hb.2 | exact hne hb.2.1

set_option maxHeartbeats 800000 in
theorem parse_spec (w : World) (s : List Nat) (h : B8 s) (hlen : s.length ≤ 1000000000000) : Calls Try.prog 19 #[strV s] w (Ret fun r w' => Ext w w' ∧ ParseV w' r s) := by
  have hbl := body_le s
  have hB8 := h.body
  refine calls_of_St (args := [_]) Try.func19 rfl Try.ntmps19 rfl ?_
  (repeat with_reducible first|refine .nil ?_|refine .then_normal ?_|refine .block_normal ?_|refine .seq ?_|refine .block ?_|refine .skip ?_|refine .region ?_|refine .ret ?_|refine .then_ret ?_|refine .block_ret ?_|refine .exit ?_|refine .then_exit ?_|refine .block_exit ?_|refine .block_other rfl ?_)
  refine StL.step rfl rfl rfl (OpR.alloc TBok rfl) ?_
  rintro _ w1 ⟨rfl, hb1, hx1, hz1⟩
  (iterate 6 ((repeat with_reducible first|refine .nil ?_|refine .then_normal ?_|refine .block_normal ?_|refine .seq ?_|refine .block ?_|refine .skip ?_|refine .region ?_|refine .ret ?_|refine .then_ret ?_|refine .block_ret ?_|refine .exit ?_|refine .then_exit ?_|refine .block_exit ?_|refine .block_other rfl ?_); try refine .run TBok 99 rfl ?_))
  refine StL.step rfl rfl rfl (OpR.call fn_strings_CutPrefix rfl (cutPrefix_spec w1 s h)) ?_
  rintro _ w2 ⟨hx2, rfl⟩
  have hx02 := hx1.trans hx2
  have hB2 := hb1.ext hx2
  clear hx1 hx2 hb1
  (iterate 6 ((repeat with_reducible first|refine .nil ?_|refine .then_normal ?_|refine .block_normal ?_|refine .seq ?_|refine .block ?_|refine .skip ?_|refine .region ?_|refine .ret ?_|refine .then_ret ?_|refine .block_ret ?_|refine .exit ?_|refine .then_exit ?_|refine .block_exit ?_|refine .block_other rfl ?_); try refine .run TBok 99 rfl ?_))
  refine StL.step rfl rfl rfl (OpR.call fn_integer_isNumeral rfl (isNumeral_spec w2 (body s) hB8 (by omega))) ?_
  rintro _ w3 ⟨hx3, rfl⟩
  replace hB2 := hB2.ext hx3
  replace hx02 := hx02.trans hx3
  clear hx3
  by_cases hN : Numl (body s)
  case neg =>
    have hNb : ¬ Numb s := fun hh => hN hh.1
    rw [decide_eq_false hN]
    (iterate 6 ((repeat with_reducible first|refine .nil ?_|refine .then_normal ?_|refine .block_normal ?_|refine .seq ?_|refine .block ?_|refine .skip ?_|refine .region ?_|refine .ret ?_|refine .then_ret ?_|refine .block_ret ?_|refine .exit ?_|refine .then_exit ?_|refine .block_exit ?_|refine .block_other rfl ?_); try refine .run TBok 99 rfl ?_))
    refine St.condT rfl rfl ?_
    (iterate 6 ((repeat with_reducible first|refine .nil ?_|refine .then_normal ?_|refine .block_normal ?_|refine .seq ?_|refine .block ?_|refine .skip ?_|refine .region ?_|refine .ret ?_|refine .then_ret ?_|refine .block_ret ?_|refine .exit ?_|refine .then_exit ?_|refine .block_exit ?_|refine .block_other rfl ?_); try refine .run TBok 99 rfl ?_))
    refine St.condT rfl rfl ?_
    (iterate 6 ((repeat with_reducible first|refine .nil ?_|refine .then_normal ?_|refine .block_normal ?_|refine .seq ?_|refine .block ?_|refine .skip ?_|refine .region ?_|refine .ret ?_|refine .then_ret ?_|refine .block_ret ?_|refine .exit ?_|refine .then_exit ?_|refine .block_exit ?_|refine .block_other rfl ?_); try refine .run TBok 99 rfl ?_))
    refine StL.step rfl rfl rfl (RunsTo.build TBok rfl rfl rfl rfl).op ?_
    rintro _ _ ⟨rfl, rfl⟩
    refine StL.step0 rfl rfl (OpR.store TBok (vs := [.bool false, .slice none 0 0]) rfl rfl rfl rfl rfl hB2 (Nat.le_refl _) (by simp [Value.oneCell'])) ?_
    rintro _ w4 ⟨hb3, hu3⟩
    (iterate 6 ((repeat with_reducible first|refine .nil ?_|refine .then_normal ?_|refine .block_normal ?_|refine .seq ?_|refine .block ?_|refine .skip ?_|refine .region ?_|refine .ret ?_|refine .then_ret ?_|refine .block_ret ?_|refine .exit ?_|refine .then_exit ?_|refine .block_exit ?_|refine .block_other rfl ?_); try refine .run TBok 99 rfl ?_))
    refine Out.rets TBok [IntV false (.slice none 0 0), .int .i64 2] rfl ⟨⟨_, _, _, _, rfl, hb3, rfl, rfl, rfl, rfl⟩, rfl, trivial⟩ ⟨hx02.then_upd hu3 (Nat.le_refl _), IntV false (.slice none 0 0), ?_, ?_⟩
    · unfold perr; rw [if_neg hNb]; rfl
    · unfold pval perr; rw [if_neg hNb, if_neg (by decide)]; exact canO_zero _ _
  rw [decide_eq_true hN]
  (iterate 6 ((repeat with_reducible first|refine .nil ?_|refine .then_normal ?_|refine .block_normal ?_|refine .seq ?_|refine .block ?_|refine .skip ?_|refine .region ?_|refine .ret ?_|refine .then_ret ?_|refine .block_ret ?_|refine .exit ?_|refine .then_exit ?_|refine .block_exit ?_|refine .block_other rfl ?_); try refine .run TBok 99 rfl ?_))
  refine St.condF rfl rfl ?_
  refine St.cutX (fun g : Bool => [(2, .pointer (some ⟨w.heap.size, 0, none⟩)), (3, .int .i64 0), (4, strV (body s)), (5, .bool (isNeg s)), (17, .bool g)]) (fun g w' => w' = w3 ∧ g = decide (isNeg s = true ∧ body s = [48])) ?_ ?_
  · generalize isNeg s = ng
    (repeat with_reducible first|refine .nil ?_|refine .then_normal ?_|refine .block_normal ?_|refine .seq ?_|refine .block ?_|refine .skip ?_|refine .region ?_|refine .ret ?_|refine .then_ret ?_|refine .block_ret ?_|refine .exit ?_|refine .then_exit ?_|refine .block_exit ?_|refine .block_other rfl ?_)
    cases ng with
    | true =>
      refine .run TBok 99 rfl ?_
      refine StL.step rfl rfl rfl (RunsTo.strEql (bs := [48]) hB8 b8_zero rfl rfl).op ?_
      rintro _ _ ⟨rfl, rfl⟩
      refine .run TBok 99 rfl ?_
      exact StL.nil (Out.met (decide (body s = [48])) ⟨rfl, rfl, rfl, rfl, rfl, trivial⟩ ⟨rfl, by simp⟩)
    | false =>
      refine .run TBok 99 rfl ?_
      exact StL.nil (Out.met false ⟨rfl, rfl, rfl, rfl, rfl, trivial⟩ ⟨rfl, by simp⟩)
  rintro g w4 ⟨rfl, rfl⟩
  by_cases hz : isNeg s = true ∧ body s = [48]
  · have hNb : ¬ Numb s := fun hh => hh.2 hz
    rw [decide_eq_true hz]
    refine St.condT rfl rfl ?_
    (iterate 6 ((repeat with_reducible first|refine .nil ?_|refine .then_normal ?_|refine .block_normal ?_|refine .seq ?_|refine .block ?_|refine .skip ?_|refine .region ?_|refine .ret ?_|refine .then_ret ?_|refine .block_ret ?_|refine .exit ?_|refine .then_exit ?_|refine .block_exit ?_|refine .block_other rfl ?_); try refine .run TBok 99 rfl ?_))
    refine StL.step rfl rfl rfl (RunsTo.build TBok rfl rfl rfl rfl).op ?_
    rintro _ _ ⟨rfl, rfl⟩
    refine StL.step0 rfl rfl (OpR.store TBok (vs := [.bool false, .slice none 0 0]) rfl rfl rfl rfl rfl hB2 (Nat.le_refl _) (by simp [Value.oneCell'])) ?_
    rintro _ w4 ⟨hb3, hu3⟩
    (iterate 6 ((repeat with_reducible first|refine .nil ?_|refine .then_normal ?_|refine .block_normal ?_|refine .seq ?_|refine .block ?_|refine .skip ?_|refine .region ?_|refine .ret ?_|refine .then_ret ?_|refine .block_ret ?_|refine .exit ?_|refine .then_exit ?_|refine .block_exit ?_|refine .block_other rfl ?_); try refine .run TBok 99 rfl ?_))
    refine Out.rets TBok [IntV false (.slice none 0 0), .int .i64 2] rfl ⟨⟨_, _, _, _, rfl, hb3, rfl, rfl, rfl, rfl⟩, rfl, trivial⟩ ⟨hx02.then_upd hu3 (Nat.le_refl _), IntV false (.slice none 0 0), ?_, ?_⟩
    · unfold perr; rw [if_neg hNb]; rfl
    · unfold pval perr; rw [if_neg hNb, if_neg (by decide)]; exact canO_zero _ _
  rw [decide_eq_false hz]
  have hNb : Numb s := ⟨hN, hz⟩
  refine St.condF rfl rfl ?_
  (repeat with_reducible first|refine .nil ?_|refine .then_normal ?_|refine .block_normal ?_|refine .seq ?_|refine .block ?_|refine .skip ?_|refine .region ?_|refine .ret ?_|refine .then_ret ?_|refine .block_ret ?_|refine .exit ?_|refine .then_exit ?_|refine .block_exit ?_|refine .block_other rfl ?_)
  refine StL.as TBok 2 (.int .i64 ((body s).length : Int)) rfl (by rw [strB_size]) ?_
  by_cases hL : 2000 < (body s).length
  · refine StL.as TBok 1 (.bool true) rfl (bool_true (by omega)) ?_
    (iterate 6 ((repeat with_reducible first|refine .nil ?_|refine .then_normal ?_|refine .block_normal ?_|refine .seq ?_|refine .block ?_|refine .skip ?_|refine .region ?_|refine .ret ?_|refine .then_ret ?_|refine .block_ret ?_|refine .exit ?_|refine .then_exit ?_|refine .block_exit ?_|refine .block_other rfl ?_); try refine .run TBok 99 rfl ?_))
    refine St.condT rfl rfl ?_
    (iterate 6 ((repeat with_reducible first|refine .nil ?_|refine .then_normal ?_|refine .block_normal ?_|refine .seq ?_|refine .block ?_|refine .skip ?_|refine .region ?_|refine .ret ?_|refine .then_ret ?_|refine .block_ret ?_|refine .exit ?_|refine .then_exit ?_|refine .block_exit ?_|refine .block_other rfl ?_); try refine .run TBok 99 rfl ?_))
    refine StL.step rfl rfl rfl (RunsTo.build TBok rfl rfl rfl rfl).op ?_
    rintro _ _ ⟨rfl, rfl⟩
    refine StL.step0 rfl rfl (OpR.store TBok (vs := [.bool false, .slice none 0 0]) rfl rfl rfl rfl rfl hB2 (Nat.le_refl _) (by simp [Value.oneCell'])) ?_
    rintro _ w5 ⟨hb3, hu3⟩
    (iterate 6 ((repeat with_reducible first|refine .nil ?_|refine .then_normal ?_|refine .block_normal ?_|refine .seq ?_|refine .block ?_|refine .skip ?_|refine .region ?_|refine .ret ?_|refine .then_ret ?_|refine .block_ret ?_|refine .exit ?_|refine .then_exit ?_|refine .block_exit ?_|refine .block_other rfl ?_); try refine .run TBok 99 rfl ?_))
    refine Out.rets TBok [IntV false (.slice none 0 0), .int .i64 7] rfl ⟨⟨_, _, _, _, rfl, hb3, rfl, rfl, rfl, rfl⟩, rfl, trivial⟩ ⟨hx02.then_upd hu3 (Nat.le_refl _), IntV false (.slice none 0 0), ?_, ?_⟩
    · unfold perr; rw [if_pos hNb, if_pos hL]; rfl
    · unfold pval perr; rw [if_pos hNb, if_pos hL, if_neg (by decide)]; exact canO_zero _ _
  refine StL.as TBok 1 (.bool false) rfl (bool_false (by omega)) ?_
  (iterate 6 ((repeat with_reducible first|refine .nil ?_|refine .then_normal ?_|refine .block_normal ?_|refine .seq ?_|refine .block ?_|refine .skip ?_|refine .region ?_|refine .ret ?_|refine .then_ret ?_|refine .block_ret ?_|refine .exit ?_|refine .then_exit ?_|refine .block_exit ?_|refine .block_other rfl ?_); try refine .run TBok 99 rfl ?_))
  refine St.condF rfl rfl ?_
  (iterate 6 ((repeat with_reducible first|refine .nil ?_|refine .then_normal ?_|refine .block_normal ?_|refine .seq ?_|refine .block ?_|refine .skip ?_|refine .region ?_|refine .ret ?_|refine .then_ret ?_|refine .block_ret ?_|refine .exit ?_|refine .then_exit ?_|refine .block_exit ?_|refine .block_other rfl ?_); try refine .run TBok 99 rfl ?_))
  refine StL.step rfl rfl rfl (OpR.rangeStr TBok rfl rfl) ?_
  rintro _ w5 ⟨rfl, hi5, hx5, _⟩
  have hlt2 := hB2.lt
  replace hB2 := hB2.ext hx5
  replace hx02 := hx02.trans hx5
  clear hx5
  (refine StL.nil ?_; repeat with_reducible first | refine Out.then_normal ?_ | refine Out.block_normal ?_)
  (repeat with_reducible first|refine .nil ?_|refine .then_normal ?_|refine .block_normal ?_|refine .seq ?_|refine .block ?_|refine .skip ?_|refine .region ?_|refine .ret ?_|refine .then_ret ?_|refine .block_ret ?_|refine .exit ?_|refine .then_exit ?_|refine .block_exit ?_|refine .block_other rfl ?_)
  have hdigs := hN.2.1
  have hpe : perr s = 0 := by unfold perr; rw [if_pos hNb, if_neg hL]
  have hpv : pval s = sg (isNeg s) (dec (body s)) := by unfold pval; rw [if_pos hpe]
  generalize isNeg s = ng at *
  generalize body s = t at *
  refine St.loop (fun g : Nat × Value => [(2, .pointer (some ⟨w.heap.size, 0, none⟩)), (5, .bool ng), (6, g.2), (33, .pointer (some ⟨w4.heap.size, 0, none⟩))])
    (fun g w' => Ext w w' ∧ It w' w4.heap.size (strB t) g.1 ∧ SlO w.heap.size w' g.2 (limbs (dec (t.take g.1))) ∧ Blk 25 w' w.heap.size [.bool false, .slice none 0 0] ∧ g.1 ≤ t.length)
    (fun g => t.length - g.1) (0, .slice none 0 0) ⟨rfl, rfl, rfl, rfl, trivial⟩ ⟨hx02, hi5, SlO.nil _ _, hB2, Nat.zero_le _⟩ ?_
  clear hx02 hi5 hB2
  rintro ⟨p, mv⟩ w6 ⟨hx6, hi6, hm6, hB6, hp6⟩
  dsimp only at hx6 hi6 hm6 hB6 hp6 ⊢
  have hml : (limbs (dec (t.take p))).length ≤ 2000 := by
    have h1 := dec_sz (t.take p) (fun b hb => hdigs b (List.mem_of_mem_take hb))
    have h2 : (limbs (dec (t.take p))).length = sz ((dec (t.take p) : Nat) : Int) := rfl
    have h3 : (t.take p).length ≤ t.length := by simp; omega
    omega
  by_cases hp : p < t.length
  case neg =>
    have hpl : p = t.length := by omega
    subst hpl
    rw [List.take_length] at hm6 hml
    (repeat with_reducible first|refine .nil ?_|refine .then_normal ?_|refine .block_normal ?_|refine .seq ?_|refine .block ?_|refine .skip ?_|refine .region ?_|refine .ret ?_|refine .then_ret ?_|refine .block_ret ?_|refine .exit ?_|refine .then_exit ?_|refine .block_exit ?_|refine .block_other rfl ?_)
    refine StL.step rfl rfl rfl (OpR.nextEnd rfl hi6 (by rw [strB_size]; omega)) ?_
    rintro _ _ ⟨rfl, rfl⟩
    (iterate 6 ((repeat with_reducible first|refine .nil ?_|refine .then_normal ?_|refine .block_normal ?_|refine .seq ?_|refine .block ?_|refine .skip ?_|refine .region ?_|refine .ret ?_|refine .then_ret ?_|refine .block_ret ?_|refine .exit ?_|refine .then_exit ?_|refine .block_exit ?_|refine .block_other rfl ?_); try refine .run TBok 99 rfl ?_))
    refine St.condF rfl rfl ?_
    (iterate 6 ((repeat with_reducible first|refine .nil ?_|refine .then_normal ?_|refine .block_normal ?_|refine .seq ?_|refine .block ?_|refine .skip ?_|refine .region ?_|refine .ret ?_|refine .then_ret ?_|refine .block_ret ?_|refine .exit ?_|refine .then_exit ?_|refine .block_exit ?_|refine .block_other rfl ?_); try refine .run TBok 99 rfl ?_))
    refine StL.step rfl rfl rfl (OpR.call fn_integer_build rfl (build_spec' _ ng _ _ hm6 (by omega))) ?_
    rintro rv w7 ⟨hx7, hr7⟩
    replace hB6 := hB6.ext hx7
    replace hx6 := hx6.trans hx7
    clear hx7
    refine StL.setCan rfl rfl hB6 rfl hr7 hx6 (Nat.le_refl _) ?_
    intro w8 hS8 hu8 h8 hx8
    (iterate 6 ((repeat with_reducible first|refine .nil ?_|refine .then_normal ?_|refine .block_normal ?_|refine .seq ?_|refine .block ?_|refine .skip ?_|refine .region ?_|refine .ret ?_|refine .then_ret ?_|refine .block_ret ?_|refine .exit ?_|refine .then_exit ?_|refine .block_exit ?_|refine .block_other rfl ?_); try refine .run TBok 99 rfl ?_))
    refine Out.rets TBok [rv, .int .i64 0] rfl ⟨⟨_, _, _, _, rfl, hS8, rfl, rfl, h8.two.1, by simpa using h8.agg⟩, rfl, trivial⟩ ⟨hx8, rv, ?_, ?_⟩
    · rw [hpe]; rfl
    · rw [hpv]; exact h8
  obtain ⟨b, hb⟩ : ∃ b, t[p]? = some b := ⟨t[p], by simp [hp]⟩
  have hdb := hdigs b (List.mem_of_getElem? hb)
  have htk : t.take (p + 1) = t.take p ++ [b] := by
    rw [List.take_add_one, hb]; rfl
  have hdec : dec (t.take (p + 1)) = 10 * dec (t.take p) + (b - 48) := by rw [htk, dec_snoc]
  unfold isDig at hdb
  (repeat with_reducible first|refine .nil ?_|refine .then_normal ?_|refine .block_normal ?_|refine .seq ?_|refine .block ?_|refine .skip ?_|refine .region ?_|refine .ret ?_|refine .then_ret ?_|refine .block_ret ?_|refine .exit ?_|refine .then_exit ?_|refine .block_exit ?_|refine .block_other rfl ?_)
  refine StL.step rfl rfl rfl (OpR.nextAny rfl hi6 (by rw [strB_size]; exact hp)) ?_
  rintro _ w7 ⟨rfl, hi7, hu7⟩
  rw [decode_low hb (by omega)] at hi7 ⊢
  dsimp only at hi7 ⊢
  have hx7 := hx6.then_upd hu7 (by omega)
  have hm7 : SlO w.heap.size w7 mv _ := ⟨Own.updIt hm6.1 hi6 hu7, hm6.2⟩
  have hB7 := hB6.upd hu7 (by omega)
  clear hx6 hi6 hm6 hB6 hu7
  generalize dec (t.take p) = D at *
  obtain ⟨mp, mc, rfl, _⟩ := hm7.sl.form
  generalize hn : (limbs D).length = n at hm7 hml ⊢
  (iterate 6 ((repeat with_reducible first|refine .nil ?_|refine .then_normal ?_|refine .block_normal ?_|refine .seq ?_|refine .block ?_|refine .skip ?_|refine .region ?_|refine .ret ?_|refine .then_ret ?_|refine .block_ret ?_|refine .exit ?_|refine .then_exit ?_|refine .block_exit ?_|refine .block_other rfl ?_); try refine .run TBok 99 rfl ?_))
  refine St.condT rfl rfl ?_
  (repeat with_reducible first|refine .nil ?_|refine .then_normal ?_|refine .block_normal ?_|refine .seq ?_|refine .block ?_|refine .skip ?_|refine .region ?_|refine .ret ?_|refine .then_ret ?_|refine .block_ret ?_|refine .exit ?_|refine .then_exit ?_|refine .block_exit ?_|refine .block_other rfl ?_)
  refine .run TBok 99 rfl ?_
  (repeat with_reducible first|refine .nil ?_|refine .then_normal ?_|refine .block_normal ?_|refine .seq ?_|refine .block ?_|refine .skip ?_|refine .region ?_|refine .ret ?_|refine .then_ret ?_|refine .block_ret ?_|refine .exit ?_|refine .then_exit ?_|refine .block_exit ?_|refine .block_other rfl ?_)
  refine StL.as TBok 3 (.int .u64 ((b - 48 : Nat) : Int)) rfl (by
    congr 1
    simp only [wrap_u64, wrap_i32]
    omega) ?_
  (iterate 6 ((repeat with_reducible first|refine .nil ?_|refine .then_normal ?_|refine .block_normal ?_|refine .seq ?_|refine .block ?_|refine .skip ?_|refine .region ?_|refine .ret ?_|refine .then_ret ?_|refine .block_ret ?_|refine .exit ?_|refine .then_exit ?_|refine .block_exit ?_|refine .block_other rfl ?_); try refine .run TBok 99 rfl ?_))
  refine St.loop (fun g : Nat × Nat × List Nat => [(2, .pointer (some ⟨w.heap.size, 0, none⟩)), (5, .bool ng), (6, .slice mp n mc), (33, .pointer (some ⟨w4.heap.size, 0, none⟩)), (40, .slice mp n mc), (41, .int .i64 n), (42, .int .i64 g.1), (9, .int .u64 g.2.1)])
    (fun g w' => Ext w w' ∧ It w' w4.heap.size (strB t) (p + 1) ∧ SlO w.heap.size w' (.slice mp n mc) g.2.2 ∧ Blk 25 w' w.heap.size [.bool false, .slice none 0 0] ∧ g.1 ≤ n ∧ g.2.2.length = n ∧ g.2.1 < 10 ∧ g.2.2.drop g.1 = (limbs D).drop g.1 ∧ val (g.2.2.take g.1) + g.2.1 * 4294967296 ^ g.1 = 10 * val ((limbs D).take g.1) + (b - 48))
    (fun g => n - g.1) (0, b - 48, limbs D) ⟨rfl, rfl, rfl, rfl, rfl, rfl, rfl, rfl, trivial⟩ ⟨hx7, hi7, hm7, hB7, Nat.zero_le _, hn, (by dsimp only; omega), rfl, by simp [val]⟩ ?_
  clear hx7 hi7 hm7 hB7
  rintro ⟨i, c, vs⟩ w8 ⟨hx8, hi8, hm8, hB8', hin, hvl, hc, hdr, heq⟩
  dsimp only at hx8 hi8 hm8 hB8' hin hvl hc hdr heq ⊢
  by_cases hlt : i < n
  · have hne : vs ≠ [] := by
      intro e; subst e; simp at hvl; omega
    have hm8l := hm8.2
    obtain ⟨g, cap, Dd, hmv, hg, hbm, hcap, hmax⟩ := hm8.opened hne
    simp only [Value.slice.injEq] at hmv
    obtain ⟨rfl, _, rfl⟩ := hmv
    obtain ⟨x, hxi⟩ : ∃ x, vs[i]? = some x := ⟨vs[i]'(by omega), by simp⟩
    have hxl := hm8l.get hxi
    have hxx : (limbs D)[i]? = some x := by
      have h1 : (vs.drop i)[0]? = ((limbs D).drop i)[0]? := by rw [hdr]
      rw [List.getElem?_drop, List.getElem?_drop, Nat.add_zero] at h1
      rw [← h1]; exact hxi
    have hneI := Blk.neIt hi8 hbm
    have hneB := Blk.neTy (by decide) hB8' hbm
    (repeat with_reducible first|refine .nil ?_|refine .then_normal ?_|refine .block_normal ?_|refine .seq ?_|refine .block ?_|refine .skip ?_|refine .region ?_|refine .ret ?_|refine .then_ret ?_|refine .block_ret ?_|refine .exit ?_|refine .then_exit ?_|refine .block_exit ?_|refine .block_other rfl ?_)
    refine StL.as TBok 1 (.bool true) rfl (bool_true (by omega)) ?_
    (iterate 6 ((repeat with_reducible first|refine .nil ?_|refine .then_normal ?_|refine .block_normal ?_|refine .seq ?_|refine .block ?_|refine .skip ?_|refine .region ?_|refine .ret ?_|refine .then_ret ?_|refine .block_ret ?_|refine .exit ?_|refine .then_exit ?_|refine .block_exit ?_|refine .block_other rfl ?_); try refine .run TBok 99 rfl ?_))
    refine St.condT rfl rfl ?_
    (repeat with_reducible first|refine .nil ?_|refine .then_normal ?_|refine .block_normal ?_|refine .seq ?_|refine .block ?_|refine .skip ?_|refine .region ?_|refine .ret ?_|refine .then_ret ?_|refine .block_ret ?_|refine .exit ?_|refine .then_exit ?_|refine .block_exit ?_|refine .block_other rfl ?_)
    refine .run TBok 99 rfl ?_
    refine StL.elemB TBok i (u32 x) hbm (seg_get rfl hxi) rfl (by omega) rfl rfl rfl rfl rfl rfl rfl rfl rfl rfl (fun _ => rfl) ?_
    intro p1
    refine .run TBok 99 rfl ?_
    (repeat with_reducible first|refine .nil ?_|refine .then_normal ?_|refine .block_normal ?_|refine .seq ?_|refine .block ?_|refine .skip ?_|refine .region ?_|refine .ret ?_|refine .then_ret ?_|refine .block_ret ?_|refine .exit ?_|refine .then_exit ?_|refine .block_exit ?_|refine .block_other rfl ?_)
    refine StL.as TBok 5 (.int .u64 ((c + 10 * x : Nat) : Int)) rfl (by
      congr 1
      simp only [wrap_u64]
      omega) ?_
    refine .run TBok 99 rfl ?_
    (repeat with_reducible first|refine .nil ?_|refine .then_normal ?_|refine .block_normal ?_|refine .seq ?_|refine .block ?_|refine .skip ?_|refine .region ?_|refine .ret ?_|refine .then_ret ?_|refine .block_ret ?_|refine .exit ?_|refine .then_exit ?_|refine .block_exit ?_|refine .block_other rfl ?_)
    refine StL.as TBok 4 (.int .u32 (((c + 10 * x) % 4294967296 : Nat) : Int)) rfl (by
      simp only [wrap_u32]
      first | rfl | (congr 1; omega)) ?_
    have hq : (c + 10 * x) / 4294967296 < 10 := by omega
    have hy : (c + 10 * x) % 4294967296 < 4294967296 := by omega
    have hdm : (c + 10 * x) / 4294967296 * 4294967296 + (c + 10 * x) % 4294967296 = c + 10 * x := by omega
    refine StL.put TBok i hbm rfl (by omega) (by simp; omega) rfl rfl rfl rfl rfl rfl rfl rfl (fun _ => rfl) (fun _ => rfl) rfl rfl ?_
    intro p3 w9 hb9 hu9
    rw [seg_set (A := []) (off := 0) rfl (by omega)] at hb9
    (refine StL.nil ?_; repeat with_reducible first | refine Out.then_normal ?_ | refine Out.block_normal ?_)
    (repeat with_reducible first|refine .nil ?_|refine .then_normal ?_|refine .block_normal ?_|refine .seq ?_|refine .block ?_|refine .skip ?_|refine .region ?_|refine .ret ?_|refine .then_ret ?_|refine .block_ret ?_|refine .exit ?_|refine .then_exit ?_|refine .block_exit ?_|refine .block_other rfl ?_)
    refine StL.as TBok 2 (.int .u64 (((c + 10 * x) / 4294967296 : Nat) : Int)) rfl (by congr 1) ?_
    generalize (c + 10 * x) / 4294967296 = c' at *
    generalize (c + 10 * x) % 4294967296 = y at *
    (iterate 6 ((repeat with_reducible first|refine .nil ?_|refine .then_normal ?_|refine .block_normal ?_|refine .seq ?_|refine .block ?_|refine .skip ?_|refine .region ?_|refine .ret ?_|refine .then_ret ?_|refine .block_ret ?_|refine .exit ?_|refine .then_exit ?_|refine .block_exit ?_|refine .block_other rfl ?_); try refine .run TBok 99 rfl ?_))
    refine Out.again (i + 1, c', vs.set i y) ⟨rfl, rfl, rfl, rfl, rfl, rfl, ?_, rfl, trivial⟩ ⟨hx8.then_upd hu9 hg, hi8.upd hu9 hneI, SlO.closed hb9 (hm8l.set _ hy) (by simp [hvl]) hg (by simpa using hcap) hmax, hB8'.upd hu9 hneB, hlt, by simp [hvl], hq, ?_, ?_⟩ (by dsimp only; omega)
    · show some (Value.int .i64 _) = _
      rw [i64_id (by omega) (by omega)]; rfl
    · dsimp only
      rw [List.drop_set_of_lt (by omega)]
      have := congrArg (List.drop 1) hdr
      simpa [List.drop_drop] using this
    · dsimp only
      have hs : (vs.set i y)[i]? = some y := List.getElem?_set_self (by omega)
      rw [val_take_succ0 hs, val_take_succ0 hxx, List.take_set_of_le (Nat.le_refl _), Nat.pow_succ]
      generalize 4294967296 ^ i = P at heq ⊢
      have h1 : (c' * 4294967296 + y) * P = (c + 10 * x) * P := by rw [hdm]
      rw [Nat.add_mul, Nat.add_mul, Nat.mul_assoc 10, Nat.mul_right_comm] at h1
      rw [← Nat.mul_assoc c' P]
      omega
  · have hi' : i = n := by omega
    subst hi'
    rw [List.take_of_length_le (by omega), List.take_of_length_le (by omega), val_limbs] at heq
    have hten := limbs_ten (by rw [hvl, hn]) hm8.2 hc (by rw [hvl]; exact heq)
    rw [← hdec] at hten
    (repeat with_reducible first|refine .nil ?_|refine .then_normal ?_|refine .block_normal ?_|refine .seq ?_|refine .block ?_|refine .skip ?_|refine .region ?_|refine .ret ?_|refine .then_ret ?_|refine .block_ret ?_|refine .exit ?_|refine .then_exit ?_|refine .block_exit ?_|refine .block_other rfl ?_)
    refine StL.as TBok 1 (.bool false) rfl (bool_false (by omega)) ?_
    (iterate 6 ((repeat with_reducible first|refine .nil ?_|refine .then_normal ?_|refine .block_normal ?_|refine .seq ?_|refine .block ?_|refine .skip ?_|refine .region ?_|refine .ret ?_|refine .then_ret ?_|refine .block_ret ?_|refine .exit ?_|refine .then_exit ?_|refine .block_exit ?_|refine .block_other rfl ?_); try refine .run TBok 99 rfl ?_))
    refine St.condF rfl rfl ?_
    (repeat with_reducible first|refine .nil ?_|refine .then_normal ?_|refine .block_normal ?_|refine .seq ?_|refine .block ?_|refine .skip ?_|refine .region ?_|refine .ret ?_|refine .then_ret ?_|refine .block_ret ?_|refine .exit ?_|refine .then_exit ?_|refine .block_exit ?_|refine .block_other rfl ?_)
    by_cases hc0 : c = 0
    · subst hc0
      rw [if_pos rfl] at hten
      (iterate 6 ((repeat with_reducible first|refine .nil ?_|refine .then_normal ?_|refine .block_normal ?_|refine .seq ?_|refine .block ?_|refine .skip ?_|refine .region ?_|refine .ret ?_|refine .then_ret ?_|refine .block_ret ?_|refine .exit ?_|refine .then_exit ?_|refine .block_exit ?_|refine .block_other rfl ?_); try refine .run TBok 99 rfl ?_))
      refine St.condF rfl rfl ?_
      (iterate 6 ((repeat with_reducible first|refine .nil ?_|refine .then_normal ?_|refine .block_normal ?_|refine .seq ?_|refine .block ?_|refine .skip ?_|refine .region ?_|refine .ret ?_|refine .then_ret ?_|refine .block_ret ?_|refine .exit ?_|refine .then_exit ?_|refine .block_exit ?_|refine .block_other rfl ?_); try refine .run TBok 99 rfl ?_))
      exact Out.again (p + 1, .slice mp i mc) ⟨rfl, rfl, rfl, rfl, trivial⟩ ⟨hx8, hi8, by dsimp only; rw [hten]; exact hm8, hB8', hp⟩ (by dsimp only; omega)
    · rw [if_neg hc0] at hten
      refine StL.as TBok 2 (.bool true) rfl (bool_true (by omega)) ?_
      (iterate 6 ((repeat with_reducible first|refine .nil ?_|refine .then_normal ?_|refine .block_normal ?_|refine .seq ?_|refine .block ?_|refine .skip ?_|refine .region ?_|refine .ret ?_|refine .then_ret ?_|refine .block_ret ?_|refine .exit ?_|refine .then_exit ?_|refine .block_exit ?_|refine .block_other rfl ?_); try refine .run TBok 99 rfl ?_))
      refine St.condT rfl rfl ?_
      (repeat with_reducible first|refine .nil ?_|refine .then_normal ?_|refine .block_normal ?_|refine .seq ?_|refine .block ?_|refine .skip ?_|refine .region ?_|refine .ret ?_|refine .then_ret ?_|refine .block_ret ?_|refine .exit ?_|refine .then_exit ?_|refine .block_exit ?_|refine .block_other rfl ?_)
      refine .run TBok 99 rfl ?_
      refine StL.push32 c rfl (by rw [u32_id (by omega) (by omega)]) (by omega) (fun _ => rfl) hm8 (by omega) hx8 (Nat.le_refl _) hx8.size rfl rfl ?_
      intro p9 v9 w9 wm hxm hmm hgr hm9 hx9
      have hi9 := (hi8.ext hxm).grown hmm.1 hgr
      have hB9 := (hB8'.ext hxm).grownT hmm.1 (by decide) hgr
      (iterate 6 ((repeat with_reducible first|refine .nil ?_|refine .then_normal ?_|refine .block_normal ?_|refine .seq ?_|refine .block ?_|refine .skip ?_|refine .region ?_|refine .ret ?_|refine .then_ret ?_|refine .block_ret ?_|refine .exit ?_|refine .then_exit ?_|refine .block_exit ?_|refine .block_other rfl ?_); try refine .run TBok 99 rfl ?_))
      exact Out.again (p + 1, v9) ⟨rfl, rfl, rfl, rfl, trivial⟩ ⟨hx9, hi9, by dsimp only; rw [hten]; exact hm9, hB9, hp⟩ (by dsimp only; omega)

end Go.Qf

/- A numeral is the text of what it is read as: plain. -/
namespace Go.Qf
open Go Go.RowKit Go.Proofs

theorem digs_dec (l : List Nat) : l ≠ [] → (∀ b ∈ l, 48 ≤ b ∧ b ≤ 57) → l.reverse.head? ≠ some 48 → dec l.reverse ≠ 0 ∧ digs (dec l.reverse) = l := by
  induction l with
  | nil => intro h; exact absurd rfl h
  | cons b l ih =>
    intro _ hd hh
    have hb := hd b (by simp)
    rw [List.reverse_cons, dec_snoc]
    rw [List.reverse_cons] at hh
    by_cases hl : l = []
    · subst hl
      have h0 : b ≠ 48 := by simpa using hh
      have e : dec ([] : List Nat).reverse = 0 := rfl
      rw [e]
      refine ⟨by omega, ?_⟩
      rw [digs_eq _ (by omega), show (10 * 0 + (b - 48)) / 10 = 0 by omega, digs_zero]
      congr 1
      omega
    · obtain ⟨h1, h2⟩ := ih hl (fun c hc => hd c (by simp [hc])) (by
        intro e
        apply hh
        rw [List.head?_append, e]; rfl)
      refine ⟨by omega, ?_⟩
      rw [digs_eq _ (by omega), show (10 * dec l.reverse + (b - 48)) / 10 = dec l.reverse by omega, h2]
      congr 1
      omega

theorem fmtN_dec {t : List Nat} (h : Numl t) : fmtN (dec t) = t := by
  by_cases h48 : t = [48]
  · subst h48; rfl
  obtain ⟨h1, h2, h3⟩ := h
  by_cases hz : t.head? = some 48
  · exfalso
    refine h3 ⟨?_, hz⟩
    cases t with
    | nil => exact absurd rfl h1
    | cons b r =>
      cases r with
      | nil => simp at hz; subst hz; exact absurd rfl h48
      | cons c r => simp
  · obtain ⟨k1, k2⟩ := digs_dec t.reverse (by simpa using h1) (fun b hb => h2 b (by simpa using hb)) (by simpa using hz)
    rw [List.reverse_reverse] at k1 k2
    unfold fmtN
    rw [if_neg k1, k2, List.reverse_reverse]

/-- A text without a leading zero, with or without a sign. -/
def sgnT (neg : Bool) (t : List Nat) : List Nat := if neg then 45 :: t else t
theorem body_sgnT {neg : Bool} {t : List Nat} {d : Nat} (h : t.head? = some d) (hd : d ≠ 45) : body (sgnT neg t) = t ∧ isNeg (sgnT neg t) = neg := by
  cases neg
  · unfold sgnT body isNeg
    have : t.head? ≠ some 45 := by rw [h]; simpa using hd
    simp [this]
  · exact ⟨rfl, rfl⟩

theorem perr_sgnT {neg : Bool} {t : List Nat} {d : Nat} (h : t.head? = some d) (h1 : 49 ≤ d) (h2 : ∀ b ∈ t, isDig b) : perr (sgnT neg t) = if 2000 < t.length then 7 else 0 := by
  obtain ⟨hb, hn⟩ := body_sgnT (neg := neg) h (by omega)
  unfold perr
  rw [if_pos, hb]
  refine ⟨?_, ?_⟩
  · rw [hb]
    refine ⟨by intro e; rw [e] at h; simp at h, h2, ?_⟩
    rintro ⟨_, k⟩
    rw [h] at k
    simp at k
    omega
  · rw [hb]
    rintro ⟨_, k⟩
    rw [k] at h
    simp at h
    omega

theorem fmtI_pval {neg : Bool} {t : List Nat} {d : Nat} (h : t.head? = some d) (h1 : 49 ≤ d) (h2 : ∀ b ∈ t, isDig b) (hl : t.length ≤ 2000) : fmtI (pval (sgnT neg t)) = sgnT neg t ∧ (decide (pval (sgnT neg t) < 0)) = neg := by
  have hp := perr_sgnT (neg := neg) h h1 h2
  rw [if_neg (by omega)] at hp
  obtain ⟨hb, hn⟩ := body_sgnT (neg := neg) h (by omega)
  have hN : Numl t := by
    refine ⟨by intro e; rw [e] at h; simp at h, h2, ?_⟩
    rintro ⟨_, k⟩
    rw [h] at k
    simp at k
    omega
  have hf := fmtN_dec hN
  have hz : dec t ≠ 0 := by
    intro e
    rw [e] at hf
    rw [← hf] at h
    have : (fmtN 0).head? = some 48 := rfl
    rw [this] at h
    simp at h
    omega
  unfold pval
  rw [if_pos hp, hb, hn]
  cases neg
  · have e : sg false (dec t) = ((dec t : Nat) : Int) := rfl
    rw [e]
    unfold fmtI sgnT
    rw [if_neg (by omega), Int.natAbs_natCast, hf]
    exact ⟨rfl, decide_eq_false (by omega)⟩
  · have e : sg true (dec t) = -((dec t : Nat) : Int) := rfl
    rw [e]
    unfold fmtI sgnT
    rw [if_pos (by omega), Int.natAbs_neg, Int.natAbs_natCast, hf]
    exact ⟨rfl, decide_eq_true (by omega)⟩

theorem perr_bad {neg : Bool} {t : List Nat} {d b : Nat} (h : t.head? = some d) (h1 : 49 ≤ d) (hb : b ∈ t) (h2 : ¬ isDig b) : perr (sgnT neg t) = 2 := by
  obtain ⟨hB, hn⟩ := body_sgnT (neg := neg) h (by omega)
  unfold perr
  rw [if_neg]
  rintro ⟨k, _⟩
  rw [hB] at k
  exact h2 (k.2.1 b hb)

theorem sz_pval (s : List Nat) : sz (pval s) ≤ s.length := by
  unfold pval
  split
  · rename_i h
    unfold perr at h
    by_cases hN : Numb s
    · have h1 := dec_sz (body s) hN.1.2.1
      have h2 := body_le s
      unfold sz at h1 ⊢
      rw [sg_abs]
      simp only [Int.natAbs_natCast] at h1
      omega
    · rw [if_neg hN] at h; exact absurd h (by decide)
  · exact Nat.zero_le _

theorem fmtI_b8 (a : Int) : B8 (fmtI a) := fmtI_lim a

end Go.Qf

/- strings.Cut at a slash. -/
namespace Go.Qf
open Go Go.RowKit Go.Proofs
set_option maxRecDepth 20000

/-- Where the first slash is. -/
def pos : List Nat → Option Nat
  | [] => none
  | b :: l => if b = 47 then some 0 else (pos l).map (· + 1)
theorem pos_lt : ∀ (s : List Nat) (i : Nat), pos s = some i → i < s.length := by
  intro s
  induction s with
  | nil => intro i h; cases h
  | cons b l ih =>
    intro i h
    unfold pos at h
    split at h
    · cases h; simp
    · cases hp : pos l with
      | none => rw [hp] at h; cases h
      | some j =>
        rw [hp] at h
        simp at h
        have := ih j hp
        simp; omega
theorem pos_app : ∀ (t r : List Nat), (∀ b ∈ t, b ≠ 47) → pos (t ++ 47 :: r) = some t.length := by
  intro t
  induction t with
  | nil => intro r _; rfl
  | cons b t ih =>
    intro r h
    rw [List.cons_append, pos, if_neg (h b (by simp)), ih r (fun c hc => h c (by simp [hc]))]
    rfl
theorem pos_no : ∀ (t : List Nat), (∀ b ∈ t, b ≠ 47) → pos t = none := by
  intro t
  induction t with
  | nil => intro _; rfl
  | cons b t ih =>
    intro h
    rw [pos, if_neg (h b (by simp)), ih (fun c hc => h c (by simp [hc]))]
    rfl
def posI (s : List Nat) : Int := match pos s with | some i => i | none => -1

theorem index_pos : ∀ (s : List Nat), B8 s → Go.Lib.indexByte (s.map UInt8.ofNat) 47 = posI s := by
  intro s
  induction s with
  | nil => intro _; rfl
  | cons b l ih =>
    intro h
    have hb := h b (by simp)
    have hl := ih (fun c hc => h c (by simp [hc]))
    have hpc : pos (b :: l) = if b = 47 then some 0 else (pos l).map (· + 1) := rfl
    rw [List.map_cons, Go.Lib.indexByte, hl]
    unfold posI
    rw [hpc]
    have e : (UInt8.ofNat b == 47) = decide (b = 47) := by
      by_cases h47 : b = 47
      · subst h47; rfl
      · rw [decide_eq_false h47, beq_eq_false_iff_ne]
        intro e
        have := congrArg UInt8.toNat e
        rw [UInt8.toNat_ofNat_of_lt' (by simpa using hb)] at this
        exact h47 this
    rw [e]
    by_cases h47 : b = 47
    · rw [decide_eq_true h47, if_pos h47]; rfl
    · rw [decide_eq_false h47, if_neg h47]
      cases pos l with
      | none => rfl
      | some j =>
        have : ((j : Int) == -1) = false := by rw [beq_eq_false_iff_ne]; omega
        simp [this]

/-- A call of a function without a text of its own. -/
theorem OpR.extern {n : Nat} {E : List (Nat × Value)} {w : World} {P : Program} {f : FuncId} {fn : Func} {x : Array Value → Sem Value} {v : Value} (hf : P.funcs[f]? = some fn) (hname : (fn.name == "runtime.NumGoroutine") = false) (hb : fn.body.isNone = true) (hn : Extern.findNext fn = none) (he : Extern.find fn = some x) {d : Option Tmp} {args : Array Operand} {tys : Array TypeId} {ty : TypeId} {pos : String} {af : Array Edge} {g : Option (Nat × Bool)} {vs : List Value}
    (hargs : ovs E args.toList = some vs) (hr : (x vs.toArray).run P w = .ok v w) :
    OpR P n ⟨d, .call ⟨.value (.func f), args, tys⟩, ty, pos, af, g⟩ E w (fun r w' => r = v ∧ w' = w) := by
  intro a ha Q K hK
  have hm := ovs_map ha _ _ hargs
  have hA : args.map a.eval = vs.toArray := by
    rw [← hm]
    apply Array.toList_inj.1
    simp
  have hev : a.eval (.func f) = .func (.func f) #[] #[] := rfl
  have hc := run_callFunc_extern hf hname hb hn he vs.toArray w
  rw [hr] at hc
  have hrun : (execOp a.eval ⟨d, .call ⟨.value (.func f), args, tys⟩, ty, pos, af, g⟩).run P w = .ok (.value v) w := by
    simp only [execOp, resolve, hev, Deferred.ofValue, hA, Sem.run_bind, Sem.run_pure, Result.andThen_ok, invoke]
    simp only [Array.append_empty, Array.empty_append, hc]
    rfl
  unfold Oper.wp
  rw [hrun, Oper.upon_value]
  exact hK _ _ ⟨rfl, rfl⟩

theorem indexByte_spec (w : World) (s : List Nat) (h : B8 s) : Calls Try.prog 132 #[strV s, u8 47] w (Ret fun r w' => Ext w w' ∧ r = .int .i64 (posI s)) := by
  refine calls_of_St (args := [_, _]) Try.func132 rfl Try.ntmps132 rfl ?_
  (iterate 6 ((repeat with_reducible first|refine .nil ?_|refine .then_normal ?_|refine .block_normal ?_|refine .seq ?_|refine .block ?_|refine .skip ?_|refine .region ?_|refine .ret ?_|refine .then_ret ?_|refine .block_ret ?_|refine .exit ?_|refine .then_exit ?_|refine .block_exit ?_|refine .block_other rfl ?_); try refine .run TBok 99 rfl ?_))
  have hr := Go.Lib.run_indexByteString (P := Try.prog) (strB s) 47 w
  rw [show (strB s).data.toList = s.map UInt8.ofNat from by simp [strB], show (47 : Int).toNat.toUInt8 = 47 from rfl, index_pos s h] at hr
  refine StL.step rfl rfl rfl (OpR.extern Try.func136 (by kernel_rfl) (by kernel_rfl) (by kernel_rfl) (x := Extern.BytealgIndexByte.indexByte) (by kernel_rfl) rfl hr) ?_
  rintro _ _ ⟨rfl, rfl⟩
  (iterate 6 ((repeat with_reducible first|refine .nil ?_|refine .then_normal ?_|refine .block_normal ?_|refine .seq ?_|refine .block ?_|refine .skip ?_|refine .region ?_|refine .ret ?_|refine .then_ret ?_|refine .block_ret ?_|refine .exit ?_|refine .then_exit ?_|refine .block_exit ?_|refine .block_other rfl ?_); try refine .run TBok 99 rfl ?_))
  exact Out.ret1 rfl rfl ⟨Ext.refl _, rfl⟩

theorem b8_slash : B8 [47] := fun b hb => by simp at hb; omega

theorem index_spec (w : World) (s : List Nat) (h : B8 s) : Calls Try.prog 129 #[strV s, strV [47]] w (Ret fun r w' => Ext w w' ∧ r = .int .i64 (posI s)) := by
  refine calls_of_St (args := [_, _]) Try.func129 rfl Try.ntmps129 rfl ?_
  (repeat with_reducible first|refine .nil ?_|refine .then_normal ?_|refine .block_normal ?_|refine .seq ?_|refine .block ?_|refine .skip ?_|refine .region ?_|refine .ret ?_|refine .then_ret ?_|refine .block_ret ?_|refine .exit ?_|refine .then_exit ?_|refine .block_exit ?_|refine .block_other rfl ?_)
  refine .run TBok 99 rfl ?_
  (repeat with_reducible first|refine .nil ?_|refine .then_normal ?_|refine .block_normal ?_|refine .seq ?_|refine .block ?_|refine .skip ?_|refine .region ?_|refine .ret ?_|refine .then_ret ?_|refine .block_ret ?_|refine .exit ?_|refine .then_exit ?_|refine .block_exit ?_|refine .block_other rfl ?_)
  refine StL.as TBok 2 (.int .i64 1) rfl (by rw [strB_size]; rfl) ?_
  (iterate 6 ((repeat with_reducible first|refine .nil ?_|refine .then_normal ?_|refine .block_normal ?_|refine .seq ?_|refine .block ?_|refine .skip ?_|refine .region ?_|refine .ret ?_|refine .then_ret ?_|refine .block_ret ?_|refine .exit ?_|refine .then_exit ?_|refine .block_exit ?_|refine .block_other rfl ?_); try refine .run TBok 99 rfl ?_))
  refine StL.step rfl rfl rfl (RunsTo.strEql (xs := [47]) (bs := s) b8_slash h rfl rfl).op ?_
  rintro _ _ ⟨rfl, rfl⟩
  by_cases h1 : [47] = s
  · rw [decide_eq_true h1]
    subst h1
    (iterate 6 ((repeat with_reducible first|refine .nil ?_|refine .then_normal ?_|refine .block_normal ?_|refine .seq ?_|refine .block ?_|refine .skip ?_|refine .region ?_|refine .ret ?_|refine .then_ret ?_|refine .block_ret ?_|refine .exit ?_|refine .then_exit ?_|refine .block_exit ?_|refine .block_other rfl ?_); try refine .run TBok 99 rfl ?_))
    refine St.condT rfl rfl ?_
    (iterate 6 ((repeat with_reducible first|refine .nil ?_|refine .then_normal ?_|refine .block_normal ?_|refine .seq ?_|refine .block ?_|refine .skip ?_|refine .region ?_|refine .ret ?_|refine .then_ret ?_|refine .block_ret ?_|refine .exit ?_|refine .then_exit ?_|refine .block_exit ?_|refine .block_other rfl ?_); try refine .run TBok 99 rfl ?_))
    exact Out.ret1 rfl rfl ⟨Ext.refl _, rfl⟩
  · rw [decide_eq_false h1]
    (iterate 6 ((repeat with_reducible first|refine .nil ?_|refine .then_normal ?_|refine .block_normal ?_|refine .seq ?_|refine .block ?_|refine .skip ?_|refine .region ?_|refine .ret ?_|refine .then_ret ?_|refine .block_ret ?_|refine .exit ?_|refine .then_exit ?_|refine .block_exit ?_|refine .block_other rfl ?_); try refine .run TBok 99 rfl ?_))
    refine St.condF rfl rfl ?_
    (iterate 6 ((repeat with_reducible first|refine .nil ?_|refine .then_normal ?_|refine .block_normal ?_|refine .seq ?_|refine .block ?_|refine .skip ?_|refine .region ?_|refine .ret ?_|refine .then_ret ?_|refine .block_ret ?_|refine .exit ?_|refine .then_exit ?_|refine .block_exit ?_|refine .block_other rfl ?_); try refine .run TBok 99 rfl ?_))
    refine St.condT rfl rfl ?_
    (iterate 6 ((repeat with_reducible first|refine .nil ?_|refine .then_normal ?_|refine .block_normal ?_|refine .seq ?_|refine .block ?_|refine .skip ?_|refine .region ?_|refine .ret ?_|refine .then_ret ?_|refine .block_ret ?_|refine .exit ?_|refine .then_exit ?_|refine .block_exit ?_|refine .block_other rfl ?_); try refine .run TBok 99 rfl ?_))
    refine StL.step rfl rfl rfl (RunsTo.strIndex TBok (bs := [47]) 0 47 rfl rfl rfl rfl rfl (by decide)).op ?_
    rintro _ _ ⟨rfl, rfl⟩
    refine StL.step rfl rfl rfl (OpR.call fn_internal_stringslite_IndexByte rfl (indexByte_spec w s h)) ?_
    rintro _ w1 ⟨hx1, rfl⟩
    (iterate 6 ((repeat with_reducible first|refine .nil ?_|refine .then_normal ?_|refine .block_normal ?_|refine .seq ?_|refine .block ?_|refine .skip ?_|refine .region ?_|refine .ret ?_|refine .then_ret ?_|refine .block_ret ?_|refine .exit ?_|refine .then_exit ?_|refine .block_exit ?_|refine .block_other rfl ?_); try refine .run TBok 99 rfl ?_))
    exact Out.ret1 rfl rfl ⟨hx1, rfl⟩

/-- The texts before and behind the first slash. -/
def cutA (s : List Nat) : List Nat := match pos s with | some i => s.take i | none => s
def cutB (s : List Nat) : List Nat := match pos s with | some i => s.drop (i + 1) | none => []
theorem B8.cutA {s : List Nat} (h : B8 s) : B8 (cutA s) := by
  unfold Go.Qf.cutA
  split
  · exact fun b hb => h b (List.mem_of_mem_take hb)
  · exact h
theorem B8.cutB {s : List Nat} (h : B8 s) : B8 (cutB s) := by
  unfold Go.Qf.cutB
  split
  · exact fun b hb => h b (List.mem_of_mem_drop hb)
  · exact b8_nil
theorem cutA_le (s : List Nat) : (cutA s).length ≤ s.length := by
  unfold cutA
  split
  · simp; omega
  · exact Nat.le_refl _
theorem cutB_le (s : List Nat) : (cutB s).length ≤ s.length := by
  unfold cutB
  split
  · simp
  · exact Nat.zero_le _

theorem slCut_spec (w : World) (s : List Nat) (h : B8 s) (hlen : s.length ≤ 1000000000000) : Calls Try.prog 117 #[strV s, strV [47]] w (Ret fun r w' => Ext w w' ∧ r = .tuple #[strV (cutA s), strV (cutB s), .bool (pos s).isSome]) := by
  refine calls_of_St (args := [_, _]) Try.func117 rfl Try.ntmps117 rfl ?_
  (iterate 6 ((repeat with_reducible first|refine .nil ?_|refine .then_normal ?_|refine .block_normal ?_|refine .seq ?_|refine .block ?_|refine .skip ?_|refine .region ?_|refine .ret ?_|refine .then_ret ?_|refine .block_ret ?_|refine .exit ?_|refine .then_exit ?_|refine .block_exit ?_|refine .block_other rfl ?_); try refine .run TBok 99 rfl ?_))
  refine StL.step rfl rfl rfl (OpR.call fn_internal_stringslite_Index rfl (index_spec w s h)) ?_
  rintro _ w1 ⟨hx1, rfl⟩
  unfold posI cutA cutB
  cases hp : pos s with
  | none =>
    (iterate 6 ((repeat with_reducible first|refine .nil ?_|refine .then_normal ?_|refine .block_normal ?_|refine .seq ?_|refine .block ?_|refine .skip ?_|refine .region ?_|refine .ret ?_|refine .then_ret ?_|refine .block_ret ?_|refine .exit ?_|refine .then_exit ?_|refine .block_exit ?_|refine .block_other rfl ?_); try refine .run TBok 99 rfl ?_))
    refine St.condF rfl rfl ?_
    (iterate 6 ((repeat with_reducible first|refine .nil ?_|refine .then_normal ?_|refine .block_normal ?_|refine .seq ?_|refine .block ?_|refine .skip ?_|refine .region ?_|refine .ret ?_|refine .then_ret ?_|refine .block_ret ?_|refine .exit ?_|refine .then_exit ?_|refine .block_exit ?_|refine .block_other rfl ?_); try refine .run TBok 99 rfl ?_))
    refine Out.rets TBok [_, _, _] rfl ⟨rfl, rfl, rfl, trivial⟩ ⟨hx1, rfl⟩
  | some i =>
    have hi := pos_lt s i hp
    dsimp only
    refine .run TBok 99 rfl ?_
    (repeat with_reducible first|refine .nil ?_|refine .then_normal ?_|refine .block_normal ?_|refine .seq ?_|refine .block ?_|refine .skip ?_|refine .region ?_|refine .ret ?_|refine .then_ret ?_|refine .block_ret ?_|refine .exit ?_|refine .then_exit ?_|refine .block_exit ?_|refine .block_other rfl ?_)
    refine StL.as TBok 2 (.bool true) rfl (bool_true (by omega)) ?_
    (iterate 6 ((repeat with_reducible first|refine .nil ?_|refine .then_normal ?_|refine .block_normal ?_|refine .seq ?_|refine .block ?_|refine .skip ?_|refine .region ?_|refine .ret ?_|refine .then_ret ?_|refine .block_ret ?_|refine .exit ?_|refine .then_exit ?_|refine .block_exit ?_|refine .block_other rfl ?_); try refine .run TBok 99 rfl ?_))
    refine St.condT rfl rfl ?_
    (repeat with_reducible first|refine .nil ?_|refine .then_normal ?_|refine .block_normal ?_|refine .seq ?_|refine .block ?_|refine .skip ?_|refine .region ?_|refine .ret ?_|refine .then_ret ?_|refine .block_ret ?_|refine .exit ?_|refine .then_exit ?_|refine .block_exit ?_|refine .block_other rfl ?_)
    refine St.sub (E' := [(0, strV s), (1, strV [47]), (7, .int .i64 i)]) ?_ ⟨rfl, rfl, rfl, trivial⟩
    refine St.flow 10 TBfol (by kernel_rfl) rfl (by kernel_rfl) rfl True.intro ?_
    refine FL.run TBok 99 rfl ?_
    refine FL.one (L := []) rfl rfl rfl rfl rfl (fun _ _ => RunsTo.strTo TBok i rfl rfl rfl rfl (by omega)) ?_
    refine FL.as TBok 5 (.int .i64 ((i + 1 : Nat) : Int)) rfl ?_ ?_
    · rw [strB_size]
      congr 1
      rw [i64_id (by simp; omega) (by simp; omega)]
      simp
    refine FL.one (L := []) rfl rfl rfl rfl rfl (fun _ _ => RunsTo.strFrom TBok (i + 1) rfl rfl rfl rfl (by omega)) ?_
    refine FL.run TBok 99 rfl ?_
    refine FL.endE rfl ?_
    intro w2 hx2 _ _
    (iterate 6 ((repeat with_reducible first|refine .nil ?_|refine .then_normal ?_|refine .block_normal ?_|refine .seq ?_|refine .block ?_|refine .skip ?_|refine .region ?_|refine .ret ?_|refine .then_ret ?_|refine .block_ret ?_|refine .exit ?_|refine .then_exit ?_|refine .block_exit ?_|refine .block_other rfl ?_); try refine .run TBok 99 rfl ?_))
    exact Out.rets TBok [_, _, _] rfl ⟨rfl, rfl, rfl, trivial⟩ ⟨hx1.trans hx2, rfl⟩

theorem cut_spec (w : World) (s : List Nat) (h : B8 s) (hlen : s.length ≤ 1000000000000) : Calls Try.prog 86 #[strV s, strV [47]] w (Ret fun r w' => Ext w w' ∧ r = .tuple #[strV (cutA s), strV (cutB s), .bool (pos s).isSome]) := by
  refine calls_of_St (args := [_, _]) Try.func86 rfl Try.ntmps86 rfl ?_
  (iterate 6 ((repeat with_reducible first|refine .nil ?_|refine .then_normal ?_|refine .block_normal ?_|refine .seq ?_|refine .block ?_|refine .skip ?_|refine .region ?_|refine .ret ?_|refine .then_ret ?_|refine .block_ret ?_|refine .exit ?_|refine .then_exit ?_|refine .block_exit ?_|refine .block_other rfl ?_); try refine .run TBok 99 rfl ?_))
  refine StL.step rfl rfl rfl (OpR.call fn_internal_stringslite_Cut rfl (slCut_spec w s h hlen)) ?_
  rintro _ w1 ⟨hx1, rfl⟩
  (iterate 6 ((repeat with_reducible first|refine .nil ?_|refine .then_normal ?_|refine .block_normal ?_|refine .seq ?_|refine .block ?_|refine .skip ?_|refine .region ?_|refine .ret ?_|refine .then_ret ?_|refine .block_ret ?_|refine .exit ?_|refine .then_exit ?_|refine .block_exit ?_|refine .block_other rfl ?_); try refine .run TBok 99 rfl ?_))
  exact Out.rets TBok [_, _, _] rfl ⟨rfl, rfl, rfl, trivial⟩ ⟨hx1, rfl⟩

theorem hasP_spec (w : World) (s : List Nat) (h : B8 s) : Calls Try.prog 87 #[strV s, strV [45]] w (Ret fun r w' => Ext w w' ∧ r = .bool (isNeg s)) := by
  refine calls_of_St (args := [_, _]) Try.func87 rfl Try.ntmps87 rfl ?_
  (iterate 6 ((repeat with_reducible first|refine .nil ?_|refine .then_normal ?_|refine .block_normal ?_|refine .seq ?_|refine .block ?_|refine .skip ?_|refine .region ?_|refine .ret ?_|refine .then_ret ?_|refine .block_ret ?_|refine .exit ?_|refine .then_exit ?_|refine .block_exit ?_|refine .block_other rfl ?_); try refine .run TBok 99 rfl ?_))
  refine StL.step rfl rfl rfl (OpR.call fn_internal_stringslite_HasPrefix rfl (hasPrefix_spec w s h)) ?_
  rintro _ w1 ⟨hx1, rfl⟩
  (iterate 6 ((repeat with_reducible first|refine .nil ?_|refine .then_normal ?_|refine .block_normal ?_|refine .seq ?_|refine .block ?_|refine .skip ?_|refine .region ?_|refine .ret ?_|refine .then_ret ?_|refine .block_ret ?_|refine .exit ?_|refine .then_exit ?_|refine .block_exit ?_|refine .block_other rfl ?_); try refine .run TBok 99 rfl ?_))
  exact Out.ret1 rfl rfl ⟨hx1, rfl⟩

end Go.Qf
