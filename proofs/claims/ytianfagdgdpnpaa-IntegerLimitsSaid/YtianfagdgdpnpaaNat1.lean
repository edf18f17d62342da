/- integer.trim: the zeros at the end are cut off. -/
import Derived.Test.YtianfagdgdpnpaaTab
import Derived.Test.YtianfagdgdpnpaaMath
namespace Go.Qf
open Go Go.RowKit Go.Proofs

abbrev u32 (x : Nat) : Value := .int .u32 x

/-- The slice v reads as the limbs xs. -/
def Sl (w : World) (v : Value) (xs : List Nat) : Prop := Row 41 w v (xs.map u32) ∧ Lim xs

def cutTo : Value → Nat → Value
  | .slice p _ cap, k => .slice p k cap
  | v, _ => v

theorem Sl.ext {w w' : World} {v : Value} {xs : List Nat} (h : Sl w v xs) (hx : Ext w w') : Sl w' v xs := ⟨h.1.ext hx, h.2⟩
theorem Sl.drewN {w : World} {v : Value} {xs : List Nat} (h : Sl w v xs) (m : Nat) : Sl (w.drewN m) v xs := h
theorem Sl.form {w : World} {v : Value} {xs : List Nat} (h : Sl w v xs) : ∃ p cap, v = .slice p xs.length cap ∧ xs.length ≤ cap := by
  obtain ⟨p, cap, hv, hl, _⟩ := h.1
  exact ⟨p, cap, by simpa using hv, by simpa using hl⟩
theorem Sl.get {w : World} {v : Value} {xs : List Nat} {i x : Nat} (_h : Sl w v xs) (hx : xs[i]? = some x) : (xs.map u32)[i]? = some (u32 x) := by
  simp [hx]

theorem Row.cut {e : TypeId} {w : World} {v : Value} {cs : List Value} (h : Row e w v cs) (k : Nat) (hk : k ≤ cs.length) : Row e w (cutTo v k) (cs.take k) := by
  obtain ⟨p, cap, hv, hl, h⟩ := h
  subst hv
  have e1 : (cs.take k).length = k := by simp; omega
  refine ⟨p, cap, by simp only [cutTo, e1], by omega, ?_⟩
  rcases h with h | ⟨b, off, C, fz, hp, hb, hs, hc⟩
  · exact .inl h
  · refine .inr ⟨b, off, C, fz, hp, hb, hs, fun i hi => ?_⟩
    rw [e1] at hi
    rw [hc i (by omega), List.getElem?_take_of_lt hi]

theorem Sl.cut {w : World} {v : Value} {xs : List Nat} (h : Sl w v xs) (k : Nat) (hk : k ≤ xs.length) : Sl w (cutTo v k) (xs.take k) := by
  refine ⟨?_, h.2.take k⟩
  have := h.1.cut k (by simpa using hk)
  rwa [← List.map_take] at this

set_option maxRecDepth 4000 in
theorem trim_spec (w : World) (v : Value) (xs : List Nat) (h : Sl w v xs) (hlen : xs.length ≤ 1000000000) :
    Calls Try.prog 62 #[v] w (Ret fun r w' => w' = w ∧ r = cutTo v (limbs (val xs)).length ∧ Sl w r (limbs (val xs))) := by
  obtain ⟨p, cap, rfl, hcap⟩ := h.form
  refine calls_of_St (args := [_]) Try.func62 rfl Try.ntmps62 rfl ?_
  refine St.seq (St.region (StL.run TBok 99 rfl (StL.nil (Out.then_normal ?_))))
  refine St.seq (St.block ?_)
  refine St.loop (fun k : Nat => [(0, .slice p k cap)]) (fun k w' => w' = w ∧ k ≤ xs.length ∧ ∀ j, k ≤ j → j < xs.length → xs[j]? = some 0) (fun k => k) xs.length ⟨rfl, trivial⟩ ⟨rfl, Nat.le_refl _, fun j h1 h2 => by omega⟩ ?_
  rintro k w' ⟨rfl, hk, hz⟩
  refine St.seq (St.seq (St.region ?_))
  by_cases h0 : k = 0
  · subst h0
    refine StL.as TBok 3 (.bool false) rfl (bool_false (by omega)) ?_
    refine StL.run TBok 99 rfl (StL.nil (Out.then_normal ?_))
    refine St.condF rfl rfl (St.exit (Out.then_exit (Out.then_exit (Out.block_exit (Out.then_normal ?_)))))
    refine St.seq (St.region (StL.run TBok 99 rfl (StL.nil (Out.then_normal (St.ret ?_)))))
    have e : limbs (val xs) = xs.take 0 := limbs_take xs h.2 0 hz hk (.inl rfl)
    refine Out.ret1 rfl rfl ⟨rfl, ?_, ?_⟩
    · rw [e]; rfl
    · rw [e]; exact h.cut 0 hk
  · obtain ⟨m, rfl⟩ : ∃ m, k = m + 1 := ⟨k - 1, by omega⟩
    have hx : xs[m]? = some xs[m] := by simp
    generalize xs[m] = x at hx
    refine StL.as TBok 3 (.bool true) rfl (bool_true (by omega)) ?_
    refine StL.run TBok 99 rfl ?_
    refine StL.elem TBok m (u32 x) (Row.cut h.1 (m + 1) (by simpa using hk)) (by rw [List.getElem?_take_of_lt (by omega)]; exact h.get hx) (by rw [i64_id (by omega) (by omega)]; omega) rfl rfl rfl rfl rfl rfl rfl rfl rfl rfl (fun _ => rfl) ?_
    intro p1
    refine StL.run TBok 99 rfl (StL.nil (Out.then_normal ?_))
    refine St.cond rfl (fun hb => ?_) (fun hb => ?_)
    · refine St.skip (Out.then_normal (St.block (St.region ?_)))
      refine StL.run TBok 99 rfl ?_
      have e1 : IntKind.i64.wrap ((((m + 1 : Nat) : Nat) : Int) - 1) = m := by rw [i64_id (by omega) (by omega)]; omega
      refine StL.step rfl rfl rfl (RunsTo.sliceHi TBok rfl rfl rfl rfl (by rw [e1]; omega) (by rw [e1]; omega)).op ?_
      rintro _ _ ⟨rfl, rfl⟩
      rw [e1]
      refine StL.run TBok 99 rfl (StL.nil (Out.block_normal (Out.again m ⟨rfl, trivial⟩ ⟨rfl, by omega, fun j h1 h2 => ?_⟩ (Nat.lt_succ_self m))))
      by_cases hj : j = m
      · subst hj; rw [hx]; simp at hb; rw [hb]
      · exact hz j (by omega) h2
    · refine St.exit (Out.then_exit (Out.then_exit (Out.block_exit (Out.then_normal ?_))))
      refine St.seq (St.region (StL.run TBok 99 rfl (StL.nil (Out.then_normal (St.ret ?_)))))
      have hne : x ≠ 0 := by
        intro e; subst e; simp at hb
      have e : limbs (val xs) = xs.take (m + 1) := limbs_take xs h.2 (m + 1) hz hk (.inr ⟨x, by simpa using hx, hne⟩)
      refine Out.ret1 rfl rfl ⟨rfl, ?_, ?_⟩
      · rw [e]; simp [cutTo]; omega
      · rw [e]; exact h.cut (m + 1) hk

end Go.Qf
