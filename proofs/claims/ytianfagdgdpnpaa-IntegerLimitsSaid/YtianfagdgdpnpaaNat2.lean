/- integer.build, fromWord, word, compareNat. -/
import Derived.Test.YtianfagdgdpnpaaNat1
import Derived.Test.YtianfagdgdpnpaaMath2
import Derived.Test.YtianfagdgdpnpaaBits
import Derived.Test.YtianfagdgdpnpaaFns
import Derived.Test.YtianfagdgdpnpaaMem6
namespace Go.Qf
open Go Go.RowKit Go.Proofs

/-- A slice of the call's own that reads as the limbs xs. -/
def SlO (base : Nat) (w : World) (v : Value) (xs : List Nat) : Prop := Own base 41 w v (xs.map u32) ∧ Lim xs

theorem SlO.sl {base : Nat} {w : World} {v : Value} {xs : List Nat} (h : SlO base w v xs) : Sl w v xs := ⟨Own.row h.1, h.2⟩
theorem SlO.ext {base : Nat} {w w' : World} {v : Value} {xs : List Nat} (h : SlO base w v xs) (hx : Ext w w') : SlO base w' v xs := ⟨Own.ext h.1 hx, h.2⟩
theorem SlO.nil (base : Nat) (w : World) : SlO base w (.slice none 0 0) [] := ⟨Own.nil _ _ _, Lim.nil⟩
theorem SlO.mono {base base' : Nat} {w : World} {v : Value} {xs : List Nat} (h : SlO base w v xs) (hb : base' ≤ base) : SlO base' w v xs := by
  refine ⟨⟨h.1.1, ?_⟩, h.2⟩
  rcases h.1.2 with h0 | ⟨g, cap, cur, hv, hg, r⟩
  · exact .inl h0
  · exact .inr ⟨g, cap, cur, hv, Nat.le_trans hb hg, r⟩

theorem Own.cut {base : Nat} {e : TypeId} {w : World} {v : Value} {cs : List Value} (h : Own base e w v cs) (k : Nat) (hk : k ≤ cs.length) : Own base e w (cutTo v k) (cs.take k) := by
  have e1 : (cs.take k).length = k := by simp; omega
  refine ⟨by simp, ?_⟩
  rw [e1]
  rcases h.2 with ⟨hv, h0⟩ | ⟨g, cap, cur, hv, hg, hh, hn, hm, hs, ht⟩
  · have : k = 0 := by omega
    subst this
    exact .inl ⟨by rw [hv]; rfl, rfl⟩
  · refine .inr ⟨g, cap, cur, by rw [hv]; rfl, hg, hh, by omega, hm, hs, ?_⟩
    rw [← ht]
    simp [List.take_take, Nat.min_eq_left hk]

theorem SlO.cut {base : Nat} {w : World} {v : Value} {xs : List Nat} (h : SlO base w v xs) (k : Nat) (hk : k ≤ xs.length) : SlO base w (cutTo v k) (xs.take k) := by
  refine ⟨?_, h.2.take k⟩
  have := Own.cut h.1 k (by simpa using hk)
  rwa [← List.map_take] at this

theorem limbs_is_take {xs : List Nat} (h : Lim xs) : limbs (val xs) = xs.take (limbs (val xs)).length := by
  -- the last limb that is not 0
  have key : ∀ k, k ≤ xs.length → (∀ j, k ≤ j → j < xs.length → xs[j]? = some 0) → ∃ k', limbs (val xs) = xs.take k' ∧ k' ≤ xs.length := by
    intro k
    induction k with
    | zero => intro hk hz; exact ⟨0, limbs_take xs h 0 hz hk (.inl rfl), hk⟩
    | succ k ih =>
      intro hk hz
      have hx : xs[k]? = some xs[k] := by simp
      generalize xs[k] = x at hx
      by_cases h0 : x = 0
      · subst h0
        refine ih (by omega) fun j h1 h2 => ?_
        by_cases e : j = k
        · subst e; exact hx
        · exact hz j (by omega) h2
      · exact ⟨k + 1, limbs_take xs h (k + 1) hz hk (.inr ⟨x, by simpa using hx, h0⟩), hk⟩
  obtain ⟨k, hk, hle⟩ := key xs.length (Nat.le_refl _) (fun j h1 h2 => by omega)
  conv => lhs; rw [hk]
  rw [hk]
  simp [Nat.min_eq_left hle]

theorem SlO.trimmed {base : Nat} {w : World} {v : Value} {xs : List Nat} (h : SlO base w v xs) : SlO base w (cutTo v (limbs (val xs)).length) (limbs (val xs)) := by
  have := h.cut (limbs (val xs)).length (limbs_length_le _ h.2)
  rwa [← limbs_is_take h.2] at this

/-- The struct api.Int with this sign and these limbs. -/
def IntV (neg : Bool) (sl : Value) : Value := .agg #[.bool neg, sl]

set_option maxRecDepth 4000 in
theorem build_spec (w : World) (neg : Bool) (sl : Value) (xs : List Nat) (h : Sl w sl xs) (hlen : xs.length ≤ 1000000000) :
    Calls Try.prog 60 #[.bool neg, sl] w (Ret fun r w' => Ext w w' ∧ r = if xs = [] then IntV false (.slice none 0 0) else IntV neg sl) := by
  obtain ⟨p, cap, rfl, hcap⟩ := h.form
  refine calls_of_St (args := [_, _]) Try.func60 rfl Try.ntmps60 rfl ?_
  (repeat with_reducible first | refine StL.nil ?_ | refine Out.then_normal ?_ | refine Out.block_normal ?_ | refine St.seq ?_ | refine St.block ?_ | refine St.skip ?_ | refine St.region ?_ | refine St.ret ?_ | refine Out.then_ret ?_ | refine Out.block_ret ?_ | refine St.exit ?_ | refine Out.then_exit ?_ | refine Out.block_exit ?_)
  refine StL.step rfl rfl rfl (OpR.alloc TBok rfl) ?_
  rintro _ w1 ⟨rfl, hb, hx1, _⟩
  (repeat with_reducible first | refine StL.nil ?_ | refine Out.then_normal ?_ | refine Out.block_normal ?_ | refine St.seq ?_ | refine St.block ?_ | refine St.skip ?_ | refine St.region ?_ | refine St.ret ?_ | refine Out.then_ret ?_ | refine Out.block_ret ?_ | refine St.exit ?_ | refine Out.then_exit ?_ | refine Out.block_exit ?_)
  by_cases h0 : xs = []
  · subst h0
    refine StL.as TBok 3 (.bool true) rfl rfl ?_
    (repeat with_reducible first | refine StL.nil ?_ | refine Out.then_normal ?_ | refine Out.block_normal ?_ | refine St.seq ?_ | refine St.block ?_ | refine St.skip ?_ | refine St.region ?_ | refine St.ret ?_ | refine Out.then_ret ?_ | refine Out.block_ret ?_ | refine St.exit ?_ | refine Out.then_exit ?_ | refine Out.block_exit ?_)
    refine St.condT rfl rfl ?_
    (repeat with_reducible first | refine StL.nil ?_ | refine Out.then_normal ?_ | refine Out.block_normal ?_ | refine St.seq ?_ | refine St.block ?_ | refine St.skip ?_ | refine St.region ?_ | refine St.ret ?_ | refine Out.then_ret ?_ | refine Out.block_ret ?_ | refine St.exit ?_ | refine Out.then_exit ?_ | refine Out.block_exit ?_)
    refine StL.step rfl rfl rfl (RunsTo.build TBok rfl rfl rfl rfl).op ?_
    rintro _ _ ⟨rfl, rfl⟩
    refine StL.step0 rfl rfl (OpR.store TBok (vs := [.bool false, .slice none 0 0]) rfl rfl rfl rfl rfl hb (Nat.le_refl _) (by simp [Value.oneCell'])) ?_
    rintro _ w2 ⟨hb2, hu⟩
    (repeat with_reducible first | refine StL.nil ?_ | refine Out.then_normal ?_ | refine Out.block_normal ?_ | refine St.seq ?_ | refine St.block ?_ | refine St.skip ?_ | refine St.region ?_ | refine St.ret ?_ | refine Out.then_ret ?_ | refine Out.block_ret ?_ | refine St.exit ?_ | refine Out.then_exit ?_ | refine Out.block_exit ?_)
    exact Out.rets TBok [IntV false (.slice none 0 0)] rfl ⟨⟨_, _, _, _, rfl, hb2, rfl, rfl, rfl, rfl⟩, trivial⟩ ⟨hx1.then_upd hu (Nat.le_refl _), by simp [oneOf]⟩
  · have hne : xs.length ≠ 0 := fun e => h0 (List.eq_nil_of_length_eq_zero e)
    refine StL.as TBok 3 (.bool false) rfl (by simp; omega) ?_
    (repeat with_reducible first | refine StL.nil ?_ | refine Out.then_normal ?_ | refine Out.block_normal ?_ | refine St.seq ?_ | refine St.block ?_ | refine St.skip ?_ | refine St.region ?_ | refine St.ret ?_ | refine Out.then_ret ?_ | refine Out.block_ret ?_ | refine St.exit ?_ | refine Out.then_exit ?_ | refine Out.block_exit ?_)
    refine St.condF rfl rfl ?_
    (repeat with_reducible first | refine StL.nil ?_ | refine Out.then_normal ?_ | refine Out.block_normal ?_ | refine St.seq ?_ | refine St.block ?_ | refine St.skip ?_ | refine St.region ?_ | refine St.ret ?_ | refine Out.then_ret ?_ | refine Out.block_ret ?_ | refine St.exit ?_ | refine Out.then_exit ?_ | refine Out.block_exit ?_)
    refine StL.run TBok 99 rfl ?_
    refine StL.step rfl rfl rfl (RunsTo.build TBok rfl rfl rfl rfl).op ?_
    rintro _ _ ⟨rfl, rfl⟩
    refine StL.step0 rfl rfl (OpR.store TBok (vs := [.bool neg, .slice p xs.length cap]) rfl rfl rfl rfl rfl hb (Nat.le_refl _) (by simp [Value.oneCell'])) ?_
    rintro _ w2 ⟨hb2, hu⟩
    (repeat with_reducible first | refine StL.nil ?_ | refine Out.then_normal ?_ | refine Out.block_normal ?_ | refine St.seq ?_ | refine St.block ?_ | refine St.skip ?_ | refine St.region ?_ | refine St.ret ?_ | refine Out.then_ret ?_ | refine Out.block_ret ?_ | refine St.exit ?_ | refine Out.then_exit ?_ | refine Out.block_exit ?_)
    exact Out.rets TBok [IntV neg (.slice p xs.length cap)] rfl ⟨⟨_, _, _, _, rfl, hb2, rfl, rfl, rfl, rfl⟩, trivial⟩ ⟨hx1.then_upd hu (Nat.le_refl _), by simp [oneOf, h0]⟩

set_option maxRecDepth 4000 in
theorem fromWord_spec (w : World) (m : Nat) (hm : m < 18446744073709551616) :
    Calls Try.prog 61 #[.int .u64 m] w (Ret fun r w' => Ext w w' ∧ SlO w.heap.size w' r (limbs m)) := by
  refine calls_of_St (args := [_]) Try.func61 rfl Try.ntmps61 rfl ?_
  ((repeat with_reducible first | refine StL.nil ?_ | refine Out.then_normal ?_ | refine Out.block_normal ?_ | refine St.seq ?_ | refine St.block ?_ | refine St.skip ?_ | refine St.region ?_ | refine St.ret ?_ | refine Out.then_ret ?_ | refine Out.block_ret ?_ | refine St.exit ?_ | refine Out.then_exit ?_ | refine Out.block_exit ?_); try refine StL.run TBok 99 rfl ?_; (repeat with_reducible first | refine StL.nil ?_ | refine Out.then_normal ?_ | refine Out.block_normal ?_ | refine St.seq ?_ | refine St.block ?_ | refine St.skip ?_ | refine St.region ?_ | refine St.ret ?_ | refine Out.then_ret ?_ | refine Out.block_ret ?_ | refine St.exit ?_ | refine Out.then_exit ?_ | refine Out.block_exit ?_); try refine StL.run TBok 99 rfl ?_; (repeat with_reducible first | refine StL.nil ?_ | refine Out.then_normal ?_ | refine Out.block_normal ?_ | refine St.seq ?_ | refine St.block ?_ | refine St.skip ?_ | refine St.region ?_ | refine St.ret ?_ | refine Out.then_ret ?_ | refine Out.block_ret ?_ | refine St.exit ?_ | refine Out.then_exit ?_ | refine Out.block_exit ?_); try refine StL.run TBok 99 rfl ?_; (repeat with_reducible first | refine StL.nil ?_ | refine Out.then_normal ?_ | refine Out.block_normal ?_ | refine St.seq ?_ | refine St.block ?_ | refine St.skip ?_ | refine St.region ?_ | refine St.ret ?_ | refine Out.then_ret ?_ | refine Out.block_ret ?_ | refine St.exit ?_ | refine Out.then_exit ?_ | refine Out.block_exit ?_); try refine StL.run TBok 99 rfl ?_; (repeat with_reducible first | refine StL.nil ?_ | refine Out.then_normal ?_ | refine Out.block_normal ?_ | refine St.seq ?_ | refine St.block ?_ | refine St.skip ?_ | refine St.region ?_ | refine St.ret ?_ | refine Out.then_ret ?_ | refine Out.block_ret ?_ | refine St.exit ?_ | refine Out.then_exit ?_ | refine Out.block_exit ?_))
  refine StL.step rfl rfl rfl (OpR.pair TBok rfl rfl rfl rfl rfl) ?_
  rintro _ w1 ⟨rfl, hb, hx1, _⟩
  have e1 : IntKind.u32.wrap (m : Int) = ((m % 4294967296 : Nat) : Int) := by rw [wrap_u32]; omega
  have e2 : IntKind.u32.wrap ((m : Int) / 2 ^ 32) = ((m / 4294967296 % 4294967296 : Nat) : Int) := by rw [wrap_u32]; omega
  rw [e1, e2] at hb
  have hO : SlO w.heap.size w1 (.slice (some ⟨w.heap.size, 0, none⟩) 2 2) [m % 4294967296, m / 4294967296 % 4294967296] :=
    ⟨Blk.own hb rfl (Nat.le_refl _) (by decide), lim_two m hm⟩
  refine StL.step rfl rfl rfl (OpR.call fn_integer_trim rfl (trim_spec w1 _ _ hO.sl (by simp))) ?_
  rintro r w2 ⟨rfl, rfl, _⟩
  ((repeat with_reducible first | refine StL.nil ?_ | refine Out.then_normal ?_ | refine Out.block_normal ?_ | refine St.seq ?_ | refine St.block ?_ | refine St.skip ?_ | refine St.region ?_ | refine St.ret ?_ | refine Out.then_ret ?_ | refine Out.block_ret ?_ | refine St.exit ?_ | refine Out.then_exit ?_ | refine Out.block_exit ?_); try refine StL.run TBok 99 rfl ?_; (repeat with_reducible first | refine StL.nil ?_ | refine Out.then_normal ?_ | refine Out.block_normal ?_ | refine St.seq ?_ | refine St.block ?_ | refine St.skip ?_ | refine St.region ?_ | refine St.ret ?_ | refine Out.then_ret ?_ | refine Out.block_ret ?_ | refine St.exit ?_ | refine Out.then_exit ?_ | refine Out.block_exit ?_); try refine StL.run TBok 99 rfl ?_; (repeat with_reducible first | refine StL.nil ?_ | refine Out.then_normal ?_ | refine Out.block_normal ?_ | refine St.seq ?_ | refine St.block ?_ | refine St.skip ?_ | refine St.region ?_ | refine St.ret ?_ | refine Out.then_ret ?_ | refine Out.block_ret ?_ | refine St.exit ?_ | refine Out.then_exit ?_ | refine Out.block_exit ?_); try refine StL.run TBok 99 rfl ?_; (repeat with_reducible first | refine StL.nil ?_ | refine Out.then_normal ?_ | refine Out.block_normal ?_ | refine St.seq ?_ | refine St.block ?_ | refine St.skip ?_ | refine St.region ?_ | refine St.ret ?_ | refine Out.then_ret ?_ | refine Out.block_ret ?_ | refine St.exit ?_ | refine Out.then_exit ?_ | refine Out.block_exit ?_); try refine StL.run TBok 99 rfl ?_; (repeat with_reducible first | refine StL.nil ?_ | refine Out.then_normal ?_ | refine Out.block_normal ?_ | refine St.seq ?_ | refine St.block ?_ | refine St.skip ?_ | refine St.region ?_ | refine St.ret ?_ | refine Out.then_ret ?_ | refine Out.block_ret ?_ | refine St.exit ?_ | refine Out.then_exit ?_ | refine Out.block_exit ?_))
  refine Out.ret1 rfl rfl ⟨hx1, ?_⟩
  have := hO.trimmed
  rw [val_two m hm] at this ⊢
  exact this

theorem val_take_succ {xs : List Nat} {k x : Nat} (hx : xs[k]? = some x) : val (xs.take (k + 1)) = val (xs.take k) + x * 4294967296 ^ k := by
  have hlt : k < xs.length := (List.getElem?_eq_some_iff.1 hx).1
  rw [List.take_succ_eq_append_getElem hlt, val_append]
  have : xs[k] = x := by
    rw [List.getElem?_eq_getElem hlt] at hx
    exact Option.some.inj hx
  simp [val, this, Nat.min_eq_left (Nat.le_of_lt hlt), Nat.mul_comm]

set_option maxRecDepth 4000 in
theorem word_spec (w : World) (v : Value) (xs : List Nat) (h : Sl w v xs) (hlen : xs.length ≤ 2) :
    Calls Try.prog 63 #[v] w (Ret fun r w' => w' = w ∧ r = .int .u64 (val xs)) := by
  obtain ⟨p, cap, rfl, hcap⟩ := h.form
  refine calls_of_St (args := [_]) Try.func63 rfl Try.ntmps63 rfl ?_
  ((repeat with_reducible first | refine StL.nil ?_ | refine Out.then_normal ?_ | refine Out.block_normal ?_ | refine St.seq ?_ | refine St.block ?_ | refine St.skip ?_ | refine St.region ?_ | refine St.ret ?_ | refine Out.then_ret ?_ | refine Out.block_ret ?_ | refine St.exit ?_ | refine Out.then_exit ?_ | refine Out.block_exit ?_); try refine StL.run TBok 99 rfl ?_; (repeat with_reducible first | refine StL.nil ?_ | refine Out.then_normal ?_ | refine Out.block_normal ?_ | refine St.seq ?_ | refine St.block ?_ | refine St.skip ?_ | refine St.region ?_ | refine St.ret ?_ | refine Out.then_ret ?_ | refine Out.block_ret ?_ | refine St.exit ?_ | refine Out.then_exit ?_ | refine Out.block_exit ?_); try refine StL.run TBok 99 rfl ?_; (repeat with_reducible first | refine StL.nil ?_ | refine Out.then_normal ?_ | refine Out.block_normal ?_ | refine St.seq ?_ | refine St.block ?_ | refine St.skip ?_ | refine St.region ?_ | refine St.ret ?_ | refine Out.then_ret ?_ | refine Out.block_ret ?_ | refine St.exit ?_ | refine Out.then_exit ?_ | refine Out.block_exit ?_); try refine StL.run TBok 99 rfl ?_; (repeat with_reducible first | refine StL.nil ?_ | refine Out.then_normal ?_ | refine Out.block_normal ?_ | refine St.seq ?_ | refine St.block ?_ | refine St.skip ?_ | refine St.region ?_ | refine St.ret ?_ | refine Out.then_ret ?_ | refine Out.block_ret ?_ | refine St.exit ?_ | refine Out.then_exit ?_ | refine Out.block_exit ?_); try refine StL.run TBok 99 rfl ?_; (repeat with_reducible first | refine StL.nil ?_ | refine Out.then_normal ?_ | refine Out.block_normal ?_ | refine St.seq ?_ | refine St.block ?_ | refine St.skip ?_ | refine St.region ?_ | refine St.ret ?_ | refine Out.then_ret ?_ | refine Out.block_ret ?_ | refine St.exit ?_ | refine Out.then_exit ?_ | refine Out.block_exit ?_))
  refine St.loop (fun k : Nat => [(0, .slice p xs.length cap), (3, .int .u64 (val (xs.take k))), (6, .slice p xs.length cap), (7, .int .i64 xs.length), (8, .int .i64 k)]) (fun k w' => w' = w ∧ k ≤ xs.length) (fun k => xs.length - k) 0 ⟨rfl, rfl, rfl, rfl, rfl, trivial⟩ ⟨rfl, by omega⟩ ?_
  rintro k w' ⟨rfl, hk⟩
  by_cases hlt : k < xs.length
  · have hx : xs[k]? = some xs[k] := by simp
    generalize xs[k] = x at hx
    have hxl := h.2.get hx
    have hv := val_lt (xs.take k) (h.2.take k)
    have hv2 := val_le_two (h.2.take (k + 1)) (by simp; omega)
    have hs := val_take_succ hx
    (repeat with_reducible first | refine StL.nil ?_ | refine Out.then_normal ?_ | refine Out.block_normal ?_ | refine St.seq ?_ | refine St.block ?_ | refine St.skip ?_ | refine St.region ?_ | refine St.ret ?_ | refine Out.then_ret ?_ | refine Out.block_ret ?_ | refine St.exit ?_ | refine Out.then_exit ?_ | refine Out.block_exit ?_)
    refine StL.as TBok 1 (.bool true) rfl (bool_true (by omega)) ?_
    (repeat with_reducible first | refine StL.nil ?_ | refine Out.then_normal ?_ | refine Out.block_normal ?_ | refine St.seq ?_ | refine St.block ?_ | refine St.skip ?_ | refine St.region ?_ | refine St.ret ?_ | refine Out.then_ret ?_ | refine Out.block_ret ?_ | refine St.exit ?_ | refine Out.then_exit ?_ | refine Out.block_exit ?_)
    refine St.condT rfl rfl ?_
    ((repeat with_reducible first | refine StL.nil ?_ | refine Out.then_normal ?_ | refine Out.block_normal ?_ | refine St.seq ?_ | refine St.block ?_ | refine St.skip ?_ | refine St.region ?_ | refine St.ret ?_ | refine Out.then_ret ?_ | refine Out.block_ret ?_ | refine St.exit ?_ | refine Out.then_exit ?_ | refine Out.block_exit ?_); try refine StL.run TBok 99 rfl ?_; (repeat with_reducible first | refine StL.nil ?_ | refine Out.then_normal ?_ | refine Out.block_normal ?_ | refine St.seq ?_ | refine St.block ?_ | refine St.skip ?_ | refine St.region ?_ | refine St.ret ?_ | refine Out.then_ret ?_ | refine Out.block_ret ?_ | refine St.exit ?_ | refine Out.then_exit ?_ | refine Out.block_exit ?_); try refine StL.run TBok 99 rfl ?_; (repeat with_reducible first | refine StL.nil ?_ | refine Out.then_normal ?_ | refine Out.block_normal ?_ | refine St.seq ?_ | refine St.block ?_ | refine St.skip ?_ | refine St.region ?_ | refine St.ret ?_ | refine Out.then_ret ?_ | refine Out.block_ret ?_ | refine St.exit ?_ | refine Out.then_exit ?_ | refine Out.block_exit ?_); try refine StL.run TBok 99 rfl ?_; (repeat with_reducible first | refine StL.nil ?_ | refine Out.then_normal ?_ | refine Out.block_normal ?_ | refine St.seq ?_ | refine St.block ?_ | refine St.skip ?_ | refine St.region ?_ | refine St.ret ?_ | refine Out.then_ret ?_ | refine Out.block_ret ?_ | refine St.exit ?_ | refine Out.then_exit ?_ | refine Out.block_exit ?_); try refine StL.run TBok 99 rfl ?_; (repeat with_reducible first | refine StL.nil ?_ | refine Out.then_normal ?_ | refine Out.block_normal ?_ | refine St.seq ?_ | refine St.block ?_ | refine St.skip ?_ | refine St.region ?_ | refine St.ret ?_ | refine Out.then_ret ?_ | refine Out.block_ret ?_ | refine St.exit ?_ | refine Out.then_exit ?_ | refine Out.block_exit ?_))
    refine StL.elem TBok k (u32 x) h.1 (h.get hx) rfl rfl rfl rfl rfl rfl rfl rfl rfl rfl rfl (fun _ => rfl) ?_
    intro p1
    ((repeat with_reducible first | refine StL.nil ?_ | refine Out.then_normal ?_ | refine Out.block_normal ?_ | refine St.seq ?_ | refine St.block ?_ | refine St.skip ?_ | refine St.region ?_ | refine St.ret ?_ | refine Out.then_ret ?_ | refine Out.block_ret ?_ | refine St.exit ?_ | refine Out.then_exit ?_ | refine Out.block_exit ?_); try refine StL.run TBok 99 rfl ?_; (repeat with_reducible first | refine StL.nil ?_ | refine Out.then_normal ?_ | refine Out.block_normal ?_ | refine St.seq ?_ | refine St.block ?_ | refine St.skip ?_ | refine St.region ?_ | refine St.ret ?_ | refine Out.then_ret ?_ | refine Out.block_ret ?_ | refine St.exit ?_ | refine Out.then_exit ?_ | refine Out.block_exit ?_); try refine StL.run TBok 99 rfl ?_; (repeat with_reducible first | refine StL.nil ?_ | refine Out.then_normal ?_ | refine Out.block_normal ?_ | refine St.seq ?_ | refine St.block ?_ | refine St.skip ?_ | refine St.region ?_ | refine St.ret ?_ | refine Out.then_ret ?_ | refine Out.block_ret ?_ | refine St.exit ?_ | refine Out.then_exit ?_ | refine Out.block_exit ?_); try refine StL.run TBok 99 rfl ?_; (repeat with_reducible first | refine StL.nil ?_ | refine Out.then_normal ?_ | refine Out.block_normal ?_ | refine St.seq ?_ | refine St.block ?_ | refine St.skip ?_ | refine St.region ?_ | refine St.ret ?_ | refine Out.then_ret ?_ | refine Out.block_ret ?_ | refine St.exit ?_ | refine Out.then_exit ?_ | refine Out.block_exit ?_); try refine StL.run TBok 99 rfl ?_; (repeat with_reducible first | refine StL.nil ?_ | refine Out.then_normal ?_ | refine Out.block_normal ?_ | refine St.seq ?_ | refine St.block ?_ | refine St.skip ?_ | refine St.region ?_ | refine St.ret ?_ | refine Out.then_ret ?_ | refine Out.block_ret ?_ | refine St.exit ?_ | refine Out.then_exit ?_ | refine Out.block_exit ?_))
    refine StL.step rfl rfl rfl (RunsTo.shl (32 * k) rfl rfl (by rw [i64_id (by omega) (by omega)]; omega) (by show 32 * k ≤ 64; omega)).op ?_
    rintro _ _ ⟨rfl, rfl⟩
    have e0 : (4294967296 : Nat) ^ k = 2 ^ (32 * k) := by rw [Nat.pow_mul]
    have hlk : (xs.take k).length = k := by simp; omega
    rw [hlk, e0] at hv
    rw [e0] at hs
    have e1 : IntKind.u64.wrap (IntKind.u64.wrap (x : Int) * 2 ^ (32 * k)) = ((x * 2 ^ (32 * k) : Nat) : Int) := by
      rw [u64_id (n := (x : Int)) (by omega) (by omega), u64_id]
      · simp
      · exact Int.mul_nonneg (by omega) (Int.le_of_lt (Int.pow_pos (by decide)))
      · have : (x : Int) * 2 ^ (32 * k) = ((x * 2 ^ (32 * k) : Nat) : Int) := by simp
        omega
    rw [e1]
    refine StL.as TBok 1 (.int .u64 (val (xs.take (k + 1)))) rfl ?_ ?_
    · rw [or_u64 _ _ (by omega) (by omega), or_low _ _ _ hv, hs]
    ((repeat with_reducible first | refine StL.nil ?_ | refine Out.then_normal ?_ | refine Out.block_normal ?_ | refine St.seq ?_ | refine St.block ?_ | refine St.skip ?_ | refine St.region ?_ | refine St.ret ?_ | refine Out.then_ret ?_ | refine Out.block_ret ?_ | refine St.exit ?_ | refine Out.then_exit ?_ | refine Out.block_exit ?_); try refine StL.run TBok 99 rfl ?_; (repeat with_reducible first | refine StL.nil ?_ | refine Out.then_normal ?_ | refine Out.block_normal ?_ | refine St.seq ?_ | refine St.block ?_ | refine St.skip ?_ | refine St.region ?_ | refine St.ret ?_ | refine Out.then_ret ?_ | refine Out.block_ret ?_ | refine St.exit ?_ | refine Out.then_exit ?_ | refine Out.block_exit ?_); try refine StL.run TBok 99 rfl ?_; (repeat with_reducible first | refine StL.nil ?_ | refine Out.then_normal ?_ | refine Out.block_normal ?_ | refine St.seq ?_ | refine St.block ?_ | refine St.skip ?_ | refine St.region ?_ | refine St.ret ?_ | refine Out.then_ret ?_ | refine Out.block_ret ?_ | refine St.exit ?_ | refine Out.then_exit ?_ | refine Out.block_exit ?_); try refine StL.run TBok 99 rfl ?_; (repeat with_reducible first | refine StL.nil ?_ | refine Out.then_normal ?_ | refine Out.block_normal ?_ | refine St.seq ?_ | refine St.block ?_ | refine St.skip ?_ | refine St.region ?_ | refine St.ret ?_ | refine Out.then_ret ?_ | refine Out.block_ret ?_ | refine St.exit ?_ | refine Out.then_exit ?_ | refine Out.block_exit ?_); try refine StL.run TBok 99 rfl ?_; (repeat with_reducible first | refine StL.nil ?_ | refine Out.then_normal ?_ | refine Out.block_normal ?_ | refine St.seq ?_ | refine St.block ?_ | refine St.skip ?_ | refine St.region ?_ | refine St.ret ?_ | refine Out.then_ret ?_ | refine Out.block_ret ?_ | refine St.exit ?_ | refine Out.then_exit ?_ | refine Out.block_exit ?_))
    refine Out.again (k + 1) ⟨rfl, rfl, rfl, rfl, ?_, trivial⟩ ⟨rfl, by omega⟩ (by omega)
    show some (Value.int .i64 (IntKind.i64.wrap ((k : Int) + 1))) = _
    rw [i64_id (by omega) (by omega)]
    rfl
  · have hk' : k = xs.length := by omega
    (repeat with_reducible first | refine StL.nil ?_ | refine Out.then_normal ?_ | refine Out.block_normal ?_ | refine St.seq ?_ | refine St.block ?_ | refine St.skip ?_ | refine St.region ?_ | refine St.ret ?_ | refine Out.then_ret ?_ | refine Out.block_ret ?_ | refine St.exit ?_ | refine Out.then_exit ?_ | refine Out.block_exit ?_)
    refine StL.as TBok 1 (.bool false) rfl (bool_false (by omega)) ?_
    (repeat with_reducible first | refine StL.nil ?_ | refine Out.then_normal ?_ | refine Out.block_normal ?_ | refine St.seq ?_ | refine St.block ?_ | refine St.skip ?_ | refine St.region ?_ | refine St.ret ?_ | refine Out.then_ret ?_ | refine Out.block_ret ?_ | refine St.exit ?_ | refine Out.then_exit ?_ | refine Out.block_exit ?_)
    refine St.condF rfl rfl ?_
    ((repeat with_reducible first | refine StL.nil ?_ | refine Out.then_normal ?_ | refine Out.block_normal ?_ | refine St.seq ?_ | refine St.block ?_ | refine St.skip ?_ | refine St.region ?_ | refine St.ret ?_ | refine Out.then_ret ?_ | refine Out.block_ret ?_ | refine St.exit ?_ | refine Out.then_exit ?_ | refine Out.block_exit ?_); try refine StL.run TBok 99 rfl ?_; (repeat with_reducible first | refine StL.nil ?_ | refine Out.then_normal ?_ | refine Out.block_normal ?_ | refine St.seq ?_ | refine St.block ?_ | refine St.skip ?_ | refine St.region ?_ | refine St.ret ?_ | refine Out.then_ret ?_ | refine Out.block_ret ?_ | refine St.exit ?_ | refine Out.then_exit ?_ | refine Out.block_exit ?_); try refine StL.run TBok 99 rfl ?_; (repeat with_reducible first | refine StL.nil ?_ | refine Out.then_normal ?_ | refine Out.block_normal ?_ | refine St.seq ?_ | refine St.block ?_ | refine St.skip ?_ | refine St.region ?_ | refine St.ret ?_ | refine Out.then_ret ?_ | refine Out.block_ret ?_ | refine St.exit ?_ | refine Out.then_exit ?_ | refine Out.block_exit ?_); try refine StL.run TBok 99 rfl ?_; (repeat with_reducible first | refine StL.nil ?_ | refine Out.then_normal ?_ | refine Out.block_normal ?_ | refine St.seq ?_ | refine St.block ?_ | refine St.skip ?_ | refine St.region ?_ | refine St.ret ?_ | refine Out.then_ret ?_ | refine Out.block_ret ?_ | refine St.exit ?_ | refine Out.then_exit ?_ | refine Out.block_exit ?_); try refine StL.run TBok 99 rfl ?_; (repeat with_reducible first | refine StL.nil ?_ | refine Out.then_normal ?_ | refine Out.block_normal ?_ | refine St.seq ?_ | refine St.block ?_ | refine St.skip ?_ | refine St.region ?_ | refine St.ret ?_ | refine Out.then_ret ?_ | refine Out.block_ret ?_ | refine St.exit ?_ | refine Out.then_exit ?_ | refine Out.block_exit ?_))
    refine Out.ret1 rfl rfl ⟨rfl, ?_⟩
    rw [hk', List.take_length]

end Go.Qf
