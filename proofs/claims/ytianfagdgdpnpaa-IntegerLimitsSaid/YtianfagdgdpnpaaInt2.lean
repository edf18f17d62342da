/- integer.addSigned, Add, Sub. -/
import Derived.Test.YtianfagdgdpnpaaInt1
namespace Go.Qf
open Go Go.RowKit Go.Proofs

theorem sg_sum_same (neg : Bool) (m k : Nat) : sg neg (m + k) = sg neg m + sg neg k := by
  cases neg <;> simp [sg]; omega

theorem sg_diff (neg : Bool) (m k : Nat) (h : k ≤ m) : sg neg (m - k) = sg neg m + sg (!neg) k := by
  cases neg <;> simp [sg] <;> omega

/-- The end of a function that hands back one Int: its value has just been made. -/
theorem StL.finCan {n : Nat} {E : List (Nat × Value)} {w w0 : World} {ops : Array Oper} {Q : Exit → Act → World → Prop} {t s : Nat} {ty : TypeId} {pos : String} {af : Array Edge} {b : Nat} {C : List Value} {v : Value} {a : Int}
    (ht : look E t = some (.pointer (some ⟨b, 0, none⟩))) (hs : look E s = some v) (hb : Blk 24 w b C) (hC : C.length = 2) (hv : Can w v a) (hx : Ext w0 w) (hb0 : w0.heap.size ≤ b)
    (hQ : ∀ w', Ext w0 w' → Can w' v a → (∀ (fn : Func) (Φ : Value → World → Prop), fn.results = #[.cell t 24] → Φ v w' → Out n E w' .ret (bodyPost Try.prog fn (Ret Φ))) → Out n E w' .normal Q) :
    StL Try.prog n E w ops [⟨none, .store 24 (.tmp t) (.tmp s), ty, pos, af, none⟩] Q := by
  refine StL.retCan ht hs hb hC hv hx hb0 ?_
  intro w4 cs hcs hl hb4 hu4 hx4
  refine StL.nil (hQ w4 hx4 (Can.upd hv hu4 ⟨_, hb⟩) ?_)
  intro fn Φ hr hΦ
  exact Out.rets TBok [v] hr ⟨⟨_, _, _, _, ht, hb4, rfl, rfl, hl, hcs⟩, trivial⟩ hΦ

set_option maxRecDepth 4000 in
set_option maxHeartbeats 400000 in
theorem addSigned_spec (w : World) (na nb : Bool) (u v : Value) (m k : Nat) (h : Sl w u (limbs m)) (hk : Sl w v (limbs k)) (hlen : (limbs m).length ≤ 10000000) (hl : (limbs k).length ≤ 10000000) :
    Calls Try.prog 64 #[.bool na, u, .bool nb, v] w (Ret fun r w' => Ext w w' ∧ Can w' r (sg na m + sg nb k)) := by
  refine calls_of_St (args := [_, _, _, _]) Try.func64 rfl Try.ntmps64 rfl ?_
  (repeat with_reducible first | refine StL.nil ?_ | refine Out.then_normal ?_ | refine Out.block_normal ?_ | refine St.seq ?_ | refine St.block ?_ | refine St.skip ?_ | refine St.region ?_ | refine St.ret ?_ | refine Out.then_ret ?_ | refine Out.block_ret ?_ | refine St.exit ?_ | refine Out.then_exit ?_ | refine Out.block_exit ?_)
  refine StL.step rfl rfl rfl (OpR.alloc TBok rfl) ?_
  rintro _ w1 ⟨rfl, hb, hx1, _⟩
  have h1 := h.ext hx1
  have k1 := hk.ext hx1
  ((repeat with_reducible first | refine StL.nil ?_ | refine Out.then_normal ?_ | refine Out.block_normal ?_ | refine St.seq ?_ | refine St.block ?_ | refine St.skip ?_ | refine St.region ?_ | refine St.ret ?_ | refine Out.then_ret ?_ | refine Out.block_ret ?_ | refine St.exit ?_ | refine Out.then_exit ?_ | refine Out.block_exit ?_); try refine StL.run TBok 99 rfl ?_; (repeat with_reducible first | refine StL.nil ?_ | refine Out.then_normal ?_ | refine Out.block_normal ?_ | refine St.seq ?_ | refine St.block ?_ | refine St.skip ?_ | refine St.region ?_ | refine St.ret ?_ | refine Out.then_ret ?_ | refine Out.block_ret ?_ | refine St.exit ?_ | refine Out.then_exit ?_ | refine Out.block_exit ?_); try refine StL.run TBok 99 rfl ?_; (repeat with_reducible first | refine StL.nil ?_ | refine Out.then_normal ?_ | refine Out.block_normal ?_ | refine St.seq ?_ | refine St.block ?_ | refine St.skip ?_ | refine St.region ?_ | refine St.ret ?_ | refine Out.then_ret ?_ | refine Out.block_ret ?_ | refine St.exit ?_ | refine Out.then_exit ?_ | refine Out.block_exit ?_); try refine StL.run TBok 99 rfl ?_; (repeat with_reducible first | refine StL.nil ?_ | refine Out.then_normal ?_ | refine Out.block_normal ?_ | refine St.seq ?_ | refine St.block ?_ | refine St.skip ?_ | refine St.region ?_ | refine St.ret ?_ | refine Out.then_ret ?_ | refine Out.block_ret ?_ | refine St.exit ?_ | refine Out.then_exit ?_ | refine Out.block_exit ?_); try refine StL.run TBok 99 rfl ?_; (repeat with_reducible first | refine StL.nil ?_ | refine Out.then_normal ?_ | refine Out.block_normal ?_ | refine St.seq ?_ | refine St.block ?_ | refine St.skip ?_ | refine St.region ?_ | refine St.ret ?_ | refine Out.then_ret ?_ | refine Out.block_ret ?_ | refine St.exit ?_ | refine Out.then_exit ?_ | refine Out.block_exit ?_))
  refine StL.step rfl rfl rfl (RunsTo.boolEq TBok rfl rfl rfl).op ?_
  rintro _ _ ⟨rfl, rfl⟩
  ((repeat with_reducible first | refine StL.nil ?_ | refine Out.then_normal ?_ | refine Out.block_normal ?_ | refine St.seq ?_ | refine St.block ?_ | refine St.skip ?_ | refine St.region ?_ | refine St.ret ?_ | refine Out.then_ret ?_ | refine Out.block_ret ?_ | refine St.exit ?_ | refine Out.then_exit ?_ | refine Out.block_exit ?_); try refine StL.run TBok 99 rfl ?_; (repeat with_reducible first | refine StL.nil ?_ | refine Out.then_normal ?_ | refine Out.block_normal ?_ | refine St.seq ?_ | refine St.block ?_ | refine St.skip ?_ | refine St.region ?_ | refine St.ret ?_ | refine Out.then_ret ?_ | refine Out.block_ret ?_ | refine St.exit ?_ | refine Out.then_exit ?_ | refine Out.block_exit ?_); try refine StL.run TBok 99 rfl ?_; (repeat with_reducible first | refine StL.nil ?_ | refine Out.then_normal ?_ | refine Out.block_normal ?_ | refine St.seq ?_ | refine St.block ?_ | refine St.skip ?_ | refine St.region ?_ | refine St.ret ?_ | refine Out.then_ret ?_ | refine Out.block_ret ?_ | refine St.exit ?_ | refine Out.then_exit ?_ | refine Out.block_exit ?_); try refine StL.run TBok 99 rfl ?_; (repeat with_reducible first | refine StL.nil ?_ | refine Out.then_normal ?_ | refine Out.block_normal ?_ | refine St.seq ?_ | refine St.block ?_ | refine St.skip ?_ | refine St.region ?_ | refine St.ret ?_ | refine Out.then_ret ?_ | refine Out.block_ret ?_ | refine St.exit ?_ | refine Out.then_exit ?_ | refine Out.block_exit ?_); try refine StL.run TBok 99 rfl ?_; (repeat with_reducible first | refine StL.nil ?_ | refine Out.then_normal ?_ | refine Out.block_normal ?_ | refine St.seq ?_ | refine St.block ?_ | refine St.skip ?_ | refine St.region ?_ | refine St.ret ?_ | refine Out.then_ret ?_ | refine Out.block_ret ?_ | refine St.exit ?_ | refine Out.then_exit ?_ | refine Out.block_exit ?_))
  by_cases hs : na = nb
  · subst hs
    refine St.condT rfl (by simp) ?_
    ((repeat with_reducible first | refine StL.nil ?_ | refine Out.then_normal ?_ | refine Out.block_normal ?_ | refine St.seq ?_ | refine St.block ?_ | refine St.skip ?_ | refine St.region ?_ | refine St.ret ?_ | refine Out.then_ret ?_ | refine Out.block_ret ?_ | refine St.exit ?_ | refine Out.then_exit ?_ | refine Out.block_exit ?_); try refine StL.run TBok 99 rfl ?_; (repeat with_reducible first | refine StL.nil ?_ | refine Out.then_normal ?_ | refine Out.block_normal ?_ | refine St.seq ?_ | refine St.block ?_ | refine St.skip ?_ | refine St.region ?_ | refine St.ret ?_ | refine Out.then_ret ?_ | refine Out.block_ret ?_ | refine St.exit ?_ | refine Out.then_exit ?_ | refine Out.block_exit ?_); try refine StL.run TBok 99 rfl ?_; (repeat with_reducible first | refine StL.nil ?_ | refine Out.then_normal ?_ | refine Out.block_normal ?_ | refine St.seq ?_ | refine St.block ?_ | refine St.skip ?_ | refine St.region ?_ | refine St.ret ?_ | refine Out.then_ret ?_ | refine Out.block_ret ?_ | refine St.exit ?_ | refine Out.then_exit ?_ | refine Out.block_exit ?_); try refine StL.run TBok 99 rfl ?_; (repeat with_reducible first | refine StL.nil ?_ | refine Out.then_normal ?_ | refine Out.block_normal ?_ | refine St.seq ?_ | refine St.block ?_ | refine St.skip ?_ | refine St.region ?_ | refine St.ret ?_ | refine Out.then_ret ?_ | refine Out.block_ret ?_ | refine St.exit ?_ | refine Out.then_exit ?_ | refine Out.block_exit ?_); try refine StL.run TBok 99 rfl ?_; (repeat with_reducible first | refine StL.nil ?_ | refine Out.then_normal ?_ | refine Out.block_normal ?_ | refine St.seq ?_ | refine St.block ?_ | refine St.skip ?_ | refine St.region ?_ | refine St.ret ?_ | refine Out.then_ret ?_ | refine Out.block_ret ?_ | refine St.exit ?_ | refine Out.then_exit ?_ | refine Out.block_exit ?_))
    refine StL.step rfl rfl rfl (OpR.call fn_integer_addNat rfl (addNat_spec w1 _ _ _ _ h1 k1 (by omega) (by omega))) ?_
    rintro sl w2 ⟨hx2, hsl⟩
    rw [val_limbs, val_limbs] at hsl
    have hll := limbs_add_length m k
    refine StL.step rfl rfl rfl (OpR.call fn_integer_build rfl (build_spec' w2 na sl (m + k) hsl.sl (by omega))) ?_
    rintro r w3 ⟨hx3, hv⟩
    rw [sg_sum_same] at hv
    refine StL.finCan rfl rfl ((hb.ext hx2).ext hx3) rfl hv ((hx1.trans hx2).trans hx3) (Nat.le_refl _) ?_
    intro w' hxf hcf fin
    (repeat with_reducible first | refine StL.nil ?_ | refine Out.then_normal ?_ | refine Out.block_normal ?_ | refine St.seq ?_ | refine St.block ?_ | refine St.skip ?_ | refine St.region ?_ | refine St.ret ?_ | refine Out.then_ret ?_ | refine Out.block_ret ?_ | refine St.exit ?_ | refine Out.then_exit ?_ | refine Out.block_exit ?_)
    exact fin _ _ rfl ⟨hxf, hcf⟩
  have hnb : nb = !na := by cases na <;> cases nb <;> simp_all
  subst hnb
  refine St.condF rfl (by cases na <;> rfl) ?_
  ((repeat with_reducible first | refine StL.nil ?_ | refine Out.then_normal ?_ | refine Out.block_normal ?_ | refine St.seq ?_ | refine St.block ?_ | refine St.skip ?_ | refine St.region ?_ | refine St.ret ?_ | refine Out.then_ret ?_ | refine Out.block_ret ?_ | refine St.exit ?_ | refine Out.then_exit ?_ | refine Out.block_exit ?_); try refine StL.run TBok 99 rfl ?_; (repeat with_reducible first | refine StL.nil ?_ | refine Out.then_normal ?_ | refine Out.block_normal ?_ | refine St.seq ?_ | refine St.block ?_ | refine St.skip ?_ | refine St.region ?_ | refine St.ret ?_ | refine Out.then_ret ?_ | refine Out.block_ret ?_ | refine St.exit ?_ | refine Out.then_exit ?_ | refine Out.block_exit ?_); try refine StL.run TBok 99 rfl ?_; (repeat with_reducible first | refine StL.nil ?_ | refine Out.then_normal ?_ | refine Out.block_normal ?_ | refine St.seq ?_ | refine St.block ?_ | refine St.skip ?_ | refine St.region ?_ | refine St.ret ?_ | refine Out.then_ret ?_ | refine Out.block_ret ?_ | refine St.exit ?_ | refine Out.then_exit ?_ | refine Out.block_exit ?_); try refine StL.run TBok 99 rfl ?_; (repeat with_reducible first | refine StL.nil ?_ | refine Out.then_normal ?_ | refine Out.block_normal ?_ | refine St.seq ?_ | refine St.block ?_ | refine St.skip ?_ | refine St.region ?_ | refine St.ret ?_ | refine Out.then_ret ?_ | refine Out.block_ret ?_ | refine St.exit ?_ | refine Out.then_exit ?_ | refine Out.block_exit ?_); try refine StL.run TBok 99 rfl ?_; (repeat with_reducible first | refine StL.nil ?_ | refine Out.then_normal ?_ | refine Out.block_normal ?_ | refine St.seq ?_ | refine St.block ?_ | refine St.skip ?_ | refine St.region ?_ | refine St.ret ?_ | refine Out.then_ret ?_ | refine Out.block_ret ?_ | refine St.exit ?_ | refine Out.then_exit ?_ | refine Out.block_exit ?_))
  refine StL.step rfl rfl rfl (OpR.call fn_integer_compareNat rfl (compareNat_spec w1 _ _ m k h1 k1 (by omega) (by omega))) ?_
  rintro _ w2 ⟨hx2, rfl⟩
  have h2 := h1.ext hx2
  have k2 := k1.ext hx2
  have hb2 := hb.ext hx2
  have hx12 := hx1.trans hx2
  by_cases hge : k ≤ m
  · refine StL.as TBok 1 (.bool true) rfl (bool_true (by unfold cmpN; rw [if_neg (by omega)]; split <;> decide)) ?_
    ((repeat with_reducible first | refine StL.nil ?_ | refine Out.then_normal ?_ | refine Out.block_normal ?_ | refine St.seq ?_ | refine St.block ?_ | refine St.skip ?_ | refine St.region ?_ | refine St.ret ?_ | refine Out.then_ret ?_ | refine Out.block_ret ?_ | refine St.exit ?_ | refine Out.then_exit ?_ | refine Out.block_exit ?_); try refine StL.run TBok 99 rfl ?_; (repeat with_reducible first | refine StL.nil ?_ | refine Out.then_normal ?_ | refine Out.block_normal ?_ | refine St.seq ?_ | refine St.block ?_ | refine St.skip ?_ | refine St.region ?_ | refine St.ret ?_ | refine Out.then_ret ?_ | refine Out.block_ret ?_ | refine St.exit ?_ | refine Out.then_exit ?_ | refine Out.block_exit ?_); try refine StL.run TBok 99 rfl ?_; (repeat with_reducible first | refine StL.nil ?_ | refine Out.then_normal ?_ | refine Out.block_normal ?_ | refine St.seq ?_ | refine St.block ?_ | refine St.skip ?_ | refine St.region ?_ | refine St.ret ?_ | refine Out.then_ret ?_ | refine Out.block_ret ?_ | refine St.exit ?_ | refine Out.then_exit ?_ | refine Out.block_exit ?_); try refine StL.run TBok 99 rfl ?_; (repeat with_reducible first | refine StL.nil ?_ | refine Out.then_normal ?_ | refine Out.block_normal ?_ | refine St.seq ?_ | refine St.block ?_ | refine St.skip ?_ | refine St.region ?_ | refine St.ret ?_ | refine Out.then_ret ?_ | refine Out.block_ret ?_ | refine St.exit ?_ | refine Out.then_exit ?_ | refine Out.block_exit ?_); try refine StL.run TBok 99 rfl ?_; (repeat with_reducible first | refine StL.nil ?_ | refine Out.then_normal ?_ | refine Out.block_normal ?_ | refine St.seq ?_ | refine St.block ?_ | refine St.skip ?_ | refine St.region ?_ | refine St.ret ?_ | refine Out.then_ret ?_ | refine Out.block_ret ?_ | refine St.exit ?_ | refine Out.then_exit ?_ | refine Out.block_exit ?_))
    refine St.condT rfl rfl ?_
    ((repeat with_reducible first | refine StL.nil ?_ | refine Out.then_normal ?_ | refine Out.block_normal ?_ | refine St.seq ?_ | refine St.block ?_ | refine St.skip ?_ | refine St.region ?_ | refine St.ret ?_ | refine Out.then_ret ?_ | refine Out.block_ret ?_ | refine St.exit ?_ | refine Out.then_exit ?_ | refine Out.block_exit ?_); try refine StL.run TBok 99 rfl ?_; (repeat with_reducible first | refine StL.nil ?_ | refine Out.then_normal ?_ | refine Out.block_normal ?_ | refine St.seq ?_ | refine St.block ?_ | refine St.skip ?_ | refine St.region ?_ | refine St.ret ?_ | refine Out.then_ret ?_ | refine Out.block_ret ?_ | refine St.exit ?_ | refine Out.then_exit ?_ | refine Out.block_exit ?_); try refine StL.run TBok 99 rfl ?_; (repeat with_reducible first | refine StL.nil ?_ | refine Out.then_normal ?_ | refine Out.block_normal ?_ | refine St.seq ?_ | refine St.block ?_ | refine St.skip ?_ | refine St.region ?_ | refine St.ret ?_ | refine Out.then_ret ?_ | refine Out.block_ret ?_ | refine St.exit ?_ | refine Out.then_exit ?_ | refine Out.block_exit ?_); try refine StL.run TBok 99 rfl ?_; (repeat with_reducible first | refine StL.nil ?_ | refine Out.then_normal ?_ | refine Out.block_normal ?_ | refine St.seq ?_ | refine St.block ?_ | refine St.skip ?_ | refine St.region ?_ | refine St.ret ?_ | refine Out.then_ret ?_ | refine Out.block_ret ?_ | refine St.exit ?_ | refine Out.then_exit ?_ | refine Out.block_exit ?_); try refine StL.run TBok 99 rfl ?_; (repeat with_reducible first | refine StL.nil ?_ | refine Out.then_normal ?_ | refine Out.block_normal ?_ | refine St.seq ?_ | refine St.block ?_ | refine St.skip ?_ | refine St.region ?_ | refine St.ret ?_ | refine Out.then_ret ?_ | refine Out.block_ret ?_ | refine St.exit ?_ | refine Out.then_exit ?_ | refine Out.block_exit ?_))
    have hmono := limbs_length_mono k m hge
    refine StL.step rfl rfl rfl (OpR.call fn_integer_subNat rfl (subNat_spec w2 _ _ _ _ h2 k2 (by omega) (by omega) hmono (by rw [val_limbs, val_limbs]; exact hge))) ?_
    rintro sl w3 ⟨hx3, hsl⟩
    rw [val_limbs, val_limbs] at hsl
    have hll := limbs_length_mono (m - k) m (Nat.sub_le _ _)
    refine StL.step rfl rfl rfl (OpR.call fn_integer_build rfl (build_spec' w3 na sl (m - k) hsl.sl (by omega))) ?_
    rintro r w4 ⟨hx4, hv⟩
    rw [sg_diff _ _ _ hge] at hv
    refine StL.finCan rfl rfl ((hb2.ext hx3).ext hx4) rfl hv ((hx12.trans hx3).trans hx4) (Nat.le_refl _) ?_
    intro w' hxf hcf fin
    (repeat with_reducible first | refine StL.nil ?_ | refine Out.then_normal ?_ | refine Out.block_normal ?_ | refine St.seq ?_ | refine St.block ?_ | refine St.skip ?_ | refine St.region ?_ | refine St.ret ?_ | refine Out.then_ret ?_ | refine Out.block_ret ?_ | refine St.exit ?_ | refine Out.then_exit ?_ | refine Out.block_exit ?_)
    exact fin _ _ rfl ⟨hxf, hcf⟩
  · refine StL.as TBok 1 (.bool false) rfl (bool_false (by unfold cmpN; rw [if_pos (by omega)]; decide)) ?_
    ((repeat with_reducible first | refine StL.nil ?_ | refine Out.then_normal ?_ | refine Out.block_normal ?_ | refine St.seq ?_ | refine St.block ?_ | refine St.skip ?_ | refine St.region ?_ | refine St.ret ?_ | refine Out.then_ret ?_ | refine Out.block_ret ?_ | refine St.exit ?_ | refine Out.then_exit ?_ | refine Out.block_exit ?_); try refine StL.run TBok 99 rfl ?_; (repeat with_reducible first | refine StL.nil ?_ | refine Out.then_normal ?_ | refine Out.block_normal ?_ | refine St.seq ?_ | refine St.block ?_ | refine St.skip ?_ | refine St.region ?_ | refine St.ret ?_ | refine Out.then_ret ?_ | refine Out.block_ret ?_ | refine St.exit ?_ | refine Out.then_exit ?_ | refine Out.block_exit ?_); try refine StL.run TBok 99 rfl ?_; (repeat with_reducible first | refine StL.nil ?_ | refine Out.then_normal ?_ | refine Out.block_normal ?_ | refine St.seq ?_ | refine St.block ?_ | refine St.skip ?_ | refine St.region ?_ | refine St.ret ?_ | refine Out.then_ret ?_ | refine Out.block_ret ?_ | refine St.exit ?_ | refine Out.then_exit ?_ | refine Out.block_exit ?_); try refine StL.run TBok 99 rfl ?_; (repeat with_reducible first | refine StL.nil ?_ | refine Out.then_normal ?_ | refine Out.block_normal ?_ | refine St.seq ?_ | refine St.block ?_ | refine St.skip ?_ | refine St.region ?_ | refine St.ret ?_ | refine Out.then_ret ?_ | refine Out.block_ret ?_ | refine St.exit ?_ | refine Out.then_exit ?_ | refine Out.block_exit ?_); try refine StL.run TBok 99 rfl ?_; (repeat with_reducible first | refine StL.nil ?_ | refine Out.then_normal ?_ | refine Out.block_normal ?_ | refine St.seq ?_ | refine St.block ?_ | refine St.skip ?_ | refine St.region ?_ | refine St.ret ?_ | refine Out.then_ret ?_ | refine Out.block_ret ?_ | refine St.exit ?_ | refine Out.then_exit ?_ | refine Out.block_exit ?_))
    refine St.condF rfl rfl ?_
    ((repeat with_reducible first | refine StL.nil ?_ | refine Out.then_normal ?_ | refine Out.block_normal ?_ | refine St.seq ?_ | refine St.block ?_ | refine St.skip ?_ | refine St.region ?_ | refine St.ret ?_ | refine Out.then_ret ?_ | refine Out.block_ret ?_ | refine St.exit ?_ | refine Out.then_exit ?_ | refine Out.block_exit ?_); try refine StL.run TBok 99 rfl ?_; (repeat with_reducible first | refine StL.nil ?_ | refine Out.then_normal ?_ | refine Out.block_normal ?_ | refine St.seq ?_ | refine St.block ?_ | refine St.skip ?_ | refine St.region ?_ | refine St.ret ?_ | refine Out.then_ret ?_ | refine Out.block_ret ?_ | refine St.exit ?_ | refine Out.then_exit ?_ | refine Out.block_exit ?_); try refine StL.run TBok 99 rfl ?_; (repeat with_reducible first | refine StL.nil ?_ | refine Out.then_normal ?_ | refine Out.block_normal ?_ | refine St.seq ?_ | refine St.block ?_ | refine St.skip ?_ | refine St.region ?_ | refine St.ret ?_ | refine Out.then_ret ?_ | refine Out.block_ret ?_ | refine St.exit ?_ | refine Out.then_exit ?_ | refine Out.block_exit ?_); try refine StL.run TBok 99 rfl ?_; (repeat with_reducible first | refine StL.nil ?_ | refine Out.then_normal ?_ | refine Out.block_normal ?_ | refine St.seq ?_ | refine St.block ?_ | refine St.skip ?_ | refine St.region ?_ | refine St.ret ?_ | refine Out.then_ret ?_ | refine Out.block_ret ?_ | refine St.exit ?_ | refine Out.then_exit ?_ | refine Out.block_exit ?_); try refine StL.run TBok 99 rfl ?_; (repeat with_reducible first | refine StL.nil ?_ | refine Out.then_normal ?_ | refine Out.block_normal ?_ | refine St.seq ?_ | refine St.block ?_ | refine St.skip ?_ | refine St.region ?_ | refine St.ret ?_ | refine Out.then_ret ?_ | refine Out.block_ret ?_ | refine St.exit ?_ | refine Out.then_exit ?_ | refine Out.block_exit ?_))
    have hmono := limbs_length_mono m k (by omega)
    refine StL.step rfl rfl rfl (OpR.call fn_integer_subNat rfl (subNat_spec w2 _ _ _ _ k2 h2 (by omega) (by omega) hmono (by rw [val_limbs, val_limbs]; omega))) ?_
    rintro sl w3 ⟨hx3, hsl⟩
    rw [val_limbs, val_limbs] at hsl
    have hll := limbs_length_mono (k - m) k (Nat.sub_le _ _)
    refine StL.step rfl rfl rfl (OpR.call fn_integer_build rfl (build_spec' w3 (!na) sl (k - m) hsl.sl (by omega))) ?_
    rintro r w4 ⟨hx4, hv⟩
    rw [sg_diff _ _ _ (by omega), Bool.not_not, Int.add_comm] at hv
    refine StL.finCan rfl rfl ((hb2.ext hx3).ext hx4) rfl hv ((hx12.trans hx3).trans hx4) (Nat.le_refl _) ?_
    intro w' hxf hcf fin
    (repeat with_reducible first | refine StL.nil ?_ | refine Out.then_normal ?_ | refine Out.block_normal ?_ | refine St.seq ?_ | refine St.block ?_ | refine St.skip ?_ | refine St.region ?_ | refine St.ret ?_ | refine Out.then_ret ?_ | refine Out.block_ret ?_ | refine St.exit ?_ | refine Out.then_exit ?_ | refine Out.block_exit ?_)
    exact fin _ _ rfl ⟨hxf, hcf⟩

/-- The limbs of a struct, trimmed. -/
theorem Den.trimmed {w : World} {neg : Bool} {p : Option Addr} {cap : Nat} {xs : List Nat} (hs : Sl w (.slice p xs.length cap) xs) : Sl w (.slice p (limbs (val xs)).length cap) (limbs (val xs)) := by
  have := hs.cut (limbs (val xs)).length (limbs_length_le _ hs.2)
  rwa [← limbs_is_take hs.2] at this

theorem pointer_add0 (b : Nat) : Addr.add ⟨b, 0, none⟩ 0 = ⟨b, 0, none⟩ := rfl

set_option maxRecDepth 8000 in
set_option maxHeartbeats 400000 in
theorem add_spec (w : World) (x y : Value) (na nb : Bool) (xs ys : List Nat) (h : Den w x na xs) (k : Den w y nb ys) (hlen : xs.length ≤ 10000000) (hl : ys.length ≤ 10000000) :
    Calls Try.prog 25 #[x, y] w (Ret fun r w' => Ext w w' ∧ Can w' r (sg na (val xs) + sg nb (val ys))) := by
  obtain ⟨p, cap, rfl, hs⟩ := h
  obtain ⟨q, cb, rfl, ks⟩ := k
  refine calls_of_St (args := [_, _]) Try.func25 rfl Try.ntmps25 rfl ?_
  (repeat with_reducible first | refine StL.nil ?_ | refine Out.then_normal ?_ | refine Out.block_normal ?_ | refine St.seq ?_ | refine St.block ?_ | refine St.skip ?_ | refine St.region ?_ | refine St.ret ?_ | refine Out.then_ret ?_ | refine Out.block_ret ?_ | refine St.exit ?_ | refine Out.then_exit ?_ | refine Out.block_exit ?_)
  refine StL.step rfl rfl rfl (OpR.box rfl) ?_
  rintro _ w1 ⟨rfl, hb1, hx1, _⟩
  refine StL.step rfl rfl rfl (OpR.box rfl) ?_
  rintro _ w2 ⟨rfl, hb2, hx2, _⟩
  refine StL.step rfl rfl rfl (OpR.alloc TBok rfl) ?_
  rintro _ w3 ⟨rfl, hb3, hx3, _⟩
  have hx03 := (hx1.trans hx2).trans hx3
  have h3 := hs.ext hx03
  have k3 := ks.ext hx03
  have hba := (hb1.ext hx2).ext hx3
  have hbb := hb2.ext hx3
  have hl1 := limbs_length_le xs hs.2
  have hl2 := limbs_length_le ys ks.2
  (repeat with_reducible first | refine StL.nil ?_ | refine Out.then_normal ?_ | refine Out.block_normal ?_ | refine St.seq ?_ | refine St.block ?_ | refine St.skip ?_ | refine St.region ?_ | refine St.ret ?_ | refine Out.then_ret ?_ | refine Out.block_ret ?_ | refine St.exit ?_ | refine Out.then_exit ?_ | refine Out.block_exit ?_)
  refine St.draw 11 [(5, Is (.pointer (some ⟨w.heap.size, 0, none⟩))), (6, Is (.bool na)), (7, Is (.pointer (some ⟨w.heap.size, 1, none⟩))), (8, Is (.slice p xs.length cap)), (9, Is (.slice p (limbs (val xs)).length cap)), (10, Is (.pointer (some ⟨w1.heap.size, 0, none⟩))), (11, Is (.bool nb)), (12, Is (.pointer (some ⟨w1.heap.size, 1, none⟩))), (13, Is (.slice q ys.length cb)), (14, Is (.slice q (limbs (val ys)).length cb)), (15, fun v w' => Can w' v (sg na (val xs) + sg nb (val ys)))] TBfol (by kernel_rfl) rfl (by kernel_rfl) (by kernel_rfl)
    ⟨Is.mono _, Is.mono _, Is.mono _, Is.mono _, Is.mono _, Is.mono _, Is.mono _, Is.mono _, Is.mono _, Is.mono _, fun _ _ _ hx hv => hv.ext hx, trivial⟩ ?_ ?_
  · refine ⟨?_, ?_, ?_, ?_, ?_, ?_, ?_, ?_, ?_, ?_, ?_, trivial⟩
    · exact fun w4 hx4 => OpG.pure TBok rfl rfl rfl rfl rfl rfl
    · rintro w4 hx4 _ rfl
      exact OpG.run rfl rfl rfl rfl (RunsTo.load TBok rfl rfl rfl ((hba.ext hx4).cell rfl)) rfl
    · exact fun w4 hx4 => OpG.pure TBok rfl rfl rfl rfl rfl rfl
    · rintro w4 hx4 _ rfl
      exact OpG.run rfl rfl rfl rfl (RunsTo.load TBok rfl rfl rfl ((hba.ext hx4).cell rfl)) rfl
    · rintro w4 hx4 _ rfl
      refine OpG.call fn_integer_trim rfl rfl rfl (trim_spec w4 _ _ (h3.ext hx4) (by omega)) ?_
      rintro v w5 ⟨rfl, rfl, _⟩
      exact ⟨Ext.refl _, rfl⟩
    · exact fun w4 hx4 => OpG.pure TBok rfl rfl rfl rfl rfl rfl
    · rintro w4 hx4 _ rfl
      exact OpG.run rfl rfl rfl rfl (RunsTo.load TBok rfl rfl rfl ((hbb.ext hx4).cell rfl)) rfl
    · exact fun w4 hx4 => OpG.pure TBok rfl rfl rfl rfl rfl rfl
    · rintro w4 hx4 _ rfl
      exact OpG.run rfl rfl rfl rfl (RunsTo.load TBok rfl rfl rfl ((hbb.ext hx4).cell rfl)) rfl
    · rintro w4 hx4 _ rfl
      refine OpG.call fn_integer_trim rfl rfl rfl (trim_spec w4 _ _ (k3.ext hx4) (by omega)) ?_
      rintro v w5 ⟨rfl, rfl, _⟩
      exact ⟨Ext.refl _, rfl⟩
    · rintro w4 hx4 _ rfl _ rfl _ rfl _ rfl
      exact OpG.call fn_integer_addSigned rfl rfl rfl (addSigned_spec w4 na nb _ _ _ _ (Den.trimmed (neg := na) (h3.ext hx4)) (Den.trimmed (neg := nb) (k3.ext hx4)) (by omega) (by omega)) (fun v w' hv => hv)
  intro w4 hx4 v5 _ v6 _ v7 _ v8 _ v9 _ v10 _ v11 _ v12 _ v13 _ v14 _ v15 h15 _
  refine StL.finCan rfl rfl (hb3.ext hx4) rfl h15 (hx03.trans hx4) (hx1.trans hx2).size ?_
  intro w' hxf hcf fin
  (repeat with_reducible first | refine StL.nil ?_ | refine Out.then_normal ?_ | refine Out.block_normal ?_ | refine St.seq ?_ | refine St.block ?_ | refine St.skip ?_ | refine St.region ?_ | refine St.ret ?_ | refine Out.then_ret ?_ | refine Out.block_ret ?_ | refine St.exit ?_ | refine Out.then_exit ?_ | refine Out.block_exit ?_)
  exact fin _ _ rfl ⟨hxf, hcf⟩

set_option maxRecDepth 8000 in
set_option maxHeartbeats 400000 in
theorem sub_spec (w : World) (x y : Value) (na nb : Bool) (xs ys : List Nat) (h : Den w x na xs) (k : Den w y nb ys) (hlen : xs.length ≤ 10000000) (hl : ys.length ≤ 10000000) :
    Calls Try.prog 26 #[x, y] w (Ret fun r w' => Ext w w' ∧ Can w' r (sg na (val xs) + sg (!nb) (val ys))) := by
  obtain ⟨p, cap, rfl, hs⟩ := h
  obtain ⟨q, cb, rfl, ks⟩ := k
  refine calls_of_St (args := [_, _]) Try.func26 rfl Try.ntmps26 rfl ?_
  (repeat with_reducible first | refine StL.nil ?_ | refine Out.then_normal ?_ | refine Out.block_normal ?_ | refine St.seq ?_ | refine St.block ?_ | refine St.skip ?_ | refine St.region ?_ | refine St.ret ?_ | refine Out.then_ret ?_ | refine Out.block_ret ?_ | refine St.exit ?_ | refine Out.then_exit ?_ | refine Out.block_exit ?_)
  refine StL.step rfl rfl rfl (OpR.box rfl) ?_
  rintro _ w1 ⟨rfl, hb1, hx1, _⟩
  refine StL.step rfl rfl rfl (OpR.box rfl) ?_
  rintro _ w2 ⟨rfl, hb2, hx2, _⟩
  refine StL.step rfl rfl rfl (OpR.alloc TBok rfl) ?_
  rintro _ w3 ⟨rfl, hb3, hx3, _⟩
  have hx03 := (hx1.trans hx2).trans hx3
  have h3 := hs.ext hx03
  have k3 := ks.ext hx03
  have hba := (hb1.ext hx2).ext hx3
  have hbb := hb2.ext hx3
  have hl1 := limbs_length_le xs hs.2
  have hl2 := limbs_length_le ys ks.2
  (repeat with_reducible first | refine StL.nil ?_ | refine Out.then_normal ?_ | refine Out.block_normal ?_ | refine St.seq ?_ | refine St.block ?_ | refine St.skip ?_ | refine St.region ?_ | refine St.ret ?_ | refine Out.then_ret ?_ | refine Out.block_ret ?_ | refine St.exit ?_ | refine Out.then_exit ?_ | refine Out.block_exit ?_)
  refine St.draw 12 [(5, Is (.pointer (some ⟨w.heap.size, 0, none⟩))), (6, Is (.bool na)), (7, Is (.pointer (some ⟨w.heap.size, 1, none⟩))), (8, Is (.slice p xs.length cap)), (9, Is (.slice p (limbs (val xs)).length cap)), (10, Is (.pointer (some ⟨w1.heap.size, 0, none⟩))), (11, Is (.bool nb)), (12, Is (.bool (!nb))), (13, Is (.pointer (some ⟨w1.heap.size, 1, none⟩))), (14, Is (.slice q ys.length cb)), (15, Is (.slice q (limbs (val ys)).length cb)), (16, fun v w' => Can w' v (sg na (val xs) + sg (!nb) (val ys)))] TBfol (by kernel_rfl) rfl (by kernel_rfl) (by kernel_rfl)
    ⟨Is.mono _, Is.mono _, Is.mono _, Is.mono _, Is.mono _, Is.mono _, Is.mono _, Is.mono _, Is.mono _, Is.mono _, Is.mono _, fun _ _ _ hx hv => hv.ext hx, trivial⟩ ?_ ?_
  · refine ⟨?_, ?_, ?_, ?_, ?_, ?_, ?_, ?_, ?_, ?_, ?_, ?_, trivial⟩
    · exact fun w4 hx4 => OpG.pure TBok rfl rfl rfl rfl rfl rfl
    · rintro w4 hx4 _ rfl
      exact OpG.run rfl rfl rfl rfl (RunsTo.load TBok rfl rfl rfl ((hba.ext hx4).cell rfl)) rfl
    · exact fun w4 hx4 => OpG.pure TBok rfl rfl rfl rfl rfl rfl
    · rintro w4 hx4 _ rfl
      exact OpG.run rfl rfl rfl rfl (RunsTo.load TBok rfl rfl rfl ((hba.ext hx4).cell rfl)) rfl
    · rintro w4 hx4 _ rfl
      refine OpG.call fn_integer_trim rfl rfl rfl (trim_spec w4 _ _ (h3.ext hx4) (by omega)) ?_
      rintro v w5 ⟨rfl, rfl, _⟩
      exact ⟨Ext.refl _, rfl⟩
    · exact fun w4 hx4 => OpG.pure TBok rfl rfl rfl rfl rfl rfl
    · rintro w4 hx4 _ rfl
      exact OpG.run rfl rfl rfl rfl (RunsTo.load TBok rfl rfl rfl ((hbb.ext hx4).cell rfl)) rfl
    · rintro w4 hx4 _ rfl
      exact OpG.pure TBok rfl rfl rfl rfl rfl rfl
    · exact fun w4 hx4 => OpG.pure TBok rfl rfl rfl rfl rfl rfl
    · rintro w4 hx4 _ rfl
      exact OpG.run rfl rfl rfl rfl (RunsTo.load TBok rfl rfl rfl ((hbb.ext hx4).cell rfl)) rfl
    · rintro w4 hx4 _ rfl
      refine OpG.call fn_integer_trim rfl rfl rfl (trim_spec w4 _ _ (k3.ext hx4) (by omega)) ?_
      rintro v w5 ⟨rfl, rfl, _⟩
      exact ⟨Ext.refl _, rfl⟩
    · rintro w4 hx4 _ rfl _ rfl _ rfl _ rfl
      exact OpG.call fn_integer_addSigned rfl rfl rfl (addSigned_spec w4 na (!nb) _ _ _ _ (Den.trimmed (neg := na) (h3.ext hx4)) (Den.trimmed (neg := nb) (k3.ext hx4)) (by omega) (by omega)) (fun v w' hv => hv)
  intro w4 hx4 v5 _ v6 _ v7 _ v8 _ v9 _ v10 _ v11 _ v12 _ v13 _ v14 _ v15 _ v16 h16 _
  refine StL.finCan rfl rfl (hb3.ext hx4) rfl h16 (hx03.trans hx4) (hx1.trans hx2).size ?_
  intro w' hxf hcf fin
  (repeat with_reducible first | refine StL.nil ?_ | refine Out.then_normal ?_ | refine Out.block_normal ?_ | refine St.seq ?_ | refine St.block ?_ | refine St.skip ?_ | refine St.region ?_ | refine St.ret ?_ | refine Out.then_ret ?_ | refine Out.block_ret ?_ | refine St.exit ?_ | refine Out.then_exit ?_ | refine Out.block_exit ?_)
  exact fin _ _ rfl ⟨hxf, hcf⟩

theorem sg_not (neg : Bool) (m : Nat) : sg (!neg) m = - sg neg m := by
  cases neg <;> simp [sg]

/-- An Int out of its variable. -/
theorem RunsTo.loadInt {n : Nat} {E : List (Nat × Value)} {w : World} {d : Option Tmp} {x : Operand} {ty : TypeId} {pos : String} {af : Array Edge} {g : Option (Nat × Bool)} {b : Nat} {cs : List Value} {v : Value} (hx : ov E x = some (.pointer (some ⟨b, 0, none⟩))) (hb : Blk 24 w b cs) (hl : cs.length = 2) (hv : v = .agg cs.toArray) :
    RunsTo Try.prog n ⟨d, .load 24 x, ty, pos, af, g⟩ E w v := by
  subst hv
  refine RunsTo.loadAgg TBok rfl rfl hx hb (by rw [hl]; exact Nat.le_refl 2) ?_
  rw [List.drop_zero]
  exact List.take_of_length_le (by rw [hl]; exact Nat.le_refl 2)

end Go.Qf
