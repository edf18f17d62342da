/- integer.divNat. -/
import Derived.Test.YtianfagdgdpnpaaNat9
import Derived.Test.YtianfagdgdpnpaaMath4
namespace Go.Qf
open Go Go.RowKit Go.Proofs

theorem SlO.opened {base : Nat} {w : World} {v : Value} {xs : List Nat} (h : SlO base w v xs) (hne : xs ≠ []) : ∃ g cap D, v = .slice (some ⟨g, 0, none⟩) xs.length cap ∧ base ≤ g ∧ Blk 41 w g ([] ++ (xs.map u32 ++ D)) ∧ cap = xs.length + D.length ∧ cap ≤ maxLen := by
  obtain ⟨⟨_, h2⟩, _⟩ := h
  rcases h2 with ⟨_, h0⟩ | ⟨g, cap, cur, hv, hg, hh, hn, hm, hs, ht⟩
  · simp at h0; exact absurd h0 hne
  · simp only [List.length_map, Nat.mul_one] at hv hn hs ht
    refine ⟨g, cap, cur.toList.drop xs.length, hv, hg, ?_, ?_, hm⟩
    · unfold Blk
      rw [hh, List.nil_append, ← ht]
      simp
    · simp; omega

theorem SlO.closed {base : Nat} {w : World} {us : List Nat} {g cap len : Nat} {D : List Value} (hb : Blk 41 w g ([] ++ (us.map u32 ++ D))) (hl : Lim us) (hlen : len = us.length) (hg : base ≤ g) (hcap : cap = us.length + D.length) (hm : cap ≤ maxLen) : SlO base w (.slice (some ⟨g, 0, none⟩) len cap) us := by
  refine ⟨⟨by simp, .inr ⟨g, cap, (us.map u32 ++ D).toArray, ?_, hg, ?_, ?_, hm, ?_, ?_⟩⟩, hl⟩
  · simp [hlen]
  · simpa [Blk] using hb
  · simp; omega
  · simp; omega
  · simp

theorem limbs_last_ne {c i x : Nat} (hx : (limbs c)[i]? = some x) (hi : (limbs c).length = i + 1) : x ≠ 0 := by
  intro e
  subst e
  have hsp : val (limbs c) = val ((limbs c).take i) := by
    have := val_take_succ hx
    rw [List.take_of_length_le (by omega)] at this
    simpa using this
  have h1 := limbs_length_le ((limbs c).take i) ((lim_limbs c).take i)
  rw [← hsp, val_limbs] at h1
  simp at h1
  omega

theorem val_drop_le (xs : List Nat) (k : Nat) : val xs = val (xs.take k) + 4294967296 ^ (min k xs.length) * val (xs.drop k) := val_split xs k

set_option maxRecDepth 8000 in
set_option maxHeartbeats 4000000 in
theorem divNat_spec (w : World) (u v : Value) (a c : Nat) (h : Sl w u (limbs a)) (k : Sl w v (limbs c)) (hlen : (limbs a).length ≤ 10000000) (hl : (limbs c).length ≤ 10000000) (hc0 : c ≠ 0) :
    Calls Try.prog 69 #[u, v] w (Ret fun r w' => Ext w w' ∧ ∃ q rm, r = .tuple #[q, rm] ∧ SlO w.heap.size w' q (limbs (a / c)) ∧ SlO w.heap.size w' rm (limbs (a % c))) := by
  have hval : val (limbs a) = a := val_limbs a
  have hvalc : val (limbs c) = c := val_limbs c
  have hcne : limbs c ≠ [] := fun e => hc0 (limbs_eq_nil.1 e)
  have hcl : 0 < (limbs c).length := List.length_pos_iff.2 hcne
  obtain ⟨p, ca, rfl, _⟩ := h.form
  obtain ⟨q, cb, rfl, _⟩ := k.form
  refine calls_of_St (args := [_, _]) Try.func69 rfl Try.ntmps69 rfl ?_
  ((repeat with_reducible first | refine StL.nil ?_ | refine Out.then_normal ?_ | refine Out.block_normal ?_ | refine St.seq ?_ | refine St.block ?_ | refine St.skip ?_ | refine St.region ?_ | refine St.ret ?_ | refine Out.then_ret ?_ | refine Out.block_ret ?_ | refine St.exit ?_ | refine Out.then_exit ?_ | refine Out.block_exit ?_); try refine StL.run TBok 99 rfl ?_; (repeat with_reducible first | refine StL.nil ?_ | refine Out.then_normal ?_ | refine Out.block_normal ?_ | refine St.seq ?_ | refine St.block ?_ | refine St.skip ?_ | refine St.region ?_ | refine St.ret ?_ | refine Out.then_ret ?_ | refine Out.block_ret ?_ | refine St.exit ?_ | refine Out.then_exit ?_ | refine Out.block_exit ?_); try refine StL.run TBok 99 rfl ?_; (repeat with_reducible first | refine StL.nil ?_ | refine Out.then_normal ?_ | refine Out.block_normal ?_ | refine St.seq ?_ | refine St.block ?_ | refine St.skip ?_ | refine St.region ?_ | refine St.ret ?_ | refine Out.then_ret ?_ | refine Out.block_ret ?_ | refine St.exit ?_ | refine Out.then_exit ?_ | refine Out.block_exit ?_); try refine StL.run TBok 99 rfl ?_; (repeat with_reducible first | refine StL.nil ?_ | refine Out.then_normal ?_ | refine Out.block_normal ?_ | refine St.seq ?_ | refine St.block ?_ | refine St.skip ?_ | refine St.region ?_ | refine St.ret ?_ | refine Out.then_ret ?_ | refine Out.block_ret ?_ | refine St.exit ?_ | refine Out.then_exit ?_ | refine Out.block_exit ?_); try refine StL.run TBok 99 rfl ?_; (repeat with_reducible first | refine StL.nil ?_ | refine Out.then_normal ?_ | refine Out.block_normal ?_ | refine St.seq ?_ | refine St.block ?_ | refine St.skip ?_ | refine St.region ?_ | refine St.ret ?_ | refine Out.then_ret ?_ | refine Out.block_ret ?_ | refine St.exit ?_ | refine Out.then_exit ?_ | refine Out.block_exit ?_))
  refine StL.step rfl rfl rfl (OpR.call fn_integer_compareNat rfl (compareNat_spec w _ _ a c h k (by omega) (by omega))) ?_
  rintro _ w1 ⟨hx1, rfl⟩
  have h1 := h.ext hx1
  have k1 := k.ext hx1
  by_cases hac : a < c
  · refine StL.as TBok 1 (.bool true) rfl (bool_true (by simp [cmpN, hac])) ?_
    ((repeat with_reducible first | refine StL.nil ?_ | refine Out.then_normal ?_ | refine Out.block_normal ?_ | refine St.seq ?_ | refine St.block ?_ | refine St.skip ?_ | refine St.region ?_ | refine St.ret ?_ | refine Out.then_ret ?_ | refine Out.block_ret ?_ | refine St.exit ?_ | refine Out.then_exit ?_ | refine Out.block_exit ?_); try refine StL.run TBok 99 rfl ?_; (repeat with_reducible first | refine StL.nil ?_ | refine Out.then_normal ?_ | refine Out.block_normal ?_ | refine St.seq ?_ | refine St.block ?_ | refine St.skip ?_ | refine St.region ?_ | refine St.ret ?_ | refine Out.then_ret ?_ | refine Out.block_ret ?_ | refine St.exit ?_ | refine Out.then_exit ?_ | refine Out.block_exit ?_); try refine StL.run TBok 99 rfl ?_; (repeat with_reducible first | refine StL.nil ?_ | refine Out.then_normal ?_ | refine Out.block_normal ?_ | refine St.seq ?_ | refine St.block ?_ | refine St.skip ?_ | refine St.region ?_ | refine St.ret ?_ | refine Out.then_ret ?_ | refine Out.block_ret ?_ | refine St.exit ?_ | refine Out.then_exit ?_ | refine Out.block_exit ?_); try refine StL.run TBok 99 rfl ?_; (repeat with_reducible first | refine StL.nil ?_ | refine Out.then_normal ?_ | refine Out.block_normal ?_ | refine St.seq ?_ | refine St.block ?_ | refine St.skip ?_ | refine St.region ?_ | refine St.ret ?_ | refine Out.then_ret ?_ | refine Out.block_ret ?_ | refine St.exit ?_ | refine Out.then_exit ?_ | refine Out.block_exit ?_); try refine StL.run TBok 99 rfl ?_; (repeat with_reducible first | refine StL.nil ?_ | refine Out.then_normal ?_ | refine Out.block_normal ?_ | refine St.seq ?_ | refine St.block ?_ | refine St.skip ?_ | refine St.region ?_ | refine St.ret ?_ | refine Out.then_ret ?_ | refine Out.block_ret ?_ | refine St.exit ?_ | refine Out.then_exit ?_ | refine Out.block_exit ?_))
    refine St.condT rfl rfl ?_
    ((repeat with_reducible first | refine StL.nil ?_ | refine Out.then_normal ?_ | refine Out.block_normal ?_ | refine St.seq ?_ | refine St.block ?_ | refine St.skip ?_ | refine St.region ?_ | refine St.ret ?_ | refine Out.then_ret ?_ | refine Out.block_ret ?_ | refine St.exit ?_ | refine Out.then_exit ?_ | refine Out.block_exit ?_); try refine StL.run TBok 99 rfl ?_; (repeat with_reducible first | refine StL.nil ?_ | refine Out.then_normal ?_ | refine Out.block_normal ?_ | refine St.seq ?_ | refine St.block ?_ | refine St.skip ?_ | refine St.region ?_ | refine St.ret ?_ | refine Out.then_ret ?_ | refine Out.block_ret ?_ | refine St.exit ?_ | refine Out.then_exit ?_ | refine Out.block_exit ?_); try refine StL.run TBok 99 rfl ?_; (repeat with_reducible first | refine StL.nil ?_ | refine Out.then_normal ?_ | refine Out.block_normal ?_ | refine St.seq ?_ | refine St.block ?_ | refine St.skip ?_ | refine St.region ?_ | refine St.ret ?_ | refine Out.then_ret ?_ | refine Out.block_ret ?_ | refine St.exit ?_ | refine Out.then_exit ?_ | refine Out.block_exit ?_); try refine StL.run TBok 99 rfl ?_; (repeat with_reducible first | refine StL.nil ?_ | refine Out.then_normal ?_ | refine Out.block_normal ?_ | refine St.seq ?_ | refine St.block ?_ | refine St.skip ?_ | refine St.region ?_ | refine St.ret ?_ | refine Out.then_ret ?_ | refine Out.block_ret ?_ | refine St.exit ?_ | refine Out.then_exit ?_ | refine Out.block_exit ?_); try refine StL.run TBok 99 rfl ?_; (repeat with_reducible first | refine StL.nil ?_ | refine Out.then_normal ?_ | refine Out.block_normal ?_ | refine St.seq ?_ | refine St.block ?_ | refine St.skip ?_ | refine St.region ?_ | refine St.ret ?_ | refine Out.then_ret ?_ | refine Out.block_ret ?_ | refine St.exit ?_ | refine Out.then_exit ?_ | refine Out.block_exit ?_))
    refine StL.step rfl rfl rfl (OpR.call fn_slices_Clone_uint32_uint32 rfl (clone_spec w1 _ _ h1 (by omega))) ?_
    rintro r w2 ⟨hx2, hr⟩
    ((repeat with_reducible first | refine StL.nil ?_ | refine Out.then_normal ?_ | refine Out.block_normal ?_ | refine St.seq ?_ | refine St.block ?_ | refine St.skip ?_ | refine St.region ?_ | refine St.ret ?_ | refine Out.then_ret ?_ | refine Out.block_ret ?_ | refine St.exit ?_ | refine Out.then_exit ?_ | refine Out.block_exit ?_); try refine StL.run TBok 99 rfl ?_; (repeat with_reducible first | refine StL.nil ?_ | refine Out.then_normal ?_ | refine Out.block_normal ?_ | refine St.seq ?_ | refine St.block ?_ | refine St.skip ?_ | refine St.region ?_ | refine St.ret ?_ | refine Out.then_ret ?_ | refine Out.block_ret ?_ | refine St.exit ?_ | refine Out.then_exit ?_ | refine Out.block_exit ?_); try refine StL.run TBok 99 rfl ?_; (repeat with_reducible first | refine StL.nil ?_ | refine Out.then_normal ?_ | refine Out.block_normal ?_ | refine St.seq ?_ | refine St.block ?_ | refine St.skip ?_ | refine St.region ?_ | refine St.ret ?_ | refine Out.then_ret ?_ | refine Out.block_ret ?_ | refine St.exit ?_ | refine Out.then_exit ?_ | refine Out.block_exit ?_); try refine StL.run TBok 99 rfl ?_; (repeat with_reducible first | refine StL.nil ?_ | refine Out.then_normal ?_ | refine Out.block_normal ?_ | refine St.seq ?_ | refine St.block ?_ | refine St.skip ?_ | refine St.region ?_ | refine St.ret ?_ | refine Out.then_ret ?_ | refine Out.block_ret ?_ | refine St.exit ?_ | refine Out.then_exit ?_ | refine Out.block_exit ?_); try refine StL.run TBok 99 rfl ?_; (repeat with_reducible first | refine StL.nil ?_ | refine Out.then_normal ?_ | refine Out.block_normal ?_ | refine St.seq ?_ | refine St.block ?_ | refine St.skip ?_ | refine St.region ?_ | refine St.ret ?_ | refine Out.then_ret ?_ | refine Out.block_ret ?_ | refine St.exit ?_ | refine Out.then_exit ?_ | refine Out.block_exit ?_))
    refine Out.ret2 rfl rfl rfl ⟨hx1.trans hx2, _, _, rfl, ?_, ?_⟩
    · rw [Nat.div_eq_of_lt hac]; exact SlO.nil _ _
    · rw [Nat.mod_eq_of_lt hac]; exact hr.mono hx1.size
  refine StL.as TBok 1 (.bool false) rfl (bool_false (by unfold cmpN; rw [if_neg hac]; split <;> decide)) ?_
  have hll : (limbs c).length ≤ (limbs a).length := limbs_length_mono c a (by omega)
  ((repeat with_reducible first | refine StL.nil ?_ | refine Out.then_normal ?_ | refine Out.block_normal ?_ | refine St.seq ?_ | refine St.block ?_ | refine St.skip ?_ | refine St.region ?_ | refine St.ret ?_ | refine Out.then_ret ?_ | refine Out.block_ret ?_ | refine St.exit ?_ | refine Out.then_exit ?_ | refine Out.block_exit ?_); try refine StL.run TBok 99 rfl ?_; (repeat with_reducible first | refine StL.nil ?_ | refine Out.then_normal ?_ | refine Out.block_normal ?_ | refine St.seq ?_ | refine St.block ?_ | refine St.skip ?_ | refine St.region ?_ | refine St.ret ?_ | refine Out.then_ret ?_ | refine Out.block_ret ?_ | refine St.exit ?_ | refine Out.then_exit ?_ | refine Out.block_exit ?_); try refine StL.run TBok 99 rfl ?_; (repeat with_reducible first | refine StL.nil ?_ | refine Out.then_normal ?_ | refine Out.block_normal ?_ | refine St.seq ?_ | refine St.block ?_ | refine St.skip ?_ | refine St.region ?_ | refine St.ret ?_ | refine Out.then_ret ?_ | refine Out.block_ret ?_ | refine St.exit ?_ | refine Out.then_exit ?_ | refine Out.block_exit ?_); try refine StL.run TBok 99 rfl ?_; (repeat with_reducible first | refine StL.nil ?_ | refine Out.then_normal ?_ | refine Out.block_normal ?_ | refine St.seq ?_ | refine St.block ?_ | refine St.skip ?_ | refine St.region ?_ | refine St.ret ?_ | refine Out.then_ret ?_ | refine Out.block_ret ?_ | refine St.exit ?_ | refine Out.then_exit ?_ | refine Out.block_exit ?_); try refine StL.run TBok 99 rfl ?_; (repeat with_reducible first | refine StL.nil ?_ | refine Out.then_normal ?_ | refine Out.block_normal ?_ | refine St.seq ?_ | refine St.block ?_ | refine St.skip ?_ | refine St.region ?_ | refine St.ret ?_ | refine Out.then_ret ?_ | refine Out.block_ret ?_ | refine St.exit ?_ | refine Out.then_exit ?_ | refine Out.block_exit ?_))
  refine St.condF rfl rfl ?_
  ((repeat with_reducible first | refine StL.nil ?_ | refine Out.then_normal ?_ | refine Out.block_normal ?_ | refine St.seq ?_ | refine St.block ?_ | refine St.skip ?_ | refine St.region ?_ | refine St.ret ?_ | refine Out.then_ret ?_ | refine Out.block_ret ?_ | refine St.exit ?_ | refine Out.then_exit ?_ | refine Out.block_exit ?_); try refine StL.run TBok 99 rfl ?_; (repeat with_reducible first | refine StL.nil ?_ | refine Out.then_normal ?_ | refine Out.block_normal ?_ | refine St.seq ?_ | refine St.block ?_ | refine St.skip ?_ | refine St.region ?_ | refine St.ret ?_ | refine Out.then_ret ?_ | refine Out.block_ret ?_ | refine St.exit ?_ | refine Out.then_exit ?_ | refine Out.block_exit ?_); try refine StL.run TBok 99 rfl ?_; (repeat with_reducible first | refine StL.nil ?_ | refine Out.then_normal ?_ | refine Out.block_normal ?_ | refine St.seq ?_ | refine St.block ?_ | refine St.skip ?_ | refine St.region ?_ | refine St.ret ?_ | refine Out.then_ret ?_ | refine Out.block_ret ?_ | refine St.exit ?_ | refine Out.then_exit ?_ | refine Out.block_exit ?_); try refine StL.run TBok 99 rfl ?_; (repeat with_reducible first | refine StL.nil ?_ | refine Out.then_normal ?_ | refine Out.block_normal ?_ | refine St.seq ?_ | refine St.block ?_ | refine St.skip ?_ | refine St.region ?_ | refine St.ret ?_ | refine Out.then_ret ?_ | refine Out.block_ret ?_ | refine St.exit ?_ | refine Out.then_exit ?_ | refine Out.block_exit ?_); try refine StL.run TBok 99 rfl ?_; (repeat with_reducible first | refine StL.nil ?_ | refine Out.then_normal ?_ | refine Out.block_normal ?_ | refine St.seq ?_ | refine St.block ?_ | refine St.skip ?_ | refine St.region ?_ | refine St.ret ?_ | refine Out.then_ret ?_ | refine Out.block_ret ?_ | refine St.exit ?_ | refine Out.then_exit ?_ | refine Out.block_exit ?_))
  by_cases hw2 : (limbs a).length ≤ 2
  · -- two words
    have ha64 : a < 18446744073709551616 := by rw [← hval]; exact val_le_two h.2 hw2
    have hc64 : c < 18446744073709551616 := by rw [← hvalc]; exact val_le_two k.2 (by omega)
    refine St.condT rfl (by simp; omega) ?_
    ((repeat with_reducible first | refine StL.nil ?_ | refine Out.then_normal ?_ | refine Out.block_normal ?_ | refine St.seq ?_ | refine St.block ?_ | refine St.skip ?_ | refine St.region ?_ | refine St.ret ?_ | refine Out.then_ret ?_ | refine Out.block_ret ?_ | refine St.exit ?_ | refine Out.then_exit ?_ | refine Out.block_exit ?_); try refine StL.run TBok 99 rfl ?_; (repeat with_reducible first | refine StL.nil ?_ | refine Out.then_normal ?_ | refine Out.block_normal ?_ | refine St.seq ?_ | refine St.block ?_ | refine St.skip ?_ | refine St.region ?_ | refine St.ret ?_ | refine Out.then_ret ?_ | refine Out.block_ret ?_ | refine St.exit ?_ | refine Out.then_exit ?_ | refine Out.block_exit ?_); try refine StL.run TBok 99 rfl ?_; (repeat with_reducible first | refine StL.nil ?_ | refine Out.then_normal ?_ | refine Out.block_normal ?_ | refine St.seq ?_ | refine St.block ?_ | refine St.skip ?_ | refine St.region ?_ | refine St.ret ?_ | refine Out.then_ret ?_ | refine Out.block_ret ?_ | refine St.exit ?_ | refine Out.then_exit ?_ | refine Out.block_exit ?_); try refine StL.run TBok 99 rfl ?_; (repeat with_reducible first | refine StL.nil ?_ | refine Out.then_normal ?_ | refine Out.block_normal ?_ | refine St.seq ?_ | refine St.block ?_ | refine St.skip ?_ | refine St.region ?_ | refine St.ret ?_ | refine Out.then_ret ?_ | refine Out.block_ret ?_ | refine St.exit ?_ | refine Out.then_exit ?_ | refine Out.block_exit ?_); try refine StL.run TBok 99 rfl ?_; (repeat with_reducible first | refine StL.nil ?_ | refine Out.then_normal ?_ | refine Out.block_normal ?_ | refine St.seq ?_ | refine St.block ?_ | refine St.skip ?_ | refine St.region ?_ | refine St.ret ?_ | refine Out.then_ret ?_ | refine Out.block_ret ?_ | refine St.exit ?_ | refine Out.then_exit ?_ | refine Out.block_exit ?_))
    refine StL.step rfl rfl rfl (OpR.call fn_integer_word rfl (word_spec w1 _ _ h1 hw2)) ?_
    rintro r w2 ⟨rfl, rfl⟩
    refine StL.run TBok 99 rfl ?_
    refine StL.step rfl rfl rfl (OpR.call fn_integer_word rfl (word_spec _ _ _ k1 (by omega))) ?_
    rintro r w2 ⟨rfl, rfl⟩
    rw [hval, hvalc]
    refine StL.run TBok 99 rfl ?_
    (repeat with_reducible first | refine StL.nil ?_ | refine Out.then_normal ?_ | refine Out.block_normal ?_ | refine St.seq ?_ | refine St.block ?_ | refine St.skip ?_ | refine St.region ?_ | refine St.ret ?_ | refine Out.then_ret ?_ | refine Out.block_ret ?_ | refine St.exit ?_ | refine Out.then_exit ?_ | refine Out.block_exit ?_)
    have hqi : (a : Int) / (c : Int) = ((a / c : Nat) : Int) := by simp
    have hmi : (a : Int) % (c : Int) = ((a % c : Nat) : Int) := by simp
    have hq64 : a / c < 18446744073709551616 := Nat.lt_of_le_of_lt (Nat.div_le_self _ _) ha64
    have hm64 : a % c < 18446744073709551616 := Nat.lt_of_le_of_lt (Nat.mod_le _ _) ha64
    generalize hqd : a / c = qq at *
    generalize hmd : a % c = mm at *
    refine St.draw 8 [(28, Is (.int .u64 a)), (29, Is (.int .u64 c)), (30, Is (.int .u64 qq)), (31, fun v w' => SlO w.heap.size w' v (limbs qq)), (32, Is (.int .u64 a)), (33, Is (.int .u64 c)), (34, Is (.int .u64 mm)), (35, fun v w' => SlO w.heap.size w' v (limbs mm))] TBfol (by kernel_rfl) rfl (by kernel_rfl) (by kernel_rfl)
      ⟨Is.mono _, Is.mono _, Is.mono _, fun _ _ _ hx hv => hv.ext hx, Is.mono _, Is.mono _, Is.mono _, fun _ _ _ hx hv => hv.ext hx, trivial⟩ ?_ ?_
    · refine ⟨?_, ?_, ?_, ?_, ?_, ?_, ?_, ?_, trivial⟩
      · exact fun w3 hx3 => OpG.pure TBok rfl rfl rfl rfl rfl rfl
      · exact fun w3 hx3 => OpG.pure TBok rfl rfl rfl rfl rfl rfl
      · rintro w3 hx3 _ rfl _ rfl
        exact OpG.run rfl rfl rfl rfl (RunsTo.quo rfl rfl (by omega) (by omega)) (by rw [hqi, u64_id (by omega) (by omega)]; rfl)
      · rintro w3 hx3 _ rfl
        refine OpG.call fn_integer_fromWord rfl rfl rfl (fromWord_spec w3 qq hq64) ?_
        rintro v w4 ⟨hx4, hv4⟩
        exact ⟨hx4, hv4.mono (Nat.le_trans hx1.size hx3.size)⟩
      · exact fun w3 hx3 => OpG.pure TBok rfl rfl rfl rfl rfl rfl
      · exact fun w3 hx3 => OpG.pure TBok rfl rfl rfl rfl rfl rfl
      · rintro w3 hx3 _ rfl _ rfl
        exact OpG.run rfl rfl rfl rfl (RunsTo.rem rfl rfl (by omega) (by omega)) (by rw [hmi]; rfl)
      · rintro w3 hx3 _ rfl
        refine OpG.call fn_integer_fromWord rfl rfl rfl (fromWord_spec w3 mm hm64) ?_
        rintro v w4 ⟨hx4, hv4⟩
        exact ⟨hx4, hv4.mono (Nat.le_trans hx1.size hx3.size)⟩
    rintro w3 hx3 _ _ _ _ _ _ v31 h31 _ _ _ _ _ _ v35 h35 _
    refine StL.run TBok 99 rfl ?_
    ((repeat with_reducible first | refine StL.nil ?_ | refine Out.then_normal ?_ | refine Out.block_normal ?_ | refine St.seq ?_ | refine St.block ?_ | refine St.skip ?_ | refine St.region ?_ | refine St.ret ?_ | refine Out.then_ret ?_ | refine Out.block_ret ?_ | refine St.exit ?_ | refine Out.then_exit ?_ | refine Out.block_exit ?_); try refine StL.run TBok 99 rfl ?_; (repeat with_reducible first | refine StL.nil ?_ | refine Out.then_normal ?_ | refine Out.block_normal ?_ | refine St.seq ?_ | refine St.block ?_ | refine St.skip ?_ | refine St.region ?_ | refine St.ret ?_ | refine Out.then_ret ?_ | refine Out.block_ret ?_ | refine St.exit ?_ | refine Out.then_exit ?_ | refine Out.block_exit ?_); try refine StL.run TBok 99 rfl ?_; (repeat with_reducible first | refine StL.nil ?_ | refine Out.then_normal ?_ | refine Out.block_normal ?_ | refine St.seq ?_ | refine St.block ?_ | refine St.skip ?_ | refine St.region ?_ | refine St.ret ?_ | refine Out.then_ret ?_ | refine Out.block_ret ?_ | refine St.exit ?_ | refine Out.then_exit ?_ | refine Out.block_exit ?_); try refine StL.run TBok 99 rfl ?_; (repeat with_reducible first | refine StL.nil ?_ | refine Out.then_normal ?_ | refine Out.block_normal ?_ | refine St.seq ?_ | refine St.block ?_ | refine St.skip ?_ | refine St.region ?_ | refine St.ret ?_ | refine Out.then_ret ?_ | refine Out.block_ret ?_ | refine St.exit ?_ | refine Out.then_exit ?_ | refine Out.block_exit ?_); try refine StL.run TBok 99 rfl ?_; (repeat with_reducible first | refine StL.nil ?_ | refine Out.then_normal ?_ | refine Out.block_normal ?_ | refine St.seq ?_ | refine St.block ?_ | refine St.skip ?_ | refine St.region ?_ | refine St.ret ?_ | refine Out.then_ret ?_ | refine Out.block_ret ?_ | refine St.exit ?_ | refine Out.then_exit ?_ | refine Out.block_exit ?_))
    exact Out.ret2 rfl rfl rfl ⟨hx1.trans hx3, _, _, rfl, h31, h35⟩
  refine St.condF rfl (by simp; omega) ?_
  ((repeat with_reducible first | refine StL.nil ?_ | refine Out.then_normal ?_ | refine Out.block_normal ?_ | refine St.seq ?_ | refine St.block ?_ | refine St.skip ?_ | refine St.region ?_ | refine St.ret ?_ | refine Out.then_ret ?_ | refine Out.block_ret ?_ | refine St.exit ?_ | refine Out.then_exit ?_ | refine Out.block_exit ?_); try refine StL.run TBok 99 rfl ?_; (repeat with_reducible first | refine StL.nil ?_ | refine Out.then_normal ?_ | refine Out.block_normal ?_ | refine St.seq ?_ | refine St.block ?_ | refine St.skip ?_ | refine St.region ?_ | refine St.ret ?_ | refine Out.then_ret ?_ | refine Out.block_ret ?_ | refine St.exit ?_ | refine Out.then_exit ?_ | refine Out.block_exit ?_); try refine StL.run TBok 99 rfl ?_; (repeat with_reducible first | refine StL.nil ?_ | refine Out.then_normal ?_ | refine Out.block_normal ?_ | refine St.seq ?_ | refine St.block ?_ | refine St.skip ?_ | refine St.region ?_ | refine St.ret ?_ | refine Out.then_ret ?_ | refine Out.block_ret ?_ | refine St.exit ?_ | refine Out.then_exit ?_ | refine Out.block_exit ?_); try refine StL.run TBok 99 rfl ?_; (repeat with_reducible first | refine StL.nil ?_ | refine Out.then_normal ?_ | refine Out.block_normal ?_ | refine St.seq ?_ | refine St.block ?_ | refine St.skip ?_ | refine St.region ?_ | refine St.ret ?_ | refine Out.then_ret ?_ | refine Out.block_ret ?_ | refine St.exit ?_ | refine Out.then_exit ?_ | refine Out.block_exit ?_); try refine StL.run TBok 99 rfl ?_; (repeat with_reducible first | refine StL.nil ?_ | refine Out.then_normal ?_ | refine Out.block_normal ?_ | refine St.seq ?_ | refine St.block ?_ | refine St.skip ?_ | refine St.region ?_ | refine St.ret ?_ | refine Out.then_ret ?_ | refine Out.block_ret ?_ | refine St.exit ?_ | refine Out.then_exit ?_ | refine Out.block_exit ?_))
  by_cases hn1 : (limbs c).length = 1
  · -- one limb
    refine St.condT rfl (by simp; omega) ?_
    ((repeat with_reducible first | refine StL.nil ?_ | refine Out.then_normal ?_ | refine Out.block_normal ?_ | refine St.seq ?_ | refine St.block ?_ | refine St.skip ?_ | refine St.region ?_ | refine St.ret ?_ | refine Out.then_ret ?_ | refine Out.block_ret ?_ | refine St.exit ?_ | refine Out.then_exit ?_ | refine Out.block_exit ?_); try refine StL.run TBok 99 rfl ?_; (repeat with_reducible first | refine StL.nil ?_ | refine Out.then_normal ?_ | refine Out.block_normal ?_ | refine St.seq ?_ | refine St.block ?_ | refine St.skip ?_ | refine St.region ?_ | refine St.ret ?_ | refine Out.then_ret ?_ | refine Out.block_ret ?_ | refine St.exit ?_ | refine Out.then_exit ?_ | refine Out.block_exit ?_); try refine StL.run TBok 99 rfl ?_; (repeat with_reducible first | refine StL.nil ?_ | refine Out.then_normal ?_ | refine Out.block_normal ?_ | refine St.seq ?_ | refine St.block ?_ | refine St.skip ?_ | refine St.region ?_ | refine St.ret ?_ | refine Out.then_ret ?_ | refine Out.block_ret ?_ | refine St.exit ?_ | refine Out.then_exit ?_ | refine Out.block_exit ?_); try refine StL.run TBok 99 rfl ?_; (repeat with_reducible first | refine StL.nil ?_ | refine Out.then_normal ?_ | refine Out.block_normal ?_ | refine St.seq ?_ | refine St.block ?_ | refine St.skip ?_ | refine St.region ?_ | refine St.ret ?_ | refine Out.then_ret ?_ | refine Out.block_ret ?_ | refine St.exit ?_ | refine Out.then_exit ?_ | refine Out.block_exit ?_); try refine StL.run TBok 99 rfl ?_; (repeat with_reducible first | refine StL.nil ?_ | refine Out.then_normal ?_ | refine Out.block_normal ?_ | refine St.seq ?_ | refine St.block ?_ | refine St.skip ?_ | refine St.region ?_ | refine St.ret ?_ | refine Out.then_ret ?_ | refine Out.block_ret ?_ | refine St.exit ?_ | refine Out.then_exit ?_ | refine Out.block_exit ?_))
    have hane : limbs a ≠ [] := fun e => by rw [e] at hw2; simp at hw2
    refine StL.step rfl rfl rfl (OpR.call fn_slices_Clone_uint32_uint32 rfl (clone_spec w1 _ _ h1 (by omega))) ?_
    rintro r w2 ⟨hx2, hr⟩
    have k2 := k1.ext hx2
    obtain ⟨g, cap, D, rfl, hg, hb2, hcap, hcapm⟩ := hr.opened hane
    have hcx : (limbs c)[0]? = some (limbs c)[0] := by simp
    generalize (limbs c)[0] = x at hcx
    have hcv : c = x := hvalc.symm.trans (val_one hn1 hcx)
    subst hcv
    have hxl := k.2.get hcx
    ((repeat with_reducible first | refine StL.nil ?_ | refine Out.then_normal ?_ | refine Out.block_normal ?_ | refine St.seq ?_ | refine St.block ?_ | refine St.skip ?_ | refine St.region ?_ | refine St.ret ?_ | refine Out.then_ret ?_ | refine Out.block_ret ?_ | refine St.exit ?_ | refine Out.then_exit ?_ | refine Out.block_exit ?_); try refine StL.run TBok 99 rfl ?_; (repeat with_reducible first | refine StL.nil ?_ | refine Out.then_normal ?_ | refine Out.block_normal ?_ | refine St.seq ?_ | refine St.block ?_ | refine St.skip ?_ | refine St.region ?_ | refine St.ret ?_ | refine Out.then_ret ?_ | refine Out.block_ret ?_ | refine St.exit ?_ | refine Out.then_exit ?_ | refine Out.block_exit ?_); try refine StL.run TBok 99 rfl ?_; (repeat with_reducible first | refine StL.nil ?_ | refine Out.then_normal ?_ | refine Out.block_normal ?_ | refine St.seq ?_ | refine St.block ?_ | refine St.skip ?_ | refine St.region ?_ | refine St.ret ?_ | refine Out.then_ret ?_ | refine Out.block_ret ?_ | refine St.exit ?_ | refine Out.then_exit ?_ | refine Out.block_exit ?_); try refine StL.run TBok 99 rfl ?_; (repeat with_reducible first | refine StL.nil ?_ | refine Out.then_normal ?_ | refine Out.block_normal ?_ | refine St.seq ?_ | refine St.block ?_ | refine St.skip ?_ | refine St.region ?_ | refine St.ret ?_ | refine Out.then_ret ?_ | refine Out.block_ret ?_ | refine St.exit ?_ | refine Out.then_exit ?_ | refine Out.block_exit ?_); try refine StL.run TBok 99 rfl ?_; (repeat with_reducible first | refine StL.nil ?_ | refine Out.then_normal ?_ | refine Out.block_normal ?_ | refine St.seq ?_ | refine St.block ?_ | refine St.skip ?_ | refine St.region ?_ | refine St.ret ?_ | refine Out.then_ret ?_ | refine Out.block_ret ?_ | refine St.exit ?_ | refine Out.then_exit ?_ | refine Out.block_exit ?_))
    refine StL.elem TBok 0 (u32 c) k2.1 (k2.get hcx) rfl rfl rfl rfl rfl rfl rfl rfl rfl rfl rfl (fun _ => rfl) ?_
    intro p1
    refine StL.run TBok 99 rfl ?_
    refine StL.step rfl rfl rfl (OpR.call fn_integer_divideByLimb rfl (divideByLimb_spec w2 g 0 cap c [] D (limbs a) hb2 rfl h.2 (by omega) (by omega) hxl)) ?_
    rintro _ w3 ⟨rfl, hu3, us, husl, huslim, husv, hb3⟩
    rw [hval]
    rw [hval] at husv
    have hmb : a % c < 4294967296 := Nat.lt_trans (Nat.mod_lt _ (by omega)) hxl
    have hx12 : Ext w w2 := hx1.trans hx2
    have hx3 : Ext w w3 := hx12.then_upd hu3 (Nat.le_trans hx1.size hg)
    have hO : SlO w.heap.size w3 (.slice (some ⟨g, 0, none⟩) (limbs a).length cap) us := SlO.closed hb3 huslim husl.symm (Nat.le_trans hx1.size hg) (by omega) hcapm
    ((repeat with_reducible first | refine StL.nil ?_ | refine Out.then_normal ?_ | refine Out.block_normal ?_ | refine St.seq ?_ | refine St.block ?_ | refine St.skip ?_ | refine St.region ?_ | refine St.ret ?_ | refine Out.then_ret ?_ | refine Out.block_ret ?_ | refine St.exit ?_ | refine Out.then_exit ?_ | refine Out.block_exit ?_); try refine StL.run TBok 99 rfl ?_; (repeat with_reducible first | refine StL.nil ?_ | refine Out.then_normal ?_ | refine Out.block_normal ?_ | refine St.seq ?_ | refine St.block ?_ | refine St.skip ?_ | refine St.region ?_ | refine St.ret ?_ | refine Out.then_ret ?_ | refine Out.block_ret ?_ | refine St.exit ?_ | refine Out.then_exit ?_ | refine Out.block_exit ?_); try refine StL.run TBok 99 rfl ?_; (repeat with_reducible first | refine StL.nil ?_ | refine Out.then_normal ?_ | refine Out.block_normal ?_ | refine St.seq ?_ | refine St.block ?_ | refine St.skip ?_ | refine St.region ?_ | refine St.ret ?_ | refine Out.then_ret ?_ | refine Out.block_ret ?_ | refine St.exit ?_ | refine Out.then_exit ?_ | refine Out.block_exit ?_); try refine StL.run TBok 99 rfl ?_; (repeat with_reducible first | refine StL.nil ?_ | refine Out.then_normal ?_ | refine Out.block_normal ?_ | refine St.seq ?_ | refine St.block ?_ | refine St.skip ?_ | refine St.region ?_ | refine St.ret ?_ | refine Out.then_ret ?_ | refine Out.block_ret ?_ | refine St.exit ?_ | refine Out.then_exit ?_ | refine Out.block_exit ?_); try refine StL.run TBok 99 rfl ?_; (repeat with_reducible first | refine StL.nil ?_ | refine Out.then_normal ?_ | refine Out.block_normal ?_ | refine St.seq ?_ | refine St.block ?_ | refine St.skip ?_ | refine St.region ?_ | refine St.ret ?_ | refine Out.then_ret ?_ | refine Out.block_ret ?_ | refine St.exit ?_ | refine Out.then_exit ?_ | refine Out.block_exit ?_))
    refine StL.step rfl rfl rfl (OpR.call fn_integer_trim rfl (trim_spec w3 _ _ hO.sl (by omega))) ?_
    rintro _ w4 ⟨rfl, rfl, _⟩
    have hOt := hO.trimmed
    rw [husv] at hOt ⊢
    generalize hmd : a % c = mm at *
    refine StL.as TBok 2 (.int .u64 (mm : Int)) rfl (by rw [u64_id (by omega) (by omega)]) ?_
    refine StL.step rfl rfl rfl (OpR.call fn_integer_fromWord rfl (fromWord_spec _ mm (by omega))) ?_
    rintro rr w5 ⟨hx5, hr5⟩
    ((repeat with_reducible first | refine StL.nil ?_ | refine Out.then_normal ?_ | refine Out.block_normal ?_ | refine St.seq ?_ | refine St.block ?_ | refine St.skip ?_ | refine St.region ?_ | refine St.ret ?_ | refine Out.then_ret ?_ | refine Out.block_ret ?_ | refine St.exit ?_ | refine Out.then_exit ?_ | refine Out.block_exit ?_); try refine StL.run TBok 99 rfl ?_; (repeat with_reducible first | refine StL.nil ?_ | refine Out.then_normal ?_ | refine Out.block_normal ?_ | refine St.seq ?_ | refine St.block ?_ | refine St.skip ?_ | refine St.region ?_ | refine St.ret ?_ | refine Out.then_ret ?_ | refine Out.block_ret ?_ | refine St.exit ?_ | refine Out.then_exit ?_ | refine Out.block_exit ?_); try refine StL.run TBok 99 rfl ?_; (repeat with_reducible first | refine StL.nil ?_ | refine Out.then_normal ?_ | refine Out.block_normal ?_ | refine St.seq ?_ | refine St.block ?_ | refine St.skip ?_ | refine St.region ?_ | refine St.ret ?_ | refine Out.then_ret ?_ | refine Out.block_ret ?_ | refine St.exit ?_ | refine Out.then_exit ?_ | refine Out.block_exit ?_); try refine StL.run TBok 99 rfl ?_; (repeat with_reducible first | refine StL.nil ?_ | refine Out.then_normal ?_ | refine Out.block_normal ?_ | refine St.seq ?_ | refine St.block ?_ | refine St.skip ?_ | refine St.region ?_ | refine St.ret ?_ | refine Out.then_ret ?_ | refine Out.block_ret ?_ | refine St.exit ?_ | refine Out.then_exit ?_ | refine Out.block_exit ?_); try refine StL.run TBok 99 rfl ?_; (repeat with_reducible first | refine StL.nil ?_ | refine Out.then_normal ?_ | refine Out.block_normal ?_ | refine St.seq ?_ | refine St.block ?_ | refine St.skip ?_ | refine St.region ?_ | refine St.ret ?_ | refine Out.then_ret ?_ | refine Out.block_ret ?_ | refine St.exit ?_ | refine Out.then_exit ?_ | refine Out.block_exit ?_))
    exact Out.ret2 rfl rfl rfl ⟨hx3.trans hx5, _, _, rfl, hOt.ext hx5, hr5.mono hx3.size⟩
  refine St.condF rfl (by simp; omega) ?_
  -- long division
  obtain ⟨m, hm⟩ : ∃ m, (limbs c).length = m + 2 := ⟨(limbs c).length - 2, by omega⟩
  obtain ⟨t, ht⟩ : ∃ t, (limbs a).length = m + 2 + t := ⟨(limbs a).length - (m + 2), by omega⟩
  have htop : (limbs c)[m + 1]? = some (limbs c)[m + 1] := by simp
  generalize (limbs c)[m + 1] = tp at htop
  have htpl := k.2.get htop
  have htp0 : tp ≠ 0 := limbs_last_ne htop (by omega)
  ((repeat with_reducible first | refine StL.nil ?_ | refine Out.then_normal ?_ | refine Out.block_normal ?_ | refine St.seq ?_ | refine St.block ?_ | refine St.skip ?_ | refine St.region ?_ | refine St.ret ?_ | refine Out.then_ret ?_ | refine Out.block_ret ?_ | refine St.exit ?_ | refine Out.then_exit ?_ | refine Out.block_exit ?_); try refine StL.run TBok 99 rfl ?_; (repeat with_reducible first | refine StL.nil ?_ | refine Out.then_normal ?_ | refine Out.block_normal ?_ | refine St.seq ?_ | refine St.block ?_ | refine St.skip ?_ | refine St.region ?_ | refine St.ret ?_ | refine Out.then_ret ?_ | refine Out.block_ret ?_ | refine St.exit ?_ | refine Out.then_exit ?_ | refine Out.block_exit ?_); try refine StL.run TBok 99 rfl ?_; (repeat with_reducible first | refine StL.nil ?_ | refine Out.then_normal ?_ | refine Out.block_normal ?_ | refine St.seq ?_ | refine St.block ?_ | refine St.skip ?_ | refine St.region ?_ | refine St.ret ?_ | refine Out.then_ret ?_ | refine Out.block_ret ?_ | refine St.exit ?_ | refine Out.then_exit ?_ | refine Out.block_exit ?_); try refine StL.run TBok 99 rfl ?_; (repeat with_reducible first | refine StL.nil ?_ | refine Out.then_normal ?_ | refine Out.block_normal ?_ | refine St.seq ?_ | refine St.block ?_ | refine St.skip ?_ | refine St.region ?_ | refine St.ret ?_ | refine Out.then_ret ?_ | refine Out.block_ret ?_ | refine St.exit ?_ | refine Out.then_exit ?_ | refine Out.block_exit ?_); try refine StL.run TBok 99 rfl ?_; (repeat with_reducible first | refine StL.nil ?_ | refine Out.then_normal ?_ | refine Out.block_normal ?_ | refine St.seq ?_ | refine St.block ?_ | refine St.skip ?_ | refine St.region ?_ | refine St.ret ?_ | refine Out.then_ret ?_ | refine Out.block_ret ?_ | refine St.exit ?_ | refine Out.then_exit ?_ | refine Out.block_exit ?_))
  refine StL.elem TBok (m + 1) (u32 tp) k1.1 (k1.get htop) (by rw [hm, i64_id (by omega) (by omega)]; omega) rfl rfl rfl rfl rfl rfl rfl rfl rfl rfl (fun _ => rfl) ?_
  intro p1
  refine StL.step rfl rfl rfl (OpR.call fn_math_bits_LeadingZeros32 rfl (lz32_spec w1 tp htp0 htpl)) ?_
  rintro _ w2 ⟨rfl, s, rfl, hs, hs1, hs2⟩
  ((repeat with_reducible first | refine StL.nil ?_ | refine Out.then_normal ?_ | refine Out.block_normal ?_ | refine St.seq ?_ | refine St.block ?_ | refine St.skip ?_ | refine St.region ?_ | refine St.ret ?_ | refine Out.then_ret ?_ | refine Out.block_ret ?_ | refine St.exit ?_ | refine Out.then_exit ?_ | refine Out.block_exit ?_); try refine StL.run TBok 99 rfl ?_; (repeat with_reducible first | refine StL.nil ?_ | refine Out.then_normal ?_ | refine Out.block_normal ?_ | refine St.seq ?_ | refine St.block ?_ | refine St.skip ?_ | refine St.region ?_ | refine St.ret ?_ | refine Out.then_ret ?_ | refine Out.block_ret ?_ | refine St.exit ?_ | refine Out.then_exit ?_ | refine Out.block_exit ?_); try refine StL.run TBok 99 rfl ?_; (repeat with_reducible first | refine StL.nil ?_ | refine Out.then_normal ?_ | refine Out.block_normal ?_ | refine St.seq ?_ | refine St.block ?_ | refine St.skip ?_ | refine St.region ?_ | refine St.ret ?_ | refine Out.then_ret ?_ | refine Out.block_ret ?_ | refine St.exit ?_ | refine Out.then_exit ?_ | refine Out.block_exit ?_); try refine StL.run TBok 99 rfl ?_; (repeat with_reducible first | refine StL.nil ?_ | refine Out.then_normal ?_ | refine Out.block_normal ?_ | refine St.seq ?_ | refine St.block ?_ | refine St.skip ?_ | refine St.region ?_ | refine St.ret ?_ | refine Out.then_ret ?_ | refine Out.block_ret ?_ | refine St.exit ?_ | refine Out.then_exit ?_ | refine Out.block_exit ?_); try refine StL.run TBok 99 rfl ?_; (repeat with_reducible first | refine StL.nil ?_ | refine Out.then_normal ?_ | refine Out.block_normal ?_ | refine St.seq ?_ | refine St.block ?_ | refine St.skip ?_ | refine St.region ?_ | refine St.ret ?_ | refine Out.then_ret ?_ | refine Out.block_ret ?_ | refine St.exit ?_ | refine Out.then_exit ?_ | refine Out.block_exit ?_))
  refine StL.step rfl rfl rfl (OpR.call fn_integer_shiftLeft rfl (shiftLeft_spec _ _ s _ k1 (by omega) hs)) ?_
  rintro _ w3 ⟨hx3, rfl, ds, hdsl, hdslim, hdsv, hbd⟩
  rw [hvalc] at hdsv
  refine StL.run TBok 99 rfl ?_
  refine StL.step rfl rfl rfl (RunsTo.sliceHi TBok rfl rfl rfl rfl (by omega) (by omega)).op ?_
  rintro _ _ ⟨rfl, rfl⟩
  rw [Int.toNat_natCast]
  have h3 := h1.ext hx3
  ((repeat with_reducible first | refine StL.nil ?_ | refine Out.then_normal ?_ | refine Out.block_normal ?_ | refine St.seq ?_ | refine St.block ?_ | refine St.skip ?_ | refine St.region ?_ | refine St.ret ?_ | refine Out.then_ret ?_ | refine Out.block_ret ?_ | refine St.exit ?_ | refine Out.then_exit ?_ | refine Out.block_exit ?_); try refine StL.run TBok 99 rfl ?_; (repeat with_reducible first | refine StL.nil ?_ | refine Out.then_normal ?_ | refine Out.block_normal ?_ | refine St.seq ?_ | refine St.block ?_ | refine St.skip ?_ | refine St.region ?_ | refine St.ret ?_ | refine Out.then_ret ?_ | refine Out.block_ret ?_ | refine St.exit ?_ | refine Out.then_exit ?_ | refine Out.block_exit ?_); try refine StL.run TBok 99 rfl ?_; (repeat with_reducible first | refine StL.nil ?_ | refine Out.then_normal ?_ | refine Out.block_normal ?_ | refine St.seq ?_ | refine St.block ?_ | refine St.skip ?_ | refine St.region ?_ | refine St.ret ?_ | refine Out.then_ret ?_ | refine Out.block_ret ?_ | refine St.exit ?_ | refine Out.then_exit ?_ | refine Out.block_exit ?_); try refine StL.run TBok 99 rfl ?_; (repeat with_reducible first | refine StL.nil ?_ | refine Out.then_normal ?_ | refine Out.block_normal ?_ | refine St.seq ?_ | refine St.block ?_ | refine St.skip ?_ | refine St.region ?_ | refine St.ret ?_ | refine Out.then_ret ?_ | refine Out.block_ret ?_ | refine St.exit ?_ | refine Out.then_exit ?_ | refine Out.block_exit ?_); try refine StL.run TBok 99 rfl ?_; (repeat with_reducible first | refine StL.nil ?_ | refine Out.then_normal ?_ | refine Out.block_normal ?_ | refine St.seq ?_ | refine St.block ?_ | refine St.skip ?_ | refine St.region ?_ | refine St.ret ?_ | refine Out.then_ret ?_ | refine Out.block_ret ?_ | refine St.exit ?_ | refine Out.then_exit ?_ | refine Out.block_exit ?_))
  refine StL.step rfl rfl rfl (OpR.call fn_integer_shiftLeft rfl (shiftLeft_spec _ _ s _ h3 (by omega) hs)) ?_
  rintro _ w4 ⟨hx4, rfl, rs0, hrsl, hrslim, hrsv, hbr⟩
  rw [hval] at hrsv
  ((repeat with_reducible first | refine StL.nil ?_ | refine Out.then_normal ?_ | refine Out.block_normal ?_ | refine St.seq ?_ | refine St.block ?_ | refine St.skip ?_ | refine St.region ?_ | refine St.ret ?_ | refine Out.then_ret ?_ | refine Out.block_ret ?_ | refine St.exit ?_ | refine Out.then_exit ?_ | refine Out.block_exit ?_); try refine StL.run TBok 99 rfl ?_; (repeat with_reducible first | refine StL.nil ?_ | refine Out.then_normal ?_ | refine Out.block_normal ?_ | refine St.seq ?_ | refine St.block ?_ | refine St.skip ?_ | refine St.region ?_ | refine St.ret ?_ | refine Out.then_ret ?_ | refine Out.block_ret ?_ | refine St.exit ?_ | refine Out.then_exit ?_ | refine Out.block_exit ?_); try refine StL.run TBok 99 rfl ?_; (repeat with_reducible first | refine StL.nil ?_ | refine Out.then_normal ?_ | refine Out.block_normal ?_ | refine St.seq ?_ | refine St.block ?_ | refine St.skip ?_ | refine St.region ?_ | refine St.ret ?_ | refine Out.then_ret ?_ | refine Out.block_ret ?_ | refine St.exit ?_ | refine Out.then_exit ?_ | refine Out.block_exit ?_); try refine StL.run TBok 99 rfl ?_; (repeat with_reducible first | refine StL.nil ?_ | refine Out.then_normal ?_ | refine Out.block_normal ?_ | refine St.seq ?_ | refine St.block ?_ | refine St.skip ?_ | refine St.region ?_ | refine St.ret ?_ | refine Out.then_ret ?_ | refine Out.block_ret ?_ | refine St.exit ?_ | refine Out.then_exit ?_ | refine Out.block_exit ?_); try refine StL.run TBok 99 rfl ?_; (repeat with_reducible first | refine StL.nil ?_ | refine Out.then_normal ?_ | refine Out.block_normal ?_ | refine St.seq ?_ | refine St.block ?_ | refine St.skip ?_ | refine St.region ?_ | refine St.ret ?_ | refine Out.then_ret ?_ | refine Out.block_ret ?_ | refine St.exit ?_ | refine Out.then_exit ?_ | refine Out.block_exit ?_))
  have eq1 : IntKind.i64.wrap (IntKind.i64.wrap (((limbs a).length : Int) - ((limbs c).length : Int)) + 1) = ((t + 1 : Nat) : Int) := by
    rw [i64_id (n := ((limbs a).length : Int) - ((limbs c).length : Int)) (by omega) (by omega), i64_id (by omega) (by omega)]; omega
  have eq0 : IntKind.i64.wrap (((limbs a).length : Int) - ((limbs c).length : Int)) = (t : Int) := by
    rw [i64_id (by omega) (by omega)]; omega
  refine StL.step rfl rfl rfl (OpR.make TBok (t + 1) rfl rfl rfl rfl rfl eq1 rfl eq1 (by simp; omega) (by omega)) ?_
  rintro _ w5 ⟨rfl, hbq, hx5, _⟩
  rw [hm] at hdsl
  obtain ⟨hvsv, hVlt, hVge, v1, hv1, hv1ge⟩ := norm_facts hm htop hs hs1 hs2 hdsl hdslim hdsv
  have hsz2 : w2.heap.size < w3.heap.size := hbd.lt
  have hsz3 : w3.heap.size < w4.heap.size := hbr.lt
  have hx04 : Ext w w4 := (hx1.trans hx3).trans hx4
  have hx05 : Ext w w5 := hx04.trans hx5
  have halt := val_lt (limbs a) (lim_limbs a)
  rw [hval, ht] at halt
  have hfirst := first_below halt hs hVge (by omega) hrsv
  have hV0 : 0 < c * 2 ^ s := Nat.mul_pos (by omega) (Nat.pow_pos (by decide))
  generalize hVd : c * 2 ^ s = V at *
  ((repeat with_reducible first | refine StL.nil ?_ | refine Out.then_normal ?_ | refine Out.block_normal ?_ | refine St.seq ?_ | refine St.block ?_ | refine St.skip ?_ | refine St.region ?_ | refine St.ret ?_ | refine Out.then_ret ?_ | refine Out.block_ret ?_ | refine St.exit ?_ | refine Out.then_exit ?_ | refine Out.block_exit ?_); try refine StL.run TBok 99 rfl ?_; (repeat with_reducible first | refine StL.nil ?_ | refine Out.then_normal ?_ | refine Out.block_normal ?_ | refine St.seq ?_ | refine St.block ?_ | refine St.skip ?_ | refine St.region ?_ | refine St.ret ?_ | refine Out.then_ret ?_ | refine Out.block_ret ?_ | refine St.exit ?_ | refine Out.then_exit ?_ | refine Out.block_exit ?_); try refine StL.run TBok 99 rfl ?_; (repeat with_reducible first | refine StL.nil ?_ | refine Out.then_normal ?_ | refine Out.block_normal ?_ | refine St.seq ?_ | refine St.block ?_ | refine St.skip ?_ | refine St.region ?_ | refine St.ret ?_ | refine Out.then_ret ?_ | refine Out.block_ret ?_ | refine St.exit ?_ | refine Out.then_exit ?_ | refine Out.block_exit ?_); try refine StL.run TBok 99 rfl ?_; (repeat with_reducible first | refine StL.nil ?_ | refine Out.then_normal ?_ | refine Out.block_normal ?_ | refine St.seq ?_ | refine St.block ?_ | refine St.skip ?_ | refine St.region ?_ | refine St.ret ?_ | refine Out.then_ret ?_ | refine Out.block_ret ?_ | refine St.exit ?_ | refine Out.then_exit ?_ | refine Out.block_exit ?_); try refine StL.run TBok 99 rfl ?_; (repeat with_reducible first | refine StL.nil ?_ | refine Out.then_normal ?_ | refine Out.block_normal ?_ | refine St.seq ?_ | refine St.block ?_ | refine St.skip ?_ | refine St.region ?_ | refine St.ret ?_ | refine Out.then_ret ?_ | refine Out.block_ret ?_ | refine St.exit ?_ | refine Out.then_exit ?_ | refine Out.block_exit ?_))
  refine St.loop (fun g : Nat × List Nat × List Nat => [(1, .slice q (limbs c).length cb), (4, .slice (some ⟨w4.heap.size, 0, none⟩) (t + 1) (t + 1)), (9, .int .i64 s), (10, .slice (some ⟨w2.heap.size, 0, none⟩) (limbs c).length ((limbs c).length + 1)), (11, .slice (some ⟨w3.heap.size, 0, none⟩) ((limbs a).length + 1) ((limbs a).length + 1)), (12, .int .i64 ((g.1 : Int) - 1))])
    (fun g w' => Ext w w' ∧ Blk 41 w' w3.heap.size (g.2.1.map u32) ∧ g.2.1.length = t + m + 3 ∧ Lim g.2.1 ∧ Blk 41 w' w4.heap.size (g.2.2.map u32) ∧ g.2.2.length = t + 1 ∧ Lim g.2.2 ∧ Blk 41 w' w2.heap.size (ds.map u32) ∧ g.1 ≤ t + 1 ∧ val (g.2.1.drop g.1) < V ∧ val rs0 = val g.2.1 + (val (g.2.2.drop g.1) * 4294967296 ^ g.1) * V)
    (fun g => g.1) (t + 1, rs0, List.replicate (t + 1) 0) ⟨rfl, rfl, rfl, rfl, rfl, ?_, trivial⟩ ⟨hx05, hbr.ext hx5, by simp only; omega, hrslim, by rw [List.map_replicate]; exact hbq, by simp, lim_replicate _, (hbd.ext hx4).ext hx5, Nat.le_refl _, hfirst, by simp [val]⟩ ?_
  · show some (Value.int .i64 (IntKind.i64.wrap (((limbs a).length : Int) - ((limbs c).length : Int)))) = _
    rw [eq0]
    simp
  rintro ⟨jj, rs, qs⟩ w6 ⟨hx6, hb6, hrl, hrlim, hbq6, hql, hqlim, hbd6, hjj, hlow, heq⟩
  dsimp only at hb6 hrl hrlim hbq6 hql hqlim hbd6 hjj hlow heq ⊢
  by_cases hj0 : jj = 0
  · subst hj0
    simp only [List.drop_zero, Nat.pow_zero, Nat.mul_one] at hlow heq
    have hfin : a / c = val qs ∧ a % c = val rs / 2 ^ s := by
      have hp : 0 < 2 ^ s := Nat.pow_pos (by decide)
      have hU : a * 2 ^ s = val qs * V + val rs := by rw [← hrsv]; omega
      obtain ⟨q1, q2⟩ := mod_eq_of hU hlow
      rw [← hVd] at q1 q2
      rw [Nat.mul_div_mul_right _ _ hp] at q1
      rw [Nat.mul_mod_mul_right] at q2
      exact ⟨q1, by rw [← q2, Nat.mul_div_cancel _ hp]⟩
    (repeat with_reducible first | refine StL.nil ?_ | refine Out.then_normal ?_ | refine Out.block_normal ?_ | refine St.seq ?_ | refine St.block ?_ | refine St.skip ?_ | refine St.region ?_ | refine St.ret ?_ | refine Out.then_ret ?_ | refine Out.block_ret ?_ | refine St.exit ?_ | refine Out.then_exit ?_ | refine Out.block_exit ?_)
    refine StL.as TBok 2 (.bool false) rfl (bool_false (by simp)) ?_
    (repeat with_reducible first | refine StL.nil ?_ | refine Out.then_normal ?_ | refine Out.block_normal ?_ | refine St.seq ?_ | refine St.block ?_ | refine St.skip ?_ | refine St.region ?_ | refine St.ret ?_ | refine Out.then_ret ?_ | refine Out.block_ret ?_ | refine St.exit ?_ | refine Out.then_exit ?_ | refine Out.block_exit ?_)
    refine St.condF rfl rfl ?_
    ((repeat with_reducible first | refine StL.nil ?_ | refine Out.then_normal ?_ | refine Out.block_normal ?_ | refine St.seq ?_ | refine St.block ?_ | refine St.skip ?_ | refine St.region ?_ | refine St.ret ?_ | refine Out.then_ret ?_ | refine Out.block_ret ?_ | refine St.exit ?_ | refine Out.then_exit ?_ | refine Out.block_exit ?_); try refine StL.run TBok 99 rfl ?_; (repeat with_reducible first | refine StL.nil ?_ | refine Out.then_normal ?_ | refine Out.block_normal ?_ | refine St.seq ?_ | refine St.block ?_ | refine St.skip ?_ | refine St.region ?_ | refine St.ret ?_ | refine Out.then_ret ?_ | refine Out.block_ret ?_ | refine St.exit ?_ | refine Out.then_exit ?_ | refine Out.block_exit ?_); try refine StL.run TBok 99 rfl ?_; (repeat with_reducible first | refine StL.nil ?_ | refine Out.then_normal ?_ | refine Out.block_normal ?_ | refine St.seq ?_ | refine St.block ?_ | refine St.skip ?_ | refine St.region ?_ | refine St.ret ?_ | refine Out.then_ret ?_ | refine Out.block_ret ?_ | refine St.exit ?_ | refine Out.then_exit ?_ | refine Out.block_exit ?_); try refine StL.run TBok 99 rfl ?_; (repeat with_reducible first | refine StL.nil ?_ | refine Out.then_normal ?_ | refine Out.block_normal ?_ | refine St.seq ?_ | refine St.block ?_ | refine St.skip ?_ | refine St.region ?_ | refine St.ret ?_ | refine Out.then_ret ?_ | refine Out.block_ret ?_ | refine St.exit ?_ | refine Out.then_exit ?_ | refine Out.block_exit ?_); try refine StL.run TBok 99 rfl ?_; (repeat with_reducible first | refine StL.nil ?_ | refine Out.then_normal ?_ | refine Out.block_normal ?_ | refine St.seq ?_ | refine St.block ?_ | refine St.skip ?_ | refine St.region ?_ | refine St.ret ?_ | refine Out.then_ret ?_ | refine Out.block_ret ?_ | refine St.exit ?_ | refine Out.then_exit ?_ | refine Out.block_exit ?_))
    have hb6' : Blk 41 w6 w3.heap.size ([] ++ (rs.map u32 ++ [])) := by simpa using hb6
    have hsr := shiftRight_spec w6 w3.heap.size 0 ((limbs a).length + 1) s [] [] rs hb6' rfl hrlim (by omega) hs
    rw [show rs.length = (limbs a).length + 1 from by omega] at hsr
    refine StL.step rfl rfl rfl (OpR.call fn_integer_shiftRight rfl hsr) ?_
    rintro _ w7 ⟨hu7, hb7⟩
    have hx7 : Ext w w7 := hx6.then_upd hu7 (by have := hx1.size; have := hx3.size; omega)
    have hbq7 := hbq6.upd hu7 (by omega)
    have hOq : SlO w.heap.size w7 (.slice (some ⟨w4.heap.size, 0, none⟩) (t + 1) (t + 1)) qs := ⟨Blk.own hbq7 (by simp; omega) hx04.size (by omega), hqlim⟩
    have hOr : SlO w.heap.size w7 (.slice (some ⟨w3.heap.size, 0, none⟩) ((limbs a).length + 1) ((limbs a).length + 1)) (srL s rs) := ⟨Blk.own (by simpa using hb7) (by simp [srL_length]; omega) (hx1.trans hx3).size (by omega), lim_srL _ _⟩
    ((repeat with_reducible first | refine StL.nil ?_ | refine Out.then_normal ?_ | refine Out.block_normal ?_ | refine St.seq ?_ | refine St.block ?_ | refine St.skip ?_ | refine St.region ?_ | refine St.ret ?_ | refine Out.then_ret ?_ | refine Out.block_ret ?_ | refine St.exit ?_ | refine Out.then_exit ?_ | refine Out.block_exit ?_); try refine StL.run TBok 99 rfl ?_; (repeat with_reducible first | refine StL.nil ?_ | refine Out.then_normal ?_ | refine Out.block_normal ?_ | refine St.seq ?_ | refine St.block ?_ | refine St.skip ?_ | refine St.region ?_ | refine St.ret ?_ | refine Out.then_ret ?_ | refine Out.block_ret ?_ | refine St.exit ?_ | refine Out.then_exit ?_ | refine Out.block_exit ?_); try refine StL.run TBok 99 rfl ?_; (repeat with_reducible first | refine StL.nil ?_ | refine Out.then_normal ?_ | refine Out.block_normal ?_ | refine St.seq ?_ | refine St.block ?_ | refine St.skip ?_ | refine St.region ?_ | refine St.ret ?_ | refine Out.then_ret ?_ | refine Out.block_ret ?_ | refine St.exit ?_ | refine Out.then_exit ?_ | refine Out.block_exit ?_); try refine StL.run TBok 99 rfl ?_; (repeat with_reducible first | refine StL.nil ?_ | refine Out.then_normal ?_ | refine Out.block_normal ?_ | refine St.seq ?_ | refine St.block ?_ | refine St.skip ?_ | refine St.region ?_ | refine St.ret ?_ | refine Out.then_ret ?_ | refine Out.block_ret ?_ | refine St.exit ?_ | refine Out.then_exit ?_ | refine Out.block_exit ?_); try refine StL.run TBok 99 rfl ?_; (repeat with_reducible first | refine StL.nil ?_ | refine Out.then_normal ?_ | refine Out.block_normal ?_ | refine St.seq ?_ | refine St.block ?_ | refine St.skip ?_ | refine St.region ?_ | refine St.ret ?_ | refine Out.then_ret ?_ | refine Out.block_ret ?_ | refine St.exit ?_ | refine Out.then_exit ?_ | refine Out.block_exit ?_))
    refine StL.step rfl rfl rfl (OpR.call fn_integer_trim rfl (trim_spec w7 _ _ hOq.sl (by omega))) ?_
    rintro _ w8 ⟨rfl, rfl, _⟩
    refine StL.run TBok 99 rfl ?_
    refine StL.step rfl rfl rfl (OpR.call fn_integer_trim rfl (trim_spec _ _ _ hOr.sl (by rw [srL_length]; omega))) ?_
    rintro _ w8 ⟨rfl, rfl, _⟩
    ((repeat with_reducible first | refine StL.nil ?_ | refine Out.then_normal ?_ | refine Out.block_normal ?_ | refine St.seq ?_ | refine St.block ?_ | refine St.skip ?_ | refine St.region ?_ | refine St.ret ?_ | refine Out.then_ret ?_ | refine Out.block_ret ?_ | refine St.exit ?_ | refine Out.then_exit ?_ | refine Out.block_exit ?_); try refine StL.run TBok 99 rfl ?_; (repeat with_reducible first | refine StL.nil ?_ | refine Out.then_normal ?_ | refine Out.block_normal ?_ | refine St.seq ?_ | refine St.block ?_ | refine St.skip ?_ | refine St.region ?_ | refine St.ret ?_ | refine Out.then_ret ?_ | refine Out.block_ret ?_ | refine St.exit ?_ | refine Out.then_exit ?_ | refine Out.block_exit ?_); try refine StL.run TBok 99 rfl ?_; (repeat with_reducible first | refine StL.nil ?_ | refine Out.then_normal ?_ | refine Out.block_normal ?_ | refine St.seq ?_ | refine St.block ?_ | refine St.skip ?_ | refine St.region ?_ | refine St.ret ?_ | refine Out.then_ret ?_ | refine Out.block_ret ?_ | refine St.exit ?_ | refine Out.then_exit ?_ | refine Out.block_exit ?_); try refine StL.run TBok 99 rfl ?_; (repeat with_reducible first | refine StL.nil ?_ | refine Out.then_normal ?_ | refine Out.block_normal ?_ | refine St.seq ?_ | refine St.block ?_ | refine St.skip ?_ | refine St.region ?_ | refine St.ret ?_ | refine Out.then_ret ?_ | refine Out.block_ret ?_ | refine St.exit ?_ | refine Out.then_exit ?_ | refine Out.block_exit ?_); try refine StL.run TBok 99 rfl ?_; (repeat with_reducible first | refine StL.nil ?_ | refine Out.then_normal ?_ | refine Out.block_normal ?_ | refine St.seq ?_ | refine St.block ?_ | refine St.skip ?_ | refine St.region ?_ | refine St.ret ?_ | refine Out.then_ret ?_ | refine Out.block_ret ?_ | refine St.exit ?_ | refine Out.then_exit ?_ | refine Out.block_exit ?_))
    have t1 := hOq.trimmed
    have t2 := hOr.trimmed
    rw [val_srL s hs rs hrlim] at t2 ⊢
    rw [← hfin.2] at t2 ⊢
    rw [← hfin.1] at t1 ⊢
    exact Out.ret2 rfl rfl rfl ⟨hx7, _, _, rfl, t1, t2⟩
  obtain ⟨j, rfl⟩ : ∃ j, jj = j + 1 := ⟨jj - 1, by omega⟩
  have hxj : rs[j]? = some rs[j] := by simp
  generalize rs[j] = xj at hxj
  have hxjl := hrlim.get hxj
  obtain ⟨hs1', hs2', hs3'⟩ := seg_all (m := m) hxj (by omega) hlow hVlt
  have e0 : (((j + 1 : Nat) : Int) - 1) = (j : Int) := by omega
  rw [e0]
  have hsegl : ((rs.drop j).take (m + 3)).length = m + 3 := by simp; omega
  have hsplit : rs.map u32 = (rs.take j).map u32 ++ (((rs.drop j).take (m + 3)).map u32 ++ (rs.drop (j + m + 3)).map u32) := by
    rw [← List.map_append, ← List.map_append]
    congr 1
    rw [show j + m + 3 = j + (m + 3) from by omega, ← List.drop_drop, List.take_append_drop, List.take_append_drop]
  (repeat with_reducible first | refine StL.nil ?_ | refine Out.then_normal ?_ | refine Out.block_normal ?_ | refine St.seq ?_ | refine St.block ?_ | refine St.skip ?_ | refine St.region ?_ | refine St.ret ?_ | refine Out.then_ret ?_ | refine Out.block_ret ?_ | refine St.exit ?_ | refine Out.then_exit ?_ | refine Out.block_exit ?_)
  refine StL.as TBok 2 (.bool true) rfl (bool_true (by omega)) ?_
  (repeat with_reducible first | refine StL.nil ?_ | refine Out.then_normal ?_ | refine Out.block_normal ?_ | refine St.seq ?_ | refine St.block ?_ | refine St.skip ?_ | refine St.region ?_ | refine St.ret ?_ | refine Out.then_ret ?_ | refine Out.block_ret ?_ | refine St.exit ?_ | refine Out.then_exit ?_ | refine Out.block_exit ?_)
  refine St.condT rfl rfl ?_
  ((repeat with_reducible first | refine StL.nil ?_ | refine Out.then_normal ?_ | refine Out.block_normal ?_ | refine St.seq ?_ | refine St.block ?_ | refine St.skip ?_ | refine St.region ?_ | refine St.ret ?_ | refine Out.then_ret ?_ | refine Out.block_ret ?_ | refine St.exit ?_ | refine Out.then_exit ?_ | refine Out.block_exit ?_); try refine StL.run TBok 99 rfl ?_; (repeat with_reducible first | refine StL.nil ?_ | refine Out.then_normal ?_ | refine Out.block_normal ?_ | refine St.seq ?_ | refine St.block ?_ | refine St.skip ?_ | refine St.region ?_ | refine St.ret ?_ | refine Out.then_ret ?_ | refine Out.block_ret ?_ | refine St.exit ?_ | refine Out.then_exit ?_ | refine Out.block_exit ?_); try refine StL.run TBok 99 rfl ?_; (repeat with_reducible first | refine StL.nil ?_ | refine Out.then_normal ?_ | refine Out.block_normal ?_ | refine St.seq ?_ | refine St.block ?_ | refine St.skip ?_ | refine St.region ?_ | refine St.ret ?_ | refine Out.then_ret ?_ | refine Out.block_ret ?_ | refine St.exit ?_ | refine Out.then_exit ?_ | refine Out.block_exit ?_); try refine StL.run TBok 99 rfl ?_; (repeat with_reducible first | refine StL.nil ?_ | refine Out.then_normal ?_ | refine Out.block_normal ?_ | refine St.seq ?_ | refine St.block ?_ | refine St.skip ?_ | refine St.region ?_ | refine St.ret ?_ | refine Out.then_ret ?_ | refine Out.block_ret ?_ | refine St.exit ?_ | refine Out.then_exit ?_ | refine Out.block_exit ?_); try refine StL.run TBok 99 rfl ?_; (repeat with_reducible first | refine StL.nil ?_ | refine Out.then_normal ?_ | refine Out.block_normal ?_ | refine St.seq ?_ | refine St.block ?_ | refine St.skip ?_ | refine St.region ?_ | refine St.ret ?_ | refine Out.then_ret ?_ | refine Out.block_ret ?_ | refine St.exit ?_ | refine Out.then_exit ?_ | refine Out.block_exit ?_))
  have eL : IntKind.i64.wrap (IntKind.i64.wrap ((j : Int) + ((limbs c).length : Int)) + 1) = ((j + m + 3 : Nat) : Int) := by
    rw [i64_id (n := (j : Int) + ((limbs c).length : Int)) (by omega) (by omega), i64_id (by omega) (by omega)]; omega
  refine StL.step rfl rfl rfl (RunsTo.sliceLoHi TBok rfl rfl rfl rfl rfl rfl (by omega) (by rw [eL]; omega) (by rw [eL]; omega) (by omega)).op ?_
  rintro _ _ ⟨rfl, rfl⟩
  rw [eL, show (((j + m + 3 : Nat) : Int).toNat - (j : Int).toNat) = m + 3 from by omega, show (0 + (j : Int).toNat) = j from by omega]
  refine StL.run TBok 99 rfl ?_
  have hdiv : Sl w6 (.slice (some ⟨w2.heap.size, 0, none⟩) (limbs c).length ((limbs c).length + 1)) (ds.take (m + 2)) := by
    refine ⟨Blk.row hbd6 (by simp; omega) (by omega) (by simp; omega) ?_, hdslim.take _⟩
    rw [List.drop_zero, List.map_take, hm]
  rw [hsplit] at hb6
  have hds := divideStep_spec w6 w3.heap.size j ((limbs a).length + 1 - (j : Int).toNat) m _ _ _ _ _ v1 hb6 (by simp; omega) ((hrlim.drop j).take (m + 3)) hdiv (fun c' o' s' l' cap' e => by cases e; omega) (by simp; omega) hsegl (by omega) hv1 hv1ge (by
    rw [hs1', hs3', hvsv]
    have : (val (rs.drop (j + 1)) + 1) * 4294967296 ≤ V * 4294967296 := Nat.mul_le_mul_right _ hlow
    omega)
  refine StL.step rfl rfl rfl (OpR.call fn_integer_divideStep rfl hds) ?_
  rintro _ w7 ⟨rfl, hu7, us', husl, huslim, husv, hb7⟩
  rw [hs1', hvsv] at husv ⊢
  have hbq7 := hbq6.upd hu7 (by omega)
  have hbd7 := hbd6.upd hu7 (by omega)
  have hx7 : Ext w w7 := hx6.then_upd hu7 (hx1.trans hx3).size
  have hqlt : val (rs.drop j) / V < 4294967296 := by
    apply Nat.div_lt_of_lt_mul
    rw [hs3']
    have : (val (rs.drop (j + 1)) + 1) * 4294967296 ≤ V * 4294967296 := Nat.mul_le_mul_right _ hlow
    omega
  have hdm := Nat.div_add_mod (val (rs.drop j)) V
  have hml := Nat.mod_lt (val (rs.drop j)) hV0
  generalize val (rs.drop j) / V = qd at *
  refine StL.put TBok j hbq7 rfl (by omega) (by simp; omega) rfl rfl rfl rfl rfl rfl rfl rfl (fun _ => rfl) (fun _ => rfl) rfl rfl ?_
  intro p3 w8 hb8 hu8
  rw [Nat.zero_add, map_set_u32] at hb8
  ((repeat with_reducible first | refine StL.nil ?_ | refine Out.then_normal ?_ | refine Out.block_normal ?_ | refine St.seq ?_ | refine St.block ?_ | refine St.skip ?_ | refine St.region ?_ | refine St.ret ?_ | refine Out.then_ret ?_ | refine Out.block_ret ?_ | refine St.exit ?_ | refine Out.then_exit ?_ | refine Out.block_exit ?_); try refine StL.run TBok 99 rfl ?_; (repeat with_reducible first | refine StL.nil ?_ | refine Out.then_normal ?_ | refine Out.block_normal ?_ | refine St.seq ?_ | refine St.block ?_ | refine St.skip ?_ | refine St.region ?_ | refine St.ret ?_ | refine Out.then_ret ?_ | refine Out.block_ret ?_ | refine St.exit ?_ | refine Out.then_exit ?_ | refine Out.block_exit ?_); try refine StL.run TBok 99 rfl ?_; (repeat with_reducible first | refine StL.nil ?_ | refine Out.then_normal ?_ | refine Out.block_normal ?_ | refine St.seq ?_ | refine St.block ?_ | refine St.skip ?_ | refine St.region ?_ | refine St.ret ?_ | refine Out.then_ret ?_ | refine Out.block_ret ?_ | refine St.exit ?_ | refine Out.then_exit ?_ | refine Out.block_exit ?_); try refine StL.run TBok 99 rfl ?_; (repeat with_reducible first | refine StL.nil ?_ | refine Out.then_normal ?_ | refine Out.block_normal ?_ | refine St.seq ?_ | refine St.block ?_ | refine St.skip ?_ | refine St.region ?_ | refine St.ret ?_ | refine Out.then_ret ?_ | refine Out.block_ret ?_ | refine St.exit ?_ | refine Out.then_exit ?_ | refine Out.block_exit ?_); try refine StL.run TBok 99 rfl ?_; (repeat with_reducible first | refine StL.nil ?_ | refine Out.then_normal ?_ | refine Out.block_normal ?_ | refine St.seq ?_ | refine St.block ?_ | refine St.skip ?_ | refine St.region ?_ | refine St.ret ?_ | refine Out.then_ret ?_ | refine Out.block_ret ?_ | refine St.exit ?_ | refine Out.then_exit ?_ | refine Out.block_exit ?_))
  have hb7' : Blk 41 w8 w3.heap.size ((rs.take j ++ (us' ++ rs.drop (j + m + 3))).map u32) := by
    have := hb7.upd hu8 (by omega)
    simpa using this
  have hdrop : (rs.take j ++ (us' ++ rs.drop (j + m + 3))).drop j = us' ++ rs.drop (j + m + 3) := by
    rw [List.drop_append_of_le_length (by simp; omega), List.drop_of_length_le (by simp; omega)]; simp
  have hvd : val (us' ++ rs.drop (j + m + 3)) = val us' := by rw [val_append, hs2']; simp
  have hlj : (rs.take j).length = j := by simp; omega
  refine Out.again (j, rs.take j ++ (us' ++ rs.drop (j + m + 3)), qs.set j qd) ⟨rfl, rfl, rfl, rfl, rfl, ?_, trivial⟩ ⟨hx7.then_upd hu8 hx04.size, hb7', by simp; omega, (hrlim.take j).append (huslim.append (hrlim.drop _)), hb8, by simpa using hql, hqlim.set _ hqlt, hbd7.upd hu8 (by omega), by simp only; omega, ?_, ?_⟩ (by simp only; omega)
  · show some (Value.int .i64 (IntKind.i64.wrap ((j : Int) - 1))) = _
    rw [i64_id (by omega) (by omega)]
  · simp only
    rw [hdrop, hvd, husv]
    exact hml
  · simp only
    have hqs : (qs.set j qd)[j]? = some qd := List.getElem?_set_self (by omega)
    rw [drop_pred hqs, List.drop_set_of_lt (by omega), val_append (rs.take j), hlj, hvd, husv, heq]
    have hv0 := val_split rs j
    rw [show min j rs.length = j from by omega] at hv0
    rw [hv0]
    conv => lhs; rw [← hdm]
    rw [Nat.pow_succ]
    generalize 4294967296 ^ j = W
    generalize val (qs.drop (j + 1)) = Q
    generalize val (rs.drop j) % V = M
    have e1 : W * (V * qd + M) = W * M + qd * W * V := by rw [Nat.mul_add, Nat.add_comm]; congr 1; rw [Nat.mul_comm V, ← Nat.mul_assoc, Nat.mul_comm W]
    have e2 : (qd + 4294967296 * Q) * W * V = qd * W * V + Q * (W * 4294967296) * V := by
      rw [Nat.add_mul, Nat.add_mul]; congr 2; rw [Nat.mul_comm 4294967296, Nat.mul_assoc, Nat.mul_comm 4294967296]
    rw [e1, e2]
    omega

end Go.Qf
