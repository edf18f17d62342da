/- Lemmas on the model and on the program's functions, part Qe. -/
import Derived.Test.YtianfagdgdpnpaaQa
import Derived.Test.YtianfagdgdpnpaaQb
import Derived.Test.YtianfagdgdpnpaaQc
import Derived.Test.YtianfagdgdpnpaaQd
/- quadformlaw01: awake, long, copied. -/
namespace Go.Qf
open Go Go.RowKit Go.Proofs

theorem b8_lit (bs : List Nat) (h : bs.all (fun b => decide (b < 256)) = true) : B8 bs := fun b hb => by
  have := List.all_eq_true.1 h b hb
  simpa using this

theorem strV_lit1 (b : UInt8) : (Value.string ⟨#[b]⟩) = strV [b.toNat] := by simp [strV, strB]

/-- A struct that a call has made, stored into a variable. -/
theorem StL.setCan {base n : Nat} {E : List (Nat × Value)} {w w0 : World} {ops : Array Oper} {rest : List Oper} {Q : Exit → Act → World → Prop} {t s : Nat} {ty : TypeId} {pos : String} {af : Array Edge} {b : Nat} {C : List Value} {v : Value} {a : Int}
    (ht : look E t = some (.pointer (some ⟨b, 0, none⟩))) (hs : look E s = some v) (hb : Blk 24 w b C) (hC : C.length = 2) (hv : CanO base w v a) (hx : Ext w0 w) (hb0 : w0.heap.size ≤ b)
    (next : ∀ w', Blk 24 w' b v.cells.toList → Upd b w w' → CanO base w' v a → Ext w0 w' → StL Try.prog n E w' ops rest Q) :
    StL Try.prog n E w ops (⟨none, .store 24 (.tmp t) (.tmp s), ty, pos, af, none⟩ :: rest) Q := by
  refine StL.retCan ht hs hb hC hv hx hb0 ?_
  intro w4 cs hcs hl hb4 hu4 hx4
  refine next w4 ?_ hu4 (hv.upd hu4 ⟨_, hb⟩) hx4
  rw [hcs]
  simpa [Value.cells] using hb4

theorem CanO.agg {base : Nat} {w : World} {v : Value} {a : Int} (h : CanO base w v a) : v = .agg v.cells := by
  obtain ⟨p, cap, rfl, _⟩ := h
  rfl

/-- A variable that holds a canonical struct, read. -/
theorem RunsTo.loadCan {base n : Nat} {E : List (Nat × Value)} {w wv : World} {d : Option Tmp} {x : Operand} {ty : TypeId} {pos : String} {af : Array Edge} {g : Option (Nat × Bool)} {b : Nat} {v : Value} {a : Int} (hx : ov E x = some (.pointer (some ⟨b, 0, none⟩))) (hb : Blk 24 w b v.cells.toList) (hv : CanO base wv v a) :
    RunsTo Try.prog n ⟨d, .load 24 x, ty, pos, af, g⟩ E w v :=
  RunsTo.loadInt hx hb hv.two.1 (by simpa using hv.agg)

set_option maxRecDepth 8000 in
theorem awake_spec (w : World) : Calls Try.prog 29 #[] w (Ret fun r w' => Ext w w' ∧ r = .bool true) := by
  refine calls_of_St (args := []) Try.func29 rfl Try.ntmps29 rfl ?_
  (iterate 6 ((repeat with_reducible first|refine .nil ?_|refine .then_normal ?_|refine .block_normal ?_|refine .seq ?_|refine .block ?_|refine .skip ?_|refine .region ?_|refine .ret ?_|refine .then_ret ?_|refine .block_ret ?_|refine .exit ?_|refine .then_exit ?_|refine .block_exit ?_|refine .block_other rfl ?_); try refine .run TBok 99 rfl ?_))
  refine StL.step rfl rfl rfl (OpR.call fn_integer_Small rfl (small_spec w (-7) (by decide) (by decide))) ?_
  rintro v9 w1 ⟨hx1, h9⟩
  refine StL.step rfl rfl rfl (OpR.call fn_integer_Small rfl (small_spec w1 3 (by decide) (by decide))) ?_
  rintro v10 w2 ⟨hx2, h10⟩
  refine StL.step rfl rfl rfl (OpR.call fn_integer_DivMod rfl (divMod_dn (base := 0) ((h9.ext hx2).dn (by decide +kernel)) (h10.dn (by decide +kernel)) (Nat.zero_le _))) ?_
  rintro _ w3 ⟨hx3, _, hd⟩
  obtain ⟨q, m, rfl, hq, hm⟩ := hd (by decide)
  refine .run TBok 99 rfl ?_
  refine StL.step rfl rfl rfl (OpR.alloc TBok rfl) ?_
  rintro _ w4 ⟨rfl, hb4, hx4, hz4⟩
  refine StL.step rfl rfl rfl (OpR.alloc TBok rfl) ?_
  rintro _ w5 ⟨rfl, hb5, hx5, hz5⟩
  refine StL.setCan rfl rfl (hb4.ext hx5) rfl ((hq.ext hx4).ext hx5) (hx4.trans hx5) (Nat.le_refl _) ?_
  intro w6 hB6 hu6 hq6 hx6
  refine StL.setCan rfl rfl (hb5.upd hu6 (by omega)) rfl (CanO.upd ((hm.ext hx4).ext hx5) hu6 ⟨_, hb4.ext hx5⟩) hx6 (by omega) ?_
  intro w7 hB7 hu7 hm7 hx7
  have hB6' := hB6.upd hu7 (by omega)
  have hq7 := CanO.upd hq6 hu7 ⟨_, hb5.upd hu6 (by omega)⟩
  have hx07 : Ext w w7 := ((hx1.trans hx2).trans hx3).trans hx7
  clear hB6 hu6 hq6 hu7 hx6 hx7 hx4 hx5 hb4 hb5 h9 h10 hx1 hx2 hx3 hq hm
  (iterate 6 ((repeat with_reducible first|refine .nil ?_|refine .then_normal ?_|refine .block_normal ?_|refine .seq ?_|refine .block ?_|refine .skip ?_|refine .region ?_|refine .ret ?_|refine .then_ret ?_|refine .block_ret ?_|refine .exit ?_|refine .then_exit ?_|refine .block_exit ?_|refine .block_other rfl ?_); try refine .run TBok 99 rfl ?_))
  refine StL.step rfl rfl rfl (RunsTo.loadCan rfl hB6' hq7).op ?_
  rintro _ _ ⟨rfl, rfl⟩
  refine StL.step rfl rfl rfl (OpR.call fn_integer_Int64 rfl (int64_dn (hq7.dn (by decide +kernel)))) ?_
  rintro _ w8 ⟨hx8, rfl⟩
  rw [show int64V (-7 / 3) = .tuple #[.int .i64 (-3), .bool true] from by unfold int64V; rw [if_pos (by decide)]; rfl]
  (iterate 6 ((repeat with_reducible first|refine .nil ?_|refine .then_normal ?_|refine .block_normal ?_|refine .seq ?_|refine .block ?_|refine .skip ?_|refine .region ?_|refine .ret ?_|refine .then_ret ?_|refine .block_ret ?_|refine .exit ?_|refine .then_exit ?_|refine .block_exit ?_|refine .block_other rfl ?_); try refine .run TBok 99 rfl ?_))
  refine StL.step rfl rfl rfl (OpR.call fn_integer_Small rfl (small_spec w8 24 (by decide) (by decide))) ?_
  rintro v21 w9 ⟨hx9, h21⟩
  refine StL.step rfl rfl rfl (OpR.call fn_integer_Sqrt rfl (sqrt_dn (h21.dn (by decide +kernel)))) ?_
  rintro _ w10 ⟨hx10, _, hs⟩
  obtain ⟨s, x, rfl, hroot, hs10⟩ := hs (by decide)
  have hx4 : x = 4 := by
    obtain ⟨h1, h2⟩ := hroot
    have h24 : (24 : Int).natAbs = 24 := rfl
    rw [h24] at h1 h2
    rcases Nat.lt_or_ge x 5 with h | h
    · rcases Nat.lt_or_ge x 4 with h' | h'
      · have : (x + 1) * (x + 1) ≤ 4 * 4 := Nat.mul_le_mul (by omega) (by omega)
        omega
      · omega
    · have : 5 * 5 ≤ x * x := Nat.mul_le_mul h h
      omega
  subst hx4
  refine .run TBok 99 rfl ?_
  refine StL.step rfl rfl rfl (OpR.alloc TBok rfl) ?_
  rintro _ w11 ⟨rfl, hb11, hx11, hz11⟩
  refine StL.setCan rfl rfl hb11 rfl (hs10.ext hx11) hx11 (Nat.le_refl _) ?_
  intro w12 hB12 hu12 hs12 hx12
  have hx712 : Ext w7 w12 := ((hx8.trans hx9).trans hx10).trans hx12
  have hm12 := hm7.ext hx712
  have hB7' := hB7.ext hx712
  have hx012 := hx07.trans hx712
  (iterate 6 ((repeat with_reducible first|refine .nil ?_|refine .then_normal ?_|refine .block_normal ?_|refine .seq ?_|refine .block ?_|refine .skip ?_|refine .region ?_|refine .ret ?_|refine .then_ret ?_|refine .block_ret ?_|refine .exit ?_|refine .then_exit ?_|refine .block_exit ?_|refine .block_other rfl ?_); try refine .run TBok 99 rfl ?_))
  refine StL.step rfl rfl rfl (RunsTo.loadCan rfl hB7' hm12).op ?_
  rintro _ _ ⟨rfl, rfl⟩
  refine StL.step rfl rfl rfl (OpR.call fn_integer_Format rfl (format_dn (hm12.dn (by decide +kernel)))) ?_
  rintro _ w13 ⟨hx13, rfl⟩
  refine StL.step rfl rfl rfl (RunsTo.strEql (bs := [50]) (b8_lit _ (by decide +kernel)) (b8_lit _ rfl) rfl rfl).op ?_
  rintro _ _ ⟨rfl, rfl⟩
  rw [show decide (fmtI (-7 % 3) = [50]) = true from by decide +kernel]
  refine .run TBok 99 rfl ?_
  refine StL.step rfl rfl rfl (RunsTo.loadCan rfl (hB12.ext hx13) hs12).op ?_
  rintro _ _ ⟨rfl, rfl⟩
  refine StL.step rfl rfl rfl (OpR.call fn_integer_Format rfl (format_dn ((hs12.ext hx13).dn (by decide +kernel)))) ?_
  rintro _ w14 ⟨hx14, rfl⟩
  refine StL.step rfl rfl rfl (RunsTo.strEql (bs := [52]) (b8_lit _ (by decide +kernel)) (b8_lit _ rfl) rfl rfl).op ?_
  rintro _ _ ⟨rfl, rfl⟩
  rw [show decide (fmtI ((4 : Nat) : Int) = [52]) = true from by decide +kernel]
  (iterate 6 ((repeat with_reducible first|refine .nil ?_|refine .then_normal ?_|refine .block_normal ?_|refine .seq ?_|refine .block ?_|refine .skip ?_|refine .region ?_|refine .ret ?_|refine .then_ret ?_|refine .block_ret ?_|refine .exit ?_|refine .then_exit ?_|refine .block_exit ?_|refine .block_other rfl ?_); try refine .run TBok 99 rfl ?_))
  exact Out.ret1 rfl rfl ⟨(hx012.trans hx13).trans hx14, rfl⟩

set_option maxRecDepth 8000 in
theorem long_spec (w : World) (v : Value) (neg : Bool) (xs : List Nat) (h : Den w v neg xs) : Calls Try.prog 30 #[v] w (Ret fun r w' => Ext w w' ∧ r = .bool (decide (40 < xs.length))) := by
  obtain ⟨p, cap, rfl, hs⟩ := h
  refine calls_of_St (args := [_]) Try.func30 rfl Try.ntmps30 rfl ?_
  (repeat with_reducible first|refine .nil ?_|refine .then_normal ?_|refine .block_normal ?_|refine .seq ?_|refine .block ?_|refine .skip ?_|refine .region ?_|refine .ret ?_|refine .then_ret ?_|refine .block_ret ?_|refine .exit ?_|refine .then_exit ?_|refine .block_exit ?_|refine .block_other rfl ?_)
  refine StL.step rfl rfl rfl (OpR.box rfl) ?_
  rintro _ w1 ⟨rfl, hb1, hx1, hz1⟩
  (iterate 6 ((repeat with_reducible first|refine .nil ?_|refine .then_normal ?_|refine .block_normal ?_|refine .seq ?_|refine .block ?_|refine .skip ?_|refine .region ?_|refine .ret ?_|refine .then_ret ?_|refine .block_ret ?_|refine .exit ?_|refine .then_exit ?_|refine .block_exit ?_|refine .block_other rfl ?_); try refine .run TBok 99 rfl ?_))
  (refine StL.step rfl rfl rfl (RunsTo.load TBok rfl rfl rfl (Blk.cell (by first | assumption | exact Ext.refl _ | (apply Blk.ext; assumption; (repeat first | assumption | refine Ext.trans ?_ (by assumption))) | (apply CanO.ext; assumption; (repeat first | assumption | refine Ext.trans ?_ (by assumption))) | (apply Den.ext; assumption; (repeat first | assumption | refine Ext.trans ?_ (by assumption))) | (apply Sl.ext; assumption; (repeat first | assumption | refine Ext.trans ?_ (by assumption))) | (apply SlO.ext; assumption; (repeat first | assumption | refine Ext.trans ?_ (by assumption))) | (apply Dn.ext; assumption; (repeat first | assumption | refine Ext.trans ?_ (by assumption))) | (apply It.ext; assumption; (repeat first | assumption | refine Ext.trans ?_ (by assumption))) | (repeat first | assumption | refine Ext.trans ?_ (by assumption))) rfl)).op ?_; rintro _ _ ⟨rfl, rfl⟩)
  (iterate 6 ((repeat with_reducible first|refine .nil ?_|refine .then_normal ?_|refine .block_normal ?_|refine .seq ?_|refine .block ?_|refine .skip ?_|refine .region ?_|refine .ret ?_|refine .then_ret ?_|refine .block_ret ?_|refine .exit ?_|refine .then_exit ?_|refine .block_exit ?_|refine .block_other rfl ?_); try refine .run TBok 99 rfl ?_))
  refine Out.ret1 rfl rfl ⟨hx1, ?_⟩
  congr 1
  by_cases h : 40 < xs.length
  · rw [decide_eq_true h, decide_eq_true (by omega)]
  · rw [decide_eq_false h, decide_eq_false (by omega)]

/-- A struct with its own limbs. -/
def DenO (base : Nat) (w : World) (v : Value) (neg : Bool) (xs : List Nat) : Prop := ∃ p cap, v = IntV neg (.slice p xs.length cap) ∧ SlO base w (.slice p xs.length cap) xs
theorem DenO.den {base : Nat} {w : World} {v : Value} {neg : Bool} {xs : List Nat} (h : DenO base w v neg xs) : Den w v neg xs := by
  obtain ⟨p, cap, hv, hs⟩ := h
  exact ⟨p, cap, hv, hs.sl⟩
theorem DenO.ext {base : Nat} {w w' : World} {v : Value} {neg : Bool} {xs : List Nat} (h : DenO base w v neg xs) (hx : Ext w w') : DenO base w' v neg xs := by
  obtain ⟨p, cap, hv, hs⟩ := h
  exact ⟨p, cap, hv, hs.ext hx⟩
theorem DenO.rg {base : Nat} {T : Nat → Prop} {w w' : World} {v : Value} {neg : Bool} {xs : List Nat} (h : DenO base w v neg xs) (hR : Rg Try.prog T w w') : DenO base w' v neg xs := by
  obtain ⟨p, cap, hv, hs⟩ := h
  exact ⟨p, cap, hv, hs.rg hR⟩
theorem MonoR.denO (base : Nat) (neg : Bool) (xs : List Nat) : MonoR Try.prog (fun v w => DenO base w v neg xs) := fun _ _ _ hR h => h.rg hR
theorem DenO.upd {base : Nat} {w w' : World} {v : Value} {neg : Bool} {xs : List Nat} {b : Nat} (h : DenO base w v neg xs) (hu : Upd b w w') (hb : ∃ C, Blk 24 w b C) : DenO base w' v neg xs := by
  obtain ⟨p, cap, hv, hs⟩ := h
  obtain ⟨C, hC⟩ := hb
  exact ⟨p, cap, hv, Own.updT hs.1 hu hC (by decide), hs.2⟩

set_option maxRecDepth 8000 in
theorem copied_spec {base : Nat} (w : World) (v : Value) (neg : Bool) (xs : List Nat) (h : Den w v neg xs) (hlen : xs.length ≤ 1000000) (hbase : base ≤ w.heap.size) : Calls Try.prog 46 #[v] w (Ret fun r w' => Ext w w' ∧ DenO base w' r neg xs) := by
  obtain ⟨p, cap, rfl, hs⟩ := h
  refine calls_of_St (args := [_]) Try.func46 rfl Try.ntmps46 rfl ?_
  (repeat with_reducible first|refine .nil ?_|refine .then_normal ?_|refine .block_normal ?_|refine .seq ?_|refine .block ?_|refine .skip ?_|refine .region ?_|refine .ret ?_|refine .then_ret ?_|refine .block_ret ?_|refine .exit ?_|refine .then_exit ?_|refine .block_exit ?_|refine .block_other rfl ?_)
  refine StL.step rfl rfl rfl (OpR.box rfl) ?_
  rintro _ w1 ⟨rfl, hb1, hx1, hz1⟩
  refine StL.step rfl rfl rfl (OpR.alloc TBok rfl) ?_
  rintro _ w2 ⟨rfl, hb2, hx2, hz2⟩
  (repeat with_reducible first|refine .nil ?_|refine .then_normal ?_|refine .block_normal ?_|refine .seq ?_|refine .block ?_|refine .skip ?_|refine .region ?_|refine .ret ?_|refine .then_ret ?_|refine .block_ret ?_|refine .exit ?_|refine .then_exit ?_|refine .block_exit ?_|refine .block_other rfl ?_)
  refine St.flow 6 TBfol (by kernel_rfl) rfl (by kernel_rfl) rfl True.intro ?_
  refine FL.run TBok 99 rfl ?_
  refine FL.load (L := []) TBok rfl rfl rfl rfl rfl rfl (by first | assumption | exact Ext.refl _ | (apply Blk.ext; assumption; (repeat first | assumption | refine Ext.trans ?_ (by assumption))) | (apply CanO.ext; assumption; (repeat first | assumption | refine Ext.trans ?_ (by assumption))) | (apply Den.ext; assumption; (repeat first | assumption | refine Ext.trans ?_ (by assumption))) | (apply Sl.ext; assumption; (repeat first | assumption | refine Ext.trans ?_ (by assumption))) | (apply SlO.ext; assumption; (repeat first | assumption | refine Ext.trans ?_ (by assumption))) | (apply Dn.ext; assumption; (repeat first | assumption | refine Ext.trans ?_ (by assumption))) | (apply It.ext; assumption; (repeat first | assumption | refine Ext.trans ?_ (by assumption))) | (repeat first | assumption | refine Ext.trans ?_ (by assumption))) (by simp) rfl ?_
  refine FL.run TBok 99 rfl ?_
  refine FL.load (L := []) TBok rfl rfl rfl rfl rfl rfl (by first | assumption | exact Ext.refl _ | (apply Blk.ext; assumption; (repeat first | assumption | refine Ext.trans ?_ (by assumption))) | (apply CanO.ext; assumption; (repeat first | assumption | refine Ext.trans ?_ (by assumption))) | (apply Den.ext; assumption; (repeat first | assumption | refine Ext.trans ?_ (by assumption))) | (apply Sl.ext; assumption; (repeat first | assumption | refine Ext.trans ?_ (by assumption))) | (apply SlO.ext; assumption; (repeat first | assumption | refine Ext.trans ?_ (by assumption))) | (apply Dn.ext; assumption; (repeat first | assumption | refine Ext.trans ?_ (by assumption))) | (apply It.ext; assumption; (repeat first | assumption | refine Ext.trans ?_ (by assumption))) | (repeat first | assumption | refine Ext.trans ?_ (by assumption))) (by simp) rfl ?_
  have hs2 : Sl w2 _ xs := (hs.ext hx1).ext hx2
  refine FL.fact (L := []) (ψ := fun v w' => SlO base w' v xs) rfl rfl rfl rfl rfl (fun w3 hR => (OpR.append TBok rfl rfl rfl rfl rfl rfl (Own.nil base _ _) (hs2.ext hR.ext_nil).1 (by intro c hc; simp only [List.mem_map] at hc; obtain ⟨x, _, rfl⟩ := hc; rfl) (by simp; omega) (by simp; omega) (Nat.le_trans hbase ((hx1.trans hx2).trans hR.ext_nil).size)).mono ?_) (MonoR.slO base xs) ?_
  · rintro v' w4 ⟨ho, hg, _⟩
    exact ⟨(Ext.refl _).grown (Own.nil w3.heap.size 41 _) (Nat.le_refl _) hg, by simpa using ho, hs.2⟩
  refine FL.fact (L := []) (ψ := fun v w' => DenO base w' v neg xs) rfl rfl rfl rfl rfl ?_ (MonoR.denO base neg xs) ?_
  · intro w3 hR v7 h7
    obtain ⟨p7, c7, rfl, _⟩ := h7.sl.form
    exact RunsTo.ext (RunsTo.build TBok rfl rfl rfl rfl) ⟨p7, c7, rfl, h7⟩
  refine FL.endE rfl ?_
  intro w3 hx3 v8 h8 v7 h7 _ _
  obtain ⟨p8, c8, rfl, h8s⟩ := h8
  refine StL.step0 rfl rfl (OpR.store TBok (vs := [.bool neg, .slice p8 xs.length c8]) rfl rfl rfl rfl rfl (hb2.ext hx3) (Nat.le_refl _) (by simp [Value.oneCell'])) ?_
  rintro _ w4 ⟨hb4, hu4⟩
  (iterate 6 ((repeat with_reducible first|refine .nil ?_|refine .then_normal ?_|refine .block_normal ?_|refine .seq ?_|refine .block ?_|refine .skip ?_|refine .region ?_|refine .ret ?_|refine .then_ret ?_|refine .block_ret ?_|refine .exit ?_|refine .then_exit ?_|refine .block_exit ?_|refine .block_other rfl ?_); try refine .run TBok 99 rfl ?_))
  refine Out.rets TBok [_] rfl ⟨⟨_, _, _, _, rfl, hb4, rfl, rfl, rfl, rfl⟩, trivial⟩ ⟨Ext.then_upd (w' := w3) (by first | assumption | exact Ext.refl _ | (apply Blk.ext; assumption; (repeat first | assumption | refine Ext.trans ?_ (by assumption))) | (apply CanO.ext; assumption; (repeat first | assumption | refine Ext.trans ?_ (by assumption))) | (apply Den.ext; assumption; (repeat first | assumption | refine Ext.trans ?_ (by assumption))) | (apply Sl.ext; assumption; (repeat first | assumption | refine Ext.trans ?_ (by assumption))) | (apply SlO.ext; assumption; (repeat first | assumption | refine Ext.trans ?_ (by assumption))) | (apply Dn.ext; assumption; (repeat first | assumption | refine Ext.trans ?_ (by assumption))) | (apply It.ext; assumption; (repeat first | assumption | refine Ext.trans ?_ (by assumption))) | (repeat first | assumption | refine Ext.trans ?_ (by assumption))) hu4 hx1.size, ?_⟩
  exact DenO.upd ⟨p8, c8, rfl, h8s⟩ hu4 ⟨_, hb2.ext hx3⟩

end Go.Qf

/- quadformref01: trim, Make, word, Small, cmp, Same, Normalize, Neg, Abs. -/
namespace Go.Qf
open Go Go.RowKit Go.Proofs

theorem u32_one (xs : List Nat) : ∀ c ∈ xs.map u32, c.oneCell' = true := by
  intro c hc; simp only [List.mem_map] at hc; obtain ⟨x, _, rfl⟩ := hc; rfl

set_option maxRecDepth 8000 in
theorem rtrim_spec {base : Nat} (w : World) (v : Value) (xs : List Nat) (h : Sl w v xs) (hlen : xs.length ≤ 1000000000) (hbase : base ≤ w.heap.size) :
    Calls Try.prog 67 #[v] w (Ret fun r w' => Ext w w' ∧ SlO base w' r (limbs (val xs))) := by
  obtain ⟨p, cap, rfl, hcap⟩ := h.form
  refine calls_of_St (args := [_]) Try.func67 rfl Try.ntmps67 rfl ?_
  (iterate 6 ((repeat with_reducible first|refine .nil ?_|refine .then_normal ?_|refine .block_normal ?_|refine .seq ?_|refine .block ?_|refine .skip ?_|refine .region ?_|refine .ret ?_|refine .then_ret ?_|refine .block_ret ?_|refine .exit ?_|refine .then_exit ?_|refine .block_exit ?_|refine .block_other rfl ?_); try refine .run TBok 99 rfl ?_))
  refine St.loop (fun k : Nat => [(0, .slice p xs.length cap), (3, .int .i64 k)]) (fun k w' => w' = w ∧ k ≤ xs.length ∧ ∀ j, k ≤ j → j < xs.length → xs[j]? = some 0) (fun k => k) xs.length ⟨rfl, rfl, trivial⟩ ⟨rfl, Nat.le_refl _, fun j h1 h2 => by omega⟩ ?_
  rintro k w' ⟨rfl, hk, hz⟩
  by_cases h0 : k = 0
  · subst h0
    (repeat with_reducible first|refine .nil ?_|refine .then_normal ?_|refine .block_normal ?_|refine .seq ?_|refine .block ?_|refine .skip ?_|refine .region ?_|refine .ret ?_|refine .then_ret ?_|refine .block_ret ?_|refine .exit ?_|refine .then_exit ?_|refine .block_exit ?_|refine .block_other rfl ?_)
    refine StL.as TBok 3 (.bool false) rfl (bool_false (by omega)) ?_
    (iterate 6 ((repeat with_reducible first|refine .nil ?_|refine .then_normal ?_|refine .block_normal ?_|refine .seq ?_|refine .block ?_|refine .skip ?_|refine .region ?_|refine .ret ?_|refine .then_ret ?_|refine .block_ret ?_|refine .exit ?_|refine .then_exit ?_|refine .block_exit ?_|refine .block_other rfl ?_); try refine .run TBok 99 rfl ?_))
    refine St.condF rfl rfl ?_
    (repeat with_reducible first|refine .nil ?_|refine .then_normal ?_|refine .block_normal ?_|refine .seq ?_|refine .block ?_|refine .skip ?_|refine .region ?_|refine .ret ?_|refine .then_ret ?_|refine .block_ret ?_|refine .exit ?_|refine .then_exit ?_|refine .block_exit ?_|refine .block_other rfl ?_)
    refine .run TBok 99 rfl ?_
    refine StL.step rfl rfl rfl (RunsTo.sliceHi TBok rfl rfl rfl rfl (by omega) (by omega)).op ?_
    rintro _ _ ⟨rfl, rfl⟩
    have e : limbs (val xs) = xs.take 0 := limbs_take xs h.2 0 hz hk (.inl rfl)
    have hc := h.cut 0 hk
    refine StL.step rfl rfl rfl (OpR.append TBok rfl rfl rfl rfl rfl rfl (Own.nil base _ _) hc.1 (by simp) (by simp) (by simp) hbase) ?_
    rintro v' w2 ⟨ho, hg, _⟩
    (iterate 6 ((repeat with_reducible first|refine .nil ?_|refine .then_normal ?_|refine .block_normal ?_|refine .seq ?_|refine .block ?_|refine .skip ?_|refine .region ?_|refine .ret ?_|refine .then_ret ?_|refine .block_ret ?_|refine .exit ?_|refine .then_exit ?_|refine .block_exit ?_|refine .block_other rfl ?_); try refine .run TBok 99 rfl ?_))
    refine Out.ret1 rfl rfl ⟨(Ext.refl _).grown (Own.nil w'.heap.size 41 _) (Nat.le_refl _) hg, ?_⟩
    rw [e]
    exact ⟨ho, hc.2⟩
  · obtain ⟨m, rfl⟩ : ∃ m, k = m + 1 := ⟨k - 1, by omega⟩
    have hx : xs[m]? = some xs[m] := by simp
    generalize xs[m] = x at hx
    have e1 : IntKind.i64.wrap ((((m + 1 : Nat) : Nat) : Int) - 1) = m := by rw [i64_id (by omega) (by omega)]; omega
    (repeat with_reducible first|refine .nil ?_|refine .then_normal ?_|refine .block_normal ?_|refine .seq ?_|refine .block ?_|refine .skip ?_|refine .region ?_|refine .ret ?_|refine .then_ret ?_|refine .block_ret ?_|refine .exit ?_|refine .then_exit ?_|refine .block_exit ?_|refine .block_other rfl ?_)
    refine StL.as TBok 3 (.bool true) rfl (bool_true (by omega)) ?_
    refine .run TBok 99 rfl ?_
    refine StL.elem TBok m (u32 x) h.1 (h.get hx) e1 rfl rfl rfl rfl rfl rfl rfl rfl rfl rfl (fun _ => rfl) ?_
    intro p1
    refine .run TBok 99 rfl ?_
    (refine StL.nil ?_; repeat with_reducible first | refine Out.then_normal ?_ | refine Out.block_normal ?_)
    by_cases hx0 : x = 0
    · subst hx0
      refine St.condT rfl rfl ?_
      (iterate 6 ((repeat with_reducible first|refine .nil ?_|refine .then_normal ?_|refine .block_normal ?_|refine .seq ?_|refine .block ?_|refine .skip ?_|refine .region ?_|refine .ret ?_|refine .then_ret ?_|refine .block_ret ?_|refine .exit ?_|refine .then_exit ?_|refine .block_exit ?_|refine .block_other rfl ?_); try refine .run TBok 99 rfl ?_))
      refine Out.again m ⟨rfl, ?_, trivial⟩ ⟨rfl, by omega, fun j h1 h2 => ?_⟩ (Nat.lt_succ_self m)
      · show some (Value.int .i64 (IntKind.i64.wrap ((((m + 1 : Nat) : Nat) : Int) - 1))) = _
        rw [e1]
      · by_cases hj : j = m
        · subst hj; exact hx
        · exact hz j (by omega) h2
    · refine St.condF rfl (by simp; omega) ?_
      have e : limbs (val xs) = xs.take (m + 1) := limbs_take xs h.2 (m + 1) hz hk (.inr ⟨x, by simpa using hx, hx0⟩)
      have hc := h.cut (m + 1) hk
      (repeat with_reducible first|refine .nil ?_|refine .then_normal ?_|refine .block_normal ?_|refine .seq ?_|refine .block ?_|refine .skip ?_|refine .region ?_|refine .ret ?_|refine .then_ret ?_|refine .block_ret ?_|refine .exit ?_|refine .then_exit ?_|refine .block_exit ?_|refine .block_other rfl ?_)
      refine .run TBok 99 rfl ?_
      refine StL.step rfl rfl rfl (RunsTo.sliceHi TBok rfl rfl rfl rfl (by omega) (by omega)).op ?_
      rintro _ _ ⟨rfl, rfl⟩
      refine StL.step rfl rfl rfl (OpR.append TBok rfl rfl rfl rfl rfl rfl (Own.nil base _ _) hc.1 (u32_one _) (by simp; omega) (by simp; omega) hbase) ?_
      rintro v' w2 ⟨ho, hg, _⟩
      (iterate 6 ((repeat with_reducible first|refine .nil ?_|refine .then_normal ?_|refine .block_normal ?_|refine .seq ?_|refine .block ?_|refine .skip ?_|refine .region ?_|refine .ret ?_|refine .then_ret ?_|refine .block_ret ?_|refine .exit ?_|refine .then_exit ?_|refine .block_exit ?_|refine .block_other rfl ?_); try refine .run TBok 99 rfl ?_))
      refine Out.ret1 rfl rfl ⟨(Ext.refl _).grown (Own.nil w'.heap.size 41 _) (Nat.le_refl _) hg, ?_⟩
      rw [e]
      exact ⟨ho, hc.2⟩

set_option maxRecDepth 8000 in
theorem make_spec {base : Nat} (w : World) (neg : Bool) (v : Value) (xs : List Nat) (h : Sl w v xs) (hlen : xs.length ≤ 1000000000) (hbase : base ≤ w.heap.size) :
    Calls Try.prog 73 #[.bool neg, v] w (Ret fun r w' => Ext w w' ∧ CanO base w' r (sg neg (val xs))) := by
  refine calls_of_St (args := [_, _]) Try.func73 rfl Try.ntmps73 rfl ?_
  (repeat with_reducible first|refine .nil ?_|refine .then_normal ?_|refine .block_normal ?_|refine .seq ?_|refine .block ?_|refine .skip ?_|refine .region ?_|refine .ret ?_|refine .then_ret ?_|refine .block_ret ?_|refine .exit ?_|refine .then_exit ?_|refine .block_exit ?_|refine .block_other rfl ?_)
  refine StL.step rfl rfl rfl (OpR.alloc TBok rfl) ?_
  rintro _ w1 ⟨rfl, hb1, hx1, hz1⟩
  (iterate 6 ((repeat with_reducible first|refine .nil ?_|refine .then_normal ?_|refine .block_normal ?_|refine .seq ?_|refine .block ?_|refine .skip ?_|refine .region ?_|refine .ret ?_|refine .then_ret ?_|refine .block_ret ?_|refine .exit ?_|refine .then_exit ?_|refine .block_exit ?_|refine .block_other rfl ?_); try refine .run TBok 99 rfl ?_))
  refine StL.step rfl rfl rfl (OpR.call fn_r01_trim rfl (rtrim_spec (base := base) w1 v xs (by first | assumption | exact Ext.refl _ | (apply Blk.ext; assumption; (repeat first | assumption | refine Ext.trans ?_ (by assumption))) | (apply CanO.ext; assumption; (repeat first | assumption | refine Ext.trans ?_ (by assumption))) | (apply Den.ext; assumption; (repeat first | assumption | refine Ext.trans ?_ (by assumption))) | (apply Sl.ext; assumption; (repeat first | assumption | refine Ext.trans ?_ (by assumption))) | (apply SlO.ext; assumption; (repeat first | assumption | refine Ext.trans ?_ (by assumption))) | (apply Dn.ext; assumption; (repeat first | assumption | refine Ext.trans ?_ (by assumption))) | (apply It.ext; assumption; (repeat first | assumption | refine Ext.trans ?_ (by assumption))) | (repeat first | assumption | refine Ext.trans ?_ (by assumption))) hlen (Nat.le_trans hbase hx1.size))) ?_
  rintro sl w2 ⟨hx2, hsl⟩
  obtain ⟨p, cap, rfl, _⟩ := hsl.sl.form
  have hcan : CanO base w2 (IntV (decide (sg neg (val xs) < 0)) (.slice p (limbs (val xs)).length cap)) (sg neg (val xs)) := by
    refine ⟨p, cap, ?_, ?_⟩
    · rw [sg_abs]
    · rw [sg_abs]; exact hsl
  have fin : ∀ {E : List (Nat × Value)} {ops : Array Oper} {af : Array Edge} {pos : String} {Q : Exit → Act → World → Prop}, look E 4 = some (.pointer (some ⟨w.heap.size, 0, none⟩)) → look E 15 = some (IntV (decide (sg neg (val xs) < 0)) (.slice p (limbs (val xs)).length cap)) →
      (∀ w', Ext w w' → CanO base w' (IntV (decide (sg neg (val xs) < 0)) (.slice p (limbs (val xs)).length cap)) (sg neg (val xs)) → (∀ (fn : Func) (Φ : Value → World → Prop), fn.results = #[.cell 4 24] → Φ (IntV (decide (sg neg (val xs) < 0)) (.slice p (limbs (val xs)).length cap)) w' → Out 16 E w' .ret (bodyPost Try.prog fn (Ret Φ))) → Out 16 E w' .normal Q) →
      StL Try.prog 16 E w2 ops [⟨none, .store 24 (.tmp 4) (.tmp 15), 0, pos, af, none⟩] Q :=
    fun h4 h15 hQ => StL.finCan h4 h15 (hb1.ext hx2) rfl hcan (hx1.trans hx2) (Nat.le_refl _) hQ
  cases neg with
  | false =>
    (iterate 6 ((repeat with_reducible first|refine .nil ?_|refine .then_normal ?_|refine .block_normal ?_|refine .seq ?_|refine .block ?_|refine .skip ?_|refine .region ?_|refine .ret ?_|refine .then_ret ?_|refine .block_ret ?_|refine .exit ?_|refine .then_exit ?_|refine .block_exit ?_|refine .block_other rfl ?_); try refine .run TBok 99 rfl ?_))
    refine StL.step rfl rfl rfl (RunsTo.build TBok rfl rfl rfl rfl).op ?_
    rintro _ _ ⟨rfl, rfl⟩
    have e : decide (sg false (val xs) < 0) = false := decide_eq_false (by simp [sg])
    rw [e] at fin hcan
    refine fin rfl rfl ?_
    intro w' hxf hcf fin
    (repeat with_reducible first|refine .nil ?_|refine .then_normal ?_|refine .block_normal ?_|refine .seq ?_|refine .block ?_|refine .skip ?_|refine .region ?_|refine .ret ?_|refine .then_ret ?_|refine .block_ret ?_|refine .exit ?_|refine .then_exit ?_|refine .block_exit ?_|refine .block_other rfl ?_)
    exact fin _ _ rfl ⟨hxf, hcf⟩
  | true =>
    have e : decide (sg true (val xs) < 0) = decide (((limbs (val xs)).length : Int) > 0) := by
      by_cases h0 : val xs = 0
      · rw [h0]; rfl
      · have hpos : 0 < (limbs (val xs)).length := by
          rcases Nat.eq_zero_or_pos (limbs (val xs)).length with e | e
          · exact absurd (limbs_eq_nil.1 (List.eq_nil_of_length_eq_zero e)) h0
          · exact e
        rw [decide_eq_true (show sg true (val xs) < 0 by simp [sg]; omega), decide_eq_true (by omega)]
    rw [e] at fin hcan
    (iterate 6 ((repeat with_reducible first|refine .nil ?_|refine .then_normal ?_|refine .block_normal ?_|refine .seq ?_|refine .block ?_|refine .skip ?_|refine .region ?_|refine .ret ?_|refine .then_ret ?_|refine .block_ret ?_|refine .exit ?_|refine .then_exit ?_|refine .block_exit ?_|refine .block_other rfl ?_); try refine .run TBok 99 rfl ?_))
    refine StL.step rfl rfl rfl (RunsTo.build TBok rfl rfl rfl rfl).op ?_
    rintro _ _ ⟨rfl, rfl⟩
    refine fin rfl rfl ?_
    intro w' hxf hcf fin
    (repeat with_reducible first|refine .nil ?_|refine .then_normal ?_|refine .block_normal ?_|refine .seq ?_|refine .block ?_|refine .skip ?_|refine .region ?_|refine .ret ?_|refine .then_ret ?_|refine .block_ret ?_|refine .exit ?_|refine .then_exit ?_|refine .block_exit ?_|refine .block_other rfl ?_)
    exact fin _ _ rfl ⟨hxf, hcf⟩

set_option maxRecDepth 8000 in
theorem rword_spec {base : Nat} (w : World) (neg : Bool) (m : Nat) (hm : m < 18446744073709551616) (hbase : base ≤ w.heap.size) :
    Calls Try.prog 66 #[.bool neg, .int .u64 m] w (Ret fun r w' => Ext w w' ∧ CanO base w' r (sg neg m)) := by
  refine calls_of_St (args := [_, _]) Try.func66 rfl Try.ntmps66 rfl ?_
  (repeat with_reducible first|refine .nil ?_|refine .then_normal ?_|refine .block_normal ?_|refine .seq ?_|refine .block ?_|refine .skip ?_|refine .region ?_|refine .ret ?_|refine .then_ret ?_|refine .block_ret ?_|refine .exit ?_|refine .then_exit ?_|refine .block_exit ?_|refine .block_other rfl ?_)
  refine StL.step rfl rfl rfl (OpR.alloc TBok rfl) ?_
  rintro _ w1 ⟨rfl, hb1, hx1, hz1⟩
  (iterate 6 ((repeat with_reducible first|refine .nil ?_|refine .then_normal ?_|refine .block_normal ?_|refine .seq ?_|refine .block ?_|refine .skip ?_|refine .region ?_|refine .ret ?_|refine .then_ret ?_|refine .block_ret ?_|refine .exit ?_|refine .then_exit ?_|refine .block_exit ?_|refine .block_other rfl ?_); try refine .run TBok 99 rfl ?_))
  have e1 : IntKind.u32.wrap (m : Int) = ((m % 4294967296 : Nat) : Int) := by rw [wrap_u32]; omega
  have e2 : IntKind.u32.wrap ((m : Int) / 2 ^ 32) = ((m / 4294967296 % 4294967296 : Nat) : Int) := by rw [wrap_u32, show ((2 : Int) ^ 32) = 4294967296 from rfl]; omega
  refine StL.step rfl rfl rfl (OpR.pair TBok rfl rfl rfl rfl rfl) ?_
  rintro _ w2 ⟨rfl, hb2, hx2, hz2⟩
  rw [e1, e2] at hb2
  have hsl : Sl w2 (.slice (some ⟨w1.heap.size, 0, none⟩) 2 2) [m % 4294967296, m / 4294967296 % 4294967296] :=
    ⟨hb2.row rfl (by simp) (by simp) rfl, by intro x hx; simp at hx; omega⟩
  refine StL.step rfl rfl rfl (OpR.call fn_r01_Make rfl (make_spec (base := base) w2 neg _ _ hsl (by simp) (Nat.le_trans hbase (hx1.trans hx2).size))) ?_
  rintro r w3 ⟨hx3, hr⟩
  rw [val_two m hm] at hr
  refine StL.finCan rfl rfl ((hb1.ext hx2).ext hx3) rfl hr ((hx1.trans hx2).trans hx3) (Nat.le_refl _) ?_
  intro w' hxf hcf fin
  (repeat with_reducible first|refine .nil ?_|refine .then_normal ?_|refine .block_normal ?_|refine .seq ?_|refine .block ?_|refine .skip ?_|refine .region ?_|refine .ret ?_|refine .then_ret ?_|refine .block_ret ?_|refine .exit ?_|refine .then_exit ?_|refine .block_exit ?_|refine .block_other rfl ?_)
  exact fin _ _ rfl ⟨hxf, hcf⟩

set_option maxRecDepth 4000 in
theorem rsmall_spec {base : Nat} (w : World) (a : Int) (h0 : -9223372036854775808 ≤ a) (h1 : a ≤ 9223372036854775807) (hbase : base ≤ w.heap.size) :
    Calls Try.prog 28 #[.int .i64 a] w (Ret fun r w' => Ext w w' ∧ CanO base w' r a) := by
  refine calls_of_St (args := [_]) Try.func28 rfl Try.ntmps28 rfl ?_
  (repeat with_reducible first|refine .nil ?_|refine .then_normal ?_|refine .block_normal ?_|refine .seq ?_|refine .block ?_|refine .skip ?_|refine .region ?_|refine .ret ?_|refine .then_ret ?_|refine .block_ret ?_|refine .exit ?_|refine .then_exit ?_|refine .block_exit ?_|refine .block_other rfl ?_)
  refine StL.step rfl rfl rfl (OpR.alloc TBok rfl) ?_
  rintro _ w1 ⟨rfl, hb1, hx1, hz1⟩
  (iterate 6 ((repeat with_reducible first|refine .nil ?_|refine .then_normal ?_|refine .block_normal ?_|refine .seq ?_|refine .block ?_|refine .skip ?_|refine .region ?_|refine .ret ?_|refine .then_ret ?_|refine .block_ret ?_|refine .exit ?_|refine .then_exit ?_|refine .block_exit ?_|refine .block_other rfl ?_); try refine .run TBok 99 rfl ?_))
  by_cases hneg : a < 0
  · refine St.condT rfl (by simp; omega) ?_
    (iterate 6 ((repeat with_reducible first|refine .nil ?_|refine .then_normal ?_|refine .block_normal ?_|refine .seq ?_|refine .block ?_|refine .skip ?_|refine .region ?_|refine .ret ?_|refine .then_ret ?_|refine .block_ret ?_|refine .exit ?_|refine .then_exit ?_|refine .block_exit ?_|refine .block_other rfl ?_); try refine .run TBok 99 rfl ?_))
    obtain ⟨m, hm⟩ : ∃ m : Nat, a = -(m : Int) := ⟨a.natAbs, by omega⟩
    subst hm
    refine StL.as TBok 1 (.int .u64 (m : Int)) rfl (by congr 1; simp only [wrap_u64]; omega) ?_
    refine StL.step rfl rfl rfl (OpR.call fn_r01_word rfl (rword_spec (base := base) w1 true m (by omega) (Nat.le_trans hbase hx1.size))) ?_
    rintro v w3 ⟨hx3, hv⟩
    refine StL.finCan rfl rfl (hb1.ext hx3) rfl hv (hx1.trans hx3) (Nat.le_refl _) ?_
    intro w' hxf hcf fin
    (repeat with_reducible first|refine .nil ?_|refine .then_normal ?_|refine .block_normal ?_|refine .seq ?_|refine .block ?_|refine .skip ?_|refine .region ?_|refine .ret ?_|refine .then_ret ?_|refine .block_ret ?_|refine .exit ?_|refine .then_exit ?_|refine .block_exit ?_|refine .block_other rfl ?_)
    exact fin _ _ rfl ⟨hxf, hcf⟩
  · refine St.condF rfl (by simp; omega) ?_
    (iterate 6 ((repeat with_reducible first|refine .nil ?_|refine .then_normal ?_|refine .block_normal ?_|refine .seq ?_|refine .block ?_|refine .skip ?_|refine .region ?_|refine .ret ?_|refine .then_ret ?_|refine .block_ret ?_|refine .exit ?_|refine .then_exit ?_|refine .block_exit ?_|refine .block_other rfl ?_); try refine .run TBok 99 rfl ?_))
    obtain ⟨m, rfl⟩ : ∃ m : Nat, a = (m : Int) := ⟨a.natAbs, by omega⟩
    refine StL.as TBok 1 (.int .u64 (m : Int)) rfl (by rw [u64_id (by omega) (by omega)]) ?_
    refine StL.step rfl rfl rfl (OpR.call fn_r01_word rfl (rword_spec (base := base) w1 false m (by omega) (Nat.le_trans hbase hx1.size))) ?_
    rintro v w3 ⟨hx3, hv⟩
    refine StL.finCan rfl rfl (hb1.ext hx3) rfl hv (hx1.trans hx3) (Nat.le_refl _) ?_
    intro w' hxf hcf fin
    (repeat with_reducible first|refine .nil ?_|refine .then_normal ?_|refine .block_normal ?_|refine .seq ?_|refine .block ?_|refine .skip ?_|refine .region ?_|refine .ret ?_|refine .then_ret ?_|refine .block_ret ?_|refine .exit ?_|refine .then_exit ?_|refine .block_exit ?_|refine .block_other rfl ?_)
    exact fin _ _ rfl ⟨hxf, hcf⟩

end Go.Qf

/- quadformref01: cmp, Same, Sign, Cmp, low, Int64, Normalize, Neg, Abs. -/
namespace Go.Qf
open Go Go.RowKit Go.Proofs

/-- How two lists of limbs compare. -/
def cmpL (xs ys : List Nat) : Int := if xs.length < ys.length then -1 else if ys.length < xs.length then 1 else cmpN (val xs) (val ys)

theorem cmpL_limbs (a b : Nat) : cmpL (limbs a) (limbs b) = cmpN a b := by
  unfold cmpL
  rw [val_limbs, val_limbs]
  split
  · rename_i h1
    have := limbs_lt_of_length h1
    simp [cmpN, this]
  · split
    · rename_i _ h2
      have := limbs_lt_of_length h2
      unfold cmpN; rw [if_neg (by omega), if_pos this]
    · rfl

theorem val_inj_len : ∀ {xs ys : List Nat}, Lim xs → Lim ys → xs.length = ys.length → val xs = val ys → xs = ys := by
  intro xs
  induction xs with
  | nil => intro ys _ _ hl _; exact (List.eq_nil_of_length_eq_zero hl.symm).symm
  | cons x r ih =>
    intro ys hx hy hl hv
    cases ys with
    | nil => simp at hl
    | cons y s =>
      obtain ⟨hx1, hx2⟩ := Lim.cons.1 hx
      obtain ⟨hy1, hy2⟩ := Lim.cons.1 hy
      simp only [val] at hv
      have e1 : x = y := by omega
      have e2 : val r = val s := by omega
      rw [e1, ih hx2 hy2 (by simpa using hl) e2]

theorem cmpL_eq {xs ys : List Nat} (hx : Lim xs) (hy : Lim ys) : cmpL xs ys = 0 ↔ xs = ys := by
  unfold cmpL
  constructor
  · intro h
    split at h
    · omega
    · split at h
      · omega
      · refine val_inj_len hx hy (by omega) ?_
        unfold cmpN at h
        split at h
        · omega
        · split at h
          · omega
          · omega
  · rintro rfl
    simp [cmpN]

theorem cmpL_bound (xs ys : List Nat) : -1 ≤ cmpL xs ys ∧ cmpL xs ys ≤ 1 := by
  unfold cmpL
  split
  · omega
  · split
    · omega
    · exact cmpN_bound _ _

set_option maxRecDepth 8000 in
theorem rcmp_spec (w : World) (u v : Value) (xs ys : List Nat) (h : Sl w u xs) (k : Sl w v ys) (hlen : xs.length ≤ 1000000000) (hl : ys.length ≤ 1000000000) :
    Calls Try.prog 65 #[u, v] w (Ret fun r w' => Ext w w' ∧ r = .int .i64 (cmpL xs ys)) := by
  obtain ⟨p, c, rfl, _⟩ := h.form
  obtain ⟨q, d, rfl, _⟩ := k.form
  obtain ⟨R, hR⟩ : ∃ R, R = cmpL xs ys := ⟨_, rfl⟩
  rw [← hR]
  unfold cmpL at hR
  refine calls_of_St (args := [_, _]) Try.func65 rfl Try.ntmps65 rfl ?_
  (iterate 6 ((repeat with_reducible first|refine .nil ?_|refine .then_normal ?_|refine .block_normal ?_|refine .seq ?_|refine .block ?_|refine .skip ?_|refine .region ?_|refine .ret ?_|refine .then_ret ?_|refine .block_ret ?_|refine .exit ?_|refine .then_exit ?_|refine .block_exit ?_|refine .block_other rfl ?_); try refine .run TBok 99 rfl ?_))
  by_cases hne : xs.length = ys.length
  · rw [if_neg (by omega), if_neg (by omega)] at hR
    refine St.condF rfl (by simp; omega) ?_
    (iterate 6 ((repeat with_reducible first|refine .nil ?_|refine .then_normal ?_|refine .block_normal ?_|refine .seq ?_|refine .block ?_|refine .skip ?_|refine .region ?_|refine .ret ?_|refine .then_ret ?_|refine .block_ret ?_|refine .exit ?_|refine .then_exit ?_|refine .block_exit ?_|refine .block_other rfl ?_); try refine .run TBok 99 rfl ?_))
    refine St.loop (fun j : Nat => [(0, .slice p xs.length c), (1, .slice q ys.length d), (5, .int .i64 ((j : Int) - 1))]) (fun j w' => Ext w w' ∧ j ≤ xs.length ∧ xs.drop j = ys.drop j) (fun j => j) xs.length ⟨rfl, rfl, ?_, trivial⟩ ⟨Ext.refl _, by omega, ?_⟩ ?_
    · show some (Value.int .i64 (IntKind.i64.wrap ((xs.length : Int) - 1))) = _
      rw [i64_id (by omega) (by omega)]
    · rw [List.drop_length, hne, List.drop_length]
    rintro j w' ⟨hx, hj, heq⟩
    have hA := h.ext hx
    have hB := k.ext hx
    by_cases h0 : j = 0
    · subst h0
      (repeat with_reducible first|refine .nil ?_|refine .then_normal ?_|refine .block_normal ?_|refine .seq ?_|refine .block ?_|refine .skip ?_|refine .region ?_|refine .ret ?_|refine .then_ret ?_|refine .block_ret ?_|refine .exit ?_|refine .then_exit ?_|refine .block_exit ?_|refine .block_other rfl ?_)
      refine StL.as TBok 2 (.bool false) rfl (bool_false (by omega)) ?_
      (repeat with_reducible first|refine .nil ?_|refine .then_normal ?_|refine .block_normal ?_|refine .seq ?_|refine .block ?_|refine .skip ?_|refine .region ?_|refine .ret ?_|refine .then_ret ?_|refine .block_ret ?_|refine .exit ?_|refine .then_exit ?_|refine .block_exit ?_|refine .block_other rfl ?_)
      refine St.condF rfl rfl ?_
      (iterate 6 ((repeat with_reducible first|refine .nil ?_|refine .then_normal ?_|refine .block_normal ?_|refine .seq ?_|refine .block ?_|refine .skip ?_|refine .region ?_|refine .ret ?_|refine .then_ret ?_|refine .block_ret ?_|refine .exit ?_|refine .then_exit ?_|refine .block_exit ?_|refine .block_other rfl ?_); try refine .run TBok 99 rfl ?_))
      have : xs = ys := by simpa using heq
      subst this
      exact Out.ret1 rfl rfl ⟨hx, by rw [hR]; simp [cmpN]⟩
    · obtain ⟨i, rfl⟩ : ∃ i, j = i + 1 := ⟨j - 1, by omega⟩
      have hxi : xs[i]? = some xs[i] := by simp
      generalize xs[i] = x at hxi
      have hyi : ys[i]? = some ys[i] := by simp
      generalize ys[i] = y at hyi
      have e0 : (((i + 1 : Nat) : Int) - 1) = (i : Int) := by omega
      rw [e0]
      (repeat with_reducible first|refine .nil ?_|refine .then_normal ?_|refine .block_normal ?_|refine .seq ?_|refine .block ?_|refine .skip ?_|refine .region ?_|refine .ret ?_|refine .then_ret ?_|refine .block_ret ?_|refine .exit ?_|refine .then_exit ?_|refine .block_exit ?_|refine .block_other rfl ?_)
      refine StL.as TBok 2 (.bool true) rfl (bool_true (by omega)) ?_
      (repeat with_reducible first|refine .nil ?_|refine .then_normal ?_|refine .block_normal ?_|refine .seq ?_|refine .block ?_|refine .skip ?_|refine .region ?_|refine .ret ?_|refine .then_ret ?_|refine .block_ret ?_|refine .exit ?_|refine .then_exit ?_|refine .block_exit ?_|refine .block_other rfl ?_)
      refine St.condT rfl rfl ?_
      (repeat with_reducible first|refine .nil ?_|refine .then_normal ?_|refine .block_normal ?_|refine .seq ?_|refine .block ?_|refine .skip ?_|refine .region ?_|refine .ret ?_|refine .then_ret ?_|refine .block_ret ?_|refine .exit ?_|refine .then_exit ?_|refine .block_exit ?_|refine .block_other rfl ?_)
      refine St.quiet TBfol (by kernel_rfl) ?_
      refine .run TBok 99 rfl ?_
      refine QL.elem TBok i (u32 x) hA.1 (hA.get hxi) rfl rfl rfl rfl rfl rfl rfl rfl rfl rfl rfl (fun _ => rfl) ?_
      intro p1
      refine .run TBok 99 rfl ?_
      refine QL.elem TBok i (u32 y) hB.1 (hB.get hyi) rfl rfl rfl rfl rfl rfl rfl rfl rfl rfl rfl (fun _ => rfl) ?_
      intro p2
      refine .run TBok 99 rfl ?_
      refine QL.nil fun m1 => ?_
      (repeat with_reducible first|refine .nil ?_|refine .then_normal ?_|refine .block_normal ?_|refine .seq ?_|refine .block ?_|refine .skip ?_|refine .region ?_|refine .ret ?_|refine .then_ret ?_|refine .block_ret ?_|refine .exit ?_|refine .then_exit ?_|refine .block_exit ?_|refine .block_other rfl ?_)
      by_cases hxy : x = y
      · subst hxy
        refine St.condF rfl (by simp) ?_
        (iterate 6 ((repeat with_reducible first|refine .nil ?_|refine .then_normal ?_|refine .block_normal ?_|refine .seq ?_|refine .block ?_|refine .skip ?_|refine .region ?_|refine .ret ?_|refine .then_ret ?_|refine .block_ret ?_|refine .exit ?_|refine .then_exit ?_|refine .block_exit ?_|refine .block_other rfl ?_); try refine .run TBok 99 rfl ?_))
        refine Out.again i ⟨rfl, rfl, ?_, trivial⟩ ⟨hx.drewN _, by omega, drop_succ_eq hxi hyi heq⟩ (by omega)
        show some (Value.int .i64 (IntKind.i64.wrap ((i : Int) - 1))) = _
        rw [i64_id (by omega) (by omega)]
      refine St.condT rfl (by simp; omega) ?_
      (repeat with_reducible first|refine .nil ?_|refine .then_normal ?_|refine .block_normal ?_|refine .seq ?_|refine .block ?_|refine .skip ?_|refine .region ?_|refine .ret ?_|refine .then_ret ?_|refine .block_ret ?_|refine .exit ?_|refine .then_exit ?_|refine .block_exit ?_|refine .block_other rfl ?_)
      refine St.quiet TBfol (by kernel_rfl) ?_
      refine .run TBok 99 rfl ?_
      refine QL.elem TBok i (u32 x) (hA.drewN m1).1 (hA.get hxi) rfl rfl rfl rfl rfl rfl rfl rfl rfl rfl rfl (fun _ => rfl) ?_
      intro p3
      refine .run TBok 99 rfl ?_
      refine QL.elem TBok i (u32 y) (hB.drewN m1).1 (hB.get hyi) rfl rfl rfl rfl rfl rfl rfl rfl rfl rfl rfl (fun _ => rfl) ?_
      intro p4
      refine .run TBok 99 rfl ?_
      refine QL.nil fun m2 => ?_
      (repeat with_reducible first|refine .nil ?_|refine .then_normal ?_|refine .block_normal ?_|refine .seq ?_|refine .block ?_|refine .skip ?_|refine .region ?_|refine .ret ?_|refine .then_ret ?_|refine .block_ret ?_|refine .exit ?_|refine .then_exit ?_|refine .block_exit ?_|refine .block_other rfl ?_)
      by_cases hlt : x < y
      · refine St.condT rfl (by simp; omega) ?_
        (iterate 6 ((repeat with_reducible first|refine .nil ?_|refine .then_normal ?_|refine .block_normal ?_|refine .seq ?_|refine .block ?_|refine .skip ?_|refine .region ?_|refine .ret ?_|refine .then_ret ?_|refine .block_ret ?_|refine .exit ?_|refine .then_exit ?_|refine .block_exit ?_|refine .block_other rfl ?_); try refine .run TBok 99 rfl ?_))
        have := val_lt_of xs ys h.2 hne i x y hxi hyi hlt heq
        exact Out.ret1 rfl rfl ⟨(hx.drewN _).drewN _, by rw [hR]; simp [cmpN, this]⟩
      · refine St.condF rfl (by simp; omega) ?_
        (iterate 6 ((repeat with_reducible first|refine .nil ?_|refine .then_normal ?_|refine .block_normal ?_|refine .seq ?_|refine .block ?_|refine .skip ?_|refine .region ?_|refine .ret ?_|refine .then_ret ?_|refine .block_ret ?_|refine .exit ?_|refine .then_exit ?_|refine .block_exit ?_|refine .block_other rfl ?_); try refine .run TBok 99 rfl ?_))
        have := val_lt_of ys xs k.2 hne.symm i y x hyi hxi (by omega) heq.symm
        exact Out.ret1 rfl rfl ⟨(hx.drewN _).drewN _, by rw [hR]; unfold cmpN; rw [if_neg (by omega), if_pos this]⟩
  · refine St.condT rfl (by simp; omega) ?_
    (iterate 6 ((repeat with_reducible first|refine .nil ?_|refine .then_normal ?_|refine .block_normal ?_|refine .seq ?_|refine .block ?_|refine .skip ?_|refine .region ?_|refine .ret ?_|refine .then_ret ?_|refine .block_ret ?_|refine .exit ?_|refine .then_exit ?_|refine .block_exit ?_|refine .block_other rfl ?_); try refine .run TBok 99 rfl ?_))
    by_cases h1 : xs.length < ys.length
    · rw [if_pos h1] at hR
      refine St.condT rfl (by simp; omega) ?_
      (iterate 6 ((repeat with_reducible first|refine .nil ?_|refine .then_normal ?_|refine .block_normal ?_|refine .seq ?_|refine .block ?_|refine .skip ?_|refine .region ?_|refine .ret ?_|refine .then_ret ?_|refine .block_ret ?_|refine .exit ?_|refine .then_exit ?_|refine .block_exit ?_|refine .block_other rfl ?_); try refine .run TBok 99 rfl ?_))
      exact Out.ret1 rfl rfl ⟨Ext.refl _, by rw [hR]⟩
    · rw [if_neg h1, if_pos (by omega)] at hR
      refine St.condF rfl (by simp; omega) ?_
      (iterate 6 ((repeat with_reducible first|refine .nil ?_|refine .then_normal ?_|refine .block_normal ?_|refine .seq ?_|refine .block ?_|refine .skip ?_|refine .region ?_|refine .ret ?_|refine .then_ret ?_|refine .block_ret ?_|refine .exit ?_|refine .then_exit ?_|refine .block_exit ?_|refine .block_other rfl ?_); try refine .run TBok 99 rfl ?_))
      exact Out.ret1 rfl rfl ⟨Ext.refl _, by rw [hR]⟩

set_option maxRecDepth 8000 in
theorem same_spec (w : World) (x y : Value) (na nb : Bool) (xs ys : List Nat) (h : Den w x na xs) (k : Den w y nb ys) (hlen : xs.length ≤ 100000000) (hl : ys.length ≤ 100000000) :
    Calls Try.prog 27 #[x, y] w (Ret fun r w' => Ext w w' ∧ r = .bool (decide (na = nb ∧ xs = ys))) := by
  obtain ⟨p, cap, rfl, hs⟩ := h
  obtain ⟨q, cb, rfl, ks⟩ := k
  refine calls_of_St (args := [_, _]) Try.func27 rfl Try.ntmps27 rfl ?_
  (repeat with_reducible first|refine .nil ?_|refine .then_normal ?_|refine .block_normal ?_|refine .seq ?_|refine .block ?_|refine .skip ?_|refine .region ?_|refine .ret ?_|refine .then_ret ?_|refine .block_ret ?_|refine .exit ?_|refine .then_exit ?_|refine .block_exit ?_|refine .block_other rfl ?_)
  refine StL.step rfl rfl rfl (OpR.box rfl) ?_
  rintro _ w1 ⟨rfl, hb1, hx1, hz1⟩
  refine StL.step rfl rfl rfl (OpR.box rfl) ?_
  rintro _ w2 ⟨rfl, hb2, hx2, hz2⟩
  (iterate 6 ((repeat with_reducible first|refine .nil ?_|refine .then_normal ?_|refine .block_normal ?_|refine .seq ?_|refine .block ?_|refine .skip ?_|refine .region ?_|refine .ret ?_|refine .then_ret ?_|refine .block_ret ?_|refine .exit ?_|refine .then_exit ?_|refine .block_exit ?_|refine .block_other rfl ?_); try refine .run TBok 99 rfl ?_))
  (refine StL.step rfl rfl rfl (RunsTo.load TBok rfl rfl rfl (Blk.cell (by first | assumption | exact Ext.refl _ | (apply Blk.ext; assumption; (repeat first | assumption | refine Ext.trans ?_ (by assumption))) | (apply CanO.ext; assumption; (repeat first | assumption | refine Ext.trans ?_ (by assumption))) | (apply Den.ext; assumption; (repeat first | assumption | refine Ext.trans ?_ (by assumption))) | (apply Sl.ext; assumption; (repeat first | assumption | refine Ext.trans ?_ (by assumption))) | (apply SlO.ext; assumption; (repeat first | assumption | refine Ext.trans ?_ (by assumption))) | (apply Dn.ext; assumption; (repeat first | assumption | refine Ext.trans ?_ (by assumption))) | (apply It.ext; assumption; (repeat first | assumption | refine Ext.trans ?_ (by assumption))) | (repeat first | assumption | refine Ext.trans ?_ (by assumption))) rfl)).op ?_; rintro _ _ ⟨rfl, rfl⟩)
  (iterate 6 ((repeat with_reducible first|refine .nil ?_|refine .then_normal ?_|refine .block_normal ?_|refine .seq ?_|refine .block ?_|refine .skip ?_|refine .region ?_|refine .ret ?_|refine .then_ret ?_|refine .block_ret ?_|refine .exit ?_|refine .then_exit ?_|refine .block_exit ?_|refine .block_other rfl ?_); try refine .run TBok 99 rfl ?_))
  (refine StL.step rfl rfl rfl (RunsTo.load TBok rfl rfl rfl (Blk.cell (by first | assumption | exact Ext.refl _ | (apply Blk.ext; assumption; (repeat first | assumption | refine Ext.trans ?_ (by assumption))) | (apply CanO.ext; assumption; (repeat first | assumption | refine Ext.trans ?_ (by assumption))) | (apply Den.ext; assumption; (repeat first | assumption | refine Ext.trans ?_ (by assumption))) | (apply Sl.ext; assumption; (repeat first | assumption | refine Ext.trans ?_ (by assumption))) | (apply SlO.ext; assumption; (repeat first | assumption | refine Ext.trans ?_ (by assumption))) | (apply Dn.ext; assumption; (repeat first | assumption | refine Ext.trans ?_ (by assumption))) | (apply It.ext; assumption; (repeat first | assumption | refine Ext.trans ?_ (by assumption))) | (repeat first | assumption | refine Ext.trans ?_ (by assumption))) rfl)).op ?_; rintro _ _ ⟨rfl, rfl⟩)
  refine StL.step rfl rfl rfl (RunsTo.boolEq TBok rfl rfl rfl).op ?_
  rintro _ _ ⟨rfl, rfl⟩
  by_cases hn : na = nb
  · subst hn
    rw [show (na == na) = true from by cases na <;> rfl]
    refine .run TBok 99 rfl ?_
    (refine StL.step rfl rfl rfl (RunsTo.load TBok rfl rfl rfl (Blk.cell (by first | assumption | exact Ext.refl _ | (apply Blk.ext; assumption; (repeat first | assumption | refine Ext.trans ?_ (by assumption))) | (apply CanO.ext; assumption; (repeat first | assumption | refine Ext.trans ?_ (by assumption))) | (apply Den.ext; assumption; (repeat first | assumption | refine Ext.trans ?_ (by assumption))) | (apply Sl.ext; assumption; (repeat first | assumption | refine Ext.trans ?_ (by assumption))) | (apply SlO.ext; assumption; (repeat first | assumption | refine Ext.trans ?_ (by assumption))) | (apply Dn.ext; assumption; (repeat first | assumption | refine Ext.trans ?_ (by assumption))) | (apply It.ext; assumption; (repeat first | assumption | refine Ext.trans ?_ (by assumption))) | (repeat first | assumption | refine Ext.trans ?_ (by assumption))) rfl)).op ?_; rintro _ _ ⟨rfl, rfl⟩)
    refine .run TBok 99 rfl ?_
    (refine StL.step rfl rfl rfl (RunsTo.load TBok rfl rfl rfl (Blk.cell (by first | assumption | exact Ext.refl _ | (apply Blk.ext; assumption; (repeat first | assumption | refine Ext.trans ?_ (by assumption))) | (apply CanO.ext; assumption; (repeat first | assumption | refine Ext.trans ?_ (by assumption))) | (apply Den.ext; assumption; (repeat first | assumption | refine Ext.trans ?_ (by assumption))) | (apply Sl.ext; assumption; (repeat first | assumption | refine Ext.trans ?_ (by assumption))) | (apply SlO.ext; assumption; (repeat first | assumption | refine Ext.trans ?_ (by assumption))) | (apply Dn.ext; assumption; (repeat first | assumption | refine Ext.trans ?_ (by assumption))) | (apply It.ext; assumption; (repeat first | assumption | refine Ext.trans ?_ (by assumption))) | (repeat first | assumption | refine Ext.trans ?_ (by assumption))) rfl)).op ?_; rintro _ _ ⟨rfl, rfl⟩)
    by_cases he : xs.length = ys.length
    · refine StL.as TBok 2 (.bool true) rfl (by simp [he]) ?_
      refine .run TBok 99 rfl ?_
      (refine StL.step rfl rfl rfl (RunsTo.load TBok rfl rfl rfl (Blk.cell (by first | assumption | exact Ext.refl _ | (apply Blk.ext; assumption; (repeat first | assumption | refine Ext.trans ?_ (by assumption))) | (apply CanO.ext; assumption; (repeat first | assumption | refine Ext.trans ?_ (by assumption))) | (apply Den.ext; assumption; (repeat first | assumption | refine Ext.trans ?_ (by assumption))) | (apply Sl.ext; assumption; (repeat first | assumption | refine Ext.trans ?_ (by assumption))) | (apply SlO.ext; assumption; (repeat first | assumption | refine Ext.trans ?_ (by assumption))) | (apply Dn.ext; assumption; (repeat first | assumption | refine Ext.trans ?_ (by assumption))) | (apply It.ext; assumption; (repeat first | assumption | refine Ext.trans ?_ (by assumption))) | (repeat first | assumption | refine Ext.trans ?_ (by assumption))) rfl)).op ?_; rintro _ _ ⟨rfl, rfl⟩)
      refine .run TBok 99 rfl ?_
      (refine StL.step rfl rfl rfl (RunsTo.load TBok rfl rfl rfl (Blk.cell (by first | assumption | exact Ext.refl _ | (apply Blk.ext; assumption; (repeat first | assumption | refine Ext.trans ?_ (by assumption))) | (apply CanO.ext; assumption; (repeat first | assumption | refine Ext.trans ?_ (by assumption))) | (apply Den.ext; assumption; (repeat first | assumption | refine Ext.trans ?_ (by assumption))) | (apply Sl.ext; assumption; (repeat first | assumption | refine Ext.trans ?_ (by assumption))) | (apply SlO.ext; assumption; (repeat first | assumption | refine Ext.trans ?_ (by assumption))) | (apply Dn.ext; assumption; (repeat first | assumption | refine Ext.trans ?_ (by assumption))) | (apply It.ext; assumption; (repeat first | assumption | refine Ext.trans ?_ (by assumption))) | (repeat first | assumption | refine Ext.trans ?_ (by assumption))) rfl)).op ?_; rintro _ _ ⟨rfl, rfl⟩)
      refine StL.step rfl rfl rfl (OpR.call fn_r01_cmp rfl (rcmp_spec w2 _ _ xs ys (by first | assumption | exact Ext.refl _ | (apply Blk.ext; assumption; (repeat first | assumption | refine Ext.trans ?_ (by assumption))) | (apply CanO.ext; assumption; (repeat first | assumption | refine Ext.trans ?_ (by assumption))) | (apply Den.ext; assumption; (repeat first | assumption | refine Ext.trans ?_ (by assumption))) | (apply Sl.ext; assumption; (repeat first | assumption | refine Ext.trans ?_ (by assumption))) | (apply SlO.ext; assumption; (repeat first | assumption | refine Ext.trans ?_ (by assumption))) | (apply Dn.ext; assumption; (repeat first | assumption | refine Ext.trans ?_ (by assumption))) | (apply It.ext; assumption; (repeat first | assumption | refine Ext.trans ?_ (by assumption))) | (repeat first | assumption | refine Ext.trans ?_ (by assumption))) (by first | assumption | exact Ext.refl _ | (apply Blk.ext; assumption; (repeat first | assumption | refine Ext.trans ?_ (by assumption))) | (apply CanO.ext; assumption; (repeat first | assumption | refine Ext.trans ?_ (by assumption))) | (apply Den.ext; assumption; (repeat first | assumption | refine Ext.trans ?_ (by assumption))) | (apply Sl.ext; assumption; (repeat first | assumption | refine Ext.trans ?_ (by assumption))) | (apply SlO.ext; assumption; (repeat first | assumption | refine Ext.trans ?_ (by assumption))) | (apply Dn.ext; assumption; (repeat first | assumption | refine Ext.trans ?_ (by assumption))) | (apply It.ext; assumption; (repeat first | assumption | refine Ext.trans ?_ (by assumption))) | (repeat first | assumption | refine Ext.trans ?_ (by assumption))) (by omega) (by omega))) ?_
      rintro _ w3 ⟨hx3, rfl⟩
      (iterate 6 ((repeat with_reducible first|refine .nil ?_|refine .then_normal ?_|refine .block_normal ?_|refine .seq ?_|refine .block ?_|refine .skip ?_|refine .region ?_|refine .ret ?_|refine .then_ret ?_|refine .block_ret ?_|refine .exit ?_|refine .then_exit ?_|refine .block_exit ?_|refine .block_other rfl ?_); try refine .run TBok 99 rfl ?_))
      refine Out.ret1 rfl rfl ⟨(by first | assumption | exact Ext.refl _ | (apply Blk.ext; assumption; (repeat first | assumption | refine Ext.trans ?_ (by assumption))) | (apply CanO.ext; assumption; (repeat first | assumption | refine Ext.trans ?_ (by assumption))) | (apply Den.ext; assumption; (repeat first | assumption | refine Ext.trans ?_ (by assumption))) | (apply Sl.ext; assumption; (repeat first | assumption | refine Ext.trans ?_ (by assumption))) | (apply SlO.ext; assumption; (repeat first | assumption | refine Ext.trans ?_ (by assumption))) | (apply Dn.ext; assumption; (repeat first | assumption | refine Ext.trans ?_ (by assumption))) | (apply It.ext; assumption; (repeat first | assumption | refine Ext.trans ?_ (by assumption))) | (repeat first | assumption | refine Ext.trans ?_ (by assumption))), ?_⟩
      congr 1
      have := cmpL_eq hs.2 ks.2
      by_cases hc : cmpL xs ys = 0
      · rw [hc, decide_eq_true (⟨rfl, this.1 hc⟩ : na = na ∧ xs = ys)]; rfl
      · rw [decide_eq_false (fun h => hc (this.2 h.2))]; simpa using hc
    · refine StL.as TBok 2 (.bool false) rfl (by simp; omega) ?_
      (iterate 6 ((repeat with_reducible first|refine .nil ?_|refine .then_normal ?_|refine .block_normal ?_|refine .seq ?_|refine .block ?_|refine .skip ?_|refine .region ?_|refine .ret ?_|refine .then_ret ?_|refine .block_ret ?_|refine .exit ?_|refine .then_exit ?_|refine .block_exit ?_|refine .block_other rfl ?_); try refine .run TBok 99 rfl ?_))
      refine Out.ret1 rfl rfl ⟨(by first | assumption | exact Ext.refl _ | (apply Blk.ext; assumption; (repeat first | assumption | refine Ext.trans ?_ (by assumption))) | (apply CanO.ext; assumption; (repeat first | assumption | refine Ext.trans ?_ (by assumption))) | (apply Den.ext; assumption; (repeat first | assumption | refine Ext.trans ?_ (by assumption))) | (apply Sl.ext; assumption; (repeat first | assumption | refine Ext.trans ?_ (by assumption))) | (apply SlO.ext; assumption; (repeat first | assumption | refine Ext.trans ?_ (by assumption))) | (apply Dn.ext; assumption; (repeat first | assumption | refine Ext.trans ?_ (by assumption))) | (apply It.ext; assumption; (repeat first | assumption | refine Ext.trans ?_ (by assumption))) | (repeat first | assumption | refine Ext.trans ?_ (by assumption))), ?_⟩
      rw [decide_eq_false]
      rintro ⟨_, rfl⟩
      exact he rfl
  · rw [show (na == nb) = false from by cases na <;> cases nb <;> simp_all]
    (iterate 6 ((repeat with_reducible first|refine .nil ?_|refine .then_normal ?_|refine .block_normal ?_|refine .seq ?_|refine .block ?_|refine .skip ?_|refine .region ?_|refine .ret ?_|refine .then_ret ?_|refine .block_ret ?_|refine .exit ?_|refine .then_exit ?_|refine .block_exit ?_|refine .block_other rfl ?_); try refine .run TBok 99 rfl ?_))
    refine Out.ret1 rfl rfl ⟨(by first | assumption | exact Ext.refl _ | (apply Blk.ext; assumption; (repeat first | assumption | refine Ext.trans ?_ (by assumption))) | (apply CanO.ext; assumption; (repeat first | assumption | refine Ext.trans ?_ (by assumption))) | (apply Den.ext; assumption; (repeat first | assumption | refine Ext.trans ?_ (by assumption))) | (apply Sl.ext; assumption; (repeat first | assumption | refine Ext.trans ?_ (by assumption))) | (apply SlO.ext; assumption; (repeat first | assumption | refine Ext.trans ?_ (by assumption))) | (apply Dn.ext; assumption; (repeat first | assumption | refine Ext.trans ?_ (by assumption))) | (apply It.ext; assumption; (repeat first | assumption | refine Ext.trans ?_ (by assumption))) | (repeat first | assumption | refine Ext.trans ?_ (by assumption))), ?_⟩
    rw [decide_eq_false (fun h => hn h.1)]

theorem same_can {b1 b2 : Nat} {w : World} {x y : Value} {a b : Int} (h : CanO b1 w x a) (k : CanO b2 w y b) (hs : sz a ≤ 100000000) (ks : sz b ≤ 100000000) :
    Calls Try.prog 27 #[x, y] w (Ret fun r w' => Ext w w' ∧ r = .bool (decide (a = b))) := by
  refine (same_spec w x y _ _ _ _ h.den' k.den' hs ks).mono ?_
  rintro e w' ⟨r, rfl, hx, rfl⟩
  refine ⟨_, rfl, hx, ?_⟩
  congr 1
  by_cases he : a = b
  · subst he; simp
  · rw [decide_eq_false he, decide_eq_false]
    rintro ⟨h1, h2⟩
    have h3 := limbs_inj h2
    have h4 : (a < 0) ↔ (b < 0) := by simpa using h1
    omega

set_option maxRecDepth 8000 in
theorem rsign_dn {w : World} {x : Value} {a : Int} (h : Dn w x a) : Calls Try.prog 34 #[x] w (Ret fun r w' => Ext w w' ∧ r = .int .i64 (signI a)) := by
  obtain ⟨neg, xs, ⟨p, cap, rfl, hs⟩, rfl, hlen⟩ := h
  refine calls_of_St (args := [_]) Try.func34 rfl Try.ntmps34 rfl ?_
  (repeat with_reducible first|refine .nil ?_|refine .then_normal ?_|refine .block_normal ?_|refine .seq ?_|refine .block ?_|refine .skip ?_|refine .region ?_|refine .ret ?_|refine .then_ret ?_|refine .block_ret ?_|refine .exit ?_|refine .then_exit ?_|refine .block_exit ?_|refine .block_other rfl ?_)
  refine StL.step rfl rfl rfl (OpR.box rfl) ?_
  rintro _ w1 ⟨rfl, hb1, hx1, hz1⟩
  (iterate 6 ((repeat with_reducible first|refine .nil ?_|refine .then_normal ?_|refine .block_normal ?_|refine .seq ?_|refine .block ?_|refine .skip ?_|refine .region ?_|refine .ret ?_|refine .then_ret ?_|refine .block_ret ?_|refine .exit ?_|refine .then_exit ?_|refine .block_exit ?_|refine .block_other rfl ?_); try refine .run TBok 99 rfl ?_))
  (refine StL.step rfl rfl rfl (RunsTo.load TBok rfl rfl rfl (Blk.cell (by first | assumption | exact Ext.refl _ | (apply Blk.ext; assumption; (repeat first | assumption | refine Ext.trans ?_ (by assumption))) | (apply CanO.ext; assumption; (repeat first | assumption | refine Ext.trans ?_ (by assumption))) | (apply Den.ext; assumption; (repeat first | assumption | refine Ext.trans ?_ (by assumption))) | (apply Sl.ext; assumption; (repeat first | assumption | refine Ext.trans ?_ (by assumption))) | (apply SlO.ext; assumption; (repeat first | assumption | refine Ext.trans ?_ (by assumption))) | (apply Dn.ext; assumption; (repeat first | assumption | refine Ext.trans ?_ (by assumption))) | (apply It.ext; assumption; (repeat first | assumption | refine Ext.trans ?_ (by assumption))) | (repeat first | assumption | refine Ext.trans ?_ (by assumption))) rfl)).op ?_; rintro _ _ ⟨rfl, rfl⟩)
  refine StL.step rfl rfl rfl (OpR.call fn_r01_trim rfl (rtrim_spec (base := 0) w1 _ xs (by first | assumption | exact Ext.refl _ | (apply Blk.ext; assumption; (repeat first | assumption | refine Ext.trans ?_ (by assumption))) | (apply CanO.ext; assumption; (repeat first | assumption | refine Ext.trans ?_ (by assumption))) | (apply Den.ext; assumption; (repeat first | assumption | refine Ext.trans ?_ (by assumption))) | (apply Sl.ext; assumption; (repeat first | assumption | refine Ext.trans ?_ (by assumption))) | (apply SlO.ext; assumption; (repeat first | assumption | refine Ext.trans ?_ (by assumption))) | (apply Dn.ext; assumption; (repeat first | assumption | refine Ext.trans ?_ (by assumption))) | (apply It.ext; assumption; (repeat first | assumption | refine Ext.trans ?_ (by assumption))) | (repeat first | assumption | refine Ext.trans ?_ (by assumption))) (by omega) (Nat.zero_le _))) ?_
  rintro sl w2 ⟨hx2, hsl⟩
  obtain ⟨p2, cap2, rfl, _⟩ := hsl.sl.form
  rw [signI_sg]
  (iterate 6 ((repeat with_reducible first|refine .nil ?_|refine .then_normal ?_|refine .block_normal ?_|refine .seq ?_|refine .block ?_|refine .skip ?_|refine .region ?_|refine .ret ?_|refine .then_ret ?_|refine .block_ret ?_|refine .exit ?_|refine .then_exit ?_|refine .block_exit ?_|refine .block_other rfl ?_); try refine .run TBok 99 rfl ?_))
  by_cases h0 : val xs = 0
  · refine St.condT rfl (by rw [h0]; rfl) ?_
    (iterate 6 ((repeat with_reducible first|refine .nil ?_|refine .then_normal ?_|refine .block_normal ?_|refine .seq ?_|refine .block ?_|refine .skip ?_|refine .region ?_|refine .ret ?_|refine .then_ret ?_|refine .block_ret ?_|refine .exit ?_|refine .then_exit ?_|refine .block_exit ?_|refine .block_other rfl ?_); try refine .run TBok 99 rfl ?_))
    exact Out.ret1 rfl rfl ⟨(by first | assumption | exact Ext.refl _ | (apply Blk.ext; assumption; (repeat first | assumption | refine Ext.trans ?_ (by assumption))) | (apply CanO.ext; assumption; (repeat first | assumption | refine Ext.trans ?_ (by assumption))) | (apply Den.ext; assumption; (repeat first | assumption | refine Ext.trans ?_ (by assumption))) | (apply Sl.ext; assumption; (repeat first | assumption | refine Ext.trans ?_ (by assumption))) | (apply SlO.ext; assumption; (repeat first | assumption | refine Ext.trans ?_ (by assumption))) | (apply Dn.ext; assumption; (repeat first | assumption | refine Ext.trans ?_ (by assumption))) | (apply It.ext; assumption; (repeat first | assumption | refine Ext.trans ?_ (by assumption))) | (repeat first | assumption | refine Ext.trans ?_ (by assumption))), by rw [if_pos h0]⟩
  refine St.condF rfl (by simp [limbs_eq_nil, h0]) ?_
  (iterate 6 ((repeat with_reducible first|refine .nil ?_|refine .then_normal ?_|refine .block_normal ?_|refine .seq ?_|refine .block ?_|refine .skip ?_|refine .region ?_|refine .ret ?_|refine .then_ret ?_|refine .block_ret ?_|refine .exit ?_|refine .then_exit ?_|refine .block_exit ?_|refine .block_other rfl ?_); try refine .run TBok 99 rfl ?_))
  (refine StL.step rfl rfl rfl (RunsTo.load TBok rfl rfl rfl (Blk.cell (by first | assumption | exact Ext.refl _ | (apply Blk.ext; assumption; (repeat first | assumption | refine Ext.trans ?_ (by assumption))) | (apply CanO.ext; assumption; (repeat first | assumption | refine Ext.trans ?_ (by assumption))) | (apply Den.ext; assumption; (repeat first | assumption | refine Ext.trans ?_ (by assumption))) | (apply Sl.ext; assumption; (repeat first | assumption | refine Ext.trans ?_ (by assumption))) | (apply SlO.ext; assumption; (repeat first | assumption | refine Ext.trans ?_ (by assumption))) | (apply Dn.ext; assumption; (repeat first | assumption | refine Ext.trans ?_ (by assumption))) | (apply It.ext; assumption; (repeat first | assumption | refine Ext.trans ?_ (by assumption))) | (repeat first | assumption | refine Ext.trans ?_ (by assumption))) rfl)).op ?_; rintro _ _ ⟨rfl, rfl⟩)
  (iterate 6 ((repeat with_reducible first|refine .nil ?_|refine .then_normal ?_|refine .block_normal ?_|refine .seq ?_|refine .block ?_|refine .skip ?_|refine .region ?_|refine .ret ?_|refine .then_ret ?_|refine .block_ret ?_|refine .exit ?_|refine .then_exit ?_|refine .block_exit ?_|refine .block_other rfl ?_); try refine .run TBok 99 rfl ?_))
  cases neg with
  | true =>
    refine St.condT rfl rfl ?_
    (iterate 6 ((repeat with_reducible first|refine .nil ?_|refine .then_normal ?_|refine .block_normal ?_|refine .seq ?_|refine .block ?_|refine .skip ?_|refine .region ?_|refine .ret ?_|refine .then_ret ?_|refine .block_ret ?_|refine .exit ?_|refine .then_exit ?_|refine .block_exit ?_|refine .block_other rfl ?_); try refine .run TBok 99 rfl ?_))
    exact Out.ret1 rfl rfl ⟨(by first | assumption | exact Ext.refl _ | (apply Blk.ext; assumption; (repeat first | assumption | refine Ext.trans ?_ (by assumption))) | (apply CanO.ext; assumption; (repeat first | assumption | refine Ext.trans ?_ (by assumption))) | (apply Den.ext; assumption; (repeat first | assumption | refine Ext.trans ?_ (by assumption))) | (apply Sl.ext; assumption; (repeat first | assumption | refine Ext.trans ?_ (by assumption))) | (apply SlO.ext; assumption; (repeat first | assumption | refine Ext.trans ?_ (by assumption))) | (apply Dn.ext; assumption; (repeat first | assumption | refine Ext.trans ?_ (by assumption))) | (apply It.ext; assumption; (repeat first | assumption | refine Ext.trans ?_ (by assumption))) | (repeat first | assumption | refine Ext.trans ?_ (by assumption))), by rw [if_neg h0]; rfl⟩
  | false =>
    refine St.condF rfl rfl ?_
    (iterate 6 ((repeat with_reducible first|refine .nil ?_|refine .then_normal ?_|refine .block_normal ?_|refine .seq ?_|refine .block ?_|refine .skip ?_|refine .region ?_|refine .ret ?_|refine .then_ret ?_|refine .block_ret ?_|refine .exit ?_|refine .then_exit ?_|refine .block_exit ?_|refine .block_other rfl ?_); try refine .run TBok 99 rfl ?_))
    exact Out.ret1 rfl rfl ⟨(by first | assumption | exact Ext.refl _ | (apply Blk.ext; assumption; (repeat first | assumption | refine Ext.trans ?_ (by assumption))) | (apply CanO.ext; assumption; (repeat first | assumption | refine Ext.trans ?_ (by assumption))) | (apply Den.ext; assumption; (repeat first | assumption | refine Ext.trans ?_ (by assumption))) | (apply Sl.ext; assumption; (repeat first | assumption | refine Ext.trans ?_ (by assumption))) | (apply SlO.ext; assumption; (repeat first | assumption | refine Ext.trans ?_ (by assumption))) | (apply Dn.ext; assumption; (repeat first | assumption | refine Ext.trans ?_ (by assumption))) | (apply It.ext; assumption; (repeat first | assumption | refine Ext.trans ?_ (by assumption))) | (repeat first | assumption | refine Ext.trans ?_ (by assumption))), by rw [if_neg h0]; rfl⟩

set_option maxRecDepth 8000 in
theorem rcmp_dn {w : World} {x y : Value} {a b : Int} (h : Dn w x a) (k : Dn w y b) : Calls Try.prog 36 #[x, y] w (Ret fun r w' => Ext w w' ∧ r = .int .i64 (cmpI a b)) := by
  have hD := h
  have kD := k
  obtain ⟨na, xs, ⟨p, cap, rfl, hs⟩, rfl, hlen⟩ := h
  obtain ⟨nb, ys, ⟨q, cb, rfl, ks⟩, rfl, hl⟩ := k
  have hsa := signI_bound (sg na (val xs))
  have hsb := signI_bound (sg nb (val ys))
  refine calls_of_St (args := [_, _]) Try.func36 rfl Try.ntmps36 rfl ?_
  (repeat with_reducible first|refine .nil ?_|refine .then_normal ?_|refine .block_normal ?_|refine .seq ?_|refine .block ?_|refine .skip ?_|refine .region ?_|refine .ret ?_|refine .then_ret ?_|refine .block_ret ?_|refine .exit ?_|refine .then_exit ?_|refine .block_exit ?_|refine .block_other rfl ?_)
  refine StL.step rfl rfl rfl (OpR.box rfl) ?_
  rintro _ w1 ⟨rfl, hb1, hx1, hz1⟩
  refine StL.step rfl rfl rfl (OpR.box rfl) ?_
  rintro _ w2 ⟨rfl, hb2, hx2, hz2⟩
  refine .run TBok 99 rfl ?_
  (repeat with_reducible first|refine .nil ?_|refine .then_normal ?_|refine .block_normal ?_|refine .seq ?_|refine .block ?_|refine .skip ?_|refine .region ?_|refine .ret ?_|refine .then_ret ?_|refine .block_ret ?_|refine .exit ?_|refine .then_exit ?_|refine .block_exit ?_|refine .block_other rfl ?_)
  refine St.flow 4 TBfol (by kernel_rfl) rfl (by kernel_rfl) rfl True.intro ?_
  refine FL.run TBok 99 rfl ?_
  refine FL.loadAgg (L := []) TBok rfl rfl rfl rfl rfl rfl (by first | assumption | exact Ext.refl _ | (apply Blk.ext; assumption; (repeat first | assumption | refine Ext.trans ?_ (by assumption))) | (apply CanO.ext; assumption; (repeat first | assumption | refine Ext.trans ?_ (by assumption))) | (apply Den.ext; assumption; (repeat first | assumption | refine Ext.trans ?_ (by assumption))) | (apply Sl.ext; assumption; (repeat first | assumption | refine Ext.trans ?_ (by assumption))) | (apply SlO.ext; assumption; (repeat first | assumption | refine Ext.trans ?_ (by assumption))) | (apply Dn.ext; assumption; (repeat first | assumption | refine Ext.trans ?_ (by assumption))) | (apply It.ext; assumption; (repeat first | assumption | refine Ext.trans ?_ (by assumption))) | (repeat first | assumption | refine Ext.trans ?_ (by assumption))) (by simp) (Nat.le_refl _) rfl ?_
  refine FL.callXE fn_r01_Sign rfl rfl rfl (fun w3 hx3 => CallF.mk rfl (rsign_dn (a := sg na (val xs)) (by first | assumption | exact Ext.refl _ | (apply Blk.ext; assumption; (repeat first | assumption | refine Ext.trans ?_ (by assumption))) | (apply CanO.ext; assumption; (repeat first | assumption | refine Ext.trans ?_ (by assumption))) | (apply Den.ext; assumption; (repeat first | assumption | refine Ext.trans ?_ (by assumption))) | (apply Sl.ext; assumption; (repeat first | assumption | refine Ext.trans ?_ (by assumption))) | (apply SlO.ext; assumption; (repeat first | assumption | refine Ext.trans ?_ (by assumption))) | (apply Dn.ext; assumption; (repeat first | assumption | refine Ext.trans ?_ (by assumption))) | (apply It.ext; assumption; (repeat first | assumption | refine Ext.trans ?_ (by assumption))) | (repeat first | assumption | refine Ext.trans ?_ (by assumption))))) ?_
  refine FL.loadAgg (L := []) TBok rfl rfl rfl rfl rfl rfl (by first | assumption | exact Ext.refl _ | (apply Blk.ext; assumption; (repeat first | assumption | refine Ext.trans ?_ (by assumption))) | (apply CanO.ext; assumption; (repeat first | assumption | refine Ext.trans ?_ (by assumption))) | (apply Den.ext; assumption; (repeat first | assumption | refine Ext.trans ?_ (by assumption))) | (apply Sl.ext; assumption; (repeat first | assumption | refine Ext.trans ?_ (by assumption))) | (apply SlO.ext; assumption; (repeat first | assumption | refine Ext.trans ?_ (by assumption))) | (apply Dn.ext; assumption; (repeat first | assumption | refine Ext.trans ?_ (by assumption))) | (apply It.ext; assumption; (repeat first | assumption | refine Ext.trans ?_ (by assumption))) | (repeat first | assumption | refine Ext.trans ?_ (by assumption))) (by simp) (Nat.le_refl _) rfl ?_
  refine FL.callXE fn_r01_Sign rfl rfl rfl (fun w3 hx3 => CallF.mk rfl (rsign_dn (a := sg nb (val ys)) (by first | assumption | exact Ext.refl _ | (apply Blk.ext; assumption; (repeat first | assumption | refine Ext.trans ?_ (by assumption))) | (apply CanO.ext; assumption; (repeat first | assumption | refine Ext.trans ?_ (by assumption))) | (apply Den.ext; assumption; (repeat first | assumption | refine Ext.trans ?_ (by assumption))) | (apply Sl.ext; assumption; (repeat first | assumption | refine Ext.trans ?_ (by assumption))) | (apply SlO.ext; assumption; (repeat first | assumption | refine Ext.trans ?_ (by assumption))) | (apply Dn.ext; assumption; (repeat first | assumption | refine Ext.trans ?_ (by assumption))) | (apply It.ext; assumption; (repeat first | assumption | refine Ext.trans ?_ (by assumption))) | (repeat first | assumption | refine Ext.trans ?_ (by assumption))))) ?_
  refine FL.endE rfl ?_
  intro w3 hx3 _ _
  (iterate 6 ((repeat with_reducible first|refine .nil ?_|refine .then_normal ?_|refine .block_normal ?_|refine .seq ?_|refine .block ?_|refine .skip ?_|refine .region ?_|refine .ret ?_|refine .then_ret ?_|refine .block_ret ?_|refine .exit ?_|refine .then_exit ?_|refine .block_exit ?_|refine .block_other rfl ?_); try refine .run TBok 99 rfl ?_))
  by_cases hne : signI (sg na (val xs)) = signI (sg nb (val ys))
  · refine St.condF rfl (by simp [hne]) ?_
    have hfin := cmpI_sign na nb (val xs) (val ys) hne
    have hcb := cmpN_bound (val xs) (val ys)
    have hms := mul_small hsa hcb
    rw [← hfin]
    (repeat with_reducible first|refine .nil ?_|refine .then_normal ?_|refine .block_normal ?_|refine .seq ?_|refine .block ?_|refine .skip ?_|refine .region ?_|refine .ret ?_|refine .then_ret ?_|refine .block_ret ?_|refine .exit ?_|refine .then_exit ?_|refine .block_exit ?_|refine .block_other rfl ?_)
    refine St.sub (E' := [(2, .pointer (some ⟨w.heap.size, 0, none⟩)), (3, .pointer (some ⟨w1.heap.size, 0, none⟩)), (5, .int .i64 (signI (sg na (val xs))))]) ?_ ⟨rfl, rfl, rfl, trivial⟩
    refine St.flow 9 TBfol (by kernel_rfl) rfl (by kernel_rfl) rfl True.intro ?_
    refine FL.run TBok 99 rfl ?_
    refine FL.load (L := []) TBok rfl rfl rfl rfl rfl rfl (by first | assumption | exact Ext.refl _ | (apply Blk.ext; assumption; (repeat first | assumption | refine Ext.trans ?_ (by assumption))) | (apply CanO.ext; assumption; (repeat first | assumption | refine Ext.trans ?_ (by assumption))) | (apply Den.ext; assumption; (repeat first | assumption | refine Ext.trans ?_ (by assumption))) | (apply Sl.ext; assumption; (repeat first | assumption | refine Ext.trans ?_ (by assumption))) | (apply SlO.ext; assumption; (repeat first | assumption | refine Ext.trans ?_ (by assumption))) | (apply Dn.ext; assumption; (repeat first | assumption | refine Ext.trans ?_ (by assumption))) | (apply It.ext; assumption; (repeat first | assumption | refine Ext.trans ?_ (by assumption))) | (repeat first | assumption | refine Ext.trans ?_ (by assumption))) (by simp) rfl ?_
    refine FL.callE fn_r01_trim rfl rfl rfl (fun w4 hx4 => CallF.mk rfl (rtrim_spec (base := 0) w4 _ xs (by first | assumption | exact Ext.refl _ | (apply Blk.ext; assumption; (repeat first | assumption | refine Ext.trans ?_ (by assumption))) | (apply CanO.ext; assumption; (repeat first | assumption | refine Ext.trans ?_ (by assumption))) | (apply Den.ext; assumption; (repeat first | assumption | refine Ext.trans ?_ (by assumption))) | (apply Sl.ext; assumption; (repeat first | assumption | refine Ext.trans ?_ (by assumption))) | (apply SlO.ext; assumption; (repeat first | assumption | refine Ext.trans ?_ (by assumption))) | (apply Dn.ext; assumption; (repeat first | assumption | refine Ext.trans ?_ (by assumption))) | (apply It.ext; assumption; (repeat first | assumption | refine Ext.trans ?_ (by assumption))) | (repeat first | assumption | refine Ext.trans ?_ (by assumption))) (by omega) (Nat.zero_le _))) (MonoR.slO 0 _) ?_
    refine FL.run TBok 99 rfl ?_
    refine FL.load (L := []) TBok rfl rfl rfl rfl rfl rfl (by first | assumption | exact Ext.refl _ | (apply Blk.ext; assumption; (repeat first | assumption | refine Ext.trans ?_ (by assumption))) | (apply CanO.ext; assumption; (repeat first | assumption | refine Ext.trans ?_ (by assumption))) | (apply Den.ext; assumption; (repeat first | assumption | refine Ext.trans ?_ (by assumption))) | (apply Sl.ext; assumption; (repeat first | assumption | refine Ext.trans ?_ (by assumption))) | (apply SlO.ext; assumption; (repeat first | assumption | refine Ext.trans ?_ (by assumption))) | (apply Dn.ext; assumption; (repeat first | assumption | refine Ext.trans ?_ (by assumption))) | (apply It.ext; assumption; (repeat first | assumption | refine Ext.trans ?_ (by assumption))) | (repeat first | assumption | refine Ext.trans ?_ (by assumption))) (by simp) rfl ?_
    refine FL.callE fn_r01_trim rfl rfl rfl (fun w4 hx4 => CallF.mk rfl (rtrim_spec (base := 0) w4 _ ys (by first | assumption | exact Ext.refl _ | (apply Blk.ext; assumption; (repeat first | assumption | refine Ext.trans ?_ (by assumption))) | (apply CanO.ext; assumption; (repeat first | assumption | refine Ext.trans ?_ (by assumption))) | (apply Den.ext; assumption; (repeat first | assumption | refine Ext.trans ?_ (by assumption))) | (apply Sl.ext; assumption; (repeat first | assumption | refine Ext.trans ?_ (by assumption))) | (apply SlO.ext; assumption; (repeat first | assumption | refine Ext.trans ?_ (by assumption))) | (apply Dn.ext; assumption; (repeat first | assumption | refine Ext.trans ?_ (by assumption))) | (apply It.ext; assumption; (repeat first | assumption | refine Ext.trans ?_ (by assumption))) | (repeat first | assumption | refine Ext.trans ?_ (by assumption))) (by omega) (Nat.zero_le _))) (MonoR.slO 0 _) ?_
    have hl1 := limbs_length_le xs hs.2
    have hl2 := limbs_length_le ys ks.2
    refine FL.callXE fn_r01_cmp rfl rfl rfl (fun w4 hx4 u hu v hv => CallF.mk rfl (rcmp_spec w4 u v _ _ hu.sl hv.sl (by omega) (by omega))) ?_
    rw [cmpL_limbs]
    refine FL.run TBok 99 rfl ?_
    refine FL.endE rfl ?_
    intro w4 hx4 _ _ _ _ _ _
    (iterate 6 ((repeat with_reducible first|refine .nil ?_|refine .then_normal ?_|refine .block_normal ?_|refine .seq ?_|refine .block ?_|refine .skip ?_|refine .region ?_|refine .ret ?_|refine .then_ret ?_|refine .block_ret ?_|refine .exit ?_|refine .then_exit ?_|refine .block_exit ?_|refine .block_other rfl ?_); try refine .run TBok 99 rfl ?_))
    refine Out.ret1 rfl rfl ⟨(by first | assumption | exact Ext.refl _ | (apply Blk.ext; assumption; (repeat first | assumption | refine Ext.trans ?_ (by assumption))) | (apply CanO.ext; assumption; (repeat first | assumption | refine Ext.trans ?_ (by assumption))) | (apply Den.ext; assumption; (repeat first | assumption | refine Ext.trans ?_ (by assumption))) | (apply Sl.ext; assumption; (repeat first | assumption | refine Ext.trans ?_ (by assumption))) | (apply SlO.ext; assumption; (repeat first | assumption | refine Ext.trans ?_ (by assumption))) | (apply Dn.ext; assumption; (repeat first | assumption | refine Ext.trans ?_ (by assumption))) | (apply It.ext; assumption; (repeat first | assumption | refine Ext.trans ?_ (by assumption))) | (repeat first | assumption | refine Ext.trans ?_ (by assumption))), ?_⟩
    rw [i64_id (by omega) (by omega)]
  · refine St.condT rfl (by simp; omega) ?_
    (iterate 6 ((repeat with_reducible first|refine .nil ?_|refine .then_normal ?_|refine .block_normal ?_|refine .seq ?_|refine .block ?_|refine .skip ?_|refine .region ?_|refine .ret ?_|refine .then_ret ?_|refine .block_ret ?_|refine .exit ?_|refine .then_exit ?_|refine .block_exit ?_|refine .block_other rfl ?_); try refine .run TBok 99 rfl ?_))
    by_cases hlt : signI (sg na (val xs)) < signI (sg nb (val ys))
    · refine St.condT rfl (by simpa using hlt) ?_
      (iterate 6 ((repeat with_reducible first|refine .nil ?_|refine .then_normal ?_|refine .block_normal ?_|refine .seq ?_|refine .block ?_|refine .skip ?_|refine .region ?_|refine .ret ?_|refine .then_ret ?_|refine .block_ret ?_|refine .exit ?_|refine .then_exit ?_|refine .block_exit ?_|refine .block_other rfl ?_); try refine .run TBok 99 rfl ?_))
      exact Out.ret1 rfl rfl ⟨(by first | assumption | exact Ext.refl _ | (apply Blk.ext; assumption; (repeat first | assumption | refine Ext.trans ?_ (by assumption))) | (apply CanO.ext; assumption; (repeat first | assumption | refine Ext.trans ?_ (by assumption))) | (apply Den.ext; assumption; (repeat first | assumption | refine Ext.trans ?_ (by assumption))) | (apply Sl.ext; assumption; (repeat first | assumption | refine Ext.trans ?_ (by assumption))) | (apply SlO.ext; assumption; (repeat first | assumption | refine Ext.trans ?_ (by assumption))) | (apply Dn.ext; assumption; (repeat first | assumption | refine Ext.trans ?_ (by assumption))) | (apply It.ext; assumption; (repeat first | assumption | refine Ext.trans ?_ (by assumption))) | (repeat first | assumption | refine Ext.trans ?_ (by assumption))), by rw [cmpI_lt _ _ hlt]⟩
    · refine St.condF rfl (by simp; omega) ?_
      (iterate 6 ((repeat with_reducible first|refine .nil ?_|refine .then_normal ?_|refine .block_normal ?_|refine .seq ?_|refine .block ?_|refine .skip ?_|refine .region ?_|refine .ret ?_|refine .then_ret ?_|refine .block_ret ?_|refine .exit ?_|refine .then_exit ?_|refine .block_exit ?_|refine .block_other rfl ?_); try refine .run TBok 99 rfl ?_))
      exact Out.ret1 rfl rfl ⟨(by first | assumption | exact Ext.refl _ | (apply Blk.ext; assumption; (repeat first | assumption | refine Ext.trans ?_ (by assumption))) | (apply CanO.ext; assumption; (repeat first | assumption | refine Ext.trans ?_ (by assumption))) | (apply Den.ext; assumption; (repeat first | assumption | refine Ext.trans ?_ (by assumption))) | (apply Sl.ext; assumption; (repeat first | assumption | refine Ext.trans ?_ (by assumption))) | (apply SlO.ext; assumption; (repeat first | assumption | refine Ext.trans ?_ (by assumption))) | (apply Dn.ext; assumption; (repeat first | assumption | refine Ext.trans ?_ (by assumption))) | (apply It.ext; assumption; (repeat first | assumption | refine Ext.trans ?_ (by assumption))) | (repeat first | assumption | refine Ext.trans ?_ (by assumption))), by rw [cmpI_gt _ _ (by omega)]⟩

set_option maxRecDepth 8000 in
theorem rnormalize_dn {base : Nat} {w : World} {x : Value} {a : Int} (h : Dn w x a) (hb : base ≤ w.heap.size) : Calls Try.prog 40 #[x] w (Ret fun r w' => Ext w w' ∧ CanO base w' r a) := by
  obtain ⟨neg, xs, ⟨p, cap, rfl, hs⟩, rfl, hlen⟩ := h
  refine calls_of_St (args := [_]) Try.func40 rfl Try.ntmps40 rfl ?_
  (repeat with_reducible first|refine .nil ?_|refine .then_normal ?_|refine .block_normal ?_|refine .seq ?_|refine .block ?_|refine .skip ?_|refine .region ?_|refine .ret ?_|refine .then_ret ?_|refine .block_ret ?_|refine .exit ?_|refine .then_exit ?_|refine .block_exit ?_|refine .block_other rfl ?_)
  refine StL.step rfl rfl rfl (OpR.box rfl) ?_
  rintro _ w1 ⟨rfl, hb1, hx1, hz1⟩
  refine StL.step rfl rfl rfl (OpR.alloc TBok rfl) ?_
  rintro _ w2 ⟨rfl, hb2, hx2, hz2⟩
  (iterate 6 ((repeat with_reducible first|refine .nil ?_|refine .then_normal ?_|refine .block_normal ?_|refine .seq ?_|refine .block ?_|refine .skip ?_|refine .region ?_|refine .ret ?_|refine .then_ret ?_|refine .block_ret ?_|refine .exit ?_|refine .then_exit ?_|refine .block_exit ?_|refine .block_other rfl ?_); try refine .run TBok 99 rfl ?_))
  (refine StL.step rfl rfl rfl (RunsTo.load TBok rfl rfl rfl (Blk.cell (by first | assumption | exact Ext.refl _ | (apply Blk.ext; assumption; (repeat first | assumption | refine Ext.trans ?_ (by assumption))) | (apply CanO.ext; assumption; (repeat first | assumption | refine Ext.trans ?_ (by assumption))) | (apply Den.ext; assumption; (repeat first | assumption | refine Ext.trans ?_ (by assumption))) | (apply Sl.ext; assumption; (repeat first | assumption | refine Ext.trans ?_ (by assumption))) | (apply SlO.ext; assumption; (repeat first | assumption | refine Ext.trans ?_ (by assumption))) | (apply Dn.ext; assumption; (repeat first | assumption | refine Ext.trans ?_ (by assumption))) | (apply It.ext; assumption; (repeat first | assumption | refine Ext.trans ?_ (by assumption))) | (repeat first | assumption | refine Ext.trans ?_ (by assumption))) rfl)).op ?_; rintro _ _ ⟨rfl, rfl⟩)
  (iterate 6 ((repeat with_reducible first|refine .nil ?_|refine .then_normal ?_|refine .block_normal ?_|refine .seq ?_|refine .block ?_|refine .skip ?_|refine .region ?_|refine .ret ?_|refine .then_ret ?_|refine .block_ret ?_|refine .exit ?_|refine .then_exit ?_|refine .block_exit ?_|refine .block_other rfl ?_); try refine .run TBok 99 rfl ?_))
  (refine StL.step rfl rfl rfl (RunsTo.load TBok rfl rfl rfl (Blk.cell (by first | assumption | exact Ext.refl _ | (apply Blk.ext; assumption; (repeat first | assumption | refine Ext.trans ?_ (by assumption))) | (apply CanO.ext; assumption; (repeat first | assumption | refine Ext.trans ?_ (by assumption))) | (apply Den.ext; assumption; (repeat first | assumption | refine Ext.trans ?_ (by assumption))) | (apply Sl.ext; assumption; (repeat first | assumption | refine Ext.trans ?_ (by assumption))) | (apply SlO.ext; assumption; (repeat first | assumption | refine Ext.trans ?_ (by assumption))) | (apply Dn.ext; assumption; (repeat first | assumption | refine Ext.trans ?_ (by assumption))) | (apply It.ext; assumption; (repeat first | assumption | refine Ext.trans ?_ (by assumption))) | (repeat first | assumption | refine Ext.trans ?_ (by assumption))) rfl)).op ?_; rintro _ _ ⟨rfl, rfl⟩)
  refine StL.step rfl rfl rfl (OpR.call fn_r01_Make rfl (make_spec (base := base) w2 neg _ xs (by first | assumption | exact Ext.refl _ | (apply Blk.ext; assumption; (repeat first | assumption | refine Ext.trans ?_ (by assumption))) | (apply CanO.ext; assumption; (repeat first | assumption | refine Ext.trans ?_ (by assumption))) | (apply Den.ext; assumption; (repeat first | assumption | refine Ext.trans ?_ (by assumption))) | (apply Sl.ext; assumption; (repeat first | assumption | refine Ext.trans ?_ (by assumption))) | (apply SlO.ext; assumption; (repeat first | assumption | refine Ext.trans ?_ (by assumption))) | (apply Dn.ext; assumption; (repeat first | assumption | refine Ext.trans ?_ (by assumption))) | (apply It.ext; assumption; (repeat first | assumption | refine Ext.trans ?_ (by assumption))) | (repeat first | assumption | refine Ext.trans ?_ (by assumption))) (by omega) (Nat.le_trans hb (hx1.trans hx2).size))) ?_
  rintro r w3 ⟨hx3, hr⟩
  refine StL.finCan rfl rfl (hb2.ext hx3) rfl hr (w0 := w) (by first | assumption | exact Ext.refl _ | (apply Blk.ext; assumption; (repeat first | assumption | refine Ext.trans ?_ (by assumption))) | (apply CanO.ext; assumption; (repeat first | assumption | refine Ext.trans ?_ (by assumption))) | (apply Den.ext; assumption; (repeat first | assumption | refine Ext.trans ?_ (by assumption))) | (apply Sl.ext; assumption; (repeat first | assumption | refine Ext.trans ?_ (by assumption))) | (apply SlO.ext; assumption; (repeat first | assumption | refine Ext.trans ?_ (by assumption))) | (apply Dn.ext; assumption; (repeat first | assumption | refine Ext.trans ?_ (by assumption))) | (apply It.ext; assumption; (repeat first | assumption | refine Ext.trans ?_ (by assumption))) | (repeat first | assumption | refine Ext.trans ?_ (by assumption))) hx1.size ?_
  intro w' hxf hcf fin
  (repeat with_reducible first|refine .nil ?_|refine .then_normal ?_|refine .block_normal ?_|refine .seq ?_|refine .block ?_|refine .skip ?_|refine .region ?_|refine .ret ?_|refine .then_ret ?_|refine .block_ret ?_|refine .exit ?_|refine .then_exit ?_|refine .block_exit ?_|refine .block_other rfl ?_)
  exact fin _ _ rfl ⟨hxf, hcf⟩

set_option maxRecDepth 8000 in
theorem rneg_dn {base : Nat} {w : World} {x : Value} {a : Int} (h : Dn w x a) (hb : base ≤ w.heap.size) : Calls Try.prog 54 #[x] w (Ret fun r w' => Ext w w' ∧ CanO base w' r (-a)) := by
  obtain ⟨neg, xs, ⟨p, cap, rfl, hs⟩, rfl, hlen⟩ := h
  refine calls_of_St (args := [_]) Try.func54 rfl Try.ntmps54 rfl ?_
  (repeat with_reducible first|refine .nil ?_|refine .then_normal ?_|refine .block_normal ?_|refine .seq ?_|refine .block ?_|refine .skip ?_|refine .region ?_|refine .ret ?_|refine .then_ret ?_|refine .block_ret ?_|refine .exit ?_|refine .then_exit ?_|refine .block_exit ?_|refine .block_other rfl ?_)
  refine StL.step rfl rfl rfl (OpR.box rfl) ?_
  rintro _ w1 ⟨rfl, hb1, hx1, hz1⟩
  refine StL.step rfl rfl rfl (OpR.alloc TBok rfl) ?_
  rintro _ w2 ⟨rfl, hb2, hx2, hz2⟩
  (iterate 6 ((repeat with_reducible first|refine .nil ?_|refine .then_normal ?_|refine .block_normal ?_|refine .seq ?_|refine .block ?_|refine .skip ?_|refine .region ?_|refine .ret ?_|refine .then_ret ?_|refine .block_ret ?_|refine .exit ?_|refine .then_exit ?_|refine .block_exit ?_|refine .block_other rfl ?_); try refine .run TBok 99 rfl ?_))
  (refine StL.step rfl rfl rfl (RunsTo.load TBok rfl rfl rfl (Blk.cell (by first | assumption | exact Ext.refl _ | (apply Blk.ext; assumption; (repeat first | assumption | refine Ext.trans ?_ (by assumption))) | (apply CanO.ext; assumption; (repeat first | assumption | refine Ext.trans ?_ (by assumption))) | (apply Den.ext; assumption; (repeat first | assumption | refine Ext.trans ?_ (by assumption))) | (apply Sl.ext; assumption; (repeat first | assumption | refine Ext.trans ?_ (by assumption))) | (apply SlO.ext; assumption; (repeat first | assumption | refine Ext.trans ?_ (by assumption))) | (apply Dn.ext; assumption; (repeat first | assumption | refine Ext.trans ?_ (by assumption))) | (apply It.ext; assumption; (repeat first | assumption | refine Ext.trans ?_ (by assumption))) | (repeat first | assumption | refine Ext.trans ?_ (by assumption))) rfl)).op ?_; rintro _ _ ⟨rfl, rfl⟩)
  (iterate 6 ((repeat with_reducible first|refine .nil ?_|refine .then_normal ?_|refine .block_normal ?_|refine .seq ?_|refine .block ?_|refine .skip ?_|refine .region ?_|refine .ret ?_|refine .then_ret ?_|refine .block_ret ?_|refine .exit ?_|refine .then_exit ?_|refine .block_exit ?_|refine .block_other rfl ?_); try refine .run TBok 99 rfl ?_))
  (refine StL.step rfl rfl rfl (RunsTo.load TBok rfl rfl rfl (Blk.cell (by first | assumption | exact Ext.refl _ | (apply Blk.ext; assumption; (repeat first | assumption | refine Ext.trans ?_ (by assumption))) | (apply CanO.ext; assumption; (repeat first | assumption | refine Ext.trans ?_ (by assumption))) | (apply Den.ext; assumption; (repeat first | assumption | refine Ext.trans ?_ (by assumption))) | (apply Sl.ext; assumption; (repeat first | assumption | refine Ext.trans ?_ (by assumption))) | (apply SlO.ext; assumption; (repeat first | assumption | refine Ext.trans ?_ (by assumption))) | (apply Dn.ext; assumption; (repeat first | assumption | refine Ext.trans ?_ (by assumption))) | (apply It.ext; assumption; (repeat first | assumption | refine Ext.trans ?_ (by assumption))) | (repeat first | assumption | refine Ext.trans ?_ (by assumption))) rfl)).op ?_; rintro _ _ ⟨rfl, rfl⟩)
  refine StL.step rfl rfl rfl (OpR.call fn_r01_Make rfl (make_spec (base := base) w2 (!neg) _ xs (by first | assumption | exact Ext.refl _ | (apply Blk.ext; assumption; (repeat first | assumption | refine Ext.trans ?_ (by assumption))) | (apply CanO.ext; assumption; (repeat first | assumption | refine Ext.trans ?_ (by assumption))) | (apply Den.ext; assumption; (repeat first | assumption | refine Ext.trans ?_ (by assumption))) | (apply Sl.ext; assumption; (repeat first | assumption | refine Ext.trans ?_ (by assumption))) | (apply SlO.ext; assumption; (repeat first | assumption | refine Ext.trans ?_ (by assumption))) | (apply Dn.ext; assumption; (repeat first | assumption | refine Ext.trans ?_ (by assumption))) | (apply It.ext; assumption; (repeat first | assumption | refine Ext.trans ?_ (by assumption))) | (repeat first | assumption | refine Ext.trans ?_ (by assumption))) (by omega) (Nat.le_trans hb (hx1.trans hx2).size))) ?_
  rintro r w3 ⟨hx3, hr⟩
  rw [sg_not] at hr
  refine StL.finCan rfl rfl (hb2.ext hx3) rfl hr (w0 := w) (by first | assumption | exact Ext.refl _ | (apply Blk.ext; assumption; (repeat first | assumption | refine Ext.trans ?_ (by assumption))) | (apply CanO.ext; assumption; (repeat first | assumption | refine Ext.trans ?_ (by assumption))) | (apply Den.ext; assumption; (repeat first | assumption | refine Ext.trans ?_ (by assumption))) | (apply Sl.ext; assumption; (repeat first | assumption | refine Ext.trans ?_ (by assumption))) | (apply SlO.ext; assumption; (repeat first | assumption | refine Ext.trans ?_ (by assumption))) | (apply Dn.ext; assumption; (repeat first | assumption | refine Ext.trans ?_ (by assumption))) | (apply It.ext; assumption; (repeat first | assumption | refine Ext.trans ?_ (by assumption))) | (repeat first | assumption | refine Ext.trans ?_ (by assumption))) hx1.size ?_
  intro w' hxf hcf fin
  (repeat with_reducible first|refine .nil ?_|refine .then_normal ?_|refine .block_normal ?_|refine .seq ?_|refine .block ?_|refine .skip ?_|refine .region ?_|refine .ret ?_|refine .then_ret ?_|refine .block_ret ?_|refine .exit ?_|refine .then_exit ?_|refine .block_exit ?_|refine .block_other rfl ?_)
  exact fin _ _ rfl ⟨hxf, hcf⟩

set_option maxRecDepth 8000 in
theorem rabs_dn {base : Nat} {w : World} {x : Value} {a : Int} (h : Dn w x a) (hb : base ≤ w.heap.size) : Calls Try.prog 37 #[x] w (Ret fun r w' => Ext w w' ∧ CanO base w' r (a.natAbs : Int)) := by
  obtain ⟨neg, xs, ⟨p, cap, rfl, hs⟩, rfl, hlen⟩ := h
  refine calls_of_St (args := [_]) Try.func37 rfl Try.ntmps37 rfl ?_
  (repeat with_reducible first|refine .nil ?_|refine .then_normal ?_|refine .block_normal ?_|refine .seq ?_|refine .block ?_|refine .skip ?_|refine .region ?_|refine .ret ?_|refine .then_ret ?_|refine .block_ret ?_|refine .exit ?_|refine .then_exit ?_|refine .block_exit ?_|refine .block_other rfl ?_)
  refine StL.step rfl rfl rfl (OpR.box rfl) ?_
  rintro _ w1 ⟨rfl, hb1, hx1, hz1⟩
  refine StL.step rfl rfl rfl (OpR.alloc TBok rfl) ?_
  rintro _ w2 ⟨rfl, hb2, hx2, hz2⟩
  (iterate 6 ((repeat with_reducible first|refine .nil ?_|refine .then_normal ?_|refine .block_normal ?_|refine .seq ?_|refine .block ?_|refine .skip ?_|refine .region ?_|refine .ret ?_|refine .then_ret ?_|refine .block_ret ?_|refine .exit ?_|refine .then_exit ?_|refine .block_exit ?_|refine .block_other rfl ?_); try refine .run TBok 99 rfl ?_))
  (refine StL.step rfl rfl rfl (RunsTo.load TBok rfl rfl rfl (Blk.cell (by first | assumption | exact Ext.refl _ | (apply Blk.ext; assumption; (repeat first | assumption | refine Ext.trans ?_ (by assumption))) | (apply CanO.ext; assumption; (repeat first | assumption | refine Ext.trans ?_ (by assumption))) | (apply Den.ext; assumption; (repeat first | assumption | refine Ext.trans ?_ (by assumption))) | (apply Sl.ext; assumption; (repeat first | assumption | refine Ext.trans ?_ (by assumption))) | (apply SlO.ext; assumption; (repeat first | assumption | refine Ext.trans ?_ (by assumption))) | (apply Dn.ext; assumption; (repeat first | assumption | refine Ext.trans ?_ (by assumption))) | (apply It.ext; assumption; (repeat first | assumption | refine Ext.trans ?_ (by assumption))) | (repeat first | assumption | refine Ext.trans ?_ (by assumption))) rfl)).op ?_; rintro _ _ ⟨rfl, rfl⟩)
  refine StL.step rfl rfl rfl (OpR.call fn_r01_Make rfl (make_spec (base := base) w2 false _ xs (by first | assumption | exact Ext.refl _ | (apply Blk.ext; assumption; (repeat first | assumption | refine Ext.trans ?_ (by assumption))) | (apply CanO.ext; assumption; (repeat first | assumption | refine Ext.trans ?_ (by assumption))) | (apply Den.ext; assumption; (repeat first | assumption | refine Ext.trans ?_ (by assumption))) | (apply Sl.ext; assumption; (repeat first | assumption | refine Ext.trans ?_ (by assumption))) | (apply SlO.ext; assumption; (repeat first | assumption | refine Ext.trans ?_ (by assumption))) | (apply Dn.ext; assumption; (repeat first | assumption | refine Ext.trans ?_ (by assumption))) | (apply It.ext; assumption; (repeat first | assumption | refine Ext.trans ?_ (by assumption))) | (repeat first | assumption | refine Ext.trans ?_ (by assumption))) (by omega) (Nat.le_trans hb (hx1.trans hx2).size))) ?_
  rintro r w3 ⟨hx3, hr⟩
  have e : sg false (val xs) = ((sg neg (val xs)).natAbs : Int) := by rw [sg_abs]; rfl
  rw [e] at hr
  refine StL.finCan rfl rfl (hb2.ext hx3) rfl hr (w0 := w) (by first | assumption | exact Ext.refl _ | (apply Blk.ext; assumption; (repeat first | assumption | refine Ext.trans ?_ (by assumption))) | (apply CanO.ext; assumption; (repeat first | assumption | refine Ext.trans ?_ (by assumption))) | (apply Den.ext; assumption; (repeat first | assumption | refine Ext.trans ?_ (by assumption))) | (apply Sl.ext; assumption; (repeat first | assumption | refine Ext.trans ?_ (by assumption))) | (apply SlO.ext; assumption; (repeat first | assumption | refine Ext.trans ?_ (by assumption))) | (apply Dn.ext; assumption; (repeat first | assumption | refine Ext.trans ?_ (by assumption))) | (apply It.ext; assumption; (repeat first | assumption | refine Ext.trans ?_ (by assumption))) | (repeat first | assumption | refine Ext.trans ?_ (by assumption))) hx1.size ?_
  intro w' hxf hcf fin
  (repeat with_reducible first|refine .nil ?_|refine .then_normal ?_|refine .block_normal ?_|refine .seq ?_|refine .block ?_|refine .skip ?_|refine .region ?_|refine .ret ?_|refine .then_ret ?_|refine .block_ret ?_|refine .exit ?_|refine .then_exit ?_|refine .block_exit ?_|refine .block_other rfl ?_)
  exact fin _ _ rfl ⟨hxf, hcf⟩

end Go.Qf

/- quadformref01: low, Int64. -/
namespace Go.Qf
open Go Go.RowKit Go.Proofs

set_option maxRecDepth 8000 in
theorem low_spec (w : World) (v : Value) (xs : List Nat) (h : Sl w v xs) (hlen : xs.length ≤ 1000000000) :
    Calls Try.prog 68 #[v] w (Ret fun r w' => Ext w w' ∧ r = .int .u64 (val (xs.take 2))) := by
  obtain ⟨p, cap, rfl, hcap⟩ := h.form
  refine calls_of_St (args := [_]) Try.func68 rfl Try.ntmps68 rfl ?_
  (iterate 6 ((repeat with_reducible first|refine .nil ?_|refine .then_normal ?_|refine .block_normal ?_|refine .seq ?_|refine .block ?_|refine .skip ?_|refine .region ?_|refine .ret ?_|refine .then_ret ?_|refine .block_ret ?_|refine .exit ?_|refine .then_exit ?_|refine .block_exit ?_|refine .block_other rfl ?_); try refine .run TBok 99 rfl ?_))
  refine St.loop (fun k : Nat => [(0, .slice p xs.length cap), (3, .int .u64 (val (xs.take k))), (4, .int .i64 k)]) (fun k w' => w' = w ∧ k ≤ xs.length ∧ k ≤ 2) (fun k => 2 - k) 0 ⟨rfl, rfl, rfl, trivial⟩ ⟨rfl, by omega, by omega⟩ ?_
  rintro k w' ⟨rfl, hk, hk2⟩
  by_cases hlt : k < xs.length
  · by_cases hlt2 : k < 2
    · have hx : xs[k]? = some xs[k] := by simp
      generalize xs[k] = x at hx
      have hxl := h.2.get hx
      have hv := val_lt (xs.take k) (h.2.take k)
      have hv2 := val_le_two (h.2.take (k + 1)) (by simp; omega)
      have hs := val_take_succ hx
      (repeat with_reducible first|refine .nil ?_|refine .then_normal ?_|refine .block_normal ?_|refine .seq ?_|refine .block ?_|refine .skip ?_|refine .region ?_|refine .ret ?_|refine .then_ret ?_|refine .block_ret ?_|refine .exit ?_|refine .then_exit ?_|refine .block_exit ?_|refine .block_other rfl ?_)
      refine StL.as TBok 4 (.bool true) rfl (bool_true (by omega)) ?_
      refine StL.as TBok 3 (.bool true) rfl (bool_true (by omega)) ?_
      (iterate 6 ((repeat with_reducible first|refine .nil ?_|refine .then_normal ?_|refine .block_normal ?_|refine .seq ?_|refine .block ?_|refine .skip ?_|refine .region ?_|refine .ret ?_|refine .then_ret ?_|refine .block_ret ?_|refine .exit ?_|refine .then_exit ?_|refine .block_exit ?_|refine .block_other rfl ?_); try refine .run TBok 99 rfl ?_))
      refine St.condT rfl rfl ?_
      (iterate 6 ((repeat with_reducible first|refine .nil ?_|refine .then_normal ?_|refine .block_normal ?_|refine .seq ?_|refine .block ?_|refine .skip ?_|refine .region ?_|refine .ret ?_|refine .then_ret ?_|refine .block_ret ?_|refine .exit ?_|refine .then_exit ?_|refine .block_exit ?_|refine .block_other rfl ?_); try refine .run TBok 99 rfl ?_))
      refine StL.elem TBok k (u32 x) h.1 (h.get hx) rfl rfl rfl rfl rfl rfl rfl rfl rfl rfl rfl (fun _ => rfl) ?_
      intro p1
      (iterate 6 ((repeat with_reducible first|refine .nil ?_|refine .then_normal ?_|refine .block_normal ?_|refine .seq ?_|refine .block ?_|refine .skip ?_|refine .region ?_|refine .ret ?_|refine .then_ret ?_|refine .block_ret ?_|refine .exit ?_|refine .then_exit ?_|refine .block_exit ?_|refine .block_other rfl ?_); try refine .run TBok 99 rfl ?_))
      refine StL.step rfl rfl rfl (RunsTo.shl (32 * k) rfl rfl (by rw [i64_id (by omega) (by omega)]; omega) (by show 32 * k ≤ 64; omega)).op ?_
      rintro _ _ ⟨rfl, rfl⟩
      have e0 : (4294967296 : Nat) ^ k = 2 ^ (32 * k) := by rw [Nat.pow_mul]
      have hlk : (xs.take k).length = k := by simp; omega
      rw [hlk, e0] at hv
      rw [e0] at hs
      have e1 : IntKind.u64.wrap (IntKind.u64.wrap (x : Int) * 2 ^ (32 * k)) = ((x * 2 ^ (32 * k) : Nat) : Int) := by
        rw [u64_id (n := (x : Int)) (by omega) (by omega), u64_id]
        · simp
        · exact Int.mul_nonneg (by omega) (Int.le_of_lt (Int.pow_pos (by decide)))
        · have : (x : Int) * 2 ^ (32 * k) = ((x * 2 ^ (32 * k) : Nat) : Int) := by simp
          omega
      rw [e1]
      refine StL.as TBok 1 (.int .u64 (val (xs.take (k + 1)))) rfl ?_ ?_
      · rw [or_u64 _ _ (by omega) (by omega), or_low _ _ _ hv, hs]
      (iterate 6 ((repeat with_reducible first|refine .nil ?_|refine .then_normal ?_|refine .block_normal ?_|refine .seq ?_|refine .block ?_|refine .skip ?_|refine .region ?_|refine .ret ?_|refine .then_ret ?_|refine .block_ret ?_|refine .exit ?_|refine .then_exit ?_|refine .block_exit ?_|refine .block_other rfl ?_); try refine .run TBok 99 rfl ?_))
      refine Out.again (k + 1) ⟨rfl, rfl, ?_, trivial⟩ ⟨rfl, by omega, by omega⟩ (by omega)
      show some (Value.int .i64 (IntKind.i64.wrap ((k : Int) + 1))) = _
      rw [i64_id (by omega) (by omega)]
      rfl
    · have hk' : k = 2 := by omega
      subst hk'
      (repeat with_reducible first|refine .nil ?_|refine .then_normal ?_|refine .block_normal ?_|refine .seq ?_|refine .block ?_|refine .skip ?_|refine .region ?_|refine .ret ?_|refine .then_ret ?_|refine .block_ret ?_|refine .exit ?_|refine .then_exit ?_|refine .block_exit ?_|refine .block_other rfl ?_)
      refine StL.as TBok 4 (.bool true) rfl (bool_true (by omega)) ?_
      (iterate 6 ((repeat with_reducible first|refine .nil ?_|refine .then_normal ?_|refine .block_normal ?_|refine .seq ?_|refine .block ?_|refine .skip ?_|refine .region ?_|refine .ret ?_|refine .then_ret ?_|refine .block_ret ?_|refine .exit ?_|refine .then_exit ?_|refine .block_exit ?_|refine .block_other rfl ?_); try refine .run TBok 99 rfl ?_))
      refine St.condF rfl rfl ?_
      (iterate 6 ((repeat with_reducible first|refine .nil ?_|refine .then_normal ?_|refine .block_normal ?_|refine .seq ?_|refine .block ?_|refine .skip ?_|refine .region ?_|refine .ret ?_|refine .then_ret ?_|refine .block_ret ?_|refine .exit ?_|refine .then_exit ?_|refine .block_exit ?_|refine .block_other rfl ?_); try refine .run TBok 99 rfl ?_))
      exact Out.ret1 rfl rfl ⟨Ext.refl _, rfl⟩
  · (repeat with_reducible first|refine .nil ?_|refine .then_normal ?_|refine .block_normal ?_|refine .seq ?_|refine .block ?_|refine .skip ?_|refine .region ?_|refine .ret ?_|refine .then_ret ?_|refine .block_ret ?_|refine .exit ?_|refine .then_exit ?_|refine .block_exit ?_|refine .block_other rfl ?_)
    refine StL.as TBok 4 (.bool false) rfl (bool_false (by omega)) ?_
    (iterate 6 ((repeat with_reducible first|refine .nil ?_|refine .then_normal ?_|refine .block_normal ?_|refine .seq ?_|refine .block ?_|refine .skip ?_|refine .region ?_|refine .ret ?_|refine .then_ret ?_|refine .block_ret ?_|refine .exit ?_|refine .then_exit ?_|refine .block_exit ?_|refine .block_other rfl ?_); try refine .run TBok 99 rfl ?_))
    refine St.condF rfl rfl ?_
    (iterate 6 ((repeat with_reducible first|refine .nil ?_|refine .then_normal ?_|refine .block_normal ?_|refine .seq ?_|refine .block ?_|refine .skip ?_|refine .region ?_|refine .ret ?_|refine .then_ret ?_|refine .block_ret ?_|refine .exit ?_|refine .then_exit ?_|refine .block_exit ?_|refine .block_other rfl ?_); try refine .run TBok 99 rfl ?_))
    refine Out.ret1 rfl rfl ⟨Ext.refl _, ?_⟩
    rw [List.take_of_length_le (by omega), List.take_of_length_le (by omega)]

set_option maxRecDepth 8000 in
theorem rint64_dn {w : World} {x : Value} {a : Int} (h : Dn w x a) : Calls Try.prog 31 #[x] w (Ret fun r w' => Ext w w' ∧ r = int64V a) := by
  obtain ⟨neg, xs, ⟨p, cap, rfl, hs⟩, rfl, hlen⟩ := h
  have hl1 := limbs_length_le xs hs.2
  refine calls_of_St (args := [_]) Try.func31 rfl Try.ntmps31 rfl ?_
  (repeat with_reducible first|refine .nil ?_|refine .then_normal ?_|refine .block_normal ?_|refine .seq ?_|refine .block ?_|refine .skip ?_|refine .region ?_|refine .ret ?_|refine .then_ret ?_|refine .block_ret ?_|refine .exit ?_|refine .then_exit ?_|refine .block_exit ?_|refine .block_other rfl ?_)
  refine StL.step rfl rfl rfl (OpR.box rfl) ?_
  rintro _ w1 ⟨rfl, hb1, hx1, hz1⟩
  (iterate 6 ((repeat with_reducible first|refine .nil ?_|refine .then_normal ?_|refine .block_normal ?_|refine .seq ?_|refine .block ?_|refine .skip ?_|refine .region ?_|refine .ret ?_|refine .then_ret ?_|refine .block_ret ?_|refine .exit ?_|refine .then_exit ?_|refine .block_exit ?_|refine .block_other rfl ?_); try refine .run TBok 99 rfl ?_))
  (refine StL.step rfl rfl rfl (RunsTo.load TBok rfl rfl rfl (Blk.cell (by first | assumption | exact Ext.refl _ | (apply Blk.ext; assumption; (repeat first | assumption | refine Ext.trans ?_ (by assumption))) | (apply CanO.ext; assumption; (repeat first | assumption | refine Ext.trans ?_ (by assumption))) | (apply Den.ext; assumption; (repeat first | assumption | refine Ext.trans ?_ (by assumption))) | (apply Sl.ext; assumption; (repeat first | assumption | refine Ext.trans ?_ (by assumption))) | (apply SlO.ext; assumption; (repeat first | assumption | refine Ext.trans ?_ (by assumption))) | (apply Dn.ext; assumption; (repeat first | assumption | refine Ext.trans ?_ (by assumption))) | (apply It.ext; assumption; (repeat first | assumption | refine Ext.trans ?_ (by assumption))) | (repeat first | assumption | refine Ext.trans ?_ (by assumption))) rfl)).op ?_; rintro _ _ ⟨rfl, rfl⟩)
  refine StL.step rfl rfl rfl (OpR.call fn_r01_trim rfl (rtrim_spec (base := 0) w1 _ xs (by first | assumption | exact Ext.refl _ | (apply Blk.ext; assumption; (repeat first | assumption | refine Ext.trans ?_ (by assumption))) | (apply CanO.ext; assumption; (repeat first | assumption | refine Ext.trans ?_ (by assumption))) | (apply Den.ext; assumption; (repeat first | assumption | refine Ext.trans ?_ (by assumption))) | (apply Sl.ext; assumption; (repeat first | assumption | refine Ext.trans ?_ (by assumption))) | (apply SlO.ext; assumption; (repeat first | assumption | refine Ext.trans ?_ (by assumption))) | (apply Dn.ext; assumption; (repeat first | assumption | refine Ext.trans ?_ (by assumption))) | (apply It.ext; assumption; (repeat first | assumption | refine Ext.trans ?_ (by assumption))) | (repeat first | assumption | refine Ext.trans ?_ (by assumption))) (by omega) (Nat.zero_le _))) ?_
  rintro sl w2 ⟨hx2, hsl⟩
  obtain ⟨p2, cap2, rfl, _⟩ := hsl.sl.form
  (iterate 6 ((repeat with_reducible first|refine .nil ?_|refine .then_normal ?_|refine .block_normal ?_|refine .seq ?_|refine .block ?_|refine .skip ?_|refine .region ?_|refine .ret ?_|refine .then_ret ?_|refine .block_ret ?_|refine .exit ?_|refine .then_exit ?_|refine .block_exit ?_|refine .block_other rfl ?_); try refine .run TBok 99 rfl ?_))
  refine StL.step rfl rfl rfl (OpR.call fn_r01_low rfl (low_spec w2 _ _ hsl.sl (by omega))) ?_
  rintro _ w3 ⟨hx3, rfl⟩
  have hx03 : Ext w w3 := (by first | assumption | exact Ext.refl _ | (apply Blk.ext; assumption; (repeat first | assumption | refine Ext.trans ?_ (by assumption))) | (apply CanO.ext; assumption; (repeat first | assumption | refine Ext.trans ?_ (by assumption))) | (apply Den.ext; assumption; (repeat first | assumption | refine Ext.trans ?_ (by assumption))) | (apply Sl.ext; assumption; (repeat first | assumption | refine Ext.trans ?_ (by assumption))) | (apply SlO.ext; assumption; (repeat first | assumption | refine Ext.trans ?_ (by assumption))) | (apply Dn.ext; assumption; (repeat first | assumption | refine Ext.trans ?_ (by assumption))) | (apply It.ext; assumption; (repeat first | assumption | refine Ext.trans ?_ (by assumption))) | (repeat first | assumption | refine Ext.trans ?_ (by assumption)))
  have hb3 : Blk 24 w3 w.heap.size _ := (hb1.ext hx2).ext hx3
  (iterate 6 ((repeat with_reducible first|refine .nil ?_|refine .then_normal ?_|refine .block_normal ?_|refine .seq ?_|refine .block ?_|refine .skip ?_|refine .region ?_|refine .ret ?_|refine .then_ret ?_|refine .block_ret ?_|refine .exit ?_|refine .then_exit ?_|refine .block_exit ?_|refine .block_other rfl ?_); try refine .run TBok 99 rfl ?_))
  by_cases hbig : 2 < (limbs (val xs)).length
  · refine St.condT rfl (by simp; omega) ?_
    (iterate 6 ((repeat with_reducible first|refine .nil ?_|refine .then_normal ?_|refine .block_normal ?_|refine .seq ?_|refine .block ?_|refine .skip ?_|refine .region ?_|refine .ret ?_|refine .then_ret ?_|refine .block_ret ?_|refine .exit ?_|refine .then_exit ?_|refine .block_exit ?_|refine .block_other rfl ?_); try refine .run TBok 99 rfl ?_))
    refine Out.ret2 rfl rfl rfl ⟨hx03, ?_⟩
    have hge : 18446744073709551616 ≤ val xs := by
      rcases Nat.lt_or_ge (val xs) 18446744073709551616 with h | h
      · have := limbs_length_le_two h; omega
      · exact h
    unfold int64V
    rw [if_neg]
    cases neg <;> simp [sg] <;> omega
  refine St.condF rfl (by simp; omega) ?_
  have hv64 : val xs < 18446744073709551616 := by
    have := val_le_two hsl.2 (by omega)
    rwa [val_limbs] at this
  rw [List.take_of_length_le (by omega), val_limbs]
  generalize val xs = m at *
  (iterate 6 ((repeat with_reducible first|refine .nil ?_|refine .then_normal ?_|refine .block_normal ?_|refine .seq ?_|refine .block ?_|refine .skip ?_|refine .region ?_|refine .ret ?_|refine .then_ret ?_|refine .block_ret ?_|refine .exit ?_|refine .then_exit ?_|refine .block_exit ?_|refine .block_other rfl ?_); try refine .run TBok 99 rfl ?_))
  refine StL.step rfl rfl rfl (RunsTo.load TBok rfl rfl rfl (hb3.cell rfl)).op ?_
  rintro _ _ ⟨rfl, rfl⟩
  unfold int64V
  cases neg with
  | true =>
    by_cases hm : m ≤ 9223372036854775808
    · refine StL.as TBok 3 (.bool true) rfl (bool_true (by omega)) ?_
      (iterate 6 ((repeat with_reducible first|refine .nil ?_|refine .then_normal ?_|refine .block_normal ?_|refine .seq ?_|refine .block ?_|refine .skip ?_|refine .region ?_|refine .ret ?_|refine .then_ret ?_|refine .block_ret ?_|refine .exit ?_|refine .then_exit ?_|refine .block_exit ?_|refine .block_other rfl ?_); try refine .run TBok 99 rfl ?_))
      refine St.condT rfl rfl ?_
      (iterate 6 ((repeat with_reducible first|refine .nil ?_|refine .then_normal ?_|refine .block_normal ?_|refine .seq ?_|refine .block ?_|refine .skip ?_|refine .region ?_|refine .ret ?_|refine .then_ret ?_|refine .block_ret ?_|refine .exit ?_|refine .then_exit ?_|refine .block_exit ?_|refine .block_other rfl ?_); try refine .run TBok 99 rfl ?_))
      refine Out.ret2 rfl rfl rfl ⟨hx03, ?_⟩
      rw [if_pos (by simp [sg]; omega)]
      congr 4
      simp only [wrap_i64, wrap_u64, sg, if_true]
      omega
    · refine StL.as TBok 3 (.bool false) rfl (bool_false (by omega)) ?_
      (iterate 6 ((repeat with_reducible first|refine .nil ?_|refine .then_normal ?_|refine .block_normal ?_|refine .seq ?_|refine .block ?_|refine .skip ?_|refine .region ?_|refine .ret ?_|refine .then_ret ?_|refine .block_ret ?_|refine .exit ?_|refine .then_exit ?_|refine .block_exit ?_|refine .block_other rfl ?_); try refine .run TBok 99 rfl ?_))
      refine St.condF rfl rfl ?_
      (iterate 6 ((repeat with_reducible first|refine .nil ?_|refine .then_normal ?_|refine .block_normal ?_|refine .seq ?_|refine .block ?_|refine .skip ?_|refine .region ?_|refine .ret ?_|refine .then_ret ?_|refine .block_ret ?_|refine .exit ?_|refine .then_exit ?_|refine .block_exit ?_|refine .block_other rfl ?_); try refine .run TBok 99 rfl ?_))
      refine StL.step rfl rfl rfl (RunsTo.load TBok rfl rfl rfl (hb3.cell rfl)).op ?_
      rintro _ _ ⟨rfl, rfl⟩
      (iterate 6 ((repeat with_reducible first|refine .nil ?_|refine .then_normal ?_|refine .block_normal ?_|refine .seq ?_|refine .block ?_|refine .skip ?_|refine .region ?_|refine .ret ?_|refine .then_ret ?_|refine .block_ret ?_|refine .exit ?_|refine .then_exit ?_|refine .block_exit ?_|refine .block_other rfl ?_); try refine .run TBok 99 rfl ?_))
      refine St.condF rfl rfl ?_
      (iterate 6 ((repeat with_reducible first|refine .nil ?_|refine .then_normal ?_|refine .block_normal ?_|refine .seq ?_|refine .block ?_|refine .skip ?_|refine .region ?_|refine .ret ?_|refine .then_ret ?_|refine .block_ret ?_|refine .exit ?_|refine .then_exit ?_|refine .block_exit ?_|refine .block_other rfl ?_); try refine .run TBok 99 rfl ?_))
      refine Out.ret2 rfl rfl rfl ⟨hx03, ?_⟩
      rw [if_neg (by simp [sg]; omega)]
  | false =>
    (iterate 6 ((repeat with_reducible first|refine .nil ?_|refine .then_normal ?_|refine .block_normal ?_|refine .seq ?_|refine .block ?_|refine .skip ?_|refine .region ?_|refine .ret ?_|refine .then_ret ?_|refine .block_ret ?_|refine .exit ?_|refine .then_exit ?_|refine .block_exit ?_|refine .block_other rfl ?_); try refine .run TBok 99 rfl ?_))
    refine St.condF rfl rfl ?_
    (iterate 6 ((repeat with_reducible first|refine .nil ?_|refine .then_normal ?_|refine .block_normal ?_|refine .seq ?_|refine .block ?_|refine .skip ?_|refine .region ?_|refine .ret ?_|refine .then_ret ?_|refine .block_ret ?_|refine .exit ?_|refine .then_exit ?_|refine .block_exit ?_|refine .block_other rfl ?_); try refine .run TBok 99 rfl ?_))
    refine StL.step rfl rfl rfl (RunsTo.load TBok rfl rfl rfl (hb3.cell rfl)).op ?_
    rintro _ _ ⟨rfl, rfl⟩
    by_cases hm : m < 9223372036854775808
    · refine StL.as TBok 4 (.bool true) rfl (bool_true (by omega)) ?_
      (iterate 6 ((repeat with_reducible first|refine .nil ?_|refine .then_normal ?_|refine .block_normal ?_|refine .seq ?_|refine .block ?_|refine .skip ?_|refine .region ?_|refine .ret ?_|refine .then_ret ?_|refine .block_ret ?_|refine .exit ?_|refine .then_exit ?_|refine .block_exit ?_|refine .block_other rfl ?_); try refine .run TBok 99 rfl ?_))
      refine St.condT rfl rfl ?_
      (iterate 6 ((repeat with_reducible first|refine .nil ?_|refine .then_normal ?_|refine .block_normal ?_|refine .seq ?_|refine .block ?_|refine .skip ?_|refine .region ?_|refine .ret ?_|refine .then_ret ?_|refine .block_ret ?_|refine .exit ?_|refine .then_exit ?_|refine .block_exit ?_|refine .block_other rfl ?_); try refine .run TBok 99 rfl ?_))
      refine Out.ret2 rfl rfl rfl ⟨hx03, ?_⟩
      rw [if_pos (by simp [sg]; omega)]
      congr 4
      simp only [wrap_i64, sg]
      simp
      omega
    · refine StL.as TBok 4 (.bool false) rfl (bool_false (by omega)) ?_
      (iterate 6 ((repeat with_reducible first|refine .nil ?_|refine .then_normal ?_|refine .block_normal ?_|refine .seq ?_|refine .block ?_|refine .skip ?_|refine .region ?_|refine .ret ?_|refine .then_ret ?_|refine .block_ret ?_|refine .exit ?_|refine .then_exit ?_|refine .block_exit ?_|refine .block_other rfl ?_); try refine .run TBok 99 rfl ?_))
      refine St.condF rfl rfl ?_
      (iterate 6 ((repeat with_reducible first|refine .nil ?_|refine .then_normal ?_|refine .block_normal ?_|refine .seq ?_|refine .block ?_|refine .skip ?_|refine .region ?_|refine .ret ?_|refine .then_ret ?_|refine .block_ret ?_|refine .exit ?_|refine .then_exit ?_|refine .block_exit ?_|refine .block_other rfl ?_); try refine .run TBok 99 rfl ?_))
      refine Out.ret2 rfl rfl rfl ⟨hx03, ?_⟩
      rw [if_neg (by simp [sg]; omega)]

end Go.Qf
