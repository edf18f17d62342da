/- Lemmas on the model and on the program's functions, part Zte. -/
import GoSem.Core.View
import Derived.WalkKit
import Derived.Deep.Quiet
import Derived.Deep.LoopGhost
import Derived.KernelRfl
import Derived.Test.YtlhbkhjaajcfgaaGreatProg
import Derived.Laws.BytesString
import Derived.Laws.RangeString
import Derived.Lib.OthersKept
import Derived.Laws.Strings
import Derived.ProofKit
import Derived.OpenShut
import Derived.Lib.SmallJoins
import Derived.Carry
import Derived.ChangeMaps5
import Derived.Maps.AppendAt
import Derived.Laws.Externs
import Derived.Lib.Bytealg
import Derived.ChangeArms
import Derived.Laws.OwnMore
import Derived.Scope
import Derived.RangeFuncLeaves
import Derived.RangeFuncRecord
import Derived.TacticsIn
import Derived.OrdersIn
import Derived.Test.YtlhbkhjaajcfgaaGreatRows
import Derived.Test.YtlhbkhjaajcfgaaGreatZta
import Derived.Test.YtlhbkhjaajcfgaaGreatZtb
import Derived.Test.YtlhbkhjaajcfgaaGreatZtc
import Derived.Test.YtlhbkhjaajcfgaaGreatZtd
set_option linter.unusedVariables false
set_option linter.unusedSimpArgs false
namespace Go.Qf
open Go Go.RowKit Go.Proofs
set_option maxRecDepth 20000
theorem pad_rev (k N:Nat):(pad (k+1) N).reverse=(48+N / 10 ^ k % 10)::(pad k N).reverse:=by
 rw [pad_succ,List.reverse_append];rfl
theorem digit_at (N k i:Nat) (hi:i<9):N / 10 ^ k % 1000000000 / 10 ^ i % 10=N / 10 ^ (k+i) % 10:=by
 have h9:(1000000000:Nat)=10 ^ i * 10 ^ (9 - i):=by rw [← Nat.pow_add,show i+(9 - i)=9 from by omega]
 rw [h9,Nat.mod_mul_right_div_self,Nat.div_div_eq_div_mul,← Nat.pow_add,show 9 - i=(8 - i)+1 from by omega,Nat.pow_succ,Nat.mul_comm (10 ^ (8 - i)) 10,Nat.mod_mul_right_mod]
set_option maxHeartbeats 1000000 in
theorem rformat_dn {w:World} {v:Value} {a:Int} (h:Dn w v a):Calls Tryz.prog 101 #[v] w (Ret fun r w'=>Ext w w'∧r=strV (fmtI a)):=by
 have hD:=h
 have hsza:=h.sz_le
 obtain ⟨neg,xs,⟨p,cap,rfl,hs⟩,hva,hlen⟩:=h
 refine calls_of_St (args:=[_]) Tryz.func101 rfl Tryz.ntmps101 rfl ?_
 refine Nv ?_
 refine .s (OpR.box rfl) ?_
 rintro _ w1 ⟨rfl,hb1,hx1,hz1⟩
 (iterate 6 refine Nv ?_;try refine .r rfl ?_)
 (refine .s (RunsTo.loadInt rfl upp (by first | rfl | assumption) (by first | rfl | assumption)).op ?_;rintro _ _ ⟨rfl,rfl⟩)
 refine .s (OpR.call fn_r01_Sign rfl (rsign_dn (hD.ext hx1))) ?_
 rintro _ w2 ⟨hx2,rfl⟩
 have hx02:Ext w w2:=hx1.trans hx2
 have hB1:=hb1.ext hx2
 clear hx1 hx2 hb1 hz1
 (iterate 6 refine Nv ?_;try refine .r rfl ?_)
 by_cases h0:a=0
 ·subst h0
  refine .cT ?_
  (iterate 6 refine Nv ?_;try refine .r rfl ?_)
  exact Out.ret1 rfl rfl ⟨hx02,rfl⟩
 refine St.condF rfl (by simp only [signI,if_neg h0];split <;> decide) ?_
 (iterate 6 refine Nv ?_;try refine .r rfl ?_)
 refine .p (RunsTo.loadInt rfl hB1 rfl rfl) ?_
 refine .s (OpR.call fn_r01_Abs rfl (rabs_dn (base:=0) (hD.ext hx02) (Nat.zero_le _))) ?_
 rintro av w3 ⟨hx3,hav⟩
 replace hB1:=hB1.ext hx3
 replace hx02:=hx02.trans hx3
 clear hx3
 refine StL.setNew rfl (fun _=>rfl) hav hx02 ?_
 intro b4 w4 hg4 hx4 hS4 hav4 hx04
 have hlt1:=hB1.lt
 have hb4g:w.heap.size<b4:=by omega
 replace hB1:=hB1.ext hx4
 clear hx4
 generalize hN:a.natAbs=N at *
 have hN0:N≠0:=by omega
 have hszN:sz (N:Int)≤1000000:=by
  have:sz (N:Int)=sz a:=by unfold sz;rw [← hN];rfl
  omega
 have hNlt:∃ len,len≤1000000∧N<4294967296 ^ len:=by
  have h1:=val_lt (limbs N) (lim_limbs N)
  rw [val_limbs] at h1
  exact ⟨_,hszN,h1⟩
 obtain ⟨len,hlenN,hNlt⟩:=hNlt
 clear hav hx02
 (iterate 6 refine Nv ?_;try refine .r rfl ?_)
 refine St.loop (fun g:Nat×Value×Nat=>[(1,.pointer (some ⟨w.heap.size,0,none⟩)),(3,strV (pad g.1 N).reverse),(4,.pointer (some ⟨g.2.2,0,none⟩))])
  (fun g w'=>Ext w w'∧Can w' g.2.1 ((N / 10 ^ g.1:Nat):Int)∧Blk 31 w' g.2.2 g.2.1.cells.toList∧w.heap.size<g.2.2∧Blk 31 w' w.heap.size [.bool neg,.slice p xs.length cap]∧g.1≤11000009)
  (fun g=>N / 10 ^ g.1) (0,av,b4) ⟨rfl,rfl,rfl,trivial⟩ ⟨hx04,by simpa using hav4,hS4,hb4g,hB1,Nat.zero_le _⟩ ?_
 clear hx04 hav4 hS4 hb4g hB1 hlt1 hg4
 rintro ⟨k,av,b4⟩ w5 ⟨hx05,hav5,hS5,hg5,hB1,hk5⟩
 dsimp only at hx05 hav5 hS5 hg5 hB1 hk5 ⊢
 have hszk:sz ((N / 10 ^ k:Nat):Int)≤1000000:=by
  exact Nat.le_trans (sz_nat_le (b:=(N:Int)) (Nat.div_le_self _ _)) hszN
 refine Nv ?_
 refine .p (RunsTo.loadCan rfl hS5 hav5) ?_
 refine .s (OpR.call fn_r01_Sign rfl (rsign_dn (hav5.dn hszk))) ?_
 rintro _ w6 ⟨hx6,rfl⟩
 replace hB1:=hB1.ext hx6
 replace hS5:=hS5.ext hx6
 replace hav5:=hav5.ext hx6
 replace hx05:=hx05.trans hx6
 clear hx6
 (iterate 6 refine Nv ?_;try refine .r rfl ?_)
 by_cases hM:N / 10 ^ k=0
 ·refine St.condF rfl (by rw [hM];rfl) ?_
  have hNk:N<10 ^ k:=by
   rcases Nat.lt_or_ge N (10 ^ k) with h | h
   ·exact h
   ·have:=Nat.div_pos h (Nat.pow_pos (by decide:0<10));omega
  refine Nv ?_
  refine St.loop (fun g:Nat=>[(1,.pointer (some ⟨w.heap.size,0,none⟩)),(3,strV (pad g N).reverse)])
   (fun g w'=>w'=w6∧N<10 ^ g∧g≤k) (fun g=>g) k ⟨rfl,rfl,trivial⟩ ⟨rfl,hNk,Nat.le_refl _⟩ ?_
  rintro j w7 ⟨rfl,hj5,hjk⟩
  obtain ⟨i,rfl⟩:∃ i,j=i+1:=⟨j - 1,by
   rcases Nat.eq_zero_or_pos j with e | e
   ·subst e;simp at hj5;omega
   ·omega⟩
  rw [pad_rev]
  refine Nv ?_
  refine .r rfl ?_
  refine .p (RunsTo.strIndex TBok 0 _ rfl rfl rfl rfl rfl (by omega)) ?_
  refine .r rfl ?_
  (refine StL.nil ?_;repeat with_reducible first | refine Out.then_normal ?_ | refine Out.block_normal ?_)
  by_cases hd:N / 10 ^ i % 10=0
  ·refine St.condT rfl (by rw [hd];rfl) ?_
   have hNi:N<10 ^ i:=by
    rw [Nat.pow_succ] at hj5
    rcases Nat.lt_or_ge N (10 ^ i) with h | h
    ·exact h
    ·have h1:=Nat.div_pos h (Nat.pow_pos (by decide:0<10))
     have h2:N / 10 ^ i<10:=Nat.div_lt_of_lt_mul hj5
     omega
   refine Nv ?_
   refine .r rfl ?_
   refine .p (RunsTo.strFrom TBok 1 rfl rfl rfl rfl (by simp)) ?_
   (iterate 6 refine Nv ?_;try refine .r rfl ?_)
   exact Out.again i ⟨rfl,rfl,trivial⟩ ⟨rfl,hNi,by omega⟩ (Nat.lt_succ_self i)
  ·have hlow:10 ^ (i+1)≤10 * N:=by
    rw [Nat.pow_succ]
    rcases Nat.lt_or_ge N (10 ^ i) with h | h
    ·rw [Nat.div_eq_of_lt h] at hd;simp at hd
    ·omega
   have hpd:=pad_digs (i+1) N hj5 hlow
   refine St.condF rfl (by
    have:¬ ((((48+N / 10 ^ i % 10:Nat):Int))=48):=by omega
    simpa using this) ?_
   rw [← pad_rev,hpd]
   have hdl:(digs N).length≤11000009:=by rw [← hpd,pad_length];omega
   (iterate 6 refine Nv ?_;try refine .r rfl ?_)
   refine .p (RunsTo.load TBok rfl rfl rfl (hB1.cell rfl)) ?_
   have hfa:fmtI a=if neg then 45::(digs N).reverse else (digs N).reverse:=by
    unfold fmtI fmtN
    rw [hN,if_neg hN0]
    cases neg
    ·rw [if_neg (by rw [← hva];simp [sg])];rfl
    ·rw [if_pos (by rw [← hva,sg];rw [← hva,sg_abs] at hN;simp;omega)];rfl
   (iterate 6 refine Nv ?_;try refine .r rfl ?_)
   cases neg with
   | true =>
    refine .cT ?_
    (iterate 6 refine Nv ?_;try refine .r rfl ?_)
    refine .p (RunsTo.strAdd (xs:=[45]) rfl rfl (by simp;omega)) ?_
    (iterate 6 refine Nv ?_;try refine .r rfl ?_)
    exact Out.ret1 rfl rfl ⟨hx05,by rw [hfa];rfl⟩
   | false =>
    refine .cF ?_
    (iterate 6 refine Nv ?_;try refine .r rfl ?_)
    exact Out.ret1 rfl rfl ⟨hx05,by rw [hfa];rfl⟩
 ·have hk10:10 ^ k≤N:=by
   rcases Nat.lt_or_ge N (10 ^ k) with h | h
   ·exact absurd (Nat.div_eq_of_lt h) hM
   ·exact h
  have hkb:=digits_le hNlt hk10
  have hpos:0<N / 10 ^ k:=Nat.pos_of_ne_zero hM
  refine St.condT rfl (by
   have h1:¬ (((N / 10 ^ k:Nat):Int)<0):=by omega
   have h2:¬ (((N / 10 ^ k:Nat):Int)=0):=by omega
   simp only [signI,if_neg h1,if_neg h2];rfl) ?_
  refine Nv ?_
  refine St.sub (E':=[(1,.pointer (some ⟨w.heap.size,0,none⟩)),(3,strV (pad k N).reverse),(4,.pointer (some ⟨b4,0,none⟩))]) ?_ ⟨rfl,rfl,rfl,trivial⟩
  refine St.flow 11 TBfol (by kernel_rfl) rfl (by kernel_rfl) rfl True.intro ?_
  refine FL.run TBok 99 rfl ?_
  refine .on (fun _ hR=>RunsTo.loadCan rfl (hR.blk hS5 (by simp)) hav5) ?_
  refine FL.callE fn_r01_Small rfl rfl rfl (fun w7 hx7=>CallF.mk rfl (rsmall_spec (base:=0) w7 1000000000 (by decide) (by decide) (Nat.zero_le _))) (MonoR.canO 0 _) ?_
  refine FL.callE fn_r01_DivMod rfl rfl rfl (fun w7 hx7 v20 h20=>CallF.mk rfl (rdivMod_dn ((hav5.ext hx7).dn hszk) (h20.dn (by decide +kernel)))) (MonoR.divV 0 _ _) ?_
  refine FL.fact (L:=[]) (ψ:=fun v w'=>DivV 0 w' v ((N / 10 ^ k:Nat):Int) 1000000000) rfl rfl rfl rfl rfl (fun w3 hR v hv=>RunsTo.ext (RunsTo.pure TBok rfl) hv) (MonoR.divV 0 _ _) ?_
  refine FL.fact (L:=[]) (ψ:=fun v w'=>CanO 0 w' v (((N / 10 ^ k:Nat):Int) / 1000000000)) rfl rfl rfl rfl rfl ?_ (MonoR.canO 0 _) ?_
  ·intro w7 hR v18 h18
   obtain ⟨q,m,rfl,hq,hm⟩:=h18.2 (by decide)
   exact RunsTo.ext (RunsTo.pure TBok rfl) hq
  refine FL.fact (L:=[]) (ψ:=fun v w'=>CanO 0 w' v (((N / 10 ^ k:Nat):Int) % 1000000000)) rfl rfl rfl rfl rfl ?_ (MonoR.canO 0 _) ?_
  ·intro w7 hR v18 h18
   obtain ⟨q,m,rfl,hq,hm⟩:=h18.2 (by decide)
   exact RunsTo.ext (RunsTo.pure TBok rfl) hm
  refine FL.exact (L:=[]) (c:=.bool true) rfl rfl rfl rfl rfl ?_ ?_
  ·intro w7 hR v18 h18
   obtain ⟨q,m,rfl,hq,hm⟩:=h18.2 (by decide)
   exact RunsTo.ext (ψ:=fun v _=>v=.bool true) (RunsTo.pure TBok rfl) rfl
  refine FL.alloc TBok rfl rfl rfl rfl ?_
  refine FL.alloc TBok rfl rfl rfl rfl ?_
  refine FL.storeN (L:=[]) (base:=w6.heap.size) TBok rfl rfl rfl rfl rfl (MonoR.canO 0 (((N / 10 ^ k:Nat):Int) / 1000000000)) ?_ ?_
  ·intro w7 hR v5 h5 v22 h22
   exact ⟨⟨v5,rfl,h5⟩,v22,rfl,h22.two.1,h22.two.2,h22⟩
  refine FL.storeN (L:=[]) (base:=w6.heap.size) TBok rfl rfl rfl rfl rfl (MonoR.canO 0 (((N / 10 ^ k:Nat):Int) % 1000000000)) ?_ ?_
  ·intro w7 hR v6 h6 v23 h23
   exact ⟨⟨v6,rfl,h6⟩,v23,rfl,h23.two.1,h23.two.2,h23⟩
  refine FL.endE rfl ?_
  rintro w7 hx7 _ ⟨b6,C6,rfl,hg6,_,_⟩ _ ⟨b5,C5,rfl,hg5',_,_⟩ v23 _ v22 _ v18 _ v21 _ v20 _ ⟨⟨b6',u6,hbu6,hB6,hu6⟩,⟨b5',u5,hbu5,hB5,hu5⟩,_⟩ hdist
  cases hbu6
  cases hbu5
  have hlt4:=hS5.lt
  replace hB1:=hB1.ext hx7
  replace hS5:=hS5.ext hx7
  replace hav5:=hav5.ext hx7
  replace hx05:=hx05.trans hx7
  clear hx7
  rw [show ((N / 10 ^ k:Nat):Int) / 1000000000=((N / 10 ^ k / 1000000000:Nat):Int) from by omega,Nat.div_div_eq_div_mul,show 10 ^ k * 1000000000=10 ^ (k+9) from by rw [Nat.pow_add]] at hu5
  rw [show ((N / 10 ^ k:Nat):Int) % 1000000000=((N / 10 ^ k % 1000000000:Nat):Int) from by omega] at hu6
  obtain ⟨p6,c6,rfl,hs6⟩:=hu6
  (iterate 6 refine Nv ?_;try refine .r rfl ?_)
  refine .p (RunsTo.load TBok rfl rfl rfl (hB6.cell rfl)) ?_
  have hrlen:(limbs (((N / 10 ^ k % 1000000000:Nat):Int)).natAbs).length≤2:=limbs_length_le_two (by simp;omega)
  refine .s (OpR.call fn_r01_low rfl (low_spec w7 _ _ hs6.sl (by omega))) ?_
  rintro _ w8 ⟨hx8,rfl⟩
  rw [List.take_of_length_le hrlen,val_limbs,Int.natAbs_natCast]
  replace hB1:=hB1.ext hx8
  replace hS5:=hS5.ext hx8
  replace hav5:=hav5.ext hx8
  replace hB5:=hB5.ext hx8
  replace hu5:=hu5.ext hx8
  replace hx05:=hx05.trans hx8
  clear hx8
  (iterate 6 refine Nv ?_;try refine .r rfl ?_)
  refine St.loop (fun q:Nat=>[(1,.pointer (some ⟨w.heap.size,0,none⟩)),(3,strV (pad (k+q) N).reverse),(4,.pointer (some ⟨b4,0,none⟩)),(5,.pointer (some ⟨b5,0,none⟩)),(8,.int .u64 ((N / 10 ^ k % 1000000000 / 10 ^ q:Nat):Int)),(9,.int .i64 q)])
   (fun q w'=>Ext w w'∧Can w' u5 ((N / 10 ^ (k+9):Nat):Int)∧Blk 31 w' b5 u5.cells.toList∧(∃ C,Blk 31 w' b4 C∧C.length=2)∧Blk 31 w' w.heap.size [.bool neg,.slice p xs.length cap]∧q≤9)
   (fun q=>9 - q) 0 ⟨rfl,rfl,rfl,rfl,?_,rfl,trivial⟩ ⟨hx05,hu5,hB5,⟨_,hS5,hav5.two.1⟩,hB1,by omega⟩ ?_
  ·show some (Value.int .u64 ((N / 10 ^ k % 1000000000:Nat):Int))=_
   simp
  clear hx05 hu5 hB5 hS5 hav5 hB1
  rintro i w9 ⟨hx09,hu5,hB5,⟨C4,hB4,hC4⟩,hB1,hi⟩
  by_cases hi9:i<9
  ·refine Nv ?_
   refine .a 2 (.bool true) rfl (bool_true (by omega)) ?_
   (iterate 6 refine Nv ?_;try refine .r rfl ?_)
   refine .cT ?_
   (iterate 6 refine Nv ?_;try refine .r rfl ?_)
   have hdig:=digit_at N k i hi9
   have hrest:N / 10 ^ k % 1000000000 / 10 ^ i<4294967296:=by
    refine Nat.lt_of_le_of_lt (Nat.div_le_self _ _) ?_
    omega
   have hnext:N / 10 ^ k % 1000000000 / 10 ^ i / 10=N / 10 ^ k % 1000000000 / 10 ^ (i+1):=by
    rw [Nat.div_div_eq_div_mul,Nat.pow_succ]
   generalize N / 10 ^ k % 1000000000 / 10 ^ i=rest at hrest hdig hnext ⊢
   refine .p (RunsTo.remN rest 10 rfl rfl rfl rfl (by decide)) ?_
   have e2:IntKind.u8.wrap (IntKind.u64.wrap (48+((rest % 10:Nat):Int)))=((48+N / 10 ^ (k+i) % 10:Nat):Int):=by
    rw [← hdig]
    simp only [wrap_u64,wrap_u8]
    omega
   refine .a 2 (.int .u8 ((48+N / 10 ^ (k+i) % 10:Nat):Int)) rfl (by rw [e2]) ?_
   refine .s (OpR.single TBok rfl rfl rfl rfl) ?_
   rintro _ w10 ⟨rfl,hb10,hx10,_⟩
   have hrow:Row 5 w10 (.slice (some ⟨w9.heap.size,0,none⟩) 1 1) ([48+N / 10 ^ (k+i) % 10].map u8):=hb10.row rfl (by simp) (by simp) rfl
   refine .p (RunsTo.bytesStr TBok rfl rfl rfl rfl rfl hrow) ?_
   replace hB1:=hB1.ext hx10
   replace hB4:=hB4.ext hx10
   replace hB5:=hB5.ext hx10
   replace hu5:=hu5.ext hx10
   replace hx09:=hx09.trans hx10
   clear hx10
   refine .r rfl ?_
   refine .p (RunsTo.strAdd (xs:=[48+N / 10 ^ (k+i) % 10]) rfl rfl (by simp [pad_length];omega)) ?_
   (iterate 6 refine Nv ?_;try refine .r rfl ?_)
   refine .p (RunsTo.quoN rest 10 rfl rfl rfl rfl (by decide) (by rw [wrap_u64];omega)) ?_
   rw [hnext]
   (iterate 6 refine Nv ?_;try refine .r rfl ?_)
   refine Out.again (i+1) ⟨rfl,?_,rfl,rfl,rfl,?_,trivial⟩ ⟨hx09,hu5,hB5,⟨C4,hB4,hC4⟩,hB1,by omega⟩ (by omega)
   ·rw [← Nat.add_assoc,pad_rev];rfl
   ·show some (Value.int .i64 _)=_
    rw [i64_id (by omega) (by omega)];rfl
  ·have hi':i=9:=by omega
   subst hi'
   refine Nv ?_
   refine .a 2 (.bool false) rfl rfl ?_
   (iterate 6 refine Nv ?_;try refine .r rfl ?_)
   refine .cF ?_
   (iterate 6 refine Nv ?_;try refine .r rfl ?_)
   refine .p (RunsTo.loadCan rfl hB5 hu5) ?_
   refine StL.setCan rfl rfl hB4 hC4 hu5 hx09 (by omega) ?_
   intro w10 hB4' hu10 hu5' hx10
   replace hB1:=hB1.upd hu10 (by omega)
   (iterate 6 refine Nv ?_;try refine .r rfl ?_)
   refine .p (RunsTo.loadCan rfl hB4' hu5') ?_
   (iterate 6 refine Nv ?_;try refine .r rfl ?_)
   refine StL.setNew rfl (fun _=>rfl) hu5' hx10 ?_
   intro b11 w11 hg11 hx11 hS11 hu11 hx011
   have hlt1:=hB1.lt
   replace hB1:=hB1.ext hx11
   (refine StL.nil ?_;repeat with_reducible first | refine Out.then_normal ?_ | refine Out.block_normal ?_)
   refine Out.again (k+9,u5,b11) ⟨rfl,rfl,rfl,trivial⟩ ⟨hx011,hu11,hS11,(by dsimp only;omega),hB1,(by dsimp only;omega)⟩ ?_
   show N / 10 ^ (k+9)<N / 10 ^ k
   rw [Nat.pow_add,← Nat.div_div_eq_div_mul]
   exact Nat.div_lt_self hpos (by decide)
def isNeg (s:List Nat):Bool:=decide (s.head?=some 45)
def body (s:List Nat):List Nat:=if s.head?=some 45 then s.tail else s
def isDig (b:Nat):Prop:=48≤b∧b≤57
def Numl (s:List Nat):Prop:=s≠[]∧(∀ b ∈ s,isDig b)∧¬ (2≤s.length∧s.head?=some 48)
instance (b:Nat):Decidable (isDig b):=by unfold isDig;infer_instance
instance (s:List Nat):Decidable (Numl s):=by unfold Numl;infer_instance
theorem StL.skipU {P:Program} {n:Nat} {E:List (Nat×Value)} {w:World} {Q:Exit→Act→World→Prop} {ops:Array Oper} {rest:List Oper} {o:Oper} {d j e:Nat} {want:Bool} (hd:o.dst=some d) (hg:o.guard=some (j,want)) (hj:(ops[j]?).bind (·.dst)=some e) (hu:look E e=some undef) (hn:Nat.blt d n=true)
  (next:StL P n ((d,undef)::E) w ops rest Q):StL P n E w ops (o::rest) Q:=by
 intro a ha
 refine wpList_step fun K hK=>?_
 have hs:=ha.slots e undef hu
 have hf:Region.wanted o (yielded ops a.tmps)=false:=by
  unfold Region.wanted
  rw [hg]
  simp [yielded,hj,hs,undef]
 rw [if_neg (by rw [hf];simp)]
 exact hK _ _ (next _ (by rw [hd];exact ha.put hn undef))
def Numb (s:List Nat):Prop:=Numl (body s)∧¬ (isNeg s=true∧body s=[48])
instance (s:List Nat):Decidable (Numb s):=by unfold Numb;infer_instance
end Go.Qf
namespace Go.Qf
open Go Go.RowKit Go.Proofs
theorem fmtN_len (n k:Nat) (h:n<4294967296 ^ k):(fmtN n).length≤11 * k+1:=by
 unfold fmtN
 split
 ·simp
 ·rw [List.length_reverse]
  exact digs_length_limbs h
end Go.Qf
namespace Go.Qf
open Go Go.RowKit Go.Proofs
end Go.Qf
namespace Go.Qf
open Go Go.RowKit Go.Proofs
set_option maxRecDepth 20000
def pos:List Nat→Option Nat
 | []=>none
 | b::l=>if b=47 then some 0 else (pos l).map (·+1)
def fmtR (q:Rat):List Nat:=if q.den=1 then fmtI q.num else fmtI q.num++47::fmtI (q.den:Int)
theorem fmtI_len (a:Int):(fmtI a).length≤11 * sz a+2:=by
 have h1:=fmtN_len a.natAbs (sz a) (by have:=val_lt (limbs a.natAbs) (lim_limbs _);rw [val_limbs] at this;exact this)
 unfold fmtI
 split
 ·simp;omega
 ·omega
theorem NewV.rg {base:Nat} {T:Nat→Prop} {w w':World} {r:Value} {a b:Int} (h:NewV base w r a b) (hR:Rg Tryz.prog T w w'):NewV base w' r a b :=
 ⟨h.1,fun h0=>by obtain ⟨v,e,hv⟩:=h.2 h0;exact ⟨v,e,hv.rg hR⟩⟩
theorem MonoR.newV (base:Nat) (a b:Int):MonoR Tryz.prog (fun v w=>NewV base w v a b):=fun _ _ _ hR h=>h.rg hR
theorem add_divInt (p q:Rat):Rat.divInt (p.num * q.den+q.num * p.den) (p.den * q.den)=p+q:=by
 rw [← Rat.divInt_add_divInt p.num q.num (den_ne p) (den_ne q),Rat.num_divInt_den,Rat.num_divInt_den]
set_option maxHeartbeats 1600000 in
theorem raddR_spec {w:World} {x y:Value} {p q:Rat} (h:DnS w x p) (k:DnS w y q) (hp:rz p≤40000) (hq:rz q≤40000) :
  Calls Tryz.prog 31 #[x,y] w (Ret fun r w'=>Ext w w'∧CanR 0 w' r (p+q)):=by
 have h1:=rz_num p
 have h2:=rz_den p
 have h3:=rz_num q
 have h4:=rz_den q
 have m1:=sz_mul p.num (q.den:Int)
 have m2:=sz_mul q.num (p.den:Int)
 have m3:=sz_add (p.num * (q.den:Int)) (q.num * (p.den:Int))
 have m4:=sz_mul (p.den:Int) (q.den:Int)
 refine calls_of_St (args:=[_,_]) Tryz.func31 rfl Tryz.ntmps31 rfl ?_
 refine Nv ?_
 refine .s (OpR.box rfl) ?_
 rintro _ w1 ⟨rfl,B1,hx1,hz1⟩
 refine .s (OpR.box rfl) ?_
 rintro _ w2 ⟨rfl,B2,hx2,hz2⟩
 refine .s (OpR.alloc TBok rfl) ?_
 rintro _ w3 ⟨rfl,B3,hx3,hz3⟩
 have hx0:Ext w w3:=(hx1.trans hx2).trans hx3
 replace B1:=(B1.ext hx2).ext hx3
 replace B2:=B2.ext hx3
 replace h:=h.ext hx0
 replace k:=k.ext hx0
 clear hx1 hx2 hx3
 (iterate 6 refine Nv ?_;try refine .r rfl ?_)
 refine St.flow 6 TBfol (by kernel_rfl) rfl (by kernel_rfl) rfl True.intro ?_
 refine .on (fun _ hR=>RunsTo.loadR rfl rfl (hR.blk (B1) (by simp)) (h.1)) ?_
 refine FL.callE fn_r02_Normalize rfl rfl rfl (fun w4 hx4=>CallF.mk rfl (rnormalizeR_spec (h.ext hx4))) (MonoR.canR 0 _) ?_
 refine .on (fun _ hR=>RunsTo.loadR rfl rfl (hR.blk (B2) (by simp)) (k.1)) ?_
 refine FL.callE fn_r02_Normalize rfl rfl rfl (fun w4 hx4=>CallF.mk rfl (rnormalizeR_spec (k.ext hx4))) (MonoR.canR 0 _) ?_
 refine FL.alloc TBok rfl rfl rfl rfl ?_
 refine FL.alloc TBok rfl rfl rfl rfl ?_
 refine FL.endE rfl ?_
 rintro w4 hx4 _ ⟨b7,C7,rfl,hg7,B7,hl7⟩ _ ⟨b6,C6,rfl,hg6,B6,hl6⟩ v hv u hu _ hdist
 refine StL.twoR rfl rfl rfl rfl rfl (fun e=>hdist 5 (by decide) 6 (by decide) (by decide) _ rfl (by rw [e];rfl)) B6 hl6 B7 hl7 hx4 hg6 hg7 hu hv ?_
 intro w8 hx8 B5' B6' hu hv
 replace hx0:=hx0.trans hx8
 replace B3:=B3.ext hx8
 clear hx8 hx4 B6 B7 hdist
 refine Nv ?_
 refine St.sub (E':=[(4,.pointer (some ⟨w2.heap.size,0,none⟩)),(5,.pointer (some ⟨b6,0,none⟩)),(6,.pointer (some ⟨b7,0,none⟩))]) ?_ ⟨rfl,rfl,rfl,trivial⟩
 refine St.flow 22 TBfol (by kernel_rfl) rfl (by kernel_rfl) rfl True.intro ?_
 refine FL.run TBok 99 rfl ?_
 refine .on (fun _ hR=>RunsTo.loadN rfl (hR.blk (B5') (by simp)) (hu.1)) ?_
 refine FL.run TBok 99 rfl ?_
 refine .on (fun _ hR=>RunsTo.loadD rfl (hR.blk (B6') (by simp)) (hv.1)) ?_
 refine FL.callE fn_r01_Mul rfl rfl rfl (fun w9 hx9=>CallF.mk rfl (rmul_dn (base:=0) ((hu.2.1.ext hx9).dn (by omega)) ((hv.2.2.ext hx9).dn (by omega)) (Nat.zero_le _))) (MonoR.canO 0 _) ?_
 refine FL.run TBok 99 rfl ?_
 refine .on (fun _ hR=>RunsTo.loadN rfl (hR.blk (B6') (by simp)) (hv.1)) ?_
 refine FL.run TBok 99 rfl ?_
 refine .on (fun _ hR=>RunsTo.loadD rfl (hR.blk (B5') (by simp)) (hu.1)) ?_
 refine FL.callE fn_r01_Mul rfl rfl rfl (fun w9 hx9=>CallF.mk rfl (rmul_dn (base:=0) ((hv.2.1.ext hx9).dn (by omega)) ((hu.2.2.ext hx9).dn (by omega)) (Nat.zero_le _))) (MonoR.canO 0 _) ?_
 refine FL.callE fn_r01_Add rfl rfl rfl (fun w9 hx9 t18 h18 t23 h23=>CallF.mk rfl (radd_dn (base:=0) (h18.dn (by omega)) (h23.dn (by omega)) (Nat.zero_le _))) (MonoR.canO 0 _) ?_
 refine FL.run TBok 99 rfl ?_
 refine .on (fun _ hR=>RunsTo.loadD rfl (hR.blk (B5') (by simp)) (hu.1)) ?_
 refine FL.run TBok 99 rfl ?_
 refine .on (fun _ hR=>RunsTo.loadD rfl (hR.blk (B6') (by simp)) (hv.1)) ?_
 refine FL.callE fn_r01_Mul rfl rfl rfl (fun w9 hx9=>CallF.mk rfl (rmul_dn (base:=0) ((hu.2.2.ext hx9).dn (by omega)) ((hv.2.2.ext hx9).dn (by omega)) (Nat.zero_le _))) (MonoR.canO 0 _) ?_
 refine FL.callE fn_r02_New rfl rfl rfl (fun w9 hx9 t24 h24 t29 h29=>CallF.mk rfl (rnew_spec (h24.dn (by omega)) (h29.dn (by omega)) (by omega) (by omega))) (MonoR.newV 0 _ _) ?_
 refine FL.fact (L:=[]) (ψ:=fun r w'=>∃ t,r=.tuple #[t,.bool true]∧CanR 0 w' t (p+q)) rfl rfl rfl rfl rfl ?_ (fun _ _ _ hR ⟨t,e,ht⟩=>⟨t,e,ht.rg hR⟩) ?_
 ·intro w9 hR r hr
  obtain ⟨t,rfl,ht⟩:=hr.2 (Int.mul_ne_zero (den_ne p) (den_ne q))
  rw [add_divInt] at ht
  exact RunsTo.ext (RunsTo.pure TBok rfl) ⟨t,rfl,ht⟩
 refine FL.fact (L:=[]) (ψ:=fun v w'=>CanR 0 w' v (p+q)) rfl rfl rfl rfl rfl ?_ (MonoR.canR 0 _) ?_
 ·rintro w9 hR r ⟨t,rfl,ht⟩
  exact RunsTo.ext (RunsTo.pure TBok rfl) ht
 refine FL.exact (L:=[]) (c:=.bool true) rfl rfl rfl rfl rfl ?_ ?_
 ·rintro w9 hR r ⟨t,rfl,ht⟩
  exact RunsTo.ext (ψ:=fun v _=>v=.bool true) (RunsTo.pure TBok rfl) rfl
 refine FL.alloc TBok rfl rfl rfl rfl ?_
 refine FL.storeN (L:=[]) (base:=w8.heap.size) TBok rfl rfl rfl rfl rfl (MonoR.canR 0 (p+q)) ?_ ?_
 ·intro w9 hR v7 h7 t31 h31
  exact ⟨⟨v7,rfl,h7⟩,t31,rfl,h31.1.len,h31.1.ones,h31⟩
 refine FL.endE rfl ?_
 rintro w9 hx9 _ ⟨bb,CC,rfl,_,_,_⟩ _ _ _ _ _ _ _ _ _ _ _ _ _ _ ⟨⟨bb',t,hbb,BB,ht⟩,_⟩ _
 cases hbb
 replace B3:=B3.ext hx9
 replace hx0:=hx0.trans hx9
 clear hx9
 (iterate 6 refine Nv ?_;try refine .r rfl ?_)
 refine .p (RunsTo.loadR rfl rfl (BB) (ht.1)) ?_
 refine StL.setR rfl rfl rfl ht.1 B3 rfl hx0 (by omega) ?_
 intro w12 B12 hu12 hx12
 (iterate 6 refine Nv ?_;try refine .r rfl ?_)
 exact Out.retR rfl rfl B12 ht.1 ⟨hx12,ht.upd hu12 B3 (by decide)⟩
theorem rfloorR_spec {w:World} {x:Value} {q:Rat} (h:DnS w x q) :
  Calls Tryz.prog 173 #[x] w (Ret fun r w'=>Ext w w'∧CanO 0 w' r q.floor):=by
 have hz:=h.rz
 have hzn:=rz_num q
 have hzd:=rz_den q
 refine calls_of_St (args:=[_]) Tryz.func173 rfl Tryz.ntmps173 rfl ?_
 refine Nv ?_
 refine .s (OpR.box rfl) ?_
 rintro _ w1 ⟨rfl,B1,hx1,hz1⟩
 refine .s (OpR.alloc TBok rfl) ?_
 rintro _ w2 ⟨rfl,B2,hx2,hz2⟩
 have hx0:Ext w w2:=hx1.trans hx2
 replace B1:=B1.ext hx2
 replace h:=h.ext hx0
 clear hx1 hx2
 (iterate 6 refine Nv ?_;try refine .r rfl ?_)
 refine .p (RunsTo.loadR rfl rfl (B1) (h.1)) ?_
 refine .s (OpR.call fn_r02_Normalize rfl (rnormalizeR_spec h)) ?_
 rintro v w3 ⟨hx3,hv⟩
 replace B2:=B2.ext hx3
 replace hx0:=hx0.trans hx3
 clear hx3
 refine StL.newR rfl rfl (fun _=>rfl) hv.1 ?_
 intro b5 w5 hl5 hx5 B5
 replace B2:=B2.ext hx5
 replace hv:=hv.ext hx5
 replace hx0:=hx0.trans hx5
 clear hx5
 (iterate 6 refine Nv ?_;try refine .r rfl ?_)
 refine .p (RunsTo.loadN rfl (B5) (hv.1)) ?_
 refine .r rfl ?_
 refine .p (RunsTo.loadD rfl (B5) (hv.1)) ?_
 refine .s (OpR.call fn_r01_Quo rfl (rquo_dn (hv.2.1.dn (by omega)) (hv.2.2.dn (by omega)) (den_ne q) ⟨by omega,by omega⟩)) ?_
 rintro u w6 ⟨hx6,hu⟩
 rw [← Rat.floor_def] at hu
 replace B2:=B2.ext hx6
 replace hx0:=hx0.trans hx6
 clear hx6
 refine StL.setCan rfl rfl B2 rfl hu hx0 (by omega) ?_
 intro w8 B8 hu8 hu7' hx8
 (iterate 6 refine Nv ?_;try refine .r rfl ?_)
 exact Out.retI rfl rfl B8 hu7' ⟨hx8,hu7'⟩
theorem canR_half {w:World} {u v:Value} (hu:CanO 0 w u 1) (hv:CanO 0 w v 2):CanR 0 w (mkR u v) (Rat.divInt 1 2) :=
 CanR.mk (by rw [show (Rat.divInt 1 2).num=1 from by decide +kernel];exact hu) (by rw [show ((Rat.divInt 1 2).den:Int)=2 from by decide +kernel];exact hv)
theorem rhalf_spec (w:World):Calls Tryz.prog 30 #[] w (Ret fun r w'=>Ext w w'∧CanR 0 w' r (Rat.divInt 1 2)):=by
 refine calls_of_St (args:=[]) Tryz.func30 rfl Tryz.ntmps30 rfl ?_
 refine Nv ?_
 refine .s (OpR.alloc TBok rfl) ?_
 rintro _ w2 ⟨rfl,B2,hx0,hz2⟩
 (iterate 6 refine Nv ?_;try refine .r rfl ?_)
 refine .s (OpR.call fn_r01_Small rfl (rsmall_spec (base:=0) w2 1 (by decide) (by decide) (Nat.zero_le _))) ?_
 rintro u w3 ⟨hx3,hu⟩
 replace B2:=B2.ext hx3
 replace hx0:=hx0.trans hx3
 clear hx3
 refine .s (OpR.call fn_r01_Small rfl (rsmall_spec (base:=0) w3 2 (by decide) (by decide) (Nat.zero_le _))) ?_
 rintro v w4 ⟨hx4,hv⟩
 replace B2:=B2.ext hx4
 replace hu:=hu.ext hx4
 replace hx0:=hx0.trans hx4
 clear hx4
 refine .p (RunsTo.buildR rfl rfl hu.r2 hv.r2) ?_
 have hR:=canR_half hu hv
 refine StL.setR rfl rfl rfl hR.1 B2 rfl hx0 (by omega) ?_
 intro w12 B12 hu12 hx12
 (iterate 6 refine Nv ?_;try refine .r rfl ?_)
 exact Out.retR rfl rfl B12 hR.1 ⟨hx12,hR.upd hu12 B2 (by decide)⟩
theorem rnearestR_spec {w:World} {x:Value} {q:Rat} (h:DnS w x q) (hq:rz q≤40000) :
  Calls Tryz.prog 144 #[x] w (Ret fun r w'=>Ext w w'∧CanO 0 w' r (q+Rat.divInt 1 2).floor):=by
 have hrs:=rz_add q (Rat.divInt 1 2)
 have hrh:=rz_half
 refine calls_of_St (args:=[_]) Tryz.func144 rfl Tryz.ntmps144 rfl ?_
 refine Nv ?_
 refine .s (OpR.box rfl) ?_
 rintro _ w1 ⟨rfl,B1,hx1,hz1⟩
 refine .s (OpR.alloc TBok rfl) ?_
 rintro _ w2 ⟨rfl,B2,hx2,hz2⟩
 have hx0:Ext w w2:=hx1.trans hx2
 replace B1:=B1.ext hx2
 replace h:=h.ext hx0
 clear hx1 hx2
 (iterate 6 refine Nv ?_;try refine .r rfl ?_)
 refine St.flow 2 TBfol (by kernel_rfl) rfl (by kernel_rfl) rfl True.intro ?_
 refine .on (fun _ hR=>RunsTo.loadR rfl rfl (hR.blk (B1) (by simp)) (h.1)) ?_
 refine FL.callE fn_r02_Half rfl rfl rfl (fun w4 hx4=>CallF.mk rfl (rhalf_spec w4)) (MonoR.canR 0 _) ?_
 refine FL.endE rfl ?_
 intro w4 hx4 u hu _ _
 replace B2:=B2.ext hx4
 replace h:=h.ext hx4
 replace hx0:=hx0.trans hx4
 clear hx4
 refine .s (OpR.call fn_r02_Add rfl (raddR_spec h (hu.dnS (by omega)) hq (by omega))) ?_
 rintro s w7 ⟨hx7,hs⟩
 replace B2:=B2.ext hx7
 replace hx0:=hx0.trans hx7
 clear hx7
 refine .s (OpR.call fn_r02_Floor rfl (rfloorR_spec (hs.dnS (by omega)))) ?_
 rintro f w8 ⟨hx8,hf⟩
 replace B2:=B2.ext hx8
 replace hx0:=hx0.trans hx8
 clear hx8
 refine StL.setCan rfl rfl B2 rfl hf hx0 (by omega) ?_
 intro w9 B9 hu9 hf' hx9
 (iterate 6 refine Nv ?_;try refine .r rfl ?_)
 exact Out.retI rfl rfl B9 hf' ⟨hx9,hf'⟩
theorem rformatR_spec {w:World} {x:Value} {q:Rat} (h:DnS w x q) :
  Calls Tryz.prog 47 #[x] w (Ret fun r w'=>Ext w w'∧r=strV (fmtR q)):=by
 have hz:=h.rz
 have hzn:=rz_num q
 have hzd:=rz_den q
 have hf1:=fmtI_len q.num
 have hf2:=fmtI_len (q.den:Int)
 refine calls_of_St (args:=[_]) Tryz.func47 rfl Tryz.ntmps47 rfl ?_
 refine Nv ?_
 refine .s (OpR.box rfl) ?_
 rintro _ w1 ⟨rfl,B1,hx0,hz1⟩
 replace h:=h.ext hx0
 (iterate 6 refine Nv ?_;try refine .r rfl ?_)
 refine .p (RunsTo.loadR rfl rfl (B1) (h.1)) ?_
 refine .s (OpR.call fn_r02_Normalize rfl (rnormalizeR_spec h)) ?_
 rintro v w3 ⟨hx3,hv⟩
 replace hx0:=hx0.trans hx3
 clear hx3
 refine StL.newR rfl rfl (fun _=>rfl) hv.1 ?_
 intro b5 w5 hl5 hx5 B5
 replace hv:=hv.ext hx5
 replace hx0:=hx0.trans hx5
 clear hx5
 (iterate 6 refine Nv ?_;try refine .r rfl ?_)
 refine .p (RunsTo.loadR rfl rfl (B5) (hv.1)) ?_
 refine .s (OpR.call fn_r02_IsWhole rfl (risWhole_spec (hv.dnS hz))) ?_
 rintro _ w6 ⟨hx6,rfl⟩
 replace B5:=B5.ext hx6
 replace hv:=hv.ext hx6
 replace hx0:=hx0.trans hx6
 clear hx6
 unfold fmtR
 by_cases h1:q.den=1
 ·rw [decide_eq_true h1,if_pos h1]
  (iterate 6 refine Nv ?_;try refine .r rfl ?_)
  refine .cT ?_
  (iterate 6 refine Nv ?_;try refine .r rfl ?_)
  refine .p (RunsTo.loadN rfl (B5) (hv.1)) ?_
  refine .s (OpR.call fn_r01_Format rfl (rformat_dn (hv.2.1.dn (by omega)))) ?_
  rintro _ w7 ⟨hx7,rfl⟩
  (iterate 6 refine Nv ?_;try refine .r rfl ?_)
  exact Out.ret1 rfl rfl ⟨hx0.trans hx7,rfl⟩
 ·rw [decide_eq_false h1,if_neg h1]
  (iterate 6 refine Nv ?_;try refine .r rfl ?_)
  refine .cF ?_
  refine Nv ?_
  refine St.sub (E':=[(3,.pointer (some ⟨b5,0,none⟩))]) ?_ ⟨rfl,trivial⟩
  refine St.flow 7 TBfol (by kernel_rfl) rfl (by kernel_rfl) rfl True.intro ?_
  refine FL.run TBok 99 rfl ?_
  refine .on (fun _ hR=>RunsTo.loadN rfl (hR.blk (B5) (by simp)) (hv.1)) ?_
  refine FL.callXE fn_r01_Format rfl rfl rfl (fun w7 hx7=>CallF.mk rfl (rformat_dn ((hv.2.1.ext hx7).dn (by omega)))) ?_
  refine .on (fun _ _=>RunsTo.strAdd (bs:=[47]) rfl rfl (by simp;omega)) ?_
  refine FL.run TBok 99 rfl ?_
  refine .on (fun _ hR=>RunsTo.loadD rfl (hR.blk (B5) (by simp)) (hv.1)) ?_
  refine FL.callXE fn_r01_Format rfl rfl rfl (fun w7 hx7=>CallF.mk rfl (rformat_dn ((hv.2.2.ext hx7).dn (by omega)))) ?_
  refine FL.endE rfl ?_
  intro w7 hx7 _ _
  refine .p (RunsTo.strAdd rfl rfl (by simp;omega)) ?_
  (iterate 6 refine Nv ?_;try refine .r rfl ?_)
  refine Out.ret1 rfl rfl ⟨hx0.trans hx7,?_⟩
  rw [List.append_assoc]
  rfl
theorem RowO.keepB {k:Nat} {e:TypeId} {base:Nat} {w w':World} {v:Value} {us:List Value} (h:RowO k e base w v us) (hB:∀ b C,v.ownBlock=some b→Blk e w b C→Blk e w' b C):RowO k e base w' v us:=by
 refine ⟨h.1,?_⟩
 rcases h.2 with h0 | ⟨g,cap,D,hv,hg,hb,r⟩
 ·exact .inl h0
 ·exact .inr ⟨g,cap,D,hv,hg,hB g _ (by rw [hv];rfl) hb,r⟩
theorem RowO.blkLt {k:Nat} {e:TypeId} {base:Nat} {w:World} {v:Value} {us:List Value} (h:RowO k e base w v us) {b:Nat} (hb:v.ownBlock=some b):b<w.heap.size:=by
 rcases h.2 with ⟨h0,_⟩ | ⟨g,cap,D,hv,hg,hbk,r⟩
 ·rw [h0] at hb;cases hb
 ·rw [hv] at hb
  have:g=b:=by simpa [Value.ownBlock] using hb
  subst this
  exact hbk.lt
set_option maxHeartbeats 1600000 in
theorem lambda_spec {w:World} {v:Value} {n s i j:Nat} {f:Nat→Nat→Int} (h:MI w v (mk n n f)) (hn:1≤n∧n≤16) (hs:∀ a b,a<n→b<n→sz (f a b)≤s) (hs1:1≤s) (hb:2 ^ n * (s+1)≤100000) (hi:i<n) (hj:j<n) :
  Calls Tryz.prog 145 #[v,.int .i64 i,.int .i64 j] w (Ret fun x w'=>Ext w w'∧∃ d:Int,CanO 0 w' x d∧sz d≤2 ^ n * (s+1)∧(Gd (j+1) f→(d:Rat)=BB (RA f) j i j)):=by
 refine calls_of_St (args:=[_,_,_]) Tryz.func145 rfl Tryz.ntmps145 rfl ?_
 refine Nv ?_
 refine .s (OpR.alloc TBok rfl) ?_
 rintro _ w1 ⟨rfl,B6,hx1,hz1⟩
 (iterate 6 refine Nv ?_;try refine .r rfl ?_)
 refine St.rngCG TBok (9) (0) (j) (by omega) (fun g:Value×Value=>[(0,v),(1,.int .i64 i),(2,.int .i64 j),(6,.pointer (some ⟨w.heap.size,0,none⟩)),(7,g.1),(8,g.2)]) (fun k g w'=>Ext w1 w'∧RowO 1 3 w1.heap.size w' g.1 (tabN k id)∧RowO 1 3 w1.heap.size w' g.2 (tabN k id)∧∀ b,g.1.ownBlock=some b→g.2.ownBlock≠some b) ((.slice none 0 0,.slice none 0 0)) sbb ?_ (fun _ _=>⟨rfl,rfl⟩) (fun _ _=>rfl) (fun _ _=>⟨rfl,rfl⟩) (fun _=>rfl) (fun _=>rfl) (by omega) ?_ ?_
 ·exact ⟨Ext.refl _,RowO.nil,RowO.nil,fun b hb=>by cases hb⟩
 ·rintro k ⟨g1,g2⟩ w2 hk ⟨hx2,hR1,hR2,hne⟩
  dsimp only at hR1 hR2 hne ⊢
  (iterate 6 refine Nv ?_;try refine .r rfl ?_)
  refine StL.app2 hR1 (cel_nI k) rfl rfl rfl rfl rfl rfl (fun _=>rfl) rfl rfl (by rw [tabN_len];omega) rfl hx2.size ?_
  intro p1 v1 w3 hR1' hX3 hB3 hfr3 _
  have hR2':=hR2.keepB (w':=w3) (fun b C hb hB=>hB3 _ b C hB (.inr fun e=>hne b e hb))
  have hne':∀ b,v1.ownBlock=some b→g2.ownBlock≠some b:=by
   intro b hb hb2
   rcases hfr3 with e | ⟨b',e,hle⟩
   ·rw [e] at hb;exact hne b hb hb2
   ·have:=hR2.blkLt hb2
    rw [hb] at e
    have:b=b':=by simpa using e
    omega
  have hx3:=hX3 w1 hx2 (Nat.le_refl _)
  (iterate 6 refine Nv ?_;try refine .r rfl ?_)
  refine StL.app2 hR2' (cel_nI k) rfl rfl rfl rfl rfl rfl (fun _=>rfl) rfl rfl (by rw [tabN_len];omega) rfl hx3.size ?_
  intro p2 v2 w4 hR2'' hX4 hB4 hfr4 _
  have hR1'':=hR1'.keepB (w':=w4) (fun b C hb hB=>hB4 _ b C hB (.inr (hne' b hb)))
  (iterate 6 refine Nv ?_;try refine .r rfl ?_)
  refine Out.rndG (v1,v2) sbb ⟨hX4 w1 hx3 (Nat.le_refl _),?_,?_,?_⟩
  ·rw [tabN_succ];exact hR1''
  ·rw [tabN_succ];exact hR2''
  ·intro b hb hb2
   rcases hfr4 with e | ⟨b',e,hle⟩
   ·rw [e] at hb2;exact hne' b hb hb2
   ·have:=hR1'.blkLt hb
    rw [hb2] at e
    have:b=b':=by simpa using e
    omega
 ·rintro ⟨g1,g2⟩ w2 ⟨hx2,hR1,hR2,hne⟩
  dsimp only at hR1 hR2 hne ⊢
  have htab:∀ m,tabN (j+1) (fstR j m)=tabN j id++[nI m]:=by
   intro m
   rw [tabN_succ,fstR_k]
   congr 1
   exact tabN_congr fun x hx=>fstR_lt hx
  (iterate 6 refine Nv ?_;try refine .r rfl ?_)
  refine StL.app2 hR1 (cel_nI i) rfl rfl rfl rfl rfl rfl (fun _=>rfl) rfl rfl (by rw [tabN_len];omega) rfl hx2.size ?_
  intro p1 v1 w3 hR1' hX3 hB3 hfr3 _
  have hR2':=hR2.keepB (w':=w3) (fun b C hb hB=>hB3 _ b C hB (.inr fun e=>hne b e hb))
  have hne':∀ b,v1.ownBlock=some b→g2.ownBlock≠some b:=by
   intro b hb hb2
   rcases hfr3 with e | ⟨b',e,hle⟩
   ·rw [e] at hb;exact hne b hb hb2
   ·have:=hR2.blkLt hb2
    rw [hb] at e
    have:b=b':=by simpa using e
    omega
  have hx3:=hX3 w1 hx2 (Nat.le_refl _)
  refine .r rfl ?_
  refine StL.app2 hR2' (cel_nI j) rfl rfl rfl rfl rfl rfl (fun _=>rfl) rfl rfl (by rw [tabN_len];omega) rfl hx3.size ?_
  intro p2 v2 w4 hR2'' hX4 hB4 hfr4 _
  have hR1'':=hR1'.keepB (w':=w4) (fun b C hb hB=>hB4 _ b C hB (.inr (hne' b hb)))
  have hx4:=hX4 w1 hx3 (Nat.le_refl _)
  rw [← htab] at hR1'' hR2''
  refine .s (OpR.call fn_r03_Select rfl (select_spec (h.ext (hx1.trans hx4)) hn hn (hR1''.row (tabN_one _ _)) (hR2''.row (tabN_one _ _)) (by omega) (by omega) (fun x hx=>fstR_le (by omega) hi hx) (fun x hx=>fstR_le (by omega) hj hx))) ?_
  rintro u3 w5 ⟨hx5,hS⟩
  have hbk:=bd_le (k:=j+1) (n:=n) (by omega) hb
  have hbn:2 ^ (j+1) * (s+1)≤2 ^ n * (s+1):=Nat.mul_le_mul_right _ (Nat.pow_le_pow_right (by omega) (by omega))
  refine .s (OpR.call fn_r03_Determinant rfl (determinant_spec (f:=selF f j i j) hS ⟨by omega,by omega⟩ (s:=s) (fun a b ha hb=>hs _ _ (fstR_le (by omega) hi ha) (fstR_le (by omega) hj hb)) hs1 hbk)) ?_
  rintro u4 w6 ⟨hx6,d,hd,hdz,hdv⟩
  have hx16:=(hx4.trans hx5).trans hx6
  refine StL.finCan rfl rfl (B6.ext hx16) rfl hd (hx1.trans hx16) (Nat.le_refl _) ?_
  intro w' hxf hcf fin
  refine Nv ?_
  exact fin _ _ rfl ⟨hxf,d,hcf,by omega,fun hg=>by rw [hdv (Gd_sel hg),dd_selF]⟩
def dI (dl:Nat→Int) (k:Nat):Int:=if k=0 then 1 else dl (k - 1)
theorem minor_spec {w:World} {v:Value} {n k:Nat} {dl:Nat→Int} (h:LC w v n dl) (hk:k≤n) (hn:n≤16) :
  Calls Tryz.prog 146 #[v,.int .i64 k] w (Ret fun x w'=>Ext w w'∧CanO 0 w' x (dI dl k)):=by
 obtain ⟨b,o,cp,rfl,hcp,e,C,hB,hg⟩:=h
 refine calls_of_St (args:=[_,_]) Tryz.func146 rfl Tryz.ntmps146 rfl ?_
 refine Nv ?_
 refine .s (OpR.alloc TBok rfl) ?_
 rintro _ w1 ⟨rfl,B4,hx1,hz1⟩
 refine Nv ?_
 by_cases h0:k=0
 ·subst h0
  refine .a 2 (.bool true) rfl (by rfl) ?_
  (iterate 6 refine Nv ?_;try refine .r rfl ?_)
  refine .cT ?_
  (iterate 6 refine Nv ?_;try refine .r rfl ?_)
  refine .s (OpR.call fn_r01_Small rfl (rsmall_spec (base:=0) w1 1 (by omega) (by omega) (Nat.zero_le _))) ?_
  rintro z w2 ⟨hx2,hz⟩
  refine StL.finCan rfl rfl (B4.ext hx2) rfl hz (hx1.trans hx2) (Nat.le_refl _) ?_
  intro w' hxf hcf fin
  refine Nv ?_
  exact fin _ _ rfl ⟨hxf,hcf⟩
 ·obtain ⟨u,hu,k1,k2⟩:=hg (k - 1) (by omega)
  have hB1:=hB.ext hx1
  have hu1:=hu.ext hx1
  refine .a 2 (.bool false) rfl (by rw [show ((k:Int) == 0)=false from by simp;omega]) ?_
  (iterate 6 refine Nv ?_;try refine .r rfl ?_)
  refine .cF ?_
  refine Nv ?_
  refine .a 3 (.int .i64 ((k - 1:Nat):Int)) rfl (by rw [i64_id (by omega) (by omega)];congr 1;omega) ?_
  refine .p (RunsTo.indexI rfl rfl rfl (by omega)) ?_
  refine .p (RunsTo.loadIt rfl hB1 k1 k2 hu1.r2) ?_
  refine StL.finCan rfl rfl B4 rfl hu1 hx1 (Nat.le_refl _) ?_
  intro w' hxf hcf fin
  refine Nv ?_
  refine fin _ _ rfl ⟨hxf,?_⟩
  unfold dI
  rw [if_neg h0]
  exact hcf
def SzP (A:Nat→Vec) (i j:Nat):Prop:=2 * BB A j i j≤dd A (j+1)∧-(2 * BB A j i j)≤dd A (j+1)
def LvP (A:Nat→Vec) (i:Nat):Prop:=3 * (dd A i * dd A i)≤4 * (dd A (i - 1) * dd A (i+1)+BB A (i - 1) i (i - 1) * BB A (i - 1) i (i - 1))
def Mnr (n:Nat) (f:Nat→Nat→Int) (dl:Nat→Int):Prop:=∀ k,k<n→(dl k:Rat)=dd (RA f) (k+1)
theorem Mnr.dI {n:Nat} {f:Nat→Nat→Int} {dl:Nat→Int} (h:Mnr n f dl) {k:Nat} (hk:k≤n):(Go.Qf.dI dl k:Rat)=dd (RA f) k:=by
 unfold Go.Qf.dI
 by_cases e:k=0
 ·subst e;rfl
 ·rw [if_neg e,h (k - 1) (by omega),show k - 1+1=k by omega]
theorem sz_dI {n Z:Nat} {dl:Nat→Int} (h:∀ k,k<n→sz (dl k)≤Z) (hZ:1≤Z) {k:Nat} (hk:k≤n):sz (dI dl k)≤Z:=by
 unfold dI
 by_cases e:k=0
 ·subst e;rw [if_pos rfl,sz_1];exact hZ
 ·rw [if_neg e];exact h _ (by omega)
set_option maxHeartbeats 1600000 in
theorem sized_spec {w:World} {v u:Value} {n s i j:Nat} {f:Nat→Nat→Int} {dl:Nat→Int} (h:MI w v (mk n n f)) (hn:1≤n∧n≤16) (hs:∀ a b,a<n→b<n→sz (f a b)≤s) (hs1:1≤s) (hb:2 ^ n * (s+1)≤100000) (hpd:PD n f) (hL:LC w u n dl) (hdl:Mnr n f dl) (hdz:∀ k,k<n→sz (dl k)≤2 ^ n * (s+1)) (hi:i<n) (hj:j<n) :
  Calls Tryz.prog 143 #[v,u,.int .i64 i,.int .i64 j] w (Ret fun x w'=>Ext w w'∧∃ b,x=.bool b∧(b=true↔SzP (RA f) i j)):=by
 have h2n:2≤2 ^ n * (s+1):=Nat.le_trans (show 2≤1 * 2 by decide) (Nat.mul_le_mul Nat.one_le_two_pow (by omega))
 refine calls_of_St (args:=[_,_,_,_]) Tryz.func143 rfl Tryz.ntmps143 rfl ?_
 (iterate 6 refine Nv ?_;try refine .r rfl ?_)
 refine .s (OpR.call fn_r01_Small rfl (rsmall_spec (base:=0) w 2 (by omega) (by omega) (Nat.zero_le _))) ?_
 rintro two w1 ⟨hx1,htwo⟩
 refine .r rfl ?_
 refine .s (OpR.call fn_r08_Lambda rfl (lambda_spec (h.ext hx1) hn hs hs1 hb hi hj)) ?_
 rintro l w2 ⟨hx2,d,hd,hsz,hdv⟩
 have hdv:=hdv (hpd.gd (by omega))
 refine .s (OpR.call fn_r01_Abs rfl (rabs_dn (base:=0) (hd.dn (by omega)) (Nat.zero_le _))) ?_
 rintro al w3 ⟨hx3,hal⟩
 have z1:sz (d.natAbs:Int)≤sz d:=sz_nat_le (Nat.le_refl _)
 have z2:sz 2≤2:=sz_small (by omega) (by omega)
 have z3:=sz_mul 2 (d.natAbs:Int)
 refine .s (OpR.call fn_r01_Mul rfl (rmul_dn (base:=0) (((htwo.ext hx2).ext hx3).dn (by omega)) (hal.dn (by omega)) (Nat.zero_le _))) ?_
 rintro m w4 ⟨hx4,hm⟩
 have hx14:=(hx2.trans hx3).trans hx4
 refine .a 3 (.int .i64 ((j+1:Nat):Int)) rfl (i64_succ (by omega)) ?_
 refine .s (OpR.call fn_r08_minor rfl (minor_spec (hL.ext (hx1.trans hx14)) (k:=j+1) (by omega) hn.2)) ?_
 rintro q w5 ⟨hx5,hq⟩
 have z4:=sz_dI hdz (by omega) (k:=j+1) (by omega)
 refine .s (OpR.call fn_r01_Cmp rfl (rcmp_dn ((hm.ext hx5).dn (by omega)) (hq.dn (by omega)))) ?_
 rintro _ w6 ⟨hx6,rfl⟩
 refine .a 1 (.bool (decide (2 * (d.natAbs:Int)≤dI dl (j+1)))) rfl (by rw [cmp_le]) ?_
 (iterate 6 refine Nv ?_;try refine .r rfl ?_)
 refine Out.ret1 rfl rfl ⟨((hx1.trans hx14).trans hx5).trans hx6,_,rfl,?_⟩
 rw [decide_eq_true_eq]
 unfold SzP
 rw [← hdv,← hdl.dI (by omega)]
 constructor
 ·intro hle
  constructor
  ·have:2 * d≤dI dl (j+1):=by omega
   exact_mod_cast this
  ·have:-(2 * d)≤dI dl (j+1):=by omega
   exact_mod_cast this
 ·rintro ⟨q1,q2⟩
  have q1':2 * d≤dI dl (j+1):=by exact_mod_cast q1
  have q2':-(2 * d)≤dI dl (j+1):=by exact_mod_cast q2
  omega
set_option maxHeartbeats 3200000 in
theorem lovasz_spec {w:World} {v u:Value} {n s i:Nat} {f:Nat→Nat→Int} {dl:Nat→Int} (h:MI w v (mk n n f)) (hn:1≤n∧n≤16) (hs:∀ a b,a<n→b<n→sz (f a b)≤s) (hs1:1≤s) (hb:2 ^ n * (s+1)≤100000) (hpd:PD n f) (hL:LC w u n dl) (hdl:Mnr n f dl) (hdz:∀ k,k<n→sz (dl k)≤2 ^ n * (s+1)) (hi:i<n) (hi0:0<i) :
  Calls Tryz.prog 147 #[v,u,.int .i64 i] w (Ret fun x w'=>Ext w w'∧∃ b,x=.bool b∧(b=true↔LvP (RA f) i)):=by
 have h2n:2≤2 ^ n * (s+1):=Nat.le_trans (show 2≤1 * 2 by decide) (Nat.mul_le_mul Nat.one_le_two_pow (by omega))
 generalize hZ:2 ^ n * (s+1)=Z at *
 have hZ2:=hb
 refine calls_of_St (args:=[_,_,_]) Tryz.func147 rfl Tryz.ntmps147 rfl ?_
 refine Nv ?_
 refine .r rfl ?_
 refine Nv ?_
 refine .a 4 (.int .i64 ((i - 1:Nat):Int)) rfl (by rw [i64_id (by omega) (by omega)];congr 1;omega) ?_
 refine .s (OpR.call fn_r08_Lambda rfl (lambda_spec h hn hs hs1 (by rw [hZ];exact hb) hi (j:=i - 1) (by omega))) ?_
 rintro l w1 ⟨hx1,d,hd,hsz,hdv⟩
 rw [hZ] at hsz
 have hdv:=hdv (hpd.gd (by omega))
 refine StL.newI rfl (fun _=>rfl) hd.r2 ?_
 intro w2 hx2 B7
 replace hd:=hd.ext hx2
 have hx02:=hx1.trans hx2
 replace hL:=hL.ext hx02
 have z0:=sz_dI hdz (by omega) (k:=i - 1) (by omega)
 have z1:=sz_dI hdz (by omega) (k:=i+1) (by omega)
 have z2:=sz_dI hdz (by omega) (k:=i) (by omega)
 have z3:sz 4≤2:=sz_small (by omega) (by omega)
 have z4:sz 3≤2:=sz_small (by omega) (by omega)
 have q1:=sz_mul (dI dl (i - 1)) (dI dl (i+1))
 have q2:=sz_mul d d
 have q3:=sz_add (dI dl (i - 1) * dI dl (i+1)) (d * d)
 have q4:=sz_mul 4 (dI dl (i - 1) * dI dl (i+1)+d * d)
 have q5:=sz_mul (dI dl i) (dI dl i)
 have q6:=sz_mul 3 (dI dl i * dI dl i)
 refine Nv ?_
 refine St.sub (E':=[(0,v),(1,u),(2,.int .i64 i),(7,.pointer (some ⟨w1.heap.size,0,none⟩))]) ?_ sbb
 refine St.flow 16 TBfol (by kernel_rfl) rfl (by kernel_rfl) rfl True.intro ?_
 refine FL.callE fn_r01_Small rfl rfl rfl (fun w4 hx4=>CallF.mk rfl (rsmall_spec (base:=0) w4 4 (by omega) (by omega) (Nat.zero_le _))) (MonoR.canO 0 _) ?_
 refine FL.as TBok 3 (.int .i64 ((i - 1:Nat):Int)) rfl (by rw [i64_id (by omega) (by omega)];congr 1;omega) ?_
 refine FL.callE fn_r08_minor rfl rfl rfl (fun w4 hx4=>CallF.mk rfl (minor_spec (hL.ext hx4) (k:=i - 1) (by omega) hn.2)) (MonoR.canO 0 _) ?_
 refine FL.as TBok 3 (.int .i64 ((i+1:Nat):Int)) rfl (i64_succ (by omega)) ?_
 refine FL.callE fn_r08_minor rfl rfl rfl (fun w4 hx4=>CallF.mk rfl (minor_spec (hL.ext hx4) (k:=i+1) (by omega) hn.2)) (MonoR.canO 0 _) ?_
 refine FL.callE fn_r01_Mul rfl rfl rfl (fun w4 hx4 t1 h1 t2 h2=>CallF.mk rfl (rmul_dn (base:=0) (h1.dn (by omega)) (h2.dn (by omega)) (Nat.zero_le _))) (MonoR.canO 0 _) ?_
 refine .on (fun _ hR=>RunsTo.loadCan rfl (hR.blk B7 (by simp)) hd) ?_
 refine .on (fun _ hR=>RunsTo.loadCan rfl (hR.blk B7 (by simp)) hd) ?_
 refine FL.callE fn_r01_Mul rfl rfl rfl (fun w4 hx4=>CallF.mk rfl (rmul_dn (base:=0) ((hd.ext hx4).dn (by omega)) ((hd.ext hx4).dn (by omega)) (Nat.zero_le _))) (MonoR.canO 0 _) ?_
 refine FL.callE fn_r01_Add rfl rfl rfl (fun w4 hx4 t1 h1 t2 h2=>CallF.mk rfl (radd_dn (base:=0) (h1.dn (by omega)) (h2.dn (by omega)) (Nat.zero_le _))) (MonoR.canO 0 _) ?_
 refine FL.callE fn_r01_Mul rfl rfl rfl (fun w4 hx4 t1 h1 t2 h2=>CallF.mk rfl (rmul_dn (base:=0) (h1.dn (by omega)) (h2.dn (by omega)) (Nat.zero_le _))) (MonoR.canO 0 _) ?_
 refine FL.alloc TBok rfl rfl rfl rfl ?_
 refine FL.endE rfl ?_
 rintro w4 hx4 _ ⟨b8,C8,rfl,hg8,B8,hl8⟩ z hz _ _ _ _ _ _ _ _ _ _ _ _ _ _
 refine StL.setCan rfl rfl B8 hl8 hz hx4 hg8 ?_
 intro w5 S8 hu5 hz5 hx5
 replace hL:=hL.ext hx5
 have hx05:=hx02.trans hx5
 clear hx4 hx5 hu5 B8 hz
 refine Nv ?_
 refine St.sub (E':=[(1,u),(2,.int .i64 i),(8,.pointer (some ⟨b8,0,none⟩))]) ?_ sbb
 refine St.flow 10 TBfol (by kernel_rfl) rfl (by kernel_rfl) rfl True.intro ?_
 refine .on (fun _ hR=>RunsTo.loadCan rfl (hR.blk S8 (by simp)) hz5) ?_
 refine FL.callE fn_r01_Small rfl rfl rfl (fun w4 hx4=>CallF.mk rfl (rsmall_spec (base:=0) w4 3 (by omega) (by omega) (Nat.zero_le _))) (MonoR.canO 0 _) ?_
 refine FL.run TBok 99 rfl ?_
 refine FL.callE fn_r08_minor rfl rfl rfl (fun w4 hx4=>CallF.mk rfl (minor_spec (hL.ext hx4) (k:=i) (by omega) hn.2)) (MonoR.canO 0 _) ?_
 refine FL.run TBok 99 rfl ?_
 refine FL.callE fn_r08_minor rfl rfl rfl (fun w4 hx4=>CallF.mk rfl (minor_spec (hL.ext hx4) (k:=i) (by omega) hn.2)) (MonoR.canO 0 _) ?_
 refine FL.callE fn_r01_Mul rfl rfl rfl (fun w4 hx4 t1 h1 t2 h2=>CallF.mk rfl (rmul_dn (base:=0) (h1.dn (by omega)) (h2.dn (by omega)) (Nat.zero_le _))) (MonoR.canO 0 _) ?_
 refine FL.callE fn_r01_Mul rfl rfl rfl (fun w4 hx4 t1 h1 t2 h2=>CallF.mk rfl (rmul_dn (base:=0) (h1.dn (by omega)) (h2.dn (by omega)) (Nat.zero_le _))) (MonoR.canO 0 _) ?_
 refine FL.endE rfl ?_
 rintro w6 hx6 t ht _ _ _ _ _ _ _ _ _ _
 refine .s (OpR.call fn_r01_Cmp rfl (rcmp_dn ((hz5.ext hx6).dn (by omega)) (ht.dn (by omega)))) ?_
 rintro _ w7 ⟨hx7,rfl⟩
 refine .a 1 (.bool (decide (3 * (dI dl i * dI dl i)≤4 * (dI dl (i - 1) * dI dl (i+1)+d * d)))) rfl (by rw [cmp_ge]) ?_
 (iterate 6 refine Nv ?_;try refine .r rfl ?_)
 refine Out.ret1 rfl rfl ⟨(hx05.trans hx6).trans hx7,_,rfl,?_⟩
 rw [decide_eq_true_eq]
 unfold LvP
 rw [show i - 1+1=i by omega] at *
 rw [← hdv,← hdl.dI (k:=i) (by omega),← hdl.dI (k:=i - 1) (by omega),← hdl.dI (k:=i+1) (by omega)]
 constructor
 ·intro hle
  exact_mod_cast hle
 ·intro hle
  exact_mod_cast hle
def RdP (n:Nat) (A:Nat→Vec):Prop:=(∀ i j,i<n→j<i→SzP A i j)∧∀ i,0<i→i<n→LvP A i
theorem Mnr.of {n:Nat} {f:Nat→Nat→Int} {dl:Nat→Int} (hpd:PD n f) (h:∀ k,k<n→Gd (k+1) f→(dl k:Rat)=dd (RA f) (k+1)):Mnr n f dl:=fun k hk=>h k hk (hpd.gd (by omega))
set_option maxHeartbeats 1600000 in
theorem reduced_spec {w:World} {v:Value} {n s:Nat} {f:Nat→Nat→Int} (h:MI w v (mk n n f)) (hn:1≤n∧n≤16) (hs:∀ a b,a<n→b<n→sz (f a b)≤s) (hs1:1≤s) (hb:2 ^ n * (s+1)≤100000) (hpd:PD n f) :
  Calls Tryz.prog 97 #[v] w (Ret fun x w'=>Ext w w'∧∃ b,x=.bool b∧(b=true↔RdP n (RA f))):=by
 obtain ⟨a,cap,hv,_⟩:=h.mp hn.1 hn.1
 refine calls_of_St (args:=[_]) Tryz.func97 rfl Tryz.ntmps97 rfl ?_
 (iterate 6 refine Nv ?_;try refine .r rfl ?_)
 refine .s (OpR.call fn_r04_Leading rfl (leading_spec h hn hs hs1 hb)) ?_
 rintro _ w1 ⟨hx1,u,dl,rfl,hL,hsz,hdl⟩
 replace hdl:=Mnr.of hpd hdl
 subst hv
 (iterate 6 refine Nv ?_;try refine .r rfl ?_)
 refine St.rng TBok (14) (0) (n) (by omega) [(0,.slice (some a) n cap),(3,u),(13,.int .i64 n)] (fun i w'=>Ext w1 w'∧(∀ x y,x<i→y<x→SzP (RA f) x y)∧∀ x,0<x→x<i→LvP (RA f) x) sbb ?_ (fun _=>⟨rfl,rfl⟩) (fun _=>rfl) (fun _=>⟨rfl,rfl⟩) rfl rfl (by omega) ?_ ?_
 ·exact ⟨Ext.refl _,fun x y hx=>by omega,fun x h1 h2=>by omega⟩
 ·rintro i w2 hi ⟨hx2,hS,hV⟩
  (iterate 6 refine Nv ?_;try refine .r rfl ?_)
  refine St.rngC TBok (6) (0) (i) (by omega) [(14,.int .i64 i),(5,.int .i64 i),(0,.slice (some a) n cap),(3,u),(13,.int .i64 n)] (fun j w'=>Ext w1 w'∧∀ y,y<j→SzP (RA f) i y) sbb ?_ (fun _=>⟨rfl,rfl⟩) (fun _=>rfl) (fun _=>⟨rfl,rfl⟩) rfl rfl (by omega) ?_ ?_
  ·exact ⟨hx2,fun y hy=>by omega⟩
  ·clear hx2
   rintro j w2 hj ⟨hx2,hR⟩
   (iterate 6 refine Nv ?_;try refine .r rfl ?_)
   refine .s (OpR.call fn_r08_Sized rfl (sized_spec (h.ext (hx1.trans hx2)) hn hs hs1 hb hpd (hL.ext hx2) hdl hsz hi (j:=j) (by omega))) ?_
   rintro _ w3 ⟨hx3,b,rfl,hbs⟩
   cases b
   ·(iterate 6 refine Nv ?_;try refine .r rfl ?_)
    refine .cT ?_
    (iterate 6 refine Nv ?_;try refine .r rfl ?_)
    exact Out.ret1 rfl rfl ⟨(hx1.trans hx2).trans hx3,false,rfl,⟨fun h=>(by cases h),fun h=>hbs.2 (h.1 i j hi hj)⟩⟩
   ·(iterate 6 refine Nv ?_;try refine .r rfl ?_)
    refine .cF ?_
    refine Nv ?_
    refine Out.rnd sbb ⟨hx2.trans hx3,fun y hy=>?_⟩
    by_cases e:y=j
    ·rw [e];exact hbs.1 rfl
    ·exact hR y (by omega)
  ·clear hx2
   rintro w2 ⟨hx2,hR⟩
   have hS':∀ x y,x<i+1→y<x→SzP (RA f) x y:=by
    intro x y hx hy
    by_cases e:x=i
    ·subst e;exact hR y hy
    ·exact hS x y (by omega) hy
   refine Nv ?_
   by_cases h0:0<i
   ·refine .a 2 (.bool true) rfl (bool_true (by omega)) ?_
    refine .r rfl ?_
    refine .s (OpR.call fn_r08_Lovasz rfl (lovasz_spec (h.ext (hx1.trans hx2)) hn hs hs1 hb hpd (hL.ext hx2) hdl hsz hi h0)) ?_
    rintro _ w3 ⟨hx3,b,rfl,hbs⟩
    cases b
    ·(iterate 6 refine Nv ?_;try refine .r rfl ?_)
     refine .cT ?_
     (iterate 6 refine Nv ?_;try refine .r rfl ?_)
     exact Out.ret1 rfl rfl ⟨(hx1.trans hx2).trans hx3,false,rfl,⟨fun h=>(by cases h),fun h=>hbs.2 (h.2 i h0 hi)⟩⟩
    ·(iterate 6 refine Nv ?_;try refine .r rfl ?_)
     refine .cF ?_
     refine Nv ?_
     refine Out.rnd sbb ⟨hx2.trans hx3,hS',fun x h1 h2=>?_⟩
     by_cases e:x=i
     ·rw [e];exact hbs.1 rfl
     ·exact hV x h1 (by omega)
   ·refine .a 2 (.bool false) rfl (bool_false (by omega)) ?_
    (iterate 6 refine Nv ?_;try refine .r rfl ?_)
    refine .cF ?_
    refine Nv ?_
    exact Out.rnd sbb ⟨hx2,hS',fun x h1 h2=>by omega⟩
 ·rintro w2 ⟨hx2,hS,hV⟩
  (iterate 6 refine Nv ?_;try refine .r rfl ?_)
  exact Out.ret1 rfl rfl ⟨hx1.trans hx2,true,rfl,⟨fun _=>⟨hS,hV⟩,fun _=>rfl⟩⟩
theorem rsmallD_spec {w:World} {v:Value} {n s:Nat} {f:Nat→Nat→Int} (h:MI w v (mk n n f)) (hn:1≤n∧n≤16) (hs:∀ a b,a<n→b<n→sz (f a b)≤s) (hs1:1≤s) (hb:2 ^ n * (s+1)≤100000) (hpd:PD n f) :
  Calls Tryz.prog 78 #[v] w (Ret fun x w'=>Ext w w'∧∃ b,x=.bool b∧(b=true↔dd (RA f) n≤10000)):=by
 refine calls_of_St (args:=[_]) Tryz.func78 rfl Tryz.ntmps78 rfl ?_
 (iterate 6 refine Nv ?_;try refine .r rfl ?_)
 refine .s (OpR.call fn_r03_Determinant rfl (determinant_spec h hn hs hs1 hb)) ?_
 rintro y w1 ⟨hx1,d,hd,hdz,hdv⟩
 have hdv:=hdv (hpd.gd (by omega))
 refine .s (OpR.call fn_r01_Small rfl (rsmall_spec (base:=0) w1 10000 (by omega) (by omega) (Nat.zero_le _))) ?_
 rintro z w2 ⟨hx2,hz⟩
 have z1:sz 10000≤2:=sz_small (by omega) (by omega)
 refine .s (OpR.call fn_r01_Cmp rfl (rcmp_dn ((hd.ext hx2).dn (by omega)) (hz.dn (by omega)))) ?_
 rintro _ w3 ⟨hx3,rfl⟩
 refine .a 1 (.bool (decide (d≤10000))) rfl (by rw [cmp_le]) ?_
 (iterate 6 refine Nv ?_;try refine .r rfl ?_)
 refine Out.ret1 rfl rfl ⟨(hx1.trans hx2).trans hx3,_,rfl,?_⟩
 rw [decide_eq_true_eq,← hdv]
 exact (Rat.intCast_le_intCast (a:=d) (b:=10000)).symm
def Red (M:List (List Int)):Prop:=okM M∧M.length=(M.getD 0 []).length∧M.length≤8∧Form M.length (ent M)∧dd (RA (ent M)) M.length≤10000∧RdP M.length (RA (ent M))
theorem risReduced_spec {w:World} {v:Value} {M:List (List Int)} (h:M64 w v M) (h64:∀ row ∈ M,∀ x ∈ row,-9223372036854775808≤x∧x≤9223372036854775807) :
  Calls Tryz.prog 44 #[v] w (Ret fun x w'=>Ext w w'∧∃ b,x=.bool b∧(b=true↔Red M)):=by
 refine calls_of_St (args:=[_]) Tryz.func44 rfl Tryz.ntmps44 rfl ?_
 (iterate 6 refine Nv ?_;try refine .r rfl ?_)
 refine .s (OpR.call fn_r03_FromInts rfl (fromInts_spec (base:=0) w v M h (Nat.zero_le _) h64)) ?_
 rintro _ w1 ⟨hx1,⟨hok,u,rs,rfl,hC⟩ | ⟨hok,rfl⟩⟩
 ·have hsz:∀ row ∈ M,∀ x ∈ row,sz x≤2:=fun row hr x hx=>by have:=h64 row hr x hx;exact sz_small (by omega) (by omega)
  have hM:=hC.mi (fun row hr x hx=>by have:=hsz row hr x hx;omega)
  have hr1:1≤M.length∧M.length≤16:=⟨hok.1,hok.2.1⟩
  have h0:M[0]?=some (M[0]'(by omega)):=by simp
  have hc1:1≤(M.getD 0 []).length∧(M.getD 0 []).length≤16:=by
   have:=hok.2.2 0 _ h0
   exact ⟨by omega,by omega⟩
  have hM':MI w1 u (mk M.length (M.getD 0 []).length (ent M)):=by rw [mk_ent hok];exact hM
  have hs:∀ a b,a<M.length→b<(M.getD 0 []).length→sz (ent M a b)≤2:=by
   intro a b ha hb
   have hm:M[a]?=some (M[a]):=by simp
   have hl:=(hok.2.2 a _ hm).2.2
   have hx:(M[a])[b]?=some ((M[a])[b]'(by omega)):=by simp
   rw [entAt hm hx]
   exact hsz _ (List.mem_of_getElem? hm) _ (List.mem_of_getElem? hx)
  refine .r rfl ?_
  refine Nv ?_
  refine .r rfl ?_
  refine .s (OpR.call fn_r07_Validate rfl (validate_spec hM' hr1 hc1 hs (by omega) (by omega))) ?_
  rintro _ w2 ⟨hx2,e,rfl,hev⟩
  by_cases he:e=0
  ·subst he
   obtain ⟨e1,e8,hF⟩:=hev.1 rfl
   have hM2:MI w1 u (mk M.length M.length (ent M)):=by rw [← e1] at hM';exact hM'
   have hs2:∀ a b,a<M.length→b<M.length→sz (ent M a b)≤2:=fun a b ha hb=>hs a b ha (by omega)
   have hb2:2 ^ M.length * (2+1)≤100000:=Nat.le_trans (Nat.mul_le_mul_right _ (Nat.pow_le_pow_right (by omega) e8)) (by decide)
   refine .r rfl ?_
   refine .s (OpR.call fn_r08_small rfl (rsmallD_spec (hM2.ext hx2) hr1 hs2 (by omega) hb2 hF.2)) ?_
   rintro _ w3 ⟨hx3,b,rfl,hbs⟩
   have hx13:=(hx1.trans hx2).trans hx3
   cases b
   ·(iterate 6 refine Nv ?_;try refine .r rfl ?_)
    exact Out.ret1 rfl rfl ⟨hx13,false,rfl,⟨fun h=>(by cases h),fun h=>hbs.2 h.2.2.2.2.1⟩⟩
   ·refine .r rfl ?_
    refine .s (OpR.call fn_r08_reduced rfl (reduced_spec (hM2.ext (hx2.trans hx3)) hr1 hs2 (by omega) hb2 hF.2)) ?_
    rintro _ w4 ⟨hx4,b,rfl,hbr⟩
    (iterate 6 refine Nv ?_;try refine .r rfl ?_)
    exact Out.ret1 rfl rfl ⟨hx13.trans hx4,b,rfl,⟨fun h=>⟨hok,e1,e8,hF,hbs.1 rfl,hbr.1 h⟩,fun h=>hbr.2 h.2.2.2.2.2⟩⟩
  ·refine .a 1 (.bool false) rfl (by rw [show (e == 0)=false from by simpa using he]) ?_
   (iterate 6 refine Nv ?_;try refine .r rfl ?_)
   exact Out.ret1 rfl rfl ⟨hx1.trans hx2,false,rfl,⟨fun h=>(by cases h),fun h=>absurd (hev.2 ⟨h.2.1,h.2.2.1,h.2.2.2.1⟩) he⟩⟩
 ·(iterate 6 refine Nv ?_;try refine .r rfl ?_)
  exact Out.ret1 rfl rfl ⟨hx1,false,rfl,⟨fun h=>(by cases h),fun h=>absurd h.1 hok⟩⟩
theorem i64_cells (xs:List Int):∀ u ∈ xs.map i64,u.cells=#[u]:=by
 intro u hu
 obtain ⟨x,_,rfl⟩:=List.mem_map.1 hu
 rfl
theorem i64_sh (xs:List Int):ShK 1 (xs.map i64):=by
 intro u hu
 obtain ⟨x,_,rfl⟩:=List.mem_map.1 hu
 exact ⟨rfl,by simp [Value.cells,Value.oneCell']⟩
theorem MatW.ext {rs:List Value} {base:Nat} {w w':World} {v:Value} {M:List (List Int)} (h:MatW rs base w v M) (hx:Ext w w'):MatW rs base w' v M:=MatR.ext h hx
theorem MatW.rsl {rs:List Value} {base:Nat} {w:World} {v:Value} {M:List (List Int)} (h:MatW rs base w v M):rs.length=M.length:=by
 have:=h.2.1
 simpa using this
theorem MatW.m64 {rs:List Value} {base:Nat} {w:World} {v:Value} {M:List (List Int)} (h:MatW rs base w v M):M64 w v M:=by
 refine ⟨rs,MatR.rows h,h.rsl,fun i r row hr hrow=>?_⟩
 have hI:(M.map (fun row=>row.map i64))[i]?=some (row.map i64):=by simp [hrow]
 exact (h.2.2.2.1 i r _ hr hI).row (i64_cells row)
theorem MatW.rowAt {rs:List Value} {base:Nat} {w:World} {p:Option Addr} {len cap:Nat} {M:List (List Int)} (h:MatW rs base w (.slice p len cap) M) {i:Nat} (hi:i<M.length):∃ a rr,p=some a∧len=M.length∧rs[i]?=some rr∧w.cell? (a.add i)=some rr:=by
 have hl:=h.rsl
 have hrr:rs[i]?=some (rs[i]'(by omega)):=by simp
 obtain ⟨a,cp,e,hc⟩:=(MatR.rows h).get hrr
 simp only [Value.slice.injEq] at e
 exact ⟨a,_,e.1,by omega,hrr,hc⟩
theorem matW_nil {base n:Nat} {w:World} {g:Nat} (hb:base≤g) (hn:n≤1000000) (B:Blk 27 w g (List.replicate n (.slice none 0 0))):MatW (List.replicate n (.slice none 0 0)) base w (.slice (some ⟨g,0,none⟩) n n) (List.replicate n []):=by
 unfold MatW
 rw [List.map_replicate]
 refine ⟨⟨?_,.inr ⟨g,n,[],by rw [List.length_replicate],hb,?_,by simp,by simp,by unfold maxLen;omega⟩⟩,by simp,?_,?_,?_⟩
 ·intro u hu;rw [List.eq_of_mem_replicate hu];exact ⟨rfl,by simp [Value.cells,Value.oneCell']⟩
 ·rw [flat_one _ (fun u hu=>by rw [List.eq_of_mem_replicate hu];rfl),List.append_nil];exact B
 ·intro u hu;rw [List.eq_of_mem_replicate hu];rfl
 ·intro i s us hs hus
  have e1:=List.eq_of_mem_replicate (List.mem_of_getElem? hs)
  have e2:=List.eq_of_mem_replicate (List.mem_of_getElem? hus)
  subst e1;subst e2
  exact RowO.nil
 ·intro i j s t _ hs _ _
  rw [List.eq_of_mem_replicate (List.mem_of_getElem? hs)];rfl
section
variable {n:Nat} {E:List (Nat×Value)} {w w0:World} {ops:Array Oper} {rest:List Oper} {Q:Exit→Act→World→Prop} {d1 s:Nat} {x I y:Operand} {ty ty2:TypeId} {pos pos2:String} {af af2:Array Edge} {g1 g2:Option (Nat×Bool)}
theorem StL.putRowW {rs:List Value} {base:Nat} {v:Value} {M:List (List Int)} {i c b:Nat} {iv:Int} (h:MatW rs base w v M) (hi:i<M.length) (hw:w0.heap.size≤base) (hx0:Ext w0 w) (B:Blk 2 w b (List.replicate c (.int .i64 0))) (hbb:base≤b) (hfr:∀ r ∈ rs,r.ownBlock≠some b) (hc:c≤1000000)
  (hx:ov E x=some v) (hI:ov E I=some (.int .i64 iv)) (hiv:iv=i) (hy:∀ p,ov ((d1,p)::E) y=some (.slice (some ⟨b,0,none⟩) c c)) (hg:wantE ops E g1=some true) (hn:Nat.blt d1 n=true) (hg2:∀ p,wantE ops ((d1,p)::E) g2=some true)
  (next:∀ p w',Ext w0 w'→MatW (rs.set i (.slice (some ⟨b,0,none⟩) c c)) base w' v (M.set i (List.replicate c 0))→StL Tryz.prog n ((d1,p)::E) w' ops rest Q) :
  StL Tryz.prog n E w ops (⟨some d1,.indexAddr 25 x I,ty,pos,af,g1⟩::⟨none,.store 27 (.tmp d1) y,ty2,pos2,af2,g2⟩::rest) Q:=by
 have hrl:=h.rsl
 have hrep:List.replicate c (Value.int .i64 0)=(List.replicate c (0:Int)).map i64:=by rw [List.map_replicate]
 obtain ⟨g,cap,D,hv,hg0,hb,hcl,hcd,hset⟩:=MatR.setRow h (by decide) (i:=i) (r:=.slice (some ⟨b,0,none⟩) c c) (us:=(List.replicate c (0:Int)).map i64) (by omega)
  ⟨i64_sh _,.inr ⟨b,c,[],by simp,hbb,by rw [List.append_nil,flat_one _ (i64_cells _),← hrep];exact B,by simp,by simp,by unfold maxLen;omega⟩⟩ rfl rfl
  (fun j s _ hs e=>absurd e (hfr s (List.mem_of_getElem? hs)))
 subst hv
 refine StL.put TBok i hb hiv (by omega) (by simp) rfl rfl rfl rfl hx hI hg hn hg2 hy rfl rfl ?_
 intro p w' hb' hu'
 rw [Nat.zero_add] at hb'
 refine next p w' (hx0.then_upd hu' (by omega)) ?_
 have:=hset w' hu' hb'
 unfold MatW
 rw [List.map_set]
 exact this
theorem StL.putW {rs:List Value} {base:Nat} {v r:Value} {M:List (List Int)} {i j:Nat} {row:List Int} {z iv:Int} (h:MatW rs base w v M) (hr:rs[i]?=some r) (hi:M[i]?=some row) (hj:j<row.length) (hw:w0.heap.size≤base) (hx0:Ext w0 w)
  (hx:ov E x=some r) (hI:ov E I=some (.int .i64 iv)) (hiv:iv=j) (hy:∀ p,ov ((d1,p)::E) y=some (.int .i64 z)) (hg:wantE ops E g1=some true) (hn:Nat.blt d1 n=true) (hg2:∀ p,wantE ops ((d1,p)::E) g2=some true)
  (next:∀ p w',Ext w0 w'→MatW rs base w' v (M.set i (row.set j z))→StL Tryz.prog n ((d1,p)::E) w' ops rest Q) :
  StL Tryz.prog n E w ops (⟨some d1,.indexAddr 27 x I,ty,pos,af,g1⟩::⟨none,.store 2 (.tmp d1) y,ty2,pos2,af2,g2⟩::rest) Q:=by
 have hI2:(M.map (fun row=>row.map i64))[i]?=some (row.map i64):=by simp [hi]
 obtain ⟨g,cap,D,hv,hg0,hb,hc1,hc2,hput⟩:=MatR.put h (by decide) hr hI2 (j:=j) (by simpa using hj) (u:=.int .i64 z) ⟨rfl,by simp [Value.cells,Value.oneCell']⟩
 rw [flat_one _ (i64_cells row)] at hb hput
 subst hv
 have hl:(row.map i64).length=row.length:=by simp
 rw [hl] at hx
 refine StL.put TBok j hb hiv (by omega) (by rw [List.length_append];simp) rfl rfl rfl rfl hx hI hg hn hg2 hy rfl rfl ?_
 intro p w' hb' hu'
 rw [Nat.zero_add] at hb'
 refine next p w' (hx0.then_upd hu' (by omega)) ?_
 have e:over (row.map i64++D) (1 * j) (Value.int .i64 z).cells.toList=(row.map i64++D).set j (.int .i64 z):=by
  rw [Nat.one_mul]
  rfl
 rw [e] at hput
 have:=hput w' hu' hb'
 unfold MatW
 rw [List.map_set,List.map_set]
 exact this
end
theorem MatW.blkLt {rs:List Value} {B:Nat} {w:World} {V:Value} {M:List (List Int)} (h:MatW rs B w V M):∀ r ∈ rs,∀ b,w.heap.size≤b→r.ownBlock≠some b:=by
 intro r hr b hb e
 obtain ⟨i,hi⟩:=List.mem_iff_getElem?.1 hr
 have:=MatR.blk_lt h hi e
 omega
def fst (n c i:Nat) (f:Nat→Nat→Int):List (List Int):=(List.range n).map fun a=>if a<i then tab c (f a) else []
theorem fst_len (n c i:Nat) (f:Nat→Nat→Int):(fst n c i f).length=n:=by simp [fst]
theorem fst_get {n c i:Nat} {f:Nat→Nat→Int} {a:Nat} (ha:a<n):(fst n c i f)[a]?=some (if a<i then tab c (f a) else []):=by simp [fst,ha]
theorem fst_zero (n c:Nat) (f:Nat→Nat→Int):fst n c 0 f=List.replicate n []:=by
 apply List.ext_getElem?
 intro a
 by_cases ha:a<n
 ·rw [fst_get ha];simp [ha]
 ·rw [List.getElem?_eq_none (by rw [fst_len];omega),List.getElem?_eq_none (by simp;omega)]
theorem fst_all (n c:Nat) (f:Nat→Nat→Int):fst n c n f=mk n c f:=by
 apply List.ext_getElem?
 intro a
 by_cases ha:a<n
 ·rw [fst_get ha,mk_get ha,if_pos ha];rfl
 ·rw [List.getElem?_eq_none (by rw [fst_len];omega),List.getElem?_eq_none (by rw [mk_len];omega)]
theorem fst_congr {n c i:Nat} {f g:Nat→Nat→Int} (h:∀ a b,a<i→b<c→f a b=g a b):fst n c i f=fst n c i g:=by
 unfold fst
 apply List.map_congr_left
 intro a _
 by_cases e:a<i
 ·rw [if_pos e,if_pos e];exact tab_congr fun b hb=>h a b e hb
 ·rw [if_neg e,if_neg e]
theorem fst_add {n c i:Nat} {f:Nat→Nat→Int} (hi:i<n):(fst n c i f).set i (List.replicate c 0)=fst n c (i+1) (fun a b=>if a<i then f a b else 0):=by
 apply List.ext_getElem?
 intro a
 by_cases e:i=a
 ·subst e
  rw [List.getElem?_set_self (by rw [fst_len];exact hi),fst_get hi,if_pos (by omega)]
  congr 1
  apply List.ext_getElem?
  intro b
  by_cases hb:b<c
  ·rw [tab_get hb,if_neg (by omega)];simp [hb]
  ·rw [List.getElem?_eq_none (by simp;omega),List.getElem?_eq_none (by rw [tab_len];omega)]
 ·rw [List.getElem?_set_ne e]
  by_cases ha:a<n
  ·rw [fst_get ha,fst_get ha]
   by_cases h1:a<i
   ·rw [if_pos h1,if_pos (by omega)]
    congr 1
    exact tab_congr fun b _=>by rw [if_pos h1]
   ·rw [if_neg h1,if_neg (by omega)]
  ·rw [List.getElem?_eq_none (by rw [fst_len];omega),List.getElem?_eq_none (by rw [fst_len];omega)]
theorem tab_set {c:Nat} {g:Nat→Int} {j:Nat} {y:Int} (hj:j<c):(tab c g).set j y=tab c (fun b=>if b=j then y else g b):=by
 apply List.ext_getElem?
 intro b
 by_cases e:j=b
 ·subst e
  rw [List.getElem?_set_self (by rw [tab_len];exact hj),tab_get hj,if_pos rfl]
 ·rw [List.getElem?_set_ne e]
  by_cases hb:b<c
  ·rw [tab_get hb,tab_get hb,if_neg (Ne.symm e)]
  ·rw [List.getElem?_eq_none (by rw [tab_len];omega),List.getElem?_eq_none (by rw [tab_len];omega)]
theorem fst_set {n c i:Nat} {f:Nat→Nat→Int} {a j:Nat} {y:Int} (ha:a<n) (hai:a<i) (hj:j<c):(fst n c i f).set a ((tab c (f a)).set j y)=fst n c i (upd2 f a j y):=by
 apply List.ext_getElem?
 intro a'
 by_cases e:a=a'
 ·subst e
  rw [List.getElem?_set_self (by rw [fst_len];exact ha),fst_get ha,if_pos hai,tab_set hj]
  congr 1
  exact tab_congr fun b _=>by unfold upd2;by_cases e:b=j <;> simp [e]
 ·rw [List.getElem?_set_ne e]
  by_cases ha':a'<n
  ·rw [fst_get ha',fst_get ha']
   by_cases h1:a'<i
   ·rw [if_pos h1,if_pos h1]
    congr 1
    exact tab_congr fun b _=>by unfold upd2;rw [if_neg (by omega)]
   ·rw [if_neg h1,if_neg h1]
  ·rw [List.getElem?_eq_none (by rw [fst_len];omega),List.getElem?_eq_none (by rw [fst_len];omega)]
theorem quotient_spec {w:World} {x y:Value} {a b:Int} (hX:Dn w x a) (hY:Dn w y b) (ha:sz a≤100000) (hb:sz b≤100000) :
  Calls Tryz.prog 62 #[x,y] w (Ret fun r w'=>Ext w w'∧CanR 0 w' r (Rat.divInt a b)):=by
 refine calls_of_St (args:=[_,_]) Tryz.func62 rfl Tryz.ntmps62 rfl ?_
 refine Nv ?_
 refine .s (OpR.box rfl) ?_
 rintro _ w1 ⟨rfl,B1,hx1,hz1⟩
 refine .s (OpR.box rfl) ?_
 rintro _ w2 ⟨rfl,B2,hx2,hz2⟩
 refine .s (OpR.alloc TBok rfl) ?_
 rintro _ w3 ⟨rfl,B3,hx3,hz3⟩
 have hx0:Ext w w3:=(hx1.trans hx2).trans hx3
 replace B1:=(B1.ext hx2).ext hx3
 replace B2:=B2.ext hx3
 replace hX:=hX.ext hx0
 replace hY:=hY.ext hx0
 have hs:=(hx1.trans hx2).size
 clear hx1 hx2 hx3
 (iterate 6 refine Nv ?_;try refine .r rfl ?_)
 refine .p (RunsTo.loadI2 rfl (B1) (hX.r2)) ?_
 refine .p (RunsTo.loadI2 rfl (B2) (hY.r2)) ?_
 refine .p (RunsTo.buildR rfl rfl hX.r2 hY.r2) ?_
 have hd:DnS w3 (mkR x y) (Rat.divInt a b):=⟨mkR_R4 hX.r2 hY.r2,a,b,by rw [nm_mkR hX.r2];exact hX,by rw [dm_mkR hY.r2];exact hY,rfl,ha,hb⟩
 refine .s (OpR.call fn_r02_Normalize rfl (rnormalizeR_spec hd)) ?_
 rintro z w4 ⟨hx4,hR⟩
 replace B3:=B3.ext hx4
 replace hx0:=hx0.trans hx4
 clear hx4
 refine StL.setR rfl rfl rfl hR.1 B3 rfl hx0 (by omega) ?_
 intro w12 B12 hu12 hx12
 (iterate 6 refine Nv ?_;try refine .r rfl ?_)
 exact Out.retR rfl rfl B12 hR.1 ⟨hx12,hR.upd hu12 B3 (by decide)⟩
set_option maxHeartbeats 3200000 in
theorem toInts_spec {w:World} {v:Value} {n:Nat} {f:Nat→Nat→Int} (h:MI w v (mk n n f)) (hn:1≤n∧n≤16) (hf:∀ a b,a<n→b<n→-9223372036854775808≤f a b∧f a b≤9223372036854775807) :
  Calls Tryz.prog 82 #[v] w (Ret fun x w'=>Ext w w'∧∃ u,x=.tuple #[u,.bool true]∧M64 w' u (mk n n f)):=by
 obtain ⟨a,cap,hv,hP⟩:=h.mp hn.1 hn.1
 refine calls_of_St (args:=[_]) Tryz.func82 rfl Tryz.ntmps82 rfl ?_
 (iterate 6 refine Nv ?_;try refine .r rfl ?_)
 refine .s (OpR.call fn_r03_Shape rfl (shape_spec h hn hn)) ?_
 rintro _ w1 ⟨hx1,rfl⟩
 subst hv
 replace hP:=hP.ext hx1
 (iterate 6 refine Nv ?_;try refine .r rfl ?_)
 refine .cF ?_
 (iterate 6 refine Nv ?_;try refine .r rfl ?_)
 refine .s (OpR.make TBok n rfl rfl rfl rfl rfl rfl rfl rfl (by show n * 24≤_;omega) (by omega)) ?_
 rintro _ w2 ⟨rfl,B,hx2,hz2⟩
 have h0:=matW_nil (base:=w1.heap.size) (Nat.le_refl _) (by omega) B
 rw [← fst_zero n n f] at h0
 (iterate 6 refine Nv ?_;try refine .r rfl ?_)
 refine St.rng TBok (24) (0) (n) (by omega) [(0,.slice (some a) n cap),(5,.int .i64 n),(7,.slice (some ⟨w1.heap.size,0,none⟩) n n),(23,.int .i64 n)] (fun i w'=>Ext w1 w'∧∃ rs,MatW rs w1.heap.size w' (.slice (some ⟨w1.heap.size,0,none⟩) n n) (fst n n i f)) sbb ?_ (fun _=>⟨rfl,rfl⟩) (fun _=>rfl) (fun _=>⟨rfl,rfl⟩) rfl rfl (by omega) ?_ ?_
 ·exact ⟨hx2,_,h0⟩
 ·clear h0 B hx2 hz2
  rintro i w3 hi ⟨hx3,rs,hM⟩
  (iterate 6 refine Nv ?_;try refine .r rfl ?_)
  refine .s (OpR.make TBok n rfl rfl rfl rfl rfl rfl rfl rfl (by show n * 8≤_;omega) (by omega)) ?_
  rintro _ w4 ⟨rfl,B4,hx4,hz4⟩
  refine StL.putRowW (w0:=w1) (hM.ext hx4) (by rw [fst_len];exact hi) (Nat.le_refl _) (hx3.trans hx4) B4 hx3.size (fun r hr=>hM.blkLt r hr _ (Nat.le_refl _)) (by omega) rfl rfl rfl (fun _=>rfl) rfl rfl (fun _=>rfl) ?_
  intro p5 w5 hx5 hM5
  rw [fst_add hi] at hM5
  obtain ⟨a3,rr,ea,_,hrr,hc3⟩:=hM5.rowAt (i:=i) (by rw [fst_len];exact hi)
  cases ea
  generalize hrs5:rs.set i (.slice (some ⟨w3.heap.size,0,none⟩) n n)=rs5 at hM5 hrr
  have hrv:rr=.slice (some ⟨w3.heap.size,0,none⟩) n n:=by
   have hrl:=hM.rsl
   rw [fst_len] at hrl
   rw [← hrs5,List.getElem?_set_self (by omega)] at hrr
   simpa using hrr.symm
  subst hrv
  clear hrs5 hM hx4 B4
  (iterate 6 refine Nv ?_;try refine .r rfl ?_)
  refine .p (RunsTo.ia) ?_
  refine .p (RunsTo.load TBok rfl rfl rfl hc3) ?_
  (iterate 6 refine Nv ?_;try refine .r rfl ?_)
  refine St.rng TBok (37) (0) (n) (by omega) [(0,.slice (some a) n cap),(5,.int .i64 n),(7,.slice (some ⟨w1.heap.size,0,none⟩) n n),(23,.int .i64 n),(24,.int .i64 i),(8,.int .i64 i),(36,.int .i64 n)] (fun j w'=>Ext w1 w'∧MatW rs5 w1.heap.size w' (.slice (some ⟨w1.heap.size,0,none⟩) n n) (fst n n (i+1) (fil f i j))) sbb ?_ (fun _=>⟨rfl,rfl⟩) (fun _=>rfl) (fun _=>⟨rfl,rfl⟩) rfl rfl (by omega) ?_ ?_
  ·refine ⟨hx5,?_⟩
   rw [fst_congr (g:=fun a b=>if a<i then f a b else 0)]
   ·exact hM5
   ·intro a b ha hb
    unfold fil
    by_cases e:a<i
    ·rw [if_pos (.inl e),if_pos e]
    ·rw [if_neg (by omega),if_neg e]
  ·clear hM5 hc3 hx5
   rintro j w5 hj ⟨hx5,hM5⟩
   obtain ⟨b,o,cp,hcell,e,C,hBk,hg⟩:=(hP.ext hx5) i hi
   obtain ⟨y,hd,k1,k2⟩:=hg j hj
   have hf':=hf i j hi hj
   (iterate 6 refine Nv ?_;try refine .r rfl ?_)
   refine .p (RunsTo.ia) ?_
   refine .p (RunsTo.load TBok rfl rfl rfl hcell) ?_
   refine .r rfl ?_
   refine .p (RunsTo.indexI rfl rfl rfl (by omega)) ?_
   refine .p (RunsTo.loadIt rfl hBk k1 k2 hd.r2) ?_
   refine .s (OpR.call fn_r01_Int64 rfl (rint64_dn hd)) ?_
   rintro _ w6 ⟨hx6,rfl⟩
   unfold int64V
   rw [if_pos hf']
   (iterate 6 refine Nv ?_;try refine .r rfl ?_)
   refine .cF ?_
   replace hM5:=hM5.ext hx6
   have hx16:=hx5.trans hx6
   obtain ⟨a3,rr2,ea,_,hrr2,hc3⟩:=hM5.rowAt (i:=i) (by rw [fst_len];exact hi)
   cases ea
   rw [hrr] at hrr2
   cases hrr2
   (iterate 6 refine Nv ?_;try refine .r rfl ?_)
   refine .p (RunsTo.ia) ?_
   refine .p (RunsTo.load TBok rfl rfl rfl hc3) ?_
   refine .r rfl ?_
   refine StL.putW (w0:=w1) hM5 hrr (fst_get hi) (j:=j) (by rw [if_pos (by omega),tab_len];exact hj) (Nat.le_refl _) hx16 rfl rfl rfl (fun _=>rfl) rfl rfl (fun _=>rfl) ?_
   intro p7 w7 hx7 hM7
   rw [if_pos (by omega),fst_set hi (by omega) hj] at hM7
   refine Nv ?_
   refine Out.rnd sbb ⟨hx7,?_⟩
   rw [fst_congr (g:=upd2 (fil f i j) i j (f i j))]
   ·exact hM7
   ·intro a b ha hb
    unfold upd2 fil
    by_cases e:a=i∧b=j
    ·rw [if_pos e,if_pos (by omega),e.1,e.2]
    ·rw [if_neg e]
     by_cases e2:a<i∨a=i∧b<j
     ·rw [if_pos e2,if_pos (by omega)]
     ·rw [if_neg e2,if_neg (by omega)]
  ·rintro w6 ⟨hx6,hM6⟩
   refine Nv ?_
   refine Out.rnd sbb ⟨hx6,rs5,?_⟩
   rw [fst_congr (g:=fil f i n)]
   ·exact hM6
   ·intro a b ha hb
    unfold fil
    rw [if_pos (by omega)]
 ·rintro w3 ⟨hx3,rs,hM⟩
  rw [fst_all] at hM
  (iterate 6 refine Nv ?_;try refine .r rfl ?_)
  exact Out.rets TBok [_,_] rfl ⟨rfl,rfl,trivial⟩ ⟨hx1.trans hx3,_,rfl,hM.m64⟩
theorem sz_flR (q:Rat):sz q.floor≤rz q:=by
 rw [Rat.floor_def]
 exact Nat.le_trans (sz_div _ _) (rz_num q)
def muA (A:Nat→Vec) (i j:Nat):Rat:=BB A j i j / dd A (j+1)
def cR (A:Nat→Vec) (i j:Nat):Int:=-((muA A i j+Rat.divInt 1 2).floor)
def Clean (A:Nat→Vec) (i:Nat):Prop:=(∀ x y,x<i→y<x→SzP A x y)∧∀ x,0<x→x<i→LvP A x
def StepR (n:Nat) (f:Nat→Nat→Int) (g:Nat→Nat→Int) (i j:Nat):Prop:=j<i∧i<n∧Clean (RA f) i∧(∀ y,j<y→y<i→SzP (RA f) i y)∧¬ SzP (RA f) i j∧g=upd2 idF j i (cR (RA f) i j)
def StepS (n:Nat) (f:Nat→Nat→Int) (g:Nat→Nat→Int) (i:Nat):Prop:=0<i∧i<n∧Clean (RA f) i∧(∀ y,y<i→SzP (RA f) i y)∧¬ LvP (RA f) i∧g=swF i (i - 1) idF
set_option maxHeartbeats 6400000 in
theorem step_spec {w:World} {v:Value} {n s:Nat} {f:Nat→Nat→Int} (h:MI w v (mk n n f)) (hn:1≤n∧n≤16) (hs:∀ a b,a<n→b<n→sz (f a b)≤s) (hs1:1≤s) (hb:2 ^ n * (s+1)≤40000) (hpd:PD n f) :
  Calls Tryz.prog 81 #[v] w (Ret fun x w'=>Ext w w'∧((RdP n (RA f)∧x=.tuple #[.slice none 0 0,.bool false])∨∃ u rs g,x=.tuple #[u,.bool true]∧MatC rs 0 w' u (mk n n g)∧((∃ i j,StepR n f g i j)∨∃ i,StepS n f g i))):=by
 have hb1:2 ^ n * (s+1)≤100000:=by omega
 have h2n:2≤2 ^ n * (s+1):=Nat.le_trans (show 2≤1 * 2 by decide) (Nat.mul_le_mul Nat.one_le_two_pow (by omega))
 obtain ⟨a,cap,hv,_⟩:=h.mp hn.1 hn.1
 refine calls_of_St (args:=[_]) Tryz.func81 rfl Tryz.ntmps81 rfl ?_
 (iterate 6 refine Nv ?_;try refine .r rfl ?_)
 refine .s (OpR.call fn_r04_Leading rfl (leading_spec h hn hs hs1 hb1)) ?_
 rintro _ w1 ⟨hx1,u,dl,rfl,hL,hsz,hdl⟩
 replace hdl:=Mnr.of hpd hdl
 subst hv
 (iterate 6 refine Nv ?_;try refine .r rfl ?_)
 refine .s (OpR.call fn_r03_Identity rfl (identity_spec (base:=w1.heap.size) w1 n hn (Nat.le_refl _))) ?_
 rintro _ w2 ⟨hx2,t,rs,rfl,hT⟩
 obtain ⟨g,cp,rfl⟩:=hT.addr hn.1
 replace hL:=hL.ext hx2
 have hx02:=hx1.trans hx2
 have hx12s:=hx2.size
 replace h:=h.ext hx02
 (iterate 6 refine Nv ?_;try refine .r rfl ?_)
 refine St.rng TBok (23) (0) (n) (by omega) [(0,.slice (some a) n cap),(4,u),(6,.slice (some ⟨g,0,none⟩) n cp),(22,.int .i64 n)] (fun i w'=>Ext w2 w'∧Clean (RA f) i) sbb ?_ (fun _=>⟨rfl,rfl⟩) (fun _=>rfl) (fun _=>⟨rfl,rfl⟩) rfl rfl (by omega) ?_ ?_
 ·exact ⟨Ext.refl _,fun x y hx=>by omega,fun x h1 h2=>by omega⟩
 ·rintro i w3 hi ⟨hx3,hcl⟩
  refine Nv ?_
  refine .r rfl ?_
  refine Nv ?_
  refine .a 3 (.int .i64 ((i:Int) - 1)) rfl (by rw [i64_id (by omega) (by omega)]) ?_
  refine Nv ?_
  refine St.loop (fun m:Nat=>[(23,.int .i64 i),(8,.int .i64 i),(0,.slice (some a) n cap),(4,u),(6,.slice (some ⟨g,0,none⟩) n cp),(22,.int .i64 n),(9,.int .i64 ((m:Int) - 1))])
   (fun m w'=>Ext w2 w'∧m≤i∧∀ y,m≤y→y<i→SzP (RA f) i y) (fun m=>m) i sbb ⟨hx3,Nat.le_refl _,fun y h1 h2=>by omega⟩ ?_
  clear hx3
  rintro m w3 ⟨hx3,hmi,hall⟩
  refine Nv ?_
  by_cases hm:0<m
  ·obtain ⟨j,rfl⟩:∃ j,m=j+1:=⟨m - 1,by omega⟩
   rw [show (((j+1:Nat):Int) - 1)=(j:Int) by omega]
   refine .a 2 (.bool true) rfl (bool_true (by omega)) ?_
   (iterate 6 refine Nv ?_;try refine .r rfl ?_)
   refine .cT ?_
   (iterate 6 refine Nv ?_;try refine .r rfl ?_)
   refine .s (OpR.call fn_r08_Sized rfl (sized_spec (h.ext hx3) hn hs hs1 hb1 hpd (hL.ext hx3) hdl hsz hi (j:=j) (by omega))) ?_
   rintro _ w4 ⟨hx4,b,rfl,hbs⟩
   replace hx3:=hx3.trans hx4
   clear hx4
   cases b
   ·(iterate 6 refine Nv ?_;try refine .r rfl ?_)
    refine .cT ?_
    have hnsz:¬ SzP (RA f) i j:=fun h=>by have:=hbs.2 h;cases this
    obtain ⟨a3,rr,ea,hrr,hc3⟩:=(hT.ext hx3).rowAt (i:=j) (by omega)
    cases ea
    have hL4:=hL.ext hx3
    have h4:=h.ext hx3
    have z1:=sz_dI hsz (by omega) (k:=j+1) (by omega)
    refine Nv ?_
    refine St.sub (E':=[(9,.int .i64 j),(8,.int .i64 i),(0,.slice (some a) n cap),(4,u),(6,.slice (some ⟨g,0,none⟩) n cp)]) ?_ sbb
    refine St.flow 16 TBfol (by kernel_rfl) rfl (by kernel_rfl) rfl True.intro ?_
    refine FL.run TBok 99 rfl ?_
    refine .on (fun _ _=>RunsTo.ia) ?_
    refine .on (fun _ hR=>RunsTo.load TBok rfl rfl rfl (hR.ext_nil.cell hc3)) ?_
    refine FL.run TBok 99 rfl ?_
    refine FL.callE fn_r08_Lambda (ψ:=fun x w'=>∃ d:Int,CanO 0 w' x d∧sz d≤2 ^ n * (s+1)∧(d:Rat)=BB (RA f) j i j) rfl rfl rfl (fun w5 hx5=>CallF.mk rfl ((lambda_spec (h4.ext hx5) hn hs hs1 hb1 hi (j:=j) (by omega)).mono ?_)) (fun _ _ _ hR ⟨d,h1,h2⟩=>⟨d,h1.rg hR,h2⟩) ?_
    ·rintro e w6 ⟨x,rfl,hx6,d,h1,h2,h3⟩
     exact ⟨x,rfl,hx6,d,h1,h2,h3 (hpd.gd (by omega))⟩
    refine FL.as TBok 3 (.int .i64 ((j+1:Nat):Int)) rfl (i64_succ (by omega)) ?_
    refine FL.callE fn_r08_minor rfl rfl rfl (fun w5 hx5=>CallF.mk rfl (minor_spec (hL4.ext hx5) (k:=j+1) (by omega) hn.2)) (MonoR.canO 0 _) ?_
    refine FL.callE fn_r02_Quotient (ψ:=fun x w'=>CanR 0 w' x (muA (RA f) i j)∧rz (muA (RA f) i j)≤40000) rfl rfl rfl (fun w5 hx5 t1 h1 t2 h2=>?_) (fun _ _ _ hR ⟨h1,h2⟩=>⟨h1.rg hR,h2⟩) ?_
    ·obtain ⟨d,hd1,hd2,hd3⟩:=h1
     refine CallF.mk rfl ((quotient_spec (hd1.dn (by omega)) (h2.dn (by omega)) (by omega) (by omega)).mono ?_)
     rintro e w6 ⟨x,rfl,hx6,h1⟩
     have e1:Rat.divInt d (dI dl (j+1))=muA (RA f) i j:=by
      rw [Rat.divInt_eq_div,hd3,hdl.dI (by omega)]
      rfl
     have e2:=rz_divInt d (dI dl (j+1))
     rw [e1] at h1 e2
     exact ⟨x,rfl,hx6,h1,by omega⟩
    refine FL.callE fn_r02_Nearest (ψ:=fun x w'=>CanO 0 w' x (muA (RA f) i j+Rat.divInt 1 2).floor∧rz (muA (RA f) i j)≤40000) rfl rfl rfl (fun w5 hx5 t1 h1=>?_) (fun _ _ _ hR ⟨h1,h2⟩=>⟨h1.rg hR,h2⟩) ?_
    ·refine CallF.mk rfl ((rnearestR_spec (h1.1.dnS (by omega)) h1.2).mono ?_)
     rintro e w6 ⟨x,rfl,hx6,h2⟩
     exact ⟨x,rfl,hx6,h2,h1.2⟩
    refine FL.callE fn_r01_Neg (ψ:=fun x w'=>CanO 0 w' x (cR (RA f) i j)) rfl rfl rfl (fun w5 hx5 t1 h1=>?_) (MonoR.canO 0 _) ?_
    ·refine CallF.mk rfl (rneg_dn (base:=0) (h1.1.dn ?_) (Nat.zero_le _))
     have e1:=sz_flR (muA (RA f) i j+Rat.divInt 1 2)
     have e2:=rz_add (muA (RA f) i j) (Rat.divInt 1 2)
     have e3:=rz_half
     have e4:=h1.2
     omega
    refine FL.endE rfl ?_
    rintro w5 hx5 z hz _ _ _ _ _ _ _ _ _ _
    refine StL.putM (w0:=w1) ((hT.ext hx3).ext hx5) hrr (mk_get (by omega)) (j:=i) (by simp;omega) hz ((hx2.trans hx3).trans hx5) (Nat.le_refl _) rfl rfl rfl (fun _=>rfl) rfl rfl (fun _=>rfl) ?_
    intro p6 w6 hx6 hC6
    rw [mk_set (by omega) hi] at hC6
    (iterate 6 refine Nv ?_;try refine .r rfl ?_)
    exact Out.rets TBok [_,_] rfl ⟨rfl,rfl,trivial⟩ ⟨hx1.trans hx6,.inr ⟨_,rs,_,rfl,hC6.mono (Nat.zero_le _),.inl ⟨i,j,by omega,hi,hcl,fun y h1 h2=>hall y (by omega) h2,hnsz,rfl⟩⟩⟩
   ·(iterate 6 refine Nv ?_;try refine .r rfl ?_)
    refine .cF ?_
    refine Nv ?_
    refine .a 3 (.int .i64 ((j:Int) - 1)) rfl (by rw [i64_id (by omega) (by omega)]) ?_
    refine Nv ?_
    refine Out.again j sbb ⟨hx3,by omega,fun y h1 h2=>?_⟩ (by omega)
    by_cases e:y=j
    ·rw [e];exact hbs.1 rfl
    ·exact hall y (by omega) h2
  ·obtain rfl:m=0:=by omega
   refine .a 2 (.bool false) rfl (by rfl) ?_
   (iterate 6 refine Nv ?_;try refine .r rfl ?_)
   refine .cF ?_
   have hrow:∀ y,y<i→SzP (RA f) i y:=fun y hy=>hall y (Nat.zero_le _) hy
   refine Nv ?_
   by_cases h0:0<i
   ·refine .a 2 (.bool true) rfl (bool_true (by omega)) ?_
    refine .r rfl ?_
    refine .s (OpR.call fn_r08_Lovasz rfl (lovasz_spec (h.ext hx3) hn hs hs1 hb1 hpd (hL.ext hx3) hdl hsz hi h0)) ?_
    rintro _ w4 ⟨hx4,b,rfl,hbs⟩
    replace hx3:=hx3.trans hx4
    clear hx4
    cases b
    ·(iterate 6 refine Nv ?_;try refine .r rfl ?_)
     refine .cT ?_
     have hnlv:¬ LvP (RA f) i:=fun h=>by have:=hbs.2 h;cases this
     have hT3:=hT.ext hx3
     have hrl:=hT3.rsl
     rw [mk_len] at hrl
     obtain ⟨q,rfl⟩:∃ q,i=q+1:=⟨i - 1,by omega⟩
     obtain ⟨x,hrx⟩:∃ x,rs[q+1]?=some x:=⟨rs[q+1]'(by omega),by simp⟩
     obtain ⟨y,hry⟩:∃ y,rs[q]?=some y:=⟨rs[q]'(by omega),by simp⟩
     obtain ⟨hBg,D,hBo⟩:=hT3.outer hn.1
     have hx1c:=hT3.one x (List.mem_of_getElem? hrx)
     have hy1c:=hT3.one y (List.mem_of_getElem? hry)
     have hxo:x.oneCell'=true:=by
      obtain ⟨R,q1,_⟩:=hT3
      have:=(q1.1.1 x (List.mem_of_getElem? hrx)).2
      rw [hx1c] at this
      exact this x (by simp)
     have hyo:y.oneCell'=true:=by
      obtain ⟨R,q1,_⟩:=hT3
      have:=(q1.1.1 y (List.mem_of_getElem? hry)).2
      rw [hy1c] at this
      exact this y (by simp)
     have hcx:(rs++D)[q+1]?=some x:=by rw [List.getElem?_append_left (by omega)];exact hrx
     have hcy:(rs++D)[q]?=some y:=by rw [List.getElem?_append_left (by omega)];exact hry
     have hw:IntKind.i64.wrap (((q+1:Nat):Int) - 1)=(q:Int):=by rw [i64_id (by omega) (by omega)];omega
     refine Nv ?_
     refine St.sub (E':=[(8,.int .i64 ((q+1:Nat):Int)),(6,.slice (some ⟨g,0,none⟩) n cp)]) ?_ sbb
     refine St.any TBfol rfl ?_
     intro w8 hx8 _ _
     replace hBo:=hBo.ext hx8
     replace hT3:=hT3.ext hx8
     have hx18:=(hx2.trans hx3).trans hx8
     refine WA.takes (fuel:=10) TBok (by kernel_rfl) (fun _ _ _ _ _ h=>h) [0,1,2,3,4,5,6,7] (by kernel_rfl) rfl ?_
     simp only [hw]
     refine WA.take 8 rfl rfl (by kernel_rfl) (by kernel_rfl) (by kernel_rfl) (fun _ _ _ h=>h) rfl rfl (fun w=>RunsTo.ia) ?_
     refine WA.takes (fuel:=7) TBok (by kernel_rfl) (fun _ _ _ _ _ h=>h) [10,11] (by kernel_rfl) rfl ?_
     refine WA.take 12 rfl rfl (by kernel_rfl) (by kernel_rfl) (by kernel_rfl) (fun _ _ _ h=>h) rfl rfl (fun w=>RunsTo.ia) ?_
     simp only [Int.toNat_natCast,addr_add,Nat.zero_add]
     refine WA.meet 4 #[true,true,true,true,true,true,true,true,true,true,true,true,true,true,false,false,false,false] (fun _:Unit=>[(6,.slice (some ⟨g,0,none⟩) n cp),(65,.slice (some ⟨g,0,none⟩) n cp),(66,.int .i64 ((q+1:Nat):Int)),(67,.slice (some ⟨g,0,none⟩) n cp),(69,.int .i64 q),(74,y),(78,x)]) (fun _ w'=>w'=w8) ?_ ?_
     ·rintro _ w8 rfl
      refine WA.one (i:=14) (by kernel_rfl) (WOp.val rfl rfl rfl rfl (RunsTo.ia).op ?_)
      rintro _ _ ⟨rfl,rfl⟩
      simp only [Int.toNat_natCast,addr_add,Nat.zero_add]
      refine WA.one (i:=15) (by kernel_rfl) (WOp.eff rfl rfl rfl (OpR.store TBok (vs:=[y]) rfl rfl rfl (by rw [hy1c]) rfl hBo (by simp;omega) (by simpa using hyo)) ?_)
      rintro _ w9 ⟨hb9,hu9⟩
      refine WA.one (i:=16) (by kernel_rfl) (WOp.val rfl rfl rfl rfl (RunsTo.ia).op ?_)
      rintro _ _ ⟨rfl,rfl⟩
      simp only [Int.toNat_natCast,addr_add,Nat.zero_add]
      refine WA.one (i:=17) (by kernel_rfl) (WOp.eff rfl rfl rfl (OpR.store TBok (vs:=[x]) rfl rfl rfl (by rw [hx1c]) rfl hb9 (by simp [over];omega) (by simpa using hxo)) ?_)
      rintro _ w10 ⟨hb10,hu10⟩
      refine WA.done (by kernel_rfl) ?_
      have hu:=hu9.trans hu10
      have e2:over (over (rs++D) (q+1) [y]) q [x]=(rs.set (q+1) y).set q x++D:=by
       simp only [over]
       rw [List.set_append_left _ _ (by omega),List.set_append_left _ _ (by simp;omega)]
      rw [e2] at hb10
      have hM:=hT3.swapC (i:=q+1) (j:=q) (by omega) hi (by omega) hrx hry rfl hBo hu hb10
      (iterate 6 refine Nv ?_;try refine .r rfl ?_)
      exact Out.rets TBok [_,_] rfl ⟨rfl,rfl,trivial⟩ ⟨hx1.trans (hx18.then_upd hu (by omega)),.inr ⟨_,_,_,rfl,hM.mono (Nat.zero_le _),.inr ⟨q+1,by omega,hi,hcl,hrow,hnlv,rfl⟩⟩⟩
     ·intro meet
      refine WA.two (i:=9) (j:=13) (by kernel_rfl) ?_ ?_
      ·refine WOp.val rfl rfl rfl rfl (RunsTo.load TBok rfl rfl rfl (hBo.cell hcy)).op ?_
       rintro _ _ ⟨rfl,rfl⟩
       refine WA.one (i:=13) (by kernel_rfl) (WOp.val rfl rfl rfl rfl (RunsTo.load TBok rfl rfl rfl (hBo.cell hcx)).op ?_)
       rintro _ _ ⟨rfl,rfl⟩
       exact meet () _ _ _ (by kernel_rfl) rfl sbb
      ·refine WOp.val rfl rfl rfl rfl (RunsTo.load TBok rfl rfl rfl (hBo.cell hcx)).op ?_
       rintro _ _ ⟨rfl,rfl⟩
       refine WA.one (i:=9) (by kernel_rfl) (WOp.val rfl rfl rfl rfl (RunsTo.load TBok rfl rfl rfl (hBo.cell hcy)).op ?_)
       rintro _ _ ⟨rfl,rfl⟩
       exact meet () _ _ _ (by kernel_rfl) rfl sbb
    ·(iterate 6 refine Nv ?_;try refine .r rfl ?_)
     refine .cF ?_
     refine Nv ?_
     refine Out.rnd sbb ⟨hx3,?_,?_⟩
     ·intro x y hx hy
      by_cases e:x=i
      ·subst e;exact hrow y hy
      ·exact hcl.1 x y (by omega) hy
     ·intro x h1 h2
      by_cases e:x=i
      ·rw [e];exact hbs.1 rfl
      ·exact hcl.2 x h1 (by omega)
   ·refine .a 2 (.bool false) rfl (bool_false (by omega)) ?_
    (iterate 6 refine Nv ?_;try refine .r rfl ?_)
    refine .cF ?_
    refine Nv ?_
    exact Out.rnd sbb ⟨hx3,fun x y hx hy=>by omega,fun x h1 h2=>by omega⟩
 ·rintro w3 ⟨hx3,hcl⟩
  (iterate 6 refine Nv ?_;try refine .r rfl ?_)
  exact Out.rets TBok [_,_] rfl ⟨rfl,rfl,trivial⟩ ⟨hx02.trans hx3,.inl ⟨⟨fun i j hi hj=>hcl.1 i j hi hj,fun i h1 h2=>hcl.2 i h1 h2⟩,rfl⟩⟩
end Go.Qf
namespace Go.Qf
theorem sq_nonneg' (x:Rat):0≤x * x:=by
 rcases Rat.le_total (a:=0) (b:=x) with h | h
 ·exact Rat.mul_nonneg h h
 ·have:0≤(-x) * (-x):=Rat.mul_nonneg (by grind) (by grind)
  grind
theorem pos_of_mul {a b:Rat} (ha:0<a) (h:0<a * b):0<b:=by
 rcases Rat.le_total (a:=b) (b:=0) with h1 | h1
 ·have:0≤a * (-b):=Rat.mul_nonneg (by grind) (by grind)
  grind
 ·by_cases e:b=0
  ·subst e;rw [Rat.mul_zero] at h;exact absurd h (by grind)
  ·grind
theorem mul_lt' {a b c:Rat} (ha:0<a) (h:b<c):a * b<a * c:=by
 have:=Rat.mul_pos ha (show 0<c - b by grind)
 grind
theorem mul_le' {a b c:Rat} (ha:0≤a) (h:b≤c):a * b≤a * c:=by
 have:=Rat.mul_nonneg ha (show 0≤c - b by grind)
 grind
theorem le_of_mul {a b c:Rat} (ha:0<a) (h:a * b≤a * c):b≤c:=by
 rcases Rat.le_total (a:=b) (b:=c) with h1 | h1
 ·exact h1
 ·by_cases e:b=c
  ·rw [e];exact Rat.le_refl
  ·have:=mul_lt' ha (show c<b by grind)
   grind
theorem inv_pos' {a:Rat} (h:0<a):0<a⁻¹:=by
 have:=Rat.mul_inv_cancel a (by grind)
 exact pos_of_mul h (by rw [this];decide)
def Pos (n:Nat) (A:Nat→Vec):Prop:=∀ m,m≤n→0<dd A m
section
variable {n:Nat} {A:Nat→Vec}
theorem dd_succ (A:Nat→Vec) (k:Nat):dd A (k+1)=dd A k * EL A k k k:=rfl
theorem piv_pos (h:Pos n A) {k:Nat} (hk:k<n):0<EL A k k k:=by
 have h1:=h (k+1) (by omega)
 rw [dd_succ] at h1
 exact pos_of_mul (h k (by omega)) h1
theorem EL_diag (hS:Sym A) (k i:Nat):EL A (k+1) i i=EL A k i i - EL A k i k * EL A k i k * (EL A k k k)⁻¹:=by
 rw [EL_inv,EL_sym hS k k i]
theorem EL_down (hS:Sym A) (h:Pos n A) {k:Nat} (hk:k<n) (i:Nat):EL A (k+1) i i≤EL A k i i:=by
 rw [EL_diag hS]
 have h1:=Rat.mul_nonneg (sq_nonneg' (EL A k i k)) (Rat.le_of_lt (inv_pos' (piv_pos h hk)))
 grind
theorem EL_chain (hS:Sym A) (h:Pos n A) (i:Nat):∀ (d k:Nat),k+d≤n→EL A (k+d) i i≤EL A k i i:=by
 intro d
 induction d with
 | zero=>intro k _;exact Rat.le_refl
 | succ d ih =>
  intro k hk
  have h1:=ih k (by omega)
  have h2:=EL_down hS h (k:=k+d) (by omega) i
  exact Rat.le_trans h2 h1
theorem diag_pos (hS:Sym A) (h:Pos n A) {k i:Nat} (hi:i<n) (hk:k≤i):0<EL A k i i:=by
 have h1:=EL_chain hS h i (i - k) k (by omega)
 rw [show k+(i - k)=i by omega] at h1
 have h2:=piv_pos h hi
 grind
theorem EL_cs (hS:Sym A) (h:Pos n A) {k q:Nat} (hq:q<n) (hk:k<q):EL A k q k * EL A k q k≤EL A k q q * EL A k k k:=by
 have h1:=diag_pos hS h hq (show k+1≤q by omega)
 rw [EL_diag hS] at h1
 have hB:=piv_pos h (show k<n by omega)
 have h2:=Rat.mul_inv_cancel _ (show EL A k k k≠0 by grind)
 have h3:=Rat.mul_pos h1 hB
 have h4:(EL A k q q - EL A k q k * EL A k q k * (EL A k k k)⁻¹) * EL A k k k=EL A k q q * EL A k k k - EL A k q k * EL A k q k:=by grind
 rw [h4] at h3
 grind
theorem EL_le (hS:Sym A) (h:Pos n A) {k:Nat} (hk:k≤n) (i:Nat):EL A k i i≤A i i:=by
 have:=EL_chain hS h i k 0 (by omega)
 rw [Nat.zero_add] at this
 exact this
theorem mu_le (hS:Sym A) (h:Pos n A) {i j:Nat} (hi:i<n) (hj:j<i):EL A j i j * EL A j i j≤A i i * EL A j j j:=by
 have h1:=EL_cs hS h hi hj
 have h2:=EL_le hS h (show j≤n by omega) i
 have h3:=mul_le' (Rat.le_of_lt (piv_pos h (show j<n by omega))) h2
 grind
theorem comb_pos (hS:Sym A) (h:Pos n A) {i j:Nat} (hi:i<n) (hj:j<i) (c:Rat):0<A i i+2 * c * A i j+c * c * A j j:=by
 have hne:EL A j j j≠0:=by have:=piv_pos h (show j<n by omega);grind
 have hP:Pos n (red c i j A):=fun m hm=>by rw [red_dd hj A hne];exact h m hm
 have:=diag_pos (red_sym hS) hP hi (Nat.zero_le _)
 have e:EL (red c i j A) 0 i i=red c i j A i i:=rfl
 rw [e,red_ii,hS j i] at this
 grind
theorem off_le (hS:Sym A) (h:Pos n A) {i j:Nat} (hi:i<n) (hj:j<i) {M:Rat} (h1:A i i≤M) (h2:A j j≤M):A i j≤M∧-M≤A i j:=by
 have p:=comb_pos hS h hi hj 1
 have q:=comb_pos hS h hi hj (-1)
 constructor <;> grind
theorem sized_diag (hS:Sym A) (h:Pos n A) {i:Nat} (hi:i<n) {D:Rat} (hD:∀ k,k<n→EL A k k k≤D) (hs:∀ k,k<i→2 * EL A k i k≤EL A k k k∧-(2 * EL A k i k)≤EL A k k k):∀ (d k:Nat),k+d=i→EL A k i i≤((d+1:Nat):Rat) * D:=by
 intro d
 induction d with
 | zero =>
  intro k hk
  have:k=i:=by omega
  subst this
  have:=hD k hi
  have e:((0+1:Nat):Rat)=1:=rfl
  rw [e]
  grind
 | succ d ih =>
  intro k hk
  have h1:=ih (k+1) (by omega)
  have h2:=hs k (by omega)
  have hB:=piv_pos h (show k<n by omega)
  have h3:=hD k (by omega)
  rw [EL_diag hS] at h1
  have h5:EL A k i k * EL A k i k≤EL A k k k * EL A k k k:=by
   have a1:=Rat.mul_nonneg (show 0≤EL A k k k - EL A k i k by grind) (show 0≤EL A k k k+EL A k i k by grind)
   grind
  have h6:=Rat.mul_inv_cancel _ (show EL A k k k≠0 by grind)
  have h7:=mul_le' (Rat.le_of_lt (inv_pos' hB)) h5
  have h8:(EL A k k k)⁻¹ * (EL A k k k * EL A k k k)=EL A k k k:=by grind
  rw [h8] at h7
  have e:((d+1+1:Nat):Rat)=((d+1:Nat):Rat)+1:=by
   rw [Rat.natCast_add];rfl
  rw [e]
  grind
end
end Go.Qf
namespace Go.Qf
def sumQ:Nat→(Nat→Rat)→Rat
 | 0,_=>0
 | n+1,g=>sumQ n g+g n
theorem sumQ_congr {n:Nat} {f g:Nat→Rat} (h:∀ i,i<n→f i=g i):sumQ n f=sumQ n g:=by
 induction n with
 | zero=>rfl
 | succ n ih=>simp only [sumQ];rw [ih (fun i hi=>h i (by omega)),h n (by omega)]
theorem sumQ_sub (n:Nat) (f g:Nat→Rat):sumQ n (fun i=>f i - g i)=sumQ n f - sumQ n g:=by
 induction n with
 | zero=>simp only [sumQ];grind
 | succ n ih=>simp only [sumQ];rw [ih];grind
theorem sumQ_mul (n:Nat) (c:Rat) (f:Nat→Rat):sumQ n (fun i=>f i * c)=sumQ n f * c:=by
 induction n with
 | zero=>simp only [sumQ];grind
 | succ n ih=>simp only [sumQ];rw [ih];grind
theorem sumQ_zero {n:Nat} {f:Nat→Rat} (h:∀ i,i<n→f i=0):sumQ n f=0:=by
 induction n with
 | zero=>rfl
 | succ n ih=>simp only [sumQ];rw [ih (fun i hi=>h i (by omega)),h n (by omega)];grind
theorem sumQ_le {n:Nat} {f:Nat→Rat} {b:Rat} (h:∀ i,i<n→f i≤b∧-b≤f i):sumQ n f≤(n:Rat) * b∧-((n:Rat) * b)≤sumQ n f:=by
 induction n with
 | zero=>simp only [sumQ];have:((0:Nat):Rat)=0:=rfl;rw [this];constructor <;> grind
 | succ n ih =>
  have h1:=ih (fun i hi=>h i (by omega))
  have h2:=h n (by omega)
  have e:((n+1:Nat):Rat)=(n:Rat)+1:=by rw [Rat.natCast_add];rfl
  simp only [sumQ]
  rw [e]
  constructor <;> grind
theorem sumQ_one {n k:Nat} (hk:k<n) (f:Nat→Rat):sumQ n f=f k+sumQ n (fun i=>if i=k then 0 else f i):=by
 induction n with
 | zero=>omega
 | succ n ih =>
  simp only [sumQ]
  by_cases e:k=n
  ·subst e
   rw [if_pos rfl,sumQ_congr (g:=fun i=>if i=k then 0 else f i) (fun i hi=>by rw [if_neg (by omega)])]
   grind
  ·rw [if_neg (Ne.symm e),ih (by omega)]
   grind
section
variable {n:Nat} {A:Nat→Vec}
theorem EL_zero (h:Pos n A) (p:Nat):∀ k,p<k→k≤n→∀ q,EL A k p q=0:=by
 intro k
 induction k with
 | zero=>intro h1;omega
 | succ k ih =>
  intro h1 h2 q
  rw [EL_inv]
  by_cases e:p=k
  ·subst e
   have:=Rat.mul_inv_cancel _ (show EL A p p p≠0 by have:=piv_pos h (show p<n by omega);grind)
   grind
  ·rw [ih (by omega) (by omega),ih (by omega) (by omega)]
   grind
def lin (n:Nat) (A:Nat→Vec) (k:Nat) (x:Nat→Rat):Rat:=sumQ n (fun q=>EL A k k q * x q)
def QF (n:Nat) (A:Nat→Vec) (k:Nat) (x:Nat→Rat):Rat:=sumQ n (fun p=>sumQ n (fun q=>EL A k p q * x q) * x p)
theorem QF_succ (hS:Sym A) (k:Nat) (x:Nat→Rat):QF n A (k+1) x=QF n A k x - lin n A k x * lin n A k x * (EL A k k k)⁻¹:=by
 unfold QF
 have h1:∀ p,sumQ n (fun q=>EL A (k+1) p q * x q)=sumQ n (fun q=>EL A k p q * x q) - EL A k p k * (EL A k k k)⁻¹ * lin n A k x:=by
  intro p
  have e:∀ q,EL A (k+1) p q * x q=EL A k p q * x q - EL A k k q * x q * (EL A k p k * (EL A k k k)⁻¹):=by
   intro q
   rw [EL_inv]
   grind
  rw [sumQ_congr (fun q _=>e q),sumQ_sub,sumQ_mul]
  unfold lin
  grind
 have h2:∀ p,sumQ n (fun q=>EL A (k+1) p q * x q) * x p=sumQ n (fun q=>EL A k p q * x q) * x p - EL A k k p * x p * ((EL A k k k)⁻¹ * lin n A k x):=by
  intro p
  rw [h1,EL_sym hS k p k]
  grind
 rw [sumQ_congr (fun p _=>h2 p),sumQ_sub,sumQ_mul]
 unfold lin
 grind
theorem QF_last (h:Pos n A) (x:Nat→Rat):QF n A n x=0:=by
 unfold QF
 refine sumQ_zero fun p hp=>?_
 rw [sumQ_zero fun q _=>by rw [EL_zero h p n hp (Nat.le_refl _)];grind]
 grind
theorem QF_step (hS:Sym A) (h:Pos n A) {k:Nat} (hk:k<n) (x:Nat→Rat):QF n A (k+1) x≤QF n A k x:=by
 rw [QF_succ hS]
 have:=Rat.mul_nonneg (sq_nonneg' (lin n A k x)) (Rat.le_of_lt (inv_pos' (piv_pos h hk)))
 grind
theorem QF_nonneg (hS:Sym A) (h:Pos n A) (x:Nat→Rat):∀ (d k:Nat),k+d=n→0≤QF n A k x:=by
 intro d
 induction d with
 | zero=>intro k hk;rw [show k=n by omega,QF_last h];exact Rat.le_refl
 | succ d ih=>intro k hk;exact Rat.le_trans (ih (k+1) (by omega)) (QF_step hS h (by omega) x)
theorem QF_top (hS:Sym A) (h:Pos n A) (x:Nat→Rat):∀ k,k≤n→QF n A k x≤QF n A 0 x:=by
 intro k
 induction k with
 | zero=>intro _;exact Rat.le_refl
 | succ k ih=>intro hk;exact Rat.le_trans (QF_step hS h (by omega) x) (ih (by omega))
theorem lin_le (hS:Sym A) (h:Pos n A) {k:Nat} (hk:k<n) (x:Nat→Rat):lin n A k x * lin n A k x≤QF n A 0 x * EL A k k k:=by
 have h1:=QF_nonneg hS h x (n - (k+1)) (k+1) (by omega)
 rw [QF_succ hS] at h1
 have h2:=QF_top hS h x k (by omega)
 have hB:=piv_pos h hk
 have h3:=Rat.mul_inv_cancel _ (show EL A k k k≠0 by grind)
 have h4:=Rat.mul_nonneg h1 (Rat.le_of_lt hB)
 have h5:(QF n A k x - lin n A k x * lin n A k x * (EL A k k k)⁻¹) * EL A k k k=QF n A k x * EL A k k k - lin n A k x * lin n A k x:=by grind
 rw [h5] at h4
 have h6:=mul_le' (Rat.le_of_lt hB) h2
 grind
def bet (D Y S:Rat):Nat→Rat
 | 0=>0
 | m+1=>D * (Y+S * bet D Y S m)
theorem bet_mono {D Y S:Rat} (hD:1≤D) (hY:0≤Y) (hS:1≤S):∀ m,0≤bet D Y S m∧bet D Y S m≤bet D Y S (m+1):=by
 intro m
 have key:∀ b:Rat,0≤b→b≤D * (Y+S * b):=by
  intro b hb
  have h1:=mul_le' hb hS
  have h2:=Rat.mul_nonneg (show 0≤D - 1 by grind) (show 0≤Y+S * b by grind)
  grind
 induction m with
 | zero =>
  refine ⟨Rat.le_refl,?_⟩
  exact key 0 Rat.le_refl
 | succ m ih =>
  have h0:0≤bet D Y S (m+1):=Rat.le_trans ih.1 ih.2
  exact ⟨h0,key _ h0⟩
theorem abs_sq {x Y:Rat} (h:x * x≤Y) (hY:1≤Y):x≤Y∧-Y≤x:=by
 constructor
 ·rcases Rat.le_total (a:=x) (b:=1) with h1 | h1
  ·grind
  ·have:=Rat.mul_nonneg (show 0≤x by grind) (show 0≤x - 1 by grind);grind
 ·rcases Rat.le_total (a:=-1) (b:=x) with h1 | h1
  ·grind
  ·have:=Rat.mul_nonneg (show 0≤-x by grind) (show 0≤-x - 1 by grind);grind
theorem abs_of_sq {x M:Rat} (h:x * x≤M * M) (hM:0≤M):x≤M∧-M≤x:=by
 constructor
 ·rcases Rat.le_total (a:=x) (b:=M) with h1 | h1
  ·exact h1
  ·by_cases e:x=M
   ·rw [e];exact Rat.le_refl
   ·have a1:=Rat.mul_pos (show 0<x - M by grind) (show 0<x by grind)
    have a2:=Rat.mul_nonneg (show 0≤x - M by grind) hM
    grind
 ·rcases Rat.le_total (a:=-M) (b:=x) with h1 | h1
  ·exact h1
  ·by_cases e:x=-M
   ·rw [e];exact Rat.le_refl
   ·have a1:=Rat.mul_pos (show 0 < -x - M by grind) (show 0 < -x by grind)
    have a2:=Rat.mul_nonneg (show 0≤-x - M by grind) hM
    grind
theorem mul_abs {a b M c:Rat} (h1:a≤M∧-M≤a) (h2:b≤c∧-c≤b):a * b≤M * c∧-(M * c)≤a * b:=by
 have p1:=Rat.mul_nonneg (show 0≤M - a by grind) (show 0≤c+b by grind)
 have p2:=Rat.mul_nonneg (show 0≤M+a by grind) (show 0≤c - b by grind)
 have p3:=Rat.mul_nonneg (show 0≤M - a by grind) (show 0≤c - b by grind)
 have p4:=Rat.mul_nonneg (show 0≤M+a by grind) (show 0≤c+b by grind)
 constructor <;> grind
theorem coord_le (hS:Sym A) (h:Pos n A) {M D H Y:Rat} (hM:∀ q,q<n→A q q≤M) (hM1:1≤M) (hD:∀ k,k<n→1≤EL A k k k * D) (hD1:1≤D) (x:Nat→Rat) (hH:QF n A 0 x≤H) (hHY:H * M≤Y) (hY:1≤Y) (hn:1≤n) :
  ∀ (d k:Nat),k+d=n→∀ q,k≤q→q<n→x q≤bet D Y ((n:Rat) * M) d∧-(bet D Y ((n:Rat) * M) d)≤x q:=by
 have hn1:(1:Rat)≤(n:Rat):=by exact_mod_cast hn
 have hSM:1≤(n:Rat) * M:=by
  have:=Rat.mul_nonneg (show 0≤(n:Rat) - 1 by grind) (show 0≤M by grind)
  grind
 intro d
 induction d with
 | zero=>intro k hk q h1 h2;omega
 | succ d ih =>
  intro k hk
  have ih':=ih (k+1) (by omega)
  have hm:=bet_mono hD1 (show 0≤Y by grind) hSM d
  intro q h1 h2
  by_cases e:q=k
  ·subst e
   have hB:=piv_pos h h2
   have hBM:EL A q q q≤M:=Rat.le_trans (EL_le hS h (show q≤n by omega) q) (hM q h2)
   have hl:=lin_le hS h h2 x
   have hH0:=QF_nonneg hS h x n 0 (by omega)
   have hl2:lin n A q x * lin n A q x≤Y:=by
    have a1:=mul_le' hH0 hBM
    have a2:=Rat.mul_nonneg (show 0≤H - QF n A 0 x by grind) (show 0≤M by grind)
    grind
   have hly:=abs_sq hl2 hY
   have e1:lin n A q x=EL A q q q * x q+sumQ n (fun i=>if i=q then 0 else EL A q q i * x i):=by
    unfold lin
    rw [sumQ_one h2]
   have hterm:∀ i,i<n→(if i=q then 0 else EL A q q i * x i)≤M * bet D Y ((n:Rat) * M) d∧-(M * bet D Y ((n:Rat) * M) d)≤(if i=q then 0 else EL A q q i * x i):=by
    intro i hi
    have hpos:=Rat.mul_nonneg (show 0≤M by grind) hm.1
    by_cases c1:i=q
    ·rw [if_pos c1];constructor <;> grind
    ·rw [if_neg c1]
     by_cases c2:i<q
     ·rw [EL_sym hS q q i,EL_zero h i q c2 (by omega)]
      constructor <;> grind
     ·have hiq:=ih' i (by omega) hi
      have c3:=EL_cs hS h hi (show q<i by omega)
      have c4:EL A q i i≤M:=Rat.le_trans (EL_le hS h (show q≤n by omega) i) (hM i hi)
      have c5:EL A q i q * EL A q i q≤M * M:=by
       have a1:=mul_le' (Rat.le_of_lt hB) c4
       have a2:=mul_le' (show 0≤M by grind) hBM
       grind
      have c6:=abs_of_sq c5 (by grind)
      rw [EL_sym hS q q i]
      exact mul_abs c6 hiq
   have hsum:=sumQ_le hterm
   have hDD:=hD q h2
   show x q≤D * (Y+(n:Rat) * M * bet D Y ((n:Rat) * M) d)∧-(D * (Y+(n:Rat) * M * bet D Y ((n:Rat) * M) d))≤x q
   generalize bet D Y ((n:Rat) * M) d=b at *
   generalize sumQ n (fun i=>if i=q then 0 else EL A q q i * x i)=sm at *
   generalize lin n A q x=l at *
   generalize EL A q q q=B at *
   have b1:B * x q≤Y+n * M * b:=by grind
   have b2:-(Y+n * M * b)≤B * x q:=by grind
   have hZ:0≤Y+n * M * b:=by grind
   generalize Y+n * M * b=Z at *
   have hDB:0<D * B:=by grind
   constructor
   ·rcases Rat.le_total (a:=x q) (b:=0) with c | c
    ·have:=Rat.mul_nonneg (show 0≤D by grind) hZ;grind
    ·have a1:=mul_le' (show 0≤D by grind) b1
     have a2:=Rat.mul_nonneg (show 0≤B * D - 1 by grind) c
     grind
   ·rcases Rat.le_total (a:=0) (b:=x q) with c | c
    ·have:=Rat.mul_nonneg (show 0≤D by grind) hZ;grind
    ·have a1:=mul_le' (show 0≤D by grind) b2
     have a2:=Rat.mul_nonneg (show 0≤B * D - 1 by grind) (show 0≤-(x q) by grind)
     grind
  ·have:=ih' q (by omega) h2
   have:=hm.2
   constructor <;> grind
end
end Go.Qf
namespace Go.Qf
theorem sumN_congr {n:Nat} {f g:Nat→Int} (h:∀ i,i<n→f i=g i):sumN n f=sumN n g:=by
 induction n with
 | zero=>rfl
 | succ n ih=>simp only [sumN];rw [ih (fun i hi=>h i (by omega)),h n (by omega)]
theorem sumN_add (n:Nat) (f g:Nat→Int):sumN n (fun i=>f i+g i)=sumN n f+sumN n g:=by
 induction n with
 | zero=>rfl
 | succ n ih=>simp only [sumN];rw [ih];omega
theorem sumN_mul (n:Nat) (c:Int) (f:Nat→Int):sumN n (fun i=>f i * c)=sumN n f * c:=by
 induction n with
 | zero=>simp [sumN]
 | succ n ih=>simp only [sumN];rw [ih,Int.add_mul]
theorem sumN_lmul (n:Nat) (c:Int) (f:Nat→Int):sumN n (fun i=>c * f i)=c * sumN n f:=by
 rw [sumN_congr (g:=fun i=>f i * c) (fun i _=>Int.mul_comm _ _),sumN_mul,Int.mul_comm]
theorem sumN_zero {n:Nat} {f:Nat→Int} (h:∀ i,i<n→f i=0):sumN n f=0:=by
 induction n with
 | zero=>rfl
 | succ n ih=>simp only [sumN];rw [ih (fun i hi=>h i (by omega)),h n (by omega)];rfl
theorem sumN_pick {n q:Nat} (hq:q<n) (a:Nat→Int) (c:Int):sumN n (fun k=>a k * (if k=q then c else 0))=a q * c:=by
 induction n with
 | zero=>omega
 | succ n ih =>
  simp only [sumN]
  by_cases e:q=n
  ·subst e
   rw [if_pos rfl,sumN_zero (fun k hk=>by rw [if_neg (by omega),Int.mul_zero])]
   omega
  ·rw [ih (by omega),if_neg (Ne.symm e),Int.mul_zero];omega
theorem sumN_swap (n m:Nat) (f:Nat→Nat→Int):sumN n (fun i=>sumN m (fun j=>f i j))=sumN m (fun j=>sumN n (fun i=>f i j)):=by
 induction n with
 | zero=>exact (sumN_zero (fun j _=>rfl)).symm
 | succ n ih=>simp only [sumN];rw [ih,sumN_add]
theorem mulF_assoc (n:Nat) (a b c:Nat→Nat→Int) (p q:Nat):mulF n (mulF n a b) c p q=mulF n a (mulF n b c) p q:=by
 unfold mulF
 rw [sumN_congr (g:=fun k=>sumN n (fun l=>a p l * b l k * c k q)) (fun k _=>(sumN_mul n (c k q) _).symm),sumN_swap]
 refine sumN_congr fun l _=>?_
 rw [← sumN_lmul]
 exact sumN_congr fun k _=>Int.mul_assoc _ _ _
theorem mulF_congr {n:Nat} {a a' b b':Nat→Nat→Int} {p q:Nat} (ha:∀ k,k<n→a p k=a' p k) (hb:∀ k,k<n→b k q=b' k q):mulF n a b p q=mulF n a' b' p q:=by
 unfold mulF
 exact sumN_congr fun k hk=>by rw [ha k hk,hb k hk]
theorem mulF_tr (n:Nat) (a b:Nat→Nat→Int) (p q:Nat):mulF n a b p q=mulF n (fun x y=>b y x) (fun x y=>a y x) q p:=by
 unfold mulF
 exact sumN_congr fun k _=>Int.mul_comm _ _
def conF (n:Nat) (f t:Nat→Nat→Int):Nat→Nat→Int:=mulF n (mulF n (fun a b=>t b a) f) t
theorem conF_mul (n:Nat) (f t u:Nat→Nat→Int) (p q:Nat):conF n f (mulF n t u) p q=conF n (conF n f t) u p q:=by
 unfold conF
 have h1:∀ k,mulF n (fun a b=>mulF n t u b a) f p k=mulF n (fun a b=>u b a) (mulF n (fun a b=>t b a) f) p k:=by
  intro k
  rw [← mulF_assoc]
  refine mulF_congr (fun l _=>?_) (fun l _=>rfl)
  exact mulF_tr n t u l p
 rw [mulF_congr (a':=mulF n (fun a b=>u b a) (mulF n (fun a b=>t b a) f)) (b':=mulF n t u) (fun k _=>h1 k) (fun k _=>rfl)]
 rw [← mulF_assoc]
 refine mulF_congr (fun k _=>?_) (fun k _=>rfl)
 exact mulF_assoc n _ _ _ p k
def redZ (c:Int) (i j:Nat) (f:Nat→Nat→Int):Nat→Nat→Int:=fun p q =>
 f p q+(if p=i then c * f j q else 0)+(if q=i then c * f p j else 0)+(if p=i∧q=i then c * c * f j j else 0)
def swZ (m:Nat) (f:Nat→Nat→Int):Nat→Nat→Int:=fun p q=>f (sw m p) (sw m q)
theorem RA_swZ (m:Nat) (f:Nat→Nat→Int):RA (swZ m f)=swp m (RA f):=rfl
theorem RA_redZ (c:Int) (i j:Nat) (f:Nat→Nat→Int):RA (redZ c i j f)=red (c:Rat) i j (RA f):=by
 funext p q
 unfold RA redZ red
 have z:((0:Int):Rat)=0:=rfl
 by_cases hp:p=i <;> by_cases hq:q=i <;> simp only [hp,hq,if_true,if_false,and_true,and_false,Rat.intCast_add,Rat.intCast_mul,z]
theorem conF_red {n i j:Nat} (hi:i<n) (hj:j<n) (hij:j≠i) (c:Int) (f:Nat→Nat→Int):mk n n (conF n f (upd2 idF j i c))=mk n n (redZ c i j f):=by
 have key:∀ (X:Nat→Int) (q:Nat),q<n→sumN n (fun k=>X k * upd2 idF j i c k q)=X q+(if q=i then X j * c else 0):=by
  intro X q hq
  have e:∀ k,X k * upd2 idF j i c k q=X k * (if k=q then 1 else 0)+X k * (if k=j then (if q=i then c else 0) else 0):=by
   intro k
   unfold upd2 idF
   by_cases h1:k=j∧q=i
   ·obtain ⟨rfl,rfl⟩:=h1
    rw [if_pos ⟨rfl,rfl⟩,if_neg hij,if_pos rfl,if_pos rfl];omega
   ·rw [if_neg h1]
    by_cases h2:k=j
    ·rw [if_pos h2,if_neg (fun h=>h1 ⟨h2,h⟩)];omega
    ·rw [if_neg h2];omega
  rw [sumN_congr (fun k _=>e k),sumN_add,sumN_pick hq,sumN_pick hj]
  by_cases h:q=i
  ·rw [if_pos h,if_pos h];omega
  ·rw [if_neg h,if_neg h];omega
 refine mk_congr fun p q hp hq=>?_
 unfold conF mulF
 rw [key _ q hq]
 have k2:∀ b,sumN n (fun k=>upd2 idF j i c k p * f k b)=f p b+(if p=i then f j b * c else 0):=by
  intro b
  rw [sumN_congr (g:=fun k=>f k b * upd2 idF j i c k p) (fun k _=>Int.mul_comm _ _)]
  exact key (fun k=>f k b) p hp
 dsimp only
 rw [k2,k2]
 unfold redZ
 by_cases h1:p=i <;> by_cases h2:q=i <;> simp only [h1,h2,if_true,if_false,and_true,and_false] <;> grind
theorem conF_sw {n m:Nat} (hm:m+1<n) (f:Nat→Nat→Int):mk n n (conF n f (swF (m+1) m idF))=mk n n (swZ m f):=by
 have hsw:∀ q,q<n→sw m q<n:=by intro q hq;unfold sw;split <;> (try split) <;> omega
 have key:∀ (X:Nat→Int) (q:Nat),q<n→sumN n (fun k=>X k * swF (m+1) m idF k q)=X (sw m q):=by
  intro X q hq
  have e:∀ k,X k * swF (m+1) m idF k q=X k * (if k=sw m q then 1 else 0):=by
   intro k
   congr 1
   unfold swF idF sw
   by_cases a1:k=m+1
   ·by_cases b1:q=m
    ·subst b1;rw [if_pos a1,if_pos rfl,if_pos rfl,if_pos a1]
    ·rw [if_pos a1,if_neg (fun h=>b1 h.symm)]
     by_cases b2:q=m+1
     ·rw [if_neg b1,if_pos b2,if_neg (by omega)]
     ·rw [if_neg b1,if_neg b2,if_neg (by omega)]
   ·rw [if_neg a1]
    by_cases a2:k=m
    ·rw [if_pos a2]
     by_cases b2:q=m+1
     ·have e2:(if q=m then m+1 else if q=m+1 then m else q)=m:=by rw [if_neg (by omega),if_pos b2]
      rw [if_pos b2.symm,e2,if_pos a2]
     ·rw [if_neg (fun h=>b2 h.symm)]
      by_cases b1:q=m
      ·rw [if_pos b1,if_neg (by omega)]
      ·rw [if_neg b1,if_neg b2,if_neg (by omega)]
    ·rw [if_neg a2]
     by_cases b1:q=m
     ·rw [if_pos b1,if_neg (by omega),if_neg a1]
     ·rw [if_neg b1]
      by_cases b2:q=m+1
      ·rw [if_pos b2,if_neg (by omega),if_neg a2]
      ·rw [if_neg b2]
  rw [sumN_congr (fun k _=>e k),sumN_pick (hsw q hq)]
  omega
 refine mk_congr fun p q hp hq=>?_
 unfold conF mulF
 rw [key _ q hq]
 dsimp only
 rw [sumN_congr (g:=fun k=>f k (sw m q) * swF (m+1) m idF k p) (fun k _=>Int.mul_comm _ _)]
 exact key (fun k=>f k (sw m q)) p hp
end Go.Qf
namespace Go.Qf
structure Lat (n:Nat) (f:Nat→Nat→Int) (Dm:Rat):Prop where
 sym:∀ p q,f p q=f q p
 pos:Pos n (RA f)
 dm:∀ k,k≤n→dd (RA f) k≤Dm
theorem Lat.symA {n:Nat} {f:Nat→Nat→Int} {Dm:Rat} (h:Lat n f Dm):Sym (RA f):=fun p q=>by unfold RA;rw [h.sym p q]
theorem dd_int {n:Nat} {f:Nat→Nat→Int} (h:Pos n (RA f)) {k:Nat} (hk:k≤n):∃ z:Int,dd (RA f) k=z∧1≤z:=by
 have hp:=h k hk
 have hz:IsI (dd (RA f) k):=by
  cases k with
  | zero=>exact ⟨1,rfl⟩
  | succ k =>
   rw [← BB_diag]
   exact BB_int (RA_int f) k k k (by have:=h k (by omega);grind)
 obtain ⟨z,hz⟩:=hz
 refine ⟨z,hz,?_⟩
 rw [hz] at hp
 have:(0:Int)<z:=by exact_mod_cast hp
 omega
theorem dd_one {n:Nat} {f:Nat→Nat→Int} (h:Pos n (RA f)) {k:Nat} (hk:k≤n):1≤dd (RA f) k:=by
 obtain ⟨z,e,hz⟩:=dd_int h hk
 rw [e]
 exact_mod_cast hz
section
variable {n:Nat} {f:Nat→Nat→Int} {Dm:Rat}
theorem Lat.piv_le (h:Lat n f Dm) {k:Nat} (hk:k<n):EL (RA f) k k k≤Dm:=by
 have h1:=h.dm (k+1) (by omega)
 rw [dd_succ] at h1
 have h2:=dd_one h.pos (show k≤n by omega)
 have h3:=piv_pos h.pos hk
 have:=Rat.mul_nonneg (show 0≤dd (RA f) k - 1 by grind) (Rat.le_of_lt h3)
 grind
theorem Lat.piv_ge (h:Lat n f Dm) {k:Nat} (hk:k<n):1≤EL (RA f) k k k * Dm:=by
 have h1:=dd_one h.pos (show k+1≤n by omega)
 rw [dd_succ] at h1
 have h2:=h.dm k (by omega)
 have h3:=piv_pos h.pos hk
 have:=Rat.mul_nonneg (show 0≤Dm - dd (RA f) k by grind) (Rat.le_of_lt h3)
 grind
theorem szP_EL {A:Nat→Vec} {i j:Nat} (h:0<dd A j):SzP A i j↔2 * EL A j i j≤EL A j j j∧-(2 * EL A j i j)≤EL A j j j:=by
 unfold SzP BB
 rw [dd_succ]
 constructor
 ·rintro ⟨h1,h2⟩
  exact ⟨le_of_mul h (by grind),le_of_mul h (by grind)⟩
 ·rintro ⟨h1,h2⟩
  have a1:=mul_le' (Rat.le_of_lt h) h1
  have a2:=mul_le' (Rat.le_of_lt h) h2
  constructor <;> grind
theorem muA_EL {A:Nat→Vec} {i j:Nat} (h:0<dd A j) (hp:0<EL A j j j):muA A i j * EL A j j j=EL A j i j:=by
 unfold muA BB
 rw [dd_succ,Rat.div_def]
 have hd:0<dd A j * EL A j j j:=Rat.mul_pos h hp
 have:=Rat.mul_inv_cancel _ (show dd A j * EL A j j j≠0 by grind)
 generalize (dd A j * EL A j j j)⁻¹=v at *
 have e:dd A j * (dd A j * EL A j i j * v * EL A j j j)=dd A j * EL A j i j:=by grind
 have h0:dd A j≠0:=by grind
 have h5:=Rat.mul_inv_cancel _ h0
 have:(dd A j)⁻¹ * (dd A j * (dd A j * EL A j i j * v * EL A j j j))=(dd A j)⁻¹ * (dd A j * EL A j i j):=by rw [e]
 generalize (dd A j)⁻¹=u at *
 grind
theorem Lat.row_le (h:Lat n f Dm) {i:Nat} (hi:i<n) (hs:∀ k,k<i→SzP (RA f) i k):RA f i i≤((i+1:Nat):Rat) * Dm:=by
 have:=sized_diag h.symA h.pos hi (D:=Dm) (fun k hk=>h.piv_le hk) (fun k hk=>(szP_EL (h.pos k (by omega))).1 (hs k hk)) i 0 (by omega)
 exact this
theorem floor_half (μ:Rat):((μ+Rat.divInt 1 2).floor:Rat)≤μ+1 / 2∧μ+1 / 2<((μ+Rat.divInt 1 2).floor:Rat)+1:=by
 have e:Rat.divInt 1 2=1 / 2:=by rw [Rat.divInt_eq_div];rfl
 rw [e]
 refine ⟨Rat.floor_le _,?_⟩
 have:=Rat.lt_floor_add_one (μ+1 / 2)
 rw [Rat.intCast_add] at this
 exact this
theorem cR_cast (A:Nat→Vec) (i j:Nat):(cR A i j:Rat)=-((muA A i j+Rat.divInt 1 2).floor:Rat):=by
 unfold cR
 rw [Rat.intCast_neg]
theorem Lat.red (h:Lat n f Dm) {i j:Nat} (hj:j<i) (hi:i<n) (c:Int):Lat n (redZ c i j f) Dm:=by
 have hne:EL (RA f) j j j≠0:=by have:=piv_pos h.pos (show j<n by omega);grind
 refine ⟨?_,?_,?_⟩
 ·intro p q
  have:=red_sym (c:=(c:Rat)) (i:=i) (j:=j) h.symA p q
  rw [← RA_redZ] at this
  unfold RA at this
  exact_mod_cast this
 ·rw [RA_redZ]
  intro m hm
  rw [red_dd hj _ hne]
  exact h.pos m hm
 ·rw [RA_redZ]
  intro m hm
  rw [red_dd hj _ hne]
  exact h.dm m hm
theorem Lat.red_sz (h:Lat n f Dm) {i j:Nat} (hj:j<i) (hi:i<n) (c:Int) {p q:Nat} (hq:q<p) (hpq:p≠i∨j<q):SzP (RA (redZ c i j f)) p q↔SzP (RA f) p q:=by
 have hne:EL (RA f) j j j≠0:=by have:=piv_pos h.pos (show j<n by omega);grind
 unfold SzP
 rw [RA_redZ,red_lam hj _ hne hq hpq,red_dd hj _ hne]
theorem Lat.red_lv (h:Lat n f Dm) {i j:Nat} (hj:j<i) (hi:i<n) (c:Int) {x:Nat} (hx:x<i) (hx0:0<x):LvP (RA (redZ c i j f)) x↔LvP (RA f) x:=by
 have hne:EL (RA f) j j j≠0:=by have:=piv_pos h.pos (show j<n by omega);grind
 unfold LvP
 rw [RA_redZ,red_lam hj _ hne (by omega) (.inl (by omega)),red_dd hj _ hne,red_dd hj _ hne,red_dd hj _ hne]
theorem Lat.red_at (h:Lat n f Dm) {i j:Nat} (hj:j<i) (hi:i<n):SzP (RA (redZ (cR (RA f) i j) i j f)) i j:=by
 have hp:=piv_pos h.pos (show j<n by omega)
 have hne:EL (RA f) j j j≠0:=by grind
 have hd:=h.pos j (by omega)
 unfold SzP
 rw [RA_redZ,red_lam_at hj _ hne,red_dd hj _ hne,cR_cast]
 have hm:=muA_EL (i:=i) hd hp
 have hfl:=floor_half (muA (RA f) i j)
 unfold BB
 rw [dd_succ,← hm]
 generalize ((muA (RA f) i j+Rat.divInt 1 2).floor:Rat)=z at *
 generalize muA (RA f) i j=μ at *
 generalize EL (RA f) j j j=B at *
 generalize dd (RA f) j=d at *
 have hdB:=Rat.mul_pos hd hp
 have a1:=Rat.mul_nonneg (Rat.le_of_lt hdB) (show 0≤μ+1 / 2 - z by grind)
 have a2:=Rat.mul_nonneg (Rat.le_of_lt hdB) (show 0≤z+1 - (μ+1 / 2) by grind)
 constructor <;> grind
theorem Lat.c_sq (h:Lat n f Dm) {i j:Nat} (hj:j<i) (hi:i<n) (hns:¬ SzP (RA f) i j):(cR (RA f) i j:Rat) * (cR (RA f) i j:Rat)≤4 * (RA f i i * Dm):=by
 have hp:=piv_pos h.pos (show j<n by omega)
 have hd:=h.pos j (by omega)
 have hm:=muA_EL (i:=i) hd hp
 have hfl:=floor_half (muA (RA f) i j)
 have hmu:=mu_le h.symA h.pos hi hj
 have hge:=h.piv_ge (show j<n by omega)
 have hii:=diag_pos h.symA h.pos hi (Nat.zero_le i)
 have hii':0<RA f i i:=hii
 rw [szP_EL hd,← hm] at hns
 rw [← hm] at hmu
 rw [cR_cast]
 generalize ((muA (RA f) i j+Rat.divInt 1 2).floor:Rat)=z at *
 generalize muA (RA f) i j=μ at *
 generalize EL (RA f) j j j=B at *
 generalize RA f i i=X at *
 have hz:z * z≤4 * (μ * μ):=by
  rcases Rat.le_total (a:=0) (b:=μ) with c | c
  ·have hμ:1 / 2<μ:=by
    rcases Rat.le_total (a:=μ) (b:=1 / 2) with c2 | c2
    ·exfalso
     apply hns
     have a1:=Rat.mul_nonneg (show 0≤1 / 2 - μ by grind) (Rat.le_of_lt hp)
     have a2:=Rat.mul_nonneg c (Rat.le_of_lt hp)
     constructor <;> grind
    ·by_cases e:μ=1 / 2
     ·exfalso
      apply hns
      subst e
      constructor <;> grind
     ·grind
   have a1:=Rat.mul_nonneg (show 0≤2 * μ - z by grind) (show 0≤2 * μ+z by grind)
   grind
  ·have hμ:μ < -(1 / 2):=by
    rcases Rat.le_total (a:=-(1 / 2)) (b:=μ) with c2 | c2
    ·exfalso
     apply hns
     have a1:=Rat.mul_nonneg (show 0≤1 / 2+μ by grind) (Rat.le_of_lt hp)
     have a2:=Rat.mul_nonneg (show 0≤-μ by grind) (Rat.le_of_lt hp)
     constructor <;> grind
    ·by_cases e:μ=-(1 / 2)
     ·exfalso
      apply hns
      subst e
      constructor <;> grind
     ·grind
   have a1:=Rat.mul_nonneg (show 0≤z - 2 * μ by grind) (show 0≤-z - 2 * μ by grind)
   grind
 have hμ2:μ * μ≤X * Dm:=by
  have hDm:0<Dm:=pos_of_mul hp (by grind)
  have b1:B * (B * (μ * μ))≤B * X:=by grind
  have b2:=le_of_mul hp b1
  have b3:=mul_le' (Rat.le_of_lt hDm) b2
  have b4:=Rat.mul_nonneg (show 0≤B * Dm - 1 by grind) (sq_nonneg' μ)
  grind
 grind
theorem Lat.red_ii (h:Lat n f Dm) {i j:Nat} (hj:j<i) (hi:i<n) (hns:¬ SzP (RA f) i j) {C:Rat} (hC:RA f j j≤C) (hC0:0≤C):RA (redZ (cR (RA f) i j) i j f) i i≤(2+8 * Dm * C) * RA f i i:=by
 have hp:=piv_pos h.pos (show j<n by omega)
 have hd:=h.pos j (by omega)
 have hm:=muA_EL (i:=i) hd hp
 have hfl:=floor_half (muA (RA f) i j)
 have hmu:=mu_le h.symA h.pos hi hj
 have hge:=h.piv_ge (show j<n by omega)
 have hii:=diag_pos h.symA h.pos hi (Nat.zero_le i)
 have hii':0<RA f i i:=hii
 have hjj:0<RA f j j:=diag_pos h.symA h.pos (show j<n by omega) (Nat.zero_le j)
 have hcomb:=comb_pos h.symA h.pos hi hj (-(cR (RA f) i j:Rat))
 rw [RA_redZ,Go.Qf.red_ii,h.symA j i]
 rw [szP_EL hd,← hm] at hns
 rw [← hm] at hmu
 rw [cR_cast] at hcomb ⊢
 generalize ((muA (RA f) i j+Rat.divInt 1 2).floor:Rat)=z at *
 generalize muA (RA f) i j=μ at *
 generalize EL (RA f) j j j=B at *
 generalize RA f i i=X at *
 generalize RA f j j=Y at *
 generalize RA f i j=O at *
 have hz:z * z≤4 * (μ * μ):=by
  rcases Rat.le_total (a:=0) (b:=μ) with c | c
  ·have hμ:1 / 2<μ:=by
    rcases Rat.le_total (a:=μ) (b:=1 / 2) with c2 | c2
    ·exfalso
     apply hns
     have a1:=Rat.mul_nonneg (show 0≤1 / 2 - μ by grind) (Rat.le_of_lt hp)
     have a2:=Rat.mul_nonneg c (Rat.le_of_lt hp)
     constructor <;> grind
    ·by_cases e:μ=1 / 2
     ·exfalso
      apply hns
      subst e
      constructor <;> grind
     ·grind
   have a1:=Rat.mul_nonneg (show 0≤2 * μ - z by grind) (show 0≤2 * μ+z by grind)
   grind
  ·have hμ:μ < -(1 / 2):=by
    rcases Rat.le_total (a:=-(1 / 2)) (b:=μ) with c2 | c2
    ·exfalso
     apply hns
     have a1:=Rat.mul_nonneg (show 0≤1 / 2+μ by grind) (Rat.le_of_lt hp)
     have a2:=Rat.mul_nonneg (show 0≤-μ by grind) (Rat.le_of_lt hp)
     constructor <;> grind
    ·by_cases e:μ=-(1 / 2)
     ·exfalso
      apply hns
      subst e
      constructor <;> grind
     ·grind
   have a1:=Rat.mul_nonneg (show 0≤z - 2 * μ by grind) (show 0≤-z - 2 * μ by grind)
   grind
 have hμ2:μ * μ≤X * Dm:=by
  have hDm:0<Dm:=pos_of_mul hp (by grind)
  have b1:B * (B * (μ * μ))≤B * X:=by grind
  have b2:=le_of_mul hp b1
  have b3:=mul_le' (Rat.le_of_lt hDm) b2
  have b4:=Rat.mul_nonneg (show 0≤B * Dm - 1 by grind) (sq_nonneg' μ)
  grind
 have c1:=mul_le' (Rat.le_of_lt hjj) hz
 have c2:=mul_le' (Rat.le_of_lt hjj) hμ2
 have hDm:0<Dm:=pos_of_mul hp (by grind)
 have c3:=mul_le' (Rat.le_of_lt (Rat.mul_pos hii' hDm)) hC
 grind
theorem Lat.sw_less (h:Lat n f Dm) {m:Nat} (hm:m+1<n) (hlv:¬ LvP (RA f) (m+1)):EL (RA f) m (m+1) (m+1)<EL (RA f) m m m:=by
 have ha:=piv_pos h.pos (show m<n by omega)
 have hd:=h.pos m (by omega)
 have he:=EL_diag h.symA m (m+1)
 have hv:=Rat.mul_inv_cancel _ (show EL (RA f) m m m≠0 by grind)
 unfold LvP BB at hlv
 rw [show m+1 - 1=m by omega,dd_succ (RA f) (m+1),dd_succ (RA f) m,he] at hlv
 generalize (EL (RA f) m m m)⁻¹=v at *
 generalize EL (RA f) m m m=a at *
 generalize EL (RA f) m (m+1) (m+1)=c at *
 generalize EL (RA f) m (m+1) m=b at *
 generalize dd (RA f) m=d at *
 have e1:4 * (d * (d * a * (c - b * b * v))+d * b * (d * b))=4 * (d * d * a * c):=by grind
 rw [e1] at hlv
 have hdd:=Rat.mul_pos (Rat.mul_pos hd hd) ha
 rcases Rat.le_total (a:=a) (b:=c) with h1 | h1
 ·exfalso
  apply hlv
  have:=Rat.mul_nonneg (Rat.le_of_lt hdd) (show 0≤c - a by grind)
  have:=Rat.mul_nonneg (Rat.le_of_lt hdd) (Rat.le_of_lt ha)
  grind
 ·by_cases e:a=c
  ·exfalso
   apply hlv
   subst e
   have:=Rat.mul_nonneg (Rat.le_of_lt hdd) (Rat.le_of_lt ha)
   grind
  ·grind
theorem Lat.sw_dd (h:Lat n f Dm) {m:Nat} (hm:m+1<n) {k:Nat} (hk:k≠m+1):dd (RA (swZ m f)) k=dd (RA f) k:=by
 rw [RA_swZ]
 by_cases h1:k≤m
 ·exact swp_dd_low m _ k h1
 ·have ha:=piv_pos h.pos (show m<n by omega)
  have hc:=diag_pos h.symA h.pos hm (show m≤m+1 by omega)
  have hP:=piv_pos h.pos hm
  exact swp_dd_two m _ (by grind) (by grind) (by grind) k (by omega)
theorem Lat.sw_at (h:Lat n f Dm) {m:Nat} (hm:m+1<n) (hlv:¬ LvP (RA f) (m+1)):0<dd (RA (swZ m f)) (m+1)∧dd (RA (swZ m f)) (m+1)<dd (RA f) (m+1):=by
 rw [RA_swZ,swp_dd_at,dd_succ (RA f) m]
 have hc:=diag_pos h.symA h.pos hm (show m≤m+1 by omega)
 have hd:=h.pos m (by omega)
 exact ⟨Rat.mul_pos hd hc,mul_lt' hd (h.sw_less hm hlv)⟩
theorem Lat.sw (h:Lat n f Dm) {m:Nat} (hm:m+1<n) (hlv:¬ LvP (RA f) (m+1)):Lat n (swZ m f) Dm:=by
 refine ⟨fun p q=>h.sym _ _,?_,?_⟩
 ·intro k hk
  by_cases e:k=m+1
  ·subst e;exact (h.sw_at hm hlv).1
  ·rw [h.sw_dd hm e];exact h.pos k hk
 ·intro k hk
  by_cases e:k=m+1
  ·subst e;have a1:=(h.sw_at hm hlv).2;have a2:=h.dm _ hk;grind
  ·rw [h.sw_dd hm e];exact h.dm k hk
end
end Go.Qf
namespace Go.Qf
theorem mk_inj {n:Nat} {a b:Nat→Nat→Int} (h:mk n n a=mk n n b) {p q:Nat} (hp:p<n) (hq:q<n):a p q=b p q:=by
 have h1:(mk n n a)[p]?=(mk n n b)[p]?:=by rw [h]
 rw [mk_get hp,mk_get hp] at h1
 have h2:((List.range n).map (a p))[q]?=((List.range n).map (b p))[q]?:=by simp only [Option.some.injEq] at h1;rw [h1]
 rw [row_get hq,row_get hq] at h2
 simpa using h2
theorem sumN_cast (n:Nat) (g:Nat→Int):((sumN n g:Int):Rat)=sumQ n (fun i=>(g i:Rat)):=by
 induction n with
 | zero=>rfl
 | succ n ih=>simp only [sumN,sumQ];rw [Rat.intCast_add,ih]
theorem conF_congr {n:Nat} {f f' g:Nat→Nat→Int} (h:∀ p q,p<n→q<n→f p q=f' p q) {p q:Nat}:conF n f g p q=conF n f' g p q:=by
 unfold conF
 exact mulF_congr (fun k hk=>mulF_congr (fun l _=>rfl) (fun l hl=>h l k hl hk)) (fun k _=>rfl)
theorem conF_diag (n:Nat) {f:Nat→Nat→Int} (t:Nat→Nat→Int) (hf:∀ p q,f p q=f q p) (p:Nat):((conF n f t p p:Int):Rat)=QF n (RA f) 0 (fun q=>(t q p:Rat)):=by
 unfold conF mulF QF
 rw [sumN_cast]
 refine sumQ_congr fun k _=>?_
 rw [Rat.intCast_mul,sumN_cast]
 congr 1
 refine sumQ_congr fun l _=>?_
 rw [Rat.intCast_mul]
 show _=RA f k l * _
 unfold RA
 rw [hf k l,Rat.mul_comm]
theorem sumN_lt {N:Nat} {a b:Nat→Int} (h:∀ k,k<N→a k≤b k) {m:Nat} (hm:m<N) (hlt:a m<b m):sumN N a<sumN N b:=by
 induction N with
 | zero=>omega
 | succ N ih =>
  simp only [sumN]
  have hN:=h N (by omega)
  by_cases e:m=N
  ·subst e
   have:sumN m a≤sumN m b:=by
    clear ih hm hlt hN
    induction m with
    | zero=>exact Int.le_refl _
    | succ m ih=>simp only [sumN];have:=h m (by omega);have:=ih (fun k hk=>h k (by omega));omega
   omega
  ·have:=ih (fun k hk=>h k (by omega)) (by omega)
   omega
theorem sumN_nonneg {N:Nat} {a:Nat→Int} (h:∀ k,k<N→0≤a k):0≤sumN N a:=by
 induction N with
 | zero=>exact Int.le_refl _
 | succ N ih=>simp only [sumN];have:=h N (by omega);have:=ih (fun k hk=>h k (by omega));omega
def pw (F:Rat):Nat→Rat
 | 0=>1
 | m+1=>F * pw F m
theorem pw_one {F:Rat} (hF:1≤F):∀ m,1≤pw F m:=by
 intro m
 induction m with
 | zero=>exact Rat.le_refl
 | succ m ih =>
  show 1≤F * pw F m
  have:=Rat.mul_nonneg (show 0≤F - 1 by grind) (show 0≤pw F m by grind)
  grind
theorem pw_mono {F:Rat} (hF:1≤F) {a b:Nat} (h:a≤b):pw F a≤pw F b:=by
 obtain ⟨d,rfl⟩:∃ d,b=a+d:=⟨b - a,by omega⟩
 clear h
 induction d with
 | zero=>exact Rat.le_refl
 | succ d ih =>
  show _≤F * pw F (a+d)
  have:=pw_one hF (a+d)
  have:=Rat.mul_nonneg (show 0≤F - 1 by grind) (show 0≤pw F (a+d) by grind)
  grind
structure LSt (n:Nat) (f0:Nat→Nat→Int) (Dm K F:Rat) (f T:Nat→Nat→Int) (i j:Nat):Prop where
 lat:Lat n f Dm
 con:∀ p q,p<n→q<n→f p q=conF n f0 T p q
 cl:Clean (RA f) i
 szd:∀ y,j≤y→y<i→SzP (RA f) i y
 ji:j≤i
 hi:i<n
 oth:∀ p,p<n→p≠i→RA f p p≤K
 own:RA f i i≤K * pw F (i - j)
 det:dd (RA f) n=dd (RA f0) n
theorem Lat.dm1 {n:Nat} {f:Nat→Nat→Int} {Dm:Rat} (h:Lat n f Dm):1≤Dm:=by
 have:=h.dm 0 (Nat.zero_le _)
 exact this
theorem Lat.row_n {n:Nat} {f:Nat→Nat→Int} {Dm:Rat} (h:Lat n f Dm) {i:Nat} (hi:i<n) (hs:∀ k,k<i→SzP (RA f) i k):RA f i i≤(n:Rat) * Dm:=by
 have h1:=h.row_le hi hs
 have h2:((i+1:Nat):Rat)≤(n:Rat):=by exact_mod_cast hi
 have h3:=h.dm1
 have:=Rat.mul_nonneg (show 0≤(n:Rat) - ((i+1:Nat):Rat) by grind) (show 0≤Dm by grind)
 grind
theorem Lat.n_dm {n:Nat} {f:Nat→Nat→Int} {Dm:Rat} (h:Lat n f Dm) (hn:0<n):1≤(n:Rat) * Dm:=by
 have h2:(1:Rat)≤(n:Rat):=by exact_mod_cast hn
 have h3:=h.dm1
 have:=Rat.mul_nonneg (show 0≤(n:Rat) - 1 by grind) (show 0≤Dm by grind)
 grind
section
variable {n:Nat} {f0:Nat→Nat→Int} {Dm K F:Rat} {f T:Nat→Nat→Int} {i j:Nat}
theorem LSt.red (h:LSt n f0 Dm K F f T i j) (hK:(n:Rat) * Dm≤K) (hF:2+8 * Dm * ((n:Rat) * Dm)≤F) {g:Nat→Nat→Int} {i' j':Nat} (hs:StepR n f g i' j') :
  LSt n f0 Dm K F (redZ (cR (RA f) i' j') i' j' f) (mulF n T g) i' j'∧Go.Qf.mk n n (conF n f g)=Go.Qf.mk n n (redZ (cR (RA f) i' j') i' j' f)∧((i'=i∧j'<j)∨i<i'):=by
 obtain ⟨hji,hin,hcl,hsy,hns,rfl⟩:=hs
 have hL:=h.lat
 have hd1:=hL.dm1
 have hnd:=hL.n_dm (show 0<n by omega)
 have hF1:1≤F:=by
  have:=Rat.mul_nonneg (show 0≤Dm by grind) (show 0≤(n:Rat) * Dm by grind)
  grind
 have hle:i≤i':=by
  rcases Nat.lt_or_ge i' i with hlt | hge
  ·exact absurd (h.cl.1 i' j' hlt hji) hns
  ·exact hge
 have hdec:(i'=i∧j'<j)∨i<i':=by
  rcases Nat.lt_or_ge i i' with hlt | hge
  ·exact .inr hlt
  ·have e:i'=i:=by omega
   refine .inl ⟨e,?_⟩
   rcases Nat.lt_or_ge j' j with h1 | h1
   ·exact h1
   ·subst e;exact absurd (h.szd j' h1 hji) hns
 have hj':=hL.row_n (show j'<n by omega) (fun k hk=>hcl.1 j' k hji hk)
 have hbd:RA f i' i'≤K * pw F (i' - j' - 1):=by
  rcases hdec with ⟨e,hlt⟩ | hlt
  ·subst e
   have h1:=h.own
   have h2:=pw_mono hF1 (show i' - j≤i' - j' - 1 by omega)
   have:=mul_le' (show 0≤K by grind) h2
   grind
  ·have h1:=h.oth i' hin (by omega)
   have h2:=pw_one hF1 (i' - j' - 1)
   have:=mul_le' (show 0≤K by grind) h2
   grind
 have hcon:=conF_red hin (show j'<n by omega) (show j'≠i' by omega) (cR (RA f) i' j') f
 refine ⟨⟨hL.red hji hin _,?_,?_,?_,by omega,hin,?_,?_,?_⟩,hcon,hdec⟩
 ·intro p q hp hq
  rw [conF_mul,← conF_congr h.con,mk_inj hcon hp hq]
 ·refine ⟨fun x y hx hy=>(hL.red_sz hji hin _ hy (.inl (by omega))).2 (hcl.1 x y hx hy),fun x h0 hx=>(hL.red_lv hji hin _ hx h0).2 (hcl.2 x h0 hx)⟩
 ·intro y hy1 hy2
  by_cases e:y=j'
  ·subst e;exact hL.red_at hji hin
  ·exact (hL.red_sz hji hin _ hy2 (.inr (by omega))).2 (hsy y (by omega) hy2)
 ·intro p hp hpi
  rw [RA_redZ,red_pq hpi hpi]
  by_cases e:p=i
  ·subst e
   have:=hL.row_n hp (fun k hk=>hcl.1 p k (by omega) hk)
   grind
  ·exact h.oth p hp e
 ·have h1:=hL.red_ii hji hin hns hj' (by grind)
  have e:i' - j'=(i' - j' - 1)+1:=by omega
  rw [e]
  show _≤K * (F * pw F (i' - j' - 1))
  have hii:0<RA f i' i':=diag_pos hL.symA hL.pos hin (Nat.zero_le i')
  have h2:=Rat.mul_nonneg (show 0≤F - (2+8 * Dm * ((n:Rat) * Dm)) by grind) (Rat.le_of_lt hii)
  have h3:=mul_le' (show 0≤F by grind) hbd
  grind
 ·rw [RA_redZ,red_dd hji _ (by have:=piv_pos hL.pos (show j'<n by omega);grind)]
  exact h.det
def dsum (n:Nat) (f:Nat→Nat→Int):Nat:=(sumN (n+1) (fun k=>(dd (RA f) k).num)).toNat
theorem LSt.all (h:LSt n f0 Dm K F f T i j) (hK:(n:Rat) * Dm≤K) (hrow:∀ y,y<i→SzP (RA f) i y):∀ p,p<n→RA f p p≤K:=by
 intro p hp
 by_cases e:p=i
 ·subst e
  have:=h.lat.row_n hp hrow
  grind
 ·exact h.oth p hp e
theorem LSt.sw (h:LSt n f0 Dm K F f T i j) (hK:(n:Rat) * Dm≤K) {g:Nat→Nat→Int} {i':Nat} (hs:StepS n f g i') :
  LSt n f0 Dm K F (swZ (i' - 1) f) (mulF n T g) 0 0∧Go.Qf.mk n n (conF n f g)=Go.Qf.mk n n (swZ (i' - 1) f)∧dsum n (swZ (i' - 1) f)<dsum n f:=by
 obtain ⟨hi0,hin,hcl,hrow,hnl,rfl⟩:=hs
 obtain ⟨m,rfl⟩:∃ m,i'=m+1:=⟨i' - 1,by omega⟩
 rw [show m+1 - 1=m by omega]
 have hL:=h.lat
 have hall:=h.all hK (by
  rcases Nat.lt_trichotomy (m+1) i with hlt | e | hgt
  ·exact absurd (h.cl.2 (m+1) hi0 hlt) hnl
  ·subst e;exact hrow
  ·exact fun y hy=>hcl.1 i y hgt hy)
 have hcon:=conF_sw hin f
 have hL2:=hL.sw hin hnl
 have hswl:∀ q,q<n→Go.Qf.sw m q<n:=by intro q hq;unfold Go.Qf.sw;split <;> (try split) <;> omega
 refine ⟨⟨hL2,?_,⟨fun x y hx=>by omega,fun x h0 hx=>by omega⟩,fun y h1 h2=>by omega,Nat.le_refl _,by omega,?_,?_,by rw [hL.sw_dd hin (show n≠m+1 by omega)];exact h.det⟩,hcon,?_⟩
 ·intro p q hp hq
  rw [conF_mul,← conF_congr h.con,mk_inj hcon hp hq]
 ·intro p hp _
  exact hall _ (hswl p hp)
 ·show RA f (Go.Qf.sw m 0) (Go.Qf.sw m 0)≤K * 1
  have:=hall _ (hswl 0 (by omega))
  grind
 ·have hz:∀ k,k<n+1→∃ z1 z2:Int,dd (RA (swZ m f)) k=z1∧dd (RA f) k=z2∧1≤z1∧z1≤z2∧(k=m+1→z1<z2):=by
   intro k hk
   obtain ⟨z1,e1,h1⟩:=dd_int hL2.pos (show k≤n by omega)
   obtain ⟨z2,e2,h2⟩:=dd_int hL.pos (show k≤n by omega)
   refine ⟨z1,z2,e1,e2,h1,?_⟩
   by_cases e:k=m+1
   ·subst e
    have h3:=(hL.sw_at hin hnl).2
    rw [e1,e2] at h3
    have h4:z1<z2:=by exact_mod_cast h3
    exact ⟨by omega,fun _=>h4⟩
   ·have h3:=hL.sw_dd hin e
    rw [e1,e2] at h3
    have h4:z1=z2:=by exact_mod_cast h3
    exact ⟨by omega,fun h=>absurd h e⟩
  have hlt:sumN (n+1) (fun k=>(dd (RA (swZ m f)) k).num)<sumN (n+1) (fun k=>(dd (RA f) k).num):=by
   refine sumN_lt (m:=m+1) (fun k hk=>?_) (by omega) ?_
   ·obtain ⟨z1,z2,e1,e2,h1,h2,_⟩:=hz k hk
    rw [e1,e2]
    exact h2
   ·obtain ⟨z1,z2,e1,e2,h1,h2,h3⟩:=hz (m+1) (by omega)
    rw [e1,e2]
    exact h3 rfl
  have h0:0≤sumN (n+1) (fun k=>(dd (RA (swZ m f)) k).num):=by
   refine sumN_nonneg fun k hk=>?_
   obtain ⟨z1,z2,e1,e2,h1,h2,h3⟩:=hz k hk
   rw [e1]
   show 0≤z1
   omega
  unfold dsum
  omega
def lmu (n:Nat) (f:Nat→Nat→Int) (i j:Nat):Nat:=dsum n f * ((n+1) * (n+1))+((n - i) * (n+1)+j)
theorem lmu_pos {n i j i' j':Nat} (hj:j≤n) (hj':j'≤n) (hi':i'<n) (h:(i'=i∧j'<j)∨i<i'):(n - i') * (n+1)+j'<(n - i) * (n+1)+j:=by
 rcases h with ⟨rfl,h⟩ | h
 ·omega
 ·have:(n - i'+1) * (n+1)≤(n - i) * (n+1):=Nat.mul_le_mul_right _ (by omega)
  rw [Nat.add_mul] at this
  omega
theorem lmu_lt {n i j i' j':Nat} {a b:Nat} (hj':j'≤n) (h:a<b):a * ((n+1) * (n+1))+((n - i') * (n+1)+j')<b * ((n+1) * (n+1))+((n - i) * (n+1)+j):=by
 have h1:(a+1) * ((n+1) * (n+1))≤b * ((n+1) * (n+1)):=Nat.mul_le_mul_right _ h
 rw [Nat.add_mul,Nat.one_mul] at h1
 have h2:(n - i') * (n+1)≤n * (n+1):=Nat.mul_le_mul_right _ (by omega)
 have h3:(n+1) * (n+1)=n * (n+1)+(n+1):=by rw [Nat.add_mul,Nat.one_mul]
 omega
theorem dsum_red (h:Lat n f Dm) {i j:Nat} (hj:j<i) (hi:i<n) (c:Int):dsum n (redZ c i j f)=dsum n f:=by
 have hne:EL (RA f) j j j≠0:=by have:=piv_pos h.pos (show j<n by omega);grind
 unfold dsum
 rw [RA_redZ]
 simp only [red_dd hj _ hne]
theorem conF_id {n:Nat} (f:Nat→Nat→Int) {p q:Nat} (hp:p<n) (hq:q<n):conF n f idF p q=f p q:=by
 have h1:∀ k,k<n→mulF n (fun a b=>idF b a) f p k=f p k:=by
  intro k _
  unfold mulF idF
  rw [sumN_congr (g:=fun l=>f l k * (if l=p then 1 else 0)) (fun l _=>Int.mul_comm _ _),sumN_pick hp]
  omega
 unfold conF
 rw [mulF_congr (a':=f) (b':=idF) h1 (fun _ _=>rfl)]
 unfold mulF idF
 rw [sumN_pick hq]
 omega
theorem LSt.init (h:Lat n f Dm) (hn:0<n) (hM:∀ q,q<n→RA f q q≤K):LSt n f Dm K F f idF 0 0 :=
 ⟨h,fun p q hp hq=>(conF_id f hp hq).symm,⟨fun x y hx=>by omega,fun x h0 hx=>by omega⟩,fun y h1 h2=>by omega,Nat.le_refl _,hn,fun p hp _=>hM p hp,by have:=hM 0 hn;show _≤K * 1;grind,rfl⟩
theorem LSt.ent_le (h:LSt n f0 Dm K F f T i j) (hK1:1≤K) (hF1:1≤F) {p q:Nat} (hp:p<n) (hq:q<n):RA f p q≤K * pw F n∧-(K * pw F n)≤RA f p q:=by
 have hL:=h.lat
 have hd:∀ p,p<n→RA f p p≤K * pw F n:=by
  intro p hp
  by_cases e:p=i
  ·subst e
   have h1:=h.own
   have h2:=mul_le' (show 0≤K by grind) (pw_mono hF1 (show p - j≤n by omega))
   grind
  ·have h1:=h.oth p hp e
   have h2:=mul_le' (show 0≤K by grind) (pw_one hF1 n)
   grind
 rcases Nat.lt_trichotomy p q with hlt | e | hgt
 ·rw [hL.symA p q]
  exact off_le hL.symA hL.pos hq hlt (hd q hq) (hd p hp)
 ·subst e
  have h1:0<RA f p p:=diag_pos hL.symA hL.pos hp (Nat.zero_le p)
  have h2:=hd p hp
  exact ⟨h2,by grind⟩
 ·exact off_le hL.symA hL.pos hp hgt (hd p hp) (hd q hq)
theorem LSt.T_le (h:LSt n f0 Dm K F f T i j) (h0:Lat n f0 Dm) (hK1:1≤K) (hF1:1≤F) {M:Rat} (hM:∀ q,q<n→RA f0 q q≤M) (hM1:1≤M) {p q:Nat} (hp:p<n) (hq:q<n) :
  (T q p:Rat)≤bet Dm (K * pw F n * M) ((n:Rat) * M) n∧-(bet Dm (K * pw F n * M) ((n:Rat) * M) n)≤(T q p:Rat):=by
 have h1:=conF_diag n T h0.sym p
 rw [← h.con p p hp hp] at h1
 have h2:=(h.ent_le hK1 hF1 hp hp).1
 have h3:RA f p p=QF n (RA f0) 0 (fun q=>(T q p:Rat)):=h1
 rw [h3] at h2
 have h4:1≤K * pw F n:=by
  have:=mul_le' (show 0≤K by grind) (pw_one hF1 n)
  grind
 have h5:1≤K * pw F n * M:=by
  have:=Rat.mul_nonneg (show 0≤K * pw F n - 1 by grind) (show 0≤M by grind)
  grind
 exact coord_le h0.symA h0.pos hM hM1 (fun k hk=>h0.piv_ge hk) h0.dm1 (fun q=>(T q p:Rat)) h2 Rat.le_refl h5 (by omega) n 0 (by omega) q (Nat.zero_le _) hq
theorem LSt.fin (h:LSt n f0 Dm K F f T i j) (hr:RdP n (RA f)) {p q:Nat} (hp:p<n) (hq:q<n):RA f p q≤(n:Rat) * Dm∧-((n:Rat) * Dm)≤RA f p q:=by
 have hL:=h.lat
 have hd:∀ p,p<n→RA f p p≤(n:Rat) * Dm:=fun p hp=>hL.row_n hp (fun k hk=>hr.1 p k hp hk)
 rcases Nat.lt_trichotomy p q with hlt | e | hgt
 ·rw [hL.symA p q]
  exact off_le hL.symA hL.pos hq hlt (hd q hq) (hd p hp)
 ·subst e
  have h1:0<RA f p p:=diag_pos hL.symA hL.pos hp (Nat.zero_le p)
  have h2:=hd p hp
  exact ⟨h2,by grind⟩
 ·exact off_le hL.symA hL.pos hp hgt (hd p hp) (hd q hq)
end
theorem sz_of {a:Int} {k:Nat} {B:Rat} (h:(a:Rat)≤B∧-B≤(a:Rat)) (hB:B<((4294967296 ^ k:Nat):Rat)):sz a≤k:=by
 have h1:(a:Rat)<((4294967296 ^ k:Nat):Rat):=by grind
 have h2:-((4294967296 ^ k:Nat):Rat)<(a:Rat):=by grind
 have e:((4294967296 ^ k:Nat):Rat)=(((4294967296 ^ k:Nat):Int):Rat):=rfl
 rw [e] at h1 h2
 rw [← Rat.intCast_neg] at h2
 have h3:a<((4294967296 ^ k:Nat):Int):=by exact_mod_cast h1
 have h4:-((4294967296 ^ k:Nat):Int)<a:=by exact_mod_cast h2
 unfold sz
 exact limbs_length_lt (by omega)
end Go.Qf
namespace Go.Qf
def tri:Nat→Nat
 | 0=>0
 | k+1=>tri k+(k+1)
theorem minor_conv {d:Nat→Nat} {n:Nat} (h0:d 0=1) (hp:∀ k,k≤n→1≤d k) (h:∀ k,k+2≤n→d (k+1) * d (k+1)≤2 * d k * d (k+2)) :
  ∀ k,k+1≤n→d k ^ (k+1)≤d (k+1) ^ k * 2 ^ tri k:=by
 intro k
 induction k with
 | zero=>intro _;rw [h0];simp [tri]
 | succ k ih =>
  intro hk
  have i1:=ih (by omega)
  have i2:=Nat.pow_le_pow_left (h k (by omega)) (k+1)
  have hpos:0<d (k+1) ^ k:=Nat.pow_pos (hp (k+1) (by omega))
  refine Nat.le_of_mul_le_mul_left ?_ hpos
  have e1:d (k+1) ^ k * d (k+1) ^ (k+1+1)=(d (k+1) * d (k+1)) ^ (k+1):=by
   rw [Nat.mul_pow,← Nat.pow_add,← Nat.pow_add];congr 1;omega
  have e2:(2 * d k * d (k+2)) ^ (k+1)=d k ^ (k+1) * (2 ^ (k+1) * d (k+2) ^ (k+1)):=by
   rw [Nat.mul_pow,Nat.mul_pow];ac_rfl
  rw [e1]
  refine Nat.le_trans i2 ?_
  rw [e2]
  refine Nat.le_trans (Nat.mul_le_mul_right _ i1) ?_
  have e3:tri (k+1)=tri k+(k+1):=rfl
  rw [e3,Nat.pow_add 2 (tri k),show k+1+1=k+2 by omega]
  generalize 2 ^ (k+1)=a
  generalize 2 ^ tri k=b
  generalize d (k+2) ^ (k+1)=c
  generalize d (k+1) ^ k=e
  apply Nat.le_of_eq
  ac_rfl
def minV:Nat→Nat
 | 8=>10000
 | 7=>35777
 | 6=>64000
 | 5=>57300
 | 4=>25700
 | _=>10000
theorem minV_step:∀ k,k<8→1≤k→minV (k+1) ^ k * 2 ^ tri k<(minV k+1) ^ (k+1):=by decide +kernel
theorem minor_lt {d:Nat→Nat} {n:Nat} (hn:n≤8) (h0:d 0=1) (hp:∀ k,k≤n→1≤d k) (h:∀ k,k+2≤n→d (k+1) * d (k+1)≤2 * d k * d (k+2)) (hd:d n≤10000) :
  ∀ k,k≤n→d k<65536:=by
 have hV:∀ k,k<9→10000≤minV k∧minV k<65536:=by decide
 have key:∀ m k,k+m=n→1≤k→d k≤minV k:=by
  intro m
  induction m with
  | zero =>
       intro k hk _;have:k=n:=by omega
       subst this;exact Nat.le_trans hd (hV k (by omega)).1
  | succ m ih =>
   intro k hk h1
   have i1:=ih (k+1) (by omega) (by omega)
   have i2:=minor_conv h0 hp h k (by omega)
   have i3:d k ^ (k+1)<(minV k+1) ^ (k+1):=Nat.lt_of_le_of_lt (Nat.le_trans i2 (Nat.mul_le_mul_right _ (Nat.pow_le_pow_left i1 k))) (minV_step k (by omega) h1)
   have:=(Nat.pow_lt_pow_iff_left (by omega)).1 i3
   omega
 intro k hk
 by_cases e:k=0
 ·subst e;rw [h0];decide
 ·have:=key (n - k) k (by omega) (by omega)
  have:=(hV k (by omega)).2
  omega
section
variable {n:Nat} {f:Nat→Nat→Int}
theorem dd_nat (h:Pos n (RA f)):∃ d:Nat→Nat,∀ k,k≤n→dd (RA f) k=(d k:Rat)∧1≤d k:=by
 refine ⟨fun k=>(dd (RA f) k).num.toNat,fun k hk=>?_⟩
 obtain ⟨z,e,hz⟩:=dd_int h hk
 dsimp only
 rw [e]
 have e1:((z:Rat)).num.toNat=z.toNat:=rfl
 rw [e1]
 refine ⟨?_,by omega⟩
 have e2:((z.toNat:Nat):Int)=z:=by omega
 have e3:((z.toNat:Nat):Rat)=(((z.toNat:Nat):Int):Rat):=rfl
 rw [e3,e2]
theorem lov_conv {A:Nat→Vec} {i:Nat} (hs:SzP A i (i - 1)) (hl:LvP A i) (hi:0<i):dd A i * dd A i≤2 * dd A (i - 1) * dd A (i+1):=by
 obtain ⟨h1,h2⟩:=hs
 unfold LvP at hl
 rw [show i - 1+1=i by omega] at h1 h2
 generalize BB A (i - 1) i (i - 1)=l at *
 generalize dd A i=d at *
 have:=Rat.mul_nonneg (show 0≤d - 2 * l by grind) (show 0≤d+2 * l by grind)
 grind
theorem red_minor (hn:n≤8) (h:Pos n (RA f)) (hr:RdP n (RA f)) (hd:dd (RA f) n≤10000) {k:Nat} (hk:k≤n):dd (RA f) k<65536:=by
 obtain ⟨d,hd1⟩:=dd_nat h
 have h0:d 0=1:=by
  have:=(hd1 0 (by omega)).1
  have e:dd (RA f) 0=1:=rfl
  rw [e] at this
  exact_mod_cast this.symm
 have hlt:=minor_lt hn h0 (fun k hk=>(hd1 k hk).2) (fun k hk=>?_) (by rw [(hd1 n (by omega)).1] at hd;exact_mod_cast hd) k hk
 ·rw [(hd1 k hk).1];exact_mod_cast hlt
 ·have:=lov_conv (hr.1 (k+1) k (by omega) (by omega)) (hr.2 (k+1) (by omega) (by omega)) (by omega)
  rw [show k+1 - 1=k by omega,show k+1+1=k+2 by omega,(hd1 k (by omega)).1,(hd1 (k+1) (by omega)).1,(hd1 (k+2) (by omega)).1] at this
  exact_mod_cast this
theorem piv_lt (h:Pos n (RA f)) {k:Nat} (hk:k<n) {D:Rat} (hd:dd (RA f) (k+1)<D):EL (RA f) k k k<D:=by
 rw [dd_succ] at hd
 have h2:=dd_one h (show k≤n by omega)
 have h3:=piv_pos h hk
 have:=Rat.mul_nonneg (show 0≤dd (RA f) k - 1 by grind) (Rat.le_of_lt h3)
 grind
theorem sized_diag4 {A:Nat→Vec} (hS:Sym A) (h:Pos n A) {i:Nat} (hi:i<n) {D:Rat} (hD:∀ k,k<n→EL A k k k≤D) (hs:∀ k,k<i→2 * EL A k i k≤EL A k k k∧-(2 * EL A k i k)≤EL A k k k):∀ (d k:Nat),k+d=i→4 * EL A k i i≤((d+4:Nat):Rat) * D:=by
 intro d
 induction d with
 | zero =>
  intro k hk
  have:k=i:=by omega
  subst this
  have:=hD k hi
  have e:((0+4:Nat):Rat)=4:=rfl
  rw [e]
  grind
 | succ d ih =>
  intro k hk
  have h1:=ih (k+1) (by omega)
  have h2:=hs k (by omega)
  have hB:=piv_pos h (show k<n by omega)
  have h3:=hD k (by omega)
  rw [EL_diag hS] at h1
  have h5:4 * (EL A k i k * EL A k i k)≤EL A k k k * EL A k k k:=by
   have a1:=Rat.mul_nonneg (show 0≤EL A k k k - 2 * EL A k i k by grind) (show 0≤EL A k k k+2 * EL A k i k by grind)
   grind
  have h6:=Rat.mul_inv_cancel _ (show EL A k k k≠0 by grind)
  have h7:=mul_le' (Rat.le_of_lt (inv_pos' hB)) h5
  have h8:(EL A k k k)⁻¹ * (EL A k k k * EL A k k k)=EL A k k k:=by grind
  rw [h8] at h7
  have e:((d+1+4:Nat):Rat)=((d+4:Nat):Rat)+1:=by
   have:d+1+4=(d+4)+1:=by omega
   rw [this,Rat.natCast_add];rfl
  rw [e]
  grind
theorem red_entry (hn:n≤8) (hS:Sym (RA f)) (h:Pos n (RA f)) (hr:RdP n (RA f)) (hd:dd (RA f) n≤10000) {p q:Nat} (hp:p<n) (hq:q<n):RA f p q<262144∧-262144<RA f p q:=by
 have hdiag:∀ p,p<n→RA f p p≤180224:=by
  intro p hp
  have h1:=sized_diag4 hS h hp (D:=65536) (fun k hk=>Rat.le_of_lt (piv_lt h hk (red_minor hn h hr hd (by omega)))) (fun k hk=>(szP_EL (h k (by omega))).1 (hr.1 p k hp hk)) p 0 (by omega)
  have h2:((p+4:Nat):Rat)≤11:=by
   have:p+4≤11:=by omega
   exact_mod_cast this
  have e:EL (RA f) 0 p p=RA f p p:=rfl
  rw [e] at h1
  grind
 have key:RA f p q≤180224∧-180224≤RA f p q:=by
  rcases Nat.lt_trichotomy p q with hlt | e | hgt
  ·rw [hS p q]
   exact off_le hS h hq hlt (hdiag q hq) (hdiag p hp)
  ·subst e
   have h1:0<RA f p p:=diag_pos hS h hp (Nat.zero_le p)
   exact ⟨hdiag p hp,by grind⟩
  ·exact off_le hS h hp hgt (hdiag p hp) (hdiag q hq)
 constructor <;> grind
end
end Go.Qf
namespace Go.Qf
open Go Go.RowKit Go.Proofs
set_option maxRecDepth 20000
theorem EL_congr {n:Nat} {A B:Nat→Vec} (h:∀ p q,p<n→q<n→A p q=B p q):∀ k,k≤n→∀ p q,p<n→q<n→EL A k p q=EL B k p q:=by
 intro k
 induction k with
 | zero=>intro _ p q hp hq;exact h p q hp hq
 | succ k ih =>
  intro hk p q hp hq
  have i1:=ih (by omega)
  rw [EL_inv,EL_inv,i1 p q hp hq,i1 p k hp (by omega),i1 k q (by omega) hq,i1 k k (by omega) (by omega)]
theorem dd_congr {n:Nat} {A B:Nat→Vec} (h:∀ p q,p<n→q<n→A p q=B p q):∀ k,k≤n→dd A k=dd B k:=by
 intro k
 induction k with
 | zero=>intro _;rfl
 | succ k ih=>intro hk;rw [dd_succ,dd_succ,ih (by omega),EL_congr h k (by omega) k k (by omega) (by omega)]
theorem BB_congr {n:Nat} {A B:Nat→Vec} (h:∀ p q,p<n→q<n→A p q=B p q) {k:Nat} (hk:k≤n) {p q:Nat} (hp:p<n) (hq:q<n):BB A k p q=BB B k p q:=by
 unfold BB
 rw [dd_congr h k hk,EL_congr h k hk p q hp hq]
theorem RdP_congr {n:Nat} {A B:Nat→Vec} (h:∀ p q,p<n→q<n→A p q=B p q) (hr:RdP n A):RdP n B:=by
 refine ⟨fun i j hi hj=>?_,fun i h0 hi=>?_⟩
 ·have:=hr.1 i j hi hj
  unfold SzP at this ⊢
  rw [← BB_congr h (show j≤n by omega) hi (show j<n by omega),← dd_congr h (j+1) (by omega)]
  exact this
 ·have:=hr.2 i h0 hi
  unfold LvP at this ⊢
  rw [← BB_congr h (show i - 1≤n by omega) hi (show i - 1<n by omega),← dd_congr h (i+1) (by omega),← dd_congr h (i - 1) (by omega),← dd_congr h i (by omega)]
  exact this
structure RedF (n:Nat) (f:Nat→Nat→Int):Prop where
 sym:∀ p q,f p q=f q p
 pos:Pos n (RA f)
 det:dd (RA f) n≤10000
 rd:RdP n (RA f)
theorem ent_mk {n:Nat} (f:Nat→Nat→Int) {p q:Nat} (hp:p<n) (hq:q<n):ent (mk n n f) p q=f p q:=entAt (mk_get hp) (row_get hq)
theorem okM_mk {n:Nat} (h1:1≤n) (h2:n≤16) (f:Nat→Nat→Int):okM (mk n n f)∧((mk n n f).getD 0 []).length=n:=by
 have h0:((mk n n f).getD 0 []).length=n:=by rw [List.getD_eq_getElem?_getD,mk_get (by omega)];simp
 refine ⟨⟨by rw [mk_len];exact h1,by rw [mk_len];exact h2,fun i row hi=>?_⟩,h0⟩
 have hlt:=(List.getElem?_eq_some_iff.1 hi).1
 rw [mk_len] at hlt
 rw [mk_get hlt] at hi
 cases hi
 rw [h0]
 simp
 omega
theorem redF_red {n:Nat} {f:Nat→Nat→Int} (h:RedF n f) (h1:1≤n) (h2:n≤8):Red (mk n n f):=by
 obtain ⟨ho,h0⟩:=okM_mk h1 (show n≤16 by omega) f
 have hc:∀ p q,p<n→q<n→RA f p q=RA (ent (mk n n f)) p q:=fun p q hp hq=>by unfold RA;rw [ent_mk f hp hq]
 refine ⟨ho,by rw [h0,mk_len],by rw [mk_len];exact h2,⟨?_,?_⟩,?_,?_⟩
 ·rw [mk_len]
  intro i j hi hj
  rw [ent_mk f hi hj,ent_mk f hj hi]
  exact h.sym i j
 ·rw [mk_len]
  intro m h1 h2
  rw [← dd_congr hc m h2]
  exact h.pos m h2
 ·rw [mk_len,← dd_congr hc n (Nat.le_refl _)]
  exact h.det
 ·rw [mk_len]
  exact RdP_congr hc h.rd
theorem ent_out {M:List (List Int)} {n:Nat} (hl:M.length=n) (hr:∀ (i:Nat) (row:List Int),M[i]?=some row→row.length=n) {p q:Nat} (h:n≤p∨n≤q):ent M p q=0:=by
 unfold ent
 by_cases hp:p<M.length
 ·have h1:M[p]?=some M[p]:=by simp
  have h2:=hr p _ h1
  have h3:(M[p])[q]?=none:=List.getElem?_eq_none (by omega)
  simp [List.getD_eq_getElem?_getD,h1,h3]
 ·have h1:M[p]?=none:=List.getElem?_eq_none (by omega)
  simp [List.getD_eq_getElem?_getD,h1]
theorem Red.redF {M:List (List Int)} (h:Red M):RedF M.length (ent M)∧M=Go.Qf.mk M.length M.length (ent M):=by
 obtain ⟨ho,hl,h8,hf,hd,hr⟩:=h
 have hrow:∀ (i:Nat) (row:List Int),M[i]?=some row→row.length=M.length:=fun i row hi=>by have:=(ho.2.2 i row hi).2.2;omega
 refine ⟨⟨?_,?_,hd,hr⟩,?_⟩
 ·intro p q
  by_cases hp:p<M.length
  ·by_cases hq:q<M.length
   ·exact hf.1 p q hp hq
   ·rw [ent_out rfl hrow (.inr (by omega)),ent_out rfl hrow (.inl (by omega))]
  ·rw [ent_out rfl hrow (.inl (by omega)),ent_out rfl hrow (.inr (by omega))]
 ·intro m hm
  by_cases e:m=0
  ·subst e;show (0:Rat)<1;decide
  ·exact hf.2 m (by omega) hm
 ·have:=mk_ent ho
  rw [← hl] at this
  exact this.symm
def DmC:Rat:=43046721
def KC:Rat:=344373768
def FC:Rat:=2+8 * DmC * KC
theorem fC_lt:KC * pw FC 8<((4294967296 ^ 16:Nat):Rat):=by decide +kernel
theorem cC_lt:4 * (KC * pw FC 8 * DmC)<((4294967296 ^ 17:Nat):Rat):=by decide +kernel
theorem tC_lt:∀ n,n<9→bet DmC (KC * pw FC n * 9) ((n:Rat) * 9) n<((4294967296 ^ 24:Nat):Rat):=by decide +kernel
theorem dd_pw {n:Nat} {A:Nat→Vec} (hS:Sym A) (h:Pos n A) {M:Rat} (hM1:1≤M) (hM:∀ q,q<n→A q q≤M):∀ k,k≤n→dd A k≤pw M k:=by
 intro k
 induction k with
 | zero=>intro _;exact Rat.le_refl
 | succ k ih =>
  intro hk
  have h1:=ih (by omega)
  have h2:=Rat.le_trans (EL_le hS h (show k≤n by omega) k) (hM k (by omega))
  have h3:=piv_pos h (show k<n by omega)
  rw [dd_succ]
  show _≤M * pw M k
  have a1:=mul_le' (Rat.le_of_lt (h k (by omega))) h2
  have a2:=mul_le' (show 0≤M by grind) h1
  grind
theorem sz_idF (a b:Nat):sz (idF a b)≤17:=by
 unfold idF
 split <;> decide +kernel
theorem mi_sz {n s:Nat} {f:Nat→Nat→Int} (h:∀ a b,a<n→b<n→sz (f a b)≤s) (hs:s≤1000000):∀ row ∈ mk n n f,∀ x ∈ row,sz x≤1000000:=by
 intro row hr x hx
 obtain ⟨i,hi⟩:=List.mem_iff_getElem?.1 hr
 have hlt:=(List.getElem?_eq_some_iff.1 hi).1
 rw [mk_len] at hlt
 rw [mk_get hlt] at hi
 cases hi
 simp only [List.mem_map,List.mem_range] at hx
 obtain ⟨j,hj,rfl⟩:=hx
 exact Nat.le_trans (h i j hlt hj) hs
end Go.Qf
namespace Go.Qf
open Go Go.Proofs
theorem fn_schur_elimination_scaled:IsFn Tryz.prog 43 Tryz.f43:=⟨Tryz.func43,by kernel_rfl,by kernel_rfl⟩
theorem fn_quadformmake_Tape_Next:IsFn Tryz.prog 65 Tryz.f65:=⟨Tryz.func65,by kernel_rfl,by kernel_rfl⟩
theorem fn_schur_walk_tails:IsFn Tryz.prog 74 Tryz.f74:=⟨Tryz.func74,by kernel_rfl,by kernel_rfl⟩
theorem fn_quadformmake_Tape_Below:IsFn Tryz.prog 88 Tryz.f88:=⟨Tryz.func88,by kernel_rfl,by kernel_rfl⟩
theorem fn_schur_walk_visit:IsFn Tryz.prog 137 Tryz.f137:=⟨Tryz.func137,by kernel_rfl,by kernel_rfl⟩
end Go.Qf
namespace Go.Qf
open Go Go.RowKit Go.Proofs
set_option maxRecDepth 20000
abbrev i8 (x:Int):Value:=.int .i8 x
def L8 (w:World) (v:Value) (xs:List Int):Prop:=Row 150 w v (xs.map i8)∧(∀ x ∈ xs,-128≤x∧x≤127)∧xs.length≤9223372036854775807
theorem L8.ext {w w':World} {v:Value} {xs:List Int} (h:L8 w v xs) (hx:Ext w w'):L8 w' v xs:=⟨h.1.ext hx,h.2⟩
theorem Upd.then_upd {b c:Nat} {w w1 w2:World} (h:Upd b w w1) (k:Upd c w1 w2) (hc:w.heap.size≤c):Upd b w w2 :=
 ⟨k.os.trans h.os,k.tape.trans h.tape,k.output.trans h.output,Nat.le_trans h.size k.size,fun i hi hb=>(k.block i (Nat.lt_of_lt_of_le hi h.size) (by omega)).trans (h.block i hi hb)⟩
theorem u8_nat (z:Int):∃ y:Nat,IntKind.i64.wrap (IntKind.u8.wrap z)=(y:Int)∧y<256:=by
 rw [wrap_u8,i64_id (by omega) (by omega)]
 exact ⟨(z % 256).toNat,by omega,by omega⟩
theorem MatR.updT {k:Nat} {te e t:TypeId} {base b:Nat} {w w':World} {v:Value} {rs C:List Value} {R:List (List Value)} (h:MatR k te e base w v rs R) (hu:Upd b w w') (hb:Blk t w b C) (h1:te≠t) (h2:e≠t):MatR k te e base w' v rs R:=by
 obtain ⟨a1,a2,a3,a4,a5⟩:=h
 exact ⟨a1.updT hu hb h1,a2,a3,fun i r us hr hus=>(a4 i r us hr hus).updT hu hb h2,a5⟩
section
variable {n:Nat} {E:List (Nat×Value)} {w:World} {ops:Array Oper} {rest:List Oper} {Q:Exit→Act→World→Prop} {d1 s:Nat} {x I y:Operand} {ty ty2:TypeId} {pos pos2:String} {af af2:Array Edge} {g1 g2:Option (Nat×Bool)}
theorem StL.putRowU {rs:List Value} {base:Nat} {v:Value} {M:List (List Int)} {i c b:Nat} {iv:Int} (h:MatW rs base w v M) (hi:i<M.length) (B:Blk 2 w b (List.replicate c (.int .i64 0))) (hbb:base≤b) (hfr:∀ r ∈ rs,r.ownBlock≠some b) (hc:c≤1000000)
  (hx:ov E x=some v) (hI:ov E I=some (.int .i64 iv)) (hiv:iv=i) (hy:∀ p,ov ((d1,p)::E) y=some (.slice (some ⟨b,0,none⟩) c c)) (hg:wantE ops E g1=some true) (hn:Nat.blt d1 n=true) (hg2:∀ p,wantE ops ((d1,p)::E) g2=some true)
  (next:∀ p w' g C,base≤g→Blk 27 w g C→Upd g w w'→MatW (rs.set i (.slice (some ⟨b,0,none⟩) c c)) base w' v (M.set i (List.replicate c 0))→StL Tryz.prog n ((d1,p)::E) w' ops rest Q) :
  StL Tryz.prog n E w ops (⟨some d1,.indexAddr 25 x I,ty,pos,af,g1⟩::⟨none,.store 27 (.tmp d1) y,ty2,pos2,af2,g2⟩::rest) Q:=by
 have hrl:=h.rsl
 have hrep:List.replicate c (Value.int .i64 0)=(List.replicate c (0:Int)).map i64:=by rw [List.map_replicate]
 obtain ⟨g,cap,D,hv,hg0,hb,hcl,hcd,hset⟩:=MatR.setRow h (by decide) (i:=i) (r:=.slice (some ⟨b,0,none⟩) c c) (us:=(List.replicate c (0:Int)).map i64) (by omega)
  ⟨i64_sh _,.inr ⟨b,c,[],by simp,hbb,by rw [List.append_nil,flat_one _ (i64_cells _),← hrep];exact B,by simp,by simp,by unfold maxLen;omega⟩⟩ rfl rfl
  (fun j s _ hs e=>absurd e (hfr s (List.mem_of_getElem? hs)))
 subst hv
 refine StL.put TBok i hb hiv (by omega) (by simp) rfl rfl rfl rfl hx hI hg hn hg2 hy rfl rfl ?_
 intro p w' hb' hu'
 rw [Nat.zero_add] at hb'
 refine next p w' g _ hg0 hb hu' ?_
 have:=hset w' hu' hb'
 unfold MatW
 rw [List.map_set]
 exact this
theorem StL.putU {rs:List Value} {base:Nat} {v r:Value} {M:List (List Int)} {i j:Nat} {row:List Int} {z iv:Int} (h:MatW rs base w v M) (hr:rs[i]?=some r) (hi:M[i]?=some row) (hj:j<row.length)
  (hx:ov E x=some r) (hI:ov E I=some (.int .i64 iv)) (hiv:iv=j) (hy:∀ p,ov ((d1,p)::E) y=some (.int .i64 z)) (hg:wantE ops E g1=some true) (hn:Nat.blt d1 n=true) (hg2:∀ p,wantE ops ((d1,p)::E) g2=some true)
  (next:∀ p w' g C,base≤g→Blk 2 w g C→Upd g w w'→MatW rs base w' v (M.set i (row.set j z))→StL Tryz.prog n ((d1,p)::E) w' ops rest Q) :
  StL Tryz.prog n E w ops (⟨some d1,.indexAddr 27 x I,ty,pos,af,g1⟩::⟨none,.store 2 (.tmp d1) y,ty2,pos2,af2,g2⟩::rest) Q:=by
 have hI2:(M.map (fun row=>row.map i64))[i]?=some (row.map i64):=by simp [hi]
 obtain ⟨g,cap,D,hv,hg0,hb,hc1,hc2,hput⟩:=MatR.put h (by decide) hr hI2 (j:=j) (by simpa using hj) (u:=.int .i64 z) ⟨rfl,by simp [Value.cells,Value.oneCell']⟩
 rw [flat_one _ (i64_cells row)] at hb hput
 subst hv
 have hl:(row.map i64).length=row.length:=by simp
 rw [hl] at hx
 refine StL.put TBok j hb hiv (by omega) (by rw [List.length_append];simp) rfl rfl rfl rfl hx hI hg hn hg2 hy rfl rfl ?_
 intro p w' hb' hu'
 rw [Nat.zero_add] at hb'
 refine next p w' g _ hg0 hb hu' ?_
 have e:over (row.map i64++D) (1 * j) (Value.int .i64 z).cells.toList=(row.map i64++D).set j (.int .i64 z):=by
  rw [Nat.one_mul]
  rfl
 rw [e] at hput
 have:=hput w' hu' hb'
 unfold MatW
 rw [List.map_set,List.map_set]
 exact this
end
theorem MatW.rowB {rs:List Value} {base:Nat} {w:World} {v r:Value} {M:List (List Int)} {i:Nat} {row:List Int} (h:MatW rs base w v M) (hr:rs[i]?=some r) (hi:M[i]?=some row) (hne:row≠[]) :
  ∃ g cap D,r=.slice (some ⟨g,0,none⟩) row.length cap∧base≤g∧Blk 2 w g (row.map i64++D)∧∀ j z w',j<row.length→Upd g w w'→Blk 2 w' g ((row.map i64++D).set j (.int .i64 z))→MatW rs base w' v (M.set i (row.set j z)):=by
 have hI2:(M.map (fun row=>row.map i64))[i]?=some (row.map i64):=by simp [hi]
 have h0:0<row.length:=List.length_pos_iff.2 hne
 obtain ⟨g,cap,D,hv,hg0,hb,hc1,hc2,_⟩:=MatR.put h (by decide) hr hI2 (j:=0) (by simpa using h0) (u:=.int .i64 0) ⟨rfl,by simp [Value.cells,Value.oneCell']⟩
 rw [flat_one _ (i64_cells row)] at hb
 refine ⟨g,cap,D,by rw [hv];simp,hg0,hb,fun j z w' hj hu' hb'=>?_⟩
 obtain ⟨g2,cap2,D2,hv2,_,hb2,_,_,hput⟩:=MatR.put h (by decide) hr hI2 (j:=j) (by simpa using hj) (u:=.int .i64 z) ⟨rfl,by simp [Value.cells,Value.oneCell']⟩
 rw [hv] at hv2
 simp only [Value.slice.injEq,Option.some.injEq,Addr.mk.injEq] at hv2
 obtain ⟨⟨rfl,_⟩,_,_⟩:=hv2
 rw [flat_one _ (i64_cells row)] at hb2 hput
 have hD:D2=D:=by
  have:=hb2.symm.trans hb
  simp only [Option.some.injEq,Obj.cells.injEq] at this
  simpa using this.1
 subst hD
 have e:over (row.map i64++D2) (1 * j) (Value.int .i64 z).cells.toList=(row.map i64++D2).set j (.int .i64 z):=by
  rw [Nat.one_mul]
  rfl
 rw [e] at hput
 have:=hput w' hu' hb'
 unfold MatW
 rw [List.map_set,List.map_set]
 exact this
def DiagF (n m:Nat) (f:Nat→Nat→Int):Prop:=∀ p q,p<n→q<n→(p≠q→f p q=0)∧(p=q→1≤f p q∧f p q≤m)
def BndF (n:Nat) (c:Int) (f:Nat→Nat→Int):Prop:=∀ p q,p<n→q<n→-c≤f p q∧f p q≤c
theorem MatW.addr {rs:List Value} {base:Nat} {w:World} {v:Value} {M:List (List Int)} (h:MatW rs base w v M) (h0:0<M.length):∃ g cap,v=.slice (some ⟨g,0,none⟩) M.length cap∧base≤g:=by
 have hl:=h.rsl
 obtain ⟨g,cap,D,hv,hg,_⟩:=h.1.open (by intro e;rw [e] at hl;simp at hl;omega)
 exact ⟨g,cap,by rw [hv,hl],hg⟩
theorem MatW.cellAt {rs:List Value} {base n:Nat} {w:World} {v rr:Value} {f:Nat→Nat→Int} (h:MatW rs base w v (mk n n f)) {i j:Nat} (hr:rs[i]?=some rr) (hi:i<n) (hj:j<n):∃ a c,rr=.slice (some a) n c∧w.cell? (a.add j)=some (.int .i64 (f i j)):=by
 have hI:(mk n n f |>.map (fun row=>row.map i64))[i]?=some (((List.range n).map (f i)).map i64):=by simp [mk_get hi]
 have hrow:=(h.2.2.2.1 i rr _ hr hI).row (i64_cells _)
 have hjj:(((List.range n).map (f i)).map i64)[j]?=some (i64 (f i j)):=by simp [hj]
 obtain ⟨a5,c5,e5,hc⟩:=hrow.get hjj
 have hl2:(((List.range n).map (f i)).map i64).length=n:=by simp
 rw [hl2] at e5
 exact ⟨a5,c5,e5,hc⟩
theorem tmod3 (z:Int):-2≤z.tmod 3∧z.tmod 3≤2:=by
 have h1:=Int.tmod_lt_of_pos z (show (0:Int)<3 by decide)
 have h2:=Int.tmod_lt_of_pos (-z) (show (0:Int)<3 by decide)
 rw [Int.neg_tmod] at h2
 omega
theorem bnd_sz {n:Nat} {c:Int} {f:Nat→Nat→Int} (h:BndF n c f) (hc:c≤1000):∀ a b,a<n→b<n→sz (f a b)≤2:=fun a b ha hb=>by
 have:=h a b ha hb
 exact sz_small (by omega) (by omega)
theorem bnd_64 {n:Nat} {c:Int} {f:Nat→Nat→Int} (h:BndF n c f) (hc:c≤1000):∀ row ∈ mk n n f,∀ x ∈ row,-9223372036854775808≤x∧x≤9223372036854775807:=by
 intro row hr x hx
 obtain ⟨i,hi⟩:=List.mem_iff_getElem?.1 hr
 have hlt:=(List.getElem?_eq_some_iff.1 hi).1
 rw [mk_len] at hlt
 rw [mk_get hlt] at hi
 cases hi
 simp only [List.mem_map,List.mem_range] at hx
 obtain ⟨j,hj,rfl⟩:=hx
 have:=h i j hlt hj
 omega
theorem of_mk {base:Nat} {w:World} {v:Value} {n:Nat} {c:Int} {f:Nat→Nat→Int} (h:M64 w v (mk n n f)) (hn:1≤n∧n≤16) (hf:BndF n c f) (hc:c≤1000) (hbase:base≤w.heap.size) :
  Calls Tryz.prog 37 #[v] w (Ret fun r w'=>Ext w w'∧MI w' r (mk n n f)):=by
 refine (of_spec (base:=base) w v _ h hbase (bnd_64 hf hc)).mono ?_
 rintro e w' ⟨x,rfl,hx,⟨_,rs,hC⟩ | ⟨hno,_⟩⟩
 ·exact ⟨x,rfl,hx,hC.mi (mi_sz (bnd_sz hf hc) (by omega))⟩
 ·exact absurd (okM_mk hn.1 hn.2 f).1 hno
theorem good_spec {w:World} {v:Value} {n:Nat} {f:Nat→Nat→Int} (h:M64 w v (mk n n f)) (hn:1≤n∧n≤8) (hf:BndF n 9 f) :
  Calls Tryz.prog 90 #[v] w (Ret fun x w'=>Ext w w'∧∃ b,x=.bool b∧(b=true↔Form n f∧dd (RA f) n≤10000)):=by
 have hn16:1≤n∧n≤16:=⟨hn.1,by omega⟩
 have hs:=bnd_sz hf (by decide)
 have hb:2 ^ n * (2+1)≤100000:=Nat.le_trans (Nat.mul_le_mul_right _ (Nat.pow_le_pow_right (by omega) hn.2)) (by decide)
 refine calls_of_St (args:=[_]) Tryz.func90 rfl Tryz.ntmps90 rfl ?_
 (iterate 6 refine Nv ?_;try refine .r rfl ?_)
 refine .s (OpR.call fn_r03_Of rfl (of_mk (base:=0) h hn16 hf (by decide) (Nat.zero_le _))) ?_
 rintro u w1 ⟨hx1,hM⟩
 (iterate 6 refine Nv ?_;try refine .r rfl ?_)
 refine .s (OpR.call fn_r07_Validate rfl (validate_spec hM hn16 hn16 hs (by omega) (by omega))) ?_
 rintro _ w2 ⟨hx2,e,rfl,hev⟩
 by_cases he:e=0
 ·subst he
  obtain ⟨_,_,hF⟩:=hev.1 rfl
  refine .r rfl ?_
  refine .s (OpR.call fn_r03_Determinant rfl (determinant_spec (hM.ext hx2) hn16 hs (by omega) hb)) ?_
  rintro y w3 ⟨hx3,d,hd,hdz,hdv⟩
  have hdv:=hdv (hF.2.gd (by omega))
  refine .s (OpR.call fn_r01_Small rfl (rsmall_spec (base:=0) w3 10000 (by omega) (by omega) (Nat.zero_le _))) ?_
  rintro z w4 ⟨hx4,hz⟩
  have z1:sz 10000≤2:=sz_small (by omega) (by omega)
  refine .s (OpR.call fn_r01_Cmp rfl (rcmp_dn ((hd.ext hx4).dn (by omega)) (hz.dn (by omega)))) ?_
  rintro _ w5 ⟨hx5,rfl⟩
  refine .a 1 (.bool (decide (d≤10000))) rfl (by rw [cmp_le]) ?_
  (iterate 6 refine Nv ?_;try refine .r rfl ?_)
  refine Out.ret1 rfl rfl ⟨(((hx1.trans hx2).trans hx3).trans hx4).trans hx5,_,rfl,?_⟩
  rw [decide_eq_true_eq,← hdv]
  have:=Rat.intCast_le_intCast (a:=d) (b:=10000)
  exact ⟨fun h=>⟨hF,this.2 h⟩,fun h=>this.1 h.2⟩
 ·refine .a 1 (.bool false) rfl (by rw [show (e == 0)=false from by simpa using he]) ?_
  (iterate 6 refine Nv ?_;try refine .r rfl ?_)
  exact Out.ret1 rfl rfl ⟨hx1.trans hx2,false,rfl,⟨fun h=>(by cases h),fun h=>absurd (hev.2 ⟨rfl,hn.2,h.1⟩) he⟩⟩
theorem diag_EL {n m:Nat} {f:Nat→Nat→Int} (h:DiagF n m f):∀ k,k≤n→∀ p q,p<n→q<n→k≤p→k≤q→EL (RA f) k p q=RA f p q:=by
 intro k
 induction k with
 | zero=>intro _ p q _ _ _ _;rfl
 | succ k ih =>
  intro hk p q hp hq h1 h2
  rw [EL_inv,ih (by omega) p q hp hq (by omega) (by omega),ih (by omega) p k hp (by omega) (by omega) (by omega)]
  have:RA f p k=0:=by
   unfold RA
   rw [(h p k hp (by omega)).1 (by omega)]
   rfl
  rw [this]
  grind
theorem diag_dd {n:Nat} {f:Nat→Nat→Int} (h:DiagF n 2 f):∀ k,k≤n→1≤dd (RA f) k∧dd (RA f) k≤pw 2 k:=by
 intro k
 induction k with
 | zero=>intro _;exact ⟨Rat.le_refl,Rat.le_refl⟩
 | succ k ih =>
  intro hk
  obtain ⟨h1,h2⟩:=ih (by omega)
  rw [dd_succ,diag_EL h k (by omega) k k (by omega) (by omega) (Nat.le_refl _) (Nat.le_refl _)]
  have h3:=(h k k (by omega) (by omega)).2 rfl
  have a1:(1:Rat)≤RA f k k:=by unfold RA;exact_mod_cast h3.1
  have a2:RA f k k≤(2:Rat):=by unfold RA;have:=h3.2;exact_mod_cast this
  show 1≤dd (RA f) k * RA f k k∧dd (RA f) k * RA f k k≤2 * pw 2 k
  have b1:=Rat.mul_nonneg (show 0≤dd (RA f) k - 1 by grind) (show 0≤RA f k k by grind)
  have b2:=Rat.mul_nonneg (show 0≤dd (RA f) k by grind) (show 0≤2 - RA f k k by grind)
  constructor <;> grind
theorem diag_form {n:Nat} {f:Nat→Nat→Int} (hn:n≤8) (h:DiagF n 2 f):Form n f∧dd (RA f) n≤10000:=by
 refine ⟨⟨fun i j hi hj=>?_,fun m h1 h2=>?_⟩,?_⟩
 ·by_cases e:i=j
  ·rw [e]
  ·rw [(h i j hi hj).1 e,(h j i hj hi).1 (Ne.symm e)]
 ·have:=(diag_dd h m h2).1
  grind
 ·have h1:=(diag_dd h n (Nat.le_refl _)).2
  have h2:=pw_mono (F:=2) (by decide) hn
  have h3:pw 2 8≤10000:=by decide +kernel
  grind
theorem diag_bnd {n m:Nat} {f:Nat→Nat→Int} (h:DiagF n m f) (hm:m≤9):BndF n 9 f:=fun p q hp hq=>by
 obtain ⟨a1,a2⟩:=h p q hp hq
 by_cases e:p=q
 ·have:=a2 e;omega
 ·have:=a1 e;omega
def LatV (w:World) (v:Value):Prop:=∃ (d k:Nat) (s1 s2:Value) (xs:List Int),v=.agg #[.int .u8 d,.int .u8 k,s1,s2]∧d<256∧k<256∧L8 w s1 xs∧s2.oneCell'=true
end Go.Qf
namespace Go.Qf
open Go Go.RowKit Go.Proofs Go.ChangeShapes Go.WideShapes Go.Joins
set_option maxRecDepth 20000
section
variable {H:Type} {enc:TypeId×Value→H} {W:World} {base:Nat} {spare:Nat→Bool} {held:Bool} {r:Reach} {b0:Nat} {v:Value} {d:DataW H} {p:List MemPlace}
theorem open_nums {t e:TypeId} {k:IntKind} {fuel:Nat} {c:Value} {y:DataW H×List MemPlace} (ht:Tryz.prog.underlying t=some (.slice e)) (he:Tryz.prog.underlying e=some (.int k)) (hc:Tryz.prog.cellsOf e=1)
  (h:DataW.trod enc Tryz.prog W base spare held fuel t [c]=some y):∃ zs:List Int,Row e W c (zs.map (Value.int k))∧(∀ z ∈ zs,(Lit.int k z).wf=true)∧zs.length≤maxLen:=by
 rcases open_ints ht he hc h with ⟨hcs,_⟩ | ⟨a,len,cap,zs,hcs,_,hl,hm,hz,_,hcell,hwz⟩
 ·simp only [List.cons.injEq,and_true] at hcs
  subst hcs
  exact ⟨[],⟨none,0,rfl,Nat.le_refl _,fun _=>rfl,fun a ha=>by cases ha⟩,fun z hz=>by simp at hz,Nat.zero_le _⟩
 ·simp only [List.cons.injEq,and_true] at hcs
  subst hcs
  have hlz:len≤zs.length:=by rw [hz];split <;> omega
  have hlen:(zs.take len).length=len:=by simp;omega
  refine ⟨zs.take len,⟨some a,cap,by rw [List.length_map,hlen],by rw [List.length_map,hlen];exact hl,fun e=>(by cases e),?_⟩,fun z hz=>hwz z (List.mem_of_mem_take hz),by omega⟩
  intro a' ha' i c hi
  cases ha'
  have hi2:i<len:=by
   have:=(List.getElem?_eq_some_iff.1 hi).1
   simp at this;omega
  rw [hcell i (by omega)]
  have hzi:zs[i]?=some zs[i]:=by simp
  simp only [List.getElem?_map,List.getElem?_take_of_lt hi2,hzi,Option.map_some,Option.some.injEq] at hi
  rw [← hi]
  simp only [List.getD_eq_getElem?_getD,hzi,Option.getD_some]
theorem bounds_i8 {n:Int} (h:(Lit.int .i8 n).wf=true):-128≤n∧n≤127:=by
 simp [Lit.wf,IntKind.min,IntKind.max,IntKind.signed,IntKind.bits] at h
 omega
theorem open_L8c {fuel:Nat} {c:Value} {y:DataW H×List MemPlace} (h:DataW.trod enc Tryz.prog W base spare held fuel 22 [c]=some y):∃ xs,L8 W c xs:=by
 obtain ⟨zs,hR,hw,hl⟩:=open_nums Tryz.underlying22 Tryz.underlying150 (by kernel_rfl) h
 exact ⟨zs,hR,fun z hz=>bounds_i8 (hw z hz),by unfold maxLen at hl;omega⟩
theorem open_L64c {fuel:Nat} {c:Value} {y:DataW H×List MemPlace} (h:DataW.trod enc Tryz.prog W base spare held fuel 27 [c]=some y):∃ xs,L64 W c xs∧(∀ x ∈ xs,-9223372036854775808≤x∧x≤9223372036854775807)∧xs.length≤maxLen:=by
 obtain ⟨zs,hR,hw,hl⟩:=open_nums Tryz.underlying27 Tryz.underlying2 (by kernel_rfl) h
 exact ⟨zs,hR,fun z hz=>bounds_i64 (hw z hz),hl⟩
theorem okSlice {t e:TypeId} (ht:Tryz.prog.underlying t=some (.slice e)) (hv:Value.okWide Tryz.prog W r b0 t v):∃ q l c,v=.slice q l c:=by
 unfold Value.okWide Cell.okWide Cell.ok at hv
 rw [ht] at hv
 cases v <;> simp at hv
 exact ⟨_,_,_,rfl⟩
theorem open_M64c {fuel:Nat} {c:Value} {y:DataW H×List MemPlace} (h:DataW.trod enc Tryz.prog W base spare held fuel 25 [c]=some y):∃ M,M64 W c M∧(∀ row ∈ M,∀ x ∈ row,-9223372036854775808≤x∧x≤9223372036854775807)∧M.length≤maxLen:=by
 have hc1:Tryz.prog.cellsOf 27=1:=by kernel_rfl
 rcases DataW.trod_slice Tryz.underlying25 h with ⟨hcs,_⟩ | ⟨a,len,cap,elems,rest,n,_,hcs,hx,_,hl,hm,hlen,hel,_⟩
 ·simp only [List.cons.injEq,and_true] at hcs
  subst hcs
  exact ⟨[],⟨[],⟨none,0,rfl,Nat.le_refl _,fun _=>rfl,fun a ha=>by cases ha⟩,rfl,fun i r row hr=>by simp at hr⟩,fun row hr=>by simp at hr,Nat.zero_le _⟩
 ·simp only [List.cons.injEq,and_true] at hcs
  subst hcs
  have each:∀ i,i<len→∃ rv row,W.cell? (a.add i)=some rv∧L64 W rv row∧∀ x ∈ row,-9223372036854775808≤x∧x≤9223372036854775807:=by
   intro i hi
   have hE:=hel i hi
   rw [hc1,Nat.mul_one] at hE
   have hy:elems[i]?=some (elems[i]'(by omega)):=by simp
   rw [hy] at hE
   simp only [Option.bind_eq_some_iff] at hE
   obtain ⟨c1,hcc,hy1⟩:=hE
   have e0:(a.add i).add 0=a.add i:=by simp [Addr.add]
   have:∃ c,c1=[c]∧W.cell? (a.add i)=some c:=by
    unfold World.cells? at hcc
    split at hcc
    ·simp only [List.range_succ,List.range_zero,List.nil_append,List.mapM_cons,List.mapM_nil,e0] at hcc
     cases hcc2:W.cell? (a.add i) with
     | none=>simp [hcc2] at hcc
     | some c=>simp [hcc2] at hcc;exact ⟨c,hcc.symm,rfl⟩
    ·cases hcc
   obtain ⟨c,rfl,hcell⟩:=this
   obtain ⟨xs,h1,h2,_⟩:=open_L64c hy1
   exact ⟨c,xs,hcell,h1,h2⟩
  let g:Nat→Value×List Int:=fun i=>if hi:i<len then ((each i hi).choose,(each i hi).choose_spec.choose) else (.bool false,[])
  have hg:∀ i,i<len→W.cell? (a.add i)=some (g i).1∧L64 W (g i).1 (g i).2∧∀ x ∈ (g i).2,-9223372036854775808≤x∧x≤9223372036854775807:=by
   intro i hi
   have:=(each i hi).choose_spec.choose_spec
   simp only [g,dif_pos hi]
   exact this
  refine ⟨(List.range len).map (fun i=>(g i).2),⟨(List.range len).map (fun i=>(g i).1),⟨some a,cap,by simp,by simpa using hl,fun e=>(by cases e),?_⟩,by simp,?_⟩,?_,by simp;omega⟩
  ·intro a' ha' i c hi
   cases ha'
   have hlt:=(List.getElem?_eq_some_iff.1 hi).1
   simp at hlt
   simp [hlt] at hi
   rw [← hi]
   exact (hg i hlt).1
  ·intro i r row hr hrow
   have hlt:=(List.getElem?_eq_some_iff.1 hr).1
   simp at hlt
   simp [hlt] at hr hrow
   rw [← hr,← hrow]
   exact (hg i hlt).2.1
  ·intro row hrow
   simp only [List.mem_map,List.mem_range] at hrow
   obtain ⟨i,hi,rfl⟩:=hrow
   exact (hg i hi).2.2
theorem open_M64 (hv:Value.okWide Tryz.prog W r b0 25 v) (h:DataW.Trod enc Tryz.prog W base spare held 25 v d p):∃ M,M64 W v M∧(∀ row ∈ M,∀ x ∈ row,-9223372036854775808≤x∧x≤9223372036854775807)∧M.length≤maxLen:=by
 obtain ⟨q,l,c,rfl⟩:=okSlice Tryz.underlying25 hv
 obtain ⟨fuel,hf⟩:=h
 exact open_M64c hf
theorem open_u8c {fuel:Nat} {c:Value} {y:DataW H×List MemPlace} (h:DataW.trod enc Tryz.prog W base spare held fuel 5 [c]=some y):∃ a:Nat,c=.int .u8 a∧a<256:=by
 obtain ⟨a,e,_,hw⟩:=DataW.trod_int Tryz.underlying5 h
 simp only [List.cons.injEq,and_true] at e
 have:=bounds_u8 hw
 exact ⟨a.toNat,by rw [e];congr 1;omega,by omega⟩
theorem open_Lat (hv:Value.okWide Tryz.prog W r b0 24 v) (h:DataW.Trod enc Tryz.prog W base spare held 24 v d p):LatV W v:=by
 obtain ⟨v0,v1,v2,v3,y0,y1,y2,y3,n,rfl,_,_,h0,h1,h2,h3⟩:=open_agg4 Tryz.underlying24 (by kernel_rfl) (by kernel_rfl) hv h
 obtain ⟨d,rfl,hd⟩:=open_u8c h0
 obtain ⟨k,rfl,hk⟩:=open_u8c h1
 obtain ⟨xs,hx⟩:=open_L8c h2
 obtain ⟨ys,hy⟩:=open_L8c h3
 obtain ⟨q,c,e,_⟩:=hy.1
 exact ⟨d,k,v2,v3,xs,rfl,hd,hk,hx,by rw [e];rfl⟩
end
end Go.Qf
namespace Go.Qf
open Go Go.RowKit Go.Proofs
set_option maxRecDepth 20000
theorem form_full {n:Nat} {f:Nat→Nat→Int} (hF:Form n f):∃ f',mk n n f'=mk n n f∧(∀ p q,f' p q=f' q p)∧(∀ p q,p<n→q<n→RA f' p q=RA f p q):=by
 refine ⟨fun p q=>if p<n∧q<n then f p q else 0,mk_congr fun a b ha hb=>by rw [if_pos ⟨ha,hb⟩],fun p q=>?_,fun p q hp hq=>by unfold RA;dsimp only;rw [if_pos ⟨hp,hq⟩]⟩
 dsimp only
 by_cases h:p<n∧q<n
 ·rw [if_pos h,if_pos h.symm];exact hF.1 p q h.1 h.2
 ·rw [if_neg h,if_neg (fun k=>h k.symm)]
section
variable {n:Nat} {E:List (Nat×Value)} {w:World}
theorem OpR.appL {d:Option Tmp} {t:TypeId} {s x:Operand} {ty:TypeId} {pos:String} {af:Array Edge} {g:Option (Nat×Bool)} {et:TypeId} {s1 s2:Nat} {z:Value} {ti:TI} {v y:Value} {base:Nat} {us cs:List Value}
  (h:RowO 1 et base w v us) (hy:Row et w y cs) (hc:∀ c ∈ cs,c.cells=#[c]∧c.oneCell'=true) (ht:lookT TB t=some ⟨.slice et,s1,s2,z⟩) (hte:lookT TB et=some ti) (hsz:ti.size=1) (hz:ti.zero.cells.size=1) (hs:ov E s=some v) (hx:ov E x=some y)
  (hlen:us.length+cs.length≤1000000) (hby:Nat.ble ti.bytes 1000=true) (hbase:base≤w.heap.size) :
  OpR Tryz.prog n ⟨d,.call ⟨.builtin .append,#[s,x],#[t,t]⟩,ty,pos,af,g⟩ E w (fun v' w'=>RowO 1 et base w' v' (us++cs)∧w.grownBy w' v.ownBlock∧(v'.ownBlock=v.ownBlock∨v'.ownBlock=some w.heap.size)):=by
 obtain ⟨hu1,_⟩:=TBok t _ ht
 obtain ⟨_,inf,hi,hsize,hbi,hzero⟩:=TBok et ti hte
 have hby':ti.bytes≤1000:=Nat.le_of_ble_eq_true hby
 have hflat:flat cs=cs:=flat_one cs (fun c hcc=>(hc c hcc).1)
 have hsh:ShK 1 (us++cs):=by
  intro c hcc
  rcases List.mem_append.1 hcc with hcc | hcc
  ·exact h.1 c hcc
  ·rw [(hc c hcc).1];exact ⟨rfl,by simpa using (hc c hcc).2⟩
 have hfa:flat (us++cs)=flat us++cs:=by unfold flat at hflat ⊢;rw [List.flatMap_append,hflat]
 obtain ⟨p,cap,hv,hl,h0,hcell⟩:=hy
 have key:∃ v' w',(Builtin.append_ #[t,t] ty #[v,y]).run Tryz.prog w=.ok v' w'∧RowO 1 et base w' v' (us++cs)∧w.grownBy w' v.ownBlock∧(v'.ownBlock=v.ownBlock∨v'.ownBlock=some w.heap.size):=by
  cases p with
  | none =>
   have e0:=h0 rfl
   have hcs:cs=[]:=List.eq_nil_of_length_eq_zero (by omega)
   subst hcs
   subst e0
   subst hv
   refine ⟨v,w,run_append_owned_none (P:=Tryz.prog) w base t ty et inf 1 hu1 hi v us.length (flat us) h.owns,by rw [List.append_nil];exact h,⟨rfl,rfl,rfl,Nat.le_refl _,fun _ _ _=>rfl⟩,.inl rfl⟩
  | some a =>
   subst hv
   obtain ⟨v',w',hr,h2,h3,h4,h5⟩:=run_append_own_at (P:=Tryz.prog) w base t ty et inf ti.zero 1 ti.bytes hu1 hi hzero (hsize.trans hsz) hbi hz (by decide) v us.length (flat us) h.owns a cs.length cap cs (by omega)
    (fun j c hj=>hcell a rfl j c hj) (fun c hcc=>(hc c hcc).2) (by unfold maxLen;omega) (by
     have:(us.length+cs.length) * ti.bytes≤1000000 * 1000:=Nat.mul_le_mul hlen hby'
     omega) hbase
   refine ⟨v',w',hr,RowO.of_owns hsh (by rw [List.length_append,hfa];exact h2),h3,h5⟩
 obtain ⟨v',w',hr,h2,h3,h5⟩:=key
 intro a ha Q' K hK
 have e1:=ha.eval hs
 have e2:=ha.eval hx
 have hrun:(execOp a.eval ⟨d,.call ⟨.builtin .append,#[s,x],#[t,t]⟩,ty,pos,af,g⟩).run Tryz.prog w=.ok (.value v') w':=by
  generalize a.eval=ρ at e1 e2
  simp only [execOp,resolve,invoke,builtin,Sem.run_bind,Sem.run_pure,Result.andThen_ok,List.map_toArray,List.map_cons,List.map_nil,e1,e2,hr]
 unfold Oper.wp
 rw [hrun,Oper.upon_value]
 exact hK v' w' ⟨h2,h3,h5⟩
end
theorem i64_one (xs:List Int):∀ c ∈ xs.map i64,c.cells=#[c]∧c.oneCell'=true:=by
 intro u hu
 obtain ⟨x,_,rfl⟩:=List.mem_map.1 hu
 exact ⟨rfl,rfl⟩
def LO (base:Nat) (w:World) (v:Value) (xs:List Int):Prop:=RowO 1 2 base w v (xs.map i64)
theorem LO.ext {base:Nat} {w w':World} {v:Value} {xs:List Int} (h:LO base w v xs) (hx:Ext w w'):LO base w' v xs:=RowO.ext h hx
theorem LO.mono {base base':Nat} {w:World} {v:Value} {xs:List Int} (h:LO base w v xs) (hb:base'≤base):LO base' w v xs:=RowO.mono h hb
theorem LO.l64 {base:Nat} {w:World} {v:Value} {xs:List Int} (h:LO base w v xs):L64 w v xs:=RowO.row h (i64_cells xs)
theorem longer_run {w w1:World} {x:Int} {y:Value} {xs:List Int} (h:L64 w1 y xs) (hl:xs.length≤1000) (hx1:Ext w w1) (B:Blk 2 w1 w.heap.size [.int .i64 x]):RowO 1 2 w.heap.size w1 (.slice (some ⟨w.heap.size,0,none⟩) 1 1) [i64 x] :=
 ⟨i64_sh [x],.inr ⟨w.heap.size,1,[],rfl,Nat.le_refl _,B,rfl,Nat.le_refl _,by unfold maxLen;omega⟩⟩
theorem rlonger_spec {w:World} {x:Int} {y:Value} {xs:List Int} (h:L64 w y xs) (hl:xs.length≤1000) :
  Calls Tryz.prog 138 #[.int .i64 x,y] w (Ret fun r w'=>Ext w w'∧LO w.heap.size w' r (x::xs)):=by
 refine calls_of_St (args:=[_,_]) Tryz.func138 rfl Tryz.ntmps138 rfl ?_
 (iterate 6 refine Nv ?_;try refine .r rfl ?_)
 refine .s (OpR.singleK (k:=1) rfl rfl rfl rfl rfl (.inl ⟨rfl,rfl,rfl⟩)) ?_
 rintro _ w1 ⟨rfl,B,hx1,hz1⟩
 refine .r rfl ?_
 have hR:=longer_run (h.ext hx1) hl hx1 B
 refine .s (OpR.appL hR (h.ext hx1) (i64_one xs) rfl rfl rfl rfl rfl rfl (by simp;omega) rfl hx1.size) ?_
 rintro v' w2 ⟨hR2,hg,_⟩
 have hX:Ext w w2:=by
  rcases grown_cases hR hg with hE | ⟨b,C,_,hb,_,hU⟩
  ·exact hx1.trans hE
  ·exact hx1.then_upd hU hb
 (iterate 6 refine Nv ?_;try refine .r rfl ?_)
 exact Out.ret1 rfl rfl ⟨hX,hR2⟩
theorem L64.cell {w:World} {v:Value} {xs:List Int} (h:L64 w v xs) {j:Nat} (hj:j<xs.length):∃ a c,v=.slice (some a) xs.length c∧w.cell? (a.add j)=some (.int .i64 (xs.getD j 0)):=by
 have hjj:(xs.map i64)[j]?=some (i64 (xs.getD j 0)):=by simp [hj,List.getD_eq_getElem?_getD]
 obtain ⟨a,c,e,hc⟩:=Row.get h hjj
 have hl2:(xs.map i64).length=xs.length:=by simp
 rw [hl2] at e
 exact ⟨a,c,e,hc⟩
theorem Addr.add_add (a:Addr) (i j:Nat):(a.add i).add j=a.add (i+j):=by
 unfold Addr.add
 by_cases h1:i=0
 ·subst h1;simp
 ·by_cases h2:j=0
  ·subst h2;simp
  ·simp [h1,h2,Nat.add_assoc]
theorem RunsTo.sliceLo {P:Program} {T:List (Nat×TI)} {n:Nat} {E:List (Nat×Value)} {w:World} (hT:TblOk P T) {d:Option Tmp} {t:TypeId} {x u:Operand} {ty:TypeId} {pos:String} {af:Array Edge} {g:Option (Nat×Bool)} {et:TypeId} {s1 s2:Nat} {z:Value} {ti:TI} {p:Option Addr} {len cap:Nat} {k':IntKind} {jv:Int}
  (ht:lookT T t=some ⟨.slice et,s1,s2,z⟩) (hte:lookT T et=some ti) (hx:ov E x=some (.slice p len cap)) (hu:ov E u=some (.int k' jv)) (j:Nat) (hj:jv=j) (h1:j≤len) :
  RunsTo P n ⟨d,.slice t x (some u) none none,ty,pos,af,g⟩ E w (.slice (if cap=j then p else p.map (·.add (j * ti.size))) (len - j) (cap - j)):=by
 subst hj
 intro a ha
 have e1:=ha.eval hx
 have e3:=ha.eval hu
 generalize a.eval=ρ at e1 e3
 simp [execOp,Instr.sliceAt,Instr.slice,Instr.sliceBounds,Instr.sliceBound,e1,e3,run_underlying_T hT ht,run_sizeOf_T hT hte,asIntOf,h1,go_sem]
def MatAt (w:World) (v:Value) (n:Nat) (f:Nat→Nat→Int):Prop:=∃ a cap,v=.slice (some a) n cap∧n≤cap∧∀ i,i<n→∃ b c,w.cell? (a.add i)=some (.slice (some b) n c)∧n≤c∧∀ j,j<n→w.cell? (b.add j)=some (.int .i64 (f i j))
theorem MatAt.ext {w w':World} {v:Value} {n:Nat} {f:Nat→Nat→Int} (h:MatAt w v n f) (hx:Ext w w'):MatAt w' v n f:=by
 obtain ⟨a,cap,hv,hc,h⟩:=h
 refine ⟨a,cap,hv,hc,fun i hi=>?_⟩
 obtain ⟨b,c,h1,h2,h3⟩:=h i hi
 exact ⟨b,c,hx.cell h1,h2,fun j hj=>hx.cell (h3 j hj)⟩
theorem M64.at {w:World} {v:Value} {n:Nat} {f:Nat→Nat→Int} (h:M64 w v (mk n n f)) (hn:0<n):MatAt w v n f:=by
 obtain ⟨rs,h1,h2,h3⟩:=h
 rw [mk_len] at h2
 obtain ⟨p,cap,hv,hl,h0,hc⟩:=h1
 cases p with
 | none=>have:=h0 rfl;omega
 | some a =>
  refine ⟨a,cap,by rw [hv,h2],by omega,fun i hi=>?_⟩
  have hr:rs[i]?=some (rs[i]'(by omega)):=by simp
  have hrow:=h3 i _ _ hr (mk_get hi)
  obtain ⟨p2,c2,hv2,hl2,h02,hc2⟩:=hrow
  have hll:(((List.range n).map (f i)).map i64).length=n:=by simp
  rw [hll] at hv2 hl2
  cases p2 with
  | none=>have:=h02 rfl;omega
  | some b =>
   refine ⟨b,c2,by rw [← hv2];exact hc a rfl i _ hr,hl2,fun j hj=>hc2 b rfl j _ (by simp [hj])⟩
def SmallM (M:List (List Int)):Prop:=(1≤M.length∧M.length≤8)∧(∀ (i:Nat) (row:List Int),M[i]?=some row→row.length=M.length)∧∀ i j,i<M.length→j<M.length→ent M i j=ent M j i∧-262144<ent M i j∧ent M i j<262144
theorem sq_mk {M:List (List Int)} (h:∀ (i:Nat) (row:List Int),M[i]?=some row→row.length=M.length):M=mk M.length M.length (ent M):=by
 apply List.ext_getElem?
 intro i
 by_cases hi:i<M.length
 ·rw [mk_get hi]
  have h1:M[i]?=some M[i]:=by simp
  rw [h1]
  congr 1
  have hl:=h i _ h1
  apply List.ext_getElem?
  intro j
  by_cases hj:j<M.length
  ·have h2:(M[i])[j]?=some ((M[i])[j]'(by omega)):=by simp
   rw [h2,row_get hj,entAt h1 h2]
  ·rw [List.getElem?_eq_none (by omega),List.getElem?_eq_none (by simp;omega)]
 ·rw [List.getElem?_eq_none (by omega),List.getElem?_eq_none (by rw [mk_len];omega)]
set_option maxHeartbeats 1600000 in
theorem isSmall_spec {w:World} {v:Value} {M:List (List Int)} (h:M64 w v M) (hl:M.length≤1000000) :
  Calls Tryz.prog 91 #[v] w (Ret fun x w'=>Ext w w'∧∃ b,x=.bool b∧(b=true↔SmallM M)):=by
 obtain ⟨p,cap,hv⟩:=h.len
 have hM:=h
 obtain ⟨rs,h1,h2,h3⟩:=h
 subst hv
 refine calls_of_St (args:=[_]) Tryz.func91 rfl Tryz.ntmps91 rfl ?_
 refine Nv ?_
 refine .r rfl ?_
 refine Nv ?_
 refine .r rfl ?_
 refine Nv ?_
 by_cases hlo:M.length<1
 ·refine .a 2 (.bool true) rfl (bool_true (by omega)) ?_
  (iterate 6 refine Nv ?_;try refine .r rfl ?_)
  refine .cT ?_
  (iterate 6 refine Nv ?_;try refine .r rfl ?_)
  exact Out.ret1 rfl rfl ⟨Ext.refl _,false,rfl,⟨fun h=>(by cases h),fun h=>absurd h.1 (by omega)⟩⟩
 refine .a 2 (.bool false) rfl (bool_false (by omega)) ?_
 by_cases hhi:8<M.length
 ·refine .a 3 (.bool true) rfl (bool_true (by omega)) ?_
  (iterate 6 refine Nv ?_;try refine .r rfl ?_)
  refine .cT ?_
  (iterate 6 refine Nv ?_;try refine .r rfl ?_)
  exact Out.ret1 rfl rfl ⟨Ext.refl _,false,rfl,⟨fun h=>(by cases h),fun h=>absurd h.1 (by omega)⟩⟩
 refine .a 3 (.bool false) rfl (bool_false (by omega)) ?_
 (iterate 6 refine Nv ?_;try refine .r rfl ?_)
 refine .cF ?_
 (iterate 6 refine Nv ?_;try refine .r rfl ?_)
 refine St.rng TBok (20) (0) (M.length) (by omega) [(0,.slice p M.length cap),(3,.int .i64 M.length),(18,.slice p M.length cap),(19,.int .i64 M.length)] (fun i w'=>w'=w∧∀ (k:Nat) (row:List Int),k<i→M[k]?=some row→row.length=M.length) sbb ?_ (fun _=>⟨rfl,rfl⟩) (fun _=>rfl) (fun _=>⟨rfl,rfl⟩) rfl rfl (by omega) ?_ ?_
 ·exact ⟨rfl,fun k row hk=>by omega⟩
 ·rintro i w hi ⟨rfl,hall⟩
  have hmi:M[i]?=some M[i]:=by simp
  have hri:rs[i]?=some (rs[i]'(by omega)):=by simp
  obtain ⟨a,c,ea,hcell⟩:=h1.get hri
  rw [h2] at ea
  cases ea
  obtain ⟨p2,c2,e2⟩:=(h3 i _ _ hri hmi).len
  rw [e2] at hcell
  refine Nv ?_
  refine .p (RunsTo.ia) ?_
  refine .p (RunsTo.load TBok rfl rfl rfl hcell) ?_
  refine .r rfl ?_
  refine Nv ?_
  by_cases e:(M[i]).length=M.length
  ·refine .a 4 (.bool false) rfl (by rw [bne_eq_false_iff_eq.2 (by omega)]) ?_
   (iterate 6 refine Nv ?_;try refine .r rfl ?_)
   refine .cF ?_
   refine Nv ?_
   refine Out.rnd sbb ⟨rfl,fun k row hk hr=>?_⟩
   by_cases e3:k=i
   ·subst e3;rw [hmi] at hr;cases hr;exact e
   ·exact hall k row (by omega) hr
  ·refine .a 4 (.bool true) rfl (by rw [bne_iff_ne.2 (by omega)]) ?_
   (iterate 6 refine Nv ?_;try refine .r rfl ?_)
   refine .cT ?_
   (iterate 6 refine Nv ?_;try refine .r rfl ?_)
   exact Out.ret1 rfl rfl ⟨Ext.refl _,false,rfl,⟨fun h=>(by cases h),fun h=>absurd (h.2.1 i _ hmi) e⟩⟩
 ·rintro w ⟨rfl,hall⟩
  have hrow:∀ (i:Nat) (row:List Int),M[i]?=some row→row.length=M.length:=fun i row hr=>hall i row (List.getElem?_eq_some_iff.1 hr).1 hr
  have hA:MatAt _ _ _ _:=M64.at (n:=M.length) (f:=ent M) (by rw [← sq_mk hrow];exact hM) (by omega)
  generalize hn:M.length=n at *
  generalize hf:ent M=f at *
  obtain ⟨a,cap',ea,hca,hA⟩:=hA
  cases ea
  have hiff:SmallM M↔∀ i j,i<n→j<n→f i j=f j i∧-262144<f i j∧f i j<262144:=by
   unfold SmallM
   rw [hn,hf]
   exact ⟨fun h=>h.2.2,fun h=>⟨by omega,hrow,h⟩⟩
  (iterate 6 refine Nv ?_;try refine .r rfl ?_)
  refine St.rng TBok (31) (0) (n) (by omega) [(0,.slice (some a) n cap),(29,.slice (some a) n cap),(30,.int .i64 n)] (fun i w'=>w'=w∧∀ x y,x<i→y<n→f x y=f y x∧-262144<f x y∧f x y<262144) sbb ?_ (fun _=>⟨rfl,rfl⟩) (fun _=>rfl) (fun _=>⟨rfl,rfl⟩) rfl rfl (by omega) ?_ ?_
  ·exact ⟨rfl,fun x y hx=>by omega⟩
  ·rintro i w hi ⟨rfl,hall⟩
   obtain ⟨b,c,hc1,_,hc2⟩:=hA i hi
   (iterate 6 refine Nv ?_;try refine .r rfl ?_)
   refine .p (RunsTo.ia) ?_
   refine .p (RunsTo.load TBok rfl rfl rfl hc1) ?_
   (iterate 6 refine Nv ?_;try refine .r rfl ?_)
   refine St.rng TBok (38) (0) (n) (by omega) [(31,.int .i64 i),(0,.slice (some a) n cap),(29,.slice (some a) n cap),(30,.int .i64 n),(6,.int .i64 i),(36,.slice (some b) n c),(37,.int .i64 n)] (fun j w'=>w'=w∧∀ y,y<j→f i y=f y i∧-262144<f i y∧f i y<262144) sbb ?_ (fun _=>⟨rfl,rfl⟩) (fun _=>rfl) (fun _=>⟨rfl,rfl⟩) rfl rfl (by omega) ?_ ?_
   ·exact ⟨rfl,fun y hy=>by omega⟩
   ·rintro j w hj ⟨rfl,hr⟩
    obtain ⟨b2,c2,hd1,_,hd2⟩:=hA j hj
    (iterate 6 refine Nv ?_;try refine .r rfl ?_)
    refine .p (RunsTo.ia) ?_
    refine .p (RunsTo.load TBok rfl rfl rfl (hc2 j hj)) ?_
    (iterate 6 refine Nv ?_;try refine .r rfl ?_)
    refine .p (RunsTo.ia) ?_
    refine .p (RunsTo.load TBok rfl rfl rfl hd1) ?_
    refine .r rfl ?_
    refine .p (RunsTo.ia) ?_
    refine .p (RunsTo.load TBok rfl rfl rfl (hd2 i hi)) ?_
    by_cases e:f i j=f j i
    ·refine .a 1 (.bool false) rfl (by rw [bne_eq_false_iff_eq.2 e]) ?_
     by_cases e2:f i j≤-262144
     ·refine .a 3 (.bool true) rfl (bool_true e2) ?_
      (iterate 6 refine Nv ?_;try refine .r rfl ?_)
      refine .cT ?_
      (iterate 6 refine Nv ?_;try refine .r rfl ?_)
      exact Out.ret1 rfl rfl ⟨Ext.refl _,false,rfl,⟨fun h=>(by cases h),fun h=>absurd ((hiff.1 h) i j hi hj).2.1 (by omega)⟩⟩
     ·refine .a 3 (.bool false) rfl (bool_false e2) ?_
      by_cases e3:f i j≥262144
      ·refine .a 4 (.bool true) rfl (bool_true e3) ?_
       (iterate 6 refine Nv ?_;try refine .r rfl ?_)
       refine .cT ?_
       (iterate 6 refine Nv ?_;try refine .r rfl ?_)
       exact Out.ret1 rfl rfl ⟨Ext.refl _,false,rfl,⟨fun h=>(by cases h),fun h=>absurd ((hiff.1 h) i j hi hj).2.2 (by omega)⟩⟩
      ·refine .a 4 (.bool false) rfl (bool_false e3) ?_
       (iterate 6 refine Nv ?_;try refine .r rfl ?_)
       refine .cF ?_
       refine Nv ?_
       refine Out.rnd sbb ⟨rfl,fun y hy=>?_⟩
       by_cases e4:y=j
       ·subst e4;exact ⟨e,by omega,by omega⟩
       ·exact hr y (by omega)
    ·refine .a 1 (.bool true) rfl (by rw [bne_iff_ne.2 e]) ?_
     (iterate 6 refine Nv ?_;try refine .r rfl ?_)
     refine .cT ?_
     (iterate 6 refine Nv ?_;try refine .r rfl ?_)
     exact Out.ret1 rfl rfl ⟨Ext.refl _,false,rfl,⟨fun h=>(by cases h),fun h=>absurd ((hiff.1 h) i j hi hj).1 e⟩⟩
   ·rintro w ⟨rfl,hr⟩
    refine Nv ?_
    refine Out.rnd sbb ⟨rfl,fun x y hx hy=>?_⟩
    by_cases e4:x=i
    ·subst e4;exact hr y hy
    ·exact hall x y (by omega) hy
  ·rintro w ⟨rfl,hall⟩
   (iterate 6 refine Nv ?_;try refine .r rfl ?_)
   exact Out.ret1 rfl rfl ⟨Ext.refl _,true,rfl,⟨fun _=>hiff.2 hall,fun _=>rfl⟩⟩
def ShortP (m:Nat) (g:Nat→Nat→Int):Prop:=(0<g 0 0∧g 0 0<65536)∧∀ i,0<i→i<m→2 * g i 0≤g 0 0∧-(2 * g i 0)≤g 0 0
set_option maxHeartbeats 1600000 in
theorem isShortened_spec {w:World} {v:Value} {m:Nat} {g:Nat→Nat→Int} (h:MatAt w v m g) (hm:2≤m∧m≤1000000) (hg:∀ i j,i<m→j<m→-1099511627776≤g i j∧g i j≤1099511627776) :
  Calls Tryz.prog 92 #[v] w (Ret fun x w'=>Ext w w'∧∃ b,x=.bool b∧(b=true↔ShortP m g)):=by
 obtain ⟨a,cap,rfl,hca,hA⟩:=h
 obtain ⟨b0,c0,hc0,_,hd0⟩:=hA 0 (by omega)
 refine calls_of_St (args:=[_]) Tryz.func92 rfl Tryz.ntmps92 rfl ?_
 (iterate 6 refine Nv ?_;try refine .r rfl ?_)
 refine .p (RunsTo.ia) ?_
 refine .p (RunsTo.load TBok rfl rfl rfl hc0) ?_
 refine .p (RunsTo.ia) ?_
 refine .p (RunsTo.load TBok rfl rfl rfl (hd0 0 (by omega))) ?_
 refine .r rfl ?_
 refine Nv ?_
 by_cases hlo:g 0 0≤0
 ·refine .a 2 (.bool true) rfl (bool_true (by omega)) ?_
  (iterate 6 refine Nv ?_;try refine .r rfl ?_)
  refine .cT ?_
  (iterate 6 refine Nv ?_;try refine .r rfl ?_)
  exact Out.ret1 rfl rfl ⟨Ext.refl _,false,rfl,⟨fun h=>(by cases h),fun h=>absurd h.1.1 (by omega)⟩⟩
 refine .a 2 (.bool false) rfl (bool_false (by omega)) ?_
 by_cases hhi:65536≤g 0 0
 ·refine .a 3 (.bool true) rfl (bool_true (by omega)) ?_
  (iterate 6 refine Nv ?_;try refine .r rfl ?_)
  refine .cT ?_
  (iterate 6 refine Nv ?_;try refine .r rfl ?_)
  exact Out.ret1 rfl rfl ⟨Ext.refl _,false,rfl,⟨fun h=>(by cases h),fun h=>absurd h.1.2 (by omega)⟩⟩
 refine .a 3 (.bool false) rfl (bool_false (by omega)) ?_
 (iterate 6 refine Nv ?_;try refine .r rfl ?_)
 refine .cF ?_
 (iterate 6 refine Nv ?_;try refine .r rfl ?_)
 refine .p (RunsTo.sliceLo TBok rfl rfl rfl rfl 1 rfl (by omega)) ?_
 rw [if_neg (by omega)]
 obtain ⟨q,rfl⟩:∃ q,m=q+1:=⟨m - 1,by omega⟩
 simp only [Option.map_some,Nat.add_sub_cancel]
 (iterate 6 refine Nv ?_;try refine .r rfl ?_)
 refine St.rng TBok (20) (0) (q) (by omega) [(3,.int .i64 (g 0 0)),(18,.slice (some (a.add (1 * 1))) q (cap - 1)),(19,.int .i64 q)] (fun i w'=>w'=w∧∀ x,0<x→x<i+1→2 * g x 0≤g 0 0∧-(2 * g x 0)≤g 0 0) sbb ?_ (fun _=>⟨rfl,rfl⟩) (fun _=>rfl) (fun _=>⟨rfl,rfl⟩) rfl rfl (by omega) ?_ ?_
 ·exact ⟨rfl,fun x h1 h2=>by omega⟩
 ·rintro i w hi ⟨rfl,hall⟩
  obtain ⟨b,c,hc1,_,hc2⟩:=hA (i+1) (by omega)
  have hc1':w.cell? ((a.add (1 * 1)).add i)=some (.slice (some b) (q+1) c):=by rw [Addr.add_add,show 1 * 1+i=i+1 by omega];exact hc1
  have hb:=hg (i+1) 0 (by omega) (by omega)
  (iterate 6 refine Nv ?_;try refine .r rfl ?_)
  refine .p (RunsTo.ia) ?_
  refine .p (RunsTo.load TBok rfl rfl rfl hc1') ?_
  (iterate 6 refine Nv ?_;try refine .r rfl ?_)
  refine .p (RunsTo.ia) ?_
  refine .p (RunsTo.load TBok rfl rfl rfl (hc2 0 (by omega))) ?_
  refine .a 1 (.int .i64 (2 * g (i+1) 0)) rfl (by rw [i64_id (by omega) (by omega)]) ?_
  by_cases e1:2 * g (i+1) 0 > g 0 0
  ·refine .a 2 (.bool true) rfl (bool_true e1) ?_
   (iterate 6 refine Nv ?_;try refine .r rfl ?_)
   refine .cT ?_
   (iterate 6 refine Nv ?_;try refine .r rfl ?_)
   exact Out.ret1 rfl rfl ⟨Ext.refl _,false,rfl,⟨fun h=>(by cases h),fun h=>absurd (h.2 (i+1) (by omega) (by omega)).1 (by omega)⟩⟩
  ·refine .a 2 (.bool false) rfl (bool_false e1) ?_
   refine .r rfl ?_
   refine .p (RunsTo.ia) ?_
   refine .p (RunsTo.load TBok rfl rfl rfl (hc2 0 (by omega))) ?_
   refine .a 1 (.int .i64 (-(2 * g (i+1) 0))) rfl (by rw [i64_id (by omega) (by omega)];congr 1;omega) ?_
   by_cases e2:-(2 * g (i+1) 0) > g 0 0
   ·refine .a 2 (.bool true) rfl (bool_true e2) ?_
    (iterate 6 refine Nv ?_;try refine .r rfl ?_)
    refine .cT ?_
    (iterate 6 refine Nv ?_;try refine .r rfl ?_)
    exact Out.ret1 rfl rfl ⟨Ext.refl _,false,rfl,⟨fun h=>(by cases h),fun h=>absurd (h.2 (i+1) (by omega) (by omega)).2 (by omega)⟩⟩
   ·refine .a 2 (.bool false) rfl (bool_false e2) ?_
    (iterate 6 refine Nv ?_;try refine .r rfl ?_)
    refine .cF ?_
    refine Nv ?_
    refine Out.rnd sbb ⟨rfl,fun x h1 h2=>?_⟩
    by_cases e4:x=i+1
    ·subst e4;exact ⟨by omega,by omega⟩
    ·exact hall x h1 (by omega)
 ·rintro w ⟨rfl,hall⟩
  (iterate 6 refine Nv ?_;try refine .r rfl ?_)
  exact Out.ret1 rfl rfl ⟨Ext.refl _,true,rfl,⟨fun _=>⟨⟨by omega,by omega⟩,hall⟩,fun _=>rfl⟩⟩
end Go.Qf
namespace Go.Qf
open Go Go.RowKit Go.Proofs
theorem RunsTo.quoT {P:Program} {n:Nat} {E:List (Nat×Value)} {w:World} {d:Option Tmp} {t t2:TypeId} {x y:Operand} {ty:TypeId} {pos:String} {af:Array Edge} {g:Option (Nat×Bool)} {k:IntKind} {m s:Int} (hx:ov E x=some (.int k m)) (hy:ov E y=some (.int k s)) (hs:s≠0) :
  RunsTo P n ⟨d,.binOp .quo t x y t2,ty,pos,af,g⟩ E w (.int k (k.wrap (m.tdiv s))):=by
 intro a ha
 have e1:=ha.eval hx
 have e2:=ha.eval hy
 generalize a.eval=ρ at e1 e2
 simp [execOp,e1,e2,eqGuard,binOp,Op.intDiv,hs,go_sem]
section
variable {n k:Nat} {f:Nat→Nat→Int}
structure OkS (n:Nat) (f:Nat→Nat→Int) (k:Nat):Prop where
 pos:Pos k (RA f)
 lt:∀ m,m≤k→dd (RA f) m<65536
 sz:∀ l,l<k→∀ i,l<i→i<n→SzP (RA f) i l
theorem stage_EL (hS:Sym (RA f)) (h:OkS n f k) (hf:∀ p q,p<n→q<n→RA f p q≤262144∧-262144≤RA f p q):∀ m,m≤k→∀ p q,m≤p→m≤q→p<n→q<n→EL (RA f) m p q≤262144+(m:Rat) * 16384∧-(262144+(m:Rat) * 16384)≤EL (RA f) m p q:=by
 intro m
 induction m with
 | zero =>
  intro _ p q _ _ hp hq
  have:=hf p q hp hq
  have e:((0:Nat):Rat)=0:=rfl
  rw [e]
  have e2:EL (RA f) 0 p q=RA f p q:=rfl
  rw [e2]
  constructor <;> grind
 | succ m ih =>
  intro hm p q hp hq hpn hqn
  have i1:=ih (by omega) p q (by omega) (by omega) hpn hqn
  have hB:=piv_pos h.pos (show m<k by omega)
  have hB2:=piv_lt h.pos (show m<k by omega) (h.lt (m+1) hm)
  have s1:=(szP_EL (h.pos m (by omega))).1 (h.sz m (by omega) p (by omega) hpn)
  have s2:=(szP_EL (h.pos m (by omega))).1 (h.sz m (by omega) q (by omega) hqn)
  have e:((m+1:Nat):Rat)=(m:Rat)+1:=by rw [Rat.natCast_add];rfl
  rw [EL_inv,e,EL_sym hS m m q]
  have hv:=Rat.mul_inv_cancel _ (show EL (RA f) m m m≠0 by grind)
  have hp2:=inv_pos' hB
  generalize EL (RA f) m p m=x at *
  generalize EL (RA f) m q m=y at *
  generalize EL (RA f) m m m=B at *
  generalize B⁻¹=v at *
  have h1:=mul_abs (a:=2 * x) (b:=2 * y) (M:=B) (c:=B) ⟨by grind,by grind⟩ ⟨by grind,by grind⟩
  have h2:=mul_le' (Rat.le_of_lt hp2) h1.1
  have h3:=mul_le' (Rat.le_of_lt hp2) h1.2
  have e1:v * (B * B)=B:=by grind
  have e2:v * (-(B * B))=-B:=by grind
  rw [e1] at h2
  rw [e2] at h3
  constructor <;> grind
theorem stage_BB (hS:Sym (RA f)) (h:OkS n f k) (hk:k≤8) (hf:∀ p q,p<n→q<n→RA f p q≤262144∧-262144≤RA f p q) {p q:Nat} (hp:k≤p) (hq:k≤q) (hpn:p<n) (hqn:q<n):BB (RA f) k p q≤25769803776∧-25769803776≤BB (RA f) k p q:=by
 have h1:=stage_EL hS h hf k (Nat.le_refl _) p q hp hq hpn hqn
 have h2:(k:Rat)≤8:=by exact_mod_cast hk
 have h3:=h.lt k (Nat.le_refl _)
 have h4:=h.pos k (Nat.le_refl _)
 unfold BB
 have:=mul_abs (a:=dd (RA f) k) (b:=EL (RA f) k p q) (M:=65536) (c:=393216) ⟨by grind,by grind⟩ ⟨by grind,by grind⟩
 constructor <;> grind
theorem int_of_rat {z:Int} {a b:Int} (h:(z:Rat)≤(b:Rat)∧-(a:Rat)≤(z:Rat)):-a≤z∧z≤b:=by
 refine ⟨?_,by exact_mod_cast h.1⟩
 have h2:=h.2
 rw [← Rat.intCast_neg] at h2
 exact_mod_cast h2
theorem rlt {z:Int}:(z:Rat)<65536↔z<65536:=Rat.intCast_lt_intCast (a:=z) (b:=65536)
theorem rlt2 {z:Int}:(z:Rat)<262144↔z<262144:=Rat.intCast_lt_intCast (a:=z) (b:=262144)
theorem rgt2 {z:Int}:-262144<(z:Rat)↔-262144<z:=Rat.intCast_lt_intCast (a:=-262144) (b:=z)
def nxt (g:Nat→Nat→Int) (L:Int):Nat→Nat→Int:=fun i j=>(g 0 0 * g (i+1) (j+1) - g (i+1) 0 * g 0 (j+1)).tdiv L
def Stg (n:Nat) (f:Nat→Nat→Int) (k:Nat) (g:Nat→Nat→Int) (L:Int):Prop:=(L:Rat)=dd (RA f) k∧∀ i j,i<n - k→j<n - k→(g i j:Rat)=BB (RA f) k (k+i) (k+j)
theorem Stg.bnd {g:Nat→Nat→Int} {L:Int} (h:Stg n f k g L) (hS:Sym (RA f)) (hO:OkS n f k) (hk:k≤8) (hf:∀ p q,p<n→q<n→RA f p q≤262144∧-262144≤RA f p q) {i j:Nat} (hi:i<n - k) (hj:j<n - k):-25769803776≤g i j∧g i j≤25769803776:=by
 have h1:=stage_BB hS hO hk hf (show k≤k+i by omega) (show k≤k+j by omega) (by omega) (by omega)
 rw [← h.2 i j hi hj] at h1
 exact int_of_rat (a:=25769803776) (b:=25769803776) h1
theorem Stg.L_pos {g:Nat→Nat→Int} {L:Int} (h:Stg n f k g L) (hO:OkS n f k):0<L∧L<65536:=by
 have h1:=hO.pos k (Nat.le_refl _)
 have h2:=hO.lt k (Nat.le_refl _)
 rw [← h.1] at h1 h2
 exact ⟨by exact_mod_cast h1,rlt.1 h2⟩
theorem Stg.short {g:Nat→Nat→Int} {L:Int} (h:Stg n f k g L) (hkn:k<n):ShortP (n - k) g↔(0<dd (RA f) (k+1)∧dd (RA f) (k+1)<65536)∧∀ i,k<i→i<n→SzP (RA f) i k:=by
 have h0:=h.2 0 0 (by omega) (by omega)
 rw [Nat.add_zero,BB_diag] at h0
 have hi:∀ i,k<i→i<n→(g (i - k) 0:Rat)=BB (RA f) k i k:=fun i h1 h2=>by
  have:=h.2 (i - k) 0 (by omega) (by omega)
  rw [show k+(i - k)=i by omega,Nat.add_zero] at this
  exact this
 have c2:((2:Int):Rat)=2:=rfl
 constructor
 ·rintro ⟨⟨a1,a2⟩,a3⟩
  refine ⟨by rw [← h0];exact ⟨by exact_mod_cast a1,rlt.2 a2⟩,fun i h1 h2=>?_⟩
  have:=a3 (i - k) (by omega) (by omega)
  unfold SzP
  rw [← hi i h1 h2,← h0,← c2,← Rat.intCast_mul,← Rat.intCast_neg]
  exact ⟨by exact_mod_cast this.1,by exact_mod_cast this.2⟩
 ·rintro ⟨⟨a1,a2⟩,a3⟩
  rw [← h0] at a1 a2
  refine ⟨⟨by exact_mod_cast a1,rlt.1 a2⟩,fun i h1 h2=>?_⟩
  have:=a3 (k+i) (by omega) (by omega)
  unfold SzP at this
  rw [← hi (k+i) (by omega) (by omega),← h0,show k+i - k=i by omega,← c2,← Rat.intCast_mul,← Rat.intCast_neg] at this
  exact ⟨by exact_mod_cast this.1,by exact_mod_cast this.2⟩
theorem Stg.next {g:Nat→Nat→Int} {L:Int} (h:Stg n f k g L) (hp:∀ m,m≤k+1→0<dd (RA f) m) (hkn:k+1<n):Stg n f (k+1) (nxt g L) (g 0 0):=by
 have h0:=h.2 0 0 (by omega) (by omega)
 rw [Nat.add_zero,BB_diag] at h0
 refine ⟨h0,fun i j hi hj=>?_⟩
 have hne:dd (RA f) (k+1)≠0:=by have:=hp (k+1) (Nat.le_refl _);grind
 have hne0:dd (RA f) k≠0:=by have:=hp k (by omega);grind
 obtain ⟨z,hz⟩:=BB_int (RA_int f) (k+1) (k+1+i) (k+1+j) hne
 have hs:=BB_succ (RA f) k (k+1+i) (k+1+j) hne
 have e1:=h.2 (i+1) (j+1) (by omega) (by omega)
 have e2:=h.2 (i+1) 0 (by omega) (by omega)
 have e3:=h.2 0 (j+1) (by omega) (by omega)
 rw [show k+(i+1)=k+1+i by omega] at e1 e2
 rw [show k+(j+1)=k+1+j by omega] at e1 e3
 rw [Nat.add_zero k] at e2 e3
 rw [BB_diag,hz,← h.1,← h0,← e1,← e2,← e3,← Rat.intCast_mul,← Rat.intCast_mul,← Rat.intCast_mul,← Rat.intCast_sub] at hs
 have hs':z * L=g 0 0 * g (i+1) (j+1) - g (i+1) 0 * g 0 (j+1):=by exact_mod_cast hs
 have hL:L≠0:=by
  intro e
  rw [e] at h
  apply hne0
  rw [← h.1]
  rfl
 rw [hz]
 unfold nxt
 rw [← hs',Int.mul_tdiv_cancel _ hL]
theorem OkS.next {g:Nat→Nat→Int} {L:Int} (hO:OkS n f k) (h:Stg n f k g L) (hs:ShortP (n - k) g) (hkn:k<n):OkS n f (k+1):=by
 obtain ⟨⟨a1,a2⟩,a3⟩:=(h.short hkn).1 hs
 refine ⟨fun m hm=>?_,fun m hm=>?_,fun l hl i h1 h2=>?_⟩
 ·by_cases e:m=k+1
  ·subst e;exact a1
  ·exact hO.pos m (by omega)
 ·by_cases e:m=k+1
  ·subst e;exact a2
  ·exact hO.lt m (by omega)
 ·by_cases e:l=k
  ·subst e;exact a3 i h1 h2
  ·exact hO.sz l (by omega) i h1 h2
theorem Stg.lov {g g':Nat→Nat→Int} {L d:Int} (h:Stg n f k g L) (h':Stg n f (k+1) g' d) (hkn:k+1<n):LvP (RA f) (k+1)↔3 * d * d≤4 * (L * g' 0 0+g 1 0 * g 1 0):=by
 have h0:=h'.2 0 0 (by omega) (by omega)
 rw [Nat.add_zero,BB_diag] at h0
 have h1:=h.2 1 0 (by omega) (by omega)
 rw [Nat.add_zero k] at h1
 unfold LvP
 rw [show k+1 - 1=k by omega,← h0,← h1,← h.1,← h'.1]
 have e:(3:Rat) * ((d:Rat) * d)=((3 * d * d:Int):Rat):=by
  rw [Rat.intCast_mul,Rat.intCast_mul]
  have:((3:Int):Rat)=3:=rfl
  rw [this];grind
 have e2:(4:Rat) * ((L:Rat) * (g' 0 0:Rat)+(g 1 0:Rat) * (g 1 0:Rat))=((4 * (L * g' 0 0+g 1 0 * g 1 0):Int):Rat):=by
  rw [Rat.intCast_mul,Rat.intCast_add,Rat.intCast_mul,Rat.intCast_mul]
  rfl
 rw [e,e2]
 exact Rat.intCast_le_intCast
end
theorem Red.small {M:List (List Int)} (h:Red M):SmallM M:=by
 obtain ⟨hR,_⟩:=h.redF
 have hS:Sym (RA (ent M)):=fun p q=>by unfold RA;rw [hR.sym p q]
 obtain ⟨ho,hl,h8,hf,hd,hr⟩:=h
 refine ⟨⟨ho.1,h8⟩,fun i row hi=>by have:=(ho.2.2 i row hi).2.2;omega,fun i j hi hj=>⟨hR.sym i j,?_⟩⟩
 have:=red_entry h8 hS hR.pos hr hd hi hj
 unfold RA at this
 have h1:=this.1
 have h2:=this.2
 exact ⟨rgt2.1 h2,rlt2.1 h1⟩
end Go.Qf
