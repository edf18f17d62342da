/- Lemmas on the model and on the program's functions, part Ztc. -/
import GoSem.Core.View
import Derived.WalkKit
import Derived.Deep.Quiet
import Derived.Deep.LoopGhost
import Derived.KernelRfl
import Derived.Test.YtlhbkhjaajcfgaaGreatProg
import Derived.Laws.BytesString
import Derived.Laws.RangeString
import Derived.Lib.OthersKept
import Derived.Laws.Strings
import Derived.ProofKit
import Derived.OpenShut
import Derived.Lib.SmallJoins
import Derived.Carry
import Derived.ChangeMaps5
import Derived.Maps.AppendAt
import Derived.Laws.Externs
import Derived.Lib.Bytealg
import Derived.ChangeArms
import Derived.Laws.OwnMore
import Derived.Scope
import Derived.RangeFuncLeaves
import Derived.RangeFuncRecord
import Derived.TacticsIn
import Derived.OrdersIn
import Derived.Test.YtlhbkhjaajcfgaaGreatRows
import Derived.Test.YtlhbkhjaajcfgaaGreatZta
import Derived.Test.YtlhbkhjaajcfgaaGreatZtb
set_option linter.unusedVariables false
set_option linter.unusedSimpArgs false
namespace Go.Qf
open Go Go.RowKit Go.Proofs
set_option maxRecDepth 20000
theorem sg_sum_same (neg:Bool) (m k:Nat):sg neg (m+k)=sg neg m+sg neg k:=by
 cases neg <;> simp [sg];omega
theorem sg_diff (neg:Bool) (m k:Nat) (h:k≤m):sg neg (m - k)=sg neg m+sg (!neg) k:=by
 cases neg <;> simp [sg] <;> omega
theorem StL.finCan {base n:Nat} {E:List (Nat×Value)} {w w0:World} {ops:Array Oper} {Q:Exit→Act→World→Prop} {t s:Nat} {ty:TypeId} {pos:String} {af:Array Edge} {b:Nat} {C:List Value} {v:Value} {a:Int}
  (ht:look E t=some (.pointer (some ⟨b,0,none⟩))) (hs:look E s=some v) (hb:Blk 31 w b C) (hC:C.length=2) (hv:CanO base w v a) (hx:Ext w0 w) (hb0:w0.heap.size≤b)
  (hQ:∀ w',Ext w0 w'→CanO base w' v a→(∀ (fn:Func) (Φ:Value→World→Prop),fn.results=#[.cell t 31]→Φ v w'→Out n E w' .ret (bodyPost Tryz.prog fn (Ret Φ)))→Out n E w' .normal Q) :
  StL Tryz.prog n E w ops [⟨none,.store 31 (.tmp t) (.tmp s),ty,pos,af,none⟩] Q:=by
 refine StL.retCan ht hs hb hC hv hx hb0 ?_
 intro w4 cs hcs hl hb4 hu4 hx4
 refine StL.nil (hQ w4 hx4 (CanO.upd hv hu4 ⟨_,hb⟩) ?_)
 intro fn Φ hr hΦ
 exact Out.rets TBok [v] hr ⟨⟨_,_,_,_,ht,hb4,rfl,rfl,hl,hcs⟩,trivial⟩ hΦ
set_option maxHeartbeats 400000 in
theorem addSigned_spec (w:World) (na nb:Bool) (u v:Value) (m k:Nat) (h:Sl w u (limbs m)) (hk:Sl w v (limbs k)) (hlen:(limbs m).length≤10000000) (hl:(limbs k).length≤10000000) :
  Calls Tryz.prog 102 #[.bool na,u,.bool nb,v] w (Ret fun r w'=>Ext w w'∧Can w' r (sg na m+sg nb k)):=by
 refine calls_of_St (args:=[_,_,_,_]) Tryz.func102 rfl Tryz.ntmps102 rfl ?_
 refine Nv ?_
 refine .s (OpR.alloc TBok rfl) ?_
 rintro _ w1 ⟨rfl,hb,hx1,_⟩
 have h1:=h.ext hx1
 have k1:=hk.ext hx1
 (iterate 6 refine Nv ?_;try refine .r rfl ?_)
 refine .p (RunsTo.boolEq TBok rfl rfl rfl) ?_
 (iterate 6 refine Nv ?_;try refine .r rfl ?_)
 by_cases hs:na=nb
 ·subst hs
  refine St.condT rfl (by simp) ?_
  (iterate 6 refine Nv ?_;try refine .r rfl ?_)
  refine .s (OpR.call fn_integer_addNat rfl (addNat_spec w1 _ _ _ _ h1 k1 (by omega) (by omega))) ?_
  rintro sl w2 ⟨hx2,hsl⟩
  rw [val_limbs,val_limbs] at hsl
  have hll:=limbs_add_length m k
  refine .s (OpR.call fn_integer_build rfl (build_spec' w2 na sl (m+k) hsl (by omega))) ?_
  rintro r w3 ⟨hx3,hv⟩
  rw [sg_sum_same] at hv
  refine StL.finCan rfl rfl ((hb.ext hx2).ext hx3) rfl hv ((hx1.trans hx2).trans hx3) (Nat.le_refl _) ?_
  intro w' hxf hcf fin
  refine Nv ?_
  exact fin _ _ rfl ⟨hxf,hcf⟩
 have hnb:nb=!na:=by cases na <;> cases nb <;> simp_all
 subst hnb
 refine St.condF rfl (by cases na <;> rfl) ?_
 (iterate 6 refine Nv ?_;try refine .r rfl ?_)
 refine .s (OpR.call fn_integer_compareNat rfl (compareNat_spec w1 _ _ m k h1 k1 (by omega) (by omega))) ?_
 rintro _ w2 ⟨hx2,rfl⟩
 have h2:=h1.ext hx2
 have k2:=k1.ext hx2
 have hb2:=hb.ext hx2
 have hx12:=hx1.trans hx2
 by_cases hge:k≤m
 ·refine .a 1 (.bool true) rfl (bool_true (by unfold cmpN;rw [if_neg (by omega)];split <;> decide)) ?_
  (iterate 6 refine Nv ?_;try refine .r rfl ?_)
  refine .cT ?_
  (iterate 6 refine Nv ?_;try refine .r rfl ?_)
  have hmono:=limbs_length_mono k m hge
  refine .s (OpR.call fn_integer_subNat rfl (subNat_spec w2 _ _ _ _ h2 k2 (by omega) (by omega) hmono (by rw [val_limbs,val_limbs];exact hge))) ?_
  rintro sl w3 ⟨hx3,hsl⟩
  rw [val_limbs,val_limbs] at hsl
  have hll:=limbs_length_mono (m - k) m (Nat.sub_le _ _)
  refine .s (OpR.call fn_integer_build rfl (build_spec' w3 na sl (m - k) hsl (by omega))) ?_
  rintro r w4 ⟨hx4,hv⟩
  rw [sg_diff _ _ _ hge] at hv
  refine StL.finCan rfl rfl ((hb2.ext hx3).ext hx4) rfl hv ((hx12.trans hx3).trans hx4) (Nat.le_refl _) ?_
  intro w' hxf hcf fin
  refine Nv ?_
  exact fin _ _ rfl ⟨hxf,hcf⟩
 ·refine .a 1 (.bool false) rfl (bool_false (by unfold cmpN;rw [if_pos (by omega)];decide)) ?_
  (iterate 6 refine Nv ?_;try refine .r rfl ?_)
  refine .cF ?_
  (iterate 6 refine Nv ?_;try refine .r rfl ?_)
  have hmono:=limbs_length_mono m k (by omega)
  refine .s (OpR.call fn_integer_subNat rfl (subNat_spec w2 _ _ _ _ k2 h2 (by omega) (by omega) hmono (by rw [val_limbs,val_limbs];omega))) ?_
  rintro sl w3 ⟨hx3,hsl⟩
  rw [val_limbs,val_limbs] at hsl
  have hll:=limbs_length_mono (k - m) k (Nat.sub_le _ _)
  refine .s (OpR.call fn_integer_build rfl (build_spec' w3 (!na) sl (k - m) hsl (by omega))) ?_
  rintro r w4 ⟨hx4,hv⟩
  rw [sg_diff _ _ _ (by omega),Bool.not_not,Int.add_comm] at hv
  refine StL.finCan rfl rfl ((hb2.ext hx3).ext hx4) rfl hv ((hx12.trans hx3).trans hx4) (Nat.le_refl _) ?_
  intro w' hxf hcf fin
  refine Nv ?_
  exact fin _ _ rfl ⟨hxf,hcf⟩
theorem Den.trimmed {w:World} {_neg:Bool} {p:Option Addr} {cap:Nat} {xs:List Nat} (hs:Sl w (.slice p xs.length cap) xs):Sl w (.slice p (limbs (val xs)).length cap) (limbs (val xs)):=by
 have:=hs.cut (limbs (val xs)).length (limbs_length_le _ hs.2)
 rwa [← limbs_is_take hs.2] at this
set_option maxHeartbeats 400000 in
theorem add_spec (w:World) (x y:Value) (na nb:Bool) (xs ys:List Nat) (h:Den w x na xs) (k:Den w y nb ys) (hlen:xs.length≤10000000) (hl:ys.length≤10000000) :
  Calls Tryz.prog 54 #[x,y] w (Ret fun r w'=>Ext w w'∧Can w' r (sg na (val xs)+sg nb (val ys))):=by
 obtain ⟨p,cap,rfl,hs⟩:=h
 obtain ⟨q,cb,rfl,ks⟩:=k
 refine calls_of_St (args:=[_,_]) Tryz.func54 rfl Tryz.ntmps54 rfl ?_
 refine Nv ?_
 refine .s (OpR.box rfl) ?_
 rintro _ w1 ⟨rfl,hb1,hx1,_⟩
 refine .s (OpR.box rfl) ?_
 rintro _ w2 ⟨rfl,hb2,hx2,_⟩
 refine .s (OpR.alloc TBok rfl) ?_
 rintro _ w3 ⟨rfl,hb3,hx3,_⟩
 have hx03:=(hx1.trans hx2).trans hx3
 have h3:=hs.ext hx03
 have k3:=ks.ext hx03
 have hba:=(hb1.ext hx2).ext hx3
 have hbb:=hb2.ext hx3
 have hl1:=limbs_length_le xs hs.2
 have hl2:=limbs_length_le ys ks.2
 refine Nv ?_
 refine St.draw 11 [(5,Is (.pointer (some ⟨w.heap.size,0,none⟩))),(6,Is (.bool na)),(7,Is (.pointer (some ⟨w.heap.size,1,none⟩))),(8,Is (.slice p xs.length cap)),(9,Is (.slice p (limbs (val xs)).length cap)),(10,Is (.pointer (some ⟨w1.heap.size,0,none⟩))),(11,Is (.bool nb)),(12,Is (.pointer (some ⟨w1.heap.size,1,none⟩))),(13,Is (.slice q ys.length cb)),(14,Is (.slice q (limbs (val ys)).length cb)),(15,fun v w'=>Can w' v (sg na (val xs)+sg nb (val ys)))] TBfol (by kernel_rfl) rfl (by kernel_rfl) (by kernel_rfl)
  ⟨Is.mono _,Is.mono _,Is.mono _,Is.mono _,Is.mono _,Is.mono _,Is.mono _,Is.mono _,Is.mono _,Is.mono _,fun _ _ _ hx hv=>hv.ext hx,trivial⟩ ?_ ?_
 ·refine ⟨?_,?_,?_,?_,?_,?_,?_,?_,?_,?_,?_,trivial⟩
  ·exact fun w4 hx4=>OpG.pure TBok rfl rfl rfl rfl rfl rfl
  ·rintro w4 hx4 _ rfl
   exact OpG.run rfl rfl rfl rfl (RunsTo.load TBok rfl rfl rfl ((hba.ext hx4).cell rfl)) rfl
  ·exact fun w4 hx4=>OpG.pure TBok rfl rfl rfl rfl rfl rfl
  ·rintro w4 hx4 _ rfl
   exact OpG.run rfl rfl rfl rfl (RunsTo.load TBok rfl rfl rfl ((hba.ext hx4).cell rfl)) rfl
  ·rintro w4 hx4 _ rfl
   refine OpG.call fn_integer_trim rfl rfl rfl (trim_spec w4 _ _ (h3.ext hx4) (by omega)) ?_
   rintro v w5 ⟨rfl,rfl,_⟩
   exact ⟨Ext.refl _,rfl⟩
  ·exact fun w4 hx4=>OpG.pure TBok rfl rfl rfl rfl rfl rfl
  ·rintro w4 hx4 _ rfl
   exact OpG.run rfl rfl rfl rfl (RunsTo.load TBok rfl rfl rfl ((hbb.ext hx4).cell rfl)) rfl
  ·exact fun w4 hx4=>OpG.pure TBok rfl rfl rfl rfl rfl rfl
  ·rintro w4 hx4 _ rfl
   exact OpG.run rfl rfl rfl rfl (RunsTo.load TBok rfl rfl rfl ((hbb.ext hx4).cell rfl)) rfl
  ·rintro w4 hx4 _ rfl
   refine OpG.call fn_integer_trim rfl rfl rfl (trim_spec w4 _ _ (k3.ext hx4) (by omega)) ?_
   rintro v w5 ⟨rfl,rfl,_⟩
   exact ⟨Ext.refl _,rfl⟩
  ·rintro w4 hx4 _ rfl _ rfl _ rfl _ rfl
   exact OpG.call fn_integer_addSigned rfl rfl rfl (addSigned_spec w4 na nb _ _ _ _ (Den.trimmed (_neg:=na) (h3.ext hx4)) (Den.trimmed (_neg:=nb) (k3.ext hx4)) (by omega) (by omega)) (fun v w' hv=>hv)
 intro w4 hx4 v5 _ v6 _ v7 _ v8 _ v9 _ v10 _ v11 _ v12 _ v13 _ v14 _ v15 h15 _
 refine StL.finCan rfl rfl (hb3.ext hx4) rfl h15 (hx03.trans hx4) (hx1.trans hx2).size ?_
 intro w' hxf hcf fin
 refine Nv ?_
 exact fin _ _ rfl ⟨hxf,hcf⟩
set_option maxHeartbeats 400000 in
theorem sub_spec (w:World) (x y:Value) (na nb:Bool) (xs ys:List Nat) (h:Den w x na xs) (k:Den w y nb ys) (hlen:xs.length≤10000000) (hl:ys.length≤10000000) :
  Calls Tryz.prog 48 #[x,y] w (Ret fun r w'=>Ext w w'∧Can w' r (sg na (val xs)+sg (!nb) (val ys))):=by
 obtain ⟨p,cap,rfl,hs⟩:=h
 obtain ⟨q,cb,rfl,ks⟩:=k
 refine calls_of_St (args:=[_,_]) Tryz.func48 rfl Tryz.ntmps48 rfl ?_
 refine Nv ?_
 refine .s (OpR.box rfl) ?_
 rintro _ w1 ⟨rfl,hb1,hx1,_⟩
 refine .s (OpR.box rfl) ?_
 rintro _ w2 ⟨rfl,hb2,hx2,_⟩
 refine .s (OpR.alloc TBok rfl) ?_
 rintro _ w3 ⟨rfl,hb3,hx3,_⟩
 have hx03:=(hx1.trans hx2).trans hx3
 have h3:=hs.ext hx03
 have k3:=ks.ext hx03
 have hba:=(hb1.ext hx2).ext hx3
 have hbb:=hb2.ext hx3
 have hl1:=limbs_length_le xs hs.2
 have hl2:=limbs_length_le ys ks.2
 refine Nv ?_
 refine St.draw 12 [(5,Is (.pointer (some ⟨w.heap.size,0,none⟩))),(6,Is (.bool na)),(7,Is (.pointer (some ⟨w.heap.size,1,none⟩))),(8,Is (.slice p xs.length cap)),(9,Is (.slice p (limbs (val xs)).length cap)),(10,Is (.pointer (some ⟨w1.heap.size,0,none⟩))),(11,Is (.bool nb)),(12,Is (.bool (!nb))),(13,Is (.pointer (some ⟨w1.heap.size,1,none⟩))),(14,Is (.slice q ys.length cb)),(15,Is (.slice q (limbs (val ys)).length cb)),(16,fun v w'=>Can w' v (sg na (val xs)+sg (!nb) (val ys)))] TBfol (by kernel_rfl) rfl (by kernel_rfl) (by kernel_rfl)
  ⟨Is.mono _,Is.mono _,Is.mono _,Is.mono _,Is.mono _,Is.mono _,Is.mono _,Is.mono _,Is.mono _,Is.mono _,Is.mono _,fun _ _ _ hx hv=>hv.ext hx,trivial⟩ ?_ ?_
 ·refine ⟨?_,?_,?_,?_,?_,?_,?_,?_,?_,?_,?_,?_,trivial⟩
  ·exact fun w4 hx4=>OpG.pure TBok rfl rfl rfl rfl rfl rfl
  ·rintro w4 hx4 _ rfl
   exact OpG.run rfl rfl rfl rfl (RunsTo.load TBok rfl rfl rfl ((hba.ext hx4).cell rfl)) rfl
  ·exact fun w4 hx4=>OpG.pure TBok rfl rfl rfl rfl rfl rfl
  ·rintro w4 hx4 _ rfl
   exact OpG.run rfl rfl rfl rfl (RunsTo.load TBok rfl rfl rfl ((hba.ext hx4).cell rfl)) rfl
  ·rintro w4 hx4 _ rfl
   refine OpG.call fn_integer_trim rfl rfl rfl (trim_spec w4 _ _ (h3.ext hx4) (by omega)) ?_
   rintro v w5 ⟨rfl,rfl,_⟩
   exact ⟨Ext.refl _,rfl⟩
  ·exact fun w4 hx4=>OpG.pure TBok rfl rfl rfl rfl rfl rfl
  ·rintro w4 hx4 _ rfl
   exact OpG.run rfl rfl rfl rfl (RunsTo.load TBok rfl rfl rfl ((hbb.ext hx4).cell rfl)) rfl
  ·rintro w4 hx4 _ rfl
   exact OpG.pure TBok rfl rfl rfl rfl rfl rfl
  ·exact fun w4 hx4=>OpG.pure TBok rfl rfl rfl rfl rfl rfl
  ·rintro w4 hx4 _ rfl
   exact OpG.run rfl rfl rfl rfl (RunsTo.load TBok rfl rfl rfl ((hbb.ext hx4).cell rfl)) rfl
  ·rintro w4 hx4 _ rfl
   refine OpG.call fn_integer_trim rfl rfl rfl (trim_spec w4 _ _ (k3.ext hx4) (by omega)) ?_
   rintro v w5 ⟨rfl,rfl,_⟩
   exact ⟨Ext.refl _,rfl⟩
  ·rintro w4 hx4 _ rfl _ rfl _ rfl _ rfl
   exact OpG.call fn_integer_addSigned rfl rfl rfl (addSigned_spec w4 na (!nb) _ _ _ _ (Den.trimmed (_neg:=na) (h3.ext hx4)) (Den.trimmed (_neg:=nb) (k3.ext hx4)) (by omega) (by omega)) (fun v w' hv=>hv)
 intro w4 hx4 v5 _ v6 _ v7 _ v8 _ v9 _ v10 _ v11 _ v12 _ v13 _ v14 _ v15 _ v16 h16 _
 refine StL.finCan rfl rfl (hb3.ext hx4) rfl h16 (hx03.trans hx4) (hx1.trans hx2).size ?_
 intro w' hxf hcf fin
 refine Nv ?_
 exact fin _ _ rfl ⟨hxf,hcf⟩
theorem sg_not (neg:Bool) (m:Nat):sg (!neg) m=- sg neg m:=by
 cases neg <;> simp [sg]
theorem RunsTo.loadInt {n:Nat} {E:List (Nat×Value)} {w:World} {d:Option Tmp} {x:Operand} {ty:TypeId} {pos:String} {af:Array Edge} {g:Option (Nat×Bool)} {b:Nat} {cs:List Value} {v:Value} (hx:ov E x=some (.pointer (some ⟨b,0,none⟩))) (hb:Blk 31 w b cs) (hl:cs.length=2) (hv:v=.agg cs.toArray) :
  RunsTo Tryz.prog n ⟨d,.load 31 x,ty,pos,af,g⟩ E w v:=by
 subst hv
 refine RunsTo.loadAgg TBok rfl rfl hx hb (by rw [hl];exact Nat.le_refl 2) ?_
 rw [List.drop_zero]
 exact List.take_of_length_le (by rw [hl];exact Nat.le_refl 2)
def signI (a:Int):Int:=if a<0 then -1 else if a=0 then 0 else 1
theorem signI_sg (neg:Bool) (m:Nat):signI (sg neg m)=if m=0 then 0 else if neg then -1 else 1:=by
 unfold signI sg
 cases neg <;> by_cases h:m=0 <;> simp [h] <;> omega
theorem sign_spec (w:World) (v:Value) (neg:Bool) (xs:List Nat) (h:Den w v neg xs) (hlen:xs.length≤100000000) :
  Calls Tryz.prog 95 #[v] w (Ret fun r w'=>Ext w w'∧r=.int .i64 (signI (sg neg (val xs)))):=by
 obtain ⟨p,cap,rfl,hs⟩:=h
 refine calls_of_St (args:=[_]) Tryz.func95 rfl Tryz.ntmps95 rfl ?_
 refine Nv ?_
 refine .s (OpR.box rfl) ?_
 rintro _ w1 ⟨rfl,hb,hx1,_⟩
 have hs1:=hs.ext hx1
 (iterate 6 refine Nv ?_;try refine .r rfl ?_)
 refine .p (RunsTo.load TBok rfl rfl rfl (hb.cell rfl)) ?_
 refine .s (OpR.call fn_integer_trim rfl (trim_spec w1 _ _ hs1 (by omega))) ?_
 rintro _ w2 ⟨rfl,rfl,_⟩
 rw [signI_sg]
 (iterate 6 refine Nv ?_;try refine .r rfl ?_)
 by_cases h0:val xs=0
 ·refine St.condT rfl (by rw [h0];rfl) ?_
  (iterate 6 refine Nv ?_;try refine .r rfl ?_)
  exact Out.ret1 rfl rfl ⟨hx1,by rw [if_pos h0]⟩
 refine St.condF rfl (by simp [limbs_eq_nil,h0]) ?_
 (iterate 6 refine Nv ?_;try refine .r rfl ?_)
 refine .p (RunsTo.load TBok rfl rfl rfl (hb.cell rfl)) ?_
 (iterate 6 refine Nv ?_;try refine .r rfl ?_)
 cases neg with
 | true =>
  refine .cT ?_
  (iterate 6 refine Nv ?_;try refine .r rfl ?_)
  exact Out.ret1 rfl rfl ⟨hx1,by rw [if_neg h0];rfl⟩
 | false =>
  refine .cF ?_
  (iterate 6 refine Nv ?_;try refine .r rfl ?_)
  exact Out.ret1 rfl rfl ⟨hx1,by rw [if_neg h0];rfl⟩
theorem sg_mul (na nb:Bool) (m k:Nat):sg (!(na == nb)) (m * k)=sg na m * sg nb k:=by
 cases na <;> cases nb <;> simp [sg,Int.mul_neg,Int.neg_mul]
set_option maxHeartbeats 400000 in
theorem mul_spec (w:World) (x y:Value) (na nb:Bool) (xs ys:List Nat) (h:Den w x na xs) (k:Den w y nb ys) (hlen:xs.length≤10000000) (hl:ys.length≤10000000) :
  Calls Tryz.prog 49 #[x,y] w (Ret fun r w'=>Ext w w'∧Can w' r (sg na (val xs) * sg nb (val ys))):=by
 obtain ⟨p,cap,rfl,hs⟩:=h
 obtain ⟨q,cb,rfl,ks⟩:=k
 refine calls_of_St (args:=[_,_]) Tryz.func49 rfl Tryz.ntmps49 rfl ?_
 refine Nv ?_
 refine .s (OpR.box rfl) ?_
 rintro _ w1 ⟨rfl,hb1,hx1,_⟩
 refine .s (OpR.box rfl) ?_
 rintro _ w2 ⟨rfl,hb2,hx2,_⟩
 refine .s (OpR.alloc TBok rfl) ?_
 rintro _ w3 ⟨rfl,hb3,hx3,_⟩
 have hx03:=(hx1.trans hx2).trans hx3
 have h3:=hs.ext hx03
 have k3:=ks.ext hx03
 have hba:=(hb1.ext hx2).ext hx3
 have hbb:=hb2.ext hx3
 have hl1:=limbs_length_le xs hs.2
 have hl2:=limbs_length_le ys ks.2
 have hl3:=limbs_mul_length (val xs) (val ys)
 refine Nv ?_
 refine St.draw 13 [(5,Is (.pointer (some ⟨w.heap.size,0,none⟩))),(6,Is (.bool na)),(7,Is (.pointer (some ⟨w1.heap.size,0,none⟩))),(8,Is (.bool nb)),(9,Is (.bool (!(na == nb)))),(10,Is (.pointer (some ⟨w.heap.size,1,none⟩))),(11,Is (.slice p xs.length cap)),(12,Is (.slice p (limbs (val xs)).length cap)),(13,Is (.pointer (some ⟨w1.heap.size,1,none⟩))),(14,Is (.slice q ys.length cb)),(15,Is (.slice q (limbs (val ys)).length cb)),(16,fun v w'=>SlO 0 w' v (limbs (val xs * val ys))),(17,fun v w'=>Can w' v (sg na (val xs) * sg nb (val ys)))] TBfol (by kernel_rfl) rfl (by kernel_rfl) (by kernel_rfl)
  ⟨Is.mono _,Is.mono _,Is.mono _,Is.mono _,Is.mono _,Is.mono _,Is.mono _,Is.mono _,Is.mono _,Is.mono _,Is.mono _,fun _ _ _ hx hv=>hv.ext hx,fun _ _ _ hx hv=>hv.ext hx,trivial⟩ ?_ ?_
 ·refine ⟨?_,?_,?_,?_,?_,?_,?_,?_,?_,?_,?_,?_,?_,trivial⟩
  ·exact fun w4 hx4=>OpG.pure TBok rfl rfl rfl rfl rfl rfl
  ·rintro w4 hx4 _ rfl
   exact OpG.run rfl rfl rfl rfl (RunsTo.load TBok rfl rfl rfl ((hba.ext hx4).cell rfl)) rfl
  ·exact fun w4 hx4=>OpG.pure TBok rfl rfl rfl rfl rfl rfl
  ·rintro w4 hx4 _ rfl
   exact OpG.run rfl rfl rfl rfl (RunsTo.load TBok rfl rfl rfl ((hbb.ext hx4).cell rfl)) rfl
  ·rintro w4 hx4 _ rfl _ rfl
   exact OpG.run rfl rfl rfl rfl (RunsTo.boolNe TBok rfl rfl rfl) rfl
  ·exact fun w4 hx4=>OpG.pure TBok rfl rfl rfl rfl rfl rfl
  ·rintro w4 hx4 _ rfl
   exact OpG.run rfl rfl rfl rfl (RunsTo.load TBok rfl rfl rfl ((hba.ext hx4).cell rfl)) rfl
  ·rintro w4 hx4 _ rfl
   refine OpG.call fn_integer_trim rfl rfl rfl (trim_spec w4 _ _ (h3.ext hx4) (by omega)) ?_
   rintro v w5 ⟨rfl,rfl,_⟩
   exact ⟨Ext.refl _,rfl⟩
  ·exact fun w4 hx4=>OpG.pure TBok rfl rfl rfl rfl rfl rfl
  ·rintro w4 hx4 _ rfl
   exact OpG.run rfl rfl rfl rfl (RunsTo.load TBok rfl rfl rfl ((hbb.ext hx4).cell rfl)) rfl
  ·rintro w4 hx4 _ rfl
   refine OpG.call fn_integer_trim rfl rfl rfl (trim_spec w4 _ _ (k3.ext hx4) (by omega)) ?_
   rintro v w5 ⟨rfl,rfl,_⟩
   exact ⟨Ext.refl _,rfl⟩
  ·rintro w4 hx4 _ rfl _ rfl
   refine OpG.call fn_integer_mulNat rfl rfl rfl (mulNat_spec w4 _ _ _ _ (Den.trimmed (_neg:=na) (h3.ext hx4)) (Den.trimmed (_neg:=nb) (k3.ext hx4)) (by omega) (by omega)) ?_
   rintro v w5 ⟨hx5,hv⟩
   rw [val_limbs,val_limbs] at hv
   exact ⟨hx5,hv.mono (Nat.zero_le _)⟩
  ·rintro w4 hx4 _ rfl v16 h16
   refine OpG.call fn_integer_build rfl rfl rfl (build_spec' w4 _ v16 _ h16 (by omega)) ?_
   rintro v w5 ⟨hx5,hv⟩
   rw [sg_mul] at hv
   exact ⟨hx5,hv⟩
 intro w4 hx4 v5 _ v6 _ v7 _ v8 _ v9 _ v10 _ v11 _ v12 _ v13 _ v14 _ v15 _ v16 _ v17 h17 _
 refine StL.finCan rfl rfl (hb3.ext hx4) rfl h17 (hx03.trans hx4) (hx1.trans hx2).size ?_
 intro w' hxf hcf fin
 refine Nv ?_
 exact fin _ _ rfl ⟨hxf,hcf⟩
set_option maxHeartbeats 400000 in
theorem igcd_spec (w:World) (x y:Value) (na nb:Bool) (xs ys:List Nat) (h:Den w x na xs) (k:Den w y nb ys) (hlen:xs.length≤10000000) (hl:ys.length≤10000000) :
  Calls Tryz.prog 160 #[x,y] w (Ret fun r w'=>Ext w w'∧Can w' r ((Nat.gcd (val xs) (val ys):Nat):Int)):=by
 obtain ⟨p,cap,rfl,hs⟩:=h
 obtain ⟨q,cb,rfl,ks⟩:=k
 refine calls_of_St (args:=[_,_]) Tryz.func160 rfl Tryz.ntmps160 rfl ?_
 refine Nv ?_
 refine .s (OpR.box rfl) ?_
 rintro _ w1 ⟨rfl,hb1,hx1,_⟩
 refine .s (OpR.box rfl) ?_
 rintro _ w2 ⟨rfl,hb2,hx2,_⟩
 refine .s (OpR.alloc TBok rfl) ?_
 rintro _ w3 ⟨rfl,hb3,hx3,_⟩
 have hx03:=(hx1.trans hx2).trans hx3
 have h3:=hs.ext hx03
 have k3:=ks.ext hx03
 have hba:=(hb1.ext hx2).ext hx3
 have hbb:=hb2.ext hx3
 have hl1:=limbs_length_le xs hs.2
 have hl2:=limbs_length_le ys ks.2
 have hl3:(limbs (Nat.gcd (val xs) (val ys))).length≤10000000:=by
  rcases Nat.eq_zero_or_pos (val xs) with h0 | h0
  ·rw [h0,Nat.gcd_zero_left];omega
  ·exact Nat.le_trans (limbs_length_mono _ _ (Nat.gcd_le_left _ h0)) (by omega)
 refine Nv ?_
 refine St.draw 8 [(5,Is (.pointer (some ⟨w.heap.size,1,none⟩))),(6,Is (.slice p xs.length cap)),(7,Is (.slice p (limbs (val xs)).length cap)),(8,Is (.pointer (some ⟨w1.heap.size,1,none⟩))),(9,Is (.slice q ys.length cb)),(10,Is (.slice q (limbs (val ys)).length cb)),(11,fun v w'=>SlO 0 w' v (limbs (Nat.gcd (val xs) (val ys)))),(12,fun v w'=>Can w' v ((Nat.gcd (val xs) (val ys):Nat):Int))] TBfol (by kernel_rfl) rfl (by kernel_rfl) (by kernel_rfl)
  ⟨Is.mono _,Is.mono _,Is.mono _,Is.mono _,Is.mono _,Is.mono _,fun _ _ _ hx hv=>hv.ext hx,fun _ _ _ hx hv=>hv.ext hx,trivial⟩ ?_ ?_
 ·refine ⟨?_,?_,?_,?_,?_,?_,?_,?_,trivial⟩
  ·exact fun w4 hx4=>OpG.pure TBok rfl rfl rfl rfl rfl rfl
  ·rintro w4 hx4 _ rfl
   exact OpG.run rfl rfl rfl rfl (RunsTo.load TBok rfl rfl rfl ((hba.ext hx4).cell rfl)) rfl
  ·rintro w4 hx4 _ rfl
   refine OpG.call fn_integer_trim rfl rfl rfl (trim_spec w4 _ _ (h3.ext hx4) (by omega)) ?_
   rintro v w5 ⟨rfl,rfl,_⟩
   exact ⟨Ext.refl _,rfl⟩
  ·exact fun w4 hx4=>OpG.pure TBok rfl rfl rfl rfl rfl rfl
  ·rintro w4 hx4 _ rfl
   exact OpG.run rfl rfl rfl rfl (RunsTo.load TBok rfl rfl rfl ((hbb.ext hx4).cell rfl)) rfl
  ·rintro w4 hx4 _ rfl
   refine OpG.call fn_integer_trim rfl rfl rfl (trim_spec w4 _ _ (k3.ext hx4) (by omega)) ?_
   rintro v w5 ⟨rfl,rfl,_⟩
   exact ⟨Ext.refl _,rfl⟩
  ·rintro w4 hx4 _ rfl _ rfl
   refine OpG.call fn_integer_gcdNat rfl rfl rfl (gcdNat_spec w4 _ _ _ _ (Den.trimmed (_neg:=na) (h3.ext hx4)) (Den.trimmed (_neg:=nb) (k3.ext hx4)) (by omega) (by omega)) ?_
   rintro v w5 ⟨hx5,hv⟩
   exact ⟨hx5,hv.mono (Nat.zero_le _)⟩
  ·rintro w4 hx4 v11 h11
   refine OpG.call fn_integer_build rfl rfl rfl (build_spec' w4 false v11 _ h11 (by omega)) ?_
   rintro v w5 ⟨hx5,hv⟩
   exact ⟨hx5,hv⟩
 intro w4 hx4 v5 _ v6 _ v7 _ v8 _ v9 _ v10 _ v11 _ v12 h12 _
 refine StL.finCan rfl rfl (hb3.ext hx4) rfl h12 (hx03.trans hx4) (hx1.trans hx2).size ?_
 intro w' hxf hcf fin
 refine Nv ?_
 exact fin _ _ rfl ⟨hxf,hcf⟩
theorem clone_trim {w:World} {p:Option Addr} {cap:Nat} {xs:List Nat} (hs:Sl w (.slice p xs.length cap) xs):Sl w (.slice p (limbs (val xs)).length cap) (limbs (val xs)):=Den.trimmed (_neg:=true) hs
theorem trim_flow (w:World) (p:Option Addr) (cap:Nat) (xs:List Nat) (h:Sl w (.slice p xs.length cap) xs) (hlen:xs.length≤1000000000) :
  Calls Tryz.prog 103 #[.slice p xs.length cap] w (Ret fun r w'=>Ext w w'∧r=.slice p (limbs (val xs)).length cap):=by
 refine (trim_spec w _ xs h hlen).mono ?_
 rintro _ _ ⟨r,rfl,rfl,rfl,_⟩
 exact ⟨_,rfl,Ext.refl _,rfl⟩
theorem clone_flow {base:Nat} (w:World) (v:Value) (xs:List Nat) (h:Sl w v xs) (hlen:xs.length≤1000000000) (hb:base≤w.heap.size) :
  Calls Tryz.prog 112 #[v] w (Ret fun r w'=>Ext w w'∧SlO base w' r xs):=by
 refine (clone_spec w v xs h hlen).mono ?_
 rintro _ _ ⟨r,rfl,hx,hv⟩
 exact ⟨_,rfl,hx,hv.mono hb⟩
theorem neg_spec (w:World) (x:Value) (na:Bool) (xs:List Nat) (h:Den w x na xs) (hlen:xs.length≤10000000) :
  Calls Tryz.prog 56 #[x] w (Ret fun r w'=>Ext w w'∧Can w' r (- sg na (val xs))):=by
 obtain ⟨p,cap,rfl,hs⟩:=h
 refine calls_of_St (args:=[_]) Tryz.func56 rfl Tryz.ntmps56 rfl ?_
 refine Nv ?_
 refine .s (OpR.box rfl) ?_
 rintro _ w1 ⟨rfl,hb1,hx1,hz1⟩
 refine .s (OpR.alloc TBok rfl) ?_
 rintro _ w2 ⟨rfl,hb2,hx2,hz2⟩
 have hl1:=limbs_length_le xs hs.2
 refine Nv ?_
 refine St.flow 8 TBfol (by kernel_rfl) rfl (by kernel_rfl) rfl True.intro ?_
 refine FL.run TBok 99 rfl ?_
 refine FL.load (L:=[]) TBok rfl rfl rfl rfl rfl rfl upp (by simp) rfl ?_
 refine FL.run TBok 99 rfl ?_
 refine FL.load (L:=[]) TBok rfl rfl rfl rfl rfl rfl upp (by simp) rfl ?_
 refine FL.callXE fn_integer_trim rfl rfl rfl (fun w4 hx4=>CallF.mk rfl (trim_flow w4 _ _ _ upp (by omega))) ?_
 refine FL.callE fn_slices_Clone_uint32_uint32 rfl rfl rfl (fun w4 hx4=>CallF.mk rfl (clone_flow w4 _ _ (clone_trim upp) (by omega) (Nat.zero_le _))) (MonoR.slO 0 _) ?_
 refine FL.callE fn_integer_build rfl rfl rfl (fun w4 hx4 v9 h9=>CallF.mk rfl (build_spec' w4 _ v9 _ h9 (by omega))) (MonoR.canO 0 _) ?_
 refine FL.endE rfl ?_
 intro w4 hx4 v10 h10 v9 _ _ _
 rw [sg_not] at h10
 refine StL.finCan rfl rfl upp rfl h10 (w0:=w) upp hx1.size ?_
 intro w' hxf hcf fin
 refine Nv ?_
 exact fin _ _ rfl ⟨hxf,hcf⟩
theorem normalize_spec (w:World) (x:Value) (na:Bool) (xs:List Nat) (h:Den w x na xs) (hlen:xs.length≤10000000) :
  Calls Tryz.prog 157 #[x] w (Ret fun r w'=>Ext w w'∧CanO w.heap.size w' r (sg na (val xs))):=by
 obtain ⟨p,cap,rfl,hs⟩:=h
 refine calls_of_St (args:=[_]) Tryz.func157 rfl Tryz.ntmps157 rfl ?_
 refine Nv ?_
 refine .s (OpR.box rfl) ?_
 rintro _ w1 ⟨rfl,hb1,hx1,hz1⟩
 refine .s (OpR.alloc TBok rfl) ?_
 rintro _ w2 ⟨rfl,hb2,hx2,hz2⟩
 have hl1:=limbs_length_le xs hs.2
 refine Nv ?_
 refine St.flow 7 TBfol (by kernel_rfl) rfl (by kernel_rfl) rfl True.intro ?_
 refine FL.run TBok 99 rfl ?_
 refine FL.load (L:=[]) TBok rfl rfl rfl rfl rfl rfl upp (by simp) rfl ?_
 refine FL.run TBok 99 rfl ?_
 refine FL.load (L:=[]) TBok rfl rfl rfl rfl rfl rfl upp (by simp) rfl ?_
 refine FL.callXE fn_integer_trim rfl rfl rfl (fun w4 hx4=>CallF.mk rfl (trim_flow w4 _ _ _ upp (by omega))) ?_
 refine FL.callE fn_slices_Clone_uint32_uint32 rfl rfl rfl (fun w4 hx4=>CallF.mk rfl (clone_flow w4 _ _ (clone_trim upp) (by omega) (Nat.le_trans ((hx1.trans hx2).trans hx4).size (Nat.le_refl _)))) (MonoR.slO w.heap.size _) ?_
 refine FL.callE fn_integer_build rfl rfl rfl (fun w4 hx4 v9 h9=>CallF.mk rfl (build_specO w4 _ v9 _ h9 (by omega))) (MonoR.canO w.heap.size _) ?_
 refine FL.endE rfl ?_
 intro w4 hx4 v10 h10 v9 _ _ _
 refine StL.finCan rfl rfl upp rfl h10 (w0:=w) upp hx1.size ?_
 intro w' hxf hcf fin
 refine Nv ?_
 exact fin _ _ rfl ⟨hxf,hcf⟩
def SqrtV (w:World) (r:Value) (a:Int):Prop :=
 (a<0→r=.tuple #[IntV false (.slice none 0 0),.bool false])∧(0≤a→∃ v x,r=.tuple #[v,.bool true]∧IsRoot a.natAbs x∧Can w v (x:Int))
set_option maxHeartbeats 400000 in
theorem isqrt_spec (w:World) (x:Value) (na:Bool) (xs:List Nat) (h:Den w x na xs) (hlen:xs.length≤1000000) :
  Calls Tryz.prog 51 #[x] w (Ret fun r w'=>Ext w w'∧SqrtV w' r (sg na (val xs))):=by
 have hD:=h
 obtain ⟨p,cap,rfl,hs⟩:=h
 refine calls_of_St (args:=[_]) Tryz.func51 rfl Tryz.ntmps51 rfl ?_
 refine Nv ?_
 refine .s (OpR.box rfl) ?_
 rintro _ w1 ⟨rfl,hb1,hx1,_⟩
 refine .s (OpR.alloc TBok rfl) ?_
 rintro _ w2 ⟨rfl,hb2,hx2,_⟩
 have hx02:=hx1.trans hx2
 have hba:=hb1.ext hx2
 have hl1:=limbs_length_le xs hs.2
 (iterate 6 refine Nv ?_;try refine .r rfl ?_)
 refine .p (RunsTo.loadInt rfl hba rfl rfl) ?_
 refine .s (OpR.call fn_integer_Sign rfl (sign_spec w2 _ na xs (hD.ext hx02) (by omega))) ?_
 rintro _ w3 ⟨hx3,rfl⟩
 have hx03:=hx02.trans hx3
 have hb3:=hb2.ext hx3
 have hba3:=hba.ext hx3
 have hs3:=hs.ext hx03
 (iterate 6 refine Nv ?_;try refine .r rfl ?_)
 by_cases hneg:sg na (val xs)<0
 ·refine St.condT rfl (by simp [signI,hneg]) ?_
  (iterate 6 refine Nv ?_;try refine .r rfl ?_)
  refine .p (RunsTo.build TBok rfl rfl rfl rfl) ?_
  refine StL.step0 rfl rfl (OpR.store TBok (vs:=[.bool false,.slice none 0 0]) rfl rfl rfl rfl rfl hb3 (Nat.le_refl _) (by simp [Value.oneCell'])) ?_
  rintro _ w4 ⟨hb4,hu4⟩
  (iterate 6 refine Nv ?_;try refine .r rfl ?_)
  exact Out.rets TBok [IntV false (.slice none 0 0),.bool false] rfl ⟨⟨_,_,_,_,rfl,hb4,rfl,rfl,rfl,rfl⟩,rfl,trivial⟩ ⟨hx03.then_upd hu4 hx1.size,fun _=>rfl,fun h0=>by omega⟩
 ·refine St.condF rfl (by simp only [signI,if_neg hneg];split <;> decide) ?_
  (iterate 6 refine Nv ?_;try refine .r rfl ?_)
  refine .p (RunsTo.load TBok rfl rfl rfl (hba3.cell rfl)) ?_
  refine .s (OpR.call fn_integer_trim rfl (trim_spec w3 _ _ hs3 (by omega))) ?_
  rintro _ w4 ⟨rfl,rfl,ht⟩
  refine .s (OpR.call fn_integer_sqrtNat rfl (sqrtNat_spec _ _ _ ht (by omega))) ?_
  rintro sl w5 ⟨hx5,y,hy,hsl⟩
  have hyl:(limbs y).length≤1000000:=by
   refine Nat.le_trans (limbs_length_mono y (val xs) ?_) (by omega)
   have:=hy.1
   rcases Nat.eq_zero_or_pos y with h0 | h0
   ·omega
   ·exact Nat.le_trans (Nat.le_mul_of_pos_left y h0) this
  refine .s (OpR.call fn_integer_build rfl (build_spec' w5 false sl y hsl (by omega))) ?_
  rintro v w6 ⟨hx6,hv⟩
  have hb6:=(hb3.ext hx5).ext hx6
  refine StL.retCan rfl rfl hb6 rfl hv ((hx03.trans hx5).trans hx6) hx1.size ?_
  intro w7 cs hcs hl hb7 hu7 hx7
  (iterate 6 refine Nv ?_;try refine .r rfl ?_)
  refine Out.rets TBok [v,.bool true] rfl ⟨⟨_,_,_,_,rfl,hb7,rfl,rfl,hl,hcs⟩,rfl,trivial⟩ ⟨hx7,fun h0=>absurd h0 hneg,fun _=>⟨v,y,rfl,?_,Can.upd hv hu7 ⟨_,hb6⟩⟩⟩
  rw [sg_abs];exact hy
def cmpI (a b:Int):Int:=if a<b then -1 else if b<a then 1 else 0
theorem cmpI_sign (na nb:Bool) (m k:Nat) (h:signI (sg na m)=signI (sg nb k)):signI (sg na m) * cmpN m k=cmpI (sg na m) (sg nb k):=by
 rw [signI_sg,signI_sg] at h
 rw [signI_sg]
 unfold cmpN cmpI sg
 by_cases hm:m=0 <;> by_cases hk:k=0 <;> cases na <;> cases nb <;> simp [hm,hk] at h ⊢ <;> (repeat' split) <;> omega
theorem cmpI_lt (a b:Int) (h:signI a<signI b):cmpI a b=-1:=by
 unfold signI at h
 unfold cmpI
 rw [if_pos]
 revert h
 split <;> split <;> (try split) <;> intro h <;> omega
theorem cmpI_gt (a b:Int) (h:signI b<signI a):cmpI a b=1:=by
 unfold signI at h
 unfold cmpI
 have:b<a:=by
  revert h
  split <;> split <;> (try split) <;> intro h <;> omega
 rw [if_neg (by omega),if_pos this]
theorem signI_bound (a:Int):-1≤signI a∧signI a≤1:=by
 unfold signI
 split
 ·omega
 ·split <;> omega
theorem cmpN_bound (m k:Nat):-1≤cmpN m k∧cmpN m k≤1:=by
 unfold cmpN
 split
 ·omega
 ·split <;> omega
theorem mul_small {a b:Int} (ha:-1≤a∧a≤1) (hb:-1≤b∧b≤1):-1≤a * b∧a * b≤1:=by
 have:a=-1∨a=0∨a=1:=by omega
 rcases this with rfl | rfl | rfl <;> omega
theorem ediv_of {a b q r:Int} (h:a=b * q+r) (h0:0≤r) (h1:r<b.natAbs) (_hb:b≠0):a / b=q∧a % b=r:=by
 rcases Int.lt_or_gt_of_ne _hb with hneg | hpos
 ·obtain ⟨c,rfl⟩:∃ c,b=-c:=⟨-b,by omega⟩
  have hc:0<c:=by omega
  have hcn:((-c).natAbs:Int)=c:=by omega
  have key:=(Int.ediv_emod_unique (a:=a) (b:=c) (r:=r) (q:=-q) hc).2 ⟨by rw [h,Int.neg_mul,Int.mul_neg];omega,h0,by omega⟩
  constructor
  ·rw [Int.ediv_neg,key.1];omega
  ·rw [Int.emod_neg];exact key.2
 ·have hcn:(b.natAbs:Int)=b:=by omega
  exact (Int.ediv_emod_unique (a:=a) (b:=b) (r:=r) (q:=q) hpos).2 ⟨by omega,h0,by omega⟩
def DivV (base:Nat) (w:World) (r:Value) (a b:Int):Prop :=
 (b=0→r=.tuple #[IntV false (.slice none 0 0),IntV false (.slice none 0 0),.bool false])∧(b≠0→∃ q m,r=.tuple #[q,m,.bool true]∧CanO base w q (a / b)∧CanO base w m (a % b))
theorem div_law (na nb:Bool) (m k:Nat) (hk:k≠0) :
  ((na=true∧m % k≠0)→sg na m / sg nb k=sg (!nb) (m / k+1)∧sg na m % sg nb k=((k - m % k:Nat):Int)) ∧
  ((na=true∧m % k=0)→sg na m / sg nb k=sg (!nb) (m / k)∧sg na m % sg nb k=((m % k:Nat):Int)) ∧
  (na=false→sg na m / sg nb k=sg nb (m / k)∧sg na m % sg nb k=((m % k:Nat):Int)):=by
 have hm:=Nat.div_add_mod m k
 have hlt:=Nat.mod_lt m (Nat.pos_of_ne_zero hk)
 have hb:sg nb k≠0:=by cases nb <;> simp [sg] <;> omega
 have hab:(sg nb k).natAbs=k:=sg_abs nb k
 have hmI:(k:Int) * ((m / k:Nat):Int)+((m % k:Nat):Int)=m:=by exact_mod_cast hm
 generalize m / k=q at *
 generalize m % k=r at *
 refine ⟨?_,?_,?_⟩
 ·rintro ⟨rfl,hr⟩
  refine ediv_of ?_ (by omega) (by rw [hab];omega) hb
  rw [Int.ofNat_sub (by omega)]
  cases nb <;> simp only [sg,Bool.not_true,Bool.not_false,if_true,if_false,Bool.false_eq_true,Int.mul_neg,Int.neg_mul,Int.natCast_add,Int.mul_add] <;> omega
 ·rintro ⟨rfl,hr⟩
  refine ediv_of ?_ (by omega) (by rw [hab];omega) hb
  subst hr
  cases nb <;> simp only [sg,Bool.not_true,Bool.not_false,if_true,if_false,Bool.false_eq_true,Int.mul_neg,Int.neg_mul] <;> omega
 ·rintro rfl
  refine ediv_of ?_ (by omega) (by rw [hab];omega) hb
  cases nb <;> simp only [sg,if_true,if_false,Bool.false_eq_true,Int.mul_neg,Int.neg_mul,Int.neg_neg] <;> omega
theorem one_sl {base b:Nat} {w:World} (hb:Blk 139 w b [.int .u32 1]) (hg:base≤b):SlO base w (.slice (some ⟨b,0,none⟩) 1 1) [1] :=
 SlO.closed (D:=[]) hb (by intro x hx;simp at hx;omega) rfl hg rfl (by decide)
set_option maxHeartbeats 800000 in
theorem divMod_spec (w:World) (x y:Value) (na nb:Bool) (xs ys:List Nat) (h:Den w x na xs) (k:Den w y nb ys) (hlen:xs.length≤9000000) (hl:ys.length≤9000000) :
  Calls Tryz.prog 53 #[x,y] w (Ret fun r w'=>Ext w w'∧DivV w.heap.size w' r (sg na (val xs)) (sg nb (val ys))):=by
 obtain ⟨p,cap,rfl,hs⟩:=h
 obtain ⟨q,cb,rfl,ks⟩:=k
 refine calls_of_St (args:=[_,_]) Tryz.func53 rfl Tryz.ntmps53 rfl ?_
 refine Nv ?_
 refine .s (OpR.box rfl) ?_
 rintro _ w1 ⟨rfl,hb1,hx1,hz1⟩
 refine .s (OpR.box rfl) ?_
 rintro _ w2 ⟨rfl,hb2,hx2,hz2⟩
 refine .s (OpR.alloc TBok rfl) ?_
 rintro _ w3 ⟨rfl,hb3,hx3,hz3⟩
 refine .s (OpR.alloc TBok rfl) ?_
 rintro _ w4 ⟨rfl,hb4,hx4,hz4⟩
 have hx04:=((hx1.trans hx2).trans hx3).trans hx4
 have h4:=hs.ext hx04
 have k4:=ks.ext hx04
 have hba:=((hb1.ext hx2).ext hx3).ext hx4
 have hbb:=(hb2.ext hx3).ext hx4
 have hbq:=hb3.ext hx4
 have hl1:=limbs_length_le xs hs.2
 have hl2:=limbs_length_le ys ks.2
 (iterate 6 refine Nv ?_;try refine .r rfl ?_)
 refine .p (RunsTo.load TBok rfl rfl rfl (hbb.cell rfl)) ?_
 refine .s (OpR.call fn_integer_trim rfl (trim_spec w4 _ _ k4 (by omega))) ?_
 rintro _ w4 ⟨rfl,rfl,kt⟩
 (iterate 6 refine Nv ?_;try refine .r rfl ?_)
 by_cases hk0:val ys=0
 ·refine St.condT rfl (by rw [hk0];rfl) ?_
  (iterate 6 refine Nv ?_;try refine .r rfl ?_)
  refine .p (RunsTo.build TBok rfl rfl rfl rfl) ?_
  refine .p (RunsTo.build TBok rfl rfl rfl rfl) ?_
  refine StL.step0 rfl rfl (OpR.store TBok (vs:=[.bool false,.slice none 0 0]) rfl rfl rfl rfl rfl hbq (Nat.le_refl _) (by simp [Value.oneCell'])) ?_
  rintro _ w5 ⟨hb5,hu5⟩
  refine StL.step0 rfl rfl (OpR.store TBok (vs:=[.bool false,.slice none 0 0]) rfl rfl rfl rfl rfl (hb4.upd hu5 (by omega)) (Nat.le_refl _) (by simp [Value.oneCell'])) ?_
  rintro _ w6 ⟨hb6,hu6⟩
  have hb56:=hb5.upd hu6 (by omega)
  (iterate 6 refine Nv ?_;try refine .r rfl ?_)
  exact Out.rets TBok [IntV false (.slice none 0 0),IntV false (.slice none 0 0),.bool false] rfl ⟨⟨_,_,_,_,rfl,hb56,rfl,rfl,rfl,rfl⟩,⟨_,_,_,_,rfl,hb6,rfl,rfl,rfl,rfl⟩,rfl,trivial⟩
   ⟨(hx04.then_upd hu5 (by omega)).then_upd hu6 (by omega),fun _=>rfl,fun h0=>absurd (by rw [hk0];cases nb <;> rfl) h0⟩
 have hkb:sg nb (val ys)≠0:=by cases nb <;> simp [sg] <;> omega
 refine St.condF rfl (by simp [limbs_eq_nil,hk0]) ?_
 (iterate 6 refine Nv ?_;try refine .r rfl ?_)
 refine .p (RunsTo.load TBok rfl rfl rfl (hba.cell rfl)) ?_
 refine .s (OpR.call fn_integer_trim rfl (trim_spec w4 _ _ h4 (by omega))) ?_
 rintro _ w4 ⟨rfl,rfl,ht⟩
 refine .r rfl ?_
 refine .s (OpR.call fn_integer_divNat rfl (divNat_spec w4 _ _ (val xs) (val ys) ht kt (by omega) (by omega) hk0)) ?_
 rintro _ w5 ⟨hx5,qv,rv,rfl,hq5,hr5⟩
 have hx05:=hx04.trans hx5
 have hba5:=hba.ext hx5
 have hbb5:=hbb.ext hx5
 (iterate 6 refine Nv ?_;try refine .r rfl ?_)
 refine .p (RunsTo.load TBok rfl rfl rfl (hbb5.cell rfl)) ?_
 refine .r rfl ?_
 have hlaw:=div_law na nb (val xs) (val ys) hk0
 have hql:(limbs (val xs / val ys)).length≤9000000:=Nat.le_trans (limbs_length_mono _ _ (Nat.div_le_self _ _)) (by omega)
 have hrl:(limbs (val xs % val ys)).length≤9000000:=Nat.le_trans (limbs_length_mono _ _ (Nat.mod_le _ _)) (by omega)
 have hrlt:=Nat.mod_lt (val xs) (Nat.pos_of_ne_zero hk0)
 refine StL.nil (Out.then_normal (St.cut (fun g:(Value×Value)×Bool×Nat×Nat=>[(4,.pointer (some ⟨w2.heap.size,0,none⟩)),(5,.pointer (some ⟨w3.heap.size,0,none⟩)),(8,g.1.1),(9,g.1.2),(10,.bool g.2.1)])
  (fun g w'=>Ext w4 w'∧SlO w.heap.size w' g.1.1 (limbs g.2.2.1)∧SlO w.heap.size w' g.1.2 (limbs g.2.2.2)∧(limbs g.2.2.1).length≤10000000∧(limbs g.2.2.2).length≤10000000∧sg na (val xs) / sg nb (val ys)=sg g.2.1 g.2.2.1∧sg na (val xs) % sg nb (val ys)=(g.2.2.2:Int)) ?_ ?_))
 ·have hq5':=hq5.mono hx04.size
  have hr5':=hr5.mono hx04.size
  refine Nv ?_
  refine .r rfl ?_
  refine .p (RunsTo.load TBok rfl rfl rfl (hba5.cell rfl)) ?_
  obtain ⟨rp,rc,rfl,_⟩:=hr5.sl.form
  cases na with
  | true =>
   by_cases hr0:val xs % val ys=0
   ·refine .a 5 (.bool false) rfl (bool_false (by rw [hr0];decide)) ?_
    (iterate 6 refine Nv ?_;try refine .r rfl ?_)
    refine .cF ?_
    (iterate 6 refine Nv ?_;try refine .r rfl ?_)
    refine .p (RunsTo.load TBok rfl rfl rfl (hba5.cell rfl)) ?_
    (iterate 6 refine Nv ?_;try refine .r rfl ?_)
    refine .cT ?_
    (iterate 6 refine Nv ?_;try refine .r rfl ?_)
    refine Out.met ((qv,.slice rp _ rc),!nb,val xs / val ys,val xs % val ys) ⟨rfl,rfl,rfl,rfl,rfl,trivial⟩ ⟨hx5,hq5',hr5',by dsimp only;omega,by dsimp only;omega,?_,?_⟩
    ·exact (hlaw.2.1 ⟨rfl,hr0⟩).1
    ·exact (hlaw.2.1 ⟨rfl,hr0⟩).2
   ·have hpos:0<(limbs (val xs % val ys)).length:=by
     rcases Nat.eq_zero_or_pos (limbs (val xs % val ys)).length with h0 | h0
     ·exact absurd (limbs_eq_nil.1 (List.eq_nil_of_length_eq_zero h0)) hr0
     ·exact h0
    refine .a 5 (.bool true) rfl (bool_true (by omega)) ?_
    (iterate 6 refine Nv ?_;try refine .r rfl ?_)
    refine .cT ?_
    (iterate 6 refine Nv ?_;try refine .r rfl ?_)
    refine .s (OpR.single TBok rfl rfl rfl rfl) ?_
    rintro _ w6 ⟨rfl,hb6,hx6,hz6⟩
    have hone:=one_sl hb6 (Nat.le_refl _)
    refine .s (OpR.call fn_integer_addNat rfl (addNat_spec w6 _ _ _ _ (hq5.ext hx6).sl hone.sl (by omega) (by decide))) ?_
    rintro q6 w7 ⟨hx7,hq7⟩
    have e1:val [1]=1:=rfl
    rw [val_limbs,e1] at hq7
    (iterate 6 refine Nv ?_;try refine .r rfl ?_)
    have hmn:=limbs_length_mono _ _ (Nat.le_of_lt hrlt)
    have hx57:=hx6.trans hx7
    refine .s (OpR.call fn_integer_subNat rfl (subNat_spec w7 _ _ _ _ (kt.ext (hx5.trans hx57)) (hr5.ext hx57).sl (by omega) (by omega) hmn (by rw [val_limbs,val_limbs];omega))) ?_
    rintro r7 w8 ⟨hx8,hr8⟩
    rw [val_limbs,val_limbs] at hr8
    have hl8:=limbs_add_length (val xs / val ys) 1
    have hone1:(limbs 1).length≤2:=limbs_length_le_two (by decide)
    have hl9:=limbs_length_mono (val ys - val xs % val ys) (val ys) (Nat.sub_le _ _)
    have hx08:Ext w w7:=hx05.trans hx57
    (iterate 6 refine Nv ?_;try refine .r rfl ?_)
    refine Out.met ((q6,r7),!nb,val xs / val ys+1,val ys - val xs % val ys) ⟨rfl,rfl,rfl,rfl,rfl,trivial⟩ ⟨hx5.trans (hx57.trans hx8),(hq7.ext hx8).mono (hx05.trans hx6).size,hr8.mono hx08.size,by dsimp only;omega,by dsimp only;omega,?_,?_⟩
    ·exact (hlaw.1 ⟨rfl,hr0⟩).1
    ·exact (hlaw.1 ⟨rfl,hr0⟩).2
  | false =>
   (iterate 6 refine Nv ?_;try refine .r rfl ?_)
   refine .cF ?_
   (iterate 6 refine Nv ?_;try refine .r rfl ?_)
   refine .p (RunsTo.load TBok rfl rfl rfl (hba5.cell rfl)) ?_
   (iterate 6 refine Nv ?_;try refine .r rfl ?_)
   refine .cF ?_
   (iterate 6 refine Nv ?_;try refine .r rfl ?_)
   refine Out.met ((qv,.slice rp _ rc),nb,val xs / val ys,val xs % val ys) ⟨rfl,rfl,rfl,rfl,rfl,trivial⟩ ⟨hx5,hq5',hr5',by dsimp only;omega,by dsimp only;omega,?_,?_⟩
   ·exact (hlaw.2.2 rfl).1
   ·exact (hlaw.2.2 rfl).2
 rintro ⟨⟨qv6,rv6⟩,nq,mq,mr⟩ w6 ⟨hx6,hq6,hr6,hlq,hlr,eq1,eq2⟩
 dsimp only at hx6 hq6 hr6 hlq hlr eq1 eq2 ⊢
 (iterate 6 refine Nv ?_;try refine .r rfl ?_)
 refine .s (OpR.call fn_integer_build rfl (build_specO w6 nq qv6 mq hq6 (by omega))) ?_
 rintro v7 w7 ⟨hx7,hv7⟩
 rw [← eq1] at hv7
 refine .r rfl ?_
 refine .s (OpR.call fn_integer_build rfl (build_specO w7 false rv6 mr (hr6.ext hx7) (by omega))) ?_
 rintro v8 w8 ⟨hx8,hv8⟩
 have e8:sg false mr=(mr:Int):=rfl
 rw [e8,← eq2] at hv8
 have hx48:=(hx6.trans hx7).trans hx8
 have hbq8:=hbq.ext hx48
 have hbr8:=hb4.ext hx48
 refine StL.retCan rfl rfl hbq8 rfl (hv7.ext hx8) (hx04.trans hx48) (by omega) ?_
 intro w9 cs hcs hlc hb9 hu9 hx9
 have hbr9:=hbr8.upd hu9 (by omega)
 have hv79:=CanO.upd (hv7.ext hx8) hu9 ⟨_,hbq8⟩
 have hv89:=CanO.upd hv8 hu9 ⟨_,hbq8⟩
 refine StL.retCan rfl rfl hbr9 rfl hv89 hx9 (by omega) ?_
 intro wA cs2 hcs2 hlc2 hbA huA hxA
 have hbqA:=hb9.upd huA (by omega)
 (iterate 6 refine Nv ?_;try refine .r rfl ?_)
 exact Out.rets TBok [v7,v8,.bool true] rfl ⟨⟨_,_,_,_,rfl,hbqA,rfl,rfl,hlc,hcs⟩,⟨_,_,_,_,rfl,hbA,rfl,rfl,hlc2,hcs2⟩,rfl,trivial⟩
  ⟨hxA,fun h0=>absurd h0 hkb,fun _=>⟨v7,v8,rfl,CanO.upd hv79 huA ⟨_,hbr9⟩,CanO.upd hv89 huA ⟨_,hbr9⟩⟩⟩
end Go.Qf
namespace Go.Qf
def pad:Nat→Nat→List Nat
 | 0,_=>[]
 | k+1,n=>(48+n % 10)::pad k (n / 10)
theorem pad_length:∀ k n,(pad k n).length=k:=by
 intro k
 induction k with
 | zero=>intro n;rfl
 | succ k ih=>intro n;simp [pad,ih]
theorem pad_succ:∀ k n,pad (k+1) n=pad k n++[48+n / 10 ^ k % 10]:=by
 intro k
 induction k with
 | zero=>intro n;simp [pad]
 | succ k ih =>
  intro n
  have h:=ih (n / 10)
  rw [show pad (k+1+1) n=(48+n % 10)::pad (k+1) (n / 10) from rfl,h]
  rw [Nat.div_div_eq_div_mul,show 10 * 10 ^ k=10 ^ (k+1) from by rw [Nat.pow_succ,Nat.mul_comm]]
  rfl
def digsF:Nat→Nat→List Nat
 | 0,_=>[]
 | f+1,n=>if n=0 then [] else (48+n % 10)::digsF f (n / 10)
def digs (n:Nat):List Nat:=digsF n n
theorem digsF_enough:∀ (f g n:Nat),n≤f→n≤g→digsF f n=digsF g n:=by
 intro f
 induction f with
 | zero =>
  intro g n h1 h2
  have:n=0:=by omega
  subst this
  cases g <;> simp [digsF]
 | succ f ih =>
  intro g n h1 h2
  cases g with
  | zero =>
   have:n=0:=by omega
   subst this
   simp [digsF]
  | succ g =>
   simp only [digsF]
   split
   ·rfl
   ·rw [ih g (n / 10) (by omega) (by omega)]
theorem digs_zero:digs 0=[]:=rfl
theorem digs_eq (n:Nat) (h:n≠0):digs n=(48+n % 10)::digs (n / 10):=by
 unfold digs
 obtain ⟨m,rfl⟩:∃ m,n=m+1:=⟨n - 1,by omega⟩
 rw [show digsF (m+1) (m+1)=(48+(m+1) % 10)::digsF m ((m+1) / 10) from by simp [digsF]]
 rw [digsF_enough m ((m+1) / 10) ((m+1) / 10) (by omega) (Nat.le_refl _)]
theorem pad_digs:∀ k n,n<10 ^ k→10 ^ k≤10 * n→pad k n=digs n:=by
 intro k
 induction k with
 | zero=>intro n h1 h2;simp at h1;subst h1;simp at h2
 | succ k ih =>
  intro n h1 h2
  have hn:n≠0:=by
   intro e;subst e
   have:0<10 ^ (k+1):=Nat.pow_pos (by decide)
   omega
  rw [digs_eq n hn]
  show (48+n % 10)::pad k (n / 10)=_
  congr 1
  rw [Nat.pow_succ] at h1 h2
  cases k with
  | zero =>
   have:n / 10=0:=by simp at h1;omega
   rw [this];rfl
  | succ k =>
   refine ih (n / 10) (by omega) ?_
   rw [Nat.pow_succ] at h1 h2 ⊢
   omega
def fmtN (n:Nat):List Nat:=if n=0 then [48] else (digs n).reverse
def fmtI (a:Int):List Nat:=if a<0 then 45::fmtN a.natAbs else fmtN a.natAbs
theorem pow10_8 (k:Nat):8 ^ k≤10 ^ k:=Nat.pow_le_pow_left (by decide) k
theorem digits_le {N k len:Nat} (hN:N<4294967296 ^ len) (hk:10 ^ k≤N):k≤11 * len:=by
 have h1:2 ^ (3 * k)≤10 ^ k:=by rw [Nat.pow_mul];exact pow10_8 k
 have h2:4294967296 ^ len=2 ^ (32 * len):=by rw [Nat.pow_mul]
 rw [h2] at hN
 have h3:2 ^ (3 * k)<2 ^ (32 * len):=by omega
 have:=(Nat.pow_lt_pow_iff_right (by decide:1<2)).1 h3
 omega
theorem digs_length_le {N k:Nat} (h:N<10 ^ k):(digs N).length≤k:=by
 induction k generalizing N with
 | zero=>simp at h;subst h;simp [digs_zero]
 | succ k ih =>
  by_cases h0:N=0
  ·subst h0;simp [digs_zero]
  ·rw [digs_eq N h0]
   rw [Nat.pow_succ] at h
   have:=ih (N:=N / 10) (by omega)
   simp;omega
theorem digs_length_limbs {N len:Nat} (hN:N<4294967296 ^ len):(digs N).length≤11 * len+1:=by
 refine digs_length_le ?_
 rcases Nat.lt_or_ge N (10 ^ (11 * len+1)) with h | h
 ·exact h
 ·have:=digits_le hN h;omega
end Go.Qf
namespace Go.Qf
open Go Go.RowKit Go.Proofs
set_option maxRecDepth 20000
theorem i64_of (n:Nat) (h:n≤9223372036854775807):IntKind.i64.wrap (n:Int)=n:=i64_id (by omega) (by omega)
def sz (a:Int):Nat:=(limbs a.natAbs).length
def Dn (w:World) (v:Value) (a:Int):Prop:=∃ neg xs,Den w v neg xs∧sg neg (val xs)=a∧xs.length≤1000000
theorem Dn.ext {w w':World} {v:Value} {a:Int} (h:Dn w v a) (hx:Ext w w'):Dn w' v a:=by
 obtain ⟨neg,xs,h1,h2⟩:=h
 exact ⟨neg,xs,h1.ext hx,h2⟩
theorem CanO.den' {base:Nat} {w:World} {v:Value} {a:Int} (h:CanO base w v a):Den w v (decide (a<0)) (limbs a.natAbs):=h.can.den
theorem val_canon (a:Int):sg (decide (a<0)) (val (limbs a.natAbs))=a:=by rw [val_limbs,sg_canon]
theorem CanO.dn {base:Nat} {w:World} {v:Value} {a:Int} (h:CanO base w v a) (hs:sz a≤1000000):Dn w v a:=⟨_,_,h.den',val_canon a,hs⟩
theorem Dn.sz_le {w:World} {v:Value} {a:Int} (h:Dn w v a):sz a≤1000000:=by
 obtain ⟨neg,xs,h1,rfl,h3⟩:=h
 unfold sz
 rw [sg_abs]
 exact Nat.le_trans (limbs_length_le xs h1.lim) h3
theorem sz_zero:sz 0=0:=rfl
theorem sz_neg (a:Int):sz (-a)=sz a:=by unfold sz;rw [Int.natAbs_neg]
theorem sz_le_nat {a b:Int} (h:a.natAbs≤b.natAbs):sz a≤sz b:=limbs_length_mono _ _ h
theorem sz_add (a b:Int):sz (a+b)≤max (sz a) (sz b)+1:=by
 unfold sz
 exact Nat.le_trans (limbs_length_mono _ _ (Int.natAbs_add_le a b)) (limbs_add_length _ _)
theorem sz_sub (a b:Int):sz (a - b)≤max (sz a) (sz b)+1:=by
 rw [Int.sub_eq_add_neg]
 have:=sz_add a (-b)
 rwa [sz_neg] at this
theorem sz_mul (a b:Int):sz (a * b)≤sz a+sz b:=by
 unfold sz
 rw [Int.natAbs_mul]
 exact limbs_mul_length _ _
theorem sz_small {a:Int} (h0:-18446744073709551616<a) (h1:a<18446744073709551616):sz a≤2:=limbs_length_le_two (by omega)
theorem natAbs_div_le (a b:Int):(a / b).natAbs≤a.natAbs:=by
 by_cases hb:b=0
 ·subst hb;rw [Int.ediv_zero];simp
 ·have h:=Int.mul_ediv_add_emod a b
  have h1:=Int.emod_nonneg a hb
  have h2:=Int.emod_lt a hb
  have hm:(b * (a / b)).natAbs=b.natAbs * (a / b).natAbs:=Int.natAbs_mul _ _
  have hb1:1≤b.natAbs:=by omega
  have hq:=Nat.le_mul_of_pos_left (a / b).natAbs hb1
  by_cases hq0:(a / b).natAbs=0
  ·omega
  ·obtain ⟨k,hk⟩:∃ k,(a / b).natAbs=k+1:=⟨(a / b).natAbs - 1,by omega⟩
   have h5:b.natAbs * (a / b).natAbs=b.natAbs * k+b.natAbs:=by rw [hk,Nat.mul_succ]
   have h6:=Nat.le_mul_of_pos_left k hb1
   generalize b * (a / b)=t at *
   generalize a % b=r at *
   generalize b.natAbs * (a / b).natAbs=u at *
   generalize b.natAbs * k=u' at *
   generalize (a / b).natAbs=q at *
   omega
theorem sz_div (a b:Int):sz (a / b)≤sz a:=sz_le_nat (natAbs_div_le a b)
theorem sz_nat_le {m:Nat} {b:Int} (h:m≤b.natAbs):sz (m:Int)≤sz b:=sz_le_nat (by simpa using h)
theorem sz_gcd (a b:Int):sz ((Nat.gcd a.natAbs b.natAbs:Nat):Int)≤max (sz a) (sz b):=by
 by_cases ha:a=0
 ·subst ha
  simp only [Int.natAbs_zero,Nat.gcd_zero_left]
  have:sz ((b.natAbs:Nat):Int)≤sz b:=sz_nat_le (Nat.le_refl _)
  omega
 ·have:sz ((Nat.gcd a.natAbs b.natAbs:Nat):Int)≤sz a:=sz_nat_le (Nat.gcd_le_left _ (by omega))
  omega
section
variable {w:World} {x y:Value} {a b:Int}
theorem int64_dn (h:Dn w x a):Calls Tryz.prog 55 #[x] w (Ret fun r w'=>Ext w w'∧r=int64V a):=by
 obtain ⟨neg,xs,h1,rfl,h3⟩:=h
 exact int64_spec w x neg xs h1 (by omega)
theorem sign_dn (h:Dn w x a):Calls Tryz.prog 95 #[x] w (Ret fun r w'=>Ext w w'∧r=.int .i64 (signI a)):=by
 obtain ⟨neg,xs,h1,rfl,h3⟩:=h
 exact sign_spec w x neg xs h1 (by omega)
theorem neg_dn (h:Dn w x a):Calls Tryz.prog 56 #[x] w (Ret fun r w'=>Ext w w'∧Can w' r (-a)):=by
 obtain ⟨neg,xs,h1,rfl,h3⟩:=h
 exact neg_spec w x neg xs h1 (by omega)
theorem normalize_dn {base:Nat} (h:Dn w x a) (hb:base≤w.heap.size):Calls Tryz.prog 157 #[x] w (Ret fun r w'=>Ext w w'∧CanO base w' r a):=by
 obtain ⟨neg,xs,h1,rfl,h3⟩:=h
 refine (normalize_spec w x neg xs h1 (by omega)).mono ?_
 rintro e w' ⟨r,rfl,hx,hr⟩
 exact ⟨r,rfl,hx,hr.mono hb⟩
theorem add_dn (h:Dn w x a) (k:Dn w y b):Calls Tryz.prog 54 #[x,y] w (Ret fun r w'=>Ext w w'∧Can w' r (a+b)):=by
 obtain ⟨neg,xs,h1,rfl,h3⟩:=h
 obtain ⟨neg',ys,k1,rfl,k3⟩:=k
 exact add_spec w x y neg neg' xs ys h1 k1 (by omega) (by omega)
theorem sub_dn (h:Dn w x a) (k:Dn w y b):Calls Tryz.prog 48 #[x,y] w (Ret fun r w'=>Ext w w'∧Can w' r (a - b)):=by
 obtain ⟨neg,xs,h1,rfl,h3⟩:=h
 obtain ⟨neg',ys,k1,rfl,k3⟩:=k
 have:=sub_spec w x y neg neg' xs ys h1 k1 (by omega) (by omega)
 rwa [sg_not,← Int.sub_eq_add_neg] at this
theorem mul_dn (h:Dn w x a) (k:Dn w y b):Calls Tryz.prog 49 #[x,y] w (Ret fun r w'=>Ext w w'∧Can w' r (a * b)):=by
 obtain ⟨neg,xs,h1,rfl,h3⟩:=h
 obtain ⟨neg',ys,k1,rfl,k3⟩:=k
 exact mul_spec w x y neg neg' xs ys h1 k1 (by omega) (by omega)
theorem divMod_dn {base:Nat} (h:Dn w x a) (k:Dn w y b) (hb:base≤w.heap.size):Calls Tryz.prog 53 #[x,y] w (Ret fun r w'=>Ext w w'∧DivV base w' r a b):=by
 obtain ⟨neg,xs,h1,rfl,h3⟩:=h
 obtain ⟨neg',ys,k1,rfl,k3⟩:=k
 refine (divMod_spec w x y neg neg' xs ys h1 k1 (by omega) (by omega)).mono ?_
 rintro e w' ⟨r,rfl,hx,hr1,hr2⟩
 refine ⟨r,rfl,hx,hr1,fun h0=>?_⟩
 obtain ⟨q,m,e,hq,hm⟩:=hr2 h0
 exact ⟨q,m,e,hq.mono hb,hm.mono hb⟩
theorem gcd_dn (h:Dn w x a) (k:Dn w y b):Calls Tryz.prog 160 #[x,y] w (Ret fun r w'=>Ext w w'∧Can w' r ((Nat.gcd a.natAbs b.natAbs:Nat):Int)):=by
 obtain ⟨neg,xs,h1,rfl,h3⟩:=h
 obtain ⟨neg',ys,k1,rfl,k3⟩:=k
 have:=igcd_spec w x y neg neg' xs ys h1 k1 (by omega) (by omega)
 rw [sg_abs,sg_abs]
 exact this
theorem sqrt_dn (h:Dn w x a):Calls Tryz.prog 51 #[x] w (Ret fun r w'=>Ext w w'∧SqrtV w' r a):=by
 obtain ⟨neg,xs,h1,rfl,h3⟩:=h
 exact isqrt_spec w x neg xs h1 (by omega)
end
theorem DivV.rg {base:Nat} {T:Nat→Prop} {w w':World} {r:Value} {a b:Int} (h:DivV base w r a b) (hR:Rg Tryz.prog T w w'):DivV base w' r a b:=by
 refine ⟨h.1,fun h0=>?_⟩
 obtain ⟨q,m,e,hq,hm⟩:=h.2 h0
 exact ⟨q,m,e,hq.rg hR,hm.rg hR⟩
theorem MonoR.divV (base:Nat) (a b:Int):MonoR Tryz.prog (fun v w=>DivV base w v a b):=fun _ _ _ hR h=>h.rg hR
theorem b8_lit (bs:List Nat) (h:bs.all (fun b=>decide (b<256))=true):B8 bs:=fun b hb=>by
 have:=List.all_eq_true.1 h b hb
 simpa using this
theorem StL.setCan {base n:Nat} {E:List (Nat×Value)} {w w0:World} {ops:Array Oper} {rest:List Oper} {Q:Exit→Act→World→Prop} {t s:Nat} {ty:TypeId} {pos:String} {af:Array Edge} {b:Nat} {C:List Value} {v:Value} {a:Int}
  (ht:look E t=some (.pointer (some ⟨b,0,none⟩))) (hs:look E s=some v) (hb:Blk 31 w b C) (hC:C.length=2) (hv:CanO base w v a) (hx:Ext w0 w) (hb0:w0.heap.size≤b)
  (next:∀ w',Blk 31 w' b v.cells.toList→Upd b w w'→CanO base w' v a→Ext w0 w'→StL Tryz.prog n E w' ops rest Q) :
  StL Tryz.prog n E w ops (⟨none,.store 31 (.tmp t) (.tmp s),ty,pos,af,none⟩::rest) Q:=by
 refine StL.retCan ht hs hb hC hv hx hb0 ?_
 intro w4 cs hcs hl hb4 hu4 hx4
 refine next w4 ?_ hu4 (hv.upd hu4 ⟨_,hb⟩) hx4
 rw [hcs]
 simpa [Value.cells] using hb4
theorem CanO.agg {base:Nat} {w:World} {v:Value} {a:Int} (h:CanO base w v a):v=.agg v.cells:=by
 obtain ⟨p,cap,rfl,_⟩:=h
 rfl
theorem RunsTo.loadCan {base n:Nat} {E:List (Nat×Value)} {w wv:World} {d:Option Tmp} {x:Operand} {ty:TypeId} {pos:String} {af:Array Edge} {g:Option (Nat×Bool)} {b:Nat} {v:Value} {a:Int} (hx:ov E x=some (.pointer (some ⟨b,0,none⟩))) (hb:Blk 31 w b v.cells.toList) (hv:CanO base wv v a) :
  RunsTo Tryz.prog n ⟨d,.load 31 x,ty,pos,af,g⟩ E w v :=
 RunsTo.loadInt hx hb hv.two.1 (by simpa using hv.agg)
theorem StL.setTwo {base n:Nat} {E:List (Nat×Value)} {w w0:World} {ops:Array Oper} {rest:List Oper} {Q:Exit→Act→World→Prop} {d1 d2 s1 s2:Nat} {ty1 ty2 ty3 ty4:TypeId} {p1 p2 p3 p4:String} {a1 a2 a3 a4:Array Edge} {u v:Value} {x y:Int}
  (hn1:Nat.blt d1 n=true) (hn2:Nat.blt d2 n=true) (hne:Nat.beq d2 d1=false) (hs1:∀ p q,look ((d2,q)::(d1,p)::E) s1=some u) (hs2:∀ p q,look ((d2,q)::(d1,p)::E) s2=some v) (hu:CanO base w u x) (hv:CanO base w v y) (hx:Ext w0 w)
  (next:∀ b1 b2 w',b1≠b2→w.heap.size≤b1→w.heap.size≤b2→Ext w w'→Blk 31 w' b1 u.cells.toList→Blk 31 w' b2 v.cells.toList→CanO base w' u x→CanO base w' v y→Ext w0 w'→StL Tryz.prog n ((d2,.pointer (some ⟨b2,0,none⟩))::(d1,.pointer (some ⟨b1,0,none⟩))::E) w' ops rest Q) :
  StL Tryz.prog n E w ops (⟨some d1,.alloc 31,ty1,p1,a1,none⟩::⟨some d2,.alloc 31,ty2,p2,a2,none⟩::⟨none,.store 31 (.tmp d1) (.tmp s1),ty3,p3,a3,none⟩::⟨none,.store 31 (.tmp d2) (.tmp s2),ty4,p4,a4,none⟩::rest) Q:=by
 refine StL.step rfl rfl hn1 (OpR.alloc TBok rfl) ?_
 rintro _ w5 ⟨rfl,hb5,hx5,hz5⟩
 refine StL.step rfl rfl hn2 (OpR.alloc TBok rfl) ?_
 rintro _ w6 ⟨rfl,hb6,hx6,hz6⟩
 have hx56:=hx5.trans hx6
 have hl1:look ((d2,Value.pointer (some ⟨w5.heap.size,0,none⟩))::(d1,.pointer (some ⟨w.heap.size,0,none⟩))::E) d1=some (.pointer (some ⟨w.heap.size,0,none⟩)):=by
  rw [look_cons_ne _ _ (fun e=>by subst e;simp at hne),look_cons_self]
 refine StL.setCan hl1 (hs1 _ _) (hb5.ext hx6) rfl (hu.ext hx56) hx56 (Nat.le_refl _) ?_
 intro w7 hS5 hu7 hu7c hx7
 have hb6':=hb6.upd hu7 (by omega)
 refine StL.setCan (look_cons_self _ _ _) (hs2 _ _) hb6' rfl (CanO.upd (hv.ext hx56) hu7 ⟨_,hb5.ext hx6⟩) hx7 (by omega) ?_
 intro w8 hS6 hu8 hv8 hx8
 exact next _ _ w8 (by omega) (Nat.le_refl _) (by omega) hx8 (hS5.upd hu8 (by omega)) hS6 (CanO.upd hu7c hu8 ⟨_,hb6'⟩) hv8 (hx.trans hx8)
theorem StL.setNew {base n:Nat} {E:List (Nat×Value)} {w w0:World} {ops:Array Oper} {rest:List Oper} {Q:Exit→Act→World→Prop} {d s:Nat} {ty1 ty2:TypeId} {p1 p2:String} {a1 a2:Array Edge} {u:Value} {x:Int}
  (hn:Nat.blt d n=true) (hs:∀ p,look ((d,p)::E) s=some u) (hu:CanO base w u x) (hx:Ext w0 w)
  (next:∀ b w',w.heap.size≤b→Ext w w'→Blk 31 w' b u.cells.toList→CanO base w' u x→Ext w0 w'→StL Tryz.prog n ((d,.pointer (some ⟨b,0,none⟩))::E) w' ops rest Q) :
  StL Tryz.prog n E w ops (⟨some d,.alloc 31,ty1,p1,a1,none⟩::⟨none,.store 31 (.tmp d) (.tmp s),ty2,p2,a2,none⟩::rest) Q:=by
 refine StL.step rfl rfl hn (OpR.alloc TBok rfl) ?_
 rintro _ w5 ⟨rfl,hb5,hx5,hz5⟩
 refine StL.setCan (look_cons_self _ _ _) (hs _) hb5 rfl (hu.ext hx5) hx5 (Nat.le_refl _) ?_
 intro w7 hS5 hu7 hu7c hx7
 exact next _ w7 (Nat.le_refl _) hx7 hS5 hu7c (hx.trans hx7)
section
variable {P:Program} {T:List (Nat×TI)} {n:Nat} {E:List (Nat×Value)} {w:World}
theorem RunsTo.remT {d:Option Tmp} {t t2:TypeId} {x y:Operand} {ty:TypeId} {pos:String} {af:Array Edge} {g:Option (Nat×Bool)} {k:IntKind} {m s:Int} (hx:ov E x=some (.int k m)) (hy:ov E y=some (.int k s)) (hs:s≠0) :
  RunsTo P n ⟨d,.binOp .rem t x y t2,ty,pos,af,g⟩ E w (.int k (m.tmod s)):=by
 intro a ha
 have e1:=ha.eval hx
 have e2:=ha.eval hy
 generalize a.eval=ρ at e1 e2
 simp [execOp,e1,e2,eqGuard,binOp,Op.intDiv,hs,go_sem]
end
end Go.Qf
namespace Go.Qf
open Go Go.RowKit Go.Proofs
theorem gcdC (a b:Int):((Int.gcd b a:Nat):Int)=((Nat.gcd a.natAbs b.natAbs:Nat):Int):=by rw [Int.gcd_comm];rfl
theorem gcd_dvd_l (a b:Int):((Nat.gcd a.natAbs b.natAbs:Nat):Int) ∣ a:=Int.ofNat_dvd_left.2 (Nat.gcd_dvd_left _ _)
theorem gcd_dvd_r (a b:Int):((Nat.gcd a.natAbs b.natAbs:Nat):Int) ∣ b:=Int.ofNat_dvd_left.2 (Nat.gcd_dvd_right _ _)
theorem gcd_ne {a b:Int} (hb:b≠0):Nat.gcd a.natAbs b.natAbs≠0:=by
 have:=Nat.gcd_pos_of_pos_right a.natAbs (show 0<b.natAbs by omega)
 omega
theorem num_pos {a b:Int} (hb:0<b):(Rat.divInt a b).num=a / ((Nat.gcd a.natAbs b.natAbs:Nat):Int):=by
 rw [Rat.num_divInt,Int.sign_eq_one_of_pos hb,Int.one_mul,gcdC]
theorem num_neg' {a b:Int} (hb:b<0):(Rat.divInt a b).num=a / -((Nat.gcd a.natAbs b.natAbs:Nat):Int):=by
 rw [Rat.num_divInt,Int.sign_eq_neg_one_of_neg hb,gcdC,Int.ediv_neg,Int.neg_mul,Int.one_mul,Int.neg_ediv_of_dvd (gcd_dvd_l a b)]
theorem den_pos' {a b:Int} (hb:0<b):((Rat.divInt a b).den:Int)=b / ((Nat.gcd a.natAbs b.natAbs:Nat):Int):=by
 rw [Rat.den_divInt,if_neg (by omega),Int.natCast_ediv,gcdC,Int.natAbs_of_nonneg (by omega)]
theorem den_neg' {a b:Int} (hb:b<0):((Rat.divInt a b).den:Int)=b / -((Nat.gcd a.natAbs b.natAbs:Nat):Int):=by
 have e:((b.natAbs:Nat):Int)=-b:=by omega
 rw [Rat.den_divInt,if_neg (by omega),Int.natCast_ediv,gcdC,e,Int.ediv_neg,Int.neg_ediv_of_dvd (gcd_dvd_r a b)]
theorem lowest_num {a b:Int} (hb:b≠0):a / (if b<0 then -((Nat.gcd a.natAbs b.natAbs:Nat):Int) else ((Nat.gcd a.natAbs b.natAbs:Nat):Int))=(Rat.divInt a b).num:=by
 split
 ·rw [num_neg' (by omega)]
 ·rw [num_pos (by omega)]
theorem lowest_den {a b:Int} (hb:b≠0):b / (if b<0 then -((Nat.gcd a.natAbs b.natAbs:Nat):Int) else ((Nat.gcd a.natAbs b.natAbs:Nat):Int))=((Rat.divInt a b).den:Int):=by
 split
 ·rw [den_neg' (by omega)]
 ·rw [den_pos' (by omega)]
theorem den_pos (q:Rat):(0:Int)<q.den:=by
 have:=q.den_nz
 omega
def rz (q:Rat):Nat:=max (sz q.num) (sz (q.den:Int))
theorem rz_num (q:Rat):sz q.num≤rz q:=Nat.le_max_left _ _
theorem rz_den (q:Rat):sz (q.den:Int)≤rz q:=Nat.le_max_right _ _
theorem sz_1:sz 1=1:=by decide +kernel
theorem rz_divInt (a b:Int):rz (Rat.divInt a b)≤max (max (sz a) (sz b)) 1:=by
 have h1:sz (Rat.divInt a b).num≤sz a:=by
  rw [Rat.num_divInt]
  refine Nat.le_trans (sz_div _ _) (sz_le_nat ?_)
  rw [Int.natAbs_mul]
  rcases Int.lt_trichotomy b 0 with h | h | h
  ·rw [Int.sign_eq_neg_one_of_neg h];simp
  ·subst h;simp
  ·rw [Int.sign_eq_one_of_pos h];simp
 have h2:sz ((Rat.divInt a b).den:Int)≤max (sz b) 1:=by
  rw [Rat.den_divInt]
  split
  ·have h1:sz ((1:Nat):Int)=1:=by decide +kernel
   omega
  ·have:sz (((b.natAbs / Int.gcd b a:Nat)):Int)≤sz b:=sz_nat_le (Nat.div_le_self _ _)
   omega
 unfold rz
 omega
theorem rz_add (p q:Rat):rz (p+q)≤rz p+rz q+1:=by
 rw [Rat.add_def',← Rat.divInt_ofNat]
 have h:=rz_divInt (p.num * q.den+q.num * p.den) ((p.den * q.den:Nat):Int)
 have h1:=sz_add (p.num * q.den) (q.num * p.den)
 have h2:=sz_mul p.num q.den
 have h3:=sz_mul q.num p.den
 have h4:=sz_mul (p.den:Int) (q.den:Int)
 rw [← Int.natCast_mul] at h4
 have:=rz_num p
 have:=rz_num q
 have:=rz_den p
 have:=rz_den q
 omega
end Go.Qf
namespace Go.Qf
open Go Go.RowKit Go.Proofs
set_option maxRecDepth 20000
def R2 (v:Value):Prop:=∃ n s,v=IntV n s∧s.oneCell'=true
def R4 (v:Value):Prop:=∃ n s m t,v=.agg #[.bool n,s,.bool m,t]∧s.oneCell'=true∧t.oneCell'=true
def nm (v:Value):Value:=.agg #[v.cells.getD 0 undef,v.cells.getD 1 undef]
def dm (v:Value):Value:=.agg #[v.cells.getD 2 undef,v.cells.getD 3 undef]
def mkR (x y:Value):Value:=.agg #[x.cells.getD 0 undef,x.cells.getD 1 undef,y.cells.getD 0 undef,y.cells.getD 1 undef]
theorem nm_mkR {x y:Value} (hx:R2 x):nm (mkR x y)=x:=by obtain ⟨n,s,rfl,_⟩:=hx;rfl
theorem dm_mkR {x y:Value} (hy:R2 y):dm (mkR x y)=y:=by obtain ⟨n,s,rfl,_⟩:=hy;rfl
theorem mkR_R4 {x y:Value} (hx:R2 x) (hy:R2 y):R4 (mkR x y):=by
 obtain ⟨n,s,rfl,hs⟩:=hx
 obtain ⟨m,t,rfl,ht⟩:=hy
 exact ⟨n,s,m,t,rfl,hs,ht⟩
theorem R4.agg {v:Value} (h:R4 v):v=.agg v.cells:=by obtain ⟨n,s,m,t,rfl,_⟩:=h;rfl
theorem R4.len {v:Value} (h:R4 v):v.cells.toList.length=4:=by obtain ⟨n,s,m,t,rfl,_⟩:=h;rfl
theorem R4.ones {v:Value} (h:R4 v):∀ u ∈ v.cells.toList,u.oneCell'=true:=by
 obtain ⟨n,s,m,t,rfl,hs,ht⟩:=h
 intro u hu
 simp only [Value.cells,List.mem_cons,List.not_mem_nil,or_false] at hu
 rcases hu with rfl | rfl | rfl | rfl
 ·rfl
 ·exact hs
 ·rfl
 ·exact ht
theorem R2.len {v:Value} (h:R2 v):v.cells.toList.length=2:=by obtain ⟨n,s,rfl,_⟩:=h;rfl
theorem CanO.r2 {base:Nat} {w:World} {v:Value} {a:Int} (h:CanO base w v a):R2 v:=by obtain ⟨p,cap,rfl,_⟩:=h;exact ⟨_,_,rfl,rfl⟩
theorem Dn.r2 {w:World} {v:Value} {a:Int} (h:Dn w v a):R2 v:=by obtain ⟨n,xs,⟨p,cap,rfl,_⟩,_⟩:=h;exact ⟨_,_,rfl,rfl⟩
def CanR (base:Nat) (w:World) (v:Value) (q:Rat):Prop:=R4 v∧CanO base w (nm v) q.num∧CanO base w (dm v) (q.den:Int)
def DnR (w:World) (v:Value) (q:Rat):Prop:=R4 v∧∃ a b,Dn w (nm v) a∧Dn w (dm v) b∧q=Rat.divInt a b
theorem CanR.mk {base:Nat} {w:World} {x y:Value} {q:Rat} (hx:CanO base w x q.num) (hy:CanO base w y (q.den:Int)):CanR base w (mkR x y) q :=
 ⟨mkR_R4 hx.r2 hy.r2,by rw [nm_mkR hx.r2];exact hx,by rw [dm_mkR hy.r2];exact hy⟩
theorem CanR.ext {base:Nat} {w w':World} {v:Value} {q:Rat} (h:CanR base w v q) (hx:Ext w w'):CanR base w' v q:=⟨h.1,h.2.1.ext hx,h.2.2.ext hx⟩
theorem CanR.rg {base:Nat} {T:Nat→Prop} {w w':World} {v:Value} {q:Rat} (h:CanR base w v q) (hR:Rg Tryz.prog T w w'):CanR base w' v q:=⟨h.1,h.2.1.rg hR,h.2.2.rg hR⟩
theorem MonoR.canR (base:Nat) (q:Rat):MonoR Tryz.prog (fun v w=>CanR base w v q):=fun _ _ _ hR h=>h.rg hR
theorem DnR.ext {w w':World} {v:Value} {q:Rat} (h:DnR w v q) (hx:Ext w w'):DnR w' v q:=by
 obtain ⟨h4,a,b,ha,hb,e⟩:=h
 exact ⟨h4,a,b,ha.ext hx,hb.ext hx,e⟩
theorem CanO.updT {base:Nat} {w w':World} {v:Value} {a:Int} {b:Nat} {t:TypeId} {C:List Value} (h:CanO base w v a) (hu:Upd b w w') (hb:Blk t w b C) (hne:139≠t):CanO base w' v a:=by
 obtain ⟨p,cap,hv,hs⟩:=h
 exact ⟨p,cap,hv,Own.updT hs.1 hu hb hne,hs.2⟩
theorem CanR.upd {base:Nat} {w w':World} {v:Value} {q:Rat} {b:Nat} {t:TypeId} {C:List Value} (h:CanR base w v q) (hu:Upd b w w') (hb:Blk t w b C) (hne:139≠t):CanR base w' v q :=
 ⟨h.1,h.2.1.updT hu hb hne,h.2.2.updT hu hb hne⟩
def tyF:TypeId:=33
def RT (t:TypeId):Bool:=Nat.beq t 33 || Nat.beq t tyF
theorem RT.look {t:TypeId} (h:RT t=true):∃ ti,lookT TB t=some ti∧isAggD ti.desc=true∧ti.size=4∧ti.zero.cells.toList.length=4∧139≠t:=by
 unfold RT at h
 rw [Bool.or_eq_true] at h
 rcases h with h | h
 ·have:=Nat.eq_of_beq_eq_true h
  subst this
  exact ⟨_,rfl,rfl,rfl,rfl,by decide⟩
 ·have:=Nat.eq_of_beq_eq_true h
  subst this
  exact ⟨_,rfl,rfl,rfl,rfl,by decide⟩
section
variable {n:Nat} {E:List (Nat×Value)} {w:World} {d:Option Tmp} {x y:Operand} {ty:TypeId} {pos:String} {af:Array Edge} {g:Option (Nat×Bool)} {b:Nat} {e t:TypeId} {u v:Value}
theorem RunsTo.loadR (hT:RT t=true) (hx:ov E x=some (.pointer (some ⟨b,0,none⟩))) (hb:Blk e w b v.cells.toList) (hv:R4 v):RunsTo Tryz.prog n ⟨d,.load t x,ty,pos,af,g⟩ E w v:=by
 obtain ⟨ti,ht,hag,h4,_⟩:=RT.look hT
 have:=RunsTo.loadAgg (n:=n) (d:=d) (ty:=ty) (pos:=pos) (af:=af) (g:=g) TBok ht hag hx hb (cs:=v.cells.toList) (by rw [h4,hv.len];exact Nat.le_refl 4) (by rw [h4,List.drop_zero];exact List.take_of_length_le (by rw [hv.len];exact Nat.le_refl 4))
 rw [show Value.agg v.cells.toList.toArray=v from by simpa using hv.agg.symm] at this
 exact this
theorem RunsTo.loadN (hx:ov E x=some (.pointer (some ⟨b,0,none⟩))) (hb:Blk e w b v.cells.toList) (hv:R4 v):RunsTo Tryz.prog n ⟨d,.load 31 x,ty,pos,af,g⟩ E w (nm v):=by
 obtain ⟨n,s,m,t,rfl,_⟩:=hv
 exact RunsTo.loadAgg TBok rfl rfl hx hb (by simp [Value.cells]) rfl
theorem RunsTo.loadD (hx:ov E x=some (.pointer (some ⟨b,2,none⟩))) (hb:Blk e w b v.cells.toList) (hv:R4 v):RunsTo Tryz.prog n ⟨d,.load 31 x,ty,pos,af,g⟩ E w (dm v):=by
 obtain ⟨n,s,m,t,rfl,_⟩:=hv
 exact RunsTo.loadAgg TBok rfl rfl hx hb (by simp [Value.cells]) rfl
theorem RunsTo.loadI2 (hx:ov E x=some (.pointer (some ⟨b,0,none⟩))) (hb:Blk e w b v.cells.toList) (hv:R2 v):RunsTo Tryz.prog n ⟨d,.load 31 x,ty,pos,af,g⟩ E w v:=by
 obtain ⟨n,s,rfl,_⟩:=hv
 exact RunsTo.loadAgg TBok rfl rfl hx hb (by simp [IntV,Value.cells]) rfl
theorem RunsTo.fieldD (hT:RT t=true) (hx:ov E x=some v) (hv:R4 v):RunsTo Tryz.prog n ⟨d,.field t x 1,ty,pos,af,g⟩ E w (dm v):=by
 refine RunsTo.pure TBok ?_
 obtain ⟨n,s,m,k,rfl,_⟩:=hv
 unfold RT at hT
 rw [Bool.or_eq_true] at hT
 rcases hT with h | h
 all_goals
  have:=Nat.eq_of_beq_eq_true h
  subst this
  dsimp only [pureOp]
  rw [hx]
  rfl
theorem RunsTo.buildR (hx:ov E x=some u) (hy:ov E y=some v) (hu:R2 u) (hv:R2 v):RunsTo Tryz.prog n ⟨d,.build 33 #[(0,x),(1,y)],ty,pos,af,g⟩ E w (mkR u v):=by
 obtain ⟨n,s,rfl,_⟩:=hu
 obtain ⟨m,t,rfl,_⟩:=hv
 exact RunsTo.build TBok rfl (pl:=[(0,2),(2,2)]) rfl (ps:=[(0,IntV n s),(1,IntV m t)]) (by simp [ovp,hx,hy]) rfl
end
section
variable {n:Nat} {E:List (Nat×Value)} {w w0:World} {ops:Array Oper} {rest:List Oper} {Q:Exit→Act→World→Prop} {ty ty1 ty2:TypeId} {pos p1 p2:String} {af a1 a2:Array Edge} {b t s d:Nat} {C:List Value} {v:Value} {e:TypeId}
theorem StL.setR (hT:RT e=true) (ht:look E t=some (.pointer (some ⟨b,0,none⟩))) (hs:look E s=some v) (hv:R4 v) (hb:Blk e w b C) (hC:C.length=4) (hx:Ext w0 w) (hb0:w0.heap.size≤b)
  (next:∀ w',Blk e w' b v.cells.toList→Upd b w w'→Ext w0 w'→StL Tryz.prog n E w' ops rest Q) :
  StL Tryz.prog n E w ops (⟨none,.store e (.tmp t) (.tmp s),ty,pos,af,none⟩::rest) Q:=by
 obtain ⟨ti,hte,hag,h4,_⟩:=RT.look hT
 refine StL.step0 rfl rfl (OpR.storeAll TBok hte hag ht hs (by rw [h4];exact hv.len) (by rw [h4];exact hC) hv.ones hb) ?_
 rintro _ w' ⟨hb',hu,_⟩
 exact next w' hb' hu (hx.then_upd hu hb0)
theorem StL.newR (hT:RT e=true) (hn:Nat.blt d n=true) (hs:∀ p,look ((d,p)::E) s=some v) (hv:R4 v)
  (next:∀ b w',w.heap.size≤b→Ext w w'→Blk e w' b v.cells.toList→StL Tryz.prog n ((d,.pointer (some ⟨b,0,none⟩))::E) w' ops rest Q) :
  StL Tryz.prog n E w ops (⟨some d,.alloc e,ty1,p1,a1,none⟩::⟨none,.store e (.tmp d) (.tmp s),ty2,p2,a2,none⟩::rest) Q:=by
 obtain ⟨ti,hte,hag,h4,hz,_⟩:=RT.look hT
 refine StL.step rfl rfl hn (OpR.alloc TBok hte) ?_
 rintro _ w5 ⟨rfl,hb5,hx5,hz5⟩
 refine StL.setR hT (look_cons_self _ _ _) (hs _) hv hb5 hz hx5 (Nat.le_refl _) ?_
 intro w7 hS5 hu7 hx7
 exact next _ w7 (Nat.le_refl _) hx7 hS5
theorem Out.retR {fn:Func} {Φ:Value→World→Prop} (hr:fn.results=#[.cell t 33]) (ht:look E t=some (.pointer (some ⟨b,0,none⟩))) (hb:Blk e w b v.cells.toList) (hv:R4 v) (h:Φ v w):Out n E w .ret (bodyPost Tryz.prog fn (Ret Φ)) :=
 Out.rets TBok [v] hr ⟨⟨_,_,_,_,ht,hb,rfl,rfl,hv.len,by simpa using hv.agg⟩,trivial⟩ h
theorem Out.retRT {fn:Func} {Φ:Value→World→Prop} {u:Value} (hr:fn.results=#[.cell t 33,.tmp s]) (ht:look E t=some (.pointer (some ⟨b,0,none⟩))) (hs:look E s=some u) (hb:Blk e w b v.cells.toList) (hv:R4 v) (h:Φ (.tuple #[v,u]) w):Out n E w .ret (bodyPost Tryz.prog fn (Ret Φ)) :=
 Out.rets TBok [v,u] hr ⟨⟨_,_,_,_,ht,hb,rfl,rfl,hv.len,by simpa using hv.agg⟩,hs,trivial⟩ h
theorem Out.retI {base:Nat} {a:Int} {wv:World} {fn:Func} {Φ:Value→World→Prop} (hr:fn.results=#[.cell t 31]) (ht:look E t=some (.pointer (some ⟨b,0,none⟩))) (hb:Blk e w b v.cells.toList) (hv:CanO base wv v a) (h:Φ v w):Out n E w .ret (bodyPost Tryz.prog fn (Ret Φ)) :=
 Out.rets TBok [v] hr ⟨⟨_,_,_,_,ht,hb,rfl,rfl,hv.two.1,by simpa using hv.agg⟩,trivial⟩ h
end
def zR:Value:=.agg #[.bool false,.slice none 0 0,.bool false,.slice none 0 0]
theorem zR_R4:R4 zR:=⟨false,.slice none 0 0,false,.slice none 0 0,rfl,rfl,rfl⟩
def flat (vs:List Value):List Value:=vs.flatMap (fun v=>v.cells.toList)
section
variable {n:Nat} {E:List (Nat×Value)} {w:World} {d:Option Tmp} {x y z i:Operand} {ty:TypeId} {pos:String} {af:Array Edge} {g:Option (Nat×Bool)} {b:Nat} {e:TypeId} {u v k:Value}
end
abbrev i64 (x:Int):Value:=.int .i64 x
def At2 (w:World) (p:Option Addr) (i:Nat) (u:Value):Prop:=∃ b o e C,p=some ⟨b,o,none⟩∧Blk e w b C∧(C.drop (o+2 * i)).take 2=u.cells.toList∧o+2 * i+2≤C.length
theorem At2.ext {w w':World} {p:Option Addr} {i:Nat} {u:Value} (h:At2 w p i u) (hx:Ext w w'):At2 w' p i u:=by
 obtain ⟨b,o,e,C,hp,hb,h1,h2⟩:=h
 exact ⟨b,o,e,C,hp,hb.ext hx,h1,h2⟩
def LI (w:World) (v:Value) (xs:List Int):Prop:=∃ p cap,v=.slice p xs.length cap∧xs.length≤cap∧∀ (i:Nat) (x:Int),xs[i]?=some x→∃ u,At2 w p i u∧Dn w u x
theorem LI.ext {w w':World} {v:Value} {xs:List Int} (h:LI w v xs) (hx:Ext w w'):LI w' v xs:=by
 obtain ⟨p,cap,hv,hc,hg⟩:=h
 refine ⟨p,cap,hv,hc,fun i x hi=>?_⟩
 obtain ⟨u,h1,h2⟩:=hg i x hi
 exact ⟨u,h1.ext hx,h2.ext hx⟩
def MI (w:World) (v:Value) (M:List (List Int)):Prop:=∃ rs,Row 45 w v rs∧rs.length=M.length∧∀ (i:Nat) (r:Value) (row:List Int),rs[i]?=some r→M[i]?=some row→LI w r row
theorem MI.ext {w w':World} {v:Value} {M:List (List Int)} (h:MI w v M) (hx:Ext w w'):MI w' v M:=by
 obtain ⟨rs,h1,h2,h3⟩:=h
 exact ⟨rs,h1.ext hx,h2,fun i r row a b=>(h3 i r row a b).ext hx⟩
def L64 (w:World) (v:Value) (xs:List Int):Prop:=Row 2 w v (xs.map i64)
def M64 (w:World) (v:Value) (M:List (List Int)):Prop:=∃ rs,Row 27 w v rs∧rs.length=M.length∧∀ (i:Nat) (r:Value) (row:List Int),rs[i]?=some r→M[i]?=some row→L64 w r row
theorem L64.ext {w w':World} {v:Value} {xs:List Int} (h:L64 w v xs) (hx:Ext w w'):L64 w' v xs:=Row.ext h hx
theorem M64.ext {w w':World} {v:Value} {M:List (List Int)} (h:M64 w v M) (hx:Ext w w'):M64 w' v M:=by
 obtain ⟨rs,h1,h2,h3⟩:=h
 exact ⟨rs,h1.ext hx,h2,fun i r row a b=>(h3 i r row a b).ext hx⟩
theorem M64.row {w:World} {v:Value} {M:List (List Int)} (h:M64 w v M) {i:Nat} {row:List Int} (hi:M[i]?=some row):∃ rs r,Row 27 w v rs∧rs[i]?=some r∧L64 w r row:=by
 obtain ⟨rs,h1,h2,h3⟩:=h
 have hlt:=(List.getElem?_eq_some_iff.1 hi).1
 have hr:rs[i]?=some (rs[i]'(by omega)):=by simp
 exact ⟨rs,_,h1,hr,h3 i _ row hr hi⟩
theorem MI.len {w:World} {v:Value} {M:List (List Int)} (h:MI w v M):∃ p cap,v=.slice p M.length cap:=by
 obtain ⟨rs,h1,h2,_⟩:=h
 obtain ⟨p,cap,hv⟩:=h1.len
 exact ⟨p,cap,by rw [hv,h2]⟩
theorem M64.len {w:World} {v:Value} {M:List (List Int)} (h:M64 w v M):∃ p cap,v=.slice p M.length cap:=by
 obtain ⟨rs,h1,h2,_⟩:=h
 obtain ⟨p,cap,hv⟩:=h1.len
 exact ⟨p,cap,by rw [hv,h2]⟩
theorem L64.len {w:World} {v:Value} {xs:List Int} (h:L64 w v xs):∃ p cap,v=.slice p xs.length cap:=by
 obtain ⟨p,cap,hv⟩:=Row.len h
 exact ⟨p,cap,by rw [hv];simp⟩
theorem LI.get {w:World} {v:Value} {xs:List Int} (h:LI w v xs) {i:Nat} {x:Int} (hi:xs[i]?=some x):∃ b o cap u e C,v=.slice (some ⟨b,o,none⟩) xs.length cap∧Dn w u x∧Blk e w b C∧(C.drop (o+2 * i)).take 2=u.cells.toList∧o+2 * i+2≤C.length:=by
 obtain ⟨p,cap,hv,hc,hg⟩:=h
 obtain ⟨u,⟨b,o,e,C,hp,hb,h1,h2⟩,hd⟩:=hg i x hi
 subst hp
 exact ⟨b,o,cap,u,e,C,hv,hd,hb,h1,h2⟩
section
variable {n:Nat} {E:List (Nat×Value)} {w:World} {d:Option Tmp} {x i:Operand} {ty:TypeId} {pos:String} {af:Array Edge} {g:Option (Nat×Bool)}
theorem RunsTo.indexI {b o len cap j:Nat} {iv:Int} (hx:ov E x=some (.slice (some ⟨b,o,none⟩) len cap)) (hi:ov E i=some (.int .i64 iv)) (hiv:iv=j) (hj:j<len) :
  RunsTo Tryz.prog n ⟨d,.indexAddr 45 x i,ty,pos,af,g⟩ E w (.pointer (some ⟨b,o+2 * j,none⟩)):=by
 subst hiv
 intro a ha
 have e1:=ha.eval hx
 have e2:=ha.eval hi
 have h1:=run_underlying_T (P:=Tryz.prog) (w:=w) TBok (t:=45) rfl
 have h2:=run_sizeOf_T (P:=Tryz.prog) (w:=w) TBok (t:=31) rfl
 dsimp only at h1 h2
 have e3:j * 2=2 * j:=Nat.mul_comm _ _
 generalize a.eval=ρ at e1 e2
 simp [execOp,Instr.indexAt,e1,e2,h1,h2,hj,asIntOf,addr_add,e3,go_sem]
theorem RunsTo.loadIt {b o j:Nat} {u:Value} {e:TypeId} {C:List Value} (hx:ov E x=some (.pointer (some ⟨b,o+2 * j,none⟩))) (hb:Blk e w b C) (h1:(C.drop (o+2 * j)).take 2=u.cells.toList) (h2:o+2 * j+2≤C.length) (hu:R2 u) :
  RunsTo Tryz.prog n ⟨d,.load 31 x,ty,pos,af,g⟩ E w u:=by
 have:=RunsTo.loadAgg (n:=n) (d:=d) (ty:=ty) (pos:=pos) (af:=af) (g:=g) TBok (t:=31) rfl rfl hx hb (cs:=u.cells.toList) h2 h1
 obtain ⟨k,s,rfl,_⟩:=hu
 exact this
end
section
variable {n:Nat} {E:List (Nat×Value)} {w:World} {ops:Array Oper} {rest:List Oper} {Q:Exit→Act→World→Prop} {d1 d2:Nat} {x i:Operand} {ty ty2:TypeId} {pos pos2:String} {af af2:Array Edge} {g g2:Option (Nat×Bool)}
end
theorem flatK_len {k:Nat}:∀ (vs:List Value),(∀ v ∈ vs,v.cells.toList.length=k)→(flat vs).length=k * vs.length:=by
 intro vs
 induction vs with
 | nil=>intro _;rfl
 | cons v vs ih =>
  intro h
  have:=ih (fun u hu=>h u (List.mem_cons_of_mem _ hu))
  have h4:=h v (by simp)
  unfold flat at this ⊢
  rw [List.flatMap_cons,List.length_append,this,h4,List.length_cons,Nat.mul_succ]
  omega
theorem flatK_at {k:Nat}:∀ (vs:List Value) (D:List Value) (i:Nat) (v:Value),(∀ v ∈ vs,v.cells.toList.length=k)→vs[i]?=some v→((flat vs++D).drop (k * i)).take k=v.cells.toList:=by
 intro vs
 induction vs with
 | nil=>intro D i v _ h;simp at h
 | cons u vs ih =>
  intro D i v h hi
  have h4:=h u (by simp)
  unfold flat
  rw [List.flatMap_cons,List.append_assoc]
  cases i with
  | zero =>
   simp only [List.getElem?_cons_zero,Option.some.injEq] at hi
   subst hi
   rw [Nat.mul_zero,List.drop_zero,List.take_append_of_le_length (by omega),List.take_of_length_le (by omega)]
  | succ i =>
   simp only [List.getElem?_cons_succ] at hi
   rw [show k * (i+1)=u.cells.toList.length+k * i by rw [h4,Nat.mul_succ];omega,List.drop_append]
   rw [List.drop_of_length_le (by omega),List.nil_append,show u.cells.toList.length+k * i - u.cells.toList.length=k * i by omega]
   exact ih D i v (fun v hv=>h v (List.mem_cons_of_mem _ hv)) hi
theorem over_app_left:∀ (vs A B:List Value) (o:Nat),over (A++B) (A.length+o) vs=A++over B o vs:=by
 intro vs
 induction vs with
 | nil=>intro A B o;rfl
 | cons v vs ih =>
  intro A B o
  simp only [over]
  rw [List.set_append_right _ _ (by omega),show A.length+o - A.length=o by omega,show A.length+o+1=A.length+(o+1) by omega,ih]
theorem over_app_full:∀ (vs C B:List Value),C.length=vs.length→over (C++B) 0 vs=vs++B:=by
 intro vs
 induction vs with
 | nil=>intro C B h;rw [List.eq_nil_of_length_eq_zero h];rfl
 | cons v vs ih =>
  intro C B h
  cases C with
  | nil=>simp at h
  | cons c C =>
   simp only [over]
   have e:=over_app_left vs [v] (C++B) 0
   have:=ih C B (by simpa using h)
   simp only [List.length_singleton,Nat.add_zero,List.singleton_append] at e
   rw [List.cons_append,List.set_cons_zero,e,this]
   rfl
theorem flatK_set {k:Nat}:∀ (vs:List Value) (D:List Value) (j:Nat) (u:Value),(∀ v ∈ vs,v.cells.toList.length=k)→j<vs.length→u.cells.toList.length=k→over (flat vs++D) (k * j) u.cells.toList=flat (vs.set j u)++D:=by
 intro vs
 induction vs with
 | nil=>intro D j u _ h;simp at h
 | cons v vs ih =>
  intro D j u h hj hu
  have h4:=h v (by simp)
  cases j with
  | zero =>
   show over (flat (v::vs)++D) 0 u.cells.toList=flat (u::vs)++D
   unfold flat
   rw [List.flatMap_cons,List.flatMap_cons,List.append_assoc,List.append_assoc,over_app_full _ _ _ (by omega)]
  | succ j =>
   have:=ih D j u (fun v hv=>h v (List.mem_cons_of_mem _ hv)) (by simpa using hj) hu
   show over (flat (v::vs)++D) (k * (j+1)) u.cells.toList=flat (v::vs.set j u)++D
   unfold flat at this ⊢
   rw [List.flatMap_cons,List.flatMap_cons,List.append_assoc,List.append_assoc,show k * (j+1)=v.cells.toList.length+k * j by rw [h4,Nat.mul_succ];omega,over_app_left,this]
def ShK (k:Nat) (us:List Value):Prop:=∀ u ∈ us,u.cells.toList.length=k∧∀ c ∈ u.cells.toList,c.oneCell'=true
def RowO (k:Nat) (e:TypeId) (base:Nat) (w:World) (v:Value) (us:List Value):Prop :=
 ShK k us∧((v=.slice none 0 0∧us=[])∨∃ g cap D,v=.slice (some ⟨g,0,none⟩) us.length cap∧base≤g∧Blk e w g (flat us++D)∧k * us.length+D.length=cap * k∧us.length≤cap∧cap≤maxLen)
section
variable {k:Nat} {e:TypeId} {base:Nat} {w w':World} {v:Value} {us:List Value}
theorem RowO.ext (h:RowO k e base w v us) (hx:Ext w w'):RowO k e base w' v us:=by
 refine ⟨h.1,?_⟩
 rcases h.2 with h0 | ⟨g,cap,D,hv,hg,hb,r⟩
 ·exact .inl h0
 ·exact .inr ⟨g,cap,D,hv,hg,hb.ext hx,r⟩
theorem RowO.mono {base':Nat} (h:RowO k e base w v us) (hb:base'≤base):RowO k e base' w v us:=by
 refine ⟨h.1,?_⟩
 rcases h.2 with h0 | ⟨g,cap,D,hv,hg,r⟩
 ·exact .inl h0
 ·exact .inr ⟨g,cap,D,hv,by omega,r⟩
theorem RowO.upd {b:Nat} (h:RowO k e base w v us) (hu:Upd b w w') (hne:v.ownBlock≠some b):RowO k e base w' v us:=by
 refine ⟨h.1,?_⟩
 rcases h.2 with h0 | ⟨g,cap,D,hv,hg,hb,r⟩
 ·exact .inl h0
 ·refine .inr ⟨g,cap,D,hv,hg,hb.upd hu ?_,r⟩
  intro e;subst e;apply hne;rw [hv];rfl
theorem RowO.updT {b:Nat} {t:TypeId} {C:List Value} (h:RowO k e base w v us) (hu:Upd b w w') (hb:Blk t w b C) (hne:e≠t):RowO k e base w' v us:=by
 refine h.upd hu ?_
 intro e1
 rcases h.2 with ⟨h0,_⟩ | ⟨g,cap,D,hv,hg,hbg,r⟩
 ·rw [h0] at e1;cases e1
 ·rw [hv] at e1
  have e2:g=b:=by simpa [Value.ownBlock] using e1
  subst e2
  have:=hbg.symm.trans hb
  simp only [Option.some.injEq,Obj.cells.injEq] at this
  exact hne this.2.1
theorem RowO.nil:RowO k e base w (.slice none 0 0) []:=⟨fun u hu=>(by cases hu),.inl ⟨rfl,rfl⟩⟩
theorem RowO.open (h:RowO k e base w v us) (hne:us≠[]):∃ g cap D,v=.slice (some ⟨g,0,none⟩) us.length cap∧base≤g∧Blk e w g (flat us++D)∧k * us.length+D.length=cap * k∧us.length≤cap∧cap≤maxLen:=by
 rcases h.2 with ⟨_,h0⟩ | h
 ·exact absurd h0 hne
 ·exact h
theorem RowO.len (h:RowO k e base w v us):∃ p cap,v=.slice p us.length cap:=by
 rcases h.2 with ⟨hv,h0⟩ | ⟨g,cap,D,hv,_⟩
 ·exact ⟨none,0,by rw [hv,h0];rfl⟩
 ·exact ⟨_,cap,hv⟩
theorem ShK.flat (h:ShK k us):(Go.Qf.flat us).length=k * us.length:=flatK_len us (fun u hu=>(h u hu).1)
theorem ShK.set {j:Nat} {u:Value} (h:ShK k us) (hu:u.cells.toList.length=k∧∀ c ∈ u.cells.toList,c.oneCell'=true):ShK k (us.set j u):=by
 intro x hx
 rcases List.mem_or_eq_of_mem_set hx with h1 | h1
 ·exact h x h1
 ·subst h1;exact hu
theorem RowO.put {g cap j:Nat} {D:List Value} {u:Value} (h:ShK k us) (hg:base≤g) (hu:u.cells.toList.length=k∧∀ c ∈ u.cells.toList,c.oneCell'=true) (hj:j<us.length) (hb:Blk e w' g (over (Go.Qf.flat us++D) (k * j) u.cells.toList)) (h1:k * us.length+D.length=cap * k) (h2:us.length≤cap) (h3:cap≤maxLen) :
  RowO k e base w' (.slice (some ⟨g,0,none⟩) us.length cap) (us.set j u):=by
 refine ⟨h.set hu,.inr ⟨g,cap,D,by rw [List.length_set],hg,?_,by rw [List.length_set];exact h1,by rw [List.length_set];exact h2,h3⟩⟩
 rw [flatK_set us D j u (fun v hv=>(h v hv).1) hj hu.1] at hb
 exact hb
theorem flat_one:∀ (us:List Value),(∀ u ∈ us,u.cells=#[u])→flat us=us:=by
 intro us
 induction us with
 | nil=>intro _;rfl
 | cons u us ih =>
  intro h
  unfold flat at ih ⊢
  rw [List.flatMap_cons,ih (fun x hx=>h x (List.mem_cons_of_mem _ hx)),h u (by simp)]
  rfl
theorem RowO.row (h:RowO 1 e base w v us) (hc:∀ u ∈ us,u.cells=#[u]):Row e w v us:=by
 rcases h.2 with ⟨hv,h0⟩ | ⟨g,cap,D,hv,hg,hb,h1,h2,h3⟩
 ·subst h0
  exact ⟨none,0,hv,Nat.le_refl _,fun _=>rfl,fun a ha=>by cases ha⟩
 ·rw [flat_one us hc] at hb
  refine ⟨_,cap,hv,h2,fun hp=>(by cases hp),fun a ha i c hi=>?_⟩
  cases ha
  rw [addr_add,Nat.zero_add]
  exact hb.cell (by rw [List.getElem?_append_left (List.getElem?_eq_some_iff.1 hi).1];exact hi)
end
theorem RowO.li {base:Nat} {w:World} {v:Value} {us:List Value} {xs:List Int} (h:RowO 2 31 base w v us) (hl:us.length=xs.length) (hd:∀ (i:Nat) (u:Value) (x:Int),us[i]?=some u→xs[i]?=some x→Dn w u x):LI w v xs:=by
 rcases h.2 with ⟨hv,h0⟩ | ⟨g,cap,D,hv,hg,hb,h1,h2,h3⟩
 ·subst h0
  have:xs=[]:=List.eq_nil_of_length_eq_zero hl.symm
  subst this
  exact ⟨none,0,hv,Nat.le_refl _,fun i x hi=>by simp at hi⟩
 ·refine ⟨_,cap,by rw [hv,hl],by omega,fun i x hi=>?_⟩
  have hlt:i<us.length:=by have:=(List.getElem?_eq_some_iff.1 hi).1;omega
  have hu:us[i]?=some us[i]:=by simp
  refine ⟨us[i],⟨g,0,_,_,rfl,hb,?_,?_⟩,hd i _ x hu hi⟩
  ·rw [Nat.zero_add]
   exact flatK_at us D i _ (fun u hu=>(h.1 u hu).1) hu
  ·rw [List.length_append,h.1.flat]
   omega
def MatR (k:Nat) (te e:TypeId) (base:Nat) (w:World) (v:Value) (rs:List Value) (R:List (List Value)):Prop :=
 RowO 1 te base w v rs∧rs.length=R.length∧(∀ r ∈ rs,r.cells=#[r])∧(∀ (i:Nat) (r:Value) (us:List Value),rs[i]?=some r→R[i]?=some us→RowO k e base w r us)∧∀ (i j:Nat) (r s:Value),i≠j→rs[i]?=some r→rs[j]?=some s→r.ownBlock=s.ownBlock→r.ownBlock=none
section
variable {k:Nat} {te e:TypeId} {base:Nat} {w w':World} {v:Value} {rs:List Value} {R:List (List Value)}
theorem MatR.ext (h:MatR k te e base w v rs R) (hx:Ext w w'):MatR k te e base w' v rs R:=by
 obtain ⟨h1,h2,h3,h4,h5⟩:=h
 exact ⟨h1.ext hx,h2,h3,fun i r us a b=>(h4 i r us a b).ext hx,h5⟩
theorem MatR.mono {base':Nat} (h:MatR k te e base w v rs R) (hb:base'≤base):MatR k te e base' w v rs R:=by
 obtain ⟨h1,h2,h3,h4,h5⟩:=h
 exact ⟨h1.mono hb,h2,h3,fun i r us a b=>(h4 i r us a b).mono hb,h5⟩
theorem MatR.len (h:MatR k te e base w v rs R):∃ p cap,v=.slice p R.length cap:=by
 obtain ⟨p,cap,hv⟩:=h.1.len
 exact ⟨p,cap,by rw [hv,h.2.1]⟩
theorem MatR.rows (h:MatR k te e base w v rs R):Row te w v rs:=h.1.row h.2.2.1
theorem MatR.put (h:MatR k te e base w v rs R) (hte:te≠e) {i j:Nat} {r:Value} {us:List Value} {u:Value} (hr:rs[i]?=some r) (hi:R[i]?=some us) (hj:j<us.length) (hu:u.cells.toList.length=k∧∀ c ∈ u.cells.toList,c.oneCell'=true) :
  ∃ g cap D,r=.slice (some ⟨g,0,none⟩) us.length cap∧base≤g∧Blk e w g (flat us++D)∧k * us.length+D.length=cap * k∧us.length≤cap ∧
   ∀ w',Upd g w w'→Blk e w' g (over (flat us++D) (k * j) u.cells.toList)→MatR k te e base w' v rs (R.set i (us.set j u)):=by
 obtain ⟨h1,h2,h3,h4,h5⟩:=h
 have hlt:=(List.getElem?_eq_some_iff.1 hi).1
 have hro:=h4 i _ us hr hi
 obtain ⟨g,cap,D,hv,hg,hb,hc1,hc2,hc3⟩:=hro.open (by intro e;rw [e] at hj;simp at hj)
 refine ⟨g,cap,D,hv,hg,hb,hc1,hc2,fun w' hu' hb'=>⟨h1.updT hu' hb hte,by simpa using h2,h3,?_,h5⟩⟩
 intro i' r' us' hr' hus'
 by_cases e1:i=i'
 ·subst e1
  rw [List.getElem?_set_self hlt] at hus'
  cases hus'
  rw [hr] at hr'
  cases hr'
  rw [hv]
  exact RowO.put (e:=e) (base:=base) (w':=w') hro.1 hg hu hj hb' hc1 hc2 hc3
 ·rw [List.getElem?_set_ne e1] at hus'
  refine (h4 i' r' us' hr' hus').upd hu' ?_
  intro e2
  have:=h5 i i' _ r' e1 hr hr' (by rw [hv,e2];rfl)
  rw [hv] at this
  cases this
end
def MatC (rs:List Value) (base:Nat) (w:World) (v:Value) (M:List (List Int)):Prop :=
 ∃ R,MatR 2 45 31 base w v rs R∧R.length=M.length∧∀ (i:Nat) (us:List Value) (row:List Int),R[i]?=some us→M[i]?=some row→us.length=row.length∧∀ (j:Nat) (u:Value) (x:Int),us[j]?=some u→row[j]?=some x→CanO 0 w u x
def MatW (rs:List Value) (base:Nat) (w:World) (v:Value) (M:List (List Int)):Prop :=
 MatR 1 27 2 base w v rs (M.map (fun row=>row.map i64))
theorem MatC.ext {rs:List Value} {base:Nat} {w w':World} {v:Value} {M:List (List Int)} (h:MatC rs base w v M) (hx:Ext w w'):MatC rs base w' v M:=by
 obtain ⟨R,h1,h2,h3⟩:=h
 refine ⟨R,h1.ext hx,h2,fun i us row a b=>?_⟩
 obtain ⟨k1,k2⟩:=h3 i us row a b
 exact ⟨k1,fun j u x c d=>(k2 j u x c d).ext hx⟩
theorem MatC.mono {rs:List Value} {base base':Nat} {w:World} {v:Value} {M:List (List Int)} (h:MatC rs base w v M) (hb:base'≤base):MatC rs base' w v M:=by
 obtain ⟨R,h1,h2,h3⟩:=h
 exact ⟨R,h1.mono hb,h2,h3⟩
theorem MatC.len {rs:List Value} {base:Nat} {w:World} {v:Value} {M:List (List Int)} (h:MatC rs base w v M):∃ p cap,v=.slice p M.length cap:=by
 obtain ⟨R,h1,h2,h3⟩:=h
 rw [← h2]
 exact h1.len
theorem MatC.rsl {rs:List Value} {base:Nat} {w:World} {v:Value} {M:List (List Int)} (h:MatC rs base w v M):rs.length=M.length:=by
 obtain ⟨R,h1,h2,h3⟩:=h
 rw [← h2,h1.2.1]
theorem MatC.rows {rs:List Value} {base:Nat} {w:World} {v:Value} {M:List (List Int)} (h:MatC rs base w v M):Row 45 w v rs:=by
 obtain ⟨R,h1,_⟩:=h
 exact h1.rows
theorem MatC.one {rs:List Value} {base:Nat} {w:World} {v:Value} {M:List (List Int)} (h:MatC rs base w v M):∀ r ∈ rs,r.cells=#[r]:=by
 obtain ⟨R,h1,_⟩:=h
 exact h1.2.2.1
theorem MatC.mi {rs:List Value} {base:Nat} {w:World} {v:Value} {M:List (List Int)} (h:MatC rs base w v M) (hz:∀ row ∈ M,∀ x ∈ row,sz x≤1000000):MI w v M:=by
 obtain ⟨R,h1,h2,h3⟩:=h
 refine ⟨rs,h1.rows,by rw [h1.2.1,h2],fun i r row hr hrow=>?_⟩
 have hlt:i<R.length:=by have:=(List.getElem?_eq_some_iff.1 hrow).1;omega
 have hR:R[i]?=some R[i]:=by simp
 obtain ⟨k1,k2⟩:=h3 i _ row hR hrow
 exact (h1.2.2.2.1 i r _ hr hR).li k1 (fun j u x a b=>(k2 j u x a b).dn (hz row (List.mem_of_getElem? hrow) x (List.mem_of_getElem? b)))
theorem StL.putM2 {n:Nat} {E:List (Nat×Value)} {w w0:World} {ops:Array Oper} {rest:List Oper} {Q:Exit→Act→World→Prop} {d1 s:Nat} {x I:Operand} {ty ty2:TypeId} {pos pos2:String} {af af2:Array Edge} {g1 g2:Option (Nat×Bool)}
  {rs:List Value} {base:Nat} {v r u:Value} {M:List (List Int)} {i j:Nat} {row:List Int} {y iv:Int} (h:MatC rs base w v M) (hr:rs[i]?=some r) (hi:M[i]?=some row) (hj:j<row.length) (hu:CanO 0 w u y) (hx0:Ext w0 w) (hb0:w0.heap.size≤base)
  (hx:ov E x=some r) (hI:ov E I=some (.int .i64 iv)) (hiv:iv=j) (hs:∀ p,look ((d1,p)::E) s=some u) (hg:wantE ops E g1=some true) (hn:Nat.blt d1 n=true) (hg2:∀ p,wantE ops ((d1,p)::E) g2=some true)
  (next:∀ p w',Ext w0 w'→MatC rs base w' v (M.set i (row.set j y))→(∀ t b C,Blk t w b C→r.ownBlock≠some b→Blk t w' b C)→(∀ bs u' a',CanO bs w u' a'→CanO bs w' u' a')→StL Tryz.prog n ((d1,p)::E) w' ops rest Q) :
  StL Tryz.prog n E w ops (⟨some d1,.indexAddr 45 x I,ty,pos,af,g1⟩::⟨none,.store 31 (.tmp d1) (.tmp s),ty2,pos2,af2,g2⟩::rest) Q:=by
 obtain ⟨R,h1,h2,h3⟩:=h
 have hlt:i<R.length:=by have:=(List.getElem?_eq_some_iff.1 hi).1;omega
 have hR:R[i]?=some R[i]:=by simp
 obtain ⟨k1,k2⟩:=h3 i _ row hR hi
 have hjl:j<(R[i]).length:=by omega
 obtain ⟨g,cap,D,rfl,hg0,hb,hc1,hc2,hput⟩:=h1.put (by decide) hr hR hjl (u:=u) hu.two
 refine StL.step rfl hg hn (RunsTo.indexI hx hI hiv hjl).op ?_
 rintro _ _ ⟨rfl,rfl⟩
 have hl:=(h1.2.2.2.1 i _ _ hr hR).1.flat
 refine StL.step0 rfl (hg2 _) (OpR.store (E:=(d1,_)::E) (x:=.tmp d1) (y:=.tmp s) (off:=0+2 * j) TBok rfl (look_cons_self _ _ _) (hs _) rfl hu.two.1 hb (by rw [List.length_append,hl,hu.two.1];omega) hu.two.2) ?_
 rintro _ w' ⟨hb',hu'⟩
 rw [Nat.zero_add] at hb'
 refine next _ w' (hx0.then_upd hu' (by omega)) ⟨_,hput w' hu' hb',by simpa using h2,?_⟩ (fun t b C hB hne=>hB.upd hu' (by intro e;subst e;exact hne rfl)) (fun bs u' a' hc=>hc.updT hu' hb (by decide))
 intro i' us' row' hus' hrow'
 have keep:∀ (u':Value) (x':Int),CanO 0 w u' x'→CanO 0 w' u' x':=fun u' x' hc=>hc.updT hu' hb (by decide)
 by_cases e1:i=i'
 ·subst e1
  rw [List.getElem?_set_self hlt] at hus'
  rw [List.getElem?_set_self (by have:=(List.getElem?_eq_some_iff.1 hi).1;omega)] at hrow'
  cases hus'
  cases hrow'
  refine ⟨by simpa using k1,fun j' u' x' hu1 hx1=>?_⟩
  by_cases e2:j=j'
  ·subst e2
   rw [List.getElem?_set_self (by omega)] at hu1 hx1
   cases hu1
   cases hx1
   exact keep _ _ hu
  ·rw [List.getElem?_set_ne e2] at hu1 hx1
   exact keep _ _ (k2 j' u' x' hu1 hx1)
 ·rw [List.getElem?_set_ne e1] at hus' hrow'
  obtain ⟨q1,q2⟩:=h3 i' us' row' hus' hrow'
  exact ⟨q1,fun j' u' x' a b=>keep _ _ (q2 j' u' x' a b)⟩
theorem StL.putM {n:Nat} {E:List (Nat×Value)} {w w0:World} {ops:Array Oper} {rest:List Oper} {Q:Exit→Act→World→Prop} {d1 s:Nat} {x I:Operand} {ty ty2:TypeId} {pos pos2:String} {af af2:Array Edge} {g1 g2:Option (Nat×Bool)}
  {rs:List Value} {base:Nat} {v r u:Value} {M:List (List Int)} {i j:Nat} {row:List Int} {y iv:Int} (h:MatC rs base w v M) (hr:rs[i]?=some r) (hi:M[i]?=some row) (hj:j<row.length) (hu:CanO 0 w u y) (hx0:Ext w0 w) (hb0:w0.heap.size≤base)
  (hx:ov E x=some r) (hI:ov E I=some (.int .i64 iv)) (hiv:iv=j) (hs:∀ p,look ((d1,p)::E) s=some u) (hg:wantE ops E g1=some true) (hn:Nat.blt d1 n=true) (hg2:∀ p,wantE ops ((d1,p)::E) g2=some true)
  (next:∀ p w',Ext w0 w'→MatC rs base w' v (M.set i (row.set j y))→StL Tryz.prog n ((d1,p)::E) w' ops rest Q) :
  StL Tryz.prog n E w ops (⟨some d1,.indexAddr 45 x I,ty,pos,af,g1⟩::⟨none,.store 31 (.tmp d1) (.tmp s),ty2,pos2,af2,g2⟩::rest) Q :=
 StL.putM2 h hr hi hj hu hx0 hb0 hx hI hiv hs hg hn hg2 fun p w' h1 h2 _ _=>next p w' h1 h2
theorem u32_one (xs:List Nat):∀ c ∈ xs.map u32,c.oneCell'=true:=by
 intro c hc;simp only [List.mem_map] at hc;obtain ⟨x,_,rfl⟩:=hc;rfl
theorem rtrim_spec {base:Nat} (w:World) (v:Value) (xs:List Nat) (h:Sl w v xs) (hlen:xs.length≤1000000000) (hbase:base≤w.heap.size) :
  Calls Tryz.prog 132 #[v] w (Ret fun r w'=>Ext w w'∧SlO base w' r (limbs (val xs))):=by
 obtain ⟨p,cap,rfl,hcap⟩:=h.form
 refine calls_of_St (args:=[_]) Tryz.func132 rfl Tryz.ntmps132 rfl ?_
 (iterate 6 refine Nv ?_;try refine .r rfl ?_)
 refine St.loop (fun k:Nat=>[(0,.slice p xs.length cap),(3,.int .i64 k)]) (fun k w'=>w'=w∧k≤xs.length∧∀ j,k≤j→j<xs.length→xs[j]?=some 0) (fun k=>k) xs.length ⟨rfl,rfl,trivial⟩ ⟨rfl,Nat.le_refl _,fun j h1 h2=>by omega⟩ ?_
 rintro k w' ⟨rfl,hk,hz⟩
 by_cases h0:k=0
 ·subst h0
  refine Nv ?_
  refine .a 3 (.bool false) rfl (bool_false (by omega)) ?_
  (iterate 6 refine Nv ?_;try refine .r rfl ?_)
  refine .cF ?_
  refine Nv ?_
  refine .r rfl ?_
  refine .p (RunsTo.sliceHi TBok rfl rfl rfl rfl (by omega) (by omega)) ?_
  have e:limbs (val xs)=xs.take 0:=limbs_take xs h.2 0 hz hk (.inl rfl)
  have hc:=h.cut 0 hk
  refine .s (OpR.append TBok rfl rfl rfl rfl rfl rfl (Own.nil base _ _) hc.1 (by simp) (by simp) (by simp) hbase) ?_
  rintro v' w2 ⟨ho,hg,_⟩
  (iterate 6 refine Nv ?_;try refine .r rfl ?_)
  refine Out.ret1 rfl rfl ⟨(Ext.refl _).grown (Own.nil w'.heap.size 139 _) (Nat.le_refl _) hg,?_⟩
  rw [e]
  exact ⟨ho,hc.2⟩
 ·obtain ⟨m,rfl⟩:∃ m,k=m+1:=⟨k - 1,by omega⟩
  have hx:xs[m]?=some xs[m]:=by simp
  generalize xs[m]=x at hx
  have e1:IntKind.i64.wrap ((((m+1:Nat):Nat):Int) - 1)=m:=by rw [i64_id (by omega) (by omega)];omega
  refine Nv ?_
  refine .a 3 (.bool true) rfl (bool_true (by omega)) ?_
  refine .r rfl ?_
  refine StL.elem TBok m (u32 x) h.1 (h.get hx) e1 rfl rfl rfl rfl rfl rfl rfl rfl rfl rfl (fun _=>rfl) ?_
  intro p1
  refine .r rfl ?_
  (refine StL.nil ?_;repeat with_reducible first | refine Out.then_normal ?_ | refine Out.block_normal ?_)
  by_cases hx0:x=0
  ·subst hx0
   refine .cT ?_
   (iterate 6 refine Nv ?_;try refine .r rfl ?_)
   refine Out.again m ⟨rfl,?_,trivial⟩ ⟨rfl,by omega,fun j h1 h2=>?_⟩ (Nat.lt_succ_self m)
   ·show some (Value.int .i64 (IntKind.i64.wrap ((((m+1:Nat):Nat):Int) - 1)))=_
    rw [e1]
   ·by_cases hj:j=m
    ·subst hj;exact hx
    ·exact hz j (by omega) h2
  ·refine St.condF rfl (by simp;omega) ?_
   have e:limbs (val xs)=xs.take (m+1):=limbs_take xs h.2 (m+1) hz hk (.inr ⟨x,by simpa using hx,hx0⟩)
   have hc:=h.cut (m+1) hk
   refine Nv ?_
   refine .r rfl ?_
   refine .p (RunsTo.sliceHi TBok rfl rfl rfl rfl (by omega) (by omega)) ?_
   refine .s (OpR.append TBok rfl rfl rfl rfl rfl rfl (Own.nil base _ _) hc.1 (u32_one _) (by simp;omega) (by simp;omega) hbase) ?_
   rintro v' w2 ⟨ho,hg,_⟩
   (iterate 6 refine Nv ?_;try refine .r rfl ?_)
   refine Out.ret1 rfl rfl ⟨(Ext.refl _).grown (Own.nil w'.heap.size 139 _) (Nat.le_refl _) hg,?_⟩
   rw [e]
   exact ⟨ho,hc.2⟩
theorem make_spec {base:Nat} (w:World) (neg:Bool) (v:Value) (xs:List Nat) (h:Sl w v xs) (hlen:xs.length≤1000000000) (hbase:base≤w.heap.size) :
  Calls Tryz.prog 131 #[.bool neg,v] w (Ret fun r w'=>Ext w w'∧CanO base w' r (sg neg (val xs))):=by
 refine calls_of_St (args:=[_,_]) Tryz.func131 rfl Tryz.ntmps131 rfl ?_
 refine Nv ?_
 refine .s (OpR.alloc TBok rfl) ?_
 rintro _ w1 ⟨rfl,hb1,hx1,hz1⟩
 (iterate 6 refine Nv ?_;try refine .r rfl ?_)
 refine .s (OpR.call fn_r01_trim rfl (rtrim_spec (base:=base) w1 v xs upp hlen (Nat.le_trans hbase hx1.size))) ?_
 rintro sl w2 ⟨hx2,hsl⟩
 obtain ⟨p,cap,rfl,_⟩:=hsl.sl.form
 have hcan:CanO base w2 (IntV (decide (sg neg (val xs)<0)) (.slice p (limbs (val xs)).length cap)) (sg neg (val xs)):=by
  refine ⟨p,cap,?_,?_⟩
  ·rw [sg_abs]
  ·rw [sg_abs];exact hsl
 have fin:∀ {E:List (Nat×Value)} {ops:Array Oper} {af:Array Edge} {pos:String} {Q:Exit→Act→World→Prop},look E 4=some (.pointer (some ⟨w.heap.size,0,none⟩))→look E 15=some (IntV (decide (sg neg (val xs)<0)) (.slice p (limbs (val xs)).length cap)) →
   (∀ w',Ext w w'→CanO base w' (IntV (decide (sg neg (val xs)<0)) (.slice p (limbs (val xs)).length cap)) (sg neg (val xs))→(∀ (fn:Func) (Φ:Value→World→Prop),fn.results=#[.cell 4 31]→Φ (IntV (decide (sg neg (val xs)<0)) (.slice p (limbs (val xs)).length cap)) w'→Out 16 E w' .ret (bodyPost Tryz.prog fn (Ret Φ)))→Out 16 E w' .normal Q) →
   StL Tryz.prog 16 E w2 ops [⟨none,.store 31 (.tmp 4) (.tmp 15),0,pos,af,none⟩] Q :=
  fun h4 h15 hQ=>StL.finCan h4 h15 (hb1.ext hx2) rfl hcan (hx1.trans hx2) (Nat.le_refl _) hQ
 cases neg with
 | false =>
  (iterate 6 refine Nv ?_;try refine .r rfl ?_)
  refine .p (RunsTo.build TBok rfl rfl rfl rfl) ?_
  have e:decide (sg false (val xs)<0)=false:=decide_eq_false (by simp [sg])
  rw [e] at fin hcan
  refine fin rfl rfl ?_
  intro w' hxf hcf fin
  refine Nv ?_
  exact fin _ _ rfl ⟨hxf,hcf⟩
 | true =>
  have e:decide (sg true (val xs)<0)=decide (((limbs (val xs)).length:Int) > 0):=by
   by_cases h0:val xs=0
   ·rw [h0];rfl
   ·have hpos:0<(limbs (val xs)).length:=by
     rcases Nat.eq_zero_or_pos (limbs (val xs)).length with e | e
     ·exact absurd (limbs_eq_nil.1 (List.eq_nil_of_length_eq_zero e)) h0
     ·exact e
    rw [decide_eq_true (show sg true (val xs)<0 by simp [sg];omega),decide_eq_true (by omega)]
  rw [e] at fin hcan
  (iterate 6 refine Nv ?_;try refine .r rfl ?_)
  refine .p (RunsTo.build TBok rfl rfl rfl rfl) ?_
  refine fin rfl rfl ?_
  intro w' hxf hcf fin
  refine Nv ?_
  exact fin _ _ rfl ⟨hxf,hcf⟩
theorem rword_spec {base:Nat} (w:World) (neg:Bool) (m:Nat) (hm:m<18446744073709551616) (hbase:base≤w.heap.size) :
  Calls Tryz.prog 124 #[.bool neg,.int .u64 m] w (Ret fun r w'=>Ext w w'∧CanO base w' r (sg neg m)):=by
 refine calls_of_St (args:=[_,_]) Tryz.func124 rfl Tryz.ntmps124 rfl ?_
 refine Nv ?_
 refine .s (OpR.alloc TBok rfl) ?_
 rintro _ w1 ⟨rfl,hb1,hx1,hz1⟩
 (iterate 6 refine Nv ?_;try refine .r rfl ?_)
 have e1:IntKind.u32.wrap (m:Int)=((m % 4294967296:Nat):Int):=by rw [wrap_u32];omega
 have e2:IntKind.u32.wrap ((m:Int) / 2 ^ 32)=((m / 4294967296 % 4294967296:Nat):Int):=by rw [wrap_u32,show ((2:Int) ^ 32)=4294967296 from rfl];omega
 refine .s (OpR.pair TBok rfl rfl rfl rfl rfl) ?_
 rintro _ w2 ⟨rfl,hb2,hx2,hz2⟩
 rw [e1,e2] at hb2
 have hsl:Sl w2 (.slice (some ⟨w1.heap.size,0,none⟩) 2 2) [m % 4294967296,m / 4294967296 % 4294967296] :=
  ⟨hb2.row rfl (by simp) (by simp) rfl,by intro x hx;simp at hx;omega⟩
 refine .s (OpR.call fn_r01_Make rfl (make_spec (base:=base) w2 neg _ _ hsl (by simp) (Nat.le_trans hbase (hx1.trans hx2).size))) ?_
 rintro r w3 ⟨hx3,hr⟩
 rw [val_two m hm] at hr
 refine StL.finCan rfl rfl ((hb1.ext hx2).ext hx3) rfl hr ((hx1.trans hx2).trans hx3) (Nat.le_refl _) ?_
 intro w' hxf hcf fin
 refine Nv ?_
 exact fin _ _ rfl ⟨hxf,hcf⟩
theorem rsmall_spec {base:Nat} (w:World) (a:Int) (h0:-9223372036854775808≤a) (h1:a≤9223372036854775807) (hbase:base≤w.heap.size) :
  Calls Tryz.prog 60 #[.int .i64 a] w (Ret fun r w'=>Ext w w'∧CanO base w' r a):=by
 refine calls_of_St (args:=[_]) Tryz.func60 rfl Tryz.ntmps60 rfl ?_
 refine Nv ?_
 refine .s (OpR.alloc TBok rfl) ?_
 rintro _ w1 ⟨rfl,hb1,hx1,hz1⟩
 (iterate 6 refine Nv ?_;try refine .r rfl ?_)
 by_cases hneg:a<0
 ·refine St.condT rfl (by simp;omega) ?_
  (iterate 6 refine Nv ?_;try refine .r rfl ?_)
  obtain ⟨m,hm⟩:∃ m:Nat,a=-(m:Int):=⟨a.natAbs,by omega⟩
  subst hm
  refine .a 1 (.int .u64 (m:Int)) rfl (by congr 1;simp only [wrap_u64];omega) ?_
  refine .s (OpR.call fn_r01_word rfl (rword_spec (base:=base) w1 true m (by omega) (Nat.le_trans hbase hx1.size))) ?_
  rintro v w3 ⟨hx3,hv⟩
  refine StL.finCan rfl rfl (hb1.ext hx3) rfl hv (hx1.trans hx3) (Nat.le_refl _) ?_
  intro w' hxf hcf fin
  refine Nv ?_
  exact fin _ _ rfl ⟨hxf,hcf⟩
 ·refine St.condF rfl (by simp;omega) ?_
  (iterate 6 refine Nv ?_;try refine .r rfl ?_)
  obtain ⟨m,rfl⟩:∃ m:Nat,a=(m:Int):=⟨a.natAbs,by omega⟩
  refine .a 1 (.int .u64 (m:Int)) rfl (by rw [u64_id (by omega) (by omega)]) ?_
  refine .s (OpR.call fn_r01_word rfl (rword_spec (base:=base) w1 false m (by omega) (Nat.le_trans hbase hx1.size))) ?_
  rintro v w3 ⟨hx3,hv⟩
  refine StL.finCan rfl rfl (hb1.ext hx3) rfl hv (hx1.trans hx3) (Nat.le_refl _) ?_
  intro w' hxf hcf fin
  refine Nv ?_
  exact fin _ _ rfl ⟨hxf,hcf⟩
def cmpL (xs ys:List Nat):Int:=if xs.length<ys.length then -1 else if ys.length<xs.length then 1 else cmpN (val xs) (val ys)
theorem cmpL_limbs (a b:Nat):cmpL (limbs a) (limbs b)=cmpN a b:=by
 unfold cmpL
 rw [val_limbs,val_limbs]
 split
 ·rename_i h1
  have:=limbs_lt_of_length h1
  simp [cmpN,this]
 ·split
  ·rename_i _ h2
   have:=limbs_lt_of_length h2
   unfold cmpN;rw [if_neg (by omega),if_pos this]
  ·rfl
theorem rcmp_spec (w:World) (u v:Value) (xs ys:List Nat) (h:Sl w u xs) (k:Sl w v ys) (hlen:xs.length≤1000000000) (hl:ys.length≤1000000000) :
  Calls Tryz.prog 99 #[u,v] w (Ret fun r w'=>Ext w w'∧r=.int .i64 (cmpL xs ys)):=by
 obtain ⟨p,c,rfl,_⟩:=h.form
 obtain ⟨q,d,rfl,_⟩:=k.form
 obtain ⟨R,hR⟩:∃ R,R=cmpL xs ys:=⟨_,rfl⟩
 rw [← hR]
 unfold cmpL at hR
 refine calls_of_St (args:=[_,_]) Tryz.func99 rfl Tryz.ntmps99 rfl ?_
 (iterate 6 refine Nv ?_;try refine .r rfl ?_)
 by_cases hne:xs.length=ys.length
 ·rw [if_neg (by omega),if_neg (by omega)] at hR
  refine St.condF rfl (by simp;omega) ?_
  (iterate 6 refine Nv ?_;try refine .r rfl ?_)
  refine St.loop (fun j:Nat=>[(0,.slice p xs.length c),(1,.slice q ys.length d),(5,.int .i64 ((j:Int) - 1))]) (fun j w'=>Ext w w'∧j≤xs.length∧xs.drop j=ys.drop j) (fun j=>j) xs.length ⟨rfl,rfl,?_,trivial⟩ ⟨Ext.refl _,by omega,?_⟩ ?_
  ·show some (Value.int .i64 (IntKind.i64.wrap ((xs.length:Int) - 1)))=_
   rw [i64_id (by omega) (by omega)]
  ·rw [List.drop_length,hne,List.drop_length]
  rintro j w' ⟨hx,hj,heq⟩
  have hA:=h.ext hx
  have hB:=k.ext hx
  by_cases h0:j=0
  ·subst h0
   refine Nv ?_
   refine .a 2 (.bool false) rfl (bool_false (by omega)) ?_
   refine Nv ?_
   refine .cF ?_
   (iterate 6 refine Nv ?_;try refine .r rfl ?_)
   have:xs=ys:=by simpa using heq
   subst this
   exact Out.ret1 rfl rfl ⟨hx,by rw [hR];simp [cmpN]⟩
  ·obtain ⟨i,rfl⟩:∃ i,j=i+1:=⟨j - 1,by omega⟩
   have hxi:xs[i]?=some xs[i]:=by simp
   generalize xs[i]=x at hxi
   have hyi:ys[i]?=some ys[i]:=by simp
   generalize ys[i]=y at hyi
   have e0:(((i+1:Nat):Int) - 1)=(i:Int):=by omega
   rw [e0]
   refine Nv ?_
   refine .a 2 (.bool true) rfl (bool_true (by omega)) ?_
   refine Nv ?_
   refine .cT ?_
   refine Nv ?_
   refine St.quiet TBfol (by kernel_rfl) ?_
   refine .run TBok 99 rfl ?_
   refine QL.elem TBok i (u32 x) hA.1 (hA.get hxi) rfl rfl rfl rfl rfl rfl rfl rfl rfl rfl rfl (fun _=>rfl) ?_
   intro p1
   refine .run TBok 99 rfl ?_
   refine QL.elem TBok i (u32 y) hB.1 (hB.get hyi) rfl rfl rfl rfl rfl rfl rfl rfl rfl rfl rfl (fun _=>rfl) ?_
   intro p2
   refine .run TBok 99 rfl ?_
   refine QL.nil fun m1=>?_
   refine Nv ?_
   by_cases hxy:x=y
   ·subst hxy
    refine St.condF rfl (by simp) ?_
    (iterate 6 refine Nv ?_;try refine .r rfl ?_)
    refine Out.again i ⟨rfl,rfl,?_,trivial⟩ ⟨hx.drewN _,by omega,drop_succ_eq hxi hyi heq⟩ (by omega)
    show some (Value.int .i64 (IntKind.i64.wrap ((i:Int) - 1)))=_
    rw [i64_id (by omega) (by omega)]
   refine St.condT rfl (by simp;omega) ?_
   refine Nv ?_
   refine St.quiet TBfol (by kernel_rfl) ?_
   refine .run TBok 99 rfl ?_
   refine QL.elem TBok i (u32 x) (hA.drewN m1).1 (hA.get hxi) rfl rfl rfl rfl rfl rfl rfl rfl rfl rfl rfl (fun _=>rfl) ?_
   intro p3
   refine .run TBok 99 rfl ?_
   refine QL.elem TBok i (u32 y) (hB.drewN m1).1 (hB.get hyi) rfl rfl rfl rfl rfl rfl rfl rfl rfl rfl rfl (fun _=>rfl) ?_
   intro p4
   refine .run TBok 99 rfl ?_
   refine QL.nil fun m2=>?_
   refine Nv ?_
   by_cases hlt:x<y
   ·refine St.condT rfl (by simp;omega) ?_
    (iterate 6 refine Nv ?_;try refine .r rfl ?_)
    have:=val_lt_of xs ys h.2 hne i x y hxi hyi hlt heq
    exact Out.ret1 rfl rfl ⟨(hx.drewN _).drewN _,by rw [hR];simp [cmpN,this]⟩
   ·refine St.condF rfl (by simp;omega) ?_
    (iterate 6 refine Nv ?_;try refine .r rfl ?_)
    have:=val_lt_of ys xs k.2 hne.symm i y x hyi hxi (by omega) heq.symm
    exact Out.ret1 rfl rfl ⟨(hx.drewN _).drewN _,by rw [hR];unfold cmpN;rw [if_neg (by omega),if_pos this]⟩
 ·refine St.condT rfl (by simp;omega) ?_
  (iterate 6 refine Nv ?_;try refine .r rfl ?_)
  by_cases h1:xs.length<ys.length
  ·rw [if_pos h1] at hR
   refine St.condT rfl (by simp;omega) ?_
   (iterate 6 refine Nv ?_;try refine .r rfl ?_)
   exact Out.ret1 rfl rfl ⟨Ext.refl _,by rw [hR]⟩
  ·rw [if_neg h1,if_pos (by omega)] at hR
   refine St.condF rfl (by simp;omega) ?_
   (iterate 6 refine Nv ?_;try refine .r rfl ?_)
   exact Out.ret1 rfl rfl ⟨Ext.refl _,by rw [hR]⟩
theorem rsign_dn {w:World} {x:Value} {a:Int} (h:Dn w x a):Calls Tryz.prog 72 #[x] w (Ret fun r w'=>Ext w w'∧r=.int .i64 (signI a)):=by
 obtain ⟨neg,xs,⟨p,cap,rfl,hs⟩,rfl,hlen⟩:=h
 refine calls_of_St (args:=[_]) Tryz.func72 rfl Tryz.ntmps72 rfl ?_
 refine Nv ?_
 refine .s (OpR.box rfl) ?_
 rintro _ w1 ⟨rfl,hb1,hx1,hz1⟩
 (iterate 6 refine Nv ?_;try refine .r rfl ?_)
 (refine .s (RunsTo.load TBok rfl rfl rfl (Blk.cell upp rfl)).op ?_;rintro _ _ ⟨rfl,rfl⟩)
 refine .s (OpR.call fn_r01_trim rfl (rtrim_spec (base:=0) w1 _ xs upp (by omega) (Nat.zero_le _))) ?_
 rintro sl w2 ⟨hx2,hsl⟩
 obtain ⟨p2,cap2,rfl,_⟩:=hsl.sl.form
 rw [signI_sg]
 (iterate 6 refine Nv ?_;try refine .r rfl ?_)
 by_cases h0:val xs=0
 ·refine St.condT rfl (by rw [h0];rfl) ?_
  (iterate 6 refine Nv ?_;try refine .r rfl ?_)
  exact Out.ret1 rfl rfl ⟨upp,by rw [if_pos h0]⟩
 refine St.condF rfl (by simp [limbs_eq_nil,h0]) ?_
 (iterate 6 refine Nv ?_;try refine .r rfl ?_)
 (refine .s (RunsTo.load TBok rfl rfl rfl (Blk.cell upp rfl)).op ?_;rintro _ _ ⟨rfl,rfl⟩)
 (iterate 6 refine Nv ?_;try refine .r rfl ?_)
 cases neg with
 | true =>
  refine .cT ?_
  (iterate 6 refine Nv ?_;try refine .r rfl ?_)
  exact Out.ret1 rfl rfl ⟨upp,by rw [if_neg h0];rfl⟩
 | false =>
  refine .cF ?_
  (iterate 6 refine Nv ?_;try refine .r rfl ?_)
  exact Out.ret1 rfl rfl ⟨upp,by rw [if_neg h0];rfl⟩
theorem rcmp_dn {w:World} {x y:Value} {a b:Int} (h:Dn w x a) (k:Dn w y b):Calls Tryz.prog 141 #[x,y] w (Ret fun r w'=>Ext w w'∧r=.int .i64 (cmpI a b)):=by
 have hD:=h
 have kD:=k
 obtain ⟨na,xs,⟨p,cap,rfl,hs⟩,rfl,hlen⟩:=h
 obtain ⟨nb,ys,⟨q,cb,rfl,ks⟩,rfl,hl⟩:=k
 have hsa:=signI_bound (sg na (val xs))
 have hsb:=signI_bound (sg nb (val ys))
 refine calls_of_St (args:=[_,_]) Tryz.func141 rfl Tryz.ntmps141 rfl ?_
 refine Nv ?_
 refine .s (OpR.box rfl) ?_
 rintro _ w1 ⟨rfl,hb1,hx1,hz1⟩
 refine .s (OpR.box rfl) ?_
 rintro _ w2 ⟨rfl,hb2,hx2,hz2⟩
 refine .r rfl ?_
 refine Nv ?_
 refine St.flow 4 TBfol (by kernel_rfl) rfl (by kernel_rfl) rfl True.intro ?_
 refine FL.run TBok 99 rfl ?_
 refine FL.loadAgg (L:=[]) TBok rfl rfl rfl rfl rfl rfl upp (by simp) (Nat.le_refl _) rfl ?_
 refine FL.callXE fn_r01_Sign rfl rfl rfl (fun w3 hx3=>CallF.mk rfl (rsign_dn (a:=sg na (val xs)) upp)) ?_
 refine FL.loadAgg (L:=[]) TBok rfl rfl rfl rfl rfl rfl upp (by simp) (Nat.le_refl _) rfl ?_
 refine FL.callXE fn_r01_Sign rfl rfl rfl (fun w3 hx3=>CallF.mk rfl (rsign_dn (a:=sg nb (val ys)) upp)) ?_
 refine FL.endE rfl ?_
 intro w3 hx3 _ _
 (iterate 6 refine Nv ?_;try refine .r rfl ?_)
 by_cases hne:signI (sg na (val xs))=signI (sg nb (val ys))
 ·refine St.condF rfl (by simp [hne]) ?_
  have hfin:=cmpI_sign na nb (val xs) (val ys) hne
  have hcb:=cmpN_bound (val xs) (val ys)
  have hms:=mul_small hsa hcb
  rw [← hfin]
  refine Nv ?_
  refine St.sub (E':=[(2,.pointer (some ⟨w.heap.size,0,none⟩)),(3,.pointer (some ⟨w1.heap.size,0,none⟩)),(5,.int .i64 (signI (sg na (val xs))))]) ?_ ⟨rfl,rfl,rfl,trivial⟩
  refine St.flow 9 TBfol (by kernel_rfl) rfl (by kernel_rfl) rfl True.intro ?_
  refine FL.run TBok 99 rfl ?_
  refine FL.load (L:=[]) TBok rfl rfl rfl rfl rfl rfl upp (by simp) rfl ?_
  refine FL.callE fn_r01_trim rfl rfl rfl (fun w4 hx4=>CallF.mk rfl (rtrim_spec (base:=0) w4 _ xs upp (by omega) (Nat.zero_le _))) (MonoR.slO 0 _) ?_
  refine FL.run TBok 99 rfl ?_
  refine FL.load (L:=[]) TBok rfl rfl rfl rfl rfl rfl upp (by simp) rfl ?_
  refine FL.callE fn_r01_trim rfl rfl rfl (fun w4 hx4=>CallF.mk rfl (rtrim_spec (base:=0) w4 _ ys upp (by omega) (Nat.zero_le _))) (MonoR.slO 0 _) ?_
  have hl1:=limbs_length_le xs hs.2
  have hl2:=limbs_length_le ys ks.2
  refine FL.callXE fn_r01_cmp rfl rfl rfl (fun w4 hx4 u hu v hv=>CallF.mk rfl (rcmp_spec w4 u v _ _ hu.sl hv.sl (by omega) (by omega))) ?_
  rw [cmpL_limbs]
  refine FL.run TBok 99 rfl ?_
  refine FL.endE rfl ?_
  intro w4 hx4 _ _ _ _ _ _
  (iterate 6 refine Nv ?_;try refine .r rfl ?_)
  refine Out.ret1 rfl rfl ⟨upp,?_⟩
  rw [i64_id (by omega) (by omega)]
 ·refine St.condT rfl (by simp;omega) ?_
  (iterate 6 refine Nv ?_;try refine .r rfl ?_)
  by_cases hlt:signI (sg na (val xs))<signI (sg nb (val ys))
  ·refine St.condT rfl (by simpa using hlt) ?_
   (iterate 6 refine Nv ?_;try refine .r rfl ?_)
   exact Out.ret1 rfl rfl ⟨upp,by rw [cmpI_lt _ _ hlt]⟩
  ·refine St.condF rfl (by simp;omega) ?_
   (iterate 6 refine Nv ?_;try refine .r rfl ?_)
   exact Out.ret1 rfl rfl ⟨upp,by rw [cmpI_gt _ _ (by omega)]⟩
theorem rnormalize_dn {base:Nat} {w:World} {x:Value} {a:Int} (h:Dn w x a) (hb:base≤w.heap.size):Calls Tryz.prog 125 #[x] w (Ret fun r w'=>Ext w w'∧CanO base w' r a):=by
 obtain ⟨neg,xs,⟨p,cap,rfl,hs⟩,rfl,hlen⟩:=h
 refine calls_of_St (args:=[_]) Tryz.func125 rfl Tryz.ntmps125 rfl ?_
 refine Nv ?_
 refine .s (OpR.box rfl) ?_
 rintro _ w1 ⟨rfl,hb1,hx1,hz1⟩
 refine .s (OpR.alloc TBok rfl) ?_
 rintro _ w2 ⟨rfl,hb2,hx2,hz2⟩
 (iterate 6 refine Nv ?_;try refine .r rfl ?_)
 (refine .s (RunsTo.load TBok rfl rfl rfl (Blk.cell upp rfl)).op ?_;rintro _ _ ⟨rfl,rfl⟩)
 (iterate 6 refine Nv ?_;try refine .r rfl ?_)
 (refine .s (RunsTo.load TBok rfl rfl rfl (Blk.cell upp rfl)).op ?_;rintro _ _ ⟨rfl,rfl⟩)
 refine .s (OpR.call fn_r01_Make rfl (make_spec (base:=base) w2 neg _ xs upp (by omega) (Nat.le_trans hb (hx1.trans hx2).size))) ?_
 rintro r w3 ⟨hx3,hr⟩
 refine StL.finCan rfl rfl (hb2.ext hx3) rfl hr (w0:=w) upp hx1.size ?_
 intro w' hxf hcf fin
 refine Nv ?_
 exact fin _ _ rfl ⟨hxf,hcf⟩
theorem rneg_dn {base:Nat} {w:World} {x:Value} {a:Int} (h:Dn w x a) (hb:base≤w.heap.size):Calls Tryz.prog 118 #[x] w (Ret fun r w'=>Ext w w'∧CanO base w' r (-a)):=by
 obtain ⟨neg,xs,⟨p,cap,rfl,hs⟩,rfl,hlen⟩:=h
 refine calls_of_St (args:=[_]) Tryz.func118 rfl Tryz.ntmps118 rfl ?_
 refine Nv ?_
 refine .s (OpR.box rfl) ?_
 rintro _ w1 ⟨rfl,hb1,hx1,hz1⟩
 refine .s (OpR.alloc TBok rfl) ?_
 rintro _ w2 ⟨rfl,hb2,hx2,hz2⟩
 (iterate 6 refine Nv ?_;try refine .r rfl ?_)
 (refine .s (RunsTo.load TBok rfl rfl rfl (Blk.cell upp rfl)).op ?_;rintro _ _ ⟨rfl,rfl⟩)
 (iterate 6 refine Nv ?_;try refine .r rfl ?_)
 (refine .s (RunsTo.load TBok rfl rfl rfl (Blk.cell upp rfl)).op ?_;rintro _ _ ⟨rfl,rfl⟩)
 refine .s (OpR.call fn_r01_Make rfl (make_spec (base:=base) w2 (!neg) _ xs upp (by omega) (Nat.le_trans hb (hx1.trans hx2).size))) ?_
 rintro r w3 ⟨hx3,hr⟩
 rw [sg_not] at hr
 refine StL.finCan rfl rfl (hb2.ext hx3) rfl hr (w0:=w) upp hx1.size ?_
 intro w' hxf hcf fin
 refine Nv ?_
 exact fin _ _ rfl ⟨hxf,hcf⟩
theorem rabs_dn {base:Nat} {w:World} {x:Value} {a:Int} (h:Dn w x a) (hb:base≤w.heap.size):Calls Tryz.prog 161 #[x] w (Ret fun r w'=>Ext w w'∧CanO base w' r (a.natAbs:Int)):=by
 obtain ⟨neg,xs,⟨p,cap,rfl,hs⟩,rfl,hlen⟩:=h
 refine calls_of_St (args:=[_]) Tryz.func161 rfl Tryz.ntmps161 rfl ?_
 refine Nv ?_
 refine .s (OpR.box rfl) ?_
 rintro _ w1 ⟨rfl,hb1,hx1,hz1⟩
 refine .s (OpR.alloc TBok rfl) ?_
 rintro _ w2 ⟨rfl,hb2,hx2,hz2⟩
 (iterate 6 refine Nv ?_;try refine .r rfl ?_)
 (refine .s (RunsTo.load TBok rfl rfl rfl (Blk.cell upp rfl)).op ?_;rintro _ _ ⟨rfl,rfl⟩)
 refine .s (OpR.call fn_r01_Make rfl (make_spec (base:=base) w2 false _ xs upp (by omega) (Nat.le_trans hb (hx1.trans hx2).size))) ?_
 rintro r w3 ⟨hx3,hr⟩
 have e:sg false (val xs)=((sg neg (val xs)).natAbs:Int):=by rw [sg_abs];rfl
 rw [e] at hr
 refine StL.finCan rfl rfl (hb2.ext hx3) rfl hr (w0:=w) upp hx1.size ?_
 intro w' hxf hcf fin
 refine Nv ?_
 exact fin _ _ rfl ⟨hxf,hcf⟩
theorem low_spec (w:World) (v:Value) (xs:List Nat) (h:Sl w v xs) (hlen:xs.length≤1000000000) :
  Calls Tryz.prog 163 #[v] w (Ret fun r w'=>Ext w w'∧r=.int .u64 (val (xs.take 2))):=by
 obtain ⟨p,cap,rfl,hcap⟩:=h.form
 refine calls_of_St (args:=[_]) Tryz.func163 rfl Tryz.ntmps163 rfl ?_
 (iterate 6 refine Nv ?_;try refine .r rfl ?_)
 refine St.loop (fun k:Nat=>[(0,.slice p xs.length cap),(3,.int .u64 (val (xs.take k))),(4,.int .i64 k)]) (fun k w'=>w'=w∧k≤xs.length∧k≤2) (fun k=>2 - k) 0 ⟨rfl,rfl,rfl,trivial⟩ ⟨rfl,by omega,by omega⟩ ?_
 rintro k w' ⟨rfl,hk,hk2⟩
 by_cases hlt:k<xs.length
 ·by_cases hlt2:k<2
  ·have hx:xs[k]?=some xs[k]:=by simp
   generalize xs[k]=x at hx
   have hxl:=h.2.get hx
   have hv:=val_lt (xs.take k) (h.2.take k)
   have hv2:=val_le_two (h.2.take (k+1)) (by simp;omega)
   have hs:=val_take_succ hx
   refine Nv ?_
   refine .a 4 (.bool true) rfl (bool_true (by omega)) ?_
   refine .a 3 (.bool true) rfl (bool_true (by omega)) ?_
   (iterate 6 refine Nv ?_;try refine .r rfl ?_)
   refine .cT ?_
   (iterate 6 refine Nv ?_;try refine .r rfl ?_)
   refine StL.elem TBok k (u32 x) h.1 (h.get hx) rfl rfl rfl rfl rfl rfl rfl rfl rfl rfl rfl (fun _=>rfl) ?_
   intro p1
   (iterate 6 refine Nv ?_;try refine .r rfl ?_)
   refine .p (RunsTo.shl (32 * k) rfl rfl (by rw [i64_id (by omega) (by omega)];omega) (by show 32 * k≤64;omega)) ?_
   have e0:(4294967296:Nat) ^ k=2 ^ (32 * k):=by rw [Nat.pow_mul]
   have hlk:(xs.take k).length=k:=by simp;omega
   rw [hlk,e0] at hv
   rw [e0] at hs
   have e1:IntKind.u64.wrap (IntKind.u64.wrap (x:Int) * 2 ^ (32 * k))=((x * 2 ^ (32 * k):Nat):Int):=by
    rw [u64_id (n:=(x:Int)) (by omega) (by omega),u64_id]
    ·simp
    ·exact Int.mul_nonneg (by omega) (Int.le_of_lt (Int.pow_pos (by decide)))
    ·have:(x:Int) * 2 ^ (32 * k)=((x * 2 ^ (32 * k):Nat):Int):=by simp
     omega
   rw [e1]
   refine .a 1 (.int .u64 (val (xs.take (k+1)))) rfl ?_ ?_
   ·rw [or_u64 _ _ (by omega) (by omega),or_low _ _ _ hv,hs]
   (iterate 6 refine Nv ?_;try refine .r rfl ?_)
   refine Out.again (k+1) ⟨rfl,rfl,?_,trivial⟩ ⟨rfl,by omega,by omega⟩ (by omega)
   show some (Value.int .i64 (IntKind.i64.wrap ((k:Int)+1)))=_
   rw [i64_id (by omega) (by omega)]
   rfl
  ·have hk':k=2:=by omega
   subst hk'
   refine Nv ?_
   refine .a 4 (.bool true) rfl (bool_true (by omega)) ?_
   (iterate 6 refine Nv ?_;try refine .r rfl ?_)
   refine .cF ?_
   (iterate 6 refine Nv ?_;try refine .r rfl ?_)
   exact Out.ret1 rfl rfl ⟨Ext.refl _,rfl⟩
 ·refine Nv ?_
  refine .a 4 (.bool false) rfl (bool_false (by omega)) ?_
  (iterate 6 refine Nv ?_;try refine .r rfl ?_)
  refine .cF ?_
  (iterate 6 refine Nv ?_;try refine .r rfl ?_)
  refine Out.ret1 rfl rfl ⟨Ext.refl _,?_⟩
  rw [List.take_of_length_le (by omega),List.take_of_length_le (by omega)]
theorem rint64_dn {w:World} {x:Value} {a:Int} (h:Dn w x a):Calls Tryz.prog 116 #[x] w (Ret fun r w'=>Ext w w'∧r=int64V a):=by
 obtain ⟨neg,xs,⟨p,cap,rfl,hs⟩,rfl,hlen⟩:=h
 have hl1:=limbs_length_le xs hs.2
 refine calls_of_St (args:=[_]) Tryz.func116 rfl Tryz.ntmps116 rfl ?_
 refine Nv ?_
 refine .s (OpR.box rfl) ?_
 rintro _ w1 ⟨rfl,hb1,hx1,hz1⟩
 (iterate 6 refine Nv ?_;try refine .r rfl ?_)
 (refine .s (RunsTo.load TBok rfl rfl rfl (Blk.cell upp rfl)).op ?_;rintro _ _ ⟨rfl,rfl⟩)
 refine .s (OpR.call fn_r01_trim rfl (rtrim_spec (base:=0) w1 _ xs upp (by omega) (Nat.zero_le _))) ?_
 rintro sl w2 ⟨hx2,hsl⟩
 obtain ⟨p2,cap2,rfl,_⟩:=hsl.sl.form
 (iterate 6 refine Nv ?_;try refine .r rfl ?_)
 refine .s (OpR.call fn_r01_low rfl (low_spec w2 _ _ hsl.sl (by omega))) ?_
 rintro _ w3 ⟨hx3,rfl⟩
 have hx03:Ext w w3:=upp
 have hb3:Blk 31 w3 w.heap.size _:=(hb1.ext hx2).ext hx3
 (iterate 6 refine Nv ?_;try refine .r rfl ?_)
 by_cases hbig:2<(limbs (val xs)).length
 ·refine St.condT rfl (by simp;omega) ?_
  (iterate 6 refine Nv ?_;try refine .r rfl ?_)
  refine Out.ret2 rfl rfl rfl ⟨hx03,?_⟩
  have hge:18446744073709551616≤val xs:=by
   rcases Nat.lt_or_ge (val xs) 18446744073709551616 with h | h
   ·have:=limbs_length_le_two h;omega
   ·exact h
  unfold int64V
  rw [if_neg]
  cases neg <;> simp [sg] <;> omega
 refine St.condF rfl (by simp;omega) ?_
 have hv64:val xs<18446744073709551616:=by
  have:=val_le_two hsl.2 (by omega)
  rwa [val_limbs] at this
 rw [List.take_of_length_le (by omega),val_limbs]
 generalize val xs=m at *
 (iterate 6 refine Nv ?_;try refine .r rfl ?_)
 refine .p (RunsTo.load TBok rfl rfl rfl (hb3.cell rfl)) ?_
 unfold int64V
 cases neg with
 | true =>
  by_cases hm:m≤9223372036854775808
  ·refine .a 3 (.bool true) rfl (bool_true (by omega)) ?_
   (iterate 6 refine Nv ?_;try refine .r rfl ?_)
   refine .cT ?_
   (iterate 6 refine Nv ?_;try refine .r rfl ?_)
   refine Out.ret2 rfl rfl rfl ⟨hx03,?_⟩
   rw [if_pos (by simp [sg];omega)]
   congr 4
   simp only [wrap_i64,wrap_u64,sg,if_true]
   omega
  ·refine .a 3 (.bool false) rfl (bool_false (by omega)) ?_
   (iterate 6 refine Nv ?_;try refine .r rfl ?_)
   refine .cF ?_
   (iterate 6 refine Nv ?_;try refine .r rfl ?_)
   refine .p (RunsTo.load TBok rfl rfl rfl (hb3.cell rfl)) ?_
   (iterate 6 refine Nv ?_;try refine .r rfl ?_)
   refine .cF ?_
   (iterate 6 refine Nv ?_;try refine .r rfl ?_)
   refine Out.ret2 rfl rfl rfl ⟨hx03,?_⟩
   rw [if_neg (by simp [sg];omega)]
 | false =>
  (iterate 6 refine Nv ?_;try refine .r rfl ?_)
  refine .cF ?_
  (iterate 6 refine Nv ?_;try refine .r rfl ?_)
  refine .p (RunsTo.load TBok rfl rfl rfl (hb3.cell rfl)) ?_
  by_cases hm:m<9223372036854775808
  ·refine .a 4 (.bool true) rfl (bool_true (by omega)) ?_
   (iterate 6 refine Nv ?_;try refine .r rfl ?_)
   refine .cT ?_
   (iterate 6 refine Nv ?_;try refine .r rfl ?_)
   refine Out.ret2 rfl rfl rfl ⟨hx03,?_⟩
   rw [if_pos (by simp [sg];omega)]
   congr 4
   simp only [wrap_i64,sg]
   simp
   omega
  ·refine .a 4 (.bool false) rfl (bool_false (by omega)) ?_
   (iterate 6 refine Nv ?_;try refine .r rfl ?_)
   refine .cF ?_
   (iterate 6 refine Nv ?_;try refine .r rfl ?_)
   refine Out.ret2 rfl rfl rfl ⟨hx03,?_⟩
   rw [if_neg (by simp [sg];omega)]
theorem StL.push32 {n:Nat} {E:List (Nat×Value)} {w w0:World} {ops:Array Oper} {rest:List Oper} {Q:Exit→Act→World→Prop} {d1 d2:Nat} {x:Operand} {s:Nat} {ty ty2:TypeId} {pos pos2:String} {af af2:Array Edge} {base:Nat} {tv:Value} {xs:List Nat} (b:Nat) {bv:Int}
  (hx:ov E x=some (.int .u32 bv)) (hbv:bv=b) (hb32:b<4294967296) (hs:∀ p,look ((d1,p)::E) s=some tv) (hown:SlO base w tv xs) (hlen:xs.length≤10000000000) (hx0:Ext w0 w) (hb0:w0.heap.size≤base) (hbase:base≤w.heap.size) (hn:Nat.blt d1 n=true) (hn2:Nat.blt d2 n=true)
  (next:∀ p v' w' wm,Ext w wm→SlO base wm tv xs→wm.grownBy w' tv.ownBlock→SlO base w' v' (xs++[b])→Ext w0 w'→StL Tryz.prog n ((d2,v')::(d1,p)::E) w' ops rest Q) :
  StL Tryz.prog n E w ops (⟨some d1,.buildSlice 29 1 #[(0,x)],ty,pos,af,none⟩::⟨some d2,.call ⟨.builtin .append,#[.tmp s,.tmp d1],#[29,29]⟩,ty2,pos2,af2,none⟩::rest) Q:=by
 subst hbv
 refine StL.step rfl rfl hn (OpR.single TBok rfl rfl rfl hx) ?_
 rintro _ wm ⟨rfl,hbm,hxm,hzm⟩
 have hown':=hown.ext hxm
 have hrow:Row 139 wm (.slice (some ⟨w.heap.size,0,none⟩) 1 1) ([b].map u32):=hbm.row rfl (by simp) (by simp) rfl
 refine StL.step rfl rfl hn2 (OpR.append TBok rfl rfl rfl rfl (hs _) (look_cons_self _ _ _) hown'.1 hrow (u32_one [b]) (by simp;omega) (by simp;omega) (by have:=hxm.size;omega)) ?_
 rintro v' w' ⟨ho,hg,_⟩
 refine next _ v' w' wm hxm hown' hg ⟨?_,?_⟩ ((hx0.trans hxm).grown hown'.1 hb0 hg)
 ·rw [List.map_append];exact ho
 ·refine hown.2.append ?_
  intro y hy;simp at hy;omega
theorem take_succ_getD (xs:List Nat) (i:Nat):val (xs.take (i+1))=val (xs.take i)+xs.getD i 0 * 4294967296 ^ i:=by
 by_cases h:i<xs.length
 ·have hx:xs[i]?=some xs[i]:=by simp
  rw [val_take_succ hx]
  simp [List.getD_eq_getElem?_getD,hx]
 ·rw [List.take_of_length_le (by omega),List.take_of_length_le (by omega),List.getD_eq_getElem?_getD,List.getElem?_eq_none (by omega)]
  simp
theorem getD_lim {xs:List Nat} (h:Lim xs) (i:Nat):xs.getD i 0<4294967296:=lim_getD h i
theorem val_snoc (xs:List Nat) (x:Nat):val (xs++[x])=val xs+4294967296 ^ xs.length * x:=by
 rw [val_append];simp [val]
theorem u32_of (t:Nat):IntKind.u32.wrap (t:Int)=((t % 4294967296:Nat):Int):=by rw [wrap_u32];omega
theorem u64_of (t:Nat) (h:t<18446744073709551616):IntKind.u64.wrap (t:Int)=(t:Int):=u64_id (by omega) (by omega)
set_option maxHeartbeats 400000 in
theorem rsum_spec (w:World) (u v:Value) (xs ys:List Nat) (h:Sl w u xs) (k:Sl w v ys) (hlen:xs.length≤1000000000) (hl:ys.length≤1000000000) :
  Calls Tryz.prog 133 #[u,v] w (Ret fun r w'=>Ext w w'∧∃ us,SlO 0 w' r us∧us.length≤max xs.length ys.length+1∧val us=val xs+val ys):=by
 obtain ⟨p,c,rfl,_⟩:=h.form
 obtain ⟨q,d,rfl,_⟩:=k.form
 refine calls_of_St (args:=[_,_]) Tryz.func133 rfl Tryz.ntmps133 rfl ?_
 (iterate 6 refine Nv ?_;try refine .r rfl ?_)
 refine St.loop (fun g:Value×List Nat×Nat×Nat=>[(0,.slice p xs.length c),(1,.slice q ys.length d),(5,g.1),(6,.int .u64 g.2.2.1),(7,.int .i64 g.2.2.2)])
  (fun g w'=>Ext w w'∧SlO w.heap.size w' g.1 g.2.1∧g.2.1.length=g.2.2.2∧g.2.2.1≤1∧g.2.2.2≤max xs.length ys.length∧val g.2.1+g.2.2.1 * 4294967296 ^ g.2.2.2=val (xs.take g.2.2.2)+val (ys.take g.2.2.2))
  (fun g=>max xs.length ys.length - g.2.2.2) (.slice none 0 0,[],0,0) ⟨rfl,rfl,rfl,rfl,rfl,trivial⟩ ⟨Ext.refl _,SlO.nil _ _,rfl,by decide,Nat.zero_le _,rfl⟩ ?_
 rintro ⟨ov,os,cy,i⟩ w1 ⟨hx1,ho,hol,hcy,hi,hinv⟩
 dsimp only at hx1 ho hol hcy hi hinv ⊢
 have hA:=h.ext hx1
 have hB:=k.ext hx1
 have hxl:=getD_lim h.2 i
 have hyl:=getD_lim k.2 i
 by_cases hlt:i<max xs.length ys.length
 ·refine St.cut (fun _:Unit=>[(0,.slice p xs.length c),(1,.slice q ys.length d),(5,ov),(6,.int .u64 cy),(7,.int .i64 i)]) (fun _ w'=>w'=w1) ?_ ?_
  ·refine Nv ?_
   by_cases hx:i<xs.length
   ·refine .a 4 (.bool true) rfl (bool_true (by omega)) ?_
    (iterate 6 refine Nv ?_;try refine .r rfl ?_)
    refine .cT ?_
    exact St.skip (Out.met () ⟨rfl,rfl,rfl,rfl,rfl,trivial⟩ rfl)
   ·refine .a 4 (.bool false) rfl (bool_false (by omega)) ?_
    refine .a 5 (.bool true) rfl (bool_true (by omega)) ?_
    (iterate 6 refine Nv ?_;try refine .r rfl ?_)
    refine .cT ?_
    exact St.skip (Out.met () ⟨rfl,rfl,rfl,rfl,rfl,trivial⟩ rfl)
  rintro _ w1 rfl
  refine St.seq (St.block (St.seq (St.cutX (fun _:Unit=>[(0,.slice p xs.length c),(1,.slice q ys.length d),(5,ov),(6,.int .u64 ((cy+xs.getD i 0:Nat):Int)),(7,.int .i64 i)]) (fun _ w'=>w'=w1) ?_ ?_)))
  ·(iterate 6 refine Nv ?_;try refine .r rfl ?_)
   by_cases hx:i<xs.length
   ·refine St.condT rfl (by simp;omega) ?_
    have hxi:xs[i]?=some xs[i]:=by simp
    have hg:xs.getD i 0=xs[i]:=by simp [List.getD_eq_getElem?_getD,hxi]
    rw [hg] at hxl ⊢
    generalize xs[i]=x at hxi hxl ⊢
    refine Nv ?_
    refine .r rfl ?_
    refine StL.elem TBok i (u32 x) hA.1 (hA.get hxi) rfl rfl rfl rfl rfl rfl rfl rfl rfl rfl rfl (fun _=>rfl) ?_
    intro p1
    refine .a 2 (.int .u64 ((cy+x:Nat):Int)) rfl (by congr 1;rw [u64_of x (by omega)];exact u64_of (cy+x) (by omega)) ?_
    refine .r rfl ?_
    exact StL.nil (Out.met () ⟨rfl,rfl,rfl,rfl,rfl,trivial⟩ rfl)
   ·refine St.condF rfl (by simp;omega) ?_
    have hg:xs.getD i 0=0:=by rw [List.getD_eq_getElem?_getD,List.getElem?_eq_none (by omega)];rfl
    rw [hg]
    exact St.skip (Out.met () ⟨rfl,rfl,rfl,rfl,rfl,trivial⟩ rfl)
  rintro _ w1 rfl
  refine St.seq (St.cutX (fun _:Unit=>[(0,.slice p xs.length c),(1,.slice q ys.length d),(5,ov),(6,.int .u64 ((cy+xs.getD i 0+ys.getD i 0:Nat):Int)),(7,.int .i64 i)]) (fun _ w'=>w'=w1) ?_ ?_)
  ·(iterate 6 refine Nv ?_;try refine .r rfl ?_)
   by_cases hx:i<ys.length
   ·refine St.condT rfl (by simp;omega) ?_
    have hyi:ys[i]?=some ys[i]:=by simp
    have hg:ys.getD i 0=ys[i]:=by simp [List.getD_eq_getElem?_getD,hyi]
    rw [hg] at hyl ⊢
    generalize ys[i]=y at hyi hyl ⊢
    generalize xs.getD i 0=x at hxl ⊢
    refine Nv ?_
    refine .r rfl ?_
    refine StL.elem TBok i (u32 y) hB.1 (hB.get hyi) rfl rfl rfl rfl rfl rfl rfl rfl rfl rfl rfl (fun _=>rfl) ?_
    intro p1
    refine .a 2 (.int .u64 ((cy+x+y:Nat):Int)) rfl (by congr 1;rw [u64_of y (by omega)];exact u64_of (cy+x+y) (by omega)) ?_
    refine .r rfl ?_
    exact StL.nil (Out.met () ⟨rfl,rfl,rfl,rfl,rfl,trivial⟩ rfl)
   ·refine St.condF rfl (by simp;omega) ?_
    have hg:ys.getD i 0=0:=by rw [List.getD_eq_getElem?_getD,List.getElem?_eq_none (by omega)];rfl
    rw [hg]
    exact St.skip (Out.met () ⟨rfl,rfl,rfl,rfl,rfl,trivial⟩ rfl)
  rintro _ w1 rfl
  have hX:=take_succ_getD xs i
  have hY:=take_succ_getD ys i
  generalize xs.getD i 0=x at hxl hX ⊢
  generalize ys.getD i 0=y at hyl hY ⊢
  refine Nv ?_
  refine .r rfl ?_
  refine StL.push32 ((cy+x+y) % 4294967296) rfl (u32_of _) (Nat.mod_lt _ (by decide)) (fun _=>rfl) ho (by omega) hx1 (Nat.le_refl _) hx1.size rfl rfl ?_
  intro p2 v' w2 wm hxm hom hgr ho2 hx2
  (iterate 6 refine Nv ?_;try refine .r rfl ?_)
  refine Out.again (v',os++[(cy+x+y) % 4294967296],(cy+x+y) / 4294967296,i+1) ⟨rfl,rfl,rfl,?_,?_,trivial⟩ ⟨hx2,ho2,by simp [hol],by dsimp only;omega,by dsimp only;omega,?_⟩ (by dsimp only;omega)
  ·show some (Value.int .u64 (((cy+x+y:Nat):Int) / 2 ^ 32))=_
   rw [show ((2:Int) ^ 32)=4294967296 from rfl]
   congr 2
  ·show some (Value.int .i64 (IntKind.i64.wrap ((i:Int)+1)))=_
   rw [i64_id (by omega) (by omega)];rfl
  ·dsimp only
   rw [val_snoc,hol,hX,hY,Nat.pow_succ]
   have hdm:=Nat.mod_add_div (cy+x+y) 4294967296
   have e:(cy+x+y) / 4294967296 * (4294967296 ^ i * 4294967296)=4294967296 ^ i * (4294967296 * ((cy+x+y) / 4294967296)):=by
    rw [Nat.mul_comm,Nat.mul_assoc]
   rw [e,Nat.add_assoc,← Nat.mul_add,hdm,Nat.mul_add,Nat.mul_add,Nat.mul_comm x,Nat.mul_comm y,Nat.mul_comm _ cy]
   omega
 ·have hi':i=max xs.length ys.length:=by omega
  refine Nv ?_
  refine .a 4 (.bool false) rfl (bool_false (by omega)) ?_
  refine .a 5 (.bool false) rfl (bool_false (by omega)) ?_
  (iterate 6 refine Nv ?_;try refine .r rfl ?_)
  refine .cF ?_
  refine Nv ?_
  refine .r rfl ?_
  refine StL.push32 cy rfl (by rw [u32_of];congr 1;omega) (by omega) (fun _=>rfl) ho (by omega) hx1 (Nat.le_refl _) hx1.size rfl rfl ?_
  intro p2 v' w2 wm hxm hom hgr ho2 hx2
  (iterate 6 refine Nv ?_;try refine .r rfl ?_)
  refine Out.ret1 rfl rfl ⟨hx2,_,ho2.mono (Nat.zero_le _),by simp;omega,?_⟩
  rw [List.take_of_length_le (by omega),List.take_of_length_le (by omega)] at hinv
  rw [val_snoc,hol,← hinv,Nat.mul_comm]
set_option maxHeartbeats 400000 in
theorem rdiff_spec {base:Nat} (w:World) (u v:Value) (xs ys:List Nat) (h:Sl w u xs) (k:Sl w v ys) (hlen:xs.length≤1000000000) (_hl:ys.length≤1000000000) (hll:ys.length≤xs.length) (hge:val ys≤val xs) (hbase:base≤w.heap.size) :
  Calls Tryz.prog 134 #[u,v] w (Ret fun r w'=>Ext w w'∧∃ us,SlO base w' r us∧us.length=xs.length∧val us=val xs - val ys):=by
 obtain ⟨p,c,rfl,_⟩:=h.form
 obtain ⟨q,d,rfl,_⟩:=k.form
 refine calls_of_St (args:=[_,_]) Tryz.func134 rfl Tryz.ntmps134 rfl ?_
 (iterate 6 refine Nv ?_;try refine .r rfl ?_)
 refine St.loop (fun g:Value×List Nat×Nat×Nat=>[(0,.slice p xs.length c),(1,.slice q ys.length d),(5,g.1),(6,.int .u64 g.2.2.1),(7,.int .i64 g.2.2.2)])
  (fun g w'=>Ext w w'∧SlO w.heap.size w' g.1 g.2.1∧g.2.1.length=g.2.2.2∧g.2.2.1≤1∧g.2.2.2≤xs.length∧val g.2.1+val (ys.take g.2.2.2)=val (xs.take g.2.2.2)+g.2.2.1 * 4294967296 ^ g.2.2.2)
  (fun g=>xs.length - g.2.2.2) (.slice none 0 0,[],0,0) ⟨rfl,rfl,rfl,rfl,rfl,trivial⟩ ⟨Ext.refl _,SlO.nil _ _,rfl,by decide,Nat.zero_le _,rfl⟩ ?_
 rintro ⟨ov,os,cy,i⟩ w1 ⟨hx1,ho,hol,hcy,hi,hinv⟩
 dsimp only at hx1 ho hol hcy hi hinv ⊢
 have hA:=h.ext hx1
 have hB:=k.ext hx1
 have hyl:=getD_lim k.2 i
 by_cases hlt:i<xs.length
 ·have hxi:xs[i]?=some xs[i]:=by simp
  have hX:=val_take_succ hxi
  generalize xs[i]=x at hxi hX
  have hxl:=h.2.get hxi
  refine Nv ?_
  refine .a 4 (.bool true) rfl (bool_true (by omega)) ?_
  refine Nv ?_
  refine .cT ?_
  refine St.skip (Out.then_normal (St.seq (St.block ?_)))
  refine Nv ?_
  refine .r rfl ?_
  (refine StL.nil ?_;repeat with_reducible first | refine Out.then_normal ?_ | refine Out.block_normal ?_)
  refine St.cut (fun _:Unit=>[(0,.slice p xs.length c),(1,.slice q ys.length d),(5,ov),(7,.int .i64 i),(8,.int .u64 ((cy+ys.getD i 0:Nat):Int))]) (fun _ w'=>w'=w1) ?_ ?_
  ·(iterate 6 refine Nv ?_;try refine .r rfl ?_)
   by_cases hx:i<ys.length
   ·refine St.condT rfl (by simp;omega) ?_
    have hyi:ys[i]?=some ys[i]:=by simp
    have hg:ys.getD i 0=ys[i]:=by simp [List.getD_eq_getElem?_getD,hyi]
    rw [hg] at hyl ⊢
    generalize ys[i]=y at hyi hyl ⊢
    refine Nv ?_
    refine .r rfl ?_
    refine StL.elem TBok i (u32 y) hB.1 (hB.get hyi) rfl rfl rfl rfl rfl rfl rfl rfl rfl rfl rfl (fun _=>rfl) ?_
    intro p1
    refine .a 2 (.int .u64 ((cy+y:Nat):Int)) rfl (by congr 1;rw [u64_of y (by omega)];exact u64_of (cy+y) (by omega)) ?_
    refine .r rfl ?_
    exact StL.nil (Out.met () ⟨rfl,rfl,rfl,rfl,rfl,trivial⟩ rfl)
   ·refine St.condF rfl (by simp;omega) ?_
    have hg:ys.getD i 0=0:=by rw [List.getD_eq_getElem?_getD,List.getElem?_eq_none (by omega)];rfl
    rw [hg]
    exact St.skip (Out.met () ⟨rfl,rfl,rfl,rfl,rfl,trivial⟩ rfl)
  rintro _ w1 rfl
  have hY:=take_succ_getD ys i
  generalize ys.getD i 0=y at hyl hY ⊢
  obtain ⟨t,ht⟩:∃ t,t=cy+y:=⟨_,rfl⟩
  rw [← ht]
  obtain ⟨nb,hnb,hnb1⟩:∃ nb,nb=(if x<t then 1 else 0)∧nb≤1:=⟨_,rfl,by split <;> omega⟩
  obtain ⟨dg,hdg⟩:∃ dg,dg=x+nb * 4294967296 - t:=⟨_,rfl⟩
  have hdig:dg<4294967296∧dg+t=x+nb * 4294967296:=by
   rw [hdg,hnb]
   split <;> omega
  refine Nv ?_
  refine .r rfl ?_
  refine StL.elem TBok i (u32 x) hA.1 (hA.get hxi) rfl rfl rfl rfl rfl rfl rfl rfl rfl rfl rfl (fun _=>rfl) ?_
  intro p1
  refine .r rfl ?_
  refine StL.push32 dg rfl (by rw [u64_of x (by omega),wrap_u32,wrap_u64];omega) hdig.1 (fun _=>rfl) ho (by omega) hx1 (Nat.le_refl _) hx1.size rfl rfl ?_
  intro p2 v' w2 wm hxm hom hgr ho2 hx2
  (iterate 6 refine Nv ?_;try refine .r rfl ?_)
  refine StL.elem TBok i (u32 x) (h.ext hx2).1 ((h.ext hx2).get hxi) rfl rfl rfl rfl rfl rfl rfl rfl rfl rfl rfl (fun _=>rfl) ?_
  intro p3
  refine .a 1 (.int .u64 x) rfl (by rw [u64_of x (by omega)]) ?_
  refine .r rfl ?_
  (refine StL.nil ?_;repeat with_reducible first | refine Out.then_normal ?_ | refine Out.block_normal ?_)
  have hfin:val (os++[dg])+val (ys.take (i+1))=val (xs.take (i+1))+nb * 4294967296 ^ (i+1):=by
   rw [val_snoc,hol,hX,hY,Nat.pow_succ]
   generalize 4294967296 ^ i=P at *
   have e1:P * dg+(cy * P+y * P)=x * P+nb * (P * 4294967296):=by
    have:=congrArg (fun z=>P * z) hdig.2
    simp only [ht,Nat.mul_add] at this
    rw [Nat.mul_comm cy,Nat.mul_comm y,Nat.mul_comm x,this,← Nat.mul_assoc,Nat.mul_comm P nb,Nat.mul_assoc]
   generalize P * dg=A at *
   generalize cy * P=B at *
   generalize y * P=C at *
   generalize x * P=D at *
   generalize nb * (P * 4294967296)=F at *
   omega
  by_cases hx:x<t
  ·refine St.condT rfl (by simp;omega) ?_
   rw [if_pos hx] at hnb
   subst hnb
   (iterate 6 refine Nv ?_;try refine .r rfl ?_)
   refine Out.again (v',os++[dg],1,i+1) ⟨rfl,rfl,rfl,rfl,?_,trivial⟩ ⟨hx2,ho2,by simp [hol],hnb1,by dsimp only;omega,hfin⟩ (by dsimp only;omega)
   show some (Value.int .i64 (IntKind.i64.wrap ((i:Int)+1)))=_
   rw [i64_id (by omega) (by omega)];rfl
  ·refine St.condF rfl (by simp;omega) ?_
   rw [if_neg hx] at hnb
   subst hnb
   (iterate 6 refine Nv ?_;try refine .r rfl ?_)
   refine Out.again (v',os++[dg],0,i+1) ⟨rfl,rfl,rfl,rfl,?_,trivial⟩ ⟨hx2,ho2,by simp [hol],hnb1,by dsimp only;omega,hfin⟩ (by dsimp only;omega)
   show some (Value.int .i64 (IntKind.i64.wrap ((i:Int)+1)))=_
   rw [i64_id (by omega) (by omega)];rfl
 ·have hi':i=xs.length:=by omega
  refine Nv ?_
  refine .a 4 (.bool false) rfl (bool_false (by omega)) ?_
  refine Nv ?_
  refine .cF ?_
  (iterate 6 refine Nv ?_;try refine .r rfl ?_)
  refine Out.ret1 rfl rfl ⟨hx1,os,ho.mono hbase,by omega,?_⟩
  rw [List.take_of_length_le (by omega),List.take_of_length_le (by omega)] at hinv
  have hlt2:=val_lt os ho.2
  rw [hol] at hlt2
  have:cy=0:=by
   rcases Nat.eq_zero_or_pos cy with e | e
   ·exact e
   ·have:cy=1:=by omega
    subst this
    omega
  subst this
  omega
theorem radd_dn {base:Nat} {w:World} {x y:Value} {a b:Int} (h:Dn w x a) (k:Dn w y b) (hbase:base≤w.heap.size):Calls Tryz.prog 71 #[x,y] w (Ret fun r w'=>Ext w w'∧CanO base w' r (a+b)):=by
 obtain ⟨na,xs,⟨p,cap,rfl,hs⟩,rfl,hlen⟩:=h
 obtain ⟨nb,ys,⟨q,cb,rfl,ks⟩,rfl,hl⟩:=k
 have hl1:=limbs_length_le xs hs.2
 have hl2:=limbs_length_le ys ks.2
 refine calls_of_St (args:=[_,_]) Tryz.func71 rfl Tryz.ntmps71 rfl ?_
 refine Nv ?_
 refine .s (OpR.box rfl) ?_
 rintro _ w1 ⟨rfl,hb1,hx1,hz1⟩
 refine .s (OpR.box rfl) ?_
 rintro _ w2 ⟨rfl,hb2,hx2,hz2⟩
 refine .s (OpR.alloc TBok rfl) ?_
 rintro _ w3 ⟨rfl,hb3,hx3,hz3⟩
 refine Nv ?_
 refine St.flow 6 TBfol (by kernel_rfl) rfl (by kernel_rfl) rfl True.intro ?_
 refine FL.run TBok 99 rfl ?_
 refine FL.load (L:=[]) TBok rfl rfl rfl rfl rfl rfl upp (by simp) rfl ?_
 refine FL.callE fn_r01_trim rfl rfl rfl (fun w4 hx4=>CallF.mk rfl (rtrim_spec (base:=0) w4 _ xs upp (by omega) (Nat.zero_le _))) (MonoR.slO 0 _) ?_
 refine FL.run TBok 99 rfl ?_
 refine FL.load (L:=[]) TBok rfl rfl rfl rfl rfl rfl upp (by simp) rfl ?_
 refine FL.callE fn_r01_trim rfl rfl rfl (fun w4 hx4=>CallF.mk rfl (rtrim_spec (base:=0) w4 _ ys upp (by omega) (Nat.zero_le _))) (MonoR.slO 0 _) ?_
 refine FL.endE rfl ?_
 intro w4 hx4 v12 h12 v9 h9 _ _
 obtain ⟨p9,c9,rfl,_⟩:=h9.sl.form
 obtain ⟨p12,c12,rfl,_⟩:=h12.sl.form
 generalize val xs=m at *
 generalize val ys=k at *
 have hx14:Ext w w4:=upp
 have hB1:Blk 31 w4 w.heap.size _:=((hb1.ext hx2).ext hx3).ext hx4
 have hB2:Blk 31 w4 w1.heap.size _:=(hb2.ext hx3).ext hx4
 have hB3:Blk 31 w4 w2.heap.size _:=hb3.ext hx4
 have hg:w.heap.size≤w2.heap.size:=(hx1.trans hx2).size
 have hb4:base≤w4.heap.size:=Nat.le_trans hbase hx14.size
 clear hb1 hb2 hb3 hx1 hx2 hx3 hx4 hz1 hz2 hz3
 (iterate 6 refine Nv ?_;try refine .r rfl ?_)
 refine .p (RunsTo.load TBok rfl rfl rfl (hB1.cell rfl)) ?_
 refine .r rfl ?_
 refine .p (RunsTo.load TBok rfl rfl rfl (hB2.cell rfl)) ?_
 refine .p (RunsTo.boolEq TBok rfl rfl rfl) ?_
 (refine StL.nil ?_;repeat with_reducible first | refine Out.then_normal ?_ | refine Out.block_normal ?_)
 by_cases hn:na=nb
 ·subst hn
  refine St.condT rfl (by simp) ?_
  refine Nv ?_
  refine St.sub (E':=[(2,.pointer (some ⟨w.heap.size,0,none⟩)),(4,.pointer (some ⟨w2.heap.size,0,none⟩)),(5,.slice p9 (limbs m).length c9),(6,.slice p12 (limbs k).length c12)]) ?_ ⟨rfl,rfl,rfl,rfl,trivial⟩
  refine St.flow 6 TBfol (by kernel_rfl) rfl (by kernel_rfl) rfl True.intro ?_
  refine FL.run TBok 99 rfl ?_
  refine FL.load (L:=[]) TBok rfl rfl rfl rfl rfl rfl upp (by simp) rfl ?_
  refine FL.run TBok 99 rfl ?_
  refine FL.callE fn_r01_sum rfl rfl rfl (fun w5 hx5=>CallF.mk rfl (rsum_spec w5 _ _ _ _ (h9.ext hx5).sl (h12.ext hx5).sl (by omega) (by omega))) ?_ ?_
  ·rintro v w5 w6 hR ⟨us,h1,h2⟩
   exact ⟨us,h1.rg hR,h2⟩
  refine FL.callE (ψ:=fun v w'=>CanO base w' v (sg na m+sg na k)) fn_r01_Make rfl rfl rfl ?_ (MonoR.canO base _) ?_
  ·rintro w5 hx5 v22 ⟨us,h22,hul,huv⟩
   rw [val_limbs,val_limbs] at huv
   have:=make_spec (base:=base) w5 na v22 us h22.sl (by omega) (Nat.le_trans hb4 hx5.size)
   rw [huv,sg_sum_same] at this
   exact CallF.mk rfl this
  refine FL.endE rfl ?_
  intro w5 hx5 v23 h23 v22 _ _ _
  refine StL.finCan rfl rfl (hB3.ext hx5) rfl h23 (hx14.trans hx5) hg ?_
  intro w' hxf hcf fin
  refine Nv ?_
  exact fin _ _ rfl ⟨hxf,hcf⟩
 have hnb:nb=!na:=by cases na <;> cases nb <;> simp_all
 subst hnb
 refine St.condF rfl (by cases na <;> rfl) ?_
 (iterate 6 refine Nv ?_;try refine .r rfl ?_)
 refine .s (OpR.call fn_r01_cmp rfl (rcmp_spec w4 _ _ _ _ h9.sl h12.sl (by omega) (by omega))) ?_
 rintro _ w5 ⟨hx5,rfl⟩
 rw [cmpL_limbs]
 replace h9:=h9.ext hx5
 replace h12:=h12.ext hx5
 replace hB1:=hB1.ext hx5
 replace hB2:=hB2.ext hx5
 replace hB3:=hB3.ext hx5
 replace hx14:=hx14.trans hx5
 replace hb4:=Nat.le_trans hb4 hx5.size
 clear hx5
 by_cases hge:k≤m
 ·refine .a 1 (.bool true) rfl (bool_true (by unfold cmpN;rw [if_neg (by omega)];split <;> decide)) ?_
  refine Nv ?_
  refine .cT ?_
  have hmono:=limbs_length_mono k m hge
  refine Nv ?_
  refine St.sub (E':=[(2,.pointer (some ⟨w.heap.size,0,none⟩)),(4,.pointer (some ⟨w2.heap.size,0,none⟩)),(5,.slice p9 (limbs m).length c9),(6,.slice p12 (limbs k).length c12)]) ?_ ⟨rfl,rfl,rfl,rfl,trivial⟩
  refine St.flow 6 TBfol (by kernel_rfl) rfl (by kernel_rfl) rfl True.intro ?_
  refine FL.run TBok 99 rfl ?_
  refine FL.load (L:=[]) TBok rfl rfl rfl rfl rfl rfl upp (by simp) rfl ?_
  refine FL.run TBok 99 rfl ?_
  refine FL.callE fn_r01_difference rfl rfl rfl (fun w6 hx6=>CallF.mk rfl (rdiff_spec (base:=0) w6 _ _ _ _ (h9.ext hx6).sl (h12.ext hx6).sl (by omega) (by omega) hmono (by rw [val_limbs,val_limbs];exact hge) (Nat.zero_le _))) ?_ ?_
  ·rintro v w6 w7 hR ⟨us,h1,h2⟩
   exact ⟨us,h1.rg hR,h2⟩
  refine FL.callE (ψ:=fun v w'=>CanO base w' v (sg na m+sg (!na) k)) fn_r01_Make rfl rfl rfl ?_ (MonoR.canO base _) ?_
  ·rintro w6 hx6 v32 ⟨us,h32,hul,huv⟩
   rw [val_limbs,val_limbs] at huv
   have:=make_spec (base:=base) w6 na v32 us h32.sl (by omega) (Nat.le_trans hb4 hx6.size)
   rw [huv,sg_diff _ _ _ hge] at this
   exact CallF.mk rfl this
  refine FL.endE rfl ?_
  intro w6 hx6 v33 h33 v32 _ _ _
  refine StL.finCan rfl rfl (hB3.ext hx6) rfl h33 (hx14.trans hx6) hg ?_
  intro w' hxf hcf fin
  refine Nv ?_
  exact fin _ _ rfl ⟨hxf,hcf⟩
 ·refine .a 1 (.bool false) rfl (bool_false (by unfold cmpN;rw [if_pos (by omega)];decide)) ?_
  refine Nv ?_
  refine .cF ?_
  have hmono:=limbs_length_mono m k (by omega)
  refine Nv ?_
  refine St.sub (E':=[(3,.pointer (some ⟨w1.heap.size,0,none⟩)),(4,.pointer (some ⟨w2.heap.size,0,none⟩)),(5,.slice p9 (limbs m).length c9),(6,.slice p12 (limbs k).length c12)]) ?_ ⟨rfl,rfl,rfl,rfl,trivial⟩
  refine St.flow 6 TBfol (by kernel_rfl) rfl (by kernel_rfl) rfl True.intro ?_
  refine FL.run TBok 99 rfl ?_
  refine FL.load (L:=[]) TBok rfl rfl rfl rfl rfl rfl upp (by simp) rfl ?_
  refine FL.run TBok 99 rfl ?_
  refine FL.callE fn_r01_difference rfl rfl rfl (fun w6 hx6=>CallF.mk rfl (rdiff_spec (base:=0) w6 _ _ _ _ (h12.ext hx6).sl (h9.ext hx6).sl (by omega) (by omega) hmono (by rw [val_limbs,val_limbs];omega) (Nat.zero_le _))) ?_ ?_
  ·rintro v w6 w7 hR ⟨us,h1,h2⟩
   exact ⟨us,h1.rg hR,h2⟩
  refine FL.callE (ψ:=fun v w'=>CanO base w' v (sg na m+sg (!na) k)) fn_r01_Make rfl rfl rfl ?_ (MonoR.canO base _) ?_
  ·rintro w6 hx6 v38 ⟨us,h38,hul,huv⟩
   rw [val_limbs,val_limbs] at huv
   have:=make_spec (base:=base) w6 (!na) v38 us h38.sl (by omega) (Nat.le_trans hb4 hx6.size)
   rw [huv,sg_diff _ _ _ (by omega),Bool.not_not,Int.add_comm] at this
   exact CallF.mk rfl this
  refine FL.endE rfl ?_
  intro w6 hx6 v39 h39 v38 _ _ _
  refine StL.finCan rfl rfl (hB3.ext hx6) rfl h39 (hx14.trans hx6) hg ?_
  intro w' hxf hcf fin
  refine Nv ?_
  exact fin _ _ rfl ⟨hxf,hcf⟩
theorem rsub_dn {base:Nat} {w:World} {x y:Value} {a b:Int} (h:Dn w x a) (k:Dn w y b) (hbase:base≤w.heap.size):Calls Tryz.prog 114 #[x,y] w (Ret fun r w'=>Ext w w'∧CanO base w' r (a - b)):=by
 have hsb:=k.sz_le
 have hD:=h
 have kD:=k
 obtain ⟨na,xs,⟨p,cap,rfl,hs⟩,rfl,hlen⟩:=h
 obtain ⟨nb,ys,⟨q,cb,rfl,ks⟩,rfl,hl⟩:=k
 refine calls_of_St (args:=[_,_]) Tryz.func114 rfl Tryz.ntmps114 rfl ?_
 refine Nv ?_
 refine .s (OpR.box rfl) ?_
 rintro _ w1 ⟨rfl,hb1,hx1,hz1⟩
 refine .s (OpR.box rfl) ?_
 rintro _ w2 ⟨rfl,hb2,hx2,hz2⟩
 refine .s (OpR.alloc TBok rfl) ?_
 rintro _ w3 ⟨rfl,hb3,hx3,hz3⟩
 refine Nv ?_
 refine St.flow 4 TBfol (by kernel_rfl) rfl (by kernel_rfl) rfl True.intro ?_
 refine FL.run TBok 99 rfl ?_
 refine FL.loadAgg (L:=[]) TBok rfl rfl rfl rfl rfl rfl upp (by simp) (Nat.le_refl _) rfl ?_
 refine FL.loadAgg (L:=[]) TBok rfl rfl rfl rfl rfl rfl upp (by simp) (Nat.le_refl _) rfl ?_
 refine FL.callE fn_r01_Neg rfl rfl rfl (fun w4 hx4=>CallF.mk rfl (rneg_dn (base:=0) (a:=sg nb (val ys)) upp (Nat.zero_le _))) (MonoR.canO 0 _) ?_
 refine FL.callE fn_r01_Add rfl rfl rfl (fun w4 hx4 v7 h7=>CallF.mk rfl (radd_dn (base:=base) (a:=sg na (val xs)) upp (h7.dn (by rw [sz_neg];exact hsb)) (Nat.le_trans hbase (((hx1.trans hx2).trans hx3).trans hx4).size))) (MonoR.canO base _) ?_
 refine FL.endE rfl ?_
 intro w4 hx4 v8 h8 v7 _ _ _
 rw [← Int.sub_eq_add_neg] at h8
 refine StL.finCan rfl rfl (hb3.ext hx4) rfl h8 (w0:=w) upp (hx1.trans hx2).size ?_
 intro w' hxf hcf fin
 refine Nv ?_
 exact fin _ _ rfl ⟨hxf,hcf⟩
set_option maxHeartbeats 1000000 in
theorem rmul_dn {base:Nat} {w:World} {vx vy:Value} {a b:Int} (h:Dn w vx a) (k:Dn w vy b) (hbase:base≤w.heap.size):Calls Tryz.prog 70 #[vx,vy] w (Ret fun r w'=>Ext w w'∧CanO base w' r (a * b)):=by
 obtain ⟨na,xs,⟨p,c,rfl,h⟩,rfl,hlen⟩:=h
 obtain ⟨nb,ys,⟨q,d,rfl,k⟩,rfl,hl⟩:=k
 refine calls_of_St (args:=[_,_]) Tryz.func70 rfl Tryz.ntmps70 rfl ?_
 refine Nv ?_
 refine .s (OpR.box rfl) ?_
 rintro _ wa ⟨rfl,hba,hxa,hza⟩
 refine .s (OpR.box rfl) ?_
 rintro _ wb ⟨rfl,hbb,hxb,hzb⟩
 refine .s (OpR.alloc TBok rfl) ?_
 rintro _ wc ⟨rfl,hbc,hxc,hzc⟩
 have hx0c:Ext w wc:=upp
 have hB1:Blk 31 wc w.heap.size [.bool na,.slice p xs.length c]:=(hba.ext hxb).ext hxc
 have hB2:Blk 31 wc wa.heap.size [.bool nb,.slice q ys.length d]:=hbb.ext hxc
 (iterate 6 refine Nv ?_;try refine .r rfl ?_)
 (refine .s (RunsTo.load TBok rfl rfl rfl (Blk.cell upp rfl)).op ?_;rintro _ _ ⟨rfl,rfl⟩)
 (iterate 6 refine Nv ?_;try refine .r rfl ?_)
 (refine .s (RunsTo.load TBok rfl rfl rfl (Blk.cell upp rfl)).op ?_;rintro _ _ ⟨rfl,rfl⟩)
 refine .r rfl ?_
 refine .s (OpR.make TBok (xs.length+ys.length) rfl rfl rfl rfl rfl (by rw [i64_id (by omega) (by omega)];omega) rfl (by rw [i64_id (by omega) (by omega)];omega) (by simp;omega) (by omega)) ?_
 rintro _ w1 ⟨rfl,hb1,hx1,hz1⟩
 have hx01:=hx0c.trans hx1
 (iterate 6 refine Nv ?_;try refine .r rfl ?_)
 (refine .s (RunsTo.load TBok rfl rfl rfl (Blk.cell upp rfl)).op ?_;rintro _ _ ⟨rfl,rfl⟩)
 (iterate 6 refine Nv ?_;try refine .r rfl ?_)
 refine St.loop (fun g:Nat×List Nat=>[(2,.pointer (some ⟨w.heap.size,0,none⟩)),(3,.pointer (some ⟨wa.heap.size,0,none⟩)),(4,.pointer (some ⟨wb.heap.size,0,none⟩)),(5,.slice (some ⟨wc.heap.size,0,none⟩) (xs.length+ys.length) (xs.length+ys.length)),(20,.slice p xs.length c),(21,.int .i64 xs.length),(22,.int .i64 g.1)])
  (fun g w2=>Ext wc w2∧Blk 139 w2 wc.heap.size (g.2.map u32)∧g.2.length=xs.length+ys.length∧Lim g.2∧g.1≤xs.length∧val (g.2.take (g.1+ys.length))=val (xs.take g.1) * val ys)
  (fun g=>xs.length - g.1) (0,List.replicate (xs.length+ys.length) 0) ⟨rfl,rfl,rfl,rfl,rfl,rfl,rfl,trivial⟩ ⟨hx1,by rw [List.map_replicate];exact hb1,by simp,lim_replicate _,by simp,by simp [val,List.take_replicate,val_replicate_zero]⟩ ?_
 rintro ⟨i,us⟩ w2 ⟨hx2,hb2,hul,hulim,hi,heq⟩
 simp only at hb2 hul hulim hi heq
 have hx02:=hx0c.trans hx2
 have hA:=h.ext hx02
 have hB22:=hB2.ext hx2
 by_cases hlt:i<xs.length
 ·have hxi:xs[i]?=some xs[i]:=by simp
  generalize xs[i]=x at hxi
  have hxl:=h.2.get hxi
  refine Nv ?_
  refine .a 1 (.bool true) rfl (bool_true (by omega)) ?_
  refine Nv ?_
  refine .cT ?_
  (iterate 6 refine Nv ?_;try refine .r rfl ?_)
  refine StL.elem TBok i (u32 x) hA.1 (hA.get hxi) rfl rfl rfl rfl rfl rfl rfl rfl rfl rfl rfl (fun _=>rfl) ?_
  intro p1
  (iterate 6 refine Nv ?_;try refine .r rfl ?_)
  refine .p (RunsTo.load TBok rfl rfl rfl (hB22.cell rfl)) ?_
  (iterate 6 refine Nv ?_;try refine .r rfl ?_)
  refine St.loop (fun g:Nat×Nat×List Nat=>[(2,.pointer (some ⟨w.heap.size,0,none⟩)),(3,.pointer (some ⟨wa.heap.size,0,none⟩)),(4,.pointer (some ⟨wb.heap.size,0,none⟩)),(5,.slice (some ⟨wc.heap.size,0,none⟩) (xs.length+ys.length) (xs.length+ys.length)),(20,.slice p xs.length c),(21,.int .i64 xs.length),(22,.int .i64 i),(6,.int .i64 i),(7,u32 x),(8,.int .u64 g.2.1),(28,.slice q ys.length d),(29,.int .i64 ys.length),(30,.int .i64 g.1)])
   (fun g w3=>Ext wc w3∧Blk 139 w3 wc.heap.size (g.2.2.map u32)∧g.2.2.length=xs.length+ys.length∧Lim g.2.2∧g.2.1<4294967296∧g.1≤ys.length∧g.2.2.drop (i+g.1)=us.drop (i+g.1)∧val (g.2.2.take (i+g.1))+g.2.1 * 4294967296 ^ (i+g.1)=val (us.take (i+g.1))+x * val (ys.take g.1) * 4294967296 ^ i)
   (fun g=>ys.length - g.1) (0,0,us) ⟨rfl,rfl,rfl,rfl,rfl,rfl,rfl,rfl,rfl,rfl,rfl,rfl,rfl,trivial⟩ ⟨hx2,hb2,hul,hulim,by simp,by simp,rfl,by simp [val]⟩ ?_
  rintro ⟨j,cy,vs⟩ w3 ⟨hx3,hb3,hvl,hvlim,hcy,hj,hdr,heq3⟩
  simp only at hb3 hvl hvlim hcy hj hdr heq3
  have hB:=k.ext (hx0c.trans hx3)
  by_cases hlt2:j<ys.length
  ·have hyi:ys[j]?=some ys[j]:=by simp
   generalize ys[j]=y at hyi
   have hyl:=k.2.get hyi
   have hzi:vs[i+j]?=some vs[i+j]:=by simp
   generalize vs[i+j]=z at hzi
   have hzl:=hvlim.get hzi
   have hzu:us[i+j]?=some z:=by rw [← getElem?_of_drop hdr (Nat.le_refl _)];exact hzi
   have hbd:=mul_bound hcy hxl hyl hzl
   have eij:IntKind.i64.wrap ((i:Int)+(j:Int))=((i+j:Nat):Int):=by rw [i64_id (by omega) (by omega)];rfl
   refine Nv ?_
   refine .a 1 (.bool true) rfl (bool_true (by omega)) ?_
   refine Nv ?_
   refine .cT ?_
   (iterate 6 refine Nv ?_;try refine .r rfl ?_)
   refine StL.elem TBok j (u32 y) hB.1 (hB.get hyi) rfl rfl rfl rfl rfl rfl rfl rfl rfl rfl rfl (fun _=>rfl) ?_
   intro p2
   (iterate 6 refine Nv ?_;try refine .r rfl ?_)
   refine StL.elemB TBok (i+j) (u32 z) hb3 (by simp [hzi]) eij (by omega) rfl rfl rfl rfl rfl rfl rfl rfl rfl rfl (fun _=>rfl) ?_
   intro p3
   have e1:IntKind.u64.wrap ((cy:Int)+IntKind.u64.wrap (IntKind.u64.wrap (IntKind.u64.wrap (x:Int) * IntKind.u64.wrap (y:Int))+IntKind.u64.wrap (z:Int)))=((cy+x * y+z:Nat):Int):=by
    rw [u64_id (n:=(x:Int)) (by omega) (by omega),u64_id (n:=(y:Int)) (by omega) (by omega),show (x:Int) * (y:Int)=((x * y:Nat):Int) from by simp]
    generalize x * y=xy at hbd
    simp only [wrap_u64];omega
   refine .a 3 (.int .u64 ((cy+x * y+z:Nat):Int)) rfl (by rw [e1]) ?_
   generalize ht:cy+x * y+z=t at hbd
   (iterate 6 refine Nv ?_;try refine .r rfl ?_)
   have e2:IntKind.u32.wrap (t:Int)=((t % 4294967296:Nat):Int):=by rw [wrap_u32];omega
   refine StL.put TBok (i+j) hb3 eij (by omega) (by simp;omega) rfl rfl rfl rfl rfl rfl rfl rfl (fun _=>rfl) (fun _=>rfl) rfl rfl ?_
   intro p4 w4 hb4 hu4
   rw [e2,map_set_u32,Nat.zero_add] at hb4
   (iterate 6 refine Nv ?_;try refine .r rfl ?_)
   refine Out.again (j+1,t / 4294967296,vs.set (i+j) (t % 4294967296)) ⟨rfl,rfl,rfl,rfl,rfl,rfl,rfl,rfl,rfl,?_,rfl,rfl,?_,trivial⟩ ⟨hx3.then_upd hu4 (Nat.le_refl _),hb4,by simpa using hvl,hvlim.set _ (by omega),by simp only;omega,by simp only;omega,?_,?_⟩ (by simp only;omega)
   ·show some (Value.int .u64 ((t:Int) / 2 ^ 32))=some (Value.int .u64 ((t / 4294967296:Nat):Int))
    rw [show (t:Int) / 2 ^ 32=((t / 4294967296:Nat):Int) from by omega]
   ·show some (Value.int .i64 (IntKind.i64.wrap ((j:Int)+1)))=_
    rw [i64_id (by omega) (by omega)]
    rfl
   ·simp only
    rw [← Nat.add_assoc]
    exact drop_set_of hdr
   ·simp only
    rw [← Nat.add_assoc,val_take_set (by omega),val_take_succ hzu,val_take_succ hyi,Nat.pow_succ]
    exact mul_step _ _ _ _ _ _ _ _ _ _ _ _ (Nat.pow_add _ _ _) heq3 (by omega)
  obtain rfl:j=ys.length:=by omega
  rw [List.take_length] at heq3
  clear hlt2 hj
  have hB23:=hB2.ext hx3
  have eiy:IntKind.i64.wrap ((i:Int)+(ys.length:Int))=((i+ys.length:Nat):Int):=by rw [i64_id (by omega) (by omega)];rfl
  refine Nv ?_
  refine .a 1 (.bool false) rfl (bool_false (by omega)) ?_
  refine Nv ?_
  refine .cF ?_
  (iterate 6 refine Nv ?_;try refine .r rfl ?_)
  refine .p (RunsTo.load TBok rfl rfl rfl (hB23.cell rfl)) ?_
  refine .r rfl ?_
  have e2:IntKind.u32.wrap (cy:Int)=(cy:Int):=u32_id (by omega) (by omega)
  refine StL.put TBok (i+ys.length) hb3 eiy (by omega) (by simp;omega) rfl rfl rfl rfl rfl rfl rfl rfl (fun _=>rfl) (fun _=>rfl) rfl rfl ?_
  intro p4 w4 hb4 hu4
  rw [e2,map_set_u32,Nat.zero_add] at hb4
  (iterate 6 refine Nv ?_;try refine .r rfl ?_)
  refine Out.again (i+1,vs.set (i+ys.length) cy) ⟨rfl,rfl,rfl,rfl,rfl,rfl,?_,trivial⟩ ⟨hx3.then_upd hu4 (Nat.le_refl _),hb4,by simpa using hvl,hvlim.set _ hcy,by simp only;omega,?_⟩ (by simp only;omega)
  ·show some (Value.int .i64 (IntKind.i64.wrap ((i:Int)+1)))=_
   rw [i64_id (by omega) (by omega)]
   rfl
  ·simp only
   rw [show i+1+ys.length=i+ys.length+1 from by omega,val_take_set (by omega),heq3,heq,val_take_succ hxi,Nat.add_mul]
   congr 1
   rw [Nat.mul_assoc,Nat.mul_comm (val ys),← Nat.mul_assoc]
 ·obtain rfl:i=xs.length:=by omega
  rw [List.take_of_length_le (by omega),List.take_of_length_le (Nat.le_refl _)] at heq
  have hB12:=hB1.ext hx2
  refine Nv ?_
  refine .a 1 (.bool false) rfl (bool_false (by omega)) ?_
  refine Nv ?_
  refine .cF ?_
  (iterate 6 refine Nv ?_;try refine .r rfl ?_)
  refine .p (RunsTo.load TBok rfl rfl rfl (hB12.cell rfl)) ?_
  refine .r rfl ?_
  refine .p (RunsTo.load TBok rfl rfl rfl (hB22.cell rfl)) ?_
  refine .p (RunsTo.boolNe TBok rfl rfl rfl) ?_
  refine .r rfl ?_
  have hsl:Sl w2 (.slice (some ⟨wc.heap.size,0,none⟩) (xs.length+ys.length) (xs.length+ys.length)) us:=⟨hb2.row (by simp [hul]) (Nat.le_refl _) (by simp [hul]) (by rw [List.drop_zero,List.take_of_length_le (by simp [hul])]),hulim⟩
  refine .s (OpR.call fn_r01_Make rfl (make_spec (base:=base) w2 _ _ us hsl (by omega) (Nat.le_trans hbase hx02.size))) ?_
  rintro r w3 ⟨hx3,hr⟩
  rw [heq,sg_mul] at hr
  refine StL.finCan rfl rfl ((hbc.ext hx2).ext hx3) rfl hr (hx02.trans hx3) (hxa.trans hxb).size ?_
  intro w' hxf hcf fin
  refine Nv ?_
  exact fin _ _ rfl ⟨hxf,hcf⟩
end Go.Qf
namespace Go.Qf
theorem val_at {xs:List Nat} {k x:Nat} (h:Lim xs) (hx:xs[k]?=some x):∃ t,val xs / 4294967296 ^ k=x+4294967296 * t:=by
 have hk:k<xs.length:=(List.getElem?_eq_some_iff.1 hx).1
 have hs:=val_split xs k
 have hlt:=val_lt (xs.take k) (h.take k)
 have hl:(xs.take k).length=k:=by simp;omega
 rw [hl] at hlt
 rw [Nat.min_eq_left (by omega)] at hs
 have hpos:0<4294967296 ^ k:=Nat.pow_pos (by decide)
 refine ⟨val (xs.drop (k+1)),?_⟩
 rw [hs,Nat.add_mul_div_left _ _ hpos,Nat.div_eq_of_lt hlt,Nat.zero_add,List.drop_eq_getElem_cons hk]
 have:xs[k]=x:=by rw [List.getElem?_eq_getElem hk] at hx;exact Option.some.inj hx
 rw [this]
 rfl
theorem pow_at (k s:Nat):2 ^ (32 * k+s)=4294967296 ^ k * 2 ^ s:=by
 rw [Nat.pow_add,Nat.pow_mul]
theorem bit_at {xs:List Nat} {k x s:Nat} (h:Lim xs) (hx:xs[k]?=some x) (hs:s<32):x / 2 ^ s % 2=val xs / 2 ^ (32 * k+s) % 2:=by
 obtain ⟨t,ht⟩:=val_at h hx
 rw [pow_at,← Nat.div_div_eq_div_mul,ht]
 have e:(4294967296:Nat)=2 ^ s * (2 * 2 ^ (31 - s)):=by
  rw [← Nat.mul_assoc,Nat.mul_comm (2 ^ s) 2,← Nat.pow_succ',← Nat.pow_add,show s+1+(31 - s)=32 from by omega]
 rw [e,Nat.mul_assoc,Nat.add_mul_div_left _ _ (Nat.pow_pos (by decide)),Nat.mul_assoc,Nat.add_mul_mod_self_left]
theorem limb_even {xs:List Nat} {k x s:Nat} (h:Lim xs) (hx:xs[k]?=some x) (hs:s<32) (hd:val xs % 2 ^ (32 * k+s+1)=0):x % 2 ^ (s+1)=0:=by
 obtain ⟨t,ht⟩:=val_at h hx
 have hpos:0<4294967296 ^ k:=Nat.pow_pos (by decide)
 obtain ⟨c,hc⟩:=Nat.dvd_of_mod_eq_zero hd
 rw [show 32 * k+s+1=32 * k+(s+1) from by omega,pow_at,Nat.mul_assoc] at hc
 have h1:val xs / 4294967296 ^ k=2 ^ (s+1) * c:=by rw [hc,Nat.mul_div_cancel_left _ hpos]
 rw [ht] at h1
 have e:(4294967296:Nat)=2 ^ (s+1) * 2 ^ (31 - s):=by
  rw [← Nat.pow_add,show s+1+(31 - s)=32 from by omega]
 rw [e,Nat.mul_assoc] at h1
 have h2:x=2 ^ (s+1) * c - 2 ^ (s+1) * (2 ^ (31 - s) * t):=by omega
 rw [h2,← Nat.mul_sub]
 exact Nat.mul_mod_right _ _
theorem or_bit {x s:Nat} (h:x % 2 ^ (s+1)=0):x ||| 2 ^ s=x+2 ^ s:=by
 obtain ⟨y,rfl⟩:=Nat.dvd_of_mod_eq_zero h
 have hlt:2 ^ s<2 ^ (s+1):=Nat.pow_lt_pow_right (by decide) (by omega)
 have:=or_low (2 ^ s) y (s+1) hlt
 rw [Nat.or_comm,Nat.mul_comm,this,Nat.add_comm]
theorem val_set_add {xs:List Nat} {k x d:Nat} (hx:xs[k]?=some x):val (xs.set k (x+d))=val xs+d * 4294967296 ^ k:=by
 induction xs generalizing k with
 | nil=>simp at hx
 | cons a r ih =>
  cases k with
  | zero =>
   simp only [List.getElem?_cons_zero,Option.some.injEq] at hx
   subst hx
   simp only [List.set_cons_zero,val,Nat.pow_zero,Nat.mul_one]
   omega
  | succ k =>
   simp only [List.getElem?_cons_succ] at hx
   have:=ih hx
   simp only [List.set_cons_succ,val,this,Nat.pow_succ,Nat.mul_add]
   rw [← Nat.mul_assoc,Nat.mul_comm 4294967296 d,Nat.mul_assoc,Nat.mul_comm 4294967296 (4294967296 ^ k)]
   omega
theorem div_bit (M b n:Nat) (hn:0<n) (hb:b≤1) :
  (n≤2 * (M % n)+b→(2 * M+b) % n=2 * (M % n)+b - n∧(2 * M+b) / n=2 * (M / n)+1)∧(¬ n≤2 * (M % n)+b→(2 * M+b) % n=2 * (M % n)+b∧(2 * M+b) / n=2 * (M / n)):=by
 have hdm:=Nat.div_add_mod M n
 have hlt:=Nat.mod_lt M hn
 generalize M / n=q at *
 generalize M % n=r at *
 subst hdm
 have e:2 * (n * q+r)+b=(2 * r+b)+n * (2 * q):=by rw [Nat.mul_add,← Nat.mul_assoc,Nat.mul_comm 2 n,Nat.mul_assoc];omega
 rw [e,Nat.add_mul_mod_self_left,Nat.add_mul_div_left _ _ hn]
 constructor
 ·intro h
  have h1:(2 * r+b) / n=1:=by
   apply Nat.div_eq_of_lt_le <;> omega
  have h2:(2 * r+b) % n=2 * r+b - n:=by
   rw [Nat.mod_eq_sub_mod h,Nat.mod_eq_of_lt (by omega)]
  exact ⟨h2,by omega⟩
 ·intro h
  rw [Nat.mod_eq_of_lt (by omega),Nat.div_eq_of_lt (by omega)]
  exact ⟨rfl,by omega⟩
theorem half_step (m j:Nat):m / 2 ^ j=2 * (m / 2 ^ (j+1))+m / 2 ^ j % 2:=by
 rw [Nat.pow_succ,← Nat.div_div_eq_div_mul]
 omega
end Go.Qf
namespace Go.Qf
open Go Go.RowKit Go.Proofs
set_option maxRecDepth 20000
section
variable {P:Program} {n:Nat} {E:List (Nat×Value)} {w:World}
theorem RunsTo.quoN {d:Option Tmp} {t t2:TypeId} {x y:Operand} {ty:TypeId} {pos:String} {af:Array Edge} {g:Option (Nat×Bool)} {k:IntKind} (m s:Nat) {mi si:Int} (hx:ov E x=some (.int k mi)) (hm:mi=m) (hy:ov E y=some (.int k si)) (hs:si=s) (hs0:0<s) (hk:k.wrap ((m / s:Nat):Int)=((m / s:Nat):Int)) :
  RunsTo P n ⟨d,.binOp .quo t x y t2,ty,pos,af,g⟩ E w (.int k ((m / s:Nat):Int)):=by
 subst hm hs
 have:=RunsTo.quo (P:=P) (n:=n) (w:=w) (d:=d) (t:=t) (t2:=t2) (ty:=ty) (pos:=pos) (af:=af) (g:=g) hx hy (by omega) (by omega)
 rw [← Int.natCast_ediv,hk] at this
 exact this
theorem RunsTo.remN {d:Option Tmp} {t t2:TypeId} {x y:Operand} {ty:TypeId} {pos:String} {af:Array Edge} {g:Option (Nat×Bool)} {k:IntKind} (m s:Nat) {mi si:Int} (hx:ov E x=some (.int k mi)) (hm:mi=m) (hy:ov E y=some (.int k si)) (hs:si=s) (hs0:0<s) :
  RunsTo P n ⟨d,.binOp .rem t x y t2,ty,pos,af,g⟩ E w (.int k ((m % s:Nat):Int)):=by
 subst hm hs
 have:=RunsTo.rem (P:=P) (n:=n) (w:=w) (d:=d) (t:=t) (t2:=t2) (ty:=ty) (pos:=pos) (af:=af) (g:=g) hx hy (by omega) (by omega)
 rw [← Int.natCast_emod] at this
 exact this
theorem RunsTo.shrN {d:Option Tmp} {t t2:TypeId} {x y:Operand} {ty:TypeId} {pos:String} {af:Array Edge} {g:Option (Nat×Bool)} {k k':IntKind} (m j:Nat) {mi s:Int} (hx:ov E x=some (.int k mi)) (hm:mi=m) (hy:ov E y=some (.int k' s)) (hs:s=j) (hj:j≤k.bits) :
  RunsTo P n ⟨d,.binOp .shr t x y t2,ty,pos,af,g⟩ E w (.int k ((m / 2 ^ j:Nat):Int)):=by
 subst hm
 have:=RunsTo.shr (P:=P) (n:=n) (w:=w) (d:=d) (t:=t) (t2:=t2) (ty:=ty) (pos:=pos) (af:=af) (g:=g) j hx hy hs hj
 rw [show ((m:Int) / 2 ^ j)=((m / 2 ^ j:Nat):Int) from by simp] at this
 exact this
theorem RunsTo.shlN {d:Option Tmp} {t t2:TypeId} {x y:Operand} {ty:TypeId} {pos:String} {af:Array Edge} {g:Option (Nat×Bool)} {k k':IntKind} (m j:Nat) {mi s:Int} (hx:ov E x=some (.int k mi)) (hm:mi=m) (hy:ov E y=some (.int k' s)) (hs:s=j) (hj:j≤k.bits) (hw:k.wrap ((m * 2 ^ j:Nat):Int)=((m * 2 ^ j:Nat):Int)) :
  RunsTo P n ⟨d,.binOp .shl t x y t2,ty,pos,af,g⟩ E w (.int k ((m * 2 ^ j:Nat):Int)):=by
 subst hm
 have:=RunsTo.shl (P:=P) (n:=n) (w:=w) (d:=d) (t:=t) (t2:=t2) (ty:=ty) (pos:=pos) (af:=af) (g:=g) j hx hy hs hj
 rw [show ((m:Int) * 2 ^ j)=((m * 2 ^ j:Nat):Int) from by simp,hw] at this
 exact this
end
set_option maxHeartbeats 400000 in
theorem double_spec (w:World) (u:Value) (xs:List Nat) (b:Nat) (h:Sl w u xs) (hb:b≤1) (hlen:xs.length≤1000000000) :
  Calls Tryz.prog 179 #[u,.int .u32 b] w (Ret fun r w'=>Ext w w'∧∃ us,SlO w.heap.size w' r us∧us.length=xs.length+1∧val us=2 * val xs+b):=by
 obtain ⟨p,c,rfl,_⟩:=h.form
 refine calls_of_St (args:=[_,_]) Tryz.func179 rfl Tryz.ntmps179 rfl ?_
 (iterate 6 refine Nv ?_;try refine .r rfl ?_)
 refine St.loop (fun g:Value×List Nat×Nat×Nat=>[(0,.slice p xs.length c),(1,.int .u32 g.2.2.1),(5,g.1),(8,.slice p xs.length c),(9,.int .i64 xs.length),(10,.int .i64 g.2.2.2)])
  (fun g w'=>Ext w w'∧SlO w.heap.size w' g.1 g.2.1∧g.2.1.length=g.2.2.2∧g.2.2.1≤1∧g.2.2.2≤xs.length∧val g.2.1+g.2.2.1 * 4294967296 ^ g.2.2.2=2 * val (xs.take g.2.2.2)+b)
  (fun g=>xs.length - g.2.2.2) (.slice none 0 0,[],b,0) ⟨rfl,rfl,rfl,rfl,rfl,rfl,trivial⟩ ⟨Ext.refl _,SlO.nil _ _,rfl,hb,Nat.zero_le _,by simp [val]⟩ ?_
 rintro ⟨ov,os,cy,i⟩ w1 ⟨hx1,ho,hol,hcy,hi,hinv⟩
 dsimp only at hx1 ho hol hcy hi hinv ⊢
 have hA:=h.ext hx1
 by_cases hlt:i<xs.length
 ·have hxi:xs[i]?=some xs[i]:=by simp
  have hX:=val_take_succ hxi
  generalize xs[i]=x at hxi hX
  have hxl:=h.2.get hxi
  refine Nv ?_
  refine .a 1 (.bool true) rfl (bool_true (by omega)) ?_
  refine Nv ?_
  refine .cT ?_
  (iterate 6 refine Nv ?_;try refine .r rfl ?_)
  refine StL.elem TBok i (u32 x) hA.1 (hA.get hxi) rfl rfl rfl rfl rfl rfl rfl rfl rfl rfl rfl (fun _=>rfl) ?_
  intro p1
  refine .r rfl ?_
  refine Nv ?_
  have e1:IntKind.u32.wrap ((x:Int) * 2 ^ 1)=((2 * x % 4294967296:Nat):Int):=by rw [wrap_u32];omega
  have e2:2 * x % 4294967296 ||| cy=2 * x % 4294967296+cy:=by
   have:=or_low cy (x % 2147483648) 1 (by omega)
   rw [show 2 * x % 4294967296=x % 2147483648 * 2 ^ 1 from by omega,Nat.or_comm,this,Nat.add_comm]
  have hdl:2 * x % 4294967296+cy<4294967296:=by omega
  refine .a 3 (.int .u32 ((2 * x % 4294967296:Nat):Int)) rfl (by rw [e1]) ?_
  refine .a 2 (.int .u32 ((2 * x % 4294967296+cy:Nat):Int)) rfl (by rw [or_u32 _ _ (by omega) (by omega),e2]) ?_
  refine StL.push32 (2 * x % 4294967296+cy) rfl rfl hdl (fun _=>rfl) ho (by omega) hx1 (Nat.le_refl _) hx1.size rfl rfl ?_
  intro p2 v' w2 wm hxm hom hgr ho2 hx2
  (iterate 6 refine Nv ?_;try refine .r rfl ?_)
  refine Out.again (v',os++[2 * x % 4294967296+cy],x / 2147483648,i+1) ⟨rfl,?_,rfl,rfl,rfl,?_,trivial⟩ ⟨hx2,ho2,by simp [hol],by dsimp only;omega,by dsimp only;omega,?_⟩ (by dsimp only;omega)
  ·show some (Value.int .u32 ((x:Int) / 2 ^ 31))=_
   rw [show ((2:Int) ^ 31)=2147483648 from rfl]
   congr 2
  ·show some (Value.int .i64 (IntKind.i64.wrap ((i:Int)+1)))=_
   rw [i64_id (by omega) (by omega)];rfl
  ·dsimp only
   rw [val_snoc,hol,hX,Nat.pow_succ]
   have hdm:2 * x % 4294967296+4294967296 * (x / 2147483648)=2 * x:=by omega
   generalize 4294967296 ^ i=P at *
   have e3:P * (2 * x % 4294967296+cy)+x / 2147483648 * (P * 4294967296)=cy * P+2 * (x * P):=by
    rw [Nat.mul_add,Nat.mul_comm (x / 2147483648),Nat.mul_assoc P,Nat.mul_comm cy,show P * (2 * x % 4294967296)+P * cy+P * (4294967296 * (x / 2147483648))=P * (2 * x % 4294967296)+P * (4294967296 * (x / 2147483648))+P * cy from by omega,← Nat.mul_add,hdm,Nat.add_comm,← Nat.mul_assoc,Nat.mul_comm P 2,Nat.mul_assoc,Nat.mul_comm P x]
   generalize x / 2147483648 * (P * 4294967296)=A at *
   generalize P * (2 * x % 4294967296+cy)=B at *
   generalize cy * P=C at *
   generalize x * P=D at *
   omega
 ·have hi':i=xs.length:=by omega
  refine Nv ?_
  refine .a 1 (.bool false) rfl (bool_false (by omega)) ?_
  refine Nv ?_
  refine .cF ?_
  refine Nv ?_
  refine .r rfl ?_
  refine StL.push32 cy rfl rfl (by omega) (fun _=>rfl) ho (by omega) hx1 (Nat.le_refl _) hx1.size rfl rfl ?_
  intro p2 v' w2 wm hxm hom hgr ho2 hx2
  (iterate 6 refine Nv ?_;try refine .r rfl ?_)
  refine Out.ret1 rfl rfl ⟨hx2,_,ho2,by simp;omega,?_⟩
  rw [List.take_of_length_le (by omega)] at hinv
  rw [val_snoc,hol,← hinv,Nat.mul_comm]
theorem Own.updB {base b:Nat} {e:TypeId} {w w':World} {v:Value} {cs:List Value} (h:Own base e w v cs) (hu:Upd b w w') (hb:b<base):Own base e w' v cs:=by
 refine ⟨h.1,?_⟩
 rcases h.2 with h0 | ⟨g,cap,cur,hv,hg,hgg,r⟩
 ·exact .inl h0
 ·exact .inr ⟨g,cap,cur,hv,hg,(hu.block g (Array.getElem?_eq_some_iff.1 hgg).1 (by omega)).trans hgg,r⟩
theorem SlO.updB {base b:Nat} {w w':World} {v:Value} {xs:List Nat} (h:SlO base w v xs) (hu:Upd b w w') (hb:b<base):SlO base w' v xs:=⟨Own.updB h.1 hu hb,h.2⟩
def DivN (w:World) (r:Value) (a b:Nat):Prop:=∃ q m,r=.tuple #[q,m]∧SlO 0 w q (limbs (a / b))∧SlO 0 w m (limbs (a % b))
set_option maxHeartbeats 1000000 in
theorem divide_spec (w:World) (u v:Value) (M K:Nat) (h:Sl w u (limbs M)) (k:Sl w v (limbs K)) (hlen:(limbs M).length≤10000000) (hl:(limbs K).length≤10000000) (hK:K≠0) :
  Calls Tryz.prog 176 #[u,v] w (Ret fun r w'=>Ext w w'∧DivN w' r M K):=by
 obtain ⟨p,c,rfl,_⟩:=h.form
 obtain ⟨q,d,rfl,_⟩:=k.form
 have hKpos:0<K:=by omega
 refine calls_of_St (args:=[_,_]) Tryz.func176 rfl Tryz.ntmps176 rfl ?_
 refine St.seq (St.region (StL.run TBok 99 rfl (StL.nil (Out.then_normal ?_))))
 by_cases hs:(limbs M).length≤2∧(limbs K).length≤2
 ·have hM:M<18446744073709551616:=by have:=val_le_two h.2 hs.1;rwa [val_limbs] at this
  have hK2:K<18446744073709551616:=by have:=val_le_two k.2 hs.2;rwa [val_limbs] at this
  refine Nv ?_
  refine .a 3 (.bool true) rfl (bool_true (by omega)) ?_
  refine .a 4 (.bool true) rfl (bool_true (by omega)) ?_
  (iterate 6 refine Nv ?_;try refine .r rfl ?_)
  refine .cT ?_
  (iterate 6 refine Nv ?_;try refine .r rfl ?_)
  refine .s (OpR.call fn_r01_low rfl (low_spec w _ _ h (by omega))) ?_
  rintro _ w1 ⟨hx1,rfl⟩
  rw [List.take_of_length_le hs.1,val_limbs]
  refine .r rfl ?_
  refine .s (OpR.call fn_r01_low rfl (low_spec w1 _ _ (k.ext hx1) (by omega))) ?_
  rintro _ w2 ⟨hx2,rfl⟩
  rw [List.take_of_length_le hs.2,val_limbs]
  refine .r rfl ?_
  refine Nv ?_
  have hq:M / K<18446744073709551616:=Nat.lt_of_le_of_lt (Nat.div_le_self _ _) hM
  have hr:M % K<18446744073709551616:=Nat.lt_of_le_of_lt (Nat.mod_le _ _) hM
  refine St.sub (E':=[(6,.int .u64 M),(7,.int .u64 K)]) ?_ ⟨rfl,rfl,trivial⟩
  refine St.flow 12 TBfol (by kernel_rfl) rfl (by kernel_rfl) rfl True.intro ?_
  refine FL.run TBok 99 rfl ?_
  refine .on (fun _ _=>RunsTo.quoN M K rfl rfl rfl rfl hKpos (u64_of _ hq)) ?_
  refine FL.callE fn_r01_word rfl rfl rfl (fun w3 hx3=>CallF.mk rfl (rword_spec (base:=0) w3 false (M / K) hq (Nat.zero_le _))) (MonoR.canO 0 _) ?_
  refine FL.fact (L:=[]) (ψ:=fun v w'=>SlO 0 w' v (limbs (M / K))) rfl rfl rfl rfl rfl ?_ (MonoR.slO 0 _) ?_
  ·rintro w3 hR v24 ⟨p24,c24,rfl,h24⟩
   rw [sg_abs] at h24 ⊢
   exact RunsTo.ext (RunsTo.pure TBok rfl) h24
  refine FL.run TBok 99 rfl ?_
  refine .on (fun _ _=>RunsTo.remN M K rfl rfl rfl rfl hKpos) ?_
  refine FL.callE fn_r01_word rfl rfl rfl (fun w3 hx3=>CallF.mk rfl (rword_spec (base:=0) w3 false (M % K) hr (Nat.zero_le _))) (MonoR.canO 0 _) ?_
  refine FL.fact (L:=[]) (ψ:=fun v w'=>SlO 0 w' v (limbs (M % K))) rfl rfl rfl rfl rfl ?_ (MonoR.slO 0 _) ?_
  ·rintro w3 hR v29 ⟨p29,c29,rfl,h29⟩
   rw [sg_abs] at h29 ⊢
   exact RunsTo.ext (RunsTo.pure TBok rfl) h29
  refine FL.fact (L:=[]) (ψ:=fun v w'=>SlO 0 w' v (limbs (M / K))) rfl rfl rfl rfl rfl (fun w3 hR v hv=>RunsTo.ext (RunsTo.pure TBok rfl) hv) (MonoR.slO 0 _) ?_
  refine FL.fact (L:=[]) (ψ:=fun v w'=>SlO 0 w' v (limbs (M % K))) rfl rfl rfl rfl rfl (fun w3 hR v hv=>RunsTo.ext (RunsTo.pure TBok rfl) hv) (MonoR.slO 0 _) ?_
  refine FL.endE rfl ?_
  intro w3 hx3 v5 h5 v4 h4 _ _ _ _ _ _ _ _ _ _
  (iterate 6 refine Nv ?_;try refine .r rfl ?_)
  exact Out.ret2 rfl rfl rfl ⟨upp,_,_,rfl,h4,h5⟩
 refine St.cut (fun _:Unit=>[(0,.slice p (limbs M).length c),(1,.slice q (limbs K).length d),(5,.slice none 0 0)]) (fun _ w'=>w'=w) ?_ ?_
 ·refine Nv ?_
  by_cases h1:(limbs M).length≤2
  ·refine .a 3 (.bool true) rfl (bool_true (by omega)) ?_
   refine .a 4 (.bool false) rfl (bool_false (by omega)) ?_
   (iterate 6 refine Nv ?_;try refine .r rfl ?_)
   refine St.condF rfl rfl (St.skip (Out.met () ⟨rfl,rfl,rfl,trivial⟩ rfl))
  ·refine .a 3 (.bool false) rfl (bool_false (by omega)) ?_
   (iterate 6 refine Nv ?_;try refine .r rfl ?_)
   refine St.condF rfl rfl (St.skip (Out.met () ⟨rfl,rfl,rfl,trivial⟩ rfl))
 rintro _ w rfl
 clear hs
 have hMlt:M<4294967296 ^ (limbs M).length:=by have:=val_lt _ h.2;rwa [val_limbs] at this
 generalize hxs:limbs M=xs at *
 have hval:val xs=M:=by rw [← hxs,val_limbs]
 (iterate 6 refine Nv ?_;try refine .r rfl ?_)
 refine .s (OpR.make TBok xs.length rfl rfl rfl rfl rfl rfl rfl rfl (by simp;omega) (by omega)) ?_
 rintro _ w1 ⟨rfl,hb1,hx1,hz1⟩
 (iterate 6 refine Nv ?_;try refine .r rfl ?_)
 have ei:IntKind.i64.wrap (IntKind.i64.wrap (32 * (xs.length:Int)) - 1)=((32 * xs.length:Nat):Int) - 1:=by
  rw [i64_id (n:=32 * (xs.length:Int)) (by omega) (by omega),i64_id (by omega) (by omega)];omega
 have hj0:M / 2 ^ (32 * xs.length)=0:=by
  rw [Nat.pow_mul]
  exact Nat.div_eq_of_lt hMlt
 refine St.loop (fun g:Value×List Nat×Nat=>[(0,.slice p xs.length c),(1,.slice q (limbs K).length d),(4,.slice (some ⟨w.heap.size,0,none⟩) xs.length xs.length),(5,g.1),(8,.int .i64 ((g.2.2:Int) - 1))])
  (fun g w'=>Ext w w'∧w1.heap.size≤w'.heap.size∧SlO w1.heap.size w' g.1 (limbs (M / 2 ^ g.2.2 % K))∧Blk 139 w' w.heap.size (g.2.1.map u32)∧g.2.1.length=xs.length∧Lim g.2.1∧g.2.2≤32 * xs.length∧val g.2.1=M / 2 ^ g.2.2 / K * 2 ^ g.2.2)
  (fun g=>g.2.2) (.slice none 0 0,List.replicate xs.length 0,32 * xs.length) ⟨rfl,rfl,rfl,rfl,?_,trivial⟩ ⟨hx1,Nat.le_refl _,?_,by rw [List.map_replicate];exact hb1,by simp,lim_replicate _,Nat.le_refl _,?_⟩ ?_
 ·show some (Value.int .i64 (IntKind.i64.wrap (IntKind.i64.wrap (32 * (xs.length:Int)) - 1)))=_
  rw [ei]
 ·dsimp only
  rw [hj0,Nat.zero_mod]
  exact SlO.nil _ _
 ·dsimp only
  rw [hj0,Nat.zero_div,Nat.zero_mul,val_replicate_zero]
 rintro ⟨rv,qs,j⟩ w2 ⟨hx2,hsz2,hr2,hb2,hql,hqlim,hj,hqv⟩
 dsimp only at hx2 hsz2 hr2 hb2 hql hqlim hj hqv ⊢
 by_cases hj0':j=0
 ·subst hj0'
  refine Nv ?_
  refine .a 2 (.bool false) rfl (bool_false (by omega)) ?_
  refine Nv ?_
  refine .cF ?_
  (iterate 6 refine Nv ?_;try refine .r rfl ?_)
  have hsl:Sl w2 (.slice (some ⟨w.heap.size,0,none⟩) xs.length xs.length) qs:=⟨hb2.row (by simp [hql]) (Nat.le_refl _) (by simp [hql]) (by rw [List.drop_zero,List.take_of_length_le (by simp [hql])]),hqlim⟩
  refine .s (OpR.call fn_r01_trim rfl (rtrim_spec (base:=0) w2 _ qs hsl (by omega) (Nat.zero_le _))) ?_
  rintro t73 w3 ⟨hx3,h73⟩
  rw [hqv] at h73
  simp only [Nat.pow_zero,Nat.div_one,Nat.mul_one] at h73 hr2
  (iterate 6 refine Nv ?_;try refine .r rfl ?_)
  exact Out.ret2 rfl rfl rfl ⟨hx2.trans hx3,_,_,rfl,h73,(hr2.ext hx3).mono (Nat.zero_le _)⟩
 obtain ⟨i,rfl⟩:∃ i,j=i+1:=⟨j - 1,by omega⟩
 have ej:((i+1:Nat):Int) - 1=(i:Int):=by omega
 rw [ej]
 have hkl:i / 32<xs.length:=by omega
 have hxi:xs[i / 32]?=some xs[i / 32]:=by simp
 have hbit:=bit_at (s:=i % 32) (by have:=h.2;exact this) hxi (Nat.mod_lt _ (by decide))
 rw [hval,show 32 * (i / 32)+i % 32=i from Nat.div_add_mod i 32] at hbit
 generalize xs[i / 32]=x at hxi hbit
 have hxl:x<4294967296:=Lim.get h.2 hxi
 obtain ⟨bt,hbt⟩:∃ bt,bt=M / 2 ^ i % 2:=⟨_,rfl⟩
 have hbt1:bt≤1:=by omega
 have hhalf:=half_step M i
 rw [← hbt] at hhalf hbit
 have hA:=h.ext hx2
 have hrl:M / 2 ^ (i+1) % K<K:=Nat.mod_lt _ hKpos
 have hrll:=limbs_length_mono _ _ (Nat.le_of_lt hrl)
 refine Nv ?_
 refine .a 2 (.bool true) rfl (bool_true (by omega)) ?_
 refine Nv ?_
 refine .cT ?_
 (iterate 6 refine Nv ?_;try refine .r rfl ?_)
 refine .p (RunsTo.quoN i 32 rfl rfl rfl rfl (by decide) (i64_of _ (by omega))) ?_
 refine StL.elem TBok (i / 32) (u32 x) hA.1 (hA.get hxi) rfl rfl rfl rfl rfl rfl rfl rfl rfl rfl rfl (fun _=>rfl) ?_
 intro p1
 refine .r rfl ?_
 refine .p (RunsTo.remN i 32 rfl rfl rfl rfl (by decide)) ?_
 refine .p (RunsTo.shrN x (i % 32) rfl rfl rfl rfl (by show i % 32≤32;omega)) ?_
 have hx32:x / 2 ^ (i % 32)<4294967296:=Nat.lt_of_le_of_lt (Nat.div_le_self _ _) hxl
 refine .a 1 (.int .u32 bt) rfl (by
  have e1:(Value.int .u32 (bitsI .and .u32 ((x / 2 ^ (i % 32):Nat):Int) ((1:Nat):Int)))=.int .u32 bt:=by
   rw [and_u32 _ 1 hx32 (by decide),Nat.and_one_is_mod,hbit]
  exact e1) ?_
 refine .s (OpR.call fn_r01_double rfl (double_spec w2 _ _ bt hr2.sl hbt1 (by omega))) ?_
 rintro d52 w3 ⟨hx3,ds,hd3,hdl,hdv⟩
 rw [val_limbs] at hdv
 refine .s (OpR.call fn_r01_trim rfl (rtrim_spec (base:=w1.heap.size) w3 _ _ hd3.sl (by omega) (Nat.le_trans hsz2 hx3.size))) ?_
 rintro r53 w4 ⟨hx4,hr4⟩
 rw [hdv] at hr4
 have hx24:=hx3.trans hx4
 have hx04:=hx2.trans hx24
 have hb4:=hb2.ext hx24
 have hsz4:w1.heap.size≤w4.heap.size:=Nat.le_trans hsz2 hx24.size
 have hk4:=k.ext hx04
 obtain ⟨p53,c53,rfl,_⟩:=hr4.sl.form
 have hdb:=div_bit (M / 2 ^ (i+1)) bt K hKpos hbt1
 rw [← hhalf] at hdb
 have hl53:(limbs (2 * (M / 2 ^ (i+1) % K)+bt)).length≤10000001:=by
  refine Nat.le_trans (limbs_length_mono _ (K+K) (by omega)) ?_
  have:=limbs_add_length K K
  omega
 clear hx3 hx4 hx24 hb2 hr2 hd3
 generalize hR:2 * (M / 2 ^ (i+1) % K)+bt=R at *
 (iterate 6 refine Nv ?_;try refine .r rfl ?_)
 refine .s (OpR.call fn_r01_cmp rfl (rcmp_spec w4 _ _ _ _ hr4.sl hk4 (by omega) (by omega))) ?_
 rintro _ w5 ⟨hx5,rfl⟩
 rw [cmpL_limbs]
 replace hr4:=hr4.ext hx5
 replace hb4:=hb4.ext hx5
 replace hk4:=hk4.ext hx5
 replace hx04:=hx04.trans hx5
 replace hsz4:=Nat.le_trans hsz4 hx5.size
 clear hx5
 by_cases hge:K≤R
 ·obtain ⟨hm1,hm2⟩:=hdb.1 hge
  refine .a 1 (.bool true) rfl (bool_true (by unfold cmpN;rw [if_neg (by omega)];split <;> decide)) ?_
  refine Nv ?_
  refine .cT ?_
  (iterate 6 refine Nv ?_;try refine .r rfl ?_)
  refine .s (OpR.call fn_r01_difference rfl (rdiff_spec (base:=0) w5 _ _ _ _ hr4.sl hk4 (by omega) (by omega) (limbs_length_mono _ _ hge) (by rw [val_limbs,val_limbs];exact hge) (Nat.zero_le _))) ?_
  rintro d60 w6 ⟨hx6,es,he6,hel,hev⟩
  rw [val_limbs,val_limbs] at hev
  refine .s (OpR.call fn_r01_trim rfl (rtrim_spec (base:=w1.heap.size) w6 _ _ he6.sl (by omega) (Nat.le_trans hsz4 hx6.size))) ?_
  rintro r61 w7 ⟨hx7,hr7⟩
  rw [hev,← hm1] at hr7
  have hx57:=hx6.trans hx7
  replace hb4:=hb4.ext hx57
  replace hx04:=hx04.trans hx57
  replace hsz4:=Nat.le_trans hsz4 hx57.size
  clear hx6 hx7 hx57 he6
  have hyk:qs[i / 32]?=some qs[i / 32]:=by simp
  have hev2:qs[i / 32] % 2 ^ (i % 32+1)=0:=by
   refine limb_even hqlim hyk (Nat.mod_lt _ (by decide)) ?_
   rw [show 32 * (i / 32)+i % 32+1=i+1 from by omega,hqv]
   exact Nat.mul_mod_left _ _
  generalize qs[i / 32]=y at hyk hev2
  have hyl:=hqlim.get hyk
  have hor:=or_bit hev2
  have hp32:2 ^ (i % 32)<4294967296:=Nat.pow_lt_pow_right (by decide) (Nat.mod_lt _ (by decide):i % 32<32)
  have hyp:y+2 ^ (i % 32)<4294967296:=by
   rw [← hor]
   exact Nat.or_lt_two_pow (n:=32) hyl hp32
  have hset:=val_set_add (d:=2 ^ (i % 32)) hyk
  refine .r rfl ?_
  refine Nv ?_
  refine St.sub (E':=[(0,.slice p xs.length c),(1,.slice q (limbs K).length d),(4,.slice (some ⟨w.heap.size,0,none⟩) xs.length xs.length),(5,r61),(8,.int .i64 i)]) ?_ ⟨rfl,rfl,rfl,rfl,rfl,trivial⟩
  refine St.flow 10 TBfol (by kernel_rfl) rfl (by kernel_rfl) rfl True.intro ?_
  refine FL.run TBok 99 rfl ?_
  refine .on (fun _ _=>RunsTo.quoN i 32 rfl rfl rfl rfl (by decide) (i64_of _ (by omega))) ?_
  refine .on (fun _ _=>RunsTo.ia) ?_
  refine FL.load (L:=[]) TBok rfl rfl rfl rfl rfl (by simp only [Int.toNat_natCast,addr_add,Nat.zero_add];rfl) hb4 (by simp) (by simp [hyk];rfl) ?_
  refine FL.run TBok 99 rfl ?_
  refine .on (fun _ _=>RunsTo.remN i 32 rfl rfl rfl rfl (by decide)) ?_
  refine .on (fun _ _=>RunsTo.shlN 1 (i % 32) rfl rfl rfl rfl (by show i % 32≤32;omega) (by rw [Nat.one_mul];exact u32_id (by omega) (by omega))) ?_
  refine FL.as TBok 1 (.int .u32 ((y+2 ^ (i % 32):Nat):Int)) rfl (by rw [or_u32 _ _ hyl (by rw [Nat.one_mul];exact hp32),Nat.one_mul,hor]) ?_
  refine .on (fun _ _=>RunsTo.ia) ?_
  refine FL.endE rfl ?_
  intro w8 hx8 _ _
  refine StL.step0 rfl rfl (OpR.store TBok (vs:=[u32 (y+2 ^ (i % 32))]) rfl (by simp only [Int.toNat_natCast,addr_add,Nat.zero_add];rfl) rfl rfl rfl (hb4.ext hx8) (by simp;omega) (by simp [Value.oneCell'])) ?_
  rintro _ w9 ⟨hb9,hu9⟩
  have hb9':Blk 139 w9 w.heap.size ((qs.set (i / 32) (y+2 ^ (i % 32))).map u32):=by
   rw [← map_set_u32];exact hb9
  have hx09:=(hx04.trans hx8).then_upd hu9 (Nat.le_refl _)
  (iterate 6 refine Nv ?_;try refine .r rfl ?_)
  refine Out.again (r61,qs.set (i / 32) (y+2 ^ (i % 32)),i) ⟨rfl,rfl,rfl,rfl,?_,trivial⟩ ⟨hx09,Nat.le_trans (Nat.le_trans hsz4 hx8.size) hu9.size,(hr7.ext hx8).updB hu9 (by omega),hb9',by simpa using hql,hqlim.set _ hyp,by dsimp only;omega,?_⟩ (Nat.lt_succ_self i)
  ·show some (Value.int .i64 (IntKind.i64.wrap ((i:Int) - 1)))=_
   rw [i64_id (by omega) (by omega)]
  ·dsimp only
   rw [hset,hqv,hm2,Nat.mul_comm (2 ^ (i % 32)),← pow_at,Nat.div_add_mod,Nat.pow_succ,Nat.add_mul,Nat.one_mul]
   congr 1
   rw [Nat.mul_comm (2 ^ i) 2,← Nat.mul_assoc,Nat.mul_comm _ 2]
 ·obtain ⟨hm1,hm2⟩:=hdb.2 hge
  refine .a 1 (.bool false) rfl (bool_false (by unfold cmpN;rw [if_pos (by omega)];decide)) ?_
  refine Nv ?_
  refine .cF ?_
  rw [← hm1] at hr4
  (iterate 6 refine Nv ?_;try refine .r rfl ?_)
  refine Out.again (.slice p53 (limbs R).length c53,qs,i) ⟨rfl,rfl,rfl,rfl,?_,trivial⟩ ⟨hx04,hsz4,?_,hb4,hql,hqlim,by dsimp only;omega,?_⟩ (Nat.lt_succ_self i)
  ·show some (Value.int .i64 (IntKind.i64.wrap ((i:Int) - 1)))=_
   rw [i64_id (by omega) (by omega)]
  ·dsimp only
   rw [hm1] at hr4 ⊢
   exact hr4
  ·dsimp only
   rw [hqv,hm2,Nat.pow_succ,Nat.mul_comm (2 ^ i) 2,← Nat.mul_assoc,Nat.mul_comm _ 2]
theorem St.flowL {P:Program} {n:Nat} {l:List Oper} (m:Nat) (L:List Nat) {E:List (Nat×Value)} {w:World} {Q:Exit→Act→World→Prop} {id:Nat} (hP:P.follows .mixedOrders=true) (hD:flowOk l m=true) (hfree:freeE (dsts (l.take m)) E=true) (hlt:(dsts (l.take m)).all (fun d=>Nat.blt d n)=true)
  (hall:allPtr E (preSlots l m)=true) (hL:blocksOf E (preSlots l m)=L) (hpre:preD w L) (h:FL P n l m E w (FlowEnd P n l m E w Q) 0 [] [] [] (l.take m)):St P n E w (.region id l.toArray true) Q :=
 St.flow m hP hD hfree hlt hall (hL ▸ hpre) h
theorem preD1 {w:World} {b:Nat} (h:b<w.heap.size):preD w [b]:=⟨h,fun _ hc=>(by cases hc),trivial⟩
theorem rdiv_law (na nb:Bool) (m k:Nat) (hk:k≠0) :
  (sg na (m % k)<0→(nb=true→sg na m / sg nb k=sg (!(na == nb)) (m / k)+1)∧(nb=false→sg na m / sg nb k=sg (!(na == nb)) (m / k) - 1)∧sg na m % sg nb k=sg na (m % k)+(k:Int)) ∧
  (¬ sg na (m % k)<0→sg na m / sg nb k=sg (!(na == nb)) (m / k)∧sg na m % sg nb k=sg na (m % k)):=by
 obtain ⟨h1,h2,h3⟩:=div_law na nb m k hk
 have hlt:=Nat.mod_lt m (Nat.pos_of_ne_zero hk)
 constructor
 ·intro h
  cases na with
  | false=>rw [show sg false (m % k)=((m % k:Nat):Int) from rfl] at h;omega
  | true =>
   have hr:m % k≠0:=by intro e;rw [e] at h;simp [sg] at h
   obtain ⟨e1,e2⟩:=h1 ⟨rfl,hr⟩
   rw [e1,e2]
   refine ⟨?_,?_,?_⟩
   ·rintro rfl;simp [sg]
   ·rintro rfl;simp [sg];omega
   ·simp [sg];omega
 ·intro h
  cases na with
  | false =>
   obtain ⟨e1,e2⟩:=h3 rfl
   rw [e1,e2]
   cases nb <;> simp [sg]
  | true =>
   have hr:m % k=0:=by
    simp [sg] at h
    omega
   obtain ⟨e1,e2⟩:=h2 ⟨rfl,hr⟩
   rw [e1,e2,hr]
   cases nb <;> simp [sg]
set_option maxHeartbeats 1000000 in
theorem rdivMod_dn {w:World} {vx vy:Value} {a b:Int} (h:Dn w vx a) (k:Dn w vy b):Calls Tryz.prog 162 #[vx,vy] w (Ret fun r w'=>Ext w w'∧DivV 0 w' r a b):=by
 have kD:=k
 have hszb:=k.sz_le
 have hsza:=h.sz_le
 obtain ⟨na,xs,⟨p,cap,rfl,hs⟩,rfl,hlen⟩:=h
 obtain ⟨nb,ys,⟨q,cb,rfl,ks⟩,rfl,hl⟩:=k
 have hl1:=limbs_length_le xs hs.2
 have hl2:=limbs_length_le ys ks.2
 refine calls_of_St (args:=[_,_]) Tryz.func162 rfl Tryz.ntmps162 rfl ?_
 refine Nv ?_
 refine .s (OpR.box rfl) ?_
 rintro _ w1 ⟨rfl,hb1,hx1,hz1⟩
 refine .s (OpR.box rfl) ?_
 rintro _ w2 ⟨rfl,hb2,hx2,hz2⟩
 refine .s (OpR.alloc TBok rfl) ?_
 rintro _ w3 ⟨rfl,hb3,hx3,hz3⟩
 refine .s (OpR.alloc TBok rfl) ?_
 rintro _ w4 ⟨rfl,hb4,hx4,hz4⟩
 have hx04:Ext w w4:=upp
 have hB1:Blk 31 w4 w.heap.size [.bool na,.slice p xs.length cap]:=((hb1.ext hx2).ext hx3).ext hx4
 have hB2:Blk 31 w4 w1.heap.size [.bool nb,.slice q ys.length cb]:=(hb2.ext hx3).ext hx4
 have hB3:Blk 31 w4 w2.heap.size [.bool false,.slice none 0 0]:=hb3.ext hx4
 have hB4:Blk 31 w4 w3.heap.size [.bool false,.slice none 0 0]:=hb4
 clear hb1 hb2 hb3 hb4
 refine .r rfl ?_
 refine Nv ?_
 refine St.flow 6 TBfol (by kernel_rfl) rfl (by kernel_rfl) rfl True.intro ?_
 refine FL.run TBok 99 rfl ?_
 refine FL.load (L:=[]) TBok rfl rfl rfl rfl rfl rfl upp (by simp) rfl ?_
 refine FL.callE fn_r01_trim rfl rfl rfl (fun w5 hx5=>CallF.mk rfl (rtrim_spec (base:=0) w5 _ xs (hs.ext (hx04.trans hx5)) (by omega) (Nat.zero_le _))) (MonoR.slO 0 _) ?_
 refine FL.run TBok 99 rfl ?_
 refine FL.load (L:=[]) TBok rfl rfl rfl rfl rfl rfl upp (by simp) rfl ?_
 refine FL.callE fn_r01_trim rfl rfl rfl (fun w5 hx5=>CallF.mk rfl (rtrim_spec (base:=0) w5 _ ys (ks.ext (hx04.trans hx5)) (by omega) (Nat.zero_le _))) (MonoR.slO 0 _) ?_
 refine FL.endE rfl ?_
 intro w5 hx5 v18 h18 v15 h15 _ _
 obtain ⟨p15,c15,rfl,_⟩:=h15.sl.form
 obtain ⟨p18,c18,rfl,_⟩:=h18.sl.form
 replace hB1:=hB1.ext hx5
 replace hB2:=hB2.ext hx5
 replace hB3:=hB3.ext hx5
 replace hB4:=hB4.ext hx5
 replace hx04:=hx04.trans hx5
 clear hx5
 (iterate 6 refine Nv ?_;try refine .r rfl ?_)
 by_cases hk0:val ys=0
 ·refine St.condT rfl (by rw [hk0];rfl) ?_
  (iterate 6 refine Nv ?_;try refine .r rfl ?_)
  refine .p (RunsTo.build TBok rfl rfl rfl rfl) ?_
  refine .p (RunsTo.build TBok rfl rfl rfl rfl) ?_
  refine StL.step0 rfl rfl (OpR.store TBok (vs:=[.bool false,.slice none 0 0]) rfl rfl rfl rfl rfl hB3 (Nat.le_refl _) (by simp [Value.oneCell'])) ?_
  rintro _ w6 ⟨hb6,hu6⟩
  refine StL.step0 rfl rfl (OpR.store TBok (vs:=[.bool false,.slice none 0 0]) rfl rfl rfl rfl rfl (hB4.upd hu6 (by omega)) (Nat.le_refl _) (by simp [Value.oneCell'])) ?_
  rintro _ w7 ⟨hb7,hu7⟩
  have hb67:=hb6.upd hu7 (by omega)
  (iterate 6 refine Nv ?_;try refine .r rfl ?_)
  exact Out.rets TBok [IntV false (.slice none 0 0),IntV false (.slice none 0 0),.bool false] rfl ⟨⟨_,_,_,_,rfl,hb67,rfl,rfl,rfl,rfl⟩,⟨_,_,_,_,rfl,hb7,rfl,rfl,rfl,rfl⟩,rfl,trivial⟩
   ⟨(hx04.then_upd hu6 (by omega)).then_upd hu7 (by omega),fun _=>rfl,fun h0=>absurd (by rw [hk0];cases nb <;> rfl) h0⟩
 have hkb:sg nb (val ys)≠0:=by cases nb <;> simp [sg] <;> omega
 refine St.condF rfl (by simp [limbs_eq_nil,hk0]) ?_
 (iterate 6 refine Nv ?_;try refine .r rfl ?_)
 refine .s (OpR.call fn_r01_divide rfl (divide_spec w5 _ _ _ _ h15.sl h18.sl (by omega) (by omega) hk0)) ?_
 rintro _ w6 ⟨hx6,qv,rv,rfl,hq6,hr6⟩
 replace hB1:=hB1.ext hx6
 replace hB2:=hB2.ext hx6
 replace hB3:=hB3.ext hx6
 replace hB4:=hB4.ext hx6
 replace h18:=h18.ext hx6
 replace hx04:=hx04.trans hx6
 clear hx6
 obtain ⟨hlaw1,hlaw2⟩:=rdiv_law na nb (val xs) (val ys) hk0
 have hql:(limbs (val xs / val ys)).length≤1000000:=Nat.le_trans (limbs_length_mono _ _ (Nat.div_le_self _ _)) (by omega)
 have hrl:(limbs (val xs % val ys)).length≤1000000:=Nat.le_trans (limbs_length_mono _ _ (Nat.mod_le _ _)) (by omega)
 have hqsz:sz (sg (!(na == nb)) (val xs / val ys))≤1000000:=by unfold sz;rw [sg_abs];exact hql
 have hrsz:sz (sg na (val xs % val ys))≤1000000:=by unfold sz;rw [sg_abs];exact hrl
 refine .r rfl ?_
 refine Nv ?_
 refine St.sub (E':=[(2,.pointer (some ⟨w.heap.size,0,none⟩)),(3,.pointer (some ⟨w1.heap.size,0,none⟩)),(4,.pointer (some ⟨w2.heap.size,0,none⟩)),(5,.pointer (some ⟨w3.heap.size,0,none⟩)),(8,.slice p18 (limbs (val ys)).length c18),(9,qv),(10,rv)]) ?_ ⟨rfl,rfl,rfl,rfl,rfl,rfl,rfl,trivial⟩
 refine St.flow 13 TBfol (by kernel_rfl) rfl (by kernel_rfl) rfl True.intro ?_
 refine FL.run TBok 99 rfl ?_
 refine FL.load (L:=[]) TBok rfl rfl rfl rfl rfl rfl upp (by simp) rfl ?_
 refine FL.run TBok 99 rfl ?_
 refine FL.load (L:=[]) TBok rfl rfl rfl rfl rfl rfl upp (by simp) rfl ?_
 refine .on (fun _ _=>RunsTo.boolNe TBok rfl rfl rfl) ?_
 refine FL.run TBok 99 rfl ?_
 refine FL.callE (ψ:=fun v w'=>CanO 0 w' v (sg (!(na == nb)) (val xs / val ys))) fn_r01_Make rfl rfl rfl ?_ (MonoR.canO 0 _) ?_
 ·intro w7 hx7
  have:=make_spec (base:=0) w7 (!(na == nb)) _ _ (hq6.ext hx7).sl (by omega) (Nat.zero_le _)
  rw [val_limbs] at this
  exact CallF.mk rfl this
 refine FL.run TBok 99 rfl ?_
 refine FL.load (L:=[]) TBok rfl rfl rfl rfl rfl rfl upp (by simp) rfl ?_
 refine FL.run TBok 99 rfl ?_
 refine FL.callE (ψ:=fun v w'=>CanO 0 w' v (sg na (val xs % val ys))) fn_r01_Make rfl rfl rfl ?_ (MonoR.canO 0 _) ?_
 ·intro w7 hx7
  have:=make_spec (base:=0) w7 na _ _ (hr6.ext hx7).sl (by omega) (Nat.zero_le _)
  rw [val_limbs] at this
  exact CallF.mk rfl this
 refine FL.alloc TBok rfl rfl rfl rfl ?_
 refine FL.alloc TBok rfl rfl rfl rfl ?_
 refine FL.endE rfl ?_
 rintro w7 hx7 _ ⟨b12,C12,rfl,hg12,hB12,hl12⟩ _ ⟨b11,C11,rfl,hg11,hB11,hl11⟩ v40 h40 v36 h36 _ hdist
 have hne:b11≠b12:=by
  intro e
  exact hdist 11 (by decide) 12 (by decide) (by decide) _ rfl (by rw [e];rfl)
 have hlt3:=hB4.lt
 have hlt2:=hB3.lt
 replace hB1:=hB1.ext hx7
 replace hB2:=hB2.ext hx7
 replace hB3:=hB3.ext hx7
 replace hB4:=hB4.ext hx7
 replace h18:=h18.ext hx7
 replace hx04:=hx04.trans hx7
 clear hx7
 refine StL.setCan rfl rfl hB11 hl11 h36 hx04 (by have:=hB1.lt;omega) ?_
 intro w8 hS11 hu8 h36' hx8
 have hB12':=hB12.upd hu8 (fun e=>hne e.symm)
 replace hB1:=hB1.upd hu8 (by omega)
 replace hB2:=hB2.upd hu8 (by omega)
 replace hB3:=hB3.upd hu8 (by omega)
 replace hB4:=hB4.upd hu8 (by omega)
 replace h18:SlO 0 w8 _ _:=⟨Own.updT h18.1 hu8 hB11 (by decide),h18.2⟩
 refine StL.setCan rfl rfl hB12' hl12 (CanO.upd h40 hu8 ⟨_,hB11⟩) hx8 (by have:=hB1.lt;omega) ?_
 intro w9 hS12 hu9 h40' hx9
 replace hB1:=hB1.upd hu9 (by omega)
 replace hB2:=hB2.upd hu9 (by omega)
 replace hB3:=hB3.upd hu9 (by omega)
 replace hB4:=hB4.upd hu9 (by omega)
 replace h18:SlO 0 w9 _ _:=⟨Own.updT h18.1 hu9 hB12' (by decide),h18.2⟩
 replace hS11:=hS11.upd hu9 hne
 replace h36':=CanO.upd h36' hu9 ⟨_,hB12'⟩
 have hx09:=hx9
 clear hx8 hx9 hu8 hu9 hB12' hB12 hB11 h36 h40 hx04 hdist hl11 hl12 hx1 hx2 hx3 hx4
 have hlt11:=hS11.lt
 have hlt12:=hS12.lt
 generalize hqi:sg (!(na == nb)) (val xs / val ys)=Q at *
 generalize hri:sg na (val xs % val ys)=R at *
 (iterate 6 refine Nv ?_;try refine .r rfl ?_)
 refine .p (RunsTo.loadCan rfl hS12 h40') ?_
 refine .s (OpR.call fn_r01_Sign rfl (rsign_dn (h40'.dn hrsz))) ?_
 rintro _ w10 ⟨hx10,rfl⟩
 replace hB1:=hB1.ext hx10
 replace hB2:=hB2.ext hx10
 replace hB3:=hB3.ext hx10
 replace hB4:=hB4.ext hx10
 replace h18:=h18.ext hx10
 replace hS11:=hS11.ext hx10
 replace h36':=h36'.ext hx10
 replace hS12:=hS12.ext hx10
 replace h40':=h40'.ext hx10
 replace hx09:=hx09.trans hx10
 clear hx10
 (iterate 6 refine Nv ?_;try refine .r rfl ?_)
 by_cases hneg:R<0
 ·obtain ⟨hlt,hlf,hlm⟩:=hlaw1 hneg
  refine St.condT rfl (by simp [signI,hneg]) ?_
  refine Nv ?_
  refine St.sub (E':=[(2,.pointer (some ⟨w.heap.size,0,none⟩)),(3,.pointer (some ⟨w1.heap.size,0,none⟩)),(4,.pointer (some ⟨w2.heap.size,0,none⟩)),(5,.pointer (some ⟨w3.heap.size,0,none⟩)),(8,.slice p18 (limbs (val ys)).length c18),(11,.pointer (some ⟨b11,0,none⟩)),(12,.pointer (some ⟨b12,0,none⟩))]) ?_ ⟨rfl,rfl,rfl,rfl,rfl,rfl,rfl,trivial⟩
  refine St.flow 4 TBfol (by kernel_rfl) rfl (by kernel_rfl) rfl True.intro ?_
  refine FL.run TBok 99 rfl ?_
  refine .on (fun _ hR=>RunsTo.loadCan rfl (hR.blk hS12 (by simp)) h40') ?_
  refine FL.run TBok 99 rfl ?_
  refine FL.callE (ψ:=fun v w'=>CanO 0 w' v (val ys:Int)) fn_r01_Make rfl rfl rfl ?_ (MonoR.canO 0 _) ?_
  ·intro w11 hx11
   have:=make_spec (base:=0) w11 false _ _ (h18.ext hx11).sl (by omega) (Nat.zero_le _)
   rw [val_limbs] at this
   exact CallF.mk rfl this
  have hszk:sz ((val ys:Nat):Int)≤1000000:=Nat.le_trans hl2 hl
  refine FL.callE fn_r01_Add rfl rfl rfl (fun w11 hx11 v46 h46=>CallF.mk rfl (radd_dn (base:=0) ((h40'.ext hx11).dn hrsz) (h46.dn hszk) (Nat.zero_le _))) (MonoR.canO 0 _) ?_
  refine FL.endE rfl ?_
  intro w11 hx11 v47 h47 v46 _ _ _
  rw [← hlm] at h47
  replace hB1:=hB1.ext hx11
  replace hB2:=hB2.ext hx11
  replace hB3:=hB3.ext hx11
  replace hB4:=hB4.ext hx11
  replace hS11:=hS11.ext hx11
  replace h36':=h36'.ext hx11
  replace hS12:=hS12.ext hx11
  replace hx09:=hx09.trans hx11
  clear hx11
  refine StL.setCan rfl rfl hS12 h40'.two.1 h47 hx09 (by have:=hB1.lt;omega) ?_
  intro w12 hS12' hu12 h47' hx12
  replace hB2:=hB2.upd hu12 (by omega)
  replace hB3:=hB3.upd hu12 (by omega)
  replace hB4:=hB4.upd hu12 (by omega)
  replace hS11:=hS11.upd hu12 hne
  replace h36':=CanO.upd h36' hu12 ⟨_,hS12⟩
  clear hx09 hu12 hS12 h40' h47 h18 hB1
  (iterate 6 refine Nv ?_;try refine .r rfl ?_)
  refine .p (RunsTo.loadInt rfl hB2 rfl rfl) ?_
  refine .s (OpR.call fn_r01_Sign rfl (rsign_dn (kD.ext hx12))) ?_
  rintro _ w13 ⟨hx13,rfl⟩
  replace hB3:=hB3.ext hx13
  replace hB4:=hB4.ext hx13
  replace hS11:=hS11.ext hx13
  replace h36':=h36'.ext hx13
  replace hS12':=hS12'.ext hx13
  replace h47':=h47'.ext hx13
  replace hx12:=hx12.trans hx13
  clear hx13
  have hlt11':=hS11.lt
  have hlt12':=hS12'.lt
  have hlt3':=hB3.lt
  have hlt4':=hB4.lt
  (iterate 6 refine Nv ?_;try refine .r rfl ?_)
  cases nb with
  | true =>
   refine St.condT rfl (by simp [signI,sg];omega) ?_
   refine Nv ?_
   refine St.sub (E':=[(4,.pointer (some ⟨w2.heap.size,0,none⟩)),(5,.pointer (some ⟨w3.heap.size,0,none⟩)),(11,.pointer (some ⟨b11,0,none⟩)),(12,.pointer (some ⟨b12,0,none⟩))]) ?_ ⟨rfl,rfl,rfl,rfl,trivial⟩
   refine St.flowL 5 [w2.heap.size] TBfol (by kernel_rfl) rfl (by kernel_rfl) rfl rfl (preD1 hB3.lt) ?_
   refine FL.run TBok 99 rfl ?_
   refine .on (fun _ hR=>RunsTo.loadCan rfl (hR.blk hS11 (by simp)) h36') ?_
   refine FL.callE fn_r01_Small rfl rfl rfl (fun w14 hx14=>CallF.mk rfl (rsmall_spec (base:=0) w14 1 (by decide) (by decide) (Nat.zero_le _))) (MonoR.canO 0 _) ?_
   refine FL.callE fn_r01_Add rfl rfl rfl (fun w14 hx14 v52 h52=>CallF.mk rfl (radd_dn (base:=0) ((h36'.ext hx14).dn hqsz) (h52.dn (by decide +kernel)) (Nat.zero_le _))) (MonoR.canO 0 _) ?_
   refine FL.one (L:=[w2.heap.size]) rfl rfl rfl rfl (by kernel_rfl) (fun _ hR=>RunsTo.loadCan rfl (hR.blk hS12' (by simp;omega)) h47') ?_
   refine FL.store (L:=[w2.heap.size]) TBok rfl rfl (by kernel_rfl) rfl rfl hB3 rfl (MonoR.canO 0 (Q+1)) ?_ ?_
   ·intro w14 hR v53 h53
    exact ⟨rfl,v53,rfl,h53.two.1,h53.two.2,h53⟩
   refine FL.end (L:=[w2.heap.size]) rfl ?_
   rintro w14 hR v53 h53 v52 _ ⟨⟨b,u,hbu,hb14,hu14⟩,_⟩ _
   cases hbu
   have hB4':=hR.blk hB4 (by simp;omega)
   have h47'':=h47'.rg hR
   have hx14:=hR.ext_tg hx12 (by simp;omega)
   refine StL.setCan rfl rfl hB4' rfl h47'' hx14 (by omega) ?_
   intro w15 hb15 hu15 h47c hx15
   have hb14':=hb14.upd hu15 (by omega)
   (iterate 6 refine Nv ?_;try refine .r rfl ?_)
   refine Out.rets TBok [u,v47,.bool true] rfl ⟨⟨_,_,_,_,rfl,hb14',rfl,rfl,hu14.two.1,by simpa using hu14.agg⟩,⟨_,_,_,_,rfl,hb15,rfl,rfl,h47c.two.1,by simpa using h47c.agg⟩,rfl,trivial⟩ ⟨hx15,fun h0=>absurd h0 hkb,fun _=>⟨u,v47,rfl,?_,h47c⟩⟩
   rw [hlt rfl]
   exact CanO.upd hu14 hu15 ⟨_,hB4'⟩
  | false =>
   refine St.condF rfl (by
               have h1:¬ sg false (val ys)<0:=by simp [sg]
               simp only [signI,if_neg h1];split <;> decide) ?_
   refine Nv ?_
   refine St.sub (E':=[(4,.pointer (some ⟨w2.heap.size,0,none⟩)),(5,.pointer (some ⟨w3.heap.size,0,none⟩)),(11,.pointer (some ⟨b11,0,none⟩)),(12,.pointer (some ⟨b12,0,none⟩))]) ?_ ⟨rfl,rfl,rfl,rfl,trivial⟩
   refine St.flowL 5 [w2.heap.size] TBfol (by kernel_rfl) rfl (by kernel_rfl) rfl rfl (preD1 hB3.lt) ?_
   refine FL.run TBok 99 rfl ?_
   refine .on (fun _ hR=>RunsTo.loadCan rfl (hR.blk hS11 (by simp)) h36') ?_
   refine FL.callE fn_r01_Small rfl rfl rfl (fun w14 hx14=>CallF.mk rfl (rsmall_spec (base:=0) w14 1 (by decide) (by decide) (Nat.zero_le _))) (MonoR.canO 0 _) ?_
   refine FL.callE fn_r01_Sub rfl rfl rfl (fun w14 hx14 v52 h52=>CallF.mk rfl (rsub_dn (base:=0) ((h36'.ext hx14).dn hqsz) (h52.dn (by decide +kernel)) (Nat.zero_le _))) (MonoR.canO 0 _) ?_
   refine FL.one (L:=[w2.heap.size]) rfl rfl rfl rfl (by kernel_rfl) (fun _ hR=>RunsTo.loadCan rfl (hR.blk hS12' (by simp;omega)) h47') ?_
   refine FL.store (L:=[w2.heap.size]) TBok rfl rfl (by kernel_rfl) rfl rfl hB3 rfl (MonoR.canO 0 (Q - 1)) ?_ ?_
   ·intro w14 hR v53 h53
    exact ⟨rfl,v53,rfl,h53.two.1,h53.two.2,h53⟩
   refine FL.end (L:=[w2.heap.size]) rfl ?_
   rintro w14 hR v53 h53 v52 _ ⟨⟨b,u,hbu,hb14,hu14⟩,_⟩ _
   cases hbu
   have hB4':=hR.blk hB4 (by simp;omega)
   have h47'':=h47'.rg hR
   have hx14:=hR.ext_tg hx12 (by simp;omega)
   refine StL.setCan rfl rfl hB4' rfl h47'' hx14 (by omega) ?_
   intro w15 hb15 hu15 h47c hx15
   have hb14':=hb14.upd hu15 (by omega)
   (iterate 6 refine Nv ?_;try refine .r rfl ?_)
   refine Out.rets TBok [u,v47,.bool true] rfl ⟨⟨_,_,_,_,rfl,hb14',rfl,rfl,hu14.two.1,by simpa using hu14.agg⟩,⟨_,_,_,_,rfl,hb15,rfl,rfl,h47c.two.1,by simpa using h47c.agg⟩,rfl,trivial⟩ ⟨hx15,fun h0=>absurd h0 hkb,fun _=>⟨u,v47,rfl,?_,h47c⟩⟩
   rw [hlf rfl]
   exact CanO.upd hu14 hu15 ⟨_,hB4'⟩
 ·obtain ⟨hlq,hlm⟩:=hlaw2 hneg
  refine St.condF rfl (by simp only [signI,if_neg hneg];split <;> decide) ?_
  refine Nv ?_
  refine St.sub (E':=[(4,.pointer (some ⟨w2.heap.size,0,none⟩)),(5,.pointer (some ⟨w3.heap.size,0,none⟩)),(11,.pointer (some ⟨b11,0,none⟩)),(12,.pointer (some ⟨b12,0,none⟩))]) ?_ ⟨rfl,rfl,rfl,rfl,trivial⟩
  refine St.flowL 3 [w2.heap.size] TBfol (by kernel_rfl) rfl (by kernel_rfl) rfl rfl (preD1 hB3.lt) ?_
  refine FL.run TBok 99 rfl ?_
  refine .on (fun _ hR=>RunsTo.loadCan rfl (hR.blk hS11 (by simp)) h36') ?_
  refine FL.one (L:=[w2.heap.size]) rfl rfl rfl rfl (by kernel_rfl) (fun _ hR=>RunsTo.loadCan rfl (hR.blk hS12 (by simp;omega)) h40') ?_
  refine FL.store (L:=[w2.heap.size]) TBok rfl rfl (by kernel_rfl) rfl rfl hB3 rfl (MonoR.canO 0 Q) ?_ ?_
  ·intro w14 hR
   exact ⟨rfl,_,rfl,h36'.two.1,h36'.two.2,h36'.rg hR⟩
  refine FL.end (L:=[w2.heap.size]) rfl ?_
  rintro w14 hR ⟨⟨b,u,hbu,hb14,hu14⟩,_⟩ _
  cases hbu
  have hB4':=hR.blk hB4 (by simp;omega)
  have h47'':=h40'.rg hR
  have hx14:=hR.ext_tg hx09 (by simp;omega)
  refine StL.setCan rfl rfl hB4' rfl h47'' hx14 (by omega) ?_
  intro w15 hb15 hu15 h47c hx15
  have hb14':=hb14.upd hu15 (by omega)
  (iterate 6 refine Nv ?_;try refine .r rfl ?_)
  refine Out.rets TBok [u,v40,.bool true] rfl ⟨⟨_,_,_,_,rfl,hb14',rfl,rfl,hu14.two.1,by simpa using hu14.agg⟩,⟨_,_,_,_,rfl,hb15,rfl,rfl,h47c.two.1,by simpa using h47c.agg⟩,rfl,trivial⟩ ⟨hx15,fun h0=>absurd h0 hkb,fun _=>⟨u,v40,rfl,?_,?_⟩⟩
  ·rw [hlq]
   exact CanO.upd hu14 hu15 ⟨_,hB4'⟩
  ·rw [hlm]
   exact h47c
def quo0 (a b:Int):Int:=if b=0 then 0 else a / b
def rem0 (a b:Int):Int:=if b=0 then 0 else a % b
theorem canO_zero (base:Nat) (w:World):CanO base w (IntV false (.slice none 0 0)) 0:=⟨none,0,rfl,SlO.nil _ _⟩
theorem DivV.open {base:Nat} {w:World} {r:Value} {a b:Int} (h:DivV base w r a b):∃ q m,r=.tuple #[q,m,.bool (decide (b≠0))]∧CanO base w q (quo0 a b)∧CanO base w m (rem0 a b):=by
 unfold quo0 rem0
 by_cases hb:b=0
 ·rw [if_pos hb,if_pos hb]
  exact ⟨_,_,by rw [h.1 hb];simp [hb],canO_zero _ _,canO_zero _ _⟩
 ·rw [if_neg hb,if_neg hb]
  obtain ⟨q,m,e,hq,hm⟩:=h.2 hb
  exact ⟨q,m,by rw [e];simp [hb],hq,hm⟩
theorem rrem_dn {w:World} {x y:Value} {a b:Int} (h:Dn w x a) (k:Dn w y b):Calls Tryz.prog 170 #[x,y] w (Ret fun r w'=>Ext w w'∧CanO 0 w' r (rem0 a b)):=by
 have hD:=h
 have kD:=k
 obtain ⟨na,xs,⟨p,cap,rfl,hs⟩,hva,hlen⟩:=h
 obtain ⟨nb,ys,⟨q,cb,rfl,ks⟩,hvb,hl⟩:=k
 refine calls_of_St (args:=[_,_]) Tryz.func170 rfl Tryz.ntmps170 rfl ?_
 refine Nv ?_
 refine .s (OpR.box rfl) ?_
 rintro _ w1 ⟨rfl,hb1,hx1,hz1⟩
 refine .s (OpR.box rfl) ?_
 rintro _ w2 ⟨rfl,hb2,hx2,hz2⟩
 refine .s (OpR.alloc TBok rfl) ?_
 rintro _ w3 ⟨rfl,hb3,hx3,hz3⟩
 refine Nv ?_
 (refine .s (RunsTo.loadInt rfl upp (by first | rfl | assumption) (by first | rfl | assumption)).op ?_;rintro _ _ ⟨rfl,rfl⟩)
 (refine .s (RunsTo.loadInt rfl upp (by first | rfl | assumption) (by first | rfl | assumption)).op ?_;rintro _ _ ⟨rfl,rfl⟩)
 have hx03:Ext w w3:=upp
 refine .s (OpR.call fn_r01_DivMod rfl (rdivMod_dn (hD.ext hx03) (kD.ext hx03))) ?_
 rintro _ w4 ⟨hx4,hd⟩
 obtain ⟨qv,mv,rfl,hq,hm⟩:=hd.open
 refine .r rfl ?_
 refine .s (OpR.alloc TBok rfl) ?_
 rintro _ w5 ⟨rfl,hb5,hx5,hz5⟩
 refine .s (OpR.alloc TBok rfl) ?_
 rintro _ w6 ⟨rfl,hb6,hx6,hz6⟩
 have hx06:Ext w w6:=((hx03.trans hx4).trans hx5).trans hx6
 have hs3:=hb3.lt
 have hs4:=hx4.size
 have hs1:=(hx1.trans hx2).size
 refine StL.setCan rfl rfl (hb5.ext hx6) rfl ((hq.ext hx5).ext hx6) hx06 (by omega) ?_
 intro w7 hS5 hu7 _ hx7
 have hb6':=hb6.upd hu7 (by omega)
 refine StL.setCan rfl rfl hb6' rfl (CanO.upd ((hm.ext hx5).ext hx6) hu7 ⟨_,hb5.ext hx6⟩) hx7 (by omega) ?_
 intro w8 hS6 hu8 hm8 hx8
 have hb38:Blk 31 w8 w2.heap.size _:=(((((hb3.ext hx4).ext hx5).ext hx6).upd hu7 (by omega)).upd hu8 (by omega))
 (iterate 6 refine Nv ?_;try refine .r rfl ?_)
 refine .p (RunsTo.loadCan rfl hS6 hm8) ?_
 refine StL.finCan rfl rfl hb38 rfl hm8 hx8 hs1 ?_
 intro w' hxf hcf fin
 refine Nv ?_
 exact fin _ _ rfl ⟨hxf,hcf⟩
theorem signI_zero (a:Int):(signI a == 0)=decide (a=0):=by
 unfold signI
 by_cases h:a<0
 ·rw [if_pos h,decide_eq_false (by omega)];rfl
 ·rw [if_neg h]
  by_cases h0:a=0
  ·rw [if_pos h0,decide_eq_true h0];rfl
  ·rw [if_neg h0,decide_eq_false h0];rfl
theorem rem0_nat (x y:Nat) (hy:y≠0):rem0 (x:Int) (y:Int)=((x % y:Nat):Int):=by
 unfold rem0
 rw [if_neg (by omega)]
 rfl
set_option maxHeartbeats 400000 in
theorem rgcd_dn {w:World} {x y:Value} {a b:Int} (h:Dn w x a) (k:Dn w y b):Calls Tryz.prog 130 #[x,y] w (Ret fun r w'=>Ext w w'∧CanO 0 w' r ((Nat.gcd a.natAbs b.natAbs:Nat):Int)):=by
 have hD:=h
 have kD:=k
 have hsa:sz (a.natAbs:Int)≤1000000:=Nat.le_trans (sz_nat_le (Nat.le_refl _)) h.sz_le
 have hsb:sz (b.natAbs:Int)≤1000000:=Nat.le_trans (sz_nat_le (Nat.le_refl _)) k.sz_le
 obtain ⟨na,xs,⟨p,cap,rfl,hs⟩,hva,hlen⟩:=h
 obtain ⟨nb,ys,⟨q,cb,rfl,ks⟩,hvb,hl⟩:=k
 refine calls_of_St (args:=[_,_]) Tryz.func130 rfl Tryz.ntmps130 rfl ?_
 refine Nv ?_
 refine .s (OpR.box rfl) ?_
 rintro _ w1 ⟨rfl,hb1,hx1,hz1⟩
 refine .s (OpR.box rfl) ?_
 rintro _ w2 ⟨rfl,hb2,hx2,hz2⟩
 refine .s (OpR.alloc TBok rfl) ?_
 rintro _ w3 ⟨rfl,hb3,hx3,hz3⟩
 refine Nv ?_
 refine St.flow 6 TBfol (by kernel_rfl) rfl (by kernel_rfl) rfl True.intro ?_
 refine FL.run TBok 99 rfl ?_
 refine FL.loadAgg (L:=[]) TBok rfl rfl rfl rfl rfl rfl upp (by simp) (Nat.le_refl _) rfl ?_
 refine FL.callE fn_r01_Abs rfl rfl rfl (fun w4 hx4=>CallF.mk rfl (rabs_dn (base:=0) (hD.ext (((hx1.trans hx2).trans hx3).trans hx4)) (Nat.zero_le _))) (MonoR.canO 0 _) ?_
 refine FL.loadAgg (L:=[]) TBok rfl rfl rfl rfl rfl rfl upp (by simp) (Nat.le_refl _) rfl ?_
 refine FL.callE fn_r01_Abs rfl rfl rfl (fun w4 hx4=>CallF.mk rfl (rabs_dn (base:=0) (kD.ext (((hx1.trans hx2).trans hx3).trans hx4)) (Nat.zero_le _))) (MonoR.canO 0 _) ?_
 refine FL.alloc TBok rfl rfl rfl rfl ?_
 refine FL.alloc TBok rfl rfl rfl rfl ?_
 refine FL.endE rfl ?_
 rintro w4 hx4 _ ⟨b6,C6,rfl,hg6,hB6,hl6⟩ _ ⟨b5,C5,rfl,hg5,hB5,hl5⟩ v10 h10 v8 h8 _ hdist
 have hne:b5≠b6:=by
  intro e
  exact hdist 5 (by decide) 6 (by decide) (by decide) _ rfl (by rw [e];rfl)
 have hlt3:=hb3.lt
 have hs1:=(hx1.trans hx2).size
 have hB3:=hb3.ext hx4
 have hx03:=((hx1.trans hx2).trans hx3).trans hx4
 refine StL.setCan rfl rfl hB5 hl5 h8 hx03 (by omega) ?_
 intro w5 hS5 hu5 h8' hx5
 have hB6':=hB6.upd hu5 (fun e=>hne e.symm)
 refine StL.setCan rfl rfl hB6' hl6 (CanO.upd h10 hu5 ⟨_,hB5⟩) hx5 (by omega) ?_
 intro w6 hS6 hu6 h10' hx6
 replace hS5:=hS5.upd hu6 hne
 replace h8':=CanO.upd h8' hu6 ⟨_,hB6'⟩
 replace hB3:=(hB3.upd hu5 (by omega)).upd hu6 (by omega)
 clear hx5 hu5 hu6 hB5 hB6 hB6' h8 h10 hx4 hdist
 refine Nv ?_
 refine St.loop (fun g:(Value×Value)×Nat×Nat=>[(4,.pointer (some ⟨w2.heap.size,0,none⟩)),(5,.pointer (some ⟨b5,0,none⟩)),(6,.pointer (some ⟨b6,0,none⟩))])
  (fun g w'=>Ext w w'∧Blk 31 w' b5 g.1.1.cells.toList∧Blk 31 w' b6 g.1.2.cells.toList∧CanO 0 w' g.1.1 (g.2.1:Int)∧CanO 0 w' g.1.2 (g.2.2:Int)∧Blk 31 w' w2.heap.size [.bool false,.slice none 0 0]∧sz (g.2.1:Int)≤1000000∧sz (g.2.2:Int)≤1000000∧Nat.gcd g.2.1 g.2.2=Nat.gcd a.natAbs b.natAbs)
  (fun g=>g.2.2) ((v8,v10),a.natAbs,b.natAbs) ⟨rfl,rfl,rfl,trivial⟩ ⟨hx6,hS5,hS6,h8',h10',hB3,hsa,hsb,rfl⟩ ?_
 clear hx6 hS5 hS6 h8' h10' hB3
 rintro ⟨⟨v5,v6⟩,x,y⟩ w7 ⟨hx7,hS5,hS6,h5,h6,hB3,hsx,hsy,hgcd⟩
 dsimp only at hx7 hS5 hS6 h5 h6 hB3 hsx hsy hgcd ⊢
 refine Nv ?_
 refine .p (RunsTo.loadCan rfl hS6 h6) ?_
 refine .s (OpR.call fn_r01_Sign rfl (rsign_dn (h6.dn hsy))) ?_
 rintro _ w8 ⟨hx8,rfl⟩
 replace hS5:=hS5.ext hx8
 replace hS6:=hS6.ext hx8
 replace h5:=h5.ext hx8
 replace h6:=h6.ext hx8
 replace hB3:=hB3.ext hx8
 replace hx7:=hx7.trans hx8
 clear hx8
 by_cases hy:y=0
 ·subst hy
  refine .a 1 (.bool false) rfl rfl ?_
  refine Nv ?_
  refine .cF ?_
  (iterate 6 refine Nv ?_;try refine .r rfl ?_)
  refine .p (RunsTo.loadCan rfl hS5 h5) ?_
  rw [Nat.gcd_zero_right] at hgcd
  rw [hgcd] at h5
  refine StL.finCan rfl rfl hB3 rfl h5 hx7 hs1 ?_
  intro w' hxf hcf fin
  refine Nv ?_
  exact fin _ _ rfl ⟨hxf,hcf⟩
 ·refine .a 1 (.bool true) rfl (by
   have:=signI_zero (y:Int)
   rw [decide_eq_false (by omega)] at this
   show Value.bool (!(signI (y:Int) == 0))=_
   rw [this];rfl) ?_
  refine Nv ?_
  refine .cT ?_
  refine Nv ?_
  refine St.sub (E':=[(4,.pointer (some ⟨w2.heap.size,0,none⟩)),(5,.pointer (some ⟨b5,0,none⟩)),(6,.pointer (some ⟨b6,0,none⟩))]) ?_ ⟨rfl,rfl,rfl,trivial⟩
  refine St.flow 4 TBfol (by kernel_rfl) rfl (by kernel_rfl) rfl True.intro ?_
  refine FL.run TBok 99 rfl ?_
  refine .on (fun _ hR=>RunsTo.loadCan rfl (hR.blk hS6 (by simp)) h6) ?_
  refine .on (fun _ hR=>RunsTo.loadCan rfl (hR.blk hS5 (by simp)) h5) ?_
  refine .on (fun _ hR=>RunsTo.loadCan rfl (hR.blk hS6 (by simp)) h6) ?_
  refine FL.callE fn_r01_Rem rfl rfl rfl (fun w9 hx9=>CallF.mk rfl (rrem_dn ((h5.ext hx9).dn hsx) ((h6.ext hx9).dn hsy))) (MonoR.canO 0 _) ?_
  refine FL.endE rfl ?_
  intro w9 hx9 v17 h17 _ _
  rw [rem0_nat x y hy] at h17
  replace hS5:=hS5.ext hx9
  replace hS6:=hS6.ext hx9
  replace h5:=h5.ext hx9
  replace h6:=h6.ext hx9
  replace hB3:=hB3.ext hx9
  replace hx7:=hx7.trans hx9
  clear hx9
  refine StL.setCan rfl rfl hS5 h5.two.1 h6 hx7 (by omega) ?_
  intro w10 hS5' hu10 h6' hx10
  have hS6':=hS6.upd hu10 (fun e=>hne e.symm)
  refine StL.setCan rfl rfl hS6' h6.two.1 (CanO.upd h17 hu10 ⟨_,hS5⟩) hx10 (by omega) ?_
  intro w11 hS6'' hu11 h17' hx11
  have hsr:sz ((x % y:Nat):Int)≤1000000:=Nat.le_trans (sz_nat_le (b:=(y:Int)) (by have:=Nat.mod_lt x (Nat.pos_of_ne_zero hy);omega)) hsy
  (iterate 6 refine Nv ?_;try refine .r rfl ?_)
  refine Out.again ((v6,v17),y,x % y) ⟨rfl,rfl,rfl,trivial⟩ ⟨hx11,hS5'.upd hu11 hne,hS6'',CanO.upd h6' hu11 ⟨_,hS6'⟩,h17',(hB3.upd hu10 (by omega)).upd hu11 (by omega),hsy,hsr,?_⟩ (Nat.mod_lt _ (Nat.pos_of_ne_zero hy))
  dsimp only
  rw [← hgcd,Nat.gcd_comm x y,Nat.gcd_rec y x,Nat.gcd_comm]
end Go.Qf
