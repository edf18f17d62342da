/- Lemmas on the model and on the program's functions, part Ztg. -/
import GoSem.Core.View
import Derived.WalkKit
import Derived.Deep.Quiet
import Derived.Deep.LoopGhost
import Derived.KernelRfl
import Derived.Test.YtlhbkhjaajcfgaaGreatProg
import Derived.Laws.BytesString
import Derived.Laws.RangeString
import Derived.Lib.OthersKept
import Derived.Laws.Strings
import Derived.ProofKit
import Derived.OpenShut
import Derived.Lib.SmallJoins
import Derived.Carry
import Derived.ChangeMaps5
import Derived.Maps.AppendAt
import Derived.Laws.Externs
import Derived.Lib.Bytealg
import Derived.ChangeArms
import Derived.Laws.OwnMore
import Derived.Scope
import Derived.RangeFuncLeaves
import Derived.RangeFuncRecord
import Derived.TacticsIn
import Derived.OrdersIn
import Derived.Test.YtlhbkhjaajcfgaaGreatRows
import Derived.Test.YtlhbkhjaajcfgaaGreatZta
import Derived.Test.YtlhbkhjaajcfgaaGreatZtb
import Derived.Test.YtlhbkhjaajcfgaaGreatZtc
import Derived.Test.YtlhbkhjaajcfgaaGreatZtd
import Derived.Test.YtlhbkhjaajcfgaaGreatZte
import Derived.Test.YtlhbkhjaajcfgaaGreatZtf
set_option linter.unusedVariables false
set_option linter.unusedSimpArgs false
namespace Go.Qf
open Go Go.RowKit Go.Proofs
set_option maxRecDepth 20000
theorem len_bounds {x y n l:Nat} (h1:y * 2 ^ n≤x) (h2:x<(y+1) * 2 ^ n) (h3:2 ^ (l - 1)≤y) (h4:y<2 ^ l) (hl:1≤l):2 ^ (n+l - 1)≤x∧x<2 ^ (n+l):=by
 constructor
 ·have e:(2:Nat) ^ (n+l - 1)=2 ^ (l - 1) * 2 ^ n:=by rw [← Nat.pow_add,show l - 1+n=n+l - 1 by omega]
  rw [e]
  exact Nat.le_trans (Nat.mul_le_mul_right _ h3) h1
 ·have e:(2:Nat) ^ (n+l)=2 ^ l * 2 ^ n:=by rw [← Nat.pow_add,Nat.add_comm]
  rw [e]
  exact Nat.lt_of_lt_of_le h2 (Nat.mul_le_mul_right _ h4)
set_option maxHeartbeats 400000 in
theorem len64_spec (w:World) (x:Nat) (hx0:x≠0) (hx:x<9223372036854775808) :
  Calls Tryz.prog 171 #[.int .u64 x] w (Ret fun r w'=>w'=w∧∃ L:Nat,r=.int .i64 L∧1≤L∧L≤63∧x<2 ^ L):=by
 refine calls_of_St (args:=[_]) Tryz.func171 rfl Tryz.ntmps171 rfl ?_
 refine St.seq (St.region (StL.run TBok 99 rfl (StL.nil (Out.then_normal ?_))))
 refine St.cut (fun g:Nat×Nat=>[(0,.int .u64 g.2),(2,.int .i64 g.1)]) (fun g w'=>w'=w∧g.1≤32∧g.2<4294967296∧g.2≠0∧g.2 * 2 ^ g.1≤x∧x<(g.2+1) * 2 ^ g.1) ?_ ?_
 ·(iterate 6 refine Nv ?_;try refine .r rfl ?_)
  by_cases h1:x<4294967296
  ·refine St.condF rfl (by simp;omega) ?_
   exact St.skip (Out.met (0,x) ⟨rfl,rfl,trivial⟩ ⟨rfl,by simp only;omega,h1,hx0,by simp,by simp⟩)
  ·refine St.condT rfl (by simp;omega) ?_
   refine Nv ?_
   refine .r rfl ?_
   refine Nv ?_
   refine .r rfl ?_
   refine StL.nil (Out.met (32,x / 4294967296) ⟨?_,rfl,trivial⟩ ⟨rfl,by simp only;omega,by simp only;omega,by simp only;omega,by simp only;omega,by simp only;omega⟩)
   show some (Value.int .u64 ((x:Int) / 2 ^ 32))=_
   rw [show (x:Int) / 2 ^ 32=((x / 4294967296:Nat):Int) from by omega]
 rintro ⟨m0,y0⟩ w1 ⟨rfl,hm,hy,hy0,hb1,hb2⟩
 simp only at hm hy hy0 hb1 hb2
 dsimp only
 have step:∀ {m y s q:Nat},y * 2 ^ m≤x→x<(y+1) * 2 ^ m→q=2 ^ s→y / q * 2 ^ (m+s)≤x∧x<(y / q+1) * 2 ^ (m+s):=by
  intro m y s q h1 h2 hq
  have hq0:0<q:=by rw [hq];exact Nat.pow_pos (by decide)
  rw [Nat.pow_add,Nat.mul_comm (2 ^ m),← Nat.mul_assoc,← Nat.mul_assoc,← hq]
  have e1:=Nat.div_mul_le_self y q
  have e2:=Nat.lt_div_mul_add (a:=y) hq0
  refine ⟨Nat.le_trans (Nat.mul_le_mul_right _ e1) h1,Nat.lt_of_lt_of_le h2 (Nat.mul_le_mul_right _ ?_)⟩
  rw [Nat.add_mul,Nat.one_mul]
  exact e2
 refine St.cut (fun g:Nat×Nat=>[(0,.int .u64 g.2),(2,.int .i64 g.1)]) (fun g w'=>w'=w1∧g.1≤48∧g.2<65536∧g.2≠0∧g.2 * 2 ^ g.1≤x∧x<(g.2+1) * 2 ^ g.1) ?_ ?_
 ·(iterate 6 refine Nv ?_;try refine .r rfl ?_)
  by_cases h1:y0<65536
  ·refine St.condF rfl (by simp;omega) ?_
   exact St.skip (Out.met (m0,y0) ⟨rfl,rfl,trivial⟩ ⟨rfl,by simp only;omega,h1,hy0,hb1,hb2⟩)
  ·refine St.condT rfl (by simp;omega) ?_
   refine Nv ?_
   refine .r rfl ?_
   refine Nv ?_
   refine .r rfl ?_
   obtain ⟨s1,s2⟩:=step (s:=16) (q:=65536) hb1 hb2 (by decide)
   refine StL.nil (Out.met (m0+16,y0 / 65536) ⟨?_,?_,trivial⟩ ⟨rfl,by simp only;omega,by simp only;omega,by simp only;omega,s1,s2⟩)
   ·show some (Value.int .u64 ((y0:Int) / 2 ^ 16))=_
    rw [show (y0:Int) / 2 ^ 16=((y0 / 65536:Nat):Int) from by omega]
   ·show some (Value.int .i64 (IntKind.i64.wrap ((m0:Int)+16)))=_
    rw [i64_id (by omega) (by omega)]
    rfl
 rintro ⟨m,y⟩ w2 ⟨rfl,hm1,hy1,hy01,hb11,hb12⟩
 simp only at hm1 hy1 hy01 hb11 hb12
 dsimp only
 refine St.cut (fun g:Nat×Nat=>[(0,.int .u64 g.2),(2,.int .i64 g.1)]) (fun g w'=>w'=w2∧g.1≤56∧g.2<256∧g.2≠0∧g.2 * 2 ^ g.1≤x∧x<(g.2+1) * 2 ^ g.1) ?_ ?_
 ·(iterate 6 refine Nv ?_;try refine .r rfl ?_)
  by_cases h1:y<256
  ·refine St.condF rfl (by simp;omega) ?_
   exact St.skip (Out.met (m,y) ⟨rfl,rfl,trivial⟩ ⟨rfl,by simp only;omega,h1,hy01,hb11,hb12⟩)
  ·refine St.condT rfl (by simp;omega) ?_
   refine Nv ?_
   refine .r rfl ?_
   refine Nv ?_
   refine .r rfl ?_
   obtain ⟨s1,s2⟩:=step (s:=8) (q:=256) hb11 hb12 (by decide)
   refine StL.nil (Out.met (m+8,y / 256) ⟨?_,?_,trivial⟩ ⟨rfl,by simp only;omega,by simp only;omega,by simp only;omega,s1,s2⟩)
   ·show some (Value.int .u64 ((y:Int) / 2 ^ 8))=_
    rw [show (y:Int) / 2 ^ 8=((y / 256:Nat):Int) from by omega]
   ·show some (Value.int .i64 (IntKind.i64.wrap ((m:Int)+8)))=_
    rw [i64_id (by omega) (by omega)]
    rfl
 rintro ⟨m',y'⟩ w' ⟨rfl,hm',hy',hy0',hb1',hb2'⟩
 simp only at hm' hy' hy0' hb1' hb2'
 dsimp only
 obtain ⟨q1,q2,q3,q4⟩:=len8_spec ⟨y',hy'⟩ hy0'
 simp only at q1 q2 q3 q4
 (iterate 6 refine Nv ?_;try refine .r rfl ?_)
 refine .s (RunsTo.indexTab TBok y' (fun i=>UInt8.ofNat (len8 i)) rfl rfl rfl ?_ hy' (by decide +kernel)).op ?_
 ·show IntKind.u8.wrap (y':Int)=_
  rw [wrap_u8];omega
 rintro _ _ ⟨rfl,rfl⟩
 have e8:((UInt8.ofNat (len8 y')).toNat:Nat)=len8 y':=by
  rw [UInt8.toNat_ofNat']
  exact Nat.mod_eq_of_lt (by omega)
 rw [e8]
 generalize len8 y'=l at *
 obtain ⟨z1,z2⟩:=len_bounds hb1' hb2' q1 q2 q3
 have z3:m'+l≤63:=by
  rcases Nat.lt_or_ge 63 (m'+l) with h | h
  ·have h5:(2:Nat) ^ 63≤2 ^ (m'+l - 1):=Nat.pow_le_pow_right (by decide) (by omega)
   have h6:(2:Nat) ^ 63=9223372036854775808:=by decide
   omega
  ·exact h
 (iterate 6 refine Nv ?_;try refine .r rfl ?_)
 refine Out.ret1 rfl rfl ⟨rfl,m'+l,?_,by omega,z3,z2⟩
 rw [i64_id (n:=(l:Int)) (by omega) (by omega),i64_id (by omega) (by omega)]
 rfl
theorem quo_nat {a b:Nat}:((a:Int)).tdiv (b:Int)=((a / b:Nat):Int):=by
 rw [Int.tdiv_eq_ediv_of_nonneg (by omega)]
 rfl
theorem RunsTo.quoI {P:Program} {n:Nat} {E:List (Nat×Value)} {w:World} {d:Option Tmp} {t t2:TypeId} {x y:Operand} {ty:TypeId} {pos:String} {af:Array Edge} {g:Option (Nat×Bool)} {mi si:Int} (m s:Nat) (hx:ov E x=some (.int .i64 mi)) (hm:mi=m) (hy:ov E y=some (.int .i64 si)) (hs:si=s) (h0:0<s) (hb:m≤9223372036854775807) :
  RunsTo P n ⟨d,.binOp .quo t x y t2,ty,pos,af,g⟩ E w (.int .i64 ((m / s:Nat):Int)):=by
 have:=Nat.div_le_self m s
 have h:=RunsTo.quoT (P:=P) (n:=n) (w:=w) (d:=d) (t:=t) (t2:=t2) (ty:=ty) (pos:=pos) (af:=af) (g:=g) hx hy (by omega)
 rw [hm,hs,quo_nat] at h
 generalize m / s=q at *
 rw [i64_id (by omega) (by omega)] at h
 exact h
theorem RunsTo.quoZ {P:Program} {n:Nat} {E:List (Nat×Value)} {w:World} {d:Option Tmp} {t t2:TypeId} {x y:Operand} {ty:TypeId} {pos:String} {af:Array Edge} {g:Option (Nat×Bool)} {m s:Int} (hx:ov E x=some (.int .i64 m)) (hy:ov E y=some (.int .i64 s)) (h0:s≠0) (hb:-9223372036854775807≤m∧m≤9223372036854775807) :
  RunsTo P n ⟨d,.binOp .quo t x y t2,ty,pos,af,g⟩ E w (.int .i64 (m.tdiv s)):=by
 have hbd:(m.tdiv s).natAbs≤m.natAbs:=by
  rw [Int.natAbs_tdiv]
  exact Nat.div_le_self _ _
 have h:=RunsTo.quoT (P:=P) (n:=n) (w:=w) (d:=d) (t:=t) (t2:=t2) (ty:=ty) (pos:=pos) (af:=af) (g:=g) hx hy h0
 rw [i64_id (by omega) (by omega)] at h
 exact h
theorem root_spec (w:World) (a:Nat) (ha:a≤4611686018427387904) :
  Calls Tryz.prog 136 #[.int .i64 a] w (Ret fun r w'=>w'=w∧r=.int .i64 (rtN a)):=by
 refine calls_of_St (args:=[_]) Tryz.func136 rfl Tryz.ntmps136 rfl ?_
 (iterate 6 refine Nv ?_;try refine .r rfl ?_)
 by_cases h0:a=0
 ·refine St.condT rfl (by subst h0;rfl) ?_
  (iterate 6 refine Nv ?_;try refine .r rfl ?_)
  refine Out.ret1 rfl rfl ⟨rfl,?_⟩
  subst h0
  rfl
 refine St.condF rfl (beq_eq_false_iff_ne.2 (by omega)) ?_
 refine Nv ?_
 refine .a 2 (.int .u64 (a:Int)) rfl (by rw [wrap_u64];congr 1;omega) ?_
 refine .s (OpR.call fn_math_bits_Len64 rfl (len64_spec w a h0 (by omega))) ?_
 rintro _ w1 ⟨rfl,L,rfl,hL1,hL2,hL3⟩
 refine .a 1 (.int .i64 ((L+1:Nat):Int)) rfl (by rw [i64_id (by omega) (by omega)];rfl) ?_
 refine .p (RunsTo.quoI (L+1) 2 rfl rfl rfl rfl (by decide) (by omega)) ?_
 have hp:(2:Nat) ^ ((L+1) / 2)≤2 ^ 32:=Nat.pow_le_pow_right (by decide) (by omega)
 have hp0:0<(2:Nat) ^ ((L+1) / 2):=Nat.pow_pos (by decide)
 have hp2:a<2 ^ ((L+1) / 2) * 2 ^ ((L+1) / 2):=by
  rw [← Nat.pow_add]
  exact Nat.lt_of_lt_of_le hL3 (Nat.pow_le_pow_right (by decide) (by omega))
 have h32:(2:Nat) ^ 32=4294967296:=by decide
 refine .p (RunsTo.shlN 1 ((L+1) / 2) rfl rfl rfl rfl (by show _≤64;omega) (by rw [Nat.one_mul];exact i64_id (by omega) (by omega))) ?_
 rw [Nat.one_mul]
 generalize 2 ^ ((L+1) / 2)=r0 at *
 (iterate 6 refine Nv ?_;try refine .r rfl ?_)
 refine St.loop (fun r:Nat=>[(0,.int .i64 (a:Int)),(3,.int .i64 (r:Int))]) (fun r w'=>w'=w1∧1≤r∧r≤4294967296∧a<(r+1) * (r+1)) (fun r=>r) r0 sbb ?_ ?_
 ·refine ⟨rfl,by omega,by omega,?_⟩
  have:=Nat.mul_le_mul (Nat.le_succ r0) (Nat.le_succ r0)
  exact Nat.lt_of_lt_of_le hp2 this
 ·rintro r w2 ⟨rfl,h1,h2,h3⟩
  have hq:a / r≤a:=Nat.div_le_self a r
  have hna:=newton_above (a:=a) (x:=r) h1
  have hnd:=newton_done (a:=a) (x:=r)
  (iterate 6 refine Nv ?_;try refine .r rfl ?_)
  refine .p (RunsTo.quoI a r rfl rfl rfl rfl h1 (by omega)) ?_
  generalize a / r=q at *
  refine .a 1 (.int .i64 ((r+q:Nat):Int)) rfl (by rw [i64_id (by omega) (by omega)];rfl) ?_
  refine .p (RunsTo.quoI (r+q) 2 rfl rfl rfl rfl (by decide) (by omega)) ?_
  generalize (r+q) / 2=x at *
  (iterate 6 refine Nv ?_;try refine .r rfl ?_)
  by_cases hge:x≥r
  ·refine St.condT rfl (decide_eq_true (by omega)) ?_
   (iterate 6 refine Nv ?_;try refine .r rfl ?_)
   refine Out.ret1 rfl rfl ⟨rfl,?_⟩
   rw [IsRoot.rt ⟨hnd (by omega),h3⟩]
  ·refine St.condF rfl (decide_eq_false (by omega)) ?_
   (iterate 6 refine Nv ?_;try refine .r rfl ?_)
   refine Out.again x sbb ⟨rfl,?_,by omega,hna⟩ (by omega)
   rcases Nat.eq_zero_or_pos x with e | e
   ·rw [e] at hna;omega
   ·exact e
theorem floor_spec (w:World) (a b:Int) (hb:0<b) (ha:-9223372036854775807≤a∧a≤9223372036854775807) :
  Calls Tryz.prog 172 #[.int .i64 a,.int .i64 b] w (Ret fun r w'=>w'=w∧r=.int .i64 (a / b)):=by
 have hq:a / b=if a.tmod b<0 then a.tdiv b - 1 else a.tdiv b:=by
  rw [Int.tdiv_eq_ediv,Int.tmod_eq_emod]
  have h1:=Int.emod_nonneg a (show b≠0 by omega)
  have h2:=Int.emod_lt_of_pos a hb
  have hs:b.sign=1:=Int.sign_eq_one_of_pos hb
  have hn:(b.natAbs:Int)=b:=by omega
  by_cases h:0≤a∨b ∣ a
  ·rw [if_pos h,if_pos h]
   rw [if_neg (by omega)]
   omega
  ·rw [if_neg h,if_neg h,hs,hn]
   have:a % b≠0:=fun e=>h (.inr (Int.dvd_of_emod_eq_zero e))
   rw [if_pos (by omega)]
   omega
 have hbd:(a.tdiv b).natAbs≤a.natAbs:=by
  rw [Int.natAbs_tdiv]
  exact Nat.div_le_self _ _
 have hmd:(a.tmod b).natAbs≤a.natAbs:=by
  rw [Int.natAbs_tmod]
  exact Nat.mod_le _ _
 refine calls_of_St (args:=[_,_]) Tryz.func172 rfl Tryz.ntmps172 rfl ?_
 refine St.seq (St.region (StL.run TBok 99 rfl (StL.nil (Out.then_normal (St.seq (St.region (StL.run TBok 99 rfl ?_)))))))
 refine .p (RunsTo.quoZ rfl rfl (by omega) ha) ?_
 refine .r rfl ?_
 refine StL.nil (Out.then_normal ?_)
 refine St.cut (fun g:Int=>[(5,.int .i64 g)]) (fun g w'=>w'=w∧g=a / b) ?_ ?_
 ·(iterate 6 refine Nv ?_;try refine .r rfl ?_)
  refine .p (RunsTo.remT rfl rfl (by omega)) ?_
  by_cases h:a.tmod b<0
  ·refine .a 1 (.bool true) rfl (bool_true h) ?_
   (iterate 6 refine Nv ?_;try refine .r rfl ?_)
   refine .cT ?_
   (iterate 6 refine Nv ?_;try refine .r rfl ?_)
   refine Out.met (a / b) ⟨?_,trivial⟩ ⟨rfl,rfl⟩
   rw [hq,if_pos h]
   show some (Value.int .i64 (IntKind.i64.wrap (a.tdiv b - 1)))=_
   rw [i64_id (by omega) (by omega)]
  ·refine .a 1 (.bool false) rfl (bool_false h) ?_
   (iterate 6 refine Nv ?_;try refine .r rfl ?_)
   refine .cF ?_
   (iterate 6 refine Nv ?_;try refine .r rfl ?_)
   refine Out.met (a / b) ⟨?_,trivial⟩ ⟨rfl,rfl⟩
   rw [hq,if_neg h]
   rfl
 ·rintro g w1 ⟨rfl,rfl⟩
  (iterate 6 refine Nv ?_;try refine .r rfl ?_)
  exact Out.ret1 rfl rfl ⟨rfl,rfl⟩
theorem small64_spec {w:World} {v:Value} {a:Int} (h:Dn w v a) (ha:-9223372036854775808≤a∧a≤9223372036854775807) :
  Calls Tryz.prog 135 #[v] w (Ret fun r w'=>Ext w w'∧r=.int .i64 a):=by
 obtain ⟨b,e⟩:=int64V_lo a
 have el:lo64 a=a:=if_pos ha
 rw [el] at e
 refine calls_of_St (args:=[_]) Tryz.func135 rfl Tryz.ntmps135 rfl ?_
 refine Nv ?_
 refine .s (OpR.box rfl) ?_
 rintro _ w1 ⟨rfl,B1,hx1,hz1⟩
 (iterate 6 refine Nv ?_;try refine .r rfl ?_)
 refine .p (RunsTo.loadI2 rfl (B1) (h.r2)) ?_
 refine .s (OpR.call fn_integer_Int64 rfl (int64_dn (h.ext hx1))) ?_
 rintro _ w2 ⟨hx2,rfl⟩
 rw [e]
 (iterate 6 refine Nv ?_;try refine .r rfl ?_)
 exact Out.ret1 rfl rfl ⟨hx1.trans hx2,rfl⟩
abbrev i64s (c:Nat) (g:Nat→Int):List Value:=(List.range c).map (fun j=>Value.int .i64 (g j))
theorem cel_i64 (x:Int):Cel 1 (.int .i64 x):=.inl ⟨rfl,rfl,rfl⟩
theorem i64s_succ (c:Nat) (g:Nat→Int):i64s c g++[.int .i64 (g c)]=i64s (c+1) g:=by simp [i64s,List.range_succ]
theorem i64s_len (c:Nat) (g:Nat→Int):(i64s c g).length=c:=by simp [i64s]
def WkV (w:World) (bw bx:Nat) (n:Nat) (f:Nat→Nat→Int) (B:Int):Prop:=bx<bw∧∃ mv lv us,
 Blk 155 w bw [.int .i64 B,mv,lv,.slice (some ⟨bx,0,none⟩) n n]∧RowO 1 2 (bx+1) w mv (i64s (n+1) (ddI f)) ∧
 RowO 1 27 (bx+1) w lv us∧us.length=n∧∀ (k:Nat) (u:Value),us[k]?=some u→RowO 1 2 (bx+1) w u (i64s (n - 1 - k) (fun j=>stI f k 0 (j+1)))
theorem Upd.then_ext {b:Nat} {w w1 w2:World} (h:Upd b w w1) (k:Ext w1 w2):Upd b w w2:=h.trans (k.upd b)
theorem RowC.ne {w:World} {b o c q:Nat} {g:Nat→Int} {t:TypeId} {D:List Value} (h:RowC w b o c g) (hc:0<c) (hB:Blk t w q D) (hD:∀ x ∈ D,∀ y,x≠.bool y):b≠q:=by
 obtain ⟨e,C,hb,hg⟩:=h
 obtain ⟨u,h1,h2,h3⟩:=hg 0 hc
 intro e1
 subst e1
 have e2:=hb.same hB
 subst e2
 obtain ⟨p,cap,hu,_⟩:=h1
 have e3:∃ y,Value.bool y ∈ C:=by
  subst hu
  have:(C.drop (o+2 * 0)).take 2=[.bool (decide (g 0<0)),.slice p (limbs (g 0).natAbs).length cap]:=by
   rw [h2]
   rfl
  refine ⟨_,List.mem_of_mem_drop (List.mem_of_mem_take (i:=2) (l:=C.drop (o+2 * 0)) (by rw [this];exact List.mem_cons_self))⟩
 obtain ⟨y,hy⟩:=e3
 exact hD _ hy y rfl
theorem RowC.updW {w w':World} {b o c q:Nat} {g:Nat→Int} {t:TypeId} {D:List Value} (h:RowC w b o c g) (hne:b≠q) (hu:Upd q w w') (hB:Blk t w q D) (ht:139≠t):RowC w' b o c g:=by
 obtain ⟨e,C,hb,hg⟩:=h
 refine ⟨e,C,hb.upd hu hne,fun j hj=>?_⟩
 obtain ⟨u,h1,h2,h3⟩:=hg j hj
 exact ⟨u,h1.updT hu hB ht,h2,h3⟩
def FrW (w:World) (aS:Addr) (n q:Nat) (f:Nat→Nat→Int):Prop:=∀ k,k<n→∃ aM cM b o cp,w.cell? (aS.add k)=some (.slice (some aM) (n - k) cM)∧w.cell? (aM.add 0)=some (.slice (some ⟨b,o,none⟩) (n - k) cp)∧n - k≤cp∧RowC w b o (n - k) (stI f k 0)∧aS.block≠q∧aM.block≠q∧b≠q
theorem add_blk (a:Addr) (k:Nat):(a.add k).block=a.block:=by unfold Addr.add;split <;> rfl
theorem FrW.upd {w w':World} {aS:Addr} {n q:Nat} {f:Nat→Nat→Int} {t:TypeId} {D:List Value} (h:FrW w aS n q f) (hu:Upd q w w') (hB:Blk t w q D) (ht:139≠t):FrW w' aS n q f:=by
 intro k hk
 obtain ⟨aM,cM,b,o,cp,h1,h2,h3,h4,h5,h6,h7⟩:=h k hk
 exact ⟨aM,cM,b,o,cp,hu.cell h1 (by rw [add_blk];exact h5),hu.cell h2 (by rw [add_blk];exact h6),h3,h4.updW h7 hu hB ht,h5,h6,h7⟩
theorem cell_of_blk {t:TypeId} {w:World} {q:Nat} {D:List Value} {a:Addr} {z:Value} (hB:Blk t w q D) (h:w.cell? a=some z) (ha:a.block=q):z ∈ D:=by
 obtain ⟨b,o,s⟩:=a
 simp only at ha
 subst ha
 unfold World.cell? at h
 rw [hB] at h
 simp only at h
 have h2:(D.toArray)[o]?=some z:=by
  revert h
  cases s <;> simp
 exact List.mem_of_getElem? (by simpa using h2)
theorem StgL.frw {w:World} {v:Value} {n q bx:Nat} {f:Nat→Nat→Int} {B:Int} {t t2:TypeId} (h:StgL w v n f) (hn:0<n) (hB:Blk t w q [.int .i64 B,.slice none 0 0,.slice none 0 0,.slice (some ⟨bx,0,none⟩) n n]) (hX:Blk t2 w bx (List.replicate n (.int .i64 0))):∃ aS cs,v=.slice (some aS) n cs∧FrW w aS n q f:=by
 obtain ⟨us,hRow,hul,hus⟩:=h
 have h0:us[0]?=some (us[0]'(by omega)):=by simp
 obtain ⟨aS,cS,eS,_⟩:=hRow.get h0
 rw [hul] at eS
 refine ⟨aS,cS,eS,fun k hk=>?_⟩
 have hk':us[k]?=some (us[k]'(by omega)):=by simp
 obtain ⟨a',c',e',hc'⟩:=hRow.get hk'
 rw [eS,hul] at e'
 simp only [Value.slice.injEq,Option.some.injEq] at e'
 obtain ⟨rfl,_,_⟩:=e'
 obtain ⟨aM,cM,eM,hcM,hA⟩:=hus k _ hk'
 obtain ⟨b,o,cp,hc0,hcp,hr⟩:=hA 0 (by omega)
 rw [eM] at hc'
 have hXi:∀ {z:Value},w.cell? (Addr.add ⟨bx,0,none⟩ 0)=some z→z=.int .i64 0:=fun hz=>List.eq_of_mem_replicate (cell_of_blk hX hz rfl)
 refine ⟨aM,cM,b,o,cp,hc',hc0,hcp,hr,?_,?_,?_⟩
 ·intro e
  have:=cell_of_blk hB hc' (by rw [add_blk];exact e)
  simp only [List.mem_cons,List.not_mem_nil,or_false,reduceCtorEq,false_or,Value.slice.injEq,Option.some.injEq] at this
  rcases this with h1 | h1 | h1
  ·exact absurd h1.1 (by simp)
  ·exact absurd h1.1 (by simp)
  ·rw [h1.1] at hc0
   exact absurd (hXi hc0) (by simp)
 ·intro e
  have:=cell_of_blk hB hc0 (by rw [add_blk];exact e)
  simp only [List.mem_cons,List.not_mem_nil,or_false,reduceCtorEq,false_or,Value.slice.injEq,Option.some.injEq] at this
  rcases this with h1 | h1 | h1
  ·exact absurd h1.1 (by simp)
  ·exact absurd h1.1 (by simp)
  ·simp only [Addr.mk.injEq] at h1
   exact RowC.ne hr (by omega) hX (fun x hx y e=>by rw [List.eq_of_mem_replicate hx] at e;cases e) h1.1.1
 ·exact RowC.ne hr (by omega) hB (fun x hx y e=>by subst e;simp at hx)
set_option maxHeartbeats 6400000 in
theorem newWalk_spec {w:World} {v:Value} {n:Nat} {f:Nat→Nat→Int} {B:Int} (h:MatAt w v n f) (hn:1≤n∧n≤8) (hR:RedF n f) :
  Calls Tryz.prog 73 #[v,.int .i64 B] w (Ret fun x w'=>Ext w w'∧∃ bw bx,x=.pointer (some ⟨bw,0,none⟩)∧w.heap.size≤bx∧WkV w' bw bx n f B∧Blk 2 w' bx (List.replicate n (.int .i64 0))):=by
 have hszs:=hR.szs hn.2
 have hszd:=hR.szd hn.2
 have hh:=h
 obtain ⟨pv,cv,rfl,_⟩:=hh
 refine calls_of_St (args:=[_,_]) Tryz.func73 rfl Tryz.ntmps73 rfl ?_
 (iterate 6 refine Nv ?_;try refine .r rfl ?_)
 refine .s (OpR.make TBok n rfl rfl rfl rfl rfl rfl rfl rfl (by show n * 8≤_;omega) (by omega)) ?_
 rintro _ w1 ⟨rfl,BX,hx1,hz1⟩
 (refine .s (RunsTo.build TBok rfl rfl rfl rfl).op ?_;rintro _ _ ⟨rfl,rfl⟩)
 refine .s (OpR.box rfl) ?_
 rintro _ w2 ⟨rfl,BW,hx2,hz2⟩
 have hx02:=hx1.trans hx2
 have hsz1:w1.heap.size=w.heap.size+1:=hz1
 replace BX:=BX.ext hx2
 replace BW:Blk 155 w2 w1.heap.size [.int .i64 B,.slice none 0 0,.slice none 0 0,.slice (some ⟨w.heap.size,0,none⟩) n n]:=BW
 (iterate 6 refine Nv ?_;try refine .r rfl ?_)
 refine .s (OpR.call fn_schur_eliminate rfl (eliminate_spec (h.ext hx02) hn hR)) ?_
 rintro _ w3 ⟨hx3,sv,mv,rfl,hS,hL⟩
 obtain ⟨us,hRow,hul,hus⟩:=hS
 obtain ⟨ps,cs,esv⟩:=hRow.len
 rw [hul] at esv
 obtain ⟨bm,om,cm,emv,hcm,hRC⟩:=hL
 subst esv emv
 have hS:StgL w3 (.slice ps n cs) n f:=⟨us,hRow,hul,hus⟩
 refine .s (OpR.alloc TBok rfl) ?_
 rintro _ w4 ⟨rfl,B6,hx4,hz4⟩
 refine StL.step0 rfl rfl (OpR.store TBok (vs:=[_,_]) rfl rfl rfl rfl rfl B6 (Nat.le_refl 2) (by simp [Value.oneCell'])) ?_
 rintro _ w5 ⟨B9,hu5⟩
 replace B9:Blk 75 w5 w3.heap.size [.slice ps n cs,.slice (some ⟨bm,om,none⟩) (n+1) cm]:=B9
 have hx35:Ext w3 w5:=hx4.then_upd hu5 (Nat.le_refl _)
 replace hS:=hS.ext hx35
 replace hRC:=hRC.ext hx35
 replace BX:=(BX.ext hx3).ext hx35
 replace BW:=(BW.ext hx3).ext hx35
 have hx05:=(hx02.trans hx3).trans hx35
 have hbwlt:=BW.lt
 clear hRow hus hx4 hu5 B6 hx35 hx3 hx2 hx1 hx02 hz4 hz2 hul us
 obtain ⟨aS,cs',esl,hFr⟩:=hS.frw (by omega) BW BX
 simp only [Value.slice.injEq] at esl
 obtain ⟨rfl,_,rfl⟩:=esl
 have hnebm:bm≠w1.heap.size:=hRC.ne (by omega) BW (fun x hx y e=>by subst e;simp at hx)
 have hne9:w3.heap.size≠w1.heap.size:=by
  intro e
  rw [e] at B9
  have:=B9.same BW
  simp at this
 clear hS
 (iterate 6 refine Nv ?_;try refine .r rfl ?_)
 (refine .s (RunsTo.load TBok rfl rfl rfl (Blk.cell upp rfl)).op ?_;rintro _ _ ⟨rfl,rfl⟩)
 (iterate 6 refine Nv ?_;try refine .r rfl ?_)
 refine St.rng TBok (25) (0) ((n+1)) (by omega) [(5,.pointer (some ⟨w1.heap.size,0,none⟩)),(6,.pointer (some ⟨w3.heap.size,0,none⟩)),(23,.slice (some ⟨bm,om,none⟩) (n+1) cm),(24,.int .i64 ((n+1:Nat):Int))] (fun k w'=>Upd w1.heap.size w5 w'∧∃ mv,Blk 155 w' w1.heap.size [.int .i64 B,mv,.slice none 0 0,.slice (some ⟨w.heap.size,0,none⟩) n n]∧RowO 1 2 w5.heap.size w' mv (i64s k (ddI f))) sbb ?_ (fun _=>⟨rfl,rfl⟩) (fun _=>rfl) (fun _=>⟨rfl,rfl⟩) rfl rfl (by omega) ?_ ?_
 ·exact ⟨Upd.refl _ _,_,BW,RowO.nil⟩
 ·rintro k w6 hk ⟨hU6,mv,BW6,hRw⟩
  have hRC6:=hRC.updW hnebm hU6 BW (by decide)
  obtain ⟨um,em,Cm,hdm,hBm,km,lm⟩:=hRC6.at (j:=k) (by omega)
  have hzd:=hszd k (by omega)
  have hdl:=hR.ddI_lt hn.2 (show k≤n by omega)
  obtain ⟨pm,cpm,emv⟩:=hRw.len
  refine Nv ?_
  refine .p (RunsTo.indexI rfl rfl rfl (by omega)) ?_
  refine .p (RunsTo.loadIt rfl hBm km lm hdm.r2) ?_
  refine StL.newI rfl (fun _=>rfl) hdm.r2 ?_
  intro w7 hx7 B8
  replace BW6:=BW6.ext hx7
  replace hRw:=hRw.ext hx7
  replace hdm:=hdm.ext hx7
  have hU7:=hU6.then_ext hx7
  refine Nv ?_
  refine St.sub (E':=[(25,.int .i64 k),(5,.pointer (some ⟨w1.heap.size,0,none⟩)),(6,.pointer (some ⟨w3.heap.size,0,none⟩)),(23,.slice (some ⟨bm,om,none⟩) (n+1) cm),(24,.int .i64 ((n+1:Nat):Int)),(8,.pointer (some ⟨w6.heap.size,0,none⟩))]) ?_ sbb
  refine St.any TBfol rfl ?_
  intro w8 hx8 _ _
  replace BW6:=BW6.ext hx8
  replace hRw:=hRw.ext hx8
  replace hdm:=hdm.ext hx8
  replace B8:=B8.ext hx8
  have hU8:=hU7.then_ext hx8
  refine WA.takes (fuel:=8) TBok (by kernel_rfl) (fun _ _ _ _ _ h=>h) [0,1,2,3] (by kernel_rfl) rfl ?_
  refine WA.meet 4 #[true,true,true,true,true,true,true,true,false,false,false,false] (fun b':Nat=>[(25,.int .i64 k),(5,.pointer (some ⟨w1.heap.size,0,none⟩)),(6,.pointer (some ⟨w3.heap.size,0,none⟩)),(23,.slice (some ⟨bm,om,none⟩) (n+1) cm),(24,.int .i64 ((n+1:Nat):Int)),(29,.pointer (some ⟨w1.heap.size,0,none⟩)),(33,mv),(36,.slice (some ⟨b',0,none⟩) 1 1)]) (fun b' w'=>Ext w8 w'∧Blk 2 w' b' [.int .i64 (ddI f k)]) ?_ ?_
  ·rintro b' w9 ⟨hx9,B9'⟩
   have hRw9:=hRw.ext hx9
   have BW9:=BW6.ext hx9
   have hU9:=hU8.then_ext hx9
   refine WA.one (i:=8) (by kernel_rfl) (WOp.val rfl rfl rfl rfl (OpR.appK hRw9 (cel_i64 (ddI f k)) B9' rfl rfl rfl rfl rfl rfl rfl (by rw [i64s_len];omega) rfl hU9.size) ?_)
   rintro mv' w10 ⟨hR10,hg10,hfr10⟩
   rw [i64s_succ] at hR10
   have hU10:Upd w1.heap.size w5 w10:=by
    rcases grown_cases hRw9 hg10 with hE | ⟨bb,CC,_,hbb,hBk,hU⟩
    ·exact hU9.then_ext hE
    ·exact hU9.then_upd hU hbb
   have BW10:Blk 155 w10 w1.heap.size [.int .i64 B,mv,.slice none 0 0,.slice (some ⟨w.heap.size,0,none⟩) n n]:=by
    rcases grown_cases hRw9 hg10 with hE | ⟨bb,CC,_,hbb,hBk,hU⟩
    ·exact BW9.ext hE
    ·exact BW9.upd hU (by omega)
   obtain ⟨pm',cm',hmv⟩:=hR10.len
   subst hmv
   refine WA.takes (fuel:=1) TBok (by kernel_rfl) (fun _ _ _ _ _ h=>h) [9,10] (by kernel_rfl) rfl ?_
   refine WA.one (i:=11) (by kernel_rfl) (WOp.eff rfl rfl rfl (OpR.store TBok (vs:=[_]) rfl rfl rfl rfl rfl BW10 (by show 0+1+1≤4;decide) (by simp [Value.oneCell'])) ?_)
   rintro _ w11 ⟨B11,hu11⟩
   refine WA.done (by kernel_rfl) ?_
   refine Nv ?_
   exact Out.rnd sbb ⟨hU10.trans hu11,_,B11,hR10.updT hu11 BW10 (by decide)⟩
  ·intro meet
   have ld:∀ {w9:World},Ext w8 w9→w9.cell? ⟨w1.heap.size,1,none⟩=some mv:=fun hx9=>(BW6.ext hx9).cell rfl
   have sm:∀ {w9:World},Ext w8 w9→Calls Tryz.prog 135 #[um] w9 (Ret fun r w'=>Ext w9 w'∧r=.int .i64 (ddI f k)):=fun hx9=>small64_spec ((hdm.ext hx9).dn (by omega)) (by omega)
   refine WA.two (i:=4) (j:=5) (by kernel_rfl) ?_ ?_
   ·refine WOp.val rfl rfl rfl rfl (RunsTo.load TBok rfl rfl rfl (ld (Ext.refl _))).op ?_
    rintro _ _ ⟨rfl,rfl⟩
    refine WA.one (i:=5) (by kernel_rfl) (WOp.val rfl rfl rfl rfl (RunsTo.loadCan rfl B8 hdm).op ?_)
    rintro _ _ ⟨rfl,rfl⟩
    refine WA.one (i:=6) (by kernel_rfl) (WOp.val rfl rfl rfl rfl (OpR.call fn_schur_small rfl (sm (Ext.refl _))) ?_)
    rintro _ w9 ⟨hx9,rfl⟩
    refine WA.one (i:=7) (by kernel_rfl) (WOp.val rfl rfl rfl rfl (OpR.singleK (k:=1) rfl rfl rfl rfl rfl (cel_i64 _)) ?_)
    rintro _ w10 ⟨rfl,B10,hx10,_⟩
    exact meet _ _ _ _ (by kernel_rfl) ⟨hx9.trans hx10,B10⟩ sbb
   ·refine WOp.val rfl rfl rfl rfl (RunsTo.loadCan rfl B8 hdm).op ?_
    rintro _ _ ⟨rfl,rfl⟩
    refine WA.two (i:=4) (j:=6) (by kernel_rfl) ?_ ?_
    ·refine WOp.val rfl rfl rfl rfl (RunsTo.load TBok rfl rfl rfl (ld (Ext.refl _))).op ?_
     rintro _ _ ⟨rfl,rfl⟩
     refine WA.one (i:=6) (by kernel_rfl) (WOp.val rfl rfl rfl rfl (OpR.call fn_schur_small rfl (sm (Ext.refl _))) ?_)
     rintro _ w9 ⟨hx9,rfl⟩
     refine WA.one (i:=7) (by kernel_rfl) (WOp.val rfl rfl rfl rfl (OpR.singleK (k:=1) rfl rfl rfl rfl rfl (cel_i64 _)) ?_)
     rintro _ w10 ⟨rfl,B10,hx10,_⟩
     exact meet _ _ _ _ (by kernel_rfl) ⟨hx9.trans hx10,B10⟩ sbb
    ·refine WOp.val rfl rfl rfl rfl (OpR.call fn_schur_small rfl (sm (Ext.refl _))) ?_
     rintro _ w9 ⟨hx9,rfl⟩
     refine WA.two (i:=4) (j:=7) (by kernel_rfl) ?_ ?_
     ·refine WOp.val rfl rfl rfl rfl (RunsTo.load TBok rfl rfl rfl (ld hx9)).op ?_
      rintro _ _ ⟨rfl,rfl⟩
      refine WA.one (i:=7) (by kernel_rfl) (WOp.val rfl rfl rfl rfl (OpR.singleK (k:=1) rfl rfl rfl rfl rfl (cel_i64 _)) ?_)
      rintro _ w10 ⟨rfl,B10,hx10,_⟩
      exact meet _ _ _ _ (by kernel_rfl) ⟨hx9.trans hx10,B10⟩ sbb
     ·refine WOp.val rfl rfl rfl rfl (OpR.singleK (k:=1) rfl rfl rfl rfl rfl (cel_i64 _)) ?_
      rintro _ w10 ⟨rfl,B10,hx10,_⟩
      refine WA.one (i:=4) (by kernel_rfl) (WOp.val rfl rfl rfl rfl (RunsTo.load TBok rfl rfl rfl (ld (hx9.trans hx10))).op ?_)
      rintro _ _ ⟨rfl,rfl⟩
      exact meet _ _ _ _ (by kernel_rfl) ⟨hx9.trans hx10,B10⟩ sbb
 ·rintro w6 ⟨hU6,mv,BW6,hRm⟩
  replace hFr:=hFr.upd hU6 BW (by decide)
  replace B9:=B9.upd hU6 hne9
  replace BX:=BX.upd hU6 (by omega)
  have hx06:Ext w w6:=hx05.then_upd hU6 (by omega)
  have h56:=hU6.size
  have hRm6:=hRm.mono (show w.heap.size+1≤w5.heap.size by omega)
  have hrs6:=hRm
  clear hRC hU6 BW
  (iterate 6 refine Nv ?_;try refine .r rfl ?_)
  (refine .s (RunsTo.load TBok rfl rfl rfl (Blk.cell upp rfl)).op ?_;rintro _ _ ⟨rfl,rfl⟩)
  (iterate 6 refine Nv ?_;try refine .r rfl ?_)
  refine St.rng TBok (44) (0) (n) (by omega) [(5,.pointer (some ⟨w1.heap.size,0,none⟩)),(42,.slice (some aS) n cs),(43,.int .i64 n)] (fun k w'=>Upd w1.heap.size w6 w'∧∃ lv us,Blk 155 w' w1.heap.size [.int .i64 B,mv,lv,.slice (some ⟨w.heap.size,0,none⟩) n n]∧RowO 1 27 w6.heap.size w' lv us∧us.length=k∧∀ (j:Nat) (u:Value),us[j]?=some u→RowO 1 2 w6.heap.size w' u (i64s (n - 1 - j) (fun l=>stI f j 0 (l+1)))) sbb ?_ (fun _=>⟨rfl,rfl⟩) (fun _=>rfl) (fun _=>⟨rfl,rfl⟩) rfl rfl (by omega) ?_ ?_
  ·exact ⟨Upd.refl _ _,_,[],BW6,RowO.nil,rfl,fun j u hj=>by simp at hj⟩
  ·rintro k w7 hk ⟨hU7,lv,us,BW7,hRl,hul,hus⟩
   obtain ⟨aM,cM,b,o,cp,hc1,hc2,hcp,hr,_,_,_⟩:=hFr.upd hU7 BW6 (by decide) k hk
   have h67:=hU7.size
   refine Nv ?_
   refine .p (RunsTo.ia) ?_
   refine .p (RunsTo.load TBok rfl rfl rfl hc1) ?_
   (iterate 6 refine Nv ?_;try refine .r rfl ?_)
   refine .p (RunsTo.ia) ?_
   refine .p (RunsTo.load TBok rfl rfl rfl hc2) ?_
   refine .p (RunsTo.sliceLo TBok rfl rfl rfl rfl 1 rfl (by omega)) ?_
   obtain ⟨m,hm⟩:∃ m,n - k=m+1:=⟨n - k - 1,by omega⟩
   rw [hm] at hr hcp
   have hLC:LCo w7 (.slice (if cp=1 then some (⟨b,o,none⟩:Addr) else (some (⟨b,o,none⟩:Addr)).map (·.add (1 * 2))) (n - k - 1) (cp - 1)) m (fun j=>stI f k 0 (j+1)):=by
    rw [show n - k - 1=m by omega]
    refine ⟨⟨_,_,rfl⟩,fun hpos=>⟨b,o+2,cp - 1,?_,hr.tl⟩⟩
    rw [if_neg (by omega),Option.map_some,addr_add]
   obtain ⟨pt,ct,et⟩:=hLC.1
   rw [et] at hLC ⊢
   (iterate 6 refine Nv ?_;try refine .r rfl ?_)
   refine St.rngG TBok (53) (0) (m) (by omega) (fun g:Value=>[(44,.int .i64 k),(5,.pointer (some ⟨w1.heap.size,0,none⟩)),(42,.slice (some aS) n cs),(43,.int .i64 n),(11,g),(51,.slice pt m ct),(52,.int .i64 m)]) (fun j g w'=>Ext w7 w'∧RowO 1 2 w7.heap.size w' g (i64s j (fun l=>stI f k 0 (l+1)))) (.slice none 0 0) sbb ?_ (fun _ _=>⟨rfl,rfl⟩) (fun _ _=>rfl) (fun _ _=>⟨rfl,rfl⟩) (fun _=>rfl) (fun _=>rfl) (by omega) ?_ ?_
   ·exact ⟨Ext.refl _,RowO.nil⟩
   ·rintro j lst w8 hj ⟨hx8,hRr⟩
    obtain ⟨b',o',ct',et',hrr⟩:=(hLC.ext hx8).2 (by omega)
    cases et'
    obtain ⟨uu,ee,CC,hdu,hBu,ku,lu⟩:=hrr.at hj
    have hzu:=hszs k hk 0 (j+1) (by omega) (by omega)
    have hbu:=hR.st hn.2 (show k≤n by omega) (i:=0) (j:=j+1) (by omega) (by omega)
    refine Nv ?_
    refine .p (RunsTo.indexI rfl rfl rfl (by omega)) ?_
    refine .p (RunsTo.loadIt rfl hBu ku lu hdu.r2) ?_
    refine StL.newI rfl (fun _=>rfl) hdu.r2 ?_
    intro w9 hx9 B13
    (iterate 6 refine Nv ?_;try refine .r rfl ?_)
    refine .p (RunsTo.loadCan rfl B13 hdu) ?_
    refine .s (OpR.call fn_schur_small rfl (small64_spec ((hdu.ext hx9).dn (by omega)) (by omega))) ?_
    rintro _ w10 ⟨hx10,rfl⟩
    refine StL.app2 ((hRr.ext hx9).ext hx10) (cel_i64 _) rfl rfl rfl rfl rfl rfl (fun _=>rfl) rfl rfl (by rw [i64s_len];omega) rfl ((hx8.trans hx9).trans hx10).size ?_
    intro p11 lst11 w11 hR11 hX11 _ _ _
    rw [i64s_succ (g:=fun l=>stI f k 0 (l+1))] at hR11
    (iterate 6 refine Nv ?_;try refine .r rfl ?_)
    exact Out.rndG lst11 sbb ⟨hX11 w7 ((hx8.trans hx9).trans hx10) (Nat.le_refl _),hR11⟩
   ·rintro lst w8 ⟨hx8,hRr⟩
    obtain ⟨pr,cr,er⟩:=hRr.len
    have hcel:Cel 1 lst:=.inl ⟨rfl,by rw [er];rfl,by rw [er];rfl⟩
    replace BW7:=BW7.ext hx8
    (iterate 6 refine Nv ?_;try refine .r rfl ?_)
    (refine .s (RunsTo.load TBok rfl rfl rfl (Blk.cell upp rfl)).op ?_;rintro _ _ ⟨rfl,rfl⟩)
    refine .r rfl ?_
    refine .s (OpR.singleK (k:=1) rfl rfl rfl rfl rfl hcel) ?_
    rintro _ w9 ⟨rfl,B9s,hx9,_⟩
    have hx79:=hx8.trans hx9
    have hRl9:=hRl.ext hx79
    refine .s (OpR.appK hRl9 hcel B9s rfl rfl rfl rfl rfl rfl rfl (by omega) rfl (by have:=hx79.size;omega)) ?_
    rintro lv' w10 ⟨hR10,hg10,_⟩
    replace BW7:=BW7.ext hx9
    have hrow:RowO 1 2 w6.heap.size w9 lst (i64s (n - 1 - k) (fun l=>stI f k 0 (l+1))):=by
     rw [show n - 1 - k=m by omega]
     exact (hRr.mono h67).ext hx9
    have hus9:∀ (j:Nat) (u:Value),(us++[lst])[j]?=some u→RowO 1 2 w6.heap.size w9 u (i64s (n - 1 - j) (fun l=>stI f j 0 (l+1))):=by
     intro j u hj
     by_cases hlt:j<us.length
     ·rw [List.getElem?_append_left hlt] at hj
      exact (hus j u hj).ext hx79
     ·have hje:j=us.length:=by
       have:=(List.getElem?_eq_some_iff.1 hj).1
       simp at this;omega
      subst hje
      simp at hj
      subst hj
      rw [hul]
      exact hrow
    obtain ⟨hU10,BW10,hus10⟩:Upd w1.heap.size w6 w10∧Blk 155 w10 w1.heap.size [.int .i64 B,mv,lv,.slice (some ⟨w.heap.size,0,none⟩) n n]∧∀ (j:Nat) (u:Value),(us++[lst])[j]?=some u→RowO 1 2 w6.heap.size w10 u (i64s (n - 1 - j) (fun l=>stI f j 0 (l+1))):=by
     rcases grown_cases hRl9 hg10 with hE | ⟨bb,CC,_,hbb,hBk,hU⟩
     ·exact ⟨(hU7.then_ext hx79).then_ext hE,BW7.ext hE,fun j u hj=>(hus9 j u hj).ext hE⟩
     ·exact ⟨(hU7.then_ext hx79).then_upd hU hbb,BW7.upd hU (by omega),fun j u hj=>(hus9 j u hj).updT hU hBk (by decide)⟩
    obtain ⟨pl',cl',hlv⟩:=hR10.len
    subst hlv
    (iterate 6 refine Nv ?_;try refine .r rfl ?_)
    refine StL.step0 rfl rfl (OpR.store TBok (vs:=[_]) rfl rfl rfl rfl rfl BW10 (by show 0+2+1≤4;decide) (by simp [Value.oneCell'])) ?_
    rintro _ w11 ⟨B11,hu11⟩
    refine Nv ?_
    exact Out.rnd sbb ⟨hU10.trans hu11,_,us++[lst],B11,hR10.updT hu11 BW10 (by decide),by simp;omega,fun j u hj=>(hus10 j u hj).updT hu11 BW10 (by decide)⟩
  ·rintro w7 ⟨hU7,lv,us,BW7,hRl,hul,hus⟩
   have h67:=hU7.size
   (iterate 6 refine Nv ?_;try refine .r rfl ?_)
   refine Out.ret1 rfl rfl ⟨hx06.then_upd hU7 (by omega),_,_,rfl,Nat.le_refl _,⟨by omega,mv,lv,us,BW7,?_,hRl.mono (by omega),hul,fun j u hj=>(hus j u hj).mono (by omega)⟩,BX.upd hU7 (by omega)⟩
   exact hRm6.updT hU7 BW6 (by decide)
end Go.Qf
namespace Go.Qf
open Go Go.RowKit Go.Proofs
abbrev wR (ro:Option Nat):Fence:={ Fence.wide with round:=ro }
def noDefer:List Oper→Bool
 | []=>true
 | o::r=>(match o.op with | .defer _=>false | _=>true) && noDefer r
section
variable {P:Program} {T:List (Nat×TI)} {n m:Nat} {E:List (Nat×Value)} {w:World} {Q:Exit→Act→World→Prop} {s:Prop} {ro:Option Nat} {ops:Array Oper}
theorem opIn {o:Oper} {a:Act} {K:Act→World→Prop} (hd:∀ c,o.op≠.defer c) (h:o.wp P a w K Q):o.wpIn (wR ro) m P a w K Q:=by
 refine ⟨fun _ _=>trivial,?_⟩
 rw [Oper.semAt_eq _ _ _ hd]
 unfold Oper.wp at h
 generalize (execOp a.eval o).run P w=r at h
 cases r with
 | ok x w' =>
  cases x with
  | value v=>exact h
  | skip=>exact h
  | defer d=>exact h
  | enter f args=>exact ⟨fun e=>by simp [Fence.wide] at e,callsIn_wide.2 h⟩
  | row r args=>exact ⟨fun e=>by simp [Fence.wide] at e,fun c cs _=>by obtain ⟨v,w',hv,hs⟩:=h c cs;exact ⟨v,w',hv,stepsIn_wide.2 hs⟩⟩
  | _=>exact h.elim
 | halt x w'=>cases x <;> exact h
theorem opMono {o:Oper} {a:Act} {K K':Act→World→Prop} (hK:∀ a w,K a w→K' a w) (h:o.wp P a w K Q):o.wp P a w K' Q:=by
 unfold Oper.wp at *
 generalize (execOp a.eval o).run P w=r at *
 cases r with
 | ok x w' =>
  cases x with
  | value v=>exact hK _ _ h
  | skip=>exact hK _ _ h
  | defer d=>exact hK _ _ h
  | enter f args=>exact Calls.mono h (fun e w'' he=>by cases e <;> first | exact hK _ _ he | exact he)
  | row r args=>exact Rows.mono h (fun _ _ he=>hK _ _ he)
  | _=>exact h
 | halt x w'=>cases x <;> exact h
theorem listIn (hQ:¬ LetsOut Q):∀ (l:List Oper) (a:Act) (w:World),noDefer l=true→wpList P ops Q l a w→wpListIn (wR ro) m P ops Q l a w
 | [],a,w,_,h=>h
 | o::r,a,w,hn,h=>by
  simp only [noDefer,Bool.and_eq_true] at hn
  unfold wpList at h
  unfold wpListIn
  split
  ·rename_i hw
   rw [if_pos hw] at h
   rcases h with h | h
   ·refine opIn (fun c e=>?_) (opMono (fun a w hh=>listIn hQ r a w hn.2 hh) h)
    rw [e] at hn
    exact absurd hn.1 (by simp)
   ·exact absurd h.2 hQ
  ·rename_i hw
   rw [if_neg hw] at h
   exact ⟨fun _ _=>trivial,listIn hQ r _ w hn.2 h⟩
def StY (P:Program) (n:Nat) (E:List (Nat×Value)) (w:World) (ops:Array Oper) (l:List Oper) (Q:Exit→Act→World→Prop):Prop:=∀ a,Fits n E a→wpListIn (wR none) 0 P ops Q l a w
theorem St.regionY {id:Nat} {l:List Oper} (h:StY P n E w l.toArray l Q):St P n E w (.region id l.toArray false) Q:=fun a ha=>wpIn_wide.1 (wpIn_region_lit (F:=Fence.wide) (n:=0) (h a ha))
theorem listInPre {l2:List Oper} (hQ:¬ LetsOut Q):∀ (l:List Oper) (a:Act) (w:World),noDefer l=true→wpList P ops (Exit.then (fun a w=>wpListIn (wR ro) m P ops Q l2 a w) Q) l a w→wpListIn (wR ro) m P ops Q (l++l2) a w
 | [],a,w,_,h=>h
 | o::r,a,w,hn,h=>by
  simp only [noDefer,Bool.and_eq_true] at hn
  unfold wpList at h
  show wpListIn (wR ro) m P ops Q (o::(r++l2)) a w
  unfold wpListIn
  split
  ·rename_i hw
   rw [if_pos hw] at h
   rcases h with h | h
   ·refine opIn (fun c e=>?_) ?_
    ·rw [e] at hn
     exact absurd hn.1 (by simp)
    ·have h2:=opMono (fun a w hh=>listInPre hQ r a w hn.2 hh) h
     unfold Oper.wp at h2 ⊢
     generalize (execOp a.eval o).run P w=r at *
     cases r with
     | ok x w'=>cases x <;> exact h2
     | halt x w'=>cases x <;> exact h2
   ·exact absurd h.2 hQ
  ·rename_i hw
   rw [if_neg hw] at h
   exact ⟨fun _ _=>trivial,listInPre hQ r _ w hn.2 h⟩
theorem St.yieldAt (k:Nat) {l:List Oper} {id:Nat} (hQ:¬ LetsOut Q) (hn:noDefer (l.take k)=true)
  (h:StL P n E w l.toArray (l.take k) (Exit.then (fun a w=>wpListIn (wR none) 0 P l.toArray Q (l.drop k) a w) Q)):St P n E w (.region id l.toArray false) Q:=by
 refine St.regionY fun a ha=>?_
 have:=listInPre (l2:=l.drop k) hQ (l.take k) a w hn (h a ha)
 rwa [List.take_append_drop] at this
abbrev roundTmps (r:Loop) (vs:List Value):Array Value:=(r.params.zip vs.toArray).foldl (fun t (p,v)=>t.setIfInBounds p v) r.tmps
theorem Out.yield {L:Nat} {r:Loop} {d:Nat} {x:Operand} {args:Array Operand} {tys:Array TypeId} {ty:TypeId} {pos:String} {af:Array Edge} {rest:List Oper} {vs:List Value} {Ψ:Bool→World→Prop}
  (hx:ov E x=some (.func (.yield L) #[] #[])) (hargs:ovs E args.toList=some vs) (hL:w.heap[L]?=some (.loop r)) (hsz:vs.length=r.params.size) (hdn:Nat.blt d n=true) (hQ:¬ LetsOut Q) (hnd:noDefer rest=true)
  (hround:RoundIn (wR none) 0 P L r.fn (roundTmps r vs) r.assign r.body w (fun e w2=>∃ b,e=.returned (.bool b)∧Ψ b w2)) (next:∀ b w2,Ψ b w2→StL P n ((d,.bool b)::E) w2 ops rest Q) :
  Out n E w .normal (Exit.then (fun a w=>wpListIn (wR none) 0 P ops Q (⟨some d,.call ⟨.value x,args,tys⟩,ty,pos,af,none⟩::rest) a w) Q):=by
 intro a ha
 show wpListIn (wR none) 0 P ops Q (⟨some d,.call ⟨.value x,args,tys⟩,ty,pos,af,none⟩::rest) a w
 unfold wpListIn
 rw [if_pos (by simp [Region.wanted])]
 refine ⟨fun _ _=>trivial,?_⟩
 have hm:=ovs_map ha _ _ hargs
 have hA:args.map a.eval=vs.toArray:=by
  rw [← hm]
  apply Array.toList_inj.1
  simp
 have hev:=ha.eval hx
 have hrun:(Oper.semAt (wR none).round a.eval ⟨some d,.call ⟨.value x,args,tys⟩,ty,pos,af,none⟩).run P w=.ok (.round L r.fn (roundTmps r vs) r.assign r.body) w:=by
  show (execOp a.eval ⟨some d,.call ⟨.value x,args,tys⟩,ty,pos,af,none⟩).run P w=_
  simp only [execOp,resolve,hev,Deferred.ofValue,hA,Sem.run_bind,Sem.run_pure,Result.andThen_ok,invoke]
  rw [show (#[]:Array Value)++vs.toArray=vs.toArray from by simp]
  exact run_yield hL hsz
 rw [hrun]
 refine ⟨fun e=>by simp [Fence.wide] at e,RoundIn.mono hround ?_⟩
 rintro e w2 ⟨b,rfl,hb⟩
 exact listIn hQ rest _ w2 hnd (next b w2 hb _ (ha.put hdn _))
def StR (P:Program) (n L:Nat) (E:List (Nat×Value)) (w:World) (c:Code) (Q:Exit→Act→World→Prop):Prop:=∀ a,Fits n E a→c.wpIn (wR (some L)) 0 P Q a w
theorem StR.seq {L:Nat} {x y:Code} (h:StR P n L E w x (Exit.then (y.wpIn (wR (some L)) 0 P Q) Q)):StR P n L E w (.seq x y) Q:=fun a ha=>wpIn_seq (h a ha)
theorem StR.region {L id:Nat} {l:List Oper} (hQ:¬ LetsOut Q) (hn:noDefer l=true) (h:StL P n E w l.toArray l Q):StR P n L E w (.region id l.toArray false) Q:=fun a ha=>wpIn_region_lit (listIn hQ l a w hn (h a ha))
theorem StR.ret {L:Nat} (h:Out n E w .ret Q):StR P n L E w .ret Q:=fun a ha=>wpIn_ret (h a ha)
theorem StR.skip {L:Nat} (h:Out n E w .normal Q):StR P n L E w .skip Q:=fun a ha=>wpIn_skip (h a ha)
theorem StR.block {L id:Nat} {c:Code} (h:StR P n L E w c (Exit.inBlock id Q)):StR P n L E w (.block id c) Q:=fun a ha=>wpIn_block (h a ha)
theorem StR.condT {L:Nat} {c:Operand} {x y:Code} (hb:ov E c=some (.bool true)) (ht:StR P n L E w x Q):StR P n L E w (.cond c x y) Q:=fun a ha=>wpIn_cond_true (ha.eval hb) (ht a ha)
theorem StR.condF {L:Nat} {c:Operand} {x y:Code} (hb:ov E c=some (.bool false)) (hf:StR P n L E w y Q):StR P n L E w (.cond c x y) Q:=fun a ha=>wpIn_cond_false (ha.eval hb) (hf a ha)
theorem Out.thenR {L:Nat} {y:Code} (h:StR P n L E w y Q):Out n E w .normal (Exit.then (y.wpIn (wR (some L)) 0 P Q) Q):=h
abbrev loopRec (st:LoopState) (pe:Option Code) (fn:FuncId) (tmps:Array Value) (ps:Array Tmp) (assign body:Code) (D:Nat):Loop:={ state:=st,pending:=pe,fn,tmps,params:=ps,assign,body,defers:=D }
theorem round_of {L:Nat} {r:Loop} {vs:List Value} {R:Ending→World→Prop} {E1:List (Nat×Value)}
  (ha:Fits n E { tmps:=roundTmps r vs,defers:=[] }) (hL:w.heap[L]?=some (.loop r)) (hr:r.state=.ready)
  (hassign:StR P n L E w r.assign (Exit.then (fun a1 w1=>Fits n E1 a1∧w1=w) (fun _ _ _=>False)))
  (hbody:StR P n L E1 (w.putObj L (.loop { r with state:=.busy })) r.body (roundPost P L R)):RoundIn (wR none) 0 P L r.fn (roundTmps r vs) r.assign r.body w R:=by
 refine roundIn_of_wpIn (F:=wR none) trivial ?_
 refine wpIn_mono (hassign _ ha) ?_
 intro e a1 w1 hq
 cases e with
 | normal =>
  obtain ⟨h1,rfl⟩:=hq
  exact ⟨_,run_beginRound hL hr,hbody a1 h1⟩
 | _=>exact hq
theorem fits_round {a:Act} {r:Loop} {p1 p2:Nat} {v1 v2:Value} (ha:Fits n E a) (ht:r.tmps=a.tmps) (hp:r.params=#[p1,p2]) (h1:Nat.blt p1 n=true) (h2:Nat.blt p2 n=true):Fits n ((p2,v2)::(p1,v1)::E) { tmps:=roundTmps r [v1,v2],defers:=[] }:=by
 have e:({ tmps:=roundTmps r [v1,v2],defers:=[] }:Act)=(a.put (some p1) v1).put (some p2) v2:=by
  unfold roundTmps Act.put
  rw [ht,hp,← ha.defers]
  simp
 rw [e]
 exact (ha.put h1 v1).put h2 v2
abbrev mkd (D:Nat) (a:Act):Act:={ a with defers:=a.defers++[{ target:=.collected D,args:=#[] }] }
theorem St.rangeFunc {g:Operand} {ps:Array Tmp} {assign body:Code} {gf:FuncId} {fn:Func} (hF:IsFn P gf fn) {fs:Array Value} (hg:ov E g=some (.func (.func gf) fs #[]))
  (h:∀ (a:Act) (fi:FuncId) (rec:Loop),Fits n E a→rec=loopRec .ready none fi a.tmps ps assign body w.heap.size→Calls P gf (fs++#[.func (.yield (w.heap.size+1)) #[] #[]]++#[]) ((w.alloc (.deferred (some []))).alloc (.loop rec))
   (Ret fun _ w3=>∃ r3,w3.heap[w.heap.size+1]?=some (.loop r3)∧r3.state≠.busy∧((r3.pending=none∧Q .normal (mkd w.heap.size a) (w3.putObj (w.heap.size+1) (.loop { r3 with state:=.exhausted })))∨(r3.pending=some .ret∧Q .ret (mkd w.heap.size a) (w3.putObj (w.heap.size+1) (.loop { r3 with state:=.exhausted })))))) :
  St P n E w (.rangeFunc g ps assign body) Q:=by
 intro a ha
 have hev:=ha.eval hg
 have hmk:({ a with defers:=[{ target:=.collected w.heap.size,args:=#[] }]++a.defers }:Act)=mkd w.heap.size a:=by
  unfold mkd
  rw [ha.defers]
  rfl
 refine wpIn_wide.1 (wpIn_rangeFunc (F:=Fence.wide) (n:=0) ?_)
 intro fi _
 obtain ⟨w1,hw1⟩:∃ w1,w1=(w.alloc (.deferred (some []))).alloc (.loop (loopRec .ready none fi a.tmps ps assign body w.heap.size)):=⟨_,rfl⟩
 have h1:(Instr.enterLoop fi a.tmps ps assign body Fence.wide.round).run P w=.ok (w.heap.size+1,[{ target:=.collected w.heap.size,args:=#[] }]) w1:=by
  rw [hw1];exact run_enterLoop_outer fi a.tmps ps assign body
 have h2:(resolve a.eval (rangeCall g (w.heap.size+1)) 0).run P w1=.ok { target:=.fn (.func gf) #[],args:=fs++#[.func (.yield (w.heap.size+1)) #[] #[]] } w1:=by
  simp only [rangeCall,resolve,hev,Deferred.ofValue,Sem.run_pure]
  have e:Array.map a.eval #[Operand.const (.func (.yield (w.heap.size+1)) #[] #[])]=#[.func (.yield (w.heap.size+1)) #[] #[]]:=by
   simp [Act.eval]
  rw [e]
 have h3:(invoke (.fn (.func gf) #[]) (fs++#[.func (.yield (w.heap.size+1)) #[] #[]])).run P w1=.ok (.enter gf (fs++#[.func (.yield (w.heap.size+1)) #[] #[]]++#[])) w1:=by
  have hp:(program).run P w1=.ok P w1:=by simp [go_sem]
  simp only [invoke,callFunc,Sem.run_bind,hp,Result.andThen_ok,hF.func,hF.name,hF.body,Bool.false_eq_true,if_false,Sem.run_pure]
 have hc:=h a fi _ ha rfl
 rw [← hw1] at hc
 refine ⟨_,_,w1,_,w1,gf,_,w1,h1,h2,fun _ _=>trivial,h3,fun e=>by simp [Fence.wide] at e,callsIn_wide.2 (hc.mono ?_)⟩
 rintro e w3 ⟨v,rfl,r3,hL,hb,hq⟩
 rw [hmk]
 refine ⟨r3.pending,_,run_endLoop hL hb,?_⟩
 rcases hq with ⟨hp,hq⟩ | ⟨hp,hq⟩
 ·cases r3
  simp only at hp
  subst hp
  exact hq
 ·cases r3
  simp only at hp
  subst hp
  exact wpIn_ret hq
theorem calls_of_StM {f:FuncId} {fn:Func} {c:Code} {args:List Value} {Φ:Value→World→Prop}
  (hf:P.funcs[f]?=some fn) (hb:fn.body=some c) (hn:fn.ntmps=n) (hle:Nat.ble args.length n=true)
  (h:St P n (slotsFrom 0 args) w c (bodyPostM Fence.wide 0 P fn (Ret Φ))):Calls P f args.toArray w (Ret Φ):=by
 refine callsIn_wide.1 (callsIn_of_wp_marks (F:=Fence.wide) (n:=0) hf hb trivial (wpIn_wide.2 (h _ ⟨?_,rfl,?_⟩)))
 ·have:=Nat.le_of_ble_eq_true hle
  simp [hn];omega
 ·intro k v hk
  obtain ⟨_,h2⟩:=look_slotsFrom args 0 k v hk
  simp only [Nat.sub_zero] at h2
  have hlt:k<args.length:=(List.getElem?_eq_some_iff.1 h2).1
  rw [Array.getElem?_append_left (by simpa using hlt)]
  simpa using h2
theorem Out.plainM {fn:Func} {Φ:Value→World→Prop} (h:Out n E w .ret (bodyPost P fn (Ret Φ))):Out n E w .ret (bodyPostM Fence.wide 0 P fn (Ret Φ)):=by
 intro a ha
 obtain ⟨hd,v,hv,hR⟩:=h a ha
 show LeavesInM Fence.wide 0 P fn a.tmps (Ret Φ) a.defers .returning w
 rw [hd]
 exact ⟨v,hv,hR⟩
theorem ret_marked {fn:Func} {Φ:Value→World→Prop} {D:Nat} {a:Act} (ha:Fits n E a) (hD:w.heap[D]?=some (.deferred (some []))) (h:Out n E (w.putObj D (.deferred none)) .ret (bodyPost P fn (Ret Φ))):bodyPostM Fence.wide 0 P fn (Ret Φ) .ret (mkd D a) w:=by
 obtain ⟨hd,v,hv,hR⟩:=h a ha
 show LeavesInM Fence.wide 0 P fn a.tmps (Ret Φ) (a.defers++_) .returning w
 rw [hd]
 exact ⟨by simp,.inl ⟨D,_,rfl,run_takeDeferred hD,v,hv,hR⟩⟩
theorem noOutM {fn:Func} {Φ:Value→World→Prop}:¬ LetsOut (bodyPostM Fence.wide 0 P fn (Ret Φ)):=by
 rintro ⟨a,w,v,h,_⟩
 cases h
theorem noOut {fn:Func} {Φ:Value→World→Prop}:¬ LetsOut (bodyPost P fn (Ret Φ)):=by
 rintro ⟨a,w,v,h,_⟩
 cases h
theorem noOutThen {K:Act→World→Prop} (h:¬ LetsOut Q):¬ LetsOut (Exit.then K Q):=h
theorem noOutBlock {id:Nat} (h:¬ LetsOut Q):¬ LetsOut (Exit.inBlock id Q):=h
theorem noOutRound {L:Nat} {R:Ending→World→Prop}:¬ LetsOut (roundPost P L R):=fun ⟨_,_,h⟩=>h
theorem listMark {D:Nat}:∀ (l:List Oper) (a:Act) (w:World),wpList P ops (fun e a w=>Q e (mkd D a) w) l a w→noDefer l=true→¬ LetsOut Q→wpList P ops Q l (mkd D a) w
 | [],a,w,h,_,_=>h
 | o::r,a,w,h,hn,hQ=>by
  simp only [noDefer,Bool.and_eq_true] at hn
  unfold wpList at h ⊢
  have ew:Region.wanted o (yielded ops (mkd D a).tmps)=Region.wanted o (yielded ops a.tmps):=rfl
  rw [ew]
  split
  ·rename_i hw
   rw [if_pos hw] at h
   rcases h with h | h
   ·left
    unfold Oper.wp at h ⊢
    have ee:(mkd D a).eval=a.eval:=rfl
    rw [ee]
    have hput:∀ v,(mkd D a).put o.dst v=mkd D (a.put o.dst v):=by intro v;cases o.dst <;> rfl
    generalize hr:(execOp a.eval o).run P w=r0 at h
    cases r0 with
    | ok x w' =>
     cases x with
     | value v=>show wpList P ops Q r ((mkd D a).put o.dst v) w';rw [hput];exact listMark r _ _ h hn.2 hQ
     | skip=>show wpList P ops Q r ((mkd D a).put o.dst undef) w';rw [hput];exact listMark r _ _ h hn.2 hQ
     | defer d =>
      have hp2:({ mkd D a with defers:=d::(mkd D a).defers }:Act).put o.dst undef=mkd D (({ a with defers:=d::a.defers }:Act).put o.dst undef):=by cases o.dst <;> rfl
      show wpList P ops Q r (({ mkd D a with defers:=d::(mkd D a).defers }:Act).put o.dst undef) w'
      rw [hp2];exact listMark r _ _ h hn.2 hQ
     | enter f args =>
      refine Calls.mono h (fun e w'' he=>?_)
      cases e with
      | returned v=>show wpList P ops Q r ((mkd D a).put o.dst v) w'';rw [hput];exact listMark r _ _ he hn.2 hQ
      | panicked c=>exact he
      | outgrown=>exact absurd he (fun ⟨a,w,h⟩=>hQ ⟨_,w,h⟩)
     | row rr args =>
      refine Rows.mono h (fun v w'' he=>?_)
      show wpList P ops Q r ((mkd D a).put o.dst v) w''
      rw [hput];exact listMark r _ _ he hn.2 hQ
     | _=>exact h
    | halt x w'=>cases x <;> exact h
   ·exact absurd h.2 (fun ⟨a,w,h⟩=>hQ ⟨_,w,h⟩)
  ·rename_i hw
   rw [if_neg hw] at h
   have hput:(mkd D a).put o.dst undef=mkd D (a.put o.dst undef):=by cases o.dst <;> rfl
   rw [hput]
   exact listMark r _ _ h hn.2 hQ
end
end Go.Qf
namespace Go.Qf
open Go Go.RowKit Go.Proofs
set_option maxRecDepth 20000
def KeepX (bx:Nat) (wM w:World):Prop:=wM.heap.size≤w.heap.size∧∀ j,bx<j→j<wM.heap.size→w.heap[j]?=wM.heap[j]?
theorem RowO.keepX {k:Nat} {e:TypeId} {bx:Nat} {wM w:World} {v:Value} {us:List Value} (h:RowO k e (bx+1) wM v us) (hK:KeepX bx wM w):RowO k e (bx+1) w v us:=by
 refine ⟨h.1,?_⟩
 rcases h.2 with h1 | ⟨g,cap,D,hv,hb,hB,h2⟩
 ·exact .inl h1
 ·exact .inr ⟨g,cap,D,hv,hb,(hK.2 g (by omega) hB.lt).trans hB,h2⟩
theorem WkV.keep {bw bx n:Nat} {f:Nat→Nat→Int} {B:Int} {wM w:World} (h:WkV wM bw bx n f B) (hK:KeepX bx wM w):WkV w bw bx n f B:=by
 obtain ⟨h0,mv,lv,us,h1,h2,h3,h4,h5⟩:=h
 exact ⟨h0,mv,lv,us,(hK.2 bw h0 h1.lt).trans h1,h2.keepX hK,h3.keepX hK,h4,fun k u hu=>(h5 k u hu).keepX hK⟩
theorem i64s_get {c:Nat} {g:Nat→Int} {j:Nat} (hj:j<c):(i64s c g)[j]?=some (.int .i64 (g j)):=by simp [i64s,hj]
theorem RowO.i64at {e:TypeId} {base c:Nat} {w:World} {v:Value} {g:Nat→Int} (h:RowO 1 e base w v (i64s c g)) (hc:0<c):∃ a cap,v=.slice (some a) c cap∧∀ j,j<c→w.cell? (a.add j)=some (.int .i64 (g j)):=by
 have hr:=h.row (fun u hu=>by simp [i64s] at hu;obtain ⟨_,_,rfl⟩:=hu;rfl)
 obtain ⟨a,cap,hv,_⟩:=hr.get (i64s_get hc)
 rw [i64s_len] at hv
 refine ⟨a,cap,hv,fun j hj=>?_⟩
 obtain ⟨a',cap',hv',hcell⟩:=hr.get (i64s_get hj)
 rw [hv,i64s_len] at hv'
 simp only [Value.slice.injEq,Option.some.injEq] at hv'
 obtain ⟨rfl,_,_⟩:=hv'
 exact hcell
theorem WkV.open {bw bx n:Nat} {f:Nat→Nat→Int} {B:Int} {w:World} (h:WkV w bw bx n f B) (hn:1≤n):∃ am cm al cl,Blk 155 w bw [.int .i64 B,.slice (some am) (n+1) cm,.slice (some al) n cl,.slice (some ⟨bx,0,none⟩) n n] ∧
  (∀ j,j<n+1→w.cell? (am.add j)=some (.int .i64 (ddI f j)))∧∀ k,k<n→∃ pr cr,w.cell? (al.add k)=some (.slice pr (n - 1 - k) cr)∧(0<n - 1 - k→∃ ar,pr=some ar∧∀ j,j<n - 1 - k→w.cell? (ar.add j)=some (.int .i64 (stI f k 0 (j+1)))):=by
 obtain ⟨h0,mv,lv,us,h1,h2,h3,h4,h5⟩:=h
 obtain ⟨am,cm,rfl,hm⟩:=h2.i64at (by omega)
 have hu1:∀ u ∈ us,u.cells=#[u]:=fun u hu=>by
  obtain ⟨i,hi⟩:=List.mem_iff_getElem?.1 hu
  obtain ⟨p,c,e⟩:=(h5 i u hi).len
  rw [e];rfl
 have hr:=h3.row hu1
 have hz:us[0]?=some (us[0]'(by omega)):=by simp
 obtain ⟨al,cl,hv,_⟩:=hr.get hz
 rw [h4] at hv
 subst hv
 refine ⟨am,cm,al,cl,h1,hm,fun k hk=>?_⟩
 have hk':us[k]?=some (us[k]'(by omega)):=by simp
 obtain ⟨a',c',e',hc'⟩:=hr.get hk'
 rw [h4] at e'
 simp only [Value.slice.injEq,Option.some.injEq] at e'
 obtain ⟨rfl,_,_⟩:=e'
 have h6:=h5 k _ hk'
 obtain ⟨pr,cr,er⟩:=h6.len
 rw [i64s_len] at er
 refine ⟨pr,cr,by rw [hc',er],fun hpos=>?_⟩
 obtain ⟨ar,car,ear,har⟩:=h6.i64at hpos
 rw [er] at ear
 simp only [Value.slice.injEq] at ear
 exact ⟨ar,ear.1,har⟩
structure Yc (bx hi L:Nat) (I:Int×List Int→World→Prop) (X:World→Prop) (n:Nat):Prop where
 stable:∀ s w w',I s w→Upd bx w w'→I s w'
 round:∀ s w (m:Nat) (c:Int),I s w→m<n→0≤c→c≤4611686018427387904→hi≤w.heap.size→∃ r,w.heap[L]?=some (.loop r)∧r.params.size=2 ∧
  RoundIn (wR none) 0 Tryz.prog L r.fn (roundTmps r [.int .i64 ((m+1:Nat):Int),.int .i64 c]) r.assign r.body w (fun e w2=>∃ b,e=.returned (.bool b)∧(∀ j,bx≤j→j<hi→w2.heap[j]?=w.heap[j]?)∧w.heap.size≤w2.heap.size∧(s.1<c→b=false∧X w2)∧(¬ s.1<c→b=true∧I (s.1 - c,bump s.2 m c) w2))
section
variable (bw bx n L:Nat) (f:Nat→Nat→Int) (B:Int) (wM:World) (I:Int×List Int→World→Prop) (X:World→Prop)
def VisitAt (k:Nat):Prop:=∀ (xs:List Int) (s:Int×List Int) (w:World),KeepX bx wM w→Blk 2 w bx (xs.map i64)→xs.length=n→I s w→0≤reI f n B (xs.drop (k+1)) →
 Calls Tryz.prog 137 #[.pointer (some ⟨bw,0,none⟩),.int .i64 k,.int .i64 (reI f n B (xs.drop (k+1))),.func (.yield L) #[] #[]] w (Ret fun x w' =>
  (visN f n B (k+1) (xs.drop (k+1)) s=none→x=.bool false∧X w')∧∀ s',visN f n B (k+1) (xs.drop (k+1)) s=some s'→x=.bool true∧I s' w'∧KeepX bx wM w'∧∃ xs':List Int,Blk 2 w' bx (xs'.map i64)∧xs'.length=n∧xs'.drop (k+1)=xs.drop (k+1))
end
theorem ediv_bnd {a d M:Int} (hd:0<d) (h:-M≤a∧a≤M):-M≤a / d∧a / d≤M:=by
 have hM:0≤M:=by omega
 have h1:=Int.mul_le_mul_of_nonneg_left (show 1≤d by omega) hM
 constructor
 ·refine (Int.le_ediv_iff_mul_le hd).2 ?_
  rw [Int.neg_mul]
  omega
 ·exact Int.ediv_le_of_le_mul hd (by omega)
theorem sumN_bnd {M:Int} {g:Nat→Int}:∀ (i:Nat),(∀ j,j<i→-M≤g j∧g j≤M)→-((i:Int) * M)≤sumN i g∧sumN i g≤(i:Int) * M
 | 0,_=>by simp [sumN]
 | i+1,h=>by
  have ih:=sumN_bnd i (fun j hj=>h j (by omega))
  have h1:=h i (by omega)
  show _≤sumN i g+g i∧sumN i g+g i≤_
  rw [show ((i+1:Nat):Int) * M=(i:Int) * M+M from by rw [Int.natCast_add,Int.add_mul];simp]
  omega
theorem visL_const (j:Nat) (x:Int) (s:Int×List Int):visL (fun _ s=>some s) j x s=some s:=by
 induction j generalizing x with
 | zero=>rfl
 | succ j ih=>exact ih (x+1)
theorem drop_set {xs:List Int} {k:Nat} (hk:k<xs.length) (x:Int):(xs.set k x).drop k=x::xs.drop (k+1):=by
 rw [List.drop_set,if_neg (by omega),Nat.sub_self,List.drop_eq_getElem_cons hk]
 rfl
set_option maxHeartbeats 6400000 in
theorem visit_step {bw bx n L:Nat} {f:Nat→Nat→Int} {B:Int} {wM:World} {I:Int×List Int→World→Prop} {X:World→Prop} (hR:RedF n f) (hn:1≤n∧n≤8) (hB:0≤B∧B<1073741824) (hW:WkV wM bw bx n f B) (hY:Yc bx wM.heap.size L I X n)
  {k:Nat} (hk:k<n) (ih:∀ k',k=k'+1→VisitAt bw bx n L f B wM I X k'):VisitAt bw bx n L f B wM I X k:=by
 intro xs s w hK hX hxl hI hre
 obtain ⟨ys,hys⟩:∃ ys,ys=xs.drop (k+1):=⟨_,rfl⟩
 have hyl:ys.length=n - 1 - k:=by rw [hys,List.length_drop];omega
 rw [← hys] at hre ⊢
 have hd1:n - ys.length=k+1:=by omega
 have hd0:n - ys.length - 1=k:=by omega
 have hdl:=hR.ddI_lt hn.2 (show k+1≤n by omega)
 have hdl0:=hR.ddI_lt hn.2 (show k≤n by omega)
 have hsq:=sq_small hR hn.2 (ys:=ys) (by omega) hB.1
 have hsq0:0≤sqI f n B ys:=(re_pos hR B).1 hre
 have hbnd:=tail_bound hR hn.2 (R:=2147483648) hB.1 (by omega) ys (by omega) hre
 have hpow:(2:Nat) ^ ys.length≤2 ^ 8:=Nat.pow_le_pow_right (by decide) (by omega)
 have haS:aS ys≤549755813888:=by
  have:=Nat.mul_le_mul_left 2147483648 hpow
  have e8:(2:Nat) ^ 8=256:=by decide
  omega
 have hli:=li_half hR (show ys.length<n by omega)
 rw [hd1] at hli
 have hlb:-18014398509481984≤liI f n ys∧liI f n ys≤18014398509481984:=by
  have:=Int.mul_le_mul (show ddI f (k+1)≤65536 by omega) (show (aS ys:Int)≤549755813888 by omega) (by omega) (by omega)
  omega
 obtain ⟨r,hr⟩:∃ r,r=rtN (sqI f n B ys).natAbs:=⟨_,rfl⟩
 have hroot:IsRoot (sqI f n B ys).natAbs r:=by rw [hr];exact rtN_root _
 have hrb:r≤2147483648:=by
  have h1:=(root_iff hroot r).1 (by omega)
  have h2:=sq_le_r (u:=r) (R:=2147483648) (by omega) (by omega)
  omega
 have hlo:loI f n B ys=-(((r:Int)+liI f n ys) / ddI f (k+1)):=by unfold loI ivLo;rw [← hr,hd1,Int.add_comm]
 have hhi:hiI f n B ys=((r:Int) - liI f n ys) / ddI f (k+1):=by unfold hiI ivHi;rw [← hr,hd1]
 have blo:=ediv_bnd (a:=(r:Int)+liI f n ys) (d:=ddI f (k+1)) (M:=18014400656965632) hdl.1 (by omega)
 have bhi:=ediv_bnd (a:=(r:Int) - liI f n ys) (d:=ddI f (k+1)) (M:=18014400656965632) hdl.1 (by omega)
 have hhl:=hi_lo hR (ys:=ys) (r:=r)
 have hhl2:loI f n B ys≤hiI f n B ys+1:=by unfold loI hiI;rw [← hr];exact hhl
 obtain ⟨am,cm,al,cl,hBW,hmin,hlam⟩:=(hW.keep hK).open hn.1
 obtain ⟨pr,cr,hcr,hrow⟩:=hlam k hk
 rw [← hyl] at hcr hrow
 refine calls_of_St (args:=[_,_,_,_]) Tryz.func137 rfl Tryz.ntmps137 rfl ?_
 (iterate 6 refine Nv ?_;try refine .r rfl ?_)
 (refine .s (RunsTo.load TBok rfl rfl rfl (Blk.cell upp rfl)).op ?_;rintro _ _ ⟨rfl,rfl⟩)
 refine .r rfl ?_
 refine .a 2 (.int .i64 ((k+1:Nat):Int)) rfl (i64_succ (by omega)) ?_
 refine .p (RunsTo.ia) ?_
 refine .p (RunsTo.load TBok rfl rfl rfl (hmin (k+1) (by omega))) ?_
 (iterate 6 refine Nv ?_;try refine .r rfl ?_)
 (refine .s (RunsTo.load TBok rfl rfl rfl (Blk.cell upp rfl)).op ?_;rintro _ _ ⟨rfl,rfl⟩)
 refine .r rfl ?_
 refine .p (RunsTo.ia) ?_
 refine .p (RunsTo.load TBok rfl rfl rfl hcr) ?_
 (iterate 6 refine Nv ?_;try refine .r rfl ?_)
 refine St.rngG TBok (35) (0) (ys.length) (by omega) (fun g:Int=>[(0,.pointer (some ⟨bw,0,none⟩)),(1,.int .i64 k),(2,.int .i64 (reI f n B ys)),(3,.func (.yield L) #[] #[]),(9,.int .i64 (ddI f (k+1))),(10,.int .i64 g),(33,.slice pr ys.length cr),(34,.int .i64 ys.length)]) (fun i g w'=>w'=w∧g=sumN i (fun j=>stI f k 0 (j+1) * yv ys j)) (0) sbb ?_ (fun _ _=>⟨rfl,rfl⟩) (fun _ _=>rfl) (fun _ _=>⟨rfl,rfl⟩) (fun _=>rfl) (fun _=>rfl) (by omega) ?_ ?_
 ·exact ⟨rfl,rfl⟩
 ·rintro i g w1 hi ⟨rfl,rfl⟩
  obtain ⟨ar,rfl,hcell⟩:=hrow (by omega)
  have hyi:(xs.map i64)[k+1+i]?=some (.int .i64 (yv ys i)):=by
   have h1:(xs.drop (k+1))[i]?=some (yv ys i):=by
    rw [← hys]
    unfold yv
    rw [List.getD_eq_getElem?_getD,List.getElem?_eq_getElem hi]
    rfl
   rw [List.getElem?_drop] at h1
   simp [h1]
  have hst:=st_half hR (k:=k) (j:=i) (by omega)
  have hab:=aS_at ys i
  have hpr:=mul_bnd (x:=stI f k 0 (i+1)) (y:=yv ys i) (a:=32768) (b:=549755813888) (by omega) (by omega)
  have hps:=sumN_bnd (M:=18014398509481984) (g:=fun j=>stI f k 0 (j+1) * yv ys j) i (fun j hj=>by
   have h1:=st_half hR (k:=k) (j:=j) (by omega)
   have h2:=aS_at ys j
   have h3:=mul_bnd (x:=stI f k 0 (j+1)) (y:=yv ys j) (a:=32768) (b:=549755813888) (by omega) (by omega)
   omega)
  have hi8:(i:Int) * 18014398509481984≤8 * 18014398509481984:=Int.mul_le_mul_of_nonneg_right (by omega) (by omega)
  have hsucc:sumN (i+1) (fun j=>stI f k 0 (j+1) * yv ys j)=sumN i (fun j=>stI f k 0 (j+1) * yv ys j)+stI f k 0 (i+1) * yv ys i:=rfl
  refine Nv ?_
  refine .r rfl ?_
  refine .p (RunsTo.ia) ?_
  refine .p (RunsTo.load TBok rfl rfl rfl (hcell i hi)) ?_
  (iterate 6 refine Nv ?_;try refine .r rfl ?_)
  (refine .s (RunsTo.load TBok rfl rfl rfl (Blk.cell upp rfl)).op ?_;rintro _ _ ⟨rfl,rfl⟩)
  refine .a 2 (.int .i64 ((k+1:Nat):Int)) rfl (i64_succ (by omega)) ?_
  refine .a 2 (.int .i64 ((k+1+i:Nat):Int)) rfl (by rw [i64_id (by omega) (by omega)];rfl) ?_
  refine .p (RunsTo.ia) ?_
  refine .p (RunsTo.load TBok rfl rfl rfl (show w1.cell? (Addr.add ⟨bx,0,none⟩ (k+1+i))=some (.int .i64 (yv ys i)) by rw [addr_add,Nat.zero_add];exact hX.cell hyi)) ?_
  refine .a 1 (.int .i64 (stI f k 0 (i+1) * yv ys i)) rfl (by rw [i64_id (by omega) (by omega)]) ?_
  refine .a 1 (.int .i64 (sumN (i+1) (fun j=>stI f k 0 (j+1) * yv ys j))) rfl (by rw [hsucc,i64_id (by omega) (by omega)]) ?_
  (iterate 6 refine Nv ?_;try refine .r rfl ?_)
  exact Out.rndG _ sbb ⟨rfl,rfl⟩
 ·rintro g w1 ⟨rfl,rfl⟩
  have hlid:sumN ys.length (fun j=>stI f k 0 (j+1) * yv ys j)=liI f n ys:=by unfold liI;rw [hd0]
  rw [hlid]
  have hsqe:ddI f k * reI f n B ys=sqI f n B ys:=by rw [sqI_re,hd0]
  have hsqa:((sqI f n B ys).natAbs:Int)=sqI f n B ys:=by omega
  (iterate 6 refine Nv ?_;try refine .r rfl ?_)
  (refine .s (RunsTo.load TBok rfl rfl rfl (Blk.cell upp rfl)).op ?_;rintro _ _ ⟨rfl,rfl⟩)
  refine .r rfl ?_
  refine .p (RunsTo.ia) ?_
  refine .p (RunsTo.load TBok rfl rfl rfl (hmin k (by omega))) ?_
  refine .a 2 (.int .i64 (sqI f n B ys)) rfl (by rw [hsqe,i64_id (by omega) (by omega)]) ?_
  rw [← hsqa]
  (iterate 6 refine Nv ?_;try refine .r rfl ?_)
  refine .s (OpR.call fn_schur_root rfl (root_spec w1 (sqI f n B ys).natAbs (by omega))) ?_
  rintro _ w2 ⟨rfl,rfl⟩
  rw [← hr]
  refine .r rfl ?_
  refine Nv ?_
  refine .a 3 (.int .i64 ((r:Int)+liI f n ys)) rfl (by rw [i64_id (by omega) (by omega)]) ?_
  refine .r rfl ?_
  refine .s (OpR.call fn_schur_floor rfl (floor_spec w2 _ _ hdl.1 (by omega))) ?_
  rintro _ w3 ⟨rfl,rfl⟩
  refine .a 1 (.int .i64 (loI f n B ys)) rfl (by rw [hlo,i64_id (by omega) (by omega),Int.zero_sub]) ?_
  refine .a 3 (.int .i64 ((r:Int) - liI f n ys)) rfl (by rw [i64_id (by omega) (by omega)]) ?_
  refine .r rfl ?_
  refine .s (OpR.call fn_schur_floor rfl (floor_spec w3 _ _ hdl.1 (by omega))) ?_
  rintro _ w4 ⟨rfl,rfl⟩
  rw [← hhi]
  refine .r rfl ?_
  refine StL.nil (Out.then_normal (St.seq (St.seq ?_)))
  rw [hsqa]
  obtain ⟨c,hc⟩:∃ c,c=hiI f n B ys - loI f n B ys+1:=⟨_,rfl⟩
  refine St.sub (E':=[(0,.pointer (some ⟨bw,0,none⟩)),(1,.int .i64 k),(3,.func (.yield L) #[] #[]),(9,.int .i64 (ddI f (k+1))),(10,.int .i64 (liI f n ys)),(13,.int .i64 (sqI f n B ys)),(15,.int .i64 (loI f n B ys)),(16,.int .i64 (hiI f n B ys))]) ?_ sbb
  have hc0:0≤c:=by omega
  have hcb:c≤4611686018427387904:=by omega
  obtain ⟨R,hL,hsz,hround⟩:=hY.round s w4 ys.length c hI (by omega) hc0 hcb hK.1
  refine St.yieldAt 12 ?_ rfl ?_
  ·repeat first | exact noOut | refine noOutThen ?_ | refine noOutBlock ?_
  refine .r rfl ?_
  (refine .s (RunsTo.load TBok rfl rfl rfl (Blk.cell upp rfl)).op ?_;rintro _ _ ⟨rfl,rfl⟩)
  refine .a 3 (.int .i64 ((ys.length+1:Nat):Int)) rfl (by rw [i64_id (by omega) (by omega)];congr 1;omega) ?_
  refine .a 3 (.int .i64 (hiI f n B ys - loI f n B ys)) rfl (by rw [i64_id (by omega) (by omega)]) ?_
  refine .a 1 (.int .i64 c) rfl (by rw [hc,i64_id (by omega) (by omega)]) ?_
  refine StL.nil (Out.yield rfl rfl hL (by rw [hsz];rfl) rfl ?_ rfl hround ?_)
  ·repeat first | exact noOut | refine noOutThen ?_ | refine noOutBlock ?_
  rintro b w5 ⟨hkeep,hsz5,hno,hyes⟩
  have hK5:KeepX bx wM w5:=⟨Nat.le_trans hK.1 hsz5,fun j h1 h2=>(hkeep j (by omega) h2).trans (hK.2 j h1 h2)⟩
  have hX5:Blk 2 w5 bx (xs.map i64):=(hkeep bx (Nat.le_refl _) (by obtain ⟨h0,_,_,_,h1,_⟩:=hW;have:=h1.lt;omega)).trans hX
  have hvis:visN f n B (k+1) ys s=if s.1<c then none else visL (fun x s=>visN f n B k (x::ys) s) c.toNat (loI f n B ys) (s.1 - c,bump s.2 ys.length c):=by rw [hc];rfl
  by_cases hlt:s.1<c
  ·obtain ⟨rfl,hX'⟩:=hno hlt
   rw [if_pos hlt] at hvis
   (iterate 6 refine Nv ?_;try refine .r rfl ?_)
   refine .cT ?_
   (iterate 6 refine Nv ?_;try refine .r rfl ?_)
   exact Out.ret1 rfl rfl ⟨fun _=>⟨rfl,hX'⟩,fun s' h=>by rw [hvis] at h;cases h⟩
  obtain ⟨rfl,hI5⟩:=hyes hlt
  rw [if_neg hlt] at hvis
  (iterate 6 refine Nv ?_;try refine .r rfl ?_)
  refine .cF ?_
  (iterate 6 refine Nv ?_;try refine .r rfl ?_)
  by_cases hk0:k=0
  ·refine St.condT rfl (by rw [hk0];rfl) ?_
   have hv2:visN f n B (k+1) ys s=some (s.1 - c,bump s.2 ys.length c):=by
    rw [hvis,hk0]
    exact visL_const _ _ _
   (iterate 6 refine Nv ?_;try refine .r rfl ?_)
   exact Out.ret1 rfl rfl ⟨fun h=>(by rw [hv2] at h;cases h),fun s' h=>by rw [hv2] at h;cases h;exact ⟨rfl,hI5,hK5,xs,hX5,hxl,hys.symm⟩⟩
  refine St.condF rfl (beq_eq_false_iff_ne.2 (by omega)) ?_
  obtain ⟨k',rfl⟩:∃ k',k=k'+1:=⟨k - 1,by omega⟩
  have ihk:=ih k' rfl
  (iterate 6 refine Nv ?_;try refine .r rfl ?_)
  refine St.loop (α:=Int×(Int×List Int)×List Int) (fun g=>[(0,.pointer (some ⟨bw,0,none⟩)),(1,.int .i64 ((k'+1:Nat):Int)),(3,.func (.yield L) #[] #[]),(9,.int .i64 (ddI f (k'+1+1))),(10,.int .i64 (liI f n ys)),(13,.int .i64 (sqI f n B ys)),(16,.int .i64 (hiI f n B ys)),(17,.int .i64 g.1)])
   (fun g w'=>(loI f n B ys≤g.1∧g.1≤hiI f n B ys+1)∧visL (fun x s=>visN f n B (k'+1) (x::ys) s) (hiI f n B ys+1 - g.1).toNat g.1 g.2.1=visN f n B (k'+1+1) ys s∧KeepX bx wM w'∧Blk 2 w' bx (g.2.2.map i64)∧g.2.2.length=n∧g.2.2.drop (k'+1+1)=ys∧I g.2.1 w') (fun g=>(hiI f n B ys+1 - g.1).toNat) (loI f n B ys,(s.1 - c,bump s.2 ys.length c),xs) sbb ?_ ?_
  ·refine ⟨⟨Int.le_refl _,hhl2⟩,?_,hK5,hX5,hxl,hys.symm,hI5⟩
   rw [hvis]
   show visL _ (hiI f n B ys+1 - loI f n B ys).toNat _ _=_
   rw [show hiI f n B ys+1 - loI f n B ys=c by omega]
  ·rintro ⟨x,s1,xs1⟩ w6 ⟨⟨hx1,hx2⟩,hvl,hK6,hX6,hxl6,hdr6,hI6⟩
   dsimp only at hx1 hx2 hvl hX6 hxl6 hdr6 hI6 ⊢
   (iterate 6 refine Nv ?_;try refine .r rfl ?_)
   by_cases hle:x≤hiI f n B ys
   ·refine St.condT rfl (decide_eq_true hle) ?_
    obtain ⟨am',cm',al',cl',hBW',_,_⟩:=(hW.keep hK6).open hn.1
    have hre':=(in_iff hR (show ys.length<n by omega) hsq0 x).1 ⟨hx1,hle⟩
    have hbx:=tail_bound hR hn.2 (R:=2147483648) hB.1 (by omega) (x::ys) (by rw [List.length_cons];omega) hre'
    have hpow':(2:Nat) ^ (x::ys).length≤2 ^ 8:=Nat.pow_le_pow_right (by decide) (by rw [List.length_cons];omega)
    have hxb:x.natAbs≤549755813888:=by
     have h1:=Nat.mul_le_mul_left 2147483648 hpow'
     have e8:(2:Nat) ^ 8=256:=by decide
     have h2:=aS_at (x::ys) 0
     rw [yv_zero] at h2
     omega
    have hdx:=mul_bnd (x:=ddI f (k'+1+1)) (y:=x) (a:=65536) (b:=549755813888) (by omega) (by omega)
    have hstep:=re_step hR (show ys.length<n by omega) B x
    rw [hd1] at hstep
    obtain ⟨u,hu⟩:∃ u,u=ddI f (k'+1+1) * x+liI f n ys:=⟨_,rfl⟩
    rw [← hu] at hstep
    have huu:=sq_nn u
    have hdre:=Int.mul_nonneg (show 0≤ddI f (k'+1+1) by omega) hre'
    have hquo:(sqI f n B ys - u * u).tdiv (ddI f (k'+1+1))=reI f n B (x::ys):=by
     rw [hstep]
     exact Int.mul_tdiv_cancel_left _ (by omega)
    have hdrop:(xs1.set (k'+1) x).drop (k'+1)=x::ys:=by rw [drop_set (by omega),hdr6]
    have hlt6:k'+1<(xs1.map i64).length:=by rw [List.length_map];omega
    (iterate 6 refine Nv ?_;try refine .r rfl ?_)
    (refine .s (RunsTo.load TBok rfl rfl rfl (Blk.cell upp rfl)).op ?_;rintro _ _ ⟨rfl,rfl⟩)
    refine .r rfl ?_
    refine StL.put TBok (k'+1) hX6 rfl hk (by rw [List.length_map];omega) rfl rfl rfl rfl rfl rfl rfl rfl (fun _=>rfl) (fun _=>rfl) rfl rfl ?_
    intro p7 w7 hX7 hu7
    rw [Nat.zero_add,show (xs1.map i64).set (k'+1) (.int .i64 x)=(xs1.set (k'+1) x).map i64 from by rw [List.map_set]] at hX7
    have hK7:KeepX bx wM w7:=⟨Nat.le_trans hK6.1 hu7.size,fun j h1 h2=>(hu7.block j (Nat.lt_of_lt_of_le h2 hK6.1) (by omega)).trans (hK6.2 j h1 h2)⟩
    have hI7:=hY.stable s1 w6 w7 hI6 hu7
    refine Nv ?_
    refine .a 3 (.int .i64 (ddI f (k'+1+1) * x)) rfl (by rw [i64_id (by omega) (by omega)]) ?_
    refine .a 2 (.int .i64 u) rfl (by rw [hu,i64_id (by omega) (by omega)]) ?_
    refine .r rfl ?_
    refine Nv ?_
    refine .a 3 (.int .i64 ((k':Nat):Int)) rfl (by rw [i64_id (by omega) (by omega)];congr 1;omega) ?_
    refine .a 4 (.int .i64 (u * u)) rfl (by rw [i64_id (by omega) (by omega)]) ?_
    refine .a 1 (.int .i64 (sqI f n B ys - u * u)) rfl (by rw [i64_id (by omega) (by omega)]) ?_
    refine .r rfl ?_
    refine .p (RunsTo.quoZ rfl rfl (by omega) (by omega)) ?_
    rw [hquo]
    refine .r rfl ?_
    have hcall:=ihk (xs1.set (k'+1) x) s1 w7 hK7 hX7 (by rw [List.length_set];exact hxl6) hI7 (by rw [hdrop];exact hre')
    rw [hdrop] at hcall
    refine .s (OpR.call fn_schur_walk_visit rfl hcall) ?_
    rintro y w8 ⟨hnone,hsome⟩
    have hj:(hiI f n B ys+1 - x).toNat=(hiI f n B ys+1 - (x+1)).toNat+1:=by omega
    rw [hj] at hvl
    have hvl2:(match visN f n B (k'+1) (x::ys) s1 with | none=>none | some s'=>visL (fun x s=>visN f n B (k'+1) (x::ys) s) (hiI f n B ys+1 - (x+1)).toNat (x+1) s')=visN f n B (k'+1+1) ys s:=hvl
    cases hv:visN f n B (k'+1) (x::ys) s1 with
    | none =>
     obtain ⟨rfl,hX8⟩:=hnone hv
     rw [hv] at hvl2
     (iterate 6 refine Nv ?_;try refine .r rfl ?_)
     refine .cT ?_
     (iterate 6 refine Nv ?_;try refine .r rfl ?_)
     exact Out.ret1 rfl rfl ⟨fun _=>⟨rfl,hX8⟩,fun s' h=>by rw [← hvl2] at h;cases h⟩
    | some s2 =>
     obtain ⟨rfl,hI8,hK8,xs2,hX8,hxl8,hdr8⟩:=hsome s2 hv
     rw [hv] at hvl2
     (iterate 6 refine Nv ?_;try refine .r rfl ?_)
     refine .cF ?_
     refine Nv ?_
     refine .a 2 (.int .i64 (x+1)) rfl (by rw [i64_id (by omega) (by omega)]) ?_
     (iterate 6 refine Nv ?_;try refine .r rfl ?_)
     refine Out.again (x+1,s2,xs2) sbb ⟨⟨by show _≤x+1;omega,by show x+1≤_;omega⟩,hvl2,hK8,hX8,hxl8,?_,hI8⟩ (by show (hiI f n B ys+1 - (x+1)).toNat<(hiI f n B ys+1 - x).toNat;omega)
     show xs2.drop (k'+1+1)=ys
     rw [← List.drop_drop (i:=1),hdr8]
     rfl
   ·refine St.condF rfl (decide_eq_false hle) ?_
    have hx3:x=hiI f n B ys+1:=by omega
    have hv3:visN f n B (k'+1+1) ys s=some s1:=by
     rw [← hvl,show (hiI f n B ys+1 - x).toNat=0 by omega]
     rfl
    (iterate 6 refine Nv ?_;try refine .r rfl ?_)
    exact Out.ret1 rfl rfl ⟨fun h=>(by rw [hv3] at h;cases h),fun s' h=>by rw [hv3] at h;cases h;exact ⟨rfl,hI6,hK6,xs1,hX6,hxl6,hdr6.trans rfl⟩⟩
def WAI (P:Program) (n:Nat) (l:List Oper) (Q:Exit→Act→World→Prop) (fuel:Nat) (listed:Array Bool) (E:List (Nat×Value)) (w:World):Prop:=∀ a,Fits n E a→wpAnyIn (wR none) 0 P .any l.toArray Q fuel listed a w
section
variable {P:Program} {T:List (Nat×TI)} {n:Nat} {l:List Oper} {Q:Exit→Act→World→Prop} {fuel:Nat} {listed:Array Bool} {E:List (Nat×Value)} {w:World}
theorem St.anyI {id:Nat} {k:Nat} (hP:P.follows .mixedOrders=true) (hk:l.length=k) (h:∀ w1,Ext w w1→w1.heap=w.heap→WAI P n l Q k (Array.replicate k false) E w1):St P n E w (.region id l.toArray true) Q:=by
 intro a ha
 subst hk
 refine wpIn_wide.1 (wpIn_region_any (F:=Fence.wide) (n:=0) hP ?_)
 have:=h { w with drawn:=w.drawn+1 } ⟨rfl,rfl,rfl,Nat.le_refl _,fun _ _=>rfl⟩ rfl a ha
 have e:l.toArray.size=l.length:=by simp
 rw [e]
 exact this
theorem WAI.meet {α:Type} (f2:Nat) (listed2:Array Bool) (Em:α→List (Nat×Value)) (I:α→World→Prop) (fin:∀ g w,I g w→WAI P n l Q f2 listed2 (Em g) w)
  (paths:(∀ g w E' L',listed2=L'→I g w→Sub (Em g) E'→WAI P n l Q f2 L' E' w)→WAI P n l Q fuel listed E w):WAI P n l Q fuel listed E w:=by
 refine paths ?_
 rintro g w E' L' rfl hI hs a ha
 exact fin g w hI a (ha.sub hs)
theorem WAI.take (i:Nat) {o:Oper} {d:Nat} {v:Value} (ho:l.toArray[i]?=some o) (hd:o.dst=some d) (hs:Region.noSelect l.toArray=true) (hf:Region.free .any l.toArray listed i=true) (hr:(Region.ready .any l.toArray listed).contains i=true)
  (hQ:∀ c a w,Q (.panic c) (a.put o.dst v) w→Q (.panic c) a w) (hw:wantE l.toArray E o.guard=some true) (hn:Nat.blt d n=true) (hab:∀ w ρ,o.about P w ρ=none) (hy:∀ w,RunsTo P n o E w v) (next:WAI P n l Q fuel (listed.setIfInBounds i true) ((d,v)::E) w):WAI P n l Q (fuel+1) listed E w:=by
 intro a ha
 refine wpAnyIn_take (F:=wR none) rfl ho hs hf hr hQ ⟨.inl ⟨wantE_spec ha hw,fun w'=>hy w' a ha⟩,fun w=>hab w _⟩ (next _ ?_)
 rw [hd]
 exact ha.put hn v
def WOpI (P:Program) (n:Nat) (l:List Oper) (Q:Exit→Act→World→Prop) (fuel:Nat) (listed:Array Bool) (E:List (Nat×Value)) (w:World) (i:Nat):Prop:=∀ a,Fits n E a→wpOpIn (wR none) 0 P l.toArray Q i (wpAnyIn (wR none) 0 P .any l.toArray Q fuel (listed.setIfInBounds i true)) a w
theorem WOpI.val {i:Nat} {o:Oper} {d:Nat} {Φ:Value→World→Prop} (ho:l.toArray[i]?=some o) (hd:o.dst=some d) (hnd:∀ c,o.op≠.defer c) (hw:wantE l.toArray E o.guard=some true) (hn:Nat.blt d n=true) (h:OpR P n o E w Φ) (next:∀ v w',Φ v w'→WAI P n l Q fuel (listed.setIfInBounds i true) ((d,v)::E) w'):WOpI P n l Q fuel listed E w i:=by
 intro a ha
 unfold wpOpIn
 simp only [ho]
 rw [if_pos (wantE_spec ha hw)]
 exact opIn hnd (h a ha Q _ fun v w' hv=>next v w' hv _ (by rw [hd];exact ha.put hn v))
theorem WAI.one {i:Nat} (hr:Region.ready .any l.toArray listed=[i]) (h:WOpI P n l Q fuel listed E w i):WAI P n l Q (fuel+1) listed E w:=by
 intro a ha
 refine wpAnyIn_all hr (by simp) ?_
 intro j hj
 simp only [List.mem_singleton] at hj
 subst hj
 exact h a ha
theorem WAI.two {i j:Nat} (hr:Region.ready .any l.toArray listed=[i,j]) (h:WOpI P n l Q fuel listed E w i) (h':WOpI P n l Q fuel listed E w j):WAI P n l Q (fuel+1) listed E w:=by
 intro a ha
 refine wpAnyIn_all hr (by simp) ?_
 intro k hk
 simp only [List.mem_cons,List.not_mem_nil,or_false] at hk
 rcases hk with rfl | rfl
 ·exact h a ha
 ·exact h' a ha
theorem WAI.yield {i L:Nat} {r:Loop} {d:Nat} {x:Operand} {args:Array Operand} {tys:Array TypeId} {ty:TypeId} {pos:String} {af:Array Edge} {vs:List Value} {Ψ:Bool→World→Prop}
  (hr:Region.ready .any l.toArray listed=[i]) (ho:l.toArray[i]?=some ⟨some d,.call ⟨.value x,args,tys⟩,ty,pos,af,none⟩) (hdone:Region.ready .any l.toArray (listed.setIfInBounds i true)=[])
  (hx:ov E x=some (.func (.yield L) #[] #[])) (hargs:ovs E args.toList=some vs) (hL:w.heap[L]?=some (.loop r)) (hsz:vs.length=r.params.size) (hdn:Nat.blt d n=true)
  (hround:RoundIn (wR none) 0 P L r.fn (roundTmps r vs) r.assign r.body w (fun e w2=>∃ b,e=.returned (.bool b)∧Ψ b w2)) (next:∀ b w2,Ψ b w2→Out n ((d,.bool b)::E) w2 .normal Q) :
  WAI P n l Q (fuel+1) listed E w:=by
 refine WAI.one hr ?_
 intro a ha
 unfold wpOpIn
 simp only [ho]
 rw [if_pos (by simp [Region.wanted])]
 refine ⟨fun _ _=>trivial,?_⟩
 have hm:=ovs_map ha _ _ hargs
 have hA:args.map a.eval=vs.toArray:=by
  rw [← hm]
  apply Array.toList_inj.1
  simp
 have hev:=ha.eval hx
 have hrun:(Oper.semAt (wR none).round a.eval ⟨some d,.call ⟨.value x,args,tys⟩,ty,pos,af,none⟩).run P w=.ok (.round L r.fn (roundTmps r vs) r.assign r.body) w:=by
  show (execOp a.eval ⟨some d,.call ⟨.value x,args,tys⟩,ty,pos,af,none⟩).run P w=_
  simp only [execOp,resolve,hev,Deferred.ofValue,hA,Sem.run_bind,Sem.run_pure,Result.andThen_ok,invoke]
  rw [show (#[]:Array Value)++vs.toArray=vs.toArray from by simp]
  exact run_yield hL hsz
 rw [hrun]
 refine ⟨fun e=>by simp [Fence.wide] at e,RoundIn.mono hround ?_⟩
 rintro e w2 ⟨b,rfl,hb⟩
 exact wpAnyIn_done hdone (next b w2 hb _ (ha.put hdn _)) _
theorem Out.norm {fn:Func} {R:Ending→World→Prop} (h:Out n E w .ret (bodyPost P fn R)):Out n E w .normal (bodyPost P fn R):=h
end
theorem visit_spec {bw bx n L:Nat} {f:Nat→Nat→Int} {B:Int} {wM:World} {I:Int×List Int→World→Prop} {X:World→Prop} (hR:RedF n f) (hn:1≤n∧n≤8) (hB:0≤B∧B<1073741824) (hW:WkV wM bw bx n f B) (hY:Yc bx wM.heap.size L I X n):∀ k,k<n→VisitAt bw bx n L f B wM I X k:=by
 intro k
 induction k with
 | zero=>exact fun hk=>visit_step hR hn hB hW hY hk (fun k' e=>by omega)
 | succ k ih=>exact fun hk=>visit_step hR hn hB hW hY hk (fun k' e=>by
   have e2:k'=k:=by omega
   subst e2
   exact ih (by omega))
theorem one_root {d B:Nat} (hd:0<d):rtN (d * B) / d=rtN (B / d):=by
 refine (IsRoot.rt ⟨?_,?_⟩)
 ·refine (Nat.le_div_iff_mul_le hd).2 ?_
  have h1:=Nat.div_mul_le_self (rtN (d * B)) d
  have h2:=(rtN_root (d * B)).1
  have h3:=Nat.mul_le_mul h1 h1
  generalize rtN (d * B) / d=q at *
  have h4:q * d * (q * d)=d * (q * q * d):=by grind
  have h5:d * (q * q * d)≤d * B:=by omega
  exact Nat.le_of_mul_le_mul_left h5 hd
 ·refine (Nat.div_lt_iff_lt_mul hd).2 ?_
  have h1:=Nat.lt_div_mul_add (a:=rtN (d * B)) hd
  have h2:=(rtN_root (d * B)).2
  generalize rtN (d * B) / d=q at *
  have h3:rtN (d * B)+1≤(q+1) * d:=by rw [Nat.add_mul,Nat.one_mul];omega
  have h4:=Nat.mul_le_mul h3 h3
  have h5:(q+1) * d * ((q+1) * d)=d * ((q+1) * (q+1) * d):=by grind
  have h6:d * B<d * ((q+1) * (q+1) * d):=by omega
  exact Nat.lt_of_mul_lt_mul_left h6
theorem visN_one {f:Nat→Nat→Int} {B:Int} {s:Int×List Int} (hR:RedF 1 f) (hB:0≤B):visN f 1 B 1 [] s=if s.1<2 * (rtN (B.toNat / (ddI f 1).toNat):Int)+1 then none else some (s.1 - (2 * (rtN (B.toNat / (ddI f 1).toNat):Int)+1),bump s.2 0 (2 * (rtN (B.toNat / (ddI f 1).toNat):Int)+1)):=by
 have hd:=ddI_pos hR.pos (Nat.le_refl 1)
 have hsq:sqI f 1 B []=ddI f 1 * B:=by
  rw [sqI_re,re_nil]
  show ddI f 0 * _=_
  rw [ddI_zero];omega
 have hna:(sqI f 1 B []).natAbs=(ddI f 1).toNat * B.toNat:=by
  rw [hsq,Int.natAbs_mul]
  congr 1 <;> omega
 have hli:liI f 1 []=0:=rfl
 have hq:=one_root (d:=(ddI f 1).toNat) (B:=B.toNat) (by omega)
 have hdiv:((rtN ((ddI f 1).toNat * B.toNat):Nat):Int) / ddI f 1=(rtN (B.toNat / (ddI f 1).toNat):Int):=by
  rw [← hq]
  have:ddI f 1=(((ddI f 1).toNat:Nat):Int):=by omega
  rw [Int.natCast_ediv]
  rw [← this]
 have hlo:loI f 1 B []=-(rtN (B.toNat / (ddI f 1).toNat):Int):=by
  unfold loI ivLo
  rw [hna,hli,Int.zero_add]
  show -(_ / ddI f 1)=_
  rw [hdiv]
 have hhi:hiI f 1 B []=(rtN (B.toNat / (ddI f 1).toNat):Int):=by
  unfold hiI ivHi
  rw [hna,hli,Int.sub_zero]
  show _ / ddI f 1=_
  rw [hdiv]
 have hc:hiI f 1 B [] - loI f 1 B []+1=2 * (rtN (B.toNat / (ddI f 1).toNat):Int)+1:=by omega
 show (if s.1<hiI f 1 B [] - loI f 1 B []+1 then none else visL (fun x s=>some s) _ _ _)=_
 rw [visL_const,hc]
 rfl
set_option maxHeartbeats 3200000 in
theorem tails_spec {bw bx n L:Nat} {f:Nat→Nat→Int} {B:Int} {wM w:World} {I:Int×List Int→World→Prop} {X:World→Prop} {s:Int×List Int} {xs:List Int} (hR:RedF n f) (hn:1≤n∧n≤8) (hB:0≤B∧B≤4611686018427387904) (hB2:n≠1→B<1073741824) (hW:WkV wM bw bx n f B) (hY:Yc bx wM.heap.size L I X n)
  (hK:KeepX bx wM w) (hX:Blk 2 w bx (xs.map i64)) (hxl:xs.length=n) (hI:I s w) :
  Calls Tryz.prog 74 #[.pointer (some ⟨bw,0,none⟩),.func (.yield L) #[] #[]] w (Ret fun _ w'=>(visN f n B n [] s=none→X w')∧∀ s',visN f n B n [] s=some s'→I s' w'):=by
 obtain ⟨am,cm,al,cl,hBW,hmin,_⟩:=(hW.keep hK).open hn.1
 refine calls_of_St (args:=[_,_]) Tryz.func74 rfl Tryz.ntmps74 rfl ?_
 (iterate 6 refine Nv ?_;try refine .r rfl ?_)
 (refine .s (RunsTo.load TBok rfl rfl rfl (Blk.cell upp rfl)).op ?_;rintro _ _ ⟨rfl,rfl⟩)
 (iterate 6 refine Nv ?_;try refine .r rfl ?_)
 by_cases h1:n=1
 ·refine St.condT rfl (by rw [h1];rfl) ?_
  subst h1
  have hd:=hR.ddI_lt hn.2 (Nat.le_refl 1)
  obtain ⟨q,hq⟩:∃ q,q=rtN (B.toNat / (ddI f 1).toNat):=⟨_,rfl⟩
  have hqb:q≤2147483648:=by
   have h2:=(rtN_root (B.toNat / (ddI f 1).toNat)).1
   rw [← hq] at h2
   have h3:=Nat.div_le_self B.toNat (ddI f 1).toNat
   rcases Nat.lt_or_ge 2147483648 q with h4 | h4
   ·have:=Nat.mul_le_mul h4 h4;omega
   ·exact h4
  have hvis:=visN_one (B:=B) (s:=s) hR hB.1
  rw [← hq] at hvis
  refine Nv ?_
  refine St.sub (E':=[(0,.pointer (some ⟨bw,0,none⟩)),(1,.func (.yield L) #[] #[])]) ?_ sbb
  refine St.anyI TBfol rfl ?_
  intro w1 hx1 hh1
  have hBW1:=hBW.ext hx1
  have hm1:=hx1.cell (hmin 1 (by omega))
  have hI1:I s w1:=hY.stable s w w1 hI (hx1.upd bx)
  obtain ⟨R,hL,hsz,hround⟩:=hY.round s w1 0 (2 * (q:Int)+1) hI1 (by omega) (by omega) (by omega) (by rw [hh1];exact hK.1)
  refine WAI.take 0 rfl rfl (by kernel_rfl) (by kernel_rfl) (by kernel_rfl) (fun _ _ _ h=>h) rfl rfl (fun _ _=>rfl) (fun w=>RunsTo.pure TBok rfl) ?_
  refine WAI.take 1 rfl rfl (by kernel_rfl) (by kernel_rfl) (by kernel_rfl) (fun _ _ _ h=>h) rfl rfl (fun _ _=>rfl) (fun w=>RunsTo.pure TBok rfl) ?_
  refine WAI.take 2 rfl rfl (by kernel_rfl) (by kernel_rfl) (by kernel_rfl) (fun _ _ _ h=>h) rfl rfl (fun _ _=>rfl) (fun w=>RunsTo.pure TBok rfl) ?_
  refine WAI.take 3 rfl rfl (by kernel_rfl) (by kernel_rfl) (by kernel_rfl) (fun _ _ _ h=>h) rfl rfl (fun _ _=>rfl) (fun w=>RunsTo.pure TBok rfl) ?_
  refine WAI.take 5 rfl rfl (by kernel_rfl) (by kernel_rfl) (by kernel_rfl) (fun _ _ _ h=>h) rfl rfl (fun _ _=>rfl) (fun w=>RunsTo.pure TBok rfl) ?_
  refine WAI.take 6 rfl rfl (by kernel_rfl) (by kernel_rfl) (by kernel_rfl) (fun _ _ _ h=>h) rfl rfl (fun _ _=>rfl) (fun w=>RunsTo.pure TBok rfl) ?_
  refine WAI.take 7 rfl rfl (by kernel_rfl) (by kernel_rfl) (by kernel_rfl) (fun _ _ _ h=>h) rfl rfl (fun _ _=>rfl) (fun w=>RunsTo.pure TBok rfl) ?_
  refine WAI.meet 5 #[true,true,true,true,true,true,true,true,true,true,true,false,false,false,false,false] (fun _:Unit=>[(12,.func (.yield L) #[] #[]),(16,.int .i64 B),(22,.int .i64 (ddI f 1))]) (fun _ w'=>w'=w1) ?_ ?_
  ·rintro _ w2 rfl
   refine WAI.one (i:=11) (by kernel_rfl) (WOpI.val rfl rfl (fun c e=>by cases e) rfl rfl (RunsTo.quoI B.toNat (ddI f 1).toNat rfl (by omega) rfl (by omega) (by omega) (by omega)).op ?_)
   rintro _ _ ⟨rfl,rfl⟩
   refine WAI.one (i:=12) (by kernel_rfl) (WOpI.val rfl rfl (fun c e=>by cases e) rfl rfl (OpR.call fn_schur_root rfl (root_spec _ _ (Nat.le_trans (Nat.div_le_self _ _) (by omega)))) ?_)
   rintro _ _ ⟨rfl,rfl⟩
   rw [← hq]
   refine WAI.take 13 (v:=.int .i64 (2 * (q:Int))) rfl rfl (by kernel_rfl) (by kernel_rfl) (by kernel_rfl) (fun _ _ _ h=>h) rfl rfl (fun _ _=>rfl) (fun w=>RunsTo.pure TBok (by show some (Value.int .i64 (IntKind.i64.wrap (2 * (q:Int))))=_;rw [i64_id (by omega) (by omega)])) ?_
   refine WAI.take 14 (v:=.int .i64 (2 * (q:Int)+1)) rfl rfl (by kernel_rfl) (by kernel_rfl) (by kernel_rfl) (fun _ _ _ h=>h) rfl rfl (fun _ _=>rfl) (fun w=>RunsTo.pure TBok (by show some (Value.int .i64 (IntKind.i64.wrap (2 * (q:Int)+1)))=_;rw [i64_id (by omega) (by omega)])) ?_
   refine WAI.yield (i:=15) (by kernel_rfl) rfl (by kernel_rfl) rfl rfl hL (by rw [hsz];rfl) rfl hround ?_
   rintro b w3 ⟨_,_,hno,hyes⟩
   refine Nv ?_
   refine Out.rets TBok [] rfl trivial ⟨fun h=>?_,fun s' h=>?_⟩
   ·rw [hvis] at h
    split at h
    ·exact (hno (by assumption)).2
    ·cases h
   ·rw [hvis] at h
    split at h
    ·cases h
    ·cases h
     exact (hyes (by assumption)).2
  ·intro meet
   refine WAI.two (i:=4) (j:=8) (by kernel_rfl) ?_ ?_
   ·refine WOpI.val rfl rfl (fun c e=>by cases e) rfl rfl (RunsTo.load TBok rfl rfl rfl (hBW1.cell rfl)).op ?_
    rintro _ _ ⟨rfl,rfl⟩
    refine WAI.one (i:=8) (by kernel_rfl) (WOpI.val rfl rfl (fun c e=>by cases e) rfl rfl (RunsTo.load TBok rfl rfl rfl (hBW1.cell rfl)).op ?_)
    rintro _ _ ⟨rfl,rfl⟩
    refine WAI.take 9 rfl rfl (by kernel_rfl) (by kernel_rfl) (by kernel_rfl) (fun _ _ _ h=>h) rfl rfl (fun _ _=>rfl) (fun w=>RunsTo.ia) ?_
    refine WAI.one (i:=10) (by kernel_rfl) (WOpI.val rfl rfl (fun c e=>by cases e) rfl rfl (RunsTo.load TBok rfl rfl rfl hm1).op ?_)
    rintro _ _ ⟨rfl,rfl⟩
    exact meet () _ _ _ (by kernel_rfl) rfl sbb
   ·refine WOpI.val rfl rfl (fun c e=>by cases e) rfl rfl (RunsTo.load TBok rfl rfl rfl (hBW1.cell rfl)).op ?_
    rintro _ _ ⟨rfl,rfl⟩
    refine WAI.take 9 rfl rfl (by kernel_rfl) (by kernel_rfl) (by kernel_rfl) (fun _ _ _ h=>h) rfl rfl (fun _ _=>rfl) (fun w=>RunsTo.ia) ?_
    refine WAI.two (i:=4) (j:=10) (by kernel_rfl) ?_ ?_
    ·refine WOpI.val rfl rfl (fun c e=>by cases e) rfl rfl (RunsTo.load TBok rfl rfl rfl (hBW1.cell rfl)).op ?_
     rintro _ _ ⟨rfl,rfl⟩
     refine WAI.one (i:=10) (by kernel_rfl) (WOpI.val rfl rfl (fun c e=>by cases e) rfl rfl (RunsTo.load TBok rfl rfl rfl hm1).op ?_)
     rintro _ _ ⟨rfl,rfl⟩
     exact meet () _ _ _ (by kernel_rfl) rfl sbb
    ·refine WOpI.val rfl rfl (fun c e=>by cases e) rfl rfl (RunsTo.load TBok rfl rfl rfl hm1).op ?_
     rintro _ _ ⟨rfl,rfl⟩
     refine WAI.one (i:=4) (by kernel_rfl) (WOpI.val rfl rfl (fun c e=>by cases e) rfl rfl (RunsTo.load TBok rfl rfl rfl (hBW1.cell rfl)).op ?_)
     rintro _ _ ⟨rfl,rfl⟩
     exact meet () _ _ _ (by kernel_rfl) rfl sbb
 ·refine St.condF rfl (beq_eq_false_iff_ne.2 (by omega)) ?_
  have hBB:=hB2 h1
  have hd:=hR.ddI_lt hn.2 (Nat.le_refl n)
  have hvis:=visit_spec hR hn ⟨hB.1,hBB⟩ hW hY (n - 1) (by omega)
  obtain ⟨m,hm⟩:∃ m,n=m+1:=⟨n - 1,by omega⟩
  have hdr:xs.drop (n - 1+1)=[]:=by rw [List.drop_eq_nil_iff];omega
  have hre:reI f n B []=ddI f n * B:=re_nil f n B
  have hmb:=mul_bnd (x:=ddI f n) (y:=B) (a:=65536) (b:=1073741824) (by omega) (by omega)
  have hm0:=Int.mul_nonneg (show 0≤ddI f n by omega) hB.1
  refine Nv ?_
  refine St.sub (E':=[(0,.pointer (some ⟨bw,0,none⟩)),(1,.func (.yield L) #[] #[]),(4,.int .i64 n)]) ?_ sbb
  refine St.flow 16 TBfol (by kernel_rfl) rfl (by kernel_rfl) rfl True.intro ?_
  refine FL.as TBok 3 (.int .i64 ((n - 1:Nat):Int)) rfl (by rw [i64_id (by omega) (by omega)];congr 1;omega) ?_
  refine FL.run TBok 99 rfl ?_
  refine FL.load (L:=[]) TBok rfl rfl rfl rfl rfl rfl upp (by simp) rfl ?_
  refine FL.run TBok 99 rfl ?_
  refine .on (fun _ _=>RunsTo.ia) ?_
  refine .on (fun _ hR=>RunsTo.load TBok rfl rfl rfl (hR.ext_nil.cell (hmin n (by omega)))) ?_
  refine FL.run TBok 99 rfl ?_
  refine FL.load (L:=[]) TBok rfl rfl rfl rfl rfl rfl upp (by simp) rfl ?_
  refine FL.as TBok 1 (.int .i64 (reI f n B [])) rfl (by rw [hre,i64_id (by omega) (by omega)]) ?_
  refine FL.run TBok 99 rfl ?_
  refine FL.endE rfl ?_
  rintro w1 hx1 _ _
  have hcall:=hvis xs s w1 ⟨Nat.le_trans hK.1 hx1.size,fun j h1 h2=>(hx1.block j (Nat.lt_of_lt_of_le h2 hK.1)).trans (hK.2 j h1 h2)⟩ (hX.ext hx1) hxl (hY.stable s w w1 hI (hx1.upd bx)) (by rw [hdr,hre];exact hm0)
  rw [hdr] at hcall
  refine .s (OpR.call fn_schur_walk_visit rfl hcall) ?_
  rintro y w2 ⟨hnone,hsome⟩
  rw [show n - 1+1=n by omega] at hnone hsome
  refine Nv ?_
  exact Out.norm (Out.rets TBok [] rfl trivial ⟨fun h=>(hnone h).2,fun s' h=>(hsome s' h).2.1⟩)
end Go.Qf
namespace Go.Qf
open Go Go.RowKit Go.Proofs
def cntI (f:Nat→Nat→Int) (n:Nat) (B:Int) (ys:List Int):Int:=hiI f n B ys - loI f n B ys+1
theorem cnt_nn {n:Nat} {f:Nat→Nat→Int} (h:RedF n f) (B:Int) (ys:List Int):0≤cntI f n B ys:=by
 have:=hi_lo h (ys:=ys) (r:=rtN (sqI f n B ys).natAbs)
 unfold cntI loI hiI
 omega
theorem visL_left {g:Int→Int×List Int→Option (Int×List Int)} {c:Int→Int} (hg:∀ x s s',0≤s.1→g x s=some s'→0≤s'.1∧s'.1≤s.1 - c x):∀ (j:Nat) (x:Int) (s s':Int×List Int),0≤s.1→visL g j x s=some s'→0≤s'.1∧s'.1≤s.1 - sumN j (fun i=>c (x+i))
 | 0,x,s,s',h0,h=>by
  unfold visL at h
  cases h
  show _∧s.1≤s.1 - 0
  omega
 | j+1,x,s,s',h0,h=>by
  unfold visL at h
  split at h
  ·cases h
  ·rename_i s1 h1
   have a1:=hg x s s1 h0 h1
   have a2:=visL_left hg j (x+1) s1 s' a1.1 h
   rw [sumN_front]
   have e:sumN j (fun i=>c (x+((i+1:Nat):Int)))=sumN j (fun i=>c (x+1+i)):=sumN_congr fun i _=>by congr 1;omega
   rw [e]
   have e0:c (x+((0:Nat):Int))=c x:=by congr 1;omega
   rw [e0]
   omega
theorem visN_left {n:Nat} {f:Nat→Nat→Int} (h:RedF n f) {B:Int}:∀ (k:Nat) (ys:List Int) (s s':Int×List Int),0≤s.1→visN f n B k ys s=some s'→0≤s'.1∧s'.1≤s.1 - (if k=0 then 0 else cntI f n B ys)
 | 0,ys,s,s',h0,hv=>by
  unfold visN at hv
  cases hv
  simp
  exact h0
 | k+1,ys,s,s',h0,hv=>by
  unfold visN at hv
  split at hv
  ·cases hv
  ·rename_i hlt
   have hcn:=cnt_nn h B ys
   have ih:=visL_left (g:=fun x s=>visN f n B k (x::ys) s) (c:=fun x=>if k=0 then 0 else cntI f n B (x::ys)) (fun x s s' hs hg=>visN_left h k (x::ys) s s' hs hg) _ _ _ _ (by show 0≤s.1 - _;omega) hv
   have hnn:0≤sumN (hiI f n B ys - loI f n B ys+1).toNat (fun i=>if k=0 then 0 else cntI f n B ((loI f n B ys+i)::ys)):=sumN_nonneg fun i _=>by
    split
    ·exact Int.le_refl _
    ·exact cnt_nn h B _
   rw [if_neg (by omega)]
   unfold cntI
   refine ⟨ih.1,?_⟩
   have:=ih.2
   dsimp only at this
   omega
theorem visN_two {n:Nat} {f:Nat→Nat→Int} (h:RedF n f) {B:Int} {k:Nat} {ys:List Int} {s s':Int×List Int} (h0:0≤s.1) (hv:visN f n B (k+2) ys s=some s'):sumN (cntI f n B ys).toNat (fun i=>cntI f n B ((loI f n B ys+i)::ys))≤s.1:=by
 unfold visN at hv
 split at hv
 ·cases hv
 ·rename_i hlt
  have hcn:=cnt_nn h B ys
  have ih:=visL_left (g:=fun x s=>visN f n B (k+1) (x::ys) s) (c:=fun x=>cntI f n B (x::ys)) (fun x s s' hs hg=>by simpa using visN_left h (k+1) (x::ys) s s' hs hg) _ _ _ _ (by show 0≤s.1 - _;omega) hv
  have h1:=ih.1
  have h2:=ih.2
  dsimp only at h2
  unfold cntI at hcn
  show sumN (hiI f n B ys - loI f n B ys+1).toNat _≤_
  omega
theorem cnt_ge {n:Nat} {f:Nat→Nat→Int} {ys:List Int} (h:RedF n f) {B:Int} {N:Int} (hN:0≤N) (hs:(N * ddI f (n - ys.length)) * (N * ddI f (n - ys.length))≤sqI f n B ys):2 * N - 1≤cntI f n B ys:=by
 have hd:=ddI_pos h.pos (show n - ys.length≤n by omega)
 have hr:=rtN_root (sqI f n B ys).natAbs
 have h0:0≤sqI f n B ys:=Int.le_trans (sq_nn _) hs
 have h1:=(root_iff hr (N * ddI f (n - ys.length))).2 (by omega)
 unfold cntI loI hiI ivLo ivHi
 generalize rtN (sqI f n B ys).natAbs=r at *
 generalize ddI f (n - ys.length)=d at *
 have a1:=Int.lt_mul_ediv_self_add (x:=(r:Int) - liI f n ys) (k:=d) hd
 have a2:=Int.lt_mul_ediv_self_add (x:=liI f n ys+(r:Int)) (k:=d) hd
 generalize ((r:Int) - liI f n ys) / d=p at *
 generalize (liI f n ys+(r:Int)) / d=q at *
 rcases Int.lt_or_le (p - -q+1) (2 * N - 1) with hlt | hle
 ·exfalso
  have b1:=Int.mul_le_mul_of_nonneg_left (show p+q+2≤2 * N - 1+1 by omega) (show 0≤d by omega)
  have e1:d * (p+q+2)=d * p+d * q+2 * d:=by grind
  have e2:d * (2 * N - 1+1)=2 * (N * d):=by grind
  omega
 ·exact hle
theorem crowded {n:Nat} {f:Nat→Nat→Int} (h:RedF n f) (hn:2≤n) {B b:Int} (hB:1073741824≤B) (hb:0≤b∧b≤1000000) (cs:List Int):visN f n B n [] (b,cs)=none:=by
 cases hv:visN f n B n [] (b,cs) with
 | none=>rfl
 | some s' =>
  exfalso
  obtain ⟨m,rfl⟩:∃ m,n=m+2:=⟨n - 2,by omega⟩
  have key:=visN_two h (k:=m) (ys:=[]) (s:=(b,cs)) hb.1 hv
  dsimp only at key
  have d2:=ddI_pos h.pos (show m+2≤m+2 by omega)
  have d1:=ddI_pos h.pos (show m+1≤m+2 by omega)
  have d0:=ddI_pos h.pos (show m≤m+2 by omega)
  have hdet:ddI f (m+2)≤10000:=by
   have:=h.det
   rw [← ddI_cast h.pos (Nat.le_refl _)] at this
   exact (Rat.intCast_le_intCast (a:=ddI f (m+2)) (b:=10000)).1 this
  have hlov:ddI f (m+1) * ddI f (m+1)≤2 * ddI f m * ddI f (m+2):=by
   have:=lov_conv (A:=RA f) (i:=m+1) (h.rd.1 (m+1) m (by omega) (by omega)) (h.rd.2 (m+1) (by omega) (by omega)) (by omega)
   rw [show m+1 - 1=m by omega,show m+1+1=m+2 by omega,← ddI_cast h.pos (show m+1≤m+2 by omega),← ddI_cast h.pos (show m≤m+2 by omega),← ddI_cast h.pos (show m+2≤m+2 by omega)] at this
   exact_mod_cast this
  have ha:ddI f (m+1)≤442 * ddI f m:=by
   rcases Int.lt_or_le (442 * ddI f m) (ddI f (m+1)) with h1 | h1
   ·exfalso
    have b1:=Int.mul_le_mul (Int.le_of_lt h1) (Int.le_of_lt h1) (by omega) (by omega)
    have b2:=Int.mul_le_mul_of_nonneg_left hdet (show 0≤2 * ddI f m by omega)
    have b3:442 * ddI f m * (442 * ddI f m)=195364 * (ddI f m * ddI f m):=by grind
    have b4:=Int.mul_le_mul_of_nonneg_left (show 1≤ddI f m by omega) (show 0≤ddI f m by omega)
    omega
   ·exact h1
  have hsq0:sqI f (m+2) B []=ddI f (m+1) * (ddI f (m+2) * B):=by
   rw [sqI_re,re_nil];rfl
  have hsq0':0≤sqI f (m+2) B []:=by rw [hsq0];exact Int.mul_nonneg (by omega) (Int.mul_nonneg (by omega) (by omega))
  have hre:∀ x:Int,-231≤x→x≤231→2 * reI f (m+2) B [x]≥ddI f (m+1) * B:=by
   intro x h1 h2
   have e:reI f (m+2) B [x]=ddI f (m+1) * B - ddI f (m+2) * (x * x):=by
    unfold reI
    rw [sc_cons h (by show 0<m+2;omega)]
    show ddI f (m+2 - 1) * B - (ddI f (m+2) * (x * x)+2 * (x * 0)+0)=_
    rw [show m+2 - 1=m+1 by omega]
    omega
   rw [e]
   have hx2:x * x≤53361:=by
    have:=mul_bnd (x:=x) (y:=x) (a:=231) (b:=231) (by omega) (by omega)
    omega
   have b1:=Int.mul_le_mul hdet hx2 (sq_nn x) (by omega)
   have b2:=Int.mul_le_mul_of_nonneg_left hB (show 0≤ddI f (m+1) by omega)
   have b3:=Int.mul_le_mul_of_nonneg_right (show 1≤ddI f (m+1) by omega) (show (0:Int)≤1073741824 by omega)
   omega
  have hin:∀ x:Int,-231≤x→x≤231→loI f (m+2) B []≤x∧x≤hiI f (m+2) B []:=by
   intro x h1 h2
   refine (in_iff h (by show 0<m+2;omega) hsq0' x).2 ?_
   have b1:=hre x h1 h2
   have b2:=Int.mul_nonneg (show 0≤ddI f (m+1) by omega) (show 0≤B by omega)
   omega
  have hcnt:∀ x:Int,-231≤x→x≤231→2201≤cntI f (m+2) B [x]:=by
   intro x h1 h2
   have:2 * 1101 - 1≤cntI f (m+2) B [x]:=by
    refine cnt_ge h (by omega) ?_
    show (1101 * ddI f (m+2 - 1)) * (1101 * ddI f (m+2 - 1))≤sqI f (m+2) B [x]
    rw [sqI_re]
    show _≤ddI f (m+2 - 1 - 1) * reI f (m+2) B [x]
    rw [show m+2 - 1=m+1 by omega,show m+1 - 1=m by omega]
    have b1:=hre x h1 h2
    have b2:=Int.mul_le_mul_of_nonneg_left (Int.le_of_lt (show ddI f (m+1) * B - 1<2 * reI f (m+2) B [x] by omega)) (show 0≤ddI f m by omega)
    have b3:=Int.mul_le_mul_of_nonneg_left b1 (show 0≤ddI f m by omega)
    have e3:ddI f m * (2 * reI f (m+2) B [x])=2 * (ddI f m * reI f (m+2) B [x]):=by grind
    have b4:=Int.mul_le_mul_of_nonneg_left hB (Int.mul_nonneg (show 0≤ddI f m by omega) (show 0≤ddI f (m+1) by omega))
    have e4:ddI f m * ddI f (m+1) * B=ddI f m * (ddI f (m+1) * B):=Int.mul_assoc _ _ _
    have b5:=Int.mul_le_mul_of_nonneg_right ha (show 0≤ddI f (m+1) by omega)
    have e5:442 * ddI f m * ddI f (m+1)=442 * (ddI f m * ddI f (m+1)):=Int.mul_assoc _ _ _
    have b6:=Int.mul_nonneg (show 0≤ddI f m by omega) (show 0≤ddI f (m+1) by omega)
    have e6:1101 * ddI f (m+1) * (1101 * ddI f (m+1))=1212201 * (ddI f (m+1) * ddI f (m+1)):=by grind
    omega
   omega
  obtain ⟨l1,l2⟩:=hin (-231) (by omega) (by omega)
  obtain ⟨l3,l4⟩:=hin 231 (by omega) (by omega)
  have hsum:∀ N:Nat,∀ c:Nat→Int,(∀ i,0≤c i)→∀ a k:Nat,a+k≤N→(∀ i,a≤i→i<a+k→2201≤c i)→2201 * (k:Int)≤sumN N c:=by
   intro N
   induction N with
   | zero =>
        intro c hc a k hk hi;have:k=0:=by omega
        subst this;show 2201 * ((0:Nat):Int)≤0;omega
   | succ N ih =>
    intro c hc a k hk hi
    show _≤sumN N c+c N
    by_cases e:a+k≤N
    ·have:=ih c hc a k e hi
     have:=hc N
     omega
    ·cases k with
     | zero =>
          have:=ih c hc 0 0 (by omega) (fun i h1 h2=>by omega)
          have:=hc N
          omega
     | succ k =>
      have:=ih c hc a k (by omega) (fun i h1 h2=>hi i h1 (by omega))
      have:=hi N (by omega) (by omega)
      omega
  have hfin:=hsum (cntI f (m+2) B []).toNat (fun i=>cntI f (m+2) B [loI f (m+2) B []+i]) (fun i=>cnt_nn h B _) (-231 - loI f (m+2) B []).toNat 463 (by unfold cntI;omega) (fun i h1 h2=>hcnt _ (by omega) (by omega))
  have:sumN (cntI f (m+2) B []).toNat (fun i=>cntI f (m+2) B [loI f (m+2) B []+i])≤b:=key
  omega
end Go.Qf
namespace Go.Qf
open Go Go.RowKit Go.Proofs
set_option maxRecDepth 20000
def TE:List (Nat×TI):=(62,⟨.int .i64,1,8,.int .i64 0⟩)::TB
theorem TEok:TblOk Tryz.prog TE:=TblOk.cons Tryz.underlying62 (by kernel_rfl) TBok
section
variable {P:Program} {T:List (Nat×TI)} {n:Nat} {E:List (Nat×Value)} {w:World} {Q:Exit→Act→World→Prop}
theorem Out.cells2 (hT:TblOk P T) {fn:Func} {Φ:Value→World→Prop} {p q:Tmp} {tp tq:TypeId} {a b:Addr} {i j:TI} {x y:Value} (hr:fn.results=#[.cell p tp,.cell q tq])
  (hp:look E p=some (.pointer (some a))) (hq:look E q=some (.pointer (some b))) (htp:lookT T tp=some i) (htq:lookT T tq=some j) (hi:isAggD i.desc=false) (hj:isAggD j.desc=false)
  (hx:w.cell? a=some x) (hy:w.cell? b=some y) (h:Φ (.tuple #[x,y]) w):Out n E w .ret (bodyPost P fn (Ret Φ)):=by
 intro c hc
 refine bodyPost_ret (v:=.tuple #[x,y]) ?_ hc.defers ⟨_,rfl,h⟩
 rw [results_eq,hr]
 have e1:c.tmps.getD p undef=.pointer (some a):=by simp [Array.getD_eq_getD_getElem?,hc.slots p _ hp]
 have e2:c.tmps.getD q undef=.pointer (some b):=by simp [Array.getD_eq_getD_getElem?,hc.slots q _ hq]
 have a1:∀ d:Addr,(asAddr (.pointer (some d))).run P w=.ok d w:=fun d=>by simp [asAddr,go_sem]
 have l1:(loadVar tp a).run P w=.ok x w:=by simp [loadVar,run_isAgg_T hT htp,hi,hx,go_sem]
 have l2:(loadVar tq b).run P w=.ok y w:=by simp [loadVar,run_isAgg_T hT htq,hj,hy,go_sem]
 have m1:(resFn c.tmps (.cell p tp)).run P w=.ok x w:=by simp only [resFn,Sem.run_bind,e1,a1,Result.andThen_ok,l1]
 have m2:(resFn c.tmps (.cell q tq)).run P w=.ok y w:=by simp only [resFn,Sem.run_bind,e2,a1,Result.andThen_ok,l2]
 rw [Array.mapM_eq_mapM_toList]
 simp only [List.mapM_cons,List.mapM_nil,Sem.run_bind,m1,m2,Sem.run_pure,Result.andThen_ok,map_eq_pure_bind]
 rfl
theorem wp_marked {id D:Nat} {l:List Oper} {a:Act} (ha:Fits n E a) (hn:noDefer l=true) (hQ:¬ LetsOut Q) (h:StL P n E w l.toArray l (fun e a w=>Exit.then (Code.ret.wp P Q) Q e (mkd D a) w)):(Code.seq (.region id l.toArray false) .ret).wp P Q (mkd D a) w :=
 wp_seq (wp_region_lit (listMark l a w (h a ha) hn hQ))
theorem Out.markRet {D:Nat} {fn:Func} {Φ:Value→World→Prop} (hD:w.heap[D]?=some (.deferred (some []))) (h:Out n E (w.putObj D (.deferred none)) .ret (bodyPost P fn (Ret Φ))) :
  Out n E w .normal (fun e a w=>Exit.then (Code.ret.wp P (bodyPostM Fence.wide 0 P fn (Ret Φ))) (bodyPostM Fence.wide 0 P fn (Ret Φ)) e (mkd D a) w):=fun a ha=>wp_ret (ret_marked ha hD h)
end
theorem upd_put (w:World) (L:Nat) (o:Obj):Upd L w (w.putObj L o):=⟨rfl,rfl,rfl,by simp,fun k _ hk=>World.putObj_heap_other hk⟩
theorem put_at {w:World} {L:Nat} {o o':Obj} (h:w.heap[L]?=some o'):(w.putObj L o).heap[L]?=some o:=by
 have hlt:=(Array.getElem?_eq_some_iff.1 h).1
 simp [World.putObj,hlt]
structure StpI (w0:World) (n b6 b7 b8 bs b9 L D:Nat) (rec:Loop) (s:Int×List Int) (w:World):Prop where
 ext:Ext w0 w
 r6:Blk 61 w b6 [.slice none 0 0]
 r7:Blk 62 w b7 [.int .i64 0]
 st:Blk 61 w b8 [.slice (some ⟨bs,0,none⟩) n n]
 row:Blk 3 w bs (s.2.map i64)
 len:s.2.length=n
 left:Blk 2 w b9 [.int .i64 s.1]
 pos:0≤s.1∧s.1≤1000000
 ent:∀ y ∈ s.2,0≤y∧y≤1000000 - s.1
 loop:w.heap[L]?=some (.loop rec)
 defer:w.heap[D]?=some (.deferred (some []))
structure StpX (w0:World) (b6 b7 L D:Nat) (rec:Loop) (w:World):Prop where
 ext:Ext w0 w
 r6:Blk 61 w b6 [.slice none 0 0]
 r7:Blk 62 w b7 [.int .i64 9]
 loop:w.heap[L]?=some (.loop { rec with state:=.done,pending:=some .ret })
 defer:w.heap[D]?=some (.deferred (some []))
theorem Upd.obj {b:Nat} {w w':World} {k:Nat} {o:Obj} (hu:Upd b w w') (h:w.heap[k]?=some o) (hne:k≠b):w'.heap[k]?=some o:=(hu.block k (Array.getElem?_eq_some_iff.1 h).1 hne).trans h
def ArgOk (B b:Int):Prop:=0≤B∧B≤4611686018427387904∧0≤b∧b≤1000000
def StepsV (w:World) (x:Value) (M:List (List Int)) (B b:Int):Prop :=
 (¬ Red M→x=.tuple #[.slice none 0 0,.int .i64 6])∧(Red M→¬ ArgOk B b→x=.tuple #[.slice none 0 0,.int .i64 1]) ∧
 (Red M→ArgOk B b→visN (ent M) M.length B M.length [] (b,List.replicate M.length 0)=none→x=.tuple #[.slice none 0 0,.int .i64 9]) ∧
 (Red M→ArgOk B b→∀ s',visN (ent M) M.length B M.length [] (b,List.replicate M.length 0)=some s'→∃ v,x=.tuple #[v,.int .i64 0]∧L64 w v s'.2)
set_option maxHeartbeats 6400000 in
theorem schurSteps_spec {w:World} {hv:Value} {M:List (List Int)} {B b:Int} (h:M64 w hv M) (hl:M.length≤1000000) :
  Calls Tryz.prog 34 #[hv,.int .i64 B,.int .i64 b] w (Ret fun x w'=>Ext w w'∧StepsV w' x M B b):=by
 obtain ⟨ph,ch,e⟩:=h.len
 subst e
 refine calls_of_StM (args:=[_,_,_]) Tryz.func34 rfl Tryz.ntmps34 rfl ?_
 refine Nv ?_
 refine .s (OpR.alloc TBok rfl) ?_
 rintro _ w1 ⟨rfl,B6,hx1,hz1⟩
 refine .s (OpR.alloc TEok rfl) ?_
 rintro _ w2 ⟨rfl,B7,hx2,hz2⟩
 have hx02:=hx1.trans hx2
 replace B6:=B6.ext hx2
 have hb6:=B6.lt
 refine StL.nil (Out.then_normal ?_)
 refine St.cut (fun _:Unit=>[(0,.slice ph M.length ch),(1,.int .i64 B),(2,.int .i64 b),(6,.pointer (some ⟨w.heap.size,0,none⟩)),(7,.pointer (some ⟨w1.heap.size,0,none⟩))]) (fun _ w'=>Ext w2 w'∧Red M∧ArgOk B b∧(M.length≠1→B<1073741824)) ?_ ?_
 rotate_left
 ·rintro _ w3 ⟨hx3,hRed,hArg,hB2⟩
  have hx03:=hx02.trans hx3
  replace B6:=B6.ext hx3
  replace B7:=B7.ext hx3
  have hRF:=hRed.redF.1
  have hn:1≤M.length∧M.length≤8:=⟨hRed.1.1,hRed.2.2.1⟩
  have hA:=(hRed.at h).ext hx03
  have key:∀ (x:Value) (w':World),((visN (ent M) M.length B M.length [] (b,List.replicate M.length 0)=none→x=.tuple #[.slice none 0 0,.int .i64 9])∧(∀ s',visN (ent M) M.length B M.length [] (b,List.replicate M.length 0)=some s'→∃ v,x=.tuple #[v,.int .i64 0]∧L64 w' v s'.2))→StepsV w' x M B b:=fun x w' hh=>⟨fun hR=>absurd hRed hR,fun _ hA=>absurd hArg hA,fun _ _=>hh.1,fun _ _=>hh.2⟩
  obtain ⟨hB0,hB1,hb0,hb1⟩:=hArg
  generalize ent M=f at *
  generalize hnn:M.length=n at *
  clear hRed hb6
  (iterate 6 refine Nv ?_;try refine .r rfl ?_)
  refine .s (OpR.make TBok n rfl rfl rfl rfl rfl rfl rfl rfl (by show n * 8≤_;omega) (by omega)) ?_
  rintro _ w4 ⟨rfl,BS,hx4,hz4⟩
  refine .s (OpR.alloc TBok rfl) ?_
  rintro _ w5 ⟨rfl,B8,hx5,hz5⟩
  refine StL.step0 rfl rfl (OpR.store TBok (vs:=[_]) rfl rfl rfl rfl rfl B8 (Nat.le_refl 1) (by simp [Value.oneCell'])) ?_
  rintro _ w6 ⟨B8',hu6⟩
  replace B8':Blk 61 w6 w4.heap.size [.slice (some ⟨w3.heap.size,0,none⟩) n n]:=B8'
  (iterate 6 refine Nv ?_;try refine .r rfl ?_)
  refine .s (OpR.alloc TBok rfl) ?_
  rintro _ w7 ⟨rfl,B9,hx7,hz7⟩
  refine StL.step0 rfl rfl (OpR.store TBok (vs:=[_]) rfl rfl rfl rfl rfl B9 (Nat.le_refl 1) (by simp [Value.oneCell'])) ?_
  rintro _ w8 ⟨B9',hu8⟩
  replace B9':Blk 2 w8 w6.heap.size [.int .i64 b]:=B9'
  have h6lt:=B6.lt
  have h7lt:=B7.lt
  have hslt:=BS.lt
  have h8lt:=B8'.lt
  have hx46:Ext w4 w6:=hx5.then_upd hu6 (Nat.le_refl _)
  have hx68:Ext w6 w8:=hx7.then_upd hu8 (Nat.le_refl _)
  have hx38:Ext w3 w8:=(hx4.trans hx46).trans hx68
  have hx48:Ext w4 w8:=hx46.trans hx68
  have hx08:=hx03.trans hx38
  replace B6:=B6.ext hx38
  replace B7:=B7.ext hx38
  replace BS:Blk 3 w8 w3.heap.size ((List.replicate n (0:Int)).map i64):=by
   have:=BS.ext hx48
   rw [List.map_replicate]
   exact this
  replace B8:=B8'.ext hx68
  replace hA:=hA.ext hx38
  have hsz4:=hx4.size
  have hsz6:=hx46.size
  have h67:w.heap.size<w1.heap.size:=by have:=hz1;omega
  have h9lt:=B9'.lt
  clear hx4 hx5 hx7 hu6 hu8 B9 B8' hx46 hx68 hx48 hx38
  (iterate 6 refine Nv ?_;try refine .r rfl ?_)
  refine .s (OpR.call fn_schur_newWalk rfl (newWalk_spec hA hn hRF)) ?_
  rintro _ w9 ⟨hx9,bw,bx,rfl,hbx,hW,BX⟩
  replace B6:=B6.ext hx9
  replace B7:=B7.ext hx9
  replace BS:=BS.ext hx9
  replace B8:=B8.ext hx9
  replace B9:=B9'.ext hx9
  have hx09:=hx08.trans hx9
  have hbxlt:=BX.lt
  (iterate 6 refine Nv ?_;try refine .r rfl ?_)
  refine .p (RunsTo.func rfl rfl) ?_
  refine StL.nil (Out.then_normal (St.block ?_))
  refine St.sub (E':=[(6,.pointer (some ⟨w.heap.size,0,none⟩)),(7,.pointer (some ⟨w1.heap.size,0,none⟩)),(8,.pointer (some ⟨w4.heap.size,0,none⟩)),(9,.pointer (some ⟨w6.heap.size,0,none⟩)),(42,.func (.func 74) #[.pointer (some ⟨bw,0,none⟩)] #[])]) ?_ sbb
  refine St.rangeFunc fn_schur_walk_tails rfl ?_
  intro a fi rec ha hrec
  obtain ⟨L,hLdef⟩:∃ L,L=w9.heap.size+1:=⟨_,rfl⟩
  rw [← hLdef]
  obtain ⟨wA,hwA⟩:∃ wA,wA=(w9.alloc (.deferred (some []))).alloc (.loop rec):=⟨_,rfl⟩
  rw [← hwA]
  have hxA:Ext w9 wA:=by rw [hwA];exact (ext_alloc _ _).trans (ext_alloc _ _)
  have hLA:wA.heap[L]?=some (.loop rec):=by
   rw [hwA,hLdef]
   have:=World.alloc_heap_new (w9.alloc (.deferred (some []))) (.loop rec)
   rwa [World.size_alloc] at this
  have hDA:wA.heap[w9.heap.size]?=some (.deferred (some [])):=by
   rw [hwA]
   exact (Below.heap_alloc _ _ _ (by simp)).trans (World.alloc_heap_new w9 _)
  have hrs:rec.state=.ready:=by rw [hrec]
  have hrp:rec.pending=none:=by rw [hrec]
  have hY:Yc bx w9.heap.size L (StpI w n w.heap.size w1.heap.size w4.heap.size w3.heap.size w6.heap.size L w9.heap.size rec) (StpX w w.heap.size w1.heap.size L w9.heap.size rec) n:=by
   refine ⟨?_,?_⟩
   ·intro s w' w'' hs hu
    exact ⟨hs.ext.then_upd hu (by omega),hs.r6.upd hu (by omega),hs.r7.upd hu (by omega),hs.st.upd hu (by omega),hs.row.upd hu (by omega),hs.len,hs.left.upd hu (by omega),hs.pos,hs.ent,hu.obj hs.loop (by omega),hu.obj hs.defer (by omega)⟩
   ·intro s w' m c hs hm hc0 hcb hhi
    refine ⟨rec,hs.loop,by rw [hrec];rfl,?_⟩
    obtain ⟨wb,hwb⟩:∃ wb,wb=w'.putObj L (.loop { rec with state:=.busy }):=⟨_,rfl⟩
    have hub:Upd L w' wb:=by rw [hwb];exact upd_put _ _ _
    have hLb:wb.heap[L]?=some (.loop { rec with state:=.busy }):=by rw [hwb];exact put_at hs.loop
    have hfit:=fits_round (r:=rec) (p1:=43) (p2:=44) (v1:=.int .i64 ((m+1:Nat):Int)) (v2:=.int .i64 c) ha (by rw [hrec]) (by rw [hrec]) rfl rfl
    refine round_of (E1:=[(6,.pointer (some ⟨w.heap.size,0,none⟩)),(7,.pointer (some ⟨w1.heap.size,0,none⟩)),(8,.pointer (some ⟨w4.heap.size,0,none⟩)),(9,.pointer (some ⟨w6.heap.size,0,none⟩)),(11,.int .i64 ((m+1:Nat):Int)),(12,.int .i64 c)]) hfit hs.loop hrs ?_ ?_
    ·rw [show rec.assign=_ from by rw [hrec]]
     refine StR.seq (StR.region ?_ rfl (StL.run TBok 99 rfl (StL.nil (Out.thenR (StR.region ?_ rfl (StL.run TBok 99 rfl (StL.nil ?_)))))))
     ·exact fun ⟨_,_,h⟩=>h
     ·exact fun ⟨_,_,h⟩=>h
     ·exact fun a1 h1=>⟨h1.sub sbb,rfl⟩
    ·rw [← hwb]
     have hno:∀ {R:Ending→World→Prop},¬ LetsOut (roundPost Tryz.prog L R):=noOutRound
     have hr9:=hs.left.upd hub (by omega)
     have hr6:=hs.r6.upd hub (by omega)
     have hr7:=hs.r7.upd hub (by omega)
     have hr8:=hs.st.upd hub (by omega)
     have hrS:=hs.row.upd hub (by omega)
     have hDb:=hub.obj hs.defer (by omega)
     have hxb:Ext w wb:=hs.ext.then_upd hub (by omega)
     rw [show rec.body=_ from by rw [hrec]]
     refine StR.block (StR.seq (StR.seq (StR.region ?_ rfl ?_)))
     ·exact noOutThen (noOutThen (noOutBlock noOutRound))
     refine .r rfl ?_
     (refine .s (RunsTo.load TBok rfl rfl rfl (Blk.cell upp rfl)).op ?_;rintro _ _ ⟨rfl,rfl⟩)
     by_cases hlt:s.1<c
     ·refine .a 1 (.bool true) rfl (bool_true hlt) ?_
      refine StL.nil (Out.thenR (StR.condT rfl (StR.seq (StR.region ?_ rfl ?_))))
      ·exact noOutThen (noOutThen (noOutBlock noOutRound))
      refine StL.step0 rfl rfl (OpR.store TBok (vs:=[.slice none 0 0]) rfl rfl rfl rfl rfl hr6 (Nat.le_refl 1) (by simp [Value.oneCell'])) ?_
      rintro _ wc ⟨hr6c,huc⟩
      refine StL.step0 rfl rfl (OpR.store TEok (vs:=[.int .i64 9]) rfl rfl rfl rfl rfl (hr7.upd huc (by omega)) (Nat.le_refl 1) (by simp [Value.oneCell'])) ?_
      rintro _ wd ⟨hr7d,hud⟩
      refine StL.nil (Out.thenR (StR.ret ?_))
      intro a2 ha2
      have hLd:=hud.obj (huc.obj hLb (by omega)) (by omega)
      have hDd:=hud.obj (huc.obj hDb (by omega)) (by omega)
      have hue:=upd_put wd L (.loop { rec with state:=.done,pending:=some .ret })
      refine ⟨_,_,run_endRound (some .ret) hLd,false,rfl,?_,?_,fun _=>⟨rfl,?_⟩,fun h=>absurd hlt h⟩
      ·intro j h1 h2
       have hj:j<w'.heap.size:=by omega
       have e1:=hub.block j hj (by omega)
       have e2:=huc.block j (Nat.lt_of_lt_of_le hj hub.size) (by omega)
       have e3:=hud.block j (Nat.lt_of_lt_of_le hj (Nat.le_trans hub.size huc.size)) (by omega)
       have e4:=hue.block j (Nat.lt_of_lt_of_le hj (Nat.le_trans (Nat.le_trans hub.size huc.size) hud.size)) (by omega)
       exact ((e4.trans e3).trans e2).trans e1
      ·exact Nat.le_trans (Nat.le_trans (Nat.le_trans hub.size huc.size) hud.size) hue.size
      ·exact ⟨((hxb.then_upd huc (Nat.le_refl _)).then_upd hud (by omega)).then_upd hue (by omega),(hr6c.upd hud (by omega)).upd hue (by omega),hr7d.upd hue (by omega),put_at hLd,hue.obj hDd (by omega)⟩
     ·refine .a 1 (.bool false) rfl (bool_false hlt) ?_
      refine StL.nil (Out.thenR (StR.condF rfl (StR.skip (Out.thenR (StR.seq (StR.region ?_ rfl ?_))))))
      ·exact noOutThen (noOutBlock noOutRound)
      have hmy:m<s.2.length:=by rw [hs.len];exact hm
      have hym:s.2[m]?=some (yv s.2 m):=by
       unfold yv
       rw [List.getD_eq_getElem?_getD,List.getElem?_eq_getElem hmy]
       rfl
      have hyb:=hs.ent _ (List.mem_of_getElem? hym)
      have hp:=hs.pos
      (refine .s (RunsTo.load TBok rfl rfl rfl (Blk.cell upp rfl)).op ?_;rintro _ _ ⟨rfl,rfl⟩)
      refine .a 2 (.int .i64 (s.1 - c)) rfl (by rw [i64_id (by omega) (by omega)]) ?_
      refine StL.step0 rfl rfl (OpR.store TBok (vs:=[_]) rfl rfl rfl rfl rfl hr9 (Nat.le_refl 1) (by simp [Value.oneCell'])) ?_
      rintro _ wc ⟨hr9c,huc⟩
      replace hr9c:Blk 2 wc w6.heap.size [.int .i64 (s.1 - c)]:=hr9c
      have hr8c:=hr8.upd huc (by omega)
      have hrSc:=hrS.upd huc (by omega)
      refine StL.nil (Out.thenR (StR.region ?_ rfl ?_))
      ·exact noOutBlock noOutRound
      have hcell:wc.cell? (Addr.add ⟨w3.heap.size,0,none⟩ m)=some (.int .i64 (yv s.2 m)):=by
       rw [addr_add,Nat.zero_add]
       exact hrSc.cell (by rw [List.getElem?_map,hym];rfl)
      (refine .s (RunsTo.load TBok rfl rfl rfl (Blk.cell upp rfl)).op ?_;rintro _ _ ⟨rfl,rfl⟩)
      refine .a 2 (.int .i64 (m:Int)) rfl (by rw [i64_id (by omega) (by omega)];congr 1;omega) ?_
      refine .p (RunsTo.ia) ?_
      refine .p (RunsTo.load TBok rfl rfl rfl hcell) ?_
      refine .a 2 (.int .i64 (yv s.2 m+c)) rfl (by rw [i64_id (by omega) (by omega)]) ?_
      refine StL.put TBok m hrSc rfl hm (by rw [List.length_map,hs.len];omega) rfl rfl rfl rfl rfl rfl rfl rfl (fun _=>rfl) (fun _=>rfl) rfl rfl ?_
      intro pd wd hrSd hud
      rw [Nat.zero_add,show (s.2.map i64).set m (.int .i64 (yv s.2 m+c))=(bump s.2 m c).map i64 from by rw [bump_set,List.map_set]] at hrSd
      refine StL.nil ?_
      intro a2 ha2
      have hLd:=hud.obj (huc.obj hLb (by omega)) (by omega)
      have hDd:=hud.obj (huc.obj hDb (by omega)) (by omega)
      have hue:=upd_put wd L (.loop { rec with state:=.ready,pending:=none })
      have hrr:({ rec with state:=.ready,pending:=none }:Loop)=rec:=by
       cases rec
       simp only at hrs hrp
       subst hrs hrp
       rfl
      refine ⟨_,_,run_endRound none hLd,true,rfl,?_,?_,fun h=>absurd h hlt,fun _=>⟨rfl,?_⟩⟩
      ·intro j h1 h2
       have hj:j<w'.heap.size:=by omega
       have e1:=hub.block j hj (by omega)
       have e2:=huc.block j (Nat.lt_of_lt_of_le hj hub.size) (by omega)
       have e3:=hud.block j (Nat.lt_of_lt_of_le hj (Nat.le_trans hub.size huc.size)) (by omega)
       have e4:=hue.block j (Nat.lt_of_lt_of_le hj (Nat.le_trans (Nat.le_trans hub.size huc.size) hud.size)) (by omega)
       exact ((e4.trans e3).trans e2).trans e1
      ·exact Nat.le_trans (Nat.le_trans (Nat.le_trans hub.size huc.size) hud.size) hue.size
      ·refine ⟨((hxb.then_upd huc (by omega)).then_upd hud (by omega)).then_upd hue (by omega),((hr6.upd huc (by omega)).upd hud (by omega)).upd hue (by omega),((hr7.upd huc (by omega)).upd hud (by omega)).upd hue (by omega),(hr8c.upd hud (by omega)).upd hue (by omega),hrSd.upd hue (by omega),by show (bump s.2 m c).length=n;rw [bump_len];exact hs.len,(hr9c.upd hud (by omega)).upd hue (by omega),⟨by show 0≤s.1 - c;omega,by show s.1 - c≤_;omega⟩,?_,?_,hue.obj hDd (by omega)⟩
       ·intro y hy
        show 0≤y∧y≤1000000 - (s.1 - c)
        have hy':y ∈ bump s.2 m c:=hy
        rw [bump_set] at hy'
        rcases List.mem_or_eq_of_mem_set hy' with h1 | h1
        ·have:=hs.ent y h1
         omega
        ·omega
       ·exact (put_at hLd).trans (by show some (Obj.loop { rec with state:=.ready,pending:=none })=_;rw [hrr])
  have hI0:StpI w n w.heap.size w1.heap.size w4.heap.size w3.heap.size w6.heap.size L w9.heap.size rec (b,List.replicate n 0) wA :=
   ⟨hx09.trans hxA,B6.ext hxA,B7.ext hxA,B8.ext hxA,BS.ext hxA,by simp,B9.ext hxA,⟨hb0,hb1⟩,fun y hy=>by rw [List.eq_of_mem_replicate hy];show (0:Int)≤0∧0≤1000000 - b;omega,hLA,hDA⟩
  have hcall:=tails_spec (w:=wA) (xs:=List.replicate n 0) hRF hn ⟨hB0,hB1⟩ hB2 hW hY ⟨hxA.size,fun j _ h2=>hxA.block j h2⟩ (by rw [List.map_replicate];exact BX.ext hxA) (by simp) hI0
  refine (show Calls Tryz.prog _ (#[.pointer (some ⟨bw,0,none⟩)]++#[.func (.yield L) #[] #[]]++#[]) wA _ from hcall).mono ?_
  rintro e wB ⟨v,rfl,hnone,hsome⟩
  refine ⟨v,rfl,?_⟩
  cases hv:visN f n B n [] (b,List.replicate n 0) with
  | none =>
   have hX:=hnone hv
   refine ⟨_,hX.loop,by simp,.inr ⟨rfl,?_⟩⟩
   have hu:=upd_put wB L (.loop { { rec with state:=.done,pending:=some .ret } with state:=.exhausted })
   have hDu:=hu.obj hX.defer (by omega)
   have hu2:=upd_put (wB.putObj L (.loop { { rec with state:=.done,pending:=some .ret } with state:=.exhausted })) w9.heap.size (.deferred none)
   show bodyPostM Fence.wide 0 Tryz.prog _ _ .ret (mkd _ a) _
   refine ret_marked ha hDu ?_
   exact Out.cells2 TEok rfl rfl rfl rfl rfl rfl rfl (((hX.r6.upd hu (by omega)).upd hu2 (by omega)).cell rfl) (((hX.r7.upd hu (by omega)).upd hu2 (by omega)).cell rfl) ⟨(hX.ext.then_upd hu (by omega)).then_upd hu2 (by have:=hx09.size;omega),key _ _ ⟨fun _=>rfl,fun s' hs=>by rw [hv] at hs;cases hs⟩⟩
  | some s' =>
   have hI:=hsome s' hv
   refine ⟨rec,hI.loop,by rw [hrs];simp,.inl ⟨hrp,?_⟩⟩
   have hu:=upd_put wB L (.loop { rec with state:=.exhausted })
   obtain ⟨wC,hwC⟩:∃ wC,wC=wB.putObj L (.loop { rec with state:=.exhausted }):=⟨_,rfl⟩
   rw [← hwC] at hu ⊢
   have hr6:=hI.r6.upd hu (by omega)
   have hr7:=hI.r7.upd hu (by omega)
   have hr8:=hI.st.upd hu (by omega)
   have hrS:=hI.row.upd hu (by omega)
   have hDu:=hu.obj hI.defer (by omega)
   have hxC:Ext w wC:=hI.ext.then_upd hu (by omega)
   refine wp_marked ha rfl noOutM ?_
   (refine .s (RunsTo.load TBok rfl rfl rfl (Blk.cell upp rfl)).op ?_;rintro _ _ ⟨rfl,rfl⟩)
   refine StL.step0 rfl rfl (OpR.store TBok (vs:=[_]) rfl rfl rfl rfl rfl hr6 (Nat.le_refl 1) (by simp [Value.oneCell'])) ?_
   rintro _ wD ⟨hr6D,huD⟩
   replace hr6D:Blk 61 wD w.heap.size [.slice (some ⟨w3.heap.size,0,none⟩) n n]:=hr6D
   refine StL.step0 rfl rfl (OpR.store TEok (vs:=[.int .i64 0]) rfl rfl rfl rfl rfl (hr7.upd huD (by omega)) (Nat.le_refl 1) (by simp [Value.oneCell'])) ?_
   rintro _ wE ⟨hr7E,huE⟩
   have hDE:=huE.obj (huD.obj hDu (by omega)) (by omega)
   have hu2:=upd_put wE w9.heap.size (.deferred none)
   have hrSE:=((hrS.upd huD (by omega)).upd huE (by omega)).upd hu2 (by omega)
   refine StL.nil (Out.markRet hDE (Out.cells2 TEok rfl rfl rfl rfl rfl rfl rfl (((hr6D.upd huE (by omega)).upd hu2 (by omega)).cell rfl) ((hr7E.upd hu2 (by omega)).cell rfl) ⟨((hxC.then_upd huD (Nat.le_refl _)).then_upd huE (by omega)).then_upd hu2 (by have:=hx09.size;omega),key _ _ ⟨fun hs=>(by rw [hv] at hs;cases hs),fun s2 hs=>?_⟩⟩))
   rw [hv] at hs
   cases hs
   refine ⟨_,rfl,⟨some ⟨w3.heap.size,0,none⟩,n,by rw [List.length_map,hI.len],by rw [List.length_map,hI.len];omega,fun e=>(by cases e),?_⟩⟩
   rintro a' ha' i c hi
   cases ha'
   rw [addr_add,Nat.zero_add]
   exact hrSE.cell hi
 (iterate 6 refine Nv ?_;try refine .r rfl ?_)
 refine .s (OpR.call fn_lll_IsReduced rfl (isReduced_spec (h.ext hx02) hl)) ?_
 rintro _ w3 ⟨hx3,bR,rfl,hb⟩
 have hx03:=hx02.trans hx3
 replace B6:=B6.ext hx3
 replace B7:=B7.ext hx3
 have fail:∀ (e:Int) (w':World),Blk 61 w' w.heap.size [.slice none 0 0]→Blk 62 w' w1.heap.size [.int .i64 e]→w'.cell? ⟨w.heap.size,0,none⟩=some (.slice none 0 0)∧w'.cell? ⟨w1.heap.size,0,none⟩=some (.int .i64 e):=fun e w' h1 h2=>⟨h1.cell rfl,h2.cell rfl⟩
 cases bR
 ·have hnR:¬ Red M:=fun hR=>absurd (hb.2 hR) (by simp)
  (iterate 6 refine Nv ?_;try refine .r rfl ?_)
  refine .cT ?_
  (iterate 6 refine Nv ?_;try refine .r rfl ?_)
  refine StL.step0 rfl rfl (OpR.store TBok (vs:=[.slice none 0 0]) rfl rfl rfl rfl rfl B6 (Nat.le_refl 1) (by simp [Value.oneCell'])) ?_
  rintro _ w4 ⟨B6',hu4⟩
  refine StL.step0 rfl rfl (OpR.store TEok (vs:=[.int .i64 6]) rfl rfl rfl rfl rfl (B7.upd hu4 (by omega)) (Nat.le_refl 1) (by simp [Value.oneCell'])) ?_
  rintro _ w5 ⟨B7',hu5⟩
  (iterate 6 refine Nv ?_;try refine .r rfl ?_)
  refine Out.plainM (Out.cells2 TEok rfl rfl rfl rfl rfl rfl rfl ((B6'.upd hu5 (by omega)).cell rfl) (B7'.cell rfl) ⟨(hx03.then_upd hu4 (Nat.le_refl _)).then_upd hu5 (by omega),fun _=>rfl,fun hR=>absurd hR hnR,fun hR=>absurd hR hnR,fun hR=>absurd hR hnR⟩)
 have hRed:=hb.1 rfl
 refine .r rfl ?_
 refine Nv ?_
 refine .cF ?_
 refine Nv ?_
 by_cases hA1:B<0
 ·refine .a 2 (.bool true) rfl (bool_true hA1) ?_
  (iterate 6 refine Nv ?_;try refine .r rfl ?_)
  refine .cT ?_
  (iterate 6 refine Nv ?_;try refine .r rfl ?_)
  refine .cT ?_
  (iterate 6 refine Nv ?_;try refine .r rfl ?_)
  refine StL.step0 rfl rfl (OpR.store TBok (vs:=[.slice none 0 0]) rfl rfl rfl rfl rfl B6 (Nat.le_refl 1) (by simp [Value.oneCell'])) ?_
  rintro _ w4 ⟨B6',hu4⟩
  refine StL.step0 rfl rfl (OpR.store TEok (vs:=[.int .i64 1]) rfl rfl rfl rfl rfl (B7.upd hu4 (by omega)) (Nat.le_refl 1) (by simp [Value.oneCell'])) ?_
  rintro _ w5 ⟨B7',hu5⟩
  (iterate 6 refine Nv ?_;try refine .r rfl ?_)
  exact Out.plainM (Out.cells2 TEok rfl rfl rfl rfl rfl rfl rfl ((B6'.upd hu5 (by omega)).cell rfl) (B7'.cell rfl) ⟨(hx03.then_upd hu4 (Nat.le_refl _)).then_upd hu5 (by omega),fun hR=>absurd hRed hR,fun _ _=>rfl,fun _ hA=>absurd hA (by unfold ArgOk;omega),fun _ hA=>absurd hA (by unfold ArgOk;omega)⟩)
 refine .a 2 (.bool false) rfl (bool_false hA1) ?_
 (iterate 6 refine Nv ?_;try refine .r rfl ?_)
 refine .cF ?_
 refine Nv ?_
 by_cases hA2:B > 4611686018427387904
 ·refine .a 2 (.bool true) rfl (bool_true hA2) ?_
  (iterate 6 refine Nv ?_;try refine .r rfl ?_)
  refine .cT ?_
  (iterate 6 refine Nv ?_;try refine .r rfl ?_)
  refine .cT ?_
  (iterate 6 refine Nv ?_;try refine .r rfl ?_)
  refine StL.step0 rfl rfl (OpR.store TBok (vs:=[.slice none 0 0]) rfl rfl rfl rfl rfl B6 (Nat.le_refl 1) (by simp [Value.oneCell'])) ?_
  rintro _ w4 ⟨B6',hu4⟩
  refine StL.step0 rfl rfl (OpR.store TEok (vs:=[.int .i64 1]) rfl rfl rfl rfl rfl (B7.upd hu4 (by omega)) (Nat.le_refl 1) (by simp [Value.oneCell'])) ?_
  rintro _ w5 ⟨B7',hu5⟩
  (iterate 6 refine Nv ?_;try refine .r rfl ?_)
  exact Out.plainM (Out.cells2 TEok rfl rfl rfl rfl rfl rfl rfl ((B6'.upd hu5 (by omega)).cell rfl) (B7'.cell rfl) ⟨(hx03.then_upd hu4 (Nat.le_refl _)).then_upd hu5 (by omega),fun hR=>absurd hRed hR,fun _ _=>rfl,fun _ hA=>absurd hA (by unfold ArgOk;omega),fun _ hA=>absurd hA (by unfold ArgOk;omega)⟩)
 refine .a 2 (.bool false) rfl (bool_false hA2) ?_
 (iterate 6 refine Nv ?_;try refine .r rfl ?_)
 refine .cF ?_
 refine Nv ?_
 by_cases hA3:b<0
 ·refine .a 2 (.bool true) rfl (bool_true hA3) ?_
  (iterate 6 refine Nv ?_;try refine .r rfl ?_)
  refine .cT ?_
  (iterate 6 refine Nv ?_;try refine .r rfl ?_)
  refine .cT ?_
  (iterate 6 refine Nv ?_;try refine .r rfl ?_)
  refine StL.step0 rfl rfl (OpR.store TBok (vs:=[.slice none 0 0]) rfl rfl rfl rfl rfl B6 (Nat.le_refl 1) (by simp [Value.oneCell'])) ?_
  rintro _ w4 ⟨B6',hu4⟩
  refine StL.step0 rfl rfl (OpR.store TEok (vs:=[.int .i64 1]) rfl rfl rfl rfl rfl (B7.upd hu4 (by omega)) (Nat.le_refl 1) (by simp [Value.oneCell'])) ?_
  rintro _ w5 ⟨B7',hu5⟩
  (iterate 6 refine Nv ?_;try refine .r rfl ?_)
  exact Out.plainM (Out.cells2 TEok rfl rfl rfl rfl rfl rfl rfl ((B6'.upd hu5 (by omega)).cell rfl) (B7'.cell rfl) ⟨(hx03.then_upd hu4 (Nat.le_refl _)).then_upd hu5 (by omega),fun hR=>absurd hRed hR,fun _ _=>rfl,fun _ hA=>absurd hA (by unfold ArgOk;omega),fun _ hA=>absurd hA (by unfold ArgOk;omega)⟩)
 refine .a 2 (.bool false) rfl (bool_false hA3) ?_
 (iterate 6 refine Nv ?_;try refine .r rfl ?_)
 refine .cF ?_
 refine Nv ?_
 by_cases hA4:b > 1000000
 ·refine .a 2 (.bool true) rfl (bool_true hA4) ?_
  (iterate 6 refine Nv ?_;try refine .r rfl ?_)
  refine .cT ?_
  (iterate 6 refine Nv ?_;try refine .r rfl ?_)
  refine StL.step0 rfl rfl (OpR.store TBok (vs:=[.slice none 0 0]) rfl rfl rfl rfl rfl B6 (Nat.le_refl 1) (by simp [Value.oneCell'])) ?_
  rintro _ w4 ⟨B6',hu4⟩
  refine StL.step0 rfl rfl (OpR.store TEok (vs:=[.int .i64 1]) rfl rfl rfl rfl rfl (B7.upd hu4 (by omega)) (Nat.le_refl 1) (by simp [Value.oneCell'])) ?_
  rintro _ w5 ⟨B7',hu5⟩
  (iterate 6 refine Nv ?_;try refine .r rfl ?_)
  exact Out.plainM (Out.cells2 TEok rfl rfl rfl rfl rfl rfl rfl ((B6'.upd hu5 (by omega)).cell rfl) (B7'.cell rfl) ⟨(hx03.then_upd hu4 (Nat.le_refl _)).then_upd hu5 (by omega),fun hR=>absurd hRed hR,fun _ _=>rfl,fun _ hA=>absurd hA (by unfold ArgOk;omega),fun _ hA=>absurd hA (by unfold ArgOk;omega)⟩)
 refine .a 2 (.bool false) rfl (bool_false hA4) ?_
 (iterate 6 refine Nv ?_;try refine .r rfl ?_)
 refine .cF ?_
 refine Nv ?_
 have hArg:ArgOk B b:=⟨by omega,by omega,by omega,by omega⟩
 have hRF:=hRed.redF.1
 have hn:1≤M.length∧M.length≤8:=⟨hRed.1.1,hRed.2.2.1⟩
 have hA:=(hRed.at h).ext hx03
 have hcrowd:M.length > 1→B≥1073741824→visN (ent M) M.length B M.length [] (b,List.replicate M.length 0)=none:=fun h1 h2=>crowded hRF (by omega) h2 ⟨by omega,by omega⟩ _
 by_cases h1:M.length > 1
 ·refine .a 3 (.bool true) rfl (bool_true (by omega)) ?_
  by_cases h2:B≥1073741824
  ·refine .a 3 (.bool true) rfl (bool_true h2) ?_
   (iterate 6 refine Nv ?_;try refine .r rfl ?_)
   refine .cT ?_
   (iterate 6 refine Nv ?_;try refine .r rfl ?_)
   refine StL.step0 rfl rfl (OpR.store TBok (vs:=[.slice none 0 0]) rfl rfl rfl rfl rfl B6 (Nat.le_refl 1) (by simp [Value.oneCell'])) ?_
   rintro _ w4 ⟨B6',hu4⟩
   refine StL.step0 rfl rfl (OpR.store TEok (vs:=[.int .i64 9]) rfl rfl rfl rfl rfl (B7.upd hu4 (by omega)) (Nat.le_refl 1) (by simp [Value.oneCell'])) ?_
   rintro _ w5 ⟨B7',hu5⟩
   (iterate 6 refine Nv ?_;try refine .r rfl ?_)
   exact Out.plainM (Out.cells2 TEok rfl rfl rfl rfl rfl rfl rfl ((B6'.upd hu5 (by omega)).cell rfl) (B7'.cell rfl) ⟨(hx03.then_upd hu4 (Nat.le_refl _)).then_upd hu5 (by omega),fun hR=>absurd hRed hR,fun _ hA=>absurd hArg hA,fun _ _ _=>rfl,fun _ _ s' hs=>by rw [hcrowd h1 h2] at hs;cases hs⟩)
  ·refine .a 3 (.bool false) rfl (bool_false h2) ?_
   (iterate 6 refine Nv ?_;try refine .r rfl ?_)
   refine .cF ?_
   (iterate 6 refine Nv ?_;try refine .r rfl ?_)
   exact Out.met () sbb ⟨hx3,hRed,hArg,fun _=>by omega⟩
 ·refine .a 3 (.bool false) rfl (bool_false (by omega)) ?_
  (iterate 6 refine Nv ?_;try refine .r rfl ?_)
  refine .cF ?_
  (iterate 6 refine Nv ?_;try refine .r rfl ?_)
  exact Out.met () sbb ⟨hx3,hRed,hArg,fun h=>absurd h (by omega)⟩
end Go.Qf
namespace Go.Qf
open Go Go.RowKit Go.Proofs
def exM:List (List Int):=[[2,1],[1,2]]
def exF:Nat→Nat→Int:=ent exM
theorem ex_red:RedF 2 exF:=by
 refine ⟨?_,?_,?_,?_,?_⟩
 ·intro p q
  match p,q with
  | 0,0=>rfl
  | 0,1=>rfl
  | 1,0=>rfl
  | 1,1=>rfl
  | 0,q+2=>rfl
  | 1,q+2=>rfl
  | p+2,0=>rfl
  | p+2,1=>rfl
  | p+2,q+2=>rfl
 ·intro m hm
  match m,hm with
  | 0,_=>decide +kernel
  | 1,_=>decide +kernel
  | 2,_=>decide +kernel
 ·decide +kernel
 ·intro i j hi hj
  obtain ⟨rfl,rfl⟩:i=1∧j=0:=by omega
  unfold SzP
  decide +kernel
 ·intro i h1 h2
  obtain rfl:i=1:=by omega
  unfold LvP
  decide +kernel
theorem ex_Red:Red exM:=redF_red ex_red (by omega) (by omega)
theorem ex_pn:pnQ exF 2 [1]=Rat.divInt 3 2:=by decide +kernel
theorem ex_sq2:sqI exF 2 2 [1]=1 * (2 * 2 - 3):=by decide +kernel
theorem ex_sq1:sqI exF 2 1 [1]<0:=by decide +kernel
theorem ex_lo:loI exF 2 2 [1]=-1∧hiI exF 2 2 [1]=0:=by decide +kernel
theorem ex_steps:visN exF 2 2 2 [] (100,[0,0])=some (90,[3,7]):=by decide +kernel
theorem ex_fmt:fmtR (Rat.divInt 3 2)=[51,47,50]:=by decide +kernel
end Go.Qf
namespace Go.Qf
open Go Go.RowKit Go.Proofs
set_option maxRecDepth 20000
theorem sz_li64 {n:Nat} {f:Nat→Nat→Int} {ys:List Int} (hl:ys.length<n) (hn:n≤8) (hs:∀ k,k<n→∀ i j,i<n - k→j<n - k→sz (stI f k i j)≤1000) (hy:T64 ys):sz (liI f n ys)≤1100:=by
 unfold liI
 refine Nat.le_trans (sz_sumN (s:=1014) _ (fun j hj=>?_)) (by omega)
 have a1:=hs (n - ys.length - 1) (by omega) 0 (j+1) (by omega) (by omega)
 have a2:=hy.sz j
 have a3:=sz_mul (stI f (n - ys.length - 1) 0 (j+1)) (yv ys j)
 omega
theorem MI.mpc {w:World} {v:Value} {r c:Nat} {f:Nat→Nat→Int} (h:MI w v (mk r c f)) (hr:1≤r) (hc:1≤c):∃ a cap,v=.slice (some a) r cap∧∀ i,i<r→∃ b o cp,w.cell? (a.add i)=some (.slice (some ⟨b,o,none⟩) c cp)∧c≤cp∧RowP w b o c (f i):=by
 obtain ⟨rs,h1,h2,h3⟩:=h
 rw [mk_len] at h2
 have h0:rs[0]?=some (rs[0]'(by omega)):=by simp
 obtain ⟨a,cap,hv,_⟩:=h1.get h0
 refine ⟨a,cap,by rw [hv,h2],fun i hi=>?_⟩
 have hri:rs[i]?=some (rs[i]'(by omega)):=by simp
 obtain ⟨a',cap',hv',hcell⟩:=h1.get hri
 rw [hv] at hv'
 simp only [Value.slice.injEq,Option.some.injEq] at hv'
 obtain ⟨rfl,_,_⟩:=hv'
 have hLI:=h3 i _ _ hri (mk_get hi)
 obtain ⟨b,o,cp,hrv,hrp⟩:=hLI.rp hc
 obtain ⟨p,cap3,e3,hle,_⟩:=hLI
 simp only [List.length_map,List.length_range,tab] at e3 hle
 have e4:=hrv.symm.trans e3
 simp only [Value.slice.injEq] at e4
 exact ⟨b,o,cp,by rw [hcell,hrv],by omega,hrp⟩
theorem RowP.at {w:World} {b o c:Nat} {g:Nat→Int} (h:RowP w b o c g) {j:Nat} (hj:j<c):∃ u e C,Dn w u (g j)∧Blk e w b C∧(C.drop (o+2 * j)).take 2=u.cells.toList∧o+2 * j+2≤C.length:=by
 obtain ⟨e,C,hb,hg⟩:=h
 obtain ⟨u,h1,h2,h3⟩:=hg j hj
 exact ⟨u,e,C,h1,hb,h2,h3⟩
set_option maxHeartbeats 6400000 in
theorem frameInterval_spec {w:World} {x v:Value} {n:Nat} {f:Nat→Nat→Int} {ys:List Int} {B:Int} (hF:FrV w x n f) (k:L64 w v ys) (hl:ys.length<n) (hn:1≤n∧n≤8) (hR:RedF n f) (hT:T64 ys)
  (hB:-9223372036854775808≤B∧B≤9223372036854775807) (h0:0≤sqI f n B ys) :
  Calls Tryz.prog 57 #[x,.int .i64 B,v] w (Ret fun r w'=>Ext w w'∧r=.tuple #[.int .i64 (lo64 (loI f n B ys)),.int .i64 (lo64 (hiI f n B ys))]):=by
 have hszs:=hR.szs hn.2
 have hszd:=hR.szd hn.2
 have hsl:=sz_li64 (f:=f) hl hn.2 hszs hT
 have hzB:sz B≤2:=sz_small (by omega) (by omega)
 obtain ⟨aS,cs,bm,om,cm,rfl,hS,hRC⟩:=hF.open hn.1
 obtain ⟨px,cx,rfl⟩:=k.len
 obtain ⟨s,hs⟩:∃ s,s=n - ys.length - 1:=⟨_,rfl⟩
 obtain ⟨aM,cM,hcS,hMI⟩:=hS s (by omega)
 rw [show n - s=ys.length+1 by omega] at hcS hMI
 obtain ⟨_,_,e,hRows⟩:=hMI.mpc (by omega) (by omega)
 simp only [Value.slice.injEq,Option.some.injEq] at e
 obtain ⟨rfl,_,_⟩:=e
 have hst:∀ i j,i≤ys.length→j≤ys.length→sz (stI f s i j)≤1000:=fun i j hi hj=>hszs s (by omega) i j (by omega) (by omega)
 have hdot:∀ i,i≤ys.length→∀ j,j<ys.length→sz (stI f s i (j+1) * yv ys j)≤1014:=by
  intro i hi j hj
  have a1:=hst i (j+1) hi (by omega)
  have a2:=hT.sz j
  have a3:=sz_mul (stI f s i (j+1)) (yv ys j)
  omega
 have hin:∀ i,i≤ys.length→sz (sumN ys.length (fun j=>stI f s i (j+1) * yv ys j))≤1022:=fun i hi=>Nat.le_trans (sz_sumN (s:=1014) _ (hdot i hi)) (by omega)
 have hterm:∀ i,i<ys.length→sz (yv ys i * sumN ys.length (fun j=>stI f s (i+1) (j+1) * yv ys j))≤1036:=by
  intro i hi
  have a1:=hin (i+1) (by omega)
  have a2:=hT.sz i
  have a3:=sz_mul (yv ys i) (sumN ys.length (fun j=>stI f s (i+1) (j+1) * yv ys j))
  omega
 refine calls_of_St (args:=[_,_,_]) Tryz.func57 rfl Tryz.ntmps57 rfl ?_
 refine Nv ?_
 refine .s (OpR.box rfl) ?_
 rintro _ w1 ⟨rfl,B3,hx1,hz1⟩
 (iterate 6 refine Nv ?_;try refine .r rfl ?_)
 (refine .s (RunsTo.load TBok rfl rfl rfl (Blk.cell upp rfl)).op ?_;rintro _ _ ⟨rfl,rfl⟩)
 refine .a 3 (.int .i64 ((n - ys.length:Nat):Int)) rfl (by rw [i64_id (by omega) (by omega)];congr 1;omega) ?_
 refine .a 1 (.int .i64 (s:Int)) rfl (by rw [i64_id (by omega) (by omega)];congr 1;omega) ?_
 (iterate 6 refine Nv ?_;try refine .r rfl ?_)
 (refine .s (RunsTo.load TBok rfl rfl rfl (Blk.cell upp rfl)).op ?_;rintro _ _ ⟨rfl,rfl⟩)
 refine .r rfl ?_
 refine .p (RunsTo.ia) ?_
 refine .p (RunsTo.load TBok rfl rfl rfl (hx1.cell hcS)) ?_
 (iterate 6 refine Nv ?_;try refine .r rfl ?_)
 refine .s (OpR.call fn_r09_Column rfl (column_spec (k.ext hx1) (by omega) hT)) ?_
 rintro yv' w2 ⟨hx2,hY⟩
 have hx02:=hx1.trans hx2
 replace B3:=B3.ext hx2
 obtain ⟨py,cy,ey0⟩:=hY.1
 subst ey0
 obtain ⟨b0,o0,c0,hc0,hcp0,hr0⟩:=hRows 0 (by omega)
 have hLP:=hY.lp (fun j _=>by have:=hT.sz j;omega)
 (iterate 6 refine Nv ?_;try refine .r rfl ?_)
 refine .p (RunsTo.ia) ?_
 refine .p (RunsTo.load TBok rfl rfl rfl (hx02.cell hc0)) ?_
 refine .p (RunsTo.sliceLo TBok rfl rfl rfl rfl 1 rfl (by omega)) ?_
 refine .r rfl ?_
 refine .s (OpR.call fn_r03_Dot rfl (dotL_spec (s:=1014) ((hr0.ext hx02).slice1 hcp0) hLP (by omega) (hdot 0 (by omega)) (by omega))) ?_
 rintro lv w3 ⟨hx3,hlv⟩
 replace hlv:CanO 0 w3 lv (liI f n ys):=by unfold liI;rw [← hs];exact hlv
 have hx03:=hx02.trans hx3
 refine StL.newI rfl (fun _=>rfl) hlv.r2 ?_
 intro w4 hx4 B11
 have hx04:=hx03.trans hx4
 replace hlv:=hlv.ext hx4
 replace B3:=(B3.ext hx3).ext hx4
 replace hY:=(hY.ext hx3).ext hx4
 refine Nv ?_
 (refine .s (RunsTo.build TBok rfl rfl rfl rfl).op ?_;rintro _ _ ⟨rfl,rfl⟩)
 refine StL.newI (v:=zI) rfl (fun _=>rfl) (canO_zero 0 w4).r2 ?_
 intro w5 hx5 B12
 (iterate 6 refine Nv ?_;try refine .r rfl ?_)
 refine St.rng TBok (42) (0) (ys.length) (by omega) [(1,.int .i64 B),(3,.pointer (some ⟨w.heap.size,0,none⟩)),(8,.int .i64 s),(9,.slice (some aM) (ys.length+1) cM),(10,.slice py ys.length cy),(11,.pointer (some ⟨w3.heap.size,0,none⟩)),(12,.pointer (some ⟨w4.heap.size,0,none⟩)),(41,.int .i64 ys.length)] (fun i w'=>Ext w4 w'∧∃ v,Blk 31 w' w4.heap.size v.cells.toList∧CanO 0 w' v (sumN i (fun i=>yv ys i * sumN ys.length (fun j=>stI f s (i+1) (j+1) * yv ys j)))) sbb ?_ (fun _=>⟨rfl,rfl⟩) (fun _=>rfl) (fun _=>⟨rfl,rfl⟩) rfl rfl (by omega) ?_ ?_
 ·exact ⟨hx5,zI,B12,canO_zero 0 _⟩
 ·clear B12
  rintro i w6 hi ⟨hx6,u,S12,hu⟩
  have hx06:=hx04.trans hx6
  have hY6:=hY.ext hx6
  obtain ⟨by',oy,cy',ey,hry⟩:=hY6.2 (by omega)
  cases ey
  obtain ⟨uy,ey2,Cy,hdy,hBy,ky,ly⟩:=hry.at hi
  obtain ⟨bi,oi,ci,hci,hcpi,hri⟩:=hRows (i+1) (by omega)
  have hzs:=sz_sumN (s:=1036) i (fun j hj=>hterm j (by omega)) (g:=fun i=>yv ys i * sumN ys.length (fun j=>stI f s (i+1) (j+1) * yv ys j))
  have ht:=hterm i hi
  have hyi:=hT.sz i
  have hini:=hin (i+1) (by omega)
  (iterate 6 refine Nv ?_;try refine .r rfl ?_)
  refine St.sub (E':=[(42,.int .i64 i),(13,.int .i64 i),(1,.int .i64 B),(3,.pointer (some ⟨w.heap.size,0,none⟩)),(8,.int .i64 s),(9,.slice (some aM) (ys.length+1) cM),(10,.slice (some ⟨by',oy,none⟩) ys.length cy),(11,.pointer (some ⟨w3.heap.size,0,none⟩)),(12,.pointer (some ⟨w4.heap.size,0,none⟩)),(41,.int .i64 ys.length)]) ?_ sbb
  refine St.flow 14 TBfol (by kernel_rfl) rfl (by kernel_rfl) rfl True.intro ?_
  refine .on (fun _ hR=>RunsTo.loadCan rfl (hR.blk S12 (by simp)) hu) ?_
  refine FL.run TBok 99 rfl ?_
  refine .on (fun _ _=>RunsTo.indexI rfl rfl rfl (by omega)) ?_
  refine .on (fun _ hR=>RunsTo.loadIt rfl (hR.blk hBy (by simp)) ky ly hdy.r2) ?_
  refine FL.as TBok 3 (.int .i64 ((i+1:Nat):Int)) rfl (i64_succ (by omega)) ?_
  refine .on (fun _ _=>RunsTo.ia) ?_
  refine .on (fun _ hR=>RunsTo.load TBok rfl rfl rfl (hR.ext_nil.cell (hx06.cell hci))) ?_
  refine .on (fun _ _=>RunsTo.sliceLo TBok rfl rfl rfl rfl 1 rfl (by omega)) ?_
  refine FL.run TBok 99 rfl ?_
  refine FL.callE fn_r03_Dot rfl rfl rfl (fun w7 hx7=>CallF.mk rfl (dotL_spec (s:=1014) (((hri.ext hx06).ext hx7).slice1 hcpi) ((hY6.lp (fun j _=>by have:=hT.sz j;omega)).ext hx7) (by omega) (hdot (i+1) (by omega)) (by omega))) (MonoR.canO 0 _) ?_
  refine FL.callE fn_r01_Mul rfl rfl rfl (fun w7 hx7 t1 h1=>CallF.mk rfl (rmul_dn (base:=0) ((hdy.ext hx7).dn (by omega)) (h1.dn (by omega)) (Nat.zero_le _))) (MonoR.canO 0 _) ?_
  refine FL.endE rfl ?_
  rintro w7 hx7 y hy _ _ _ _
  replace S12:=S12.ext hx7
  replace hu:=hu.ext hx7
  refine .s (OpR.call fn_r01_Add rfl (radd_dn (base:=0) (hu.dn (by omega)) (hy.dn (by omega)) (Nat.zero_le _))) ?_
  rintro z w8 ⟨hx8,hz⟩
  replace S12:=S12.ext hx8
  refine StL.setCan rfl rfl S12 hu.two.1 hz ((hx6.trans hx7).trans hx8) (Nat.le_refl _) ?_
  intro w9 S9 hu9 hz9 hx9
  refine Nv ?_
  exact Out.rnd sbb ⟨hx9,z,S9,hz9⟩
 ·clear B12
  rintro w6 ⟨hx6,u,S12,hu⟩
  have hx06:=hx04.trans hx6
  replace hu:CanO 0 w6 u (qdI f n ys):=by unfold qdI;rw [← hs];exact hu
  have hzq:sz (qdI f n ys)≤1044:=by unfold qdI;rw [← hs];exact Nat.le_trans (sz_sumN (s:=1036) _ hterm) (by omega)
  have B3':=B3.ext hx6
  obtain ⟨um,em,Cm,hdm,hBm,km,lm⟩:=(hRC.ext hx06).at (j:=s) (by omega)
  have hzd:=hszd s (by omega)
  have hz00:=hst 0 0 (by omega) (by omega)
  have hzb:=sz_mul B (ddI f s)
  have hz1:=sz_sub (qdI f n ys) (B * ddI f s)
  have hz2:=sz_mul (liI f n ys) (liI f n ys)
  have hz3:=sz_mul (stI f s 0 0) (qdI f n ys - B * ddI f s)
  have hz4:=sz_sub (liI f n ys * liI f n ys) (stI f s 0 0 * (qdI f n ys - B * ddI f s))
  have hsq:liI f n ys * liI f n ys - stI f s 0 0 * (qdI f n ys - B * ddI f s)=sqI f n B ys:=by rw [hs];exact sq_eq hR hl B
  rw [hsq] at hz4
  refine Nv ?_
  refine St.sub (E':=[(1,.int .i64 B),(3,.pointer (some ⟨w.heap.size,0,none⟩)),(8,.int .i64 s),(9,.slice (some aM) (ys.length+1) cM),(11,.pointer (some ⟨w3.heap.size,0,none⟩)),(12,.pointer (some ⟨w4.heap.size,0,none⟩))]) ?_ sbb
  refine St.flow 9 TBfol (by kernel_rfl) rfl (by kernel_rfl) rfl True.intro ?_
  refine .on (fun _ hR=>RunsTo.loadCan rfl (hR.blk S12 (by simp)) hu) ?_
  refine FL.run TBok 99 rfl ?_
  refine FL.callE fn_r01_Small rfl rfl rfl (fun w7 hx7=>CallF.mk rfl (rsmall_spec (base:=0) w7 B (by omega) (by omega) (Nat.zero_le _))) (MonoR.canO 0 _) ?_
  refine FL.run TBok 99 rfl ?_
  refine FL.load (L:=[]) TBok rfl rfl rfl rfl rfl rfl upp (by simp) rfl ?_
  refine FL.run TBok 99 rfl ?_
  refine .on (fun _ _=>RunsTo.indexI rfl rfl rfl (by omega)) ?_
  refine .on (fun _ hR=>RunsTo.loadIt rfl (hR.blk hBm (by simp)) km lm hdm.r2) ?_
  refine FL.callE fn_r01_Mul rfl rfl rfl (fun w7 hx7 t1 h1=>CallF.mk rfl (rmul_dn (base:=0) (h1.dn (by omega)) ((hdm.ext hx7).dn (by omega)) (Nat.zero_le _))) (MonoR.canO 0 _) ?_
  refine FL.endE rfl ?_
  rintro w7 hx7 y hy _ _ _ _
  replace S12:=S12.ext hx7
  replace hu:=hu.ext hx7
  refine .s (OpR.call fn_r01_Sub rfl (rsub_dn (base:=0) (hu.dn (by omega)) (hy.dn (by omega)) (Nat.zero_le _))) ?_
  rintro z w8 ⟨hx8,hz⟩
  replace S12:=S12.ext hx8
  refine StL.setCan rfl rfl S12 hu.two.1 hz ((hx6.trans hx7).trans hx8) (Nat.le_refl _) ?_
  intro w9 S9 hu9 hz9 hx9
  clear B3' hdm hBm
  have hx09:=hx04.trans hx9
  replace B11:=B11.ext hx9
  replace hlv:=hlv.ext hx9
  obtain ⟨u0,e0,C0,hd0,hB0,k0,l0⟩:=(hr0.ext hx09).at (j:=0) (by omega)
  replace hc0:=hx09.cell hc0
  obtain ⟨ρ,hρ⟩:∃ ρ,ρ=rtN (sqI f n B ys).natAbs:=⟨_,rfl⟩
  have hroot:IsRoot (sqI f n B ys).natAbs ρ:=by rw [hρ];exact rtN_root _
  have hzρ:sz (ρ:Int)≤4000:=by
   have:=sz_root hroot
   have e:((sqI f n B ys).natAbs:Int)=sqI f n B ys:=by omega
   rw [e] at this
   omega
  refine Nv ?_
  refine St.sub (E':=[(9,.slice (some aM) (ys.length+1) cM),(11,.pointer (some ⟨w3.heap.size,0,none⟩)),(12,.pointer (some ⟨w4.heap.size,0,none⟩))]) ?_ sbb
  refine St.flow 17 TBfol (by kernel_rfl) rfl (by kernel_rfl) rfl True.intro ?_
  refine .on (fun _ hR=>RunsTo.loadCan rfl (hR.blk B11 (by simp)) hlv) ?_
  refine .on (fun _ hR=>RunsTo.loadCan rfl (hR.blk B11 (by simp)) hlv) ?_
  refine FL.callE fn_r01_Mul rfl rfl rfl (fun w10 hx10=>CallF.mk rfl (rmul_dn (base:=0) ((hlv.ext hx10).dn (by omega)) ((hlv.ext hx10).dn (by omega)) (Nat.zero_le _))) (MonoR.canO 0 _) ?_
  refine FL.run TBok 99 rfl ?_
  refine .on (fun _ _=>RunsTo.ia) ?_
  refine .on (fun _ hR=>RunsTo.load TBok rfl rfl rfl (hR.ext_nil.cell hc0)) ?_
  refine .on (fun _ _=>RunsTo.indexI (j:=0) rfl rfl rfl (by omega)) ?_
  refine .on (fun _ hR=>RunsTo.loadIt (j:=0) rfl (hR.blk hB0 (by simp)) k0 l0 hd0.r2) ?_
  refine .on (fun _ hR=>RunsTo.loadCan rfl (hR.blk S9 (by simp)) hz9) ?_
  refine FL.callE fn_r01_Mul rfl rfl rfl (fun w10 hx10=>CallF.mk rfl (rmul_dn (base:=0) (hd0.ext hx10) ((hz9.ext hx10).dn (by omega)) (Nat.zero_le _))) (MonoR.canO 0 _) ?_
  refine FL.callE fn_r01_Sub rfl rfl rfl (fun w10 hx10 t1 h1 t2 h2=>CallF.mk rfl (rsub_dn (base:=0) (h1.dn (by omega)) (h2.dn (by omega)) (Nat.zero_le _))) (MonoR.canO 0 _) ?_
  refine FL.callE fn_r01_Sqrt (ψ:=fun v w'=>∃ r,v=.tuple #[r,.bool true]∧CanO 0 w' r (ρ:Int)) rfl rfl rfl (fun w10 hx10 t1 h1=>?_) (fun _ _ _ hR ⟨r,h1,h2⟩=>⟨r,h1,h2.rg hR⟩) ?_
  ·rw [hsq] at h1
   refine CallF.mk rfl ((rsqrt_dn (h1.dn (by omega)) (by omega)).mono ?_)
   rintro _ w11 ⟨x,rfl,hx11,hs1,hs2⟩
   obtain ⟨r,y,rfl,hy,hc⟩:=hs2 h0
   have e:y=ρ:=hy.unique hroot
   subst e
   exact ⟨_,rfl,hx11,r,rfl,hc⟩
  refine FL.fact (L:=[]) (ψ:=fun v w'=>∃ r,v=.tuple #[r,.bool true]∧CanO 0 w' r (ρ:Int)) rfl rfl rfl rfl rfl (fun w7 hR t1 h1=>(RunsTo.pure TBok rfl).op.mono (by rintro _ _ ⟨rfl,rfl⟩;exact ⟨Ext.refl _,h1⟩)) (fun _ _ _ hR ⟨r,h1,h2⟩=>⟨r,h1,h2.rg hR⟩) ?_
  refine FL.fact (L:=[]) (ψ:=fun v w'=>CanO 0 w' v (ρ:Int)) rfl rfl rfl rfl rfl (fun w7 hR t1 h1=>?_) (MonoR.canO 0 _) ?_
  ·obtain ⟨r,rfl,hr⟩:=h1
   exact (RunsTo.pure TBok rfl).op.mono (by rintro _ _ ⟨rfl,rfl⟩;exact ⟨Ext.refl _,hr⟩)
  refine FL.fact (L:=[]) (ψ:=Is (.bool true)) rfl rfl rfl rfl rfl (fun w7 hR t1 h1=>?_) (MonoR.is _ _) ?_
  ·obtain ⟨r,rfl,hr⟩:=h1
   exact (RunsTo.pure TBok rfl).op.mono (by rintro _ _ ⟨rfl,rfl⟩;exact ⟨Ext.refl _,rfl⟩)
  refine FL.alloc TBok rfl rfl rfl rfl ?_
  refine FL.storeN (L:=[]) (base:=w9.heap.size) TBok rfl rfl rfl rfl rfl (MonoR.canO 0 (ρ:Int)) ?_ ?_
  ·intro w7 hR v11 h11 v24 h24
   exact ⟨⟨v11,rfl,h11⟩,v24,rfl,h24.two.1,h24.two.2,h24⟩
  refine FL.endE rfl ?_
  rintro w10 hx10 _ ⟨b14,C14,rfl,hg14,_,_⟩ _ rfl _ _ _ _ _ _ _ _ _ _ _ _ ⟨⟨b14',u14,hbu,B14,hu14⟩,_⟩ hdist
  cases hbu
  clear hdist
  replace B11:=B11.ext hx10
  replace hlv:=hlv.ext hx10
  replace hB0:=hB0.ext hx10
  replace hd0:=hd0.ext hx10
  replace hc0:=hx10.cell hc0
  have hx010:=hx09.trans hx10
  have hd1:=ddI_pos hR.pos (show n - ys.length≤n by omega)
  have e00:stI f s 0 0=ddI f (n - ys.length):=by rw [stI_diag,show s+1=n - ys.length by omega]
  have hz5:=sz_sub (ρ:Int) (liI f n ys)
  have hz6:=sz_add (ρ:Int) (liI f n ys)
  have zq1:=sz_div ((ρ:Int) - liI f n ys) (stI f s 0 0)
  have zq2:=sz_div ((ρ:Int)+liI f n ys) (stI f s 0 0)
  have zq3:=sz_neg (((ρ:Int)+liI f n ys) / stI f s 0 0)
  obtain ⟨bb1,e1⟩:=int64V_lo (((ρ:Int) - liI f n ys) / stI f s 0 0)
  obtain ⟨bb2,e2⟩:=int64V_lo (-(((ρ:Int)+liI f n ys) / stI f s 0 0))
  refine .r rfl ?_
  refine Nv ?_
  refine St.sub (E':=[(9,.slice (some aM) (ys.length+1) cM),(11,.pointer (some ⟨w3.heap.size,0,none⟩)),(14,.pointer (some ⟨b14,0,none⟩))]) ?_ sbb
  refine St.flow 14 TBfol (by kernel_rfl) rfl (by kernel_rfl) rfl True.intro ?_
  refine .on (fun _ hR=>RunsTo.loadCan rfl (hR.blk B14 (by simp)) hu14) ?_
  refine .on (fun _ hR=>RunsTo.loadCan rfl (hR.blk B11 (by simp)) hlv) ?_
  refine FL.callE fn_r01_Sub rfl rfl rfl (fun w11 hx11=>CallF.mk rfl (rsub_dn (base:=0) ((hu14.ext hx11).dn (by omega)) ((hlv.ext hx11).dn (by omega)) (Nat.zero_le _))) (MonoR.canO 0 _) ?_
  refine FL.run TBok 99 rfl ?_
  refine .on (fun _ _=>RunsTo.ia) ?_
  refine .on (fun _ hR=>RunsTo.load TBok rfl rfl rfl (hR.ext_nil.cell hc0)) ?_
  refine .on (fun _ _=>RunsTo.indexI (j:=0) rfl rfl rfl (by omega)) ?_
  refine .on (fun _ hR=>RunsTo.loadIt (j:=0) rfl (hR.blk hB0 (by simp)) k0 l0 hd0.r2) ?_
  refine FL.callE fn_r01_Quo rfl rfl rfl (fun w11 hx11 t1 h1=>CallF.mk rfl (rquo_dn (h1.dn (by omega)) (hd0.ext hx11) (by omega) ⟨by omega,by omega⟩)) (MonoR.canO 0 _) ?_
  refine FL.callXE fn_r01_Int64 (c:=.tuple #[.int .i64 (lo64 (((ρ:Int) - liI f n ys) / stI f s 0 0)),.bool bb1]) rfl rfl rfl (fun w11 hx11 t1 h1=>CallF.mk rfl (by rw [← e1];exact rint64_dn (h1.dn (by omega)))) ?_
  refine FL.run TBok 99 rfl ?_
  refine FL.endE rfl ?_
  rintro w11 hx11 _ _ _ _ _ _
  replace B11:=B11.ext hx11
  replace hlv:=hlv.ext hx11
  replace hB0:=hB0.ext hx11
  replace hd0:=hd0.ext hx11
  replace hc0:=hx11.cell hc0
  replace B14:=B14.ext hx11
  replace hu14:=hu14.ext hx11
  replace hx010:=hx010.trans hx11
  refine .r rfl ?_
  refine Nv ?_
  refine St.sub (E':=[(9,.slice (some aM) (ys.length+1) cM),(11,.pointer (some ⟨w3.heap.size,0,none⟩)),(14,.pointer (some ⟨b14,0,none⟩)),(16,.int .i64 (lo64 (((ρ:Int) - liI f n ys) / stI f s 0 0)))]) ?_ sbb
  refine St.flow 15 TBfol (by kernel_rfl) rfl (by kernel_rfl) rfl True.intro ?_
  refine .on (fun _ hR=>RunsTo.loadCan rfl (hR.blk B14 (by simp)) hu14) ?_
  refine .on (fun _ hR=>RunsTo.loadCan rfl (hR.blk B11 (by simp)) hlv) ?_
  refine FL.callE fn_r01_Add rfl rfl rfl (fun w12 hx12=>CallF.mk rfl (radd_dn (base:=0) ((hu14.ext hx12).dn (by omega)) ((hlv.ext hx12).dn (by omega)) (Nat.zero_le _))) (MonoR.canO 0 _) ?_
  refine FL.run TBok 99 rfl ?_
  refine .on (fun _ _=>RunsTo.ia) ?_
  refine .on (fun _ hR=>RunsTo.load TBok rfl rfl rfl (hR.ext_nil.cell hc0)) ?_
  refine .on (fun _ _=>RunsTo.indexI (j:=0) rfl rfl rfl (by omega)) ?_
  refine .on (fun _ hR=>RunsTo.loadIt (j:=0) rfl (hR.blk hB0 (by simp)) k0 l0 hd0.r2) ?_
  refine FL.callE fn_r01_Quo rfl rfl rfl (fun w12 hx12 t1 h1=>CallF.mk rfl (rquo_dn (h1.dn (by omega)) (hd0.ext hx12) (by omega) ⟨by omega,by omega⟩)) (MonoR.canO 0 _) ?_
  refine FL.callE fn_r01_Neg rfl rfl rfl (fun w12 hx12 t1 h1=>CallF.mk rfl (rneg_dn (base:=0) (h1.dn (by omega)) (Nat.zero_le _))) (MonoR.canO 0 _) ?_
  refine FL.callXE fn_r01_Int64 (c:=.tuple #[.int .i64 (lo64 (-(((ρ:Int)+liI f n ys) / stI f s 0 0))),.bool bb2]) rfl rfl rfl (fun w12 hx12 t1 h1=>CallF.mk rfl (by rw [← e2];exact rint64_dn (h1.dn (by omega)))) ?_
  refine FL.run TBok 99 rfl ?_
  refine FL.endE rfl ?_
  rintro w12 hx12 _ _ _ _ _ _ _ _
  (iterate 6 refine Nv ?_;try refine .r rfl ?_)
  refine Out.rets TBok [_,_] rfl ⟨rfl,rfl,trivial⟩ ⟨hx010.trans hx12,?_⟩
  unfold loI hiI ivLo ivHi
  rw [← hρ,e00,Int.add_comm (liI f n ys) (ρ:Int)]
  rfl
def M64b (M:List (List Int)):Prop:=∀ row ∈ M,∀ x ∈ row,-9223372036854775808≤x∧x≤9223372036854775807
theorem Red.mk {M:List (List Int)} (h:Red M):M=mk M.length M.length (ent M):=sq_mk h.small.2.1
theorem RunsTo.strIs10 {P:Program} {n:Nat} {E:List (Nat×Value)} {w:World} {d:Option Tmp} {x y:Operand} {t2 ty:TypeId} {pos:String} {af:Array Edge} {g:Option (Nat×Bool)} {xs bs:List Nat} (h1:B8 xs) (h2:B8 bs) (hx:ov E x=some (strV xs)) (hy:ov E y=some (strV bs)) (e:xs=bs) :
  RunsTo P n ⟨d,.binOp .eql 9 x y t2,ty,pos,af,g⟩ E w (.bool true):=by
 have:=RunsTo.strEql (P:=P) (n:=n) (w:=w) (d:=d) (t:=9) (t2:=t2) (ty:=ty) (pos:=pos) (af:=af) (g:=g) h1 h2 hx hy
 rwa [decide_eq_true e] at this
theorem OpR.pairV {P:Program} {T:List (Nat×TI)} {n:Nat} {E:List (Nat×Value)} {w:World} (hT:TblOk P T) {d:Option Tmp} {t:TypeId} {x y:Operand} {ty:TypeId} {pos:String} {af:Array Edge} {g:Option (Nat×Bool)} {et:TypeId} {s1 s2:Nat} {z:Value} {ti:TI} {p1 p2:Option Addr} {l1 l2 c1 c2:Nat}
  (ht:lookT T t=some ⟨.slice et,s1,s2,z⟩) (hte:lookT T et=some ti) (hsz:ti.size=1) (hx:ov E x=some (.slice p1 l1 c1)) (hy:ov E y=some (.slice p2 l2 c2)) :
  OpR P n ⟨d,.buildSlice t 2 #[(0,x),(1,y)],ty,pos,af,g⟩ E w (fun r w'=>r=.slice (some ⟨w.heap.size,0,none⟩) 2 2∧Blk et w' w.heap.size [.slice p1 l1 c1,.slice p2 l2 c2]∧Ext w w'∧w'.heap.size=w.heap.size+1):=by
 intro a ha Q K hK
 obtain ⟨_,inf,hi,hsize,hby,hzero⟩:=hT et ti hte
 have e1:=ha.eval hx
 have e2:=ha.eval hy
 have hrun:(execOp a.eval ⟨d,.buildSlice t 2 #[(0,x),(1,y)],ty,pos,af,g⟩).run P w=.ok (.value (.slice (some ⟨w.heap.size,0,none⟩) 2 2)) (w.alloc (.cells #[.slice p1 l1 c1,.slice p2 l2 c2] et (0,0))):=by
  generalize a.eval=ρ at e1 e2
  simp [execOp,Instr.buildSlice,e1,e2,run_underlying_T hT ht,run_sizeOf_T hT hte,hsz,zeroValue,run_typeInfo hi,hzero,Instr.fill,newRow,go_sem]
 unfold Oper.wp
 rw [hrun,Oper.upon_value]
 exact hK _ _ ⟨rfl,blk_alloc _ _ _,ext_alloc _ _,size_alloc1 _ _⟩
theorem l64_blk {e:TypeId} {w:World} {b:Nat} {xs:List Int} (h:Blk e w b (xs.map i64)):L64 w (.slice (some ⟨b,0,none⟩) xs.length xs.length) xs:=by
 refine ⟨some ⟨b,0,none⟩,xs.length,by rw [List.length_map],by rw [List.length_map];exact Nat.le_refl _,fun e=>(by cases e),?_⟩
 rintro a ha i c hi
 cases ha
 rw [addr_add,Nat.zero_add]
 exact h.cell hi
theorem ex_m64 {w:World} {b b0 b1:Nat} {e0 e1 e:TypeId} (h0:Blk e0 w b0 [.int .i64 2,.int .i64 1]) (h1:Blk e1 w b1 [.int .i64 1,.int .i64 2]) (h:Blk e w b [.slice (some ⟨b0,0,none⟩) 2 2,.slice (some ⟨b1,0,none⟩) 2 2]):M64 w (.slice (some ⟨b,0,none⟩) 2 2) exM:=by
 refine ⟨[.slice (some ⟨b0,0,none⟩) 2 2,.slice (some ⟨b1,0,none⟩) 2 2],⟨some ⟨b,0,none⟩,2,rfl,Nat.le_refl _,fun e=>(by cases e),?_⟩,rfl,?_⟩
 ·rintro a ha i c hi
  cases ha
  rw [addr_add,Nat.zero_add]
  exact h.cell hi
 ·intro i r row hr hrow
  match i with
  | 0=>simp [exM] at hr hrow;subst hr hrow;exact l64_blk (xs:=[2,1]) h0
  | 1=>simp [exM] at hr hrow;subst hr hrow;exact l64_blk (xs:=[1,2]) h1
  | i+2=>simp at hr
theorem ex_ent:ent exM=exF:=rfl
theorem ex_len:exM.length=2:=rfl
theorem ex_tail:TailOk [1]:=fun y hy=>by rw [List.mem_singleton.1 hy];omega
theorem ex_root:IsRoot (sqI exF 2 2 [1]).natAbs (rtN (sqI exF 2 2 [1]).natAbs):=rtN_root _
theorem ex_rz:rz (Rat.divInt 3 2)≤100:=by decide +kernel
set_option maxHeartbeats 3200000 in
theorem awake10_spec (w:World):Calls Tryz.prog 18 #[] w (Ret fun r w'=>Ext w w'∧r=.bool true):=by
 refine calls_of_St (args:=[]) Tryz.func18 rfl Tryz.ntmps18 rfl ?_
 (iterate 6 refine Nv ?_;try refine .r rfl ?_)
 refine .s (OpR.pair TBok rfl rfl rfl rfl rfl) ?_
 rintro _ w1 ⟨rfl,B1,hx1,_⟩
 refine .s (OpR.pair TBok rfl rfl rfl rfl rfl) ?_
 rintro _ w2 ⟨rfl,B2,hx2,_⟩
 refine .s (OpR.pairV TBok rfl rfl rfl rfl rfl) ?_
 rintro _ w3 ⟨rfl,B3,hx3,_⟩
 have hM:=ex_m64 ((B1.ext hx2).ext hx3) (B2.ext hx3) B3
 have hx03:=(hx1.trans hx2).trans hx3
 (iterate 6 refine Nv ?_;try refine .r rfl ?_)
 refine .s (OpR.single TBok rfl rfl rfl rfl) ?_
 rintro _ w4 ⟨rfl,B4,hx4,_⟩
 have hL4:=l64_blk (xs:=[1]) B4
 refine .s (OpR.call fn_schur_PartialNorm rfl (partialNorm_spec (hM.ext hx4) (by decide) hL4 (by decide))) ?_
 rintro _ w5 ⟨hx5,hp,_⟩
 obtain ⟨r,rfl,hr⟩:=hp ⟨ex_Red,by decide,by decide,ex_tail⟩
 replace hr:CanR 0 w5 r (Rat.divInt 3 2):=by rw [← ex_pn];exact hr
 refine .r rfl ?_
 refine StL.newR rfl rfl (fun _=>rfl) hr.1 ?_
 intro b2 w6 hl2 hx6 BR
 replace hr:=hr.ext hx6
 have hx36:=(hx4.trans hx5).trans hx6
 replace hM:=hM.ext hx36
 have hx06:=hx03.trans hx36
 (iterate 6 refine Nv ?_;try refine .r rfl ?_)
 refine .s (OpR.single TBok rfl rfl rfl rfl) ?_
 rintro _ w7 ⟨rfl,B7,hx7,_⟩
 have hL7:=l64_blk (xs:=[1]) B7
 refine .s (OpR.call fn_schur_Interval rfl (interval_spec (hM.ext hx7) (by decide) hL7 (by decide))) ?_
 rintro _ w8 ⟨hx8,_,hi⟩
 obtain ⟨ρ,hρ,rfl⟩:=hi ⟨ex_Red,by decide,ex_tail,by decide,by decide⟩ (by rw [ex_ent,ex_len,ex_sq2];decide)
 have e1:lo64 (ivLo (ent exM) exM.length ρ [1])=-1:=by
  have h1:=ex_lo.1
  unfold loI at h1
  rw [ex_ent,ex_len,hρ.unique ex_root,h1]
  rfl
 have e2:lo64 (ivHi (ent exM) exM.length ρ [1])=0:=by
  have h1:=ex_lo.2
  unfold hiI at h1
  rw [ex_ent,ex_len,hρ.unique ex_root,h1]
  rfl
 rw [e1,e2]
 have hx68:=hx7.trans hx8
 replace hM:=hM.ext hx68
 replace hr:=hr.ext hx68
 replace BR:=BR.ext hx68
 have hx08:=hx06.trans hx68
 (iterate 6 refine Nv ?_;try refine .r rfl ?_)
 refine .s (OpR.call fn_schur_Steps rfl (schurSteps_spec hM (by decide))) ?_
 rintro _ w9 ⟨hx9,_,_,_,hst⟩
 obtain ⟨sv,rfl,hsv⟩:=hst ex_Red ⟨by decide,by decide,by decide,by decide⟩ _ ex_steps
 replace hsv:L64 w9 sv [3,7]:=hsv
 obtain ⟨a0,c0,e0,hc0⟩:=hsv.cell (j:=0) (by decide)
 obtain ⟨a1,c1,e1',hc1⟩:=hsv.cell (j:=1) (by decide)
 rw [e0] at e1'
 simp only [Value.slice.injEq,Option.some.injEq] at e1'
 obtain ⟨rfl,_,_⟩:=e1'
 replace e0:sv=.slice (some a0) 2 c0:=e0
 subst e0
 replace hc0:w9.cell? (a0.add 0)=some (.int .i64 3):=hc0
 replace hc1:w9.cell? (a0.add 1)=some (.int .i64 7):=hc1
 have hx89:=hx9
 replace hM:=hM.ext hx9
 replace hr:=hr.ext hx9
 replace BR:=BR.ext hx9
 have hx09:=hx08.trans hx9
 (iterate 6 refine Nv ?_;try refine .r rfl ?_)
 refine .s (OpR.single TBok rfl rfl rfl rfl) ?_
 rintro _ w10 ⟨rfl,B10,hx10,_⟩
 have hL10:=l64_blk (xs:=[1]) B10
 refine .s (OpR.call fn_schur_Interval rfl (interval_spec (hM.ext hx10) (by decide) hL10 (by decide))) ?_
 rintro _ w11 ⟨hx11,hi,_⟩
 obtain rfl:=hi (.inr ex_sq1)
 have hx911:=hx10.trans hx11
 replace hr:=hr.ext hx911
 replace BR:=BR.ext hx911
 have hx011:=hx09.trans hx911
 replace hc0:=hx911.cell hc0
 replace hc1:=hx911.cell hc1
 have hrz:=ex_rz
 (iterate 6 refine Nv ?_;try refine .r rfl ?_)
 refine .p (RunsTo.loadR rfl rfl (BR) (hr.1)) ?_
 refine .s (OpR.call fn_r02_Format rfl (rformatR_spec (hr.dnS (by omega)))) ?_
 rintro _ w12 ⟨hx12,rfl⟩
 refine .p (RunsTo.strIs10 (bs:=[51,47,50]) (by rw [ex_fmt];exact b8_lit _ rfl) (b8_lit _ rfl) rfl rfl ex_fmt) ?_
 refine .r rfl ?_
 refine .p (RunsTo.ia) ?_
 refine .p (RunsTo.load TBok rfl rfl rfl (hx12.cell hc0)) ?_
 refine .r rfl ?_
 refine .p (RunsTo.ia) ?_
 refine .p (RunsTo.load TBok rfl rfl rfl (hx12.cell hc1)) ?_
 (iterate 6 refine Nv ?_;try refine .r rfl ?_)
 exact Out.ret1 rfl rfl ⟨hx011.trans hx12,rfl⟩
theorem StL.awk10 {n:Nat} {E:List (Nat×Value)} {w:World} {ops:Array Oper} {rest:List Oper} {Q:Exit→Act→World→Prop} {d:Nat} {ty:TypeId} {pos:String} {af:Array Edge} {g:Option (Nat×Bool)} (hw:wantE ops E g=some true) (hn:Nat.blt d n=true) (next:∀ w',Ext w w'→StL Tryz.prog n ((d,.bool true)::E) w' ops rest Q) :
  StL Tryz.prog n E w ops (⟨some d,.call ⟨.value (.func 18),#[],#[]⟩,ty,pos,af,g⟩::rest) Q:=by
 refine StL.step rfl hw hn (OpR.call fn_w10_awake rfl (awake10_spec w)) ?_
 rintro _ w' ⟨hx,rfl⟩
 exact next w' hx
theorem LatV.agg {w:World} {v:Value} (h:LatV w v):∃ a b c d,v=.agg #[a,b,c,d]:=by
 obtain ⟨d,kd,s1,s2,xs,rfl,_⟩:=h
 exact ⟨_,_,_,_,rfl⟩
theorem redF_m64b {n:Nat} {f:Nat→Nat→Int} (h:RedF n f) (h2:n≤8):M64b (mk n n f):=by
 intro row hrow x hx
 obtain ⟨i,hi⟩:=List.mem_iff_getElem?.1 hrow
 have hlt:=(List.getElem?_eq_some_iff.1 hi).1
 rw [mk_len] at hlt
 rw [mk_get hlt] at hi
 cases hi
 simp only [List.mem_map,List.mem_range] at hx
 obtain ⟨j,hj,rfl⟩:=hx
 have:=h.ent h2 hlt hj
 omega
def shl (ys:List Int) (b i:Nat):List Int:=tab ys.length (fun j=>if j<i then yv ys j / 2 ^ b else 0)
theorem OpR.quad {P:Program} {T:List (Nat×TI)} {n:Nat} {E:List (Nat×Value)} {w:World} (hT:TblOk P T) {d:Option Tmp} {t:TypeId} {x y x2 y2:Operand} {ty:TypeId} {pos:String} {af:Array Edge} {g:Option (Nat×Bool)} {et:TypeId} {s1 s2:Nat} {z:Value} {ti:TI} {k k' k2 k3:IntKind} {m m' m2 m3:Int}
  (ht:lookT T t=some ⟨.slice et,s1,s2,z⟩) (hte:lookT T et=some ti) (hsz:ti.size=1) (hx:ov E x=some (.int k m)) (hy:ov E y=some (.int k' m')) (hx2:ov E x2=some (.int k2 m2)) (hy2:ov E y2=some (.int k3 m3)) :
  OpR P n ⟨d,.buildSlice t 4 #[(0,x),(1,y),(2,x2),(3,y2)],ty,pos,af,g⟩ E w (fun u w'=>u=.slice (some ⟨w.heap.size,0,none⟩) 4 4∧Blk et w' w.heap.size [.int k m,.int k' m',.int k2 m2,.int k3 m3]∧Ext w w'∧w'.heap.size=w.heap.size+1):=by
 intro a ha Q K hK
 obtain ⟨_,inf,hi,hsize,hby,hzero⟩:=hT et ti hte
 have e1:=ha.eval hx
 have e2:=ha.eval hy
 have e3:=ha.eval hx2
 have e4:=ha.eval hy2
 have hrun:(execOp a.eval ⟨d,.buildSlice t 4 #[(0,x),(1,y),(2,x2),(3,y2)],ty,pos,af,g⟩).run P w=.ok (.value (.slice (some ⟨w.heap.size,0,none⟩) 4 4)) (w.alloc (.cells #[.int k m,.int k' m',.int k2 m2,.int k3 m3] et (0,0))):=by
  generalize a.eval=ρ at e1 e2 e3 e4
  simp [execOp,Instr.buildSlice,e1,e2,e3,e4,run_underlying_T hT ht,run_sizeOf_T hT hte,hsz,zeroValue,run_typeInfo hi,hzero,Instr.fill,newRow,go_sem]
 unfold Oper.wp
 rw [hrun,Oper.upon_value]
 exact hK _ _ ⟨rfl,blk_alloc _ _ _,ext_alloc _ _,size_alloc1 _ _⟩
def sL (cs:List Int):Int:=sumN cs.length (yv cs)
theorem sL_cons (x:Int) (t:List Int):sL (x::t)=x+sL t:=by
 unfold sL
 rw [List.length_cons,sumN_front,yv_zero]
 rfl
theorem sL_bump {cs:List Int} {m:Nat} (hm:m<cs.length) (c:Int):sL (bump cs m c)=sL cs+c:=by
 induction cs generalizing m with
 | nil=>simp at hm
 | cons x t ih=>cases m with
  | zero=>show sL ((x+c)::t)=_;rw [sL_cons,sL_cons];omega
  | succ m=>show sL (x::bump t m c)=_;rw [sL_cons,sL_cons,ih (by simpa using hm)];omega
theorem bump_zero (cs:List Int) (m:Nat):bump cs m 0=cs:=by
 induction cs generalizing m with
 | nil=>rfl
 | cons x t ih=>cases m with
  | zero=>show (x+0)::t=_;rw [Int.add_zero]
  | succ m=>show x::bump t m 0=_;rw [ih]
theorem sL_nonneg {cs:List Int} (h:∀ y ∈ cs,0≤y):0≤sL cs:=by
 induction cs with
 | nil=>exact Int.le_refl _
 | cons x t ih =>
  rw [sL_cons]
  have:=h x (by simp)
  have:=ih (fun y hy=>h y (by simp [hy]))
  omega
theorem sL_mem {cs:List Int} (h:∀ y ∈ cs,0≤y) {y:Int} (hy:y ∈ cs):y≤sL cs:=by
 induction cs with
 | nil=>simp at hy
 | cons x t ih =>
  rw [sL_cons]
  have h1:=h x (by simp)
  have h2:=sL_nonneg (fun y hy=>h y (by simp [hy]):∀ y ∈ t,0≤y)
  rcases List.mem_cons.1 hy with e | e
  ·omega
  ·have:=ih (fun y hy=>h y (by simp [hy])) e
   omega
theorem bump_nonneg {cs:List Int} {m:Nat} {c:Int} (h:∀ y ∈ cs,0≤y) (hc:0≤c):∀ y ∈ bump cs m c,0≤y:=by
 induction cs generalizing m with
 | nil=>intro y hy;simp [bump] at hy
 | cons x t ih =>
  intro y hy
  cases m with
  | zero =>
   have hy':y ∈ (x+c)::t:=hy
   rcases List.mem_cons.1 hy' with e | e
   ·have:=h x (by simp);omega
   ·exact h y (by simp [e])
  | succ m =>
   have hy':y ∈ x::bump t m c:=hy
   rcases List.mem_cons.1 hy' with e | e
   ·rw [e];exact h x (by simp)
   ·exact ih (fun y hy=>h y (by simp [hy])) y e
theorem ediv_bnd2 {a d M:Int} (hd:0<d) (h:-(d * M)≤a∧a≤d * M):-M≤a / d∧a / d≤M:=by
 constructor
 ·refine (Int.le_ediv_iff_mul_le hd).2 ?_
  rw [Int.neg_mul,Int.mul_comm]
  exact h.1
 ·exact Int.ediv_le_of_le_mul hd (by rw [Int.mul_comm];exact h.2)
theorem iv_small {n:Nat} {f:Nat→Nat→Int} {ys:List Int} {B:Int} (hR:RedF n f) (hn:n≤8) (hl:ys.length<n) (hB:0≤B∧B≤4611686018427387904) (hre:0≤reI f n B ys):T64 ys∧(-72057594037927936≤loI f n B ys∧loI f n B ys≤72057594037927936)∧(-72057594037927936≤hiI f n B ys∧hiI f n B ys≤72057594037927936):=by
 have hd:=ddI_pos hR.pos (show n - ys.length≤n by omega)
 have hbnd:=tail_bound hR hn (R:=140737488355328) hB.1 (by omega) ys (by omega) hre
 have hpow:(2:Nat) ^ ys.length≤2 ^ 8:=Nat.pow_le_pow_right (by decide) (by omega)
 have haS:aS ys≤36028797018963968:=by
  have:=Nat.mul_le_mul_left 140737488355328 hpow
  have e8:(2:Nat) ^ 8=256:=by decide
  omega
 have hli:=li_half hR hl
 have hsq:=(sq_small hR hn (ys:=ys) (by omega) hB.1).1
 have hsq0:0≤sqI f n B ys:=(re_pos hR B).1 hre
 obtain ⟨r,hr⟩:∃ r,r=rtN (sqI f n B ys).natAbs:=⟨_,rfl⟩
 have hroot:IsRoot (sqI f n B ys).natAbs r:=by rw [hr];exact rtN_root _
 have hrb:r≤140737488355328:=by
  have h1:=(root_iff hroot r).1 (by omega)
  have h2:=sq_le_r (u:=r) (R:=140737488355328) (by omega) (by omega)
  omega
 have hdr:=Int.mul_le_mul_of_nonneg_right (show 1≤ddI f (n - ys.length) by omega) (show (0:Int)≤140737488355328 by omega)
 have hda:=Int.mul_nonneg (show 0≤ddI f (n - ys.length) by omega) (show (0:Int)≤aS ys by omega)
 have hdm:ddI f (n - ys.length) * ((aS ys:Int)+140737488355328)=ddI f (n - ys.length) * aS ys+ddI f (n - ys.length) * 140737488355328:=Int.mul_add _ _ _
 have b1:=ediv_bnd2 (a:=liI f n ys+(r:Int)) (d:=ddI f (n - ys.length)) (M:=(aS ys:Int)+140737488355328) hd (by omega)
 have b2:=ediv_bnd2 (a:=(r:Int) - liI f n ys) (d:=ddI f (n - ys.length)) (M:=(aS ys:Int)+140737488355328) hd (by omega)
 refine ⟨fun y hy=>?_,?_,?_⟩
 ·have:=aS_mem hy
  omega
 ·unfold loI ivLo
  rw [← hr]
  omega
 ·unfold hiI ivHi
  rw [← hr]
  omega
theorem lo64_id {a:Int} (h:-72057594037927936≤a∧a≤72057594037927936):lo64 a=a:=if_pos (by omega)
section
variable (bc n:Nat) (f:Nat→Nat→Int) (B b:Int)
def CountAt (j:Nat):Prop:=∀ (ys cs:List Int) (w:World) (x tv:Value),ys.length+j=n→L64 w tv ys→Apart bc tv→FrV w x n f→Blk 3 w bc (cs.map i64)→cs.length=n→(∀ y ∈ cs,0≤y)→sL cs≤b→0≤reI f n B ys →
 Calls Tryz.prog 76 #[x,.int .i64 B,tv,.slice (some ⟨bc,0,none⟩) n n,.int .i64 b] w (Ret fun r w'=>Upd bc w w'∧(visN f n B j ys (b - sL cs,cs)=none→r=.bool false) ∧
  ∀ s',visN f n B j ys (b - sL cs,cs)=some s'→r=.bool true∧Blk 3 w' bc (s'.2.map i64)∧s'.2.length=n∧(∀ y ∈ s'.2,0≤y)∧s'.1=b - sL s'.2∧sL s'.2≤b)
end
section
variable {w w':World} {q:Nat} {C:List Int} (hu:Upd q w w') (hB:Blk 3 w q (C.map i64))
include hu hB
theorem keep_cell {a:Addr} {z:Value} (h:w.cell? a=some z) (hz:∀ m,z≠.int .i64 m):w'.cell? a=some z:=by
 refine hu.cell h fun e=>?_
 have:=cell_of_blk hB h e
 simp only [List.mem_map] at this
 obtain ⟨m,_,rfl⟩:=this
 exact hz m rfl
theorem keep_row {e:TypeId} {v:Value} {cs:List Value} (h:Row e w v cs) (hz:∀ z ∈ cs,∀ m,z≠.int .i64 m):Row e w' v cs:=by
 obtain ⟨p,cap,hv,hl,h0,hc⟩:=h
 exact ⟨p,cap,hv,hl,h0,fun a ha i c hi=>keep_cell hu hB (hc a ha i c hi) (hz c (List.mem_of_getElem? hi))⟩
theorem keep_dn {v:Value} {a:Int} (h:Dn w v a):Dn w' v a:=by
 obtain ⟨neg,xs,⟨p,cap,hv,hs⟩,h2,h3⟩:=h
 refine ⟨neg,xs,⟨p,cap,hv,keep_row hu hB hs.1 (fun z hz m e=>?_),hs.2⟩,h2,h3⟩
 simp only [List.mem_map] at hz
 obtain ⟨x,_,rfl⟩:=hz
 cases e
theorem keep_at2 {p:Option Addr} {i:Nat} {u:Value} {a:Int} (h:At2 w p i u) (hd:Dn w u a):At2 w' p i u:=by
 obtain ⟨b,o,e,D,hp,hb,h1,h2⟩:=h
 refine ⟨b,o,e,D,hp,hb.upd hu fun eq=>?_,h1,h2⟩
 subst eq
 have e2:=hb.same hB
 subst e2
 obtain ⟨neg,xs,⟨p',cap,hv,_⟩,_⟩:=hd
 rw [hv] at h1
 have:Value.bool neg ∈ (C.map i64):=List.mem_of_mem_drop (List.mem_of_mem_take (i:=2) (l:=(C.map i64).drop (o+2 * i)) (by rw [h1];exact List.mem_cons_self))
 simp at this
theorem keep_mi {v:Value} {M:List (List Int)} (h:MI w v M):MI w' v M:=by
 obtain ⟨rs,h1,h2,h3⟩:=h
 refine ⟨rs,keep_row hu hB h1 (fun z hz m e=>?_),h2,fun i r row hr hrow=>?_⟩
 ·obtain ⟨i,hi⟩:=List.mem_iff_getElem?.1 hz
  have hlt:=(List.getElem?_eq_some_iff.1 hi).1
  obtain ⟨p,cap,hv,_⟩:=h3 i z (M[i]'(by omega)) hi (by simp)
  rw [hv] at e
  cases e
 ·obtain ⟨p,cap,hv,hc,hg⟩:=h3 i r row hr hrow
  refine ⟨p,cap,hv,hc,fun j x hj=>?_⟩
  obtain ⟨u,k1,k2⟩:=hg j x hj
  exact ⟨u,keep_at2 hu hB k1 k2,keep_dn hu hB k2⟩
theorem FrV.upd {x:Value} {n:Nat} {f:Nat→Nat→Int} (h:FrV w x n f) (hn:1≤n):FrV w' x n f:=by
 obtain ⟨sv,dv,hx,⟨us,h1,h2,h3⟩,b,o,cp,hdv,hcp,hRC⟩:=h
 refine ⟨sv,dv,hx,⟨us,keep_row hu hB h1 (fun z hz m e=>?_),h2,fun k s hs=>keep_mi hu hB (h3 k s hs)⟩,b,o,cp,hdv,hcp,hRC.updW (hRC.ne (by omega) hB (fun x hx y e=>?_)) hu hB (by decide)⟩
 ·obtain ⟨i,hi⟩:=List.mem_iff_getElem?.1 hz
  obtain ⟨rs,⟨p,cap,hv,_⟩,_⟩:=h3 i z hi
  rw [hv] at e
  cases e
 ·subst e
  simp at hx
end
theorem keep_l64 {w w':World} {q:Nat} {v:Value} {xs:List Int} (h:L64 w v xs) (hu:Upd q w w') (ha:Apart q v):L64 w' v xs:=Row.upd h hu ha
theorem LO.apart {base q:Nat} {w:World} {v:Value} {xs:List Int} (h:LO base w v xs) (hq:q<base):Apart q v:=by
 intro c off s len cap e hc
 rcases h.2 with ⟨hv,_⟩ | ⟨g,cp,D,hv,hb,_⟩
 ·rw [hv] at e;cases e
 ·rw [hv] at e
  simp only [Value.slice.injEq,Option.some.injEq,Addr.mk.injEq] at e
  omega
set_option maxHeartbeats 6400000 in
theorem count_step {bc n:Nat} {f:Nat→Nat→Int} {B b:Int} (hR:RedF n f) (hn:1≤n∧n≤8) (hB:0≤B∧B≤4611686018427387904) (hb:0≤b∧b≤1000000) {j:Nat} (hj:1≤j) (ih:∀ j',j=j'+1→1≤j'→CountAt bc n f B b j'):CountAt bc n f B b j:=by
 intro ys cs w x tv hyj hL hAp hF hC hcl hc0 hcs hre
 have hl:ys.length<n:=by omega
 obtain ⟨hT,blo,bhi⟩:=iv_small hR hn.2 hl hB hre
 have hsq0:0≤sqI f n B ys:=(re_pos hR B).1 hre
 have hhl:loI f n B ys≤hiI f n B ys+1:=hi_lo hR
 have hbc:=hC.lt
 obtain ⟨aS,cS,bm,om,cm,ex,_,_⟩:=hF.open hn.1
 subst ex
 obtain ⟨px,cx,et⟩:=hL.len
 subst et
 obtain ⟨c,hc⟩:∃ c,c=hiI f n B ys - loI f n B ys+1:=⟨_,rfl⟩
 obtain ⟨j',rfl⟩:∃ j',j=j'+1:=⟨j - 1,by omega⟩
 have hvis:visN f n B (j'+1) ys (b - sL cs,cs)=if b - sL cs<c then none else visL (fun x s=>visN f n B j' (x::ys) s) c.toNat (loI f n B ys) (b - sL cs - c,bump cs ys.length c):=by rw [hc];rfl
 have hcn:=sL_nonneg hc0
 refine calls_of_St (args:=[_,_,_,_,_]) Tryz.func76 rfl Tryz.ntmps76 rfl ?_
 refine Nv ?_
 refine .s (OpR.box rfl) ?_
 rintro _ w1 ⟨rfl,B5,hx1,hz1⟩
 replace B5:Blk 47 w1 w.heap.size [.int .i64 n,.slice (some aS) n cS,.slice (some ⟨bm,om,none⟩) (n+1) cm]:=B5
 (iterate 6 refine Nv ?_;try refine .r rfl ?_)
 refine .p (RunsTo.loadAgg TBok rfl rfl rfl B5 (Nat.le_refl 3) rfl) ?_
 refine .r rfl ?_
 refine .s (OpR.call fn_r10_Frame_Interval rfl (frameInterval_spec (hF.ext hx1) (hL.ext hx1) hl hn hR hT (by omega) hsq0)) ?_
 rintro _ w2 ⟨hx2,rfl⟩
 rw [lo64_id blo,lo64_id bhi]
 have hx02:=hx1.trans hx2
 replace B5:=B5.ext hx2
 replace hF:=hF.ext hx02
 replace hL:=hL.ext hx02
 replace hC:=hC.ext hx02
 refine .r rfl ?_
 refine Nv ?_
 refine .r rfl ?_
 refine Nv ?_
 by_cases h1:hiI f n B ys<loI f n B ys
 ·refine .a 3 (.bool true) rfl (bool_true h1) ?_
  have hc':c=0:=by omega
  have hv:visN f n B (j'+1) ys (b - sL cs,cs)=some (b - sL cs,cs):=by
   rw [hvis,hc',if_neg (by omega),bump_zero]
   show some (b - sL cs - 0,cs)=_
   rw [Int.sub_zero]
  (iterate 6 refine Nv ?_;try refine .r rfl ?_)
  refine .cT ?_
  (iterate 6 refine Nv ?_;try refine .r rfl ?_)
  exact Out.ret1 rfl rfl ⟨hx02.upd bc,fun h=>(by rw [hv] at h;cases h),fun s' h=>by rw [hv] at h;cases h;exact ⟨rfl,hC,hcl,hc0,rfl,hcs⟩⟩
 refine .a 3 (.bool false) rfl (bool_false h1) ?_
 (iterate 6 refine Nv ?_;try refine .r rfl ?_)
 refine .cF ?_
 refine Nv ?_
 refine .a 3 (.int .i64 (hiI f n B ys - loI f n B ys)) rfl (by rw [i64_id (by omega) (by omega)]) ?_
 by_cases h2:hiI f n B ys - loI f n B ys≥b
 ·refine .a 2 (.bool true) rfl (bool_true h2) ?_
  have hv:visN f n B (j'+1) ys (b - sL cs,cs)=none:=by rw [hvis,if_pos (by omega)]
  (iterate 6 refine Nv ?_;try refine .r rfl ?_)
  refine .cT ?_
  (iterate 6 refine Nv ?_;try refine .r rfl ?_)
  exact Out.ret1 rfl rfl ⟨hx02.upd bc,fun _=>rfl,fun s' h=>by rw [hv] at h;cases h⟩
 refine .a 2 (.bool false) rfl (bool_false h2) ?_
 (iterate 6 refine Nv ?_;try refine .r rfl ?_)
 refine .cF ?_
 have hm:ys.length<cs.length:=by omega
 have hym:cs[ys.length]?=some (yv cs ys.length):=by
  unfold yv
  rw [List.getD_eq_getElem?_getD,List.getElem?_eq_getElem hm]
  rfl
 have hy0:=hc0 _ (List.mem_of_getElem? hym)
 have hy1:=sL_mem hc0 (List.mem_of_getElem? hym)
 have hcell:w2.cell? (Addr.add ⟨bc,0,none⟩ ys.length)=some (.int .i64 (yv cs ys.length)):=by
  rw [addr_add,Nat.zero_add]
  exact hC.cell (by rw [List.getElem?_map,hym];rfl)
 (iterate 6 refine Nv ?_;try refine .r rfl ?_)
 refine .p (RunsTo.ia) ?_
 refine .p (RunsTo.load TBok rfl rfl rfl hcell) ?_
 refine .a 3 (.int .i64 (hiI f n B ys - loI f n B ys)) rfl (by rw [i64_id (by omega) (by omega)]) ?_
 refine .a 1 (.int .i64 c) rfl (by rw [hc,i64_id (by omega) (by omega)]) ?_
 refine .a 1 (.int .i64 (yv cs ys.length+c)) rfl (by rw [i64_id (by omega) (by omega)]) ?_
 refine StL.put TBok ys.length hC rfl hl (by rw [List.length_map,hcl];omega) rfl rfl rfl rfl rfl rfl rfl rfl (fun _=>rfl) (fun _=>rfl) rfl rfl ?_
 intro p3 w3 hC3 hu3
 rw [Nat.zero_add,show (cs.map i64).set ys.length (.int .i64 (yv cs ys.length+c))=(bump cs ys.length c).map i64 from by rw [bump_set,List.map_set]] at hC3
 have hF3:=hF.upd hu3 hC hn.1
 have hL3:=keep_l64 hL hu3 hAp
 have B53:=B5.upd hu3 (by omega)
 have hU3:Upd bc w1 w3:=(hx2.upd bc).trans hu3
 have hU03:Upd bc w w3:=(hx02.upd bc).trans hu3
 obtain ⟨ds,hds⟩:∃ ds,ds=bump cs ys.length c:=⟨_,rfl⟩
 have hdl:ds.length=n:=by rw [hds,bump_len,hcl]
 have hd0:∀ y ∈ ds,0≤y:=by rw [hds];exact bump_nonneg hc0 (by omega)
 have hdS:sL ds=sL cs+c:=by rw [hds];exact sL_bump hm c
 have hdm:∀ y ∈ ds,y≤2000000:=fun y hy=>by have:=sL_mem hd0 hy;omega
 rw [← hds] at hC3 hvis
 have hdat:∀ i,i<n→0≤yv ds i∧yv ds i≤2000000∧w3.cell? (Addr.add ⟨bc,0,none⟩ i)=some (.int .i64 (yv ds i)):=by
  intro i hi
  have hg:ds[i]?=some (yv ds i):=by
   unfold yv
   rw [List.getD_eq_getElem?_getD,List.getElem?_eq_getElem (by omega)]
   rfl
  refine ⟨hd0 _ (List.mem_of_getElem? hg),hdm _ (List.mem_of_getElem? hg),?_⟩
  rw [addr_add,Nat.zero_add]
  exact hC3.cell (by rw [List.getElem?_map,hg];rfl)
 (iterate 6 refine Nv ?_;try refine .r rfl ?_)
 refine St.rngG TBok (47) (0) (n) (by omega) (fun g:Int=>[(1,.int .i64 B),(2,.slice px ys.length cx),(3,.slice (some ⟨bc,0,none⟩) n n),(4,.int .i64 b),(5,.pointer (some ⟨w.heap.size,0,none⟩)),(11,.int .i64 (loI f n B ys)),(12,.int .i64 (hiI f n B ys)),(13,.int .i64 ys.length),(14,.int .i64 g),(45,.slice (some ⟨bc,0,none⟩) n n),(46,.int .i64 n)]) (fun i g w'=>w'=w3∧g=sumN i (yv ds)) (0) sbb ?_ (fun _ _=>⟨rfl,rfl⟩) (fun _ _=>rfl) (fun _ _=>⟨rfl,rfl⟩) (fun _=>rfl) (fun _=>rfl) (by omega) ?_ ?_
 ·exact ⟨rfl,rfl⟩
 ·rintro i g w4 hi ⟨rfl,rfl⟩
  obtain ⟨e1,e2,e3⟩:=hdat i hi
  have hps:=sumN_bnd (M:=2000000) (g:=yv ds) i (fun k hk=>by have:=hdat k (by omega);omega)
  have hi8:(i:Int) * 2000000≤8 * 2000000:=Int.mul_le_mul_of_nonneg_right (by omega) (by omega)
  have hsucc:sumN (i+1) (yv ds)=sumN i (yv ds)+yv ds i:=rfl
  refine Nv ?_
  refine .p (RunsTo.ia) ?_
  refine .p (RunsTo.load TBok rfl rfl rfl e3) ?_
  refine .r rfl ?_
  refine Nv ?_
  refine .a 3 (.int .i64 (sumN (i+1) (yv ds))) rfl (by rw [hsucc,i64_id (by omega) (by omega)]) ?_
  (iterate 6 refine Nv ?_;try refine .r rfl ?_)
  exact Out.rndG _ sbb ⟨rfl,rfl⟩
 ·rintro g w4 ⟨rfl,rfl⟩
  have hsum:sumN n (yv ds)=sL cs+c:=by rw [← hdS];unfold sL;rw [hdl]
  rw [hsum]
  refine Nv ?_
  by_cases h3:sL cs+c > b
  ·refine .a 3 (.bool true) rfl (bool_true h3) ?_
   have hv:visN f n B (j'+1) ys (b - sL cs,cs)=none:=by rw [hvis,if_pos (by omega)]
   (iterate 6 refine Nv ?_;try refine .r rfl ?_)
   refine .cT ?_
   (iterate 6 refine Nv ?_;try refine .r rfl ?_)
   exact Out.ret1 rfl rfl ⟨hU03,fun _=>rfl,fun s' h=>by rw [hv] at h;cases h⟩
  refine .a 3 (.bool false) rfl (bool_false h3) ?_
  rw [if_neg (by omega)] at hvis
  have hs0:b - sL cs - c=b - sL ds:=by omega
  rw [hs0] at hvis
  (iterate 6 refine Nv ?_;try refine .r rfl ?_)
  refine .cF ?_
  (iterate 6 refine Nv ?_;try refine .r rfl ?_)
  refine St.loop (α:=Int×List Int) (fun g=>[(1,.int .i64 B),(2,.slice px ys.length cx),(3,.slice (some ⟨bc,0,none⟩) n n),(4,.int .i64 b),(5,.pointer (some ⟨w.heap.size,0,none⟩)),(12,.int .i64 (hiI f n B ys)),(13,.int .i64 ys.length),(17,.int .i64 g.1)])
   (fun g w'=>(loI f n B ys≤g.1∧g.1≤hiI f n B ys+1)∧visL (fun x s=>visN f n B j' (x::ys) s) (hiI f n B ys+1 - g.1).toNat g.1 (b - sL g.2,g.2)=visN f n B (j'+1) ys (b - sL cs,cs)∧Upd bc w1 w'∧FrV w' (.agg #[.int .i64 n,.slice (some aS) n cS,.slice (some ⟨bm,om,none⟩) (n+1) cm]) n f∧L64 w' (.slice px ys.length cx) ys∧Blk 47 w' w.heap.size [.int .i64 n,.slice (some aS) n cS,.slice (some ⟨bm,om,none⟩) (n+1) cm]∧Blk 3 w' bc (g.2.map i64)∧g.2.length=n∧(∀ y ∈ g.2,0≤y)∧sL g.2≤b) (fun g=>(hiI f n B ys+1 - g.1).toNat) (loI f n B ys,ds) sbb ?_ ?_
  ·refine ⟨⟨Int.le_refl _,hhl⟩,?_,hU3,hF3,hL3,B53,hC3,hdl,hd0,by show sL ds≤b;omega⟩
   rw [hvis]
   show visL _ (hiI f n B ys+1 - loI f n B ys).toNat _ _=_
   rw [show hiI f n B ys+1 - loI f n B ys=c by omega]
  ·rintro ⟨x,cs1⟩ w5 ⟨⟨hx1',hx2'⟩,hvl,hU5,hF5,hL5,B55,hC5,hcl5,hc05,hcs5⟩
   dsimp only at hx1' hx2' hvl hC5 hcl5 hc05 hcs5 ⊢
   have fin:∀ s1,visN f n B (j'+1) ys (b - sL cs,cs)=some s1→s1=(b - sL cs1,cs1)→∀ s',visN f n B (j'+1) ys (b - sL cs,cs)=some s'→Value.bool true=.bool true∧Blk 3 w5 bc (s'.2.map i64)∧s'.2.length=n∧(∀ y ∈ s'.2,0≤y)∧s'.1=b - sL s'.2∧sL s'.2≤b:=by
    intro s1 h1 h2 s' h
    rw [h1] at h
    cases h
    subst h2
    exact ⟨rfl,hC5,hcl5,hc05,rfl,hcs5⟩
   have hU05:Upd bc w w5:=(hx1.upd bc).trans hU5
   refine Nv ?_
   by_cases hle:x≤hiI f n B ys
   ·refine .a 3 (.bool true) rfl (bool_true hle) ?_
    refine .a 3 (.int .i64 ((ys.length+1:Nat):Int)) rfl (i64_succ (by omega)) ?_
    refine .r rfl ?_
    (refine .s (RunsTo.load TBok rfl rfl rfl (Blk.cell upp rfl)).op ?_;rintro _ _ ⟨rfl,rfl⟩)
    by_cases hj0:j'=0
    ·refine .a 1 (.bool false) rfl (bool_false (by omega)) ?_
     subst hj0
     have hv:visN f n B (0+1) ys (b - sL cs,cs)=some (b - sL cs1,cs1):=by rw [← hvl];exact visL_const _ _ _
     (iterate 6 refine Nv ?_;try refine .r rfl ?_)
     refine .cF ?_
     (iterate 6 refine Nv ?_;try refine .r rfl ?_)
     exact Out.ret1 rfl rfl ⟨hU05,fun h=>(by rw [hv] at h;cases h),fin _ hv rfl⟩
    ·refine .a 1 (.bool true) rfl (bool_true (by omega)) ?_
     have hre':=(in_iff hR hl hsq0 x).1 ⟨hx1',hle⟩
     have ihj:=ih j' rfl (by omega)
     have hs5:=hU5.size
     (iterate 6 refine Nv ?_;try refine .r rfl ?_)
     refine .cT ?_
     refine Nv ?_
     refine St.sub (E':=[(1,.int .i64 B),(2,.slice px ys.length cx),(3,.slice (some ⟨bc,0,none⟩) n n),(4,.int .i64 b),(5,.pointer (some ⟨w.heap.size,0,none⟩)),(12,.int .i64 (hiI f n B ys)),(13,.int .i64 ys.length),(17,.int .i64 x)]) ?_ sbb
     refine St.draw 7 [(71,Is (.agg #[.int .i64 n,.slice (some aS) n cS,.slice (some ⟨bm,om,none⟩) (n+1) cm])),(72,Is (.int .i64 B)),(73,Is (.int .i64 x)),(74,Is (.slice px ys.length cx)),(75,fun v w'=>LO w5.heap.size w' v (x::ys)),(76,Is (.slice (some ⟨bc,0,none⟩) n n)),(77,Is (.int .i64 b))] TBfol (by kernel_rfl) rfl (by kernel_rfl) (by kernel_rfl)
      ⟨Is.mono _,Is.mono _,Is.mono _,Is.mono _,fun _ _ _ hx hv=>hv.ext hx,Is.mono _,Is.mono _,trivial⟩ ?_ ?_
     ·refine ⟨?_,?_,?_,?_,?_,?_,?_,trivial⟩
      ·exact fun w6 hx6=>OpG.run rfl rfl rfl rfl (RunsTo.loadAgg TBok rfl rfl rfl (B55.ext hx6) (Nat.le_refl 3) rfl) rfl
      ·exact fun w6 hx6=>OpG.pure TBok rfl rfl rfl rfl rfl rfl
      ·exact fun w6 hx6=>OpG.pure TBok rfl rfl rfl rfl rfl rfl
      ·exact fun w6 hx6=>OpG.pure TBok rfl rfl rfl rfl rfl rfl
      ·rintro w6 hx6 _ rfl _ rfl
       refine OpG.call fn_r10_longer rfl rfl rfl (rlonger_spec (hL5.ext hx6) (by omega)) ?_
       rintro v w7 ⟨hx7,hv⟩
       exact ⟨hx7,hv.mono hx6.size⟩
      ·exact fun w6 hx6=>OpG.pure TBok rfl rfl rfl rfl rfl rfl
      ·exact fun w6 hx6=>OpG.pure TBok rfl rfl rfl rfl rfl rfl
     rintro w6 hx6 _ rfl _ rfl _ rfl _ rfl tl htl _ rfl _ rfl _
     have hU6:Upd bc w1 w6:=hU5.then_ext hx6
     have hcall:=ihj (x::ys) cs1 w6 _ tl (by rw [List.length_cons];omega) htl.l64 (htl.apart (by have:=hC5.lt;omega)) (hF5.ext hx6) (hC5.ext hx6) hcl5 hc05 hcs5 hre'
     refine .s (OpR.call fn_r10_Frame_count rfl hcall) ?_
     rintro y w7 ⟨hu7,hnone,hsome⟩
     have hjj:(hiI f n B ys+1 - x).toNat=(hiI f n B ys+1 - (x+1)).toNat+1:=by omega
     rw [hjj] at hvl
     have hvl2:(match visN f n B j' (x::ys) (b - sL cs1,cs1) with | none=>none | some s'=>visL (fun x s=>visN f n B j' (x::ys) s) (hiI f n B ys+1 - (x+1)).toNat (x+1) s')=visN f n B (j'+1) ys (b - sL cs,cs):=hvl
     have hU7:Upd bc w1 w7:=hU6.trans hu7
     cases hv:visN f n B j' (x::ys) (b - sL cs1,cs1) with
     | none =>
      have e:=hnone hv
      subst e
      rw [hv] at hvl2
      (iterate 6 refine Nv ?_;try refine .r rfl ?_)
      refine .cT ?_
      (iterate 6 refine Nv ?_;try refine .r rfl ?_)
      exact Out.ret1 rfl rfl ⟨(hx1.upd bc).trans hU7,fun _=>rfl,fun s' h=>by rw [← hvl2] at h;cases h⟩
     | some s2 =>
      obtain ⟨rfl,hC7,hcl7,hc07,hs7,hcs7⟩:=hsome s2 hv
      rw [hv] at hvl2
      have hs2:s2=(b - sL s2.2,s2.2):=Prod.ext hs7 rfl
      rw [hs2] at hvl2
      (iterate 6 refine Nv ?_;try refine .r rfl ?_)
      refine .cF ?_
      refine Nv ?_
      refine .a 2 (.int .i64 (x+1)) rfl (by rw [i64_id (by omega) (by omega)]) ?_
      (iterate 6 refine Nv ?_;try refine .r rfl ?_)
      exact Out.again (x+1,s2.2) sbb ⟨⟨by show _≤x+1;omega,by show x+1≤_;omega⟩,hvl2,hU7,(hF5.ext hx6).upd hu7 (hC5.ext hx6) hn.1,keep_l64 (hL5.ext hx6) hu7 hAp,(B55.ext hx6).upd hu7 (by omega),hC7,hcl7,hc07,hcs7⟩ (by show (hiI f n B ys+1 - (x+1)).toNat<(hiI f n B ys+1 - x).toNat;omega)
   ·refine .a 3 (.bool false) rfl (bool_false hle) ?_
    have hv3:visN f n B (j'+1) ys (b - sL cs,cs)=some (b - sL cs1,cs1):=by
     rw [← hvl,show (hiI f n B ys+1 - x).toNat=0 by omega]
     rfl
    (iterate 6 refine Nv ?_;try refine .r rfl ?_)
    refine .cF ?_
    (iterate 6 refine Nv ?_;try refine .r rfl ?_)
    exact Out.ret1 rfl rfl ⟨hU05,fun h=>(by rw [hv3] at h;cases h),fin _ hv3 rfl⟩
theorem count_spec {bc n:Nat} {f:Nat→Nat→Int} {B b:Int} (hR:RedF n f) (hn:1≤n∧n≤8) (hB:0≤B∧B≤4611686018427387904) (hb:0≤b∧b≤1000000):∀ j,1≤j→CountAt bc n f B b j:=by
 intro j
 induction j with
 | zero=>intro h;omega
 | succ j ihj=>exact fun hj=>count_step hR hn hB hb hj (fun j' e h1=>by
   have e2:j'=j:=by omega
   subst e2
   exact ihj h1)
theorem arguments_spec {w:World} {hv:Value} {M:List (List Int)} {B b:Int} (h:M64 w hv M) (h64:M64b M) :
  Calls Tryz.prog 75 #[hv,.int .i64 B,.int .i64 4611686018427387904,.int .i64 b] w (Ret fun x w'=>Ext w w'∧(¬ Red M→x=.int .i64 6)∧(Red M→¬ ArgOk B b→x=.int .i64 1)∧(Red M→ArgOk B b→x=.int .i64 0)):=by
 refine calls_of_St (args:=[_,_,_,_]) Tryz.func75 rfl Tryz.ntmps75 rfl ?_
 (iterate 6 refine Nv ?_;try refine .r rfl ?_)
 refine .s (OpR.call fn_r08_IsReduced rfl (risReduced_spec h h64)) ?_
 rintro _ w2 ⟨hx2,o,rfl,hb⟩
 cases o
 ·have hnR:¬ Red M:=fun hR=>absurd (hb.2 hR) (by simp)
  (iterate 6 refine Nv ?_;try refine .r rfl ?_)
  refine .cT ?_
  (iterate 6 refine Nv ?_;try refine .r rfl ?_)
  exact Out.ret1 rfl rfl ⟨hx2,fun _=>rfl,fun hR=>absurd hR hnR,fun hR=>absurd hR hnR⟩
 have hRed:=hb.1 rfl
 refine .r rfl ?_
 refine Nv ?_
 refine .cF ?_
 refine Nv ?_
 by_cases hA1:B<0
 ·refine .a 2 (.bool true) rfl (bool_true hA1) ?_
  (iterate 6 refine Nv ?_;try refine .r rfl ?_)
  refine .cT ?_
  (iterate 6 refine Nv ?_;try refine .r rfl ?_)
  exact Out.ret1 rfl rfl ⟨hx2,fun hR=>absurd hRed hR,fun _ _=>rfl,fun _ hA=>absurd hA (by unfold ArgOk;omega)⟩
 refine .a 2 (.bool false) rfl (bool_false hA1) ?_
 by_cases hA2:B > 4611686018427387904
 ·refine .a 4 (.bool true) rfl (bool_true hA2) ?_
  (iterate 6 refine Nv ?_;try refine .r rfl ?_)
  refine .cT ?_
  (iterate 6 refine Nv ?_;try refine .r rfl ?_)
  exact Out.ret1 rfl rfl ⟨hx2,fun hR=>absurd hRed hR,fun _ _=>rfl,fun _ hA=>absurd hA (by unfold ArgOk;omega)⟩
 refine .a 4 (.bool false) rfl (bool_false hA2) ?_
 by_cases hA3:b<0
 ·refine .a 4 (.bool true) rfl (bool_true hA3) ?_
  (iterate 6 refine Nv ?_;try refine .r rfl ?_)
  refine .cT ?_
  (iterate 6 refine Nv ?_;try refine .r rfl ?_)
  exact Out.ret1 rfl rfl ⟨hx2,fun hR=>absurd hRed hR,fun _ _=>rfl,fun _ hA=>absurd hA (by unfold ArgOk;omega)⟩
 refine .a 4 (.bool false) rfl (bool_false hA3) ?_
 by_cases hA4:b > 1000000
 ·refine .a 4 (.bool true) rfl (bool_true hA4) ?_
  (iterate 6 refine Nv ?_;try refine .r rfl ?_)
  refine .cT ?_
  (iterate 6 refine Nv ?_;try refine .r rfl ?_)
  exact Out.ret1 rfl rfl ⟨hx2,fun hR=>absurd hRed hR,fun _ _=>rfl,fun _ hA=>absurd hA (by unfold ArgOk;omega)⟩
 refine .a 4 (.bool false) rfl (bool_false hA4) ?_
 (iterate 6 refine Nv ?_;try refine .r rfl ?_)
 refine .cF ?_
 (iterate 6 refine Nv ?_;try refine .r rfl ?_)
 exact Out.ret1 rfl rfl ⟨hx2,fun hR=>absurd hRed hR,fun _ hA=>absurd (show ArgOk B b from ⟨by omega,by omega,by omega,by omega⟩) hA,fun _ _=>rfl⟩
theorem l64_blk' {e:TypeId} {w:World} {b:Nat} {xs:List Int} (h:Blk e w b (xs.map i64)):L64 w (.slice (some ⟨b,0,none⟩) xs.length xs.length) xs:=by
 refine ⟨some ⟨b,0,none⟩,xs.length,by rw [List.length_map],by rw [List.length_map];exact Nat.le_refl _,fun e=>(by cases e),?_⟩
 rintro a ha i c hi
 cases ha
 rw [addr_add,Nat.zero_add]
 exact h.cell hi
theorem rep_nonneg (n:Nat):∀ y ∈ List.replicate n (0:Int),0≤y:=fun y hy=>by rw [List.eq_of_mem_replicate hy];exact Int.le_refl _
theorem sL_rep (n:Nat):sL (List.replicate n 0)=0:=by
 induction n with
 | zero=>rfl
 | succ n ih=>rw [List.replicate_succ,sL_cons,ih];rfl
set_option maxHeartbeats 3200000 in
theorem rSteps_spec {w:World} {hv:Value} {M:List (List Int)} {B b:Int} (h:M64 w hv M) (h64:M64b M) :
  Calls Tryz.prog 35 #[hv,.int .i64 B,.int .i64 b] w (Ret fun x w'=>Ext w w'∧StepsV w' x M B b):=by
 obtain ⟨ph,ch,e⟩:=h.len
 subst e
 refine calls_of_St (args:=[_,_,_]) Tryz.func35 rfl Tryz.ntmps35 rfl ?_
 (iterate 6 refine Nv ?_;try refine .r rfl ?_)
 refine .s (OpR.call fn_r10_arguments rfl (arguments_spec h h64)) ?_
 rintro av w1 ⟨hx1,h6,h1,h0⟩
 by_cases hRed:Red M
 ·by_cases hA:ArgOk B b
  ·have e:=h0 hRed hA
   subst e
   have hRF:=hRed.redF.1
   have hn:1≤M.length∧M.length≤8:=⟨hRed.1.1,hRed.2.2.1⟩
   have hmk:=hRed.mk
   have hM:M64 w1 (.slice ph M.length ch) (mk M.length M.length (ent M)):=by rw [← hmk];exact h.ext hx1
   have key:∀ (x:Value) (w':World),((visN (ent M) M.length B M.length [] (b,List.replicate M.length 0)=none→x=.tuple #[.slice none 0 0,.int .i64 9])∧(∀ s',visN (ent M) M.length B M.length [] (b,List.replicate M.length 0)=some s'→∃ v,x=.tuple #[v,.int .i64 0]∧L64 w' v s'.2))→StepsV w' x M B b:=fun x w' hh=>⟨fun hR=>absurd hRed hR,fun _ hA'=>absurd hA hA',fun _ _=>hh.1,fun _ _=>hh.2⟩
   obtain ⟨hB0,hB1,hb0,hb1⟩:=hA
   generalize ent M=f at *
   generalize hnn:M.length=n at *
   refine .r rfl ?_
   refine Nv ?_
   refine .a 2 (.bool false) rfl rfl ?_
   (iterate 6 refine Nv ?_;try refine .r rfl ?_)
   refine .cF ?_
   (iterate 6 refine Nv ?_;try refine .r rfl ?_)
   refine .s (OpR.make TBok n rfl rfl rfl rfl rfl rfl rfl rfl (by show n * 8≤_;omega) (by omega)) ?_
   rintro _ w2 ⟨rfl,BS,hx2,hz2⟩
   replace BS:Blk 3 w2 w1.heap.size ((List.replicate n (0:Int)).map i64):=by rw [List.map_replicate];exact BS
   (iterate 6 refine Nv ?_;try refine .r rfl ?_)
   refine .s (OpR.call fn_r10_Of rfl (frameOf_spec (hM.ext hx2) hn hRF)) ?_
   rintro fr w3 ⟨hx3,hFr⟩
   refine .r rfl ?_
   have hcall:=count_spec (bc:=w1.heap.size) hRF hn ⟨hB0,hB1⟩ ⟨hb0,hb1⟩ n hn.1 [] (List.replicate n 0) w3 fr (.slice none 0 0) (by show 0+n=n;omega) ⟨none,0,rfl,Nat.le_refl _,fun _=>rfl,fun a ha=>by cases ha⟩ (fun c off s len cap e=>by cases e) hFr (BS.ext hx3) (by simp) (rep_nonneg n) (by rw [sL_rep];exact hb0) (by rw [re_nil];exact Int.mul_nonneg (by have:=ddI_pos hRF.pos (Nat.le_refl n);omega) hB0)
   rw [sL_rep,Int.sub_zero] at hcall
   refine .s (OpR.call fn_r10_Frame_count rfl hcall) ?_
   rintro r w4 ⟨hu4,hnone,hsome⟩
   have hx4:Ext w w4:=((hx1.trans hx2).trans hx3) |>.then_upd hu4 hx1.size
   cases hv:visN f n B n [] (b,List.replicate n 0) with
   | none =>
    have e:=hnone hv
    subst e
    (iterate 6 refine Nv ?_;try refine .r rfl ?_)
    refine .cT ?_
    (iterate 6 refine Nv ?_;try refine .r rfl ?_)
    exact Out.rets TBok [_,_] rfl ⟨rfl,rfl,trivial⟩ ⟨hx4,key _ _ ⟨fun _=>rfl,fun s' hs=>by rw [hv] at hs;cases hs⟩⟩
   | some s2 =>
    obtain ⟨rfl,hC,hcl,_,_,_⟩:=hsome s2 hv
    (iterate 6 refine Nv ?_;try refine .r rfl ?_)
    refine .cF ?_
    (iterate 6 refine Nv ?_;try refine .r rfl ?_)
    refine Out.rets TBok [_,_] rfl ⟨rfl,rfl,trivial⟩ ⟨hx4,key _ _ ⟨fun hs=>(by rw [hv] at hs;cases hs),fun s' hs=>?_⟩⟩
    rw [hv] at hs
    cases hs
    have hl:=l64_blk' hC
    rw [hcl] at hl
    exact ⟨_,rfl,hl⟩
  ·have e:=h1 hRed hA
   subst e
   refine .r rfl ?_
   refine Nv ?_
   refine .a 2 (.bool true) rfl rfl ?_
   (iterate 6 refine Nv ?_;try refine .r rfl ?_)
   refine .cT ?_
   (iterate 6 refine Nv ?_;try refine .r rfl ?_)
   exact Out.rets TBok [_,_] rfl ⟨rfl,rfl,trivial⟩ ⟨hx1,fun hR=>absurd hRed hR,fun _ _=>rfl,fun _ hA'=>absurd hA' hA,fun _ hA'=>absurd hA' hA⟩
 ·have e:=h6 hRed
  subst e
  refine .r rfl ?_
  refine Nv ?_
  refine .a 2 (.bool true) rfl rfl ?_
  (iterate 6 refine Nv ?_;try refine .r rfl ?_)
  refine .cT ?_
  (iterate 6 refine Nv ?_;try refine .r rfl ?_)
  exact Out.rets TBok [_,_] rfl ⟨rfl,rfl,trivial⟩ ⟨hx1,fun _=>rfl,fun hR=>absurd hR hRed,fun hR=>absurd hR hRed,fun hR=>absurd hR hRed⟩
theorem visL_len {g:Int→Int×List Int→Option (Int×List Int)} (hg:∀ x s s',g x s=some s'→s'.2.length=s.2.length):∀ (j:Nat) (x:Int) (s s':Int×List Int),visL g j x s=some s'→s'.2.length=s.2.length
 | 0,x,s,s',h=>by unfold visL at h;cases h;rfl
 | j+1,x,s,s',h=>by
  unfold visL at h
  split at h
  ·cases h
  ·rename_i s1 h1
   exact (visL_len hg j (x+1) s1 s' h).trans (hg x s s1 h1)
theorem visN_len {f:Nat→Nat→Int} {n:Nat} {B:Int}:∀ (k:Nat) (ys:List Int) (s s':Int×List Int),visN f n B k ys s=some s'→s'.2.length=s.2.length
 | 0,ys,s,s',h=>by unfold visN at h;cases h;rfl
 | k+1,ys,s,s',h=>by
  unfold visN at h
  split at h
  ·cases h
  ·have:=visL_len (fun x s s' hg=>visN_len k (x::ys) s s' hg) _ _ _ _ h
   rw [this]
   exact bump_len _ _ _
theorem l64_nil (w:World):L64 w (.slice none 0 0) []:=⟨none,0,rfl,Nat.le_refl _,fun _=>rfl,fun a ha=>by cases ha⟩
theorem steps_one (M:List (List Int)) (B b:Int) (hl:M.length≤1000000):∃ e zs,zs.length≤1000000∧∀ w x,StepsV w x M B b→∃ a,x=.tuple #[a,.int .i64 e]∧L64 w a zs:=by
 by_cases hR:Red M
 ·by_cases hA:ArgOk B b
  ·cases hv:visN (ent M) M.length B M.length [] (b,List.replicate M.length 0) with
   | none=>exact ⟨9,[],by simp,fun w x h=>⟨_,h.2.2.1 hR hA hv,l64_nil w⟩⟩
   | some s' =>
    refine ⟨0,s'.2,?_,fun w x h=>h.2.2.2 hR hA s' hv⟩
    have:=visN_len _ _ _ _ hv
    simp at this
    omega
  ·exact ⟨1,[],by simp,fun w x h=>⟨_,h.2.1 hR hA,l64_nil w⟩⟩
 ·exact ⟨6,[],by simp,fun w x h=>⟨_,h.1 hR,l64_nil w⟩⟩
theorem OpR.trip {P:Program} {T:List (Nat×TI)} {n:Nat} {E:List (Nat×Value)} {w:World} (hT:TblOk P T) {d:Option Tmp} {t:TypeId} {x y x2:Operand} {ty:TypeId} {pos:String} {af:Array Edge} {g:Option (Nat×Bool)} {et:TypeId} {s1 s2:Nat} {z:Value} {ti:TI} {k k' k2:IntKind} {m m' m2:Int}
  (ht:lookT T t=some ⟨.slice et,s1,s2,z⟩) (hte:lookT T et=some ti) (hsz:ti.size=1) (hx:ov E x=some (.int k m)) (hy:ov E y=some (.int k' m')) (hx2:ov E x2=some (.int k2 m2)) :
  OpR P n ⟨d,.buildSlice t 3 #[(0,x),(1,y),(2,x2)],ty,pos,af,g⟩ E w (fun u w'=>u=.slice (some ⟨w.heap.size,0,none⟩) 3 3∧Blk et w' w.heap.size [.int k m,.int k' m',.int k2 m2]∧Ext w w'∧w'.heap.size=w.heap.size+1):=by
 intro a ha Q K hK
 obtain ⟨_,inf,hi,hsize,hby,hzero⟩:=hT et ti hte
 have e1:=ha.eval hx
 have e2:=ha.eval hy
 have e3:=ha.eval hx2
 have hrun:(execOp a.eval ⟨d,.buildSlice t 3 #[(0,x),(1,y),(2,x2)],ty,pos,af,g⟩).run P w=.ok (.value (.slice (some ⟨w.heap.size,0,none⟩) 3 3)) (w.alloc (.cells #[.int k m,.int k' m',.int k2 m2] et (0,0))):=by
  generalize a.eval=ρ at e1 e2 e3
  simp [execOp,Instr.buildSlice,e1,e2,e3,run_underlying_T hT ht,run_sizeOf_T hT hte,hsz,zeroValue,run_typeInfo hi,hzero,Instr.fill,newRow,go_sem]
 unfold Oper.wp
 rw [hrun,Oper.upon_value]
 exact hK _ _ ⟨rfl,blk_alloc _ _ _,ext_alloc _ _,size_alloc1 _ _⟩
def TapeJ (w0 w:World) (b:Nat) (v:Value) (xs:List Int) (k:Nat):Prop:=w0.heap.size≤b∧Blk 103 w b [v,.int .i64 ((min k xs.length:Nat):Int)]∧L8 w0 v xs
theorem TapeJ.ext {w0 w w':World} {b k:Nat} {v:Value} {xs:List Int} (h:TapeJ w0 w b v xs k) (hx:Ext w w'):TapeJ w0 w' b v xs k:=⟨h.1,h.2.1.ext hx,h.2.2⟩
theorem TapeJ.upd {w0 w w':World} {b c k:Nat} {v:Value} {xs:List Int} {e:TypeId} {C:List Value} (h:TapeJ w0 w b v xs k) (hx:Upd c w w') (hb:Blk e w c C) (hne:e≠103):TapeJ w0 w' b v xs k:=by
 obtain ⟨h0,h1,h2⟩:=h
 refine ⟨h0,h1.upd hx ?_,h2⟩
 intro e1
 subst e1
 have:=h1.symm.trans hb
 simp only [Option.some.injEq,Obj.cells.injEq] at this
 exact hne this.2.1.symm
theorem TapeJ.blk {w0 w:World} {b k:Nat} {v:Value} {xs:List Int} (h:TapeJ w0 w b v xs k):∃ C,Blk 103 w b C:=⟨_,h.2.1⟩
def blw (xs:List Int) (k m:Nat):Nat:=(IntKind.i64.wrap (IntKind.u8.wrap (xs.getD k 0))).toNat % m
theorem next_specJ {w0 w:World} {b k:Nat} {v:Value} {xs:List Int} (hx0:Ext w0 w) (h:TapeJ w0 w b v xs k):Calls Tryz.prog 65 #[.pointer (some ⟨b,0,none⟩)] w (Ret fun x w'=>Upd b w w'∧TapeJ w0 w' b v xs (k+1)∧x=.int .i64 (xs.getD k 0)∧-128≤xs.getD k 0∧xs.getD k 0≤127):=by
 obtain ⟨h0,hB,hR⟩:=h
 obtain ⟨p,cap,hv⟩:=hR.1.len
 rw [List.length_map] at hv
 have hl:=hR.2.2
 have hb64:=hR.2.1
 subst hv
 refine calls_of_St (args:=[_]) Tryz.func65 rfl Tryz.ntmps65 rfl ?_
 (iterate 6 refine Nv ?_;try refine .r rfl ?_)
 refine St.sub (E':=[(0,.pointer (some ⟨b,0,none⟩))]) ?_ sbb
 refine St.flow 9 TBfol (by kernel_rfl) rfl (by kernel_rfl) rfl True.intro ?_
 refine FL.run TBok 99 rfl ?_
 refine FL.load (L:=[]) TBok rfl rfl rfl rfl rfl rfl upp (by simp) rfl ?_
 refine FL.run TBok 99 rfl ?_
 refine FL.load (L:=[]) TBok rfl rfl rfl rfl rfl rfl upp (by simp) rfl ?_
 refine FL.run TBok 99 rfl ?_
 refine FL.endE rfl ?_
 intro w1 hx1 _ _
 replace hB:=hB.ext hx1
 by_cases hlt:k<xs.length
 ·rw [show min k xs.length=k by omega] at hB
  have hgd:xs.getD k 0=xs[k]:=by simp [List.getD_eq_getElem?_getD,hlt]
  rw [hgd]
  rw [show min k xs.length=k by omega]
  refine .a 1 (.bool false) rfl (bool_false (by omega)) ?_
  (iterate 6 refine Nv ?_;try refine .r rfl ?_)
  refine .cF ?_
  (iterate 6 refine Nv ?_;try refine .r rfl ?_)
  (refine .s (RunsTo.load TBok rfl rfl rfl (Blk.cell upp rfl)).op ?_;rintro _ _ ⟨rfl,rfl⟩)
  refine .a 1 (.int .i64 ((k+1:Nat):Int)) rfl (by rw [i64_id (by omega) (by omega)];rfl) ?_
  refine .r rfl ?_
  refine StL.step0 rfl rfl (OpR.store TBok (vs:=[.int .i64 ((k+1:Nat):Int)]) rfl rfl rfl rfl rfl hB (Nat.le_refl 2) (by simp [Value.oneCell'])) ?_
  rintro _ w2 ⟨hB2,hu2⟩
  have hB2:Blk 103 w2 b [.slice p xs.length cap,.int .i64 ((k+1:Nat):Int)]:=hB2
  have hxi:(xs.map i8)[k]?=some (i8 xs[k]):=by simp [hlt]
  have hx2:Ext w0 w2:=(hx0.trans hx1).then_upd hu2 h0
  obtain ⟨a,cp,e,hcell⟩:=(hR.1.ext hx2).get hxi
  have hlm:(xs.map i8).length=xs.length:=by simp
  rw [hlm] at e
  cases e
  refine Nv ?_
  refine St.sub (E':=[(0,.pointer (some ⟨b,0,none⟩))]) ?_ sbb
  refine St.flow 9 TBfol (by kernel_rfl) rfl (by kernel_rfl) rfl True.intro ?_
  refine FL.run TBok 99 rfl ?_
  refine FL.load (L:=[]) TBok rfl rfl rfl rfl rfl rfl upp (by simp) rfl ?_
  refine FL.run TBok 99 rfl ?_
  refine FL.load (L:=[]) TBok rfl rfl rfl rfl rfl rfl upp (by simp) rfl ?_
  refine FL.as TBok 1 (.int .i64 k) rfl (by rw [i64_id (by omega) (by omega)];congr 1;omega) ?_
  refine FL.endE rfl ?_
  intro w3 hx3 _ _
  refine .p (RunsTo.ia) ?_
  refine .p (RunsTo.load TBok rfl rfl rfl (hx3.cell hcell)) ?_
  have hz:=hb64 xs[k] (by simp)
  refine .a 1 (.int .i64 xs[k]) rfl (by rw [i64_id (by omega) (by omega)]) ?_
  (iterate 6 refine Nv ?_;try refine .r rfl ?_)
  exact Out.ret1 rfl rfl ⟨((hx1.upd b).trans hu2).trans (hx3.upd b),⟨h0,by rw [show min (k+1) xs.length=k+1 by omega];exact hB2.ext hx3,hR⟩,rfl,hz.1,hz.2⟩
 ·have hgd:xs.getD k 0=0:=by rw [List.getD_eq_getElem?_getD,List.getElem?_eq_none (by omega)];rfl
  refine .a 1 (.bool true) rfl (bool_true (by omega)) ?_
  (iterate 6 refine Nv ?_;try refine .r rfl ?_)
  refine .cT ?_
  (iterate 6 refine Nv ?_;try refine .r rfl ?_)
  exact Out.ret1 rfl rfl ⟨hx1.upd b,⟨h0,by rw [show min (k+1) xs.length=min k xs.length by omega];exact hB,hR⟩,by rw [hgd],by omega,by omega⟩
theorem below_specJ {w0 w:World} {b m k:Nat} {v:Value} {xs:List Int} (hx0:Ext w0 w) (h:TapeJ w0 w b v xs k) (hm:1≤m):Calls Tryz.prog 88 #[.pointer (some ⟨b,0,none⟩),.int .i64 m] w (Ret fun x w'=>Upd b w w'∧TapeJ w0 w' b v xs (k+1)∧x=.int .i64 ((blw xs k m:Nat):Int)∧blw xs k m<m):=by
 refine calls_of_St (args:=[_,_]) Tryz.func88 rfl Tryz.ntmps88 rfl ?_
 (iterate 6 refine Nv ?_;try refine .r rfl ?_)
 refine .s (OpR.call fn_quadformmake_Tape_Next rfl (next_specJ hx0 h)) ?_
 rintro _ w1 ⟨hu,ht,rfl,h1,h2⟩
 refine .r rfl ?_
 obtain ⟨y,hy,hy2⟩:=u8_nat (xs.getD k 0)
 have hbl:blw xs k m=y % m:=by unfold blw;rw [hy];simp
 refine .p (RunsTo.remN y m rfl hy rfl rfl (by omega)) ?_
 (iterate 6 refine Nv ?_;try refine .r rfl ?_)
 exact Out.ret1 rfl rfl ⟨hu,ht,by rw [hbl],by rw [hbl];exact Nat.mod_lt _ (by omega)⟩
def dgF (xs:List Int) (k m:Nat) (p q:Nat):Int:=if p=q then 1+((blw xs (k+p) m:Nat):Int) else 0
theorem dgF_diag {xs:List Int} {k n m:Nat} (hm:1≤m):DiagF n m (dgF xs k m):=by
 intro p q hp hq
 unfold dgF
 refine ⟨fun h=>if_neg h,fun h=>?_⟩
 rw [if_pos h]
 have:blw xs (k+p) m<m:=Nat.mod_lt _ (by omega)
 omega
set_option maxHeartbeats 3200000 in
theorem diagonal_specJ {w0 w:World} {b n m k:Nat} {v:Value} {xs:List Int} (hx0:Ext w0 w) (hT:TapeJ w0 w b v xs k) (hn:1≤n∧n≤16) (hm:1≤m∧m≤9) :
  Calls Tryz.prog 89 #[.pointer (some ⟨b,0,none⟩),.int .i64 n,.int .i64 m] w (Ret fun x w'=>Upd b w w'∧Ext w0 w'∧TapeJ w0 w' b v xs (k+n)∧∃ rs,MatW rs w.heap.size w' x (mk n n (dgF xs k m))):=by
 have hbw:b<w.heap.size:=by obtain ⟨C,hC⟩:=hT.blk;exact hC.lt
 have hb0:=hT.1
 refine calls_of_St (args:=[_,_,_]) Tryz.func89 rfl Tryz.ntmps89 rfl ?_
 (iterate 6 refine Nv ?_;try refine .r rfl ?_)
 refine .s (OpR.make TBok n rfl rfl rfl rfl rfl rfl rfl rfl (by show n * 24≤_;omega) (by omega)) ?_
 rintro _ w2 ⟨rfl,B,hx2,hz2⟩
 have h0:=matW_nil (base:=w.heap.size) (Nat.le_refl _) (by omega) B
 rw [← fst_zero n n (fun _ _=>0)] at h0
 (iterate 6 refine Nv ?_;try refine .r rfl ?_)
 refine St.rng TBok (13) (0) (n) (by omega) [(0,.pointer (some ⟨b,0,none⟩)),(1,.int .i64 n),(2,.int .i64 m),(7,.slice (some ⟨w.heap.size,0,none⟩) n n),(12,.int .i64 n)] (fun i w'=>Upd b w w'∧Ext w0 w'∧TapeJ w0 w' b v xs (k+i)∧∃ rs f,MatW rs w.heap.size w' (.slice (some ⟨w.heap.size,0,none⟩) n n) (fst n n i f)∧∀ p q,p<i→q<n→f p q=dgF xs k m p q) sbb ?_ (fun _=>⟨rfl,rfl⟩) (fun _=>rfl) (fun _=>⟨rfl,rfl⟩) rfl rfl (by omega) ?_ ?_
 ·exact ⟨hx2.upd b,hx0.trans hx2,hT.ext hx2,_,_,h0,fun p q hp=>by omega⟩
 ·clear h0 B hx2 hz2 hT
  rintro i w3 hi ⟨hu3,hx3,hT,rs,f,hM,hf⟩
  (iterate 6 refine Nv ?_;try refine .r rfl ?_)
  refine .s (OpR.make TBok n rfl rfl rfl rfl rfl rfl rfl rfl (by show n * 8≤_;omega) (by omega)) ?_
  rintro _ w4 ⟨rfl,B4,hx4,hz4⟩
  refine StL.putRowU (hM.ext hx4) (by rw [fst_len];exact hi) B4 hu3.size (fun r hr=>hM.blkLt r hr _ (Nat.le_refl _)) (by omega) rfl rfl rfl (fun _=>rfl) rfl rfl (fun _=>rfl) ?_
  intro p5 w5 g5 C5 hg5 hb5 hu5 hM5
  rw [fst_add hi] at hM5
  have hT5:=(hT.ext hx4).upd hu5 hb5 (by decide)
  have hU5:Upd b w w5:=(hu3.trans (hx4.upd b)).then_upd hu5 hg5
  have hX5:Ext w0 w5:=(hx3.trans hx4).then_upd hu5 (by have:=hx0.size;omega)
  obtain ⟨a3,rr,ea,_,hrr,hc3⟩:=hM5.rowAt (i:=i) (by rw [fst_len];exact hi)
  cases ea
  generalize hrs5:rs.set i (.slice (some ⟨w3.heap.size,0,none⟩) n n)=rs5 at hM5 hrr
  have hrv:rr=.slice (some ⟨w3.heap.size,0,none⟩) n n:=by
   have hrl:=hM.rsl
   rw [fst_len] at hrl
   rw [← hrs5,List.getElem?_set_self (by omega)] at hrr
   simpa using hrr.symm
  subst hrv
  refine Nv ?_
  refine St.sub (E':=[(13,.int .i64 i),(0,.pointer (some ⟨b,0,none⟩)),(1,.int .i64 n),(2,.int .i64 m),(7,.slice (some ⟨w.heap.size,0,none⟩) n n),(12,.int .i64 n),(8,.int .i64 i)]) ?_ sbb
  refine St.any TBfol rfl ?_
  intro w6 hx6 _ _
  refine WA.takes (fuel:=6) TBok (by kernel_rfl) (fun _ _ _ _ _ h=>h) [0,1,4,5,6] (by kernel_rfl) rfl ?_
  refine WA.take 2 rfl rfl (by kernel_rfl) (by kernel_rfl) (by kernel_rfl) (fun _ _ _ h=>h) rfl rfl (fun w=>RunsTo.ia) ?_
  refine WA.meet 2 #[true,true,true,true,true,true,true,true,true,false,false] (fun z:Nat=>[(13,.int .i64 i),(0,.pointer (some ⟨b,0,none⟩)),(1,.int .i64 n),(2,.int .i64 m),(7,.slice (some ⟨w.heap.size,0,none⟩) n n),(12,.int .i64 n),(24,.slice (some ⟨w3.heap.size,0,none⟩) n n),(25,.int .i64 i),(29,.int .i64 (IntKind.i64.wrap (1+(z:Int))))]) (fun z w'=>Upd b w6 w'∧TapeJ w0 w' b v xs (k+(i+1))∧z=blw xs (k+i) m∧z<m) ?_ ?_
  ·rintro z w7 ⟨hu7,hT7,hze,hz⟩
   obtain ⟨C6,hC6⟩:=(hT5.ext hx6).blk
   have hM7:MatW rs5 w.heap.size w7 _ _:=MatR.updT (hM5.ext hx6) hu7 hC6 (by decide) (by decide)
   have hrow:(fst n n (i+1) (fun a b=>if a<i then f a b else 0))[i]?=some (tab n (fun b=>if i<i then f i b else 0)):=by
    rw [fst_get hi,if_pos (by omega)]
   obtain ⟨g,cap,D,hv,hg,hB,hput⟩:=hM7.rowB hrr hrow (by intro e;have:=congrArg List.length e;rw [tab_len] at this;simp at this;omega)
   rw [tab_len] at hv
   simp only [Value.slice.injEq,Option.some.injEq,Addr.mk.injEq,and_true] at hv
   obtain ⟨rfl,_,rfl⟩:=hv
   refine WA.one (i:=9) (by kernel_rfl) (WOp.val rfl rfl rfl rfl (RunsTo.ia).op ?_)
   rintro _ _ ⟨rfl,rfl⟩
   simp only [Int.toNat_natCast,addr_add,Nat.zero_add]
   refine WA.one (i:=10) (by kernel_rfl) (WOp.eff rfl rfl rfl (OpR.store TBok (vs:=[_]) rfl rfl rfl rfl rfl hB (by rw [List.length_append,List.length_map,tab_len];simp;omega) (by simp [Value.oneCell'])) ?_)
   rintro _ w8 ⟨hB8,hu8⟩
   refine WA.done (by kernel_rfl) ?_
   have hM8:=hput i (IntKind.i64.wrap (1+(z:Int))) w8 (by rw [tab_len];exact hi) hu8 hB8
   rw [i64_id (by omega) (by omega),fst_set (f:=fun a b=>if a<i then f a b else 0) hi (by omega) hi] at hM8
   refine Nv ?_
   refine Out.rnd sbb ⟨((hU5.trans (hx6.upd b)).trans hu7).then_upd hu8 (by omega),((hX5.trans hx6).then_upd hu7 hb0).then_upd hu8 (by have:=hx0.size;omega),hT7.upd hu8 hB (by decide),rs5,_,hM8,fun p q hp hq=>?_⟩
   unfold upd2
   by_cases e:p=i
   ·subst e
    by_cases e2:q=p
    ·subst e2
     rw [if_pos ⟨rfl,rfl⟩]
     unfold dgF
     rw [if_pos rfl,hze]
    ·rw [if_neg (fun h=>e2 h.2)]
     dsimp only
     rw [if_neg (by omega)]
     unfold dgF
     rw [if_neg (fun h=>e2 h.symm)]
   ·rw [if_neg (fun h=>e h.1)]
    dsimp only
    rw [if_pos (by omega)]
    exact hf p q (by omega) hq
  ·intro meet
   have hX6:=hX5.trans hx6
   have hT6:=hT5.ext hx6
   refine WA.two (i:=3) (j:=7) (by kernel_rfl) ?_ ?_
   ·refine WOp.val rfl rfl rfl rfl (RunsTo.load TBok rfl rfl rfl (hx6.cell hc3)).op ?_
    rintro _ _ ⟨rfl,rfl⟩
    refine WA.one (i:=7) (by kernel_rfl) (WOp.val rfl rfl rfl rfl (OpR.call fn_quadformmake_Tape_Below rfl (below_specJ hX6 hT6 hm.1)) ?_)
    rintro _ w7 ⟨hu7,hT7,rfl,hz⟩
    refine WA.takes (fuel:=2) TBok (by kernel_rfl) (fun _ _ _ _ _ h=>h) [8] (by kernel_rfl) rfl ?_
    exact meet (blw xs (k+i) m) _ _ _ (by kernel_rfl) ⟨hu7,hT7,rfl,hz⟩ sbb
   ·refine WOp.val rfl rfl rfl rfl (OpR.call fn_quadformmake_Tape_Below rfl (below_specJ hX6 hT6 hm.1)) ?_
    rintro _ w7 ⟨hu7,hT7,rfl,hz⟩
    refine WA.takes (fuel:=3) TBok (by kernel_rfl) (fun _ _ _ _ _ h=>h) [8] (by kernel_rfl) rfl ?_
    refine WA.one (i:=3) (by kernel_rfl) (WOp.val rfl rfl rfl rfl (RunsTo.load TBok rfl rfl rfl (hu7.cell (hx6.cell hc3) (by rw [addr_add_block];show w.heap.size≠b;omega))).op ?_)
    rintro _ _ ⟨rfl,rfl⟩
    exact meet (blw xs (k+i) m) _ _ _ (by kernel_rfl) ⟨hu7,hT7,rfl,hz⟩ sbb
 ·rintro w3 ⟨hu3,hx3,hT,rs,f,hM,hf⟩
  rw [fst_all] at hM
  rw [mk_congr (fun p q hp hq=>hf p q hp hq)] at hM
  (iterate 6 refine Nv ?_;try refine .r rfl ?_)
  exact Out.ret1 rfl rfl ⟨hu3,hx3,hT,rs,hM⟩
end Go.Qf
