/- Lemmas on the model and on the program's functions, part Ztb. -/
import GoSem.Core.View
import Derived.WalkKit
import Derived.Deep.Quiet
import Derived.Deep.LoopGhost
import Derived.KernelRfl
import Derived.Test.YtlhbkhjaajcfgaaGreatProg
import Derived.Laws.BytesString
import Derived.Laws.RangeString
import Derived.Lib.OthersKept
import Derived.Laws.Strings
import Derived.ProofKit
import Derived.OpenShut
import Derived.Lib.SmallJoins
import Derived.Carry
import Derived.ChangeMaps5
import Derived.Maps.AppendAt
import Derived.Laws.Externs
import Derived.Lib.Bytealg
import Derived.ChangeArms
import Derived.Laws.OwnMore
import Derived.Scope
import Derived.RangeFuncLeaves
import Derived.RangeFuncRecord
import Derived.TacticsIn
import Derived.OrdersIn
import Derived.Test.YtlhbkhjaajcfgaaGreatRows
import Derived.Test.YtlhbkhjaajcfgaaGreatZta
set_option linter.unusedVariables false
set_option linter.unusedSimpArgs false
namespace Go.Qf
open Go Go.RowKit Go.Proofs
set_option maxRecDepth 20000
theorem seg_get {A D:List Value} {xs:List Nat} {off j x:Nat} (hA:A.length=off) (hx:xs[j]?=some x):(A++(xs.map u32++D))[off+j]?=some (u32 x):=by
 have hj:j<xs.length:=(List.getElem?_eq_some_iff.1 hx).1
 rw [List.getElem?_append_right (by omega),show off+j - A.length=j from by omega,List.getElem?_append_left (by simpa using hj)]
 simp [hx]
theorem seg_set {A D:List Value} {xs:List Nat} {off j v:Nat} (hA:A.length=off) (hj:j<xs.length):(A++(xs.map u32++D)).set (off+j) (u32 v)=A++((xs.set j v).map u32++D):=by
 rw [List.set_append_right _ _ (by omega),show off+j - A.length=j from by omega,List.set_append_left _ _ (by simpa using hj),map_set_u32]
theorem drop_pred {xs:List Nat} {j x:Nat} (hx:xs[j]?=some x):val (xs.drop j)=x+4294967296 * val (xs.drop (j+1)):=by
 have h1:j<xs.length:=(List.getElem?_eq_some_iff.1 hx).1
 rw [List.getElem?_eq_getElem h1] at hx
 rw [List.drop_eq_getElem_cons h1,Option.some.inj hx,val]
theorem mul_B_lt {r:Nat} (h:r<4294967296):r * 4294967296<18446744073709551616:=by omega
set_option maxHeartbeats 400000 in
theorem divideByLimb_spec (w:World) (b off cap d:Nat) (A D:List Value) (xs:List Nat) (hb:Blk 139 w b (A++(xs.map u32++D))) (hA:A.length=off) (hlim:Lim xs) (hlen:xs.length≤1000000000) (hd:0<d) (hd2:d<4294967296) :
  Calls Tryz.prog 167 #[.slice (some ⟨b,off,none⟩) xs.length cap,.int .u32 d] w
   (Ret fun r w'=>r=.int .u32 ((val xs % d:Nat):Int)∧Upd b w w'∧∃ us,us.length=xs.length∧Lim us∧val us=val xs / d∧Blk 139 w' b (A++(us.map u32++D))):=by
 refine calls_of_St (args:=[_,_]) Tryz.func167 rfl Tryz.ntmps167 rfl ?_
 (iterate 6 refine Nv ?_;try refine .r rfl ?_)
 refine St.loop (fun g:Nat×Nat×List Nat=>[(0,.slice (some ⟨b,off,none⟩) xs.length cap),(1,.int .u32 d),(5,.int .u64 g.2.1),(6,.int .i64 ((g.1:Int) - 1))])
  (fun g w2=>Upd b w w2∧Blk 139 w2 b (A++(g.2.2.map u32++D))∧g.2.2.length=xs.length∧Lim g.2.2∧g.2.1<d∧g.1≤xs.length∧g.2.2.take g.1=xs.take g.1∧val (xs.drop g.1)=val (g.2.2.drop g.1) * d+g.2.1)
  (fun g=>g.1) (xs.length,0,xs) ⟨rfl,rfl,rfl,?_,trivial⟩ ⟨Upd.refl _ _,hb,rfl,hlim,hd,Nat.le_refl _,rfl,by simp [val]⟩ ?_
 ·show some (Value.int .i64 (IntKind.i64.wrap ((xs.length:Int) - 1)))=_
  rw [i64_id (by omega) (by omega)]
 rintro ⟨j,r,us⟩ w2 ⟨hu2,hb2,hul,hulim,hr,hj,htk,heq⟩
 simp only at hb2 hul hulim hr hj htk heq
 dsimp only
 by_cases h0:j=0
 ·subst h0
  refine Nv ?_
  refine .a 2 (.bool false) rfl (bool_false (by simp)) ?_
  refine Nv ?_
  refine .cF ?_
  (iterate 6 refine Nv ?_;try refine .r rfl ?_)
  simp only [List.drop_zero] at heq
  refine Out.ret1 rfl rfl ⟨?_,hu2,us,hul,hulim,?_,hb2⟩
  ·rw [heq,Nat.mul_comm,Nat.mul_add_mod,Nat.mod_eq_of_lt hr,u32_id (by omega) (by omega)]
  ·rw [heq]
   rw [Nat.mul_comm,Nat.mul_add_div (by omega),Nat.div_eq_of_lt hr];simp
 obtain ⟨i,rfl⟩:∃ i,j=i+1:=⟨j - 1,by omega⟩
 have hxi:us[i]?=some us[i]:=by simp
 generalize us[i]=x at hxi
 have hxl:=hulim.get hxi
 have hxx:xs[i]?=some x:=by
  have:(us.take (i+1))[i]?=(xs.take (i+1))[i]?:=by rw [htk]
  rw [List.getElem?_take_of_lt (by omega),List.getElem?_take_of_lt (by omega)] at this
  rw [← this];exact hxi
 have e0:(((i+1:Nat):Int) - 1)=(i:Int):=by omega
 simp only [e0]
 refine Nv ?_
 refine .a 2 (.bool true) rfl (bool_true (by omega)) ?_
 refine Nv ?_
 refine .cT ?_
 (iterate 6 refine Nv ?_;try refine .r rfl ?_)
 refine StL.elemB TBok i (u32 x) hb2 (seg_get hA hxi) rfl (by omega) rfl rfl rfl rfl rfl rfl rfl rfl rfl rfl (fun _=>rfl) ?_
 intro p1
 have hrd:r * 4294967296+x<d * 4294967296:=by
  have:(r+1) * 4294967296≤d * 4294967296:=Nat.mul_le_mul_right _ hr
  omega
 have hr2:r<4294967296:=by omega
 have hr3:r * 4294967296<18446744073709551616:=mul_B_lt hr2
 have hx3:x<18446744073709551616:=by omega
 have e1:bitsI .or .u64 (IntKind.u64.wrap ((r:Int) * 2 ^ 32)) (IntKind.u64.wrap (x:Int))=((r * 4294967296+x:Nat):Int):=by
  rw [show (r:Int) * 2 ^ 32=((r * 4294967296:Nat):Int) from by rw [Int.natCast_mul];rfl,u64_id (n:=((r * 4294967296:Nat):Int)) (Int.natCast_nonneg _) (Int.ofNat_le.2 (Nat.le_of_lt_succ hr3)),u64_id (n:=(x:Int)) (by omega) (by omega),or_u64 _ _ hr3 hx3,Nat.or_comm,or_low32 _ _ hxl,Nat.add_comm]
 refine .a 2 (.int .u64 ((r * 4294967296+x:Nat):Int)) rfl (by rw [e1]) ?_
 generalize ht:r * 4294967296+x=t at hrd
 have htb:t<18446744073709551616:=by omega
 (iterate 6 refine Nv ?_;try refine .r rfl ?_)
 have ed:IntKind.u64.wrap (d:Int)=(d:Int):=u64_id (by omega) (by omega)
 refine .p (RunsTo.quo rfl rfl (by omega) (by rw [ed];omega)) ?_
 rw [ed]
 have hq:t / d<4294967296:=by
  apply Nat.div_lt_of_lt_mul
  omega
 have hdm:=Nat.div_add_mod t d
 have hqi:(t:Int) / (d:Int)=((t / d:Nat):Int):=by simp
 have hmi:(t:Int) % (d:Int)=((t % d:Nat):Int):=by simp
 have hml:=Nat.mod_lt t hd
 generalize t / d=q at hq hdm hqi
 generalize t % d=m at hdm hmi hml
 rw [hqi]
 have e2:IntKind.u32.wrap (IntKind.u64.wrap (q:Int))=(q:Int):=by
  rw [u64_id (by omega) (by omega),u32_id (by omega) (by omega)]
 refine .a 1 (.int .u32 (q:Int)) rfl (by rw [e2]) ?_
 refine StL.put TBok i hb2 rfl (by omega) (by simp;omega) rfl rfl rfl rfl rfl rfl rfl rfl (fun _=>rfl) (fun _=>rfl) rfl rfl ?_
 intro p3 w3 hb3 hu3
 rw [seg_set hA (by omega)] at hb3
 (iterate 6 refine Nv ?_;try refine .r rfl ?_)
 refine .p (RunsTo.rem rfl rfl (by omega) (by rw [ed];omega)) ?_
 rw [ed]
 (iterate 6 refine Nv ?_;try refine .r rfl ?_)
 refine Out.again (i,m,us.set i q) ⟨rfl,rfl,?_,?_,trivial⟩ ⟨hu2.trans hu3,hb3,by simpa using hul,hulim.set _ hq,hml,by simp only;omega,?_,?_⟩ (by simp only;omega)
 ·show some (Value.int .u64 ((t:Int) % (d:Int)))=_
  rw [hmi]
 ·show some (Value.int .i64 (IntKind.i64.wrap ((i:Int) - 1)))=_
  rw [i64_id (by omega) (by omega)]
 ·simp only
  rw [List.take_set_of_le (by omega)]
  have h1:(us.take (i+1)).take i=(xs.take (i+1)).take i:=by rw [htk]
  simpa [List.take_take,Nat.min_eq_left (Nat.le_succ i)] using h1
 ·simp only
  have hs:(us.set i q)[i]?=some q:=List.getElem?_set_self (by omega)
  rw [drop_pred hxx,drop_pred hs,heq,List.drop_set_of_lt (by omega)]
  have h1:(q+4294967296 * val (us.drop (i+1))) * d=d * q+4294967296 * (val (us.drop (i+1)) * d):=by
   rw [Nat.add_mul,Nat.mul_comm q,Nat.mul_assoc]
  rw [h1,Nat.mul_add]
  omega
theorem sr_step (x y V' s:Nat) (hs:s<32) (hx:x<4294967296):(x+4294967296 * (y+4294967296 * V')) / 2 ^ s=(x+4294967296 * y) / 2 ^ s % 4294967296+4294967296 * ((y+4294967296 * V') / 2 ^ s):=by
 have hp:0<2 ^ s:=Nat.pow_pos (by decide)
 have hB:4294967296=2 ^ s * 2 ^ (32 - s):=by rw [← Nat.pow_add,show s+(32 - s)=32 from by omega]
 generalize 2 ^ (32 - s)=M at hB
 generalize 2 ^ s=N at hB hp
 have hy:=Nat.div_add_mod y N
 have hR:=Nat.mod_lt y hp
 generalize y / N=q at hy
 generalize y % N=R at hy hR
 subst hy
 generalize hBB:4294967296=B at *
 have e1:x+B * (N * q+R+B * V')=(x+B * R)+N * (B * q+B * (M * V')):=by
  have h1:B * (B * V')=N * (B * (M * V')):=by
   conv=>lhs;arg 2;rw [hB]
   rw [Nat.mul_assoc,Nat.mul_left_comm]
  have h2:B * (N * q)=N * (B * q):=Nat.mul_left_comm _ _ _
  simp only [Nat.mul_add]
  omega
 have e2:x+B * (N * q+R)=(x+B * R)+N * (B * q):=by
  have h2:B * (N * q)=N * (B * q):=Nat.mul_left_comm _ _ _
  simp only [Nat.mul_add]
  omega
 have e3:N * q+R+B * V'=R+N * (q+M * V'):=by
  have h1:B * V'=N * (M * V'):=by
   conv=>lhs;rw [hB]
   rw [Nat.mul_assoc]
  simp only [Nat.mul_add]
  omega
 rw [e1,e2,e3,Nat.add_mul_div_left _ _ hp,Nat.add_mul_div_left _ _ hp,Nat.add_mul_div_left _ _ hp,Nat.div_eq_of_lt hR]
 have hlt:(x+B * R) / N<B:=by
  apply Nat.div_lt_of_lt_mul
  have:B * (R+1)≤B * N:=Nat.mul_le_mul_left _ hR
  rw [Nat.mul_comm N]
  rw [Nat.mul_add] at this
  omega
 rw [Nat.add_mul_mod_self_left,Nat.mod_eq_of_lt hlt,Nat.zero_add,Nat.mul_add]
def srL (s:Nat):List Nat→List Nat
 | []=>[]
 | x::r=>(x+4294967296 * r.headD 0) / 2 ^ s % 4294967296::srL s r
theorem val_srL (s:Nat) (hs:s<32):∀ xs,Lim xs→val (srL s xs)=val xs / 2 ^ s:=by
 intro xs
 induction xs with
 | nil=>intro _;simp [srL,val]
 | cons x r ih =>
  intro h
  obtain ⟨h1,h2⟩:=Lim.cons.1 h
  simp only [srL,val,ih h2]
  cases r with
  | nil =>
   simp only [List.headD_nil,val,Nat.mul_zero,Nat.add_zero,Nat.zero_div]
   have hle:x / 2 ^ s≤x:=Nat.div_le_self _ _
   exact Nat.mod_eq_of_lt (by omega)
  | cons y t =>
   simp only [List.headD_cons,val]
   exact (sr_step x y (val t) s hs h1).symm
theorem srL_length (s:Nat) (xs:List Nat):(srL s xs).length=xs.length:=by
 induction xs with
 | nil=>rfl
 | cons x r ih=>simp [srL,ih]
theorem lim_srL (s:Nat) (xs:List Nat):Lim (srL s xs):=by
 induction xs with
 | nil=>exact Lim.nil
 | cons x r ih=>exact Lim.cons.2 ⟨Nat.mod_lt _ (by decide),ih⟩
theorem srL_get (s:Nat):∀ (xs:List Nat) (i x:Nat),xs[i]?=some x→(srL s xs)[i]?=some ((x+4294967296 * xs.getD (i+1) 0) / 2 ^ s % 4294967296):=by
 intro xs
 induction xs with
 | nil=>intro i x h;simp at h
 | cons a r ih =>
  intro i x h
  cases i with
  | zero =>
   simp only [List.getElem?_cons_zero,Option.some.injEq] at h
   subst h
   cases r <;> simp [srL]
  | succ i =>
   have:=ih i x (by simpa using h)
   simpa [srL] using this
theorem Out.none0 {P:Program} {fn:Func} {n:Nat} {E:List (Nat×Value)} {w:World} {Φ:Value→World→Prop} (hr:fn.results=#[]) (h:Φ (.tuple #[]) w):Out n E w .normal (bodyPost P fn (Ret Φ)):=fun _ ha =>
 bodyPost_end (results_none hr _ P w) ha.defers ⟨_,rfl,h⟩
set_option maxHeartbeats 400000 in
theorem shiftRight_spec (w:World) (b off cap s:Nat) (A D:List Value) (xs:List Nat) (hb:Blk 139 w b (A++(xs.map u32++D))) (hA:A.length=off) (hlim:Lim xs) (hlen:xs.length≤1000000000) (hs:s<32) :
  Calls Tryz.prog 166 #[.slice (some ⟨b,off,none⟩) xs.length cap,.int .i64 s] w
   (Ret fun _ w'=>Upd b w w'∧Blk 139 w' b (A++((srL s xs).map u32++D))):=by
 have hp:(0:Nat)<2 ^ s:=Nat.pow_pos (by decide)
 refine calls_of_St (args:=[_,_]) Tryz.func166 rfl Tryz.ntmps166 rfl ?_
 (iterate 6 refine Nv ?_;try refine .r rfl ?_)
 refine St.loop (fun i:Nat=>[(0,.slice (some ⟨b,off,none⟩) xs.length cap),(1,.int .i64 s),(7,.int .i64 xs.length),(8,.int .i64 i)])
  (fun i w2=>Upd b w w2∧i≤xs.length∧Blk 139 w2 b (A++(((srL s xs).take i++xs.drop i).map u32++D)))
  (fun i=>xs.length - i) 0 ⟨rfl,rfl,rfl,rfl,trivial⟩ ⟨Upd.refl _ _,by omega,by simpa using hb⟩ ?_
 rintro i w2 ⟨hu2,hi,hb2⟩
 have hl1:((srL s xs).take i).length=i:=by simp [srL_length];omega
 by_cases hlt:i<xs.length
 ·have hxi:xs[i]?=some xs[i]:=by simp
  generalize xs[i]=x at hxi
  have hxl:=hlim.get hxi
  have hci:((srL s xs).take i++xs.drop i)[i]?=some x:=by
   rw [List.getElem?_append_right (by omega),hl1]
   simpa using hxi
  have hyl:=lim_getD hlim (i+1)
  refine Nv ?_
  refine .a 1 (.bool true) rfl (bool_true (by omega)) ?_
  refine Nv ?_
  refine .cT ?_
  refine Nv ?_
  refine .r rfl ?_
  refine Nv ?_
  refine .r rfl ?_
  refine StL.elemB TBok i (u32 x) hb2 (seg_get hA hci) rfl (by omega) rfl rfl rfl rfl rfl rfl rfl rfl rfl rfl (fun _=>rfl) ?_
  intro p1
  refine .r rfl ?_
  (refine StL.nil ?_;repeat with_reducible first | refine Out.then_normal ?_ | refine Out.block_normal ?_)
  refine St.cut (fun _:Unit=>[(0,.slice (some ⟨b,off,none⟩) xs.length cap),(1,.int .i64 s),(4,.int .i64 i),(5,.int .u64 ((x+4294967296 * xs.getD (i+1) 0:Nat):Int)),(7,.int .i64 xs.length),(8,.int .i64 i)]) (fun _ w3=>w3=w2) ?_ ?_
  ·refine Nv ?_
   have e1:IntKind.i64.wrap ((i:Int)+1)=((i+1:Nat):Int):=by rw [i64_id (by omega) (by omega)];rfl
   by_cases hlt2:i+1<xs.length
   ·have hyi:xs[i+1]?=some xs[i+1]:=by simp
    generalize xs[i+1]=y at hyi
    have hyD:xs.getD (i+1) 0=y:=by simp [List.getD_eq_getElem?_getD,hyi]
    have hci2:((srL s xs).take i++xs.drop i)[i+1]?=some y:=by
     rw [List.getElem?_append_right (by omega),hl1]
     simpa using hyi
    rw [hyD] at hyl ⊢
    refine .a 5 (.bool true) rfl (bool_true (by rw [e1];omega)) ?_
    refine Nv ?_
    refine .cT ?_
    refine Nv ?_
    refine .r rfl ?_
    refine StL.elemB TBok (i+1) (u32 y) hb2 (seg_get hA hci2) e1 (by omega) rfl rfl rfl rfl rfl rfl rfl rfl rfl rfl (fun _=>rfl) ?_
    intro p2
    refine .r rfl ?_
    refine StL.nil (Out.met () ⟨rfl,rfl,rfl,?_,rfl,rfl,trivial⟩ rfl)
    show some (Value.int .u64 (bitsI .or .u64 (IntKind.u64.wrap (x:Int)) (IntKind.u64.wrap (IntKind.u64.wrap (y:Int) * 2 ^ 32))))=_
    rw [u64_id (n:=(y:Int)) (by omega) (by omega),show (y:Int) * 2 ^ 32=((y * 4294967296:Nat):Int) from by rw [Int.natCast_mul];rfl,u64_id (n:=((y * 4294967296:Nat):Int)) (by omega) (by omega),u64_id (n:=(x:Int)) (by omega) (by omega),or_u64 _ _ (by omega) (by omega),or_low32 _ _ hxl,Nat.mul_comm y]
   ·have hyD:xs.getD (i+1) 0=0:=by rw [List.getD_eq_getElem?_getD,List.getElem?_eq_none (by omega)];rfl
    rw [hyD]
    refine .a 5 (.bool false) rfl (bool_false (by rw [e1];omega)) ?_
    refine Nv ?_
    refine .cF ?_
    refine St.skip (Out.met () ⟨rfl,rfl,rfl,?_,rfl,rfl,trivial⟩ rfl)
    show some (Value.int .u64 (IntKind.u64.wrap (x:Int)))=_
    rw [u64_id (by omega) (by omega)]
    simp
  rintro _ w3 rfl
  generalize hy:xs.getD (i+1) 0=y at *
  (iterate 6 refine Nv ?_;try refine .r rfl ?_)
  refine .p (RunsTo.shr s rfl rfl rfl (by show s≤64;omega)) ?_
  have e3:((x+4294967296 * y:Nat):Int) / 2 ^ s=(((x+4294967296 * y) / 2 ^ s:Nat):Int):=by simp
  rw [e3]
  have hle:(x+4294967296 * y) / 2 ^ s≤x+4294967296 * y:=Nat.div_le_self _ _
  generalize hq:(x+4294967296 * y) / 2 ^ s=q at hle
  refine .a 1 (u32 (q % 4294967296)) rfl (by rw [wrap_u32];simp) ?_
  refine StL.put TBok i hb2 rfl (by omega) (by simp [srL_length];omega) rfl rfl rfl rfl rfl rfl rfl rfl (fun _=>rfl) (fun _=>rfl) rfl rfl ?_
  intro p3 w4 hb3 hu3
  rw [seg_set hA (by simp [srL_length];omega)] at hb3
  (iterate 6 refine Nv ?_;try refine .r rfl ?_)
  refine Out.again (i+1) ⟨rfl,rfl,rfl,?_,trivial⟩ ⟨hu2.trans hu3,by omega,?_⟩ (by omega)
  ·show some (Value.int .i64 (IntKind.i64.wrap ((i:Int)+1)))=_
   rw [i64_id (by omega) (by omega)]
   rfl
  ·have hg:=srL_get s xs i x hxi
   rw [hy,hq] at hg
   have hl2:i<(srL s xs).length:=by rw [srL_length];exact hlt
   have e4:((srL s xs).take i++xs.drop i).set i (q % 4294967296)=(srL s xs).take (i+1)++xs.drop (i+1):=by
    rw [List.set_append_right _ _ (by omega),hl1,Nat.sub_self,List.drop_eq_getElem_cons hlt,List.set_cons_zero,List.take_succ_eq_append_getElem hl2]
    rw [List.getElem?_eq_getElem hl2] at hg
    rw [Option.some.inj hg]
    simp
   rw [← e4]
   exact hb3
 obtain rfl:i=xs.length:=by omega
 refine Nv ?_
 refine .a 1 (.bool false) rfl (bool_false (by omega)) ?_
 refine Nv ?_
 refine .cF ?_
 refine Nv ?_
 refine Out.none0 rfl ⟨hu2,?_⟩
 rw [List.drop_length,List.append_nil,List.take_of_length_le (by rw [srL_length];exact Nat.le_refl _)] at hb2
 exact hb2
end Go.Qf
namespace Go.Qf
theorem mul3 (g v R:Nat):g * (4294967296 * (v * R))=4294967296 * (g * v * R):=by
 rw [Nat.mul_left_comm,Nat.mul_assoc]
theorem guess_first {U V R v1 v2 vr u2 ur g r high:Nat} (hV:V=4294967296 * (v1 * R)+v2 * R+vr) (hU:U=4294967296 * (high * R)+u2 * R+ur) (hur:ur<R) (hu2:u2<4294967296) (hh:high=g * v1+r) (hr:r<v1):U<(g+1) * V:=by
 have h1:g * V=4294967296 * (g * v1 * R)+g * v2 * R+g * vr:=by
  rw [hV];simp only [Nat.mul_add,mul3,Nat.mul_assoc]
 have h2:high * R=g * v1 * R+r * R:=by rw [hh,Nat.add_mul]
 have h3:(r+1) * R≤v1 * R:=Nat.mul_le_mul_right _ hr
 have h4:(u2+1) * R≤4294967296 * R:=Nat.mul_le_mul_right _ hu2
 rw [Nat.add_mul,Nat.one_mul,h1]
 rw [Nat.add_mul,Nat.one_mul] at h3 h4
 omega
theorem guess_less {U V R v1 v2 vr u2 ur g r high:Nat} (hV:V=4294967296 * (v1 * R)+v2 * R+vr) (hU:U=4294967296 * (high * R)+u2 * R+ur) (hur:ur<R) (hh:high=g * v1+r) (ht:r * 4294967296+u2<g * v2):U<g * V:=by
 have h1:g * V=4294967296 * (g * v1 * R)+g * v2 * R+g * vr:=by
  rw [hV];simp only [Nat.mul_add,mul3,Nat.mul_assoc]
 have h2:high * R=g * v1 * R+r * R:=by rw [hh,Nat.add_mul]
 have h3:(r * 4294967296+u2+1) * R≤g * v2 * R:=Nat.mul_le_mul_right _ ht
 have h4:(r * 4294967296+u2+1) * R=4294967296 * (r * R)+u2 * R+R:=by
  rw [Nat.add_mul,Nat.add_mul,Nat.one_mul,Nat.mul_comm r,Nat.mul_assoc]
 omega
theorem guess_near {U V R v1 v2 vr u2 ur g r high:Nat} (hV:V=4294967296 * (v1 * R)+v2 * R+vr) (hU:U=4294967296 * (high * R)+u2 * R+ur) (hvr:vr<R) (hv1:0<v1) (hg:g<4294967296) (hh:high=g * v1+r) (ht:g * v2≤r * 4294967296+u2):g * V<U+V:=by
 have h1:g * V=4294967296 * (g * v1 * R)+g * v2 * R+g * vr:=by
  rw [hV];simp only [Nat.mul_add,mul3,Nat.mul_assoc]
 have h2:high * R=g * v1 * R+r * R:=by rw [hh,Nat.add_mul]
 have h3:g * v2 * R≤(r * 4294967296+u2) * R:=Nat.mul_le_mul_right _ ht
 have h4:(r * 4294967296+u2) * R=4294967296 * (r * R)+u2 * R:=by
  rw [Nat.add_mul,Nat.mul_comm r,Nat.mul_assoc]
 have h5:g * vr≤4294967295 * vr:=Nat.mul_le_mul_right _ (by omega)
 have h6:1 * R≤v1 * R:=Nat.mul_le_mul_right _ hv1
 omega
theorem mod_eq_of {U V g m:Nat} (h1:U=g * V+m) (h2:m<V):U / V=g∧U % V=m:=by
 subst h1
 constructor
 ·rw [Nat.mul_comm,Nat.mul_add_div (by omega),Nat.div_eq_of_lt h2,Nat.add_zero]
 ·rw [Nat.mul_comm,Nat.mul_add_mod,Nat.mod_eq_of_lt h2]
theorem mulsub_step (S Ui Vi D G c b x y v lo c' b':Nat) (h:S+G * Vi=Ui+(c+b) * D) (hT:c+G * y=lo+c' * 4294967296) (hv:x+b' * 4294967296=v+lo+b) :
  (S+v * D)+G * (Vi+y * D)=(Ui+x * D)+(c'+b') * (D * 4294967296):=by
 have h1:=congrArg (· * D) hT
 have h2:=congrArg (· * D) hv
 simp only [Nat.add_mul] at h1 h2 h
 have e1:c' * 4294967296 * D=c' * (D * 4294967296):=by rw [Nat.mul_assoc,Nat.mul_comm 4294967296]
 have e2:b' * 4294967296 * D=b' * (D * 4294967296):=by rw [Nat.mul_assoc,Nat.mul_comm 4294967296]
 have e3:G * (Vi+y * D)=G * Vi+G * y * D:=by rw [Nat.mul_add,Nat.mul_assoc]
 rw [e3,Nat.add_mul]
 omega
theorem addback {U V g S Un u0 W c M:Nat} (heq:S+g * V=Un+c * W) (hU:U=Un+u0 * W) (hM:M=S+(u0+4294967296 - c) * W) (hneg:u0<c) (hc:c≤u0+4294967296) (hgn:g * V<U+V) (hS:S<W) :
  0<g∧(g - 1) * V≤U∧U - (g - 1) * V<V∧M+V=(U - (g - 1) * V)+4294967296 * W:=by
 have h1:(u0+4294967296 - c) * W=u0 * W+4294967296 * W - c * W:=by rw [Nat.sub_mul,Nat.add_mul]
 have h2:(u0+1) * W≤c * W:=Nat.mul_le_mul_right _ hneg
 have h3:c * W≤(u0+4294967296) * W:=Nat.mul_le_mul_right _ hc
 rw [Nat.add_mul] at h2 h3
 rw [Nat.one_mul] at h2
 rw [h1] at hM
 generalize c * W=K at *
 generalize u0 * W=K0 at *
 have hgpos:0<g:=by
  rcases Nat.eq_zero_or_pos g with h | h
  ·subst h;simp at heq;omega
  ·exact h
 obtain ⟨k,rfl⟩:∃ k,g=k+1:=⟨g - 1,by omega⟩
 rw [Nat.add_mul,Nat.one_mul] at heq hgn
 simp only [Nat.add_sub_cancel]
 generalize k * V=kV at *
 omega
end Go.Qf
namespace Go.Qf
open Go Go.RowKit Go.Proofs
set_option maxRecDepth 20000
set_option maxHeartbeats 400000 in
theorem shiftLeft_spec (w:World) (v:Value) (s:Nat) (xs:List Nat) (h:Sl w v xs) (hlen:xs.length≤100000000) (hs:s<32) :
  Calls Tryz.prog 168 #[v,.int .i64 s] w
   (Ret fun r w'=>Ext w w'∧r=.slice (some ⟨w.heap.size,0,none⟩) (xs.length+1) (xs.length+1)∧∃ us,us.length=xs.length+1∧Lim us∧val us=val xs * 2 ^ s∧Blk 139 w' w.heap.size (us.map u32)):=by
 have hp:(0:Nat)<2 ^ s:=Nat.pow_pos (by decide)
 have hp2:(2:Nat) ^ s≤2147483648:=Nat.pow_le_pow_right (by decide) (show s≤31 by omega)
 obtain ⟨p,cap,rfl,_⟩:=h.form
 refine calls_of_St (args:=[_,_]) Tryz.func168 rfl Tryz.ntmps168 rfl ?_
 (iterate 6 refine Nv ?_;try refine .r rfl ?_)
 refine .s (OpR.make TBok (xs.length+1) rfl rfl rfl rfl rfl (by rw [i64_id (by omega) (by omega)];omega) rfl (by rw [i64_id (by omega) (by omega)];omega) (by simp;omega) (by omega)) ?_
 rintro _ w1 ⟨rfl,hb1,hx1,_⟩
 (iterate 6 refine Nv ?_;try refine .r rfl ?_)
 refine St.loop (fun g:Nat×Nat×List Nat=>[(0,.slice p xs.length cap),(1,.int .i64 s),(5,.slice (some ⟨w.heap.size,0,none⟩) (xs.length+1) (xs.length+1)),(6,.int .u64 g.2.1),(13,.slice p xs.length cap),(14,.int .i64 xs.length),(15,.int .i64 g.1)])
  (fun g w2=>Ext w w2∧Blk 139 w2 w.heap.size (g.2.2.map u32)∧g.2.2.length=xs.length+1∧Lim g.2.2∧g.2.1<2 ^ s∧g.1≤xs.length∧val (g.2.2.take g.1)+g.2.1 * 4294967296 ^ g.1=val (xs.take g.1) * 2 ^ s)
  (fun g=>xs.length - g.1) (0,0,List.replicate (xs.length+1) 0) ⟨rfl,rfl,rfl,rfl,rfl,rfl,rfl,trivial⟩ ⟨hx1,by rw [List.map_replicate];exact hb1,by simp,lim_replicate _,hp,by simp,by simp [val]⟩ ?_
 rintro ⟨j,cy,us⟩ w2 ⟨hx2,hb2,hul,hulim,hcy,hj,heq⟩
 simp only at hb2 hul hulim hcy hj heq
 dsimp only
 have hA:=h.ext hx2
 by_cases hlt:j<xs.length
 ·have hxi:xs[j]?=some xs[j]:=by simp
  generalize xs[j]=x at hxi
  have hxl:=h.2.get hxi
  have hxs:x * 2 ^ s≤4294967295 * 2147483648:=Nat.mul_le_mul (by omega) hp2
  refine Nv ?_
  refine .a 1 (.bool true) rfl (bool_true (by omega)) ?_
  refine Nv ?_
  refine .cT ?_
  (iterate 6 refine Nv ?_;try refine .r rfl ?_)
  refine StL.elem TBok j (u32 x) hA.1 (hA.get hxi) rfl rfl rfl rfl rfl rfl rfl rfl rfl rfl rfl (fun _=>rfl) ?_
  intro p1
  (iterate 6 refine Nv ?_;try refine .r rfl ?_)
  refine .p (RunsTo.shl s rfl rfl rfl (by show s≤64;omega)) ?_
  have e1:IntKind.u64.wrap (IntKind.u64.wrap (x:Int) * 2 ^ s)=((x * 2 ^ s:Nat):Int):=by
   rw [u64_id (n:=(x:Int)) (by omega) (by omega),show (x:Int) * 2 ^ s=((x * 2 ^ s:Nat):Int) from by simp]
   generalize x * 2 ^ s=t at hxs
   exact u64_id (by omega) (by omega)
  rw [e1]
  refine .a 1 (.int .u64 ((cy+x * 2 ^ s:Nat):Int)) rfl ?_ ?_
  ·have hor:=or_low cy x s hcy
   generalize x * 2 ^ s=t at hxs hor
   rw [or_u64 _ _ (by omega) (by omega),hor]
  have hmul:x * 2 ^ s * 4294967296 ^ j=x * 4294967296 ^ j * 2 ^ s:=Nat.mul_right_comm _ _ _
  have hdb:cy+x * 2 ^ s<4294967296 * 2 ^ s:=by
   have:(x+1) * 2 ^ s≤4294967296 * 2 ^ s:=Nat.mul_le_mul_right _ hxl
   rw [Nat.add_mul,Nat.one_mul] at this
   omega
  have hstep:=step_add (val (us.take j)) (val (xs.take j) * 2 ^ s) 0 (4294967296 ^ j) cy (x * 2 ^ s) 0 ((cy+x * 2 ^ s) % 4294967296) ((cy+x * 2 ^ s) / 4294967296) (by omega) (by omega)
  generalize ht:cy+x * 2 ^ s=t at *
  have htb:t<18446744073709551616:=by omega
  (iterate 6 refine Nv ?_;try refine .r rfl ?_)
  have e2:IntKind.u32.wrap (t:Int)=((t % 4294967296:Nat):Int):=by rw [wrap_u32];omega
  refine StL.put TBok j hb2 rfl (by omega) (by simp;omega) rfl rfl rfl rfl rfl rfl rfl rfl (fun _=>rfl) (fun _=>rfl) rfl rfl ?_
  intro p3 w3 hb3 hu3
  rw [e2,Nat.zero_add,map_set_u32] at hb3
  (iterate 6 refine Nv ?_;try refine .r rfl ?_)
  refine Out.again (j+1,t / 4294967296,us.set j (t % 4294967296)) ⟨rfl,rfl,rfl,?_,rfl,rfl,?_,trivial⟩ ⟨hx2.then_upd hu3 (Nat.le_refl _),hb3,by simpa using hul,hulim.set _ (by omega),Nat.div_lt_of_lt_mul hdb,by simp only;omega,?_⟩ (by simp only;omega)
  ·show some (Value.int .u64 ((t:Int) / 2 ^ 32))=some (Value.int .u64 ((t / 4294967296:Nat):Int))
   rw [show (t:Int) / 2 ^ 32=((t / 4294967296:Nat):Int) from by omega]
  ·show some (Value.int .i64 (IntKind.i64.wrap ((j:Int)+1)))=_
   rw [i64_id (by omega) (by omega)]
   rfl
  ·simp only
   rw [val_take_set (by omega),val_take_succ hxi,Nat.pow_succ,Nat.add_mul,← hmul]
   simpa using hstep
 obtain rfl:j=xs.length:=by omega
 rw [List.take_length] at heq
 refine Nv ?_
 refine .a 1 (.bool false) rfl (bool_false (by omega)) ?_
 refine Nv ?_
 refine .cF ?_
 (iterate 6 refine Nv ?_;try refine .r rfl ?_)
 have e2:IntKind.u32.wrap (cy:Int)=(cy:Int):=u32_id (by omega) (by omega)
 refine StL.put TBok xs.length hb2 rfl (by omega) (by simp;omega) rfl rfl rfl rfl rfl rfl rfl rfl (fun _=>rfl) (fun _=>rfl) rfl rfl ?_
 intro p4 w3 hb3 hu3
 rw [e2,Nat.zero_add,map_set_u32] at hb3
 (iterate 6 refine Nv ?_;try refine .r rfl ?_)
 refine Out.ret1 rfl rfl ⟨hx2.then_upd hu3 (Nat.le_refl _),rfl,us.set xs.length cy,by simpa using hul,hulim.set _ (by omega),?_,hb3⟩
 have:=val_take_set (us:=us) (k:=xs.length) (by omega) cy
 rw [List.take_of_length_le (by simp;omega)] at this
 omega
theorem RunsTo.indexStr {P:Program} {T:List (Nat×TI)} {n:Nat} {E:List (Nat×Value)} {w:World} (hT:TblOk P T) {d:Option Tmp} {t:TypeId} {x i:Operand} {ty:TypeId} {pos:String} {af:Array Edge} {g:Option (Nat×Bool)} {s1 s2:Nat} {z:Value} {s:ByteArray} {k:IntKind} {iv:Int} (j:Nat) (c:UInt8)
  (ht:lookT T t=some ⟨.string,s1,s2,z⟩) (hx:ov E x=some (.string s)) (hi:ov E i=some (.int k iv)) (hj:iv=j) (hc:s[j]?=some c) :
  RunsTo P n ⟨d,.index t x i,ty,pos,af,g⟩ E w (.int .u8 c.toNat):=by
 intro a ha
 have e1:=ha.eval hx
 have e2:=ha.eval hi
 generalize a.eval=ρ at e1 e2
 subst hj
 have h0:(0:Int)≤(j:Int):=by omega
 simp only [execOp,Instr.index,e1,e2,asIntOf,Sem.run_bind,Sem.run_pure,Result.andThen_ok,run_underlying_T hT ht]
 simp only [if_pos h0,Int.toNat_natCast,hc,Sem.run_pure,Result.andThen_ok]
theorem RunsTo.indexTab {P:Program} {T:List (Nat×TI)} {n:Nat} {E:List (Nat×Value)} {w:World} (hT:TblOk P T) {d:Option Tmp} {t:TypeId} {x i:Operand} {ty:TypeId} {pos:String} {af:Array Edge} {g:Option (Nat×Bool)} {s1 s2:Nat} {z:Value} {s:ByteArray} {k:IntKind} {iv:Int} (j:Nat) (f:Nat→UInt8)
  (ht:lookT T t=some ⟨.string,s1,s2,z⟩) (hx:ov E x=some (.string s)) (hi:ov E i=some (.int k iv)) (hj:iv=j) (hj2:j<256) (htab:∀ i:Fin 256,s[i.1]?=some (f i.1)) :
  RunsTo P n ⟨d,.index t x i,ty,pos,af,g⟩ E w (.int .u8 (f j).toNat) :=
 RunsTo.indexStr hT j (f j) ht hx hi hj (htab ⟨j,hj2⟩)
def len8 (y:Nat):Nat:=if y=0 then 0 else Nat.log2 y+1
theorem len8_spec:∀ i:Fin 256,i.1≠0→2 ^ (len8 i.1 - 1)≤i.1∧i.1<2 ^ len8 i.1∧1≤len8 i.1∧len8 i.1≤8:=by decide +kernel
theorem lz_bounds {x y n l:Nat} (hn:n+l≤32) (hl:1≤l) (h1:y * 2 ^ n≤x) (h2:x<(y+1) * 2 ^ n) (h3:2 ^ (l - 1)≤y) (h4:y<2 ^ l):2147483648≤x * 2 ^ (32 - (n+l))∧x * 2 ^ (32 - (n+l))<4294967296:=by
 have e1:(2:Nat) ^ (l - 1) * 2 ^ n * 2 ^ (32 - (n+l))=2147483648:=by
  rw [← Nat.pow_add,← Nat.pow_add,show l - 1+n+(32 - (n+l))=31 from by omega]
 have e2:(2:Nat) ^ l * 2 ^ n * 2 ^ (32 - (n+l))=4294967296:=by
  rw [← Nat.pow_add,← Nat.pow_add,show l+n+(32 - (n+l))=32 from by omega]
 constructor
 ·rw [← e1]
  exact Nat.mul_le_mul_right _ (Nat.le_trans (Nat.mul_le_mul_right _ h3) h1)
 ·rw [← e2]
  refine Nat.mul_lt_mul_of_pos_right (Nat.lt_of_lt_of_le h2 (Nat.mul_le_mul_right _ h4)) (Nat.pow_pos (by decide))
set_option maxHeartbeats 400000 in
theorem len32_spec (w:World) (x:Nat) (hx0:x≠0) (hx:x<4294967296) :
  Calls Tryz.prog 177 #[.int .u32 x] w (Ret fun r w'=>w'=w∧∃ L:Nat,r=.int .i64 L∧1≤L∧L≤32∧2147483648≤x * 2 ^ (32 - L)∧x * 2 ^ (32 - L)<4294967296):=by
 refine calls_of_St (args:=[_]) Tryz.func177 rfl Tryz.ntmps177 rfl ?_
 refine St.seq (St.region (StL.run TBok 99 rfl (StL.nil (Out.then_normal ?_))))
 refine St.cut (fun g:Nat×Nat=>[(0,.int .u32 g.2),(2,.int .i64 g.1)]) (fun g w'=>w'=w∧(g.1=0∨g.1=16)∧g.2<65536∧g.2≠0∧g.2 * 2 ^ g.1≤x∧x<(g.2+1) * 2 ^ g.1) ?_ ?_
 ·(iterate 6 refine Nv ?_;try refine .r rfl ?_)
  by_cases h1:x<65536
  ·refine St.condF rfl (by simp;omega) ?_
   exact St.skip (Out.met (0,x) ⟨rfl,rfl,trivial⟩ ⟨rfl,.inl rfl,h1,hx0,by simp,by simp⟩)
  ·refine St.condT rfl (by simp;omega) ?_
   refine Nv ?_
   refine .r rfl ?_
   refine Nv ?_
   refine .r rfl ?_
   refine StL.nil (Out.met (16,x / 65536) ⟨?_,rfl,trivial⟩ ⟨rfl,.inr rfl,by simp only;omega,by simp only;omega,by simp only;omega,by simp only;omega⟩)
   show some (Value.int .u32 ((x:Int) / 2 ^ 16))=_
   rw [show (x:Int) / 2 ^ 16=((x / 65536:Nat):Int) from by omega]
 rintro ⟨m,y⟩ w1 ⟨rfl,hm,hy,hy0,hb1,hb2⟩
 simp only at hm hy hy0 hb1 hb2
 dsimp only
 refine St.cut (fun g:Nat×Nat=>[(0,.int .u32 g.2),(2,.int .i64 g.1)]) (fun g w'=>w'=w1∧g.1≤24∧g.2<256∧g.2≠0∧g.2 * 2 ^ g.1≤x∧x<(g.2+1) * 2 ^ g.1) ?_ ?_
 ·(iterate 6 refine Nv ?_;try refine .r rfl ?_)
  by_cases h1:y<256
  ·refine St.condF rfl (by simp;omega) ?_
   exact St.skip (Out.met (m,y) ⟨rfl,rfl,trivial⟩ ⟨rfl,by simp only;omega,h1,hy0,hb1,hb2⟩)
  ·refine St.condT rfl (by simp;omega) ?_
   refine Nv ?_
   refine .r rfl ?_
   refine Nv ?_
   refine .r rfl ?_
   refine StL.nil (Out.met (m+8,y / 256) ⟨?_,?_,trivial⟩ ⟨rfl,by simp only;omega,by simp only;omega,by simp only;omega,?_,?_⟩)
   ·show some (Value.int .u32 ((y:Int) / 2 ^ 8))=_
    rw [show (y:Int) / 2 ^ 8=((y / 256:Nat):Int) from by omega]
   ·show some (Value.int .i64 (IntKind.i64.wrap ((m:Int)+8)))=_
    rw [i64_id (by omega) (by omega)]
    rfl
   ·simp only
    rw [Nat.pow_add,Nat.mul_comm (2 ^ m),← Nat.mul_assoc]
    exact Nat.le_trans (Nat.mul_le_mul_right _ (by omega)) hb1
   ·simp only
    rw [Nat.pow_add,Nat.mul_comm (2 ^ m),← Nat.mul_assoc]
    exact Nat.lt_of_lt_of_le hb2 (Nat.mul_le_mul_right _ (by omega))
 rintro ⟨m',y'⟩ w' ⟨rfl,hm',hy',hy0',hb1',hb2'⟩
 simp only at hm' hy' hy0' hb1' hb2'
 dsimp only
 obtain ⟨q1,q2,q3,q4⟩:=len8_spec ⟨y',hy'⟩ hy0'
 simp only at q1 q2 q3 q4
 (iterate 6 refine Nv ?_;try refine .r rfl ?_)
 refine .s (RunsTo.indexTab TBok y' (fun i=>UInt8.ofNat (len8 i)) rfl rfl rfl ?_ hy' (by decide +kernel)).op ?_
 ·show IntKind.u8.wrap (y':Int)=_
  rw [wrap_u8];omega
 rintro _ _ ⟨rfl,rfl⟩
 have e8:((UInt8.ofNat (len8 y')).toNat:Nat)=len8 y':=by
  rw [UInt8.toNat_ofNat']
  exact Nat.mod_eq_of_lt (by omega)
 rw [e8]
 generalize len8 y'=l at *
 obtain ⟨z1,z2⟩:=lz_bounds (n:=m') (l:=l) (by omega) q3 hb1' hb2' q1 q2
 (iterate 6 refine Nv ?_;try refine .r rfl ?_)
 refine Out.ret1 rfl rfl ⟨rfl,m'+l,?_,by omega,by omega,z1,z2⟩
 rw [i64_id (n:=(l:Int)) (by omega) (by omega),i64_id (by omega) (by omega)]
 rfl
theorem lz32_spec (w:World) (x:Nat) (hx0:x≠0) (hx:x<4294967296) :
  Calls Tryz.prog 165 #[.int .u32 x] w (Ret fun r w'=>w'=w∧∃ s:Nat,r=.int .i64 s∧s<32∧2147483648≤x * 2 ^ s∧x * 2 ^ s<4294967296):=by
 refine calls_of_St (args:=[_]) Tryz.func165 rfl Tryz.ntmps165 rfl ?_
 (iterate 6 refine Nv ?_;try refine .r rfl ?_)
 refine .s (OpR.call fn_math_bits_Len32 rfl (len32_spec w x hx0 hx)) ?_
 rintro r w1 ⟨rfl,L,rfl,h1,h2,h3,h4⟩
 (iterate 6 refine Nv ?_;try refine .r rfl ?_)
 refine Out.ret1 rfl rfl ⟨rfl,32 - L,?_,by omega,h3,h4⟩
 rw [i64_id (by omega) (by omega)]
 rw [show (32:Int) - (L:Int)=((32 - L:Nat):Int) from by omega]
theorem Sl.upd {w w':World} {v:Value} {xs:List Nat} (h:Sl w v xs) {b:Nat} (hx:Upd b w w') (ha:Apart b v):Sl w' v xs:=⟨h.1.upd hx ha,h.2⟩
theorem Upd.drewN {b:Nat} {w w':World} (h:Upd b w w') (m:Nat):Upd b w (w'.drewN m):=⟨h.os,h.tape,h.output,h.size,h.block⟩
theorem val_top2 {vs:List Nat} {m v1 v2:Nat} (h1:vs[m+1]?=some v1) (h2:vs[m]?=some v2) (hl:vs.length=m+2):val vs=4294967296 * (v1 * 4294967296 ^ m)+v2 * 4294967296 ^ m+val (vs.take m):=by
 have a1:=val_take_succ h1
 have a2:=val_take_succ h2
 rw [List.take_of_length_le (by omega)] at a1
 rw [a1,a2,Nat.pow_succ]
 have:v1 * (4294967296 ^ m * 4294967296)=4294967296 * (v1 * 4294967296 ^ m):=by rw [← Nat.mul_assoc,Nat.mul_comm]
 omega
theorem val_top3 {us:List Nat} {m u0 u1 u2:Nat} (h0:us[m+2]?=some u0) (h1:us[m+1]?=some u1) (h2:us[m]?=some u2) (hl:us.length=m+3):val us=4294967296 * ((u0 * 4294967296+u1) * 4294967296 ^ m)+u2 * 4294967296 ^ m+val (us.take m):=by
 have a0:=val_take_succ h0
 have a1:=val_take_succ h1
 have a2:=val_take_succ h2
 rw [List.take_of_length_le (by omega)] at a0
 have p2:(4294967296:Nat) ^ (m+2)=4294967296 ^ m * 4294967296 * 4294967296:=by rw [Nat.pow_succ,Nat.pow_succ]
 rw [a0,a1,a2,p2,Nat.pow_succ,Nat.add_mul,Nat.mul_add]
 have e1:u1 * (4294967296 ^ m * 4294967296)=4294967296 * (u1 * 4294967296 ^ m):=by rw [← Nat.mul_assoc,Nat.mul_comm]
 have e0:u0 * (4294967296 ^ m * 4294967296 * 4294967296)=4294967296 * (u0 * 4294967296 * 4294967296 ^ m):=by
  rw [← Nat.mul_assoc,Nat.mul_comm _ 4294967296,Nat.mul_assoc u0,Nat.mul_comm 4294967296 (4294967296 ^ m)]
 omega
structure Guess (U V v1 v2 u2 high g r:Nat):Prop where
 high:high=g * v1+r
 enough:U<(g+1) * V
 le:g≤4294967297
 r:r<4294967296
set_option maxHeartbeats 4000000 in
theorem divideStep_spec (w:World) (b off cap m:Nat) (A D:List Value) (us vs:List Nat) (vv:Value) (v1:Nat) (hb:Blk 139 w b (A++(us.map u32++D))) (hA:A.length=off) (hu:Lim us) (hv:Sl w vv vs) (hap:Apart b vv)
  (hvl:vs.length=m+2) (hul:us.length=m+3) (hlen:m≤100000000) (htop:vs[m+1]?=some v1) (hv1:2147483648≤v1) (hlt:val us<val vs * 4294967296) :
  Calls Tryz.prog 169 #[.slice (some ⟨b,off,none⟩) (m+3) cap,vv] w
   (Ret fun r w'=>r=.int .u32 ((val us / val vs:Nat):Int)∧Upd b w w'∧∃ us',us'.length=m+3∧Lim us'∧val us'=val us % val vs∧Blk 139 w' b (A++(us'.map u32++D))):=by
 obtain ⟨q,d,rfl,_⟩:=hv.form
 rw [hvl] at hv hap
 rw [hvl]
 have hv1l:=hv.2.get htop
 have hv2:vs[m]?=some vs[m]:=by simp
 generalize vs[m]=v2 at hv2
 have hv2l:=hv.2.get hv2
 have hu0:us[m+2]?=some us[m+2]:=by simp
 generalize us[m+2]=u0 at hu0
 have hu0l:=hu.get hu0
 have hu1:us[m+1]?=some us[m+1]:=by simp
 generalize us[m+1]=u1 at hu1
 have hu1l:=hu.get hu1
 have hu2:us[m]?=some us[m]:=by simp
 generalize us[m]=u2 at hu2
 have hu2l:=hu.get hu2
 have hV:=val_top2 htop hv2 hvl
 have hU:=val_top3 hu0 hu1 hu2 hul
 have hvr:=val_lt (vs.take m) (hv.2.take m)
 have hur:=val_lt (us.take m) (hu.take m)
 rw [show (vs.take m).length=m from by simp;omega] at hvr
 rw [show (us.take m).length=m from by simp;omega] at hur
 generalize hVd:val vs=V at *
 generalize hUd:val us=U at *
 generalize hR:4294967296 ^ m=R at *
 generalize val (vs.take m)=vr at *
 generalize val (us.take m)=ur at *
 have hu0v:u0≤v1:=by
  rcases Nat.lt_or_ge v1 u0 with h | h
  ·exfalso
   have h1:(v1+1) * R≤u0 * R:=Nat.mul_le_mul_right _ h
   have h2:(u0 * 4294967296+u1) * R=4294967296 * (u0 * R)+u1 * R:=by rw [Nat.add_mul,Nat.mul_comm u0,Nat.mul_assoc]
   have h3:(v2+1) * R≤4294967296 * R:=Nat.mul_le_mul_right _ hv2l
   rw [Nat.add_mul,Nat.one_mul] at h1 h3
   omega
  ·exact h
 generalize hh:u0 * 4294967296+u1=high at *
 have hhb:high<18446744073709551616:=by omega
 have e1:IntKind.i64.wrap (((m+2:Nat):Int) - 1)=((m+1:Nat):Int):=by rw [i64_id (by omega) (by omega)];omega
 have e2:IntKind.i64.wrap (((m+2:Nat):Int) - 2)=((m:Nat):Int):=by rw [i64_id (by omega) (by omega)];omega
 have ev1:IntKind.u64.wrap (v1:Int)=(v1:Int):=u64_id (by omega) (by omega)
 have hdm:=Nat.div_add_mod high v1
 have hml:=Nat.mod_lt high (show v1 > 0 by omega)
 have hqi:(high:Int) / (v1:Int)=((high / v1:Nat):Int):=by simp
 have hmi:(high:Int) % (v1:Int)=((high % v1:Nat):Int):=by simp
 have hg0:high / v1≤4294967297:=by
  have:high / v1<4294967298:=Nat.div_lt_of_lt_mul (by omega)
  omega
 generalize high / v1=g0 at *
 generalize high % v1=r0 at *
 have hG0:Guess U V v1 v2 u2 high g0 r0:=⟨by rw [Nat.mul_comm];exact hdm.symm,guess_first hV hU hur hu2l (by rw [Nat.mul_comm];exact hdm.symm) hml,hg0,by omega⟩
 refine calls_of_St (args:=[_,_]) Tryz.func169 rfl Tryz.ntmps169 rfl ?_
 refine Nv ?_
 refine .r rfl ?_
 refine Nv ?_
 refine .r rfl ?_
 refine Nv ?_
 refine St.quiet TBfol (by kernel_rfl) ?_
 refine .run TBok 99 rfl ?_
 refine QL.elemB TBok (m+2) (u32 u0) hb (seg_get hA hu0) rfl (by omega) rfl rfl rfl rfl rfl rfl rfl rfl rfl rfl (fun _=>rfl) ?_
 intro p1
 refine .run TBok 99 rfl ?_
 refine QL.elemB TBok (m+1) (u32 u1) hb (seg_get hA hu1) e1 (by omega) rfl rfl rfl rfl rfl rfl rfl rfl rfl rfl (fun _=>rfl) ?_
 intro p2
 have eh:bitsI .or .u64 (IntKind.u64.wrap (IntKind.u64.wrap (u0:Int) * 2 ^ 32)) (IntKind.u64.wrap (u1:Int))=(high:Int):=by
  rw [u64_id (n:=(u0:Int)) (by omega) (by omega),show (u0:Int) * 2 ^ 32=((u0 * 4294967296:Nat):Int) from by rw [Int.natCast_mul];rfl,u64_id (n:=((u0 * 4294967296:Nat):Int)) (Int.natCast_nonneg _) (Int.ofNat_le.2 (Nat.le_of_lt_succ (mul_B_lt hu0l))),u64_id (n:=(u1:Int)) (by omega) (by omega),or_u64 _ _ (mul_B_lt hu0l) (by omega),Nat.or_comm,or_low32 _ _ hu1l,Nat.add_comm,hh]
 refine QL.as TBok 2 (.int .u64 (high:Int)) rfl (by rw [eh]) ?_
 refine .run TBok 99 rfl ?_
 refine QL.nil fun m1=>?_
 refine Nv ?_
 refine St.quiet TBfol (by kernel_rfl) ?_
 refine .run TBok 99 rfl ?_
 refine QL.elem TBok (m+1) (u32 v1) (hv.drewN m1).1 (hv.get htop) e1 rfl rfl rfl rfl rfl rfl rfl rfl rfl rfl (fun _=>rfl) ?_
 intro p3
 refine .run TBok 99 rfl ?_
 refine QL.step rfl rfl rfl (fun _=>RunsTo.quo rfl rfl (by omega) (by rw [ev1];omega)) ?_
 rw [ev1,hqi]
 refine .run TBok 99 rfl ?_
 refine QL.elem TBok (m+1) (u32 v1) (hv.drewN m1).1 (hv.get htop) e1 rfl rfl rfl rfl rfl rfl rfl rfl rfl rfl (fun _=>rfl) ?_
 intro p4
 refine .run TBok 99 rfl ?_
 refine QL.step rfl rfl rfl (fun _=>RunsTo.rem rfl rfl (by omega) (by rw [ev1];omega)) ?_
 rw [ev1,hmi,u64_id (n:=(g0:Int)) (by omega) (by omega)]
 refine .run TBok 99 rfl ?_
 refine QL.nil fun m2=>?_
 (repeat with_reducible first | refine Out.then_normal ?_ | refine Out.block_normal ?_)
 have hx2:Ext w ((w.drewN m1).drewN m2):=((Ext.refl w).drewN m1).drewN m2
 refine St.cut (fun g:Nat=>[(0,.slice (some ⟨b,off,none⟩) (m+3) cap),(1,.slice q (m+2) d),(5,.int .i64 ((m+2:Nat):Int)),(7,.int .u64 g)]) (fun g w'=>Ext w w'∧g<4294967296∧U<(g+1) * V∧g * V<U+V) ?_ ?_
 ·-- the loop that lowers the guess
  refine Nv ?_
  refine St.loop (fun g:Nat×Nat=>[(0,.slice (some ⟨b,off,none⟩) (m+3) cap),(1,.slice q (m+2) d),(5,.int .i64 ((m+2:Nat):Int)),(7,.int .u64 g.1),(8,.int .u64 g.2)]) (fun g w'=>Ext w w'∧Guess U V v1 v2 u2 high g.1 g.2) (fun g=>g.1) (g0,r0) ⟨rfl,rfl,rfl,rfl,rfl,trivial⟩ ⟨hx2,hG0⟩ ?_
  rintro ⟨g,r⟩ w3 ⟨hx3,hG⟩
  obtain ⟨hGh,hGe,hGl,hGr⟩:=hG
  dsimp only at hGh hGe hGl hGr ⊢
  have hb3:=hb.ext hx3
  have hv3:=hv.ext hx3
  have down:0<g→U<g * V→high=(g - 1) * v1+(r+v1)∧U<(g - 1+1) * V:=by
   intro hg hlt2
   obtain ⟨k,rfl⟩:∃ k,g=k+1:=⟨g - 1,by omega⟩
   rw [Nat.add_mul,Nat.one_mul] at hGh
   exact ⟨by simp only [Nat.add_sub_cancel];omega,by simpa using hlt2⟩
  refine Nv ?_
  refine St.quiet TBfol (by kernel_rfl) ?_
  by_cases hge:4294967296≤g
  ·have hltg:U<g * V:=Nat.lt_of_lt_of_le hlt (by rw [Nat.mul_comm];exact Nat.mul_le_mul_right _ hge)
   obtain ⟨hd1,hd2⟩:=down (by omega) hltg
   refine QL.as TBok 3 (.bool true) rfl (by congr 1;simp;omega) ?_
   refine .run TBok 99 rfl ?_
   refine QL.nil fun m3=>?_
   refine Nv ?_
   refine .cT ?_
   (iterate 6 refine Nv ?_;try refine .r rfl ?_)
   refine StL.elem TBok (m+1) (u32 v1) (hv3.drewN m3).1 (hv.get htop) e1 rfl rfl rfl rfl rfl rfl rfl rfl rfl rfl (fun _=>rfl) ?_
   intro p5
   have er:IntKind.u64.wrap ((r:Int)+IntKind.u64.wrap (v1:Int))=((r+v1:Nat):Int):=by
    rw [ev1,u64_id (by omega) (by omega)];rfl
   have eg:IntKind.u64.wrap ((g:Int) - 1)=((g - 1:Nat):Int):=by
    rw [u64_id (by omega) (by omega)];omega
   refine .a 2 (.int .u64 ((r+v1:Nat):Int)) rfl (by rw [er]) ?_
   rw [eg]
   (iterate 6 refine Nv ?_;try refine .r rfl ?_)
   by_cases hbr:4294967296≤r+v1
   ·refine St.condT rfl (by simp;omega) ?_
    have hgB:g - 1<4294967296:=by
     rcases Nat.lt_or_ge (g - 1) 4294967296 with h | h
     ·exact h
     ·exfalso
      have:4294967296 * v1≤(g - 1) * v1:=Nat.mul_le_mul_right _ h
      omega
    refine St.exit ?_
    (repeat with_reducible refine Out.then_exit ?_)
    refine Out.block_other rfl ?_
    (repeat with_reducible refine Out.then_exit ?_)
    refine Out.block_exit (Out.met (g - 1) ⟨rfl,rfl,rfl,rfl,trivial⟩ ⟨hx3.drewN m3,hgB,hd2,?_⟩)
    refine guess_near hV hU hvr (by omega) hgB hd1 ?_
    have h5:(g - 1) * v2≤4294967295 * 4294967295:=Nat.mul_le_mul (by omega) (by omega)
    omega
   ·refine St.condF rfl (by simp;omega) ?_
    refine Nv ?_
    exact Out.again (g - 1,r+v1) ⟨rfl,rfl,rfl,rfl,rfl,trivial⟩ ⟨hx3.drewN m3,hd1,hd2,by simp only;omega,by simp only;omega⟩ (by simp only;omega)
  ·have hgv:g * v2≤4294967295 * 4294967295:=Nat.mul_le_mul (by omega) (by omega)
   refine QL.as TBok 3 (.bool false) rfl (by congr 1;simp;omega) ?_
   refine .run TBok 99 rfl ?_
   refine QL.elem TBok m (u32 v2) hv3.1 (hv.get hv2) e2 rfl rfl rfl rfl rfl rfl rfl rfl rfl rfl (fun _=>rfl) ?_
   intro p5
   have egv:IntKind.u64.wrap ((g:Int) * IntKind.u64.wrap (v2:Int))=((g * v2:Nat):Int):=by
    rw [u64_id (n:=(v2:Int)) (by omega) (by omega),show (g:Int) * (v2:Int)=((g * v2:Nat):Int) from by simp]
    generalize g * v2=t at hgv
    exact u64_id (by omega) (by omega)
   refine QL.as TBok 2 (.int .u64 ((g * v2:Nat):Int)) rfl (by rw [egv]) ?_
   refine .run TBok 99 rfl ?_
   refine QL.elemB TBok m (u32 u2) hb3 (seg_get hA hu2) e2 (by omega) rfl rfl rfl rfl rfl rfl rfl rfl rfl rfl (fun _=>rfl) ?_
   intro p6
   have ero:bitsI .or .u64 (IntKind.u64.wrap ((r:Int) * 2 ^ 32)) (IntKind.u64.wrap (u2:Int))=((r * 4294967296+u2:Nat):Int):=by
    rw [show (r:Int) * 2 ^ 32=((r * 4294967296:Nat):Int) from by rw [Int.natCast_mul];rfl,u64_id (n:=((r * 4294967296:Nat):Int)) (Int.natCast_nonneg _) (Int.ofNat_le.2 (Nat.le_of_lt_succ (mul_B_lt hGr))),u64_id (n:=(u2:Int)) (by omega) (by omega),or_u64 _ _ (mul_B_lt hGr) (by omega),Nat.or_comm,or_low32 _ _ hu2l,Nat.add_comm]
   refine QL.as TBok 2 (.int .u64 ((r * 4294967296+u2:Nat):Int)) rfl (by rw [ero]) ?_
   by_cases htest:r * 4294967296+u2<g * v2
   ·have hltg:=guess_less hV hU hur hGh htest
    have hgpos:0<g:=by
     rcases Nat.eq_zero_or_pos g with h | h
     ·subst h;simp at htest
     ·exact h
    obtain ⟨hd1,hd2⟩:=down hgpos hltg
    refine QL.as TBok 1 (.bool true) rfl (bool_true (Int.ofNat_lt.2 htest)) ?_
    refine .run TBok 99 rfl ?_
    refine QL.nil fun m3=>?_
    refine Nv ?_
    refine .cT ?_
    (iterate 6 refine Nv ?_;try refine .r rfl ?_)
    refine StL.elem TBok (m+1) (u32 v1) (hv3.drewN m3).1 (hv.get htop) e1 rfl rfl rfl rfl rfl rfl rfl rfl rfl rfl (fun _=>rfl) ?_
    intro p7
    have er:IntKind.u64.wrap ((r:Int)+IntKind.u64.wrap (v1:Int))=((r+v1:Nat):Int):=by
     rw [ev1,u64_id (by omega) (by omega)];rfl
    have eg:IntKind.u64.wrap ((g:Int) - 1)=((g - 1:Nat):Int):=by
     rw [u64_id (by omega) (by omega)];omega
    refine .a 2 (.int .u64 ((r+v1:Nat):Int)) rfl (by rw [er]) ?_
    rw [eg]
    (iterate 6 refine Nv ?_;try refine .r rfl ?_)
    by_cases hbr:4294967296≤r+v1
    ·refine St.condT rfl (by simp;omega) ?_
     refine St.exit ?_
     (repeat with_reducible refine Out.then_exit ?_)
     refine Out.block_other rfl ?_
     (repeat with_reducible refine Out.then_exit ?_)
     refine Out.block_exit (Out.met (g - 1) ⟨rfl,rfl,rfl,rfl,trivial⟩ ⟨hx3.drewN m3,by omega,hd2,?_⟩)
     refine guess_near hV hU hvr (by omega) (by omega) hd1 ?_
     have h5:(g - 1) * v2≤4294967295 * 4294967295:=Nat.mul_le_mul (by omega) (by omega)
     omega
    ·refine St.condF rfl (by simp;omega) ?_
     refine Nv ?_
     exact Out.again (g - 1,r+v1) ⟨rfl,rfl,rfl,rfl,rfl,trivial⟩ ⟨hx3.drewN m3,hd1,hd2,by simp only;omega,by simp only;omega⟩ (by simp only;omega)
   ·refine QL.as TBok 1 (.bool false) rfl (bool_false (fun h=>htest (Int.ofNat_lt.1 h))) ?_
    refine .run TBok 99 rfl ?_
    refine QL.nil fun m3=>?_
    refine Nv ?_
    refine .cF ?_
    refine St.exit (Out.then_exit (Out.then_exit (Out.block_exit (Out.met g ⟨rfl,rfl,rfl,rfl,trivial⟩ ⟨hx3.drewN m3,by omega,hGe,?_⟩))))
    exact guess_near hV hU hvr (by omega) (by omega) hGh (by omega)
 rintro g w3 ⟨hx3,hgB,hge,hgn⟩
 have hb3:=hb.ext hx3
 have hu3:Upd b w w3:=hx3.upd b
 clear hG0 hg0 hdm hml hqi hmi hx2 eh
 (iterate 6 refine Nv ?_;try refine .r rfl ?_)
 refine St.loop (fun s:Nat×Nat×Nat×List Nat=>[(0,.slice (some ⟨b,off,none⟩) (m+3) cap),(1,.slice q (m+2) d),(5,.int .i64 ((m+2:Nat):Int)),(7,.int .u64 g),(9,.int .u64 s.2.1),(10,.int .u64 s.2.2.1),(82,.int .i64 ((m+2:Nat):Int)),(83,.int .i64 s.1)])
  (fun s w'=>Upd b w w'∧Blk 139 w' b (A++(s.2.2.2.map u32++D))∧s.2.2.2.length=m+3∧Lim s.2.2.2∧s.2.2.2.drop s.1=us.drop s.1∧s.2.1<4294967296∧s.2.2.1≤1∧s.1≤m+2∧val (s.2.2.2.take s.1)+g * val (vs.take s.1)=val (us.take s.1)+(s.2.1+s.2.2.1) * 4294967296 ^ s.1)
  (fun s=>m+2 - s.1) (0,0,0,us) ⟨rfl,rfl,rfl,rfl,rfl,rfl,rfl,rfl,trivial⟩ ⟨hu3,hb3,hul,hu,rfl,by simp,by simp,by simp,by simp [val]⟩ ?_
 rintro ⟨i,c,bo,ws⟩ w4 ⟨hu4,hb4,hwl,hwlim,hdr,hc,hbo,hi,heq⟩
 dsimp only at hb4 hwl hwlim hdr hc hbo hi heq ⊢
 have hv4:=hv.upd hu4 hap
 by_cases hlt4:i<m+2
 ·have hyi:vs[i]?=some vs[i]:=by simp
  generalize vs[i]=y at hyi
  have hyl:=hv.2.get hyi
  have hxi:ws[i]?=some ws[i]:=by simp
  generalize ws[i]=x at hxi
  have hxl:=hwlim.get hxi
  have hxu:us[i]?=some x:=by rw [← getElem?_of_drop hdr (Nat.le_refl _)];exact hxi
  have hbd:=mul_bound hc hgB hyl (show (0:Nat)<4294967296 by decide)
  rw [Nat.add_zero] at hbd
  refine Nv ?_
  refine .a 1 (.bool true) rfl (bool_true (by omega)) ?_
  refine Nv ?_
  refine .cT ?_
  (iterate 6 refine Nv ?_;try refine .r rfl ?_)
  refine StL.elem TBok i (u32 y) hv4.1 (hv.get hyi) rfl rfl rfl rfl rfl rfl rfl rfl rfl rfl rfl (fun _=>rfl) ?_
  intro p8
  have ec:IntKind.u64.wrap ((c:Int)+IntKind.u64.wrap ((g:Int) * IntKind.u64.wrap (y:Int)))=((c+g * y:Nat):Int):=by
   rw [u64_id (n:=(y:Int)) (by omega) (by omega),show (g:Int) * (y:Int)=((g * y:Nat):Int) from by simp]
   generalize g * y=t at hbd
   rw [u64_id (n:=(t:Int)) (by omega) (by omega),u64_id (by omega) (by omega)];rfl
  refine .a 3 (.int .u64 ((c+g * y:Nat):Int)) rfl (by rw [ec]) ?_
  have hstep:=mulsub_step (val (ws.take i)) (val (us.take i)) (val (vs.take i)) (4294967296 ^ i) g c bo x y ((x+8589934592 - (c+g * y) % 4294967296 - bo) % 4294967296) ((c+g * y) % 4294967296) ((c+g * y) / 4294967296) (if x<(c+g * y) % 4294967296+bo then 1 else 0) heq (by omega) (by split <;> omega)
  generalize c+g * y=T at *
  (iterate 6 refine Nv ?_;try refine .r rfl ?_)
  refine StL.elemB TBok i (u32 x) hb4 (seg_get hA hxi) rfl (by omega) rfl rfl rfl rfl rfl rfl rfl rfl rfl rfl (fun _=>rfl) ?_
  intro p9
  have et:IntKind.u64.wrap (IntKind.u64.wrap (IntKind.u64.wrap (x:Int) - IntKind.u64.wrap (IntKind.u32.wrap (T:Int))) - (bo:Int))=IntKind.u64.wrap ((x:Int) - ((T % 4294967296:Nat):Int) - (bo:Int)):=by
   simp only [wrap_u64,wrap_u32];omega
  refine .a 7 (.int .u64 (IntKind.u64.wrap ((x:Int) - ((T % 4294967296:Nat):Int) - (bo:Int)))) rfl (by rw [et]) ?_
  have hlo:T % 4294967296<4294967296:=Nat.mod_lt _ (by decide)
  generalize T % 4294967296=lo at *
  (iterate 6 refine Nv ?_;try refine .r rfl ?_)
  have e3:IntKind.u32.wrap (IntKind.u64.wrap ((x:Int) - (lo:Int) - (bo:Int)))=(((x+8589934592 - lo - bo) % 4294967296:Nat):Int):=by
   simp only [wrap_u32,wrap_u64];omega
  refine StL.put TBok i hb4 rfl (by omega) (by simp;omega) rfl rfl rfl rfl rfl rfl rfl rfl (fun _=>rfl) (fun _=>rfl) rfl rfl ?_
  intro p10 w5 hb5 hu5
  rw [e3,seg_set hA (by omega)] at hb5
  (iterate 6 refine Nv ?_;try refine .r rfl ?_)
  refine Out.again (i+1,T / 4294967296,(if x<lo+bo then 1 else 0),ws.set i ((x+8589934592 - lo - bo) % 4294967296)) ⟨rfl,rfl,rfl,rfl,?_,?_,rfl,?_,trivial⟩ ⟨hu4.trans hu5,hb5,by simpa using hwl,hwlim.set _ (Nat.mod_lt _ (by decide)),drop_set_of hdr,by simp only;omega,by simp only;split <;> omega,by simp only;omega,?_⟩ (by simp only;omega)
  ·show some (Value.int .u64 ((T:Int) / 2 ^ 32))=some (Value.int .u64 ((T / 4294967296:Nat):Int))
   rw [show (T:Int) / 2 ^ 32=((T / 4294967296:Nat):Int) from by omega]
  ·show some (Value.int .u64 (IntKind.u64.wrap ((x:Int) - (lo:Int) - (bo:Int)) / 2 ^ 63))=some (Value.int .u64 ((if x<lo+bo then 1 else 0:Nat):Int))
   congr 2
   rw [wrap_u64]
   split <;> omega
  ·show some (Value.int .i64 (IntKind.i64.wrap ((i:Int)+1)))=_
   rw [i64_id (by omega) (by omega)]
   rfl
  ·simp only
   rw [val_take_set (by omega),val_take_succ hxu,val_take_succ hyi,Nat.pow_succ]
   exact hstep
 obtain rfl:i=m+2:=by omega
 clear hlt4 hi
 rw [List.take_of_length_le (show vs.length≤m+2 by omega),hVd] at heq
 have hx0:ws[m+2]?=some u0:=by rw [getElem?_of_drop hdr (Nat.le_refl _)];exact hu0
 have hUs:=val_take_succ hu0
 rw [List.take_of_length_le (by omega),hUd] at hUs
 refine Nv ?_
 refine .a 1 (.bool false) rfl (bool_false (by omega)) ?_
 refine Nv ?_
 refine .cF ?_
 (iterate 6 refine Nv ?_;try refine .r rfl ?_)
 refine StL.elemB TBok (m+2) (u32 u0) hb4 (seg_get hA hx0) rfl (by omega) rfl rfl rfl rfl rfl rfl rfl rfl rfl rfl (fun _=>rfl) ?_
 intro p11
 have et:IntKind.u64.wrap (IntKind.u64.wrap (IntKind.u64.wrap (u0:Int) - (c:Int)) - (bo:Int))=IntKind.u64.wrap ((u0:Int) - (c:Int) - (bo:Int)):=by
  simp only [wrap_u64];omega
 refine .a 5 (.int .u64 (IntKind.u64.wrap ((u0:Int) - (c:Int) - (bo:Int)))) rfl (by rw [et]) ?_
 (iterate 6 refine Nv ?_;try refine .r rfl ?_)
 have e3:IntKind.u32.wrap (IntKind.u64.wrap ((u0:Int) - (c:Int) - (bo:Int)))=(((u0+8589934592 - c - bo) % 4294967296:Nat):Int):=by
  simp only [wrap_u32,wrap_u64];omega
 refine StL.put TBok (m+2) hb4 rfl (by omega) (by simp;omega) rfl rfl rfl rfl rfl rfl rfl rfl (fun _=>rfl) (fun _=>rfl) rfl rfl ?_
 intro p12 w5 hb5 hu5
 rw [e3,seg_set hA (by omega)] at hb5
 have hup:=hu4.trans hu5
 have hvw:=val_take_set (us:=ws) (k:=m+2) (by omega) ((u0+8589934592 - c - bo) % 4294967296)
 rw [List.take_of_length_le (by simp;omega)] at hvw
 have hS:=val_lt (ws.take (m+2)) (hwlim.take _)
 rw [show (ws.take (m+2)).length=m+2 from by simp;omega] at hS
 generalize hW:4294967296 ^ (m+2)=W at *
 generalize hSd:val (ws.take (m+2))=S at *
 generalize val (us.take (m+2))=Un at *
 by_cases hneg:u0<c+bo
 ·-- the guess was too great by 1
  have htop0:(u0+8589934592 - c - bo) % 4294967296=u0+4294967296 - (c+bo):=by omega
  rw [htop0] at hvw hb5
  obtain ⟨hgpos,hge1,hrest,hM⟩:=addback heq hUs hvw hneg (by omega) hgn hS
  have hUg:U=(g - 1) * V+(U - (g - 1) * V):=by omega
  have hres:=mod_eq_of hUg hrest
  generalize hwd:ws.set (m+2) (u0+4294967296 - (c+bo))=xs at *
  have hxlen:xs.length=m+3:=by rw [← hwd];simpa using hwl
  have hxlim:Lim xs:=by rw [← hwd];exact hwlim.set _ (by omega)
  have hxtop:xs[m+2]?=some (u0+4294967296 - (c+bo)):=by rw [← hwd];exact List.getElem?_set_self (by omega)
  have hxval:=val_take_succ hxtop
  rw [List.take_of_length_le (by omega),hW] at hxval
  generalize hpd:u0+4294967296 - (c+bo)=tp at *
  have ez:IntKind.u64.wrap ((u0:Int) - (c:Int) - (bo:Int))=((18446744073709551616+u0 - (c+bo):Nat):Int):=by
   rw [wrap_u64];omega
  rw [ez]
  (iterate 6 refine Nv ?_;try refine .r rfl ?_)
  refine St.condF rfl (by simp;omega) ?_
  (iterate 6 refine Nv ?_;try refine .r rfl ?_)
  refine St.loop (fun s:Nat×Nat×List Nat=>[(0,.slice (some ⟨b,off,none⟩) (m+3) cap),(1,.slice q (m+2) d),(5,.int .i64 ((m+2:Nat):Int)),(7,.int .u64 g),(9,.int .u64 s.2.1),(135,.int .i64 ((m+2:Nat):Int)),(136,.int .i64 s.1)])
   (fun s w'=>Upd b w w'∧Blk 139 w' b (A++(s.2.2.map u32++D))∧s.2.2.length=m+3∧Lim s.2.2∧s.2.2.drop s.1=xs.drop s.1∧s.2.1≤1∧s.1≤m+2∧val (s.2.2.take s.1)+s.2.1 * 4294967296 ^ s.1=val (xs.take s.1)+val (vs.take s.1))
   (fun s=>m+2 - s.1) (0,0,xs) ⟨rfl,rfl,rfl,rfl,rfl,rfl,rfl,trivial⟩ ⟨hup,hb5,hxlen,hxlim,rfl,by simp,by simp,by simp [val]⟩ ?_
  rintro ⟨i,cy,zs⟩ w6 ⟨hu6,hb6,hzl,hzlim,hdr6,hcy,hi6,heq6⟩
  dsimp only at hb6 hzl hzlim hdr6 hcy hi6 heq6 ⊢
  have hv6:=hv.upd hu6 hap
  by_cases hlt6:i<m+2
  ·have hyi:vs[i]?=some vs[i]:=by simp
   generalize vs[i]=y at hyi
   have hyl:=hv.2.get hyi
   have hxi:zs[i]?=some zs[i]:=by simp
   generalize zs[i]=x at hxi
   have hxl:=hzlim.get hxi
   have hxu:xs[i]?=some x:=by rw [← getElem?_of_drop hdr6 (Nat.le_refl _)];exact hxi
   refine Nv ?_
   refine .a 1 (.bool true) rfl (bool_true (by omega)) ?_
   refine Nv ?_
   refine .cT ?_
   refine Nv ?_
   refine .r rfl ?_
   refine Nv ?_
   refine St.quiet TBfol (by kernel_rfl) ?_
   refine .run TBok 99 rfl ?_
   refine QL.elemB TBok i (u32 x) hb6 (seg_get hA hxi) rfl (by omega) rfl rfl rfl rfl rfl rfl rfl rfl rfl rfl (fun _=>rfl) ?_
   intro p13
   refine .run TBok 99 rfl ?_
   refine QL.elem TBok i (u32 y) hv6.1 (hv.get hyi) rfl rfl rfl rfl rfl rfl rfl rfl rfl rfl rfl (fun _=>rfl) ?_
   intro p14
   have ea:IntKind.u64.wrap ((cy:Int)+IntKind.u64.wrap (IntKind.u64.wrap (x:Int)+IntKind.u64.wrap (y:Int)))=((cy+x+y:Nat):Int):=by
    simp only [wrap_u64];omega
   refine QL.as TBok 3 (.int .u64 ((cy+x+y:Nat):Int)) rfl (by rw [ea]) ?_
   refine .run TBok 99 rfl ?_
   refine QL.nil fun m6=>?_
   (iterate 6 refine Nv ?_;try refine .r rfl ?_)
   have e4:IntKind.u32.wrap ((cy+x+y:Nat):Int)=(((cy+x+y) % 4294967296:Nat):Int):=by rw [wrap_u32];omega
   refine StL.put TBok i (hb6.drewN m6) rfl (by omega) (by simp;omega) rfl rfl rfl rfl rfl rfl rfl rfl (fun _=>rfl) (fun _=>rfl) rfl rfl ?_
   intro p15 w7 hb7 hu7
   rw [e4,seg_set hA (by omega)] at hb7
   (iterate 6 refine Nv ?_;try refine .r rfl ?_)
   refine Out.again (i+1,(cy+x+y) / 4294967296,zs.set i ((cy+x+y) % 4294967296)) ⟨rfl,rfl,rfl,rfl,?_,rfl,?_,trivial⟩ ⟨(hu6.drewN m6).trans hu7,hb7,by simpa using hzl,hzlim.set _ (Nat.mod_lt _ (by decide)),drop_set_of hdr6,by simp only;omega,by simp only;omega,?_⟩ (by simp only;omega)
   ·show some (Value.int .u64 (((cy+x+y:Nat):Int) / 2 ^ 32))=some (Value.int .u64 (((cy+x+y) / 4294967296:Nat):Int))
    rw [show ((cy+x+y:Nat):Int) / 2 ^ 32=(((cy+x+y) / 4294967296:Nat):Int) from by omega]
   ·show some (Value.int .i64 (IntKind.i64.wrap ((i:Int)+1)))=_
    rw [i64_id (by omega) (by omega)]
    rfl
   ·simp only
    rw [val_take_set (by omega),val_take_succ hxu,val_take_succ hyi,Nat.pow_succ]
    exact step_add _ _ _ _ _ _ _ _ _ heq6 (by omega)
  obtain rfl:i=m+2:=by omega
  rw [List.take_of_length_le (show vs.length≤m+2 by omega),hVd,hW] at heq6
  have hzt:zs[m+2]?=some tp:=by rw [getElem?_of_drop hdr6 (Nat.le_refl _)];exact hxtop
  have hzS:=val_lt (zs.take (m+2)) (hzlim.take _)
  rw [show (zs.take (m+2)).length=m+2 from by simp;omega,hW] at hzS
  have hover:tp+cy=4294967296:=by
   have h1:(tp+cy) * W=tp * W+cy * W:=Nat.add_mul _ _ _
   rcases Nat.lt_or_ge (tp+cy) 4294967296 with h | h
   ·exfalso
    have:(tp+cy+1) * W≤4294967296 * W:=Nat.mul_le_mul_right _ h
    rw [Nat.add_mul,Nat.one_mul] at this
    omega
   ·omega
  refine Nv ?_
  refine .a 1 (.bool false) rfl (bool_false (by omega)) ?_
  refine Nv ?_
  refine .cF ?_
  (iterate 6 refine Nv ?_;try refine .r rfl ?_)
  refine StL.elemB TBok (m+2) (u32 tp) hb6 (seg_get hA hzt) rfl (by omega) rfl rfl rfl rfl rfl rfl rfl rfl rfl rfl (fun _=>rfl) ?_
  intro p16
  refine .a 3 (u32 0) rfl (by simp only [wrap_u32];congr 1;omega) ?_
  refine StL.put TBok (m+2) hb6 rfl (by omega) (by simp;omega) rfl rfl rfl rfl rfl rfl rfl rfl (fun _=>rfl) (fun _=>rfl) rfl rfl ?_
  intro p17 w7 hb7 hu7
  rw [seg_set hA (by omega)] at hb7
  (iterate 6 refine Nv ?_;try refine .r rfl ?_)
  refine Out.ret1 rfl rfl ⟨?_,hu6.trans hu7,_,by simpa using hzl,hzlim.set _ (by decide),?_,hb7⟩
  ·rw [hres.1,u64_id (by omega) (by omega),u32_id (by omega) (by omega)]
   rw [show (g:Int) - 1=((g - 1:Nat):Int) from by omega]
  ·rw [hres.2]
   have hvz:=val_take_set (us:=zs) (k:=m+2) (by omega) 0
   rw [List.take_of_length_le (by simp;omega)] at hvz
   have h1:(tp+cy) * W=tp * W+cy * W:=Nat.add_mul _ _ _
   rw [hover] at h1
   omega
 ·-- the guess was right
  have htop0:(u0+8589934592 - c - bo) % 4294967296=u0 - (c+bo):=by omega
  rw [htop0] at hvw hb5
  have hmul:(u0 - (c+bo)) * W=u0 * W - (c+bo) * W:=Nat.sub_mul _ _ _
  have hle:(c+bo) * W≤u0 * W:=Nat.mul_le_mul_right _ (by omega)
  have hUg:U=g * V+val (ws.set (m+2) (u0 - (c+bo))):=by omega
  have hres:=mod_eq_of hUg (by rw [Nat.add_mul,Nat.one_mul] at hge;omega)
  have ez:IntKind.u64.wrap ((u0:Int) - (c:Int) - (bo:Int))=((u0 - (c+bo):Nat):Int):=by rw [u64_id (by omega) (by omega)];omega
  rw [ez]
  (iterate 6 refine Nv ?_;try refine .r rfl ?_)
  refine St.condT rfl (by simp;omega) ?_
  (iterate 6 refine Nv ?_;try refine .r rfl ?_)
  refine Out.ret1 rfl rfl ⟨?_,hup,_,by simpa using hwl,hwlim.set _ (by omega),?_,hb5⟩
  ·rw [hres.1,u32_id (by omega) (by omega)]
  ·rw [hres.2]
end Go.Qf
namespace Go.Qf
theorem val_one {xs:List Nat} {x:Nat} (h:xs.length=1) (hx:xs[0]?=some x):val xs=x:=by
 match xs,h with
 | [y],_=>simp at hx;simp [val,hx]
theorem val_take_succ0 {xs:List Nat} {k x:Nat} (hx:xs[k]?=some x):val (xs.take (k+1))=val (xs.take k)+x * 4294967296 ^ k:=by
 have hlt:k<xs.length:=(List.getElem?_eq_some_iff.1 hx).1
 rw [List.take_succ_eq_append_getElem hlt,val_append]
 have:xs[k]=x:=by
  rw [List.getElem?_eq_getElem hlt] at hx
  exact Option.some.inj hx
 simp [val,this,Nat.min_eq_left (Nat.le_of_lt hlt),Nat.mul_comm]
theorem norm_facts {c m s tp:Nat} {ds:List Nat} (hcl:(limbs c).length=m+2) (htop:(limbs c)[m+1]?=some tp) (hs:s<32) (hs1:2147483648≤tp * 2 ^ s) (hs2:tp * 2 ^ s<4294967296) (hdl:ds.length=m+3) (hlim:Lim ds) (hv:val ds=c * 2 ^ s) :
  val (ds.take (m+2))=c * 2 ^ s∧c * 2 ^ s<4294967296 ^ (m+2)∧2147483648 * 4294967296 ^ (m+1)≤c * 2 ^ s∧∃ v1,(ds.take (m+2))[m+1]?=some v1∧2147483648≤v1:=by
 have hp:0<2 ^ s:=Nat.pow_pos (by decide)
 have hB:4294967296=2 ^ s * 2 ^ (32 - s):=by rw [← Nat.pow_add,show s+(32 - s)=32 from by omega]
 have hW:(0:Nat)<4294967296 ^ (m+1):=Nat.pow_pos (by decide)
 have hc:=val_take_succ0 htop
 rw [List.take_of_length_le (by omega),val_limbs] at hc
 have hcr:=val_lt ((limbs c).take (m+1)) ((lim_limbs c).take _)
 rw [show ((limbs c).take (m+1)).length=m+1 from by simp;omega] at hcr
 generalize val ((limbs c).take (m+1))=cr at *
 have hup:(tp+1) * 2 ^ s≤4294967296:=by
  rw [hB] at hs2 ⊢
  rw [Nat.mul_comm (2 ^ s)] at hs2 ⊢
  exact Nat.mul_le_mul_right _ (Nat.lt_of_mul_lt_mul_right hs2)
 have hpw:(4294967296:Nat) ^ (m+2)=4294967296 * 4294967296 ^ (m+1):=by rw [Nat.pow_succ,Nat.mul_comm]
 generalize hWd:(4294967296:Nat) ^ (m+1)=W at *
 have hVlt:c * 2 ^ s<4294967296 ^ (m+2):=by
  rw [hpw]
  have h1:c * 2 ^ s<((tp+1) * W) * 2 ^ s:=Nat.mul_lt_mul_of_pos_right (by rw [Nat.add_mul,Nat.one_mul];omega) hp
  have h2:((tp+1) * W) * 2 ^ s=((tp+1) * 2 ^ s) * W:=Nat.mul_right_comm _ _ _
  have h3:((tp+1) * 2 ^ s) * W≤4294967296 * W:=Nat.mul_le_mul_right _ hup
  omega
 have hVge:2147483648 * W≤c * 2 ^ s:=by
  have h1:(tp * W) * 2 ^ s≤c * 2 ^ s:=Nat.mul_le_mul_right _ (by omega)
  have h2:(tp * W) * 2 ^ s=(tp * 2 ^ s) * W:=Nat.mul_right_comm _ _ _
  have h3:2147483648 * W≤(tp * 2 ^ s) * W:=Nat.mul_le_mul_right _ hs1
  omega
 have hd2:ds[m+2]?=some ds[m+2]:=by simp
 generalize ds[m+2]=d2 at hd2
 have hds:=val_take_succ0 hd2
 rw [List.take_of_length_le (by omega),hv] at hds
 have hvt:val (ds.take (m+2))=c * 2 ^ s:=by
  have:d2=0:=by
   rcases Nat.eq_zero_or_pos d2 with h | h
   ·exact h
   ·exfalso
    have:1 * 4294967296 ^ (m+2)≤d2 * 4294967296 ^ (m+2):=Nat.mul_le_mul_right _ h
    omega
  subst this
  omega
 refine ⟨hvt,hVlt,hVge,?_⟩
 have hd1:ds[m+1]?=some ds[m+1]:=by simp
 generalize ds[m+1]=d1 at hd1
 refine ⟨d1,by rw [List.getElem?_take_of_lt (by omega)];exact hd1,?_⟩
 have h1:=val_take_succ0 hd1
 rw [show m+1+1=m+2 from rfl,hvt,hWd] at h1
 have h2:=val_lt (ds.take (m+1)) (hlim.take _)
 rw [show (ds.take (m+1)).length=m+1 from by simp;omega,hWd] at h2
 rcases Nat.lt_or_ge d1 2147483648 with h | h
 ·exfalso
  have:(d1+1) * W≤2147483648 * W:=Nat.mul_le_mul_right _ h
  rw [Nat.add_mul,Nat.one_mul] at this
  omega
 ·exact h
theorem first_below {a t m s V:Nat} {rs:List Nat} (ha:a<4294967296 ^ (m+2+t)) (hs:s<32) (hV:2147483648 * 4294967296 ^ (m+1)≤V) (hl:rs.length=m+2+t+1) (hv:val rs=a * 2 ^ s):val (rs.drop (t+1))<V:=by
 have h1:=val_split rs (t+1)
 rw [show min (t+1) rs.length=t+1 from by omega,hv] at h1
 have hp:(2:Nat) ^ s≤2147483648:=Nat.pow_le_pow_right (by decide) (show s≤31 by omega)
 have h2:a * 2 ^ s<4294967296 ^ (m+2+t) * 2147483648:=by
  have hpos:0<2 ^ s:=Nat.pow_pos (by decide)
  exact Nat.lt_of_lt_of_le (Nat.mul_lt_mul_of_pos_right ha hpos) (Nat.mul_le_mul_left _ hp)
 have h3:(4294967296:Nat) ^ (m+2+t)=4294967296 ^ (t+1) * 4294967296 ^ (m+1):=by
  rw [← Nat.pow_add];congr 1;omega
 rw [h3,Nat.mul_assoc,Nat.mul_comm _ 2147483648] at h2
 have h4:4294967296 ^ (t+1) * val (rs.drop (t+1))<4294967296 ^ (t+1) * (2147483648 * 4294967296 ^ (m+1)):=by omega
 have:=Nat.lt_of_mul_lt_mul_left h4
 omega
theorem seg_all {rs:List Nat} {j m V x:Nat} (hx:rs[j]?=some x) (hl:j+m+3≤rs.length) (hlow:val (rs.drop (j+1))<V) (hV:V<4294967296 ^ (m+2)) :
  val ((rs.drop j).take (m+3))=val (rs.drop j)∧val (rs.drop (j+m+3))=0∧val (rs.drop j)=x+4294967296 * val (rs.drop (j+1)):=by
 have hlt:j<rs.length:=(List.getElem?_eq_some_iff.1 hx).1
 have e0:rs.drop j=x::rs.drop (j+1):=by
  rw [List.getElem?_eq_getElem hlt] at hx
  rw [List.drop_eq_getElem_cons hlt,Option.some.inj hx]
 have h1:=val_split (rs.drop (j+1)) (m+2)
 rw [show min (m+2) (rs.drop (j+1)).length=m+2 from by simp;omega,List.drop_drop,show j+1+(m+2)=j+m+3 from by omega] at h1
 have hz:val (rs.drop (j+m+3))=0:=by
  rcases Nat.eq_zero_or_pos (val (rs.drop (j+m+3))) with h | h
  ·exact h
  ·exfalso
   have:4294967296 ^ (m+2) * 1≤4294967296 ^ (m+2) * val (rs.drop (j+m+3)):=Nat.mul_le_mul_left _ h
   omega
 have h2:=val_split (rs.drop j) (m+3)
 rw [List.drop_drop,show j+(m+3)=j+m+3 from by omega,hz] at h2
 refine ⟨by omega,hz,?_⟩
 rw [e0];rfl
end Go.Qf
namespace Go.Qf
open Go Go.RowKit Go.Proofs
set_option maxRecDepth 20000
theorem SlO.opened {base:Nat} {w:World} {v:Value} {xs:List Nat} (h:SlO base w v xs) (hne:xs≠[]):∃ g cap D,v=.slice (some ⟨g,0,none⟩) xs.length cap∧base≤g∧Blk 139 w g ([]++(xs.map u32++D))∧cap=xs.length+D.length∧cap≤maxLen:=by
 obtain ⟨⟨_,h2⟩,_⟩:=h
 rcases h2 with ⟨_,h0⟩ | ⟨g,cap,cur,hv,hg,hh,hn,hm,hs,ht⟩
 ·simp at h0;exact absurd h0 hne
 ·simp only [List.length_map,Nat.mul_one] at hv hn hs ht
  refine ⟨g,cap,cur.toList.drop xs.length,hv,hg,?_,?_,hm⟩
  ·unfold Blk
   rw [hh,List.nil_append,← ht]
   simp
  ·simp;omega
theorem SlO.closed {base:Nat} {w:World} {us:List Nat} {g cap len:Nat} {D:List Value} (hb:Blk 139 w g ([]++(us.map u32++D))) (hl:Lim us) (hlen:len=us.length) (hg:base≤g) (hcap:cap=us.length+D.length) (hm:cap≤maxLen):SlO base w (.slice (some ⟨g,0,none⟩) len cap) us:=by
 refine ⟨⟨by simp,.inr ⟨g,cap,(us.map u32++D).toArray,?_,hg,?_,?_,hm,?_,?_⟩⟩,hl⟩
 ·simp [hlen]
 ·simpa [Blk] using hb
 ·simp;omega
 ·simp;omega
 ·simp
theorem limbs_last_ne {c i x:Nat} (hx:(limbs c)[i]?=some x) (hi:(limbs c).length=i+1):x≠0:=by
 intro e
 subst e
 have hsp:val (limbs c)=val ((limbs c).take i):=by
  have:=val_take_succ hx
  rw [List.take_of_length_le (by omega)] at this
  simpa using this
 have h1:=limbs_length_le ((limbs c).take i) ((lim_limbs c).take i)
 rw [← hsp,val_limbs] at h1
 simp at h1
 omega
set_option maxHeartbeats 4000000 in
theorem divNat_spec (w:World) (u v:Value) (a c:Nat) (h:Sl w u (limbs a)) (k:Sl w v (limbs c)) (hlen:(limbs a).length≤10000000) (hl:(limbs c).length≤10000000) (hc0:c≠0) :
  Calls Tryz.prog 108 #[u,v] w (Ret fun r w'=>Ext w w'∧∃ q rm,r=.tuple #[q,rm]∧SlO w.heap.size w' q (limbs (a / c))∧SlO w.heap.size w' rm (limbs (a % c))):=by
 have hval:val (limbs a)=a:=val_limbs a
 have hvalc:val (limbs c)=c:=val_limbs c
 have hcne:limbs c≠[]:=fun e=>hc0 (limbs_eq_nil.1 e)
 have hcl:0<(limbs c).length:=List.length_pos_iff.2 hcne
 obtain ⟨p,ca,rfl,_⟩:=h.form
 obtain ⟨q,cb,rfl,_⟩:=k.form
 refine calls_of_St (args:=[_,_]) Tryz.func108 rfl Tryz.ntmps108 rfl ?_
 (iterate 6 refine Nv ?_;try refine .r rfl ?_)
 refine .s (OpR.call fn_integer_compareNat rfl (compareNat_spec w _ _ a c h k (by omega) (by omega))) ?_
 rintro _ w1 ⟨hx1,rfl⟩
 have h1:=h.ext hx1
 have k1:=k.ext hx1
 by_cases hac:a<c
 ·refine .a 1 (.bool true) rfl (bool_true (by simp [cmpN,hac])) ?_
  (iterate 6 refine Nv ?_;try refine .r rfl ?_)
  refine .cT ?_
  (iterate 6 refine Nv ?_;try refine .r rfl ?_)
  refine .s (OpR.call fn_slices_Clone_uint32_uint32 rfl (clone_spec w1 _ _ h1 (by omega))) ?_
  rintro r w2 ⟨hx2,hr⟩
  (iterate 6 refine Nv ?_;try refine .r rfl ?_)
  refine Out.ret2 rfl rfl rfl ⟨hx1.trans hx2,_,_,rfl,?_,?_⟩
  ·rw [Nat.div_eq_of_lt hac];exact SlO.nil _ _
  ·rw [Nat.mod_eq_of_lt hac];exact hr.mono hx1.size
 refine .a 1 (.bool false) rfl (bool_false (by unfold cmpN;rw [if_neg hac];split <;> decide)) ?_
 have hll:(limbs c).length≤(limbs a).length:=limbs_length_mono c a (by omega)
 (iterate 6 refine Nv ?_;try refine .r rfl ?_)
 refine .cF ?_
 (iterate 6 refine Nv ?_;try refine .r rfl ?_)
 by_cases hw2:(limbs a).length≤2
 ·-- two words
  have ha64:a<18446744073709551616:=by rw [← hval];exact val_le_two h.2 hw2
  have hc64:c<18446744073709551616:=by rw [← hvalc];exact val_le_two k.2 (by omega)
  refine St.condT rfl (by simp;omega) ?_
  (iterate 6 refine Nv ?_;try refine .r rfl ?_)
  refine .s (OpR.call fn_integer_word rfl (word_spec w1 _ _ h1 hw2)) ?_
  rintro r w2 ⟨rfl,rfl⟩
  refine .r rfl ?_
  refine .s (OpR.call fn_integer_word rfl (word_spec _ _ _ k1 (by omega))) ?_
  rintro r w2 ⟨rfl,rfl⟩
  rw [hval,hvalc]
  refine .r rfl ?_
  refine Nv ?_
  have hqi:(a:Int) / (c:Int)=((a / c:Nat):Int):=by simp
  have hmi:(a:Int) % (c:Int)=((a % c:Nat):Int):=by simp
  have hq64:a / c<18446744073709551616:=Nat.lt_of_le_of_lt (Nat.div_le_self _ _) ha64
  have hm64:a % c<18446744073709551616:=Nat.lt_of_le_of_lt (Nat.mod_le _ _) ha64
  generalize hqd:a / c=qq at *
  generalize hmd:a % c=mm at *
  refine St.draw 8 [(28,Is (.int .u64 a)),(29,Is (.int .u64 c)),(30,Is (.int .u64 qq)),(31,fun v w'=>SlO w.heap.size w' v (limbs qq)),(32,Is (.int .u64 a)),(33,Is (.int .u64 c)),(34,Is (.int .u64 mm)),(35,fun v w'=>SlO w.heap.size w' v (limbs mm))] TBfol (by kernel_rfl) rfl (by kernel_rfl) (by kernel_rfl)
   ⟨Is.mono _,Is.mono _,Is.mono _,fun _ _ _ hx hv=>hv.ext hx,Is.mono _,Is.mono _,Is.mono _,fun _ _ _ hx hv=>hv.ext hx,trivial⟩ ?_ ?_
  ·refine ⟨?_,?_,?_,?_,?_,?_,?_,?_,trivial⟩
   ·exact fun w3 hx3=>OpG.pure TBok rfl rfl rfl rfl rfl rfl
   ·exact fun w3 hx3=>OpG.pure TBok rfl rfl rfl rfl rfl rfl
   ·rintro w3 hx3 _ rfl _ rfl
    exact OpG.run rfl rfl rfl rfl (RunsTo.quo rfl rfl (by omega) (by omega)) (by rw [hqi,u64_id (by omega) (by omega)];rfl)
   ·rintro w3 hx3 _ rfl
    refine OpG.call fn_integer_fromWord rfl rfl rfl (fromWord_spec w3 qq hq64) ?_
    rintro v w4 ⟨hx4,hv4⟩
    exact ⟨hx4,hv4.mono (Nat.le_trans hx1.size hx3.size)⟩
   ·exact fun w3 hx3=>OpG.pure TBok rfl rfl rfl rfl rfl rfl
   ·exact fun w3 hx3=>OpG.pure TBok rfl rfl rfl rfl rfl rfl
   ·rintro w3 hx3 _ rfl _ rfl
    exact OpG.run rfl rfl rfl rfl (RunsTo.rem rfl rfl (by omega) (by omega)) (by rw [hmi];rfl)
   ·rintro w3 hx3 _ rfl
    refine OpG.call fn_integer_fromWord rfl rfl rfl (fromWord_spec w3 mm hm64) ?_
    rintro v w4 ⟨hx4,hv4⟩
    exact ⟨hx4,hv4.mono (Nat.le_trans hx1.size hx3.size)⟩
  rintro w3 hx3 _ _ _ _ _ _ v31 h31 _ _ _ _ _ _ v35 h35 _
  refine .r rfl ?_
  (iterate 6 refine Nv ?_;try refine .r rfl ?_)
  exact Out.ret2 rfl rfl rfl ⟨hx1.trans hx3,_,_,rfl,h31,h35⟩
 refine St.condF rfl (by simp;omega) ?_
 (iterate 6 refine Nv ?_;try refine .r rfl ?_)
 by_cases hn1:(limbs c).length=1
 ·-- one limb
  refine St.condT rfl (by simp;omega) ?_
  (iterate 6 refine Nv ?_;try refine .r rfl ?_)
  have hane:limbs a≠[]:=fun e=>by rw [e] at hw2;simp at hw2
  refine .s (OpR.call fn_slices_Clone_uint32_uint32 rfl (clone_spec w1 _ _ h1 (by omega))) ?_
  rintro r w2 ⟨hx2,hr⟩
  have k2:=k1.ext hx2
  obtain ⟨g,cap,D,rfl,hg,hb2,hcap,hcapm⟩:=hr.opened hane
  have hcx:(limbs c)[0]?=some (limbs c)[0]:=by simp
  generalize (limbs c)[0]=x at hcx
  have hcv:c=x:=hvalc.symm.trans (val_one hn1 hcx)
  subst hcv
  have hxl:=k.2.get hcx
  (iterate 6 refine Nv ?_;try refine .r rfl ?_)
  refine StL.elem TBok 0 (u32 c) k2.1 (k2.get hcx) rfl rfl rfl rfl rfl rfl rfl rfl rfl rfl rfl (fun _=>rfl) ?_
  intro p1
  refine .r rfl ?_
  refine .s (OpR.call fn_integer_divideByLimb rfl (divideByLimb_spec w2 g 0 cap c [] D (limbs a) hb2 rfl h.2 (by omega) (by omega) hxl)) ?_
  rintro _ w3 ⟨rfl,hu3,us,husl,huslim,husv,hb3⟩
  rw [hval]
  rw [hval] at husv
  have hmb:a % c<4294967296:=Nat.lt_trans (Nat.mod_lt _ (by omega)) hxl
  have hx12:Ext w w2:=hx1.trans hx2
  have hx3:Ext w w3:=hx12.then_upd hu3 (Nat.le_trans hx1.size hg)
  have hO:SlO w.heap.size w3 (.slice (some ⟨g,0,none⟩) (limbs a).length cap) us:=SlO.closed hb3 huslim husl.symm (Nat.le_trans hx1.size hg) (by omega) hcapm
  (iterate 6 refine Nv ?_;try refine .r rfl ?_)
  refine .s (OpR.call fn_integer_trim rfl (trim_spec w3 _ _ hO.sl (by omega))) ?_
  rintro _ w4 ⟨rfl,rfl,_⟩
  have hOt:=hO.trimmed
  rw [husv] at hOt ⊢
  generalize hmd:a % c=mm at *
  refine .a 2 (.int .u64 (mm:Int)) rfl (by rw [u64_id (by omega) (by omega)]) ?_
  refine .s (OpR.call fn_integer_fromWord rfl (fromWord_spec _ mm (by omega))) ?_
  rintro rr w5 ⟨hx5,hr5⟩
  (iterate 6 refine Nv ?_;try refine .r rfl ?_)
  exact Out.ret2 rfl rfl rfl ⟨hx3.trans hx5,_,_,rfl,hOt.ext hx5,hr5.mono hx3.size⟩
 refine St.condF rfl (by simp;omega) ?_
 obtain ⟨m,hm⟩:∃ m,(limbs c).length=m+2:=⟨(limbs c).length - 2,by omega⟩
 obtain ⟨t,ht⟩:∃ t,(limbs a).length=m+2+t:=⟨(limbs a).length - (m+2),by omega⟩
 have htop:(limbs c)[m+1]?=some (limbs c)[m+1]:=by simp
 generalize (limbs c)[m+1]=tp at htop
 have htpl:=k.2.get htop
 have htp0:tp≠0:=limbs_last_ne htop (by omega)
 (iterate 6 refine Nv ?_;try refine .r rfl ?_)
 refine StL.elem TBok (m+1) (u32 tp) k1.1 (k1.get htop) (by rw [hm,i64_id (by omega) (by omega)];omega) rfl rfl rfl rfl rfl rfl rfl rfl rfl rfl (fun _=>rfl) ?_
 intro p1
 refine .s (OpR.call fn_math_bits_LeadingZeros32 rfl (lz32_spec w1 tp htp0 htpl)) ?_
 rintro _ w2 ⟨rfl,s,rfl,hs,hs1,hs2⟩
 (iterate 6 refine Nv ?_;try refine .r rfl ?_)
 refine .s (OpR.call fn_integer_shiftLeft rfl (shiftLeft_spec _ _ s _ k1 (by omega) hs)) ?_
 rintro _ w3 ⟨hx3,rfl,ds,hdsl,hdslim,hdsv,hbd⟩
 rw [hvalc] at hdsv
 refine .r rfl ?_
 refine .p (RunsTo.sliceHi TBok rfl rfl rfl rfl (by omega) (by omega)) ?_
 rw [Int.toNat_natCast]
 have h3:=h1.ext hx3
 (iterate 6 refine Nv ?_;try refine .r rfl ?_)
 refine .s (OpR.call fn_integer_shiftLeft rfl (shiftLeft_spec _ _ s _ h3 (by omega) hs)) ?_
 rintro _ w4 ⟨hx4,rfl,rs0,hrsl,hrslim,hrsv,hbr⟩
 rw [hval] at hrsv
 (iterate 6 refine Nv ?_;try refine .r rfl ?_)
 have eq1:IntKind.i64.wrap (IntKind.i64.wrap (((limbs a).length:Int) - ((limbs c).length:Int))+1)=((t+1:Nat):Int):=by
  rw [i64_id (n:=((limbs a).length:Int) - ((limbs c).length:Int)) (by omega) (by omega),i64_id (by omega) (by omega)];omega
 have eq0:IntKind.i64.wrap (((limbs a).length:Int) - ((limbs c).length:Int))=(t:Int):=by
  rw [i64_id (by omega) (by omega)];omega
 refine .s (OpR.make TBok (t+1) rfl rfl rfl rfl rfl eq1 rfl eq1 (by simp;omega) (by omega)) ?_
 rintro _ w5 ⟨rfl,hbq,hx5,_⟩
 rw [hm] at hdsl
 obtain ⟨hvsv,hVlt,hVge,v1,hv1,hv1ge⟩:=norm_facts hm htop hs hs1 hs2 hdsl hdslim hdsv
 have hsz2:w2.heap.size<w3.heap.size:=hbd.lt
 have hsz3:w3.heap.size<w4.heap.size:=hbr.lt
 have hx04:Ext w w4:=(hx1.trans hx3).trans hx4
 have hx05:Ext w w5:=hx04.trans hx5
 have halt:=val_lt (limbs a) (lim_limbs a)
 rw [hval,ht] at halt
 have hfirst:=first_below halt hs hVge (by omega) hrsv
 have hV0:0<c * 2 ^ s:=Nat.mul_pos (by omega) (Nat.pow_pos (by decide))
 generalize hVd:c * 2 ^ s=V at *
 (iterate 6 refine Nv ?_;try refine .r rfl ?_)
 refine St.loop (fun g:Nat×List Nat×List Nat=>[(1,.slice q (limbs c).length cb),(4,.slice (some ⟨w4.heap.size,0,none⟩) (t+1) (t+1)),(9,.int .i64 s),(10,.slice (some ⟨w2.heap.size,0,none⟩) (limbs c).length ((limbs c).length+1)),(11,.slice (some ⟨w3.heap.size,0,none⟩) ((limbs a).length+1) ((limbs a).length+1)),(12,.int .i64 ((g.1:Int) - 1))])
  (fun g w'=>Ext w w'∧Blk 139 w' w3.heap.size (g.2.1.map u32)∧g.2.1.length=t+m+3∧Lim g.2.1∧Blk 139 w' w4.heap.size (g.2.2.map u32)∧g.2.2.length=t+1∧Lim g.2.2∧Blk 139 w' w2.heap.size (ds.map u32)∧g.1≤t+1∧val (g.2.1.drop g.1)<V∧val rs0=val g.2.1+(val (g.2.2.drop g.1) * 4294967296 ^ g.1) * V)
  (fun g=>g.1) (t+1,rs0,List.replicate (t+1) 0) ⟨rfl,rfl,rfl,rfl,rfl,?_,trivial⟩ ⟨hx05,hbr.ext hx5,by simp only;omega,hrslim,by rw [List.map_replicate];exact hbq,by simp,lim_replicate _,(hbd.ext hx4).ext hx5,Nat.le_refl _,hfirst,by simp [val]⟩ ?_
 ·show some (Value.int .i64 (IntKind.i64.wrap (((limbs a).length:Int) - ((limbs c).length:Int))))=_
  rw [eq0]
  simp
 rintro ⟨jj,rs,qs⟩ w6 ⟨hx6,hb6,hrl,hrlim,hbq6,hql,hqlim,hbd6,hjj,hlow,heq⟩
 dsimp only at hb6 hrl hrlim hbq6 hql hqlim hbd6 hjj hlow heq ⊢
 by_cases hj0:jj=0
 ·subst hj0
  simp only [List.drop_zero,Nat.pow_zero,Nat.mul_one] at hlow heq
  have hfin:a / c=val qs∧a % c=val rs / 2 ^ s:=by
   have hp:0<2 ^ s:=Nat.pow_pos (by decide)
   have hU:a * 2 ^ s=val qs * V+val rs:=by rw [← hrsv];omega
   obtain ⟨q1,q2⟩:=mod_eq_of hU hlow
   rw [← hVd] at q1 q2
   rw [Nat.mul_div_mul_right _ _ hp] at q1
   rw [Nat.mul_mod_mul_right] at q2
   exact ⟨q1,by rw [← q2,Nat.mul_div_cancel _ hp]⟩
  refine Nv ?_
  refine .a 2 (.bool false) rfl (bool_false (by simp)) ?_
  refine Nv ?_
  refine .cF ?_
  (iterate 6 refine Nv ?_;try refine .r rfl ?_)
  have hb6':Blk 139 w6 w3.heap.size ([]++(rs.map u32++[])):=by simpa using hb6
  have hsr:=shiftRight_spec w6 w3.heap.size 0 ((limbs a).length+1) s [] [] rs hb6' rfl hrlim (by omega) hs
  rw [show rs.length=(limbs a).length+1 from by omega] at hsr
  refine .s (OpR.call fn_integer_shiftRight rfl hsr) ?_
  rintro _ w7 ⟨hu7,hb7⟩
  have hx7:Ext w w7:=hx6.then_upd hu7 (by have:=hx1.size;have:=hx3.size;omega)
  have hbq7:=hbq6.upd hu7 (by omega)
  have hOq:SlO w.heap.size w7 (.slice (some ⟨w4.heap.size,0,none⟩) (t+1) (t+1)) qs:=⟨Blk.own hbq7 (by simp;omega) hx04.size (by omega),hqlim⟩
  have hOr:SlO w.heap.size w7 (.slice (some ⟨w3.heap.size,0,none⟩) ((limbs a).length+1) ((limbs a).length+1)) (srL s rs):=⟨Blk.own (by simpa using hb7) (by simp [srL_length];omega) (hx1.trans hx3).size (by omega),lim_srL _ _⟩
  (iterate 6 refine Nv ?_;try refine .r rfl ?_)
  refine .s (OpR.call fn_integer_trim rfl (trim_spec w7 _ _ hOq.sl (by omega))) ?_
  rintro _ w8 ⟨rfl,rfl,_⟩
  refine .r rfl ?_
  refine .s (OpR.call fn_integer_trim rfl (trim_spec _ _ _ hOr.sl (by rw [srL_length];omega))) ?_
  rintro _ w8 ⟨rfl,rfl,_⟩
  (iterate 6 refine Nv ?_;try refine .r rfl ?_)
  have t1:=hOq.trimmed
  have t2:=hOr.trimmed
  rw [val_srL s hs rs hrlim] at t2 ⊢
  rw [← hfin.2] at t2 ⊢
  rw [← hfin.1] at t1 ⊢
  exact Out.ret2 rfl rfl rfl ⟨hx7,_,_,rfl,t1,t2⟩
 obtain ⟨j,rfl⟩:∃ j,jj=j+1:=⟨jj - 1,by omega⟩
 have hxj:rs[j]?=some rs[j]:=by simp
 generalize rs[j]=xj at hxj
 have hxjl:=hrlim.get hxj
 obtain ⟨hs1',hs2',hs3'⟩:=seg_all (m:=m) hxj (by omega) hlow hVlt
 have e0:(((j+1:Nat):Int) - 1)=(j:Int):=by omega
 rw [e0]
 have hsegl:((rs.drop j).take (m+3)).length=m+3:=by simp;omega
 have hsplit:rs.map u32=(rs.take j).map u32++(((rs.drop j).take (m+3)).map u32++(rs.drop (j+m+3)).map u32):=by
  rw [← List.map_append,← List.map_append]
  congr 1
  rw [show j+m+3=j+(m+3) from by omega,← List.drop_drop,List.take_append_drop,List.take_append_drop]
 refine Nv ?_
 refine .a 2 (.bool true) rfl (bool_true (by omega)) ?_
 refine Nv ?_
 refine .cT ?_
 (iterate 6 refine Nv ?_;try refine .r rfl ?_)
 have eL:IntKind.i64.wrap (IntKind.i64.wrap ((j:Int)+((limbs c).length:Int))+1)=((j+m+3:Nat):Int):=by
  rw [i64_id (n:=(j:Int)+((limbs c).length:Int)) (by omega) (by omega),i64_id (by omega) (by omega)];omega
 refine .p (RunsTo.sliceLoHi TBok rfl rfl rfl rfl rfl rfl (by omega) (by rw [eL];omega) (by rw [eL];omega) (by omega)) ?_
 rw [eL,show (((j+m+3:Nat):Int).toNat - (j:Int).toNat)=m+3 from by omega,show (0+(j:Int).toNat)=j from by omega]
 refine .r rfl ?_
 have hdiv:Sl w6 (.slice (some ⟨w2.heap.size,0,none⟩) (limbs c).length ((limbs c).length+1)) (ds.take (m+2)):=by
  refine ⟨Blk.row hbd6 (by simp;omega) (by omega) (by simp;omega) ?_,hdslim.take _⟩
  rw [List.drop_zero,List.map_take,hm]
 rw [hsplit] at hb6
 have hds:=divideStep_spec w6 w3.heap.size j ((limbs a).length+1 - (j:Int).toNat) m _ _ _ _ _ v1 hb6 (by simp;omega) ((hrlim.drop j).take (m+3)) hdiv (fun c' o' s' l' cap' e=>by cases e;omega) (by simp;omega) hsegl (by omega) hv1 hv1ge (by
  rw [hs1',hs3',hvsv]
  have:(val (rs.drop (j+1))+1) * 4294967296≤V * 4294967296:=Nat.mul_le_mul_right _ hlow
  omega)
 refine .s (OpR.call fn_integer_divideStep rfl hds) ?_
 rintro _ w7 ⟨rfl,hu7,us',husl,huslim,husv,hb7⟩
 rw [hs1',hvsv] at husv ⊢
 have hbq7:=hbq6.upd hu7 (by omega)
 have hbd7:=hbd6.upd hu7 (by omega)
 have hx7:Ext w w7:=hx6.then_upd hu7 (hx1.trans hx3).size
 have hqlt:val (rs.drop j) / V<4294967296:=by
  apply Nat.div_lt_of_lt_mul
  rw [hs3']
  have:(val (rs.drop (j+1))+1) * 4294967296≤V * 4294967296:=Nat.mul_le_mul_right _ hlow
  omega
 have hdm:=Nat.div_add_mod (val (rs.drop j)) V
 have hml:=Nat.mod_lt (val (rs.drop j)) hV0
 generalize val (rs.drop j) / V=qd at *
 refine StL.put TBok j hbq7 rfl (by omega) (by simp;omega) rfl rfl rfl rfl rfl rfl rfl rfl (fun _=>rfl) (fun _=>rfl) rfl rfl ?_
 intro p3 w8 hb8 hu8
 rw [Nat.zero_add,map_set_u32] at hb8
 (iterate 6 refine Nv ?_;try refine .r rfl ?_)
 have hb7':Blk 139 w8 w3.heap.size ((rs.take j++(us'++rs.drop (j+m+3))).map u32):=by
  have:=hb7.upd hu8 (by omega)
  simpa using this
 have hdrop:(rs.take j++(us'++rs.drop (j+m+3))).drop j=us'++rs.drop (j+m+3):=by
  rw [List.drop_append_of_le_length (by simp;omega),List.drop_of_length_le (by simp;omega)];simp
 have hvd:val (us'++rs.drop (j+m+3))=val us':=by rw [val_append,hs2'];simp
 have hlj:(rs.take j).length=j:=by simp;omega
 refine Out.again (j,rs.take j++(us'++rs.drop (j+m+3)),qs.set j qd) ⟨rfl,rfl,rfl,rfl,rfl,?_,trivial⟩ ⟨hx7.then_upd hu8 hx04.size,hb7',by simp;omega,(hrlim.take j).append (huslim.append (hrlim.drop _)),hb8,by simpa using hql,hqlim.set _ hqlt,hbd7.upd hu8 (by omega),by simp only;omega,?_,?_⟩ (by simp only;omega)
 ·show some (Value.int .i64 (IntKind.i64.wrap ((j:Int) - 1)))=_
  rw [i64_id (by omega) (by omega)]
 ·simp only
  rw [hdrop,hvd,husv]
  exact hml
 ·simp only
  have hqs:(qs.set j qd)[j]?=some qd:=List.getElem?_set_self (by omega)
  rw [drop_pred hqs,List.drop_set_of_lt (by omega),val_append (rs.take j),hlj,hvd,husv,heq]
  have hv0:=val_split rs j
  rw [show min j rs.length=j from by omega] at hv0
  rw [hv0]
  conv=>lhs;rw [← hdm]
  rw [Nat.pow_succ]
  generalize 4294967296 ^ j=W
  generalize val (qs.drop (j+1))=Q
  generalize val (rs.drop j) % V=M
  have e1:W * (V * qd+M)=W * M+qd * W * V:=by rw [Nat.mul_add,Nat.add_comm];congr 1;rw [Nat.mul_comm V,← Nat.mul_assoc,Nat.mul_comm W]
  have e2:(qd+4294967296 * Q) * W * V=qd * W * V+Q * (W * 4294967296) * V:=by
   rw [Nat.add_mul,Nat.add_mul];congr 2;rw [Nat.mul_comm 4294967296,Nat.mul_assoc,Nat.mul_comm 4294967296]
  rw [e1,e2]
  omega
theorem gcd_step (a b:Nat):Nat.gcd b (a % b)=Nat.gcd a b:=by
 rw [Nat.gcd_comm a b,Nat.gcd_rec b a,Nat.gcd_comm]
set_option maxHeartbeats 1000000 in
theorem gcdNat_spec (w:World) (u v:Value) (a b:Nat) (h:Sl w u (limbs a)) (k:Sl w v (limbs b)) (hlen:(limbs a).length≤10000000) (hl:(limbs b).length≤10000000) :
  Calls Tryz.prog 175 #[u,v] w (Ret fun r w'=>Ext w w'∧SlO w.heap.size w' r (limbs (Nat.gcd a b))):=by
 refine calls_of_St (args:=[_,_]) Tryz.func175 rfl Tryz.ntmps175 rfl ?_
 refine St.seq (St.region (StL.run TBok 99 rfl (StL.nil (Out.then_normal ?_))))
 refine St.cut (fun g:(Value×Value)×Nat×Nat=>[(0,g.1.1),(1,g.1.2)]) (fun g w'=>Ext w w'∧Sl w' g.1.1 (limbs g.2.1)∧Sl w' g.1.2 (limbs g.2.2)∧Nat.gcd g.2.1 g.2.2=Nat.gcd a b∧(limbs g.2.1).length≤2∧(limbs g.2.2).length≤2) ?_ ?_
 ·refine Nv ?_
  refine St.loop (fun g:(Value×Value)×Nat×Nat=>[(0,g.1.1),(1,g.1.2)]) (fun g w'=>Ext w w'∧Sl w' g.1.1 (limbs g.2.1)∧Sl w' g.1.2 (limbs g.2.2)∧Nat.gcd g.2.1 g.2.2=Nat.gcd a b∧(limbs g.2.1).length≤10000000∧(limbs g.2.2).length≤10000000) (fun g=>g.2.2) ((u,v),a,b) ⟨rfl,rfl,trivial⟩ ⟨Ext.refl _,h,k,rfl,hlen,hl⟩ ?_
  rintro ⟨⟨u1,v1⟩,a1,b1⟩ w1 ⟨hx1,h1,k1,hg1,hl1,hl2⟩
  dsimp only at h1 k1 hg1 hl1 hl2 ⊢
  obtain ⟨p,c,rfl,_⟩:=h1.form
  obtain ⟨q,d,rfl,_⟩:=k1.form
  by_cases hbig:2<(limbs a1).length∨2<(limbs b1).length
  ·refine St.seq (St.cut (fun _:Unit=>[(0,.slice p (limbs a1).length c),(1,.slice q (limbs b1).length d),(16,.bool true)]) (fun _ w'=>w'=w1) ?_ ?_)
   ·refine Nv ?_
    by_cases hb1:2<(limbs a1).length
    ·refine .a 3 (.bool true) rfl (bool_true (by omega)) ?_
     refine .r rfl ?_
     exact StL.nil (Out.met () ⟨rfl,rfl,rfl,trivial⟩ rfl)
    ·refine .a 3 (.bool false) rfl (bool_false (by omega)) ?_
     refine .a 4 (.bool true) rfl (bool_true (by omega)) ?_
     refine .r rfl ?_
     exact StL.nil (Out.met () ⟨rfl,rfl,rfl,trivial⟩ rfl)
   rintro _ w' rfl
   refine .cT ?_
   (iterate 6 refine Nv ?_;try refine .r rfl ?_)
   by_cases hb0:b1=0
   ·subst hb0
    refine .cT ?_
    (iterate 6 refine Nv ?_;try refine .r rfl ?_)
    refine .s (OpR.call fn_slices_Clone_uint32_uint32 rfl (clone_spec _ _ _ h1 (by omega))) ?_
    rintro r w2 ⟨hx2,hr⟩
    (iterate 6 refine Nv ?_;try refine .r rfl ?_)
    refine Out.ret1 rfl rfl ⟨hx1.trans hx2,?_⟩
    rw [← hg1,Nat.gcd_zero_right]
    exact hr.mono hx1.size
   ·refine St.condF rfl (by simp [limbs_eq_nil,hb0]) ?_
    (iterate 6 refine Nv ?_;try refine .r rfl ?_)
    refine .s (OpR.call fn_integer_divNat rfl (divNat_spec _ _ _ a1 b1 h1 k1 hl1 hl2 hb0)) ?_
    rintro _ w2 ⟨hx2,q2,r2,rfl,hq2,hr2⟩
    have hmod:=Nat.mod_lt a1 (Nat.pos_of_ne_zero hb0)
    (iterate 6 refine Nv ?_;try refine .r rfl ?_)
    refine Out.again ((_,_),b1,a1 % b1) ⟨rfl,rfl,trivial⟩ ⟨hx1.trans hx2,k1.ext hx2,hr2.sl,by simp only;rw [gcd_step];exact hg1,hl2,Nat.le_trans (limbs_length_mono _ _ (Nat.le_of_lt hmod)) hl2⟩ hmod
  ·refine Nv ?_
   refine .a 3 (.bool false) rfl (bool_false (by omega)) ?_
   refine .a 4 (.bool false) rfl (bool_false (by omega)) ?_
   (iterate 6 refine Nv ?_;try refine .r rfl ?_)
   refine St.condF rfl rfl (St.exit (Out.then_exit (Out.then_exit (Out.block_exit (Out.met ((_,_),a1,b1) ⟨rfl,rfl,trivial⟩ ⟨hx1,h1,k1,hg1,by simp only;omega,by simp only;omega⟩)))))
 rintro ⟨⟨u1,v1⟩,a1,b1⟩ w1 ⟨hx1,h1,k1,hg1,hl1,hl2⟩
 dsimp only at h1 k1 hg1 hl1 hl2 ⊢
 have ha64:a1<18446744073709551616:=by rw [← val_limbs a1];exact val_le_two h1.2 hl1
 have hb64:b1<18446744073709551616:=by rw [← val_limbs b1];exact val_le_two k1.2 hl2
 (iterate 6 refine Nv ?_;try refine .r rfl ?_)
 refine .s (OpR.call fn_integer_word rfl (word_spec _ _ _ h1 hl1)) ?_
 rintro _ w2 ⟨rfl,rfl⟩
 refine .r rfl ?_
 refine .s (OpR.call fn_integer_word rfl (word_spec _ _ _ k1 hl2)) ?_
 rintro _ w2 ⟨rfl,rfl⟩
 rw [val_limbs,val_limbs]
 (iterate 6 refine Nv ?_;try refine .r rfl ?_)
 refine St.loop (fun g:Nat×Nat=>[(7,.int .u64 g.1),(8,.int .u64 g.2)]) (fun g w'=>Ext w w'∧Nat.gcd g.1 g.2=Nat.gcd a b∧g.1<18446744073709551616∧g.2<18446744073709551616) (fun g=>g.2) (a1,b1) ⟨rfl,rfl,trivial⟩ ⟨hx1,hg1,ha64,hb64⟩ ?_
 rintro ⟨x,y⟩ w3 ⟨hx3,hg3,hx64,hy64⟩
 dsimp only at hg3 hx64 hy64 ⊢
 (iterate 6 refine Nv ?_;try refine .r rfl ?_)
 by_cases hy0:y=0
 ·subst hy0
  refine .cF ?_
  (iterate 6 refine Nv ?_;try refine .r rfl ?_)
  refine .s (OpR.call fn_integer_fromWord rfl (fromWord_spec w3 x hx64)) ?_
  rintro r w4 ⟨hx4,hr4⟩
  (iterate 6 refine Nv ?_;try refine .r rfl ?_)
  refine Out.ret1 rfl rfl ⟨hx3.trans hx4,?_⟩
  rw [← hg3,Nat.gcd_zero_right]
  exact hr4.mono hx3.size
 ·refine St.condT rfl (by simp;omega) ?_
  refine Nv ?_
  refine St.quiet TBfol (by kernel_rfl) ?_
  refine .run TBok 99 rfl ?_
  refine QL.step rfl rfl rfl (fun _=>RunsTo.rem rfl rfl (by omega) (by omega)) ?_
  rw [show (x:Int) % (y:Int)=((x % y:Nat):Int) from by simp]
  have hmod:=Nat.mod_lt x (Nat.pos_of_ne_zero hy0)
  refine .run TBok 99 rfl ?_
  refine QL.nil fun m3=>?_
  refine Nv ?_
  refine Out.again (y,x % y) ⟨rfl,rfl,trivial⟩ ⟨hx3.drewN m3,by simp only;rw [gcd_step];exact hg3,hy64,by simp only;omega⟩ hmod
def IsRoot (a r:Nat):Prop:=r * r≤a∧a<(r+1) * (r+1)
theorem IsRoot.unique {a r s:Nat} (h:IsRoot a r) (k:IsRoot a s):r=s:=by
 rcases Nat.lt_trichotomy r s with h1 | h1 | h1
 ·exfalso
  have:(r+1) * (r+1)≤s * s:=Nat.mul_le_mul h1 h1
  have:=h.2;have:=k.1;omega
 ·exact h1
 ·exfalso
  have:(s+1) * (s+1)≤r * r:=Nat.mul_le_mul h1 h1
  have:=h.1;have:=k.2;omega
theorem four_mul (x z:Nat):4 * (x * z)≤(x+z) * (x+z):=by
 rcases Nat.le_total x z with h | h
 ·obtain ⟨d,rfl⟩:=Nat.exists_eq_add_of_le h
  have:(x+(x+d)) * (x+(x+d))=4 * (x * (x+d))+d * d:=by
   simp only [Nat.mul_add,Nat.add_mul]
   have:=Nat.mul_comm d x
   omega
  omega
 ·obtain ⟨d,rfl⟩:=Nat.exists_eq_add_of_le h
  have:((z+d)+z) * ((z+d)+z)=4 * ((z+d) * z)+d * d:=by
   simp only [Nat.mul_add,Nat.add_mul]
   have:=Nat.mul_comm d z
   omega
  omega
theorem newton_above {a x:Nat} (hx:0<x):a<((x+a / x) / 2+1) * ((x+a / x) / 2+1):=by
 have h1:a<x * (a / x+1):=by
  have:=Nat.div_add_mod a x
  have:=Nat.mod_lt a hx
  rw [Nat.mul_add];omega
 have h2:=four_mul x (a / x+1)
 generalize a / x=q at *
 have h3:x+(q+1)≤2 * ((x+q) / 2+1):=by omega
 have h4:(x+(q+1)) * (x+(q+1))≤(2 * ((x+q) / 2+1)) * (2 * ((x+q) / 2+1)):=Nat.mul_le_mul h3 h3
 have h5:(2 * ((x+q) / 2+1)) * (2 * ((x+q) / 2+1))=4 * (((x+q) / 2+1) * ((x+q) / 2+1)):=by
  rw [Nat.mul_mul_mul_comm]
 omega
theorem newton_done {a x:Nat} (h:x≤(x+a / x) / 2):x * x≤a:=by
 have h1:x≤a / x:=by omega
 exact Nat.le_trans (Nat.mul_le_mul_right _ h1) (Nat.div_mul_le_self a x)
theorem pow_limbs (e:Nat):limbs (2 ^ e)=List.replicate (e / 32) 0++[2 ^ (e % 32)]:=by
 have hv:val (List.replicate (e / 32) 0++[2 ^ (e % 32)])=2 ^ e:=by
  rw [val_append,val_replicate_zero,List.length_replicate]
  simp only [val,Nat.mul_zero,Nat.add_zero,Nat.zero_add]
  rw [show (4294967296:Nat)=2 ^ 32 from rfl,← Nat.pow_mul,← Nat.pow_add]
  congr 1
  omega
 have hlt:2 ^ (e % 32)<4294967296:=Nat.pow_lt_pow_right (by decide) (show e % 32<32 by omega)
 rw [← hv]
 refine limbs_val_snoc _ _ ?_ (by have:0<2 ^ (e % 32):=Nat.pow_pos (by decide);omega)
 exact (lim_replicate _).append (fun x hx=>by simp at hx;omega)
theorem set_last_replicate (k v:Nat):(List.replicate (k+1) 0).set k v=List.replicate k 0++[v]:=by
 rw [List.replicate_succ',List.set_append_right _ _ (by simp)]
 simp
theorem bits_bound {a s tp n:Nat} (hn:(limbs a).length=n+1) (htop:(limbs a)[n]?=some tp) (hs:s<32) (hs2:tp * 2 ^ s<4294967296):a<2 ^ (32 * (n+1) - s):=by
 have ha:=val_take_succ htop
 rw [List.take_of_length_le (by omega),val_limbs] at ha
 have har:=val_lt ((limbs a).take n) ((lim_limbs a).take _)
 rw [show ((limbs a).take n).length=n from by simp;omega] at har
 have htl:tp<2 ^ (32 - s):=by
  have hB:4294967296=2 ^ (32 - s) * 2 ^ s:=by rw [← Nat.pow_add,show 32 - s+s=32 from by omega]
  rw [hB] at hs2
  exact Nat.lt_of_mul_lt_mul_right hs2
 have h1:(tp+1) * 4294967296 ^ n≤2 ^ (32 - s) * 4294967296 ^ n:=Nat.mul_le_mul_right _ htl
 have h2:(2:Nat) ^ (32 - s) * 4294967296 ^ n=2 ^ (32 * (n+1) - s):=by
  rw [show (4294967296:Nat)=2 ^ 32 from rfl,← Nat.pow_mul,← Nat.pow_add]
  congr 1
  omega
 rw [Nat.add_mul,Nat.one_mul] at h1
 omega
set_option maxHeartbeats 1000000 in
theorem sqrtNat_spec (w:World) (u:Value) (a:Nat) (h:Sl w u (limbs a)) (hlen:(limbs a).length≤1000000) :
  Calls Tryz.prog 107 #[u] w (Ret fun r w'=>Ext w w'∧∃ x,IsRoot a x∧SlO w.heap.size w' r (limbs x)):=by
 obtain ⟨p,c,rfl,_⟩:=h.form
 refine calls_of_St (args:=[_]) Tryz.func107 rfl Tryz.ntmps107 rfl ?_
 (iterate 6 refine Nv ?_;try refine .r rfl ?_)
 by_cases ha0:a=0
 ·subst ha0
  refine .cT ?_
  (iterate 6 refine Nv ?_;try refine .r rfl ?_)
  exact Out.ret1 rfl rfl ⟨Ext.refl _,0,⟨by decide,by decide⟩,SlO.nil _ _⟩
 refine St.condF rfl (by simp [limbs_eq_nil,ha0]) ?_
 have hpos:0<(limbs a).length:=List.length_pos_iff.2 (fun e=>ha0 (limbs_eq_nil.1 e))
 obtain ⟨m,hm⟩:∃ m,(limbs a).length=m+1:=⟨(limbs a).length - 1,by omega⟩
 have htop:(limbs a)[m]?=some (limbs a)[m]:=by simp
 generalize (limbs a)[m]=tp at htop
 have htpl:=h.2.get htop
 have htp0:tp≠0:=limbs_last_ne htop (by omega)
 (iterate 6 refine Nv ?_;try refine .r rfl ?_)
 refine StL.elem TBok m (u32 tp) h.1 (h.get htop) (by rw [hm,i64_id (by omega) (by omega)];omega) rfl rfl rfl rfl rfl rfl rfl rfl rfl rfl (fun _=>rfl) ?_
 intro p1
 refine .s (OpR.call fn_math_bits_LeadingZeros32 rfl (lz32_spec w tp htp0 htpl)) ?_
 rintro _ w1 ⟨rfl,s,rfl,hs,hs1,hs2⟩
 have hab:=bits_bound hm htop hs hs2
 have eL:IntKind.i64.wrap (IntKind.i64.wrap (32 * ((limbs a).length:Int)) - (s:Int))=((32 * (m+1) - s:Nat):Int):=by
  rw [i64_id (n:=32 * ((limbs a).length:Int)) (by omega) (by omega),i64_id (by omega) (by omega)];omega
 refine .a 1 (.int .i64 ((32 * (m+1) - s:Nat):Int)) rfl (by rw [eL]) ?_
 generalize hL:32 * (m+1) - s=L at *
 (iterate 6 refine Nv ?_;try refine .r rfl ?_)
 refine .p (RunsTo.quo rfl rfl (by rw [i64_id (by omega) (by omega)];omega) (by omega)) ?_
 have eh:IntKind.i64.wrap (IntKind.i64.wrap ((L:Int)+1) / 2)=(((L+1) / 2:Nat):Int):=by
  rw [i64_id (n:=(L:Int)+1) (by omega) (by omega),i64_id (by omega) (by omega)];omega
 rw [eh]
 have hsq:a<2 ^ ((L+1) / 2) * 2 ^ ((L+1) / 2):=by
  rw [← Nat.pow_add]
  exact Nat.lt_of_lt_of_le hab (Nat.pow_le_pow_right (by decide) (by omega))
 have hfb:(L+1) / 2≤20000000:=by omega
 generalize hh:(L+1) / 2=hf at *
 (iterate 6 refine Nv ?_;try refine .r rfl ?_)
 refine .p (RunsTo.quo rfl rfl (by omega) (by omega)) ?_
 have ed:IntKind.i64.wrap ((hf:Int) / 32)=((hf / 32:Nat):Int):=by rw [i64_id (by omega) (by omega)];omega
 rw [ed]
 refine .r rfl ?_
 have ed1:IntKind.i64.wrap (((hf / 32:Nat):Int)+1)=((hf / 32+1:Nat):Int):=by rw [i64_id (by omega) (by omega)];omega
 refine .s (OpR.make TBok (hf / 32+1) rfl rfl rfl rfl rfl ed1 rfl ed1 (by simp;omega) (by omega)) ?_
 rintro _ w2 ⟨rfl,hb2,hx2,hsz2⟩
 (iterate 6 refine Nv ?_;try refine .r rfl ?_)
 refine .p (RunsTo.quo rfl rfl (by omega) (by omega)) ?_
 rw [ed]
 refine .r rfl ?_
 refine .p (RunsTo.rem rfl rfl (by omega) (by omega)) ?_
 rw [show (hf:Int) % 32=((hf % 32:Nat):Int) from by omega]
 refine .p (RunsTo.shl (hf % 32) rfl rfl rfl (by show hf % 32≤32;omega)) ?_
 have hpl:2 ^ (hf % 32)<4294967296:=Nat.pow_lt_pow_right (by decide) (show hf % 32<32 by omega)
 have es:IntKind.u32.wrap (1 * 2 ^ (hf % 32))=((2 ^ (hf % 32):Nat):Int):=by
  rw [Int.one_mul,show (2:Int) ^ (hf % 32)=((2 ^ (hf % 32):Nat):Int) from by simp]
  generalize 2 ^ (hf % 32)=t at hpl
  exact u32_id (by omega) (by omega)
 rw [es]
 have hb2':Blk 139 w2 w1.heap.size ((List.replicate (hf / 32+1) 0).map u32):=by rw [List.map_replicate];exact hb2
 refine StL.put TBok (hf / 32) hb2' rfl (by omega) (by simp) rfl rfl rfl rfl rfl rfl rfl rfl (fun _=>rfl) (fun _=>rfl) rfl rfl ?_
 intro p2 w3 hb3 hu3
 rw [Nat.zero_add,map_set_u32,set_last_replicate,← pow_limbs] at hb3
 have hx3:Ext w1 w3:=hx2.then_upd hu3 (Nat.le_refl _)
 have hrl:(limbs (2 ^ hf)).length=hf / 32+1:=by rw [pow_limbs];simp
 have hO:SlO w1.heap.size w3 (.slice (some ⟨w1.heap.size,0,none⟩) (hf / 32+1) (hf / 32+1)) (limbs (2 ^ hf)):=⟨Blk.own hb3 (by simp [hrl]) (Nat.le_refl _) (by omega),lim_limbs _⟩
 (iterate 6 refine Nv ?_;try refine .r rfl ?_)
 refine St.loop (fun g:Value×Nat=>[(0,.slice p (limbs a).length c),(5,g.1)]) (fun g w'=>Ext w1 w'∧SlO w1.heap.size w' g.1 (limbs g.2)∧0<g.2∧g.2≤2 ^ hf∧a<(g.2+1) * (g.2+1)) (fun g=>g.2) (_,2 ^ hf) ⟨rfl,rfl,trivial⟩ ⟨hx3,hO,Nat.pow_pos (by decide),Nat.le_refl _,?_⟩ ?_
 ·exact Nat.lt_of_lt_of_le hsq (Nat.mul_le_mul (Nat.le_succ _) (Nat.le_succ _))
 rintro ⟨rv,x⟩ w4 ⟨hx4,hO4,hxp,hxle,hxa⟩
 dsimp only at hO4 hxp hxle hxa ⊢
 have hxl:(limbs x).length≤1000000:=Nat.le_trans (limbs_length_mono _ _ hxle) (by rw [hrl];omega)
 have h4:=h.ext hx4
 (iterate 6 refine Nv ?_;try refine .r rfl ?_)
 refine .s (OpR.call fn_integer_divNat rfl (divNat_spec w4 _ _ a x h4 hO4.sl (by omega) (by omega) (by omega))) ?_
 rintro _ w5 ⟨hx5,qv,_,rfl,hq5,_⟩
 have hql:(limbs (a / x)).length≤1000000:=Nat.le_trans (limbs_length_mono _ _ (Nat.div_le_self _ _)) hlen
 have hO5:=hO4.ext hx5
 (iterate 6 refine Nv ?_;try refine .r rfl ?_)
 refine .s (OpR.call fn_integer_addNat rfl (addNat_spec w5 _ _ _ _ hO5.sl hq5.sl (by omega) (by omega))) ?_
 rintro nv w6 ⟨hx6,hO6⟩
 rw [val_limbs,val_limbs] at hO6
 have habove:=newton_above (a:=a) hxp
 have hsumlen:(limbs (x+a / x)).length≤1000001:=by
  have:=limbs_add_length x (a / x)
  omega
 have hsm0:x+a / x≠0:=Nat.ne_of_gt (Nat.lt_of_lt_of_le hxp (Nat.le_add_right _ _))
 generalize hsum:x+a / x=sm at *
 obtain ⟨g,cap,D,rfl,hg,hb6,hcap,hcapm⟩:=hO6.opened (fun e=>hsm0 (limbs_eq_nil.1 e))
 (iterate 6 refine Nv ?_;try refine .r rfl ?_)
 refine .s (OpR.call fn_integer_shiftRight rfl (shiftRight_spec w6 g 0 cap 1 [] D (limbs sm) hb6 rfl (lim_limbs _) (by omega) (by decide))) ?_
 rintro _ w7 ⟨hu7,hb7⟩
 have hx7:Ext w5 w7:=hx6.then_upd hu7 hg
 have hx17:Ext w1 w7:=(hx4.trans hx5).trans hx7
 have hO7:SlO w1.heap.size w7 (.slice (some ⟨g,0,none⟩) (limbs sm).length cap) (srL 1 (limbs sm)):=SlO.closed hb7 (lim_srL _ _) (srL_length _ _).symm (Nat.le_trans (hx4.trans hx5).size hg) (by rw [srL_length];exact hcap) hcapm
 (iterate 6 refine Nv ?_;try refine .r rfl ?_)
 refine .s (OpR.call fn_integer_trim rfl (trim_spec w7 _ _ hO7.sl (by rw [srL_length];omega))) ?_
 rintro _ w8 ⟨rfl,rfl,_⟩
 have hOt:=hO7.trimmed
 rw [val_srL 1 (by decide) _ (lim_limbs _),val_limbs,Nat.pow_one] at hOt ⊢
 have hnl:(limbs (sm / 2)).length≤1000001:=Nat.le_trans (limbs_length_mono _ _ (Nat.div_le_self _ _)) hsumlen
 have hn0:0<sm / 2:=by
  rcases Nat.eq_zero_or_pos (sm / 2) with h0 | h0
  ·rw [h0] at habove;simp at habove;omega
  ·exact h0
 have hO8:=hO5.ext hx7
 (iterate 6 refine Nv ?_;try refine .r rfl ?_)
 refine .s (OpR.call fn_integer_compareNat rfl (compareNat_spec _ _ _ (sm / 2) x hOt.sl hO8.sl (by omega) (by omega))) ?_
 rintro _ w9 ⟨hx9,rfl⟩
 by_cases hdone:x≤sm / 2
 ·refine .a 1 (.bool true) rfl (bool_true (by unfold cmpN;rw [if_neg (by omega)];split <;> decide)) ?_
  (iterate 6 refine Nv ?_;try refine .r rfl ?_)
  refine .cT ?_
  (iterate 6 refine Nv ?_;try refine .r rfl ?_)
  refine Out.ret1 rfl rfl ⟨hx17.trans hx9,x,⟨newton_done (by rw [hsum];exact hdone),hxa⟩,hO8.ext hx9⟩
 ·refine .a 1 (.bool false) rfl (bool_false (by unfold cmpN;rw [if_pos (by omega)];decide)) ?_
  (iterate 6 refine Nv ?_;try refine .r rfl ?_)
  refine .cF ?_
  (iterate 6 refine Nv ?_;try refine .r rfl ?_)
  refine Out.again (_,sm / 2) ⟨rfl,rfl,trivial⟩ ⟨hx17.trans hx9,hOt.ext hx9,hn0,by simp only;omega,habove⟩ (by simp only;omega)
end Go.Qf
namespace Go.Qf
open Go Go.RowKit
def isV (P:Program) (t:TypeId):Bool:=match P.underlying t with
 | some (.struct _)=>true
 | some (.array _ _)=>true
 | _=>false
structure Rg (P:Program) (T:Nat→Prop) (w w':World):Prop where
 os:w'.os=w.os
 tape:w'.tape=w.tape
 output:w'.output=w.output
 size:w.heap.size≤w'.heap.size
 block:∀ k,k<w.heap.size→w'.heap[k]?=w.heap[k]?∨(T k∧∃ C C' e,isV P e=true∧C'.size=C.size∧w.heap[k]?=some (.cells C e (0,0))∧w'.heap[k]?=some (.cells C' e (0,0)))
section
variable {P:Program} {T:Nat→Prop}
theorem Ext.rg {w w':World} (h:Ext w w'):Rg P T w w':=⟨h.os,h.tape,h.output,h.size,fun k hk=>.inl (h.block k hk)⟩
theorem Rg.trans {x y z:World} (h:Rg P T x y) (k:Rg P T y z):Rg P T x z:=by
 refine ⟨k.os.trans h.os,k.tape.trans h.tape,k.output.trans h.output,Nat.le_trans h.size k.size,fun i hi=>?_⟩
 rcases k.block i (Nat.lt_of_lt_of_le hi h.size) with e2 | ⟨t2,C,C',e,hv,hs,h1,h2⟩
 ·rcases h.block i hi with e1 | ⟨t1,C,C',e,hv,hs,h1,h2⟩
  ·exact .inl (e2.trans e1)
  ·exact .inr ⟨t1,C,C',e,hv,hs,h1,e2.trans h2⟩
 ·rcases h.block i hi with e1 | ⟨t1,D,D',e',hv',hs',h3,h4⟩
  ·exact .inr ⟨t2,C,C',e,hv,hs,e1.symm.trans h1,h2⟩
  ·rw [h4] at h1
   simp only [Option.some.injEq,Obj.cells.injEq] at h1
   obtain ⟨rfl,rfl,_⟩:=h1
   exact .inr ⟨t2,D,C',e',hv,hs.trans hs',h3,h2⟩
theorem Rg.weak {T':Nat→Prop} {w w':World} (h:Rg P T w w') (hT:∀ k,k<w.heap.size→T k→T' k):Rg P T' w w' :=
 ⟨h.os,h.tape,h.output,h.size,fun k hk=>(h.block k hk).imp id fun ⟨t,r⟩=>⟨hT k hk t,r⟩⟩
def VarKept (P:Program) (b:Nat) (w w':World):Prop:=∃ C C' e,isV P e=true∧C'.length=C.length∧Blk e w b C∧Blk e w' b C'
theorem Rg.of_upd {b:Nat} {w w':World} (hu:Upd b w w') (hv:VarKept P b w w') (hT:T b):Rg P T w w':=by
 refine ⟨hu.os,hu.tape,hu.output,hu.size,fun k hk=>?_⟩
 by_cases e:k=b
 ·subst e
  obtain ⟨C,C',e,h1,h2,h3,h4⟩:=hv
  exact .inr ⟨hT,C.toArray,C'.toArray,e,h1,by simpa using h2,h3,h4⟩
 ·exact .inl (hu.block k hk e)
theorem Rg.ext_of {w0 w w':World} (h0:Ext w0 w) (h:Rg P T w w') (hT:∀ k,T k→w0.heap.size≤k):Ext w0 w':=by
 refine ⟨h.os.trans h0.os,h.tape.trans h0.tape,h.output.trans h0.output,Nat.le_trans h0.size h.size,fun k hk=>?_⟩
 rcases h.block k (Nat.lt_of_lt_of_le hk h0.size) with e | ⟨t,_⟩
 ·exact e.trans (h0.block k hk)
 ·have:=hT k t;omega
def Tg (w:World) (L:List Nat) (k:Nat):Prop:=w.heap.size≤k∨k ∈ L
theorem Rg.ext_tg {w0 w w':World} {L:List Nat} (h0:Ext w0 w) (h:Rg P (Tg w L) w w') (hL:∀ k ∈ L,w0.heap.size≤k):Ext w0 w':=by
 refine h.ext_of h0 ?_
 rintro k (h1 | h1)
 ·exact Nat.le_trans h0.size h1
 ·exact hL k h1
theorem Rg.ext_nil {w w':World} (h:Rg P (Tg w []) w w'):Ext w w':=h.ext_tg (Ext.refl _) (by simp)
theorem Rg.blk {w w':World} {L:List Nat} {e:TypeId} {b:Nat} {C:List Value} (h:Rg P (Tg w L) w w') (hb:Blk e w b C) (hL:b ∉ L):Blk e w' b C:=by
 have hlt:=hb.lt
 rcases h.block b hlt with e1 | ⟨h1 | h1,_⟩
 ·exact e1.trans hb
 ·omega
 ·exact absurd h1 hL
theorem Rg.blk_any {w w':World} {e:TypeId} {b:Nat} {C:List Value} (h:Rg P T w w') (hb:Blk e w b C):∃ C',Blk e w' b C'∧C'.length=C.length:=by
 rcases h.block b hb.lt with e1 | ⟨_,D,D',e',_,hs,h1,h2⟩
 ·exact ⟨C,e1.trans hb,rfl⟩
 ·unfold Blk at hb
  rw [hb] at h1
  simp only [Option.some.injEq,Obj.cells.injEq] at h1
  obtain ⟨rfl,rfl,_⟩:=h1
  exact ⟨D'.toList,by unfold Blk;simpa using h2,by simpa using hs⟩
theorem Rg.own {base:Nat} {e:TypeId} {w w':World} {v:Value} {cs:List Value} (h:Rg P T w w') (hv:isV P e=false) (ho:Own base e w v cs):Own base e w' v cs:=by
 refine ⟨ho.1,?_⟩
 rcases ho.2 with h0 | ⟨g,cap,cur,hv',hb,hg,r⟩
 ·exact .inl h0
 ·refine .inr ⟨g,cap,cur,hv',hb,?_,r⟩
  rcases h.block g (Array.getElem?_eq_some_iff.1 hg).1 with e1 | ⟨_,C,C',e',hv2,_,h1,_⟩
  ·exact e1.trans hg
  ·rw [hg] at h1
   simp only [Option.some.injEq,Obj.cells.injEq] at h1
   obtain ⟨_,rfl,_⟩:=h1
   rw [hv] at hv2;cases hv2
end
def MonoR (P:Program) (ψ:Psi):Prop:=∀ v w w',Rg P (fun _=>True) w w'→ψ v w→ψ v w'
def MonoX (P:Program) (χ:Psi):Prop :=
 (∀ v w w',Ext w w'→χ v w→χ v w')∧∀ v w w' b,Upd b w w'→VarKept P b w w'→v≠.pointer (some ⟨b,0,none⟩)→χ v w→χ v w'
theorem MonoR.is (P:Program) (c:Value):MonoR P (Is c):=fun _ _ _ _ h=>h
def Holds (t:TypeId) (ψ:Psi):Psi:=fun v w=>∃ b u,v=.pointer (some ⟨b,0,none⟩)∧Blk t w b u.cells.toList∧ψ u w
theorem MonoX.holds {P:Program} {t:TypeId} {ψ:Psi} (h:MonoR P ψ):MonoX P (Holds t ψ):=by
 refine ⟨?_,?_⟩
 ·rintro v w w' hx ⟨b,u,rfl,hb,hu⟩
  exact ⟨b,u,rfl,hb.ext hx,h u w w' hx.rg hu⟩
 ·rintro v w w' b hU hV hne ⟨c,u,rfl,hb,hu⟩
  exact ⟨c,u,rfl,hb.upd hU (fun e=>hne (by rw [e])),h u w w' (Rg.of_upd hU hV trivial) hu⟩
def stSlot (o:Oper):Option Nat:=match o.dst,o.op with
 | none,.store _ (.tmp p) _=>some p
 | _,_=>none
def stSlots:List Oper→List Nat
 | []=>[]
 | o::r=>match stSlot o with
  | some p=>p::stSlots r
  | none=>stSlots r
def laterFrom (ms:List Nat) (i:Nat):Nat→List Oper→List Nat
 | _,[]=>[]
 | j,o::r=>match stSlot o with
  | some p=>bif (ms.getD j 0).testBit i then laterFrom ms i (j+1) r else p::laterFrom ms i (j+1) r
  | none=>laterFrom ms i (j+1) r
def later (l:List Oper) (m i:Nat):List Nat:=laterFrom (masks [] l) i 0 (l.take m)
def blockOf (E:List (Nat×Value)) (p:Nat):Option Nat:=match look E p with
 | some (.pointer (some ⟨b,0,none⟩))=>some b
 | _=>none
def blocksOf (E:List (Nat×Value)):List Nat→List Nat
 | []=>[]
 | p::r=>match blockOf E p with
  | some b=>b::blocksOf E r
  | none=>blocksOf E r
def envX (X:List (Nat×Value)) (E:List (Nat×Value)):List Nat→List (Nat×Value)
 | []=>E
 | t::r=>match look X t with
  | some v=>(t,v)::envX X E r
  | none=>envX X E r
def Obl (P:Program) (n:Nat) (l:List Oper) (m:Nat) (E:List (Nat×Value)) (w:World) (i:Nat) (X:List (Nat×Value)) (S:List (Nat×Psi)) (o:Oper) (Φ:List (Nat×Value)→World→Value→World→Prop):Prop :=
 ∀ w1,Rg P (Tg w (blocksOf E (later l m i))) w w1→obl S (looks l o) (envX X E (looks l o)) w1 (fun E2=>OpG P n l.toArray o E2 w1 (Φ E2 w1))
def NewPtr (o:Oper) (w1:World) (v:Value) (w2:World):Prop:=isAlloc o.op=true→∃ b,v=.pointer (some ⟨b,0,none⟩)∧w1.heap.size≤b∧b<w2.heap.size
def FL (P:Program) (n:Nat) (l:List Oper) (m:Nat) (E:List (Nat×Value)) (w:World) (fin:List (Nat×Value)→List (Nat×Psi)→List (Nat×Psi)→Prop):Nat→List (Nat×Value)→List (Nat×Psi)→List (Nat×Psi)→List Oper→Prop
 | _,X,S,H,[]=>fin X S H
 | i,X,S,H,o::r =>
  (∃ d v,o.dst=some d∧isAlloc o.op=false∧Obl P n l m E w i X S o (fun _ w1 v' w2=>Ext w1 w2∧v'=v)∧FL P n l m E w fin (i+1) ((d,v)::X) S H r) ∨
  (∃ d ψ,o.dst=some d∧MonoR P ψ∧Obl P n l m E w i X S o (fun _ w1 v' w2=>Ext w1 w2∧ψ v' w2∧NewPtr o w1 v' w2)∧FL P n l m E w fin (i+1) X ((d,ψ)::S) H r) ∨
  (∃ p χ,stSlot o=some p∧MonoX P χ∧Obl P n l m E w i X S o (fun E2 w1 _ w2=>∃ b,look E2 p=some (.pointer (some ⟨b,0,none⟩))∧Upd b w1 w2∧VarKept P b w1 w2∧χ (.pointer (some ⟨b,0,none⟩)) w2)∧FL P n l m E w fin (i+1) X S ((p,χ)::H) r)
def StepOk (P:Program) (n:Nat) (l:List Oper) (m:Nat) (E:List (Nat×Value)) (w:World) (Sf Hf:List (Nat×Psi)) (i:Nat) (o:Oper):Prop :=
 ∀ w1 a,Rg P (Tg w (blocksOf E (later l m i))) w w1→a.tmps.size=n→a.defers=[]→(∀ k v,look E k=some v→a.tmps[k]?=some v) →
  (∀ t ∈ looks l o,∀ φ,lookP Sf t=some φ→∃ v,a.tmps[t]?=some v∧φ v w1) →
  ∃ E2,Fits n E2 a∧(
   (∃ d ψ,o.dst=some d∧lookP Sf d=some ψ∧OpG P n l.toArray o E2 w1 (fun v' w2=>Ext w1 w2∧ψ v' w2∧NewPtr o w1 v' w2)) ∨
   (∃ p χ,stSlot o=some p∧lookP Hf p=some χ∧OpG P n l.toArray o E2 w1 (fun _ w2=>∃ b,look E2 p=some (.pointer (some ⟨b,0,none⟩))∧Upd b w1 w2∧VarKept P b w1 w2∧χ (.pointer (some ⟨b,0,none⟩)) w2)))
theorem look_envX {X E:List (Nat×Value)} {k:Nat} {v:Value}:∀ {ts:List Nat},look (envX X E ts) k=some v→(k ∈ ts∧look X k=some v)∨look E k=some v:=by
 intro ts
 induction ts with
 | nil=>intro h;exact .inr h
 | cons t r ih =>
  intro h
  unfold envX at h
  split at h
  ·rename_i u hu
   by_cases e:t=k
   ·subst e
    rw [look_cons_self] at h
    cases h
    exact .inl ⟨by simp,hu⟩
   ·rw [look_cons_ne _ _ e] at h
    rcases ih h with ⟨h1,h2⟩ | h1
    ·exact .inl ⟨by simp [h1],h2⟩
    ·exact .inr h1
  ·rcases ih h with ⟨h1,h2⟩ | h1
   ·exact .inl ⟨by simp [h1],h2⟩
   ·exact .inr h1
theorem lookP_append_left {S R:List (Nat×Psi)} {t:Nat} {φ:Psi} (h:lookP S t=some φ):lookP (S++R) t=some φ:=by
 induction S with
 | nil=>simp [lookP] at h
 | cons q r ih =>
  obtain ⟨k,ψ⟩:=q
  simp only [List.cons_append,lookP] at h ⊢
  cases hb:Nat.beq k t with
  | true=>rw [hb] at h;exact h
  | false=>rw [hb] at h;exact ih h
theorem lookP_append_new {S R:List (Nat×Psi)} {t:Nat} {φ:Psi} (h:t ∉ S.map (·.1)):lookP (S++(t,φ)::R) t=some φ:=by
 induction S with
 | nil=>simp [lookP]
 | cons q r ih =>
  obtain ⟨k,ψ⟩:=q
  simp only [List.map_cons,List.mem_cons,not_or] at h
  simp only [List.cons_append,lookP]
  have:Nat.beq k t=false:=by
   cases hb:Nat.beq k t
   ·rfl
   ·exact absurd (Nat.eq_of_beq_eq_true hb).symm h.1
  rw [this]
  exact ih h.2
theorem dsts_append (a b:List Oper):dsts (a++b)=dsts a++dsts b:=by
 induction a with
 | nil=>rfl
 | cons o r ih =>
  simp only [List.cons_append,dsts]
  split <;> simp [ih]
theorem stSlots_append (a b:List Oper):stSlots (a++b)=stSlots a++stSlots b:=by
 induction a with
 | nil=>rfl
 | cons o r ih =>
  simp only [List.cons_append,stSlots]
  split <;> simp [ih]
theorem nodupKeys_spec:∀ {l:List Nat},nodupKeys l=true→l.Nodup:=by
 intro l
 induction l with
 | nil=>intro _;exact List.nodup_nil
 | cons x r ih =>
  intro h
  simp only [nodupKeys,Bool.and_eq_true,Bool.not_eq_true',List.contains_eq_mem,decide_eq_false_iff_not] at h
  exact List.nodup_cons.2 ⟨h.1,ih h.2⟩
theorem obl_step {P:Program} {n:Nat} {l:List Oper} {m:Nat} {E:List (Nat×Value)} {w:World} {i:Nat} {X:List (Nat×Value)} {S Sf:List (Nat×Psi)} {o:Oper} {Φ:List (Nat×Value)→World→Value→World→Prop}
  (hX:∀ t v,look X t=some v→lookP Sf t=some (Is v)) (hS:∀ q ∈ S,lookP Sf q.1=some q.2) (h:Obl P n l m E w i X S o Φ) {w1:World} {a:Act} (hR:Rg P (Tg w (blocksOf E (later l m i))) w w1) (hsz:a.tmps.size=n) (hdf:a.defers=[])
  (hb:∀ k v,look E k=some v→a.tmps[k]?=some v) (hf:∀ t ∈ looks l o,∀ φ,lookP Sf t=some φ→∃ v,a.tmps[t]?=some v∧φ v w1):∃ E2,Fits n E2 a∧OpG P n l.toArray o E2 w1 (Φ E2 w1):=by
 refine obl_spec hsz hdf (looks l o) _ ?_ ?_ (h w1 hR)
 ·intro k v hk
  rcases look_envX hk with ⟨h1,h2⟩ | h1
  ·obtain ⟨u,hu,he⟩:=hf k h1 _ (hX k v h2)
   rw [hu];exact congrArg some he
  ·exact hb k v h1
 ·intro t ht φ hφ
  exact hf t ht φ (hS _ (lookP_in hφ))
theorem FL_spec {P:Program} {n:Nat} {l:List Oper} {m:Nat} {E:List (Nat×Value)} {w:World} {fin:List (Nat×Value)→List (Nat×Psi)→List (Nat×Psi)→Prop} (hm:m≤l.length) (hnd:(dsts (l.take m)).Nodup) (hns:(stSlots (l.take m)).Nodup) :
  ∀ (r pre:List Oper) (X:List (Nat×Value)) (S H Sp Hp:List (Nat×Psi)),l.take m=pre++r→Sp.map (·.1)=dsts pre→Hp.map (·.1)=stSlots pre →
   (∀ t v,look X t=some v→lookP Sp t=some (Is v))→(∀ q ∈ S,lookP Sp q.1=some q.2)→(∀ q ∈ H,lookP Hp q.1=some q.2)→FL P n l m E w fin pre.length X S H r →
   ∃ Sr Hr,(Sp++Sr).map (·.1)=dsts (l.take m)∧(Hp++Hr).map (·.1)=stSlots (l.take m)∧(∀ q ∈ Sr,MonoR P q.2)∧(∀ q ∈ Hr,MonoX P q.2) ∧
    (∃ X' S' H',fin X' S' H'∧(∀ t v,look X' t=some v→lookP (Sp++Sr) t=some (Is v))∧(∀ q ∈ S',lookP (Sp++Sr) q.1=some q.2)∧(∀ q ∈ H',lookP (Hp++Hr) q.1=some q.2)) ∧
    ∀ j o,pre.length≤j→j<m→l[j]?=some o→StepOk P n l m E w (Sp++Sr) (Hp++Hr) j o:=by
 intro r
 induction r with
 | nil =>
  intro pre X S H Sp Hp hl hSp hHp hX hS hH h
  refine ⟨[],[],by simp [hl,hSp],by simp [hl,hHp],by simp,by simp,⟨X,S,H,h,by simpa using hX,by simpa using hS,by simpa using hH⟩,?_⟩
  intro j o h1 h2
  have:(l.take m).length=pre.length:=by rw [hl];simp
  simp at this
  omega
 | cons o r ih =>
  intro pre X S H Sp Hp hl hSp hHp hX hS hH h
  have hl2:l.take m=(pre++[o])++r:=by rw [hl];simp
  have hpl:(pre++[o]).length=pre.length+1:=by simp
  have hlen:(l.take m).length=pre.length+(r.length+1):=by rw [hl];simp
  have hoj:l[pre.length]?=some o:=by
   have:(l.take m)[pre.length]?=some o:=by rw [hl];simp
   rwa [List.getElem?_take_of_lt (by simp at hlen;omega)] at this
  rcases h with ⟨d,v,hd,hal,hob,hr⟩ | ⟨d,ψ,hd,hmo,hob,hr⟩ | ⟨p,χ,hp,hmo,hob,hr⟩
  ·have hdn:d ∉ Sp.map (·.1):=by
    rw [hSp]
    rw [hl,dsts_append] at hnd
    intro hin
    exact (List.nodup_append.1 hnd).2.2 d hin d (by simp [dsts,hd]) rfl
   have hst:stSlot o=none:=by simp [stSlot,hd]
   obtain ⟨Sr,Hr,h1,h2,h3,h4,h5,h6⟩:=ih (pre++[o]) ((d,v)::X) S H (Sp++[(d,Is v)]) Hp hl2 (by simp [dsts_append,hSp,dsts,hd]) (by simp [stSlots_append,hHp,stSlots,hst])
    (by
     intro t u ht
     by_cases e:d=t
     ·subst e;rw [look_cons_self] at ht;cases ht
      exact lookP_append_new hdn
     ·rw [look_cons_ne _ _ e] at ht
      exact lookP_append_left (hX t u ht)) (fun q hq=>lookP_append_left (hS q hq)) hH (by rw [hpl];exact hr)
   refine ⟨(d,Is v)::Sr,Hr,by simpa using h1,h2,?_,h4,by simpa using h5,?_⟩
   ·intro q hq
    rcases List.mem_cons.1 hq with rfl | hq
    ·exact MonoR.is P v
    ·exact h3 q hq
   ·intro j oj hj1 hj2 hj3
    by_cases e:j=pre.length
    ·subst e
     rw [hoj] at hj3;cases hj3
     intro w1 a hR hsz hdf hb hf
     obtain ⟨E2,hfit,hop⟩:=obl_step (Sf:=Sp++(d,Is v)::Sr) (fun t u ht=>lookP_append_left (hX t u ht)) (fun q hq=>lookP_append_left (hS q hq)) hob hR hsz hdf hb hf
     refine ⟨E2,hfit,.inl ⟨d,Is v,hd,lookP_append_new hdn,?_⟩⟩
     rcases hop with ⟨hw,ho⟩ | ⟨hw,ho⟩
     ·exact .inl ⟨hw,ho.mono fun v' w2 hv=>⟨hv.1,hv.2,fun e=>by rw [hal] at e;cases e⟩⟩
     ·exact .inr ⟨hw,ho.1,ho.2,fun e=>by rw [hal] at e;cases e⟩
    ·have:=h6 j oj (by rw [hpl];omega) hj2 hj3
     simpa using this
  ·have hdn:d ∉ Sp.map (·.1):=by
    rw [hSp]
    rw [hl,dsts_append] at hnd
    intro hin
    exact (List.nodup_append.1 hnd).2.2 d hin d (by simp [dsts,hd]) rfl
   have hst:stSlot o=none:=by simp [stSlot,hd]
   obtain ⟨Sr,Hr,h1,h2,h3,h4,h5,h6⟩:=ih (pre++[o]) X ((d,ψ)::S) H (Sp++[(d,ψ)]) Hp hl2 (by simp [dsts_append,hSp,dsts,hd]) (by simp [stSlots_append,hHp,stSlots,hst])
    (fun t u ht=>lookP_append_left (hX t u ht))
    (by
     intro q hq
     rcases List.mem_cons.1 hq with rfl | hq
     ·exact lookP_append_new hdn
     ·exact lookP_append_left (hS q hq)) hH (by rw [hpl];exact hr)
   refine ⟨(d,ψ)::Sr,Hr,by simpa using h1,h2,?_,h4,by simpa using h5,?_⟩
   ·intro q hq
    rcases List.mem_cons.1 hq with rfl | hq
    ·exact hmo
    ·exact h3 q hq
   ·intro j oj hj1 hj2 hj3
    by_cases e:j=pre.length
    ·subst e
     rw [hoj] at hj3;cases hj3
     intro w1 a hR hsz hdf hb hf
     obtain ⟨E2,hfit,hop⟩:=obl_step (Sf:=Sp++(d,ψ)::Sr) (fun t u ht=>lookP_append_left (hX t u ht)) (fun q hq=>lookP_append_left (hS q hq)) hob hR hsz hdf hb hf
     exact ⟨E2,hfit,.inl ⟨d,ψ,hd,lookP_append_new hdn,hop⟩⟩
    ·have:=h6 j oj (by rw [hpl];omega) hj2 hj3
     simpa using this
  ·have hpn:p ∉ Hp.map (·.1):=by
    rw [hHp]
    rw [hl,stSlots_append] at hns
    intro hin
    exact (List.nodup_append.1 hns).2.2 p hin p (by simp [stSlots,hp]) rfl
   have hd:o.dst=none:=by
    unfold stSlot at hp
    split at hp
    ·assumption
    ·cases hp
   obtain ⟨Sr,Hr,h1,h2,h3,h4,h5,h6⟩:=ih (pre++[o]) X S ((p,χ)::H) Sp (Hp++[(p,χ)]) hl2 (by simp [dsts_append,hSp,dsts,hd]) (by simp [stSlots_append,hHp,stSlots,hp])
    hX hS
    (by
     intro q hq
     rcases List.mem_cons.1 hq with rfl | hq
     ·exact lookP_append_new hpn
     ·exact lookP_append_left (hH q hq)) (by rw [hpl];exact hr)
   refine ⟨Sr,(p,χ)::Hr,h1,by simpa using h2,h3,?_,by simpa using h5,?_⟩
   ·intro q hq
    rcases List.mem_cons.1 hq with rfl | hq
    ·exact hmo
    ·exact h4 q hq
   ·intro j oj hj1 hj2 hj3
    by_cases e:j=pre.length
    ·subst e
     rw [hoj] at hj3;cases hj3
     intro w1 a hR hsz hdf hb hf
     obtain ⟨E2,hfit,hop⟩:=obl_step (Sf:=Sp++Sr) (fun t u ht=>lookP_append_left (hX t u ht)) (fun q hq=>lookP_append_left (hS q hq)) hob hR hsz hdf hb hf
     exact ⟨E2,hfit,.inr ⟨p,χ,hp,lookP_append_new hpn,hop⟩⟩
    ·have:=h6 j oj (by rw [hpl];omega) hj2 hj3
     simpa using this
end Go.Qf
namespace Go.Qf
open Go Go.RowKit
def flowOk (l:List Oper) (m:Nat):Bool :=
 Nat.ble m l.length &&
 (List.range l.length).all (fun i=>match l[i]? with | some o=>(edgesTo o).all (fun e=>Nat.blt e i) | none=>false) &&
 (List.range m).all (fun i=>match l[i]? with
  | some o=>(match o.dst with | some _=>true | none=>(match stSlot o with | some _=>true | none=>false)) && (looks l o).all (fun t=>!((dsts (l.take m)).contains t) || (List.range m).any (fun j=>match l[j]? with | some oj=>oj.dst == some t && (edgesTo o).contains j | none=>false))
  | none=>false) &&
 nodupKeys (dsts (l.take m)) && nodupKeys (stSlots (l.take m)) &&
 (List.range m).all (fun i=>match l[i]? with
  | some o=>(match stSlot o with | some p=>!((dsts (l.take m)).contains p) || (List.range m).any (fun j=>match l[j]? with | some oj=>oj.dst == some p && isAlloc oj.op && (edgesTo o).contains j | none=>false) | none=>true)
  | none=>false) &&
 (List.range l.length).all (fun k=>Nat.blt k m || (List.range k).all (fun j=>((masks [] l).getD k 0).testBit j))
structure FlowOk (l:List Oper) (m:Nat):Prop where
 le:m≤l.length
 back:∀ i o,l[i]?=some o→∀ e ∈ edgesTo o,e<i
 kind:∀ i o,i<m→l[i]?=some o→(∃ d,o.dst=some d)∨∃ p,stSlot o=some p
 pred:∀ i o,i<m→l[i]?=some o→∀ t ∈ looks l o,t ∈ dsts (l.take m)→∃ j oj,j<m∧l[j]?=some oj∧oj.dst=some t∧j ∈ edgesTo o
 ndd:(dsts (l.take m)).Nodup
 nds:(stSlots (l.take m)).Nodup
 slot:∀ i o p,i<m→l[i]?=some o→stSlot o=some p→p ∈ dsts (l.take m)→∃ j oj,j<m∧l[j]?=some oj∧oj.dst=some p∧isAlloc oj.op=true∧j ∈ edgesTo o
 last:∀ k,m≤k→k<l.length→∀ j,j<k→((masks [] l).getD k 0).testBit j=true
theorem flowOk_spec {l:List Oper} {m:Nat} (h:flowOk l m=true):FlowOk l m:=by
 simp only [flowOk,Bool.and_eq_true] at h
 obtain ⟨⟨⟨⟨⟨⟨h1,h2⟩,h3⟩,h4⟩,h5⟩,h6⟩,h7⟩:=h
 have hle:=Nat.le_of_ble_eq_true h1
 refine ⟨hle,?_,?_,?_,nodupKeys_spec h4,nodupKeys_spec h5,?_,?_⟩
 ·intro i o ho e he
  have hi:=(List.getElem?_eq_some_iff.1 ho).1
  have:=List.all_eq_true.1 h2 i (List.mem_range.2 hi)
  rw [ho] at this
  simpa [Nat.blt_eq] using List.all_eq_true.1 this e he
 ·intro i o hi ho
  have:=List.all_eq_true.1 h3 i (List.mem_range.2 hi)
  rw [ho] at this
  simp only [Bool.and_eq_true] at this
  have:=this.1
  cases hd:o.dst with
  | some d=>exact .inl ⟨d,rfl⟩
  | none =>
   rw [hd] at this
   cases hs:stSlot o with
   | some p=>exact .inr ⟨p,rfl⟩
   | none=>rw [hs] at this;cases this
 ·intro i o hi ho t ht hS
  have:=List.all_eq_true.1 h3 i (List.mem_range.2 hi)
  rw [ho] at this
  simp only [Bool.and_eq_true] at this
  have h8:=List.all_eq_true.1 this.2 t ht
  simp only [Bool.or_eq_true] at h8
  rcases h8 with h8 | h8
  ·simp [hS] at h8
  ·obtain ⟨j,hj,h9⟩:=List.any_eq_true.1 h8
   cases hoj:l[j]? with
   | none=>rw [hoj] at h9;simp at h9
   | some oj =>
    rw [hoj] at h9
    simp only [Bool.and_eq_true,beq_iff_eq,List.contains_iff_mem] at h9
    exact ⟨j,oj,List.mem_range.1 hj,hoj,h9.1,h9.2⟩
 ·intro i o p hi ho hp hS
  have:=List.all_eq_true.1 h6 i (List.mem_range.2 hi)
  rw [ho] at this
  simp only [hp,Bool.or_eq_true] at this
  rcases this with h8 | h8
  ·simp [hS] at h8
  ·obtain ⟨j,hj,h9⟩:=List.any_eq_true.1 h8
   cases hoj:l[j]? with
   | none=>rw [hoj] at h9;simp at h9
   | some oj =>
    rw [hoj] at h9
    simp only [Bool.and_eq_true,beq_iff_eq,List.contains_iff_mem] at h9
    exact ⟨j,oj,List.mem_range.1 hj,hoj,h9.1.1,h9.1.2,h9.2⟩
 ·intro k hk hk2 j hj
  have:=List.all_eq_true.1 h7 k (List.mem_range.2 hk2)
  simp only [Bool.or_eq_true] at this
  rcases this with h8 | h8
  ·simp [Nat.blt_eq] at h8;omega
  ·exact List.all_eq_true.1 h8 j (List.mem_range.2 hj)
theorem mem_dsts {t:Nat}:∀ {l:List Oper},(∃ (i:Nat) (o:Oper),l[i]?=some o∧o.dst=some t)↔t ∈ dsts l:=by
 intro l
 induction l with
 | nil=>simp [dsts]
 | cons o r ih =>
  constructor
  ·rintro ⟨i,o',h1,h2⟩
   cases i with
   | zero =>
    simp only [List.getElem?_cons_zero,Option.some.injEq] at h1
    subst h1
    simp [dsts,h2]
   | succ i =>
    simp only [List.getElem?_cons_succ] at h1
    have:=ih.1 ⟨i,o',h1,h2⟩
    unfold dsts
    split <;> simp [this]
  ·intro h
   unfold dsts at h
   split at h
   ·rename_i d hd
    rcases List.mem_cons.1 h with rfl | h
    ·exact ⟨0,o,rfl,hd⟩
    ·obtain ⟨i,o',h1,h2⟩:=ih.2 h
     exact ⟨i+1,o',h1,h2⟩
   ·obtain ⟨i,o',h1,h2⟩:=ih.2 h
    exact ⟨i+1,o',h1,h2⟩
theorem mem_stSlots {p:Nat}:∀ {l:List Oper},(∃ (i:Nat) (o:Oper),l[i]?=some o∧stSlot o=some p)→p ∈ stSlots l:=by
 intro l
 induction l with
 | nil=>simp
 | cons o r ih =>
  rintro ⟨i,o',h1,h2⟩
  cases i with
  | zero =>
   simp only [List.getElem?_cons_zero,Option.some.injEq] at h1
   subst h1
   simp [stSlots,h2]
  | succ i =>
   simp only [List.getElem?_cons_succ] at h1
   have:=ih ⟨i,o',h1,h2⟩
   unfold stSlots
   split <;> simp [this]
theorem inj_dsts:∀ {l:List Oper},(dsts l).Nodup→∀ {i j:Nat} {a b:Oper} {d:Nat},l[i]?=some a→l[j]?=some b→a.dst=some d→b.dst=some d→i=j:=by
 intro l
 induction l with
 | nil=>intro _ i j a b d h;simp at h
 | cons o r ih =>
  intro hn i j a b d hi hj ha hb
  have hr:(dsts r).Nodup:=by
   unfold dsts at hn
   split at hn
   ·exact (List.nodup_cons.1 hn).2
   ·exact hn
  have key:∀ {k:Nat} {c:Oper},r[k]?=some c→c.dst=some d→o.dst=some d→False:=by
   intro k c h1 h2 h3
   simp only [dsts,h3] at hn
   exact (List.nodup_cons.1 hn).1 (mem_dsts.1 ⟨k,c,h1,h2⟩)
  cases i with
  | zero =>
   cases j with
   | zero=>rfl
   | succ j =>
    simp only [List.getElem?_cons_zero,Option.some.injEq] at hi
    simp only [List.getElem?_cons_succ] at hj
    subst hi
    exact (key hj hb ha).elim
  | succ i =>
   simp only [List.getElem?_cons_succ] at hi
   cases j with
   | zero =>
    simp only [List.getElem?_cons_zero,Option.some.injEq] at hj
    subst hj
    exact (key hi ha hb).elim
   | succ j =>
    simp only [List.getElem?_cons_succ] at hj
    rw [ih hr hi hj ha hb]
theorem inj_slots:∀ {l:List Oper},(stSlots l).Nodup→∀ {i j:Nat} {a b:Oper} {p:Nat},l[i]?=some a→l[j]?=some b→stSlot a=some p→stSlot b=some p→i=j:=by
 intro l
 induction l with
 | nil=>intro _ i j a b d h;simp at h
 | cons o r ih =>
  intro hn i j a b d hi hj ha hb
  have hr:(stSlots r).Nodup:=by
   unfold stSlots at hn
   split at hn
   ·exact (List.nodup_cons.1 hn).2
   ·exact hn
  have key:∀ {k:Nat} {c:Oper},r[k]?=some c→stSlot c=some d→stSlot o=some d→False:=by
   intro k c h1 h2 h3
   simp only [stSlots,h3] at hn
   exact (List.nodup_cons.1 hn).1 (mem_stSlots ⟨k,c,h1,h2⟩)
  cases i with
  | zero =>
   cases j with
   | zero=>rfl
   | succ j =>
    simp only [List.getElem?_cons_zero,Option.some.injEq] at hi
    simp only [List.getElem?_cons_succ] at hj
    subst hi
    exact (key hj hb ha).elim
  | succ i =>
   simp only [List.getElem?_cons_succ] at hi
   cases j with
   | zero =>
    simp only [List.getElem?_cons_zero,Option.some.injEq] at hj
    subst hj
    exact (key hi ha hb).elim
   | succ j =>
    simp only [List.getElem?_cons_succ] at hj
    rw [ih hr hi hj ha hb]
theorem mem_laterFrom {ms:List Nat} {i p:Nat}:∀ (r:List Oper) (s j:Nat) (o:Oper),r[j]?=some o→stSlot o=some p→(ms.getD (s+j) 0).testBit i=false→p ∈ laterFrom ms i s r:=by
 intro r
 induction r with
 | nil=>intro s j o h;simp at h
 | cons x r ih =>
  intro s j o h hp hb
  cases j with
  | zero =>
   simp only [List.getElem?_cons_zero,Option.some.injEq] at h
   subst h
   simp only [Nat.add_zero] at hb
   simp only [laterFrom,hp,hb,cond_false,List.mem_cons,true_or]
  | succ j =>
   simp only [List.getElem?_cons_succ] at h
   have:=ih (s+1) j o h hp (by rw [show s+1+j=s+(j+1) from by omega];exact hb)
   unfold laterFrom
   split
   ·rename_i q hq
    cases (ms.getD s 0).testBit i <;> simp [this]
   ·exact this
theorem mem_blocksOf {E:List (Nat×Value)} {p k:Nat} (h:look E p=some (.pointer (some ⟨k,0,none⟩))):∀ {ps:List Nat},p ∈ ps→k ∈ blocksOf E ps:=by
 have hb:blockOf E p=some k:=by simp [blockOf,h]
 intro ps
 induction ps with
 | nil=>intro h;cases h
 | cons q r ih =>
  intro hin
  unfold blocksOf
  rcases List.mem_cons.1 hin with rfl | hin
  ·rw [hb];simp
  ·split <;> simp [ih hin]
def preD (w:World):List Nat→Prop
 | []=>True
 | b::r=>b<w.heap.size∧(∀ c ∈ r,b≠c)∧preD w r
def preSlots (l:List Oper) (m:Nat):List Nat:=(stSlots (l.take m)).filter (fun p=>!((dsts (l.take m)).contains p))
def allPtr (E:List (Nat×Value)):List Nat→Bool
 | []=>true
 | p::r=>(match blockOf E p with | some _=>true | none=>false) && allPtr E r
theorem preD_spec {w:World} {E:List (Nat×Value)}:∀ {ps:List Nat},ps.Nodup→allPtr E ps=true→preD w (blocksOf E ps) →
  (∀ p ∈ ps,∃ b,look E p=some (.pointer (some ⟨b,0,none⟩))∧b<w.heap.size)∧∀ p ∈ ps,∀ q ∈ ps,p≠q→∀ b c,look E p=some (.pointer (some ⟨b,0,none⟩))→look E q=some (.pointer (some ⟨c,0,none⟩))→b≠c:=by
 intro ps
 induction ps with
 | nil=>intro _ _ _;exact ⟨by simp,by simp⟩
 | cons x r ih =>
  intro hn ha hp
  simp only [allPtr,Bool.and_eq_true] at ha
  obtain ⟨ha1,ha2⟩:=ha
  have hex:∃ b,blockOf E x=some b:=by
   cases hb:blockOf E x with
   | none=>rw [hb] at ha1;cases ha1
   | some b=>exact ⟨b,rfl⟩
  obtain ⟨b,hb⟩:=hex
  have hlk:look E x=some (.pointer (some ⟨b,0,none⟩)):=by
   unfold blockOf at hb
   split at hb
   ·rename_i h;simp only [Option.some.injEq] at hb;subst hb;exact h
   ·cases hb
  simp only [blocksOf,hb,preD] at hp
  obtain ⟨h1,h2,h3⟩:=hp
  obtain ⟨i1,i2⟩:=ih (List.nodup_cons.1 hn).2 ha2 h3
  refine ⟨?_,?_⟩
  ·intro p hpm
   rcases List.mem_cons.1 hpm with rfl | hpm
   ·exact ⟨b,hlk,h1⟩
   ·exact i1 p hpm
  ·intro p hpm q hqm hne c e hc he
   rcases List.mem_cons.1 hpm with hp1 | hp1
   ·rcases List.mem_cons.1 hqm with hq1 | hq1
    ·exact absurd (hp1.trans hq1.symm) hne
    ·rw [hp1,hlk] at hc;cases hc
     exact h2 e (mem_blocksOf he hq1)
   ·rcases List.mem_cons.1 hqm with hq1 | hq1
    ·rw [hq1,hlk] at he;cases he
     exact fun hce=>h2 c (mem_blocksOf hc hp1) hce.symm
    ·exact i2 p hp1 q hq1 hne c e hc he
structure InvF (P:Program) (n:Nat) (l:List Oper) (m:Nat) (Sf Hf:List (Nat×Psi)) (E:List (Nat×Value)) (w0:World) (listed:Array Bool) (a:Act) (w:World):Prop where
 size:listed.size=l.length
 closed:∀ i o,l[i]?=some o→listed.getD i false=true→∀ e ∈ edgesTo o,listed.getD e false=true
 tmps:a.tmps.size=n
 defers:a.defers=[]
 base:∀ k v,look E k=some v→a.tmps[k]?=some v
 facts:∀ i o d ψ,i<m→l[i]?=some o→listed.getD i false=true→o.dst=some d→lookP Sf d=some ψ→∃ v,a.tmps[d]?=some v∧ψ v w
 held:∀ i o p χ,i<m→l[i]?=some o→listed.getD i false=true→stSlot o=some p→lookP Hf p=some χ→∃ v,a.tmps[p]?=some v∧χ v w
 rel:Rg P (fun k=>w0.heap.size≤k∨∃ j o p,j<m∧l[j]?=some o∧listed.getD j false=true∧stSlot o=some p∧look E p=some (.pointer (some ⟨k,0,none⟩))) w0 w
 noB:∀ i,m≤i→listed.getD i false=false
 made:∀ i o d,i<m→l[i]?=some o→listed.getD i false=true→isAlloc o.op=true→o.dst=some d→∃ b,a.tmps[d]?=some (.pointer (some ⟨b,0,none⟩))∧w0.heap.size≤b∧b<w.heap.size
 apart:∀ i j oi oj di dj v,i<m→j<m→i≠j→l[i]?=some oi→l[j]?=some oj→listed.getD i false=true→listed.getD j false=true→isAlloc oi.op=true→isAlloc oj.op=true→oi.dst=some di→oj.dst=some dj→a.tmps[di]?=some v→a.tmps[dj]?=some v→False
section
variable {P:Program} {n:Nat} {l:List Oper} {m:Nat} {Sf Hf:List (Nat×Psi)} {E:List (Nat×Value)} {w0:World} {listed:Array Bool} {a:Act} {w:World}
theorem InvF.ptr (hI:InvF P n l m Sf Hf E w0 listed a w) (hD:FlowOk l m) (hall:allPtr E (preSlots l m)=true) (hpre:preD w0 (blocksOf E (preSlots l m))) {i:Nat} {o:Oper} {p:Nat} (hi:i<m) (ho:l[i]?=some o) (hp:stSlot o=some p) (he:∀ e ∈ edgesTo o,listed.getD e false=true) :
  ∃ b,a.tmps[p]?=some (.pointer (some ⟨b,0,none⟩))∧((p ∈ dsts (l.take m)∧w0.heap.size≤b)∨(p ∉ dsts (l.take m)∧p ∈ preSlots l m∧look E p=some (.pointer (some ⟨b,0,none⟩))∧b<w0.heap.size)):=by
 by_cases hin:p ∈ dsts (l.take m)
 ·obtain ⟨j,oj,hj,hoj,hdj,hal,hje⟩:=hD.slot i o p hi ho hp hin
  obtain ⟨b,hb,h0,_⟩:=hI.made j oj p hj hoj (he j hje) hal hdj
  exact ⟨b,hb,.inl ⟨hin,h0⟩⟩
 ·have hps:p ∈ preSlots l m:=by
   unfold preSlots
   refine List.mem_filter.2 ⟨mem_stSlots ⟨i,o,by rw [List.getElem?_take_of_lt hi];exact ho,hp⟩,by simpa using hin⟩
  obtain ⟨b,hb,hlt⟩:=(preD_spec (hD.nds.sublist List.filter_sublist) hall hpre).1 p hps
  exact ⟨b,hI.base p _ hb,.inr ⟨hin,hps,hb,hlt⟩⟩
theorem InvF.ptr_ne (hI:InvF P n l m Sf Hf E w0 listed a w) (hD:FlowOk l m) (hall:allPtr E (preSlots l m)=true) (hpre:preD w0 (blocksOf E (preSlots l m))) {i j:Nat} {o oj:Oper} {p q:Nat} (hi:i<m) (hj:j<m) (hij:i≠j) (ho:l[i]?=some o) (hoj:l[j]?=some oj) (hp:stSlot o=some p) (hq:stSlot oj=some q)
  (he:∀ e ∈ edgesTo o,listed.getD e false=true) (he':∀ e ∈ edgesTo oj,listed.getD e false=true) {v:Value} (hv:a.tmps[p]?=some v) (hv':a.tmps[q]?=some v):False:=by
 have hpq:p≠q:=by
  intro e;subst e
  exact hij (inj_slots hD.nds (i:=i) (j:=j) (by rw [List.getElem?_take_of_lt hi];exact ho) (by rw [List.getElem?_take_of_lt hj];exact hoj) hp hq)
 obtain ⟨b,hb,hc⟩:=hI.ptr hD hall hpre hi ho hp he
 obtain ⟨b',hb',hc'⟩:=hI.ptr hD hall hpre hj hoj hq he'
 rw [hb] at hv
 rw [hb'] at hv'
 rw [← hv] at hv'
 simp only [Option.some.injEq,Value.pointer.injEq,Addr.mk.injEq,and_true] at hv'
 subst hv'
 rcases hc with ⟨h1,h2⟩ | ⟨h1,h2,h3,h4⟩
 ·rcases hc' with ⟨k1,k2⟩ | ⟨k1,k2,k3,k4⟩
  ·obtain ⟨x,ox,hx,hox,hdx,hax,hxe⟩:=hD.slot i o p hi ho hp h1
   obtain ⟨y,oy,hy,hoy,hdy,hay,hye⟩:=hD.slot j oj q hj hoj hq k1
   refine hI.apart x y ox oy p q _ hx hy ?_ hox hoy (he x hxe) (he' y hye) hax hay hdx hdy hb hb'
   intro e;subst e
   rw [hox] at hoy;cases hoy
   rw [hdx] at hdy;cases hdy
   exact hpq rfl
  ·omega
 ·rcases hc' with ⟨k1,k2⟩ | ⟨k1,k2,k3,k4⟩
  ·omega
  ·exact (preD_spec (hD.nds.sublist List.filter_sublist) hall hpre).2 p h2 q k2 hpq _ _ h3 k3 rfl
end
end Go.Qf
namespace Go.Qf
open Go Go.RowKit
def heldP (E:List (Nat×Value)) (w:World):List (Nat×Psi)→Prop
 | []=>True
 | (p,χ)::r=>(match look E p with | some v=>χ v w | none=>True)∧heldP E w r
theorem heldP_spec {E:List (Nat×Value)} {w:World}:∀ {H:List (Nat×Psi)},(∀ q ∈ H,∀ v,look E q.1=some v→q.2 v w)→heldP E w H:=by
 intro H
 induction H with
 | nil=>intro _;trivial
 | cons q r ih =>
  intro h
  obtain ⟨p,χ⟩:=q
  refine ⟨?_,ih fun q hq=>h q (List.mem_cons_of_mem _ hq)⟩
  cases hl:look E p with
  | none=>trivial
  | some v=>exact h (p,χ) (by simp) v hl
theorem look_append {X E:List (Nat×Value)} {k:Nat} {v:Value}:look (X++E) k=some v→look X k=some v∨look E k=some v:=by
 induction X with
 | nil=>intro h;exact .inr h
 | cons q r ih =>
  obtain ⟨t,u⟩:=q
  intro h
  by_cases e:t=k
  ·subst e
   rw [List.cons_append,look_cons_self] at h
   exact .inl (by rw [look_cons_self];exact h)
  ·rw [List.cons_append,look_cons_ne _ _ e] at h
   rw [look_cons_ne _ _ e]
   exact ih h
def FlowEnd (P:Program) (n:Nat) (l:List Oper) (m:Nat) (E:List (Nat×Value)) (w:World) (Q:Exit→Act→World→Prop) (X:List (Nat×Value)) (S H:List (Nat×Psi)):Prop :=
 ∀ w1,Rg P (Tg w (blocksOf E (stSlots (l.take m)))) w w1→allP S (X++E) w1 (fun E2=>heldP E2 w1 H→Dist (allocs (l.take m)) E2→StL P n E2 w1 l.toArray (l.drop m) Q)
theorem mem_lookP {S:List (Nat×Psi)} {t:Nat} {ψ:Psi} (h:lookP S t=some ψ):t ∈ S.map (·.1):=List.mem_map.2 ⟨_,lookP_in h,rfl⟩
theorem stageF {P:Program} {n:Nat} {l:List Oper} {m:Nat} {Sf Hf:List (Nat×Psi)} {E:List (Nat×Value)} {w0:World} {Q:Exit→Act→World→Prop} (hD:FlowOk l m) (hSk:Sf.map (·.1)=dsts (l.take m)) (hHk:Hf.map (·.1)=stSlots (l.take m))
  (hmo:∀ q ∈ Sf,MonoR P q.2) (hmx:∀ q ∈ Hf,MonoX P q.2) (hfree:∀ d ∈ dsts (l.take m),look E d=none) (hlt:∀ d ∈ dsts (l.take m),d<n) (hall:allPtr E (preSlots l m)=true) (hpre:preD w0 (blocksOf E (preSlots l m)))
  (hstep:∀ j o,j<m→l[j]?=some o→StepOk P n l m E w0 Sf Hf j o)
  {X:List (Nat×Value)} {S H:List (Nat×Psi)} (hend:FlowEnd P n l m E w0 Q X S H) (hX:∀ t v,look X t=some v→lookP Sf t=some (Is v)) (hS:∀ q ∈ S,lookP Sf q.1=some q.2) (hH:∀ q ∈ H,lookP Hf q.1=some q.2) :
  ∀ (f:Nat) (U:List Nat) (listed:Array Bool) (a:Act) (w:World),f=(l.length - m)+U.length→U.Nodup→(∀ i,i ∈ U↔i<m∧listed.getD i false=false)→InvF P n l m Sf Hf E w0 listed a w→wpAny P .any l.toArray Q f listed a w:=by
 have htake:∀ {i:Nat} {o:Oper},i<m→l[i]?=some o→(l.take m)[i]?=some o:=fun hi ho=>by rw [List.getElem?_take_of_lt hi];exact ho
 have hdin:∀ {i:Nat} {o:Oper} {d:Nat},i<m→l[i]?=some o→o.dst=some d→d ∈ dsts (l.take m):=fun hi ho hd=>mem_dsts.1 ⟨_,_,htake hi ho,hd⟩
 have hfinish:∀ {f:Nat} {listed:Array Bool} {a:Act} {w:World},f=l.length - m→(∀ i,i<m→listed.getD i false=true)→InvF P n l m Sf Hf E w0 listed a w→wpAny P .any l.toArray Q f listed a w:=by
  intro f listed a w hf hL hI
  have hle:=hD.le
  refine stageB hD.back hD.last f m listed a w (by omega) (Nat.le_refl _) hI.size hL hI.noB ?_
  have hrel:Rg P (Tg w0 (blocksOf E (stSlots (l.take m)))) w0 w:=by
   refine hI.rel.weak ?_
   rintro k _ (h1 | ⟨j,o,p,hj,ho,_,hp,hlk⟩)
   ·exact .inl h1
   ·exact .inr (mem_blocksOf hlk (mem_stSlots ⟨j,o,htake hj ho,hp⟩))
  have hfact:∀ t φ,lookP Sf t=some φ→∃ v,a.tmps[t]?=some v∧φ v w:=by
   intro t φ ht
   have:t ∈ dsts (l.take m):=by rw [← hSk];exact mem_lookP ht
   obtain ⟨i,o,hi,hd⟩:=mem_dsts.2 this
   have him:i<m:=by have:=(List.getElem?_eq_some_iff.1 hi).1;simp at this;omega
   rw [List.getElem?_take_of_lt him] at hi
   exact hI.facts i o t φ him hi (hL i him) hd ht
  obtain ⟨E2,hfit,hst⟩:=allP_spec hI.tmps hI.defers S (X++E) (by
   intro k v hk
   rcases look_append hk with h1 | h1
   ·obtain ⟨u,hu,he⟩:=hfact k _ (hX k v h1)
    rw [hu];exact congrArg some he
   ·exact hI.base k v h1) (fun t ψ ht=>hfact t ψ (hS _ ht)) (hend w hrel)
  refine hst (heldP_spec ?_) ?_ a hfit
  ·intro q hq v hv
   have hlk:=hH q hq
   have:q.1 ∈ stSlots (l.take m):=by rw [← hHk];exact mem_lookP hlk
   have hex:∃ (i:Nat) (o:Oper),i<m∧l[i]?=some o∧stSlot o=some q.1:=by
    clear hv hlk
    have aux:∀ (r:List Oper),q.1 ∈ stSlots r→∃ (i:Nat) (o:Oper),r[i]?=some o∧stSlot o=some q.1:=by
     intro r
     induction r with
     | nil=>intro h;cases h
     | cons x r ih =>
      intro h
      unfold stSlots at h
      split at h
      ·rename_i p hp
       rcases List.mem_cons.1 h with e | h
       ·exact ⟨0,x,rfl,by rw [e];exact hp⟩
       ·obtain ⟨i,o,h1,h2⟩:=ih h
        exact ⟨i+1,o,h1,h2⟩
      ·obtain ⟨i,o,h1,h2⟩:=ih h
       exact ⟨i+1,o,h1,h2⟩
    obtain ⟨i,o,h1,h2⟩:=aux _ this
    have him:i<m:=by have:=(List.getElem?_eq_some_iff.1 h1).1;simp at this;omega
    rw [List.getElem?_take_of_lt him] at h1
    exact ⟨i,o,him,h1,h2⟩
   obtain ⟨i,o,him,hi,hp⟩:=hex
   obtain ⟨u,hu,hχ⟩:=hI.held i o q.1 q.2 him hi (hL i him) hp hlk
   have:=hfit.slots _ _ hv
   rw [hu] at this;cases this
   exact hχ
  ·intro t ht t' ht' hne v hv hv'
   obtain ⟨i,oi,hi,hai,hdi⟩:=mem_allocs ht
   obtain ⟨j,oj,hj,haj,hdj⟩:=mem_allocs ht'
   have him:i<m:=by have:=(List.getElem?_eq_some_iff.1 hi).1;simp at this;omega
   have hjm:j<m:=by have:=(List.getElem?_eq_some_iff.1 hj).1;simp at this;omega
   rw [List.getElem?_take_of_lt him] at hi
   rw [List.getElem?_take_of_lt hjm] at hj
   refine hI.apart i j oi oj t t' v him hjm ?_ hi hj (hL i him) (hL j hjm) hai haj hdi hdj (hfit.slots t v hv) (hfit.slots t' v hv')
   intro e;subst e
   rw [hi] at hj;cases hj
   rw [hdi] at hdj;cases hdj
   exact hne rfl
 intro f
 induction f with
 | zero =>
  intro U listed a w hf hU hmem hI
  have h0:U=[]:=List.eq_nil_of_length_eq_zero (by omega)
  subst h0
  refine hfinish (by simpa using hf) ?_ hI
  intro i hi
  cases hx:listed.getD i false with
  | true=>rfl
  | false=>have:=(hmem i).2 ⟨hi,hx⟩;cases this
 | succ f ih =>
  intro U listed a w hf hU hmem hI
  by_cases h0:U=[]
  ·subst h0
   refine hfinish (by simpa using hf) ?_ hI
   intro i hi
   cases hx:listed.getD i false with
   | true=>rfl
   | false=>have:=(hmem i).2 ⟨hi,hx⟩;cases this
  ·have hgd:∀ i,i<l.length→listed.getD i true=listed.getD i false:=fun i hi=>by
    have:i<listed.size:=by have:=hI.size;omega
    simp [Array.getD_eq_getD_getElem?,this]
   have hclo:∀ (i:Nat) (o:Oper),l[i]?=some o→(∀ e ∈ edgesTo o,listed.getD e false=true)→∀ j,((masks [] l).getD i 0).testBit j=true→listed.getD j false=true :=
    masks_spec (l:=l) (L:=fun j=>listed.getD j false=true) hI.closed l [] [] rfl rfl (fun j _ hj=>by simp at hj)
   constructor
   ·intro hr
    exfalso
    obtain ⟨x,hx⟩:=List.exists_mem_of_ne_nil U h0
    have hleast:∀ b,∀ i,i<b→i<m→listed.getD i false=false→∃ i0,i0<m∧listed.getD i0 false=false∧∀ j,j<i0→listed.getD j false=true:=by
     intro b
     induction b with
     | zero=>intro i hi;omega
     | succ b ihb =>
      intro i hi him hil
      by_cases hall:∀ j,j<i→listed.getD j false=true
      ·exact ⟨i,him,hil,hall⟩
      ·have:∃ j,j<i∧listed.getD j false=false:=by
        apply Classical.byContradiction
        intro hne
        apply hall
        intro j hj
        cases hx:listed.getD j false with
        | true=>rfl
        | false=>exact absurd ⟨j,hj,hx⟩ hne
       obtain ⟨j,hj,hjl⟩:=this
       exact ihb j (by omega) (by omega) hjl
    obtain ⟨i0,hi0,hl0,hbef⟩:=hleast (x+1) x (by omega) ((hmem x).1 hx).1 ((hmem x).1 hx).2
    have hi0l:i0<l.length:=by have:=hD.le;omega
    have:i0 ∈ Region.ready .any l.toArray listed:=by
     refine mem_ready.2 ⟨by rw [hgd i0 hi0l];exact hl0,l[i0],by simp [hi0l],fun e he hb=>hbef _ ?_⟩
     exact hD.back i0 l[i0] (List.getElem?_eq_getElem hi0l) e.on (mem_edgesTo.2 ⟨e,he,hb,rfl⟩)
    rw [hr] at this
    cases this
   ·intro i hi
    obtain ⟨h3,o,ho,hall2⟩:=mem_ready.1 hi
    have hil:i<l.length:=by
     have:=(Array.getElem?_eq_some_iff.1 ho).1
     simpa using this
    have hol:l[i]?=some o:=by simpa using ho
    rw [hgd i hil] at h3
    have hedges:∀ e ∈ edgesTo o,listed.getD e false=true:=fun e he=>by
     obtain ⟨e',h5,h6,h7⟩:=mem_edgesTo.1 he;subst h7;exact hall2 e' h5 h6
    have him:i<m:=by
     rcases Nat.lt_or_ge i m with h | h
     ·exact h
     ·exfalso
      obtain ⟨x,hx⟩:=List.exists_mem_of_ne_nil U h0
      have hxm:=(hmem x).1 hx
      have:=hclo i o hol hedges x (hD.last i h hil x (by omega))
      rw [hxm.2] at this
      cases this
    have hrel:Rg P (Tg w0 (blocksOf E (later l m i))) w0 w:=by
     refine hI.rel.weak ?_
     rintro k _ (h1 | ⟨j,oj,p,hj,hoj,hjl,hp,hlk⟩)
     ·exact .inl h1
     ·refine .inr (mem_blocksOf hlk (mem_laterFrom (l.take m) 0 j oj (htake hj hoj) hp ?_))
      rw [Nat.zero_add]
      cases hb:((masks [] l).getD j 0).testBit i with
      | false=>rfl
      | true =>
       have:=hclo j oj hoj (fun e he=>hI.closed j oj hoj hjl e he) i hb
       rw [h3] at this;cases this
    obtain ⟨E2,hfit,hop⟩:=hstep i o him hol w a hrel hI.tmps hI.defers hI.base (fun t ht φ hφ=>by
     obtain ⟨j,oj,hj,hoj,hdj,hje⟩:=hD.pred i o him hol t ht (by rw [← hSk];exact mem_lookP hφ)
     exact hI.facts j oj t φ hj hoj (hedges j hje) hdj hφ)
    have hiU:i ∈ U:=(hmem i).2 ⟨him,h3⟩
    have hset:∀ j,(listed.setIfInBounds i true).getD j false=if j=i then true else listed.getD j false:=by
     intro j
     simp only [Array.getD_eq_getD_getElem?]
     by_cases e:j=i
     ·subst e;simp [hI.size,hil]
     ·rw [Array.getElem?_setIfInBounds_ne (fun e'=>e e'.symm),if_neg e]
    have hUlen:f=l.length - m+(U.erase i).length:=by
     have hpos:0<U.length:=List.length_pos_of_mem hiU
     rw [List.length_erase_of_mem hiU];omega
    have hUmem:∀ j,j ∈ U.erase i↔j<m∧(listed.setIfInBounds i true).getD j false=false:=by
     intro j
     rw [hU.mem_erase_iff,hset]
     constructor
     ·rintro ⟨hne,hj⟩
      rw [if_neg hne]
      exact (hmem j).1 hj
     ·rintro ⟨hj,hj2⟩
      by_cases e:j=i
      ·rw [if_pos e] at hj2;cases hj2
      ·rw [if_neg e] at hj2;exact ⟨e,(hmem j).2 ⟨hj,hj2⟩⟩
    have hclosed':∀ j oj,l[j]?=some oj→(listed.setIfInBounds i true).getD j false=true→∀ e ∈ edgesTo oj,(listed.setIfInBounds i true).getD e false=true:=by
     intro j oj hj hjl e he
     rw [hset] at hjl ⊢
     by_cases e1:e=i
     ·rw [if_pos e1]
     ·rw [if_neg e1]
      by_cases e2:j=i
      ·subst e2
       rw [hol] at hj;cases hj
       exact hedges e he
      ·rw [if_neg e2] at hjl
       exact hI.closed j oj hj hjl e he
    have hnoB':∀ j,m≤j→(listed.setIfInBounds i true).getD j false=false:=by
     intro j hj
     rw [hset,if_neg (by omega)]
     exact hI.noB j hj
    have hrel':∀ {w2:World},Rg P (fun k=>w0.heap.size≤k∨∃ j o p,j<m∧l[j]?=some o∧(listed.setIfInBounds i true).getD j false=true∧stSlot o=some p∧look E p=some (.pointer (some ⟨k,0,none⟩))) w w2→Rg P (fun k=>w0.heap.size≤k∨∃ j o p,j<m∧l[j]?=some o∧(listed.setIfInBounds i true).getD j false=true∧stSlot o=some p∧look E p=some (.pointer (some ⟨k,0,none⟩))) w0 w2:=by
     intro w2 h
     refine Rg.trans (hI.rel.weak ?_) h
     rintro k _ (h1 | ⟨j,oj,p,hj,hoj,hjl,hp,hlk⟩)
     ·exact .inl h1
     ·refine .inr ⟨j,oj,p,hj,hoj,?_,hp,hlk⟩
      rw [hset]
      split
      ·rfl
      ·exact hjl
    unfold wpOp
    simp only [ho]
    rcases hop with ⟨d,ψ,hd,hψ,hop⟩ | ⟨p,χ,hp,hχ,hop⟩
    ·have hdS:d ∈ dsts (l.take m):=hdin him hol hd
     have hdn:d<n:=hlt d hdS
     have next:∀ v w2,(Ext w w2∧ψ v w2∧NewPtr o w v w2)→wpAny P .any l.toArray Q f (listed.setIfInBounds i true) (a.put o.dst v) w2:=by
      rintro v w2 ⟨hx2,hpsi,hnew⟩
      have hput:∀ {t:Nat} {u:Value},t≠d→a.tmps[t]?=some u→(a.put o.dst v).tmps[t]?=some u:=by
       intro t u hne hu
       simp only [hd,Act.put]
       rw [Array.getElem?_setIfInBounds_ne (fun e=>hne e.symm)]
       exact hu
      have hself:(a.put o.dst v).tmps[d]?=some v:=by simp [hd,Act.put,hI.tmps,hdn]
      refine ih (U.erase i) _ _ w2 hUlen (hU.erase i) hUmem ⟨by simpa using hI.size,hclosed',by simp [hd,Act.put,hI.tmps],by simp [hd,Act.put,hI.defers],?_,?_,?_,hrel' hx2.rg,hnoB',?_,?_⟩
      ·intro k u hk
       refine hput ?_ (hI.base k u hk)
       intro e;subst e
       rw [hfree k hdS] at hk;cases hk
      ·intro j oj d' φ hj hoj hjl hd' hφ
       rw [hset] at hjl
       by_cases e:j=i
       ·subst e
        rw [hol] at hoj;cases hoj
        rw [hd] at hd';cases hd'
        rw [hψ] at hφ;cases hφ
        exact ⟨v,hself,hpsi⟩
       ·rw [if_neg e] at hjl
        obtain ⟨u,hu,hφu⟩:=hI.facts j oj d' φ hj hoj hjl hd' hφ
        refine ⟨u,hput ?_ hu,hmo _ (lookP_in hφ) u w w2 hx2.rg hφu⟩
        intro e';subst e'
        exact e (inj_dsts hD.ndd (htake hj hoj) (htake him hol) hd' hd)
      ·intro j oj q ξ hj hoj hjl hq hξ
       rw [hset] at hjl
       have e:j≠i:=by
        intro e;subst e
        rw [hol] at hoj;cases hoj
        simp [stSlot,hd] at hq
       rw [if_neg e] at hjl
       obtain ⟨u,hu,hξu⟩:=hI.held j oj q ξ hj hoj hjl hq hξ
       refine ⟨u,hput ?_ hu,(hmx _ (lookP_in hξ)).1 u w w2 hx2 hξu⟩
       intro e';subst e'
       by_cases hin:q ∈ dsts (l.take m)
       ·obtain ⟨x,ox,hx,hox,hdx,_,hxe⟩:=hD.slot j oj q hj hoj hq hin
        have hxi:=inj_dsts hD.ndd (htake hx hox) (htake him hol) hdx hd
        subst hxi
        have:=hI.closed j oj hoj hjl x hxe
        rw [h3] at this;cases this
       ·exact hin hdS
      ·intro j oj d' hj hoj hjl hal hd'
       rw [hset] at hjl
       by_cases e:j=i
       ·subst e
        rw [hol] at hoj;cases hoj
        rw [hd] at hd';cases hd'
        obtain ⟨b,rfl,hb0,hb⟩:=hnew hal
        exact ⟨b,hself,Nat.le_trans hI.rel.size hb0,hb⟩
       ·rw [if_neg e] at hjl
        obtain ⟨b,hb,hb0,hbl⟩:=hI.made j oj d' hj hoj hjl hal hd'
        refine ⟨b,hput ?_ hb,hb0,Nat.lt_of_lt_of_le hbl hx2.size⟩
        intro e';subst e'
        exact e (inj_dsts hD.ndd (htake hj hoj) (htake him hol) hd' hd)
      ·have hold:∀ j oj d' u,j<m→j≠i→l[j]?=some oj→listed.getD j false=true→isAlloc oj.op=true→oj.dst=some d'→(a.put o.dst v).tmps[d']?=some u→a.tmps[d']?=some u∧∃ b,u=.pointer (some ⟨b,0,none⟩)∧b<w.heap.size:=by
        intro j oj d' u hj hne hoj hjl hal hd' hu
        obtain ⟨b,hb,_,hbl⟩:=hI.made j oj d' hj hoj hjl hal hd'
        have hne':d'≠d:=fun e'=>hne (inj_dsts hD.ndd (htake hj hoj) (htake him hol) (by rw [hd',e']) hd)
        rw [hput hne' hb] at hu
        cases hu
        exact ⟨hb,b,rfl,hbl⟩
       have hnewv:isAlloc o.op=true→∀ u,(a.put o.dst v).tmps[d]?=some u→∃ b,u=.pointer (some ⟨b,0,none⟩)∧w.heap.size≤b:=by
        intro hal u hu
        obtain ⟨b,hb,hb0,_⟩:=hnew hal
        rw [hself] at hu
        cases hu
        exact ⟨b,hb,hb0⟩
       intro j k oj ok dj dk u hj hk hne hoj hok hjl hkl haj hak hdj hdk huj huk
       rw [hset] at hjl hkl
       by_cases e1:j=i
       ·subst e1
        have e2:¬ k=j:=fun e=>hne e.symm
        rw [if_neg e2] at hkl
        rw [hol] at hoj;cases hoj
        rw [hd] at hdj;cases hdj
        obtain ⟨_,b,hb,hbl⟩:=hold k ok dk u hk e2 hok hkl hak hdk huk
        obtain ⟨b',hb',hbl'⟩:=hnewv haj u huj
        rw [hb] at hb';cases hb'
        omega
       ·rw [if_neg e1] at hjl
        obtain ⟨huj',b,hb,hbl⟩:=hold j oj dj u hj e1 hoj hjl haj hdj huj
        by_cases e2:k=i
        ·subst e2
         rw [hol] at hok;cases hok
         rw [hd] at hdk;cases hdk
         obtain ⟨b',hb',hbl'⟩:=hnewv hak u huk
         rw [hb] at hb';cases hb'
         omega
        ·rw [if_neg e2] at hkl
         obtain ⟨huk',_⟩:=hold k ok dk u hk e2 hok hkl hak hdk huk
         exact hI.apart j k oj ok dj dk u hj hk hne hoj hok hjl hkl haj hak hdj hdk huj' huk'
     rcases hop with ⟨hwant,hop⟩ | ⟨hwant,hop⟩
     ·rw [if_pos (wantE_spec hfit hwant)]
      exact .inl (hop a hfit Q _ next)
     ·rw [if_neg (by rw [wantE_spec hfit hwant];simp)]
      exact next undef w hop
    ·have hdst:o.dst=none:=by
      unfold stSlot at hp
      split at hp
      ·assumption
      ·cases hp
     have next:∀ v w2,(∃ b,look E2 p=some (.pointer (some ⟨b,0,none⟩))∧Upd b w w2∧VarKept P b w w2∧χ (.pointer (some ⟨b,0,none⟩)) w2)→wpAny P .any l.toArray Q f (listed.setIfInBounds i true) (a.put o.dst v) w2:=by
      rintro v w2 ⟨b,hlb,hu,hvk,hχb⟩
      have hput:a.put o.dst v=a:=by rw [hdst];rfl
      rw [hput]
      have hpb:=hfit.slots p _ hlb
      obtain ⟨b',hb',hcase⟩:=hI.ptr hD hall hpre him hol hp hedges
      rw [hpb] at hb'
      simp only [Option.some.injEq,Value.pointer.injEq,Addr.mk.injEq,and_true] at hb'
      subst hb'
      refine ih (U.erase i) _ _ w2 hUlen (hU.erase i) hUmem ⟨by simpa using hI.size,hclosed',hI.tmps,hI.defers,hI.base,?_,?_,hrel' (Rg.of_upd hu hvk ?_),hnoB',?_,?_⟩
      ·intro j oj d' φ hj hoj hjl hd' hφ
       rw [hset] at hjl
       have e:j≠i:=by
        intro e;subst e
        rw [hol] at hoj;cases hoj
        rw [hdst] at hd';cases hd'
       rw [if_neg e] at hjl
       obtain ⟨u,hu',hφu⟩:=hI.facts j oj d' φ hj hoj hjl hd' hφ
       exact ⟨u,hu',hmo _ (lookP_in hφ) u w w2 (Rg.of_upd hu hvk trivial) hφu⟩
      ·intro j oj q ξ hj hoj hjl hq hξ
       rw [hset] at hjl
       by_cases e:j=i
       ·subst e
        rw [hol] at hoj;cases hoj
        rw [hp] at hq;cases hq
        rw [hχ] at hξ;cases hξ
        exact ⟨_,hpb,hχb⟩
       ·rw [if_neg e] at hjl
        obtain ⟨u,hu',hξu⟩:=hI.held j oj q ξ hj hoj hjl hq hξ
        refine ⟨u,hu',(hmx _ (lookP_in hξ)).2 u w w2 b hu hvk ?_ hξu⟩
        intro e';subst e'
        exact hI.ptr_ne hD hall hpre hj him e hoj hol hq hp (hI.closed j oj hoj hjl) hedges hu' hpb
      ·rcases hcase with ⟨_,h4⟩ | ⟨_,_,h4,_⟩
       ·exact .inl h4
       ·exact .inr ⟨i,o,p,him,hol,by rw [hset,if_pos rfl],hp,h4⟩
      ·intro j oj d' hj hoj hjl hal hd'
       rw [hset] at hjl
       have e:j≠i:=by
        intro e;subst e
        rw [hol] at hoj;cases hoj
        rw [hdst] at hd';cases hd'
       rw [if_neg e] at hjl
       obtain ⟨c,hc,hc0,hcl⟩:=hI.made j oj d' hj hoj hjl hal hd'
       exact ⟨c,hc,hc0,Nat.lt_of_lt_of_le hcl hu.size⟩
      ·intro j k oj ok dj dk u hj hk hne hoj hok hjl hkl haj hak hdj hdk huj huk
       rw [hset] at hjl hkl
       have e1:j≠i:=by
        intro e;subst e
        rw [hol] at hoj;cases hoj
        rw [hdst] at hdj;cases hdj
       have e2:k≠i:=by
        intro e;subst e
        rw [hol] at hok;cases hok
        rw [hdst] at hdk;cases hdk
       rw [if_neg e1] at hjl
       rw [if_neg e2] at hkl
       exact hI.apart j k oj ok dj dk u hj hk hne hoj hok hjl hkl haj hak hdj hdk huj huk
     rcases hop with ⟨hwant,hop⟩ | ⟨hwant,hop⟩
     ·rw [if_pos (wantE_spec hfit hwant)]
      exact .inl (hop a hfit Q _ next)
     ·rw [if_neg (by rw [wantE_spec hfit hwant];simp)]
      exact next undef w hop
theorem St.flow {P:Program} {n:Nat} {l:List Oper} (m:Nat) {E:List (Nat×Value)} {w:World} {Q:Exit→Act→World→Prop} {id:Nat} (hP:P.follows .mixedOrders=true) (hD:flowOk l m=true) (hfree:freeE (dsts (l.take m)) E=true) (hlt:(dsts (l.take m)).all (fun d=>Nat.blt d n)=true)
  (hall:allPtr E (preSlots l m)=true) (hpre:preD w (blocksOf E (preSlots l m))) (h:FL P n l m E w (FlowEnd P n l m E w Q) 0 [] [] [] (l.take m)):St P n E w (.region id l.toArray true) Q:=by
 intro a ha
 have hD':=flowOk_spec hD
 refine wp_region_any hP ?_
 have hle:=hD'.le
 obtain ⟨Sf,Hf,h1,h2,h3,h4,⟨X,S,H,h5,h6,h7,h8⟩,h9⟩:=FL_spec hle hD'.ndd hD'.nds (l.take m) [] [] [] [] [] [] rfl rfl rfl (by simp [look]) (by simp) (by simp) h
 simp only [List.nil_append] at h1 h2 h6 h7 h8 h9
 have hrep:∀ i,(Array.replicate l.toArray.size false).getD i false=false:=by
  intro i
  simp [Array.getD_eq_getD_getElem?,Array.getElem?_replicate]
  split <;> simp
 refine stageF hD' h1 h2 h3 h4 (freeE_spec hfree) (fun d hd=>by simpa [Nat.blt_eq] using List.all_eq_true.1 hlt d hd) hall hpre (fun j o hj ho=>h9 j o (Nat.zero_le _) hj ho) h5 h6 h7 h8 l.toArray.size (List.range m) _ a _ (by simp;omega) List.nodup_range ?_
  ⟨by simp,?_,ha.size,ha.defers,ha.slots,?_,?_,⟨rfl,rfl,rfl,Nat.le_refl _,fun _ _=>.inl rfl⟩,?_,?_,?_⟩
 ·intro i
  rw [List.mem_range,hrep]
  simp
 ·intro i o _ h
  rw [hrep] at h;cases h
 ·intro i o d ψ _ _ h
  rw [hrep] at h;cases h
 ·intro i o d ψ _ _ h
  rw [hrep] at h;cases h
 ·intro i _
  exact hrep i
 ·intro i o d _ _ h
  rw [hrep] at h;cases h
 ·intro i j oi oj di dj v _ _ _ _ _ h
  rw [hrep] at h;cases h
end Go.Qf
namespace Go.Qf
open Go Go.RowKit
def noneS (S:List (Nat×Psi)):List Nat→Bool
 | []=>true
 | t::r=>match lookP S t with
  | some _=>false
  | none=>noneS S r
theorem obl_none {S:List (Nat×Psi)} {w:World} {k:List (Nat×Value)→Prop}:∀ {ts:List Nat} {E:List (Nat×Value)},noneS S ts=true→k E→obl S ts E w k:=by
 intro ts
 induction ts with
 | nil=>intro E _ h;exact h
 | cons t r ih =>
  intro E hn h
  unfold noneS at hn
  unfold obl
  split at hn
  ·cases hn
  ·rename_i hl
   first | exact ih hn h | (rw [hl];exact ih hn h)
theorem obl_keep {S:List (Nat×Psi)} {w:World} {k:List (Nat×Value)→Prop}:∀ {ts:List Nat} {E:List (Nat×Value)},(∀ E2,(∀ t,lookP S t=none→look E2 t=look E t)→k E2)→obl S ts E w k:=by
 intro ts
 induction ts with
 | nil=>intro E h;exact h E fun _ _=>rfl
 | cons t r ih =>
  intro E h
  unfold obl
  split
  ·rename_i ψ hl
   intro v _
   refine ih fun E2 h2=>h E2 fun u hu=>?_
   rw [h2 u hu,look_cons_ne]
   intro e;subst e
   rw [hl] at hu;cases hu
  ·exact ih h
def guardSlot (l:List Oper):Option (Nat×Bool)→List Nat
 | none=>[]
 | some (j,_)=>match (l[j]?).bind (·.dst) with
  | some d=>[d]
  | none=>[]
theorem wantE_keep {l:List Oper} {S:List (Nat×Psi)} {E E2:List (Nat×Value)} {g:Option (Nat×Bool)} {b:Bool} (hg:noneS S (guardSlot l g)=true) (h2:∀ t,lookP S t=none→look E2 t=look E t) (h:wantE l.toArray E g=some b):wantE l.toArray E2 g=some b:=by
 unfold wantE at h ⊢
 cases g with
 | none=>exact h
 | some p =>
  obtain ⟨j,want⟩:=p
  simp only [guardSlot,List.getElem?_toArray] at hg h ⊢
  cases hd:(l[j]?).bind (·.dst) with
  | none=>rw [hd] at h;exact h
  | some d =>
   rw [hd] at h hg
   simp only at h ⊢
   have:lookP S d=none:=by
    simp only [noneS] at hg
    split at hg
    ·cases hg
    ·assumption
   rw [h2 d this]
   exact h
section
variable {P:Program} {T:List (Nat×TI)} {n:Nat} {l:List Oper} {m:Nat} {E:List (Nat×Value)} {w:World} {fin:List (Nat×Value)→List (Nat×Psi)→List (Nat×Psi)→Prop} {i:Nat} {X:List (Nat×Value)} {S H:List (Nat×Psi)} {o:Oper} {r:List Oper}
def runFL (T:List (Nat×TI)) (l:List Oper) (E:List (Nat×Value)) (S:List (Nat×Psi)):Nat→Nat→List (Nat×Value)→List Oper→Nat×List (Nat×Value)×List Oper
 | 0,i,X,r=>(i,X,r)
 | _+1,i,X,[]=>(i,X,[])
 | k+1,i,X,o::r =>
  match o.dst,wantE l.toArray (envX X E (looks l o)) o.guard with
  | some d,some true =>
   bif noneS S (looks l o) then
    match pureOp T (envX X E (looks l o)) o.op with
    | some v=>runFL T l E S k (i+1) ((d,v)::X) r
    | none=>(i,X,o::r)
   else (i,X,o::r)
  | some d,some false=>bif noneS S (guardSlot l o.guard) && !(isAlloc o.op) then runFL T l E S k (i+1) ((d,undef)::X) r else (i,X,o::r)
  | _,_=>(i,X,o::r)
theorem pure_noAlloc {E:List (Nat×Value)} {op:Op} {v:Value} (h:pureOp T E op=some v):isAlloc op=false:=by
 cases op <;> first | rfl | (simp [pureOp] at h)
theorem FL.run (hT:TblOk P T):∀ (k:Nat) {i i':Nat} {X X':List (Nat×Value)} {r r':List Oper},runFL T l E S k i X r=(i',X',r')→FL P n l m E w fin i' X' S H r'→FL P n l m E w fin i X S H r:=by
 intro k
 induction k with
 | zero=>intro i i' X X' r r' h hn;simp only [runFL,Prod.mk.injEq] at h;obtain ⟨rfl,rfl,rfl⟩:=h;exact hn
 | succ k ih =>
  intro i i' X X' r r' h hn
  cases r with
  | nil=>simp only [runFL,Prod.mk.injEq] at h;obtain ⟨rfl,rfl,rfl⟩:=h;exact hn
  | cons o r =>
   simp only [runFL] at h
   split at h
   ·rename_i d hd hw
    cases hb:noneS S (looks l o) with
    | false=>rw [hb] at h;simp only [cond_false,Prod.mk.injEq] at h;obtain ⟨rfl,rfl,rfl⟩:=h;exact hn
    | true =>
     rw [hb] at h
     simp only [cond_true] at h
     split at h
     ·rename_i v hv
      refine .inl ⟨d,v,hd,pure_noAlloc hv,fun w1 _=>obl_none hb (.inl ⟨hw,(OpR.pure hT hv).mono ?_⟩),ih h hn⟩
      rintro v' w' ⟨rfl,rfl⟩
      exact ⟨Ext.refl _,rfl⟩
     ·simp only [Prod.mk.injEq] at h;obtain ⟨rfl,rfl,rfl⟩:=h;exact hn
   ·rename_i d hd hw
    cases hb:(noneS S (guardSlot l o.guard) && !(isAlloc o.op)) with
    | false=>rw [hb] at h;simp only [cond_false,Prod.mk.injEq] at h;obtain ⟨rfl,rfl,rfl⟩:=h;exact hn
    | true =>
     rw [hb] at h
     simp only [cond_true] at h
     simp only [Bool.and_eq_true,Bool.not_eq_true'] at hb
     refine .inl ⟨d,undef,hd,hb.2,fun w1 _=>obl_keep fun E2 h2=>.inr ⟨wantE_keep hb.1 h2 hw,Ext.refl _,rfl⟩,ih h hn⟩
   ·simp only [Prod.mk.injEq] at h;obtain ⟨rfl,rfl,rfl⟩:=h;exact hn
theorem FL.as (hT:TblOk P T) (k:Nat) {i i':Nat} {X X':List (Nat×Value)} {r r':List Oper} {d:Nat} {v:Value} (v':Value) (h:runFL T l E S k i X r=(i',(d,v)::X',r')) (hv:v=v') (next:FL P n l m E w fin i' ((d,v')::X') S H r'):FL P n l m E w fin i X S H r :=
 FL.run hT k (hv ▸ h) next
theorem FL.one {d:Nat} {v:Value} {L:List Nat} (hd:o.dst=some d) (hal:isAlloc o.op=false) (hS:noneS S (looks l o)=true) (hw:wantE l.toArray (envX X E (looks l o)) o.guard=some true) (hL:blocksOf E (later l m i)=L)
  (h:∀ w1,Rg P (Tg w L) w w1→RunsTo P n o (envX X E (looks l o)) w1 v) (next:FL P n l m E w fin (i+1) ((d,v)::X) S H r):FL P n l m E w fin i X S H (o::r):=by
 subst hL
 refine .inl ⟨d,v,hd,hal,fun w1 hR=>obl_none hS (.inl ⟨hw,(h w1 hR).op.mono ?_⟩),next⟩
 rintro v' w' ⟨rfl,rfl⟩
 exact ⟨Ext.refl _,rfl⟩
theorem FL.load (hT:TblOk P T) {d:Nat} {t:TypeId} {x:Operand} {ty:TypeId} {pos:String} {af:Array Edge} {g:Option (Nat×Bool)} {ti:TI} {b off:Nat} {e:TypeId} {C:List Value} {v:Value} {L:List Nat}
  (hS:noneS S (looks l ⟨some d,.load t x,ty,pos,af,g⟩)=true) (hw:wantE l.toArray (envX X E (looks l ⟨some d,.load t x,ty,pos,af,g⟩)) g=some true) (hL:blocksOf E (later l m i)=L)
  (ht:lookT T t=some ti) (hag:isAggD ti.desc=false) (hx:ov (envX X E (looks l ⟨some d,.load t x,ty,pos,af,g⟩)) x=some (.pointer (some ⟨b,off,none⟩))) (hb:Blk e w b C) (hbL:b ∉ L) (hc:C[off]?=some v)
  (next:FL P n l m E w fin (i+1) ((d,v)::X) S H r):FL P n l m E w fin i X S H (⟨some d,.load t x,ty,pos,af,g⟩::r) :=
 FL.one rfl rfl hS hw hL (fun _ hR=>RunsTo.load hT ht hag hx ((hR.blk hb hbL).cell hc)) next
theorem FL.loadAgg (hT:TblOk P T) {d:Nat} {t:TypeId} {x:Operand} {ty:TypeId} {pos:String} {af:Array Edge} {g:Option (Nat×Bool)} {ti:TI} {b off:Nat} {e:TypeId} {C cs:List Value} {L:List Nat}
  (hS:noneS S (looks l ⟨some d,.load t x,ty,pos,af,g⟩)=true) (hw:wantE l.toArray (envX X E (looks l ⟨some d,.load t x,ty,pos,af,g⟩)) g=some true) (hL:blocksOf E (later l m i)=L)
  (ht:lookT T t=some ti) (hag:isAggD ti.desc=true) (hx:ov (envX X E (looks l ⟨some d,.load t x,ty,pos,af,g⟩)) x=some (.pointer (some ⟨b,off,none⟩))) (hb:Blk e w b C) (hbL:b ∉ L) (hle:off+ti.size≤C.length) (hcs:(C.drop off).take ti.size=cs)
  (next:FL P n l m E w fin (i+1) ((d,.agg cs.toArray)::X) S H r):FL P n l m E w fin i X S H (⟨some d,.load t x,ty,pos,af,g⟩::r) :=
 FL.one rfl rfl hS hw hL (fun _ hR=>RunsTo.loadAgg hT ht hag hx (hR.blk hb hbL) hle hcs) next
def CallF (P:Program) (f:FuncId) (args:Array Operand) (ψ:Psi) (w1:World) (E2:List (Nat×Value)):Prop:=∃ vs,ovs E2 args.toList=some vs∧Calls P f vs.toArray w1 (Ret fun v w'=>Ext w1 w'∧ψ v w')
theorem CallF.mk {f:FuncId} {args:Array Operand} {ψ:Psi} {w1:World} {E2:List (Nat×Value)} {vs:List Value} (h:ovs E2 args.toList=some vs) (hc:Calls P f vs.toArray w1 (Ret fun v w'=>Ext w1 w'∧ψ v w')):CallF P f args ψ w1 E2:=⟨vs,h,hc⟩
theorem obl_mono {S:List (Nat×Psi)} {w:World} {k k':List (Nat×Value)→Prop} (hk:∀ E,k E→k' E):∀ {ts:List Nat} {E:List (Nat×Value)},obl S ts E w k→obl S ts E w k':=by
 intro ts
 induction ts with
 | nil=>intro E h;exact hk E h
 | cons t r ih =>
  intro E h
  unfold obl at h ⊢
  split
  ·rename_i ψ hl
   rw [hl] at h
   exact fun v hv=>ih (h v hv)
  ·rename_i hl
   rw [hl] at h
   exact ih h
theorem obl_and {S:List (Nat×Psi)} {w:World} {k k':List (Nat×Value)→Prop}:∀ {ts:List Nat} {E:List (Nat×Value)},obl S ts E w k→obl S ts E w k'→obl S ts E w (fun E2=>k E2∧k' E2):=by
 intro ts
 induction ts with
 | nil=>intro E h h';exact ⟨h,h'⟩
 | cons t r ih =>
  intro E h h'
  unfold obl at h h' ⊢
  split
  ·rename_i ψ hl
   rw [hl] at h h'
   exact fun v hv=>ih (h v hv) (h' v hv)
  ·rename_i hl
   rw [hl] at h h'
   exact ih h h'
theorem FL.call {f:FuncId} {fn:Func} (hF:IsFn P f fn) {d:Nat} {args:Array Operand} {tys:Array TypeId} {ty:TypeId} {pos:String} {af:Array Edge} {g:Option (Nat×Bool)} {ψ:Psi} {L:List Nat}
  (hg:noneS S (guardSlot l g)=true) (hw:wantE l.toArray (envX X E (looks l ⟨some d,.call ⟨.value (.func f),args,tys⟩,ty,pos,af,g⟩)) g=some true) (hL:blocksOf E (later l m i)=L)
  (h:∀ w1,Rg P (Tg w L) w w1→obl S (looks l ⟨some d,.call ⟨.value (.func f),args,tys⟩,ty,pos,af,g⟩) (envX X E (looks l ⟨some d,.call ⟨.value (.func f),args,tys⟩,ty,pos,af,g⟩)) w1 (CallF P f args ψ w1))
  (hmono:MonoR P ψ) (next:FL P n l m E w fin (i+1) X ((d,ψ)::S) H r):FL P n l m E w fin i X S H (⟨some d,.call ⟨.value (.func f),args,tys⟩,ty,pos,af,g⟩::r):=by
 subst hL
 refine .inr (.inl ⟨d,ψ,rfl,hmono,fun w1 hR=>obl_mono ?_ (obl_and (h w1 hR) (obl_keep fun E2 h2=>wantE_keep hg h2 hw)),next⟩)
 rintro E2 ⟨⟨vs,hvs,hc⟩,hw2⟩
 refine .inl ⟨hw2,(OpR.call hF hvs hc).mono ?_⟩
 intro v w2 hv
 exact ⟨hv.1,hv.2,fun e=>by cases e⟩
theorem FL.callX {f:FuncId} {fn:Func} (hF:IsFn P f fn) {d:Nat} {args:Array Operand} {tys:Array TypeId} {ty:TypeId} {pos:String} {af:Array Edge} {g:Option (Nat×Bool)} {c:Value} {L:List Nat}
  (hg:noneS S (guardSlot l g)=true) (hw:wantE l.toArray (envX X E (looks l ⟨some d,.call ⟨.value (.func f),args,tys⟩,ty,pos,af,g⟩)) g=some true) (hL:blocksOf E (later l m i)=L)
  (h:∀ w1,Rg P (Tg w L) w w1→obl S (looks l ⟨some d,.call ⟨.value (.func f),args,tys⟩,ty,pos,af,g⟩) (envX X E (looks l ⟨some d,.call ⟨.value (.func f),args,tys⟩,ty,pos,af,g⟩)) w1 (CallF P f args (Is c) w1))
  (next:FL P n l m E w fin (i+1) ((d,c)::X) S H r):FL P n l m E w fin i X S H (⟨some d,.call ⟨.value (.func f),args,tys⟩,ty,pos,af,g⟩::r):=by
 subst hL
 refine .inl ⟨d,c,rfl,rfl,fun w1 hR=>obl_mono ?_ (obl_and (h w1 hR) (obl_keep fun E2 h2=>wantE_keep hg h2 hw)),next⟩
 rintro E2 ⟨⟨vs,hvs,hc⟩,hw2⟩
 exact .inl ⟨hw2,OpR.call hF hvs hc⟩
theorem FL.callE {f:FuncId} {fn:Func} (hF:IsFn P f fn) {d:Nat} {args:Array Operand} {tys:Array TypeId} {ty:TypeId} {pos:String} {af:Array Edge} {g:Option (Nat×Bool)} {ψ:Psi}
  (hg:noneS S (guardSlot l g)=true) (hw:wantE l.toArray (envX X E (looks l ⟨some d,.call ⟨.value (.func f),args,tys⟩,ty,pos,af,g⟩)) g=some true) (hL:blocksOf E (later l m i)=[])
  (h:∀ w1,Ext w w1→obl S (looks l ⟨some d,.call ⟨.value (.func f),args,tys⟩,ty,pos,af,g⟩) (envX X E (looks l ⟨some d,.call ⟨.value (.func f),args,tys⟩,ty,pos,af,g⟩)) w1 (CallF P f args ψ w1))
  (hmono:MonoR P ψ) (next:FL P n l m E w fin (i+1) X ((d,ψ)::S) H r):FL P n l m E w fin i X S H (⟨some d,.call ⟨.value (.func f),args,tys⟩,ty,pos,af,g⟩::r) :=
 FL.call hF hg hw hL (fun w1 hR=>h w1 hR.ext_nil) hmono next
theorem FL.callXE {f:FuncId} {fn:Func} (hF:IsFn P f fn) {d:Nat} {args:Array Operand} {tys:Array TypeId} {ty:TypeId} {pos:String} {af:Array Edge} {g:Option (Nat×Bool)} {c:Value}
  (hg:noneS S (guardSlot l g)=true) (hw:wantE l.toArray (envX X E (looks l ⟨some d,.call ⟨.value (.func f),args,tys⟩,ty,pos,af,g⟩)) g=some true) (hL:blocksOf E (later l m i)=[])
  (h:∀ w1,Ext w w1→obl S (looks l ⟨some d,.call ⟨.value (.func f),args,tys⟩,ty,pos,af,g⟩) (envX X E (looks l ⟨some d,.call ⟨.value (.func f),args,tys⟩,ty,pos,af,g⟩)) w1 (CallF P f args (Is c) w1))
  (next:FL P n l m E w fin (i+1) ((d,c)::X) S H r):FL P n l m E w fin i X S H (⟨some d,.call ⟨.value (.func f),args,tys⟩,ty,pos,af,g⟩::r) :=
 FL.callX hF hg hw hL (fun w1 hR=>h w1 hR.ext_nil) next
theorem FL.fact {d:Nat} {ψ:Psi} {L:List Nat} (hd:o.dst=some d) (hal:isAlloc o.op=false) (hg:noneS S (guardSlot l o.guard)=true) (hw:wantE l.toArray (envX X E (looks l o)) o.guard=some true) (hL:blocksOf E (later l m i)=L)
  (h:∀ w1,Rg P (Tg w L) w w1→obl S (looks l o) (envX X E (looks l o)) w1 (fun E2=>OpR P n o E2 w1 (fun v w2=>Ext w1 w2∧ψ v w2)))
  (hmono:MonoR P ψ) (next:FL P n l m E w fin (i+1) X ((d,ψ)::S) H r):FL P n l m E w fin i X S H (o::r):=by
 subst hL
 refine .inr (.inl ⟨d,ψ,hd,hmono,fun w1 hR=>obl_mono ?_ (obl_and (h w1 hR) (obl_keep fun E2 h2=>wantE_keep hg h2 hw)),next⟩)
 rintro E2 ⟨h1,hw2⟩
 refine .inl ⟨hw2,h1.mono ?_⟩
 intro v w2 hv
 exact ⟨hv.1,hv.2,fun e=>by rw [hal] at e;cases e⟩
theorem FL.exact {d:Nat} {c:Value} {L:List Nat} (hd:o.dst=some d) (hal:isAlloc o.op=false) (hg:noneS S (guardSlot l o.guard)=true) (hw:wantE l.toArray (envX X E (looks l o)) o.guard=some true) (hL:blocksOf E (later l m i)=L)
  (h:∀ w1,Rg P (Tg w L) w w1→obl S (looks l o) (envX X E (looks l o)) w1 (fun E2=>OpR P n o E2 w1 (fun v w2=>Ext w1 w2∧v=c)))
  (next:FL P n l m E w fin (i+1) ((d,c)::X) S H r):FL P n l m E w fin i X S H (o::r):=by
 subst hL
 refine .inl ⟨d,c,hd,hal,fun w1 hR=>obl_mono ?_ (obl_and (h w1 hR) (obl_keep fun E2 h2=>wantE_keep hg h2 hw)),next⟩
 rintro E2 ⟨h1,hw2⟩
 exact .inl ⟨hw2,h1⟩
theorem RunsTo.ext {v:Value} {w1:World} {E2:List (Nat×Value)} (h:RunsTo P n o E2 w1 v) {ψ:Psi} (hψ:ψ v w1):OpR P n o E2 w1 (fun v' w2=>Ext w1 w2∧ψ v' w2):=by
 refine h.op.mono ?_
 rintro v' w' ⟨rfl,rfl⟩
 exact ⟨Ext.refl _,hψ⟩
def NewVar (base:Nat) (t:TypeId) (len:Nat):Psi:=fun v w=>∃ b C,v=.pointer (some ⟨b,0,none⟩)∧base≤b∧Blk t w b C∧C.length=len
theorem MonoR.newVar (base:Nat) (t:TypeId) (len:Nat):MonoR P (NewVar base t len):=by
 rintro v w w' hR ⟨b,C,rfl,h0,hb,hl⟩
 obtain ⟨C',hb',hl'⟩:=hR.blk_any hb
 exact ⟨b,C',rfl,h0,hb',hl'.trans hl⟩
theorem FL.alloc (hT:TblOk P T) {d:Nat} {t:TypeId} {ty:TypeId} {pos:String} {af:Array Edge} {g:Option (Nat×Bool)} {ti:TI} {len:Nat} (hS:noneS S (looks l ⟨some d,.alloc t,ty,pos,af,g⟩)=true) (hw:wantE l.toArray (envX X E (looks l ⟨some d,.alloc t,ty,pos,af,g⟩)) g=some true)
  (ht:lookT T t=some ti) (hlen:ti.zero.cells.toList.length=len) (next:FL P n l m E w fin (i+1) X ((d,NewVar w.heap.size t len)::S) H r):FL P n l m E w fin i X S H (⟨some d,.alloc t,ty,pos,af,g⟩::r):=by
 refine .inr (.inl ⟨d,_,rfl,MonoR.newVar _ _ _,fun w1 hR=>obl_none hS (.inl ⟨hw,(OpR.alloc hT ht).mono ?_⟩),next⟩)
 rintro v w2 ⟨rfl,hb,hx,hs⟩
 exact ⟨hx,⟨_,_,rfl,hR.size,hb,hlen⟩,fun _=>⟨_,rfl,Nat.le_refl _,by omega⟩⟩
theorem over_full:∀ (vs A C:List Value),C.length=vs.length→over (A++C) A.length vs=A++vs:=by
 intro vs
 induction vs with
 | nil=>intro A C h;simp only [List.length_nil] at h;rw [List.eq_nil_of_length_eq_zero h];rfl
 | cons v r ih =>
  intro A C h
  cases C with
  | nil=>simp at h
  | cons c C =>
   have:=ih (A++[v]) C (by simpa using h)
   simp only [over]
   simp only [List.length_append,List.length_cons,List.length_nil,List.append_assoc,List.singleton_append] at this
   simpa using this
theorem OpR.storeAll (hT:TblOk P T) {E2:List (Nat×Value)} {w1:World} {t:TypeId} {x y:Operand} {ty:TypeId} {pos:String} {af:Array Edge} {g:Option (Nat×Bool)} {ti:TI} {b:Nat} {C:List Value} {v:Value}
  (ht:lookT T t=some ti) (hag:isAggD ti.desc=true) (hx:ov E2 x=some (.pointer (some ⟨b,0,none⟩))) (hy:ov E2 y=some v) (hsz:v.cells.toList.length=ti.size) (hC:C.length=ti.size) (h1:∀ u ∈ v.cells.toList,u.oneCell'=true) (hb:Blk t w1 b C) :
  OpR P n ⟨none,.store t x y,ty,pos,af,g⟩ E2 w1 (fun _ w2=>Blk t w2 b v.cells.toList∧Upd b w1 w2∧VarKept P b w1 w2):=by
 refine (OpR.store hT ht hx hy rfl hsz hb (by omega) h1).mono ?_
 rintro _ w2 ⟨hb2,hu⟩
 have:=over_full v.cells.toList [] C (by omega)
 simp only [List.nil_append,List.length_nil] at this
 rw [this] at hb2
 refine ⟨hb2,hu,C,_,t,?_,by omega,hb,hb2⟩
 have hu:=(hT t ti ht).1
 unfold isV
 rw [hu]
 cases hd:ti.desc <;> simp [isAggD,hd] at hag ⊢
theorem FL.store (hT:TblOk P T) {t:TypeId} {p s:Nat} {ty:TypeId} {pos:String} {af:Array Edge} {g:Option (Nat×Bool)} {ti:TI} {L:List Nat} {ψ:Psi} {b:Nat} {C:List Value}
  (hg:noneS S (guardSlot l g)=true) (hw:wantE l.toArray (envX X E (looks l ⟨none,.store t (.tmp p) (.tmp s),ty,pos,af,g⟩)) g=some true) (hL:blocksOf E (later l m i)=L)
  (ht:lookT T t=some ti) (hag:isAggD ti.desc=true) (hb:Blk t w b C) (hC:C.length=ti.size) (hmono:MonoR P ψ)
  (h:∀ w1,Rg P (Tg w L) w w1→obl S (looks l ⟨none,.store t (.tmp p) (.tmp s),ty,pos,af,g⟩) (envX X E (looks l ⟨none,.store t (.tmp p) (.tmp s),ty,pos,af,g⟩)) w1 (fun E2=>look E2 p=some (.pointer (some ⟨b,0,none⟩))∧∃ v,look E2 s=some v∧v.cells.toList.length=ti.size∧(∀ u ∈ v.cells.toList,u.oneCell'=true)∧ψ v w1))
  (next:FL P n l m E w fin (i+1) X S ((p,Holds t ψ)::H) r):FL P n l m E w fin i X S H (⟨none,.store t (.tmp p) (.tmp s),ty,pos,af,g⟩::r):=by
 subst hL
 refine .inr (.inr ⟨p,_,rfl,MonoX.holds hmono,fun w1 hR=>obl_mono ?_ (obl_and (h w1 hR) (obl_keep fun E2 h2=>wantE_keep hg h2 hw)),next⟩)
 rintro E2 ⟨⟨hp,v,hv,hsz,h1,hψ⟩,hw2⟩
 obtain ⟨C',hb',hl'⟩:=hR.blk_any hb
 refine .inl ⟨hw2,(OpR.storeAll (x:=.tmp p) (y:=.tmp s) hT ht hag hp hv hsz (by omega) h1 hb').mono ?_⟩
 rintro _ w2 ⟨hb2,hu,hvk⟩
 exact ⟨b,hp,hu,hvk,b,v,rfl,hb2,hmono v w1 w2 (Rg.of_upd hu hvk trivial) hψ⟩
theorem FL.storeN (hT:TblOk P T) {t:TypeId} {p s:Nat} {ty:TypeId} {pos:String} {af:Array Edge} {g:Option (Nat×Bool)} {ti:TI} {L:List Nat} {ψ:Psi} {base:Nat}
  (hg:noneS S (guardSlot l g)=true) (hw:wantE l.toArray (envX X E (looks l ⟨none,.store t (.tmp p) (.tmp s),ty,pos,af,g⟩)) g=some true) (hL:blocksOf E (later l m i)=L)
  (ht:lookT T t=some ti) (hag:isAggD ti.desc=true) (hmono:MonoR P ψ)
  (h:∀ w1,Rg P (Tg w L) w w1→obl S (looks l ⟨none,.store t (.tmp p) (.tmp s),ty,pos,af,g⟩) (envX X E (looks l ⟨none,.store t (.tmp p) (.tmp s),ty,pos,af,g⟩)) w1 (fun E2=>(∃ u,look E2 p=some u∧NewVar base t ti.size u w1)∧∃ v,look E2 s=some v∧v.cells.toList.length=ti.size∧(∀ u ∈ v.cells.toList,u.oneCell'=true)∧ψ v w1))
  (next:FL P n l m E w fin (i+1) X S ((p,Holds t ψ)::H) r):FL P n l m E w fin i X S H (⟨none,.store t (.tmp p) (.tmp s),ty,pos,af,g⟩::r):=by
 subst hL
 refine .inr (.inr ⟨p,_,rfl,MonoX.holds hmono,fun w1 hR=>obl_mono ?_ (obl_and (h w1 hR) (obl_keep fun E2 h2=>wantE_keep hg h2 hw)),next⟩)
 rintro E2 ⟨⟨⟨u,hp,b,C,rfl,h0,hb',hl'⟩,v,hv,hsz,h1,hψ⟩,hw2⟩
 refine .inl ⟨hw2,(OpR.storeAll (x:=.tmp p) (y:=.tmp s) hT ht hag hp hv hsz hl' h1 hb').mono ?_⟩
 rintro _ w2 ⟨hb2,hu,hvk⟩
 exact ⟨b,hp,hu,hvk,b,v,rfl,hb2,hmono v w1 w2 (Rg.of_upd hu hvk trivial) hψ⟩
theorem FL.end {Q:Exit→Act→World→Prop} {L:List Nat} (hL:blocksOf E (stSlots (l.take m))=L) (h:∀ w1,Rg P (Tg w L) w w1→allP S (X++E) w1 (fun E2=>heldP E2 w1 H→Dist (allocs (l.take m)) E2→StL P n E2 w1 l.toArray (l.drop m) Q)):FL P n l m E w (FlowEnd P n l m E w Q) i X S H []:=by
 subst hL
 exact h
theorem FL.endE {Q:Exit→Act→World→Prop} (hL:blocksOf E (stSlots (l.take m))=[]) (h:∀ w1,Ext w w1→allP S (X++E) w1 (fun E2=>heldP E2 w1 H→Dist (allocs (l.take m)) E2→StL P n E2 w1 l.toArray (l.drop m) Q)):FL P n l m E w (FlowEnd P n l m E w Q) i X S H [] :=
 FL.end hL fun w1 hR=>h w1 hR.ext_nil
theorem FL.on {d:Nat} {v:Value} (h:∀ w1,Rg P (Tg w []) w w1→RunsTo P n o (envX X E (looks l o)) w1 v) (next:FL P n l m E w fin (i+1) ((d,v)::X) S H r) (hd:o.dst=some d:=by exact rfl) (hal:isAlloc o.op=false:=by exact rfl) (hS:noneS S (looks l o)=true:=by exact rfl) (hw:wantE l.toArray (envX X E (looks l o)) o.guard=some true:=by exact rfl) (hL:blocksOf E (later l m i)=[]:=by exact rfl):FL P n l m E w fin i X S H (o::r):=FL.one hd hal hS hw hL h next
end
end Go.Qf
namespace Go.Qf
open Go Go.RowKit Go.Proofs
set_option maxRecDepth 20000
def Den (w:World) (v:Value) (neg:Bool) (xs:List Nat):Prop:=∃ p cap,v=IntV neg (.slice p xs.length cap)∧Sl w (.slice p xs.length cap) xs
def sg (neg:Bool) (m:Nat):Int:=if neg then -(m:Int) else m
def CanO (base:Nat) (w:World) (v:Value) (a:Int):Prop:=∃ p cap,v=IntV (decide (a<0)) (.slice p (limbs a.natAbs).length cap)∧SlO base w (.slice p (limbs a.natAbs).length cap) (limbs a.natAbs)
abbrev Can (w:World) (v:Value) (a:Int):Prop:=CanO 0 w v a
theorem Den.ext {w w':World} {v:Value} {neg:Bool} {xs:List Nat} (h:Den w v neg xs) (hx:Ext w w'):Den w' v neg xs:=by
 obtain ⟨p,cap,hv,hs⟩:=h
 exact ⟨p,cap,hv,hs.ext hx⟩
theorem CanO.ext {base:Nat} {w w':World} {v:Value} {a:Int} (h:CanO base w v a) (hx:Ext w w'):CanO base w' v a:=by
 obtain ⟨p,cap,hv,hs⟩:=h
 exact ⟨p,cap,hv,hs.ext hx⟩
theorem Can.ext {w w':World} {v:Value} {a:Int} (h:Can w v a) (hx:Ext w w'):Can w' v a:=CanO.ext h hx
theorem CanO.mono {base base':Nat} {w:World} {v:Value} {a:Int} (h:CanO base w v a) (hb:base'≤base):CanO base' w v a:=by
 obtain ⟨p,cap,hv,hs⟩:=h
 exact ⟨p,cap,hv,hs.mono hb⟩
theorem CanO.can {base:Nat} {w:World} {v:Value} {a:Int} (h:CanO base w v a):Can w v a:=h.mono (Nat.zero_le _)
theorem Can.den {w:World} {v:Value} {a:Int} (h:Can w v a):Den w v (decide (a<0)) (limbs a.natAbs):=by
 obtain ⟨p,cap,hv,hs⟩:=h
 exact ⟨p,cap,hv,hs.sl⟩
theorem Den.lim {w:World} {v:Value} {neg:Bool} {xs:List Nat} (h:Den w v neg xs):Lim xs:=by
 obtain ⟨_,_,_,hs⟩:=h
 exact hs.2
theorem sg_abs (neg:Bool) (m:Nat):(sg neg m).natAbs=m:=by
 cases neg <;> simp [sg]
theorem sg_canon (a:Int):sg (decide (a<0)) a.natAbs=a:=by
 unfold sg
 by_cases h:a<0
 ·simp [h];omega
 ·simp [h];omega
def builtV (neg:Bool) (m:Nat) (sl:Value):Value:=if limbs m=[] then IntV false (.slice none 0 0) else IntV neg sl
theorem canO_built {base:Nat} {w:World} {sl:Value} {m:Nat} (neg:Bool) (h:SlO base w sl (limbs m)):CanO base w (builtV neg m sl) (sg neg m):=by
 unfold builtV CanO
 rw [sg_abs]
 by_cases h0:m=0
 ·subst h0
  have e:sg neg 0=0:=by cases neg <;> rfl
  rw [e,limbs_zero,if_pos rfl]
  exact ⟨none,0,rfl,SlO.nil _ w⟩
 ·rw [if_neg (fun e=>h0 (limbs_eq_nil.1 e))]
  obtain ⟨p,cap,rfl,_⟩:=h.sl.form
  refine ⟨p,cap,?_,h⟩
  have:decide (sg neg m<0)=neg:=by
   cases neg
   ·exact decide_eq_false (by simp [sg])
   ·exact decide_eq_true (by simp [sg];omega)
  rw [this]
theorem build_specO {base:Nat} (w:World) (neg:Bool) (sl:Value) (m:Nat) (h:SlO base w sl (limbs m)) (hlen:(limbs m).length≤1000000000) :
  Calls Tryz.prog 104 #[.bool neg,sl] w (Ret fun r w'=>Ext w w'∧CanO base w' r (sg neg m)):=by
 refine (build_spec w neg sl (limbs m) h.sl hlen).mono ?_
 rintro e w' ⟨r,rfl,hx,hr⟩
 refine ⟨r,rfl,hx,?_⟩
 have:=canO_built neg (h.ext hx)
 unfold builtV at this
 rw [hr]
 exact this
theorem build_spec' {base:Nat} (w:World) (neg:Bool) (sl:Value) (m:Nat) (h:SlO base w sl (limbs m)) (hlen:(limbs m).length≤1000000000) :
  Calls Tryz.prog 104 #[.bool neg,sl] w (Ret fun r w'=>Ext w w'∧Can w' r (sg neg m)):=by
 refine (build_specO w neg sl m h hlen).mono ?_
 rintro e w' ⟨r,rfl,hx,hr⟩
 exact ⟨r,rfl,hx,hr.can⟩
theorem CanO.cells {base:Nat} {w:World} {v:Value} {a:Int} (h:CanO base w v a):∃ p cap,v=.agg #[.bool (decide (a<0)),.slice p (limbs a.natAbs).length cap]∧SlO base w (.slice p (limbs a.natAbs).length cap) (limbs a.natAbs):=h
theorem StL.retCan {base n:Nat} {E:List (Nat×Value)} {w w0:World} {ops:Array Oper} {rest:List Oper} {Q:Exit→Act→World→Prop} {t s:Nat} {ty:TypeId} {pos:String} {af:Array Edge} {b:Nat} {C:List Value} {v:Value} {a:Int}
  (ht:look E t=some (.pointer (some ⟨b,0,none⟩))) (hs:look E s=some v) (hb:Blk 31 w b C) (hC:C.length=2) (hv:CanO base w v a) (hx:Ext w0 w) (hb0:w0.heap.size≤b)
  (next:∀ w' cs,v=.agg cs.toArray→cs.length=2→Blk 31 w' b cs→Upd b w w'→Ext w0 w'→StL Tryz.prog n E w' ops rest Q) :
  StL Tryz.prog n E w ops (⟨none,.store 31 (.tmp t) (.tmp s),ty,pos,af,none⟩::rest) Q:=by
 obtain ⟨p,cap,rfl,_⟩:=hv.cells
 refine StL.step0 rfl rfl (OpR.store TBok (vs:=[.bool (decide (a<0)),.slice p (limbs a.natAbs).length cap]) rfl ht hs rfl rfl hb (by simp [hC]) (by simp [Value.oneCell'])) ?_
 rintro _ w' ⟨hb',hu⟩
 match C,hC with
 | [c0,c1],_=>exact next w' _ rfl rfl hb' hu (hx.then_upd hu hb0)
theorem Own.upd {base b:Nat} {e:TypeId} {w w':World} {v:Value} {cs:List Value} (h:Own base e w v cs) (hu:Upd b w w') (hne:∀ g cap,v=.slice (some ⟨g,0,none⟩) cs.length cap→g≠b):Own base e w' v cs:=by
 refine ⟨h.1,?_⟩
 rcases h.2 with h0 | ⟨g,cap,cur,hv,hb,hg,r⟩
 ·exact .inl h0
 ·exact .inr ⟨g,cap,cur,hv,hb,(hu.block g (Array.getElem?_eq_some_iff.1 hg).1 (hne g cap hv)).trans hg,r⟩
theorem Own.updT {base b:Nat} {e t:TypeId} {w w':World} {v:Value} {cs C:List Value} (h:Own base e w v cs) (hu:Upd b w w') (hb:Blk t w b C) (hne:e≠t):Own base e w' v cs:=by
 refine h.upd hu ?_
 intro g cap hv hgb
 subst hgb
 rcases h.2 with ⟨h0,_⟩ | ⟨g',cap',cur,hv',_,hg,_⟩
 ·rw [h0] at hv;cases hv
 ·rw [hv] at hv'
  simp only [Value.slice.injEq,Option.some.injEq,Addr.mk.injEq] at hv'
  obtain ⟨⟨rfl,_⟩,_⟩:=hv'
  unfold Blk at hb
  rw [hb] at hg
  simp only [Option.some.injEq,Obj.cells.injEq] at hg
  exact hne hg.2.1.symm
theorem CanO.upd {base:Nat} {w w':World} {v:Value} {a:Int} {b:Nat} (h:CanO base w v a) (hu:Upd b w w') (hb:∃ C,Blk 31 w b C):CanO base w' v a:=by
 obtain ⟨p,cap,hv,hs⟩:=h
 obtain ⟨C,hC⟩:=hb
 exact ⟨p,cap,hv,Own.updT hs.1 hu hC (by decide),hs.2⟩
theorem Can.upd {w w':World} {v:Value} {a:Int} {b:Nat} (h:Can w v a) (hu:Upd b w w') (hb:∃ C,Blk 31 w b C):Can w' v a:=CanO.upd h hu hb
theorem notV:isV Tryz.prog 139=false:=by
 unfold isV
 rw [Tryz.underlying139]
theorem SlO.rg {base:Nat} {T:Nat→Prop} {w w':World} {v:Value} {xs:List Nat} (h:SlO base w v xs) (hR:Rg Tryz.prog T w w'):SlO base w' v xs:=⟨hR.own notV h.1,h.2⟩
theorem CanO.rg {base:Nat} {T:Nat→Prop} {w w':World} {v:Value} {a:Int} (h:CanO base w v a) (hR:Rg Tryz.prog T w w'):CanO base w' v a:=by
 obtain ⟨p,cap,hv,hs⟩:=h
 exact ⟨p,cap,hv,hs.rg hR⟩
theorem MonoR.canO (base:Nat) (a:Int):MonoR Tryz.prog (fun v w=>CanO base w v a):=fun _ _ _ hR h=>h.rg hR
theorem MonoR.slO (base:Nat) (xs:List Nat):MonoR Tryz.prog (fun v w=>SlO base w v xs):=fun _ _ _ hR h=>h.rg hR
theorem CanO.two {base:Nat} {w:World} {v:Value} {a:Int} (h:CanO base w v a):v.cells.toList.length=2∧∀ u ∈ v.cells.toList,u.oneCell'=true:=by
 obtain ⟨p,cap,rfl,_⟩:=h
 exact ⟨rfl,by simp [IntV,Value.cells,Value.oneCell']⟩
theorem small_specO {base:Nat} (w:World) (a:Int) (h0:-9223372036854775808≤a) (h1:a≤9223372036854775807) (hbase:base≤w.heap.size) :
  Calls Tryz.prog 50 #[.int .i64 a] w (Ret fun r w'=>Ext w w'∧CanO base w' r a):=by
 refine calls_of_St (args:=[_]) Tryz.func50 rfl Tryz.ntmps50 rfl ?_
 refine Nv ?_
 refine .s (OpR.alloc TBok rfl) ?_
 rintro _ w1 ⟨rfl,hb,hx1,_⟩
 (iterate 6 refine Nv ?_;try refine .r rfl ?_)
 by_cases hneg:a<0
 ·refine St.condT rfl (by simp;omega) ?_
  (iterate 6 refine Nv ?_;try refine .r rfl ?_)
  obtain ⟨m,hm⟩:∃ m:Nat,a=-(m:Int):=⟨a.natAbs,by omega⟩
  subst hm
  refine .a 1 (.int .u64 (m:Int)) rfl (by congr 1;simp only [wrap_u64];omega) ?_
  refine .s (OpR.call fn_integer_fromWord rfl (fromWord_spec w1 m (by omega))) ?_
  rintro sl w2 ⟨hx2,hsl⟩
  have hll:=limbs_length_le_two (m:=m) (by omega)
  refine .s (OpR.call fn_integer_build rfl (build_specO w2 true sl m (hsl.mono (Nat.le_trans hbase hx1.size)) (by omega))) ?_
  rintro v w3 ⟨hx3,hv⟩
  refine StL.retCan rfl rfl ((hb.ext hx2).ext hx3) rfl hv ((hx1.trans hx2).trans hx3) (Nat.le_refl _) ?_
  intro w4 cs hcs hl hb4 hu4 hx4
  (iterate 6 refine Nv ?_;try refine .r rfl ?_)
  refine Out.rets TBok [v] rfl ⟨⟨_,_,_,_,rfl,hb4,rfl,rfl,hl,hcs⟩,trivial⟩ ⟨hx4,?_⟩
  exact CanO.upd hv hu4 ⟨_,(hb.ext hx2).ext hx3⟩
 ·refine St.condF rfl (by simp;omega) ?_
  (iterate 6 refine Nv ?_;try refine .r rfl ?_)
  obtain ⟨m,rfl⟩:∃ m:Nat,a=(m:Int):=⟨a.natAbs,by omega⟩
  refine .a 1 (.int .u64 (m:Int)) rfl (by rw [u64_id (by omega) (by omega)]) ?_
  refine .s (OpR.call fn_integer_fromWord rfl (fromWord_spec w1 m (by omega))) ?_
  rintro sl w2 ⟨hx2,hsl⟩
  have hll:=limbs_length_le_two (m:=m) (by omega)
  refine .s (OpR.call fn_integer_build rfl (build_specO w2 false sl m (hsl.mono (Nat.le_trans hbase hx1.size)) (by omega))) ?_
  rintro v w3 ⟨hx3,hv⟩
  refine StL.retCan rfl rfl ((hb.ext hx2).ext hx3) rfl hv ((hx1.trans hx2).trans hx3) (Nat.le_refl _) ?_
  intro w4 cs hcs hl hb4 hu4 hx4
  (iterate 6 refine Nv ?_;try refine .r rfl ?_)
  refine Out.rets TBok [v] rfl ⟨⟨_,_,_,_,rfl,hb4,rfl,rfl,hl,hcs⟩,trivial⟩ ⟨hx4,?_⟩
  exact CanO.upd hv hu4 ⟨_,(hb.ext hx2).ext hx3⟩
theorem small_spec (w:World) (a:Int) (h0:-9223372036854775808≤a) (h1:a≤9223372036854775807) :
  Calls Tryz.prog 50 #[.int .i64 a] w (Ret fun r w'=>Ext w w'∧Can w' r a):=small_specO w a h0 h1 (Nat.zero_le _)
theorem RunsTo.boolEq {P:Program} {T:List (Nat×TI)} {n:Nat} {E:List (Nat×Value)} {w:World} (hT:TblOk P T) {d:Option Tmp} {t t2:TypeId} {x y:Operand} {ty:TypeId} {pos:String} {af:Array Edge} {g:Option (Nat×Bool)} {s1 s2:Nat} {z:Value} {a b:Bool} (ht:lookT T t=some ⟨.bool,s1,s2,z⟩) (hx:ov E x=some (.bool a)) (hy:ov E y=some (.bool b)) :
  RunsTo P n ⟨d,.binOp .eql t x y t2,ty,pos,af,g⟩ E w (.bool (a == b)):=by
 intro f hf
 have e1:=hf.eval hx
 have e2:=hf.eval hy
 generalize f.eval=ρ at e1 e2
 have heq:(Op.equal t (.bool a) (.bool b)).run P w=.ok (a == b) w:=by
  show (Op.equalIn (9999+1) t _ _).run P w=_
  unfold Op.equalIn
  simp only [Sem.run_bind,run_underlying_T hT ht,Result.andThen_ok,Sem.run_pure]
 simp only [execOp,e1,e2,eqGuard,binOp,Sem.run_bind,Sem.run_pure]
 simp only [Bool.not_true,Bool.false_eq_true,if_false,Sem.run_pure,Result.andThen_ok,heq]
theorem RunsTo.boolNe {P:Program} {T:List (Nat×TI)} {n:Nat} {E:List (Nat×Value)} {w:World} (hT:TblOk P T) {d:Option Tmp} {t t2:TypeId} {x y:Operand} {ty:TypeId} {pos:String} {af:Array Edge} {g:Option (Nat×Bool)} {s1 s2:Nat} {z:Value} {a b:Bool} (ht:lookT T t=some ⟨.bool,s1,s2,z⟩) (hx:ov E x=some (.bool a)) (hy:ov E y=some (.bool b)) :
  RunsTo P n ⟨d,.binOp .neq t x y t2,ty,pos,af,g⟩ E w (.bool (!(a == b))):=by
 intro f hf
 have e1:=hf.eval hx
 have e2:=hf.eval hy
 generalize f.eval=ρ at e1 e2
 have heq:(Op.equal t (.bool a) (.bool b)).run P w=.ok (a == b) w:=by
  show (Op.equalIn (9999+1) t _ _).run P w=_
  unfold Op.equalIn
  simp only [Sem.run_bind,run_underlying_T hT ht,Result.andThen_ok,Sem.run_pure]
 simp only [execOp,e1,e2,eqGuard,binOp,Sem.run_bind,Sem.run_pure]
 simp only [Bool.not_true,Bool.false_eq_true,if_false,Sem.run_pure,Result.andThen_ok,heq]
def int64V (a:Int):Value:=if -9223372036854775808≤a∧a≤9223372036854775807 then .tuple #[.int .i64 a,.bool true] else .tuple #[.int .i64 0,.bool false]
set_option maxHeartbeats 400000 in
theorem int64_spec (w:World) (v:Value) (neg:Bool) (xs:List Nat) (h:Den w v neg xs) (hlen:xs.length≤100000000) :
  Calls Tryz.prog 55 #[v] w (Ret fun r w'=>Ext w w'∧r=int64V (sg neg (val xs))):=by
 obtain ⟨p,cap,rfl,hs⟩:=h
 refine calls_of_St (args:=[_]) Tryz.func55 rfl Tryz.ntmps55 rfl ?_
 refine Nv ?_
 refine .s (OpR.box rfl) ?_
 rintro _ w1 ⟨rfl,hb,hx1,_⟩
 have hs1:=hs.ext hx1
 (iterate 6 refine Nv ?_;try refine .r rfl ?_)
 refine .p (RunsTo.load TBok rfl rfl rfl (hb.cell rfl)) ?_
 refine .s (OpR.call fn_integer_trim rfl (trim_spec w1 _ _ hs1 (by omega))) ?_
 rintro _ w2 ⟨rfl,rfl,ht⟩
 obtain ⟨p2,cap2,hform,_⟩:=ht.form
 rw [hform] at ht ⊢
 (iterate 6 refine Nv ?_;try refine .r rfl ?_)
 by_cases hbig:2<(limbs (val xs)).length
 ·refine St.condT rfl (by simp;omega) ?_
  (iterate 6 refine Nv ?_;try refine .r rfl ?_)
  refine Out.ret2 rfl rfl rfl ⟨hx1,?_⟩
  have hge:18446744073709551616≤val xs:=by
   rcases Nat.lt_or_ge (val xs) 18446744073709551616 with h | h
   ·have:=limbs_length_le_two h;omega
   ·exact h
  unfold int64V
  rw [if_neg]
  cases neg <;> simp [sg] <;> omega
 refine St.condF rfl (by simp;omega) ?_
 have hv64:val xs<18446744073709551616:=by
  have:=val_le_two ht.2 (by omega)
  rwa [val_limbs] at this
 (iterate 6 refine Nv ?_;try refine .r rfl ?_)
 refine .s (OpR.call fn_integer_word rfl (word_spec _ _ _ ht (by omega))) ?_
 rintro _ w3 ⟨rfl,rfl⟩
 rw [val_limbs]
 generalize val xs=m at *
 (iterate 6 refine Nv ?_;try refine .r rfl ?_)
 refine .p (RunsTo.load TBok rfl rfl rfl (hb.cell rfl)) ?_
 unfold int64V
 cases neg with
 | true =>
  by_cases hm:m≤9223372036854775808
  ·refine .a 3 (.bool true) rfl (bool_true (by omega)) ?_
   (iterate 6 refine Nv ?_;try refine .r rfl ?_)
   refine .cT ?_
   (iterate 6 refine Nv ?_;try refine .r rfl ?_)
   refine Out.ret2 rfl rfl rfl ⟨hx1,?_⟩
   rw [if_pos (by simp [sg];omega)]
   congr 4
   simp only [wrap_i64,wrap_u64,sg,if_true]
   omega
  ·refine .a 3 (.bool false) rfl (bool_false (by omega)) ?_
   (iterate 6 refine Nv ?_;try refine .r rfl ?_)
   refine .cF ?_
   (iterate 6 refine Nv ?_;try refine .r rfl ?_)
   refine .p (RunsTo.load TBok rfl rfl rfl (hb.cell rfl)) ?_
   (iterate 6 refine Nv ?_;try refine .r rfl ?_)
   refine .cF ?_
   (iterate 6 refine Nv ?_;try refine .r rfl ?_)
   refine Out.ret2 rfl rfl rfl ⟨hx1,?_⟩
   rw [if_neg (by simp [sg];omega)]
 | false =>
  (iterate 6 refine Nv ?_;try refine .r rfl ?_)
  refine .cF ?_
  (iterate 6 refine Nv ?_;try refine .r rfl ?_)
  refine .p (RunsTo.load TBok rfl rfl rfl (hb.cell rfl)) ?_
  by_cases hm:m<9223372036854775808
  ·refine .a 4 (.bool true) rfl (bool_true (by omega)) ?_
   (iterate 6 refine Nv ?_;try refine .r rfl ?_)
   refine .cT ?_
   (iterate 6 refine Nv ?_;try refine .r rfl ?_)
   refine Out.ret2 rfl rfl rfl ⟨hx1,?_⟩
   rw [if_pos (by simp [sg];omega)]
   congr 4
   simp only [wrap_i64,sg]
   simp
   omega
  ·refine .a 4 (.bool false) rfl (bool_false (by omega)) ?_
   (iterate 6 refine Nv ?_;try refine .r rfl ?_)
   refine .cF ?_
   (iterate 6 refine Nv ?_;try refine .r rfl ?_)
   refine Out.ret2 rfl rfl rfl ⟨hx1,?_⟩
   rw [if_neg (by simp [sg];omega)]
end Go.Qf
namespace Go.Qf
open Go Go.RowKit
def WA (P:Program) (n:Nat) (l:List Oper) (Q:Exit→Act→World→Prop) (fuel:Nat) (listed:Array Bool) (E:List (Nat×Value)) (w:World):Prop:=∀ a,Fits n E a→wpAny P .any l.toArray Q fuel listed a w
section
variable {P:Program} {T:List (Nat×TI)} {n:Nat} {l:List Oper} {Q:Exit→Act→World→Prop} {fuel:Nat} {listed:Array Bool} {E:List (Nat×Value)} {w:World}
theorem St.any {id:Nat} {k:Nat} (hP:P.follows .mixedOrders=true) (hk:l.length=k) (h:∀ w1,Ext w w1→Upd 0 w w1→w1.heap=w.heap→WA P n l Q k (Array.replicate k false) E w1):St P n E w (.region id l.toArray true) Q:=by
 intro a ha
 subst hk
 refine wp_region_any hP ?_
 have:=h { w with drawn:=w.drawn+1 } ⟨rfl,rfl,rfl,Nat.le_refl _,fun _ _=>rfl⟩ ⟨rfl,rfl,rfl,Nat.le_refl _,fun _ _ _=>rfl⟩ rfl a ha
 simpa using this
theorem WA.take (i:Nat) {o:Oper} {d:Nat} {v:Value} (ho:l.toArray[i]?=some o) (hd:o.dst=some d) (hs:Region.noSelect l.toArray=true) (hf:Region.free .any l.toArray listed i=true) (hr:(Region.ready .any l.toArray listed).contains i=true)
  (hQ:∀ c a w,Q (.panic c) (a.put o.dst v) w→Q (.panic c) a w) (hw:wantE l.toArray E o.guard=some true) (hn:Nat.blt d n=true) (hy:∀ w,RunsTo P n o E w v) (next:WA P n l Q fuel (listed.setIfInBounds i true) ((d,v)::E) w):WA P n l Q (fuel+1) listed E w:=by
 intro a ha
 refine wpAny_take ho hs hf hr hQ (.inl ⟨wantE_spec ha hw,fun w'=>hy w' a ha⟩) (next _ ?_)
 rw [hd]
 exact ha.put hn v
theorem WA.pure (hT:TblOk P T) (i:Nat) {o:Oper} {d:Nat} {v:Value} (ho:l.toArray[i]?=some o) (hd:o.dst=some d) (hs:Region.noSelect l.toArray=true) (hf:Region.free .any l.toArray listed i=true) (hr:(Region.ready .any l.toArray listed).contains i=true)
  (hQ:∀ c a w,Q (.panic c) (a.put o.dst v) w→Q (.panic c) a w) (hw:wantE l.toArray E o.guard=some true) (hn:Nat.blt d n=true) (hy:pureOp T E o.op=some v) (next:WA P n l Q fuel (listed.setIfInBounds i true) ((d,v)::E) w):WA P n l Q (fuel+1) listed E w :=
 WA.take i ho hd hs hf hr hQ hw hn (fun _=>RunsTo.pure hT hy) next
def WOp (P:Program) (n:Nat) (l:List Oper) (Q:Exit→Act→World→Prop) (fuel:Nat) (listed:Array Bool) (E:List (Nat×Value)) (w:World) (i:Nat):Prop:=∀ a,Fits n E a→wpOp P l.toArray Q i (wpAny P .any l.toArray Q fuel (listed.setIfInBounds i true)) a w
theorem WOp.val {i:Nat} {o:Oper} {d:Nat} {Φ:Value→World→Prop} (ho:l.toArray[i]?=some o) (hd:o.dst=some d) (hw:wantE l.toArray E o.guard=some true) (hn:Nat.blt d n=true) (h:OpR P n o E w Φ) (next:∀ v w',Φ v w'→WA P n l Q fuel (listed.setIfInBounds i true) ((d,v)::E) w'):WOp P n l Q fuel listed E w i:=by
 intro a ha
 unfold wpOp
 simp only [ho]
 rw [if_pos (wantE_spec ha hw)]
 exact .inl (h a ha Q _ fun v w' hv=>next v w' hv _ (by rw [hd];exact ha.put hn v))
theorem WOp.eff {i:Nat} {o:Oper} {Φ:Value→World→Prop} (ho:l.toArray[i]?=some o) (hd:o.dst=none) (hw:wantE l.toArray E o.guard=some true) (h:OpR P n o E w Φ) (next:∀ v w',Φ v w'→WA P n l Q fuel (listed.setIfInBounds i true) E w'):WOp P n l Q fuel listed E w i:=by
 intro a ha
 unfold wpOp
 simp only [ho]
 rw [if_pos (wantE_spec ha hw)]
 exact .inl (h a ha Q _ fun v w' hv=>next v w' hv _ (by rw [hd];exact ha))
theorem WA.one {i:Nat} (hr:Region.ready .any l.toArray listed=[i]) (h:WOp P n l Q fuel listed E w i):WA P n l Q (fuel+1) listed E w:=by
 intro a ha
 refine wpAny_all hr (by simp) ?_
 intro j hj
 simp only [List.mem_singleton] at hj
 subst hj
 exact h a ha
theorem WA.two {i j:Nat} (hr:Region.ready .any l.toArray listed=[i,j]) (h:WOp P n l Q fuel listed E w i) (h':WOp P n l Q fuel listed E w j):WA P n l Q (fuel+1) listed E w:=by
 intro a ha
 refine wpAny_all hr (by simp) ?_
 intro k hk
 simp only [List.mem_cons,List.not_mem_nil,or_false] at hk
 rcases hk with rfl | rfl
 ·exact h a ha
 ·exact h' a ha
theorem WA.done (hr:Region.ready .any l.toArray listed=[]) (h:Out n E w .normal Q):WA P n l Q fuel listed E w :=
 fun a ha=>wpAny_done hr (h a ha) _
def takesB (l:List Oper):List Nat→Array Bool→Bool
 | [],_=>true
 | i::r,listed=>Region.free .any l.toArray listed i && (Region.ready .any l.toArray listed).contains i && takesB l r (listed.setIfInBounds i true)
def takesL:List Nat→Array Bool→Array Bool
 | [],listed=>listed
 | i::r,listed=>takesL r (listed.setIfInBounds i true)
def takesE (T:List (Nat×TI)) (n:Nat) (l:List Oper):List Nat→List (Nat×Value)→Option (List (Nat×Value))
 | [],E=>some E
 | i::r,E =>
  match l[i]? with
  | some o =>
   match o.dst,wantE l.toArray E o.guard,pureOp T E o.op with
   | some d,some true,some v=>bif Nat.blt d n then takesE T n l r ((d,v)::E) else none
   | _,_,_=>none
  | none=>none
theorem WA.takes (hT:TblOk P T) (hs:Region.noSelect l.toArray=true) (hQ:∀ (d:Nat) v c a w,Q (.panic c) (a.put (some d) v) w→Q (.panic c) a w):∀ (is:List Nat) {fuel:Nat} {listed:Array Bool} {E E':List (Nat×Value)},takesB l is listed=true→takesE T n l is E=some E'→WA P n l Q fuel (takesL is listed) E' w→WA P n l Q (fuel+is.length) listed E w:=by
 intro is
 induction is with
 | nil=>intro fuel listed E E' _ h hn;simp only [takesE,Option.some.injEq] at h;subst h;exact hn
 | cons i r ih =>
  intro fuel listed E E' hB h hn
  simp only [takesB,Bool.and_eq_true] at hB
  simp only [takesE] at h
  split at h
  ·rename_i o ho
   split at h
   ·rename_i d v hd hw hv
    cases hb:Nat.blt d n with
    | false=>rw [hb] at h;cases h
    | true =>
     rw [hb] at h
     simp only [cond_true] at h
     have:=ih hB.2 h hn
     exact WA.pure hT i (by simpa using ho) hd hs hB.1.1 hB.1.2 (fun c a w=>by rw [hd];exact hQ d _ c a w) hw hb hv this
   ·cases h
  ·cases h
theorem St.cutX {α:Type} (Em:α→List (Nat×Value)) (I:α→World→Prop) {x y:Code} (hx:St P n E w x (Exit.then (Met n Em I) Q)) (hy:∀ g w,I g w→St P n (Em g) w y Q):St P n E w x (Exit.then (y.wp P Q) Q):=by
 intro a ha
 refine wp_mono (hx a ha) ?_
 intro e a2 w2 hq
 cases e with
 | normal =>
  obtain ⟨g,hf,hI⟩:=hq
  exact hy g w2 hI a2 hf
 | exit id=>exact hq
 | goto l=>exact hq
 | ret=>exact hq
 | panic ch=>exact hq
 | outgrown=>exact hq
end
end Go.Qf
namespace Go.Qf
open Go Go.RowKit Go.Lib
def strB (bs:List Nat):ByteArray:=⟨(bs.map UInt8.ofNat).toArray⟩
def B8 (bs:List Nat):Prop:=∀ b ∈ bs,b<256
abbrev strV (bs:List Nat):Value:=.string (strB bs)
abbrev u8 (x:Nat):Value:=.int .u8 x
theorem strB_size (bs:List Nat):(strB bs).size=bs.length:=by simp [strB,ByteArray.size]
theorem u8_toNat {b:Nat} (h:b<256):(UInt8.ofNat b).toNat=b:=by
 simp [UInt8.toNat_ofNat'];omega
theorem map_u8_inj {xs bs:List Nat} (ha:B8 xs) (hb:B8 bs) (h:xs.map UInt8.ofNat=bs.map UInt8.ofNat):xs=bs:=by
 have h2:(xs.map UInt8.ofNat).map UInt8.toNat=(bs.map UInt8.ofNat).map UInt8.toNat:=by rw [h]
 simp only [List.map_map] at h2
 have e:∀ {l:List Nat},B8 l→l.map (UInt8.toNat ∘ UInt8.ofNat)=l:=by
  intro l hl
  induction l with
  | nil=>rfl
  | cons x r ih =>
   have hx:x<256:=hl x (by simp)
   simp only [List.map_cons,Function.comp_apply,u8_toNat hx,ih (fun y hy=>hl y (by simp [hy]))]
 rwa [e ha,e hb] at h2
theorem strB_inj {xs bs:List Nat} (ha:B8 xs) (hb:B8 bs) (h:strB xs=strB bs):xs=bs:=by
 refine map_u8_inj ha hb ?_
 have:=congrArg (fun s:ByteArray=>s.data.toList) h
 simpa [strB] using this
theorem strB_append (xs bs:List Nat):strB xs++strB bs=strB (xs++bs):=by
 apply Go.WideShapes.bytes_inj
 simp [strB]
theorem strB_extract (bs:List Nat) (l h:Nat):(strB bs).extract l h=strB ((bs.drop l).take (h - l)):=by
 apply Go.WideShapes.bytes_inj
 simp [strB,List.map_drop,List.map_take]
theorem strB_get {bs:List Nat} {i b:Nat} (h:bs[i]?=some b):(strB bs)[i]?=some (UInt8.ofNat b):=by
 have hi:=(List.getElem?_eq_some_iff.1 h).1
 have e:(strB bs)[i]?=(strB bs).data[i]?:=rfl
 rw [e]
 simp [strB,h]
section
variable {P:Program} {T:List (Nat×TI)} {n:Nat} {E:List (Nat×Value)} {w:World}
theorem strB_beq {xs bs:List Nat} (ha:B8 xs) (hb:B8 bs):((strB xs).toList == (strB bs).toList)=decide (xs=bs):=by
 rw [ByteArray.toList_eq,ByteArray.toList_eq]
 by_cases h:xs=bs
 ·subst h;simp
 ·have:¬ ((strB xs).data.toList=(strB bs).data.toList):=fun e=>h (strB_inj ha hb (Go.WideShapes.bytes_inj e))
  simp only [decide_eq_false h]
  exact beq_eq_false_iff_ne.2 this
theorem RunsTo.strEql {d:Option Tmp} {t t2:TypeId} {x y:Operand} {ty:TypeId} {pos:String} {af:Array Edge} {g:Option (Nat×Bool)} {xs bs:List Nat} (ha:B8 xs) (hb:B8 bs) (hx:ov E x=some (strV xs)) (hy:ov E y=some (strV bs)) :
  RunsTo P n ⟨d,.binOp .eql t x y t2,ty,pos,af,g⟩ E w (.bool (decide (xs=bs))):=by
 intro f hf
 have e1:=hf.eval hx
 have e2:=hf.eval hy
 generalize f.eval=ρ at e1 e2
 simp only [execOp,e1,e2,eqGuard,binOp,Op.stringOp,strB_beq ha hb]
 simp [go_sem]
theorem RunsTo.strAdd {d:Option Tmp} {t t2:TypeId} {x y:Operand} {ty:TypeId} {pos:String} {af:Array Edge} {g:Option (Nat×Bool)} {xs bs:List Nat} (hx:ov E x=some (strV xs)) (hy:ov E y=some (strV bs)) (hl:xs.length+bs.length≤1000000000000) :
  RunsTo P n ⟨d,.binOp .add t x y t2,ty,pos,af,g⟩ E w (strV (xs++bs)):=by
 intro f hf
 have e1:=hf.eval hx
 have e2:=hf.eval hy
 generalize f.eval=ρ at e1 e2
 have hm:IntKind.i64.max=9223372036854775807:=rfl
 have hle:¬ ((((strB xs).size+(strB bs).size:Nat):Int) > IntKind.i64.max):=by rw [strB_size,strB_size,hm];omega
 simp only [execOp,e1,e2,eqGuard,binOp,Op.stringOp,if_neg hle,strB_append]
 simp [go_sem]
theorem RunsTo.strIndex (hT:TblOk P T) {d:Option Tmp} {t:TypeId} {x i:Operand} {ty:TypeId} {pos:String} {af:Array Edge} {g:Option (Nat×Bool)} {s1 s2:Nat} {z:Value} {k:IntKind} {iv:Int} {bs:List Nat} (j b:Nat)
  (ht:lookT T t=some ⟨.string,s1,s2,z⟩) (hx:ov E x=some (strV bs)) (hi:ov E i=some (.int k iv)) (hj:iv=j) (hb:bs[j]?=some b) (h8:b<256) :
  RunsTo P n ⟨d,.index t x i,ty,pos,af,g⟩ E w (u8 b):=by
 intro f hf
 have e1:=hf.eval hx
 have e2:=hf.eval hi
 generalize f.eval=ρ at e1 e2
 subst hj
 have h0:(0:Int)≤(j:Int):=by omega
 have hg:=strB_get hb
 have hrun:(Instr.index t (strV bs) (.int k (j:Int))).run P w=.ok (u8 b) w:=by
  unfold Instr.index
  simp only [asIntOf,Sem.run_bind,Sem.run_pure,Result.andThen_ok,run_underlying_T hT ht]
  simp only [if_pos h0,Int.toNat_natCast,hg,Sem.run_pure,u8_toNat h8]
 simp only [execOp,e1,e2,Sem.run_bind,hrun,Result.andThen_ok,Sem.run_pure]
theorem RunsTo.strFrom (hT:TblOk P T) {d:Option Tmp} {t:TypeId} {x i:Operand} {ty:TypeId} {pos:String} {af:Array Edge} {g:Option (Nat×Bool)} {s1 s2:Nat} {z:Value} {k:IntKind} {iv:Int} {bs:List Nat} (j:Nat)
  (ht:lookT T t=some ⟨.string,s1,s2,z⟩) (hx:ov E x=some (strV bs)) (hi:ov E i=some (.int k iv)) (hj:iv=j) (hle:j≤bs.length) :
  RunsTo P n ⟨d,.slice t x (some i) none none,ty,pos,af,g⟩ E w (strV (bs.drop j)):=by
 intro f hf
 have e1:=hf.eval hx
 have e2:=hf.eval hi
 generalize f.eval=ρ at e1 e2
 subst hj
 have h1:(0:Int)≤(j:Int)∧(j:Int)≤((strB bs).size:Nat):=by rw [strB_size];omega
 have hrun:(Instr.slice t (strV bs) (some (.int k (j:Int))) none none).run P w=.ok (strV (bs.drop j)) w:=by
  unfold Instr.slice
  simp only [Sem.run_bind,Sem.run_pure,Result.andThen_ok,run_underlying_T hT ht,Option.isSome_none,Bool.false_eq_true,if_false,Instr.sliceBounds,Instr.sliceBound,asIntOf,if_pos h1,Int.toNat_natCast]
  rw [strB_extract,strB_size,List.take_of_length_le (by simp)]
 simp only [execOp,Instr.sliceAt,e1,e2,Option.map_some,Option.map_none,Sem.run_bind,run_underlying_T hT ht,Result.andThen_ok,hrun,Sem.run_pure]
theorem run_loadCells_row {e:TypeId} {a:Addr} {len cap:Nat} {cs:List Value} (h:Row e w (.slice (some a) len cap) cs):(loadCells a len).run P w=.ok cs.toArray w:=by
 obtain ⟨p,cap',hv,hl,_,hc⟩:=h
 simp only [Value.slice.injEq] at hv
 obtain ⟨rfl,rfl,rfl⟩:=hv
 have key:∀ (m i:Nat) (acc:Array Value),i+m=cs.length→(loadCellsFrom a i m acc).run P w=.ok (acc++(cs.drop i).toArray) w:=by
  intro m
  induction m with
  | zero=>intro i acc hi;rw [List.drop_of_length_le (by omega)];simp [loadCellsFrom,go_sem]
  | succ m ih =>
   intro i acc hi
   have hlt:i<cs.length:=by omega
   unfold loadCellsFrom
   simp only [Sem.run_bind]
   rw [run_load1 (hc a rfl i cs[i] (by simp [hlt])),Result.andThen_ok,ih (i+1) _ (by omega)]
   congr 1
   rw [List.drop_eq_getElem_cons hlt]
   simp
 have:=key cs.length 0 #[] (by omega)
 simpa [loadCells] using this
theorem foldl_push (ns:List Nat):∀ (s:ByteArray),(ns.map (fun x:Nat=>(x:Int))).foldl (fun r n=>r.push (UInt8.ofNat n.toNat)) s=⟨s.data++(ns.map UInt8.ofNat).toArray⟩:=by
 induction ns with
 | nil=>intro s;simp
 | cons x r ih =>
  intro s
  simp only [List.map_cons,List.foldl_cons,Int.toNat_natCast]
  rw [ih]
  apply Go.WideShapes.bytes_inj
  simp [ByteArray.push]
theorem RunsTo.bytesStr (hT:TblOk P T) {d:Option Tmp} {t t2:TypeId} {x:Operand} {ty:TypeId} {pos:String} {af:Array Edge} {g:Option (Nat×Bool)} {et:TypeId} {s1 s2 s3 s4:Nat} {z z2:Value} {ti:TI} {v:Value} {bs:List Nat}
  (ht:lookT T t=some ⟨.slice et,s1,s2,z⟩) (hte:lookT T et=some ti) (hk:ti.desc=.int .u8) (ht2:lookT T t2=some ⟨.string,s3,s4,z2⟩) (hx:ov E x=some v) (hr:Row et w v (bs.map u8)) :
  RunsTo P n ⟨d,.convert t t2 x,ty,pos,af,g⟩ E w (strV bs):=by
 intro f hf
 have e1:=hf.eval hx
 generalize f.eval=ρ at e1
 have hu:=(hT et ti hte).1
 rw [hk] at hu
 have hconv:(Conv.bytesToString v).run P w=.ok (strV bs) w:=by
  obtain ⟨p,cap,hv⟩:=hr.len
  subst hv
  cases p with
  | none =>
   have h0:=Row.nil_of hr
   have:bs=[]:=by simpa using h0
   subst this
   simp only [Conv.bytesToString,Sem.run_pure]
   rfl
  | some a =>
   have hl:=run_loadCells_row (P:=P) hr
   have e:bs.map u8=(bs.map (fun x:Nat=>(x:Int))).map (Value.int .u8):=by simp [List.map_map,Function.comp_def]
   rw [e] at hl
   have:=run_bytesToString (P:=P) w a _ cap (bs.map (fun x:Nat=>(x:Int))) hl
   rw [foldl_push] at this
   simpa [strV,strB] using this
 have hconv2:(convert t t2 v).run P w=.ok (strV bs) w:=by
  obtain ⟨p,cap,hv⟩:=hr.len
  subst hv
  unfold convert
  simp only [Sem.run_bind,run_underlying_T hT ht,run_underlying_T hT ht2,Result.andThen_ok,run_underlying hu,hconv]
 simp only [execOp,e1,Sem.run_bind,hconv2,Result.andThen_ok,Sem.run_pure]
def It (w:World) (k:Nat) (s:ByteArray) (pos:Nat):Prop:=w.heap[k]?=some (.stringIter s pos)
theorem It.lt {k:Nat} {s:ByteArray} {pos:Nat} (h:It w k s pos):k<w.heap.size:=(Array.getElem?_eq_some_iff.1 h).1
theorem It.ext {w':World} {k:Nat} {s:ByteArray} {pos:Nat} (h:It w k s pos) (hx:Ext w w'):It w' k s pos:=(hx.block k h.lt).trans h
end
end Go.Qf
namespace Go.Qf
open Go Go.RowKit Go.Proofs Go.ChangeShapes Go.WideShapes Go.Joins
set_option maxRecDepth 20000
theorem laidOut:laidOutB Tryz.prog=true:=by kernel_rfl
section
variable {H:Type} {enc:TypeId×Value→H} {W:World} {base:Nat} {spare:Nat→Bool} {held:Bool} {r:Reach} {b0:Nat} {v:Value} {d:DataW H} {p:List MemPlace}
theorem open_i64 {t:TypeId} (ht:Tryz.prog.underlying t=some (.int .i64)) (hv:Value.okWide Tryz.prog W r b0 t v) (h:DataW.Trod enc Tryz.prog W base spare held t v d p):∃ a,v=.int .i64 a∧-9223372036854775808≤a∧a≤9223372036854775807:=by
 obtain ⟨a,rfl,_,_,hw⟩:=open_int ht hv h
 exact ⟨a,rfl,bounds_i64 hw⟩
end
end Go.Qf
