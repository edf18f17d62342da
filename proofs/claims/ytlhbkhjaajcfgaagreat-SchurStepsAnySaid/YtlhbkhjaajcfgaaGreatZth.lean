/- Lemmas on the model and on the program's functions, part Zth. -/
import GoSem.Core.View
import Derived.WalkKit
import Derived.Deep.Quiet
import Derived.Deep.LoopGhost
import Derived.KernelRfl
import Derived.Test.YtlhbkhjaajcfgaaGreatProg
import Derived.Laws.BytesString
import Derived.Laws.RangeString
import Derived.Lib.OthersKept
import Derived.Laws.Strings
import Derived.ProofKit
import Derived.OpenShut
import Derived.Lib.SmallJoins
import Derived.Carry
import Derived.ChangeMaps5
import Derived.Maps.AppendAt
import Derived.Laws.Externs
import Derived.Lib.Bytealg
import Derived.ChangeArms
import Derived.Laws.OwnMore
import Derived.Scope
import Derived.RangeFuncLeaves
import Derived.RangeFuncRecord
import Derived.TacticsIn
import Derived.OrdersIn
import Derived.Test.YtlhbkhjaajcfgaaGreatRows
import Derived.Test.YtlhbkhjaajcfgaaGreatZta
import Derived.Test.YtlhbkhjaajcfgaaGreatZtb
import Derived.Test.YtlhbkhjaajcfgaaGreatZtc
import Derived.Test.YtlhbkhjaajcfgaaGreatZtd
import Derived.Test.YtlhbkhjaajcfgaaGreatZte
import Derived.Test.YtlhbkhjaajcfgaaGreatZtf
import Derived.Test.YtlhbkhjaajcfgaaGreatZtg
set_option linter.unusedVariables false
set_option linter.unusedSimpArgs false
namespace Go.Qf
open Go Go.RowKit Go.Proofs
set_option maxRecDepth 20000
def ckI (fork:Bool) (n i:Nat):Int:=if fork=true∧i=n - 1∧3<n then (i:Int) - 2 else (i:Int) - 1
def chF (fork:Bool) (n p q:Nat):Int:=if p=q then 2 else if ckI fork n (max p q)=((min p q:Nat):Int) then -1 else 0
theorem chF_bnd (fork:Bool) (n m:Nat):BndF m 2 (chF fork n):=by
 intro p q _ _
 unfold chF
 split
 ·omega
 ·split <;> omega
theorem ch_step {fork:Bool} {n i j:Nat} {f:Nat→Nat→Int} (hj:j<i) (hk:ckI fork n i=(j:Int)) (hf:∀ p q,p<i+1→q<n→f p q=if p=i∧q=i then 2 else if p<i∧q<i then chF fork n p q else 0) :
  ∀ p q,p<i+1→q<n→upd2 (upd2 f i j (-1)) j i (-1) p q=if q<i+1 then chF fork n p q else 0:=by
 intro p q hp hq
 unfold upd2
 by_cases h1:p=j∧q=i
 ·obtain ⟨rfl,rfl⟩:=h1
  rw [if_pos ⟨rfl,rfl⟩,if_pos (by omega)]
  unfold chF
  rw [if_neg (by omega),show max p q=q by omega,show min p q=p by omega,if_pos hk]
 rw [if_neg h1]
 by_cases h2:p=i∧q=j
 ·obtain ⟨rfl,rfl⟩:=h2
  rw [if_pos ⟨rfl,rfl⟩,if_pos (by omega)]
  unfold chF
  rw [if_neg (by omega),show max p q=p by omega,show min p q=q by omega,if_pos hk]
 rw [if_neg h2,hf p q hp hq]
 by_cases h3:p=i∧q=i
 ·obtain ⟨rfl,rfl⟩:=h3
  rw [if_pos ⟨rfl,rfl⟩,if_pos (by omega)]
  unfold chF
  rw [if_pos rfl]
 rw [if_neg h3]
 by_cases h4:p<i∧q<i
 ·rw [if_pos h4,if_pos (by omega)]
 rw [if_neg h4]
 by_cases h5:q<i+1
 ·rw [if_pos h5]
  unfold chF
  rw [if_neg (by omega),if_neg]
  rw [show max p q=i by omega,hk]
  omega
 ·rw [if_neg h5]
theorem ch_none {fork:Bool} {n i:Nat} {f:Nat→Nat→Int} (hk:ckI fork n i<0) (hf:∀ p q,p<i+1→q<n→f p q=if p=i∧q=i then 2 else if p<i∧q<i then chF fork n p q else 0) :
  ∀ p q,p<i+1→q<n→f p q=if q<i+1 then chF fork n p q else 0:=by
 intro p q hp hq
 rw [hf p q hp hq]
 by_cases h3:p=i∧q=i
 ·obtain ⟨rfl,rfl⟩:=h3
  rw [if_pos ⟨rfl,rfl⟩,if_pos (by omega)]
  unfold chF
  rw [if_pos rfl]
 rw [if_neg h3]
 by_cases h4:p<i∧q<i
 ·rw [if_pos h4,if_pos (by omega)]
 rw [if_neg h4]
 by_cases h5:q<i+1
 ·rw [if_pos h5]
  unfold chF
  rw [if_neg (by omega),if_neg]
  rw [show max p q=i by omega]
  omega
 ·rw [if_neg h5]
set_option maxHeartbeats 3200000 in
theorem chain_specJ {w:World} {n:Nat} {fork:Bool} (hn:1≤n∧n≤16) :
  Calls Tryz.prog 87 #[.int .i64 n,.bool fork] w (Ret fun x w'=>Ext w w'∧∃ rs,MatW rs w.heap.size w' x (mk n n (chF fork n))):=by
 refine calls_of_St (args:=[_,_]) Tryz.func87 rfl Tryz.ntmps87 rfl ?_
 (iterate 6 refine Nv ?_;try refine .r rfl ?_)
 refine .s (OpR.make TBok n rfl rfl rfl rfl rfl rfl rfl rfl (by show n * 24≤_;omega) (by omega)) ?_
 rintro _ w2 ⟨rfl,B,hx2,hz2⟩
 have h0:=matW_nil (base:=w.heap.size) (Nat.le_refl _) (by omega) B
 rw [← fst_zero n n (fun _ _=>0)] at h0
 (iterate 6 refine Nv ?_;try refine .r rfl ?_)
 refine St.rng TBok (12) (0) (n) (by omega) [(0,.int .i64 n),(1,.bool fork),(5,.slice (some ⟨w.heap.size,0,none⟩) n n),(11,.int .i64 n)] (fun i w'=>Ext w w'∧∃ rs f,MatW rs w.heap.size w' (.slice (some ⟨w.heap.size,0,none⟩) n n) (fst n n i f)∧∀ p q,p<i→q<n→f p q=if q<i then chF fork n p q else 0) sbb ?_ (fun _=>⟨rfl,rfl⟩) (fun _=>rfl) (fun _=>⟨rfl,rfl⟩) rfl rfl (by omega) ?_ ?_
 ·exact ⟨hx2,_,_,h0,fun p q hp=>by omega⟩
 ·clear h0 B hx2 hz2
  rintro i w3 hi ⟨hx3,rs,f,hM,hf⟩
  (iterate 6 refine Nv ?_;try refine .r rfl ?_)
  refine .s (OpR.make TBok n rfl rfl rfl rfl rfl rfl rfl rfl (by show n * 8≤_;omega) (by omega)) ?_
  rintro _ w4 ⟨rfl,B4,hx4,hz4⟩
  refine StL.putRowU (hM.ext hx4) (by rw [fst_len];exact hi) B4 hx3.size (fun r hr=>hM.blkLt r hr _ (Nat.le_refl _)) (by omega) rfl rfl rfl (fun _=>rfl) rfl rfl (fun _=>rfl) ?_
  intro p5 w5 g5 C5 hg5 hb5 hu5 hM5
  rw [fst_add hi] at hM5
  have hX5:Ext w w5:=(hx3.trans hx4).then_upd hu5 hg5
  obtain ⟨a3,rr,ea,_,hrr,hc3⟩:=hM5.rowAt (i:=i) (by rw [fst_len];exact hi)
  cases ea
  generalize hrs5:rs.set i (.slice (some ⟨w3.heap.size,0,none⟩) n n)=rs5 at hM5 hrr
  have hrv:rr=.slice (some ⟨w3.heap.size,0,none⟩) n n:=by
   have hrl:=hM.rsl
   rw [fst_len] at hrl
   rw [← hrs5,List.getElem?_set_self (by omega)] at hrr
   simpa using hrr.symm
  subst hrv
  (iterate 6 refine Nv ?_;try refine .r rfl ?_)
  refine .p (RunsTo.ia) ?_
  refine .p (RunsTo.load TBok rfl rfl rfl hc3) ?_
  refine .r rfl ?_
  refine StL.putU hM5 hrr (fst_get hi) (j:=i) (by rw [if_pos (by omega),tab_len];exact hi) rfl rfl rfl (fun _=>rfl) rfl rfl (fun _=>rfl) ?_
  intro p6 w6 g6 C6 hg6 hb6 hu6 hM6
  rw [if_pos (by omega),fst_set (f:=fun a b=>if a<i then f a b else 0) hi (by omega) hi] at hM6
  have hX6:Ext w w6:=hX5.then_upd hu6 hg6
  have hf6:∀ p q,p<i+1→q<n→upd2 (fun a b=>if a<i then f a b else 0) i i 2 p q=if p=i∧q=i then 2 else if p<i∧q<i then chF fork n p q else 0:=by
   intro p q hp hq
   unfold upd2
   by_cases h1:p=i∧q=i
   ·rw [if_pos h1,if_pos h1]
   ·rw [if_neg h1,if_neg h1]
    dsimp only
    by_cases h2:p<i
    ·rw [if_pos h2,hf p q h2 hq]
     by_cases h3:q<i
     ·rw [if_pos h3,if_pos ⟨h2,h3⟩]
     ·rw [if_neg h3,if_neg (fun h=>h3 h.2)]
    ·rw [if_neg h2,if_neg (fun h=>h2 h.1)]
  generalize upd2 (fun a b=>if a<i then f a b else 0) i i 2=f6 at *
  clear hM5 hc3 hM B4 hx4 hu5 hb5 hu6 hb6 hrs5
  refine Nv ?_
  refine .a 2 (.int .i64 ((i:Int) - 1)) rfl (by rw [i64_id (by omega) (by omega)]) ?_
  refine .r rfl ?_
  refine StL.nil (Out.then_normal ?_)
  refine St.cut (fun k:Int=>[(12,.int .i64 i),(0,.int .i64 n),(1,.bool fork),(5,.slice (some ⟨w.heap.size,0,none⟩) n n),(11,.int .i64 n),(6,.int .i64 i),(7,.int .i64 k)]) (fun k w'=>w'=w6∧-1≤k∧k<i∧k=ckI fork n i) ?_ ?_
  ·have no:∀ {E:List (Nat×Value)} {Q:Exit→Act→World→Prop} {Em:Int→List (Nat×Value)},¬ (fork=true∧i=n - 1∧3<n)→Sub (Em ((i:Int) - 1)) E→Out 57 E w6 .normal (Exit.then (Met 57 Em (fun k w'=>w'=w6∧-1≤k∧k<i∧k=ckI fork n i)) Q):=fun hn hs=>Out.met ((i:Int) - 1) hs ⟨rfl,by omega,by omega,by unfold ckI;rw [if_neg hn]⟩
   refine Nv ?_
   cases fork
   ·refine .r rfl ?_
    refine Nv ?_
    refine .cF ?_
    exact St.skip (no (fun h=>by cases h.1) sbb)
   ·by_cases e:i=n - 1
    ·refine .a 6 (.bool true) rfl (by rw [i64_id (by omega) (by omega),beq_of_eq (by omega)]) ?_
     by_cases h3:3<n
     ·refine .a 4 (.bool true) rfl (bool_true (by omega)) ?_
      refine .r rfl ?_
      refine Nv ?_
      refine .cT ?_
      refine Nv ?_
      refine .a 2 (.int .i64 ((i:Int) - 2)) rfl (by rw [i64_id (by omega) (by omega)]) ?_
      refine .r rfl ?_
      refine StL.nil ?_
      exact Out.met ((i:Int) - 2) sbb ⟨rfl,by omega,by omega,by unfold ckI;rw [if_pos ⟨rfl,e,h3⟩]⟩
     ·refine .a 4 (.bool false) rfl (bool_false (by omega)) ?_
      refine .r rfl ?_
      refine Nv ?_
      refine .cF ?_
      exact St.skip (no (fun h=>h3 h.2.2) sbb)
    ·refine .a 6 (.bool false) rfl (by rw [i64_id (by omega) (by omega),beq_false_of_ne (by omega)]) ?_
     refine .r rfl ?_
     refine Nv ?_
     refine .cF ?_
     exact St.skip (no (fun h=>e h.2.1) sbb)
  ·rintro k _ ⟨rfl,hk1,hk2,hk3⟩
   refine Nv ?_
   by_cases hk0:0≤k
   ·obtain ⟨j,rfl⟩:∃ j:Nat,k=j:=⟨k.toNat,by omega⟩
    refine .a 2 (.bool true) rfl (bool_true (by omega)) ?_
    (iterate 6 refine Nv ?_;try refine .r rfl ?_)
    refine .cT ?_
    refine Nv ?_
    obtain ⟨a3,rr,ea,_,hrr2,hc3⟩:=hM6.rowAt (i:=i) (by rw [fst_len];exact hi)
    cases ea
    rw [hrr] at hrr2
    cases hrr2
    obtain ⟨a4,r4,ea,_,hr4,hc4⟩:=hM6.rowAt (i:=j) (by rw [fst_len];omega)
    cases ea
    refine St.sub (E':=[(12,.int .i64 i),(0,.int .i64 n),(1,.bool fork),(5,.slice (some ⟨w.heap.size,0,none⟩) n n),(11,.int .i64 n),(6,.int .i64 i),(7,.int .i64 j)]) ?_ sbb
    refine St.any TBfol rfl ?_
    intro w7 hx7 _ _
    refine WA.takes (fuel:=8) TBok (by kernel_rfl) (fun _ _ _ _ _ h=>h) [0,1,4,5,6,9] (by kernel_rfl) rfl ?_
    refine WA.take 2 rfl rfl (by kernel_rfl) (by kernel_rfl) (by kernel_rfl) (fun _ _ _ h=>h) rfl rfl (fun w=>RunsTo.ia) ?_
    refine WA.take 7 rfl rfl (by kernel_rfl) (by kernel_rfl) (by kernel_rfl) (fun _ _ _ h=>h) rfl rfl (fun w=>RunsTo.ia) ?_
    refine WA.meet 4 #[true,true,true,true,true,true,true,true,true,true,false,false,false,false] (fun _:Unit=>[(12,.int .i64 i),(0,.int .i64 n),(1,.bool fork),(5,.slice (some ⟨w.heap.size,0,none⟩) n n),(11,.int .i64 n),(6,.int .i64 i),(7,.int .i64 j),(46,.slice (some ⟨w3.heap.size,0,none⟩) n n),(47,.int .i64 j),(51,r4),(52,.int .i64 i)]) (fun _ w'=>w'=w7) ?_ ?_
    ·rintro _ _ rfl
     have hM7:=hM6.ext hx7
     obtain ⟨g,cap,D,hv,hg,hB,hput⟩:=hM7.rowB hrr (fst_get hi) (by rw [if_pos (by omega)];intro e;have:=congrArg List.length e;rw [tab_len] at this;simp at this;omega)
     rw [if_pos (by omega)] at hv hB hput
     rw [tab_len] at hv
     simp only [Value.slice.injEq,Option.some.injEq,Addr.mk.injEq,and_true] at hv
     obtain ⟨rfl,_,rfl⟩:=hv
     refine WA.one (i:=10) (by kernel_rfl) (WOp.val rfl rfl rfl rfl (RunsTo.ia).op ?_)
     rintro _ _ ⟨rfl,rfl⟩
     simp only [Int.toNat_natCast,addr_add,Nat.zero_add]
     refine WA.one (i:=11) (by kernel_rfl) (WOp.eff rfl rfl rfl (OpR.store TBok (vs:=[_]) rfl rfl rfl rfl rfl hB (by rw [List.length_append,List.length_map,tab_len];simp;omega) (by simp [Value.oneCell'])) ?_)
     rintro _ w8 ⟨hB8,hu8⟩
     have hM8:=hput j (-1) w8 (by rw [tab_len];omega) hu8 hB8
     rw [fst_set hi (by omega) (by omega)] at hM8
     have hX8:Ext w w8:=(hX6.trans hx7).then_upd hu8 hg
     obtain ⟨g2,cap2,D2,rfl,hg2,hB2,hput2⟩:=hM8.rowB hr4 (fst_get (show j<n by omega)) (by rw [if_pos (by omega)];intro e;have:=congrArg List.length e;rw [tab_len] at this;simp at this;omega)
     rw [if_pos (by omega)] at hB2 hput2
     refine WA.one (i:=12) (by kernel_rfl) (WOp.val rfl rfl rfl rfl (RunsTo.indexAddr TBok rfl rfl rfl rfl rfl (by omega) (by rw [if_pos (by omega),tab_len];omega)).op ?_)
     rintro _ _ ⟨rfl,rfl⟩
     simp only [Int.toNat_natCast,addr_add,Nat.zero_add]
     refine WA.one (i:=13) (by kernel_rfl) (WOp.eff rfl rfl rfl (OpR.store TBok (vs:=[_]) rfl rfl rfl rfl rfl hB2 (by rw [List.length_append,List.length_map,tab_len];simp;omega) (by simp [Value.oneCell'])) ?_)
     rintro _ w9 ⟨hB9,hu9⟩
     have hM9:=hput2 i (-1) w9 (by rw [tab_len];exact hi) hu9 hB9
     rw [fst_set (by omega) (by omega) hi] at hM9
     refine WA.done (by kernel_rfl) ?_
     refine Nv ?_
     exact Out.rnd sbb ⟨hX8.then_upd hu9 hg2,rs5,_,hM9,ch_step (by omega) hk3.symm hf6⟩
    ·intro meet
     refine WA.two (i:=3) (j:=8) (by kernel_rfl) ?_ ?_
     ·refine WOp.val rfl rfl rfl rfl (RunsTo.load TBok rfl rfl rfl (hx7.cell hc3)).op ?_
      rintro _ _ ⟨rfl,rfl⟩
      refine WA.one (i:=8) (by kernel_rfl) (WOp.val rfl rfl rfl rfl (RunsTo.load TBok rfl rfl rfl (hx7.cell hc4)).op ?_)
      rintro _ _ ⟨rfl,rfl⟩
      exact meet () _ _ _ (by kernel_rfl) rfl sbb
     ·refine WOp.val rfl rfl rfl rfl (RunsTo.load TBok rfl rfl rfl (hx7.cell hc4)).op ?_
      rintro _ _ ⟨rfl,rfl⟩
      refine WA.one (i:=3) (by kernel_rfl) (WOp.val rfl rfl rfl rfl (RunsTo.load TBok rfl rfl rfl (hx7.cell hc3)).op ?_)
      rintro _ _ ⟨rfl,rfl⟩
      exact meet () _ _ _ (by kernel_rfl) rfl sbb
   ·refine .a 2 (.bool false) rfl (bool_false (by omega)) ?_
    (iterate 6 refine Nv ?_;try refine .r rfl ?_)
    refine .cF ?_
    refine Nv ?_
    exact Out.rnd sbb ⟨hX6,rs5,f6,hM6,ch_none (by omega) hf6⟩
 ·rintro w3 ⟨hx3,rs,f,hM,hf⟩
  rw [fst_all] at hM
  rw [mk_congr (fun p q hp hq=>(hf p q hp hq).trans (if_pos hq))] at hM
  (iterate 6 refine Nv ?_;try refine .r rfl ?_)
  exact Out.ret1 rfl rfl ⟨hx3,rs,hM⟩
def triN:Nat→Nat
 | 0=>0
 | i+1=>triN i+i
def gnF (xs:List Int) (n i j p q:Nat):Int:=if p=q then dgF xs 0 6 p q else if max p q<i∨(max p q=i∧min p q<j) then (xs.getD (n+triN (max p q)+min p q) 0).tmod 3 else 0
theorem gn_zero (xs:List Int) (n p q:Nat):gnF xs n 0 0 p q=dgF xs 0 6 p q:=by
 unfold gnF
 by_cases h:p=q
 ·rw [if_pos h]
 ·rw [if_neg h,if_neg (by omega)]
  unfold dgF
  rw [if_neg h]
theorem gn_row (xs:List Int) (n i:Nat):∀ p q,p<n→q<n→gnF xs n i i p q=gnF xs n (i+1) 0 p q:=by
 intro p q hp hq
 unfold gnF
 by_cases h:p=q
 ·rw [if_pos h,if_pos h]
 ·rw [if_neg h,if_neg h]
  by_cases h2:max p q<i+1
  ·rw [if_pos (by omega),if_pos (by omega)]
  ·rw [if_neg (by omega),if_neg (by omega)]
theorem gn_step (xs:List Int) (n:Nat) {i j:Nat} (hi:i<n) (hj:j<i):∀ p q,p<n→q<n→upd2 (upd2 (gnF xs n i j) i j ((xs.getD (n+triN i+j) 0).tmod 3)) j i (upd2 (gnF xs n i j) i j ((xs.getD (n+triN i+j) 0).tmod 3) i j) p q=gnF xs n i (j+1) p q:=by
 intro p q hp hq
 have e0:upd2 (gnF xs n i j) i j ((xs.getD (n+triN i+j) 0).tmod 3) i j=(xs.getD (n+triN i+j) 0).tmod 3:=by
  unfold upd2
  rw [if_pos ⟨rfl,rfl⟩]
 rw [e0]
 unfold upd2
 by_cases h1:p=j∧q=i
 ·obtain ⟨rfl,rfl⟩:=h1
  rw [if_pos ⟨rfl,rfl⟩]
  unfold gnF
  rw [if_neg (by omega),show max p q=q by omega,show min p q=p by omega,if_pos (by omega)]
 rw [if_neg h1]
 by_cases h2:p=i∧q=j
 ·obtain ⟨rfl,rfl⟩:=h2
  rw [if_pos ⟨rfl,rfl⟩]
  unfold gnF
  rw [if_neg (by omega),show max p q=p by omega,show min p q=q by omega,if_pos (by omega)]
 rw [if_neg h2]
 unfold gnF
 by_cases h:p=q
 ·rw [if_pos h,if_pos h]
 ·rw [if_neg h,if_neg h]
  by_cases h3:max p q<i∨(max p q=i∧min p q<j)
  ·rw [if_pos h3,if_pos (by omega)]
  ·rw [if_neg h3,if_neg (by omega)]
theorem gn_bnd (xs:List Int) (n i j m:Nat):BndF m 6 (gnF xs n i j):=by
 intro p q hp hq
 unfold gnF
 split
 ·rename_i h
  have:=(dgF_diag (xs:=xs) (k:=0) (n:=m) (m:=6) (by omega) p q hp hq).2 h
  omega
 ·split
  ·have:=tmod3 (xs.getD (n+triN (max p q)+min p q) 0)
   omega
  ·omega
set_option maxHeartbeats 3200000 in
theorem general_specJ {w0 w:World} {b n:Nat} {v:Value} {xs:List Int} (hx0:Ext w0 w) (hT:TapeJ w0 w b v xs 0) (hn:1≤n∧n≤16) :
  Calls Tryz.prog 86 #[.pointer (some ⟨b,0,none⟩),.int .i64 n] w (Ret fun x w'=>Upd b w w'∧Ext w0 w'∧TapeJ w0 w' b v xs (n+triN n)∧∃ rs,MatW rs w.heap.size w' x (mk n n (gnF xs n n 0))):=by
 have hbw:b<w.heap.size:=by obtain ⟨C,hC⟩:=hT.blk;exact hC.lt
 have hb0:=hT.1
 refine calls_of_St (args:=[_,_]) Tryz.func86 rfl Tryz.ntmps86 rfl ?_
 (iterate 6 refine Nv ?_;try refine .r rfl ?_)
 refine .s (OpR.call fn_quadformmake_diagonal rfl (diagonal_specJ (m:=6) hx0 hT hn (by omega))) ?_
 rintro V w1 ⟨hu1,hx1,hT1,rs,hM⟩
 obtain ⟨g,cap,rfl,hg⟩:=hM.addr (by rw [mk_len];omega)
 rw [mk_len] at hM ⊢
 rw [mk_congr (fun p q hp hq=>(gn_zero xs n p q).symm)] at hM
 (iterate 6 refine Nv ?_;try refine .r rfl ?_)
 refine St.rng TBok (13) (0) (n) (by omega) [(0,.pointer (some ⟨b,0,none⟩)),(5,.slice (some ⟨g,0,none⟩) n cap),(12,.int .i64 n)] (fun i w'=>Upd b w w'∧Ext w0 w'∧TapeJ w0 w' b v xs (n+triN i)∧MatW rs w.heap.size w' (.slice (some ⟨g,0,none⟩) n cap) (mk n n (gnF xs n i 0))) sbb ?_ (fun _=>⟨rfl,rfl⟩) (fun _=>rfl) (fun _=>⟨rfl,rfl⟩) rfl rfl (by omega) ?_ ?_
 ·exact ⟨hu1,hx1,by rw [Nat.zero_add] at hT1;exact hT1,hM⟩
 ·clear hM hT1 hx1 hu1 hT
  rintro i w2 hi ⟨hu2,hx2,hT2,hM⟩
  (iterate 6 refine Nv ?_;try refine .r rfl ?_)
  refine St.rngC TBok (7) (0) (i) (by omega) [(13,.int .i64 i),(0,.pointer (some ⟨b,0,none⟩)),(5,.slice (some ⟨g,0,none⟩) n cap),(12,.int .i64 n),(6,.int .i64 i)] (fun j w'=>Upd b w w'∧Ext w0 w'∧TapeJ w0 w' b v xs (n+triN i+j)∧MatW rs w.heap.size w' (.slice (some ⟨g,0,none⟩) n cap) (mk n n (gnF xs n i j))) sbb ?_ (fun _=>⟨rfl,rfl⟩) (fun _=>rfl) (fun _=>⟨rfl,rfl⟩) rfl rfl (by omega) ?_ ?_
  ·exact ⟨hu2,hx2,hT2,hM⟩
  ·clear hM hT2 hx2 hu2
   rintro j w3 hj ⟨hu3,hx3,hT3,hM⟩
   have hstep:=gn_step xs n hi hj
   generalize gnF xs n i j=f at hM hstep
   obtain ⟨a3,rr,ea,_,hrr,hc3⟩:=hM.rowAt (i:=i) (by rw [mk_len];exact hi)
   cases ea
   refine Nv ?_
   refine St.sub (E':=[(7,.int .i64 j),(13,.int .i64 i),(0,.pointer (some ⟨b,0,none⟩)),(5,.slice (some ⟨g,0,none⟩) n cap),(12,.int .i64 n),(6,.int .i64 i)]) ?_ sbb
   refine St.any TBfol rfl ?_
   intro w6 hx6 _ _
   refine WA.takes (fuel:=6) TBok (by kernel_rfl) (fun _ _ _ _ _ h=>h) [0,1,4,5] (by kernel_rfl) rfl ?_
   refine WA.take 2 rfl rfl (by kernel_rfl) (by kernel_rfl) (by kernel_rfl) (fun _ _ _ h=>h) rfl rfl (fun w=>RunsTo.ia) ?_
   refine WA.meet 2 #[true,true,true,true,true,true,true,true,false,false] (fun z:Int=>[(7,.int .i64 j),(13,.int .i64 i),(0,.pointer (some ⟨b,0,none⟩)),(5,.slice (some ⟨g,0,none⟩) n cap),(12,.int .i64 n),(6,.int .i64 i),(24,rr),(25,.int .i64 j),(28,.int .i64 z)]) (fun z w'=>Upd b w6 w'∧TapeJ w0 w' b v xs (n+triN i+(j+1))∧z=(xs.getD (n+triN i+j) 0).tmod 3) ?_ ?_
   ·rintro z w7 ⟨hu7,hT7,hz⟩
    obtain ⟨C6,hC6⟩:=(hT3.ext hx6).blk
    have hM7:MatW rs w.heap.size w7 _ _:=MatR.updT (hM.ext hx6) hu7 hC6 (by decide) (by decide)
    obtain ⟨g3,cap3,D,rfl,hg3,hB,hput⟩:=hM7.rowB hrr (mk_get hi) (by intro e;have:=congrArg List.length e;simp at this;omega)
    have hl:((List.range n).map (f i)).length=n:=by simp
    rw [hl] at hput ⊢
    refine WA.one (i:=8) (by kernel_rfl) (WOp.val rfl rfl rfl rfl (RunsTo.ia).op ?_)
    rintro _ _ ⟨rfl,rfl⟩
    simp only [Int.toNat_natCast,addr_add,Nat.zero_add]
    refine WA.one (i:=9) (by kernel_rfl) (WOp.eff rfl rfl rfl (OpR.store TBok (vs:=[_]) rfl rfl rfl rfl rfl hB (by rw [List.length_append,List.length_map,hl];simp;omega) (by simp [Value.oneCell'])) ?_)
    rintro _ w8 ⟨hB8,hu8⟩
    refine WA.done (by kernel_rfl) ?_
    have hM8:=hput j z w8 (by omega) hu8 hB8
    rw [mk_set hi (by omega)] at hM8
    have hu8':Upd b w w8:=((hu3.trans (hx6.upd b)).trans hu7).then_upd hu8 hg3
    have hx8':Ext w0 w8:=((hx3.trans hx6).then_upd hu7 hb0).then_upd hu8 (by have:=hx0.size;omega)
    have hT8:=hT7.upd hu8 hB (by decide)
    rw [hz] at hM8
    obtain ⟨f8,hf8e⟩:∃ f8,f8=upd2 f i j ((xs.getD (n+triN i+j) 0).tmod 3):=⟨_,rfl⟩
    rw [← hf8e] at hM8 hstep
    clear hM7 hput hB hT7 hu7 hC6 hM hc3 hT3 hx6 hu3 hx3
    refine Nv ?_
    obtain ⟨a3,rr,ea,_,hrr4,hc4⟩:=hM8.rowAt (i:=j) (by rw [mk_len];omega)
    cases ea
    obtain ⟨a3,rr5,ea,_,hrr5,hc5⟩:=hM8.rowAt (i:=i) (by rw [mk_len];omega)
    cases ea
    obtain ⟨a5,c5,rfl,hc6⟩:=hM8.cellAt hrr5 hi (show j<n by omega)
    refine St.sub (E':=[(7,.int .i64 j),(13,.int .i64 i),(0,.pointer (some ⟨b,0,none⟩)),(5,.slice (some ⟨g,0,none⟩) n cap),(12,.int .i64 n),(6,.int .i64 i)]) ?_ sbb
    refine St.flow 12 TBfol (by kernel_rfl) rfl (by kernel_rfl) rfl True.intro ?_
    refine FL.run TBok 99 rfl ?_
    refine .on (fun _ _=>RunsTo.ia) ?_
    refine .on (fun _ hR=>RunsTo.load TBok rfl rfl rfl (hR.ext_nil.cell hc4)) ?_
    refine FL.run TBok 99 rfl ?_
    refine .on (fun _ _=>RunsTo.ia) ?_
    refine .on (fun _ hR=>RunsTo.load TBok rfl rfl rfl (hR.ext_nil.cell hc5)) ?_
    refine FL.run TBok 99 rfl ?_
    refine .on (fun _ _=>RunsTo.ia) ?_
    refine .on (fun _ hR=>RunsTo.load TBok rfl rfl rfl (hR.ext_nil.cell hc6)) ?_
    refine FL.endE rfl ?_
    intro w9 hx9 _ _
    refine StL.putU (hM8.ext hx9) hrr4 (mk_get (show j<n by omega)) (j:=i) (by simp;omega) rfl rfl rfl (fun _=>rfl) rfl rfl (fun _=>rfl) ?_
    intro p10 w10 g10 C10 hg10 hb10 hu10 hM10
    rw [mk_set (by omega) hi] at hM10
    refine Nv ?_
    exact Out.rnd sbb ⟨(hu8'.trans (hx9.upd b)).then_upd hu10 hg10,(hx8'.trans hx9).then_upd hu10 (by have:=hx0.size;omega),(hT8.ext hx9).upd hu10 hb10 (by decide),by rw [mk_congr hstep] at hM10;exact hM10⟩
   ·intro meet
    have hX6:=hx3.trans hx6
    have hT6:=hT3.ext hx6
    refine WA.two (i:=3) (j:=6) (by kernel_rfl) ?_ ?_
    ·refine WOp.val rfl rfl rfl rfl (RunsTo.load TBok rfl rfl rfl (hx6.cell hc3)).op ?_
     rintro _ _ ⟨rfl,rfl⟩
     refine WA.one (i:=6) (by kernel_rfl) (WOp.val rfl rfl rfl rfl (OpR.call fn_quadformmake_Tape_Next rfl (next_specJ hX6 hT6)) ?_)
     rintro _ w7 ⟨hu7,hT7,rfl,_⟩
     refine WA.take 7 rfl rfl (by kernel_rfl) (by kernel_rfl) (by kernel_rfl) (fun _ _ _ h=>h) rfl rfl (fun w=>RunsTo.remT rfl rfl (by decide)) ?_
     exact meet ((xs.getD (n+triN i+j) 0).tmod 3) _ _ _ (by kernel_rfl) ⟨hu7,hT7,rfl⟩ sbb
    ·refine WOp.val rfl rfl rfl rfl (OpR.call fn_quadformmake_Tape_Next rfl (next_specJ hX6 hT6)) ?_
     rintro _ w7 ⟨hu7,hT7,rfl,_⟩
     refine WA.take 7 rfl rfl (by kernel_rfl) (by kernel_rfl) (by kernel_rfl) (fun _ _ _ h=>h) rfl rfl (fun w=>RunsTo.remT rfl rfl (by decide)) ?_
     refine WA.one (i:=3) (by kernel_rfl) (WOp.val rfl rfl rfl rfl (RunsTo.load TBok rfl rfl rfl (hu7.cell (hx6.cell hc3) (by rw [addr_add_block];show g≠b;omega))).op ?_)
     rintro _ _ ⟨rfl,rfl⟩
     exact meet ((xs.getD (n+triN i+j) 0).tmod 3) _ _ _ (by kernel_rfl) ⟨hu7,hT7,rfl⟩ sbb
  ·rintro w3 ⟨hu3,hx3,hT3,hM⟩
   refine Nv ?_
   exact Out.rnd sbb ⟨hu3,hx3,by rw [show n+triN (i+1)=n+triN i+i from (Nat.add_assoc _ _ _).symm];exact hT3,by rw [mk_congr (gn_row xs n i)] at hM;exact hM⟩
 ·rintro w3 ⟨hu3,hx3,hT,hM⟩
  (iterate 6 refine Nv ?_;try refine .r rfl ?_)
  exact Out.ret1 rfl rfl ⟨hu3,hx3,hT,rs,hM⟩
def LatX (w:World) (v:Value) (d k:Nat) (xs:List Int):Prop:=∃ (s1 s2:Value),v=.agg #[.int .u8 d,.int .u8 k,s1,s2]∧d<256∧k<256∧L8 w s1 xs∧s2.oneCell'=true
theorem LatX.ext {w w':World} {v:Value} {d k:Nat} {xs:List Int} (h:LatX w v d k xs) (hx:Ext w w'):LatX w' v d k xs:=by
 obtain ⟨s1,s2,hv,h1,h2,h3,h4⟩:=h
 exact ⟨s1,s2,hv,h1,h2,h3.ext hx,h4⟩
theorem LatV.x {w:World} {v:Value} (h:LatV w v):∃ d k xs,LatX w v d k xs:=by
 obtain ⟨d,k,s1,s2,xs,r⟩:=h
 exact ⟨d,k,xs,s1,s2,r⟩
theorem tapeJ_new {w w2:World} {b:Nat} {v:Value} {xs:List Int} (h:w.heap.size≤b) (hB:Blk 103 w2 b [v,.int .i64 0]) (hL:L8 w v xs):TapeJ w w2 b v xs 0:=⟨h,by rw [Nat.zero_min];exact hB,hL⟩
def gm0 (κ n:Nat) (xs:List Int):Nat→Nat→Int:=if κ<4 then gnF xs n n 0 else if κ=4 then upd2 (chF false n) 0 0 (2+((blw xs 0 3:Nat):Int)) else if κ=5 then upd2 (chF true n) (n - 1) (n - 1) (2+((blw xs 0 2:Nat):Int)) else if κ=6 then dgF xs 0 9 else dgF xs 0 1
def gmP (κ n:Nat):Nat:=if κ<4 then n+triN n else if κ<6 then 1 else n
def GmF (κ n:Nat) (xs:List Int) (F:Nat→Nat→Int):Prop:=(Form n (gm0 κ n xs)∧dd (RA (gm0 κ n xs)) n≤10000→F=gm0 κ n xs)∧(¬ (Form n (gm0 κ n xs)∧dd (RA (gm0 κ n xs)) n≤10000)→F=dgF xs (gmP κ n) 2)
theorem upd2_bnd {n i:Nat} {c z:Int} {f:Nat→Nat→Int} (h:BndF n c f) (hz:-9≤z∧z≤9) (hc:c≤9):BndF n 9 (upd2 f i i z):=by
 intro p q hp hq
 unfold upd2
 split
 ·exact hz
 ·have:=h p q hp hq
  omega
theorem gm0_bnd (κ n:Nat) (xs:List Int) (hn:1≤n):BndF n 9 (gm0 κ n xs):=by
 have a3:blw xs 0 3<3:=Nat.mod_lt _ (by omega)
 have a2:blw xs 0 2<2:=Nat.mod_lt _ (by omega)
 unfold gm0
 split
 ·intro p q hp hq
  have:=gn_bnd xs n n 0 n p q hp hq
  omega
 split
 ·exact upd2_bnd (chF_bnd _ _ _) (by omega) (by omega)
 split
 ·exact upd2_bnd (chF_bnd _ _ _) (by omega) (by omega)
 split
 ·exact diag_bnd (dgF_diag (by omega)) (by omega)
 ·exact diag_bnd (dgF_diag (m:=1) (by omega)) (by omega)
theorem gmF_ex (κ n:Nat) (xs:List Int) (hn:1≤n∧n≤8):∃ F,GmF κ n xs F∧BndF n 9 F∧Form n F∧dd (RA F) n≤10000:=by
 by_cases h:Form n (gm0 κ n xs)∧dd (RA (gm0 κ n xs)) n≤10000
 ·exact ⟨_,⟨fun _=>rfl,fun k=>absurd h k⟩,gm0_bnd κ n xs hn.1,h.1,h.2⟩
 ·have hd:=dgF_diag (xs:=xs) (k:=gmP κ n) (n:=n) (m:=2) (by omega)
  obtain ⟨h1,h2⟩:=diag_form hn.2 hd
  exact ⟨_,⟨fun k=>absurd k h,fun _=>rfl⟩,diag_bnd hd (by omega),h1,h2⟩
set_option maxHeartbeats 6400000 in
theorem gram_specJ {w:World} {v:Value} {most d kd n:Nat} {xs:List Int} {F:Nat→Nat→Int} (h:LatX w v d kd xs) (hm:1≤most∧most≤8) (hn:n=1+d % most) (hF:GmF (kd % 8) n xs F) :
  Calls Tryz.prog 38 #[v,.int .i64 most] w (Ret fun x w'=>Ext w w'∧M64 w' x (mk n n F)):=by
 obtain ⟨s1,s2,rfl,hd,hk,hL,hs2⟩:=h
 obtain ⟨sv,hsv⟩:∃ sv,sv=s1:=⟨_,rfl⟩
 obtain ⟨p1,c1,hs1⟩:=hL.1.len
 subst hs1
 refine calls_of_St (args:=[_,_]) Tryz.func38 rfl Tryz.ntmps38 rfl ?_
 refine Nv ?_
 refine .s (OpR.box rfl) ?_
 rintro _ w1 ⟨rfl,B1,hx1,hz1⟩
 (iterate 6 refine Nv ?_;try refine .r rfl ?_)
 (refine .s (RunsTo.load TBok rfl rfl rfl (Blk.cell upp rfl)).op ?_;rintro _ _ ⟨rfl,rfl⟩)
 (refine .s (RunsTo.build TBok rfl rfl rfl rfl).op ?_;rintro _ _ ⟨rfl,rfl⟩)
 refine .s (OpR.box rfl) ?_
 rintro _ w2 ⟨rfl,B2,hx2,hz2⟩
 have hT:TapeJ w w2 w1.heap.size sv xs 0:=by rw [hsv];exact tapeJ_new hx1.size B2 hL
 have hx02:=hx1.trans hx2
 replace B1:=B1.ext hx2
 (iterate 6 refine Nv ?_;try refine .r rfl ?_)
 (refine .s (RunsTo.load TBok rfl rfl rfl (Blk.cell upp rfl)).op ?_;rintro _ _ ⟨rfl,rfl⟩)
 refine .a 1 (.int .i64 d) rfl (by rw [i64_id (by omega) (by omega)]) ?_
 refine .r rfl ?_
 refine .p (RunsTo.remN d most rfl rfl rfl rfl (by omega)) ?_
 have hdm:d % most<most:=Nat.mod_lt _ (by omega)
 refine .a 1 (.int .i64 n) rfl (by rw [i64_id (by omega) (by omega)];congr 1;omega) ?_
 have hn1:1≤n∧n≤8:=by omega
 have hn16:1≤n∧n≤16:=by omega
 have hnm:n≤most:=by omega
 clear hn
 refine .r rfl ?_
 refine Nv ?_
 refine .r rfl ?_
 refine StL.nil (Out.then_normal ?_)
 have hb2:w1.heap.size<w2.heap.size:=by omega
 have hX2:w.heap.size≤w2.heap.size:=hx02.size
 refine St.sub (E':=[(5,.pointer (some ⟨w1.heap.size,0,none⟩)),(6,.int .i64 n),(2,.pointer (some ⟨w.heap.size,0,none⟩))]) ?_ sbb
 refine St.cut (fun V:Value=>[(5,.pointer (some ⟨w1.heap.size,0,none⟩)),(6,.int .i64 n),(7,V)]) (fun V w'=>Ext w w'∧TapeJ w w' w1.heap.size sv xs (gmP (kd % 8) n)∧∃ rs,MatW rs w2.heap.size w' V (mk n n (gm0 (kd % 8) n xs))) ?_ ?_
 ·refine Nv ?_
  refine .r rfl ?_
  (refine .s (RunsTo.load TBok rfl rfl rfl (Blk.cell upp rfl)).op ?_;rintro _ _ ⟨rfl,rfl⟩)
  refine .p (RunsTo.remN kd 8 rfl rfl rfl rfl (by omega)) ?_
  have hk8:kd % 8<8:=Nat.mod_lt _ (by omega)
  clear hF
  generalize kd % 8=κ at hk8 ⊢
  have hcase:κ<4∨κ=4∨κ=5∨κ=6∨κ=7:=by omega
  rcases hcase with h4 | rfl | rfl | rfl | rfl
  ·have hc:κ=0∨κ=1∨κ=2∨κ=3:=by omega
   rcases hc with rfl | rfl | rfl | rfl
   all_goals
    (iterate 4 try ((iterate 6 refine Nv ?_;try refine .r rfl ?_);first | refine .cT ?_ | refine .cF ?_))
    (iterate 2 try ((iterate 6 refine Nv ?_;try refine .r rfl ?_);first | refine .cT ?_ | refine .cF ?_))
    (iterate 6 refine Nv ?_;try refine .r rfl ?_)
    refine .s (OpR.call fn_quadformmake_general rfl (general_specJ hx02 hT hn16)) ?_
    rintro V w3 ⟨hu3,hx3,hT3,rs,hM⟩
    refine .r rfl ?_
    refine Nv ?_
    exact Out.met V sbb ⟨hx3,hT3,rs,hM⟩
  ·(iterate 9 try ((iterate 6 refine Nv ?_;try refine .r rfl ?_);first | refine .cT ?_ | refine .cF ?_))
   (iterate 6 refine Nv ?_;try refine .r rfl ?_)
   refine .s (OpR.call fn_quadformmake_chain rfl (chain_specJ (w:=w2) hn16)) ?_
   rintro V w3 ⟨hx3,rs,hM⟩
   obtain ⟨f,hfe⟩:∃ f,f=chF false n:=⟨_,rfl⟩
   rw [← hfe] at hM
   obtain ⟨g,cap,rfl,hg⟩:=hM.addr (by rw [mk_len];omega)
   rw [mk_len] at hM ⊢
   obtain ⟨a3,rr,ea,_,hrr,hc3⟩:=hM.rowAt (i:=0) (by rw [mk_len];omega)
   cases ea
   refine .r rfl ?_
   refine Nv ?_
   refine St.sub (E':=[(5,.pointer (some ⟨w1.heap.size,0,none⟩)),(6,.int .i64 n),(7,.slice (some ⟨g,0,none⟩) n cap)]) ?_ sbb
   refine St.any TBfol rfl ?_
   intro w6 hx6 _ _
   have hX6:=(hx02.trans hx3).trans hx6
   have hT6:=(hT.ext hx3).ext hx6
   have hM6:=hM.ext hx6
   obtain ⟨C6,hC6⟩:=hT6.blk
   obtain ⟨g3,cap3,D,rfl,hg3,hB,hput⟩:=hM6.rowB hrr (mk_get (show 0<n by omega)) (by intro e;have:=congrArg List.length e;simp at this;omega)
   have hl:((List.range n).map (f 0)).length=n:=by simp
   rw [hl] at hput hrr hc3
   have hcell:(((List.range n).map (f 0)).map i64++D)[0]?=some (.int .i64 (f 0 0)):=by
    rw [List.getElem?_append_left (by simp;omega)]
    simp [show 0<n by omega]
   refine WA.takes (fuel:=8) TBok (by kernel_rfl) (fun _ _ _ _ _ h=>h) [0,5] (by kernel_rfl) rfl ?_
   refine WA.take 1 rfl rfl (by kernel_rfl) (by kernel_rfl) (by kernel_rfl) (fun _ _ _ h=>h) rfl rfl (fun w=>RunsTo.ia) ?_
   refine WA.meet 3 #[true,true,true,true,true,true,true,false,false,false] (fun z:Nat=>[(5,.pointer (some ⟨w1.heap.size,0,none⟩)),(6,.int .i64 n),(7,.slice (some ⟨g,0,none⟩) n cap),(38,.slice (some ⟨g3,0,none⟩) n cap3),(40,.int .i64 (f 0 0)),(42,.int .i64 z)]) (fun z w'=>Upd w1.heap.size w6 w'∧TapeJ w w' w1.heap.size sv xs 1∧z=blw xs 0 3∧z<3) ?_ ?_
   ·rintro z w7 ⟨hu7,hT7,hze,hz⟩
    have hfi:f 0 0=2:=by rw [hfe];exact if_pos rfl
    have hM7:MatW rs w2.heap.size w7 _ _:=MatR.updT hM6 hu7 hC6 (by decide) (by decide)
    obtain ⟨g4,cap4,D4,e4,hg4,hB4,hput4⟩:=hM7.rowB hrr (mk_get (show 0<n by omega)) (by intro e;have:=congrArg List.length e;simp at this;omega)
    rw [hl] at e4 hput4
    simp only [Value.slice.injEq,Option.some.injEq,Addr.mk.injEq,and_true,true_and] at e4
    obtain ⟨rfl,rfl⟩:=e4
    refine WA.takes (fuel:=2) TBok (by kernel_rfl) (fun _ _ _ _ _ h=>h) [7] (by kernel_rfl) rfl ?_
    refine WA.one (i:=8) (by kernel_rfl) (WOp.val rfl rfl rfl rfl (RunsTo.ia).op ?_)
    rintro _ _ ⟨rfl,rfl⟩
    simp only [Int.toNat_zero,addr_add,Nat.zero_add]
    refine WA.one (i:=9) (by kernel_rfl) (WOp.eff rfl rfl rfl (OpR.store TBok (off:=0) (vs:=[_]) rfl rfl rfl rfl rfl hB4 (by rw [List.length_append,List.length_map,hl];simp;omega) (by simp [Value.oneCell'])) ?_)
    rintro _ w8 ⟨hB8,hu8⟩
    refine WA.done (by kernel_rfl) ?_
    have hM8:=hput4 (0) (IntKind.i64.wrap (f 0 0+z)) w8 (by omega) hu8 hB8
    rw [mk_set (show 0<n by omega) (show 0<n by omega)] at hM8
    refine Nv ?_
    refine Out.met (.slice (some ⟨g,0,none⟩) n cap) sbb ⟨(hX6.then_upd hu7 hx1.size).then_upd hu8 (by omega),hT7.upd hu8 hB4 (by decide),rs,?_⟩
    rw [i64_id (by omega) (by omega),hfi,hze,hfe] at hM8
    exact hM8
   ·intro meet
    have hcu:∀ w7,Upd w1.heap.size w6 w7→w7.cell? ⟨g3,0,none⟩=some (.int .i64 (f 0 0)):=fun w7 hu7=>hu7.cell (hB.cell hcell) (by show g3≠_;omega)
    have hcv:∀ w7,Upd w1.heap.size w6 w7→w7.cell? (Addr.add ⟨g,0,none⟩ (0))=some (.slice (some ⟨g3,0,none⟩) n cap3):=fun w7 hu7=>hu7.cell (hx6.cell hc3) (by rw [addr_add_block];show g≠_;omega)
    refine WA.two (i:=2) (j:=6) (by kernel_rfl) ?_ ?_
    ·refine WOp.val rfl rfl rfl rfl (RunsTo.load TBok rfl rfl rfl (hcv w6 (Upd.refl _ _))).op ?_
     rintro _ _ ⟨rfl,rfl⟩
     refine WA.take 3 rfl rfl (by kernel_rfl) (by kernel_rfl) (by kernel_rfl) (fun _ _ _ h=>h) rfl rfl (fun w=>RunsTo.ia) ?_
     simp only [Int.toNat_zero,addr_add,Nat.zero_add]
     refine WA.two (i:=4) (j:=6) (by kernel_rfl) ?_ ?_
     ·refine WOp.val rfl rfl rfl rfl (RunsTo.load TBok rfl rfl rfl (hcu w6 (Upd.refl _ _))).op ?_
      rintro _ _ ⟨rfl,rfl⟩
      refine WA.one (i:=6) (by kernel_rfl) (WOp.val rfl rfl rfl rfl (OpR.call fn_quadformmake_Tape_Below rfl (below_specJ (m:=3) hX6 hT6 (by omega))) ?_)
      rintro _ w7 ⟨hu7,hT7,rfl,hz⟩
      exact meet (blw xs 0 3) _ _ _ (by kernel_rfl) ⟨hu7,hT7,rfl,hz⟩ sbb
     ·refine WOp.val rfl rfl rfl rfl (OpR.call fn_quadformmake_Tape_Below rfl (below_specJ (m:=3) hX6 hT6 (by omega))) ?_
      rintro _ w7 ⟨hu7,hT7,rfl,hz⟩
      refine WA.one (i:=4) (by kernel_rfl) (WOp.val rfl rfl rfl rfl (RunsTo.load TBok rfl rfl rfl (hcu w7 hu7)).op ?_)
      rintro _ _ ⟨rfl,rfl⟩
      exact meet (blw xs 0 3) _ _ _ (by kernel_rfl) ⟨hu7,hT7,rfl,hz⟩ sbb
    ·refine WOp.val rfl rfl rfl rfl (OpR.call fn_quadformmake_Tape_Below rfl (below_specJ (m:=3) hX6 hT6 (by omega))) ?_
     rintro _ w7 ⟨hu7,hT7,rfl,hz⟩
     refine WA.one (i:=2) (by kernel_rfl) (WOp.val rfl rfl rfl rfl (RunsTo.load TBok rfl rfl rfl (hcv w7 hu7)).op ?_)
     rintro _ _ ⟨rfl,rfl⟩
     refine WA.take 3 rfl rfl (by kernel_rfl) (by kernel_rfl) (by kernel_rfl) (fun _ _ _ h=>h) rfl rfl (fun w=>RunsTo.ia) ?_
     simp only [Int.toNat_zero,addr_add,Nat.zero_add]
     refine WA.one (i:=4) (by kernel_rfl) (WOp.val rfl rfl rfl rfl (RunsTo.load TBok rfl rfl rfl (hcu w7 hu7)).op ?_)
     rintro _ _ ⟨rfl,rfl⟩
     exact meet (blw xs 0 3) _ _ _ (by kernel_rfl) ⟨hu7,hT7,rfl,hz⟩ sbb
  ·(iterate 9 try ((iterate 6 refine Nv ?_;try refine .r rfl ?_);first | refine .cT ?_ | refine .cF ?_))
   (iterate 6 refine Nv ?_;try refine .r rfl ?_)
   refine .s (OpR.call fn_quadformmake_chain rfl (chain_specJ (w:=w2) hn16)) ?_
   rintro V w3 ⟨hx3,rs,hM⟩
   obtain ⟨f,hfe⟩:∃ f,f=chF true n:=⟨_,rfl⟩
   rw [← hfe] at hM
   obtain ⟨g,cap,rfl,hg⟩:=hM.addr (by rw [mk_len];omega)
   rw [mk_len] at hM ⊢
   obtain ⟨a3,rr,ea,_,hrr,hc3⟩:=hM.rowAt (i:=n - 1) (by rw [mk_len];omega)
   cases ea
   refine .r rfl ?_
   refine Nv ?_
   refine St.sub (E':=[(5,.pointer (some ⟨w1.heap.size,0,none⟩)),(6,.int .i64 n),(7,.slice (some ⟨g,0,none⟩) n cap)]) ?_ sbb
   refine St.any TBfol rfl ?_
   intro w6 hx6 _ _
   have hX6:=(hx02.trans hx3).trans hx6
   have hT6:=(hT.ext hx3).ext hx6
   have hM6:=hM.ext hx6
   obtain ⟨C6,hC6⟩:=hT6.blk
   obtain ⟨g3,cap3,D,rfl,hg3,hB,hput⟩:=hM6.rowB hrr (mk_get (show n - 1<n by omega)) (by intro e;have:=congrArg List.length e;simp at this;omega)
   have hl:((List.range n).map (f (n - 1))).length=n:=by simp
   rw [hl] at hput hrr hc3
   have hcell:(((List.range n).map (f (n - 1))).map i64++D)[n - 1]?=some (.int .i64 (f (n - 1) (n - 1))):=by
    rw [List.getElem?_append_left (by simp;omega)]
    simp [show n - 1<n by omega]
   refine WA.takes (fuel:=8) TBok (by kernel_rfl) (fun _ _ _ _ _ h=>h) [0,1,2,5,6,9] (by kernel_rfl) rfl ?_
   rw [show IntKind.i64.wrap ((n:Int) - 1)=((n - 1:Nat):Int) from by rw [i64_id (by omega) (by omega)];omega]
   refine WA.take 3 rfl rfl (by kernel_rfl) (by kernel_rfl) (by kernel_rfl) (fun _ _ _ h=>h) rfl rfl (fun w=>RunsTo.ia) ?_
   refine WA.meet 3 #[true,true,true,true,true,true,true,true,true,true,true,false,false,false] (fun z:Nat=>[(5,.pointer (some ⟨w1.heap.size,0,none⟩)),(6,.int .i64 n),(7,.slice (some ⟨g,0,none⟩) n cap),(53,.slice (some ⟨g3,0,none⟩) n cap3),(55,.int .i64 ((n - 1:Nat):Int)),(57,.int .i64 (f (n - 1) (n - 1))),(59,.int .i64 z)]) (fun z w'=>Upd w1.heap.size w6 w'∧TapeJ w w' w1.heap.size sv xs 1∧z=blw xs 0 2∧z<2) ?_ ?_
   ·rintro z w7 ⟨hu7,hT7,hze,hz⟩
    have hfi:f (n - 1) (n - 1)=2:=by rw [hfe];exact if_pos rfl
    have hM7:MatW rs w2.heap.size w7 _ _:=MatR.updT hM6 hu7 hC6 (by decide) (by decide)
    obtain ⟨g4,cap4,D4,e4,hg4,hB4,hput4⟩:=hM7.rowB hrr (mk_get (show n - 1<n by omega)) (by intro e;have:=congrArg List.length e;simp at this;omega)
    rw [hl] at e4 hput4
    simp only [Value.slice.injEq,Option.some.injEq,Addr.mk.injEq,and_true,true_and] at e4
    obtain ⟨rfl,rfl⟩:=e4
    refine WA.takes (fuel:=2) TBok (by kernel_rfl) (fun _ _ _ _ _ h=>h) [11] (by kernel_rfl) rfl ?_
    refine WA.one (i:=12) (by kernel_rfl) (WOp.val rfl rfl rfl rfl (RunsTo.ia).op ?_)
    rintro _ _ ⟨rfl,rfl⟩
    simp only [Int.toNat_natCast,addr_add,Nat.zero_add]
    refine WA.one (i:=13) (by kernel_rfl) (WOp.eff rfl rfl rfl (OpR.store TBok (off:=n - 1) (vs:=[_]) rfl rfl rfl rfl rfl hB4 (by rw [List.length_append,List.length_map,hl];simp;omega) (by simp [Value.oneCell'])) ?_)
    rintro _ w8 ⟨hB8,hu8⟩
    refine WA.done (by kernel_rfl) ?_
    have hM8:=hput4 (n - 1) (IntKind.i64.wrap (f (n - 1) (n - 1)+z)) w8 (by omega) hu8 hB8
    rw [mk_set (show n - 1<n by omega) (show n - 1<n by omega)] at hM8
    refine Nv ?_
    refine Out.met (.slice (some ⟨g,0,none⟩) n cap) sbb ⟨(hX6.then_upd hu7 hx1.size).then_upd hu8 (by omega),hT7.upd hu8 hB4 (by decide),rs,?_⟩
    rw [i64_id (by omega) (by omega),hfi,hze,hfe] at hM8
    exact hM8
   ·intro meet
    have hcu:∀ w7,Upd w1.heap.size w6 w7→w7.cell? ⟨g3,n - 1,none⟩=some (.int .i64 (f (n - 1) (n - 1))):=fun w7 hu7=>hu7.cell (hB.cell hcell) (by show g3≠_;omega)
    have hcv:∀ w7,Upd w1.heap.size w6 w7→w7.cell? (Addr.add ⟨g,0,none⟩ (n - 1))=some (.slice (some ⟨g3,0,none⟩) n cap3):=fun w7 hu7=>hu7.cell (hx6.cell hc3) (by rw [addr_add_block];show g≠_;omega)
    refine WA.two (i:=4) (j:=10) (by kernel_rfl) ?_ ?_
    ·refine WOp.val rfl rfl rfl rfl (RunsTo.load TBok rfl rfl rfl (hcv w6 (Upd.refl _ _))).op ?_
     rintro _ _ ⟨rfl,rfl⟩
     refine WA.take 7 rfl rfl (by kernel_rfl) (by kernel_rfl) (by kernel_rfl) (fun _ _ _ h=>h) rfl rfl (fun w=>RunsTo.ia) ?_
     simp only [Int.toNat_natCast,addr_add,Nat.zero_add]
     refine WA.two (i:=8) (j:=10) (by kernel_rfl) ?_ ?_
     ·refine WOp.val rfl rfl rfl rfl (RunsTo.load TBok rfl rfl rfl (hcu w6 (Upd.refl _ _))).op ?_
      rintro _ _ ⟨rfl,rfl⟩
      refine WA.one (i:=10) (by kernel_rfl) (WOp.val rfl rfl rfl rfl (OpR.call fn_quadformmake_Tape_Below rfl (below_specJ (m:=2) hX6 hT6 (by omega))) ?_)
      rintro _ w7 ⟨hu7,hT7,rfl,hz⟩
      exact meet (blw xs 0 2) _ _ _ (by kernel_rfl) ⟨hu7,hT7,rfl,hz⟩ sbb
     ·refine WOp.val rfl rfl rfl rfl (OpR.call fn_quadformmake_Tape_Below rfl (below_specJ (m:=2) hX6 hT6 (by omega))) ?_
      rintro _ w7 ⟨hu7,hT7,rfl,hz⟩
      refine WA.one (i:=8) (by kernel_rfl) (WOp.val rfl rfl rfl rfl (RunsTo.load TBok rfl rfl rfl (hcu w7 hu7)).op ?_)
      rintro _ _ ⟨rfl,rfl⟩
      exact meet (blw xs 0 2) _ _ _ (by kernel_rfl) ⟨hu7,hT7,rfl,hz⟩ sbb
    ·refine WOp.val rfl rfl rfl rfl (OpR.call fn_quadformmake_Tape_Below rfl (below_specJ (m:=2) hX6 hT6 (by omega))) ?_
     rintro _ w7 ⟨hu7,hT7,rfl,hz⟩
     refine WA.one (i:=4) (by kernel_rfl) (WOp.val rfl rfl rfl rfl (RunsTo.load TBok rfl rfl rfl (hcv w7 hu7)).op ?_)
     rintro _ _ ⟨rfl,rfl⟩
     refine WA.take 7 rfl rfl (by kernel_rfl) (by kernel_rfl) (by kernel_rfl) (fun _ _ _ h=>h) rfl rfl (fun w=>RunsTo.ia) ?_
     simp only [Int.toNat_natCast,addr_add,Nat.zero_add]
     refine WA.one (i:=8) (by kernel_rfl) (WOp.val rfl rfl rfl rfl (RunsTo.load TBok rfl rfl rfl (hcu w7 hu7)).op ?_)
     rintro _ _ ⟨rfl,rfl⟩
     exact meet (blw xs 0 2) _ _ _ (by kernel_rfl) ⟨hu7,hT7,rfl,hz⟩ sbb
  ·(iterate 9 try ((iterate 6 refine Nv ?_;try refine .r rfl ?_);first | refine .cT ?_ | refine .cF ?_))
   (iterate 6 refine Nv ?_;try refine .r rfl ?_)
   refine .s (OpR.call fn_quadformmake_diagonal rfl (diagonal_specJ (m:=9) hx02 hT hn16 (by omega))) ?_
   rintro V w3 ⟨hu3,hx3,hT3,rs,hM⟩
   rw [Nat.zero_add] at hT3
   refine .r rfl ?_
   refine Nv ?_
   exact Out.met V sbb ⟨hx3,hT3,rs,hM⟩
  ·(iterate 9 try ((iterate 6 refine Nv ?_;try refine .r rfl ?_);first | refine .cT ?_ | refine .cF ?_))
   (iterate 6 refine Nv ?_;try refine .r rfl ?_)
   refine .s (OpR.call fn_quadformmake_diagonal rfl (diagonal_specJ (m:=1) hx02 hT hn16 (by omega))) ?_
   rintro V w3 ⟨hu3,hx3,hT3,rs,hM⟩
   rw [Nat.zero_add] at hT3
   refine .r rfl ?_
   refine Nv ?_
   exact Out.met V sbb ⟨hx3,hT3,rs,hM⟩
 ·rintro V w3 ⟨hx3,hT3,rs,hM⟩
  have hf:=gm0_bnd (kd % 8) n xs hn1.1
  (iterate 6 refine Nv ?_;try refine .r rfl ?_)
  refine .s (OpR.call fn_quadformmake_good rfl (good_spec hM.m64 hn1 hf)) ?_
  rintro _ w4 ⟨hx4,b,rfl,hb⟩
  cases b
  ·(iterate 6 refine Nv ?_;try refine .r rfl ?_)
   refine .cT ?_
   (iterate 6 refine Nv ?_;try refine .r rfl ?_)
   refine .s (OpR.call fn_quadformmake_diagonal rfl (diagonal_specJ (m:=2) (hx3.trans hx4) (hT3.ext hx4) hn16 (by omega))) ?_
   rintro V w5 ⟨hu5,hx5,hT5,rs5,hM5⟩
   rw [← hF.2 (fun h=>by cases hb.2 h)] at hM5
   (iterate 6 refine Nv ?_;try refine .r rfl ?_)
   exact Out.ret1 rfl rfl ⟨hx5,hM5.m64⟩
  ·have h1:=hF.1 (hb.1 rfl)
   rw [← h1] at hM
   (iterate 6 refine Nv ?_;try refine .r rfl ?_)
   refine .cF ?_
   (iterate 6 refine Nv ?_;try refine .r rfl ?_)
   exact Out.ret1 rfl rfl ⟨hx3.trans hx4,(hM.ext hx4).m64⟩
def LStep (n:Nat) (f f':Nat→Nat→Int):Prop:=(∃ i j g,StepR n f g i j∧f'=redZ (cR (RA f) i j) i j f)∨(∃ i g,StepS n f g i∧f'=swZ (i - 1) f)
inductive LRed (n:Nat) (f0:Nat→Nat→Int):(Nat→Nat→Int)→Prop
 | refl:LRed n f0 f0
 | step {f f':Nat→Nat→Int}:LRed n f0 f→LStep n f f'→LRed n f0 f'
theorem stepR_fun {n:Nat} {f g g':Nat→Nat→Int} {i j i' j':Nat} (h:StepR n f g i j) (k:StepR n f g' i' j'):i=i'∧j=j':=by
 obtain ⟨h1,h2,h3,h4,h5,_⟩:=h
 obtain ⟨k1,k2,k3,k4,k5,_⟩:=k
 have e:i=i':=by
  rcases Nat.lt_trichotomy i i' with e | e | e
  ·exact absurd (k3.1 i j e h1) h5
  ·exact e
  ·exact absurd (h3.1 i' j' e k1) k5
 subst e
 refine ⟨rfl,?_⟩
 rcases Nat.lt_trichotomy j j' with e | e | e
 ·exact absurd (h4 j' e k1) k5
 ·exact e
 ·exact absurd (k4 j e h1) h5
theorem stepS_fun {n:Nat} {f g g':Nat→Nat→Int} {i i':Nat} (h:StepS n f g i) (k:StepS n f g' i'):i=i':=by
 obtain ⟨h1,h2,h3,h4,h5,_⟩:=h
 obtain ⟨k1,k2,k3,k4,k5,_⟩:=k
 rcases Nat.lt_trichotomy i i' with e | e | e
 ·exact absurd (k3.2 i h1 e) h5
 ·exact e
 ·exact absurd (h3.2 i' k1 e) k5
theorem stepRS {n:Nat} {f g g':Nat→Nat→Int} {i j i':Nat} (h:StepR n f g i j) (k:StepS n f g' i'):False:=by
 obtain ⟨h1,h2,h3,h4,h5,_⟩:=h
 obtain ⟨k1,k2,k3,k4,k5,_⟩:=k
 rcases Nat.lt_trichotomy i i' with e | e | e
 ·exact h5 (k3.1 i j e h1)
 ·subst e
  exact h5 (k4 j h1)
 ·exact k5 (h3.2 i' k1 e)
theorem LStep.fun {n:Nat} {f a b:Nat→Nat→Int} (h:LStep n f a) (k:LStep n f b):a=b:=by
 rcases h with ⟨i,j,g,h,rfl⟩ | ⟨i,g,h,rfl⟩ <;> rcases k with ⟨i',j',g',k,rfl⟩ | ⟨i',g',k,rfl⟩
 ·obtain ⟨rfl,rfl⟩:=stepR_fun h k
  rfl
 ·exact absurd (stepRS h k) id
 ·exact absurd (stepRS k h) id
 ·obtain rfl:=stepS_fun h k
  rfl
theorem LStep.not {n:Nat} {f a:Nat→Nat→Int} (h:LStep n f a) (hr:RdP n (RA f)):False:=by
 rcases h with ⟨i,j,g,h,_⟩ | ⟨i,g,h,_⟩
 ·exact h.2.2.2.2.1 (hr.1 i j h.2.1 h.1)
 ·exact h.2.2.2.2.1 (hr.2 i h.1 h.2.1)
theorem LRed.inv {n:Nat} {f0 f:Nat→Nat→Int} (h:LRed n f0 f):f=f0∨∃ f1,LStep n f0 f1∧LRed n f1 f:=by
 induction h with
 | refl=>exact .inl rfl
 | step h hs ih =>
  rename_i a b
  rcases ih with e | ⟨f1,h1,h2⟩
  ·rw [e] at hs
   exact .inr ⟨b,hs,.refl⟩
  ·exact .inr ⟨f1,h1,.step h2 hs⟩
theorem LRed.past {n:Nat} {f0 a b:Nat→Nat→Int} (h:LRed n f0 a) (k:LRed n f0 b) (hb:RdP n (RA b)):LRed n a b:=by
 induction h with
 | refl=>exact k
 | step _ hs ih =>
  rcases ih.inv with e | ⟨f1,h1,h2⟩
  ·rw [← e] at hs
   exact absurd (hs.not hb) id
  ·rw [hs.fun h1]
   exact h2
theorem LRed.one {n:Nat} {f0 a b:Nat→Nat→Int} (h:LRed n f0 a) (ha:RdP n (RA a)) (k:LRed n f0 b) (hb:RdP n (RA b)):a=b:=by
 rcases (h.past k hb).inv with e | ⟨f1,h1,_⟩
 ·exact e.symm
 ·exact absurd (h1.not ha) id
set_option maxHeartbeats 3200000 in
theorem reduce_specJ {w:World} {v:Value} {n:Nat} {f0:Nat→Nat→Int} (h:MI w v (mk n n f0)) (hn:1≤n∧n≤8) (hsym:∀ p q,f0 p q=f0 q p) (hpos:Pos n (RA f0)) (hdet:dd (RA f0) n≤10000) (hM:∀ q,q<n→RA f0 q q≤9) :
  Calls Tryz.prog 36 #[v] w (Ret fun x w'=>Ext w w'∧∃ u t f,x=.tuple #[u,t,.int .i64 0]∧M64 w' u (mk n n f)∧RedF n f∧LRed n f0 f):=by
 have hn16:1≤n∧n≤16:=⟨hn.1,by omega⟩
 have hS:Sym (RA f0):=fun p q=>by unfold RA;rw [hsym p q]
 have hpd:PD n f0:=fun m h1 h2=>hpos m h2
 have hL0:Lat n f0 DmC:=⟨hsym,hpos,fun k hk=>by
  have h1:=dd_pw hS hpos (M:=9) (by decide) hM k hk
  have h2:=pw_mono (F:=9) (by decide) (show k≤8 by omega)
  have h3:pw 9 8≤DmC:=by decide +kernel
  grind⟩
 have hnQ:(n:Rat)≤8:=by exact_mod_cast hn.2
 have hD0:(0:Rat)≤DmC:=by decide +kernel
 have hKe:8 * DmC=KC:=by decide +kernel
 have hnK:(n:Rat) * DmC≤KC:=by
  have:=Rat.mul_nonneg (show 0≤8 - (n:Rat) by grind) hD0
  grind
 have hFn:2+8 * DmC * ((n:Rat) * DmC)≤FC:=by
  have:=mul_le' (show 0≤8 * DmC by grind) hnK
  unfold FC
  grind
 have hK1:1≤KC:=by decide +kernel
 have hF1:1≤FC:=by decide +kernel
 have hK9:(9:Rat)≤KC:=by decide +kernel
 have hH:KC * pw FC n≤KC * pw FC 8:=mul_le' (by grind) (pw_mono hF1 hn.2)
 have hHp:1≤KC * pw FC n:=by
  have:=mul_le' (show 0≤KC by grind) (pw_one hF1 n)
  grind
 have szf:∀ {f T:Nat→Nat→Int} {i j:Nat},LSt n f0 DmC KC FC f T i j→∀ a b,a<n→b<n→sz (f a b)≤16:=by
  intro f T i j hl a b ha hb
  exact sz_of (hl.ent_le hK1 hF1 ha hb) (by have:=fC_lt;grind)
 have szT:∀ {f T:Nat→Nat→Int} {i j:Nat},LSt n f0 DmC KC FC f T i j→∀ a b,a<n→b<n→sz (T a b)≤24:=by
  intro f T i j hl a b ha hb
  exact sz_of (hl.T_le hL0 hK1 hF1 hM (by decide) hb ha) (tC_lt n (by omega))
 have sz0:∀ a b,a<n→b<n→sz (f0 a b)≤16:=szf (LSt.init hL0 (by omega) (fun q hq=>by have:=hM q hq;grind))
 have h256:2 ^ n≤256:=Nat.pow_le_pow_right (by omega) (show n≤8 by omega)
 have hb1:2 ^ n * (16+1)≤40000:=Nat.le_trans (Nat.mul_le_mul_right _ h256) (by decide)
 have hb2:2 ^ n * (16+1)≤100000:=by omega
 obtain ⟨a,cap,hv,_⟩:=h.mp hn.1 hn.1
 refine calls_of_St (args:=[_]) Tryz.func36 rfl Tryz.ntmps36 rfl ?_
 (iterate 6 refine Nv ?_;try refine .r rfl ?_)
 refine .s (OpR.call fn_r07_Validate rfl (validate_spec h hn16 hn16 sz0 (by omega) (by omega))) ?_
 rintro _ w1 ⟨hx1,e,rfl,hev⟩
 obtain rfl:=hev.2 ⟨rfl,hn.2,fun i j _ _=>hsym i j,hpd⟩
 (iterate 6 refine Nv ?_;try refine .r rfl ?_)
 refine .cF ?_
 (iterate 6 refine Nv ?_;try refine .r rfl ?_)
 refine .s (OpR.call fn_r08_small rfl (rsmallD_spec (h.ext hx1) hn16 sz0 (by omega) hb2 hpd)) ?_
 rintro _ w2 ⟨hx2,b,rfl,hbs⟩
 obtain rfl:=hbs.2 hdet
 (iterate 6 refine Nv ?_;try refine .r rfl ?_)
 refine .cF ?_
 (iterate 6 refine Nv ?_;try refine .r rfl ?_)
 refine .s (OpR.call fn_r03_Copy rfl (copy_spec (base:=0) (h.ext (hx1.trans hx2)) hn16 hn16 (Nat.zero_le _))) ?_
 rintro hv3 w3 ⟨hx3,rs3,hC3⟩
 subst hv
 (iterate 6 refine Nv ?_;try refine .r rfl ?_)
 refine .s (OpR.call fn_r03_Identity rfl (identity_spec (base:=0) w3 n hn16 (Nat.zero_le _))) ?_
 rintro _ w4 ⟨hx4,t4,rs4,rfl,hT4⟩
 have hx04:=((hx1.trans hx2).trans hx3).trans hx4
 (iterate 6 refine Nv ?_;try refine .r rfl ?_)
 refine St.loop (α:=Value×Value×(Nat→Nat→Int)×(Nat→Nat→Int)×Nat×Nat) (fun g=>[(6,g.1),(7,g.2.1)])
  (fun g w'=>Ext w w'∧MI w' g.1 (mk n n g.2.2.1)∧MI w' g.2.1 (mk n n g.2.2.2.1)∧LSt n f0 DmC KC FC g.2.2.1 g.2.2.2.1 g.2.2.2.2.1 g.2.2.2.2.2∧LRed n f0 g.2.2.1) (fun g=>lmu n g.2.2.1 g.2.2.2.2.1 g.2.2.2.2.2) (hv3,t4,f0,idF,0,0) sbb ?_ ?_
 ·have hi:=LSt.init (F:=FC) hL0 (by omega) (fun q hq=>by have:=hM q hq;exact Rat.le_trans this hK9)
  exact ⟨hx04,(hC3.ext hx4).mi (mi_sz (szf hi) (by omega)),hT4.mi (mi_sz (szT hi) (by omega)),hi,.refl⟩
 ·clear hx04 hx4 hx3 hx2 hx1 hT4 hC3
  rintro ⟨hv,tv,f,T,i,j⟩ w5 ⟨hx5,hH5,hT5,hl,hLR⟩
  dsimp only at hH5 hT5 hl hLR ⊢
  have hpdf:PD n f:=fun m h1 h2=>hl.lat.pos m h2
  (iterate 6 refine Nv ?_;try refine .r rfl ?_)
  refine .s (OpR.call fn_r08_step rfl (step_spec hH5 hn16 (szf hl) (by omega) hb1 hpdf)) ?_
  rintro _ w6 ⟨hx6,⟨hrd,rfl⟩ | ⟨u,rs,g,rfl,hU,hstep⟩⟩
  ·(iterate 6 refine Nv ?_;try refine .r rfl ?_)
   refine .cT ?_
   (iterate 6 refine Nv ?_;try refine .r rfl ?_)
   refine .s (OpR.call fn_r03_ToInts rfl (toInts_spec (hH5.ext hx6) hn16 (fun a b ha hb=>?_))) ?_
   ·have h1:=hl.fin hrd ha hb
    have h2:KC≤9223372036854775807:=by decide +kernel
    have h3:(f a b:Rat)≤((9223372036854775807:Int):Rat):=by unfold RA at h1;exact Rat.le_trans h1.1 (Rat.le_trans hnK h2)
    have h4:((-9223372036854775808:Int):Rat)≤(f a b:Rat):=by
     unfold RA at h1
     have h5:((-9223372036854775808:Int):Rat)≤-KC:=by decide +kernel
     have:=h1.2
     grind
    exact ⟨Rat.intCast_le_intCast.1 h4,Rat.intCast_le_intCast.1 h3⟩
   ·rintro _ w7 ⟨hx7,u,rfl,hm⟩
    (iterate 6 refine Nv ?_;try refine .r rfl ?_)
    exact Out.rets TBok [_,_,_] rfl ⟨rfl,rfl,rfl,trivial⟩ ⟨(hx5.trans hx6).trans hx7,u,tv,f,rfl,hm,⟨hl.lat.sym,hl.lat.pos,by rw [hl.det];exact hdet,hrd⟩,hLR⟩
  ·have hsg:∀ a b,a<n→b<n→sz (g a b)≤17:=by
    intro a b ha hb
    rcases hstep with ⟨i',j',h1,h2,_,_,hns,rfl⟩ | ⟨i',h1,h2,_,_,_,rfl⟩
    ·unfold upd2
     split
     ·have hc:=hl.lat.c_sq h1 h2 hns
      have hle:=(hl.ent_le hK1 hF1 h2 h2).1
      have a1:=Rat.mul_nonneg (show 0≤KC * pw FC n - RA f i' i' by grind) hD0
      have a2:=Rat.mul_nonneg (show 0≤KC * pw FC 8 - KC * pw FC n by grind) hD0
      have hD1:(1:Rat)≤DmC:=by decide +kernel
      have a3:=Rat.mul_nonneg (show 0≤KC * pw FC 8 - 1 by grind) (show 0≤DmC by grind)
      exact sz_of (abs_sq (Y:=4 * (KC * pw FC 8 * DmC)) (by grind) (by grind)) cC_lt
     ·exact sz_idF _ _
    ·exact sz_idF _ _
   have hU':MI w6 u (mk n n g):=hU.mi (mi_sz hsg (by omega))
   (iterate 6 refine Nv ?_;try refine .r rfl ?_)
   refine .cF ?_
   (iterate 6 refine Nv ?_;try refine .r rfl ?_)
   refine .s (OpR.call fn_r07_Congruent rfl (congruent_spec (base:=0) (hH5.ext hx6) hU' hn16 (szf hl) hsg (by omega) (Nat.zero_le _))) ?_
   rintro u7 w7 ⟨hx7,rs7,hC7⟩
   refine .r rfl ?_
   refine .s (OpR.call fn_r03_Product rfl (productM_spec (base:=0) ((hT5.ext hx6).ext hx7) (hU'.ext hx7) hn16 hn16 hn16 (szT hl) hsg (by omega) (Nat.zero_le _))) ?_
   rintro u8 w8 ⟨hx8,rs8,hC8⟩
   have hx08:=((hx5.trans hx6).trans hx7).trans hx8
   replace hC7:MatC rs7 0 w8 u7 (mk n n (conF n f g)):=hC7.ext hx8
   (iterate 6 refine Nv ?_;try refine .r rfl ?_)
   rcases hstep with ⟨i',j',hst⟩ | ⟨i',hst⟩
   ·obtain ⟨hl2,he,hdec⟩:=hl.red hnK hFn hst
    rw [he] at hC7
    refine Out.again (u7,u8,redZ (cR (RA f) i' j') i' j' f,mulF n T g,i',j') sbb ⟨hx08,hC7.mi (mi_sz (szf hl2) (by omega)),hC8.mi (mi_sz (szT hl2) (by omega)),hl2,.step hLR (.inl ⟨i',j',g,hst,rfl⟩)⟩ ?_
    have hj1:=hl.ji
    have hi1:=hl.hi
    show lmu n _ i' j'<lmu n f i j
    unfold lmu
    rw [dsum_red hl.lat hst.1 hst.2.1]
    have:=lmu_pos (n:=n) (show j≤n by omega) (show j'≤n by have:=hst.1;have:=hst.2.1;omega) hst.2.1 hdec
    omega
   ·obtain ⟨hl2,he,hdec⟩:=hl.sw hnK hst
    rw [he] at hC7
    refine Out.again (u7,u8,swZ (i' - 1) f,mulF n T g,0,0) sbb ⟨hx08,hC7.mi (mi_sz (szf hl2) (by omega)),hC8.mi (mi_sz (szT hl2) (by omega)),hl2,.step hLR (.inr ⟨i',g,hst,rfl⟩)⟩ ?_
    show lmu n _ 0 0<lmu n f i j
    exact lmu_lt (Nat.zero_le _) hdec
theorem form_one (d kd most:Nat) (xs:List Int) (hm:1≤most∧most≤8):∃ n f0,1≤n∧n≤most∧∀ w v,LatX w v d kd xs →
  Calls Tryz.prog 13 #[v,.int .i64 most] w (Ret fun x w'=>Ext w w'∧∃ f,M64 w' x (mk n n f)∧RedF n f∧LRed n f0 f):=by
 have hn8:1≤1+d % most∧1+d % most≤most:=by have:=Nat.mod_lt d (show 0<most by omega);omega
 obtain ⟨F,hF,hb,hFm,hdet⟩:=gmF_ex (kd % 8) (1+d % most) xs (by omega)
 obtain ⟨n,hnd⟩:∃ n,n=1+d % most:=⟨_,rfl⟩
 rw [← hnd] at hF hb hFm hdet hn8
 obtain ⟨hn1,hn2⟩:=hn8
 have hn16:1≤n∧n≤16:=by omega
 obtain ⟨f',e,hsym,hRA⟩:=form_full hFm
 have hpos:Pos n (RA f'):=by
  intro m hm'
  rw [dd_congr hRA m hm']
  by_cases e0:m=0
  ·subst e0;show (0:Rat)<1;decide
  ·exact hFm.2 m (by omega) hm'
 refine ⟨n,f',hn1,hn2,fun w v h=>?_⟩
 have hV:=h
 obtain ⟨s1,s2,rfl,hd,hk,hL,hs2⟩:=h
 refine calls_of_St (args:=[_,_]) Tryz.func13 rfl Tryz.ntmps13 rfl ?_
 refine Nv ?_
 refine .s (OpR.box rfl) ?_
 rintro _ w1 ⟨rfl,B1,hx1,hz1⟩
 (iterate 6 refine Nv ?_;try refine .r rfl ?_)
 refine .p (RunsTo.loadAgg TBok (cs:=[.int .u8 d,.int .u8 kd,s1,s2]) rfl rfl rfl B1 (Nat.le_refl 4) rfl) ?_
 refine .r rfl ?_
 refine .s (OpR.call fn_quadformmake_Lattice_Gram rfl (gram_specJ (hV.ext hx1) hm hnd hF)) ?_
 rintro G w2 ⟨hx2,hM⟩
 refine .s (OpR.call fn_r03_Of rfl (of_mk (base:=0) hM hn16 hb (by decide) (Nat.zero_le _))) ?_
 rintro A w3 ⟨hx3,hMI⟩
 rw [← e] at hMI
 refine .s (OpR.call fn_r08_Reduce rfl (reduce_specJ hMI ⟨hn1,by omega⟩ hsym hpos (by rw [dd_congr hRA n (Nat.le_refl _)];exact hdet) (fun q hq=>by rw [hRA q q hq hq];unfold RA;have:=(hb q q hq hq).2;exact_mod_cast this))) ?_
 rintro _ w4 ⟨hx4,u,t,f4,rfl,hM4,hR,hLR⟩
 (iterate 6 refine Nv ?_;try refine .r rfl ?_)
 exact Out.ret1 rfl rfl ⟨((hx1.trans hx2).trans hx3).trans hx4,f4,hM4,hR,hLR⟩
set_option maxHeartbeats 3200000 in
theorem lawStepsAny (w:World) (hv:Value) (M:List (List Int)) (hM:M64 w hv M) (hb:M64b M) (hMm:M.length≤maxLen) (B:Int) (hB:-9223372036854775808≤B∧B≤9223372036854775807) (b:Int) (hbb:-9223372036854775808≤b∧b≤9223372036854775807) (v:Value) (hV:LatV w v) :
  Calls Tryz.prog 11 #[hv,.int .i64 B,.int .i64 b,v] w (Ret fun r w'=>Ext w w'∧r=.bool true):=by
 obtain ⟨d,kd,xs,hX⟩:=hV.x
 obtain ⟨n,f0,hn1,hn3,hForm⟩:=form_one d kd 3 xs (by omega)
 obtain ⟨a0,a1,a2,a3,rfl⟩:=hV.agg
 obtain ⟨ph,ch,e⟩:=hM.len
 subst e
 unfold maxLen at hMm
 refine calls_of_St (args:=[_,_,_,_]) Tryz.func11 rfl Tryz.ntmps11 rfl ?_
 refine Nv ?_
 refine .s (OpR.box rfl) ?_
 rintro _ w1 ⟨rfl,B1,hx1,hz1⟩
 refine .r rfl ?_
 refine Nv ?_
 by_cases h1:M.length > 20
 ·refine .a 3 (.bool true) rfl (bool_true (by omega)) ?_
  (iterate 6 refine Nv ?_;try refine .r rfl ?_)
  refine .cT ?_
  refine Nv ?_
  refine StL.awk10 rfl rfl ?_
  intro wz hxz
  (iterate 6 refine Nv ?_;try refine .r rfl ?_)
  exact Out.ret1 rfl rfl ⟨hx1.trans hxz,rfl⟩
 refine .a 3 (.bool false) rfl (bool_false (by omega)) ?_
 obtain ⟨e0,zs0,_,hone0⟩:=steps_one M B b (by omega)
 replace hX:=hX.ext hx1
 replace hM:=hM.ext hx1
 (iterate 6 refine Nv ?_;try refine .r rfl ?_)
 refine .cF ?_
 (iterate 6 refine Nv ?_;try refine .r rfl ?_)
 refine .s (OpR.call fn_schur_Steps rfl (schurSteps_spec hM (by omega))) ?_
 rintro x w2 ⟨hx2,hS⟩
 obtain ⟨a,rfl,_⟩:=hone0 w2 x hS
 replace hX:=hX.ext hx2
 replace hM:=hM.ext hx2
 replace B1:=B1.ext hx2
 replace hx1:=hx1.trans hx2
 clear hx2
 (iterate 6 refine Nv ?_;try refine .r rfl ?_)
 refine .s (OpR.call fn_r10_Steps rfl (rSteps_spec hM hb)) ?_
 rintro x w3 ⟨hx3,hS⟩
 obtain ⟨a,rfl,_⟩:=hone0 w3 x hS
 replace hX:=hX.ext hx3
 replace B1:=B1.ext hx3
 replace hx1:=hx1.trans hx3
 clear hx3
 clear hM hone0
 refine .r rfl ?_
 refine Nv ?_
 refine .a 3 (.bool false) rfl (by rw [bne_self_eq_false]) ?_
 (iterate 6 refine Nv ?_;try refine .r rfl ?_)
 refine .cF ?_
 (iterate 6 refine Nv ?_;try refine .r rfl ?_)
 refine .s (OpR.quad TBok rfl rfl rfl rfl rfl rfl rfl) ?_
 rintro _ w4 ⟨rfl,B4,hx4,_⟩
 replace hX:=hX.ext hx4
 replace B1:=B1.ext hx4
 replace hx1:=hx1.trans hx4
 clear hx4
 have hcell:∀ i:Nat,i<4→w4.cell? (Addr.add ⟨w3.heap.size,0,none⟩ i)=some (.int .i64 ([B,-1,4611686018427387904,4611686018427387905].getD i 0)):=by
  intro i hi
  rw [addr_add,Nat.zero_add]
  match i,hi with
  | 0,_=>exact B4.cell rfl
  | 1,_=>exact B4.cell rfl
  | 2,_=>exact B4.cell rfl
  | 3,_=>exact B4.cell rfl
 generalize w3.heap.size=q4 at *
 (iterate 6 refine Nv ?_;try refine .r rfl ?_)
 refine St.rng TBok (41) (0) (4) (by omega) [(2,.int .i64 b),(7,.pointer (some ⟨w.heap.size,0,none⟩)),(39,.slice (some ⟨q4,0,none⟩) 4 4),(40,.int .i64 ((4:Nat):Int))] (fun i w'=>Ext w4 w') sbb ?_ (fun _=>⟨rfl,rfl⟩) (fun _=>rfl) (fun _=>⟨rfl,rfl⟩) rfl rfl (by omega) ?_ ?_
 ·exact Ext.refl _
 ·rintro i w5 hi hx5
  generalize hBi:[B,-1,4611686018427387904,4611686018427387905].getD i 0=Bi
  have hci:=hcell i hi
  rw [hBi] at hci
  refine Nv ?_
  refine .p (RunsTo.ia) ?_
  refine .p (RunsTo.load TBok rfl rfl rfl (hx5.cell hci)) ?_
  (iterate 6 refine Nv ?_;try refine .r rfl ?_)
  refine .p (RunsTo.remT rfl rfl (by decide)) ?_
  generalize b.tmod 1000=bm
  refine .s (OpR.trip TBok rfl rfl rfl rfl rfl rfl) ?_
  rintro _ w6 ⟨rfl,B6,hx6,_⟩
  have hx46:=hx5.trans hx6
  have hcell6:∀ j:Nat,j<3→w6.cell? (Addr.add ⟨w5.heap.size,0,none⟩ j)=some (.int .i64 ([bm,-1,1000001].getD j 0)):=by
   intro j hj
   rw [addr_add,Nat.zero_add]
   match j,hj with
   | 0,_=>exact B6.cell rfl
   | 1,_=>exact B6.cell rfl
   | 2,_=>exact B6.cell rfl
  generalize w5.heap.size=q6 at *
  (iterate 6 refine Nv ?_;try refine .r rfl ?_)
  refine St.rng TBok (49) (0) (3) (by omega) [(41,.int .i64 i),(2,.int .i64 b),(7,.pointer (some ⟨w.heap.size,0,none⟩)),(39,.slice (some ⟨q4,0,none⟩) 4 4),(40,.int .i64 ((4:Nat):Int)),(14,.int .i64 Bi),(47,.slice (some ⟨q6,0,none⟩) 3 3),(48,.int .i64 ((3:Nat):Int))] (fun j w'=>Ext w6 w') sbb ?_ (fun _=>⟨rfl,rfl⟩) (fun _=>rfl) (fun _=>⟨rfl,rfl⟩) rfl rfl (by omega) ?_ ?_
  ·exact Ext.refl _
  ·rintro j w7 hj hx7
   have hx47:=hx46.trans hx7
   generalize hbj:[bm,-1,1000001].getD j 0=bj
   have hcj:=hcell6 j hj
   rw [hbj] at hcj
   refine Nv ?_
   refine .p (RunsTo.ia) ?_
   refine .p (RunsTo.load TBok rfl rfl rfl (hx7.cell hcj)) ?_
   (iterate 6 refine Nv ?_;try refine .r rfl ?_)
   refine .p (RunsTo.loadAgg TBok (cs:=[a0,a1,a2,a3]) rfl rfl rfl (B1.ext hx47) (Nat.le_refl 4) rfl) ?_
   refine .s (OpR.call fn_quadformmake_Lattice_Form rfl (hForm _ _ (hX.ext hx47))) ?_
   rintro G w8 ⟨hx8,f,hG,hR,hLR⟩
   obtain ⟨e1,zs1,_,hone1⟩:=steps_one (mk n n f) Bi bj (by rw [mk_len];omega)
   have hx78:=hx7.trans hx8
   have hx48:=hx47.trans hx8
   refine .r rfl ?_
   refine .s (OpR.call fn_schur_Steps rfl (schurSteps_spec hG (by rw [mk_len];omega))) ?_
   rintro x w9 ⟨hx9,hS⟩
   obtain ⟨a,rfl,_⟩:=hone1 w9 x hS
   replace hx78:=hx78.trans hx9
   replace hx48:=hx48.trans hx9
   clear hx9
   (iterate 6 refine Nv ?_;try refine .r rfl ?_)
   refine .p (RunsTo.loadAgg TBok (cs:=[a0,a1,a2,a3]) rfl rfl rfl (B1.ext hx48) (Nat.le_refl 4) rfl) ?_
   refine .s (OpR.call fn_quadformmake_Lattice_Form rfl (hForm _ _ (hX.ext hx48))) ?_
   rintro G2 w10 ⟨hx10,f2,hG2,hR2,hLR2⟩
   obtain rfl:f=f2:=hLR.one hR.rd hLR2 hR2.rd
   replace hx78:=hx78.trans hx10
   clear hx10
   refine .r rfl ?_
   refine .s (OpR.call fn_r10_Steps rfl (rSteps_spec hG2 (redF_m64b hR (by omega)))) ?_
   rintro x w11 ⟨hx11,hS⟩
   obtain ⟨a,rfl,_⟩:=hone1 w11 x hS
   refine .r rfl ?_
   refine Nv ?_
   refine .a 3 (.bool false) rfl (by rw [bne_self_eq_false]) ?_
   (iterate 6 refine Nv ?_;try refine .r rfl ?_)
   refine .cF ?_
   refine Nv ?_
   exact Out.rnd sbb (hx78.trans hx11)
  ·rintro w7 hx7
   refine Nv ?_
   exact Out.rnd sbb (hx46.trans hx7)
 ·rintro w5 hx5
  refine Nv ?_
  refine StL.awk10 rfl rfl ?_
  intro wz hxz
  (iterate 6 refine Nv ?_;try refine .r rfl ?_)
  exact Out.ret1 rfl rfl ⟨(hx1.trans hx5).trans hxz,rfl⟩
end Go.Qf
namespace Go.Qf
open Go Go.Proofs
theorem strip_cut (rest : List (List Char)) : stripLifts liftWords ("cut".toList :: rest) = ([], "cut".toList :: rest) := by kernel_rfl
theorem cutGc : ("cut".toList == "gc".toList) = false := by kernel_rfl
theorem cutSpec : ("cut".toList == "spec".toList) = false := by kernel_rfl
theorem cutCarried : ("cut".toList == "carried".toList) = false := by kernel_rfl
theorem cutCut : ("cut".toList == "cut".toList) = true := by kernel_rfl
section
variable {P : Program} {rest : List (List Char)} (h : behindMainWord (wordsSigns P.initOrder.toList) = "cut".toList :: rest)
include h
theorem make_of:P.make=some .cut:=by
 unfold Program.make
 rw [h]
 simp only [cutGc,cutSpec,cutCut,Bool.or_self,Bool.true_or,if_true,Bool.false_eq_true,if_false]
theorem heads_of:P.headLifts=[]:=by
 unfold Program.headLifts
 rw [h]
 simp only [strip_cut,ite_self]
theorem final_of:P.liftsFinal=false:=by
 unfold Program.liftsFinal
 rw [heads_of h]
 rw [h]
 simp only [List.head?_cons,Option.some_beq_some,cutCarried,Bool.false_and,List.contains_nil,Bool.or_false]
theorem enter_of (h1:P.laysLater=false) (h2:P.bearsReflect=false) (h3:P.doorFits []=true):P.mayEnter=true:=by
 unfold Program.mayEnter
 rw [h]
 simp only [strip_cut,h1,h2,h3,List.head?_cons,Option.some_beq_some,cutCut,Bool.not_false,Bool.or_true,Bool.and_true,List.contains_nil]
end
theorem words_of {P : Program} (h : (behindMainWord (wordsSigns P.initOrder.toList)).head? = some "cut".toList) : ∃ rest, behindMainWord (wordsSigns P.initOrder.toList) = "cut".toList :: rest := by
 generalize behindMainWord (wordsSigns P.initOrder.toList)=ws at h
 cases ws with
 | nil=>cases h
 | cons c r=>exact ⟨r,by simp only [List.head?_cons,Option.some.injEq] at h;rw [h]⟩
set_option maxRecDepth 100000 in
theorem wordsCut : (behindMainWord (wordsSigns Tryz.prog.initOrder.toList)).head? = some "cut".toList := by
 rw [show Tryz.prog.initOrder.toList=_ from String.toList_ofList]
 kernel_rfl
theorem laysNot:Tryz.prog.laysLater=false:=by kernel_rfl
theorem reflNot:Tryz.prog.bearsReflect=false:=by kernel_rfl
theorem doorOk:Tryz.prog.doorFits []=true:=by kernel_rfl
theorem enterOk:Tryz.prog.mayEnter=true:=by
 obtain ⟨rest,h⟩:=words_of wordsCut
 exact enter_of h laysNot reflNot doorOk
theorem finalNo:Tryz.prog.liftsFinal=false:=by
 obtain ⟨rest,h⟩:=words_of wordsCut
 exact final_of h
theorem makeCut:Tryz.prog.make=some .cut:=by
 obtain ⟨rest,h⟩:=words_of wordsCut
 exact make_of h
end Go.Qf
