/- Lemmas on the model and on the program's functions, part Ztd. -/
import GoSem.Core.View
import Derived.WalkKit
import Derived.Deep.Quiet
import Derived.Deep.LoopGhost
import Derived.KernelRfl
import Derived.Test.YtlhbkhjaajcfgaaGreatProg
import Derived.Laws.BytesString
import Derived.Laws.RangeString
import Derived.Lib.OthersKept
import Derived.Laws.Strings
import Derived.ProofKit
import Derived.OpenShut
import Derived.Lib.SmallJoins
import Derived.Carry
import Derived.ChangeMaps5
import Derived.Maps.AppendAt
import Derived.Laws.Externs
import Derived.Lib.Bytealg
import Derived.ChangeArms
import Derived.Laws.OwnMore
import Derived.Scope
import Derived.RangeFuncLeaves
import Derived.RangeFuncRecord
import Derived.TacticsIn
import Derived.OrdersIn
import Derived.Test.YtlhbkhjaajcfgaaGreatRows
import Derived.Test.YtlhbkhjaajcfgaaGreatZta
import Derived.Test.YtlhbkhjaajcfgaaGreatZtb
import Derived.Test.YtlhbkhjaajcfgaaGreatZtc
set_option linter.unusedVariables false
set_option linter.unusedSimpArgs false
namespace Go.Qf
open Go Go.RowKit Go.Proofs
set_option maxRecDepth 20000
def zI:Value:=IntV false (.slice none 0 0)
theorem flat_rep (m:Nat):(List.range (m * 2)).map (fun x=>(#[.bool false,.slice none 0 0]:Array Value)[x % 2]!)=flat (List.replicate m zI):=by
 induction m with
 | zero=>rfl
 | succ m ih =>
  have e:flat (List.replicate (m+1) zI)=flat (List.replicate m zI)++[.bool false,.slice none 0 0]:=by
   unfold flat
   rw [List.replicate_succ',List.flatMap_append]
   rfl
  rw [e,← ih,show (m+1) * 2=m * 2+1+1 by omega,List.range_succ,List.range_succ,List.map_append,List.map_append,List.append_assoc]
  congr 1
  have h0:m * 2 % 2=0:=by omega
  have h1:(m * 2+1) % 2=1:=by omega
  simp only [List.map_cons,List.map_nil,h0,h1]
  rfl
theorem OpR.makeI {n:Nat} {E:List (Nat×Value)} {w:World} {d:Option Tmp} {x y:Operand} {ty:TypeId} {pos:String} {af:Array Edge} {g:Option (Nat×Bool)} {k k':IntKind} {iv jv:Int} (m:Nat)
  (hx:ov E x=some (.int k iv)) (hiv:iv=m) (hy:ov E y=some (.int k' jv)) (hjv:jv=m) (hm:m≤1000000) :
  OpR Tryz.prog n ⟨d,.makeSlice 45 x y,ty,pos,af,g⟩ E w (fun v w'=>v=.slice (some ⟨w.heap.size,0,none⟩) m m∧Blk 31 w' w.heap.size (flat (List.replicate m zI))∧Ext w w'∧w'.heap.size=w.heap.size+1):=by
 intro a ha Q K hK
 subst hiv hjv
 obtain ⟨_,inf,hi,hsize,hby,hzero⟩:=TBok 31 _ rfl
 have hU:=run_underlying_T (P:=Tryz.prog) (w:=w) TBok (t:=45) rfl
 have hS:=run_sizeOf_T (P:=Tryz.prog) (w:=w) TBok (t:=31) rfl
 dsimp only at hby hzero hU hS
 have e1:=ha.eval hx
 have e2:=ha.eval hy
 have hw:IntKind.i64.wrap (m:Int)=m:=i64_id (by omega) (by omega)
 have hc1:¬ ((decide (((m:Nat):Int)<0) || decide (((32:Nat):Int) * ((m:Nat):Int) > 2 ^ 48) || decide (((m:Nat):Int)<0) || decide (((m:Nat):Int) > ((m:Nat):Int)))=true):=by
  simp only [Bool.or_eq_true,decide_eq_true_eq]
  omega
 have hroom:¬ (m * 32 > roomBytes):=by unfold roomBytes;omega
 have hcells:((Array.range (m * 2)).map (fun x=>(#[.bool false,.slice none 0 0]:Array Value)[x % 2]!))=(flat (List.replicate m zI)).toArray:=by
  rw [← flat_rep]
  apply Array.ext'
  simp [Array.toList_range]
 have hrun:(execOp a.eval ⟨d,.makeSlice 45 x y,ty,pos,af,g⟩).run Tryz.prog w=.ok (.value (.slice (some ⟨w.heap.size,0,none⟩) m m)) (w.alloc (.cells (flat (List.replicate m zI)).toArray 31 (0,0))):=by
  generalize a.eval=ρ at e1 e2
  have hmk:(Instr.makeSlice 45 (.int k m) (.int k' m)).run Tryz.prog w=.ok (.slice (some ⟨w.heap.size,0,none⟩) m m) (w.alloc (.cells (flat (List.replicate m zI)).toArray 31 (0,0))):=by
   unfold Instr.makeSlice
   simp only [Sem.run_bind,hU,Result.andThen_ok,asInt,asIntOf,Sem.run_pure,run_typeInfo hi,hby,hw]
   rw [if_neg hc1]
   simp only [Sem.run_bind,Sem.run_pure,Result.andThen_ok,Int.toNat_natCast,askRoom,if_neg hroom,hS]
   by_cases h0:m=0
   ·subst h0
    simp [newRow,flat,go_sem]
   ·rw [if_neg (by omega)]
    simp only [Sem.run_bind,zeroValue,run_typeInfo hi,Sem.run_pure,Result.andThen_ok,hzero,Value.cells,List.size_toArray,List.length_cons,List.length_nil,Nat.zero_add,hcells]
    simp [newRow,hcells,go_sem]
  simp only [execOp,e1,e2,Sem.run_bind,hmk,Result.andThen_ok,Sem.run_pure]
 unfold Oper.wp
 rw [hrun,Oper.upon_value]
 refine hK _ _ ⟨rfl,?_,ext_alloc _ _,size_alloc1 _ _⟩
 have:=blk_alloc w 31 (flat (List.replicate m zI)).toArray
 simpa using this
theorem zI_sh:zI.cells.toList.length=2∧∀ c ∈ zI.cells.toList,c.oneCell'=true:=⟨rfl,by simp [zI,IntV,Value.cells,Value.oneCell']⟩
theorem sh_rep (m:Nat):ShK 2 (List.replicate m zI):=fun u hu=>by rw [List.eq_of_mem_replicate hu];exact zI_sh
section
variable {k:Nat} {te e:TypeId} {base:Nat} {w w':World} {v:Value} {rs:List Value} {R:List (List Value)}
theorem MatR.setRow (h:MatR k te e base w v rs R) (hte:e≠te) {i:Nat} {r:Value} {us:List Value} (hi:i<rs.length) (hr:RowO k e base w r us) (hc:r.cells=#[r]) (hone:r.oneCell'=true)
  (hf:∀ (j:Nat) (s:Value),j≠i→rs[j]?=some s→s.ownBlock=r.ownBlock→r.ownBlock=none) :
  ∃ g cap D,v=.slice (some ⟨g,0,none⟩) rs.length cap∧base≤g∧Blk te w g (rs++D)∧rs.length≤cap∧rs.length+D.length=cap ∧
   ∀ w',Upd g w w'→Blk te w' g ((rs++D).set i r)→MatR k te e base w' v (rs.set i r) (R.set i us):=by
 obtain ⟨h1,h2,h3,h4,h5⟩:=h
 obtain ⟨g,cap,D,hv,hg,hb,hc1,hc2,hc3⟩:=h1.open (by intro e;rw [e] at hi;simp at hi)
 rw [flat_one rs h3] at hb
 refine ⟨g,cap,D,hv,hg,hb,hc2,by omega,fun w' hu' hb'=>?_⟩
 have hset:(rs++D).set i r=rs.set i r++D:=List.set_append_left _ _ hi
 have hcs:∀ x ∈ rs.set i r,x.cells=#[x]:=by
  intro x hx
  rcases List.mem_or_eq_of_mem_set hx with hx | hx
  ·exact h3 x hx
  ·subst hx;exact hc
 refine ⟨⟨?_,.inr ⟨g,cap,D,by rw [hv,List.length_set],hg,?_,by rw [List.length_set];exact hc1,by rw [List.length_set];exact hc2,hc3⟩⟩,by simpa using h2,hcs,?_,?_⟩
 ·intro x hx
  rcases List.mem_or_eq_of_mem_set hx with hx | hx
  ·exact h1.1 x hx
  ·subst hx;exact ⟨by rw [hc];rfl,by rw [hc];intro c hcc;simp at hcc;subst hcc;exact hone⟩
 ·rw [flat_one _ hcs,← hset];exact hb'
 ·intro i' r' us' hr' hus'
  by_cases e1:i=i'
  ·subst e1
   rw [List.getElem?_set_self hi] at hr'
   rw [List.getElem?_set_self (by omega)] at hus'
   cases hr';cases hus'
   exact hr.updT hu' hb hte
  ·rw [List.getElem?_set_ne e1] at hr' hus'
   exact (h4 i' r' us' hr' hus').updT hu' hb hte
 ·intro a b r' s' hab hr' hs' e2
  by_cases ea:i=a
  ·subst ea
   rw [List.getElem?_set_self hi] at hr'
   cases hr'
   rw [List.getElem?_set_ne (by omega)] at hs'
   exact hf b s' (by omega) hs' e2.symm
  ·rw [List.getElem?_set_ne ea] at hr'
   by_cases eb:i=b
   ·subst eb
    rw [List.getElem?_set_self hi] at hs'
    cases hs'
    rw [e2]
    exact hf a r' (by omega) hr' e2
   ·rw [List.getElem?_set_ne eb] at hs'
    exact h5 a b r' s' hab hr' hs' e2
theorem MatR.blk_lt (h:MatR k te e base w v rs R) {i:Nat} {s:Value} {b:Nat} (hs:rs[i]?=some s) (hb:s.ownBlock=some b):b<w.heap.size:=by
 obtain ⟨h1,h2,h3,h4,h5⟩:=h
 have hlt:=(List.getElem?_eq_some_iff.1 hs).1
 have hR:R[i]?=some (R[i]'(by omega)):=by simp
 rcases (h4 i s _ hs hR).2 with ⟨h0,_⟩ | ⟨g,cap,D,hv,hg,hbk,_⟩
 ·rw [h0] at hb;cases hb
 ·rw [hv] at hb
  have:g=b:=by simpa [Value.ownBlock] using hb
  subst this
  exact hbk.lt
end
set_option maxHeartbeats 800000 in
theorem zero_spec {base:Nat} (w:World) (r c:Nat) (hr:r≤1000) (hc:c≤1000) (hbase:base≤w.heap.size) :
  Calls Tryz.prog 142 #[.int .i64 r,.int .i64 c] w (Ret fun v w'=>Ext w w'∧∃ rs,MatR 2 45 31 base w' v rs (List.replicate r (List.replicate c zI))):=by
 refine calls_of_St (args:=[_,_]) Tryz.func142 rfl Tryz.ntmps142 rfl ?_
 (iterate 6 refine Nv ?_;try refine .r rfl ?_)
 refine .s (OpR.make TBok r rfl rfl rfl rfl rfl rfl rfl rfl (by show r * 24≤_;omega) (by omega)) ?_
 rintro v w1 ⟨rfl,B,hx0,hz1⟩
 have h0:MatR 2 45 31 base w1 (.slice (some ⟨w.heap.size,0,none⟩) r r) (List.replicate r (.slice none 0 0)) (List.replicate r []):=by
  refine ⟨⟨?_,.inr ⟨w.heap.size,r,[],by rw [List.length_replicate],hbase,?_,by simp,by simp,by unfold maxLen;omega⟩⟩,by simp,?_,?_,?_⟩
  ·intro u hu;rw [List.eq_of_mem_replicate hu];exact ⟨rfl,by simp [Value.cells,Value.oneCell']⟩
  ·rw [flat_one _ (fun u hu=>by rw [List.eq_of_mem_replicate hu];rfl),List.append_nil];exact B
  ·intro u hu;rw [List.eq_of_mem_replicate hu];rfl
  ·intro i s us hs hus
   have e1:=List.eq_of_mem_replicate (List.mem_of_getElem? hs)
   have e2:=List.eq_of_mem_replicate (List.mem_of_getElem? hus)
   subst e1;subst e2
   exact RowO.nil
  ·intro i j s t _ hs _ _
   rw [List.eq_of_mem_replicate (List.mem_of_getElem? hs)];rfl
 (iterate 6 refine Nv ?_;try refine .r rfl ?_)
 refine St.loop (fun g:Nat×List Value=>[(1,.int .i64 c),(5,.slice (some ⟨w.heap.size,0,none⟩) r r),(10,.int .i64 r),(11,.int .i64 g.1)])
  (fun g w'=>Ext w w'∧g.1≤r∧MatR 2 45 31 base w' (.slice (some ⟨w.heap.size,0,none⟩) r r) g.2 (List.replicate g.1 (List.replicate c zI)++List.replicate (r - g.1) [])) (fun g=>r - g.1) (0,_) ⟨rfl,rfl,rfl,rfl,trivial⟩ ⟨hx0,Nat.zero_le _,by simpa using h0⟩ ?_
 rintro ⟨i,rs⟩ w2 ⟨hx2,hi,hM⟩
 dsimp only at hi hM ⊢
 have hrl:rs.length=r:=by have:=hM.2.1;simp at this;omega
 by_cases hlt:i<r
 ·refine Nv ?_
  refine .a 1 (.bool true) rfl (bool_true (by omega)) ?_
  refine Nv ?_
  refine .cT ?_
  (iterate 6 refine Nv ?_;try refine .r rfl ?_)
  refine .s (OpR.makeI c rfl rfl rfl rfl (by omega)) ?_
  rintro _ w3 ⟨rfl,B3,hx3,hz3⟩
  have hfr:∀ (j:Nat) (s:Value),j≠i→rs[j]?=some s→s.ownBlock=(Value.slice (some ⟨w2.heap.size,0,none⟩) c c).ownBlock→(Value.slice (some ⟨w2.heap.size,0,none⟩) c c).ownBlock=none:=by
   intro j s _ hs e
   have:w2.heap.size<w2.heap.size:=hM.blk_lt hs e
   omega
  obtain ⟨g,cap,D,hv,hg,hb,hcl,hcd,hset⟩:=(hM.ext hx3).setRow (by decide) (i:=i) (r:=.slice (some ⟨w2.heap.size,0,none⟩) c c) (us:=List.replicate c zI) (by omega)
   ⟨sh_rep c,.inr ⟨w2.heap.size,c,[],by rw [List.length_replicate],Nat.le_trans hbase hx2.size,by rw [List.append_nil];exact B3,by simp;omega,by simp,by unfold maxLen;omega⟩⟩ rfl rfl hfr
  simp only [Value.slice.injEq,Option.some.injEq,Addr.mk.injEq,and_true] at hv
  obtain ⟨rfl,_,rfl⟩:=hv
  refine StL.put TBok i hb rfl hlt (by simp;omega) rfl rfl rfl rfl rfl rfl rfl rfl (fun _=>rfl) (fun _=>rfl) rfl rfl ?_
  intro p w4 hb4 hu4
  rw [Nat.zero_add] at hb4
  have hM4:=hset w4 hu4 hb4
  (iterate 6 refine Nv ?_;try refine .r rfl ?_)
  refine Out.again (i+1,rs.set i (.slice (some ⟨w2.heap.size,0,none⟩) c c)) ⟨rfl,rfl,rfl,?_,trivial⟩ ⟨(hx2.trans hx3).then_upd hu4 (Nat.le_refl _),by dsimp only;omega,?_⟩ (by dsimp only;omega)
  ·show some (Value.int .i64 (IntKind.i64.wrap ((i:Int)+1)))=_
   rw [i64_id (by omega) (by omega)];rfl
  ·have e:(List.replicate i (List.replicate c zI)++List.replicate (r - i) []).set i (List.replicate c zI)=List.replicate (i+1) (List.replicate c zI)++List.replicate (r - (i+1)) []:=by
    obtain ⟨m,hm⟩:∃ m,r - i=m+1:=⟨r - i - 1,by omega⟩
    have e1:List.replicate (m+1) ([]:List Value)=[]::List.replicate m []:=rfl
    have e2:List.replicate (i+1) (List.replicate c zI)=List.replicate i (List.replicate c zI)++[List.replicate c zI]:=List.replicate_succ'
    rw [hm,show r - (i+1)=m by omega,List.set_append_right _ _ (by simp),List.length_replicate,Nat.sub_self,e1,e2,List.set_cons_zero,List.append_assoc]
    rfl
   rw [← e]
   exact hM4
 ·refine Nv ?_
  refine .a 1 (.bool false) rfl (bool_false (by omega)) ?_
  refine Nv ?_
  refine .cF ?_
  (iterate 6 refine Nv ?_;try refine .r rfl ?_)
  have:i=r:=by omega
  subst this
  refine Out.ret1 rfl rfl ⟨hx2,rs,?_⟩
  simpa using hM
def mk (r c:Nat) (f:Nat→Nat→Int):List (List Int):=(List.range r).map fun a=>(List.range c).map fun b=>f a b
def upd2 (f:Nat→Nat→Int) (i j:Nat) (y:Int):Nat→Nat→Int:=fun a b=>if a=i∧b=j then y else f a b
theorem mk_len (r c:Nat) (f:Nat→Nat→Int):(mk r c f).length=r:=by simp [mk]
theorem mk_get {r c:Nat} {f:Nat→Nat→Int} {i:Nat} (h:i<r):(mk r c f)[i]?=some ((List.range c).map (f i)):=by simp [mk,h]
theorem row_get {c:Nat} {f:Nat→Int} {j:Nat} (h:j<c):((List.range c).map f)[j]?=some (f j):=by simp [h]
theorem mk_congr {r c:Nat} {f g:Nat→Nat→Int} (h:∀ a b,a<r→b<c→f a b=g a b):mk r c f=mk r c g:=by
 unfold mk
 apply List.map_congr_left
 intro a ha
 apply List.map_congr_left
 intro b hb
 exact h a b (List.mem_range.1 ha) (List.mem_range.1 hb)
theorem mk_set {r c:Nat} {f:Nat→Nat→Int} {i j:Nat} {y:Int} (hi:i<r) (hj:j<c):(mk r c f).set i (((List.range c).map (f i)).set j y)=mk r c (upd2 f i j y):=by
 apply List.ext_getElem?
 intro a
 by_cases e:i=a
 ·subst e
  rw [List.getElem?_set_self (by rw [mk_len];exact hi),mk_get hi]
  congr 1
  apply List.ext_getElem?
  intro b
  by_cases e2:j=b
  ·subst e2
   rw [List.getElem?_set_self (by simpa using hj),row_get hj]
   simp [upd2]
  ·rw [List.getElem?_set_ne e2]
   by_cases hb:b<c
   ·rw [row_get hb,row_get hb]
    simp [upd2,Ne.symm e2]
   ·rw [List.getElem?_eq_none (by simp;omega),List.getElem?_eq_none (by simp;omega)]
 ·rw [List.getElem?_set_ne e]
  by_cases ha:a<r
  ·rw [mk_get ha,mk_get ha]
   congr 1
   apply List.map_congr_left
   intro b _
   simp [upd2,Ne.symm e]
  ·rw [List.getElem?_eq_none (by rw [mk_len];omega),List.getElem?_eq_none (by rw [mk_len];omega)]
theorem MatR.zeroC {rs:List Value} {base r c:Nat} {w:World} {v:Value} (h:MatR 2 45 31 base w v rs (List.replicate r (List.replicate c zI))):MatC rs base w v (mk r c fun _ _=>0):=by
 refine ⟨_,h,by rw [mk_len,List.length_replicate],fun i us row hus hrow=>?_⟩
 have hi:i<r:=by have:=(List.getElem?_eq_some_iff.1 hrow).1;rw [mk_len] at this;exact this
 rw [mk_get hi] at hrow
 cases hrow
 have e:=List.eq_of_mem_replicate (List.mem_of_getElem? hus)
 subst e
 refine ⟨by simp,fun j u x hu hx=>?_⟩
 have e2:=List.eq_of_mem_replicate (List.mem_of_getElem? hu)
 subst e2
 have hj:j<c:=by have:=(List.getElem?_eq_some_iff.1 hx).1;simpa using this
 rw [row_get hj] at hx
 cases hx
 exact canO_zero 0 w
def ent (M:List (List Int)) (a b:Nat):Int:=(M.getD a []).getD b 0
def okM (M:List (List Int)):Prop:=1≤M.length∧M.length≤16∧∀ (i:Nat) (row:List Int),M[i]?=some row→1≤row.length∧row.length≤16∧row.length=(M.getD 0 []).length
theorem mk_ent {M:List (List Int)} (h:okM M):mk M.length (M.getD 0 []).length (ent M)=M:=by
 apply List.ext_getElem?
 intro i
 by_cases hi:i<M.length
 ·have hm:M[i]?=some M[i]:=by simp
  rw [mk_get hi,hm]
  congr 1
  have hl:=(h.2.2 i _ hm).2.2
  apply List.ext_getElem?
  intro j
  by_cases hj:j<(M.getD 0 []).length
  ·rw [row_get hj]
   have hj2:j<(M[i]).length:=by omega
   unfold ent
   simp [List.getD_eq_getElem?_getD,hm,hj2]
  ·rw [List.getElem?_eq_none (by simp at hj ⊢;omega),List.getElem?_eq_none (by omega)]
 ·rw [List.getElem?_eq_none (by rw [mk_len];omega),List.getElem?_eq_none (by omega)]
theorem entAt {M:List (List Int)} {i j:Nat} {row:List Int} {x:Int} (hi:M[i]?=some row) (hj:row[j]?=some x):ent M i j=x:=by
 unfold ent
 simp [List.getD_eq_getElem?_getD,hi,hj]
theorem ne_falseN {a b:Nat} (h:a=b):Value.bool ((a:Int) != (b:Int))=.bool false:=by
 subst h
 rw [show ((a:Int) != (a:Int))=false from by simp]
theorem ne_trueN {a b:Nat} (h:a≠b):Value.bool ((a:Int) != (b:Int))=.bool true:=by
 rw [show ((a:Int) != (b:Int))=true from by simp;omega]
set_option maxHeartbeats 3200000 in
theorem fromInts_spec {base:Nat} (w:World) (v:Value) (M:List (List Int)) (h:M64 w v M) (hbase:base≤w.heap.size) (h64:∀ row ∈ M,∀ x ∈ row,-9223372036854775808≤x∧x≤9223372036854775807) :
  Calls Tryz.prog 85 #[v] w (Ret fun r w'=>Ext w w'∧((okM M∧∃ u rs,r=.tuple #[u,.bool true]∧MatC rs base w' u M)∨(¬ okM M∧r=.tuple #[.slice none 0 0,.bool false]))):=by
 have hM:=h
 obtain ⟨p0,cap0,rfl⟩:=h.len
 refine calls_of_St (args:=[_]) Tryz.func85 rfl Tryz.ntmps85 rfl ?_
 refine Nv ?_
 refine .r rfl ?_
 refine Nv ?_
 by_cases c1:M.length<1
 ·refine .a 3 (.bool true) rfl (bool_true (by omega)) ?_
  (iterate 6 refine Nv ?_;try refine .r rfl ?_)
  refine .cT ?_
  (iterate 6 refine Nv ?_;try refine .r rfl ?_)
  exact Out.rets TBok [_,_] rfl ⟨rfl,rfl,trivial⟩ ⟨Ext.refl _,.inr ⟨fun h=>by have:=h.1;omega,rfl⟩⟩
 refine .a 3 (.bool false) rfl (bool_false (by omega)) ?_
 by_cases c2:16<M.length
 ·refine .a 4 (.bool true) rfl (bool_true (by omega)) ?_
  (iterate 6 refine Nv ?_;try refine .r rfl ?_)
  refine .cT ?_
  (iterate 6 refine Nv ?_;try refine .r rfl ?_)
  exact Out.rets TBok [_,_] rfl ⟨rfl,rfl,trivial⟩ ⟨Ext.refl _,.inr ⟨fun h=>by have:=h.2.1;omega,rfl⟩⟩
 refine .a 4 (.bool false) rfl (bool_false (by omega)) ?_
 (iterate 6 refine Nv ?_;try refine .r rfl ?_)
 refine .cF ?_
 obtain ⟨row0,hrow0⟩:∃ row0,M[0]?=some row0:=⟨M[0]'(by omega),by simp⟩
 have hg0:M.getD 0 []=row0:=by simp [List.getD_eq_getElem?_getD,hrow0]
 obtain ⟨rs,r0,hR,hr0,hL0⟩:=hM.row hrow0
 obtain ⟨q0,k0,rfl⟩:=hL0.len
 (iterate 6 refine Nv ?_;try refine .r rfl ?_)
 refine St.loop (fun i:Nat=>[(0,.slice p0 M.length cap0),(17,.slice p0 M.length cap0),(18,.int .i64 M.length),(19,.int .i64 i)])
  (fun i w'=>w'=w∧i≤M.length∧∀ (j:Nat) (row:List Int),j<i→M[j]?=some row→1≤row.length∧row.length≤16∧row.length=row0.length) (fun i=>M.length - i) 0 ⟨rfl,rfl,rfl,rfl,trivial⟩ ⟨rfl,Nat.zero_le _,fun j row hj=>by omega⟩ ?_
 rintro i w' ⟨hw,hi,hall⟩
 subst hw
 by_cases hlt:i<M.length
 ·obtain ⟨row,hrow⟩:∃ row,M[i]?=some row:=⟨M[i],by simp⟩
  obtain ⟨rs',r,hR',hr,hL⟩:=hM.row hrow
  obtain ⟨q1,k1,rfl⟩:=hL.len
  refine Nv ?_
  refine .a 1 (.bool true) rfl (bool_true (by omega)) ?_
  refine Nv ?_
  refine .cT ?_
  (iterate 6 refine Nv ?_;try refine .r rfl ?_)
  refine StL.elem TBok i _ hR' hr rfl rfl rfl rfl rfl rfl rfl rfl rfl rfl rfl (fun _=>rfl) ?_
  intro p
  refine .r rfl ?_
  refine Nv ?_
  have hbad:∀ (hx:¬ (1≤row.length∧row.length≤16∧row.length=row0.length)),¬ okM M:=fun hx hk=>hx (by have:=hk.2.2 i row hrow;rw [hg0] at this;exact this)
  by_cases d1:row.length<1
  ·refine .a 3 (.bool true) rfl (bool_true (by omega)) ?_
   refine .r rfl ?_
   (iterate 6 try refine StL.skipU rfl rfl rfl rfl rfl ?_)
   (iterate 6 refine Nv ?_;try refine .r rfl ?_)
   refine .cT ?_
   (iterate 6 refine Nv ?_;try refine .r rfl ?_)
   exact Out.rets TBok [_,_] rfl ⟨rfl,rfl,trivial⟩ ⟨Ext.refl _,.inr ⟨hbad (by omega),rfl⟩⟩
  refine .a 3 (.bool false) rfl (bool_false (by omega)) ?_
  by_cases d2:16<row.length
  ·refine .a 4 (.bool true) rfl (bool_true (by omega)) ?_
   (iterate 6 refine Nv ?_;try refine .r rfl ?_)
   refine .cT ?_
   (iterate 6 refine Nv ?_;try refine .r rfl ?_)
   exact Out.rets TBok [_,_] rfl ⟨rfl,rfl,trivial⟩ ⟨Ext.refl _,.inr ⟨hbad (by omega),rfl⟩⟩
  refine .a 4 (.bool false) rfl (bool_false (by omega)) ?_
  refine .r rfl ?_
  refine StL.elem TBok 0 _ hR hr0 rfl rfl rfl rfl rfl rfl rfl rfl rfl rfl rfl (fun _=>rfl) ?_
  intro p'
  by_cases d3:row.length=row0.length
  ·refine .a 2 (.bool false) rfl (ne_falseN (by omega)) ?_
   (iterate 6 refine Nv ?_;try refine .r rfl ?_)
   refine .cF ?_
   (iterate 6 refine Nv ?_;try refine .r rfl ?_)
   refine Out.again (i+1) ⟨rfl,rfl,rfl,?_,trivial⟩ ⟨rfl,by omega,?_⟩ (by omega)
   ·show some (Value.int .i64 (IntKind.i64.wrap ((i:Int)+1)))=_
    rw [i64_id (by omega) (by omega)];rfl
   ·intro j row' hj hrow'
    by_cases e:j<i
    ·exact hall j row' e hrow'
    ·have:j=i:=by omega
     subst this
     rw [hrow] at hrow'
     cases hrow'
     exact ⟨by omega,by omega,d3⟩
  ·refine .a 2 (.bool true) rfl (ne_trueN (by omega)) ?_
   (iterate 6 refine Nv ?_;try refine .r rfl ?_)
   refine .cT ?_
   (iterate 6 refine Nv ?_;try refine .r rfl ?_)
   exact Out.rets TBok [_,_] rfl ⟨rfl,rfl,trivial⟩ ⟨Ext.refl _,.inr ⟨hbad (by omega),rfl⟩⟩
 have hok:okM M:=⟨by omega,by omega,fun j row hj=>by rw [hg0];exact hall j row (by have:=(List.getElem?_eq_some_iff.1 hj).1;omega) hj⟩
 have hc0:=hok.2.2 0 row0 hrow0
 refine Nv ?_
 refine .a 1 (.bool false) rfl (bool_false (by omega)) ?_
 refine Nv ?_
 refine .cF ?_
 (iterate 6 refine Nv ?_;try refine .r rfl ?_)
 refine StL.elem TBok 0 _ hR hr0 rfl rfl rfl rfl rfl rfl rfl rfl rfl rfl rfl (fun _=>rfl) ?_
 intro p
 refine .r rfl ?_
 refine .s (OpR.call fn_r03_Zero rfl (zero_spec (base:=w'.heap.size) w' M.length row0.length (by omega) (by omega) (Nat.le_refl _))) ?_
 rintro u w1 ⟨hx1,ro,hz⟩
 have hC:=hz.zeroC
 obtain ⟨pu,cu,rfl⟩:=hC.len
 rw [mk_len]
 (iterate 6 refine Nv ?_;try refine .r rfl ?_)
 refine St.loop (fun i:Nat=>[(0,.slice p0 M.length cap0),(6,.slice pu M.length cu),(49,.int .i64 M.length),(50,.int .i64 i)])
  (fun i w2=>Ext w' w2∧i≤M.length∧MatC ro w'.heap.size w2 (.slice pu M.length cu) (mk M.length row0.length (fun a b=>if a<i then ent M a b else 0))) (fun i=>M.length - i) 0 ⟨rfl,rfl,rfl,rfl,trivial⟩ ⟨hx1,Nat.zero_le _,?_⟩ ?_
 ·rw [mk_len] at hC
  rw [mk_congr (g:=fun _ _=>0) (fun a b _ _=>by simp)]
  exact hC
 clear hC hz hall hlt hi i
 rintro i w2 ⟨hx2,hi,hC⟩
 try dsimp only at hC
 have hrol:=hC.rsl
 rw [mk_len] at hrol
 by_cases hlt:i<M.length
 ·obtain ⟨row,hrow⟩:∃ row,M[i]?=some row:=⟨M[i],by simp⟩
  have hrl:=(hok.2.2 i row hrow).2.2
  rw [hg0] at hrl
  obtain ⟨rs',r,hR',hr,hL⟩:=(hM.ext hx2).row hrow
  obtain ⟨q1,k1,rfl⟩:=hL.len
  obtain ⟨rr,hrr⟩:∃ rr,ro[i]?=some rr:=⟨ro[i]'(by omega),by simp⟩
  refine Nv ?_
  refine .a 1 (.bool true) rfl (bool_true (by omega)) ?_
  refine Nv ?_
  refine .cT ?_
  (iterate 6 refine Nv ?_;try refine .r rfl ?_)
  refine StL.elem TBok i _ hR' hr rfl rfl rfl rfl rfl rfl rfl rfl rfl rfl rfl (fun _=>rfl) ?_
  intro p
  (iterate 6 refine Nv ?_;try refine .r rfl ?_)
  refine St.loop (fun j:Nat=>[(0,.slice p0 M.length cap0),(6,.slice pu M.length cu),(49,.int .i64 M.length),(50,.int .i64 i),(7,.int .i64 i),(57,.int .i64 row.length),(58,.int .i64 j)])
   (fun j w3=>Ext w' w3∧j≤row.length∧MatC ro w'.heap.size w3 (.slice pu M.length cu) (mk M.length row0.length (fun a b=>if a<i∨a=i∧b<j then ent M a b else 0))) (fun j=>row.length - j) 0 ⟨rfl,rfl,rfl,rfl,rfl,rfl,rfl,trivial⟩ ⟨hx2,Nat.zero_le _,?_⟩ ?_
  ·rw [mk_congr (g:=fun a b=>if a<i then ent M a b else 0) (fun a b _ _=>by simp)]
   exact hC
  clear hC hR' hr hL
  rintro j w3 ⟨hx3,hj,hC⟩
  try dsimp only at hC
  by_cases hjl:j<row.length
  ·obtain ⟨x,hx⟩:∃ x,row[j]?=some x:=⟨row[j],by simp⟩
   obtain ⟨rs',r,hR',hr,hL⟩:=(hM.ext hx3).row hrow
   have hb64:=h64 row (List.mem_of_getElem? hrow) x (List.mem_of_getElem? hx)
   obtain ⟨a1,cp1,e1,hc1⟩:=hR'.get hr
   have hxm:(row.map i64)[j]?=some (i64 x):=by simp [hx]
   obtain ⟨a2,cp2,e2,hc2⟩:=Row.get hL hxm
   subst e2
   obtain ⟨a3,cp3,e3,hc3⟩:=hC.rows.get hrr
   simp only [Value.slice.injEq] at e1 e3
   obtain ⟨rfl,e1l,rfl⟩:=e1
   obtain ⟨rfl,e3l,rfl⟩:=e3
   refine Nv ?_
   refine .a 1 (.bool true) rfl (bool_true (by omega)) ?_
   refine Nv ?_
   refine .cT ?_
   refine Nv ?_
   refine .r rfl ?_
   refine StL.nil (Out.then_normal ?_)
   refine St.sub (E':=[(0,.slice (some a1) M.length cap0),(6,.slice (some a3) M.length cu),(49,.int .i64 M.length),(50,.int .i64 i),(7,.int .i64 i),(57,.int .i64 row.length),(58,.int .i64 j),(8,.int .i64 j)]) ?_ ⟨rfl,rfl,rfl,rfl,rfl,rfl,rfl,rfl,trivial⟩
   refine St.flow 13 TBfol (by kernel_rfl) rfl (by kernel_rfl) rfl True.intro ?_
   refine FL.run TBok 99 rfl ?_
   refine .on (fun _ _=>RunsTo.ia) ?_
   refine .on (fun _ hR=>RunsTo.load TBok rfl rfl rfl (hR.ext_nil.cell hc3)) ?_
   refine FL.run TBok 99 rfl ?_
   refine .on (fun _ _=>RunsTo.ia) ?_
   refine .on (fun _ hR=>RunsTo.load TBok rfl rfl rfl (hR.ext_nil.cell hc1)) ?_
   refine FL.run TBok 99 rfl ?_
   refine .on (fun _ _=>RunsTo.indexAddr TBok rfl rfl rfl rfl rfl (by omega) (by simp;omega)) ?_
   refine .on (fun _ hR=>RunsTo.load TBok rfl rfl rfl (hR.ext_nil.cell hc2)) ?_
   refine FL.callE fn_r01_Small rfl rfl rfl (fun w4 hx4=>CallF.mk rfl (rsmall_spec (base:=0) w4 x hb64.1 hb64.2 (Nat.zero_le _))) (MonoR.canO 0 _) ?_
   refine FL.endE rfl ?_
   intro w4 hx4 y hy _ _
   refine StL.putM (w0:=w') (hC.ext hx4) hrr (mk_get hlt) (by simp;omega) hy (hx3.trans hx4) (Nat.le_refl _) rfl rfl rfl (fun _=>rfl) rfl rfl (fun _=>rfl) ?_
   intro p5 w5 hx5 hC5
   rw [mk_set hlt (by omega)] at hC5
   (iterate 6 refine Nv ?_;try refine .r rfl ?_)
   refine Out.again (j+1) ⟨rfl,rfl,rfl,rfl,rfl,rfl,?_,trivial⟩ ⟨hx5,by omega,?_⟩ (by omega)
   ·show some (Value.int .i64 (IntKind.i64.wrap ((j:Int)+1)))=_
    rw [i64_id (by omega) (by omega)];rfl
   ·rw [mk_congr (g:=upd2 (fun a b=>if a<i∨a=i∧b<j then ent M a b else 0) i j x)]
    ·exact hC5
    ·intro a b _ _
     unfold upd2
     by_cases e:a=i∧b=j
     ·obtain ⟨rfl,rfl⟩:=e
      rw [if_pos (.inr ⟨rfl,by omega⟩),if_pos ⟨rfl,rfl⟩,entAt hrow hx]
     ·rw [if_neg e]
      dsimp only
      by_cases f:a<i∨a=i∧b<j
      ·rw [if_pos f,if_pos (by omega)]
      ·rw [if_neg f,if_neg (by omega)]
  ·refine Nv ?_
   refine .a 1 (.bool false) rfl (bool_false (by omega)) ?_
   refine Nv ?_
   refine .cF ?_
   (iterate 6 refine Nv ?_;try refine .r rfl ?_)
   refine Out.again (i+1) ⟨rfl,rfl,rfl,?_,trivial⟩ ⟨hx3,by omega,?_⟩ (by omega)
   ·show some (Value.int .i64 (IntKind.i64.wrap ((i:Int)+1)))=_
    rw [i64_id (by omega) (by omega)];rfl
   ·rw [mk_congr (g:=fun a b=>if a<i∨a=i∧b<j then ent M a b else 0)]
    ·exact hC
    ·intro a b _ _
     by_cases f:a<i+1
     ·rw [if_pos f,if_pos (by omega)]
     ·rw [if_neg f,if_neg (by omega)]
 ·refine Nv ?_
  refine .a 1 (.bool false) rfl (bool_false (by omega)) ?_
  refine Nv ?_
  refine .cF ?_
  (iterate 6 refine Nv ?_;try refine .r rfl ?_)
  refine Out.rets TBok [_,_] rfl ⟨rfl,rfl,trivial⟩ ⟨hx2,.inl ⟨hok,_,ro,rfl,?_⟩⟩
  rw [mk_congr (g:=ent M) (fun a b ha _=>by rw [if_pos (by omega)]),← hg0,mk_ent hok] at hC
  exact hC.mono hbase
end Go.Qf
namespace Go.Qf
open Go Go.RowKit Go.Proofs
def nowr:List Oper→List (Nat×Value)→Bool
 | [],_=>true
 | o::r,K=>(match o.dst with | some d=>K.all (fun p=>!(Nat.beq p.1 d)) | none=>true) && nowr r K
theorem look_keep {K:List (Nat×Value)} {d:Nat} (h:K.all (fun p=>!(Nat.beq p.1 d))=true) {k:Nat} {v:Value} (hk:look K k=some v):k≠d:=by
 induction K with
 | nil=>simp [look] at hk
 | cons p r ih =>
  obtain ⟨a,b⟩:=p
  simp only [List.all_cons,Bool.and_eq_true] at h
  by_cases e:a=k
  ·subst e
   intro e2
   subst e2
   simp at h
  ·rw [look_cons_ne _ _ e] at hk
   exact ih h.2 hk
theorem nowr_look {T:List (Nat×TI)} {n:Nat} {ops:Array Oper} {K:List (Nat×Value)}:∀ (m:Nat) (l:List Oper) (E:List (Nat×Value)),nowr l K=true→(∀ k v,look K k=some v→look E k=some v)→∀ k v,look K k=some v→look (runPure T n ops m E l).1 k=some v:=by
 intro m
 induction m with
 | zero=>intro l E _ hE k v hk;exact hE k v hk
 | succ m ih =>
  intro l E hn hE k v hk
  cases l with
  | nil=>exact hE k v hk
  | cons o r =>
   simp only [nowr,Bool.and_eq_true] at hn
   obtain ⟨h1,h2⟩:=hn
   simp only [runPure]
   split
   ·rename_i d hd hw
    rw [hd] at h1
    have keep:∀ u,∀ k v,look K k=some v→look ((d,u)::E) k=some v:=by
     intro u k v hk
     rw [look_cons_ne _ _ (Ne.symm (look_keep h1 hk))]
     exact hE k v hk
    cases hb:Nat.blt d n with
    | false=>exact hE k v hk
    | true =>
     simp only [cond_true]
     split
     ·exact ih r _ h2 (keep _) k v hk
     ·exact hE k v hk
   ·rename_i d hd hw
    rw [hd] at h1
    have keep:∀ u,∀ k v,look K k=some v→look ((d,u)::E) k=some v:=by
     intro u k v hk
     rw [look_cons_ne _ _ (Ne.symm (look_keep h1 hk))]
     exact hE k v hk
    cases hb:Nat.blt d n with
    | false=>exact hE k v hk
    | true=>exact ih r _ h2 (keep _) k v hk
   ·exact hE k v hk
theorem Fits.of_look {n:Nat} {E1 E2:List (Nat×Value)} {a:Act} (h:Fits n E2 a) (hs:∀ k v,look E1 k=some v→look E2 k=some v):Fits n E1 a :=
 ⟨h.size,h.defers,fun k v hk=>h.slots k v (hs k v hk)⟩
def Rnd (n:Nat) (K:List (Nat×Value)) (J:World→Prop) (Q:Exit→Act→World→Prop):Exit→Act→World→Prop
 | .normal,a,w=>Fits n K a∧J w
 | .exit i,a,w=>Q (.exit i) a w
 | .goto l,a,w=>Q (.goto l) a w
 | .ret,a,w=>Q .ret a w
 | .panic c,a,w=>Q (.panic c) a w
 | .outgrown,a,w=>Q .outgrown a w
section
variable {P:Program} {n:Nat} {E:List (Nat×Value)} {w:World} {Q:Exit→Act→World→Prop} {K:List (Nat×Value)} {J:World→Prop} {s:Prop}
instance [h:Nav (Out n E w .ret Q) s]:Nav (Out n E w .ret (Rnd n K J Q)) s:=⟨fun x=>h.go x⟩
instance {id:Nat} [h:Nav (Out n E w (.exit id) Q) s]:Nav (Out n E w (.exit id) (Rnd n K J Q)) s:=⟨fun x=>h.go x⟩
theorem Out.rnd (hs:Sub K E) (hJ:J w):Out n E w .normal (Rnd n K J Q):=fun _ ha=>⟨ha.sub hs,hJ⟩
theorem St.rng {T:List (Nat×TI)} (hT:TblOk P T) {oc os:List Oper} {body:Code} {t b0 b1 r1 r2:Nat} (c st N:Nat) (hst:st≤N) (K:List (Nat×Value)) (I:Nat→World→Prop)
  (hs:Sub ((c,.int .i64 st)::K) E) (h0:I st w)
  (hc:∀ i:Nat,(runPure T n oc.toArray 9 ((c,.int .i64 i)::K) oc).2=[]∧look (runPure T n oc.toArray 9 ((c,.int .i64 i)::K) oc).1 t=some (.bool (decide ((i:Int)<(N:Int)))))
  (hk:∀ v,nowr oc ((c,v)::K)=true)
  (hd:∀ i:Nat,(runPure T n os.toArray 9 ((c,.int .i64 i)::K) os).2=[]∧look (runPure T n os.toArray 9 ((c,.int .i64 i)::K) os).1 c=some (.int .i64 (IntKind.i64.wrap ((i:Int)+1))))
  (hk2:nowr os K=true) (hck:K.all (fun p=>!(Nat.beq p.1 c))=true) (hN:N<4611686018427387904)
  (round:∀ i w,i<N→I i w→St P n ((c,.int .i64 i)::K) w body (Exit.inBlock b1 (Rnd n ((c,.int .i64 i)::K) (I (i+1)) Q)))
  (done:∀ w,I N w→Out n ((c,.int .i64 N)::K) w (.exit b0) Q) :
  St P n E w (.loop (.seq (.region r1 oc.toArray false) (.seq (.cond (.tmp t) .skip (.exit b0)) (.seq (.block b1 body) (.region r2 os.toArray false))))) Q:=by
 refine St.loop (fun i:Nat=>(c,.int .i64 i)::K) (fun i w=>(st≤i∧i≤N)∧I i w) (fun i=>N - i) st hs ⟨⟨Nat.le_refl _,hst⟩,h0⟩ ?_
 rintro i w' ⟨⟨hsi,hi⟩,hI⟩
 refine St.seq (St.region (StL.run (E':=(runPure T n oc.toArray 9 ((c,.int .i64 i)::K) oc).1) (l':=[]) hT 9 (Prod.ext rfl (hc i).1) (StL.nil (Out.then_normal (St.seq ?_)))))
 have keep:=nowr_look (T:=T) (n:=n) (ops:=oc.toArray) (K:=(c,.int .i64 i)::K) 9 oc ((c,.int .i64 i)::K) (hk _) (fun _ _ h=>h)
 by_cases hlt:i<N
 ·refine St.condT (hc i).2 (by rw [decide_eq_true (by omega)]) ?_
  refine St.skip (Out.then_normal (St.seq (St.block ?_)))
  intro a ha
  refine wp_mono (round i w' hlt hI a (ha.of_look keep)) ?_
  have hnext:∀ a2 w2,Fits n ((c,.int .i64 i)::K) a2∧I (i+1) w2→Code.wp P (.region r2 os.toArray false) (Exit.then (Again n (fun i:Nat=>(c,Value.int .i64 i)::K) (fun i w=>(st≤i∧i≤N)∧I i w) (fun i=>N - i) i) Q) a2 w2:=by
   rintro a2 w2 ⟨hf,hJ⟩
   refine (St.region (StL.run (w:=w2) (E':=(runPure T n os.toArray 9 ((c,.int .i64 i)::K) os).1) (l':=[]) hT 9 (Prod.ext rfl (hd i).1) (StL.nil ?_)):St P n _ w2 _ _) a2 hf
   refine fun a3 ha3=>⟨i+1,ha3.of_look ?_,⟨⟨by show st≤i+1;omega,by show i+1≤N;omega⟩,hJ⟩,by dsimp only;omega⟩
   intro k v hk
   by_cases e:c=k
   ·subst e
    rw [look_cons_self] at hk
    cases hk
    rw [(hd i).2,show IntKind.i64.wrap ((i:Int)+1)=((i+1:Nat):Int) from by rw [i64_id (by omega) (by omega)];rfl]
   ·rw [look_cons_ne _ _ e] at hk
    refine nowr_look (K:=K) 9 os _ hk2 ?_ k v hk
    intro k' v' hk'
    rw [look_cons_ne _ _ (Ne.symm (look_keep hck hk'))];exact hk'
  intro e a2 w2 hq
  cases e with
  | normal=>exact hnext a2 w2 hq
  | exit id =>
   have hq':if id=b1 then _ else _:=hq
   show if id=b1 then _ else _
   split
   ·rename_i e;rw [if_pos e] at hq';exact hnext a2 w2 hq'
   ·rename_i e;rw [if_neg e] at hq';exact hq'
  | goto l=>exact hq
  | ret=>exact hq
  | panic ch=>exact hq
  | outgrown=>exact hq
 ·have e:i=N:=by omega
  subst e
  refine St.condF (hc i).2 (by rw [decide_eq_false (by omega)]) ?_
  refine St.exit ?_
  intro a ha
  exact done w' hI a (ha.of_look keep)
def RndG {α:Type} (n:Nat) (K:α→List (Nat×Value)) (J:α→World→Prop) (Q:Exit→Act→World→Prop):Exit→Act→World→Prop
 | .normal,a,w=>∃ g,Fits n (K g) a∧J g w
 | .exit i,a,w=>Q (.exit i) a w
 | .goto l,a,w=>Q (.goto l) a w
 | .ret,a,w=>Q .ret a w
 | .panic c,a,w=>Q (.panic c) a w
 | .outgrown,a,w=>Q .outgrown a w
instance {α:Type} {K:α→List (Nat×Value)} {J:α→World→Prop} [h:Nav (Out n E w .ret Q) s]:Nav (Out n E w .ret (RndG n K J Q)) s:=⟨fun x=>h.go x⟩
instance {α:Type} {K:α→List (Nat×Value)} {J:α→World→Prop} {id:Nat} [h:Nav (Out n E w (.exit id) Q) s]:Nav (Out n E w (.exit id) (RndG n K J Q)) s:=⟨fun x=>h.go x⟩
theorem Out.rndG {α:Type} {K:α→List (Nat×Value)} {J:α→World→Prop} (g:α) (hs:Sub (K g) E) (hJ:J g w):Out n E w .normal (RndG n K J Q):=fun _ ha=>⟨g,ha.sub hs,hJ⟩
theorem St.rngG {α:Type} {T:List (Nat×TI)} (hT:TblOk P T) {oc os:List Oper} {body:Code} {t b0 b1 r1 r2:Nat} (c st N:Nat) (hst:st≤N) (K:α→List (Nat×Value)) (I:Nat→α→World→Prop) (g0:α)
  (hs:Sub ((c,.int .i64 st)::K g0) E) (h0:I st g0 w)
  (hc:∀ (i:Nat) (g:α),(runPure T n oc.toArray 9 ((c,.int .i64 i)::K g) oc).2=[]∧look (runPure T n oc.toArray 9 ((c,.int .i64 i)::K g) oc).1 t=some (.bool (decide ((i:Int)<(N:Int)))))
  (hk:∀ v g,nowr oc ((c,v)::K g)=true)
  (hd:∀ (i:Nat) (g:α),(runPure T n os.toArray 9 ((c,.int .i64 i)::K g) os).2=[]∧look (runPure T n os.toArray 9 ((c,.int .i64 i)::K g) os).1 c=some (.int .i64 (IntKind.i64.wrap ((i:Int)+1))))
  (hk2:∀ g,nowr os (K g)=true) (hck:∀ g,(K g).all (fun p=>!(Nat.beq p.1 c))=true) (hN:N<4611686018427387904)
  (round:∀ i g w,i<N→I i g w→St P n ((c,.int .i64 i)::K g) w body (Exit.inBlock b1 (RndG n (fun g=>(c,.int .i64 i)::K g) (I (i+1)) Q)))
  (done:∀ g w,I N g w→Out n ((c,.int .i64 N)::K g) w (.exit b0) Q) :
  St P n E w (.loop (.seq (.region r1 oc.toArray false) (.seq (.cond (.tmp t) .skip (.exit b0)) (.seq (.block b1 body) (.region r2 os.toArray false))))) Q:=by
 refine St.loop (fun s:Nat×α=>(c,.int .i64 s.1)::K s.2) (fun s w=>(st≤s.1∧s.1≤N)∧I s.1 s.2 w) (fun s=>N - s.1) (st,g0) hs ⟨⟨Nat.le_refl _,hst⟩,h0⟩ ?_
 rintro ⟨i,γ⟩ w' ⟨⟨hsi,hi⟩,hI⟩
 dsimp only at hsi hi hI ⊢
 refine St.seq (St.region (StL.run (E':=(runPure T n oc.toArray 9 ((c,.int .i64 i)::K γ) oc).1) (l':=[]) hT 9 (Prod.ext rfl (hc i γ).1) (StL.nil (Out.then_normal (St.seq ?_)))))
 have keep:=nowr_look (T:=T) (n:=n) (ops:=oc.toArray) (K:=(c,.int .i64 i)::K γ) 9 oc ((c,.int .i64 i)::K γ) (hk _ _) (fun _ _ h=>h)
 by_cases hlt:i<N
 ·refine St.condT (hc i γ).2 (by rw [decide_eq_true (by omega)]) ?_
  refine St.skip (Out.then_normal (St.seq (St.block ?_)))
  intro a ha
  refine wp_mono (round i γ w' hlt hI a (ha.of_look keep)) ?_
  have hnext:∀ a2 w2,(∃ g,Fits n ((c,.int .i64 i)::K g) a2∧I (i+1) g w2)→Code.wp P (.region r2 os.toArray false) (Exit.then (Again n (fun s:Nat×α=>(c,Value.int .i64 s.1)::K s.2) (fun s w=>(st≤s.1∧s.1≤N)∧I s.1 s.2 w) (fun s=>N - s.1) (i,γ)) Q) a2 w2:=by
   rintro a2 w2 ⟨g,hf,hJ⟩
   refine (St.region (StL.run (w:=w2) (E':=(runPure T n os.toArray 9 ((c,.int .i64 i)::K g) os).1) (l':=[]) hT 9 (Prod.ext rfl (hd i g).1) (StL.nil ?_)):St P n _ w2 _ _) a2 hf
   refine fun a3 ha3=>⟨(i+1,g),ha3.of_look ?_,⟨⟨by show st≤i+1;omega,by show i+1≤N;omega⟩,hJ⟩,by dsimp only;omega⟩
   intro k v hk
   by_cases e:c=k
   ·subst e
    rw [look_cons_self] at hk
    cases hk
    rw [(hd i g).2,show IntKind.i64.wrap ((i:Int)+1)=((i+1:Nat):Int) from by rw [i64_id (by omega) (by omega)];rfl]
   ·rw [look_cons_ne _ _ e] at hk
    refine nowr_look (K:=K g) 9 os _ (hk2 g) ?_ k v hk
    intro k' v' hk'
    rw [look_cons_ne _ _ (Ne.symm (look_keep (hck g) hk'))];exact hk'
  intro e a2 w2 hq
  cases e with
  | normal=>exact hnext a2 w2 hq
  | exit id =>
   have hq':if id=b1 then _ else _:=hq
   show if id=b1 then _ else _
   split
   ·rename_i e;rw [if_pos e] at hq';exact hnext a2 w2 hq'
   ·rename_i e;rw [if_neg e] at hq';exact hq'
  | goto l=>exact hq
  | ret=>exact hq
  | panic ch=>exact hq
  | outgrown=>exact hq
 ·have e:i=N:=by omega
  subst e
  refine St.condF (hc i γ).2 (by rw [decide_eq_false (by omega)]) ?_
  refine St.exit ?_
  intro a ha
  exact done γ w' hI a (ha.of_look keep)
theorem St.rngC {T:List (Nat×TI)} (hT:TblOk P T) {oc os:List Oper} {body:Code} {t b0 b1 r1 r2:Nat} (c st N:Nat) (hst:st≤N) (K:List (Nat×Value)) (I:Nat→World→Prop)
  (hs:Sub ((c,.int .i64 st)::K) E) (h0:I st w)
  (hc:∀ i:Nat,(runPure T n oc.toArray 9 ((c,.int .i64 i)::K) oc).2=[]∧look (runPure T n oc.toArray 9 ((c,.int .i64 i)::K) oc).1 t=some (.bool (decide ((i:Int)<(N:Int)))))
  (hk:∀ v,nowr oc ((c,v)::K)=true)
  (hd:∀ i:Nat,(runPure T n os.toArray 9 ((c,.int .i64 i)::K) os).2=[]∧look (runPure T n os.toArray 9 ((c,.int .i64 i)::K) os).1 c=some (.int .i64 (IntKind.i64.wrap ((i:Int)+1))))
  (hk2:nowr os K=true) (hck:K.all (fun p=>!(Nat.beq p.1 c))=true) (hN:N<4611686018427387904)
  (round:∀ i w,i<N→I i w→St P n ((c,.int .i64 i)::K) w body (Exit.inBlock b1 (Rnd n ((c,.int .i64 i)::K) (I (i+1)) Q)))
  (done:∀ w,I N w→Out n ((c,.int .i64 N)::K) w (.exit b0) Q) :
  St P n E w (.loop (.seq (.seq (.region r1 oc.toArray false) (.cond (.tmp t) .skip (.exit b0))) (.seq (.block b1 body) (.region r2 os.toArray false)))) Q:=by
 refine St.loop (fun i:Nat=>(c,.int .i64 i)::K) (fun i w=>(st≤i∧i≤N)∧I i w) (fun i=>N - i) st hs ⟨⟨Nat.le_refl _,hst⟩,h0⟩ ?_
 rintro i w' ⟨⟨hsi,hi⟩,hI⟩
 refine St.seq (St.seq (St.region (StL.run (E':=(runPure T n oc.toArray 9 ((c,.int .i64 i)::K) oc).1) (l':=[]) hT 9 (Prod.ext rfl (hc i).1) (StL.nil (Out.then_normal ?_)))))
 have keep:=nowr_look (T:=T) (n:=n) (ops:=oc.toArray) (K:=(c,.int .i64 i)::K) 9 oc ((c,.int .i64 i)::K) (hk _) (fun _ _ h=>h)
 by_cases hlt:i<N
 ·refine St.condT (hc i).2 (by rw [decide_eq_true (by omega)]) ?_
  refine St.skip (Out.then_normal (St.seq (St.block ?_)))
  intro a ha
  refine wp_mono (round i w' hlt hI a (ha.of_look keep)) ?_
  have hnext:∀ a2 w2,Fits n ((c,.int .i64 i)::K) a2∧I (i+1) w2→Code.wp P (.region r2 os.toArray false) (Exit.then (Again n (fun i:Nat=>(c,Value.int .i64 i)::K) (fun i w=>(st≤i∧i≤N)∧I i w) (fun i=>N - i) i) Q) a2 w2:=by
   rintro a2 w2 ⟨hf,hJ⟩
   refine (St.region (StL.run (w:=w2) (E':=(runPure T n os.toArray 9 ((c,.int .i64 i)::K) os).1) (l':=[]) hT 9 (Prod.ext rfl (hd i).1) (StL.nil ?_)):St P n _ w2 _ _) a2 hf
   refine fun a3 ha3=>⟨i+1,ha3.of_look ?_,⟨⟨by show st≤i+1;omega,by show i+1≤N;omega⟩,hJ⟩,by dsimp only;omega⟩
   intro k v hk
   by_cases e:c=k
   ·subst e
    rw [look_cons_self] at hk
    cases hk
    rw [(hd i).2,show IntKind.i64.wrap ((i:Int)+1)=((i+1:Nat):Int) from by rw [i64_id (by omega) (by omega)];rfl]
   ·rw [look_cons_ne _ _ e] at hk
    refine nowr_look (K:=K) 9 os _ hk2 ?_ k v hk
    intro k' v' hk'
    rw [look_cons_ne _ _ (Ne.symm (look_keep hck hk'))];exact hk'
  intro e a2 w2 hq
  cases e with
  | normal=>exact hnext a2 w2 hq
  | exit id =>
   have hq':if id=b1 then _ else _:=hq
   show if id=b1 then _ else _
   split
   ·rename_i e;rw [if_pos e] at hq';exact hnext a2 w2 hq'
   ·rename_i e;rw [if_neg e] at hq';exact hq'
  | goto l=>exact hq
  | ret=>exact hq
  | panic ch=>exact hq
  | outgrown=>exact hq
 ·have e:i=N:=by omega
  subst e
  refine St.condF (hc i).2 (by rw [decide_eq_false (by omega)]) ?_
  refine St.exit ?_
  intro a ha
  exact done w' hI a (ha.of_look keep)
theorem St.rngCG {α:Type} {T:List (Nat×TI)} (hT:TblOk P T) {oc os:List Oper} {body:Code} {t b0 b1 r1 r2:Nat} (c st N:Nat) (hst:st≤N) (K:α→List (Nat×Value)) (I:Nat→α→World→Prop) (g0:α)
  (hs:Sub ((c,.int .i64 st)::K g0) E) (h0:I st g0 w)
  (hc:∀ (i:Nat) (g:α),(runPure T n oc.toArray 9 ((c,.int .i64 i)::K g) oc).2=[]∧look (runPure T n oc.toArray 9 ((c,.int .i64 i)::K g) oc).1 t=some (.bool (decide ((i:Int)<(N:Int)))))
  (hk:∀ v g,nowr oc ((c,v)::K g)=true)
  (hd:∀ (i:Nat) (g:α),(runPure T n os.toArray 9 ((c,.int .i64 i)::K g) os).2=[]∧look (runPure T n os.toArray 9 ((c,.int .i64 i)::K g) os).1 c=some (.int .i64 (IntKind.i64.wrap ((i:Int)+1))))
  (hk2:∀ g,nowr os (K g)=true) (hck:∀ g,(K g).all (fun p=>!(Nat.beq p.1 c))=true) (hN:N<4611686018427387904)
  (round:∀ i g w,i<N→I i g w→St P n ((c,.int .i64 i)::K g) w body (Exit.inBlock b1 (RndG n (fun g=>(c,.int .i64 i)::K g) (I (i+1)) Q)))
  (done:∀ g w,I N g w→Out n ((c,.int .i64 N)::K g) w (.exit b0) Q) :
  St P n E w (.loop (.seq (.seq (.region r1 oc.toArray false) (.cond (.tmp t) .skip (.exit b0))) (.seq (.block b1 body) (.region r2 os.toArray false)))) Q:=by
 refine St.loop (fun s:Nat×α=>(c,.int .i64 s.1)::K s.2) (fun s w=>(st≤s.1∧s.1≤N)∧I s.1 s.2 w) (fun s=>N - s.1) (st,g0) hs ⟨⟨Nat.le_refl _,hst⟩,h0⟩ ?_
 rintro ⟨i,γ⟩ w' ⟨⟨hsi,hi⟩,hI⟩
 dsimp only at hsi hi hI ⊢
 refine St.seq (St.seq (St.region (StL.run (E':=(runPure T n oc.toArray 9 ((c,.int .i64 i)::K γ) oc).1) (l':=[]) hT 9 (Prod.ext rfl (hc i γ).1) (StL.nil (Out.then_normal ?_)))))
 have keep:=nowr_look (T:=T) (n:=n) (ops:=oc.toArray) (K:=(c,.int .i64 i)::K γ) 9 oc ((c,.int .i64 i)::K γ) (hk _ _) (fun _ _ h=>h)
 by_cases hlt:i<N
 ·refine St.condT (hc i γ).2 (by rw [decide_eq_true (by omega)]) ?_
  refine St.skip (Out.then_normal (St.seq (St.block ?_)))
  intro a ha
  refine wp_mono (round i γ w' hlt hI a (ha.of_look keep)) ?_
  have hnext:∀ a2 w2,(∃ g,Fits n ((c,.int .i64 i)::K g) a2∧I (i+1) g w2)→Code.wp P (.region r2 os.toArray false) (Exit.then (Again n (fun s:Nat×α=>(c,Value.int .i64 s.1)::K s.2) (fun s w=>(st≤s.1∧s.1≤N)∧I s.1 s.2 w) (fun s=>N - s.1) (i,γ)) Q) a2 w2:=by
   rintro a2 w2 ⟨g,hf,hJ⟩
   refine (St.region (StL.run (w:=w2) (E':=(runPure T n os.toArray 9 ((c,.int .i64 i)::K g) os).1) (l':=[]) hT 9 (Prod.ext rfl (hd i g).1) (StL.nil ?_)):St P n _ w2 _ _) a2 hf
   refine fun a3 ha3=>⟨(i+1,g),ha3.of_look ?_,⟨⟨by show st≤i+1;omega,by show i+1≤N;omega⟩,hJ⟩,by dsimp only;omega⟩
   intro k v hk
   by_cases e:c=k
   ·subst e
    rw [look_cons_self] at hk
    cases hk
    rw [(hd i g).2,show IntKind.i64.wrap ((i:Int)+1)=((i+1:Nat):Int) from by rw [i64_id (by omega) (by omega)];rfl]
   ·rw [look_cons_ne _ _ e] at hk
    refine nowr_look (K:=K g) 9 os _ (hk2 g) ?_ k v hk
    intro k' v' hk'
    rw [look_cons_ne _ _ (Ne.symm (look_keep (hck g) hk'))];exact hk'
  intro e a2 w2 hq
  cases e with
  | normal=>exact hnext a2 w2 hq
  | exit id =>
   have hq':if id=b1 then _ else _:=hq
   show if id=b1 then _ else _
   split
   ·rename_i e;rw [if_pos e] at hq';exact hnext a2 w2 hq'
   ·rename_i e;rw [if_neg e] at hq';exact hq'
  | goto l=>exact hq
  | ret=>exact hq
  | panic ch=>exact hq
  | outgrown=>exact hq
 ·have e:i=N:=by omega
  subst e
  refine St.condF (hc i γ).2 (by rw [decide_eq_false (by omega)]) ?_
  refine St.exit ?_
  intro a ha
  exact done γ w' hI a (ha.of_look keep)
end
end Go.Qf
namespace Go.Qf
open Go Go.RowKit Go.Proofs
set_option maxRecDepth 20000
def tab (c:Nat) (g:Nat→Int):List Int:=(List.range c).map g
theorem tab_len (c:Nat) (g:Nat→Int):(tab c g).length=c:=by simp [tab]
theorem tab_get {c:Nat} {g:Nat→Int} {j:Nat} (h:j<c):(tab c g)[j]?=some (g j):=by simp [tab,h]
theorem tab_congr {c:Nat} {f g:Nat→Int} (h:∀ j,j<c→f j=g j):tab c f=tab c g:=by
 unfold tab
 exact List.map_congr_left fun j hj=>h j (List.mem_range.1 hj)
def RowP (w:World) (b o c:Nat) (g:Nat→Int):Prop:=∃ e C,Blk e w b C∧∀ j,j<c→∃ u,Dn w u (g j)∧(C.drop (o+2 * j)).take 2=u.cells.toList∧o+2 * j+2≤C.length
def MP (w:World) (a:Addr) (r c:Nat) (f:Nat→Nat→Int):Prop:=∀ i,i<r→∃ b o cp,w.cell? (a.add i)=some (.slice (some ⟨b,o,none⟩) c cp)∧RowP w b o c (f i)
theorem RowP.ext {w w':World} {b o c:Nat} {g:Nat→Int} (h:RowP w b o c g) (hx:Ext w w'):RowP w' b o c g:=by
 obtain ⟨e,C,hb,hg⟩:=h
 refine ⟨e,C,hb.ext hx,fun j hj=>?_⟩
 obtain ⟨u,hd,h1,h2⟩:=hg j hj
 exact ⟨u,hd.ext hx,h1,h2⟩
theorem MP.ext {w w':World} {a:Addr} {r c:Nat} {f:Nat→Nat→Int} (h:MP w a r c f) (hx:Ext w w'):MP w' a r c f:=by
 intro i hi
 obtain ⟨b,o,cp,hc,hr⟩:=h i hi
 exact ⟨b,o,cp,hx.cell hc,hr.ext hx⟩
theorem Blk.same {e e':TypeId} {w:World} {b:Nat} {C C':List Value} (h:Blk e w b C) (k:Blk e' w b C'):C=C':=by
 have:=h.symm.trans k
 simp only [Option.some.injEq,Obj.cells.injEq] at this
 have h1:=this.1
 simpa using h1
theorem LI.rp {w:World} {v:Value} {c:Nat} {g:Nat→Int} (h:LI w v (tab c g)) (hc:1≤c):∃ b o cp,v=.slice (some ⟨b,o,none⟩) c cp∧RowP w b o c g:=by
 obtain ⟨b,o,cap,u,e,C,hv,hd,hb,h1,h2⟩:=h.get (i:=0) (tab_get (by omega))
 rw [tab_len] at hv
 refine ⟨b,o,cap,hv,e,C,hb,fun j hj=>?_⟩
 obtain ⟨b',o',cap',u',e',C',hv',hd',hb',h1',h2'⟩:=h.get (i:=j) (tab_get hj)
 rw [hv] at hv'
 simp only [Value.slice.injEq,Option.some.injEq,Addr.mk.injEq,and_true] at hv'
 obtain ⟨⟨rfl,rfl⟩,_,_⟩:=hv'
 obtain rfl:=hb.same hb'
 exact ⟨u',hd',h1',h2'⟩
theorem MI.mp {w:World} {v:Value} {r c:Nat} {f:Nat→Nat→Int} (h:MI w v (mk r c f)) (hr:1≤r) (hc:1≤c):∃ a cap,v=.slice (some a) r cap∧MP w a r c f:=by
 obtain ⟨rs,h1,h2,h3⟩:=h
 rw [mk_len] at h2
 have h0:rs[0]?=some (rs[0]'(by omega)):=by simp
 obtain ⟨a,cap,hv,_⟩:=h1.get h0
 refine ⟨a,cap,by rw [hv,h2],fun i hi=>?_⟩
 have hri:rs[i]?=some (rs[i]'(by omega)):=by simp
 obtain ⟨a',cap',hv',hcell⟩:=h1.get hri
 rw [hv] at hv'
 simp only [Value.slice.injEq,Option.some.injEq] at hv'
 obtain ⟨rfl,_,_⟩:=hv'
 obtain ⟨b,o,cp,hrv,hrp⟩:=(h3 i _ _ hri (mk_get hi)).rp hc
 exact ⟨b,o,cp,by rw [hcell,hrv],hrp⟩
def sumN:Nat→(Nat→Int)→Int
 | 0,_=>0
 | n+1,g=>sumN n g+g n
theorem sz_sumN {s:Nat} {g:Nat→Int}:∀ (n:Nat),(∀ i,i<n→sz (g i)≤s)→sz (sumN n g)≤s+n:=by
 intro n
 induction n with
 | zero=>intro _;show sz 0≤_;rw [sz_zero];omega
 | succ n ih =>
  intro h
  have h1:=ih (fun i hi=>h i (by omega))
  have h2:=h n (by omega)
  have:=sz_add (sumN n g) (g n)
  show sz (sumN n g+g n)≤_
  omega
set_option maxHeartbeats 1600000 in
theorem dot_spec {w:World} {b1 o1 p1 b2 o2 p2 l2:Nat} {c:Nat} {f g:Nat→Int} (h:RowP w b1 o1 c f) (k:RowP w b2 o2 c g) (hl2:c≤l2) (hc:c≤1000) {s:Nat} (hs:∀ i,i<c→sz (f i * g i)≤s) (hsz:s≤900000) :
  Calls Tryz.prog 113 #[.slice (some ⟨b1,o1,none⟩) c p1,.slice (some ⟨b2,o2,none⟩) l2 p2] w (Ret fun r w'=>Ext w w'∧CanO 0 w' r (sumN c (fun i=>f i * g i))):=by
 refine calls_of_St (args:=[_,_]) Tryz.func113 rfl Tryz.ntmps113 rfl ?_
 refine Nv ?_
 refine .s (OpR.alloc TBok rfl) ?_
 rintro _ w1 ⟨rfl,B4,hx1,hz1⟩
 refine Nv ?_
 (refine .s (RunsTo.build TBok rfl rfl rfl rfl).op ?_;rintro _ _ ⟨rfl,rfl⟩)
 refine .s (OpR.alloc TBok rfl) ?_
 rintro _ w2 ⟨rfl,B5,hx2,hz2⟩
 have hlt:=B4.lt
 refine StL.setCan (base:=0) (v:=zI) (a:=0) rfl rfl B5 rfl (canO_zero 0 _) (hx1.trans hx2) (by omega) ?_
 intro w3 S5 hu3 _ hx3
 replace B4:=(B4.ext hx2).upd hu3 (by omega)
 (iterate 6 refine Nv ?_;try refine .r rfl ?_)
 refine St.rng TBok (10) (0) (c) (by omega) [(0,.slice (some ⟨b1,o1,none⟩) c p1),(1,.slice (some ⟨b2,o2,none⟩) l2 p2),(4,.pointer (some ⟨w.heap.size,0,none⟩)),(5,.pointer (some ⟨w1.heap.size,0,none⟩)),(9,.int .i64 c)] (fun i w'=>Ext w w'∧Blk 31 w' w.heap.size [.bool false,.slice none 0 0]∧∃ v,Blk 31 w' w1.heap.size v.cells.toList∧CanO 0 w' v (sumN i (fun i=>f i * g i))) sbb ?_ (fun _=>⟨rfl,rfl⟩) (fun _=>rfl) (fun _=>⟨rfl,rfl⟩) rfl rfl (by omega) ?_ ?_
 ·exact ⟨hx3,B4,zI,S5,canO_zero 0 _⟩
 ·clear hx3 B4 S5 hu3 B5
  rintro i w4 hi ⟨hx4,B4,v,S5,hv⟩
  obtain ⟨e1,C1,hB1,hg1⟩:=h.ext hx4
  obtain ⟨u1,hd1,a1,a2⟩:=hg1 i hi
  obtain ⟨e2,C2,hB2,hg2⟩:=k.ext hx4
  obtain ⟨u2,hd2,c1,c2⟩:=hg2 i (by omega)
  have hsv:=sz_sumN (s:=s) i (fun j hj=>hs j (by omega)) (g:=fun i=>f i * g i)
  have hsi:=hs i hi
  (iterate 6 refine Nv ?_;try refine .r rfl ?_)
  refine St.sub (E':=[(10,.int .i64 i),(6,.int .i64 i),(0,.slice (some ⟨b1,o1,none⟩) c p1),(1,.slice (some ⟨b2,o2,none⟩) l2 p2),(4,.pointer (some ⟨w.heap.size,0,none⟩)),(5,.pointer (some ⟨w1.heap.size,0,none⟩)),(9,.int .i64 c)]) ?_ sbb
  refine St.flow 10 TBfol (by kernel_rfl) rfl (by kernel_rfl) rfl True.intro ?_
  refine .on (fun _ hR=>RunsTo.loadCan rfl (hR.blk S5 (by simp)) hv) ?_
  refine FL.run TBok 99 rfl ?_
  refine .on (fun _ _=>RunsTo.indexI rfl rfl rfl (by omega)) ?_
  refine .on (fun _ hR=>RunsTo.loadIt rfl (hR.blk hB1 (by simp)) a1 a2 hd1.r2) ?_
  refine FL.run TBok 99 rfl ?_
  refine .on (fun _ _=>RunsTo.indexI rfl rfl rfl (by omega)) ?_
  refine .on (fun _ hR=>RunsTo.loadIt rfl (hR.blk hB2 (by simp)) c1 c2 hd2.r2) ?_
  refine FL.callE fn_r01_Mul rfl rfl rfl (fun w5 hx5=>CallF.mk rfl (rmul_dn (base:=0) (hd1.ext hx5) (hd2.ext hx5) (Nat.zero_le _))) (MonoR.canO 0 _) ?_
  refine FL.endE rfl ?_
  intro w5 hx5 y hy _ _
  replace B4:=B4.ext hx5
  replace S5:=S5.ext hx5
  replace hv:=hv.ext hx5
  replace hx4:=hx4.trans hx5
  clear hx5
  refine .s (OpR.call fn_r01_Add rfl (radd_dn (base:=0) (hv.dn (by omega)) (hy.dn (by omega)) (Nat.zero_le _))) ?_
  rintro z w6 ⟨hx6,hz⟩
  replace B4:=B4.ext hx6
  replace S5:=S5.ext hx6
  replace hx4:=hx4.trans hx6
  clear hx6
  refine StL.setCan rfl rfl S5 hv.two.1 hz hx4 (by omega) ?_
  intro w7 S7 hu7 hz7 hx7
  refine Nv ?_
  exact Out.rnd sbb ⟨hx7,B4.upd hu7 (by omega),z,S7,hz7⟩
 ·rintro w4 ⟨hx4,B4,v,S5,hv⟩
  (iterate 6 refine Nv ?_;try refine .r rfl ?_)
  refine .p (RunsTo.loadCan rfl S5 hv) ?_
  refine StL.finCan rfl rfl B4 rfl hv hx4 (Nat.le_refl _) ?_
  intro w' hxf hcf fin
  refine Nv ?_
  exact fin _ _ rfl ⟨hxf,hcf⟩
set_option maxHeartbeats 1600000 in
theorem shape_spec {w:World} {v:Value} {r c:Nat} {f:Nat→Nat→Int} (h:MI w v (mk r c f)) (hr:1≤r∧r≤16) (hc:1≤c∧c≤16) :
  Calls Tryz.prog 148 #[v] w (Ret fun x w'=>Ext w w'∧x=.tuple #[.int .i64 r,.int .i64 c,.bool true]):=by
 obtain ⟨a,cap,rfl,hP⟩:=h.mp hr.1 hc.1
 obtain ⟨b0,o0,cp0,hcell0,_⟩:=hP 0 (by omega)
 refine calls_of_St (args:=[_]) Tryz.func148 rfl Tryz.ntmps148 rfl ?_
 refine Nv ?_
 refine .r rfl ?_
 refine Nv ?_
 refine .a 3 (.bool false) rfl (bool_false (by omega)) ?_
 refine .a 4 (.bool false) rfl (bool_false (by omega)) ?_
 (iterate 6 refine Nv ?_;try refine .r rfl ?_)
 refine .cF ?_
 (iterate 6 refine Nv ?_;try refine .r rfl ?_)
 refine St.rng TBok (17) (0) (r) (by omega) [(0,.slice (some a) r cap),(15,.slice (some a) r cap),(16,.int .i64 r)] (fun i w'=>w'=w) sbb ?_ (fun _=>⟨rfl,rfl⟩) (fun _=>rfl) (fun _=>⟨rfl,rfl⟩) rfl rfl (by omega) ?_ ?_
 ·rfl
 ·rintro i w' hi rfl
  obtain ⟨b,o,cp,hcell,_⟩:=hP i hi
  (iterate 6 refine Nv ?_;try refine .r rfl ?_)
  refine .p (RunsTo.ia) ?_
  refine .p (RunsTo.load TBok rfl rfl rfl hcell) ?_
  refine .r rfl ?_
  refine Nv ?_
  refine .a 3 (.bool false) rfl (bool_false (by omega)) ?_
  refine .a 4 (.bool false) rfl (bool_false (by omega)) ?_
  refine .r rfl ?_
  refine .p (RunsTo.ia) ?_
  refine .p (RunsTo.load TBok rfl rfl rfl hcell0) ?_
  refine .a 2 (.bool false) rfl (ne_falseN rfl) ?_
  (iterate 6 refine Nv ?_;try refine .r rfl ?_)
  refine .cF ?_
  (iterate 6 refine Nv ?_;try refine .r rfl ?_)
  exact Out.rnd sbb rfl
 ·rintro w' rfl
  refine Nv ?_
  refine St.sub (E':=[(0,.slice (some a) r cap)]) ?_ sbb
  refine St.flow 7 TBfol (by kernel_rfl) rfl (by kernel_rfl) rfl True.intro ?_
  refine FL.run TBok 99 rfl ?_
  refine .on (fun _ _=>RunsTo.ia) ?_
  refine .on (fun _ hR=>RunsTo.load TBok rfl rfl rfl (hR.ext_nil.cell hcell0)) ?_
  refine FL.run TBok 99 rfl ?_
  refine FL.endE rfl ?_
  intro w4 hx4 _ _
  refine .r rfl ?_
  refine Nv ?_
  exact Out.rets TBok [_,_,_] rfl ⟨rfl,rfl,rfl,trivial⟩ ⟨hx4,rfl⟩
theorem square_spec {w:World} {v:Value} {r c:Nat} {f:Nat→Nat→Int} (h:MI w v (mk r c f)) (hr:1≤r∧r≤16) (hc:1≤c∧c≤16) :
  Calls Tryz.prog 120 #[v] w (Ret fun x w'=>Ext w w'∧x=(if r=c then .tuple #[.int .i64 r,.bool true] else .tuple #[.int .i64 0,.bool false])):=by
 refine calls_of_St (args:=[_]) Tryz.func120 rfl Tryz.ntmps120 rfl ?_
 (iterate 6 refine Nv ?_;try refine .r rfl ?_)
 refine .s (OpR.call fn_r03_Shape rfl (shape_spec h hr hc)) ?_
 rintro _ w1 ⟨hx1,rfl⟩
 refine .r rfl ?_
 refine Nv ?_
 by_cases e:r=c
 ·subst e
  refine .a 6 (.bool false) rfl (ne_falseN rfl) ?_
  (iterate 6 refine Nv ?_;try refine .r rfl ?_)
  refine .cF ?_
  (iterate 6 refine Nv ?_;try refine .r rfl ?_)
  rw [if_pos rfl]
  exact Out.rets TBok [_,_] rfl ⟨rfl,rfl,trivial⟩ ⟨hx1,rfl⟩
 ·refine .a 6 (.bool true) rfl (ne_trueN e) ?_
  (iterate 6 refine Nv ?_;try refine .r rfl ?_)
  refine .cT ?_
  (iterate 6 refine Nv ?_;try refine .r rfl ?_)
  rw [if_neg e]
  exact Out.rets TBok [_,_] rfl ⟨rfl,rfl,trivial⟩ ⟨hx1,rfl⟩
theorem of_spec {base:Nat} (w:World) (v:Value) (M:List (List Int)) (h:M64 w v M) (hbase:base≤w.heap.size) (h64:∀ row ∈ M,∀ x ∈ row,-9223372036854775808≤x∧x≤9223372036854775807) :
  Calls Tryz.prog 37 #[v] w (Ret fun r w'=>Ext w w'∧((okM M∧∃ rs,MatC rs base w' r M)∨(¬ okM M∧r=.slice none 0 0))):=by
 refine calls_of_St (args:=[_]) Tryz.func37 rfl Tryz.ntmps37 rfl ?_
 (iterate 6 refine Nv ?_;try refine .r rfl ?_)
 refine .s (OpR.call fn_r03_FromInts rfl (fromInts_spec w v M h hbase h64)) ?_
 rintro _ w1 ⟨hx1,⟨hok,u,rs,rfl,hC⟩ | ⟨hok,rfl⟩⟩
 ·(iterate 6 refine Nv ?_;try refine .r rfl ?_)
  exact Out.ret1 rfl rfl ⟨hx1,.inl ⟨hok,rs,hC⟩⟩
 ·(iterate 6 refine Nv ?_;try refine .r rfl ?_)
  exact Out.ret1 rfl rfl ⟨hx1,.inr ⟨hok,rfl⟩⟩
def idF (a b:Nat):Int:=if a=b then 1 else 0
set_option maxHeartbeats 1600000 in
theorem identity_spec {base:Nat} (w:World) (m:Nat) (hm:1≤m∧m≤16) (hbase:base≤w.heap.size) :
  Calls Tryz.prog 80 #[.int .i64 m] w (Ret fun x w'=>Ext w w'∧∃ u rs,x=.tuple #[u,.bool true]∧MatC rs base w' u (mk m m idF)):=by
 refine calls_of_St (args:=[_]) Tryz.func80 rfl Tryz.ntmps80 rfl ?_
 refine Nv ?_
 refine .r rfl ?_
 refine Nv ?_
 refine .a 2 (.bool false) rfl (bool_false (by omega)) ?_
 refine .a 3 (.bool false) rfl (bool_false (by omega)) ?_
 (iterate 6 refine Nv ?_;try refine .r rfl ?_)
 refine .cF ?_
 (iterate 6 refine Nv ?_;try refine .r rfl ?_)
 refine .s (OpR.call fn_r03_Zero rfl (zero_spec (base:=w.heap.size) w m m (by omega) (by omega) (Nat.le_refl _))) ?_
 rintro u w1 ⟨hx1,ro,hz⟩
 have hC:=hz.zeroC
 obtain ⟨pu,cu,rfl⟩:=hC.len
 rw [mk_len] at hC ⊢
 (iterate 6 refine Nv ?_;try refine .r rfl ?_)
 refine St.rng TBok (17) (0) (m) (by omega) [(4,.slice pu m cu),(16,.int .i64 m)] (fun i w'=>Ext w w'∧MatC ro w.heap.size w' (.slice pu m cu) (mk m m (fun a b=>if a=b∧a<i then 1 else 0))) sbb ?_ (fun _=>⟨rfl,rfl⟩) (fun _=>rfl) (fun _=>⟨rfl,rfl⟩) rfl rfl (by omega) ?_ ?_
 ·rw [mk_congr (g:=fun _ _=>0) (fun a b _ _=>by simp)]
  exact ⟨hx1,hC⟩
 ·clear hC hz
  rintro i w2 hi ⟨hx2,hC⟩
  have hrol:=hC.rsl
  rw [mk_len] at hrol
  obtain ⟨rr,hrr⟩:∃ rr,ro[i]?=some rr:=⟨ro[i]'(by omega),by simp⟩
  obtain ⟨a3,cp3,e3,hc3⟩:=hC.rows.get hrr
  simp only [Value.slice.injEq] at e3
  obtain ⟨rfl,e3l,rfl⟩:=e3
  (iterate 6 refine Nv ?_;try refine .r rfl ?_)
  refine St.sub (E':=[(17,.int .i64 i),(5,.int .i64 i),(4,.slice (some a3) m cu),(16,.int .i64 m)]) ?_ sbb
  refine St.flow 6 TBfol (by kernel_rfl) rfl (by kernel_rfl) rfl True.intro ?_
  refine FL.run TBok 99 rfl ?_
  refine .on (fun _ _=>RunsTo.ia) ?_
  refine .on (fun _ hR=>RunsTo.load TBok rfl rfl rfl (hR.ext_nil.cell hc3)) ?_
  refine FL.run TBok 99 rfl ?_
  refine FL.callE fn_r01_Small rfl rfl rfl (fun w4 hx4=>CallF.mk rfl (rsmall_spec (base:=0) w4 1 (by omega) (by omega) (Nat.zero_le _))) (MonoR.canO 0 _) ?_
  refine FL.endE rfl ?_
  intro w4 hx4 y hy _ _
  refine StL.putM (w0:=w) (hC.ext hx4) hrr (mk_get hi) (j:=i) (by simp;omega) hy (hx2.trans hx4) (Nat.le_refl _) rfl rfl rfl (fun _=>rfl) rfl rfl (fun _=>rfl) ?_
  intro p5 w5 hx5 hC5
  rw [mk_set hi hi] at hC5
  refine Nv ?_
  refine Out.rnd sbb ⟨hx5,?_⟩
  rw [mk_congr (g:=upd2 (fun a b=>if a=b∧a<i then 1 else 0) i i 1)]
  ·exact hC5
  ·intro a b _ _
   unfold upd2
   by_cases e:a=i∧b=i
   ·obtain ⟨rfl,rfl⟩:=e
    rw [if_pos ⟨rfl,by omega⟩,if_pos ⟨rfl,rfl⟩]
   ·rw [if_neg e]
    dsimp only
    by_cases e2:a=b∧a<i
    ·rw [if_pos e2,if_pos ⟨e2.1,by omega⟩]
    ·rw [if_neg e2,if_neg (by omega)]
 ·rintro w2 ⟨hx2,hC⟩
  rw [mk_congr (g:=idF) (fun a b ha _=>by
                        unfold idF;by_cases e:a=b;· rw [if_pos ⟨e,ha⟩,if_pos e]
                        ·rw [if_neg (fun h=>e h.1),if_neg e])] at hC
  (iterate 6 refine Nv ?_;try refine .r rfl ?_)
  exact Out.rets TBok [_,_] rfl ⟨rfl,rfl,trivial⟩ ⟨hx2,_,ro,rfl,hC.mono hbase⟩
def fil (G:Nat→Nat→Int) (i j:Nat):Nat→Nat→Int:=fun a b=>if a<i∨a=i∧b<j then G a b else 0
theorem fil_zero (r c:Nat) (G:Nat→Nat→Int):mk r c (fun _ _=>0)=mk r c (fil G 0 0):=mk_congr fun a b _ _=>by unfold fil;rw [if_neg (by omega)]
theorem fil_step (r c:Nat) (G:Nat→Nat→Int) (i j:Nat):mk r c (upd2 (fil G i j) i j (G i j))=mk r c (fil G i (j+1)):=mk_congr fun a b _ _=>by
 unfold upd2 fil
 by_cases e:a=i∧b=j
 ·obtain ⟨rfl,rfl⟩:=e
  rw [if_pos ⟨rfl,rfl⟩,if_pos (by omega)]
 ·rw [if_neg e]
  by_cases f:a<i∨a=i∧b<j
  ·rw [if_pos f,if_pos (by omega)]
  ·rw [if_neg f,if_neg (by omega)]
theorem fil_next (r c:Nat) (G:Nat→Nat→Int) (i:Nat):mk r c (fil G i c)=mk r c (fil G (i+1) 0):=mk_congr fun a b _ _=>by
 unfold fil
 by_cases f:a<i+1
 ·rw [if_pos (by omega),if_pos (by omega)]
 ·rw [if_neg (by omega),if_neg (by omega)]
theorem fil_done (r c:Nat) (G:Nat→Nat→Int):mk r c (fil G r 0)=mk r c G:=mk_congr fun a b _ _=>by
 unfold fil
 rw [if_pos (by omega)]
def filT (G:Nat→Nat→Int) (i j:Nat):Nat→Nat→Int:=fun a b=>fil (fun x y=>G y x) i j b a
theorem filT_zero (r c:Nat) (G:Nat→Nat→Int):mk r c (fun _ _=>0)=mk r c (filT G 0 0):=mk_congr fun a b _ _=>by unfold filT fil;rw [if_neg (by omega)]
theorem filT_step (r c:Nat) (G:Nat→Nat→Int) (i j:Nat):mk r c (upd2 (filT G i j) j i (G j i))=mk r c (filT G i (j+1)):=mk_congr fun a b _ _=>by
 unfold upd2 filT fil
 by_cases e:a=j∧b=i
 ·obtain ⟨rfl,rfl⟩:=e
  rw [if_pos ⟨rfl,rfl⟩,if_pos (by omega)]
 ·rw [if_neg e]
  by_cases f:b<i∨b=i∧a<j
  ·rw [if_pos f,if_pos (by omega)]
  ·rw [if_neg f,if_neg (by omega)]
theorem filT_next (r c:Nat) (G:Nat→Nat→Int) (i:Nat):mk r c (filT G i r)=mk r c (filT G (i+1) 0):=mk_congr fun a b _ _=>by
 unfold filT fil
 by_cases f:b<i+1
 ·rw [if_pos (by omega),if_pos (by omega)]
 ·rw [if_neg (by omega),if_neg (by omega)]
theorem filT_done (r c:Nat) (G:Nat→Nat→Int):mk r c (filT G c 0)=mk r c G:=mk_congr fun a b _ _=>by
 unfold filT fil
 rw [if_pos (by omega)]
theorem MatC.rowAt {rs:List Value} {base r c:Nat} {w:World} {p:Option Addr} {cap:Nat} {f:Nat→Nat→Int} (h:MatC rs base w (.slice p r cap) (mk r c f)) {i:Nat} (hi:i<r):∃ a rr,p=some a∧rs[i]?=some rr∧w.cell? (a.add i)=some rr:=by
 have hl:=h.rsl
 rw [mk_len] at hl
 have hrr:rs[i]?=some (rs[i]'(by omega)):=by simp
 obtain ⟨a,cp,e,hc⟩:=h.rows.get hrr
 simp only [Value.slice.injEq] at e
 exact ⟨a,_,e.1,hrr,hc⟩
theorem MatC.lenM {rs:List Value} {base r c:Nat} {w:World} {v:Value} {f:Nat→Nat→Int} (h:MatC rs base w v (mk r c f)):∃ p cap,v=.slice p r cap:=by
 obtain ⟨p,cap,hv⟩:=h.len
 rw [mk_len] at hv
 exact ⟨p,cap,hv⟩
set_option maxHeartbeats 1600000 in
theorem transpose_spec {base:Nat} {w:World} {v:Value} {r c:Nat} {f:Nat→Nat→Int} (h:MI w v (mk r c f)) (hr:1≤r∧r≤16) (hc:1≤c∧c≤16) (hbase:base≤w.heap.size) :
  Calls Tryz.prog 149 #[v] w (Ret fun x w'=>Ext w w'∧∃ u rs,x=.tuple #[u,.bool true]∧MatC rs base w' u (mk c r (fun a b=>f b a))):=by
 have hM:=h
 obtain ⟨a,cap,rfl,hP⟩:=h.mp hr.1 hc.1
 refine calls_of_St (args:=[_]) Tryz.func149 rfl Tryz.ntmps149 rfl ?_
 (iterate 6 refine Nv ?_;try refine .r rfl ?_)
 refine .s (OpR.call fn_r03_Shape rfl (shape_spec hM hr hc)) ?_
 rintro _ w1 ⟨hx1,rfl⟩
 (iterate 6 refine Nv ?_;try refine .r rfl ?_)
 refine .cF ?_
 (iterate 6 refine Nv ?_;try refine .r rfl ?_)
 refine .s (OpR.call fn_r03_Zero rfl (zero_spec (base:=w.heap.size) w1 c r (by omega) (by omega) hx1.size)) ?_
 rintro u w2 ⟨hx2,ro,hz⟩
 have hC:=hz.zeroC
 obtain ⟨pu,cu,rfl⟩:=hC.lenM
 (iterate 6 refine Nv ?_;try refine .r rfl ?_)
 refine St.rng TBok (23) (0) (r) (by omega) [(0,.slice (some a) r cap),(7,.slice pu c cu),(22,.int .i64 r)] (fun i w'=>Ext w w'∧MatC ro w.heap.size w' (.slice pu c cu) (mk c r (filT (fun a b=>f b a) i 0))) sbb ?_ (fun _=>⟨rfl,rfl⟩) (fun _=>rfl) (fun _=>⟨rfl,rfl⟩) rfl rfl (by omega) ?_ ?_
 ·rw [← filT_zero];exact ⟨hx1.trans hx2,hC⟩
 ·clear hC hz
  rintro i w3 hi ⟨hx3,hC⟩
  obtain ⟨b,o,cp,hcell,_⟩:=(hP.ext hx3) i hi
  (iterate 6 refine Nv ?_;try refine .r rfl ?_)
  refine .p (RunsTo.ia) ?_
  refine .p (RunsTo.load TBok rfl rfl rfl hcell) ?_
  (iterate 6 refine Nv ?_;try refine .r rfl ?_)
  refine St.rng TBok (31) (0) (c) (by omega) [(0,.slice (some a) r cap),(7,.slice pu c cu),(22,.int .i64 r),(23,.int .i64 i),(8,.int .i64 i),(30,.int .i64 c)] (fun j w'=>Ext w w'∧MatC ro w.heap.size w' (.slice pu c cu) (mk c r (filT (fun a b=>f b a) i j))) sbb ?_ (fun _=>⟨rfl,rfl⟩) (fun _=>rfl) (fun _=>⟨rfl,rfl⟩) rfl rfl (by omega) ?_ ?_
  ·exact ⟨hx3,hC⟩
  ·clear hC hcell
   rintro j w4 hj ⟨hx4,hC⟩
   obtain ⟨b,o,cp,hcell,e,C,hB,hg⟩:=(hP.ext hx4) i hi
   obtain ⟨y,hd,h1,h2⟩:=hg j hj
   obtain ⟨a3,rr,rfl,hrr,hc3⟩:=hC.rowAt hj
   (iterate 6 refine Nv ?_;try refine .r rfl ?_)
   refine St.sub (E':=[(31,.int .i64 j),(9,.int .i64 j),(0,.slice (some a) r cap),(7,.slice (some a3) c cu),(22,.int .i64 r),(23,.int .i64 i),(8,.int .i64 i),(30,.int .i64 c)]) ?_ sbb
   refine St.flow 13 TBfol (by kernel_rfl) rfl (by kernel_rfl) rfl True.intro ?_
   refine FL.run TBok 99 rfl ?_
   refine .on (fun _ _=>RunsTo.ia) ?_
   refine .on (fun _ hR=>RunsTo.load TBok rfl rfl rfl (hR.ext_nil.cell hc3)) ?_
   refine FL.run TBok 99 rfl ?_
   refine .on (fun _ _=>RunsTo.ia) ?_
   refine .on (fun _ hR=>RunsTo.load TBok rfl rfl rfl (hR.ext_nil.cell hcell)) ?_
   refine FL.run TBok 99 rfl ?_
   refine .on (fun _ _=>RunsTo.indexI rfl rfl rfl (by omega)) ?_
   refine .on (fun _ hR=>RunsTo.loadIt rfl (hR.blk hB (by simp)) h1 h2 hd.r2) ?_
   refine FL.callE fn_r01_Normalize rfl rfl rfl (fun w5 hx5=>CallF.mk rfl (rnormalize_dn (base:=0) (hd.ext hx5) (Nat.zero_le _))) (MonoR.canO 0 _) ?_
   refine FL.endE rfl ?_
   intro w5 hx5 z hz _ _
   refine StL.putM (w0:=w) (hC.ext hx5) hrr (mk_get hj) (j:=i) (by simp;omega) hz (hx4.trans hx5) (Nat.le_refl _) rfl rfl rfl (fun _=>rfl) rfl rfl (fun _=>rfl) ?_
   intro p6 w6 hx6 hC6
   rw [mk_set hj hi,filT_step c r (fun a b=>f b a)] at hC6
   refine Nv ?_
   exact Out.rnd sbb ⟨hx6,hC6⟩
  ·rintro w4 ⟨hx4,hC⟩
   rw [filT_next] at hC
   refine Nv ?_
   exact Out.rnd sbb ⟨hx4,hC⟩
 ·rintro w3 ⟨hx3,hC⟩
  rw [filT_done] at hC
  (iterate 6 refine Nv ?_;try refine .r rfl ?_)
  exact Out.rets TBok [_,_] rfl ⟨rfl,rfl,trivial⟩ ⟨hx3,_,ro,rfl,hC.mono hbase⟩
def mulF (m:Nat) (f g:Nat→Nat→Int):Nat→Nat→Int:=fun a b=>sumN m (fun k=>f a k * g k b)
set_option maxHeartbeats 1600000 in
theorem mulM_spec {base:Nat} {w:World} {u v:Value} {r m c:Nat} {f g:Nat→Nat→Int} (h:MI w u (mk r m f)) (k:MI w v (mk m c g)) (hr:1≤r∧r≤16) (hm:1≤m∧m≤16) (hc:1≤c∧c≤16) {s1 s2:Nat} (hs1:∀ a b,a<r→b<m→sz (f a b)≤s1) (hs2:∀ a b,a<m→b<c→sz (g a b)≤s2) (hs:s1+s2≤900000) (hbase:base≤w.heap.size) :
  Calls Tryz.prog 150 #[u,v] w (Ret fun x w'=>Ext w w'∧∃ y rs,x=.tuple #[y,.bool true]∧MatC rs base w' y (mk r c (mulF m f g))):=by
 have hM:=h
 have kM:=k
 obtain ⟨a,cap,rfl,hP⟩:=h.mp hr.1 hm.1
 obtain ⟨b,cb,rfl,_⟩:=k.mp hm.1 hc.1
 refine calls_of_St (args:=[_,_]) Tryz.func150 rfl Tryz.ntmps150 rfl ?_
 (iterate 6 refine Nv ?_;try refine .r rfl ?_)
 refine .s (OpR.call fn_r03_Shape rfl (shape_spec hM hr hm)) ?_
 rintro _ w1 ⟨hx1,rfl⟩
 (iterate 6 refine Nv ?_;try refine .r rfl ?_)
 refine .s (OpR.call fn_r03_Transpose rfl (transpose_spec (base:=0) (kM.ext hx1) hm hc (Nat.zero_le _))) ?_
 rintro _ w2 ⟨hx2,t,rt,rfl,hT⟩
 have hTM:MI w2 t (mk c m (fun a b=>g b a)):=hT.mi (by
  intro row hrow x hx
  obtain ⟨i,hi⟩:=List.mem_iff_getElem?.1 hrow
  have hic:i<c:=by have:=(List.getElem?_eq_some_iff.1 hi).1;rw [mk_len] at this;exact this
  rw [mk_get hic] at hi
  cases hi
  obtain ⟨j,hj⟩:=List.mem_iff_getElem?.1 hx
  have hjm:j<m:=by have:=(List.getElem?_eq_some_iff.1 hj).1;simpa using this
  rw [row_get hjm] at hj
  cases hj
  have:=hs2 j i hjm hic
  omega)
 obtain ⟨q,cq,rfl,hQ⟩:=hTM.mp hc.1 hm.1
 (iterate 6 refine Nv ?_;try refine .r rfl ?_)
 refine St.condF rfl (by simp) ?_
 (iterate 6 refine Nv ?_;try refine .r rfl ?_)
 refine .s (OpR.call fn_r03_Zero rfl (zero_spec (base:=w2.heap.size) w2 r c (by omega) (by omega) (Nat.le_refl _))) ?_
 rintro y w3 ⟨hx3,ro,hz⟩
 have hC:=hz.zeroC
 obtain ⟨pu,cu,rfl⟩:=hC.lenM
 have hx02:=hx1.trans hx2
 replace hP:=hP.ext hx02
 (iterate 6 refine Nv ?_;try refine .r rfl ?_)
 refine St.rng TBok (44) (0) (r) (by omega) [(0,.slice (some a) r cap),(9,.slice (some q) c cq),(11,.slice pu r cu),(43,.int .i64 r)] (fun i w'=>Ext w2 w'∧MatC ro w2.heap.size w' (.slice pu r cu) (mk r c (fil (mulF m f g) i 0))) sbb ?_ (fun _=>⟨rfl,rfl⟩) (fun _=>rfl) (fun _=>⟨rfl,rfl⟩) rfl rfl (by omega) ?_ ?_
 ·rw [← fil_zero];exact ⟨hx3,hC⟩
 ·clear hC hz
  rintro i w4 hi ⟨hx4,hC⟩
  (iterate 6 refine Nv ?_;try refine .r rfl ?_)
  refine St.rng TBok (49) (0) (c) (by omega) [(0,.slice (some a) r cap),(9,.slice (some q) c cq),(11,.slice pu r cu),(43,.int .i64 r),(44,.int .i64 i),(12,.int .i64 i),(48,.int .i64 c)] (fun j w'=>Ext w2 w'∧MatC ro w2.heap.size w' (.slice pu r cu) (mk r c (fil (mulF m f g) i j))) sbb ?_ (fun _=>⟨rfl,rfl⟩) (fun _=>rfl) (fun _=>⟨rfl,rfl⟩) rfl rfl (by omega) ?_ ?_
  ·exact ⟨hx4,hC⟩
  ·clear hC hx4
   rintro j w4 hj ⟨hx4,hC⟩
   obtain ⟨b1,o1,cp1,hcell1,hR1⟩:=(hP.ext hx4) i hi
   obtain ⟨b2,o2,cp2,hcell2,hR2⟩:=(hQ.ext hx4) j hj
   obtain ⟨a3,rr,rfl,hrr,hc3⟩:=hC.rowAt hi
   (iterate 6 refine Nv ?_;try refine .r rfl ?_)
   refine St.sub (E':=[(49,.int .i64 j),(13,.int .i64 j),(0,.slice (some a) r cap),(9,.slice (some q) c cq),(11,.slice (some a3) r cu),(43,.int .i64 r),(44,.int .i64 i),(12,.int .i64 i),(48,.int .i64 c)]) ?_ sbb
   refine St.flow 14 TBfol (by kernel_rfl) rfl (by kernel_rfl) rfl True.intro ?_
   refine FL.run TBok 99 rfl ?_
   refine .on (fun _ _=>RunsTo.ia) ?_
   refine .on (fun _ hR=>RunsTo.load TBok rfl rfl rfl (hR.ext_nil.cell hc3)) ?_
   refine FL.run TBok 99 rfl ?_
   refine .on (fun _ _=>RunsTo.ia) ?_
   refine .on (fun _ hR=>RunsTo.load TBok rfl rfl rfl (hR.ext_nil.cell hcell1)) ?_
   refine FL.run TBok 99 rfl ?_
   refine .on (fun _ _=>RunsTo.ia) ?_
   refine .on (fun _ hR=>RunsTo.load TBok rfl rfl rfl (hR.ext_nil.cell hcell2)) ?_
   refine FL.callE fn_r03_Dot rfl rfl rfl (fun w5 hx5=>CallF.mk rfl (dot_spec (hR1.ext hx5) (hR2.ext hx5) (Nat.le_refl _) (by omega) (s:=s1+s2) (fun x hx=>by show sz (f i x * g x j)≤_;have:=sz_mul (f i x) (g x j);have:=hs1 i x hi hx;have:=hs2 x j hx hj;omega) hs)) (MonoR.canO 0 _) ?_
   refine FL.endE rfl ?_
   intro w5 hx5 z hz _ _
   refine StL.putM (w0:=w2) (hC.ext hx5) hrr (mk_get hi) (j:=j) (by simp;omega) hz (hx4.trans hx5) (Nat.le_refl _) rfl rfl rfl (fun _=>rfl) rfl rfl (fun _=>rfl) ?_
   intro p6 w6 hx6 hC6
   change MatC ro w2.heap.size w6 _ (List.set _ i (List.set _ j (mulF m f g i j))) at hC6
   rw [mk_set hi hj,fil_step r c (mulF m f g)] at hC6
   refine Nv ?_
   refine Out.rnd sbb ⟨hx6,hC6⟩
  ·rintro w5 ⟨hx5,hC⟩
   rw [fil_next] at hC
   refine Nv ?_
   exact Out.rnd sbb ⟨hx5,hC⟩
 ·rintro w4 ⟨hx4,hC⟩
  rw [fil_done] at hC
  (iterate 6 refine Nv ?_;try refine .r rfl ?_)
  exact Out.rets TBok [_,_] rfl ⟨rfl,rfl,trivial⟩ ⟨hx02.trans hx4,_,ro,rfl,hC.mono (Nat.le_trans hbase hx02.size)⟩
theorem productM_spec {base:Nat} {w:World} {u v:Value} {r m c:Nat} {f g:Nat→Nat→Int} (h:MI w u (mk r m f)) (k:MI w v (mk m c g)) (hr:1≤r∧r≤16) (hm:1≤m∧m≤16) (hc:1≤c∧c≤16) {s1 s2:Nat} (hs1:∀ a b,a<r→b<m→sz (f a b)≤s1) (hs2:∀ a b,a<m→b<c→sz (g a b)≤s2) (hs:s1+s2≤900000) (hbase:base≤w.heap.size) :
  Calls Tryz.prog 84 #[u,v] w (Ret fun x w'=>Ext w w'∧∃ rs,MatC rs base w' x (mk r c (mulF m f g))):=by
 refine calls_of_St (args:=[_,_]) Tryz.func84 rfl Tryz.ntmps84 rfl ?_
 (iterate 6 refine Nv ?_;try refine .r rfl ?_)
 refine .s (OpR.call fn_r03_Mul rfl (mulM_spec h k hr hm hc hs1 hs2 hs hbase)) ?_
 rintro _ w1 ⟨hx1,y,rs,rfl,hC⟩
 (iterate 6 refine Nv ?_;try refine .r rfl ?_)
 exact Out.ret1 rfl rfl ⟨hx1,rs,hC⟩
theorem sz_mulF {r m c:Nat} {f g:Nat→Nat→Int} {s1 s2:Nat} (hs1:∀ a b,a<r→b<m→sz (f a b)≤s1) (hs2:∀ a b,a<m→b<c→sz (g a b)≤s2):∀ a b,a<r→b<c→sz (mulF m f g a b)≤s1+s2+m:=by
 intro a b ha hb
 refine sz_sumN (s:=s1+s2) m fun i hi=>?_
 have:=sz_mul (f a i) (g i b)
 have:=hs1 a i ha hi
 have:=hs2 i b hi hb
 omega
theorem szM {r c:Nat} {f:Nat→Nat→Int} {s:Nat} (h:∀ a b,a<r→b<c→sz (f a b)≤s):∀ row ∈ mk r c f,∀ x ∈ row,sz x≤s:=by
 intro row hrow x hx
 obtain ⟨i,hi⟩:=List.mem_iff_getElem?.1 hrow
 have hic:i<r:=by have:=(List.getElem?_eq_some_iff.1 hi).1;rw [mk_len] at this;exact this
 rw [mk_get hic] at hi
 cases hi
 obtain ⟨j,hj⟩:=List.mem_iff_getElem?.1 hx
 have hjm:j<c:=by have:=(List.getElem?_eq_some_iff.1 hj).1;simpa using this
 rw [row_get hjm] at hj
 cases hj
 exact h i j hic hjm
theorem MatC.miS {rs:List Value} {base r c:Nat} {w:World} {v:Value} {f:Nat→Nat→Int} {s:Nat} (h:MatC rs base w v (mk r c f)) (hs:∀ a b,a<r→b<c→sz (f a b)≤s) (h1:s≤1000000):MI w v (mk r c f) :=
 h.mi fun row hrow x hx=>Nat.le_trans (szM hs row hrow x hx) h1
theorem congruent_spec {base:Nat} {w:World} {u v:Value} {n:Nat} {f g:Nat→Nat→Int} (h:MI w u (mk n n f)) (k:MI w v (mk n n g)) (hn:1≤n∧n≤16) {s1 s2:Nat} (hs1:∀ a b,a<n→b<n→sz (f a b)≤s1) (hs2:∀ a b,a<n→b<n→sz (g a b)≤s2) (hs:s1+2 * s2≤800000) (hbase:base≤w.heap.size) :
  Calls Tryz.prog 83 #[u,v] w (Ret fun x w'=>Ext w w'∧∃ rs,MatC rs base w' x (mk n n (mulF n (mulF n (fun a b=>g b a) f) g))):=by
 have hsT:∀ a b,a<n→b<n→sz ((fun a b=>g b a) a b)≤s2:=fun a b ha hb=>hs2 b a hb ha
 refine calls_of_St (args:=[_,_]) Tryz.func83 rfl Tryz.ntmps83 rfl ?_
 (iterate 6 refine Nv ?_;try refine .r rfl ?_)
 refine .s (OpR.call fn_r03_Transpose rfl (transpose_spec (base:=0) k hn hn (Nat.zero_le _))) ?_
 rintro _ w1 ⟨hx1,t,rt,rfl,hT⟩
 have hTM:=hT.miS hsT (by omega)
 (iterate 6 refine Nv ?_;try refine .r rfl ?_)
 refine .s (OpR.call fn_r03_Product rfl (productM_spec (base:=0) hTM (h.ext hx1) hn hn hn hsT hs1 (by omega) (Nat.zero_le _))) ?_
 rintro y w2 ⟨hx2,ry,hY⟩
 have hsY:=sz_mulF hsT hs1
 have hYM:=hY.miS hsY (by omega)
 refine .r rfl ?_
 refine .s (OpR.call fn_r03_Product rfl (productM_spec (base:=base) hYM ((k.ext hx1).ext hx2) hn hn hn hsY hs2 (by omega) (Nat.le_trans hbase (hx1.trans hx2).size))) ?_
 rintro z w3 ⟨hx3,rz,hZ⟩
 (iterate 6 refine Nv ?_;try refine .r rfl ?_)
 exact Out.ret1 rfl rfl ⟨(hx1.trans hx2).trans hx3,rz,hZ⟩
def Cel (k:Nat) (u:Value):Prop:=(k=1∧u.cells=#[u]∧u.oneCell'=true)∨(k=2∧∃ x y,u.cells=#[x,y]∧x.oneCell'=true∧y.oneCell'=true)
theorem Cel.sh {k:Nat} {u:Value} (h:Cel k u):u.cells.toList.length=k∧∀ c ∈ u.cells.toList,c.oneCell'=true:=by
 rcases h with ⟨rfl,h1,h2⟩ | ⟨rfl,x,y,h1,h2,h3⟩
 ·rw [h1];exact ⟨rfl,by simpa using h2⟩
 ·rw [h1];exact ⟨rfl,by simpa using ⟨h2,h3⟩⟩
theorem Dn.cel {w:World} {v:Value} {a:Int} (h:Dn w v a):Cel 2 v:=by
 obtain ⟨k,s,rfl,hs⟩:=h.r2
 refine .inr ⟨rfl,.bool k,s,rfl,rfl,?_⟩
 simpa [Value.oneCell'] using hs
theorem RowO.owns {k:Nat} {e:TypeId} {base:Nat} {w:World} {v:Value} {us:List Value} (h:RowO k e base w v us):w.ownsRow base e k v us.length (flat us):=by
 refine ⟨by rw [h.1.flat,Nat.mul_comm],?_⟩
 rcases h.2 with ⟨hv,h0⟩ | ⟨g,cap,D,hv,hg,hb,h1,h2,h3⟩
 ·exact .inl ⟨hv,by rw [h0];rfl⟩
 ·refine .inr ⟨g,cap,(flat us++D).toArray,hv,hg,hb,h2,h3,?_,?_⟩
  ·rw [List.size_toArray,List.length_append,h.1.flat];exact h1
  ·show (flat us++D).take _=_
   rw [List.take_append_of_le_length (by rw [h.1.flat,Nat.mul_comm];exact Nat.le_refl _),List.take_of_length_le (by rw [h.1.flat,Nat.mul_comm];exact Nat.le_refl _)]
theorem RowO.of_owns {k:Nat} {e:TypeId} {base:Nat} {w:World} {v:Value} {us:List Value} (hs:ShK k us) (h:w.ownsRow base e k v us.length (flat us)):RowO k e base w v us:=by
 refine ⟨hs,?_⟩
 rcases h.2 with ⟨hv,h0⟩ | ⟨g,cap,cur,hv,hg,hb,h1,h2,h3,h4⟩
 ·exact .inl ⟨hv,List.eq_nil_of_length_eq_zero h0⟩
 ·have e1:cur.toList=flat us++cur.toList.drop (us.length * k):=by
   rw [← h4,List.take_append_drop]
  have e2:(flat us++cur.toList.drop (us.length * k)).toArray=cur:=by
   rw [← e1]
  have hle:us.length * k≤cap * k:=Nat.mul_le_mul_right _ h1
  refine .inr ⟨g,cap,cur.toList.drop (us.length * k),hv,hg,?_,?_,h1,h2⟩
  ·show w.heap[g]?=some (.cells (flat us++cur.toList.drop (us.length * k)).toArray e (0,0))
   rw [e2];exact hb
  ·have hl:cur.toList.length=cap * k:=by simpa using h3
   rw [List.length_drop,Nat.mul_comm k,hl];omega
theorem OpR.singleK {n:Nat} {E:List (Nat×Value)} {w:World} {d:Option Tmp} {t:TypeId} {x:Operand} {ty:TypeId} {pos:String} {af:Array Edge} {g:Option (Nat×Bool)} {et:TypeId} {s1 s2:Nat} {z:Value} {ti:TI} {u:Value} {k:Nat}
  (ht:lookT TB t=some ⟨.slice et,s1,s2,z⟩) (hte:lookT TB et=some ti) (hsz:ti.size=k) (hz:ti.zero.cells.size=k) (hx:ov E x=some u) (hu:Cel k u) :
  OpR Tryz.prog n ⟨d,.buildSlice t 1 #[(0,x)],ty,pos,af,g⟩ E w (fun v w'=>v=.slice (some ⟨w.heap.size,0,none⟩) 1 1∧Blk et w' w.heap.size u.cells.toList∧Ext w w'∧w'.heap.size=w.heap.size+1):=by
 intro a ha Q K hK
 obtain ⟨_,inf,hi,hsize,hby,hzero⟩:=TBok et ti hte
 have e1:=ha.eval hx
 have hrun:(execOp a.eval ⟨d,.buildSlice t 1 #[(0,x)],ty,pos,af,g⟩).run Tryz.prog w=.ok (.value (.slice (some ⟨w.heap.size,0,none⟩) 1 1)) (w.alloc (.cells u.cells et (0,0))):=by
  generalize a.eval=ρ at e1
  have hf:∀ zc:Array Value,zc.size=k→Instr.fill (fun i=>some (i * k,k)) ((Array.range (1 * k)).map (zc[· % zc.size]!)) [(0,u)]=some u.cells:=by
   intro zc hzc
   unfold Instr.fill
   rcases hu with ⟨rfl,h1,h2⟩ | ⟨rfl,y1,y2,h1,h2,h3⟩
   ·rw [h1]
    simp [Instr.fill,show Array.range 1=#[0] from rfl]
   ·rw [h1]
    simp [Instr.fill,show Array.range 2=#[0,1] from rfl]
  have hk0:¬ 1 * k=0:=by rcases hu with ⟨rfl,_⟩ | ⟨rfl,_⟩ <;> decide
  have hk1:¬ 1 * k > 2 ^ 24:=by rcases hu with ⟨rfl,_⟩ | ⟨rfl,_⟩ <;> decide
  have hb:(Instr.buildSlice t 1 #[(0,u)]).run Tryz.prog w=.ok (.slice (some ⟨w.heap.size,0,none⟩) 1 1) (w.alloc (.cells u.cells et (0,0))):=by
   unfold Instr.buildSlice
   simp only [Sem.run_bind,run_underlying_T TBok ht,Result.andThen_ok,run_sizeOf_T TBok hte,hsz,if_neg hk0,if_neg hk1,zeroValue,run_typeInfo hi,hzero,Sem.run_pure,hf _ hz]
   simp [newRow,go_sem]
  simp only [execOp,List.map_toArray,List.map_cons,List.map_nil,e1,Sem.run_bind,hb,Result.andThen_ok,Sem.run_pure]
 unfold Oper.wp
 rw [hrun,Oper.upon_value]
 refine hK _ _ ⟨rfl,?_,ext_alloc _ _,size_alloc1 _ _⟩
 exact blk_alloc _ _ _
theorem flat_snoc (us:List Value) (u:Value):flat (us++[u])=flat us++u.cells.toList:=by
 unfold flat
 rw [List.flatMap_append]
 simp
theorem grown_cases {k:Nat} {e:TypeId} {base:Nat} {w w':World} {v:Value} {us:List Value} (h:RowO k e base w v us) (hg:w.grownBy w' v.ownBlock):Ext w w'∨∃ b C,v.ownBlock=some b∧base≤b∧Blk e w b C∧Upd b w w':=by
 rcases h.2 with ⟨hv,_⟩ | ⟨g,cap,D,hv,hb,hbk,_⟩
 ·subst hv
  exact .inl ⟨hg.os,hg.tape,hg.output,hg.size,fun j hj=>hg.block j hj (by simp [Value.ownBlock])⟩
 ·have e1:v.ownBlock=some g:=by rw [hv];rfl
  exact .inr ⟨g,_,e1,hb,hbk,hg.os,hg.tape,hg.output,hg.size,fun j hj hne=>hg.block j hj (by rw [e1];intro h2;exact hne (by simpa using h2))⟩
section
variable {n:Nat} {E:List (Nat×Value)} {w:World} {ops:Array Oper} {rest:List Oper} {Q:Exit→Act→World→Prop}
theorem OpR.appK {d:Option Tmp} {t:TypeId} {s x:Operand} {ty:TypeId} {pos:String} {af:Array Edge} {g:Option (Nat×Bool)} {et:TypeId} {s1 s2:Nat} {z:Value} {ti:TI} {u v:Value} {k base b:Nat} {us:List Value}
  (h:RowO k et base w v us) (hu:Cel k u) (B:Blk et w b u.cells.toList) (ht:lookT TB t=some ⟨.slice et,s1,s2,z⟩) (hte:lookT TB et=some ti) (hsz:ti.size=k) (hz:ti.zero.cells.size=k) (hk:Nat.blt 0 k=true) (hs:ov E s=some v) (hx:ov E x=some (.slice (some ⟨b,0,none⟩) 1 1))
  (hlen:us.length≤1000000) (hby:Nat.ble ti.bytes 1000=true) (hbase:base≤w.heap.size) :
  OpR Tryz.prog n ⟨d,.call ⟨.builtin .append,#[s,x],#[t,t]⟩,ty,pos,af,g⟩ E w (fun v' w'=>RowO k et base w' v' (us++[u])∧w.grownBy w' v.ownBlock∧(v'.ownBlock=v.ownBlock∨v'.ownBlock=some w.heap.size)):=by
 obtain ⟨hu1,_⟩:=TBok t _ ht
 obtain ⟨_,inf,hi,hsize,hbi,hzero⟩:=TBok et ti hte
 have hby':ti.bytes≤1000:=Nat.le_of_ble_eq_true hby
 have hk':0<k:=by simpa [Nat.blt_eq] using hk
 obtain ⟨v',w',hr,h2,h3,h4,h5⟩:=run_append_own_at (P:=Tryz.prog) w base t ty et inf ti.zero k ti.bytes hu1 hi hzero (hsize.trans hsz) hbi hz hk' v us.length (flat us) h.owns ⟨b,0,none⟩ 1 1 u.cells.toList (by rw [hu.sh.1,Nat.one_mul])
  (fun j c hj=>by rw [addr_add,Nat.zero_add];exact B.cell hj) hu.sh.2 (by unfold maxLen;omega) (by
   have:(us.length+1) * ti.bytes≤1000001 * 1000:=Nat.mul_le_mul (by omega) hby'
   omega) hbase
 have hsh:ShK k (us++[u]):=by
  intro c hc
  rcases List.mem_append.1 hc with hc | hc
  ·exact h.1 c hc
  ·rw [List.mem_singleton.1 hc];exact hu.sh
 rw [← flat_snoc] at h2
 intro a ha Q' K hK
 have e1:=ha.eval hs
 have e2:=ha.eval hx
 have hrun:(execOp a.eval ⟨d,.call ⟨.builtin .append,#[s,x],#[t,t]⟩,ty,pos,af,g⟩).run Tryz.prog w=.ok (.value v') w':=by
  generalize a.eval=ρ at e1 e2
  simp only [execOp,resolve,invoke,builtin,Sem.run_bind,Sem.run_pure,Result.andThen_ok,List.map_toArray,List.map_cons,List.map_nil,e1,e2,hr]
 unfold Oper.wp
 rw [hrun,Oper.upon_value]
 exact hK v' w' ⟨RowO.of_owns hsh (by rw [List.length_append];exact h2),h3,h5⟩
theorem StL.app2 {d1 d2:Nat} {t:TypeId} {s x:Operand} {ty ty2:TypeId} {pos pos2:String} {af af2:Array Edge} {et:TypeId} {s1 s2:Nat} {z:Value} {ti:TI} {u v:Value} {k base:Nat} {us:List Value}
  (h:RowO k et base w v us) (hu:Cel k u) (ht:lookT TB t=some ⟨.slice et,s1,s2,z⟩) (hte:lookT TB et=some ti) (hsz:ti.size=k) (hz:ti.zero.cells.size=k) (hk:Nat.blt 0 k=true) (hx:ov E x=some u) (hs:∀ p,ov ((d1,p)::E) s=some v)
  (hn1:Nat.blt d1 n=true) (hn2:Nat.blt d2 n=true) (hlen:us.length≤1000000) (hby:Nat.ble ti.bytes 1000=true) (hbase:base≤w.heap.size)
  (next:∀ p v' w',RowO k et base w' v' (us++[u])→(∀ w0,Ext w0 w→w0.heap.size≤base→Ext w0 w')→(∀ t' b C,Blk t' w b C→t'≠et∨v.ownBlock≠some b→Blk t' w' b C)→(v'.ownBlock=v.ownBlock∨∃ b,v'.ownBlock=some b∧w.heap.size≤b)→(139≠et→∀ bs u a,CanO bs w u a→CanO bs w' u a)→StL Tryz.prog n ((d2,v')::(d1,p)::E) w' ops rest Q) :
  StL Tryz.prog n E w ops (⟨some d1,.buildSlice t 1 #[(0,x)],ty,pos,af,none⟩::⟨some d2,.call ⟨.builtin .append,#[s,.tmp d1],#[t,t]⟩,ty2,pos2,af2,none⟩::rest) Q:=by
 refine StL.step rfl rfl hn1 (OpR.singleK ht hte hsz hz hx hu) ?_
 rintro _ w1 ⟨rfl,B,hx1,hz1⟩
 have h1:=h.ext hx1
 refine StL.step rfl rfl hn2 (OpR.appK h1 hu B ht hte hsz hz hk (hs _) (look_cons_self _ _ _) hlen hby (Nat.le_trans hbase hx1.size)) ?_
 rintro v' w' ⟨hR,h3,h5⟩
 refine next _ _ _ hR ?_ ?_ (h5.imp id fun e=>⟨_,e,hx1.size⟩) ?_
 ·intro w0 hx0 hb0
  have hx01:=hx0.trans hx1
  rcases grown_cases h1 h3 with hE | ⟨b,C,_,hb,_,hU⟩
  ·exact hx01.trans hE
  ·exact hx01.then_upd hU (by omega)
 ·intro t' b C hB hne
  have hB1:=hB.ext hx1
  rcases grown_cases h1 h3 with hE | ⟨b',C',hb',hb,hBk,hU⟩
  ·exact hB1.ext hE
  ·refine hB1.upd hU ?_
   intro e
   subst e
   rcases hne with hne | hne
   ·have:=hB1.symm.trans hBk
    simp only [Option.some.injEq,Obj.cells.injEq] at this
    exact hne this.2.1
   ·exact hne hb'
 ·intro hne bs u a hc
  rcases grown_cases h1 h3 with hE | ⟨b',C',hb',hb,hBk,hU⟩
  ·exact (hc.ext hx1).ext hE
  ·exact (hc.ext hx1).updT hU hBk hne
theorem StL.app {d1 d2:Nat} {t:TypeId} {s x:Operand} {ty ty2:TypeId} {pos pos2:String} {af af2:Array Edge} {et:TypeId} {s1 s2:Nat} {z:Value} {ti:TI} {u v:Value} {k base:Nat} {us:List Value}
  (h:RowO k et base w v us) (hu:Cel k u) (ht:lookT TB t=some ⟨.slice et,s1,s2,z⟩) (hte:lookT TB et=some ti) (hsz:ti.size=k) (hz:ti.zero.cells.size=k) (hk:Nat.blt 0 k=true) (hx:ov E x=some u) (hs:∀ p,ov ((d1,p)::E) s=some v)
  (hn1:Nat.blt d1 n=true) (hn2:Nat.blt d2 n=true) (hlen:us.length≤1000000) (hby:Nat.ble ti.bytes 1000=true) (hbase:base≤w.heap.size)
  (next:∀ p v' w',RowO k et base w' v' (us++[u])→(∀ w0,Ext w0 w→w0.heap.size≤base→Ext w0 w')→(∀ t' b C,Blk t' w b C→t'≠et∨v.ownBlock≠some b→Blk t' w' b C)→StL Tryz.prog n ((d2,v')::(d1,p)::E) w' ops rest Q) :
  StL Tryz.prog n E w ops (⟨some d1,.buildSlice t 1 #[(0,x)],ty,pos,af,none⟩::⟨some d2,.call ⟨.builtin .append,#[s,.tmp d1],#[t,t]⟩,ty2,pos2,af2,none⟩::rest) Q :=
 StL.app2 h hu ht hte hsz hz hk hx hs hn1 hn2 hlen hby hbase fun p v' w' h1 h2 h3 _ _=>next p v' w' h1 h2 h3
end
def nI (x:Nat):Value:=.int .i64 x
def tabN (m:Nat) (ρ:Nat→Nat):List Value:=(List.range m).map fun x=>nI (ρ x)
theorem tabN_len (m:Nat) (ρ:Nat→Nat):(tabN m ρ).length=m:=by simp [tabN]
theorem tabN_get {m:Nat} {ρ:Nat→Nat} {j:Nat} (h:j<m):(tabN m ρ)[j]?=some (nI (ρ j)):=by simp [tabN,h]
theorem tabN_succ (m:Nat) (ρ:Nat→Nat):tabN (m+1) ρ=tabN m ρ++[nI (ρ m)]:=by simp [tabN,List.range_succ]
theorem tabN_congr {m:Nat} {ρ σ:Nat→Nat} (h:∀ j,j<m→ρ j=σ j):tabN m ρ=tabN m σ:=by
 unfold tabN
 exact List.map_congr_left fun j hj=>by rw [h j (List.mem_range.1 hj)]
theorem tabN_one (m:Nat) (ρ:Nat→Nat):∀ u ∈ tabN m ρ,u.cells=#[u]:=by
 intro u hu
 obtain ⟨x,_,rfl⟩:=List.mem_map.1 hu
 rfl
theorem cel_nI (x:Nat):Cel 1 (nI x):=.inl ⟨rfl,rfl,rfl⟩
def fstR (k m:Nat) (x:Nat):Nat:=if x<k then x else m
set_option maxHeartbeats 1600000 in
theorem first_spec {base:Nat} (w:World) (k m:Nat) (hk:k≤1000) (hm:m≤1000) (hbase:base≤w.heap.size) :
  Calls Tryz.prog 123 #[.int .i64 k,.int .i64 m] w (Ret fun r w'=>Ext w w'∧RowO 1 3 base w' r (tabN (k+1) (fstR k m))):=by
 refine calls_of_St (args:=[_,_]) Tryz.func123 rfl Tryz.ntmps123 rfl ?_
 (iterate 6 refine Nv ?_;try refine .r rfl ?_)
 refine St.rngCG TBok (6) (0) (k) (by omega) (fun g:Value=>[(0,.int .i64 k),(1,.int .i64 m),(5,g)]) (fun i g w'=>Ext w w'∧RowO 1 3 w.heap.size w' g (tabN i id)) (.slice none 0 0) sbb ?_ (fun _ _=>⟨rfl,rfl⟩) (fun _ _=>rfl) (fun _ _=>⟨rfl,rfl⟩) (fun _=>rfl) (fun _=>rfl) (by omega) ?_ ?_
 ·exact ⟨Ext.refl _,RowO.nil⟩
 ·rintro i g w1 hi ⟨hx1,hR⟩
  (iterate 6 refine Nv ?_;try refine .r rfl ?_)
  refine StL.app hR (cel_nI i) rfl rfl rfl rfl rfl rfl (fun _=>rfl) rfl rfl (by rw [tabN_len];omega) rfl hx1.size ?_
  intro p v' w2 hR2 hX hB
  (iterate 6 refine Nv ?_;try refine .r rfl ?_)
  refine Out.rndG v' sbb ⟨hX w hx1 (Nat.le_refl _),?_⟩
  rw [tabN_succ];exact hR2
 ·rintro g w1 ⟨hx1,hR⟩
  (iterate 6 refine Nv ?_;try refine .r rfl ?_)
  refine StL.app hR (cel_nI m) rfl rfl rfl rfl rfl rfl (fun _=>rfl) rfl rfl (by rw [tabN_len];omega) rfl hx1.size ?_
  intro p v' w2 hR2 hX hB
  (iterate 6 refine Nv ?_;try refine .r rfl ?_)
  refine Out.ret1 rfl rfl ⟨hX w hx1 (Nat.le_refl _),?_⟩
  have e:tabN (k+1) (fstR k m)=tabN k id++[nI m]:=by
   rw [tabN_succ]
   congr 1
   ·exact tabN_congr fun j hj=>by unfold fstR;rw [if_pos hj];rfl
   ·unfold fstR;rw [if_neg (by omega)]
  rw [e];exact hR2.mono hbase
theorem RowO.liD {base:Nat} {w w0:World} {v:Value} {us:List Value} {xs:List Int} (h:RowO 2 31 base w v us) (hl:us.length=xs.length) (hd:∀ (j:Nat) (u:Value) (x:Int),us[j]?=some u→xs[j]?=some x→Dn w0 u x) (hx:Ext w0 w):LI w v xs :=
 h.li hl (fun j u x a b=>(hd j u x a b).ext hx)
def SelR (w0 w:World) (base:Nat) (r:Value) (c:Nat) (g:Nat→Int):Prop:=∃ us,RowO 2 31 base w r us∧us.length=c∧∀ (j:Nat) (u:Value),us[j]?=some u→Dn w0 u (g j)
theorem SelR.keep {w0 w w':World} {base:Nat} {r:Value} {c:Nat} {g:Nat→Int} (h:SelR w0 w base r c g) (hB:∀ t' b C,Blk t' w b C→t'=31→Blk t' w' b C):SelR w0 w' base r c g:=by
 obtain ⟨us,hR,hl,hd⟩:=h
 refine ⟨us,⟨hR.1,?_⟩,hl,hd⟩
 rcases hR.2 with h0 | ⟨b,cap,D,hv,hg,hb,r1⟩
 ·exact .inl h0
 ·exact .inr ⟨b,cap,D,hv,hg,hB _ b _ hb rfl,r1⟩
theorem SelR.li {w0 w:World} {base:Nat} {r:Value} {c:Nat} {g:Nat→Int} (h:SelR w0 w base r c g) (hx:Ext w0 w):LI w r (tab c g):=by
 obtain ⟨us,hR,hl,hd⟩:=h
 refine hR.liD (by rw [tab_len];exact hl) (fun j u x hu hxx=>?_) hx
 have hlt:j<c:=by have:=(List.getElem?_eq_some_iff.1 hxx).1;rw [tab_len] at this;exact this
 rw [tab_get hlt] at hxx
 cases hxx
 exact hd j u hu
theorem SelR.one {w0 w:World} {base:Nat} {r:Value} {c:Nat} {g:Nat→Int} (h:SelR w0 w base r c g):Cel 1 r:=by
 obtain ⟨us,hR,hl,hd⟩:=h
 obtain ⟨p,cap,rfl⟩:=hR.len
 exact .inl ⟨rfl,rfl,rfl⟩
set_option maxHeartbeats 3200000 in
theorem select_spec {w:World} {v u1 u2:Value} {r c m k:Nat} {f:Nat→Nat→Int} {ρ σ:Nat→Nat} (h:MI w v (mk r c f)) (hr:1≤r∧r≤16) (hc:1≤c∧c≤16) (h1:Row 3 w u1 (tabN m ρ)) (h2:Row 3 w u2 (tabN k σ)) (hm:m≤1000) (hk:k≤1000) (hρ:∀ x,x<m→ρ x<r) (hσ:∀ x,x<k→σ x<c) :
  Calls Tryz.prog 122 #[v,u1,u2] w (Ret fun y w'=>Ext w w'∧MI w' y (mk m k (fun a b=>f (ρ a) (σ b)))):=by
 obtain ⟨a,cap,rfl,hP⟩:=h.mp hr.1 hc.1
 obtain ⟨p1,c1,rfl⟩:=h1.len
 obtain ⟨p2,c2,rfl⟩:=h2.len
 rw [tabN_len] at h1 h2 ⊢
 rw [tabN_len]
 refine calls_of_St (args:=[_,_,_]) Tryz.func122 rfl Tryz.ntmps122 rfl ?_
 (iterate 6 refine Nv ?_;try refine .r rfl ?_)
 refine St.rngG TBok (15) (0) (m) (by omega) (fun g:Value×List Value=>[(0,.slice (some a) r cap),(1,.slice p1 m c1),(2,.slice p2 k c2),(13,.slice p1 m c1),(14,.int .i64 m),(7,g.1)]) (fun i g w'=>Ext w w'∧RowO 1 45 w.heap.size w' g.1 g.2∧g.2.length=i∧∀ (x:Nat) (r:Value),g.2[x]?=some r→SelR w w' w.heap.size r k (fun b=>f (ρ x) (σ b))) ((.slice none 0 0,[])) sbb ?_ (fun _ _=>⟨rfl,rfl⟩) (fun _ _=>rfl) (fun _ _=>⟨rfl,rfl⟩) (fun _=>rfl) (fun _=>rfl) (by omega) ?_ ?_
 ·exact ⟨Ext.refl _,RowO.nil,rfl,fun x r h=>by simp at h⟩
 ·rintro i ⟨out,rs⟩ w1 hi ⟨hx1,hO,hl,hrs⟩
  dsimp only at hO hl hrs ⊢
  refine Nv ?_
  refine StL.elem TBok i _ (h1.ext hx1) (tabN_get hi) rfl rfl rfl rfl rfl rfl rfl rfl rfl rfl rfl (fun _=>rfl) ?_
  intro p
  (iterate 6 refine Nv ?_;try refine .r rfl ?_)
  refine St.rngG TBok (21) (0) (k) (by omega) (fun g:Value=>[(0,.slice (some a) r cap),(1,.slice p1 m c1),(2,.slice p2 k c2),(13,.slice p1 m c1),(14,.int .i64 m),(7,out),(15,.int .i64 i),(9,nI (ρ i)),(19,.slice p2 k c2),(20,.int .i64 k),(10,g)]) (fun j g w'=>Ext w1 w'∧∃ us,RowO 2 31 w1.heap.size w' g us∧us.length=j∧∀ (x:Nat) (u:Value),us[x]?=some u→Dn w u (f (ρ i) (σ x))) (.slice none 0 0) sbb ?_ (fun _ _=>⟨rfl,rfl⟩) (fun _ _=>rfl) (fun _ _=>⟨rfl,rfl⟩) (fun _=>rfl) (fun _=>rfl) (by omega) ?_ ?_
  ·exact ⟨Ext.refl _,[],RowO.nil,rfl,fun x r h=>by simp at h⟩
  ·rintro j g w2 hj ⟨hx2,us,hR,hul,hus⟩
   have hx02:=hx1.trans hx2
   obtain ⟨b,o,cp,hcell,e,C,hBk,hg⟩:=hP (ρ i) (hρ i hi)
   obtain ⟨y,hd,k1,k2⟩:=hg (σ j) (hσ j hj)
   have hlt1:=hρ i hi
   have hlt2:=hσ j hj
   have hcell':=hx02.cell hcell
   have hBk':=hBk.ext hx02
   refine Nv ?_
   refine StL.elem TBok j _ (h2.ext hx02) (tabN_get hj) rfl rfl rfl rfl rfl rfl rfl rfl rfl rfl rfl (fun _=>rfl) ?_
   intro p'
   unfold nI
   (iterate 6 refine Nv ?_;try refine .r rfl ?_)
   refine .p (RunsTo.ia) ?_
   refine .p (RunsTo.load TBok rfl rfl rfl hcell') ?_
   refine .r rfl ?_
   refine .p (RunsTo.indexI rfl rfl rfl (by omega)) ?_
   refine .p (RunsTo.loadIt rfl hBk' k1 k2 hd.r2) ?_
   refine StL.app hR hd.cel rfl rfl rfl rfl rfl rfl (fun _=>rfl) rfl rfl (by omega) rfl hx2.size ?_
   intro p3 v' w3 hR3 hX hB
   (iterate 6 refine Nv ?_;try refine .r rfl ?_)
   refine Out.rndG v' sbb ⟨hX w1 hx2 (Nat.le_refl _),_,hR3,by simp;omega,?_⟩
   intro x u hu
   by_cases hx:x<us.length
   ·rw [List.getElem?_append_left hx] at hu
    exact hus x u hu
   ·have hxe:x=us.length:=by
     have:=(List.getElem?_eq_some_iff.1 hu).1
     simp at this;omega
    subst hxe
    simp at hu
    subst hu
    rw [hul]
    exact hd
  ·rintro g w2 ⟨hx2,us,hR,hul,hus⟩
   have hS:SelR w w2 w.heap.size g k (fun b=>f (ρ i) (σ b)):=⟨us,hR.mono hx1.size,hul,hus⟩
   have hO2:=hO.ext hx2
   (iterate 6 refine Nv ?_;try refine .r rfl ?_)
   refine StL.app hO2 hS.one rfl rfl rfl rfl rfl rfl (fun _=>rfl) rfl rfl (by omega) rfl (hx1.trans hx2).size ?_
   intro p3 v' w3 hO3 hX hB
   (iterate 6 refine Nv ?_;try refine .r rfl ?_)
   refine Out.rndG (v',rs++[g]) sbb ⟨hX w (hx1.trans hx2) (Nat.le_refl _),hO3,by simp;omega,?_⟩
   have keep:∀ (r:Value) (g:Nat→Int),SelR w w2 w.heap.size r k g→SelR w w3 w.heap.size r k g:=fun r g h=>h.keep fun t' b C hb ht=>hB t' b C hb (.inl (by rw [ht];decide))
   intro x r' hr'
   by_cases hx:x<rs.length
   ·rw [List.getElem?_append_left hx] at hr'
    refine keep _ _ ((hrs x r' hr').keep fun t' b C hb _=>hb.ext hx2)
   ·have hxe:x=rs.length:=by
     have:=(List.getElem?_eq_some_iff.1 hr').1
     simp at this;omega
    subst hxe
    simp at hr'
    subst hr'
    rw [hl]
    exact keep _ _ hS
 ·rintro ⟨out,rs⟩ w1 ⟨hx1,hO,hl,hrs⟩
  dsimp only at hO hl hrs ⊢
  (iterate 6 refine Nv ?_;try refine .r rfl ?_)
  refine Out.ret1 rfl rfl ⟨hx1,rs,hO.row ?_,by rw [mk_len];exact hl,?_⟩
  ·intro r' hr'
   obtain ⟨x,hx⟩:=List.mem_iff_getElem?.1 hr'
   rcases (hrs x r' hx).one with ⟨_,h1,_⟩ | ⟨h,_⟩
   ·exact h1
   ·cases h
  ·intro x r' row hr' hrow
   have hxm:x<m:=by have:=(List.getElem?_eq_some_iff.1 hrow).1;rw [mk_len] at this;exact this
   rw [mk_get hxm] at hrow
   cases hrow
   exact (hrs x r' hr').li hx1
section
variable {P:Program} {T:List (Nat×TI)} {n:Nat} {l:List Oper} {Q:Exit→Act→World→Prop} {fuel:Nat} {listed:Array Bool} {E:List (Nat×Value)} {w:World}
theorem WA.meet {α:Type} (f2:Nat) (listed2:Array Bool) (Em:α→List (Nat×Value)) (I:α→World→Prop) (fin:∀ g w,I g w→WA P n l Q f2 listed2 (Em g) w)
  (paths:(∀ g w E' L',listed2=L'→I g w→Sub (Em g) E'→WA P n l Q f2 L' E' w)→WA P n l Q fuel listed E w):WA P n l Q fuel listed E w:=by
 refine paths ?_
 rintro g w E' L' rfl hI hs a ha
 exact fin g w hI a (ha.sub hs)
end
theorem StL.newI {n:Nat} {E:List (Nat×Value)} {w:World} {ops:Array Oper} {rest:List Oper} {Q:Exit→Act→World→Prop} {d s:Nat} {ty1 ty2:TypeId} {p1 p2:String} {a1 a2:Array Edge} {v:Value} (hn:Nat.blt d n=true) (hs:∀ p,look ((d,p)::E) s=some v) (hv:R2 v)
  (next:∀ w',Ext w w'→Blk 31 w' w.heap.size v.cells.toList→StL Tryz.prog n ((d,.pointer (some ⟨w.heap.size,0,none⟩))::E) w' ops rest Q) :
  StL Tryz.prog n E w ops (⟨some d,.alloc 31,ty1,p1,a1,none⟩::⟨none,.store 31 (.tmp d) (.tmp s),ty2,p2,a2,none⟩::rest) Q:=by
 refine StL.step rfl rfl hn (OpR.alloc TBok rfl) ?_
 rintro _ w5 ⟨rfl,hb5,hx5,hz5⟩
 obtain ⟨x,y,rfl,hy⟩:=hv
 refine StL.step0 rfl rfl (OpR.storeAll TBok rfl rfl (look_cons_self _ _ _) (hs _) rfl rfl (by simpa [IntV,Value.cells,Value.oneCell'] using hy) hb5) ?_
 rintro _ w6 ⟨hb6,hu6,_⟩
 exact next w6 (hx5.then_upd hu6 (Nat.le_refl _)) hb6
section
variable {k:Nat} {te e:TypeId} {base:Nat} {w w':World} {v:Value} {rs:List Value} {R:List (List Value)}
theorem MatR.newRow (h:MatR k te e base w v rs R) (hte:e≠te) {i:Nat} {r:Value} {us:List Value} (hi:i<rs.length) (hc:r.cells=#[r]) (hone:r.oneCell'=true) {g cap:Nat} {D:List Value} (hv:v=.slice (some ⟨g,0,none⟩) rs.length cap) (hb:Blk te w g (rs++D))
  (hu:Upd g w w') (hb':Blk te w' g (rs.set i r++D)) (hr:RowO k e w.heap.size w' r us) (hbase:base≤w.heap.size):MatR k te e base w' v (rs.set i r) (R.set i us):=by
 have hM:=h
 obtain ⟨h1,h2,h3,h4,h5⟩:=h
 obtain ⟨g',cap',D',hv',hg',hbb,hc1,hc2,hc3⟩:=h1.open (by intro e;rw [e] at hi;simp at hi)
 rw [hv] at hv'
 simp only [Value.slice.injEq,Option.some.injEq,Addr.mk.injEq,and_true] at hv'
 obtain ⟨rfl,_,rfl⟩:=hv'
 rw [flat_one rs h3] at hbb
 have hDD:=hb.same hbb
 have hD:D=D':=List.append_cancel_left hDD
 subst hD
 have hcs:∀ x ∈ rs.set i r,x.cells=#[x]:=by
  intro x hx
  rcases List.mem_or_eq_of_mem_set hx with hx | hx
  ·exact h3 x hx
  ·subst hx;exact hc
 have hfr:∀ (j:Nat) (s:Value),rs[j]?=some s→s.ownBlock=r.ownBlock→r.ownBlock=none:=by
  intro j s hs he
  cases ho:r.ownBlock with
  | none=>rfl
  | some b =>
   have hlt:=hM.blk_lt hs (he.trans ho)
   rcases hr.2 with ⟨h0,_⟩ | ⟨g2,c2,D2,hv2,hg2,_⟩
   ·rw [h0] at ho;cases ho
   ·rw [hv2] at ho
    have:g2=b:=by simpa [Value.ownBlock] using ho
    omega
 refine ⟨⟨?_,.inr ⟨g,cap,D,by rw [hv,List.length_set],hg',?_,by rw [List.length_set];exact hc1,by rw [List.length_set];exact hc2,hc3⟩⟩,by simpa using h2,hcs,?_,?_⟩
 ·intro x hx
  rcases List.mem_or_eq_of_mem_set hx with hx | hx
  ·exact h1.1 x hx
  ·subst hx;exact ⟨by rw [hc];rfl,by rw [hc];intro c hcc;simp at hcc;subst hcc;exact hone⟩
 ·rw [flat_one _ hcs];exact hb'
 ·intro i' r' us' hr' hus'
  by_cases e1:i=i'
  ·subst e1
   rw [List.getElem?_set_self hi] at hr'
   rw [List.getElem?_set_self (by omega)] at hus'
   cases hr';cases hus'
   exact hr.mono hbase
  ·rw [List.getElem?_set_ne e1] at hr' hus'
   exact (h4 i' r' us' hr' hus').updT hu hb hte
 ·intro a b r' s' hab hr' hs' e2
  by_cases ea:i=a
  ·subst ea
   rw [List.getElem?_set_self hi] at hr'
   cases hr'
   rw [List.getElem?_set_ne (by omega)] at hs'
   exact hfr b s' hs' e2.symm
  ·rw [List.getElem?_set_ne ea] at hr'
   by_cases eb:i=b
   ·subst eb
    rw [List.getElem?_set_self hi] at hs'
    cases hs'
    rw [e2]
    exact hfr a r' hr' e2
   ·rw [List.getElem?_set_ne eb] at hs'
    exact h5 a b r' s' hab hr' hs' e2
end
theorem CanO.grown {base k:Nat} {bs:Nat} {w w':World} {u v:Value} {a:Int} {us:List Value} (h:CanO base w u a) (hr:RowO k 31 bs w v us) (hg:w.grownBy w' v.ownBlock):CanO base w' u a:=by
 rcases grown_cases hr hg with hE | ⟨b,C,_,_,hb,hU⟩
 ·exact h.ext hE
 ·exact h.updT hU hb (by decide)
theorem CanO.cel {base:Nat} {w:World} {u:Value} {a:Int} (h:CanO base w u a):Cel 2 u:=by
 obtain ⟨k,s,rfl,hs⟩:=h.r2
 refine .inr ⟨rfl,.bool k,s,rfl,rfl,?_⟩
 simpa [Value.oneCell'] using hs
theorem RowO.cel1 {k:Nat} {e:TypeId} {base:Nat} {w:World} {v:Value} {us:List Value} (h:RowO k e base w v us):v.cells=#[v]∧v.oneCell'=true:=by
 obtain ⟨p,cap,rfl⟩:=h.len
 exact ⟨rfl,rfl⟩
set_option maxHeartbeats 3200000 in
theorem copy_spec {base:Nat} {w:World} {v:Value} {r c:Nat} {f:Nat→Nat→Int} (h:MI w v (mk r c f)) (hr:1≤r∧r≤16) (hc:1≤c∧c≤16) (hbase:base≤w.heap.size) :
  Calls Tryz.prog 79 #[v] w (Ret fun x w'=>Ext w w'∧∃ rs,MatC rs base w' x (mk r c f)):=by
 obtain ⟨a,cap,rfl,hP⟩:=h.mp hr.1 hc.1
 refine calls_of_St (args:=[_]) Tryz.func79 rfl Tryz.ntmps79 rfl ?_
 (iterate 6 refine Nv ?_;try refine .r rfl ?_)
 refine .s (OpR.make TBok r rfl rfl rfl rfl rfl rfl rfl rfl (by show r * 24≤_;omega) (by omega)) ?_
 rintro _ w1 ⟨rfl,B,hx0,hz1⟩
 have h0:MatR 2 45 31 w.heap.size w1 (.slice (some ⟨w.heap.size,0,none⟩) r r) (List.replicate r (.slice none 0 0)) (List.replicate r []):=by
  refine ⟨⟨?_,.inr ⟨w.heap.size,r,[],by rw [List.length_replicate],Nat.le_refl _,?_,by simp,by simp,by unfold maxLen;omega⟩⟩,by simp,?_,?_,?_⟩
  ·intro u hu;rw [List.eq_of_mem_replicate hu];exact ⟨rfl,by simp [Value.cells,Value.oneCell']⟩
  ·rw [flat_one _ (fun u hu=>by rw [List.eq_of_mem_replicate hu];rfl),List.append_nil];exact B
  ·intro u hu;rw [List.eq_of_mem_replicate hu];rfl
  ·intro i s us hs hus
   have e1:=List.eq_of_mem_replicate (List.mem_of_getElem? hs)
   have e2:=List.eq_of_mem_replicate (List.mem_of_getElem? hus)
   subst e1;subst e2
   exact RowO.nil
  ·intro i j s t _ hs _ _
   rw [List.eq_of_mem_replicate (List.mem_of_getElem? hs)];rfl
 (iterate 6 refine Nv ?_;try refine .r rfl ?_)
 refine St.rng TBok (12) (0) (r) (by omega) [(0,.slice (some a) r cap),(3,.slice (some ⟨w.heap.size,0,none⟩) r r),(11,.int .i64 r)] (fun i w'=>Ext w w'∧∃ rs R,MatR 2 45 31 w.heap.size w' (.slice (some ⟨w.heap.size,0,none⟩) r r) rs R∧rs.length=r∧Blk 45 w' w.heap.size rs∧(∀ (x:Nat),i≤x→x<r→rs[x]?=some (.slice none 0 0))∧∀ (x:Nat) (us:List Value),x<i→R[x]?=some us→us.length=c∧∀ (y:Nat) (u:Value),us[y]?=some u→CanO 0 w' u (f x y)) sbb ?_ (fun _=>⟨rfl,rfl⟩) (fun _=>rfl) (fun _=>⟨rfl,rfl⟩) rfl rfl (by omega) ?_ ?_
 ·exact ⟨hx0,_,_,h0,by simp,B,fun x _ hx=>by simp [hx],fun x us hx=>by omega⟩
 ·clear h0 B hx0 hz1
  rintro i w2 hi ⟨hx2,rs,R,hM,hrl,hB,hnil,hdone⟩
  obtain ⟨b,o,cp,hcell,hrow⟩:=(hP.ext hx2) i hi
  (iterate 6 refine Nv ?_;try refine .r rfl ?_)
  refine .p (RunsTo.ia) ?_
  refine .p (RunsTo.load TBok rfl rfl rfl hcell) ?_
  (iterate 6 refine Nv ?_;try refine .r rfl ?_)
  refine St.rng TBok (20) (0) (c) (by omega) [(0,.slice (some a) r cap),(3,.slice (some ⟨w.heap.size,0,none⟩) r r),(11,.int .i64 r),(12,.int .i64 i),(4,.int .i64 i),(18,.slice (some ⟨b,o,none⟩) c cp),(19,.int .i64 c)] (fun j w'=>Upd w.heap.size w2 w'∧∃ s us,Blk 45 w' w.heap.size (rs.set i s)∧RowO 2 31 w2.heap.size w' s us∧us.length=j∧∀ (y:Nat) (u:Value),us[y]?=some u→CanO 0 w' u (f i y)) sbb ?_ (fun _=>⟨rfl,rfl⟩) (fun _=>rfl) (fun _=>⟨rfl,rfl⟩) rfl rfl (by omega) ?_ ?_
  ·refine ⟨Upd.refl _ _,.slice none 0 0,[],?_,RowO.nil,rfl,fun y u hu=>by simp at hu⟩
   have:rs.set i (.slice none 0 0)=rs:=by
    apply List.ext_getElem?
    intro y
    by_cases e:i=y
    ·subst e;rw [List.getElem?_set_self (by omega),hnil i (Nat.le_refl _) hi]
    ·rw [List.getElem?_set_ne e]
   rw [this];exact hB
  ·rintro j w3 hj ⟨hU3,s,us,hB3,hR3,hul,hus⟩
   have hx3:Ext w w3:=hx2.then_upd hU3 (Nat.le_refl _)
   obtain ⟨b',o',cp',hcell',e1,C1,hBk,hg⟩:=hP i hi
   have:=(hx2.cell hcell').symm.trans hcell
   simp only [Option.some.injEq,Value.slice.injEq,Addr.mk.injEq,and_true] at this
   obtain ⟨⟨rfl,rfl⟩,_,rfl⟩:=this
   obtain ⟨y,hd,k1,k2⟩:=hg j hj
   have hBk3:=hBk.ext hx3
   refine Nv ?_
   refine .p (RunsTo.indexI rfl rfl rfl (by omega)) ?_
   refine .p (RunsTo.loadIt rfl hBk3 k1 k2 hd.r2) ?_
   refine StL.newI rfl (fun _=>rfl) hd.r2 ?_
   intro w4 hx4 B6
   replace hB3:=hB3.ext hx4
   replace hR3:=hR3.ext hx4
   have hU4:=hU3.trans (hx4.upd w.heap.size)
   have hx04:=hx3.trans hx4
   have hs1:=(hR3.cel1).1
   have hs2:=(hR3.cel1).2
   have hcs:(rs.set i s)[i]?=some s:=List.getElem?_set_self (by omega)
   refine Nv ?_
   refine St.sub (E':=[(20,.int .i64 j),(0,.slice (some a) r cap),(3,.slice (some ⟨w.heap.size,0,none⟩) r r),(11,.int .i64 r),(12,.int .i64 i),(4,.int .i64 i),(18,.slice (some ⟨b',o',none⟩) c cp'),(19,.int .i64 c),(6,.pointer (some ⟨w3.heap.size,0,none⟩))]) ?_ sbb
   refine St.any TBfol rfl ?_
   intro w5 hx5 _ _
   replace B6:=B6.ext hx5
   replace hB3:=hB3.ext hx5
   replace hR3:=hR3.ext hx5
   replace hU4:=hU4.trans (hx5.upd w.heap.size)
   replace hx04:=hx04.trans hx5
   have hus5:∀ (y:Nat) (u:Value),us[y]?=some u→CanO 0 w5 u (f i y):=fun y u hu=>((hus y u hu).ext hx4).ext hx5
   clear hx4 hx5 hx3 hU3 hus
   refine WA.takes (fuel:=8) TBok (by kernel_rfl) (fun _ _ _ _ _ h=>h) [0,1,2,3] (by kernel_rfl) rfl ?_
   refine WA.take 4 rfl rfl (by kernel_rfl) (by kernel_rfl) (by kernel_rfl) (fun _ _ _ h=>h) rfl rfl (fun w=>RunsTo.ia) ?_
   simp only [Int.toNat_natCast,addr_add,Nat.zero_add]
   refine WA.meet 3 #[true,true,true,true,true,true,true,true,true,false,false,false] (fun g:Nat×Value=>[(24,.slice (some ⟨w.heap.size,0,none⟩) r r),(25,.int .i64 i),(29,s),(32,.slice (some ⟨g.1,0,none⟩) 1 1),(20,.int .i64 j),(0,.slice (some a) r cap),(3,.slice (some ⟨w.heap.size,0,none⟩) r r),(11,.int .i64 r),(12,.int .i64 i),(4,.int .i64 i),(18,.slice (some ⟨b',o',none⟩) c cp'),(19,.int .i64 c)])
    (fun g w'=>Ext w5 w'∧Blk 31 w' g.1 g.2.cells.toList∧CanO 0 w' g.2 (f i j)) ?_ ?_
   ·rintro ⟨b8,z⟩ w6 ⟨hx6,B8,hz⟩
    dsimp only at B8 hz ⊢
    have hR6:=hR3.ext hx6
    have hB6:=hB3.ext hx6
    refine WA.one (i:=9) (by kernel_rfl) (WOp.val rfl rfl rfl rfl (OpR.appK hR6 hz.cel B8 rfl rfl rfl rfl rfl rfl rfl (by omega) rfl (Nat.le_trans hU4.size hx6.size)) ?_)
    rintro s' w7 ⟨hR7,hg7,_⟩
    have hU7:Upd w.heap.size w2 w7∧Blk 45 w7 w.heap.size (rs.set i s):=by
     rcases grown_cases hR6 hg7 with hE | ⟨b9,C9,_,hb9,hBk9,hU9⟩
     ·exact ⟨(hU4.trans (hx6.upd _)).trans (hE.upd _),hB6.ext hE⟩
     ·have hlt:=hB.lt
      refine ⟨?_,hB6.upd hU9 (by omega)⟩
      have:=hU4.trans (hx6.upd w.heap.size)
      exact ⟨hU9.os.trans this.os,hU9.tape.trans this.tape,hU9.output.trans this.output,Nat.le_trans this.size hU9.size,fun q hq hne=>(hU9.block q (Nat.lt_of_lt_of_le hq this.size) (by omega)).trans (this.block q hq hne)⟩
    have hc7:=hR7.cel1
    refine WA.one (i:=10) (by kernel_rfl) (WOp.val rfl rfl rfl rfl (RunsTo.ia).op ?_)
    rintro _ _ ⟨rfl,rfl⟩
    simp only [Int.toNat_natCast,addr_add,Nat.zero_add]
    refine WA.one (i:=11) (by kernel_rfl) (WOp.eff rfl rfl rfl (OpR.store TBok (vs:=[s']) rfl rfl rfl (by rw [hc7.1]) rfl hU7.2 (by simp;omega) (by simpa using hc7.2)) ?_)
    rintro _ w8 ⟨hB8,hU8⟩
    refine WA.done (by kernel_rfl) ?_
    refine Nv ?_
    refine Out.rnd sbb ⟨hU7.1.trans hU8,s',us++[z],?_,hR7.updT hU8 hU7.2 (by decide),by simp;omega,?_⟩
    ·have e2:over (rs.set i s) i [s']=rs.set i s':=by simp [over]
     rw [e2] at hB8;exact hB8
    ·intro y' u hu
     by_cases hy':y'<us.length
     ·rw [List.getElem?_append_left hy'] at hu
      exact ((((hus5 y' u hu).ext hx6).grown hR6 hg7).updT hU8 hU7.2 (by decide))
     ·have hxe:y'=us.length:=by
       have:=(List.getElem?_eq_some_iff.1 hu).1
       simp at this;omega
      subst hxe
      simp at hu
      subst hu
      rw [hul]
      exact (hz.grown hR6 hg7).updT hU8 hU7.2 (by decide)
   ·intro meet
    refine WA.two (i:=5) (j:=6) (by kernel_rfl) ?_ ?_
    ·refine WOp.val rfl rfl rfl rfl (RunsTo.load TBok rfl rfl rfl (hB3.cell hcs)).op ?_
     rintro _ _ ⟨rfl,rfl⟩
     refine WA.one (i:=6) (by kernel_rfl) (WOp.val rfl rfl rfl rfl (RunsTo.loadI2 rfl B6 hd.r2).op ?_)
     rintro _ _ ⟨rfl,rfl⟩
     refine WA.one (i:=7) (by kernel_rfl) (WOp.val rfl rfl rfl rfl (OpR.call fn_r01_Normalize rfl (rnormalize_dn (base:=0) (hd.ext hx04) (Nat.zero_le _))) ?_)
     rintro z w6 ⟨hx6,hz⟩
     refine WA.one (i:=8) (by kernel_rfl) (WOp.val rfl rfl rfl rfl (OpR.singleK rfl rfl rfl rfl rfl hz.cel) ?_)
     rintro _ w7 ⟨rfl,B7,hx7,_⟩
     exact meet (w6.heap.size,z) w7 _ _ (by kernel_rfl) ⟨hx6.trans hx7,B7,hz.ext hx7⟩ sbb
    ·refine WOp.val rfl rfl rfl rfl (RunsTo.loadI2 rfl B6 hd.r2).op ?_
     rintro _ _ ⟨rfl,rfl⟩
     refine WA.two (i:=5) (j:=7) (by kernel_rfl) ?_ ?_
     ·refine WOp.val rfl rfl rfl rfl (RunsTo.load TBok rfl rfl rfl (hB3.cell hcs)).op ?_
      rintro _ _ ⟨rfl,rfl⟩
      refine WA.one (i:=7) (by kernel_rfl) (WOp.val rfl rfl rfl rfl (OpR.call fn_r01_Normalize rfl (rnormalize_dn (base:=0) (hd.ext hx04) (Nat.zero_le _))) ?_)
      rintro z w6 ⟨hx6,hz⟩
      refine WA.one (i:=8) (by kernel_rfl) (WOp.val rfl rfl rfl rfl (OpR.singleK rfl rfl rfl rfl rfl hz.cel) ?_)
      rintro _ w7 ⟨rfl,B7,hx7,_⟩
      exact meet (w6.heap.size,z) w7 _ _ (by kernel_rfl) ⟨hx6.trans hx7,B7,hz.ext hx7⟩ sbb
     ·refine WOp.val rfl rfl rfl rfl (OpR.call fn_r01_Normalize rfl (rnormalize_dn (base:=0) (hd.ext hx04) (Nat.zero_le _))) ?_
      rintro z w6 ⟨hx6,hz⟩
      refine WA.two (i:=5) (j:=8) (by kernel_rfl) ?_ ?_
      ·refine WOp.val rfl rfl rfl rfl (RunsTo.load TBok rfl rfl rfl ((hB3.ext hx6).cell hcs)).op ?_
       rintro _ _ ⟨rfl,rfl⟩
       refine WA.one (i:=8) (by kernel_rfl) (WOp.val rfl rfl rfl rfl (OpR.singleK rfl rfl rfl rfl rfl hz.cel) ?_)
       rintro _ w7 ⟨rfl,B7,hx7,_⟩
       exact meet (w6.heap.size,z) w7 _ _ (by kernel_rfl) ⟨hx6.trans hx7,B7,hz.ext hx7⟩ sbb
      ·refine WOp.val rfl rfl rfl rfl (OpR.singleK rfl rfl rfl rfl rfl hz.cel) ?_
       rintro _ w7 ⟨rfl,B7,hx7,_⟩
       refine WA.one (i:=5) (by kernel_rfl) (WOp.val rfl rfl rfl rfl (RunsTo.load TBok rfl rfl rfl ((hB3.ext (hx6.trans hx7)).cell hcs)).op ?_)
       rintro _ _ ⟨rfl,rfl⟩
       exact meet (w6.heap.size,z) w7 _ _ (by kernel_rfl) ⟨hx6.trans hx7,B7,hz.ext hx7⟩ sbb
  ·rintro w3 ⟨hU3,s,us,hB3,hR3,hul,hus⟩
   have hc7:=hR3.cel1
   have hM3:=hM.newRow (i:=i) (by decide) (D:=[]) (by omega) hc7.1 hc7.2 (by rw [hrl]) (by rw [List.append_nil];exact hB) hU3 (by rw [List.append_nil];exact hB3) hR3 hx2.size
   refine Nv ?_
   refine Out.rnd sbb ⟨hx2.then_upd hU3 (Nat.le_refl _),_,_,hM3,by simpa using hrl,hB3,?_,?_⟩
   ·intro x hx hxr
    rw [List.getElem?_set_ne (by omega)]
    exact hnil x (by omega) hxr
   ·intro x us' hx hus'
    by_cases e:i=x
    ·subst e
     have hRl:=hM.2.1
     rw [List.getElem?_set_self (by omega)] at hus'
     cases hus'
     exact ⟨hul,hus⟩
    ·rw [List.getElem?_set_ne e] at hus'
     obtain ⟨q1,q2⟩:=hdone x us' (by omega) hus'
     exact ⟨q1,fun y u hu=>(q2 y u hu).updT hU3 hB (by decide)⟩
 ·rintro w2 ⟨hx2,rs,R,hM,hrl,hB,hnil,hdone⟩
  have hRl:=hM.2.1
  (iterate 6 refine Nv ?_;try refine .r rfl ?_)
  refine Out.ret1 rfl rfl ⟨hx2,rs,R,hM.mono hbase,by rw [mk_len];omega,?_⟩
  intro x us row hus hrow
  have hxr:x<r:=by have:=(List.getElem?_eq_some_iff.1 hrow).1;rw [mk_len] at this;exact this
  rw [mk_get hxr] at hrow
  cases hrow
  obtain ⟨q1,q2⟩:=hdone x us hxr hus
  refine ⟨by simp;omega,fun y u z hu hz=>?_⟩
  have hyc:y<c:=by have:=(List.getElem?_eq_some_iff.1 hz).1;simpa using this
  rw [row_get hyc] at hz
  cases hz
  exact q2 y u hu
end Go.Qf
namespace Go.Qf
abbrev Vec:=Nat→Rat
def lap (f:Nat→List Nat→Rat):List Nat→Rat
 | []=>0
 | c::cs=>f c cs - lap (fun x rest=>f x (c::rest)) cs
theorem lap_congr {f g:Nat→List Nat→Rat} (h:∀ c cs,f c cs=g c cs) (cs:List Nat):lap f cs=lap g cs:=by
 have:f=g:=by funext c cs;exact h c cs
 rw [this]
theorem lap_add (f g:Nat→List Nat→Rat) (cs:List Nat):lap (fun c r=>f c r+g c r) cs=lap f cs+lap g cs:=by
 induction cs generalizing f g with
 | nil=>show (0:Rat)=0+0;decide +kernel
 | cons c cs ih =>
  show (f c cs+g c cs) - lap (fun x rest=>f x (c::rest)+g x (c::rest)) cs=(f c cs - lap _ cs)+(g c cs - lap _ cs)
  rw [ih]
  grind
theorem lap_smul (a:Rat) (f:Nat→List Nat→Rat) (cs:List Nat):lap (fun c r=>a * f c r) cs=a * lap f cs:=by
 induction cs generalizing f with
 | nil=>show (0:Rat)=a * 0;rw [Rat.mul_zero]
 | cons c cs ih =>
  show a * f c cs - lap (fun x rest=>a * f x (c::rest)) cs=a * (f c cs - lap _ cs)
  rw [ih]
  grind
def put (r:Vec) (F:List Nat→Rat):List Nat→Rat:=lap (fun c rest=>r c * F rest)
def vadd (r s:Vec):Vec:=fun c=>r c+s c
def vsmul (a:Rat) (r:Vec):Vec:=fun c=>a * r c
theorem put_add (r s:Vec) (F:List Nat→Rat) (cs:List Nat):put (vadd r s) F cs=put r F cs+put s F cs:=by
 unfold put vadd
 rw [← lap_add]
 exact lap_congr (fun c rest=>Rat.add_mul _ _ _) cs
theorem put_smul (a:Rat) (r:Vec) (F:List Nat→Rat) (cs:List Nat):put (vsmul a r) F cs=a * put r F cs:=by
 unfold put vsmul
 rw [← lap_smul]
 exact lap_congr (fun c rest=>Rat.mul_assoc _ _ _) cs
theorem put_addF (r:Vec) (F G:List Nat→Rat) (cs:List Nat):put r (fun x=>F x+G x) cs=put r F cs+put r G cs:=by
 unfold put
 rw [← lap_add]
 exact lap_congr (fun c rest=>Rat.mul_add _ _ _) cs
theorem put_smulF (a:Rat) (r:Vec) (F:List Nat→Rat) (cs:List Nat):put r (fun x=>a * F x) cs=a * put r F cs:=by
 unfold put
 rw [← lap_smul]
 exact lap_congr (fun c rest=>by grind) cs
theorem put_congr {r:Vec} {F G:List Nat→Rat} (h:∀ x,F x=G x) (cs:List Nat):put r F cs=put r G cs:=by
 have:F=G:=funext h
 rw [this]
theorem put_put (r:Vec) (F:List Nat→Rat) (cs:List Nat):put r (put r F) cs=0:=by
 induction cs generalizing F with
 | nil=>rfl
 | cons c cs ih =>
  have e:put r (put r F) (c::cs)=r c * put r F cs - lap (fun x rest=>r x * put r F (c::rest)) cs:=rfl
  rw [e]
  have e2:∀ x rest,r x * put r F (c::rest)=r c * (r x * F rest)+(-1) * (r x * put r (fun l=>F (c::l)) rest):=by
   intro x rest
   have:put r F (c::rest)=r c * F rest - put r (fun l=>F (c::l)) rest:=rfl
   rw [this]
   grind
  rw [lap_congr e2,lap_add,lap_smul,lap_smul]
  have e3:lap (fun x rest=>r x * put r (fun l=>F (c::l)) rest) cs=0:=ih (fun l=>F (c::l))
  have e4:lap (fun x rest=>r x * F rest) cs=put r F cs:=rfl
  rw [e3,e4]
  grind
theorem put_swap (r s:Vec) (F:List Nat→Rat) (cs:List Nat):put r (put s F) cs=- put s (put r F) cs:=by
 have h:=put_put (vadd r s) F cs
 have e:∀ x,put (vadd r s) F x=put r F x+put s F x:=fun x=>put_add r s F x
 rw [put_congr e,put_add,put_addF,put_addF,put_put,put_put] at h
 grind
def det:List Vec→List Nat→Rat
 | []=>fun _=>1
 | r::rs=>put r (det rs)
theorem det_cons (r:Vec) (rs:List Vec) (cs:List Nat):det (r::rs) cs=put r (det rs) cs:=rfl
theorem det_clear (r:Vec) (a:Vec→Rat) (rs:List Vec) (cs:List Nat):put r (det (rs.map (fun s=>vadd s (vsmul (a s) r)))) cs=put r (det rs) cs:=by
 induction rs generalizing cs with
 | nil=>rfl
 | cons s rs ih =>
  show put r (put (vadd s (vsmul (a s) r)) (det (rs.map _))) cs=put r (put s (det rs)) cs
  have e:∀ x,put (vadd s (vsmul (a s) r)) (det (rs.map (fun s=>vadd s (vsmul (a s) r)))) x=put s (det (rs.map (fun s=>vadd s (vsmul (a s) r)))) x+a s * put r (det (rs.map (fun s=>vadd s (vsmul (a s) r)))) x:=by
   intro x
   rw [put_add,put_smul]
  rw [put_congr e,put_addF,put_smulF,put_put,put_swap,put_congr (fun x=>ih x),← put_swap]
  grind
theorem det_null {c:Nat}:∀ (rs:List Vec) (cs:List Nat),rs.length=cs.length+1→(∀ r ∈ rs,r c=0)→det rs (c::cs)=0:=by
 intro rs
 induction rs with
 | nil=>intro cs h;cases h
 | cons r rs ih =>
  intro cs hl h
  have e:det (r::rs) (c::cs)=r c * det rs cs - lap (fun x rest=>r x * det rs (c::rest)) cs:=rfl
  rw [e,h r (by simp),Rat.zero_mul]
  have key:∀ (ds:List Nat) (pre:List Nat),rs.length=pre.length+ds.length→lap (fun x rest=>r x * det rs (c::(pre++rest))) ds=0:=by
   intro ds
   induction ds with
   | nil=>intro pre _;rfl
   | cons d ds ihd =>
    intro pre hp
    show r d * det rs (c::(pre++ds)) - lap (fun x rest=>r x * det rs (c::(pre++(d::rest)))) ds=0
    have h1:det rs (c::(pre++ds))=0:=ih (pre++ds) (by simp at hp ⊢;omega) (fun s hs=>h s (by simp [hs]))
    have h2:=ihd (pre++[d]) (by simp at hp ⊢;omega)
    have h3:lap (fun x rest=>r x * det rs (c::(pre++[d]++rest))) ds=lap (fun x rest=>r x * det rs (c::(pre++(d::rest)))) ds:=lap_congr (fun x rest=>by simp) ds
    rw [h1,← h3,h2,Rat.mul_zero]
    decide +kernel
  have:=key cs [] (by simp at hl ⊢;exact hl)
  simp only [List.nil_append] at this
  rw [this]
  decide +kernel
def elim (r:Vec) (c:Nat) (s:Vec):Vec:=vadd s (vsmul (-(s c / r c)) r)
theorem elim_at {r s:Vec} {c:Nat} (h:r c≠0):elim r c s c=0:=by
 unfold elim vadd vsmul
 have:=Rat.div_mul_cancel (a:=s c) h
 grind
theorem det_elim (r:Vec) (rs:List Vec) (c:Nat) (cs:List Nat) (h:r c≠0) (hl:rs.length=cs.length):det (r::rs) (c::cs)=r c * det (rs.map (elim r c)) cs:=by
 have e1:=det_clear r (fun s=>-(s c / r c)) rs (c::cs)
 rw [det_cons,← e1]
 show put r (det (rs.map (elim r c))) (c::cs)=_
 have e:put r (det (rs.map (elim r c))) (c::cs)=r c * det (rs.map (elim r c)) cs - lap (fun x rest=>r x * det (rs.map (elim r c)) (c::rest)) cs:=rfl
 rw [e]
 have key:∀ (ds:List Nat) (pre:List Nat),rs.length=pre.length+ds.length→lap (fun x rest=>r x * det (rs.map (elim r c)) (c::(pre++rest))) ds=0:=by
  intro ds
  induction ds with
  | nil=>intro pre _;rfl
  | cons d ds ihd =>
   intro pre hp
   show r d * det (rs.map (elim r c)) (c::(pre++ds)) - lap (fun x rest=>r x * det (rs.map (elim r c)) (c::(pre++(d::rest)))) ds=0
   have h1:det (rs.map (elim r c)) (c::(pre++ds))=0:=det_null _ _ (by simp at hp ⊢;omega) (by
    intro s hs
    simp only [List.mem_map] at hs
    obtain ⟨t,_,rfl⟩:=hs
    exact elim_at h)
   have h2:=ihd (pre++[d]) (by simp at hp ⊢;omega)
   have h3:lap (fun x rest=>r x * det (rs.map (elim r c)) (c::(pre++[d]++rest))) ds=lap (fun x rest=>r x * det (rs.map (elim r c)) (c::(pre++(d::rest)))) ds:=lap_congr (fun x rest=>by simp) ds
   rw [h1,← h3,h2,Rat.mul_zero]
   decide +kernel
 have:=key cs [] (by simpa using hl)
 simp only [List.nil_append] at this
 rw [this]
 grind
def IsI (q:Rat):Prop:=∃ z:Int,q=z
theorem IsI.mul {p q:Rat} (h:IsI p) (k:IsI q):IsI (p * q):=by
 obtain ⟨a,rfl⟩:=h
 obtain ⟨b,rfl⟩:=k
 exact ⟨a * b,(Rat.intCast_mul a b).symm⟩
theorem IsI.sub {p q:Rat} (h:IsI p) (k:IsI q):IsI (p - q):=by
 obtain ⟨a,rfl⟩:=h
 obtain ⟨b,rfl⟩:=k
 exact ⟨a - b,(Rat.intCast_sub a b).symm⟩
theorem lap_int {f:Nat→List Nat→Rat} (h:∀ c cs,IsI (f c cs)) (cs:List Nat):IsI (lap f cs):=by
 induction cs generalizing f with
 | nil=>exact ⟨0,rfl⟩
 | cons c cs ih=>exact (h c cs).sub (ih (fun x rest=>h x (c::rest)))
theorem det_int {rs:List Vec} (h:∀ r ∈ rs,∀ c,IsI (r c)) (cs:List Nat):IsI (det rs cs):=by
 induction rs generalizing cs with
 | nil=>exact ⟨1,rfl⟩
 | cons r rs ih=>exact lap_int (fun c rest=>(h r (by simp) c).mul (ih (fun s hs=>h s (by simp [hs])) rest)) cs
def EL (A:Nat→Vec):Nat→Nat→Vec
 | 0=>A
 | k+1=>fun i=>elim (EL A k k) k (EL A k i)
def dd (A:Nat→Vec):Nat→Rat
 | 0=>1
 | k+1=>dd A k * EL A k k k
def BB (A:Nat→Vec) (k i j:Nat):Rat:=dd A k * EL A k i j
theorem EL_succ (A:Nat→Vec) (k i j:Nat):EL A (k+1) i j=EL A k i j - EL A k i k / EL A k k k * EL A k k j:=by
 show EL A k i j+-(EL A k i k / EL A k k k) * EL A k k j=_
 grind
theorem dd_piv {A:Nat→Vec} {k:Nat} (h:dd A (k+1)≠0):EL A k k k≠0∧dd A k≠0:=by
 constructor
 ·intro e;apply h;show dd A k * EL A k k k=0;rw [e,Rat.mul_zero]
 ·intro e;apply h;show dd A k * EL A k k k=0;rw [e,Rat.zero_mul]
theorem dd_le {A:Nat→Vec}:∀ {m k:Nat},dd A (k+m)≠0→dd A k≠0:=by
 intro m
 induction m with
 | zero=>intro k h;exact h
 | succ m ih=>intro k h;exact ih (dd_piv h).2
theorem det_from (A:Nat→Vec) (i j:Nat):∀ (m k:Nat),dd A (k+m)≠0→dd A k * det ((List.range' k m).map (EL A k)++[EL A k i]) (List.range' k m++[j])=BB A (k+m) i j:=by
 intro m
 induction m with
 | zero =>
  intro k _
  show dd A k * (EL A k i j * 1 - 0)=dd A k * EL A k i j
  grind
 | succ m ih =>
  intro k h
  have hk:dd A (k+1+m)≠0:=by rw [show k+1+m=k+(m+1) by omega];exact h
  have hp:=(dd_piv (dd_le (m:=m) hk)).1
  rw [List.range'_succ,List.map_cons,List.cons_append,List.cons_append,det_elim _ _ _ _ hp (by simp)]
  rw [List.map_append,List.map_map,List.map_cons,List.map_nil]
  have e:(elim (EL A k k) k ∘ EL A k)=EL A (k+1):=rfl
  have e2:elim (EL A k k) k (EL A k i)=EL A (k+1) i:=rfl
  rw [e,e2,← Rat.mul_assoc]
  have:=ih (k+1) hk
  rw [show k+1+m=k+(m+1) by omega] at this
  exact this
theorem det_border (A:Nat→Vec) (k i j:Nat) (h:dd A k≠0):det ((List.range k).map A++[A i]) (List.range k++[j])=BB A k i j:=by
 have:=det_from A i j k 0 (by simpa using h)
 rw [Nat.zero_add,← List.range_eq_range'] at this
 rw [← this]
 show _=1 * det _ _
 rw [Rat.one_mul]
 rfl
theorem BB_int {A:Nat→Vec} (hA:∀ i j,IsI (A i j)) (k i j:Nat) (h:dd A k≠0):IsI (BB A k i j):=by
 rw [← det_border A k i j h]
 refine det_int ?_ _
 intro r hr c
 simp only [List.mem_append,List.mem_map,List.mem_singleton] at hr
 rcases hr with ⟨l,_,rfl⟩ | rfl
 ·exact hA l c
 ·exact hA i c
theorem BB_zero (A:Nat→Vec) (i j:Nat):BB A 0 i j=A i j:=by show 1 * A i j=_;rw [Rat.one_mul]
theorem BB_diag (A:Nat→Vec) (k:Nat):BB A k k k=dd A (k+1):=rfl
theorem BB_succ (A:Nat→Vec) (k i j:Nat) (h:dd A (k+1)≠0):BB A (k+1) i j * dd A k=BB A k k k * BB A k i j - BB A k i k * BB A k k j:=by
 have hp:=(dd_piv h).1
 have e:=Rat.div_mul_cancel (a:=EL A k i k) hp
 unfold BB
 rw [EL_succ]
 show dd A k * EL A k k k * (EL A k i j - EL A k i k / EL A k k k * EL A k k j) * dd A k=_
 generalize EL A k i k / EL A k k k=q at *
 rw [← e]
 grind
end Go.Qf
namespace Go.Qf
open Go Go.RowKit Go.Proofs
set_option maxRecDepth 20000
theorem sz_low {a b:Int} (ha:sz a≤1000000) (hb:sz b≤1000000):sz (if b<0 then -((Nat.gcd a.natAbs b.natAbs:Nat):Int) else ((Nat.gcd a.natAbs b.natAbs:Nat):Int))≤1000000:=by
 have h:=sz_gcd a b
 split
 ·rw [sz_neg];omega
 ·omega
theorem low_ne {a b:Int} (hb:b≠0):(if b<0 then -((Nat.gcd a.natAbs b.natAbs:Nat):Int) else ((Nat.gcd a.natAbs b.natAbs:Nat):Int))≠0:=by
 have h:=gcd_ne (a:=a) hb
 split <;> omega
set_option maxHeartbeats 400000 in
theorem lowest_spec {base:Nat} {w:World} {x y:Value} {a b:Int} (hX:Dn w x a) (hY:Dn w y b) (hb:b≠0) (hbase:base≤w.heap.size) :
  Calls Tryz.prog 96 #[x,y] w (Ret fun r w'=>Ext w w'∧CanR base w' r (Rat.divInt a b)):=by
 have hX0:=hX
 have hY0:=hY
 refine calls_of_St (args:=[_,_]) Tryz.func96 rfl Tryz.ntmps96 rfl ?_
 refine Nv ?_
 refine .s (OpR.box rfl) ?_
 rintro _ w1 ⟨rfl,B1,hx1,hz1⟩
 refine .s (OpR.box rfl) ?_
 rintro _ w2 ⟨rfl,B2,hx2,hz2⟩
 refine .s (OpR.alloc TBok rfl) ?_
 rintro _ w3 ⟨rfl,B3,hx3,hz3⟩
 have hx0:Ext w w3:=(hx1.trans hx2).trans hx3
 replace B1:=(B1.ext hx2).ext hx3
 replace B2:=B2.ext hx3
 replace hX:=hX.ext hx0
 replace hY:=hY.ext hx0
 clear hx1 hx2 hx3
 (iterate 6 refine Nv ?_;try refine .r rfl ?_)
 refine .p (RunsTo.loadI2 rfl (B1) (hX.r2)) ?_
 refine .p (RunsTo.loadI2 rfl (B2) (hY.r2)) ?_
 refine .s (OpR.call fn_integer_Gcd rfl (gcd_dn hX hY)) ?_
 rintro g w4 ⟨hx4,hg⟩
 replace B1:=B1.ext hx4
 replace B2:=B2.ext hx4
 replace B3:=B3.ext hx4
 replace hX:=hX.ext hx4
 replace hY:=hY.ext hx4
 replace hx0:=hx0.trans hx4
 clear hx4
 refine StL.setNew rfl (fun _=>rfl) hg hx0 ?_
 intro b5 w5 hl5 hx45 B5 hg5 hx05
 (iterate 6 refine Nv ?_;try refine .r rfl ?_)
 refine .p (RunsTo.loadI2 rfl (B2.ext hx45) (hY.r2)) ?_
 refine .s (OpR.call fn_integer_Sign rfl (sign_dn (hY.ext hx45))) ?_
 rintro _ w6 ⟨hx6,rfl⟩
 replace B5:=B5.ext hx6
 replace hg5:=hg5.ext hx6
 replace hx45:=hx45.trans hx6
 replace hx05:=hx05.trans hx6
 clear hx6
 have hsz:=sz_low hX.sz_le hY.sz_le
 have hne:=low_ne (a:=a) hb
 have hnum:=lowest_num (a:=a) hb
 have hden:=lowest_den (a:=a) hb
 refine .r rfl ?_
 refine StL.nil (Out.then_normal (St.cutX (fun _:Value=>[(2,.pointer (some ⟨w.heap.size,0,none⟩)),(3,.pointer (some ⟨w1.heap.size,0,none⟩)),(4,.pointer (some ⟨w2.heap.size,0,none⟩)),(5,.pointer (some ⟨b5,0,none⟩))]) (fun u w'=>Ext w4 w'∧Blk 31 w' b5 u.cells.toList∧CanO 0 w' u (if b<0 then -((Nat.gcd a.natAbs b.natAbs:Nat):Int) else ((Nat.gcd a.natAbs b.natAbs:Nat):Int))) ?_ ?_))
 ·by_cases hneg:b<0
  ·refine St.condT rfl (decide_eq_true (by unfold signI;rw [if_pos hneg];decide)) ?_
   rw [if_pos hneg,sz_neg] at hsz
   (iterate 6 refine Nv ?_;try refine .r rfl ?_)
   refine .p (RunsTo.loadI2 rfl (B5) (hg5.r2)) ?_
   refine .s (OpR.call fn_integer_Neg rfl (neg_dn (hg5.dn hsz))) ?_
   rintro v7 w7 ⟨hx7,h7⟩
   refine StL.setCan rfl rfl (B5.ext hx7) hg5.two.1 h7 (hx45.trans hx7) hl5 ?_
   intro w8 B8 hu8 h8 hx8
   refine StL.nil (Out.met v7 ⟨rfl,rfl,rfl,rfl,trivial⟩ ⟨hx8,B8,?_⟩)
   rw [if_pos hneg]
   exact h8
  ·refine St.condF rfl (decide_eq_false (by unfold signI;rw [if_neg hneg];split <;> decide)) (St.skip (Out.met g ⟨rfl,rfl,rfl,rfl,trivial⟩ ⟨hx45,B5,?_⟩))
   rw [if_neg hneg]
   exact hg5
 ·rintro u w7 ⟨hx7,B5',hu⟩
  have hl1:=B1.lt
  have hl2:=B2.lt
  have hl3:=B3.lt
  replace B1:=B1.ext hx7
  replace B2:=B2.ext hx7
  replace B3:=B3.ext hx7
  replace hX:=hX.ext hx7
  replace hY:=hY.ext hx7
  replace hx0:=hx0.trans hx7
  clear hx7
  generalize (if b<0 then -((Nat.gcd a.natAbs b.natAbs:Nat):Int) else ((Nat.gcd a.natAbs b.natAbs:Nat):Int))=D at *
  clear B5 hg5 hx45 hx05 hg
  (iterate 6 refine Nv ?_;try refine .r rfl ?_)
  refine .p (RunsTo.loadI2 rfl (B1) (hX.r2)) ?_
  refine .p (RunsTo.loadI2 rfl (B5') (hu.r2)) ?_
  refine .s (OpR.call fn_integer_DivMod rfl (divMod_dn (base:=base) hX (hu.dn hsz) (Nat.le_trans hbase hx0.size))) ?_
  rintro _ w8 ⟨hx8,_,hd⟩
  obtain ⟨q1,m1,rfl,hq1,_⟩:=hd hne
  rw [hnum] at hq1
  replace B1:=B1.ext hx8
  replace B2:=B2.ext hx8
  replace B3:=B3.ext hx8
  replace B5':=B5'.ext hx8
  replace hu:=hu.ext hx8
  replace hx0:=hx0.trans hx8
  clear hx8
  refine .r rfl ?_
  refine StL.setCan rfl rfl B1 hX.r2.len hq1 hx0 (Nat.le_refl _) ?_
  intro w9 B1' hu9 hq1' hx9
  replace B2:=B2.upd hu9 (by omega)
  replace B3:=B3.upd hu9 (by omega)
  replace B5':=B5'.upd hu9 (by omega)
  replace hu:=hu.updT hu9 B1 (by decide)
  clear hu9 B1 hx0
  (iterate 6 refine Nv ?_;try refine .r rfl ?_)
  refine .p (RunsTo.loadI2 rfl (B2) (hY.r2)) ?_
  refine .p (RunsTo.loadI2 rfl (B5') (hu.r2)) ?_
  refine .s (OpR.call fn_integer_DivMod rfl (divMod_dn (base:=base) (hY0.ext hx9) (hu.dn hsz) (Nat.le_trans hbase hx9.size))) ?_
  rintro _ w10 ⟨hx10,_,hd⟩
  obtain ⟨q2,m2,rfl,hq2,_⟩:=hd hne
  rw [hden] at hq2
  replace B1':=B1'.ext hx10
  replace B2:=B2.ext hx10
  replace B3:=B3.ext hx10
  replace hq1':=hq1'.ext hx10
  replace hx9:=hx9.trans hx10
  clear hx10
  refine .r rfl ?_
  refine StL.setCan rfl rfl B2 hY.r2.len hq2 hx9 (by omega) ?_
  intro w11 B2' hu11 hq2' hx11
  replace B1':=B1'.upd hu11 (by omega)
  replace B3:=B3.upd hu11 (by omega)
  replace hq1':=hq1'.updT hu11 B2 (by decide)
  (iterate 6 refine Nv ?_;try refine .r rfl ?_)
  refine .p (RunsTo.loadI2 rfl (B1') (hq1.r2)) ?_
  refine .p (RunsTo.loadI2 rfl (B2') (hq2.r2)) ?_
  refine .p (RunsTo.buildR rfl rfl hq1.r2 hq2.r2) ?_
  have hR:CanR base w11 (mkR q1 q2) (Rat.divInt a b):=CanR.mk hq1' hq2'
  refine StL.setR rfl rfl rfl hR.1 B3 rfl hx11 (by omega) ?_
  intro w12 B12 hu12 hx12
  (iterate 6 refine Nv ?_;try refine .r rfl ?_)
  exact Out.retR rfl rfl B12 hR.1 ⟨hx12,hR.upd hu12 B3 (by decide)⟩
def NewV (base:Nat) (w:World) (r:Value) (a b:Int):Prop:=(b=0→r=.tuple #[zR,.bool false])∧(b≠0→∃ v,r=.tuple #[v,.bool true]∧CanR base w v (Rat.divInt a b))
theorem signI_eq0 (a:Int):(signI a=0)=(a=0):=by
 unfold signI
 apply propext
 constructor
 ·intro h
  split at h
  ·omega
  ·split at h <;> omega
 ·intro h
  subst h
  rfl
theorem new_spec {base:Nat} {w:World} {x y:Value} {a b:Int} (hX:Dn w x a) (hY:Dn w y b) (hbase:base≤w.heap.size) :
  Calls Tryz.prog 42 #[x,y] w (Ret fun r w'=>Ext w w'∧NewV base w' r a b):=by
 refine calls_of_St (args:=[_,_]) Tryz.func42 rfl Tryz.ntmps42 rfl ?_
 refine Nv ?_
 refine .s (OpR.box rfl) ?_
 rintro _ w1 ⟨rfl,B1,hx1,hz1⟩
 refine .s (OpR.box rfl) ?_
 rintro _ w2 ⟨rfl,B2,hx2,hz2⟩
 refine .s (OpR.alloc TBok rfl) ?_
 rintro _ w3 ⟨rfl,B3,hx3,hz3⟩
 have hx0:Ext w w3:=(hx1.trans hx2).trans hx3
 replace B1:=(B1.ext hx2).ext hx3
 replace B2:=B2.ext hx3
 replace hX:=hX.ext hx0
 replace hY:=hY.ext hx0
 clear hx1 hx2 hx3
 (iterate 6 refine Nv ?_;try refine .r rfl ?_)
 refine .p (RunsTo.loadI2 rfl (B2) (hY.r2)) ?_
 refine .s (OpR.call fn_integer_Sign rfl (sign_dn hY)) ?_
 rintro _ w4 ⟨hx4,rfl⟩
 replace B1:=B1.ext hx4
 replace B2:=B2.ext hx4
 replace B3:=B3.ext hx4
 replace hX:=hX.ext hx4
 replace hY:=hY.ext hx4
 replace hx0:=hx0.trans hx4
 clear hx4
 by_cases h0:b=0
 ·refine .a 1 (.bool true) rfl (bool_true (by rw [signI_eq0];exact h0)) ?_
  (iterate 6 refine Nv ?_;try refine .r rfl ?_)
  refine .cT ?_
  (iterate 6 refine Nv ?_;try refine .r rfl ?_)
  refine .p (RunsTo.build TBok rfl rfl rfl rfl) ?_
  refine StL.setR (v:=zR) rfl rfl rfl zR_R4 B3 rfl hx0 (by omega) ?_
  intro w5 B5 hu5 hx5
  (iterate 6 refine Nv ?_;try refine .r rfl ?_)
  exact Out.retRT rfl rfl rfl B5 zR_R4 ⟨hx5,fun _=>rfl,fun h=>absurd h0 h⟩
 ·refine .a 1 (.bool false) rfl (bool_false (by rw [signI_eq0];exact h0)) ?_
  (iterate 6 refine Nv ?_;try refine .r rfl ?_)
  refine .cF ?_
  (iterate 6 refine Nv ?_;try refine .r rfl ?_)
  refine .p (RunsTo.loadI2 rfl (B1) (hX.r2)) ?_
  refine .p (RunsTo.loadI2 rfl (B2) (hY.r2)) ?_
  refine .s (OpR.call fn_rational_lowest rfl (lowest_spec (base:=base) hX hY h0 (Nat.le_trans hbase hx0.size))) ?_
  rintro v w5 ⟨hx5,hv⟩
  refine StL.setR rfl rfl rfl hv.1 (B3.ext hx5) rfl (hx0.trans hx5) (by omega) ?_
  intro w6 B6 hu6 hx6
  (iterate 6 refine Nv ?_;try refine .r rfl ?_)
  exact Out.retRT rfl rfl rfl B6 hv.1 ⟨hx6,fun h=>absurd h h0,fun _=>⟨v,rfl,hv.upd hu6 (B3.ext hx5) (by decide)⟩⟩
theorem den_ne (q:Rat):(q.den:Int)≠0:=by have:=den_pos q;omega
theorem rz_half:rz (Rat.divInt 1 2)=1:=by decide +kernel
theorem den_one (q:Rat):(cmpI (q.den:Int) 1=0)=(q.den=1):=by
 unfold cmpI
 apply propext
 constructor
 ·intro h
  split at h
  ·omega
  ·split at h <;> omega
 ·intro h
  rw [h];rfl
theorem StL.twoR {n:Nat} {E:List (Nat×Value)} {w w0:World} {ops:Array Oper} {rest:List Oper} {Q:Exit→Act→World→Prop} {ty1 ty2 e:TypeId} {p1 p2:String} {a1 a2:Array Edge} {b1 b2 d1 d2 s1 s2 c1 c2:Nat} {C1 C2:List Value} {u v:Value} {p q:Rat}
  (hT:RT e=true) (ht1:look E d1=some (.pointer (some ⟨b1,0,none⟩))) (ht2:look E d2=some (.pointer (some ⟨b2,0,none⟩))) (hs1:look E s1=some u) (hs2:look E s2=some v) (hne:b1≠b2)
  (B1:Blk e w b1 C1) (hl1:C1.length=4) (B2:Blk e w b2 C2) (hl2:C2.length=4) (hx:Ext w0 w) (hg1:w0.heap.size≤b1) (hg2:w0.heap.size≤b2) (hu:CanR c1 w u p) (hv:CanR c2 w v q)
  (next:∀ w',Ext w0 w'→Blk e w' b1 u.cells.toList→Blk e w' b2 v.cells.toList→CanR c1 w' u p→CanR c2 w' v q→StL Tryz.prog n E w' ops rest Q) :
  StL Tryz.prog n E w ops (⟨none,.store e (.tmp d1) (.tmp s1),ty1,p1,a1,none⟩::⟨none,.store e (.tmp d2) (.tmp s2),ty2,p2,a2,none⟩::rest) Q:=by
 obtain ⟨ti,_,_,_,_,hn⟩:=RT.look hT
 refine StL.setR hT ht1 hs1 hu.1 B1 hl1 hx hg1 ?_
 intro w7 B1' hu7 hx7
 have B2':=B2.upd hu7 (fun e=>hne e.symm)
 refine StL.setR hT ht2 hs2 hv.1 B2' hl2 hx7 hg2 ?_
 intro w8 B2'' hu8 hx8
 exact next w8 hx8 (B1'.upd hu8 hne) B2'' ((hu.upd hu7 B1 hn).upd hu8 B2' hn) ((hv.upd hu7 B1 hn).upd hu8 B2' hn)
theorem rquo_dn {w:World} {x y:Value} {a b:Int} (hX:Dn w x a) (hY:Dn w y b) (hb:b≠0) (_hs:sz a≤100000∧sz b≤100000) :
  Calls Tryz.prog 117 #[x,y] w (Ret fun r w'=>Ext w w'∧CanO 0 w' r (a / b)):=by
 refine calls_of_St (args:=[_,_]) Tryz.func117 rfl Tryz.ntmps117 rfl ?_
 refine Nv ?_
 refine .s (OpR.box rfl) ?_
 rintro _ w1 ⟨rfl,B1,hx1,hz1⟩
 refine .s (OpR.box rfl) ?_
 rintro _ w2 ⟨rfl,B2,hx2,hz2⟩
 refine .s (OpR.alloc TBok rfl) ?_
 rintro _ w3 ⟨rfl,B3,hx3,hz3⟩
 have hx0:Ext w w3:=(hx1.trans hx2).trans hx3
 replace B1:=(B1.ext hx2).ext hx3
 replace B2:=B2.ext hx3
 replace hX:=hX.ext hx0
 replace hY:=hY.ext hx0
 clear hx1 hx2 hx3
 (iterate 6 refine Nv ?_;try refine .r rfl ?_)
 refine .p (RunsTo.loadI2 rfl (B1) (hX.r2)) ?_
 refine .p (RunsTo.loadI2 rfl (B2) (hY.r2)) ?_
 refine .s (OpR.call fn_r01_DivMod rfl (rdivMod_dn hX hY)) ?_
 rintro _ w4 ⟨hx4,_,hd⟩
 obtain ⟨q,m,rfl,hq,hm⟩:=hd hb
 replace B3:=B3.ext hx4
 replace hx0:=hx0.trans hx4
 clear hx4
 refine .r rfl ?_
 refine StL.setTwo rfl rfl rfl (fun _ _=>rfl) (fun _ _=>rfl) hq hm hx0 ?_
 intro b5 b6 w5 hne hl5 hl6 hx5 B5 _ hq5 _ hx05
 replace B3:=B3.ext hx5
 clear hx5
 (iterate 6 refine Nv ?_;try refine .r rfl ?_)
 refine .p (RunsTo.loadI2 rfl (B5) (hq5.r2)) ?_
 refine StL.setCan rfl rfl B3 rfl hq5 hx05 (by omega) ?_
 intro w8 B8 hu8 hq8 hx8
 (iterate 6 refine Nv ?_;try refine .r rfl ?_)
 exact Out.retI rfl rfl B8 hq8 ⟨hx8,hq8⟩
theorem sz_lt {a b:Int} (ha:sz a≤100000) (hb:sz b≤100000):sz ((Nat.gcd a.natAbs b.natAbs:Nat):Int)≤100000:=by
 have:=sz_gcd a b
 omega
set_option maxHeartbeats 800000 in
theorem rnew_spec {w:World} {x y:Value} {a b:Int} (hX:Dn w x a) (hY:Dn w y b) (ha:sz a≤100000) (hb:sz b≤100000) :
  Calls Tryz.prog 69 #[x,y] w (Ret fun r w'=>Ext w w'∧NewV 0 w' r a b):=by
 refine calls_of_St (args:=[_,_]) Tryz.func69 rfl Tryz.ntmps69 rfl ?_
 refine Nv ?_
 refine .s (OpR.box rfl) ?_
 rintro _ w1 ⟨rfl,B1,hx1,hz1⟩
 refine .s (OpR.box rfl) ?_
 rintro _ w2 ⟨rfl,B2,hx2,hz2⟩
 refine .s (OpR.alloc TBok rfl) ?_
 rintro _ w3 ⟨rfl,B3,hx3,hz3⟩
 have hx0:Ext w w3:=(hx1.trans hx2).trans hx3
 replace B1:=(B1.ext hx2).ext hx3
 replace B2:=B2.ext hx3
 replace hX:=hX.ext hx0
 replace hY:=hY.ext hx0
 clear hx1 hx2 hx3
 (iterate 6 refine Nv ?_;try refine .r rfl ?_)
 refine .p (RunsTo.loadI2 rfl (B2) (hY.r2)) ?_
 refine .s (OpR.call fn_r01_Sign rfl (rsign_dn hY)) ?_
 rintro _ w4 ⟨hx4,rfl⟩
 replace B1:=B1.ext hx4
 replace B2:=B2.ext hx4
 replace B3:=B3.ext hx4
 replace hX:=hX.ext hx4
 replace hY:=hY.ext hx4
 replace hx0:=hx0.trans hx4
 clear hx4
 by_cases h0:b=0
 ·refine .a 1 (.bool true) rfl (bool_true (by rw [signI_eq0];exact h0)) ?_
  (iterate 6 refine Nv ?_;try refine .r rfl ?_)
  refine .cT ?_
  (iterate 6 refine Nv ?_;try refine .r rfl ?_)
  refine .p (RunsTo.build TBok rfl rfl rfl rfl) ?_
  refine StL.setR (v:=zR) rfl rfl rfl zR_R4 B3 rfl hx0 (by omega) ?_
  intro w5 B5 hu5 hx5
  (iterate 6 refine Nv ?_;try refine .r rfl ?_)
  exact Out.retRT rfl rfl rfl B5 zR_R4 ⟨hx5,fun _=>rfl,fun h=>absurd h0 h⟩
 refine .a 1 (.bool false) rfl (bool_false (by rw [signI_eq0];exact h0)) ?_
 (iterate 6 refine Nv ?_;try refine .r rfl ?_)
 refine .cF ?_
 (iterate 6 refine Nv ?_;try refine .r rfl ?_)
 refine .p (RunsTo.loadI2 rfl (B2) (hY.r2)) ?_
 refine .s (OpR.call fn_r01_Sign rfl (rsign_dn hY)) ?_
 rintro _ w5 ⟨hx5,rfl⟩
 replace B1:=B1.ext hx5
 replace B2:=B2.ext hx5
 replace B3:=B3.ext hx5
 replace hX:=hX.ext hx5
 replace hY:=hY.ext hx5
 replace hx0:=hx0.trans hx5
 clear hx5
 refine .r rfl ?_
 have hl1:=B1.lt
 have hl2:=B2.lt
 have hl3:=B3.lt
 refine StL.nil (Out.then_normal (St.cutX (fun _:(Value×Value)×Int×Int=>[(2,.pointer (some ⟨w.heap.size,0,none⟩)),(3,.pointer (some ⟨w1.heap.size,0,none⟩)),(4,.pointer (some ⟨w2.heap.size,0,none⟩))])
  (fun g w'=>Ext w w'∧Blk 31 w' w.heap.size g.1.1.cells.toList∧Blk 31 w' w1.heap.size g.1.2.cells.toList∧(∃ C,Blk 33 w' w2.heap.size C∧C.length=4)∧Dn w' g.1.1 g.2.1∧Dn w' g.1.2 g.2.2∧0<g.2.2∧Rat.divInt g.2.1 g.2.2=Rat.divInt a b∧sz g.2.1≤100000∧sz g.2.2≤100000) ?_ ?_))
 ·by_cases hneg:b<0
  ·refine St.condT rfl (decide_eq_true (by unfold signI;rw [if_pos hneg];decide)) ?_
   (iterate 6 refine Nv ?_;try refine .r rfl ?_)
   refine St.flow 3 TBfol (by kernel_rfl) rfl (by kernel_rfl) rfl True.intro ?_
   refine .on (fun _ hR=>RunsTo.loadI2 rfl (hR.blk (B1) (by simp)) (hX.r2)) ?_
   refine FL.callE fn_r01_Neg rfl rfl rfl (fun w6 hx6=>CallF.mk rfl (rneg_dn (base:=0) (hX.ext hx6) (Nat.zero_le _))) (MonoR.canO 0 _) ?_
   refine .on (fun _ hR=>RunsTo.loadI2 rfl (hR.blk (B2) (by simp)) (hY.r2)) ?_
   refine FL.endE rfl ?_
   intro w6 hx6 t15 h15 _ _
   replace B1:=B1.ext hx6
   replace B2:=B2.ext hx6
   replace B3:=B3.ext hx6
   replace hX:=hX.ext hx6
   replace hY:=hY.ext hx6
   replace hx0:=hx0.trans hx6
   clear hx6
   refine .s (OpR.call fn_r01_Neg rfl (rneg_dn (base:=0) hY (Nat.zero_le _))) ?_
   rintro t17 w7 ⟨hx7,h17⟩
   replace B1:=B1.ext hx7
   replace B2:=B2.ext hx7
   replace B3:=B3.ext hx7
   replace h15:=h15.ext hx7
   replace hx0:=hx0.trans hx7
   clear hx7
   refine StL.setCan rfl rfl B1 hX.r2.len h15 hx0 (Nat.le_refl _) ?_
   intro w8 B1' hu8 h15' hx08
   replace B2:=B2.upd hu8 (by omega)
   replace B3:=B3.upd hu8 (by omega)
   replace h17:=h17.updT hu8 B1 (by decide)
   refine StL.setCan rfl rfl B2 hY.r2.len h17 hx08 (by omega) ?_
   intro w9 B2' hu9 h17' hx09
   replace B1':=B1'.upd hu9 (by omega)
   replace B3:=B3.upd hu9 (by omega)
   replace h15':=h15'.updT hu9 B2 (by decide)
   refine StL.nil (Out.met ((t15,t17),-a,-b) ⟨rfl,rfl,rfl,trivial⟩ ⟨hx09,B1',B2',⟨_,B3,rfl⟩,h15'.dn (by rw [sz_neg];omega),h17'.dn (by rw [sz_neg];omega),by dsimp only;omega,Rat.neg_divInt_neg a b,by dsimp only;rw [sz_neg];exact ha,by dsimp only;rw [sz_neg];exact hb⟩)
  ·refine St.condF rfl (decide_eq_false (by unfold signI;rw [if_neg hneg];split <;> decide)) (St.skip (Out.met ((x,y),a,b) ⟨rfl,rfl,rfl,trivial⟩ ⟨hx0,B1,B2,⟨_,B3,rfl⟩,hX,hY,by dsimp only;omega,rfl,ha,hb⟩))
 ·rintro ⟨⟨x',y'⟩,a',b'⟩ w6 ⟨hx06,B1,B2,⟨C3,B3,hC3⟩,hX,hY,hpos,heq,ha',hb'⟩
  dsimp only at B1 B2 hX hY hpos heq ha' hb'
  have hg:=sz_lt ha' hb'
  have hgn:=gcd_ne (a:=a') (b:=b') (by omega)
  (iterate 6 refine Nv ?_;try refine .r rfl ?_)
  refine .p (RunsTo.loadI2 rfl (B1) (hX.r2)) ?_
  refine .p (RunsTo.loadI2 rfl (B2) (hY.r2)) ?_
  refine .s (OpR.call fn_r01_Gcd rfl (rgcd_dn hX hY)) ?_
  rintro g w7 ⟨hx7,hgc⟩
  replace B1:=B1.ext hx7
  replace B2:=B2.ext hx7
  replace B3:=B3.ext hx7
  replace hX:=hX.ext hx7
  replace hY:=hY.ext hx7
  replace hx06:=hx06.trans hx7
  clear hx7
  refine StL.setNew rfl (fun _=>rfl) hgc hx06 ?_
  intro b6 w8 hl6 hx8 B6 hg6 hx08
  replace B1:=B1.ext hx8
  replace B2:=B2.ext hx8
  replace B3:=B3.ext hx8
  replace hX:=hX.ext hx8
  replace hY:=hY.ext hx8
  clear hx8
  refine Nv ?_
  refine St.sub (E':=[(2,.pointer (some ⟨w.heap.size,0,none⟩)),(3,.pointer (some ⟨w1.heap.size,0,none⟩)),(4,.pointer (some ⟨w2.heap.size,0,none⟩)),(6,.pointer (some ⟨b6,0,none⟩))]) ?_ ⟨rfl,rfl,rfl,rfl,trivial⟩
  refine St.flow 5 TBfol (by kernel_rfl) rfl (by kernel_rfl) rfl True.intro ?_
  refine .on (fun _ hR=>RunsTo.loadI2 rfl (hR.blk (B1) (by simp)) (hX.r2)) ?_
  refine .on (fun _ hR=>RunsTo.loadI2 rfl (hR.blk (B6) (by simp)) (hg6.r2)) ?_
  refine FL.callE fn_r01_Quo rfl rfl rfl (fun w9 hx9=>CallF.mk rfl (rquo_dn (hX.ext hx9) ((hg6.ext hx9).dn (by omega)) (by omega) ⟨ha',hg⟩)) (MonoR.canO 0 _) ?_
  refine .on (fun _ hR=>RunsTo.loadI2 rfl (hR.blk (B2) (by simp)) (hY.r2)) ?_
  refine .on (fun _ hR=>RunsTo.loadI2 rfl (hR.blk (B6) (by simp)) (hg6.r2)) ?_
  refine FL.endE rfl ?_
  intro w9 hx9 t23 h23 _ _
  replace B3:=B3.ext hx9
  replace hY:=hY.ext hx9
  replace hg6:=hg6.ext hx9
  replace hx08:=hx08.trans hx9
  clear hx9
  refine .s (OpR.call fn_r01_Quo rfl (rquo_dn hY (hg6.dn (by omega)) (by omega) ⟨hb',hg⟩)) ?_
  rintro t26 w10 ⟨hx10,h26⟩
  replace B3:=B3.ext hx10
  replace h23:=h23.ext hx10
  replace hx08:=hx08.trans hx10
  clear hx10
  refine .p (RunsTo.buildR rfl rfl h23.r2 h26.r2) ?_
  have hR:CanR 0 w10 (mkR t23 t26) (Rat.divInt a b):=by
   rw [← heq]
   exact CanR.mk (by rw [num_pos hpos];exact h23) (by rw [den_pos' hpos];exact h26)
  refine StL.setR rfl rfl rfl hR.1 B3 hC3 hx08 (by omega) ?_
  intro w12 B12 hu12 hx12
  (iterate 6 refine Nv ?_;try refine .r rfl ?_)
  exact Out.retRT rfl rfl rfl B12 hR.1 ⟨hx12,fun e=>absurd e h0,fun _=>⟨_,rfl,hR.upd hu12 B3 (by decide)⟩⟩
theorem rwhole_spec {w:World} {x:Value} {a:Int} (hX:Dn w x a) :
  Calls Tryz.prog 61 #[x] w (Ret fun r w'=>Ext w w'∧CanR 0 w' r (a:Rat)):=by
 refine calls_of_St (args:=[_]) Tryz.func61 rfl Tryz.ntmps61 rfl ?_
 refine Nv ?_
 refine .s (OpR.box rfl) ?_
 rintro _ w1 ⟨rfl,B1,hx1,hz1⟩
 refine .s (OpR.alloc TBok rfl) ?_
 rintro _ w2 ⟨rfl,B2,hx2,hz2⟩
 have hx0:Ext w w2:=hx1.trans hx2
 replace B1:=B1.ext hx2
 replace hX:=hX.ext hx0
 clear hx1 hx2
 (iterate 6 refine Nv ?_;try refine .r rfl ?_)
 refine .p (RunsTo.loadI2 rfl (B1) (hX.r2)) ?_
 refine .s (OpR.call fn_r01_Normalize rfl (rnormalize_dn (base:=0) hX (Nat.zero_le _))) ?_
 rintro u w3 ⟨hx3,hu⟩
 replace B2:=B2.ext hx3
 replace hx0:=hx0.trans hx3
 clear hx3
 refine .s (OpR.call fn_r01_Small rfl (rsmall_spec (base:=0) w3 1 (by decide) (by decide) (Nat.zero_le _))) ?_
 rintro v w4 ⟨hx4,hv⟩
 replace B2:=B2.ext hx4
 replace hu:=hu.ext hx4
 replace hx0:=hx0.trans hx4
 clear hx4
 refine .p (RunsTo.buildR rfl rfl hu.r2 hv.r2) ?_
 have hR:CanR 0 w4 (mkR u v) (a:Rat):=CanR.mk hu hv
 refine StL.setR rfl rfl rfl hR.1 B2 rfl hx0 (by omega) ?_
 intro w12 B12 hu12 hx12
 (iterate 6 refine Nv ?_;try refine .r rfl ?_)
 exact Out.retR rfl rfl B12 hR.1 ⟨hx12,hR.upd hu12 B2 (by decide)⟩
theorem rsmallR_spec (w:World) (a:Int) (h0:-9223372036854775808≤a) (h1:a≤9223372036854775807) :
  Calls Tryz.prog 22 #[.int .i64 a] w (Ret fun r w'=>Ext w w'∧CanR 0 w' r (a:Rat)):=by
 have hsz:sz a≤2:=sz_small (by omega) (by omega)
 refine calls_of_St (args:=[_]) Tryz.func22 rfl Tryz.ntmps22 rfl ?_
 refine Nv ?_
 refine .s (OpR.alloc TBok rfl) ?_
 rintro _ w2 ⟨rfl,B2,hx0,hz2⟩
 (iterate 6 refine Nv ?_;try refine .r rfl ?_)
 refine .s (OpR.call fn_r01_Small rfl (rsmall_spec (base:=0) w2 a h0 h1 (Nat.zero_le _))) ?_
 rintro u w3 ⟨hx3,hu⟩
 replace B2:=B2.ext hx3
 replace hx0:=hx0.trans hx3
 clear hx3
 refine .s (OpR.call fn_r02_Whole rfl (rwhole_spec (hu.dn (by omega)))) ?_
 rintro v w4 ⟨hx4,hv⟩
 replace B2:=B2.ext hx4
 replace hx0:=hx0.trans hx4
 clear hx4
 refine StL.setR rfl rfl rfl hv.1 B2 rfl hx0 (by omega) ?_
 intro w12 B12 hu12 hx12
 (iterate 6 refine Nv ?_;try refine .r rfl ?_)
 exact Out.retR rfl rfl B12 hv.1 ⟨hx12,hv.upd hu12 B2 (by decide)⟩
def DnS (w:World) (v:Value) (q:Rat):Prop:=R4 v∧∃ a b,Dn w (nm v) a∧Dn w (dm v) b∧q=Rat.divInt a b∧sz a≤100000∧sz b≤100000
theorem DnS.ext {w w':World} {v:Value} {q:Rat} (h:DnS w v q) (hx:Ext w w'):DnS w' v q:=by
 obtain ⟨h4,a,b,ha,hb,e,s⟩:=h
 exact ⟨h4,a,b,ha.ext hx,hb.ext hx,e,s⟩
theorem DnS.rz {w:World} {v:Value} {q:Rat} (h:DnS w v q):rz q≤100000:=by
 obtain ⟨_,a,b,_,_,rfl,h1,h2⟩:=h
 have:=rz_divInt a b
 omega
theorem CanR.dnS {base:Nat} {w:World} {v:Value} {q:Rat} (h:CanR base w v q) (hz:Go.Qf.rz q≤100000):DnS w v q:=by
 have h1:=rz_num q
 have h2:=rz_den q
 exact ⟨h.1,q.num,q.den,h.2.1.dn (by omega),h.2.2.dn (by omega),(Rat.num_divInt_den q).symm,by omega,by omega⟩
theorem rnormalizeR_spec {w:World} {x:Value} {q:Rat} (hX:DnS w x q) :
  Calls Tryz.prog 68 #[x] w (Ret fun r w'=>Ext w w'∧CanR 0 w' r q):=by
 refine calls_of_St (args:=[_]) Tryz.func68 rfl Tryz.ntmps68 rfl ?_
 refine Nv ?_
 refine .s (OpR.box rfl) ?_
 rintro _ w1 ⟨rfl,B1,hx1,hz1⟩
 refine .s (OpR.alloc TBok rfl) ?_
 rintro _ w2 ⟨rfl,B2,hx2,hz2⟩
 have hx0:Ext w w2:=hx1.trans hx2
 replace B1:=B1.ext hx2
 obtain ⟨h4,a,b,ha,hb,rfl,hsa,hsb⟩:=hX.ext hx0
 clear hx1 hx2
 (iterate 6 refine Nv ?_;try refine .r rfl ?_)
 refine .p (RunsTo.loadN rfl (B1) (h4)) ?_
 refine .r rfl ?_
 refine .p (RunsTo.loadD rfl (B1) (h4)) ?_
 refine .s (OpR.call fn_r02_New rfl (rnew_spec ha hb hsa hsb)) ?_
 rintro _ w4 ⟨hx4,hn0,hn1⟩
 replace B2:=B2.ext hx4
 replace hx0:=hx0.trans hx4
 clear hx4
 by_cases h0:b=0
 ·rw [hn0 h0]
  subst h0
  rw [Rat.divInt_zero]
  refine .r rfl ?_
  refine StL.newR (v:=zR) rfl rfl (fun _=>rfl) zR_R4 ?_
  intro b3 w5 hl3 hx5 _
  replace B2:=B2.ext hx5
  replace hx0:=hx0.trans hx5
  clear hx5
  (iterate 6 refine Nv ?_;try refine .r rfl ?_)
  refine .cT ?_
  (iterate 6 refine Nv ?_;try refine .r rfl ?_)
  refine .s (OpR.call fn_r02_Small rfl (rsmallR_spec w5 0 (by decide) (by decide))) ?_
  rintro v w6 ⟨hx6,hv⟩
  replace B2:=B2.ext hx6
  replace hx0:=hx0.trans hx6
  clear hx6
  refine StL.setR rfl rfl rfl hv.1 B2 rfl hx0 (by omega) ?_
  intro w12 B12 hu12 hx12
  (iterate 6 refine Nv ?_;try refine .r rfl ?_)
  exact Out.retR rfl rfl B12 hv.1 ⟨hx12,hv.upd hu12 B2 (by decide)⟩
 ·obtain ⟨v,rfl,hv⟩:=hn1 h0
  refine .r rfl ?_
  refine StL.newR rfl rfl (fun _=>rfl) hv.1 ?_
  intro b3 w5 hl3 hx5 B3
  replace B2:=B2.ext hx5
  replace hv:=hv.ext hx5
  replace hx0:=hx0.trans hx5
  clear hx5
  (iterate 6 refine Nv ?_;try refine .r rfl ?_)
  refine .cF ?_
  (iterate 6 refine Nv ?_;try refine .r rfl ?_)
  refine .p (RunsTo.loadR rfl rfl (B3) (hv.1)) ?_
  refine StL.setR rfl rfl rfl hv.1 B2 rfl hx0 (by omega) ?_
  intro w12 B12 hu12 hx12
  (iterate 6 refine Nv ?_;try refine .r rfl ?_)
  exact Out.retR rfl rfl B12 hv.1 ⟨hx12,hv.upd hu12 B2 (by decide)⟩
theorem risWhole_spec {w:World} {x:Value} {q:Rat} (h:DnS w x q) :
  Calls Tryz.prog 100 #[x] w (Ret fun r w'=>Ext w w'∧r=.bool (decide (q.den=1))):=by
 have hz:=h.rz
 have hzd:=rz_den q
 refine calls_of_St (args:=[_]) Tryz.func100 rfl Tryz.ntmps100 rfl ?_
 refine Nv ?_
 refine .s (OpR.box rfl) ?_
 rintro _ w1 ⟨rfl,B1,hx1,hz1⟩
 replace h:=h.ext hx1
 (iterate 6 refine Nv ?_;try refine .r rfl ?_)
 refine .p (RunsTo.loadR rfl rfl (B1) (h.1)) ?_
 refine .s (OpR.call fn_r02_Normalize rfl (rnormalizeR_spec h)) ?_
 rintro v w3 ⟨hx3,hv⟩
 refine .p (RunsTo.fieldD rfl rfl hv.1) ?_
 refine .s (OpR.call fn_r01_Small rfl (rsmall_spec (base:=0) w3 1 (by decide) (by decide) (Nat.zero_le _))) ?_
 rintro u w4 ⟨hx4,hu⟩
 refine .s (OpR.call fn_r01_Cmp rfl (rcmp_dn ((hv.2.2.ext hx4).dn (by omega)) (hu.dn (by decide +kernel)))) ?_
 rintro _ w5 ⟨hx5,rfl⟩
 refine .a 1 (.bool (decide (q.den=1))) rfl ?_ ?_
 ·congr 1
  exact decide_eq_decide.2 (by rw [den_one])
 (iterate 6 refine Nv ?_;try refine .r rfl ?_)
 exact Out.ret1 rfl rfl ⟨((hx1.trans hx3).trans hx4).trans hx5,rfl⟩
end Go.Qf
namespace Go.Qf
open Go Go.RowKit Go.Proofs
def RA (f:Nat→Nat→Int):Nat→Vec:=fun i j=>(f i j:Rat)
theorem RA_int (f:Nat→Nat→Int):∀ i j,IsI (RA f i j):=fun i j=>⟨f i j,rfl⟩
def elimP (A:Nat→Nat→Int) (L:Int) (k i j:Nat):Nat→Nat→Int:=fun a b=>if k<a∧k<b∧(a<i∨a=i∧b<j) then (A k k * A a b - A a k * A k b) / L else A a b
theorem elimP_start (A:Nat→Nat→Int) (L:Int) (k n:Nat):mk n n (elimP A L k (k+1) (k+1))=mk n n A:=mk_congr fun a b _ _=>by unfold elimP;rw [if_neg (by omega)]
theorem elimP_step (A:Nat→Nat→Int) (L:Int) (k i j n:Nat) (hi:k<i) (hj:k<j):mk n n (upd2 (elimP A L k i j) i j ((A k k * A i j - A i k * A k j) / L))=mk n n (elimP A L k i (j+1)):=mk_congr fun a b _ _=>by
 unfold upd2 elimP
 by_cases e:a=i∧b=j
 ·obtain ⟨rfl,rfl⟩:=e
  rw [if_pos ⟨rfl,rfl⟩,if_pos (by omega)]
 ·rw [if_neg e]
  by_cases g:k<a∧k<b∧(a<i∨a=i∧b<j)
  ·rw [if_pos g,if_pos (by omega)]
  ·rw [if_neg g,if_neg (by omega)]
theorem elimP_next (A:Nat→Nat→Int) (L:Int) (k i n:Nat):mk n n (elimP A L k i n)=mk n n (elimP A L k (i+1) (k+1)):=mk_congr fun a b _ _=>by
 unfold elimP
 by_cases g:k<a∧k<b∧(a<i∨a=i∧b<n)
 ·rw [if_pos g,if_pos (by omega)]
 ·rw [if_neg g,if_neg (by omega)]
theorem elimP_kk (A:Nat→Nat→Int) (L:Int) (k i j b:Nat):elimP A L k i j k b=A k b:=by unfold elimP;rw [if_neg (by omega)]
theorem elimP_ak (A:Nat→Nat→Int) (L:Int) (k i j a:Nat):elimP A L k i j a k=A a k:=by unfold elimP;rw [if_neg (by omega)]
theorem elimP_ij (A:Nat→Nat→Int) (L:Int) (k i j:Nat):elimP A L k i j i j=A i j:=by unfold elimP;rw [if_neg (by omega)]
def Gd (n:Nat) (f:Nat→Nat→Int):Prop:=∀ m,1≤m→m<n→dd (RA f) m≠0
def DInv (n:Nat) (f:Nat→Nat→Int) (k:Nat) (A:Nat→Nat→Int) (L:Int) (neg:Bool):Prop :=
 L≠0∧(Gd n f→neg=false∧(L:Rat)=dd (RA f) k∧∀ i j,k≤i→k≤j→i<n→j<n→(A i j:Rat)=BB (RA f) k i j)
theorem DInv.start (n:Nat) (f:Nat→Nat→Int):DInv n f 0 f 1 false :=
 ⟨by decide,fun _=>⟨rfl,rfl,fun i j _ _ _ _=>by rw [BB_zero];rfl⟩⟩
theorem DInv.step {n:Nat} {f:Nat→Nat→Int} {k:Nat} {A:Nat→Nat→Int} {L:Int} {neg:Bool} (h:DInv n f k A L neg) (hk:k<n) (hp:A k k≠0):DInv n f (k+1) (elimP A L k n (k+1)) (A k k) neg:=by
 refine ⟨hp,fun hg=>?_⟩
 obtain ⟨h1,h2,h3⟩:=h.2 hg
 have hkk:(A k k:Rat)=dd (RA f) (k+1):=(h3 k k (Nat.le_refl _) (Nat.le_refl _) hk hk).trans (BB_diag _ _)
 have hdd:dd (RA f) (k+1)≠0:=by rw [← hkk];exact fun e=>hp (by exact_mod_cast e)
 refine ⟨h1,hkk,fun i j hi hj hin hjn=>?_⟩
 unfold elimP
 rw [if_pos ⟨by omega,by omega,.inl hin⟩]
 obtain ⟨z,hz⟩:=BB_int (RA_int f) (k+1) i j hdd
 have hs:=BB_succ (RA f) k i j hdd
 rw [hz,← h2,← h3 k k (Nat.le_refl _) (Nat.le_refl _) hk hk,← h3 i j (by omega) (by omega) hin hjn,← h3 i k (by omega) (Nat.le_refl _) hin hk,← h3 k j (Nat.le_refl _) (by omega) hk hjn] at hs
 have hs':z * L=A k k * A i j - A i k * A k j:=by exact_mod_cast hs
 rw [hz,← hs',Int.mul_ediv_cancel _ h.1]
theorem DInv.swap {n:Nat} {f:Nat→Nat→Int} {k p:Nat} {A:Nat→Nat→Int} {L:Int} {neg:Bool} (h:DInv n f k A L neg) (hk:k<p) (hp:p<n) (h0:A k k=0) (A':Nat→Nat→Int) (neg':Bool):DInv n f k A' L neg':=by
 refine ⟨h.1,fun hg=>?_⟩
 exfalso
 obtain ⟨h1,h2,h3⟩:=h.2 hg
 have:=h3 k k (Nat.le_refl _) (Nat.le_refl _) (by omega) (by omega)
 rw [BB_diag,h0] at this
 exact hg (k+1) (by omega) (by omega) this.symm
theorem DInv.zero {n:Nat} {f:Nat→Nat→Int} {k:Nat} {A:Nat→Nat→Int} {L:Int} {neg:Bool} (h:DInv n f k A L neg) (hk:k<n) (h0:A k k=0) (hg:Gd n f):((0:Int):Rat)=dd (RA f) n:=by
 obtain ⟨h1,h2,h3⟩:=h.2 hg
 have:=h3 k k (Nat.le_refl _) (Nat.le_refl _) hk hk
 rw [BB_diag,h0] at this
 by_cases e:k+1=n
 ·rw [← e];exact this
 ·exact absurd this.symm (hg (k+1) (by omega) (by omega))
section
variable {k:Nat} {te e:TypeId} {base:Nat} {w w':World} {v:Value} {rs:List Value} {R:List (List Value)}
theorem get_swap {α:Type} {l:List α} {i j:Nat} {x y:α} (hij:i≠j) (hi:l[i]?=some x) (hj:l[j]?=some y) (a:Nat):((l.set i y).set j x)[a]?=l[if a=i then j else if a=j then i else a]?:=by
 have h1:=(List.getElem?_eq_some_iff.1 hi).1
 have h2:=(List.getElem?_eq_some_iff.1 hj).1
 by_cases ea:a=i
 ·subst ea
  rw [if_pos rfl,List.getElem?_set_ne (Ne.symm hij),List.getElem?_set_self h1,hj]
 ·rw [if_neg ea]
  by_cases eb:a=j
  ·subst eb
   rw [if_pos rfl,List.getElem?_set_self (by simpa using h2),hi]
  ·rw [if_neg eb,List.getElem?_set_ne (Ne.symm eb),List.getElem?_set_ne (Ne.symm ea)]
theorem MatR.swapR (h:MatR k te e base w v rs R) (hte:e≠te) {i j:Nat} {x y:Value} {X Y:List Value} (hij:i≠j) (hi:rs[i]?=some x) (hj:rs[j]?=some y) (hI:R[i]?=some X) (hJ:R[j]?=some Y) {g cap:Nat} {D:List Value} (hv:v=.slice (some ⟨g,0,none⟩) rs.length cap) (hb:Blk te w g (rs++D))
  (hu:Upd g w w') (hb':Blk te w' g ((rs.set i y).set j x++D)):MatR k te e base w' v ((rs.set i y).set j x) ((R.set i Y).set j X):=by
 obtain ⟨h1,h2,h3,h4,h5⟩:=h
 have hlt:=(List.getElem?_eq_some_iff.1 hi).1
 obtain ⟨g',cap',D',hv',hg',hbb,hc1,hc2,hc3⟩:=h1.open (by intro e;rw [e] at hlt;simp at hlt)
 rw [hv] at hv'
 simp only [Value.slice.injEq,Option.some.injEq,Addr.mk.injEq,and_true] at hv'
 obtain ⟨rfl,_,rfl⟩:=hv'
 rw [flat_one rs h3] at hbb
 have hD:D=D':=List.append_cancel_left (hb.same hbb)
 subst hD
 have hmem:∀ z ∈ (rs.set i y).set j x,z ∈ rs:=by
  intro z hz
  obtain ⟨a,ha⟩:=List.mem_iff_getElem?.1 hz
  rw [get_swap hij hi hj] at ha
  exact List.mem_of_getElem? ha
 have hl:((rs.set i y).set j x).length=rs.length:=by simp
 refine ⟨⟨fun z hz=>h1.1 z (hmem z hz),.inr ⟨g,cap,D,by rw [hv,hl],hg',?_,by rw [hl];exact hc1,by rw [hl];exact hc2,hc3⟩⟩,by simpa using h2,fun z hz=>h3 z (hmem z hz),?_,?_⟩
 ·rw [flat_one _ (fun z hz=>h3 z (hmem z hz))];exact hb'
 ·intro a r us hr hus
  rw [get_swap hij hi hj] at hr
  rw [get_swap hij hI hJ] at hus
  exact (h4 _ r us hr hus).updT hu hb hte
 ·intro a b r s hab hr hs
  rw [get_swap hij hi hj] at hr hs
  refine h5 _ _ r s ?_ hr hs
  by_cases a1:a=i <;> by_cases a2:a=j <;> by_cases b1:b=i <;> by_cases b2:b=j <;> simp only [a1,a2,b1,b2,if_true,if_false] <;> simp_all <;> omega
end
def swF (i j:Nat) (A:Nat→Nat→Int):Nat→Nat→Int:=fun a b=>A (if a=i then j else if a=j then i else a) b
theorem MatC.swapC {rs:List Value} {base n c:Nat} {w w':World} {v:Value} {A:Nat→Nat→Int} (h:MatC rs base w v (mk n c A)) {i j:Nat} (hij:i≠j) (hi:i<n) (hj:j<n) {x y:Value} (hx:rs[i]?=some x) (hy:rs[j]?=some y) {g cap:Nat} {D:List Value} (hv:v=.slice (some ⟨g,0,none⟩) n cap) (hb:Blk 45 w g (rs++D))
  (hu:Upd g w w') (hb':Blk 45 w' g ((rs.set i y).set j x++D)):MatC ((rs.set i y).set j x) base w' v (mk n c (swF i j A)):=by
 have hrl:=h.rsl
 rw [mk_len] at hrl
 obtain ⟨R,h1,h2,h3⟩:=h
 rw [mk_len] at h2
 have hI:R[i]?=some (R[i]'(by omega)):=by simp
 have hJ:R[j]?=some (R[j]'(by omega)):=by simp
 refine ⟨_,h1.swapR (by decide) hij hx hy hI hJ (by rw [hv,hrl]) hb hu hb',by rw [mk_len];simpa using h2,?_⟩
 intro a us row hus hrow
 have han:a<n:=by have:=(List.getElem?_eq_some_iff.1 hrow).1;rw [mk_len] at this;exact this
 rw [mk_get han] at hrow
 cases hrow
 rw [get_swap hij hI hJ] at hus
 have hlt:(if a=i then j else if a=j then i else a)<n:=by split;exact hj;split;exact hi;exact han
 obtain ⟨q1,q2⟩:=h3 _ us _ hus (mk_get hlt)
 refine ⟨by simpa using q1,fun b u z hu' hz=>?_⟩
 exact (q2 b u z hu' hz).updT hu hb (by decide)
end Go.Qf
namespace Go.Qf
open Go Go.RowKit Go.Proofs
set_option maxRecDepth 20000
theorem i64_succ {k:Nat} (h:k<4611686018427387904):Value.int .i64 (IntKind.i64.wrap ((k:Int)+1))=.int .i64 ((k+1:Nat):Int):=by
 rw [i64_id (by omega) (by omega)];rfl
structure DSt (w:World) (B:Nat) (V:Value) (b5 n:Nat) (A:Nat→Nat→Int) (L:Int) (bd:Nat) (rs:List Value) (lv:Value):Prop where
 mat:MatC rs B w V (mk n n A)
 own:∀ r ∈ rs,r.ownBlock≠some b5
 box:Blk 31 w b5 lv.cells.toList
 can:CanO 0 w lv L
 szL:sz L+1≤bd
 szA:∀ a b,a<n→b<n→sz (A a b)+1≤bd
theorem DSt.ext {w w':World} {B:Nat} {V:Value} {b5 n:Nat} {A:Nat→Nat→Int} {L:Int} {bd:Nat} {rs:List Value} {lv:Value} (h:DSt w B V b5 n A L bd rs lv) (hx:Ext w w'):DSt w' B V b5 n A L bd rs lv :=
 ⟨h.mat.ext hx,h.own,h.box.ext hx,h.can.ext hx,h.szL,h.szA⟩
theorem MatC.mpAt {rs:List Value} {B n c cap:Nat} {w:World} {a:Addr} {A:Nat→Nat→Int} {s:Nat} (h:MatC rs B w (.slice (some a) n cap) (mk n c A)) (hn:1≤n) (hc:1≤c) (hs:∀ a b,a<n→b<c→sz (A a b)≤s) (h1:s≤1000000):MP w a n c A∧∀ i,i<n→∃ rr,rs[i]?=some rr∧w.cell? (a.add i)=some rr:=by
 constructor
 ·obtain ⟨a',cap',hv,hP⟩:=(h.miS hs h1).mp hn hc
  simp only [Value.slice.injEq,Option.some.injEq] at hv
  obtain ⟨rfl,_,_⟩:=hv
  exact hP
 ·intro i hi
  obtain ⟨a',rr,e,h1,h2⟩:=h.rowAt hi
  simp only [Option.some.injEq] at e
  subst e
  exact ⟨rr,h1,h2⟩
theorem MatC.outer {rs:List Value} {B n c cap g:Nat} {w:World} {A:Nat→Nat→Int} (h:MatC rs B w (.slice (some ⟨g,0,none⟩) n cap) (mk n c A)) (hn:1≤n):B≤g∧∃ D,Blk 45 w g (rs++D):=by
 have hrl:=h.rsl
 rw [mk_len] at hrl
 have hone:=h.one
 obtain ⟨R,h1,h2,h3⟩:=h
 obtain ⟨g',cap',D,hv,hg,hb,_⟩:=h1.1.open (by intro e;rw [e] at hrl;simp at hrl;omega)
 simp only [Value.slice.injEq,Option.some.injEq,Addr.mk.injEq,and_true] at hv
 obtain ⟨rfl,_,_⟩:=hv
 rw [flat_one rs hone] at hb
 exact ⟨hg,D,hb⟩
theorem MatC.canAt {rs:List Value} {B n c cap:Nat} {w:World} {a:Addr} {A:Nat→Nat→Int} (h:MatC rs B w (.slice (some a) n cap) (mk n c A)) {i j:Nat} (hi:i<n) (hj:j<c):∃ b o cp u e C,w.cell? (a.add i)=some (.slice (some ⟨b,o,none⟩) c cp)∧Blk e w b C∧(C.drop (o+2 * j)).take 2=u.cells.toList∧o+2 * j+2≤C.length∧CanO 0 w u (A i j):=by
 obtain ⟨a',rr,e,h1,h2⟩:=h.rowAt hi
 simp only [Option.some.injEq] at e
 subst e
 obtain ⟨R,q1,q2,q3⟩:=h
 rw [mk_len] at q2
 have hI:R[i]?=some (R[i]'(by omega)):=by simp
 obtain ⟨k1,k2⟩:=q3 i _ _ hI (mk_get hi)
 have hRO:=q1.2.2.2.1 i rr _ h1 hI
 have hl:(R[i]'(by omega)).length=c:=by simpa using k1
 have hu:(R[i]'(by omega))[j]?=some ((R[i]'(by omega))[j]'(by omega)):=by simp
 obtain ⟨g,cp,D,hv,_,hb,hc1,_⟩:=hRO.open (by intro e;rw [e] at hl;simp at hl;omega)
 have hfl:=hRO.1.flat
 refine ⟨g,0,cp,_,_,_,by rw [h2,hv,hl],hb,?_,?_,k2 j _ _ hu (row_get hj)⟩
 ·rw [Nat.zero_add]
  exact flatK_at _ D j _ (fun v hv=>(hRO.1 v hv).1) hu
 ·rw [List.length_append,hfl,hl];omega
theorem MatC.updB {rs:List Value} {B b:Nat} {w w':World} {V:Value} {M:List (List Int)} {C:List Value} (h:MatC rs B w V M) (hu:Upd b w w') (hb:Blk 31 w b C) (hne:∀ r ∈ rs,r.ownBlock≠some b):MatC rs B w' V M:=by
 obtain ⟨R,h1,h2,h3⟩:=h
 obtain ⟨k1,k2,k3,k4,k5⟩:=h1
 refine ⟨R,⟨k1.updT hu hb (by decide),k2,k3,fun i r us hr hus=>(k4 i r us hr hus).upd hu (hne r (List.mem_of_getElem? hr)),k5⟩,h2,fun i us row hus hrow=>?_⟩
 obtain ⟨q1,q2⟩:=h3 i us row hus hrow
 exact ⟨q1,fun j u x hu' hx=>(q2 j u x hu' hx).updT hu hb (by decide)⟩
theorem MatC.addr {rs:List Value} {B n c:Nat} {w:World} {V:Value} {A:Nat→Nat→Int} (h:MatC rs B w V (mk n c A)) (hn:1≤n):∃ g cap,V=.slice (some ⟨g,0,none⟩) n cap:=by
 have hrl:=h.rsl
 rw [mk_len] at hrl
 obtain ⟨R,h1,h2,h3⟩:=h
 obtain ⟨g',cap',D,hv,_⟩:=h1.1.open (by intro e;rw [e] at hrl;simp at hrl;omega)
 exact ⟨g',cap',by rw [hv,hrl]⟩
theorem MatC.blkLt {rs:List Value} {B:Nat} {w:World} {V:Value} {M:List (List Int)} (h:MatC rs B w V M):∀ r ∈ rs,∀ b,w.heap.size≤b→r.ownBlock≠some b:=by
 obtain ⟨R,h1,_⟩:=h
 intro r hr b hb e
 obtain ⟨i,hi⟩:=List.mem_iff_getElem?.1 hr
 have:=h1.blk_lt hi e
 omega
theorem bd_le {k n s:Nat} (hk:k≤n) (h:2 ^ n * (s+1)≤100000):2 ^ k * (s+1)≤100000 :=
 Nat.le_trans (Nat.mul_le_mul_right _ (Nat.pow_le_pow_right (by omega) hk)) h
theorem bd_succ (k s:Nat):2 ^ (k+1) * (s+1)=2 * (2 ^ k * (s+1)):=by rw [Nat.pow_succ];rw [Nat.mul_comm (2 ^ k) 2,Nat.mul_assoc]
theorem sz_elimP {n k:Nat} {A:Nat→Nat→Int} {L:Int} {bd:Nat} (hk:k<n) (h:∀ a b,a<n→b<n→sz (A a b)+1≤bd) (i j:Nat):∀ a b,a<n→b<n→sz (elimP A L k i j a b)+1≤2 * bd:=by
 intro a b ha hb
 unfold elimP
 split
 ·have h1:=h k k hk hk
  have h2:=h a b ha hb
  have h3:=h a k ha hk
  have h4:=h k b hk hb
  have q1:=sz_mul (A k k) (A a b)
  have q2:=sz_mul (A a k) (A k b)
  have q3:=sz_sub (A k k * A a b) (A a k * A k b)
  have q4:=sz_div (A k k * A a b - A a k * A k b) L
  omega
 ·have:=h a b ha hb;omega
set_option maxHeartbeats 6400000 in
theorem determinant_spec {w:World} {v:Value} {n s:Nat} {f:Nat→Nat→Int} (h:MI w v (mk n n f)) (hn:1≤n∧n≤16) (hs:∀ a b,a<n→b<n→sz (f a b)≤s) (hs1:1≤s) (hb:2 ^ n * (s+1)≤100000) :
  Calls Tryz.prog 121 #[v] w (Ret fun x w'=>Ext w w'∧∃ d:Int,CanO 0 w' x d∧sz d≤2 ^ n * (s+1)∧(Gd n f→(d:Rat)=dd (RA f) n)):=by
 refine calls_of_St (args:=[_]) Tryz.func121 rfl Tryz.ntmps121 rfl ?_
 refine Nv ?_
 refine .s (OpR.alloc TBok rfl) ?_
 rintro _ w1 ⟨rfl,B2,hx1,hz1⟩
 (iterate 6 refine Nv ?_;try refine .r rfl ?_)
 refine .s (OpR.call fn_r03_Copy rfl (copy_spec (base:=w1.heap.size) (h.ext hx1) hn hn (Nat.le_refl _))) ?_
 rintro V w2 ⟨hx2,rs,hC⟩
 obtain ⟨g,cap,rfl⟩:=hC.addr hn.1
 (iterate 6 refine Nv ?_;try refine .r rfl ?_)
 refine .s (OpR.call fn_r01_Small rfl (rsmall_spec (base:=0) w2 1 (by omega) (by omega) (Nat.zero_le _))) ?_
 rintro one w3 ⟨hx3,hone⟩
 refine StL.newI rfl (fun _=>rfl) hone.r2 ?_
 intro w4 hx4 B5
 have hx14:=(hx2.trans hx3).trans hx4
 have hB2lt:=B2.lt
 have hsz1:sz 1=1:=by decide +kernel
 have hD0:DSt w4 w1.heap.size (.slice (some ⟨g,0,none⟩) n cap) w3.heap.size n f 1 (2 ^ 0 * (s+1)) rs one :=
  ⟨(hC.ext hx3).ext hx4,fun r hr=>(hC.ext hx3).blkLt r hr _ (Nat.le_refl _),B5,hone.ext hx4,by omega,fun a b ha hb=>by have:=hs a b ha hb;omega⟩
 have hsz3:=hx3.size
 have hsz2:=hx2.size
 clear hC B5 hone hx2 hx3 hx4
 (iterate 6 refine Nv ?_;try refine .r rfl ?_)
 refine St.rngCG TBok (7) (0) (n) (by omega) (fun neg:Bool=>[(2,.pointer (some ⟨w.heap.size,0,none⟩)),(3,.slice (some ⟨g,0,none⟩) n cap),(4,.int .i64 n),(5,.pointer (some ⟨w3.heap.size,0,none⟩)),(6,.bool neg)]) (fun k neg w'=>Ext w1 w'∧∃ A L rs lv,DSt w' w1.heap.size (.slice (some ⟨g,0,none⟩) n cap) w3.heap.size n A L (2 ^ k * (s+1)) rs lv∧DInv n f k A L neg) (false) sbb ?_ (fun _ _=>⟨rfl,rfl⟩) (fun _ _=>rfl) (fun _ _=>⟨rfl,rfl⟩) (fun _=>rfl) (fun _=>rfl) (by omega) ?_ ?_
 ·exact ⟨hx14,f,1,rs,one,hD0,DInv.start n f⟩
 ·clear hD0
  rintro k neg w5 hk ⟨hx5,A,L,rs,lv,hD,hI⟩
  have hbk:=bd_le (k:=k) (n:=n) (by omega) hb
  have hbk1:=bd_le (k:=k+1) (n:=n) (by omega) hb
  rw [bd_succ] at hbk1
  generalize hbd:2 ^ k * (s+1)=bd at hD hbk hbk1
  (iterate 6 refine Nv ?_;try refine .r rfl ?_)
  refine St.loop (fun p:Nat=>[(7,.int .i64 k),(2,.pointer (some ⟨w.heap.size,0,none⟩)),(3,.slice (some ⟨g,0,none⟩) n cap),(4,.int .i64 n),(5,.pointer (some ⟨w3.heap.size,0,none⟩)),(6,.bool neg),(8,.int .i64 p)])
   (fun p w'=>Ext w1 w'∧DSt w' w1.heap.size (.slice (some ⟨g,0,none⟩) n cap) w3.heap.size n A L bd rs lv∧k≤p∧p≤n∧∀ q,k≤q→q<p→A q k=0) (fun p=>n - p) k sbb ⟨hx5,hD,Nat.le_refl _,by omega,fun q h1 h2=>by omega⟩ ?_
  clear hD hx5
  rintro p w6 ⟨hx6,hD,hkp,hpn,hz⟩
  obtain ⟨hP,hrows⟩:=hD.mat.mpAt hn.1 hn.1 (s:=bd) (fun a b ha hb=>by have:=hD.szA a b ha hb;omega) (by omega)
  refine Nv ?_
  by_cases hlt:p<n
  ·obtain ⟨b,o,cp,hcell,e1,C1,hBk,hg⟩:=hP p hlt
   obtain ⟨y,hd,k1,k2⟩:=hg k hk
   refine .a 3 (.bool true) rfl (bool_true (by omega)) ?_
   refine .r rfl ?_
   refine .p (RunsTo.ia) ?_
   refine .p (RunsTo.load TBok rfl rfl rfl hcell) ?_
   refine .r rfl ?_
   refine .p (RunsTo.indexI rfl rfl rfl (by omega)) ?_
   refine .p (RunsTo.loadIt rfl hBk k1 k2 hd.r2) ?_
   refine .s (OpR.call fn_r01_Sign rfl (rsign_dn hd)) ?_
   rintro _ w7 ⟨hx7,rfl⟩
   by_cases hz0:A p k=0
   ·refine .a 1 (.bool true) rfl (by rw [signI_zero,decide_eq_true hz0]) ?_
    (iterate 6 refine Nv ?_;try refine .r rfl ?_)
    refine .cT ?_
    refine Nv ?_
    refine .a 3 (.int .i64 ((p+1:Nat):Int)) rfl (i64_succ (by omega)) ?_
    refine Nv ?_
    refine Out.again (p+1) sbb ⟨hx6.trans hx7,hD.ext hx7,by omega,by omega,?_⟩ (by omega)
    intro q h1 h2
    by_cases e:q=p
    ·rw [e];exact hz0
    ·exact hz q h1 (by omega)
   ·refine .a 1 (.bool false) rfl (by rw [signI_zero,decide_eq_false hz0]) ?_
    (iterate 6 refine Nv ?_;try refine .r rfl ?_)
    refine .cF ?_
    (iterate 6 refine Nv ?_;try refine .r rfl ?_)
    replace hx6:=hx6.trans hx7
    replace hD:=hD.ext hx7
    clear hx7 hP hrows hcell hBk hg hd
    refine St.condF rfl (by simp;omega) ?_
    refine Nv ?_
    refine .a 3 (.bool (decide (k<p))) rfl (by congr 1;simp) ?_
    refine StL.nil (Out.then_normal ?_)
    refine St.cutX (fun neg':Bool=>[(7,.int .i64 k),(2,.pointer (some ⟨w.heap.size,0,none⟩)),(3,.slice (some ⟨g,0,none⟩) n cap),(4,.int .i64 n),(5,.pointer (some ⟨w3.heap.size,0,none⟩)),(6,.bool neg')])
     (fun neg' w'=>Ext w1 w'∧∃ A rs,DSt w' w1.heap.size (.slice (some ⟨g,0,none⟩) n cap) w3.heap.size n A L bd rs lv∧DInv n f k A L neg'∧A k k≠0) ?_ ?_
    ·by_cases hkp':k<p
     ·refine St.condT rfl (decide_eq_true hkp') ?_
      have hrl:=hD.mat.rsl
      rw [mk_len] at hrl
      obtain ⟨x,hrx⟩:∃ x,rs[p]?=some x:=⟨rs[p]'(by omega),by simp⟩
      obtain ⟨y,hry⟩:∃ y,rs[k]?=some y:=⟨rs[k]'(by omega),by simp⟩
      obtain ⟨hBg,D,hBo⟩:=hD.mat.outer hn.1
      have hx1c:=hD.mat.one x (List.mem_of_getElem? hrx)
      have hy1c:=hD.mat.one y (List.mem_of_getElem? hry)
      have hxo:x.oneCell'=true:=by
       obtain ⟨R,q1,_⟩:=hD.mat
       have:=(q1.1.1 x (List.mem_of_getElem? hrx)).2
       rw [hx1c] at this
       exact this x (by simp)
      have hyo:y.oneCell'=true:=by
       obtain ⟨R,q1,_⟩:=hD.mat
       have:=(q1.1.1 y (List.mem_of_getElem? hry)).2
       rw [hy1c] at this
       exact this y (by simp)
      have hcx:(rs++D)[p]?=some x:=by rw [List.getElem?_append_left (by omega)];exact hrx
      have hcy:(rs++D)[k]?=some y:=by rw [List.getElem?_append_left (by omega)];exact hry
      refine Nv ?_
      refine St.sub (E':=[(7,.int .i64 k),(2,.pointer (some ⟨w.heap.size,0,none⟩)),(3,.slice (some ⟨g,0,none⟩) n cap),(4,.int .i64 n),(5,.pointer (some ⟨w3.heap.size,0,none⟩)),(6,.bool neg),(8,.int .i64 p)]) ?_ sbb
      refine St.any TBfol rfl ?_
      intro w8 hx8 _ _
      replace hBo:=hBo.ext hx8
      replace hD:=hD.ext hx8
      replace hx6:=hx6.trans hx8
      clear hx8
      have fin:∀ w9 w10,Blk 45 w9 g (over (rs++D) p [y])→Upd g w8 w9→Blk 45 w10 g (over (over (rs++D) p [y]) k [x])→Upd g w9 w10→Ext w1 w10∧∃ A rs,DSt w10 w1.heap.size (.slice (some ⟨g,0,none⟩) n cap) w3.heap.size n A L bd rs lv∧DInv n f k A L (!neg)∧A k k≠0:=by
       intro w9 w10 hb9 hu9 hb10 hu10
       have hu:=hu9.trans hu10
       have e2:over (over (rs++D) p [y]) k [x]=(rs.set p y).set k x++D:=by
        simp only [over]
        rw [List.set_append_left _ _ (by omega),List.set_append_left _ _ (by simp;omega)]
       rw [e2] at hb10
       have hM:=hD.mat.swapC (i:=p) (j:=k) (by omega) (by omega) hk hrx hry rfl hBo hu hb10
       have hne:w3.heap.size≠g:=by
        intro e
        have hq:=hD.box
        rw [e] at hq
        have:=hq.symm.trans hBo
        simp only [Option.some.injEq,Obj.cells.injEq] at this
        exact absurd this.2.1 (by decide)
       refine ⟨hx6.then_upd hu (by omega),swF p k A,_,⟨hM,?_,hD.box.upd hu hne,hD.can.updT hu hBo (by decide),hD.szL,?_⟩,hI.swap hkp' (by omega) (hz k (Nat.le_refl _) hkp') _ _,?_⟩
       ·intro r hr
        refine hD.own r ?_
        obtain ⟨a,ha⟩:=List.mem_iff_getElem?.1 hr
        rw [get_swap (by omega) hrx hry] at ha
        exact List.mem_of_getElem? ha
       ·intro a b ha hb'
        unfold swF
        refine hD.szA _ b ?_ hb'
        split
        ·exact hk
        ·split
         ·omega
         ·exact ha
       ·unfold swF
        rw [if_neg (by omega),if_pos rfl]
        exact hz0
      refine WA.takes (fuel:=8) TBok (by kernel_rfl) (fun _ _ _ _ _ h=>h) [0,1,2,3,4,5,8,9] (by kernel_rfl) rfl ?_
      refine WA.take 6 rfl rfl (by kernel_rfl) (by kernel_rfl) (by kernel_rfl) (fun _ _ _ h=>h) rfl rfl (fun w=>RunsTo.ia) ?_
      refine WA.take 10 rfl rfl (by kernel_rfl) (by kernel_rfl) (by kernel_rfl) (fun _ _ _ h=>h) rfl rfl (fun w=>RunsTo.ia) ?_
      simp only [Int.toNat_natCast,addr_add,Nat.zero_add]
      refine WA.meet 4 #[true,true,true,true,true,true,true,true,true,true,true,true,false,false,false,false] (fun _:Unit=>[(7,.int .i64 k),(2,.pointer (some ⟨w.heap.size,0,none⟩)),(3,.slice (some ⟨g,0,none⟩) n cap),(4,.int .i64 n),(5,.pointer (some ⟨w3.heap.size,0,none⟩)),(6,.bool neg),(45,.slice (some ⟨g,0,none⟩) n cap),(46,.int .i64 p),(47,.slice (some ⟨g,0,none⟩) n cap),(48,.int .i64 k),(52,y),(56,x)]) (fun _ w'=>w'=w8) ?_ ?_
      ·rintro _ w8 rfl
       refine WA.one (i:=12) (by kernel_rfl) (WOp.val rfl rfl rfl rfl (RunsTo.ia).op ?_)
       rintro _ _ ⟨rfl,rfl⟩
       simp only [Int.toNat_natCast,addr_add,Nat.zero_add]
       refine WA.one (i:=13) (by kernel_rfl) (WOp.eff rfl rfl rfl (OpR.store TBok (vs:=[y]) rfl rfl rfl (by rw [hy1c]) rfl hBo (by simp;omega) (by simpa using hyo)) ?_)
       rintro _ w9 ⟨hb9,hu9⟩
       refine WA.one (i:=14) (by kernel_rfl) (WOp.val rfl rfl rfl rfl (RunsTo.ia).op ?_)
       rintro _ _ ⟨rfl,rfl⟩
       simp only [Int.toNat_natCast,addr_add,Nat.zero_add]
       refine WA.one (i:=15) (by kernel_rfl) (WOp.eff rfl rfl rfl (OpR.store TBok (vs:=[x]) rfl rfl rfl (by rw [hx1c]) rfl hb9 (by simp [over];omega) (by simpa using hxo)) ?_)
       rintro _ w10 ⟨hb10,hu10⟩
       refine WA.done (by kernel_rfl) ?_
       (iterate 6 refine Nv ?_;try refine .r rfl ?_)
       exact Out.met (!neg) sbb (fin w9 w10 hb9 hu9 hb10 hu10)
      ·intro meet
       refine WA.two (i:=7) (j:=11) (by kernel_rfl) ?_ ?_
       ·refine WOp.val rfl rfl rfl rfl (RunsTo.load TBok rfl rfl rfl (hBo.cell hcy)).op ?_
        rintro _ _ ⟨rfl,rfl⟩
        refine WA.one (i:=11) (by kernel_rfl) (WOp.val rfl rfl rfl rfl (RunsTo.load TBok rfl rfl rfl (hBo.cell hcx)).op ?_)
        rintro _ _ ⟨rfl,rfl⟩
        exact meet () _ _ _ (by kernel_rfl) rfl sbb
       ·refine WOp.val rfl rfl rfl rfl (RunsTo.load TBok rfl rfl rfl (hBo.cell hcx)).op ?_
        rintro _ _ ⟨rfl,rfl⟩
        refine WA.one (i:=7) (by kernel_rfl) (WOp.val rfl rfl rfl rfl (RunsTo.load TBok rfl rfl rfl (hBo.cell hcy)).op ?_)
        rintro _ _ ⟨rfl,rfl⟩
        exact meet () _ _ _ (by kernel_rfl) rfl sbb
     ·refine St.condF rfl (decide_eq_false hkp') ?_
      obtain rfl:p=k:=by omega
      refine Nv ?_
      exact Out.met neg sbb ⟨hx6,A,rs,hD,hI,hz0⟩
    ·clear hD hI hz hx6 hz0
     rintro neg' w6 ⟨hx6,A,rs,hD,hI,hp0⟩
     refine Nv ?_
     refine .a 3 (.int .i64 ((k+1:Nat):Int)) rfl (i64_succ (by omega)) ?_
     refine Nv ?_
     refine St.rngC TBok (9) (k+1) (n) (by omega) [(7,.int .i64 k),(2,.pointer (some ⟨w.heap.size,0,none⟩)),(3,.slice (some ⟨g,0,none⟩) n cap),(4,.int .i64 n),(5,.pointer (some ⟨w3.heap.size,0,none⟩)),(6,.bool neg')] (fun i w'=>k+1≤i∧Ext w1 w'∧DSt w' w1.heap.size (.slice (some ⟨g,0,none⟩) n cap) w3.heap.size n (elimP A L k i (k+1)) L (2 * bd) rs lv) sbb ?_ (fun _=>⟨rfl,rfl⟩) (fun _=>rfl) (fun _=>⟨rfl,rfl⟩) rfl rfl (by omega) ?_ ?_
     ·refine ⟨Nat.le_refl _,hx6,?_,hD.own,hD.box,hD.can,by have:=hD.szL;omega,sz_elimP hk hD.szA _ _⟩
      rw [elimP_start];exact hD.mat
     ·rintro i w7 hi ⟨hki,hx7,hD7⟩
      refine Nv ?_
      refine .a 3 (.int .i64 ((k+1:Nat):Int)) rfl (i64_succ (by omega)) ?_
      refine Nv ?_
      refine St.rngC TBok (10) (k+1) (n) (by omega) [(9,.int .i64 i),(7,.int .i64 k),(2,.pointer (some ⟨w.heap.size,0,none⟩)),(3,.slice (some ⟨g,0,none⟩) n cap),(4,.int .i64 n),(5,.pointer (some ⟨w3.heap.size,0,none⟩)),(6,.bool neg')] (fun j w'=>k+1≤j∧Ext w1 w'∧DSt w' w1.heap.size (.slice (some ⟨g,0,none⟩) n cap) w3.heap.size n (elimP A L k i j) L (2 * bd) rs lv) sbb ?_ (fun _=>⟨rfl,rfl⟩) (fun _=>rfl) (fun _=>⟨rfl,rfl⟩) rfl rfl (by omega) ?_ ?_
      ·exact ⟨Nat.le_refl _,hx7,hD7⟩
      ·clear hD7 hx7
       rintro j w7 hj ⟨hkj,hx7,hD7⟩
       obtain ⟨hP,hrows⟩:=hD7.mat.mpAt hn.1 hn.1 (s:=2 * bd) (fun a b ha hb=>by have:=hD7.szA a b ha hb;omega) (by omega)
       obtain ⟨rr,hrr,hcr⟩:=hrows i hi
       obtain ⟨b1,o1,cp1,hcell1,e1,C1,hBk1,hg1⟩:=hP i hi
       obtain ⟨y1,hd1,k11,k12⟩:=hg1 j hj
       obtain ⟨y2,hd2,k21,k22⟩:=hg1 k hk
       obtain ⟨b3,o3,cp3,hcell3,e3,C3,hBk3,hg3⟩:=hP k hk
       obtain ⟨y3,hd3,k31,k32⟩:=hg3 k hk
       obtain ⟨y4,hd4,k41,k42⟩:=hg3 j hj
       obtain rfl:rr=.slice (some ⟨b1,o1,none⟩) n cp1:=Option.some.inj (hcr.symm.trans hcell1)
       have hown:=hD7.own _ (List.mem_of_getElem? hrr)
       rw [elimP_ij] at hd1
       rw [elimP_ak] at hd2
       rw [elimP_kk] at hd3 hd4
       have z1:=hD.szA i j hi hj
       have z2:=hD.szA i k hi hk
       have z3:=hD.szA k k hk hk
       have z4:=hD.szA k j hk hj
       have q1:=sz_mul (A k k) (A i j)
       have q2:=sz_mul (A i k) (A k j)
       have q3:=sz_sub (A k k * A i j) (A i k * A k j)
       have hszL:=hD.szL
       refine Nv ?_
       refine St.sub (E':=[(10,.int .i64 j),(9,.int .i64 i),(7,.int .i64 k),(2,.pointer (some ⟨w.heap.size,0,none⟩)),(3,.slice (some ⟨g,0,none⟩) n cap),(4,.int .i64 n),(5,.pointer (some ⟨w3.heap.size,0,none⟩)),(6,.bool neg')]) ?_ sbb
       refine St.flow 38 TBfol (by kernel_rfl) rfl (by kernel_rfl) rfl True.intro ?_
       refine FL.run TBok 99 rfl ?_
       refine .on (fun _ _=>RunsTo.ia) ?_
       refine .on (fun _ hR=>RunsTo.load TBok rfl rfl rfl (hR.ext_nil.cell hcell1)) ?_
       refine FL.run TBok 99 rfl ?_
       refine .on (fun _ _=>RunsTo.ia) ?_
       refine .on (fun _ hR=>RunsTo.load TBok rfl rfl rfl (hR.ext_nil.cell hcell3)) ?_
       refine FL.run TBok 99 rfl ?_
       refine .on (fun _ _=>RunsTo.indexI rfl rfl rfl (by omega)) ?_
       refine .on (fun _ hR=>RunsTo.loadIt rfl (hR.blk hBk3 (by simp)) k31 k32 hd3.r2) ?_
       refine FL.run TBok 99 rfl ?_
       refine .on (fun _ _=>RunsTo.ia) ?_
       refine .on (fun _ hR=>RunsTo.load TBok rfl rfl rfl (hR.ext_nil.cell hcell1)) ?_
       refine FL.run TBok 99 rfl ?_
       refine .on (fun _ _=>RunsTo.indexI rfl rfl rfl (by omega)) ?_
       refine .on (fun _ hR=>RunsTo.loadIt rfl (hR.blk hBk1 (by simp)) k11 k12 hd1.r2) ?_
       refine FL.callE fn_r01_Mul rfl rfl rfl (fun w8 hx8=>CallF.mk rfl (rmul_dn (base:=0) (hd3.ext hx8) (hd1.ext hx8) (Nat.zero_le _))) (MonoR.canO 0 _) ?_
       refine FL.run TBok 99 rfl ?_
       refine .on (fun _ _=>RunsTo.ia) ?_
       refine .on (fun _ hR=>RunsTo.load TBok rfl rfl rfl (hR.ext_nil.cell hcell1)) ?_
       refine FL.run TBok 99 rfl ?_
       refine .on (fun _ _=>RunsTo.indexI rfl rfl rfl (by omega)) ?_
       refine .on (fun _ hR=>RunsTo.loadIt rfl (hR.blk hBk1 (by simp)) k21 k22 hd2.r2) ?_
       refine FL.run TBok 99 rfl ?_
       refine .on (fun _ _=>RunsTo.ia) ?_
       refine .on (fun _ hR=>RunsTo.load TBok rfl rfl rfl (hR.ext_nil.cell hcell3)) ?_
       refine FL.run TBok 99 rfl ?_
       refine .on (fun _ _=>RunsTo.indexI rfl rfl rfl (by omega)) ?_
       refine .on (fun _ hR=>RunsTo.loadIt rfl (hR.blk hBk3 (by simp)) k41 k42 hd4.r2) ?_
       refine FL.callE fn_r01_Mul rfl rfl rfl (fun w8 hx8=>CallF.mk rfl (rmul_dn (base:=0) (hd2.ext hx8) (hd4.ext hx8) (Nat.zero_le _))) (MonoR.canO 0 _) ?_
       refine FL.callE fn_r01_Sub rfl rfl rfl (fun w8 hx8 t1 h1 t2 h2=>CallF.mk rfl (rsub_dn (base:=0) (h1.dn (by omega)) (h2.dn (by omega)) (Nat.zero_le _))) (MonoR.canO 0 _) ?_
       refine .on (fun _ hR=>RunsTo.loadCan rfl (hR.blk hD7.box (by simp)) hD7.can) ?_
       refine FL.callE fn_r01_Quo rfl rfl rfl (fun w8 hx8 t1 h1=>CallF.mk rfl (rquo_dn (h1.dn (by omega)) ((hD7.can.ext hx8).dn (by omega)) hI.1 ⟨by omega,by omega⟩)) (MonoR.canO 0 _) ?_
       refine FL.endE rfl ?_
       intro w8 hx8 z hz _ _ _ _ _ _ _ _
       replace hD7:=hD7.ext hx8
       refine StL.putM2 (w0:=w1) hD7.mat hrr (mk_get hi) (j:=j) (by simp;omega) hz (hx7.trans hx8) (Nat.le_refl _) rfl rfl rfl (fun _=>rfl) rfl rfl (fun _=>rfl) ?_
       intro p9 w9 hx9 hC9 hB9 hcan9
       rw [mk_set hi hj,elimP_step A L k i j n (by omega) (by omega)] at hC9
       refine Nv ?_
       exact Out.rnd sbb ⟨by omega,hx9,hC9,hD7.own,hB9 _ _ _ hD7.box hown,hcan9 _ _ _ hD7.can,hD7.szL,sz_elimP hk hD.szA _ _⟩
      ·rintro w8 ⟨_,hx8,hD8⟩
       refine Nv ?_
       refine Out.rnd sbb ⟨by omega,hx8,?_,hD8.own,hD8.box,hD8.can,hD8.szL,sz_elimP hk hD.szA _ _⟩
       rw [← elimP_next];exact hD8.mat
     ·rintro w7 ⟨_,hx7,hD7⟩
      have hfin:=hI.step hk hp0
      obtain ⟨b3,o3,cp3,y3,e3,C3,hcell3,hBk3,k31,k32,hd3⟩:=hD7.mat.canAt hk hk
      rw [elimP_kk] at hd3
      have hszk:=hD.szA k k hk hk
      (iterate 6 refine Nv ?_;try refine .r rfl ?_)
      refine .p (RunsTo.ia) ?_
      refine .p (RunsTo.load TBok rfl rfl rfl hcell3) ?_
      refine .r rfl ?_
      refine .p (RunsTo.indexI rfl rfl rfl (by omega)) ?_
      refine .p (RunsTo.loadIt rfl hBk3 k31 k32 hd3.r2) ?_
      refine StL.setCan rfl rfl hD7.box hD7.can.two.1 hd3 hx7 (by omega) ?_
      intro w8 S8 hu8 hd8 hx8
      refine Nv ?_
      refine Out.rndG neg' sbb ⟨hx8,elimP A L k n (k+1),A k k,rs,y3,⟨hD7.mat.updB hu8 hD7.box hD7.own,hD7.own,S8,hd8,by rw [bd_succ,hbd];omega,fun a b ha hb=>by rw [bd_succ,hbd];exact hD7.szA a b ha hb⟩,hfin⟩
  ·obtain rfl:p=n:=by omega
   refine .a 3 (.bool false) rfl (bool_false (by omega)) ?_
   (iterate 6 refine Nv ?_;try refine .r rfl ?_)
   refine .cF ?_
   (iterate 6 refine Nv ?_;try refine .r rfl ?_)
   refine St.condT rfl (by simp) ?_
   refine Nv ?_
   (refine .s (RunsTo.build TBok rfl rfl rfl rfl).op ?_;rintro _ _ ⟨rfl,rfl⟩)
   refine StL.finCan (base:=0) (v:=zI) (a:=0) rfl rfl (B2.ext hx6) rfl (canO_zero 0 _) (hx1.trans hx6) (Nat.le_refl _) ?_
   intro w' hxf hcf fin
   refine Nv ?_
   exact fin _ _ rfl ⟨hxf,0,hcf,by rw [sz_zero];omega,hI.zero hk (hz k (Nat.le_refl _) hk)⟩
 ·rintro neg w5 ⟨hx5,A,L,rs,lv,hD,hI⟩
  have hlast:Gd n f→(L:Rat)=dd (RA f) n:=fun hg=>(hI.2 hg).2.1
  have hszL:=hD.szL
  (iterate 6 refine Nv ?_;try refine .r rfl ?_)
  cases neg
  ·refine .cF ?_
   refine Nv ?_
   refine .p (RunsTo.loadCan rfl hD.box hD.can) ?_
   refine StL.finCan (base:=0) rfl rfl (B2.ext hx5) rfl hD.can (hx1.trans hx5) (Nat.le_refl _) ?_
   intro w' hxf hcf fin
   refine Nv ?_
   exact fin _ _ rfl ⟨hxf,L,hcf,by omega,hlast⟩
  ·refine .cT ?_
   refine Nv ?_
   refine .p (RunsTo.loadCan rfl hD.box hD.can) ?_
   refine .s (OpR.call fn_r01_Neg rfl (rneg_dn (base:=0) (hD.can.dn (by omega)) (Nat.zero_le _))) ?_
   rintro z w6 ⟨hx6,hz⟩
   refine StL.finCan (base:=0) rfl rfl (B2.ext (hx5.trans hx6)) rfl hz ((hx1.trans hx5).trans hx6) (Nat.le_refl _) ?_
   intro w' hxf hcf fin
   refine Nv ?_
   refine fin _ _ rfl ⟨hxf,-L,hcf,by rw [sz_neg];omega,fun hg=>?_⟩
   have:=(hI.2 hg).1
   cases this
end Go.Qf
namespace Go.Qf
theorem EL_inv (A:Nat→Vec) (k i j:Nat):EL A (k+1) i j=EL A k i j - EL A k i k * EL A k k j * (EL A k k k)⁻¹:=by
 rw [EL_succ,Rat.div_def]
 grind
def Sym (A:Nat→Vec):Prop:=∀ i j,A i j=A j i
theorem EL_sym {A:Nat→Vec} (h:Sym A):∀ k,Sym (EL A k):=by
 intro k
 induction k with
 | zero=>exact h
 | succ k ih =>
  intro i j
  rw [EL_inv,EL_inv,ih i j,ih i k,ih k j]
  grind
def red (c:Rat) (i j:Nat) (X:Nat→Vec):Nat→Vec:=fun p q =>
 X p q+(if p=i then c * X j q else 0)+(if q=i then c * X p j else 0)+(if p=i∧q=i then c * c * X j j else 0)
theorem red_pq {c:Rat} {i j p q:Nat} {X:Nat→Vec} (hp:p≠i) (hq:q≠i):red c i j X p q=X p q:=by
 unfold red
 rw [if_neg hp,if_neg hq,if_neg (fun h=>hp h.1)]
 grind
theorem red_iq {c:Rat} {i j q:Nat} {X:Nat→Vec} (hq:q≠i):red c i j X i q=X i q+c * X j q:=by
 unfold red
 rw [if_pos rfl,if_neg hq,if_neg (fun h=>hq h.2)]
 grind
theorem red_pi {c:Rat} {i j p:Nat} {X:Nat→Vec} (hp:p≠i):red c i j X p i=X p i+c * X p j:=by
 unfold red
 rw [if_neg hp,if_pos rfl,if_neg (fun h=>hp h.1)]
 grind
theorem red_ii {c:Rat} {i j:Nat} {X:Nat→Vec}:red c i j X i i=X i i+c * X j i+c * X i j+c * c * X j j:=by
 unfold red
 rw [if_pos rfl,if_pos rfl,if_pos ⟨rfl,rfl⟩]
theorem red_sym {c:Rat} {i j:Nat} {X:Nat→Vec} (h:Sym X):Sym (red c i j X):=by
 intro p q
 by_cases hp:p=i <;> by_cases hq:q=i
 ·subst hp;subst hq;rfl
 ·subst hp;rw [red_iq hq,red_pi hq,h p q,h j q]
 ·subst hq;rw [red_iq hp,red_pi hp,h q p,h j p]
 ·rw [red_pq hp hq,red_pq hq hp,h p q]
theorem red_low {c:Rat} {i j:Nat} (hji:j<i) (A:Nat→Vec):∀ k,k≤j→EL (red c i j A) k=red c i j (EL A k):=by
 intro k
 induction k with
 | zero=>intro _;rfl
 | succ k ih =>
  intro hk
  have e:=ih (by omega)
  have hki:k≠i:=by omega
  funext p q
  rw [EL_inv,e,red_pq hki hki]
  by_cases hp:p=i <;> by_cases hq:q=i
  ·subst hp;subst hq
   rw [red_ii,red_ii,red_iq hki,red_pi hki,EL_inv,EL_inv,EL_inv,EL_inv]
   grind
  ·subst hp
   rw [red_iq hq,red_iq hq,red_iq hki,red_pq hki hq,EL_inv,EL_inv]
   grind
  ·subst hq
   rw [red_pi hp,red_pi hp,red_pi hki,red_pq hp hki,EL_inv,EL_inv]
   grind
  ·rw [red_pq hp hq,red_pq hp hq,red_pq hp hki,red_pq hki hq,EL_inv]
theorem red_high {c:Rat} {i j:Nat} (hji:j<i) (A:Nat→Vec) (hj:EL A j j j≠0):∀ k,j<k→EL (red c i j A) k=EL A k:=by
 intro k hk
 obtain ⟨m,rfl⟩:∃ m,k=j+1+m:=⟨k - (j+1),by omega⟩
 clear hk
 induction m with
 | zero =>
  have hji':j≠i:=by omega
  have hv:=Rat.mul_inv_cancel _ hj
  funext p q
  show EL (red c i j A) (j+1) p q=EL A (j+1) p q
  rw [EL_inv,red_low hji A j (Nat.le_refl _),red_pq hji' hji',EL_inv]
  generalize (EL A j j j)⁻¹=v at *
  by_cases hp:p=i <;> by_cases hq:q=i
  ·subst hp;subst hq
   rw [red_ii,red_iq hji',red_pi hji']
   grind
  ·subst hp
   rw [red_iq hq,red_iq hji',red_pq hji' hq]
   grind
  ·subst hq
   rw [red_pi hp,red_pi hji',red_pq hp hji']
   grind
  ·rw [red_pq hp hq,red_pq hp hji',red_pq hji' hq]
 | succ m ih =>
  funext p q
  show EL (red c i j A) (j+1+m+1) p q=EL A (j+1+m+1) p q
  rw [EL_inv,EL_inv,ih]
theorem red_piv {c:Rat} {i j:Nat} (hji:j<i) (A:Nat→Vec) (hj:EL A j j j≠0) (k:Nat):EL (red c i j A) k k k=EL A k k k:=by
 by_cases hk:k≤j
 ·rw [red_low hji A k hk,red_pq (by omega) (by omega)]
 ·rw [red_high hji A hj k (by omega)]
theorem red_dd {c:Rat} {i j:Nat} (hji:j<i) (A:Nat→Vec) (hj:EL A j j j≠0):∀ k,dd (red c i j A) k=dd A k:=by
 intro k
 induction k with
 | zero=>rfl
 | succ k ih =>
  show dd _ k * EL _ k k k=dd A k * EL A k k k
  rw [ih,red_piv hji A hj]
theorem red_lam {c:Rat} {i j:Nat} (hji:j<i) (A:Nat→Vec) (hj:EL A j j j≠0) {p q:Nat} (hq:q<p) (h:p≠i∨j<q):BB (red c i j A) q p q=BB A q p q:=by
 unfold BB
 rw [red_dd hji A hj]
 by_cases hk:j<q
 ·rw [red_high hji A hj q hk]
 ·have hp:p≠i:=h.elim id (fun h=>absurd h hk)
  rw [red_low hji A q (by omega),red_pq hp (by omega)]
theorem red_lam_at {c:Rat} {i j:Nat} (hji:j<i) (A:Nat→Vec) (hj:EL A j j j≠0):BB (red c i j A) j i j=BB A j i j+c * dd A (j+1):=by
 unfold BB
 rw [red_dd hji A hj,red_low hji A j (Nat.le_refl _),red_iq (by omega)]
 show _=_+c * (dd A j * EL A j j j)
 grind
def sw (m p:Nat):Nat:=if p=m then m+1 else if p=m+1 then m else p
theorem sw_m (m:Nat):sw m m=m+1:=if_pos rfl
theorem sw_s (m:Nat):sw m (m+1)=m:=by unfold sw;rw [if_neg (by omega),if_pos rfl]
theorem sw_o {m p:Nat} (h:p≠m) (h1:p≠m+1):sw m p=p:=by unfold sw;rw [if_neg h,if_neg h1]
def swp (m:Nat) (X:Nat→Vec):Nat→Vec:=fun p q=>X (sw m p) (sw m q)
theorem swp_low (m:Nat) (A:Nat→Vec):∀ k,k≤m→EL (swp m A) k=swp m (EL A k):=by
 intro k
 induction k with
 | zero=>intro _;rfl
 | succ k ih =>
  intro hk
  have e:=ih (by omega)
  have hs:sw m k=k:=sw_o (by omega) (by omega)
  funext p q
  rw [EL_inv,e]
  unfold swp
  rw [hs,EL_inv]
theorem swp_dd_low (m:Nat) (A:Nat→Vec):∀ k,k≤m→dd (swp m A) k=dd A k:=by
 intro k
 induction k with
 | zero=>intro _;rfl
 | succ k ih =>
  intro hk
  show dd _ k * EL _ k k k=dd A k * EL A k k k
  rw [ih (by omega),swp_low m A k (by omega)]
  unfold swp
  rw [sw_o (by omega) (by omega)]
theorem swp_at (m:Nat) (A:Nat→Vec):EL (swp m A) m m m=EL A m (m+1) (m+1):=by
 rw [swp_low m A m (Nat.le_refl _)]
 unfold swp
 rw [sw_m]
theorem swp_dd_at (m:Nat) (A:Nat→Vec):dd (swp m A) (m+1)=dd A m * EL A m (m+1) (m+1):=by
 show dd _ m * EL _ m m m=_
 rw [swp_dd_low m A m (Nat.le_refl _),swp_at]
theorem swp_two (m:Nat) (A:Nat→Vec) (ha:EL A m m m≠0) (hc:EL A m (m+1) (m+1)≠0) (hP:EL A (m+1) (m+1) (m+1)≠0) :
  EL (swp m A) (m+1) (m+1) (m+1) * EL A m (m+1) (m+1)=EL A m m m * EL A (m+1) (m+1) (m+1)∧∀ p q,m+2≤p→m+2≤q→EL (swp m A) (m+2) p q=EL A (m+2) p q:=by
 have hX:=swp_low m A m (Nat.le_refl _)
 have hv:=Rat.mul_inv_cancel _ ha
 have hw:=Rat.mul_inv_cancel _ hc
 have e1:EL (swp m A) (m+1) (m+1) (m+1)=EL A m m m - EL A m m (m+1) * EL A m (m+1) m * (EL A m (m+1) (m+1))⁻¹:=by
  rw [EL_inv,hX]
  unfold swp
  rw [sw_m,sw_s]
 have e2:EL A (m+1) (m+1) (m+1)=EL A m (m+1) (m+1) - EL A m (m+1) m * EL A m m (m+1) * (EL A m m m)⁻¹:=EL_inv A m _ _
 have e3:EL (swp m A) (m+1) (m+1) (m+1) * EL A m (m+1) (m+1)=EL A m m m * EL A (m+1) (m+1) (m+1):=by
  rw [e1,e2]
  generalize (EL A m m m)⁻¹=v at *
  generalize (EL A m (m+1) (m+1))⁻¹=u at *
  grind
 refine ⟨e3,fun p q hp hq=>?_⟩
 have hP':EL (swp m A) (m+1) (m+1) (m+1)≠0:=by
  intro e
  rw [e,Rat.zero_mul] at e3
  rcases Rat.mul_eq_zero.1 e3.symm with h | h
  ·exact ha h
  ·exact hP h
 have hu:=Rat.mul_inv_cancel _ hP
 have hu':=Rat.mul_inv_cancel _ hP'
 rw [EL_inv (swp m A) (m+1),EL_inv A (m+1)]
 have sp:sw m p=p:=sw_o (by omega) (by omega)
 have sq:sw m q=q:=sw_o (by omega) (by omega)
 have f1:EL (swp m A) (m+1) p q=EL A m p q - EL A m p (m+1) * EL A m (m+1) q * (EL A m (m+1) (m+1))⁻¹:=by
  rw [EL_inv,hX];unfold swp;rw [sw_m,sp,sq]
 have f2:EL (swp m A) (m+1) p (m+1)=EL A m p m - EL A m p (m+1) * EL A m (m+1) m * (EL A m (m+1) (m+1))⁻¹:=by
  rw [EL_inv,hX];unfold swp;rw [sw_m,sw_s,sp]
 have f3:EL (swp m A) (m+1) (m+1) q=EL A m m q - EL A m m (m+1) * EL A m (m+1) q * (EL A m (m+1) (m+1))⁻¹:=by
  rw [EL_inv,hX];unfold swp;rw [sw_m,sw_s,sq]
 rw [f1,f2,f3,EL_inv A m p q,EL_inv A m p (m+1),EL_inv A m (m+1) q]
 generalize (EL (swp m A) (m+1) (m+1) (m+1))⁻¹=u' at *
 generalize (EL A (m+1) (m+1) (m+1))⁻¹=u at *
 generalize EL (swp m A) (m+1) (m+1) (m+1)=P' at *
 generalize EL A (m+1) (m+1) (m+1)=P at *
 generalize (EL A m m m)⁻¹=v at *
 generalize (EL A m (m+1) (m+1))⁻¹=z at *
 generalize EL A m m m=a at *
 generalize EL A m (m+1) (m+1)=c at *
 generalize EL A m m (m+1)=b at *
 generalize EL A m (m+1) m=b' at *
 generalize EL A m p q=x at *
 generalize EL A m p m=pm at *
 generalize EL A m p (m+1)=pi at *
 generalize EL A m m q=mq at *
 generalize EL A m (m+1) q=iq at *
 have g1:v * P'=z * P:=by
  have h1:v * P'=v * z * (P' * c):=by grind
  have h2:z * P=v * z * (a * P):=by grind
  rw [h1,h2,e3]
 have g2:v * u=z * u':=by
  have h1:v * u=v * P' * (u * u'):=by grind
  have h2:z * u'=z * P * (u * u'):=by grind
  rw [h1,h2,g1]
 have k1:u=z+b * b' * z * (z * u'):=by
  rw [← g2]
  have:b * b' * z=a - P':=by grind
  rw [this]
  have h3:P' * (v * u)=z:=by rw [g2];grind
  grind
 have k2:u'=v+b * b' * v * (v * u):=by
  rw [g2]
  have:b * b' * v=c - P:=by grind
  rw [this]
  have h3:P * (z * u')=v:=by rw [← g2];grind
  grind
 have l1:(pi - pm * b * v) * (iq - b' * mq * v) * u=pi * iq * u - pi * b' * mq * (v * u) - pm * b * iq * (v * u)+pm * mq * (b * b' * v * (v * u)):=by grind
 have l2:(pm - pi * b' * z) * (mq - b * iq * z) * u'=pm * mq * u' - pm * b * iq * (z * u') - pi * b' * mq * (z * u')+pi * iq * (b * b' * z * (z * u')):=by grind
 rw [l1,l2,g2]
 have m1:pi * iq * u=pi * iq * z+pi * iq * (b * b' * z * (z * u')):=by rw [← Rat.mul_add,← k1]
 have m2:pm * mq * u'=pm * mq * v+pm * mq * (b * b' * v * (v * u)):=by rw [← Rat.mul_add,← k2]
 rw [g2] at m2
 rw [m1,m2]
 grind
theorem swp_dd_two (m:Nat) (A:Nat→Vec) (ha:EL A m m m≠0) (hc:EL A m (m+1) (m+1)≠0) (hP:EL A (m+1) (m+1) (m+1)≠0):∀ k,m+2≤k→dd (swp m A) k=dd A k:=by
 obtain ⟨h1,h2⟩:=swp_two m A ha hc hP
 have hE:∀ t p q,m+2+t≤p→m+2+t≤q→EL (swp m A) (m+2+t) p q=EL A (m+2+t) p q:=by
  intro t
  induction t with
  | zero=>intro p q hp hq;exact h2 p q hp hq
  | succ t ih =>
   intro p q hp hq
   show EL (swp m A) (m+2+t+1) p q=EL A (m+2+t+1) p q
   rw [EL_inv,EL_inv,ih p q (by omega) (by omega),ih p _ (by omega) (by omega),ih _ q (by omega) (by omega),ih _ _ (by omega) (by omega)]
 intro k hk
 obtain ⟨t,rfl⟩:∃ t,k=m+2+t:=⟨k - (m+2),by omega⟩
 clear hk
 induction t with
 | zero =>
  show dd (swp m A) (m+1) * EL (swp m A) (m+1) (m+1) (m+1)=dd A m * EL A m m m * EL A (m+1) (m+1) (m+1)
  rw [swp_dd_at,Rat.mul_assoc,Rat.mul_comm (EL A m (m+1) (m+1)),h1]
  grind
 | succ t ih =>
  show dd (swp m A) (m+2+t) * EL (swp m A) (m+2+t) (m+2+t) (m+2+t)=dd A (m+2+t) * EL A (m+2+t) (m+2+t) (m+2+t)
  rw [ih,hE t _ _ (Nat.le_refl _) (Nat.le_refl _)]
end Go.Qf
namespace Go.Qf
theorem EL_sel (A:Nat→Vec) {ρ σ:Nat→Nat}:∀ (k:Nat),(∀ x,x<k→ρ x=x)→(∀ x,x<k→σ x=x)→∀ a b,EL (fun a b=>A (ρ a) (σ b)) k a b=EL A k (ρ a) (σ b):=by
 intro k
 induction k with
 | zero=>intro _ _ a b;rfl
 | succ k ih =>
  intro hρ hσ a b
  have h:=ih (fun x hx=>hρ x (by omega)) (fun x hx=>hσ x (by omega))
  rw [EL_succ,EL_succ,h,h,h,h,hρ k (by omega),hσ k (by omega)]
theorem dd_sel (A:Nat→Vec) {ρ σ:Nat→Nat}:∀ (k:Nat),(∀ x,x<k→ρ x=x)→(∀ x,x<k→σ x=x)→dd (fun a b=>A (ρ a) (σ b)) k=dd A k:=by
 intro k
 induction k with
 | zero=>intro _ _;rfl
 | succ k ih =>
  intro hρ hσ
  rw [← BB_diag,← BB_diag]
  unfold BB
  rw [ih (fun x hx=>hρ x (by omega)) (fun x hx=>hσ x (by omega)),EL_sel A k (fun x hx=>hρ x (by omega)) (fun x hx=>hσ x (by omega)),hρ k (by omega),hσ k (by omega)]
theorem dd_border (A:Nat→Vec) {ρ σ:Nat→Nat} (k:Nat) (hρ:∀ x,x<k→ρ x=x) (hσ:∀ x,x<k→σ x=x):dd (fun a b=>A (ρ a) (σ b)) (k+1)=BB A k (ρ k) (σ k):=by
 rw [← BB_diag]
 unfold BB
 rw [dd_sel A k hρ hσ,EL_sel A k hρ hσ]
end Go.Qf
namespace Go.Qf
open Go Go.RowKit Go.Proofs
set_option maxRecDepth 20000
theorem cmp_le (a b:Int):decide (cmpI a b≤0)=decide (a≤b):=by
 rw [decide_eq_decide];unfold cmpI;split <;> (try split) <;> omega
theorem cmp_ge (a b:Int):decide (cmpI a b≥0)=decide (b≤a):=by
 rw [decide_eq_decide];unfold cmpI;split <;> (try split) <;> omega
theorem cmp_ne (a b:Int):(cmpI a b != 0)=decide (a≠b):=by
 have:(cmpI a b != 0)=decide (cmpI a b≠0):=by by_cases h:cmpI a b=0 <;> simp [h]
 rw [this,decide_eq_decide];unfold cmpI;split <;> (try split) <;> omega
theorem sign_le (a:Int):decide (signI a≤0)=decide (a≤0):=by
 rw [decide_eq_decide];unfold signI;split <;> (try split) <;> omega
def RowC (w:World) (b o c:Nat) (g:Nat→Int):Prop:=∃ e C,Blk e w b C∧∀ j,j<c→∃ u,CanO 0 w u (g j)∧(C.drop (o+2 * j)).take 2=u.cells.toList∧o+2 * j+2≤C.length
def LC (w:World) (v:Value) (c:Nat) (g:Nat→Int):Prop:=∃ b o cp,v=.slice (some ⟨b,o,none⟩) c cp∧c≤cp∧RowC w b o c g
theorem RowC.ext {w w':World} {b o c:Nat} {g:Nat→Int} (h:RowC w b o c g) (hx:Ext w w'):RowC w' b o c g:=by
 obtain ⟨e,C,hb,hg⟩:=h
 refine ⟨e,C,hb.ext hx,fun j hj=>?_⟩
 obtain ⟨u,hd,h1,h2⟩:=hg j hj
 exact ⟨u,hd.ext hx,h1,h2⟩
theorem LC.ext {w w':World} {v:Value} {c:Nat} {g:Nat→Int} (h:LC w v c g) (hx:Ext w w'):LC w' v c g:=by
 obtain ⟨b,o,cp,hv,hc,hr⟩:=h
 exact ⟨b,o,cp,hv,hc,hr.ext hx⟩
theorem RowC.rp {w:World} {b o c:Nat} {g:Nat→Int} (h:RowC w b o c g) (hs:∀ j,j<c→sz (g j)≤1000000):RowP w b o c g:=by
 obtain ⟨e,C,hb,hg⟩:=h
 refine ⟨e,C,hb,fun j hj=>?_⟩
 obtain ⟨u,hd,h1,h2⟩:=hg j hj
 exact ⟨u,hd.dn (hs j hj),h1,h2⟩
theorem RowO.lc {base c:Nat} {w:World} {v:Value} {us:List Value} {g:Nat→Int} (h:RowO 2 31 base w v us) (hl:us.length=c) (hc:1≤c) (hu:∀ (j:Nat) (u:Value),us[j]?=some u→CanO 0 w u (g j)):LC w v c g:=by
 obtain ⟨b,cp,D,hv,_,hb,h1,h2,_⟩:=h.open (by intro e;rw [e] at hl;simp at hl;omega)
 refine ⟨b,0,cp,by rw [hv,hl],by omega,_,_,hb,fun j hj=>?_⟩
 have hj':us[j]?=some (us[j]'(by omega)):=by simp
 refine ⟨_,hu j _ hj',?_,?_⟩
 ·rw [Nat.zero_add]
  exact flatK_at us D j _ (fun v hv=>(h.1 v hv).1) hj'
 ·rw [List.length_append,h.1.flat,hl];omega
theorem fstR_lt {k m x:Nat} (h:x<k):fstR k m x=x:=if_pos h
theorem fstR_k (k m:Nat):fstR k m k=m:=if_neg (by omega)
theorem fstR_le {k m x n:Nat} (hk:k≤n) (hm:m<n) (hx:x<k+1):fstR k m x<n:=by unfold fstR;split <;> omega
def selF (f:Nat→Nat→Int) (k i j:Nat):Nat→Nat→Int:=fun a b=>f (fstR k i a) (fstR k j b)
theorem Gd_sel {f:Nat→Nat→Int} {k i j:Nat} (h:Gd (k+1) f):Gd (k+1) (selF f k i j):=by
 intro m h1 h2
 have:dd (RA (selF f k i j)) m=dd (RA f) m:=dd_sel (RA f) (ρ:=fstR k i) (σ:=fstR k j) m (fun x hx=>fstR_lt (by omega)) (fun x hx=>fstR_lt (by omega))
 rw [this]
 exact h m h1 h2
theorem dd_selF (f:Nat→Nat→Int) (k i j:Nat):dd (RA (selF f k i j)) (k+1)=BB (RA f) k i j:=by
 have:=dd_border (RA f) (ρ:=fstR k i) (σ:=fstR k j) k (fun x hx=>fstR_lt hx) (fun x hx=>fstR_lt hx)
 rw [fstR_k,fstR_k] at this
 exact this
set_option maxHeartbeats 1600000 in
theorem leading_spec {w:World} {v:Value} {n s:Nat} {f:Nat→Nat→Int} (h:MI w v (mk n n f)) (hn:1≤n∧n≤16) (hs:∀ a b,a<n→b<n→sz (f a b)≤s) (hs1:1≤s) (hb:2 ^ n * (s+1)≤100000) :
  Calls Tryz.prog 59 #[v] w (Ret fun x w'=>Ext w w'∧∃ (u:Value) (dl:Nat→Int),x=.tuple #[u,.bool true]∧LC w' u n dl∧(∀ k,k<n→sz (dl k)≤2 ^ n * (s+1))∧∀ k,k<n→Gd (k+1) f→(dl k:Rat)=dd (RA f) (k+1)):=by
 refine calls_of_St (args:=[_]) Tryz.func59 rfl Tryz.ntmps59 rfl ?_
 (iterate 6 refine Nv ?_;try refine .r rfl ?_)
 refine .s (OpR.call fn_r03_Square rfl (square_spec h hn hn)) ?_
 rintro _ w1 ⟨hx1,rfl⟩
 rw [if_pos rfl]
 (iterate 6 refine Nv ?_;try refine .r rfl ?_)
 refine .cF ?_
 (iterate 6 refine Nv ?_;try refine .r rfl ?_)
 refine St.rngCG TBok (7) (0) (n) (by omega) (fun g:Value=>[(0,v),(4,.int .i64 n),(6,g)]) (fun k g w'=>Ext w w'∧∃ (us:List Value) (dl:Nat→Int),RowO 2 31 w.heap.size w' g us∧us.length=k∧(∀ (j:Nat) (u:Value),us[j]?=some u→CanO 0 w' u (dl j))∧(∀ j,j<k→sz (dl j)≤2 ^ n * (s+1))∧∀ j,j<k→Gd (j+1) f→(dl j:Rat)=dd (RA f) (j+1)) (.slice none 0 0) sbb ?_ (fun _ _=>⟨rfl,rfl⟩) (fun _ _=>rfl) (fun _ _=>⟨rfl,rfl⟩) (fun _=>rfl) (fun _=>rfl) (by omega) ?_ ?_
 ·exact ⟨hx1,[],fun _=>0,RowO.nil,rfl,fun j u hu=>by simp at hu,fun j hj=>by omega,fun j hj=>by omega⟩
 ·clear hx1
  rintro k g w2 hk ⟨hx2,us,dl,hR,hul,hus,hsz,hdl⟩
  (iterate 6 refine Nv ?_;try refine .r rfl ?_)
  refine .s (OpR.call fn_r04_first rfl (first_spec (base:=0) w2 k k (by omega) (by omega) (Nat.zero_le _))) ?_
  rintro u1 w3 ⟨hx3,hF1⟩
  refine .r rfl ?_
  refine .s (OpR.call fn_r04_first rfl (first_spec (base:=0) w3 k k (by omega) (by omega) (Nat.zero_le _))) ?_
  rintro u2 w4 ⟨hx4,hF2⟩
  have hx24:=hx3.trans hx4
  have hx04:=hx2.trans hx24
  refine .s (OpR.call fn_r03_Select rfl (select_spec (h.ext hx04) hn hn ((hF1.ext hx4).row (tabN_one _ _)) (hF2.row (tabN_one _ _)) (by omega) (by omega) (fun x hx=>fstR_le (by omega) hk hx) (fun x hx=>fstR_le (by omega) hk hx))) ?_
  rintro u3 w5 ⟨hx5,hS⟩
  have hbk:=bd_le (k:=k+1) (n:=n) (by omega) hb
  have hbn:2 ^ (k+1) * (s+1)≤2 ^ n * (s+1):=Nat.mul_le_mul_right _ (Nat.pow_le_pow_right (by omega) (by omega))
  refine .s (OpR.call fn_r03_Determinant rfl (determinant_spec (f:=selF f k k k) hS ⟨by omega,by omega⟩ (s:=s) (fun a b ha hb=>hs _ _ (fstR_le (by omega) hk ha) (fstR_le (by omega) hk hb)) hs1 hbk)) ?_
  rintro u4 w6 ⟨hx6,d,hd,hdz,hdv⟩
  have hx26:=(hx24.trans hx5).trans hx6
  have hR6:=hR.ext hx26
  refine StL.app2 hR6 hd.cel rfl rfl rfl rfl rfl rfl (fun _=>rfl) rfl rfl (by omega) rfl (hx2.trans hx26).size ?_
  intro p v' w7 hR7 hX hB hfr hcan
  (iterate 6 refine Nv ?_;try refine .r rfl ?_)
  have keep:∀ (u:Value) (a:Int),CanO 0 w6 u a→CanO 0 w7 u a:=fun u a=>hcan (by decide) 0 u a
  refine Out.rndG v' sbb ⟨hX w (hx2.trans hx26) (Nat.le_refl _),us++[u4],fun j=>if j=k then d else dl j,hR7,by simp;omega,?_,?_,?_⟩
  ·intro j u hu
   dsimp only
   by_cases hj:j<us.length
   ·rw [List.getElem?_append_left hj] at hu
    rw [if_neg (by omega)]
    exact keep _ _ ((hus j u hu).ext hx26)
   ·have hje:j=us.length:=by
     have:=(List.getElem?_eq_some_iff.1 hu).1
     simp at this;omega
    subst hje
    simp at hu
    subst hu
    rw [if_pos hul]
    exact keep _ _ hd
  ·intro j hj
   dsimp only
   by_cases e:j=k
   ·rw [if_pos e];omega
   ·rw [if_neg e];exact hsz j (by omega)
  ·intro j hj hg
   dsimp only
   by_cases e:j=k
   ·subst e
    rw [if_pos rfl,hdv (Gd_sel hg),dd_selF,BB_diag]
   ·rw [if_neg e];exact hdl j (by omega) hg
 ·rintro g w2 ⟨hx2,us,dl,hR,hul,hus,hsz,hdl⟩
  (iterate 6 refine Nv ?_;try refine .r rfl ?_)
  exact Out.rets TBok [_,_] rfl ⟨rfl,rfl,trivial⟩ ⟨hx2,g,dl,rfl,hR.lc hul hn.1 hus,hsz,hdl⟩
def SymI (n:Nat) (f:Nat→Nat→Int):Prop:=∀ i j,i<n→j<n→f i j=f j i
set_option maxHeartbeats 1600000 in
theorem symmetric_spec {w:World} {v:Value} {n:Nat} {f:Nat→Nat→Int} (h:MI w v (mk n n f)) (hn:1≤n∧n≤16) :
  Calls Tryz.prog 139 #[v] w (Ret fun x w'=>Ext w w'∧∃ b,x=.bool b∧(b=true↔SymI n f)):=by
 obtain ⟨a,cap,rfl,hP⟩:=h.mp hn.1 hn.1
 refine calls_of_St (args:=[_]) Tryz.func139 rfl Tryz.ntmps139 rfl ?_
 (iterate 6 refine Nv ?_;try refine .r rfl ?_)
 refine St.rng TBok (7) (0) (n) (by omega) [(0,.slice (some a) n cap),(6,.int .i64 n)] (fun i w'=>Ext w w'∧∀ x y,x<i→y<x→f x y=f y x) sbb ?_ (fun _=>⟨rfl,rfl⟩) (fun _=>rfl) (fun _=>⟨rfl,rfl⟩) rfl rfl (by omega) ?_ ?_
 ·exact ⟨Ext.refl _,fun x y hx=>by omega⟩
 ·rintro i w1 hi ⟨hx1,hall⟩
  (iterate 6 refine Nv ?_;try refine .r rfl ?_)
  refine St.rngC TBok (4) (0) (i) (by omega) [(7,.int .i64 i),(0,.slice (some a) n cap),(6,.int .i64 n),(3,.int .i64 i)] (fun j w'=>Ext w w'∧∀ y,y<j→f i y=f y i) sbb ?_ (fun _=>⟨rfl,rfl⟩) (fun _=>rfl) (fun _=>⟨rfl,rfl⟩) rfl rfl (by omega) ?_ ?_
  ·exact ⟨hx1,fun y hy=>by omega⟩
  ·clear hx1
   rintro j w1 hj ⟨hx1,hrow⟩
   obtain ⟨b1,o1,cp1,hcell1,e1,C1,hBk1,hg1⟩:=(hP.ext hx1) i hi
   obtain ⟨y1,hd1,k11,k12⟩:=hg1 j (by omega)
   obtain ⟨b3,o3,cp3,hcell3,e3,C3,hBk3,hg3⟩:=(hP.ext hx1) j (by omega)
   obtain ⟨y3,hd3,k31,k32⟩:=hg3 i hi
   refine Nv ?_
   refine St.sub (E':=[(4,.int .i64 j),(7,.int .i64 i),(0,.slice (some a) n cap),(6,.int .i64 n),(3,.int .i64 i)]) ?_ sbb
   refine St.flow 14 TBfol (by kernel_rfl) rfl (by kernel_rfl) rfl True.intro ?_
   refine FL.run TBok 99 rfl ?_
   refine .on (fun _ _=>RunsTo.ia) ?_
   refine .on (fun _ hR=>RunsTo.load TBok rfl rfl rfl (hR.ext_nil.cell hcell1)) ?_
   refine FL.run TBok 99 rfl ?_
   refine .on (fun _ _=>RunsTo.indexI rfl rfl rfl (by omega)) ?_
   refine .on (fun _ hR=>RunsTo.loadIt rfl (hR.blk hBk1 (by simp)) k11 k12 hd1.r2) ?_
   refine FL.run TBok 99 rfl ?_
   refine .on (fun _ _=>RunsTo.ia) ?_
   refine .on (fun _ hR=>RunsTo.load TBok rfl rfl rfl (hR.ext_nil.cell hcell3)) ?_
   refine FL.run TBok 99 rfl ?_
   refine .on (fun _ _=>RunsTo.indexI rfl rfl rfl (by omega)) ?_
   refine .on (fun _ hR=>RunsTo.loadIt rfl (hR.blk hBk3 (by simp)) k31 k32 hd3.r2) ?_
   refine FL.endE rfl ?_
   intro w2 hx2 _ _
   refine .s (OpR.call fn_r01_Cmp rfl (rcmp_dn (hd1.ext hx2) (hd3.ext hx2))) ?_
   rintro _ w3 ⟨hx3,rfl⟩
   refine .a 1 (.bool (decide (f i j≠f j i))) rfl (by rw [cmp_ne]) ?_
   refine Nv ?_
   have hx13:=(hx1.trans hx2).trans hx3
   by_cases e:f i j=f j i
   ·refine St.condF rfl (decide_eq_false (by simpa using e)) ?_
    refine Nv ?_
    refine Out.rnd sbb ⟨hx13,fun y hy=>?_⟩
    by_cases e2:y=j
    ·rw [e2];exact e
    ·exact hrow y (by omega)
   ·refine St.condT rfl (decide_eq_true e) ?_
    (iterate 6 refine Nv ?_;try refine .r rfl ?_)
    exact Out.ret1 rfl rfl ⟨hx13,false,rfl,by simp;exact fun hs=>e (hs i j hi (by omega))⟩
  ·rintro w2 ⟨hx2,hrow⟩
   refine Nv ?_
   refine Out.rnd sbb ⟨hx2,fun x y hx hy=>?_⟩
   by_cases e:x=i
   ·subst e;exact hrow y hy
   ·exact hall x y (by omega) hy
 ·rintro w1 ⟨hx1,hall⟩
  (iterate 6 refine Nv ?_;try refine .r rfl ?_)
  refine Out.ret1 rfl rfl ⟨hx1,true,rfl,⟨fun _ x y hx hy=>?_,fun _=>rfl⟩⟩
  rcases Nat.lt_trichotomy x y with hlt | rfl | hlt
  ·exact (hall y x hy hlt).symm
  ·rfl
  ·exact hall x y hx hlt
def PD (n:Nat) (f:Nat→Nat→Int):Prop:=∀ m,1≤m→m≤n→0<dd (RA f) m
theorem PD.gd {n k:Nat} {f:Nat→Nat→Int} (h:PD n f) (hk:k≤n+1):Gd k f:=fun m h1 h2 e=>by
 have:=h m h1 (by omega)
 rw [e] at this
 exact absurd this (by decide)
set_option maxHeartbeats 1600000 in
theorem definite_spec {w:World} {v:Value} {n s:Nat} {f:Nat→Nat→Int} (h:MI w v (mk n n f)) (hn:1≤n∧n≤16) (hs:∀ a b,a<n→b<n→sz (f a b)≤s) (hs1:1≤s) (hb:2 ^ n * (s+1)≤100000) (hsym:SymI n f) :
  Calls Tryz.prog 140 #[v] w (Ret fun x w'=>Ext w w'∧∃ b,x=.bool b∧(b=true↔PD n f)):=by
 refine calls_of_St (args:=[_]) Tryz.func140 rfl Tryz.ntmps140 rfl ?_
 (iterate 6 refine Nv ?_;try refine .r rfl ?_)
 refine .s (OpR.call fn_r04_Leading rfl (leading_spec h hn hs hs1 hb)) ?_
 rintro _ w1 ⟨hx1,u,dl,rfl,hL,hsz,hdl⟩
 refine .r rfl ?_
 refine Nv ?_
 refine .r rfl ?_
 refine .s (OpR.call fn_r04_Symmetric rfl (symmetric_spec (h.ext hx1) hn)) ?_
 rintro _ w2 ⟨hx2,b,rfl,hbs⟩
 obtain rfl:=hbs.2 hsym
 (iterate 6 refine Nv ?_;try refine .r rfl ?_)
 refine .cF ?_
 obtain ⟨b0,o0,cp0,rfl,hcp,hR⟩:=hL
 replace hR:=(hR.rp (fun j hj=>by have:=hsz j hj;omega)).ext hx2
 (iterate 6 refine Nv ?_;try refine .r rfl ?_)
 refine St.rng TBok (21) (0) (n) (by omega) [(19,.slice (some ⟨b0,o0,none⟩) n cp0),(20,.int .i64 n)] (fun i w'=>Ext w w'∧Ext w2 w'∧∀ m,m<i→0<dd (RA f) (m+1)) sbb ?_ (fun _=>⟨rfl,rfl⟩) (fun _=>rfl) (fun _=>⟨rfl,rfl⟩) rfl rfl (by omega) ?_ ?_
 ·exact ⟨hx1.trans hx2,Ext.refl _,fun m hm=>by omega⟩
 ·rintro i w3 hi ⟨hx3,hx23,hall⟩
  have hgd:Gd (i+1) f:=fun m h1 h2 e=>by
   have:=hall (m - 1) (by omega)
   rw [show m - 1+1=m by omega,e] at this
   exact absurd this (by decide)
  have hdi:=hdl i hi hgd
  obtain ⟨e,C,hB,hg⟩:=hR.ext hx23
  obtain ⟨y,hd,k1,k2⟩:=hg i hi
  refine Nv ?_
  refine .p (RunsTo.indexI rfl rfl rfl (by omega)) ?_
  refine .p (RunsTo.loadIt rfl hB k1 k2 hd.r2) ?_
  refine StL.newI rfl (fun _=>rfl) hd.r2 ?_
  intro w4 hx4 B6
  refine Nv ?_
  refine .p (RunsTo.loadI2 rfl B6 hd.r2) ?_
  refine .s (OpR.call fn_r01_Sign rfl (rsign_dn (hd.ext hx4))) ?_
  rintro _ w5 ⟨hx5,rfl⟩
  refine .a 1 (.bool (decide (dl i≤0))) rfl (by rw [sign_le]) ?_
  refine Nv ?_
  have hx35:=hx4.trans hx5
  by_cases e:dl i≤0
  ·refine St.condT rfl (decide_eq_true e) ?_
   (iterate 6 refine Nv ?_;try refine .r rfl ?_)
   refine Out.ret1 rfl rfl ⟨hx3.trans hx35,false,rfl,⟨fun h=>(by cases h),fun hp=>?_⟩⟩
   exfalso
   have:=hp (i+1) (by omega) (by omega)
   rw [← hdi] at this
   have:0<dl i:=by exact_mod_cast this
   omega
  ·refine St.condF rfl (decide_eq_false e) ?_
   refine Nv ?_
   refine Out.rnd sbb ⟨hx3.trans hx35,hx23.trans hx35,fun m hm=>?_⟩
   by_cases e2:m=i
   ·subst e2
    rw [← hdi]
    have:0<dl m:=by omega
    exact_mod_cast this
   ·exact hall m (by omega)
 ·rintro w3 ⟨hx3,_,hall⟩
  (iterate 6 refine Nv ?_;try refine .r rfl ?_)
  refine Out.ret1 rfl rfl ⟨hx3,true,rfl,⟨fun _ m h1 h2=>?_,fun _=>rfl⟩⟩
  have:=hall (m - 1) (by omega)
  rw [show m - 1+1=m by omega] at this
  exact this
def Form (n:Nat) (f:Nat→Nat→Int):Prop:=SymI n f∧PD n f
theorem validate_spec {w:World} {v:Value} {r c s:Nat} {f:Nat→Nat→Int} (h:MI w v (mk r c f)) (hr:1≤r∧r≤16) (hc:1≤c∧c≤16) (hs:∀ a b,a<r→b<c→sz (f a b)≤s) (hs1:1≤s) (hb:256 * (s+1)≤100000) :
  Calls Tryz.prog 77 #[v] w (Ret fun x w'=>Ext w w'∧∃ e:Int,x=.int .i64 e∧(e=0↔(r=c∧r≤8∧Form r f))):=by
 refine calls_of_St (args:=[_]) Tryz.func77 rfl Tryz.ntmps77 rfl ?_
 (iterate 6 refine Nv ?_;try refine .r rfl ?_)
 refine .s (OpR.call fn_r03_Square rfl (square_spec h hr hc)) ?_
 rintro _ w1 ⟨hx1,rfl⟩
 by_cases e:r=c
 ·subst e
  rw [if_pos rfl]
  refine .r rfl ?_
  refine Nv ?_
  by_cases h8:8<r
  ·refine .a 5 (.bool true) rfl (bool_true (by omega)) ?_
   (iterate 6 refine Nv ?_;try refine .r rfl ?_)
   refine .cT ?_
   (iterate 6 refine Nv ?_;try refine .r rfl ?_)
   exact Out.ret1 rfl rfl ⟨hx1,3,rfl,⟨fun h=>(by omega),fun h=>(by omega)⟩⟩
  refine .a 5 (.bool false) rfl (bool_false (by omega)) ?_
  have hb2:2 ^ r * (s+1)≤100000:=Nat.le_trans (Nat.mul_le_mul_right _ (Nat.pow_le_pow_right (by omega) (show r≤8 by omega))) hb
  (iterate 6 refine Nv ?_;try refine .r rfl ?_)
  refine .cF ?_
  (iterate 6 refine Nv ?_;try refine .r rfl ?_)
  refine .s (OpR.call fn_r04_Symmetric rfl (symmetric_spec (h.ext hx1) hr)) ?_
  rintro _ w2 ⟨hx2,b,rfl,hbs⟩
  cases b
  ·(iterate 6 refine Nv ?_;try refine .r rfl ?_)
   refine .cT ?_
   (iterate 6 refine Nv ?_;try refine .r rfl ?_)
   exact Out.ret1 rfl rfl ⟨hx1.trans hx2,4,rfl,⟨fun h=>(by omega),fun h=>(by have:=hbs.2 h.2.2.1;cases this)⟩⟩
  have hsym:=hbs.1 rfl
  (iterate 6 refine Nv ?_;try refine .r rfl ?_)
  refine .cF ?_
  (iterate 6 refine Nv ?_;try refine .r rfl ?_)
  refine .s (OpR.call fn_r04_Definite rfl (definite_spec (h.ext (hx1.trans hx2)) hr hs hs1 hb2 hsym)) ?_
  rintro _ w3 ⟨hx3,b,rfl,hbs⟩
  cases b
  ·(iterate 6 refine Nv ?_;try refine .r rfl ?_)
   refine .cT ?_
   (iterate 6 refine Nv ?_;try refine .r rfl ?_)
   exact Out.ret1 rfl rfl ⟨(hx1.trans hx2).trans hx3,5,rfl,⟨fun h=>(by omega),fun h=>(by have:=hbs.2 h.2.2.2;cases this)⟩⟩
  (iterate 6 refine Nv ?_;try refine .r rfl ?_)
  refine .cF ?_
  (iterate 6 refine Nv ?_;try refine .r rfl ?_)
  exact Out.ret1 rfl rfl ⟨(hx1.trans hx2).trans hx3,0,rfl,⟨fun _=>⟨rfl,by omega,hsym,hbs.1 rfl⟩,fun _=>rfl⟩⟩
 ·rw [if_neg e]
  (iterate 6 refine Nv ?_;try refine .r rfl ?_)
  refine .cT ?_
  (iterate 6 refine Nv ?_;try refine .r rfl ?_)
  exact Out.ret1 rfl rfl ⟨hx1,3,rfl,⟨fun h=>(by omega),fun h=>absurd h.1 e⟩⟩
end Go.Qf
