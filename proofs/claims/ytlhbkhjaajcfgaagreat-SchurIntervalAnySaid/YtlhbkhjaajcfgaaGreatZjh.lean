/- Lemmas on the model and on the program's functions, part Zjh. -/
import GoSem.Core.View
import Derived.WalkKit
import Derived.Deep.Quiet
import Derived.Deep.LoopGhost
import Derived.KernelRfl
import Derived.Test.YtlhbkhjaajcfgaaGreatProg
import Derived.Laws.BytesString
import Derived.Laws.RangeString
import Derived.Lib.OthersKept
import Derived.Laws.Strings
import Derived.ProofKit
import Derived.OpenShut
import Derived.Lib.SmallJoins
import Derived.Carry
import Derived.ChangeMaps5
import Derived.Maps.AppendAt
import Derived.Laws.Externs
import Derived.Lib.Bytealg
import Derived.ChangeArms
import Derived.Laws.OwnMore
import Derived.Scope
import Derived.RangeFuncLeaves
import Derived.RangeFuncRecord
import Derived.TacticsIn
import Derived.OrdersIn
import Derived.Test.YtlhbkhjaajcfgaaGreatRows
import Derived.Test.YtlhbkhjaajcfgaaGreatZja
import Derived.Test.YtlhbkhjaajcfgaaGreatZjb
import Derived.Test.YtlhbkhjaajcfgaaGreatZjc
import Derived.Test.YtlhbkhjaajcfgaaGreatZjd
import Derived.Test.YtlhbkhjaajcfgaaGreatZje
import Derived.Test.YtlhbkhjaajcfgaaGreatZjf
import Derived.Test.YtlhbkhjaajcfgaaGreatZjg
set_option linter.unusedVariables false
set_option linter.unusedSimpArgs false
namespace Go.Qf
open Go Go.RowKit Go.Proofs
set_option maxRecDepth 20000
def TE:List (Nat×TI):=(62,⟨.int .i64,1,8,.int .i64 0⟩)::TB
theorem TEok:TblOk Tryz.prog TE:=TblOk.cons Tryz.underlying62 (by kernel_rfl) TBok
section
variable {P:Program} {T:List (Nat×TI)} {n:Nat} {E:List (Nat×Value)} {w:World} {Q:Exit→Act→World→Prop}
theorem Out.cells2 (hT:TblOk P T) {fn:Func} {Φ:Value→World→Prop} {p q:Tmp} {tp tq:TypeId} {a b:Addr} {i j:TI} {x y:Value} (hr:fn.results=#[.cell p tp,.cell q tq])
  (hp:look E p=some (.pointer (some a))) (hq:look E q=some (.pointer (some b))) (htp:lookT T tp=some i) (htq:lookT T tq=some j) (hi:isAggD i.desc=false) (hj:isAggD j.desc=false)
  (hx:w.cell? a=some x) (hy:w.cell? b=some y) (h:Φ (.tuple #[x,y]) w):Out n E w .ret (bodyPost P fn (Ret Φ)):=by
 intro c hc
 refine bodyPost_ret (v:=.tuple #[x,y]) ?_ hc.defers ⟨_,rfl,h⟩
 rw [results_eq,hr]
 have e1:c.tmps.getD p undef=.pointer (some a):=by simp [Array.getD_eq_getD_getElem?,hc.slots p _ hp]
 have e2:c.tmps.getD q undef=.pointer (some b):=by simp [Array.getD_eq_getD_getElem?,hc.slots q _ hq]
 have a1:∀ d:Addr,(asAddr (.pointer (some d))).run P w=.ok d w:=fun d=>by simp [asAddr,go_sem]
 have l1:(loadVar tp a).run P w=.ok x w:=by simp [loadVar,run_isAgg_T hT htp,hi,hx,go_sem]
 have l2:(loadVar tq b).run P w=.ok y w:=by simp [loadVar,run_isAgg_T hT htq,hj,hy,go_sem]
 have m1:(resFn c.tmps (.cell p tp)).run P w=.ok x w:=by simp only [resFn,Sem.run_bind,e1,a1,Result.andThen_ok,l1]
 have m2:(resFn c.tmps (.cell q tq)).run P w=.ok y w:=by simp only [resFn,Sem.run_bind,e2,a1,Result.andThen_ok,l2]
 rw [Array.mapM_eq_mapM_toList]
 simp only [List.mapM_cons,List.mapM_nil,Sem.run_bind,m1,m2,Sem.run_pure,Result.andThen_ok,map_eq_pure_bind]
 rfl
theorem wp_marked {id D:Nat} {l:List Oper} {a:Act} (ha:Fits n E a) (hn:noDefer l=true) (hQ:¬ LetsOut Q) (h:StL P n E w l.toArray l (fun e a w=>Exit.then (Code.ret.wp P Q) Q e (mkd D a) w)):(Code.seq (.region id l.toArray false) .ret).wp P Q (mkd D a) w :=
 wp_seq (wp_region_lit (listMark l a w (h a ha) hn hQ))
theorem Out.markRet {D:Nat} {fn:Func} {Φ:Value→World→Prop} (hD:w.heap[D]?=some (.deferred (some []))) (h:Out n E (w.putObj D (.deferred none)) .ret (bodyPost P fn (Ret Φ))) :
  Out n E w .normal (fun e a w=>Exit.then (Code.ret.wp P (bodyPostM Fence.wide 0 P fn (Ret Φ))) (bodyPostM Fence.wide 0 P fn (Ret Φ)) e (mkd D a) w):=fun a ha=>wp_ret (ret_marked ha hD h)
end
theorem upd_put (w:World) (L:Nat) (o:Obj):Upd L w (w.putObj L o):=⟨rfl,rfl,rfl,by simp,fun k _ hk=>World.putObj_heap_other hk⟩
theorem put_at {w:World} {L:Nat} {o o':Obj} (h:w.heap[L]?=some o'):(w.putObj L o).heap[L]?=some o:=by
 have hlt:=(Array.getElem?_eq_some_iff.1 h).1
 simp [World.putObj,hlt]
structure StpI (w0:World) (n b6 b7 b8 bs b9 L D:Nat) (rec:Loop) (s:Int×List Int) (w:World):Prop where
 ext:Ext w0 w
 r6:Blk 61 w b6 [.slice none 0 0]
 r7:Blk 62 w b7 [.int .i64 0]
 st:Blk 61 w b8 [.slice (some ⟨bs,0,none⟩) n n]
 row:Blk 3 w bs (s.2.map i64)
 len:s.2.length=n
 left:Blk 2 w b9 [.int .i64 s.1]
 pos:0≤s.1∧s.1≤1000000
 ent:∀ y ∈ s.2,0≤y∧y≤1000000 - s.1
 loop:w.heap[L]?=some (.loop rec)
 defer:w.heap[D]?=some (.deferred (some []))
structure StpX (w0:World) (b6 b7 L D:Nat) (rec:Loop) (w:World):Prop where
 ext:Ext w0 w
 r6:Blk 61 w b6 [.slice none 0 0]
 r7:Blk 62 w b7 [.int .i64 9]
 loop:w.heap[L]?=some (.loop { rec with state:=.done,pending:=some .ret })
 defer:w.heap[D]?=some (.deferred (some []))
theorem Upd.obj {b:Nat} {w w':World} {k:Nat} {o:Obj} (hu:Upd b w w') (h:w.heap[k]?=some o) (hne:k≠b):w'.heap[k]?=some o:=(hu.block k (Array.getElem?_eq_some_iff.1 h).1 hne).trans h
def ArgOk (B b:Int):Prop:=0≤B∧B≤4611686018427387904∧0≤b∧b≤1000000
def StepsV (w:World) (x:Value) (M:List (List Int)) (B b:Int):Prop :=
 (¬ Red M→x=.tuple #[.slice none 0 0,.int .i64 6])∧(Red M→¬ ArgOk B b→x=.tuple #[.slice none 0 0,.int .i64 1]) ∧
 (Red M→ArgOk B b→visN (ent M) M.length B M.length [] (b,List.replicate M.length 0)=none→x=.tuple #[.slice none 0 0,.int .i64 9]) ∧
 (Red M→ArgOk B b→∀ s',visN (ent M) M.length B M.length [] (b,List.replicate M.length 0)=some s'→∃ v,x=.tuple #[v,.int .i64 0]∧L64 w v s'.2)
set_option maxHeartbeats 6400000 in
theorem schurSteps_spec {w:World} {hv:Value} {M:List (List Int)} {B b:Int} (h:M64 w hv M) (hl:M.length≤1000000) :
  Calls Tryz.prog 34 #[hv,.int .i64 B,.int .i64 b] w (Ret fun x w'=>Ext w w'∧StepsV w' x M B b):=by
 obtain ⟨ph,ch,e⟩:=h.len
 subst e
 refine calls_of_StM (args:=[_,_,_]) Tryz.func34 rfl Tryz.ntmps34 rfl ?_
 refine Nv ?_
 refine .s (OpR.alloc TBok rfl) ?_
 rintro _ w1 ⟨rfl,B6,hx1,hz1⟩
 refine .s (OpR.alloc TEok rfl) ?_
 rintro _ w2 ⟨rfl,B7,hx2,hz2⟩
 have hx02:=hx1.trans hx2
 replace B6:=B6.ext hx2
 have hb6:=B6.lt
 refine StL.nil (Out.then_normal ?_)
 refine St.cut (fun _:Unit=>[(0,.slice ph M.length ch),(1,.int .i64 B),(2,.int .i64 b),(6,.pointer (some ⟨w.heap.size,0,none⟩)),(7,.pointer (some ⟨w1.heap.size,0,none⟩))]) (fun _ w'=>Ext w2 w'∧Red M∧ArgOk B b∧(M.length≠1→B<1073741824)) ?_ ?_
 rotate_left
 ·rintro _ w3 ⟨hx3,hRed,hArg,hB2⟩
  have hx03:=hx02.trans hx3
  replace B6:=B6.ext hx3
  replace B7:=B7.ext hx3
  have hRF:=hRed.redF.1
  have hn:1≤M.length∧M.length≤8:=⟨hRed.1.1,hRed.2.2.1⟩
  have hA:=(hRed.at h).ext hx03
  have key:∀ (x:Value) (w':World),((visN (ent M) M.length B M.length [] (b,List.replicate M.length 0)=none→x=.tuple #[.slice none 0 0,.int .i64 9])∧(∀ s',visN (ent M) M.length B M.length [] (b,List.replicate M.length 0)=some s'→∃ v,x=.tuple #[v,.int .i64 0]∧L64 w' v s'.2))→StepsV w' x M B b:=fun x w' hh=>⟨fun hR=>absurd hRed hR,fun _ hA=>absurd hArg hA,fun _ _=>hh.1,fun _ _=>hh.2⟩
  obtain ⟨hB0,hB1,hb0,hb1⟩:=hArg
  generalize ent M=f at *
  generalize hnn:M.length=n at *
  clear hRed hb6
  (iterate 6 refine Nv ?_;try refine .r rfl ?_)
  refine .s (OpR.make TBok n rfl rfl rfl rfl rfl rfl rfl rfl (by show n * 8≤_;omega) (by omega)) ?_
  rintro _ w4 ⟨rfl,BS,hx4,hz4⟩
  refine .s (OpR.alloc TBok rfl) ?_
  rintro _ w5 ⟨rfl,B8,hx5,hz5⟩
  refine StL.step0 rfl rfl (OpR.store TBok (vs:=[_]) rfl rfl rfl rfl rfl B8 (Nat.le_refl 1) (by simp [Value.oneCell'])) ?_
  rintro _ w6 ⟨B8',hu6⟩
  replace B8':Blk 61 w6 w4.heap.size [.slice (some ⟨w3.heap.size,0,none⟩) n n]:=B8'
  (iterate 6 refine Nv ?_;try refine .r rfl ?_)
  refine .s (OpR.alloc TBok rfl) ?_
  rintro _ w7 ⟨rfl,B9,hx7,hz7⟩
  refine StL.step0 rfl rfl (OpR.store TBok (vs:=[_]) rfl rfl rfl rfl rfl B9 (Nat.le_refl 1) (by simp [Value.oneCell'])) ?_
  rintro _ w8 ⟨B9',hu8⟩
  replace B9':Blk 2 w8 w6.heap.size [.int .i64 b]:=B9'
  have h6lt:=B6.lt
  have h7lt:=B7.lt
  have hslt:=BS.lt
  have h8lt:=B8'.lt
  have hx46:Ext w4 w6:=hx5.then_upd hu6 (Nat.le_refl _)
  have hx68:Ext w6 w8:=hx7.then_upd hu8 (Nat.le_refl _)
  have hx38:Ext w3 w8:=(hx4.trans hx46).trans hx68
  have hx48:Ext w4 w8:=hx46.trans hx68
  have hx08:=hx03.trans hx38
  replace B6:=B6.ext hx38
  replace B7:=B7.ext hx38
  replace BS:Blk 3 w8 w3.heap.size ((List.replicate n (0:Int)).map i64):=by
   have:=BS.ext hx48
   rw [List.map_replicate]
   exact this
  replace B8:=B8'.ext hx68
  replace hA:=hA.ext hx38
  have hsz4:=hx4.size
  have hsz6:=hx46.size
  have h67:w.heap.size<w1.heap.size:=by have:=hz1;omega
  have h9lt:=B9'.lt
  clear hx4 hx5 hx7 hu6 hu8 B9 B8' hx46 hx68 hx48 hx38
  (iterate 6 refine Nv ?_;try refine .r rfl ?_)
  refine .s (OpR.call fn_schur_newWalk rfl (newWalk_spec hA hn hRF)) ?_
  rintro _ w9 ⟨hx9,bw,bx,rfl,hbx,hW,BX⟩
  replace B6:=B6.ext hx9
  replace B7:=B7.ext hx9
  replace BS:=BS.ext hx9
  replace B8:=B8.ext hx9
  replace B9:=B9'.ext hx9
  have hx09:=hx08.trans hx9
  have hbxlt:=BX.lt
  (iterate 6 refine Nv ?_;try refine .r rfl ?_)
  refine .p (RunsTo.func rfl rfl) ?_
  refine StL.nil (Out.then_normal (St.block ?_))
  refine St.sub (E':=[(6,.pointer (some ⟨w.heap.size,0,none⟩)),(7,.pointer (some ⟨w1.heap.size,0,none⟩)),(8,.pointer (some ⟨w4.heap.size,0,none⟩)),(9,.pointer (some ⟨w6.heap.size,0,none⟩)),(42,.func (.func 74) #[.pointer (some ⟨bw,0,none⟩)] #[])]) ?_ sbb
  refine St.rangeFunc fn_schur_walk_tails rfl ?_
  intro a fi rec ha hrec
  obtain ⟨L,hLdef⟩:∃ L,L=w9.heap.size+1:=⟨_,rfl⟩
  rw [← hLdef]
  obtain ⟨wA,hwA⟩:∃ wA,wA=(w9.alloc (.deferred (some []))).alloc (.loop rec):=⟨_,rfl⟩
  rw [← hwA]
  have hxA:Ext w9 wA:=by rw [hwA];exact (ext_alloc _ _).trans (ext_alloc _ _)
  have hLA:wA.heap[L]?=some (.loop rec):=by
   rw [hwA,hLdef]
   have:=World.alloc_heap_new (w9.alloc (.deferred (some []))) (.loop rec)
   rwa [World.size_alloc] at this
  have hDA:wA.heap[w9.heap.size]?=some (.deferred (some [])):=by
   rw [hwA]
   exact (Below.heap_alloc _ _ _ (by simp)).trans (World.alloc_heap_new w9 _)
  have hrs:rec.state=.ready:=by rw [hrec]
  have hrp:rec.pending=none:=by rw [hrec]
  have hY:Yc bx w9.heap.size L (StpI w n w.heap.size w1.heap.size w4.heap.size w3.heap.size w6.heap.size L w9.heap.size rec) (StpX w w.heap.size w1.heap.size L w9.heap.size rec) n:=by
   refine ⟨?_,?_⟩
   ·intro s w' w'' hs hu
    exact ⟨hs.ext.then_upd hu (by omega),hs.r6.upd hu (by omega),hs.r7.upd hu (by omega),hs.st.upd hu (by omega),hs.row.upd hu (by omega),hs.len,hs.left.upd hu (by omega),hs.pos,hs.ent,hu.obj hs.loop (by omega),hu.obj hs.defer (by omega)⟩
   ·intro s w' m c hs hm hc0 hcb hhi
    refine ⟨rec,hs.loop,by rw [hrec];rfl,?_⟩
    obtain ⟨wb,hwb⟩:∃ wb,wb=w'.putObj L (.loop { rec with state:=.busy }):=⟨_,rfl⟩
    have hub:Upd L w' wb:=by rw [hwb];exact upd_put _ _ _
    have hLb:wb.heap[L]?=some (.loop { rec with state:=.busy }):=by rw [hwb];exact put_at hs.loop
    have hfit:=fits_round (r:=rec) (p1:=43) (p2:=44) (v1:=.int .i64 ((m+1:Nat):Int)) (v2:=.int .i64 c) ha (by rw [hrec]) (by rw [hrec]) rfl rfl
    refine round_of (E1:=[(6,.pointer (some ⟨w.heap.size,0,none⟩)),(7,.pointer (some ⟨w1.heap.size,0,none⟩)),(8,.pointer (some ⟨w4.heap.size,0,none⟩)),(9,.pointer (some ⟨w6.heap.size,0,none⟩)),(11,.int .i64 ((m+1:Nat):Int)),(12,.int .i64 c)]) hfit hs.loop hrs ?_ ?_
    ·rw [show rec.assign=_ from by rw [hrec]]
     refine StR.seq (StR.region ?_ rfl (StL.run TBok 99 rfl (StL.nil (Out.thenR (StR.region ?_ rfl (StL.run TBok 99 rfl (StL.nil ?_)))))))
     ·exact fun ⟨_,_,h⟩=>h
     ·exact fun ⟨_,_,h⟩=>h
     ·exact fun a1 h1=>⟨h1.sub sbb,rfl⟩
    ·rw [← hwb]
     have hno:∀ {R:Ending→World→Prop},¬ LetsOut (roundPost Tryz.prog L R):=noOutRound
     have hr9:=hs.left.upd hub (by omega)
     have hr6:=hs.r6.upd hub (by omega)
     have hr7:=hs.r7.upd hub (by omega)
     have hr8:=hs.st.upd hub (by omega)
     have hrS:=hs.row.upd hub (by omega)
     have hDb:=hub.obj hs.defer (by omega)
     have hxb:Ext w wb:=hs.ext.then_upd hub (by omega)
     rw [show rec.body=_ from by rw [hrec]]
     refine StR.block (StR.seq (StR.seq (StR.region ?_ rfl ?_)))
     ·exact noOutThen (noOutThen (noOutBlock noOutRound))
     refine .r rfl ?_
     (refine .s (RunsTo.load TBok rfl rfl rfl (Blk.cell upp rfl)).op ?_;rintro _ _ ⟨rfl,rfl⟩)
     by_cases hlt:s.1<c
     ·refine .a 1 (.bool true) rfl (bool_true hlt) ?_
      refine StL.nil (Out.thenR (StR.condT rfl (StR.seq (StR.region ?_ rfl ?_))))
      ·exact noOutThen (noOutThen (noOutBlock noOutRound))
      refine StL.step0 rfl rfl (OpR.store TBok (vs:=[.slice none 0 0]) rfl rfl rfl rfl rfl hr6 (Nat.le_refl 1) (by simp [Value.oneCell'])) ?_
      rintro _ wc ⟨hr6c,huc⟩
      refine StL.step0 rfl rfl (OpR.store TEok (vs:=[.int .i64 9]) rfl rfl rfl rfl rfl (hr7.upd huc (by omega)) (Nat.le_refl 1) (by simp [Value.oneCell'])) ?_
      rintro _ wd ⟨hr7d,hud⟩
      refine StL.nil (Out.thenR (StR.ret ?_))
      intro a2 ha2
      have hLd:=hud.obj (huc.obj hLb (by omega)) (by omega)
      have hDd:=hud.obj (huc.obj hDb (by omega)) (by omega)
      have hue:=upd_put wd L (.loop { rec with state:=.done,pending:=some .ret })
      refine ⟨_,_,run_endRound (some .ret) hLd,false,rfl,?_,?_,fun _=>⟨rfl,?_⟩,fun h=>absurd hlt h⟩
      ·intro j h1 h2
       have hj:j<w'.heap.size:=by omega
       have e1:=hub.block j hj (by omega)
       have e2:=huc.block j (Nat.lt_of_lt_of_le hj hub.size) (by omega)
       have e3:=hud.block j (Nat.lt_of_lt_of_le hj (Nat.le_trans hub.size huc.size)) (by omega)
       have e4:=hue.block j (Nat.lt_of_lt_of_le hj (Nat.le_trans (Nat.le_trans hub.size huc.size) hud.size)) (by omega)
       exact ((e4.trans e3).trans e2).trans e1
      ·exact Nat.le_trans (Nat.le_trans (Nat.le_trans hub.size huc.size) hud.size) hue.size
      ·exact ⟨((hxb.then_upd huc (Nat.le_refl _)).then_upd hud (by omega)).then_upd hue (by omega),(hr6c.upd hud (by omega)).upd hue (by omega),hr7d.upd hue (by omega),put_at hLd,hue.obj hDd (by omega)⟩
     ·refine .a 1 (.bool false) rfl (bool_false hlt) ?_
      refine StL.nil (Out.thenR (StR.condF rfl (StR.skip (Out.thenR (StR.seq (StR.region ?_ rfl ?_))))))
      ·exact noOutThen (noOutBlock noOutRound)
      have hmy:m<s.2.length:=by rw [hs.len];exact hm
      have hym:s.2[m]?=some (yv s.2 m):=by
       unfold yv
       rw [List.getD_eq_getElem?_getD,List.getElem?_eq_getElem hmy]
       rfl
      have hyb:=hs.ent _ (List.mem_of_getElem? hym)
      have hp:=hs.pos
      (refine .s (RunsTo.load TBok rfl rfl rfl (Blk.cell upp rfl)).op ?_;rintro _ _ ⟨rfl,rfl⟩)
      refine .a 2 (.int .i64 (s.1 - c)) rfl (by rw [i64_id (by omega) (by omega)]) ?_
      refine StL.step0 rfl rfl (OpR.store TBok (vs:=[_]) rfl rfl rfl rfl rfl hr9 (Nat.le_refl 1) (by simp [Value.oneCell'])) ?_
      rintro _ wc ⟨hr9c,huc⟩
      replace hr9c:Blk 2 wc w6.heap.size [.int .i64 (s.1 - c)]:=hr9c
      have hr8c:=hr8.upd huc (by omega)
      have hrSc:=hrS.upd huc (by omega)
      refine StL.nil (Out.thenR (StR.region ?_ rfl ?_))
      ·exact noOutBlock noOutRound
      have hcell:wc.cell? (Addr.add ⟨w3.heap.size,0,none⟩ m)=some (.int .i64 (yv s.2 m)):=by
       rw [addr_add,Nat.zero_add]
       exact hrSc.cell (by rw [List.getElem?_map,hym];rfl)
      (refine .s (RunsTo.load TBok rfl rfl rfl (Blk.cell upp rfl)).op ?_;rintro _ _ ⟨rfl,rfl⟩)
      refine .a 2 (.int .i64 (m:Int)) rfl (by rw [i64_id (by omega) (by omega)];congr 1;omega) ?_
      refine .p (RunsTo.ia) ?_
      refine .p (RunsTo.load TBok rfl rfl rfl hcell) ?_
      refine .a 2 (.int .i64 (yv s.2 m+c)) rfl (by rw [i64_id (by omega) (by omega)]) ?_
      refine StL.put TBok m hrSc rfl hm (by rw [List.length_map,hs.len];omega) rfl rfl rfl rfl rfl rfl rfl rfl (fun _=>rfl) (fun _=>rfl) rfl rfl ?_
      intro pd wd hrSd hud
      rw [Nat.zero_add,show (s.2.map i64).set m (.int .i64 (yv s.2 m+c))=(bump s.2 m c).map i64 from by rw [bump_set,List.map_set]] at hrSd
      refine StL.nil ?_
      intro a2 ha2
      have hLd:=hud.obj (huc.obj hLb (by omega)) (by omega)
      have hDd:=hud.obj (huc.obj hDb (by omega)) (by omega)
      have hue:=upd_put wd L (.loop { rec with state:=.ready,pending:=none })
      have hrr:({ rec with state:=.ready,pending:=none }:Loop)=rec:=by
       cases rec
       simp only at hrs hrp
       subst hrs hrp
       rfl
      refine ⟨_,_,run_endRound none hLd,true,rfl,?_,?_,fun h=>absurd h hlt,fun _=>⟨rfl,?_⟩⟩
      ·intro j h1 h2
       have hj:j<w'.heap.size:=by omega
       have e1:=hub.block j hj (by omega)
       have e2:=huc.block j (Nat.lt_of_lt_of_le hj hub.size) (by omega)
       have e3:=hud.block j (Nat.lt_of_lt_of_le hj (Nat.le_trans hub.size huc.size)) (by omega)
       have e4:=hue.block j (Nat.lt_of_lt_of_le hj (Nat.le_trans (Nat.le_trans hub.size huc.size) hud.size)) (by omega)
       exact ((e4.trans e3).trans e2).trans e1
      ·exact Nat.le_trans (Nat.le_trans (Nat.le_trans hub.size huc.size) hud.size) hue.size
      ·refine ⟨((hxb.then_upd huc (by omega)).then_upd hud (by omega)).then_upd hue (by omega),((hr6.upd huc (by omega)).upd hud (by omega)).upd hue (by omega),((hr7.upd huc (by omega)).upd hud (by omega)).upd hue (by omega),(hr8c.upd hud (by omega)).upd hue (by omega),hrSd.upd hue (by omega),by show (bump s.2 m c).length=n;rw [bump_len];exact hs.len,(hr9c.upd hud (by omega)).upd hue (by omega),⟨by show 0≤s.1 - c;omega,by show s.1 - c≤_;omega⟩,?_,?_,hue.obj hDd (by omega)⟩
       ·intro y hy
        show 0≤y∧y≤1000000 - (s.1 - c)
        have hy':y ∈ bump s.2 m c:=hy
        rw [bump_set] at hy'
        rcases List.mem_or_eq_of_mem_set hy' with h1 | h1
        ·have:=hs.ent y h1
         omega
        ·omega
       ·exact (put_at hLd).trans (by show some (Obj.loop { rec with state:=.ready,pending:=none })=_;rw [hrr])
  have hI0:StpI w n w.heap.size w1.heap.size w4.heap.size w3.heap.size w6.heap.size L w9.heap.size rec (b,List.replicate n 0) wA :=
   ⟨hx09.trans hxA,B6.ext hxA,B7.ext hxA,B8.ext hxA,BS.ext hxA,by simp,B9.ext hxA,⟨hb0,hb1⟩,fun y hy=>by rw [List.eq_of_mem_replicate hy];show (0:Int)≤0∧0≤1000000 - b;omega,hLA,hDA⟩
  have hcall:=tails_spec (w:=wA) (xs:=List.replicate n 0) hRF hn ⟨hB0,hB1⟩ hB2 hW hY ⟨hxA.size,fun j _ h2=>hxA.block j h2⟩ (by rw [List.map_replicate];exact BX.ext hxA) (by simp) hI0
  refine (show Calls Tryz.prog _ (#[.pointer (some ⟨bw,0,none⟩)]++#[.func (.yield L) #[] #[]]++#[]) wA _ from hcall).mono ?_
  rintro e wB ⟨v,rfl,hnone,hsome⟩
  refine ⟨v,rfl,?_⟩
  cases hv:visN f n B n [] (b,List.replicate n 0) with
  | none =>
   have hX:=hnone hv
   refine ⟨_,hX.loop,by simp,.inr ⟨rfl,?_⟩⟩
   have hu:=upd_put wB L (.loop { { rec with state:=.done,pending:=some .ret } with state:=.exhausted })
   have hDu:=hu.obj hX.defer (by omega)
   have hu2:=upd_put (wB.putObj L (.loop { { rec with state:=.done,pending:=some .ret } with state:=.exhausted })) w9.heap.size (.deferred none)
   show bodyPostM Fence.wide 0 Tryz.prog _ _ .ret (mkd _ a) _
   refine ret_marked ha hDu ?_
   exact Out.cells2 TEok rfl rfl rfl rfl rfl rfl rfl (((hX.r6.upd hu (by omega)).upd hu2 (by omega)).cell rfl) (((hX.r7.upd hu (by omega)).upd hu2 (by omega)).cell rfl) ⟨(hX.ext.then_upd hu (by omega)).then_upd hu2 (by have:=hx09.size;omega),key _ _ ⟨fun _=>rfl,fun s' hs=>by rw [hv] at hs;cases hs⟩⟩
  | some s' =>
   have hI:=hsome s' hv
   refine ⟨rec,hI.loop,by rw [hrs];simp,.inl ⟨hrp,?_⟩⟩
   have hu:=upd_put wB L (.loop { rec with state:=.exhausted })
   obtain ⟨wC,hwC⟩:∃ wC,wC=wB.putObj L (.loop { rec with state:=.exhausted }):=⟨_,rfl⟩
   rw [← hwC] at hu ⊢
   have hr6:=hI.r6.upd hu (by omega)
   have hr7:=hI.r7.upd hu (by omega)
   have hr8:=hI.st.upd hu (by omega)
   have hrS:=hI.row.upd hu (by omega)
   have hDu:=hu.obj hI.defer (by omega)
   have hxC:Ext w wC:=hI.ext.then_upd hu (by omega)
   refine wp_marked ha rfl noOutM ?_
   (refine .s (RunsTo.load TBok rfl rfl rfl (Blk.cell upp rfl)).op ?_;rintro _ _ ⟨rfl,rfl⟩)
   refine StL.step0 rfl rfl (OpR.store TBok (vs:=[_]) rfl rfl rfl rfl rfl hr6 (Nat.le_refl 1) (by simp [Value.oneCell'])) ?_
   rintro _ wD ⟨hr6D,huD⟩
   replace hr6D:Blk 61 wD w.heap.size [.slice (some ⟨w3.heap.size,0,none⟩) n n]:=hr6D
   refine StL.step0 rfl rfl (OpR.store TEok (vs:=[.int .i64 0]) rfl rfl rfl rfl rfl (hr7.upd huD (by omega)) (Nat.le_refl 1) (by simp [Value.oneCell'])) ?_
   rintro _ wE ⟨hr7E,huE⟩
   have hDE:=huE.obj (huD.obj hDu (by omega)) (by omega)
   have hu2:=upd_put wE w9.heap.size (.deferred none)
   have hrSE:=((hrS.upd huD (by omega)).upd huE (by omega)).upd hu2 (by omega)
   refine StL.nil (Out.markRet hDE (Out.cells2 TEok rfl rfl rfl rfl rfl rfl rfl (((hr6D.upd huE (by omega)).upd hu2 (by omega)).cell rfl) ((hr7E.upd hu2 (by omega)).cell rfl) ⟨((hxC.then_upd huD (Nat.le_refl _)).then_upd huE (by omega)).then_upd hu2 (by have:=hx09.size;omega),key _ _ ⟨fun hs=>(by rw [hv] at hs;cases hs),fun s2 hs=>?_⟩⟩))
   rw [hv] at hs
   cases hs
   refine ⟨_,rfl,⟨some ⟨w3.heap.size,0,none⟩,n,by rw [List.length_map,hI.len],by rw [List.length_map,hI.len];omega,fun e=>(by cases e),?_⟩⟩
   rintro a' ha' i c hi
   cases ha'
   rw [addr_add,Nat.zero_add]
   exact hrSE.cell hi
 (iterate 6 refine Nv ?_;try refine .r rfl ?_)
 refine .s (OpR.call fn_lll_IsReduced rfl (isReduced_spec (h.ext hx02) hl)) ?_
 rintro _ w3 ⟨hx3,bR,rfl,hb⟩
 have hx03:=hx02.trans hx3
 replace B6:=B6.ext hx3
 replace B7:=B7.ext hx3
 have fail:∀ (e:Int) (w':World),Blk 61 w' w.heap.size [.slice none 0 0]→Blk 62 w' w1.heap.size [.int .i64 e]→w'.cell? ⟨w.heap.size,0,none⟩=some (.slice none 0 0)∧w'.cell? ⟨w1.heap.size,0,none⟩=some (.int .i64 e):=fun e w' h1 h2=>⟨h1.cell rfl,h2.cell rfl⟩
 cases bR
 ·have hnR:¬ Red M:=fun hR=>absurd (hb.2 hR) (by simp)
  (iterate 6 refine Nv ?_;try refine .r rfl ?_)
  refine .cT ?_
  (iterate 6 refine Nv ?_;try refine .r rfl ?_)
  refine StL.step0 rfl rfl (OpR.store TBok (vs:=[.slice none 0 0]) rfl rfl rfl rfl rfl B6 (Nat.le_refl 1) (by simp [Value.oneCell'])) ?_
  rintro _ w4 ⟨B6',hu4⟩
  refine StL.step0 rfl rfl (OpR.store TEok (vs:=[.int .i64 6]) rfl rfl rfl rfl rfl (B7.upd hu4 (by omega)) (Nat.le_refl 1) (by simp [Value.oneCell'])) ?_
  rintro _ w5 ⟨B7',hu5⟩
  (iterate 6 refine Nv ?_;try refine .r rfl ?_)
  refine Out.plainM (Out.cells2 TEok rfl rfl rfl rfl rfl rfl rfl ((B6'.upd hu5 (by omega)).cell rfl) (B7'.cell rfl) ⟨(hx03.then_upd hu4 (Nat.le_refl _)).then_upd hu5 (by omega),fun _=>rfl,fun hR=>absurd hR hnR,fun hR=>absurd hR hnR,fun hR=>absurd hR hnR⟩)
 have hRed:=hb.1 rfl
 refine .r rfl ?_
 refine Nv ?_
 refine .cF ?_
 refine Nv ?_
 by_cases hA1:B<0
 ·refine .a 2 (.bool true) rfl (bool_true hA1) ?_
  (iterate 6 refine Nv ?_;try refine .r rfl ?_)
  refine .cT ?_
  (iterate 6 refine Nv ?_;try refine .r rfl ?_)
  refine .cT ?_
  (iterate 6 refine Nv ?_;try refine .r rfl ?_)
  refine StL.step0 rfl rfl (OpR.store TBok (vs:=[.slice none 0 0]) rfl rfl rfl rfl rfl B6 (Nat.le_refl 1) (by simp [Value.oneCell'])) ?_
  rintro _ w4 ⟨B6',hu4⟩
  refine StL.step0 rfl rfl (OpR.store TEok (vs:=[.int .i64 1]) rfl rfl rfl rfl rfl (B7.upd hu4 (by omega)) (Nat.le_refl 1) (by simp [Value.oneCell'])) ?_
  rintro _ w5 ⟨B7',hu5⟩
  (iterate 6 refine Nv ?_;try refine .r rfl ?_)
  exact Out.plainM (Out.cells2 TEok rfl rfl rfl rfl rfl rfl rfl ((B6'.upd hu5 (by omega)).cell rfl) (B7'.cell rfl) ⟨(hx03.then_upd hu4 (Nat.le_refl _)).then_upd hu5 (by omega),fun hR=>absurd hRed hR,fun _ _=>rfl,fun _ hA=>absurd hA (by unfold ArgOk;omega),fun _ hA=>absurd hA (by unfold ArgOk;omega)⟩)
 refine .a 2 (.bool false) rfl (bool_false hA1) ?_
 (iterate 6 refine Nv ?_;try refine .r rfl ?_)
 refine .cF ?_
 refine Nv ?_
 by_cases hA2:B > 4611686018427387904
 ·refine .a 2 (.bool true) rfl (bool_true hA2) ?_
  (iterate 6 refine Nv ?_;try refine .r rfl ?_)
  refine .cT ?_
  (iterate 6 refine Nv ?_;try refine .r rfl ?_)
  refine .cT ?_
  (iterate 6 refine Nv ?_;try refine .r rfl ?_)
  refine StL.step0 rfl rfl (OpR.store TBok (vs:=[.slice none 0 0]) rfl rfl rfl rfl rfl B6 (Nat.le_refl 1) (by simp [Value.oneCell'])) ?_
  rintro _ w4 ⟨B6',hu4⟩
  refine StL.step0 rfl rfl (OpR.store TEok (vs:=[.int .i64 1]) rfl rfl rfl rfl rfl (B7.upd hu4 (by omega)) (Nat.le_refl 1) (by simp [Value.oneCell'])) ?_
  rintro _ w5 ⟨B7',hu5⟩
  (iterate 6 refine Nv ?_;try refine .r rfl ?_)
  exact Out.plainM (Out.cells2 TEok rfl rfl rfl rfl rfl rfl rfl ((B6'.upd hu5 (by omega)).cell rfl) (B7'.cell rfl) ⟨(hx03.then_upd hu4 (Nat.le_refl _)).then_upd hu5 (by omega),fun hR=>absurd hRed hR,fun _ _=>rfl,fun _ hA=>absurd hA (by unfold ArgOk;omega),fun _ hA=>absurd hA (by unfold ArgOk;omega)⟩)
 refine .a 2 (.bool false) rfl (bool_false hA2) ?_
 (iterate 6 refine Nv ?_;try refine .r rfl ?_)
 refine .cF ?_
 refine Nv ?_
 by_cases hA3:b<0
 ·refine .a 2 (.bool true) rfl (bool_true hA3) ?_
  (iterate 6 refine Nv ?_;try refine .r rfl ?_)
  refine .cT ?_
  (iterate 6 refine Nv ?_;try refine .r rfl ?_)
  refine .cT ?_
  (iterate 6 refine Nv ?_;try refine .r rfl ?_)
  refine StL.step0 rfl rfl (OpR.store TBok (vs:=[.slice none 0 0]) rfl rfl rfl rfl rfl B6 (Nat.le_refl 1) (by simp [Value.oneCell'])) ?_
  rintro _ w4 ⟨B6',hu4⟩
  refine StL.step0 rfl rfl (OpR.store TEok (vs:=[.int .i64 1]) rfl rfl rfl rfl rfl (B7.upd hu4 (by omega)) (Nat.le_refl 1) (by simp [Value.oneCell'])) ?_
  rintro _ w5 ⟨B7',hu5⟩
  (iterate 6 refine Nv ?_;try refine .r rfl ?_)
  exact Out.plainM (Out.cells2 TEok rfl rfl rfl rfl rfl rfl rfl ((B6'.upd hu5 (by omega)).cell rfl) (B7'.cell rfl) ⟨(hx03.then_upd hu4 (Nat.le_refl _)).then_upd hu5 (by omega),fun hR=>absurd hRed hR,fun _ _=>rfl,fun _ hA=>absurd hA (by unfold ArgOk;omega),fun _ hA=>absurd hA (by unfold ArgOk;omega)⟩)
 refine .a 2 (.bool false) rfl (bool_false hA3) ?_
 (iterate 6 refine Nv ?_;try refine .r rfl ?_)
 refine .cF ?_
 refine Nv ?_
 by_cases hA4:b > 1000000
 ·refine .a 2 (.bool true) rfl (bool_true hA4) ?_
  (iterate 6 refine Nv ?_;try refine .r rfl ?_)
  refine .cT ?_
  (iterate 6 refine Nv ?_;try refine .r rfl ?_)
  refine StL.step0 rfl rfl (OpR.store TBok (vs:=[.slice none 0 0]) rfl rfl rfl rfl rfl B6 (Nat.le_refl 1) (by simp [Value.oneCell'])) ?_
  rintro _ w4 ⟨B6',hu4⟩
  refine StL.step0 rfl rfl (OpR.store TEok (vs:=[.int .i64 1]) rfl rfl rfl rfl rfl (B7.upd hu4 (by omega)) (Nat.le_refl 1) (by simp [Value.oneCell'])) ?_
  rintro _ w5 ⟨B7',hu5⟩
  (iterate 6 refine Nv ?_;try refine .r rfl ?_)
  exact Out.plainM (Out.cells2 TEok rfl rfl rfl rfl rfl rfl rfl ((B6'.upd hu5 (by omega)).cell rfl) (B7'.cell rfl) ⟨(hx03.then_upd hu4 (Nat.le_refl _)).then_upd hu5 (by omega),fun hR=>absurd hRed hR,fun _ _=>rfl,fun _ hA=>absurd hA (by unfold ArgOk;omega),fun _ hA=>absurd hA (by unfold ArgOk;omega)⟩)
 refine .a 2 (.bool false) rfl (bool_false hA4) ?_
 (iterate 6 refine Nv ?_;try refine .r rfl ?_)
 refine .cF ?_
 refine Nv ?_
 have hArg:ArgOk B b:=⟨by omega,by omega,by omega,by omega⟩
 have hRF:=hRed.redF.1
 have hn:1≤M.length∧M.length≤8:=⟨hRed.1.1,hRed.2.2.1⟩
 have hA:=(hRed.at h).ext hx03
 have hcrowd:M.length > 1→B≥1073741824→visN (ent M) M.length B M.length [] (b,List.replicate M.length 0)=none:=fun h1 h2=>crowded hRF (by omega) h2 ⟨by omega,by omega⟩ _
 by_cases h1:M.length > 1
 ·refine .a 3 (.bool true) rfl (bool_true (by omega)) ?_
  by_cases h2:B≥1073741824
  ·refine .a 3 (.bool true) rfl (bool_true h2) ?_
   (iterate 6 refine Nv ?_;try refine .r rfl ?_)
   refine .cT ?_
   (iterate 6 refine Nv ?_;try refine .r rfl ?_)
   refine StL.step0 rfl rfl (OpR.store TBok (vs:=[.slice none 0 0]) rfl rfl rfl rfl rfl B6 (Nat.le_refl 1) (by simp [Value.oneCell'])) ?_
   rintro _ w4 ⟨B6',hu4⟩
   refine StL.step0 rfl rfl (OpR.store TEok (vs:=[.int .i64 9]) rfl rfl rfl rfl rfl (B7.upd hu4 (by omega)) (Nat.le_refl 1) (by simp [Value.oneCell'])) ?_
   rintro _ w5 ⟨B7',hu5⟩
   (iterate 6 refine Nv ?_;try refine .r rfl ?_)
   exact Out.plainM (Out.cells2 TEok rfl rfl rfl rfl rfl rfl rfl ((B6'.upd hu5 (by omega)).cell rfl) (B7'.cell rfl) ⟨(hx03.then_upd hu4 (Nat.le_refl _)).then_upd hu5 (by omega),fun hR=>absurd hRed hR,fun _ hA=>absurd hArg hA,fun _ _ _=>rfl,fun _ _ s' hs=>by rw [hcrowd h1 h2] at hs;cases hs⟩)
  ·refine .a 3 (.bool false) rfl (bool_false h2) ?_
   (iterate 6 refine Nv ?_;try refine .r rfl ?_)
   refine .cF ?_
   (iterate 6 refine Nv ?_;try refine .r rfl ?_)
   exact Out.met () sbb ⟨hx3,hRed,hArg,fun _=>by omega⟩
 ·refine .a 3 (.bool false) rfl (bool_false (by omega)) ?_
  (iterate 6 refine Nv ?_;try refine .r rfl ?_)
  refine .cF ?_
  (iterate 6 refine Nv ?_;try refine .r rfl ?_)
  exact Out.met () sbb ⟨hx3,hRed,hArg,fun h=>absurd h (by omega)⟩
end Go.Qf
namespace Go.Qf
open Go Go.RowKit Go.Proofs
def exM:List (List Int):=[[2,1],[1,2]]
def exF:Nat→Nat→Int:=ent exM
theorem ex_red:RedF 2 exF:=by
 refine ⟨?_,?_,?_,?_,?_⟩
 ·intro p q
  match p,q with
  | 0,0=>rfl
  | 0,1=>rfl
  | 1,0=>rfl
  | 1,1=>rfl
  | 0,q+2=>rfl
  | 1,q+2=>rfl
  | p+2,0=>rfl
  | p+2,1=>rfl
  | p+2,q+2=>rfl
 ·intro m hm
  match m,hm with
  | 0,_=>decide +kernel
  | 1,_=>decide +kernel
  | 2,_=>decide +kernel
 ·decide +kernel
 ·intro i j hi hj
  obtain ⟨rfl,rfl⟩:i=1∧j=0:=by omega
  unfold SzP
  decide +kernel
 ·intro i h1 h2
  obtain rfl:i=1:=by omega
  unfold LvP
  decide +kernel
theorem ex_Red:Red exM:=redF_red ex_red (by omega) (by omega)
theorem ex_pn:pnQ exF 2 [1]=Rat.divInt 3 2:=by decide +kernel
theorem ex_sq2:sqI exF 2 2 [1]=1 * (2 * 2 - 3):=by decide +kernel
theorem ex_sq1:sqI exF 2 1 [1]<0:=by decide +kernel
theorem ex_lo:loI exF 2 2 [1]=-1∧hiI exF 2 2 [1]=0:=by decide +kernel
theorem ex_steps:visN exF 2 2 2 [] (100,[0,0])=some (90,[3,7]):=by decide +kernel
theorem ex_fmt:fmtR (Rat.divInt 3 2)=[51,47,50]:=by decide +kernel
end Go.Qf
namespace Go.Qf
open Go Go.RowKit Go.Proofs
set_option maxRecDepth 20000
theorem sz_li64 {n:Nat} {f:Nat→Nat→Int} {ys:List Int} (hl:ys.length<n) (hn:n≤8) (hs:∀ k,k<n→∀ i j,i<n - k→j<n - k→sz (stI f k i j)≤1000) (hy:T64 ys):sz (liI f n ys)≤1100:=by
 unfold liI
 refine Nat.le_trans (sz_sumN (s:=1014) _ (fun j hj=>?_)) (by omega)
 have a1:=hs (n - ys.length - 1) (by omega) 0 (j+1) (by omega) (by omega)
 have a2:=hy.sz j
 have a3:=sz_mul (stI f (n - ys.length - 1) 0 (j+1)) (yv ys j)
 omega
theorem MI.mpc {w:World} {v:Value} {r c:Nat} {f:Nat→Nat→Int} (h:MI w v (mk r c f)) (hr:1≤r) (hc:1≤c):∃ a cap,v=.slice (some a) r cap∧∀ i,i<r→∃ b o cp,w.cell? (a.add i)=some (.slice (some ⟨b,o,none⟩) c cp)∧c≤cp∧RowP w b o c (f i):=by
 obtain ⟨rs,h1,h2,h3⟩:=h
 rw [mk_len] at h2
 have h0:rs[0]?=some (rs[0]'(by omega)):=by simp
 obtain ⟨a,cap,hv,_⟩:=h1.get h0
 refine ⟨a,cap,by rw [hv,h2],fun i hi=>?_⟩
 have hri:rs[i]?=some (rs[i]'(by omega)):=by simp
 obtain ⟨a',cap',hv',hcell⟩:=h1.get hri
 rw [hv] at hv'
 simp only [Value.slice.injEq,Option.some.injEq] at hv'
 obtain ⟨rfl,_,_⟩:=hv'
 have hLI:=h3 i _ _ hri (mk_get hi)
 obtain ⟨b,o,cp,hrv,hrp⟩:=hLI.rp hc
 obtain ⟨p,cap3,e3,hle,_⟩:=hLI
 simp only [List.length_map,List.length_range,tab] at e3 hle
 have e4:=hrv.symm.trans e3
 simp only [Value.slice.injEq] at e4
 exact ⟨b,o,cp,by rw [hcell,hrv],by omega,hrp⟩
theorem RowP.at {w:World} {b o c:Nat} {g:Nat→Int} (h:RowP w b o c g) {j:Nat} (hj:j<c):∃ u e C,Dn w u (g j)∧Blk e w b C∧(C.drop (o+2 * j)).take 2=u.cells.toList∧o+2 * j+2≤C.length:=by
 obtain ⟨e,C,hb,hg⟩:=h
 obtain ⟨u,h1,h2,h3⟩:=hg j hj
 exact ⟨u,e,C,h1,hb,h2,h3⟩
set_option maxHeartbeats 6400000 in
theorem frameInterval_spec {w:World} {x v:Value} {n:Nat} {f:Nat→Nat→Int} {ys:List Int} {B:Int} (hF:FrV w x n f) (k:L64 w v ys) (hl:ys.length<n) (hn:1≤n∧n≤8) (hR:RedF n f) (hT:T64 ys)
  (hB:-9223372036854775808≤B∧B≤9223372036854775807) (h0:0≤sqI f n B ys) :
  Calls Tryz.prog 57 #[x,.int .i64 B,v] w (Ret fun r w'=>Ext w w'∧r=.tuple #[.int .i64 (lo64 (loI f n B ys)),.int .i64 (lo64 (hiI f n B ys))]):=by
 have hszs:=hR.szs hn.2
 have hszd:=hR.szd hn.2
 have hsl:=sz_li64 (f:=f) hl hn.2 hszs hT
 have hzB:sz B≤2:=sz_small (by omega) (by omega)
 obtain ⟨aS,cs,bm,om,cm,rfl,hS,hRC⟩:=hF.open hn.1
 obtain ⟨px,cx,rfl⟩:=k.len
 obtain ⟨s,hs⟩:∃ s,s=n - ys.length - 1:=⟨_,rfl⟩
 obtain ⟨aM,cM,hcS,hMI⟩:=hS s (by omega)
 rw [show n - s=ys.length+1 by omega] at hcS hMI
 obtain ⟨_,_,e,hRows⟩:=hMI.mpc (by omega) (by omega)
 simp only [Value.slice.injEq,Option.some.injEq] at e
 obtain ⟨rfl,_,_⟩:=e
 have hst:∀ i j,i≤ys.length→j≤ys.length→sz (stI f s i j)≤1000:=fun i j hi hj=>hszs s (by omega) i j (by omega) (by omega)
 have hdot:∀ i,i≤ys.length→∀ j,j<ys.length→sz (stI f s i (j+1) * yv ys j)≤1014:=by
  intro i hi j hj
  have a1:=hst i (j+1) hi (by omega)
  have a2:=hT.sz j
  have a3:=sz_mul (stI f s i (j+1)) (yv ys j)
  omega
 have hin:∀ i,i≤ys.length→sz (sumN ys.length (fun j=>stI f s i (j+1) * yv ys j))≤1022:=fun i hi=>Nat.le_trans (sz_sumN (s:=1014) _ (hdot i hi)) (by omega)
 have hterm:∀ i,i<ys.length→sz (yv ys i * sumN ys.length (fun j=>stI f s (i+1) (j+1) * yv ys j))≤1036:=by
  intro i hi
  have a1:=hin (i+1) (by omega)
  have a2:=hT.sz i
  have a3:=sz_mul (yv ys i) (sumN ys.length (fun j=>stI f s (i+1) (j+1) * yv ys j))
  omega
 refine calls_of_St (args:=[_,_,_]) Tryz.func57 rfl Tryz.ntmps57 rfl ?_
 refine Nv ?_
 refine .s (OpR.box rfl) ?_
 rintro _ w1 ⟨rfl,B3,hx1,hz1⟩
 (iterate 6 refine Nv ?_;try refine .r rfl ?_)
 (refine .s (RunsTo.load TBok rfl rfl rfl (Blk.cell upp rfl)).op ?_;rintro _ _ ⟨rfl,rfl⟩)
 refine .a 3 (.int .i64 ((n - ys.length:Nat):Int)) rfl (by rw [i64_id (by omega) (by omega)];congr 1;omega) ?_
 refine .a 1 (.int .i64 (s:Int)) rfl (by rw [i64_id (by omega) (by omega)];congr 1;omega) ?_
 (iterate 6 refine Nv ?_;try refine .r rfl ?_)
 (refine .s (RunsTo.load TBok rfl rfl rfl (Blk.cell upp rfl)).op ?_;rintro _ _ ⟨rfl,rfl⟩)
 refine .r rfl ?_
 refine .p (RunsTo.ia) ?_
 refine .p (RunsTo.load TBok rfl rfl rfl (hx1.cell hcS)) ?_
 (iterate 6 refine Nv ?_;try refine .r rfl ?_)
 refine .s (OpR.call fn_r09_Column rfl (column_spec (k.ext hx1) (by omega) hT)) ?_
 rintro yv' w2 ⟨hx2,hY⟩
 have hx02:=hx1.trans hx2
 replace B3:=B3.ext hx2
 obtain ⟨py,cy,ey0⟩:=hY.1
 subst ey0
 obtain ⟨b0,o0,c0,hc0,hcp0,hr0⟩:=hRows 0 (by omega)
 have hLP:=hY.lp (fun j _=>by have:=hT.sz j;omega)
 (iterate 6 refine Nv ?_;try refine .r rfl ?_)
 refine .p (RunsTo.ia) ?_
 refine .p (RunsTo.load TBok rfl rfl rfl (hx02.cell hc0)) ?_
 refine .p (RunsTo.sliceLo TBok rfl rfl rfl rfl 1 rfl (by omega)) ?_
 refine .r rfl ?_
 refine .s (OpR.call fn_r03_Dot rfl (dotL_spec (s:=1014) ((hr0.ext hx02).slice1 hcp0) hLP (by omega) (hdot 0 (by omega)) (by omega))) ?_
 rintro lv w3 ⟨hx3,hlv⟩
 replace hlv:CanO 0 w3 lv (liI f n ys):=by unfold liI;rw [← hs];exact hlv
 have hx03:=hx02.trans hx3
 refine StL.newI rfl (fun _=>rfl) hlv.r2 ?_
 intro w4 hx4 B11
 have hx04:=hx03.trans hx4
 replace hlv:=hlv.ext hx4
 replace B3:=(B3.ext hx3).ext hx4
 replace hY:=(hY.ext hx3).ext hx4
 refine Nv ?_
 (refine .s (RunsTo.build TBok rfl rfl rfl rfl).op ?_;rintro _ _ ⟨rfl,rfl⟩)
 refine StL.newI (v:=zI) rfl (fun _=>rfl) (canO_zero 0 w4).r2 ?_
 intro w5 hx5 B12
 (iterate 6 refine Nv ?_;try refine .r rfl ?_)
 refine St.rng TBok (42) (0) (ys.length) (by omega) [(1,.int .i64 B),(3,.pointer (some ⟨w.heap.size,0,none⟩)),(8,.int .i64 s),(9,.slice (some aM) (ys.length+1) cM),(10,.slice py ys.length cy),(11,.pointer (some ⟨w3.heap.size,0,none⟩)),(12,.pointer (some ⟨w4.heap.size,0,none⟩)),(41,.int .i64 ys.length)] (fun i w'=>Ext w4 w'∧∃ v,Blk 31 w' w4.heap.size v.cells.toList∧CanO 0 w' v (sumN i (fun i=>yv ys i * sumN ys.length (fun j=>stI f s (i+1) (j+1) * yv ys j)))) sbb ?_ (fun _=>⟨rfl,rfl⟩) (fun _=>rfl) (fun _=>⟨rfl,rfl⟩) rfl rfl (by omega) ?_ ?_
 ·exact ⟨hx5,zI,B12,canO_zero 0 _⟩
 ·clear B12
  rintro i w6 hi ⟨hx6,u,S12,hu⟩
  have hx06:=hx04.trans hx6
  have hY6:=hY.ext hx6
  obtain ⟨by',oy,cy',ey,hry⟩:=hY6.2 (by omega)
  cases ey
  obtain ⟨uy,ey2,Cy,hdy,hBy,ky,ly⟩:=hry.at hi
  obtain ⟨bi,oi,ci,hci,hcpi,hri⟩:=hRows (i+1) (by omega)
  have hzs:=sz_sumN (s:=1036) i (fun j hj=>hterm j (by omega)) (g:=fun i=>yv ys i * sumN ys.length (fun j=>stI f s (i+1) (j+1) * yv ys j))
  have ht:=hterm i hi
  have hyi:=hT.sz i
  have hini:=hin (i+1) (by omega)
  (iterate 6 refine Nv ?_;try refine .r rfl ?_)
  refine St.sub (E':=[(42,.int .i64 i),(13,.int .i64 i),(1,.int .i64 B),(3,.pointer (some ⟨w.heap.size,0,none⟩)),(8,.int .i64 s),(9,.slice (some aM) (ys.length+1) cM),(10,.slice (some ⟨by',oy,none⟩) ys.length cy),(11,.pointer (some ⟨w3.heap.size,0,none⟩)),(12,.pointer (some ⟨w4.heap.size,0,none⟩)),(41,.int .i64 ys.length)]) ?_ sbb
  refine St.flow 14 TBfol (by kernel_rfl) rfl (by kernel_rfl) rfl True.intro ?_
  refine .on (fun _ hR=>RunsTo.loadCan rfl (hR.blk S12 (by simp)) hu) ?_
  refine FL.run TBok 99 rfl ?_
  refine .on (fun _ _=>RunsTo.indexI rfl rfl rfl (by omega)) ?_
  refine .on (fun _ hR=>RunsTo.loadIt rfl (hR.blk hBy (by simp)) ky ly hdy.r2) ?_
  refine FL.as TBok 3 (.int .i64 ((i+1:Nat):Int)) rfl (i64_succ (by omega)) ?_
  refine .on (fun _ _=>RunsTo.ia) ?_
  refine .on (fun _ hR=>RunsTo.load TBok rfl rfl rfl (hR.ext_nil.cell (hx06.cell hci))) ?_
  refine .on (fun _ _=>RunsTo.sliceLo TBok rfl rfl rfl rfl 1 rfl (by omega)) ?_
  refine FL.run TBok 99 rfl ?_
  refine FL.callE fn_r03_Dot rfl rfl rfl (fun w7 hx7=>CallF.mk rfl (dotL_spec (s:=1014) (((hri.ext hx06).ext hx7).slice1 hcpi) ((hY6.lp (fun j _=>by have:=hT.sz j;omega)).ext hx7) (by omega) (hdot (i+1) (by omega)) (by omega))) (MonoR.canO 0 _) ?_
  refine FL.callE fn_r01_Mul rfl rfl rfl (fun w7 hx7 t1 h1=>CallF.mk rfl (rmul_dn (base:=0) ((hdy.ext hx7).dn (by omega)) (h1.dn (by omega)) (Nat.zero_le _))) (MonoR.canO 0 _) ?_
  refine FL.endE rfl ?_
  rintro w7 hx7 y hy _ _ _ _
  replace S12:=S12.ext hx7
  replace hu:=hu.ext hx7
  refine .s (OpR.call fn_r01_Add rfl (radd_dn (base:=0) (hu.dn (by omega)) (hy.dn (by omega)) (Nat.zero_le _))) ?_
  rintro z w8 ⟨hx8,hz⟩
  replace S12:=S12.ext hx8
  refine StL.setCan rfl rfl S12 hu.two.1 hz ((hx6.trans hx7).trans hx8) (Nat.le_refl _) ?_
  intro w9 S9 hu9 hz9 hx9
  refine Nv ?_
  exact Out.rnd sbb ⟨hx9,z,S9,hz9⟩
 ·clear B12
  rintro w6 ⟨hx6,u,S12,hu⟩
  have hx06:=hx04.trans hx6
  replace hu:CanO 0 w6 u (qdI f n ys):=by unfold qdI;rw [← hs];exact hu
  have hzq:sz (qdI f n ys)≤1044:=by unfold qdI;rw [← hs];exact Nat.le_trans (sz_sumN (s:=1036) _ hterm) (by omega)
  have B3':=B3.ext hx6
  obtain ⟨um,em,Cm,hdm,hBm,km,lm⟩:=(hRC.ext hx06).at (j:=s) (by omega)
  have hzd:=hszd s (by omega)
  have hz00:=hst 0 0 (by omega) (by omega)
  have hzb:=sz_mul B (ddI f s)
  have hz1:=sz_sub (qdI f n ys) (B * ddI f s)
  have hz2:=sz_mul (liI f n ys) (liI f n ys)
  have hz3:=sz_mul (stI f s 0 0) (qdI f n ys - B * ddI f s)
  have hz4:=sz_sub (liI f n ys * liI f n ys) (stI f s 0 0 * (qdI f n ys - B * ddI f s))
  have hsq:liI f n ys * liI f n ys - stI f s 0 0 * (qdI f n ys - B * ddI f s)=sqI f n B ys:=by rw [hs];exact sq_eq hR hl B
  rw [hsq] at hz4
  refine Nv ?_
  refine St.sub (E':=[(1,.int .i64 B),(3,.pointer (some ⟨w.heap.size,0,none⟩)),(8,.int .i64 s),(9,.slice (some aM) (ys.length+1) cM),(11,.pointer (some ⟨w3.heap.size,0,none⟩)),(12,.pointer (some ⟨w4.heap.size,0,none⟩))]) ?_ sbb
  refine St.flow 9 TBfol (by kernel_rfl) rfl (by kernel_rfl) rfl True.intro ?_
  refine .on (fun _ hR=>RunsTo.loadCan rfl (hR.blk S12 (by simp)) hu) ?_
  refine FL.run TBok 99 rfl ?_
  refine FL.callE fn_r01_Small rfl rfl rfl (fun w7 hx7=>CallF.mk rfl (rsmall_spec (base:=0) w7 B (by omega) (by omega) (Nat.zero_le _))) (MonoR.canO 0 _) ?_
  refine FL.run TBok 99 rfl ?_
  refine FL.load (L:=[]) TBok rfl rfl rfl rfl rfl rfl upp (by simp) rfl ?_
  refine FL.run TBok 99 rfl ?_
  refine .on (fun _ _=>RunsTo.indexI rfl rfl rfl (by omega)) ?_
  refine .on (fun _ hR=>RunsTo.loadIt rfl (hR.blk hBm (by simp)) km lm hdm.r2) ?_
  refine FL.callE fn_r01_Mul rfl rfl rfl (fun w7 hx7 t1 h1=>CallF.mk rfl (rmul_dn (base:=0) (h1.dn (by omega)) ((hdm.ext hx7).dn (by omega)) (Nat.zero_le _))) (MonoR.canO 0 _) ?_
  refine FL.endE rfl ?_
  rintro w7 hx7 y hy _ _ _ _
  replace S12:=S12.ext hx7
  replace hu:=hu.ext hx7
  refine .s (OpR.call fn_r01_Sub rfl (rsub_dn (base:=0) (hu.dn (by omega)) (hy.dn (by omega)) (Nat.zero_le _))) ?_
  rintro z w8 ⟨hx8,hz⟩
  replace S12:=S12.ext hx8
  refine StL.setCan rfl rfl S12 hu.two.1 hz ((hx6.trans hx7).trans hx8) (Nat.le_refl _) ?_
  intro w9 S9 hu9 hz9 hx9
  clear B3' hdm hBm
  have hx09:=hx04.trans hx9
  replace B11:=B11.ext hx9
  replace hlv:=hlv.ext hx9
  obtain ⟨u0,e0,C0,hd0,hB0,k0,l0⟩:=(hr0.ext hx09).at (j:=0) (by omega)
  replace hc0:=hx09.cell hc0
  obtain ⟨ρ,hρ⟩:∃ ρ,ρ=rtN (sqI f n B ys).natAbs:=⟨_,rfl⟩
  have hroot:IsRoot (sqI f n B ys).natAbs ρ:=by rw [hρ];exact rtN_root _
  have hzρ:sz (ρ:Int)≤4000:=by
   have:=sz_root hroot
   have e:((sqI f n B ys).natAbs:Int)=sqI f n B ys:=by omega
   rw [e] at this
   omega
  refine Nv ?_
  refine St.sub (E':=[(9,.slice (some aM) (ys.length+1) cM),(11,.pointer (some ⟨w3.heap.size,0,none⟩)),(12,.pointer (some ⟨w4.heap.size,0,none⟩))]) ?_ sbb
  refine St.flow 17 TBfol (by kernel_rfl) rfl (by kernel_rfl) rfl True.intro ?_
  refine .on (fun _ hR=>RunsTo.loadCan rfl (hR.blk B11 (by simp)) hlv) ?_
  refine .on (fun _ hR=>RunsTo.loadCan rfl (hR.blk B11 (by simp)) hlv) ?_
  refine FL.callE fn_r01_Mul rfl rfl rfl (fun w10 hx10=>CallF.mk rfl (rmul_dn (base:=0) ((hlv.ext hx10).dn (by omega)) ((hlv.ext hx10).dn (by omega)) (Nat.zero_le _))) (MonoR.canO 0 _) ?_
  refine FL.run TBok 99 rfl ?_
  refine .on (fun _ _=>RunsTo.ia) ?_
  refine .on (fun _ hR=>RunsTo.load TBok rfl rfl rfl (hR.ext_nil.cell hc0)) ?_
  refine .on (fun _ _=>RunsTo.indexI (j:=0) rfl rfl rfl (by omega)) ?_
  refine .on (fun _ hR=>RunsTo.loadIt (j:=0) rfl (hR.blk hB0 (by simp)) k0 l0 hd0.r2) ?_
  refine .on (fun _ hR=>RunsTo.loadCan rfl (hR.blk S9 (by simp)) hz9) ?_
  refine FL.callE fn_r01_Mul rfl rfl rfl (fun w10 hx10=>CallF.mk rfl (rmul_dn (base:=0) (hd0.ext hx10) ((hz9.ext hx10).dn (by omega)) (Nat.zero_le _))) (MonoR.canO 0 _) ?_
  refine FL.callE fn_r01_Sub rfl rfl rfl (fun w10 hx10 t1 h1 t2 h2=>CallF.mk rfl (rsub_dn (base:=0) (h1.dn (by omega)) (h2.dn (by omega)) (Nat.zero_le _))) (MonoR.canO 0 _) ?_
  refine FL.callE fn_r01_Sqrt (ψ:=fun v w'=>∃ r,v=.tuple #[r,.bool true]∧CanO 0 w' r (ρ:Int)) rfl rfl rfl (fun w10 hx10 t1 h1=>?_) (fun _ _ _ hR ⟨r,h1,h2⟩=>⟨r,h1,h2.rg hR⟩) ?_
  ·rw [hsq] at h1
   refine CallF.mk rfl ((rsqrt_dn (h1.dn (by omega)) (by omega)).mono ?_)
   rintro _ w11 ⟨x,rfl,hx11,hs1,hs2⟩
   obtain ⟨r,y,rfl,hy,hc⟩:=hs2 h0
   have e:y=ρ:=hy.unique hroot
   subst e
   exact ⟨_,rfl,hx11,r,rfl,hc⟩
  refine FL.fact (L:=[]) (ψ:=fun v w'=>∃ r,v=.tuple #[r,.bool true]∧CanO 0 w' r (ρ:Int)) rfl rfl rfl rfl rfl (fun w7 hR t1 h1=>(RunsTo.pure TBok rfl).op.mono (by rintro _ _ ⟨rfl,rfl⟩;exact ⟨Ext.refl _,h1⟩)) (fun _ _ _ hR ⟨r,h1,h2⟩=>⟨r,h1,h2.rg hR⟩) ?_
  refine FL.fact (L:=[]) (ψ:=fun v w'=>CanO 0 w' v (ρ:Int)) rfl rfl rfl rfl rfl (fun w7 hR t1 h1=>?_) (MonoR.canO 0 _) ?_
  ·obtain ⟨r,rfl,hr⟩:=h1
   exact (RunsTo.pure TBok rfl).op.mono (by rintro _ _ ⟨rfl,rfl⟩;exact ⟨Ext.refl _,hr⟩)
  refine FL.fact (L:=[]) (ψ:=Is (.bool true)) rfl rfl rfl rfl rfl (fun w7 hR t1 h1=>?_) (MonoR.is _ _) ?_
  ·obtain ⟨r,rfl,hr⟩:=h1
   exact (RunsTo.pure TBok rfl).op.mono (by rintro _ _ ⟨rfl,rfl⟩;exact ⟨Ext.refl _,rfl⟩)
  refine FL.alloc TBok rfl rfl rfl rfl ?_
  refine FL.storeN (L:=[]) (base:=w9.heap.size) TBok rfl rfl rfl rfl rfl (MonoR.canO 0 (ρ:Int)) ?_ ?_
  ·intro w7 hR v11 h11 v24 h24
   exact ⟨⟨v11,rfl,h11⟩,v24,rfl,h24.two.1,h24.two.2,h24⟩
  refine FL.endE rfl ?_
  rintro w10 hx10 _ ⟨b14,C14,rfl,hg14,_,_⟩ _ rfl _ _ _ _ _ _ _ _ _ _ _ _ ⟨⟨b14',u14,hbu,B14,hu14⟩,_⟩ hdist
  cases hbu
  clear hdist
  replace B11:=B11.ext hx10
  replace hlv:=hlv.ext hx10
  replace hB0:=hB0.ext hx10
  replace hd0:=hd0.ext hx10
  replace hc0:=hx10.cell hc0
  have hx010:=hx09.trans hx10
  have hd1:=ddI_pos hR.pos (show n - ys.length≤n by omega)
  have e00:stI f s 0 0=ddI f (n - ys.length):=by rw [stI_diag,show s+1=n - ys.length by omega]
  have hz5:=sz_sub (ρ:Int) (liI f n ys)
  have hz6:=sz_add (ρ:Int) (liI f n ys)
  have zq1:=sz_div ((ρ:Int) - liI f n ys) (stI f s 0 0)
  have zq2:=sz_div ((ρ:Int)+liI f n ys) (stI f s 0 0)
  have zq3:=sz_neg (((ρ:Int)+liI f n ys) / stI f s 0 0)
  obtain ⟨bb1,e1⟩:=int64V_lo (((ρ:Int) - liI f n ys) / stI f s 0 0)
  obtain ⟨bb2,e2⟩:=int64V_lo (-(((ρ:Int)+liI f n ys) / stI f s 0 0))
  refine .r rfl ?_
  refine Nv ?_
  refine St.sub (E':=[(9,.slice (some aM) (ys.length+1) cM),(11,.pointer (some ⟨w3.heap.size,0,none⟩)),(14,.pointer (some ⟨b14,0,none⟩))]) ?_ sbb
  refine St.flow 14 TBfol (by kernel_rfl) rfl (by kernel_rfl) rfl True.intro ?_
  refine .on (fun _ hR=>RunsTo.loadCan rfl (hR.blk B14 (by simp)) hu14) ?_
  refine .on (fun _ hR=>RunsTo.loadCan rfl (hR.blk B11 (by simp)) hlv) ?_
  refine FL.callE fn_r01_Sub rfl rfl rfl (fun w11 hx11=>CallF.mk rfl (rsub_dn (base:=0) ((hu14.ext hx11).dn (by omega)) ((hlv.ext hx11).dn (by omega)) (Nat.zero_le _))) (MonoR.canO 0 _) ?_
  refine FL.run TBok 99 rfl ?_
  refine .on (fun _ _=>RunsTo.ia) ?_
  refine .on (fun _ hR=>RunsTo.load TBok rfl rfl rfl (hR.ext_nil.cell hc0)) ?_
  refine .on (fun _ _=>RunsTo.indexI (j:=0) rfl rfl rfl (by omega)) ?_
  refine .on (fun _ hR=>RunsTo.loadIt (j:=0) rfl (hR.blk hB0 (by simp)) k0 l0 hd0.r2) ?_
  refine FL.callE fn_r01_Quo rfl rfl rfl (fun w11 hx11 t1 h1=>CallF.mk rfl (rquo_dn (h1.dn (by omega)) (hd0.ext hx11) (by omega) ⟨by omega,by omega⟩)) (MonoR.canO 0 _) ?_
  refine FL.callXE fn_r01_Int64 (c:=.tuple #[.int .i64 (lo64 (((ρ:Int) - liI f n ys) / stI f s 0 0)),.bool bb1]) rfl rfl rfl (fun w11 hx11 t1 h1=>CallF.mk rfl (by rw [← e1];exact rint64_dn (h1.dn (by omega)))) ?_
  refine FL.run TBok 99 rfl ?_
  refine FL.endE rfl ?_
  rintro w11 hx11 _ _ _ _ _ _
  replace B11:=B11.ext hx11
  replace hlv:=hlv.ext hx11
  replace hB0:=hB0.ext hx11
  replace hd0:=hd0.ext hx11
  replace hc0:=hx11.cell hc0
  replace B14:=B14.ext hx11
  replace hu14:=hu14.ext hx11
  replace hx010:=hx010.trans hx11
  refine .r rfl ?_
  refine Nv ?_
  refine St.sub (E':=[(9,.slice (some aM) (ys.length+1) cM),(11,.pointer (some ⟨w3.heap.size,0,none⟩)),(14,.pointer (some ⟨b14,0,none⟩)),(16,.int .i64 (lo64 (((ρ:Int) - liI f n ys) / stI f s 0 0)))]) ?_ sbb
  refine St.flow 15 TBfol (by kernel_rfl) rfl (by kernel_rfl) rfl True.intro ?_
  refine .on (fun _ hR=>RunsTo.loadCan rfl (hR.blk B14 (by simp)) hu14) ?_
  refine .on (fun _ hR=>RunsTo.loadCan rfl (hR.blk B11 (by simp)) hlv) ?_
  refine FL.callE fn_r01_Add rfl rfl rfl (fun w12 hx12=>CallF.mk rfl (radd_dn (base:=0) ((hu14.ext hx12).dn (by omega)) ((hlv.ext hx12).dn (by omega)) (Nat.zero_le _))) (MonoR.canO 0 _) ?_
  refine FL.run TBok 99 rfl ?_
  refine .on (fun _ _=>RunsTo.ia) ?_
  refine .on (fun _ hR=>RunsTo.load TBok rfl rfl rfl (hR.ext_nil.cell hc0)) ?_
  refine .on (fun _ _=>RunsTo.indexI (j:=0) rfl rfl rfl (by omega)) ?_
  refine .on (fun _ hR=>RunsTo.loadIt (j:=0) rfl (hR.blk hB0 (by simp)) k0 l0 hd0.r2) ?_
  refine FL.callE fn_r01_Quo rfl rfl rfl (fun w12 hx12 t1 h1=>CallF.mk rfl (rquo_dn (h1.dn (by omega)) (hd0.ext hx12) (by omega) ⟨by omega,by omega⟩)) (MonoR.canO 0 _) ?_
  refine FL.callE fn_r01_Neg rfl rfl rfl (fun w12 hx12 t1 h1=>CallF.mk rfl (rneg_dn (base:=0) (h1.dn (by omega)) (Nat.zero_le _))) (MonoR.canO 0 _) ?_
  refine FL.callXE fn_r01_Int64 (c:=.tuple #[.int .i64 (lo64 (-(((ρ:Int)+liI f n ys) / stI f s 0 0))),.bool bb2]) rfl rfl rfl (fun w12 hx12 t1 h1=>CallF.mk rfl (by rw [← e2];exact rint64_dn (h1.dn (by omega)))) ?_
  refine FL.run TBok 99 rfl ?_
  refine FL.endE rfl ?_
  rintro w12 hx12 _ _ _ _ _ _ _ _
  (iterate 6 refine Nv ?_;try refine .r rfl ?_)
  refine Out.rets TBok [_,_] rfl ⟨rfl,rfl,trivial⟩ ⟨hx010.trans hx12,?_⟩
  unfold loI hiI ivLo ivHi
  rw [← hρ,e00,Int.add_comm (liI f n ys) (ρ:Int)]
  rfl
def M64b (M:List (List Int)):Prop:=∀ row ∈ M,∀ x ∈ row,-9223372036854775808≤x∧x≤9223372036854775807
theorem Red.mk {M:List (List Int)} (h:Red M):M=mk M.length M.length (ent M):=sq_mk h.small.2.1
theorem rz_pn {n:Nat} {f:Nat→Nat→Int} {ys:List Int} (hR:RedF n f) (hn:n≤8) (hl:ys.length≤n) (hT:TailOk ys):rz (pnQ f n ys)≤3000:=by
 have hszs:=hR.szs hn
 have hszd:=hR.szd hn (n - ys.length) (by omega)
 have hsc:=sz_scI (f:=f) hl hn hszs hT
 unfold pnQ
 have:=rz_divInt (scI f n ys) (ddI f (n - ys.length))
 omega
theorem cmp_gt {p q:Rat}:cmpR p q > 0↔q<p:=by
 unfold cmpR
 by_cases h1:p<q
 ·rw [if_pos h1]
  constructor
  ·intro h;omega
  ·intro h;exact absurd (Rat.le_of_lt h) (Rat.not_le.2 h1)
 ·rw [if_neg h1]
  by_cases h2:q<p
  ·rw [if_pos h2];exact ⟨fun _=>h2,fun _=>by decide⟩
  ·rw [if_neg h2];exact ⟨fun h=>absurd h (by decide),fun h=>absurd h h2⟩
set_option maxHeartbeats 3200000 in
theorem rInterval_spec {w:World} {hv xv:Value} {M:List (List Int)} {ys:List Int} {B:Int} (h:M64 w hv M) (h64:M64b M) (hl:M.length≤1000000) (k:L64 w xv ys) (hly:ys.length≤1000000) :
  Calls Tryz.prog 20 #[hv,.int .i64 B,xv] w (Ret fun x w'=>Ext w w'∧IVV x M B ys):=by
 obtain ⟨ph,ch,e⟩:=h.len
 subst e
 obtain ⟨px,cx,e⟩:=k.len
 subst e
 refine calls_of_St (args:=[_,_,_]) Tryz.func20 rfl Tryz.ntmps20 rfl ?_
 (iterate 6 refine Nv ?_;try refine .r rfl ?_)
 refine .s (OpR.call fn_r08_IsReduced rfl (risReduced_spec h h64)) ?_
 rintro _ w2 ⟨hx02,b,rfl,hb⟩
 by_cases hR:b=true
 ·subst hR
  have hRed:=hb.1 rfl
  by_cases h1:ys.length≥M.length
  ·refine .a 7 (.bool true) rfl (bool_true (by omega)) ?_
   (iterate 6 refine Nv ?_;try refine .r rfl ?_)
   refine .cT ?_
   (iterate 6 refine Nv ?_;try refine .r rfl ?_)
   exact Out.rets TBok [_,_,_] rfl ⟨rfl,rfl,rfl,trivial⟩ ⟨hx02,fun _=>rfl,fun hp=>absurd hp.2.1 (by omega)⟩
  refine .a 7 (.bool false) rfl (bool_false (by omega)) ?_
  refine .r rfl ?_
  refine .s (OpR.call fn_r09_Fits rfl (fits_spec (k.ext hx02) hly hly)) ?_
  rintro _ w3 ⟨hx3,b,rfl,hbt⟩
  have hx03:=hx02.trans hx3
  cases b
  ·(iterate 6 refine Nv ?_;try refine .r rfl ?_)
   refine .cT ?_
   (iterate 6 refine Nv ?_;try refine .r rfl ?_)
   exact Out.rets TBok [_,_,_] rfl ⟨rfl,rfl,rfl,trivial⟩ ⟨hx03,fun _=>rfl,fun hp=>absurd (hbt.2 ⟨rfl,hp.2.2.1⟩) (by simp)⟩
  have hT:=(hbt.1 rfl).2
  by_cases hB0:B<0
  ·refine .a 5 (.bool true) rfl (bool_true hB0) ?_
   (iterate 6 refine Nv ?_;try refine .r rfl ?_)
   refine .cT ?_
   (iterate 6 refine Nv ?_;try refine .r rfl ?_)
   exact Out.rets TBok [_,_,_] rfl ⟨rfl,rfl,rfl,trivial⟩ ⟨hx03,fun _=>rfl,fun hp=>absurd hp.2.2.2.1 (by omega)⟩
  refine .a 5 (.bool false) rfl (bool_false hB0) ?_
  by_cases hB1:B > 4611686018427387904
  ·refine .a 4 (.bool true) rfl (bool_true hB1) ?_
   (iterate 6 refine Nv ?_;try refine .r rfl ?_)
   refine .cT ?_
   (iterate 6 refine Nv ?_;try refine .r rfl ?_)
   exact Out.rets TBok [_,_,_] rfl ⟨rfl,rfl,rfl,trivial⟩ ⟨hx03,fun _=>rfl,fun hp=>absurd hp.2.2.2.2 (by omega)⟩
  refine .a 4 (.bool false) rfl (bool_false hB1) ?_
  have hIV:IVok M B ys:=⟨hRed,by omega,hT,by omega,by omega⟩
  have hRF:=hRed.redF.1
  have hn:1≤M.length∧M.length≤8:=⟨hRed.1.1,hRed.2.2.1⟩
  have hmk:=hRed.mk
  have hM:M64 w3 (.slice ph M.length ch) (mk M.length M.length (ent M)):=by rw [← hmk];exact h.ext hx03
  unfold IVV
  generalize ent M=f at *
  have hrz:=rz_pn hRF hn.2 (show ys.length≤M.length by omega) hT
  have hpn:=pn_gt hRF (show ys.length<M.length by omega) B
  have hrB:rz (B:Rat)≤40000:=by
   have h1:=rz_int B
   have h2:sz B≤2:=sz_small (by omega) (by omega)
   omega
  (iterate 6 refine Nv ?_;try refine .r rfl ?_)
  refine .cF ?_
  (iterate 6 refine Nv ?_;try refine .r rfl ?_)
  refine .s (OpR.call fn_r10_Of rfl (frameOf_spec hM hn hRF)) ?_
  rintro fr w4 ⟨hx4,hFr⟩
  obtain ⟨aS,cs,bm,om,cm,efr,_,_⟩:=hFr.open hn.1
  subst efr
  refine .s (OpR.alloc TBok rfl) ?_
  rintro _ w5 ⟨rfl,B9,hx5,hz5⟩
  refine StL.step0 rfl rfl (OpR.store TBok (vs:=[_,_,_]) rfl rfl rfl rfl rfl B9 (Nat.le_refl 3) (by simp [Value.oneCell'])) ?_
  rintro _ w6 ⟨B9',hu6⟩
  have hx46:Ext w4 w6:=hx5.then_upd hu6 (Nat.le_refl _)
  have hx06:=(hx03.trans hx4).trans hx46
  replace hFr:=hFr.ext hx46
  replace B9':Blk 47 w6 w4.heap.size [.int .i64 M.length,.slice (some aS) M.length cs,.slice (some ⟨bm,om,none⟩) (M.length+1) cm]:=B9'
  (iterate 6 refine Nv ?_;try refine .r rfl ?_)
  refine .p (RunsTo.loadAgg TBok rfl rfl rfl B9' (Nat.le_refl 3) rfl) ?_
  refine .r rfl ?_
  refine .s (OpR.call fn_r10_Frame_Partial rfl (framePartial_spec hFr (k.ext hx06) (by omega) hn hRF hT)) ?_
  rintro r w7 ⟨hx7,hr⟩
  refine .r rfl ?_
  refine .s (OpR.call fn_r02_Small rfl (rsmallR_spec w7 B (by omega) (by omega))) ?_
  rintro z w8 ⟨hx8,hz⟩
  refine .s (OpR.call fn_r02_Cmp rfl (rcmpR_spec ((hr.ext hx8).dnS (by omega)) (hz.dnS (by omega)) (by omega) (by omega))) ?_
  rintro _ w9 ⟨hx9,rfl⟩
  have hx69:=(hx7.trans hx8).trans hx9
  have hx09:=hx06.trans hx69
  by_cases hgt:sqI f M.length B ys<0
  ·refine .a 1 (.bool true) rfl (bool_true (cmp_gt.2 (hpn.2 hgt))) ?_
   (iterate 6 refine Nv ?_;try refine .r rfl ?_)
   refine .cT ?_
   (iterate 6 refine Nv ?_;try refine .r rfl ?_)
   exact Out.rets TBok [_,_,_] rfl ⟨rfl,rfl,rfl,trivial⟩ ⟨hx09,fun _=>rfl,fun _ hp=>absurd hp (by omega)⟩
  ·refine .a 1 (.bool false) rfl (bool_false (fun hc=>hgt (hpn.1 (cmp_gt.1 hc)))) ?_
   (iterate 6 refine Nv ?_;try refine .r rfl ?_)
   refine .cF ?_
   (iterate 6 refine Nv ?_;try refine .r rfl ?_)
   refine .p (RunsTo.loadAgg TBok rfl rfl rfl (B9'.ext hx69) (Nat.le_refl 3) rfl) ?_
   refine .r rfl ?_
   refine .s (OpR.call fn_r10_Frame_Interval rfl (frameInterval_spec (hFr.ext hx69) (k.ext hx09) (by omega) hn hRF hT.t64 (by omega) (by omega))) ?_
   rintro _ w10 ⟨hx10,rfl⟩
   (iterate 6 refine Nv ?_;try refine .r rfl ?_)
   exact Out.rets TBok [_,_,_] rfl ⟨rfl,rfl,rfl,trivial⟩ ⟨hx09.trans hx10,fun hp=>hp.elim (fun hp=>absurd hIV hp) (fun hp=>absurd hp hgt),fun _ _=>⟨_,rtN_root _,rfl⟩⟩
 ·have hbf:b=false:=by simpa using hR
  subst hbf
  (iterate 6 refine Nv ?_;try refine .r rfl ?_)
  refine .cT ?_
  (iterate 6 refine Nv ?_;try refine .r rfl ?_)
  exact Out.rets TBok [_,_,_] rfl ⟨rfl,rfl,rfl,trivial⟩ ⟨hx02,fun _=>rfl,fun hp=>absurd (hb.2 hp.1) (by simp)⟩
theorem RunsTo.strIs10 {P:Program} {n:Nat} {E:List (Nat×Value)} {w:World} {d:Option Tmp} {x y:Operand} {t2 ty:TypeId} {pos:String} {af:Array Edge} {g:Option (Nat×Bool)} {xs bs:List Nat} (h1:B8 xs) (h2:B8 bs) (hx:ov E x=some (strV xs)) (hy:ov E y=some (strV bs)) (e:xs=bs) :
  RunsTo P n ⟨d,.binOp .eql 9 x y t2,ty,pos,af,g⟩ E w (.bool true):=by
 have:=RunsTo.strEql (P:=P) (n:=n) (w:=w) (d:=d) (t:=9) (t2:=t2) (ty:=ty) (pos:=pos) (af:=af) (g:=g) h1 h2 hx hy
 rwa [decide_eq_true e] at this
theorem OpR.pairV {P:Program} {T:List (Nat×TI)} {n:Nat} {E:List (Nat×Value)} {w:World} (hT:TblOk P T) {d:Option Tmp} {t:TypeId} {x y:Operand} {ty:TypeId} {pos:String} {af:Array Edge} {g:Option (Nat×Bool)} {et:TypeId} {s1 s2:Nat} {z:Value} {ti:TI} {p1 p2:Option Addr} {l1 l2 c1 c2:Nat}
  (ht:lookT T t=some ⟨.slice et,s1,s2,z⟩) (hte:lookT T et=some ti) (hsz:ti.size=1) (hx:ov E x=some (.slice p1 l1 c1)) (hy:ov E y=some (.slice p2 l2 c2)) :
  OpR P n ⟨d,.buildSlice t 2 #[(0,x),(1,y)],ty,pos,af,g⟩ E w (fun r w'=>r=.slice (some ⟨w.heap.size,0,none⟩) 2 2∧Blk et w' w.heap.size [.slice p1 l1 c1,.slice p2 l2 c2]∧Ext w w'∧w'.heap.size=w.heap.size+1):=by
 intro a ha Q K hK
 obtain ⟨_,inf,hi,hsize,hby,hzero⟩:=hT et ti hte
 have e1:=ha.eval hx
 have e2:=ha.eval hy
 have hrun:(execOp a.eval ⟨d,.buildSlice t 2 #[(0,x),(1,y)],ty,pos,af,g⟩).run P w=.ok (.value (.slice (some ⟨w.heap.size,0,none⟩) 2 2)) (w.alloc (.cells #[.slice p1 l1 c1,.slice p2 l2 c2] et (0,0))):=by
  generalize a.eval=ρ at e1 e2
  simp [execOp,Instr.buildSlice,e1,e2,run_underlying_T hT ht,run_sizeOf_T hT hte,hsz,zeroValue,run_typeInfo hi,hzero,Instr.fill,newRow,go_sem]
 unfold Oper.wp
 rw [hrun,Oper.upon_value]
 exact hK _ _ ⟨rfl,blk_alloc _ _ _,ext_alloc _ _,size_alloc1 _ _⟩
theorem l64_blk {e:TypeId} {w:World} {b:Nat} {xs:List Int} (h:Blk e w b (xs.map i64)):L64 w (.slice (some ⟨b,0,none⟩) xs.length xs.length) xs:=by
 refine ⟨some ⟨b,0,none⟩,xs.length,by rw [List.length_map],by rw [List.length_map];exact Nat.le_refl _,fun e=>(by cases e),?_⟩
 rintro a ha i c hi
 cases ha
 rw [addr_add,Nat.zero_add]
 exact h.cell hi
theorem ex_m64 {w:World} {b b0 b1:Nat} {e0 e1 e:TypeId} (h0:Blk e0 w b0 [.int .i64 2,.int .i64 1]) (h1:Blk e1 w b1 [.int .i64 1,.int .i64 2]) (h:Blk e w b [.slice (some ⟨b0,0,none⟩) 2 2,.slice (some ⟨b1,0,none⟩) 2 2]):M64 w (.slice (some ⟨b,0,none⟩) 2 2) exM:=by
 refine ⟨[.slice (some ⟨b0,0,none⟩) 2 2,.slice (some ⟨b1,0,none⟩) 2 2],⟨some ⟨b,0,none⟩,2,rfl,Nat.le_refl _,fun e=>(by cases e),?_⟩,rfl,?_⟩
 ·rintro a ha i c hi
  cases ha
  rw [addr_add,Nat.zero_add]
  exact h.cell hi
 ·intro i r row hr hrow
  match i with
  | 0=>simp [exM] at hr hrow;subst hr hrow;exact l64_blk (xs:=[2,1]) h0
  | 1=>simp [exM] at hr hrow;subst hr hrow;exact l64_blk (xs:=[1,2]) h1
  | i+2=>simp at hr
theorem ex_ent:ent exM=exF:=rfl
theorem ex_len:exM.length=2:=rfl
theorem ex_tail:TailOk [1]:=fun y hy=>by rw [List.mem_singleton.1 hy];omega
theorem ex_root:IsRoot (sqI exF 2 2 [1]).natAbs (rtN (sqI exF 2 2 [1]).natAbs):=rtN_root _
theorem ex_rz:rz (Rat.divInt 3 2)≤100:=by decide +kernel
set_option maxHeartbeats 3200000 in
theorem awake10_spec (w:World):Calls Tryz.prog 18 #[] w (Ret fun r w'=>Ext w w'∧r=.bool true):=by
 refine calls_of_St (args:=[]) Tryz.func18 rfl Tryz.ntmps18 rfl ?_
 (iterate 6 refine Nv ?_;try refine .r rfl ?_)
 refine .s (OpR.pair TBok rfl rfl rfl rfl rfl) ?_
 rintro _ w1 ⟨rfl,B1,hx1,_⟩
 refine .s (OpR.pair TBok rfl rfl rfl rfl rfl) ?_
 rintro _ w2 ⟨rfl,B2,hx2,_⟩
 refine .s (OpR.pairV TBok rfl rfl rfl rfl rfl) ?_
 rintro _ w3 ⟨rfl,B3,hx3,_⟩
 have hM:=ex_m64 ((B1.ext hx2).ext hx3) (B2.ext hx3) B3
 have hx03:=(hx1.trans hx2).trans hx3
 (iterate 6 refine Nv ?_;try refine .r rfl ?_)
 refine .s (OpR.single TBok rfl rfl rfl rfl) ?_
 rintro _ w4 ⟨rfl,B4,hx4,_⟩
 have hL4:=l64_blk (xs:=[1]) B4
 refine .s (OpR.call fn_schur_PartialNorm rfl (partialNorm_spec (hM.ext hx4) (by decide) hL4 (by decide))) ?_
 rintro _ w5 ⟨hx5,hp,_⟩
 obtain ⟨r,rfl,hr⟩:=hp ⟨ex_Red,by decide,by decide,ex_tail⟩
 replace hr:CanR 0 w5 r (Rat.divInt 3 2):=by rw [← ex_pn];exact hr
 refine .r rfl ?_
 refine StL.newR rfl rfl (fun _=>rfl) hr.1 ?_
 intro b2 w6 hl2 hx6 BR
 replace hr:=hr.ext hx6
 have hx36:=(hx4.trans hx5).trans hx6
 replace hM:=hM.ext hx36
 have hx06:=hx03.trans hx36
 (iterate 6 refine Nv ?_;try refine .r rfl ?_)
 refine .s (OpR.single TBok rfl rfl rfl rfl) ?_
 rintro _ w7 ⟨rfl,B7,hx7,_⟩
 have hL7:=l64_blk (xs:=[1]) B7
 refine .s (OpR.call fn_schur_Interval rfl (interval_spec (hM.ext hx7) (by decide) hL7 (by decide))) ?_
 rintro _ w8 ⟨hx8,_,hi⟩
 obtain ⟨ρ,hρ,rfl⟩:=hi ⟨ex_Red,by decide,ex_tail,by decide,by decide⟩ (by rw [ex_ent,ex_len,ex_sq2];decide)
 have e1:lo64 (ivLo (ent exM) exM.length ρ [1])=-1:=by
  have h1:=ex_lo.1
  unfold loI at h1
  rw [ex_ent,ex_len,hρ.unique ex_root,h1]
  rfl
 have e2:lo64 (ivHi (ent exM) exM.length ρ [1])=0:=by
  have h1:=ex_lo.2
  unfold hiI at h1
  rw [ex_ent,ex_len,hρ.unique ex_root,h1]
  rfl
 rw [e1,e2]
 have hx68:=hx7.trans hx8
 replace hM:=hM.ext hx68
 replace hr:=hr.ext hx68
 replace BR:=BR.ext hx68
 have hx08:=hx06.trans hx68
 (iterate 6 refine Nv ?_;try refine .r rfl ?_)
 refine .s (OpR.call fn_schur_Steps rfl (schurSteps_spec hM (by decide))) ?_
 rintro _ w9 ⟨hx9,_,_,_,hst⟩
 obtain ⟨sv,rfl,hsv⟩:=hst ex_Red ⟨by decide,by decide,by decide,by decide⟩ _ ex_steps
 replace hsv:L64 w9 sv [3,7]:=hsv
 obtain ⟨a0,c0,e0,hc0⟩:=hsv.cell (j:=0) (by decide)
 obtain ⟨a1,c1,e1',hc1⟩:=hsv.cell (j:=1) (by decide)
 rw [e0] at e1'
 simp only [Value.slice.injEq,Option.some.injEq] at e1'
 obtain ⟨rfl,_,_⟩:=e1'
 replace e0:sv=.slice (some a0) 2 c0:=e0
 subst e0
 replace hc0:w9.cell? (a0.add 0)=some (.int .i64 3):=hc0
 replace hc1:w9.cell? (a0.add 1)=some (.int .i64 7):=hc1
 have hx89:=hx9
 replace hM:=hM.ext hx9
 replace hr:=hr.ext hx9
 replace BR:=BR.ext hx9
 have hx09:=hx08.trans hx9
 (iterate 6 refine Nv ?_;try refine .r rfl ?_)
 refine .s (OpR.single TBok rfl rfl rfl rfl) ?_
 rintro _ w10 ⟨rfl,B10,hx10,_⟩
 have hL10:=l64_blk (xs:=[1]) B10
 refine .s (OpR.call fn_schur_Interval rfl (interval_spec (hM.ext hx10) (by decide) hL10 (by decide))) ?_
 rintro _ w11 ⟨hx11,hi,_⟩
 obtain rfl:=hi (.inr ex_sq1)
 have hx911:=hx10.trans hx11
 replace hr:=hr.ext hx911
 replace BR:=BR.ext hx911
 have hx011:=hx09.trans hx911
 replace hc0:=hx911.cell hc0
 replace hc1:=hx911.cell hc1
 have hrz:=ex_rz
 (iterate 6 refine Nv ?_;try refine .r rfl ?_)
 refine .p (RunsTo.loadR rfl rfl (BR) (hr.1)) ?_
 refine .s (OpR.call fn_r02_Format rfl (rformatR_spec (hr.dnS (by omega)))) ?_
 rintro _ w12 ⟨hx12,rfl⟩
 refine .p (RunsTo.strIs10 (bs:=[51,47,50]) (by rw [ex_fmt];exact b8_lit _ rfl) (b8_lit _ rfl) rfl rfl ex_fmt) ?_
 refine .r rfl ?_
 refine .p (RunsTo.ia) ?_
 refine .p (RunsTo.load TBok rfl rfl rfl (hx12.cell hc0)) ?_
 refine .r rfl ?_
 refine .p (RunsTo.ia) ?_
 refine .p (RunsTo.load TBok rfl rfl rfl (hx12.cell hc1)) ?_
 (iterate 6 refine Nv ?_;try refine .r rfl ?_)
 exact Out.ret1 rfl rfl ⟨hx011.trans hx12,rfl⟩
theorem StL.awk10 {n:Nat} {E:List (Nat×Value)} {w:World} {ops:Array Oper} {rest:List Oper} {Q:Exit→Act→World→Prop} {d:Nat} {ty:TypeId} {pos:String} {af:Array Edge} {g:Option (Nat×Bool)} (hw:wantE ops E g=some true) (hn:Nat.blt d n=true) (next:∀ w',Ext w w'→StL Tryz.prog n ((d,.bool true)::E) w' ops rest Q) :
  StL Tryz.prog n E w ops (⟨some d,.call ⟨.value (.func 18),#[],#[]⟩,ty,pos,af,g⟩::rest) Q:=by
 refine StL.step rfl hw hn (OpR.call fn_w10_awake rfl (awake10_spec w)) ?_
 rintro _ w' ⟨hx,rfl⟩
 exact next w' hx
theorem LatV.agg {w:World} {v:Value} (h:LatV w v):∃ a b c d,v=.agg #[a,b,c,d]:=by
 obtain ⟨d,kd,s1,s2,xs,rfl,_⟩:=h
 exact ⟨_,_,_,_,rfl⟩
theorem redF_m64b {n:Nat} {f:Nat→Nat→Int} (h:RedF n f) (h2:n≤8):M64b (mk n n f):=by
 intro row hrow x hx
 obtain ⟨i,hi⟩:=List.mem_iff_getElem?.1 hrow
 have hlt:=(List.getElem?_eq_some_iff.1 hi).1
 rw [mk_len] at hlt
 rw [mk_get hlt] at hi
 cases hi
 simp only [List.mem_map,List.mem_range] at hx
 obtain ⟨j,hj,rfl⟩:=hx
 have:=h.ent h2 hlt hj
 omega
theorem iv_same {x y:Value} {M:List (List Int)} {B:Int} {ys:List Int} (h:IVV x M B ys) (k:IVV y M B ys):∃ lo hi o,x=.tuple #[.int .i64 lo,.int .i64 hi,.bool o]∧y=.tuple #[.int .i64 lo,.int .i64 hi,.bool o]:=by
 by_cases hp:IVok M B ys
 ·rcases Int.lt_or_le (sqI (ent M) M.length B ys) 0 with h0 | h0
  ·exact ⟨_,_,_,h.1 (.inr h0),k.1 (.inr h0)⟩
  ·obtain ⟨r,hr,hx⟩:=h.2 hp h0
   obtain ⟨r',hr',hy⟩:=k.2 hp h0
   rw [hr'.unique hr] at hy
   exact ⟨_,_,_,hx,hy⟩
 ·exact ⟨_,_,_,h.1 (.inl hp),k.1 (.inl hp)⟩
theorem IVV.tuple {x:Value} {M:List (List Int)} {B:Int} {ys:List Int} (h:IVV x M B ys):∃ lo hi o,x=.tuple #[.int .i64 lo,.int .i64 hi,.bool o]:=by
 obtain ⟨lo,hi,o,hx,_⟩:=iv_same h h
 exact ⟨lo,hi,o,hx⟩
set_option maxHeartbeats 1600000 in
theorem lawInterval (w:World) (v:Value) (hV:LatV w v) (l:Value) (zs:List Int) (hL:L8 w l zs) (s:Nat) (hs:s<256) (bd:Nat) (hbd:bd<256) :
  Calls Tryz.prog 5 #[v,l,.int .u8 s,.int .u8 bd] w (Ret fun r w'=>Ext w w'∧r=.bool true):=by
 obtain ⟨a0,a1,a2,a3,rfl⟩:=hV.agg
 refine calls_of_St (args:=[_,_,_,_]) Tryz.func5 rfl Tryz.ntmps5 rfl ?_
 refine Nv ?_
 refine .s (OpR.box rfl) ?_
 rintro _ w1 ⟨rfl,B1,hx1,hz1⟩
 (iterate 6 refine Nv ?_;try refine .r rfl ?_)
 refine .p (RunsTo.loadAgg TBok (cs:=[a0,a1,a2,a3]) rfl rfl rfl B1 (Nat.le_refl 4) rfl) ?_
 refine .s (OpR.call fn_quadformmake_Lattice_Form rfl (form_spec (most:=5) (hV.ext hx1) (by omega))) ?_
 rintro G w2 ⟨hx2,n,f,hn1,hn2,hM,hR⟩
 have hlen:=hM.len
 rw [mk_len] at hlen
 obtain ⟨pg,cg,rfl⟩:=hlen
 have hx02:=hx1.trans hx2
 refine .r rfl ?_
 refine Nv ?_
 refine .a 4 (.int .i64 ((n+1:Nat):Int)) rfl (i64_succ (by omega)) ?_
 refine .r rfl ?_
 refine .s (OpR.call fn_w10_tail rfl (tail_spec (hL.ext hx02) (show n+1≤100 by omega) hs)) ?_
 rintro T w3 ⟨hx3,ys,hyl,hys,hLO⟩
 have hx03:=hx02.trans hx3
 have hy20:ys.length≤1000000:=by rw [hyl];have:=Nat.mod_lt s (show 0<n+1+1 by omega);omega
 have hMl:(mk n n f).length≤1000000:=by rw [mk_len];omega
 replace hM:=hM.ext hx3
 refine .r rfl ?_
 refine Nv ?_
 refine .a 2 (.int .i64 (bd:Int)) rfl (by rw [i64_id (by omega) (by omega)]) ?_
 refine .p (RunsTo.quoI bd 4 rfl rfl rfl rfl (by decide) (by omega)) ?_
 generalize ((bd / 4:Nat):Int)=B
 (iterate 6 refine Nv ?_;try refine .r rfl ?_)
 refine .s (OpR.call fn_schur_Interval rfl (interval_spec hM hMl hLO.l64 hy20)) ?_
 rintro x w4 ⟨hx4,hIx⟩
 obtain ⟨lo,hi,o,hxe⟩:=hIx.tuple
 subst hxe
 replace hM:=hM.ext hx4
 replace hLO:=hLO.ext hx4
 replace hx03:=hx03.trans hx4
 clear hx4
 (iterate 6 refine Nv ?_;try refine .r rfl ?_)
 refine .s (OpR.call fn_r10_Interval rfl (rInterval_spec hM (redF_m64b hR (by omega)) hMl hLO.l64 hy20)) ?_
 rintro y w5 ⟨hx5,hIy⟩
 obtain ⟨lo',hi',o',e1,hye⟩:=iv_same hIx hIy
 cases e1
 subst hye
 refine .r rfl ?_
 refine Nv ?_
 refine .r rfl ?_
 refine .p (RunsTo.boolEq TBok rfl rfl rfl) ?_
 rw [beq_self_eq_true]
 refine .a 4 (.bool true) rfl (by rw [beq_self_eq_true]) ?_
 refine .a 5 (.bool true) rfl (by rw [beq_self_eq_true]) ?_
 refine .r rfl ?_
 refine StL.awk10 rfl rfl ?_
 intro wz hxz
 (iterate 6 refine Nv ?_;try refine .r rfl ?_)
 exact Out.ret1 rfl rfl ⟨(hx03.trans hx5).trans hxz,rfl⟩
end Go.Qf
namespace Go.Qf
open Go Go.Proofs
theorem strip_cut (rest : List (List Char)) : stripLifts liftWords ("cut".toList :: rest) = ([], "cut".toList :: rest) := by kernel_rfl
theorem cutGc : ("cut".toList == "gc".toList) = false := by kernel_rfl
theorem cutSpec : ("cut".toList == "spec".toList) = false := by kernel_rfl
theorem cutCarried : ("cut".toList == "carried".toList) = false := by kernel_rfl
theorem cutCut : ("cut".toList == "cut".toList) = true := by kernel_rfl
section
variable {P : Program} {rest : List (List Char)} (h : behindMainWord (wordsSigns P.initOrder.toList) = "cut".toList :: rest)
include h
theorem make_of:P.make=some .cut:=by
 unfold Program.make
 rw [h]
 simp only [cutGc,cutSpec,cutCut,Bool.or_self,Bool.true_or,if_true,Bool.false_eq_true,if_false]
theorem heads_of:P.headLifts=[]:=by
 unfold Program.headLifts
 rw [h]
 simp only [strip_cut,ite_self]
theorem final_of:P.liftsFinal=false:=by
 unfold Program.liftsFinal
 rw [heads_of h]
 rw [h]
 simp only [List.head?_cons,Option.some_beq_some,cutCarried,Bool.false_and,List.contains_nil,Bool.or_false]
theorem enter_of (h1:P.laysLater=false) (h2:P.bearsReflect=false) (h3:P.doorFits []=true):P.mayEnter=true:=by
 unfold Program.mayEnter
 rw [h]
 simp only [strip_cut,h1,h2,h3,List.head?_cons,Option.some_beq_some,cutCut,Bool.not_false,Bool.or_true,Bool.and_true,List.contains_nil]
end
theorem words_of {P : Program} (h : (behindMainWord (wordsSigns P.initOrder.toList)).head? = some "cut".toList) : ∃ rest, behindMainWord (wordsSigns P.initOrder.toList) = "cut".toList :: rest := by
 generalize behindMainWord (wordsSigns P.initOrder.toList)=ws at h
 cases ws with
 | nil=>cases h
 | cons c r=>exact ⟨r,by simp only [List.head?_cons,Option.some.injEq] at h;rw [h]⟩
set_option maxRecDepth 100000 in
theorem wordsCut : (behindMainWord (wordsSigns Tryz.prog.initOrder.toList)).head? = some "cut".toList := by
 rw [show Tryz.prog.initOrder.toList=_ from String.toList_ofList]
 kernel_rfl
theorem laysNot:Tryz.prog.laysLater=false:=by kernel_rfl
theorem reflNot:Tryz.prog.bearsReflect=false:=by kernel_rfl
theorem doorOk:Tryz.prog.doorFits []=true:=by kernel_rfl
theorem enterOk:Tryz.prog.mayEnter=true:=by
 obtain ⟨rest,h⟩:=words_of wordsCut
 exact enter_of h laysNot reflNot doorOk
theorem finalNo:Tryz.prog.liftsFinal=false:=by
 obtain ⟨rest,h⟩:=words_of wordsCut
 exact final_of h
theorem makeCut:Tryz.prog.make=some .cut:=by
 obtain ⟨rest,h⟩:=words_of wordsCut
 exact make_of h
end Go.Qf
namespace Go.Qf
open Go Go.RowKit Go.Proofs
set_option maxRecDepth 20000
def shl (ys:List Int) (b i:Nat):List Int:=tab ys.length (fun j=>if j<i then yv ys j / 2 ^ b else 0)
theorem shl_zero (ys:List Int) (b:Nat):(shl ys b 0).map i64=List.replicate ys.length (.int .i64 0):=by
 apply List.ext_getElem
 ·simp [shl,tab]
 ·intro i h1 h2
  simp [shl,tab]
theorem shl_len (ys:List Int) (b i:Nat):(shl ys b i).length=ys.length:=by simp [shl,tab]
theorem shl_set {ys:List Int} {b i:Nat} (hi:i<ys.length):((shl ys b i).map i64).set i (.int .i64 (yv ys i / 2 ^ b))=(shl ys b (i+1)).map i64:=by
 have e:((shl ys b i).map i64).set i (.int .i64 (yv ys i / 2 ^ b))=((shl ys b i).set i (yv ys i / 2 ^ b)).map i64:=by rw [List.map_set]
 rw [e]
 unfold shl
 rw [tab_set hi]
 congr 1
 refine tab_congr fun j hj=>?_
 by_cases e1:j=i
 ·subst e1
  rw [if_pos rfl,if_pos (by omega)]
 ·rw [if_neg e1]
  by_cases e2:j<i
  ·rw [if_pos e2,if_pos (by omega)]
  ·rw [if_neg e2,if_neg (by omega)]
theorem OpR.quad {P:Program} {T:List (Nat×TI)} {n:Nat} {E:List (Nat×Value)} {w:World} (hT:TblOk P T) {d:Option Tmp} {t:TypeId} {x y x2 y2:Operand} {ty:TypeId} {pos:String} {af:Array Edge} {g:Option (Nat×Bool)} {et:TypeId} {s1 s2:Nat} {z:Value} {ti:TI} {k k' k2 k3:IntKind} {m m' m2 m3:Int}
  (ht:lookT T t=some ⟨.slice et,s1,s2,z⟩) (hte:lookT T et=some ti) (hsz:ti.size=1) (hx:ov E x=some (.int k m)) (hy:ov E y=some (.int k' m')) (hx2:ov E x2=some (.int k2 m2)) (hy2:ov E y2=some (.int k3 m3)) :
  OpR P n ⟨d,.buildSlice t 4 #[(0,x),(1,y),(2,x2),(3,y2)],ty,pos,af,g⟩ E w (fun u w'=>u=.slice (some ⟨w.heap.size,0,none⟩) 4 4∧Blk et w' w.heap.size [.int k m,.int k' m',.int k2 m2,.int k3 m3]∧Ext w w'∧w'.heap.size=w.heap.size+1):=by
 intro a ha Q K hK
 obtain ⟨_,inf,hi,hsize,hby,hzero⟩:=hT et ti hte
 have e1:=ha.eval hx
 have e2:=ha.eval hy
 have e3:=ha.eval hx2
 have e4:=ha.eval hy2
 have hrun:(execOp a.eval ⟨d,.buildSlice t 4 #[(0,x),(1,y),(2,x2),(3,y2)],ty,pos,af,g⟩).run P w=.ok (.value (.slice (some ⟨w.heap.size,0,none⟩) 4 4)) (w.alloc (.cells #[.int k m,.int k' m',.int k2 m2,.int k3 m3] et (0,0))):=by
  generalize a.eval=ρ at e1 e2 e3 e4
  simp [execOp,Instr.buildSlice,e1,e2,e3,e4,run_underlying_T hT ht,run_sizeOf_T hT hte,hsz,zeroValue,run_typeInfo hi,hzero,Instr.fill,newRow,go_sem]
 unfold Oper.wp
 rw [hrun,Oper.upon_value]
 exact hK _ _ ⟨rfl,blk_alloc _ _ _,ext_alloc _ _,size_alloc1 _ _⟩
set_option maxHeartbeats 3200000 in
theorem lawIntervalAny (w:World) (hv:Value) (M:List (List Int)) (hM:M64 w hv M) (hb:M64b M) (hMm:M.length≤maxLen) (B:Int) (hBB:-9223372036854775808≤B∧B≤9223372036854775807) (yv':Value) (ys:List Int) (hL:L64 w yv' ys) (hym:ys.length≤maxLen) (v:Value) (hV:LatV w v) (s:Nat) (hs:s<256) :
  Calls Tryz.prog 6 #[hv,.int .i64 B,yv',v,.int .u8 s] w (Ret fun r w'=>Ext w w'∧r=.bool true):=by
 obtain ⟨a0,a1,a2,a3,rfl⟩:=hV.agg
 obtain ⟨ph,ch,e⟩:=hM.len
 subst e
 obtain ⟨py,cy,e⟩:=hL.len
 subst e
 unfold maxLen at hMm hym
 refine calls_of_St (args:=[_,_,_,_,_]) Tryz.func6 rfl Tryz.ntmps6 rfl ?_
 refine Nv ?_
 refine .s (OpR.box rfl) ?_
 rintro _ w1 ⟨rfl,B1,hx1,hz1⟩
 refine .r rfl ?_
 refine Nv ?_
 by_cases h1:M.length > 20
 ·refine .a 3 (.bool true) rfl (bool_true (by omega)) ?_
  (iterate 6 refine Nv ?_;try refine .r rfl ?_)
  refine .cT ?_
  refine Nv ?_
  refine StL.awk10 rfl rfl ?_
  intro wz hxz
  (iterate 6 refine Nv ?_;try refine .r rfl ?_)
  exact Out.ret1 rfl rfl ⟨hx1.trans hxz,rfl⟩
 refine .a 3 (.bool false) rfl (bool_false (by omega)) ?_
 by_cases h2:ys.length > 20
 ·refine .a 4 (.bool true) rfl (bool_true (by omega)) ?_
  (iterate 6 refine Nv ?_;try refine .r rfl ?_)
  refine .cT ?_
  refine Nv ?_
  refine StL.awk10 rfl rfl ?_
  intro wz hxz
  (iterate 6 refine Nv ?_;try refine .r rfl ?_)
  exact Out.ret1 rfl rfl ⟨hx1.trans hxz,rfl⟩
 refine .a 4 (.bool false) rfl (bool_false (by omega)) ?_
 (iterate 6 refine Nv ?_;try refine .r rfl ?_)
 refine .cF ?_
 (iterate 6 refine Nv ?_;try refine .r rfl ?_)
 refine .p (RunsTo.loadAgg TBok (cs:=[a0,a1,a2,a3]) rfl rfl rfl B1 (Nat.le_refl 4) rfl) ?_
 refine .s (OpR.call fn_quadformmake_Lattice_Form rfl (form_spec (most:=4) (hV.ext hx1) (by omega))) ?_
 rintro G w2 ⟨hx2,n,f,hn1,hn2,hG,hR⟩
 have hlen:=hG.len
 rw [mk_len] at hlen
 obtain ⟨pg,cg,rfl⟩:=hlen
 have hx02:=hx1.trans hx2
 (iterate 6 refine Nv ?_;try refine .r rfl ?_)
 refine .s (OpR.make TBok ys.length rfl rfl rfl rfl rfl rfl rfl rfl (by show ys.length * 8≤_;omega) (by omega)) ?_
 rintro _ w3 ⟨rfl,B3,hx3,hz3⟩
 replace B3:Blk 2 w3 w2.heap.size ((shl ys (s % 64) 0).map i64):=by rw [shl_zero];exact B3
 (iterate 6 refine Nv ?_;try refine .r rfl ?_)
 refine St.rng TBok (38) (0) (ys.length) (by omega) [(0,.slice ph M.length ch),(1,.int .i64 B),(2,.slice py ys.length cy),(4,.int .u8 s),(11,.slice pg n cg),(12,.slice (some ⟨w2.heap.size,0,none⟩) ys.length ys.length),(37,.int .i64 ys.length)] (fun i w'=>Ext w2 w'∧Blk 2 w' w2.heap.size ((shl ys (s % 64) i).map i64)) sbb ?_ (fun _=>⟨rfl,rfl⟩) (fun _=>rfl) (fun _=>⟨rfl,rfl⟩) rfl rfl (by omega) ?_ ?_
 ·exact ⟨hx3,B3⟩
 ·clear B3
  rintro i w4 hi ⟨hx4,B4⟩
  obtain ⟨a,c,e,hc⟩:=(hL.ext (hx02.trans hx4)).cell hi
  cases e
  (iterate 6 refine Nv ?_;try refine .r rfl ?_)
  refine .p (RunsTo.ia) ?_
  refine .p (RunsTo.load TBok rfl rfl rfl hc) ?_
  refine .r rfl ?_
  refine .p (RunsTo.remN s 64 rfl rfl rfl rfl (by decide)) ?_
  refine .p (RunsTo.shr (s % 64) rfl rfl rfl (by show _≤64;omega)) ?_
  refine StL.put TBok i B4 rfl hi (by rw [List.length_map,shl_len];omega) rfl rfl rfl rfl rfl rfl rfl rfl (fun _=>rfl) (fun _=>rfl) rfl rfl ?_
  intro p5 w5 B5 hu5
  rw [Nat.zero_add] at B5
  have e5:=shl_set (b:=s % 64) hi
  unfold yv at e5
  rw [e5] at B5
  refine Nv ?_
  exact Out.rnd sbb ⟨hx4.then_upd hu5 (Nat.le_refl _),B5⟩
 ·clear B3
  rintro w4 ⟨hx4,B4⟩
  obtain ⟨zs,hzs⟩:∃ zs,zs=shl ys (s % 64) ys.length:=⟨_,rfl⟩
  have hzl:zs.length=ys.length:=by rw [hzs,shl_len]
  rw [← hzs] at B4
  have hZ:=l64_blk B4
  rw [hzl] at hZ
  have hx04:=hx02.trans hx4
  have hM4:=hM.ext hx04
  have hL4:=hL.ext hx04
  have hG4:=hG.ext hx4
  have hGl:(mk n n f).length≤1000000:=by rw [mk_len];omega
  (iterate 6 refine Nv ?_;try refine .r rfl ?_)
  refine .s (OpR.call fn_schur_Interval rfl (interval_spec hM4 (by omega) hL4 (by omega))) ?_
  rintro x w5 ⟨hx5,hIx⟩
  obtain ⟨lo,hi,o,hxe⟩:=hIx.tuple
  subst hxe
  replace hM4:=hM4.ext hx5
  replace hL4:=hL4.ext hx5
  replace hG4:=hG4.ext hx5
  replace hZ:=hZ.ext hx5
  replace hx04:=hx04.trans hx5
  clear hx5
  (iterate 6 refine Nv ?_;try refine .r rfl ?_)
  refine .s (OpR.call fn_r10_Interval rfl (rInterval_spec hM4 hb (by omega) hL4 (by omega))) ?_
  rintro y w6 ⟨hx6,hIy⟩
  obtain ⟨lo',hi',o',e1,hye⟩:=iv_same hIx hIy
  cases e1
  subst hye
  replace hG4:=hG4.ext hx6
  replace hZ:=hZ.ext hx6
  replace hx04:=hx04.trans hx6
  clear hx6
  refine .r rfl ?_
  refine Nv ?_
  refine .r rfl ?_
  refine .p (RunsTo.boolNe TBok rfl rfl rfl) ?_
  rw [show (!(o == o))=false from by simp]
  refine .a 4 (.bool false) rfl (by rw [bne_self_eq_false]) ?_
  refine .a 5 (.bool false) rfl (by rw [bne_self_eq_false]) ?_
  (iterate 6 refine Nv ?_;try refine .r rfl ?_)
  refine .cF ?_
  (iterate 6 refine Nv ?_;try refine .r rfl ?_)
  refine .s (OpR.quad TBok rfl rfl rfl rfl rfl rfl rfl) ?_
  rintro _ w7 ⟨rfl,B7,hx7,_⟩
  replace hG4:=hG4.ext hx7
  replace hZ:=hZ.ext hx7
  replace hx04:=hx04.trans hx7
  clear hx7
  have hcell:∀ i:Nat,i<4→w7.cell? (Addr.add ⟨w6.heap.size,0,none⟩ i)=some (.int .i64 ([B,4611686018427387904,4611686018427387905,-1].getD i 0)):=by
   intro i hi
   rw [addr_add,Nat.zero_add]
   match i,hi with
   | 0,_=>exact B7.cell rfl
   | 1,_=>exact B7.cell rfl
   | 2,_=>exact B7.cell rfl
   | 3,_=>exact B7.cell rfl
  (iterate 6 refine Nv ?_;try refine .r rfl ?_)
  refine St.rng TBok (84) (0) (4) (by omega) [(11,.slice pg n cg),(12,.slice (some ⟨w2.heap.size,0,none⟩) ys.length ys.length),(82,.slice (some ⟨w6.heap.size,0,none⟩) 4 4),(83,.int .i64 ((4:Nat):Int))] (fun i w'=>Ext w7 w') sbb ?_ (fun _=>⟨rfl,rfl⟩) (fun _=>rfl) (fun _=>⟨rfl,rfl⟩) rfl rfl (by omega) ?_ ?_
  ·exact Ext.refl _
  ·rintro i w8 hi hx8
   have hG8:=hG4.ext hx8
   have hZ8:=hZ.ext hx8
   refine Nv ?_
   refine .p (RunsTo.ia) ?_
   refine .p (RunsTo.load TBok rfl rfl rfl (hx8.cell (hcell i hi))) ?_
   (iterate 6 refine Nv ?_;try refine .r rfl ?_)
   refine .s (OpR.call fn_schur_Interval rfl (interval_spec hG8 hGl hZ8 (by omega))) ?_
   rintro x w9 ⟨hx9,hIx⟩
   obtain ⟨lo2,hi2,o2,hxe⟩:=hIx.tuple
   subst hxe
   replace hG8:=hG8.ext hx9
   replace hZ8:=hZ8.ext hx9
   replace hx8:=hx8.trans hx9
   clear hx9
   (iterate 6 refine Nv ?_;try refine .r rfl ?_)
   refine .s (OpR.call fn_r10_Interval rfl (rInterval_spec hG8 (redF_m64b hR (by omega)) hGl hZ8 (by omega))) ?_
   rintro y w10 ⟨hx10,hIy⟩
   obtain ⟨lo3,hi3,o3,e1,hye⟩:=iv_same hIx hIy
   cases e1
   subst hye
   replace hx8:=hx8.trans hx10
   clear hx10
   refine .r rfl ?_
   refine Nv ?_
   refine .r rfl ?_
   refine .p (RunsTo.boolNe TBok rfl rfl rfl) ?_
   rw [show (!(o2 == o2))=false from by simp]
   refine .a 4 (.bool false) rfl (by rw [bne_self_eq_false]) ?_
   refine .a 5 (.bool false) rfl (by rw [bne_self_eq_false]) ?_
   (iterate 6 refine Nv ?_;try refine .r rfl ?_)
   refine .cF ?_
   refine Nv ?_
   exact Out.rnd sbb hx8
  ·rintro w8 hx8
   refine Nv ?_
   refine StL.awk10 rfl rfl ?_
   intro wz hxz
   (iterate 6 refine Nv ?_;try refine .r rfl ?_)
   exact Out.ret1 rfl rfl ⟨(hx04.trans hx8).trans hxz,rfl⟩
end Go.Qf
