/- Lemmas on the model and on the program's functions, part Zih. -/
import GoSem.Core.View
import Derived.WalkKit
import Derived.Deep.Quiet
import Derived.Deep.LoopGhost
import Derived.KernelRfl
import Derived.Test.YtlhbkhjaajcfgaaGreatProg
import Derived.Laws.BytesString
import Derived.Laws.RangeString
import Derived.Lib.OthersKept
import Derived.Laws.Strings
import Derived.ProofKit
import Derived.OpenShut
import Derived.Lib.SmallJoins
import Derived.Carry
import Derived.ChangeMaps5
import Derived.Maps.AppendAt
import Derived.Laws.Externs
import Derived.Lib.Bytealg
import Derived.ChangeArms
import Derived.Laws.OwnMore
import Derived.Scope
import Derived.RangeFuncLeaves
import Derived.RangeFuncRecord
import Derived.TacticsIn
import Derived.OrdersIn
import Derived.Test.YtlhbkhjaajcfgaaGreatRows
import Derived.Test.YtlhbkhjaajcfgaaGreatZia
import Derived.Test.YtlhbkhjaajcfgaaGreatZib
import Derived.Test.YtlhbkhjaajcfgaaGreatZic
import Derived.Test.YtlhbkhjaajcfgaaGreatZid
import Derived.Test.YtlhbkhjaajcfgaaGreatZie
import Derived.Test.YtlhbkhjaajcfgaaGreatZif
import Derived.Test.YtlhbkhjaajcfgaaGreatZig
set_option linter.unusedVariables false
set_option linter.unusedSimpArgs false
namespace Go.Qf
open Go Go.RowKit Go.Proofs
set_option maxRecDepth 20000
theorem pn_le {n:Nat} {f:Nat→Nat→Int} {zs:List Int} (h:RedF n f) (B:Int):pnQ f n zs≤(B:Rat)↔0≤reI f n B zs:=by
 have hd:=ddI_pos h.pos (show n - zs.length≤n by omega)
 have e1:pnQ f n zs=(scI f n zs:Rat) / (ddI f (n - zs.length):Rat):=by
  unfold pnQ
  rw [Rat.divInt_eq_div]
 have hdq:(0:Rat)<(ddI f (n - zs.length):Rat):=by exact_mod_cast hd
 have e2:((scI f n zs:Rat)≤(B:Rat) * (ddI f (n - zs.length):Rat))↔scI f n zs≤B * ddI f (n - zs.length):=by
  rw [← Rat.intCast_mul]
  exact Rat.intCast_le_intCast
 have e3:(scI f n zs:Rat) / (ddI f (n - zs.length):Rat)≤(B:Rat)↔(scI f n zs:Rat)≤(B:Rat) * (ddI f (n - zs.length):Rat):=by
  rw [← Rat.not_lt,← Rat.not_lt,Rat.lt_div_iff hdq]
 rw [e1,e3,e2]
 unfold reI
 rw [Int.mul_comm]
 omega
theorem pn_lt {n:Nat} {f:Nat→Nat→Int} {ys:List Int} (h:RedF n f) (hl:ys.length<n) {x y:Int} (hlt:(ddI f (n - ys.length) * x+liI f n ys) * (ddI f (n - ys.length) * x+liI f n ys)<(ddI f (n - ys.length) * y+liI f n ys) * (ddI f (n - ys.length) * y+liI f n ys)):pnQ f n (x::ys)<pnQ f n (y::ys):=by
 have hd:=ddI_pos h.pos (show n - ys.length≤n by omega)
 have hd0:=ddI_pos h.pos (show n - ys.length - 1≤n by omega)
 have hx:=sc_step h hl x
 have hy:=sc_step h hl y
 have hsc:scI f n (x::ys)<scI f n (y::ys):=by
  rcases Int.lt_or_le (scI f n (x::ys)) (scI f n (y::ys)) with h1 | h1
  ·exact h1
  ·exfalso
   have:=Int.mul_le_mul_of_nonneg_left h1 (show 0≤ddI f (n - ys.length) by omega)
   omega
 unfold pnQ
 rw [Rat.divInt_eq_div,Rat.divInt_eq_div,List.length_cons,List.length_cons,show n - (ys.length+1)=n - ys.length - 1 by omega]
 have hdq:(0:Rat)<(ddI f (n - ys.length - 1):Rat):=by exact_mod_cast hd0
 have hq:(scI f n (x::ys):Rat)<(scI f n (y::ys):Rat):=by exact_mod_cast hsc
 rw [Rat.lt_div_iff hdq,Rat.div_mul_cancel (by grind)]
 exact hq
theorem sq_lt {u v:Int} (h:(0≤u∧u<v)∨(v<u∧u≤0)):u * u<v * v:=by
 rcases h with ⟨h1,h2⟩ | ⟨h1,h2⟩
 ·have a1:=Int.mul_le_mul_of_nonneg_left (show u≤v by omega) h1
  have a2:=Int.mul_lt_mul_of_pos_right h2 (show 0<v by omega)
  omega
 ·have a1:=Int.mul_le_mul_of_nonneg_left (show -u≤-v by omega) (show 0≤-u by omega)
  have a2:=Int.mul_lt_mul_of_pos_right (show -u < -v by omega) (show 0 < -v by omega)
  simp only [Int.neg_mul_neg] at a1 a2
  omega
theorem inside_plain {n:Nat} {f:Nat→Nat→Int} {ys:List Int} {B:Int} (h:RedF n f) (hn:n≤4) (hl:ys.length<n) (hys:Sm ys) (hB:0≤B∧B≤63) (h0:0≤sqI f n B ys) :
  (-300≤loI f n B ys∧loI f n B ys≤300)∧(-300≤hiI f n B ys∧hiI f n B ys≤300)∧loI f n B ys≤hiI f n B ys+1∧hiI f n B ys - loI f n B ys≤46 ∧
  (∀ c,loI f n B ys≤c→c≤hiI f n B ys→pnQ f n (c::ys)≤(B:Rat))∧(B:Rat)<pnQ f n ((loI f n B ys - 1)::ys)∧(B:Rat)<pnQ f n ((hiI f n B ys+1)::ys) ∧
  pnQ f n ((loI f n B ys - 1)::ys)<pnQ f n ((loI f n B ys - 2)::ys)∧pnQ f n ((hiI f n B ys+1)::ys)<pnQ f n ((hiI f n B ys+2)::ys):=by
 have hd:=ddI_pos h.pos (show n - ys.length≤n by omega)
 have hi:=fun x=>in_iff h hl h0 x
 have hle:loI f n B ys≤hiI f n B ys+1:=hi_lo h
 have hsh:=iv_short h hn hl h0 hB.1 (K:=23) (by omega) (by omega)
 have hli:=li_half h hl
 have haS:aS ys≤384:=by
  have key:∀ zs:List Int,Sm zs→aS zs≤128 * zs.length:=by
   intro zs
   induction zs with
   | nil=>intro _;exact Nat.le_refl _
   | cons x t ih =>
    intro hz
    have h1:=ih (fun y hy=>hz y (List.mem_cons_of_mem _ hy))
    have h2:=hz x (by simp)
    show x.natAbs+aS t≤128 * (t.length+1)
    omega
  have:=key ys hys
  omega
 have hout:∀ x,x<loI f n B ys∨hiI f n B ys<x→(B:Rat)<pnQ f n (x::ys):=fun x hx=>by
  refine Rat.not_le.1 fun hp=>?_
  rw [pn_le h] at hp
  have:=(hi x).2 hp
  omega
 have hr:=rtN_root (sqI f n B ys).natAbs
 have hiv:=fun x=>iv_iff (ys:=ys) h (r:=rtN (sqI f n B ys).natAbs) x
 have hda:=Int.mul_le_mul_of_nonneg_left (show (aS ys:Int)≤384 by omega) (show 0≤ddI f (n - ys.length) by omega)
 have hrr:(rtN (sqI f n B ys).natAbs:Int)≤23 * ddI f (n - ys.length):=by
  have hs:=sc_pos h ys (by omega)
  have h8:=dd8 h hn (show n - ys.length - 1<n by omega)
  have hd0:=ddI_pos h.pos (show n - ys.length - 1≤n by omega)
  rw [show n - ys.length - 1+1=n - ys.length by omega] at h8
  have hsq:sqI f n B ys≤(23 * ddI f (n - ys.length)) * (23 * ddI f (n - ys.length)):=by
   unfold sqI
   generalize ddI f (n - ys.length)=d at *
   generalize ddI f (n - ys.length - 1)=d0 at *
   generalize scI f n ys=s at *
   have h1:=Int.mul_le_mul_of_nonneg_left (show d * B - s≤d * B by omega) (show 0≤d0 by omega)
   have h2:=Int.mul_le_mul_of_nonneg_right h8 (Int.mul_nonneg (show 0≤d by omega) hB.1)
   have h3:=Int.mul_le_mul_of_nonneg_right (show 8 * B≤529 by omega) (Int.mul_nonneg (show 0≤d by omega) (show 0≤d by omega))
   have e1:8 * d * (d * B)=8 * B * (d * d):=by grind
   have e2:23 * d * (23 * d)=529 * (d * d):=by grind
   omega
  have e:((rtN (sqI f n B ys).natAbs * rtN (sqI f n B ys).natAbs:Nat):Int)=(rtN (sqI f n B ys).natAbs:Int) * (rtN (sqI f n B ys).natAbs:Int):=by norm_cast
  have:=hr.1
  exact (sq_le_r (by omega) (by omega)).2
 have hlo:-300≤loI f n B ys∧loI f n B ys≤300:=by
  have:=ediv_bnd2 (a:=liI f n ys+(rtN (sqI f n B ys).natAbs:Int)) (d:=ddI f (n - ys.length)) (M:=300) hd (by omega)
  unfold loI ivLo
  omega
 have hhi:-300≤hiI f n B ys∧hiI f n B ys≤300:=by
  have:=ediv_bnd2 (a:=(rtN (sqI f n B ys).natAbs:Int) - liI f n ys) (d:=ddI f (n - ys.length)) (M:=300) hd (by omega)
  unfold hiI ivHi
  omega
 refine ⟨hlo,hhi,hle,by omega,fun c h1 h2=>(pn_le h B).2 ((hi c).1 ⟨h1,h2⟩),hout _ (.inl (by omega)),hout _ (.inr (by omega)),?_,?_⟩
 ·have h1:¬ (loI f n B ys≤loI f n B ys - 1∧loI f n B ys - 1≤hiI f n B ys):=by omega
  have h2:¬ (-(rtN (sqI f n B ys).natAbs:Int)≤ddI f (n - ys.length) * (loI f n B ys - 1)+liI f n ys∧ddI f (n - ys.length) * (loI f n B ys - 1)+liI f n ys≤(rtN (sqI f n B ys).natAbs:Int)):=fun hh=>h1 ((hiv (loI f n B ys - 1)).2 hh)
  have e2:ddI f (n - ys.length) * (loI f n B ys - 2)=ddI f (n - ys.length) * (loI f n B ys - 1) - ddI f (n - ys.length):=by grind
  have h3:¬ (rtN (sqI f n B ys).natAbs:Int)<ddI f (n - ys.length) * (loI f n B ys - 1)+liI f n ys:=by
   intro h4
   have e3:ddI f (n - ys.length) * (loI f n B ys - 1)=ddI f (n - ys.length) * loI f n B ys - ddI f (n - ys.length):=by grind
   have e4:loI f n B ys=-((liI f n ys+(rtN (sqI f n B ys).natAbs:Int)) / ddI f (n - ys.length)):=rfl
   have h5:=Int.lt_mul_ediv_self_add (x:=liI f n ys+(rtN (sqI f n B ys).natAbs:Int)) (k:=ddI f (n - ys.length)) hd
   have h6:=Int.mul_ediv_self_le (x:=liI f n ys+(rtN (sqI f n B ys).natAbs:Int)) (k:=ddI f (n - ys.length)) (by omega)
   have e5:ddI f (n - ys.length) * loI f n B ys=-(ddI f (n - ys.length) * ((liI f n ys+(rtN (sqI f n B ys).natAbs:Int)) / ddI f (n - ys.length))):=by rw [e4];grind
   omega
  exact pn_lt h hl (sq_lt (.inr ⟨by omega,by omega⟩))
 ·have h1:¬ (loI f n B ys≤hiI f n B ys+1∧hiI f n B ys+1≤hiI f n B ys):=by omega
  have h2:¬ (-(rtN (sqI f n B ys).natAbs:Int)≤ddI f (n - ys.length) * (hiI f n B ys+1)+liI f n ys∧ddI f (n - ys.length) * (hiI f n B ys+1)+liI f n ys≤(rtN (sqI f n B ys).natAbs:Int)):=fun hh=>h1 ((hiv (hiI f n B ys+1)).2 hh)
  have e2:ddI f (n - ys.length) * (hiI f n B ys+2)=ddI f (n - ys.length) * (hiI f n B ys+1)+ddI f (n - ys.length):=by grind
  have h3:¬ ddI f (n - ys.length) * (hiI f n B ys+1)+liI f n ys < -(rtN (sqI f n B ys).natAbs:Int):=by
   intro h4
   have e3:ddI f (n - ys.length) * (hiI f n B ys+1)=ddI f (n - ys.length) * hiI f n B ys+ddI f (n - ys.length):=by grind
   have e4:hiI f n B ys=((rtN (sqI f n B ys).natAbs:Int) - liI f n ys) / ddI f (n - ys.length):=rfl
   have h5:=Int.lt_mul_ediv_self_add (x:=(rtN (sqI f n B ys).natAbs:Int) - liI f n ys) (k:=ddI f (n - ys.length)) hd
   rw [← e4] at h5
   omega
  exact pn_lt h hl (sq_lt (.inl ⟨by omega,by omega⟩))
theorem not64:isV Tryz.prog 2=false:=by
 unfold isV
 rw [Tryz.underlying2]
theorem Rg.blkN {P:Program} {T:Nat→Prop} {w w':World} {e:TypeId} {b:Nat} {C:List Value} (h:Rg P T w w') (hv:isV P e=false) (hb:Blk e w b C):Blk e w' b C:=by
 rcases h.block b hb.lt with e1 | ⟨_,C1,C2,e',hv2,_,h1,_⟩
 ·exact e1.trans hb
 ·unfold Blk at hb
  rw [hb] at h1
  simp only [Option.some.injEq,Obj.cells.injEq] at h1
  obtain ⟨_,rfl,_⟩:=h1
  rw [hv] at hv2
  cases hv2
theorem MonoR.lo (base:Nat) (xs:List Int):MonoR Tryz.prog (fun v w=>LO base w v xs):=fun _ _ _ hR h=>RowO.keepB h (fun _ _ _ hB=>hR.blkN not64 hB)
theorem cmp_pos {p q:Rat} (h:q<p):cmpR p q > 0:=cmp_gt.2 h
theorem cmp_npos {p q:Rat} (h:p≤q):¬ cmpR p q > 0:=fun k=>Rat.not_le.2 (cmp_gt.1 k) h
set_option maxHeartbeats 6400000 in
theorem lawInside (w:World) (v:Value) (hV:LatV w v) (l:Value) (zs:List Int) (hL:L8 w l zs) (s:Nat) (hs:s<256) (bd:Nat) (hbd:bd<256) :
  Calls Tryz.prog 7 #[v,l,.int .u8 s,.int .u8 bd] w (Ret fun r w'=>Ext w w'∧r=.bool true):=by
 obtain ⟨a0,a1,a2,a3,rfl⟩:=hV.agg
 refine calls_of_St (args:=[_,_,_,_]) Tryz.func7 rfl Tryz.ntmps7 rfl ?_
 refine Nv ?_
 refine .s (OpR.box rfl) ?_
 rintro _ w1 ⟨rfl,B1,hx1,hz1⟩
 (iterate 6 refine Nv ?_;try refine .r rfl ?_)
 refine .p (RunsTo.loadAgg TBok (cs:=[a0,a1,a2,a3]) rfl rfl rfl B1 (Nat.le_refl 4) rfl) ?_
 refine .s (OpR.call fn_quadformmake_Lattice_Form rfl (form_spec (most:=4) (hV.ext hx1) (by omega))) ?_
 rintro G w2 ⟨hx2,n,f,hn1,hn2,hM,hR⟩
 have hred:=redF_red hR hn1 (show n≤8 by omega)
 obtain ⟨M,hMe⟩:∃ M,M=mk n n f:=⟨_,rfl⟩
 rw [← hMe] at hM hred
 have hMn:M.length=n:=by rw [hMe,mk_len]
 clear hMe hR
 subst hMn
 obtain ⟨pg,cg,rfl⟩:=hM.len
 have hx02:=hx1.trans hx2
 have hMl:M.length≤1000000:=by omega
 refine .r rfl ?_
 refine Nv ?_
 refine .a 4 (.int .i64 ((M.length - 1:Nat):Int)) rfl (by rw [i64_id (by omega) (by omega)];congr 1;omega) ?_
 refine .r rfl ?_
 refine .s (OpR.call fn_w10_tail rfl (tail_spec (hL.ext hx02) (show M.length - 1≤100 by omega) hs)) ?_
 rintro T w3 ⟨hx3,ys,hyl,hys,hLO⟩
 have hyn:ys.length<M.length:=by rw [hyl];have:=Nat.mod_lt s (show 0<M.length - 1+1 by omega);omega
 clear hyl
 have hx03:=hx02.trans hx3
 replace hM:=hM.ext hx3
 have hts:TailOk ys:=hys.tail
 have hF:=hred.redF.1
 have hmk:=hred.mk
 obtain ⟨pt,ct,rfl⟩:=hLO.l64.len
 refine .r rfl ?_
 refine Nv ?_
 refine .a 2 (.int .i64 (bd:Int)) rfl (by rw [i64_id (by omega) (by omega)]) ?_
 refine .p (RunsTo.quoI bd 4 rfl rfl rfl rfl (by decide) (by omega)) ?_
 have hBd:0≤((bd / 4:Nat):Int)∧((bd / 4:Nat):Int)≤63:=by omega
 generalize ((bd / 4:Nat):Int)=B at hBd
 (iterate 6 refine Nv ?_;try refine .r rfl ?_)
 refine .s (OpR.call fn_schur_Interval rfl (interval_spec hM hMl hLO.l64 (by omega))) ?_
 rintro x w4 ⟨hx4,hIx⟩
 have hiv:IVok M B ys:=⟨hred,hyn,hts,hBd.1,by omega⟩
 have hpg:=pn_gt hF hyn B
 have hin:=inside_plain hF (by omega) hyn hys hBd
 have hroot:∀ r,IsRoot (sqI (ent M) M.length B ys).natAbs r→ivLo (ent M) M.length r ys=loI (ent M) M.length B ys∧ivHi (ent M) M.length r ys=hiI (ent M) M.length B ys:=fun r hr=>by
  rw [hr.rt]
  exact ⟨rfl,rfl⟩
 have hzq:∀ t:List Int,t.length≤M.length→TailOk t→rz (pnQ (ent M) M.length t)≤3000:=fun t h1 h2=>rz_pn hF (by omega) h1 h2
 have hPt:∀ (w:World) (x v:Value) (t:List Int),FrV w x M.length (ent M)→L64 w v t→t.length≤M.length→TailOk t→Calls Tryz.prog 24 #[x,v] w (Ret fun r w'=>Ext w w'∧CanR 0 w' r (pnQ (ent M) M.length t)):=fun w x v t h1 h2 h3 h4=>framePartial_spec h1 h2 h3 (by omega) hF h4
 have hOf:∀ (w:World) (v:Value),M64 w v M→Calls Tryz.prog 21 #[v] w (Ret fun r w'=>Ext w w'∧FrV w' r M.length (ent M)):=fun w v h=>by rw [hmk] at h;exact frameOf_spec h (by omega) hF
 have hopen:∀ (w:World) (x:Value),FrV w x M.length (ent M)→∃ aS cs bm om cm,x=.agg #[.int .i64 M.length,.slice (some aS) M.length cs,.slice (some ⟨bm,om,none⟩) (M.length+1) cm]:=fun w x h=>by
  obtain ⟨aS,cs,bm,om,cm,e,_⟩:=h.open (by omega)
  exact ⟨aS,cs,bm,om,cm,e⟩
 obtain ⟨o,lo,hi,hxe,hno,hyes⟩:∃ (o:Bool) (lo hi:Int),x=.tuple #[.int .i64 lo,.int .i64 hi,.bool o]∧(o=false→lo=0∧hi=0∧(B:Rat)<pnQ (ent M) M.length ys)∧(o=true→lo=loI (ent M) M.length B ys∧hi=hiI (ent M) M.length B ys∧0≤sqI (ent M) M.length B ys):=by
  rcases Int.lt_or_le (sqI (ent M) M.length B ys) 0 with h0 | h0
  ·exact ⟨false,0,0,hIx.1 (.inr h0),fun _=>⟨rfl,rfl,hpg.2 h0⟩,fun e=>by cases e⟩
  ·obtain ⟨r,hr,hx⟩:=hIx.2 hiv h0
   obtain ⟨e1,e2⟩:=hroot r hr
   obtain ⟨b1,b2,_⟩:=hin h0
   rw [e1,e2,lo64_id (by omega),lo64_id (by omega)] at hx
   exact ⟨true,_,_,hx,fun e=>(by cases e),fun _=>⟨rfl,rfl,h0⟩⟩
 subst hxe
 generalize pnQ (ent M) M.length=P at *
 generalize loI (ent M) M.length B ys=LO at *
 generalize hiI (ent M) M.length B ys=HI at *
 generalize sqI (ent M) M.length B ys=SQ at *
 clear hIx hroot hpg hmk hF
 replace hM:=hM.ext hx4
 replace hLO:=hLO.ext hx4
 replace hx03:=hx03.trans hx4
 clear hx4
 (iterate 6 refine Nv ?_;try refine .r rfl ?_)
 refine .s (OpR.call fn_r10_Of rfl (hOf _ _ hM)) ?_
 rintro fr w5 ⟨hx5,hFr⟩
 replace hLO:=hLO.ext hx5
 replace hx03:=hx03.trans hx5
 clear hx5
 obtain ⟨aS,cs,bm,om,cm,rfl⟩:=hopen _ _ hFr
 refine .s (OpR.alloc TBok rfl) ?_
 rintro _ w6 ⟨rfl,B15,hx6,hz6⟩
 refine StL.step0 rfl rfl (OpR.store TBok (vs:=[.int .i64 M.length,.slice (some aS) M.length cs,.slice (some ⟨bm,om,none⟩) (M.length+1) cm]) rfl rfl rfl rfl rfl B15 (Nat.le_refl 3) (by simp [Value.oneCell'])) ?_
 rintro _ w7 ⟨B15',hu7⟩
 have hx57:Ext w5 w7:=hx6.then_upd hu7 (Nat.le_refl _)
 replace B15':Blk 47 w7 w5.heap.size [.int .i64 M.length,.slice (some aS) M.length cs,.slice (some ⟨bm,om,none⟩) (M.length+1) cm]:=B15'
 clear hu7 hx6 B15
 replace hLO:=hLO.ext hx57
 replace hFr:=hFr.ext hx57
 replace hx03:=hx03.trans hx57
 clear hx57
 generalize w5.heap.size=b15 at *
 (iterate 6 refine Nv ?_;try refine .r rfl ?_)
 refine .s (OpR.call fn_r02_Small rfl (rsmallR_spec w7 B (by omega) (by omega))) ?_
 rintro lim w8 ⟨hx8,hlim⟩
 replace hLO:=hLO.ext hx8
 replace hFr:=hFr.ext hx8
 replace B15':=B15'.ext hx8
 replace hx03:=hx03.trans hx8
 clear hx8
 refine StL.newR rfl rfl (fun _=>rfl) hlim.1 ?_
 intro b16 w9 _ hx9 B16
 replace hLO:=hLO.ext hx9
 replace hFr:=hFr.ext hx9
 replace B15':=B15'.ext hx9
 replace hlim:=hlim.ext hx9
 replace hx03:=hx03.trans hx9
 clear hx9
 have zB:rz (B:Rat)≤100:=by
  have a1:=rz_int B
  have a2:=sz_small (a:=B) (by omega) (by omega)
  omega
 have zy:=hzq ys (by omega) hts
 (iterate 6 refine Nv ?_;try refine .r rfl ?_)
 cases o with
 | false =>
  obtain ⟨rfl,rfl,hlt⟩:=hno rfl
  refine .cT ?_
  refine Nv ?_
  refine St.sub (E':=[(12,.int .i64 0),(13,.int .i64 0),(10,.slice pt ys.length ct),(15,.pointer (some ⟨b15,0,none⟩)),(16,.pointer (some ⟨b16,0,none⟩))]) ?_ sbb
  refine St.flow 11 TBfol (by kernel_rfl) rfl (by kernel_rfl) rfl True.intro ?_
  refine FL.run TBok 99 rfl ?_
  refine FL.loadAgg (L:=[]) TBok rfl rfl rfl rfl rfl rfl B15' (by simp) (Nat.le_refl _) rfl ?_
  refine FL.run TBok 99 rfl ?_
  refine FL.callE fn_r10_Frame_Partial rfl rfl rfl (fun wk hxk=>CallF.mk rfl (hPt _ _ _ _ (hFr.ext hxk) (hLO.l64.ext hxk) (by omega) hts)) (MonoR.canR 0 _) ?_
  refine .on (fun _ hR=>RunsTo.loadR rfl rfl (hR.blk (B16) (by simp)) (hlim.1)) ?_
  refine FL.endE rfl ?_
  rintro w10 hx10 t54 h54 _ _
  replace hlim:=hlim.ext hx10
  replace hx03:=hx03.trans hx10
  clear hx10
  refine .s (OpR.call fn_r02_Cmp rfl (rcmpR_spec (h54.dnS (by omega)) (hlim.dnS (by omega)) (by omega) (by omega))) ?_
  rintro _ w11 ⟨hx11,rfl⟩
  refine .a 1 (.bool true) rfl (bool_true (cmp_pos hlt)) ?_
  refine .r rfl ?_
  refine StL.awk10 rfl rfl ?_
  intro wz hxz
  (iterate 6 refine Nv ?_;try refine .r rfl ?_)
  exact Out.ret1 rfl rfl ⟨(hx03.trans hx11).trans hxz,rfl⟩
 | true =>
  obtain ⟨rfl,rfl,h0⟩:=hyes rfl
  obtain ⟨q1,q2,q3,q4,q5,q6,q7,q8,q9⟩:=hin h0
  clear hin hno hyes
  have hcons:∀ c:Int,-1000≤c→c≤1000→(c::ys).length≤M.length∧TailOk (c::ys):=fun c h1 h2=>⟨by rw [List.length_cons];omega,fun y hy=>by
   rcases List.mem_cons.1 hy with rfl | hy
   ·omega
   ·exact hts y hy⟩
  refine .cF ?_
  refine Nv ?_
  refine .a 3 (.int .i64 (lo - 1)) rfl (by rw [i64_id (by omega) (by omega)]) ?_
  refine .a 1 (.bool false) rfl (bool_false (by omega)) ?_
  refine .a 4 (.int .i64 (hi - lo)) rfl (by rw [i64_id (by omega) (by omega)]) ?_
  refine .a 1 (.bool false) rfl (bool_false (by omega)) ?_
  (iterate 6 refine Nv ?_;try refine .r rfl ?_)
  refine .cF ?_
  (iterate 6 refine Nv ?_;try refine .r rfl ?_)
  refine St.loop (α:=Int) (fun g=>[(17,.int .i64 g),(12,.int .i64 lo),(13,.int .i64 hi),(10,.slice pt ys.length ct),(15,.pointer (some ⟨b15,0,none⟩)),(16,.pointer (some ⟨b16,0,none⟩))]) (fun g w'=>Ext w9 w'∧lo≤g∧g≤hi+1) (fun g=>(hi+1 - g).toNat) lo sbb ⟨Ext.refl _,Int.le_refl _,q3⟩ ?_
  rintro g w10 ⟨hx10,hg1,hg2⟩
  by_cases hc:g≤hi
  ·refine Nv ?_
   refine .a 3 (.bool true) rfl (bool_true hc) ?_
   (iterate 6 refine Nv ?_;try refine .r rfl ?_)
   refine .cT ?_
   obtain ⟨k1,k2⟩:=hcons g (by omega) (by omega)
   have k3:=hzq _ k1 k2
   refine Nv ?_
   refine St.flow 6 TBfol (by kernel_rfl) rfl (by kernel_rfl) rfl True.intro ?_
   refine FL.loadAgg (L:=[]) TBok rfl rfl rfl rfl rfl rfl (B15'.ext hx10) (by simp) (Nat.le_refl _) rfl ?_
   refine FL.run TBok 99 rfl ?_
   refine FL.callE fn_w10_longer (ψ:=fun v w'=>LO 0 w' v (g::ys)) rfl rfl rfl (fun wk hxk=>CallF.mk rfl ((longer_spec ((hLO.l64.ext hx10).ext hxk) (by omega)).mono (by rintro _ w' ⟨x,rfl,hx,hl⟩;exact ⟨x,rfl,hx,hl.mono (Nat.zero_le _)⟩))) (MonoR.lo 0 _) ?_
   refine FL.callE fn_r10_Frame_Partial rfl rfl rfl (fun wk hxk t1 h1=>CallF.mk rfl (hPt _ _ _ _ ((hFr.ext hx10).ext hxk) h1.l64 k1 k2)) (MonoR.canR 0 _) ?_
   refine .on (fun _ hR=>RunsTo.loadR rfl rfl (hR.blk ((B16.ext hx10)) (by simp)) (hlim.1)) ?_
   refine FL.endE rfl ?_
   rintro w11 hx11 t82 h82 _ _ _ _
   have hx911:=hx10.trans hx11
   refine .s (OpR.call fn_r02_Cmp rfl (rcmpR_spec (h82.dnS (by omega)) ((hlim.ext hx911).dnS (by omega)) (by omega) (by omega))) ?_
   rintro _ w12 ⟨hx12,rfl⟩
   refine .a 1 (.bool false) rfl (bool_false (cmp_npos (q5 g hg1 hc))) ?_
   (iterate 6 refine Nv ?_;try refine .r rfl ?_)
   refine .cF ?_
   refine Nv ?_
   refine .a 2 (.int .i64 (g+1)) rfl (by rw [i64_id (by omega) (by omega)]) ?_
   (iterate 6 refine Nv ?_;try refine .r rfl ?_)
   exact Out.again (g+1) sbb ⟨hx911.trans hx12,by omega,by omega⟩ (by show (hi+1 - (g+1)).toNat<(hi+1 - g).toNat;omega)
  ·refine Nv ?_
   refine .a 3 (.bool false) rfl (bool_false hc) ?_
   (iterate 6 refine Nv ?_;try refine .r rfl ?_)
   refine .cF ?_
   replace hLO:=hLO.ext hx10
   replace hFr:=hFr.ext hx10
   replace B15':=B15'.ext hx10
   replace hlim:=hlim.ext hx10
   replace B16:=B16.ext hx10
   replace hx03:=hx03.trans hx10
   clear hx10
   obtain ⟨k1,k2⟩:=hcons (lo - 1) (by omega) (by omega)
   obtain ⟨k3,k4⟩:=hcons (hi+1) (by omega) (by omega)
   have zk1:=hzq _ k1 k2
   have zk3:=hzq _ k3 k4
   refine Nv ?_
   refine St.sub (E':=[(12,.int .i64 lo),(13,.int .i64 hi),(10,.slice pt ys.length ct),(15,.pointer (some ⟨b15,0,none⟩)),(16,.pointer (some ⟨b16,0,none⟩))]) ?_ sbb
   refine St.flow 14 TBfol (by kernel_rfl) rfl (by kernel_rfl) rfl True.intro ?_
   refine FL.loadAgg (L:=[]) TBok rfl rfl rfl rfl rfl rfl B15' (by simp) (Nat.le_refl _) rfl ?_
   refine FL.as TBok 2 (.int .i64 (lo - 1)) rfl (by rw [i64_id (by omega) (by omega)]) ?_
   refine FL.run TBok 99 rfl ?_
   refine FL.callE fn_w10_longer (ψ:=fun v w'=>LO 0 w' v ((lo - 1)::ys)) rfl rfl rfl (fun wk hxk=>CallF.mk rfl ((longer_spec (hLO.l64.ext hxk) (by omega)).mono (by rintro _ w' ⟨x,rfl,hx,hl⟩;exact ⟨x,rfl,hx,hl.mono (Nat.zero_le _)⟩))) (MonoR.lo 0 _) ?_
   refine FL.callE fn_r10_Frame_Partial rfl rfl rfl (fun wk hxk t1 h1=>CallF.mk rfl (hPt _ _ _ _ (hFr.ext hxk) h1.l64 k1 k2)) (MonoR.canR 0 _) ?_
   refine FL.loadAgg (L:=[]) TBok rfl rfl rfl rfl rfl rfl B15' (by simp) (Nat.le_refl _) rfl ?_
   refine FL.as TBok 2 (.int .i64 (hi+1)) rfl (by rw [i64_id (by omega) (by omega)]) ?_
   refine FL.run TBok 99 rfl ?_
   refine FL.callE fn_w10_longer (ψ:=fun v w'=>LO 0 w' v ((hi+1)::ys)) rfl rfl rfl (fun wk hxk=>CallF.mk rfl ((longer_spec (hLO.l64.ext hxk) (by omega)).mono (by rintro _ w' ⟨x,rfl,hx,hl⟩;exact ⟨x,rfl,hx,hl.mono (Nat.zero_le _)⟩))) (MonoR.lo 0 _) ?_
   refine FL.callE fn_r10_Frame_Partial rfl rfl rfl (fun wk hxk t1 h1=>CallF.mk rfl (hPt _ _ _ _ (hFr.ext hxk) h1.l64 k3 k4)) (MonoR.canR 0 _) ?_
   refine FL.alloc TBok rfl rfl rfl rfl ?_
   refine FL.alloc TBok rfl rfl rfl rfl ?_
   refine FL.endE rfl ?_
   rintro w11 hx11 _ ⟨b19,C19,rfl,hg19,B19,hl19⟩ _ ⟨b18,C18,rfl,hg18,B18,hl18⟩ t97 h97 _ _ t91 h91 _ _ _ hdist
   refine StL.twoR rfl rfl rfl rfl rfl (fun e=>hdist 18 (by decide) 19 (by decide) (by decide) _ rfl (by rw [e];rfl)) B18 hl18 B19 hl19 hx11 hg18 hg19 h91 h97 ?_
   intro w12 hx12 B18' B19' hl hr
   clear hx11 B18 B19 hdist h91 h97
   replace hLO:=hLO.ext hx12
   replace hFr:=hFr.ext hx12
   replace B15':=B15'.ext hx12
   replace hlim:=hlim.ext hx12
   replace B16:=B16.ext hx12
   replace hx03:=hx03.trans hx12
   clear hx12
   refine .r rfl ?_
   refine Nv ?_
   refine .p (RunsTo.loadR rfl rfl (B18') (hl.1)) ?_
   refine .p (RunsTo.loadR rfl rfl (B16) (hlim.1)) ?_
   refine .s (OpR.call fn_r02_Cmp rfl (rcmpR_spec (hl.dnS (by omega)) (hlim.dnS (by omega)) (by omega) (by omega))) ?_
   rintro _ w13 ⟨hx13,rfl⟩
   replace hLO:=hLO.ext hx13
   replace hFr:=hFr.ext hx13
   replace B15':=B15'.ext hx13
   replace hlim:=hlim.ext hx13
   replace B16:=B16.ext hx13
   replace B18':=B18'.ext hx13
   replace B19':=B19'.ext hx13
   replace hl:=hl.ext hx13
   replace hr:=hr.ext hx13
   replace hx03:=hx03.trans hx13
   clear hx13
   refine .a 1 (.bool false) rfl (bool_false (by have:=cmp_pos q6;omega)) ?_
   refine .r rfl ?_
   refine .p (RunsTo.loadR rfl rfl (B19') (hr.1)) ?_
   refine .p (RunsTo.loadR rfl rfl (B16) (hlim.1)) ?_
   refine .s (OpR.call fn_r02_Cmp rfl (rcmpR_spec (hr.dnS (by omega)) (hlim.dnS (by omega)) (by omega) (by omega))) ?_
   rintro _ w14 ⟨hx14,rfl⟩
   replace hLO:=hLO.ext hx14
   replace hFr:=hFr.ext hx14
   replace B15':=B15'.ext hx14
   replace B18':=B18'.ext hx14
   replace B19':=B19'.ext hx14
   replace hl:=hl.ext hx14
   replace hr:=hr.ext hx14
   replace hx03:=hx03.trans hx14
   clear hx14
   refine .a 1 (.bool false) rfl (bool_false (by have:=cmp_pos q7;omega)) ?_
   (iterate 6 refine Nv ?_;try refine .r rfl ?_)
   refine .cF ?_
   obtain ⟨k5,k6⟩:=hcons (lo - 2) (by omega) (by omega)
   obtain ⟨k7,k8⟩:=hcons (hi+2) (by omega) (by omega)
   have zk5:=hzq _ k5 k6
   have zk7:=hzq _ k7 k8
   refine Nv ?_
   refine St.sub (E':=[(12,.int .i64 lo),(13,.int .i64 hi),(10,.slice pt ys.length ct),(15,.pointer (some ⟨b15,0,none⟩)),(18,.pointer (some ⟨b18,0,none⟩)),(19,.pointer (some ⟨b19,0,none⟩))]) ?_ sbb
   refine St.flow 17 TBfol (by kernel_rfl) rfl (by kernel_rfl) rfl True.intro ?_
   refine FL.loadAgg (L:=[]) TBok rfl rfl rfl rfl rfl rfl B15' (by simp) (Nat.le_refl _) rfl ?_
   refine FL.as TBok 2 (.int .i64 (lo - 2)) rfl (by rw [i64_id (by omega) (by omega)]) ?_
   refine FL.run TBok 99 rfl ?_
   refine FL.callE fn_w10_longer (ψ:=fun v w'=>LO 0 w' v ((lo - 2)::ys)) rfl rfl rfl (fun wk hxk=>CallF.mk rfl ((longer_spec (hLO.l64.ext hxk) (by omega)).mono (by rintro _ w' ⟨x,rfl,hx,hl⟩;exact ⟨x,rfl,hx,hl.mono (Nat.zero_le _)⟩))) (MonoR.lo 0 _) ?_
   refine FL.callE fn_r10_Frame_Partial rfl rfl rfl (fun wk hxk t1 h1=>CallF.mk rfl (hPt _ _ _ _ (hFr.ext hxk) h1.l64 k5 k6)) (MonoR.canR 0 _) ?_
   refine .on (fun _ hR=>RunsTo.loadR rfl rfl (hR.blk (B18') (by simp)) (hl.1)) ?_
   refine FL.callXE fn_r02_Cmp rfl rfl rfl (fun wk hxk t1 h1=>CallF.mk rfl (rcmpR_spec (h1.dnS (by omega)) ((hl.ext hxk).dnS (by omega)) (by omega) (by omega))) ?_
   refine FL.as TBok 1 (.bool true) rfl (bool_true (cmp_pos q8)) ?_
   refine FL.run TBok 99 rfl ?_
   refine FL.loadAgg (L:=[]) TBok rfl rfl rfl rfl rfl rfl B15' (by simp) (Nat.le_refl _) rfl ?_
   refine FL.as TBok 2 (.int .i64 (hi+2)) rfl (by rw [i64_id (by omega) (by omega)]) ?_
   refine FL.run TBok 99 rfl ?_
   refine FL.callE fn_w10_longer (ψ:=fun v w'=>LO 0 w' v ((hi+2)::ys)) rfl rfl rfl (fun wk hxk=>CallF.mk rfl ((longer_spec (hLO.l64.ext hxk) (by omega)).mono (by rintro _ w' ⟨x,rfl,hx,hl⟩;exact ⟨x,rfl,hx,hl.mono (Nat.zero_le _)⟩))) (MonoR.lo 0 _) ?_
   refine FL.callE fn_r10_Frame_Partial rfl rfl rfl (fun wk hxk t1 h1=>CallF.mk rfl (hPt _ _ _ _ (hFr.ext hxk) h1.l64 k7 k8)) (MonoR.canR 0 _) ?_
   refine .on (fun _ hR=>RunsTo.loadR rfl rfl (hR.blk (B19') (by simp)) (hr.1)) ?_
   refine FL.endE rfl ?_
   rintro w15 hx15 t123 h123 _ _ _ _ _ _ _ _
   replace hr:=hr.ext hx15
   replace hx03:=hx03.trans hx15
   clear hx15
   refine .s (OpR.call fn_r02_Cmp rfl (rcmpR_spec (h123.dnS (by omega)) (hr.dnS (by omega)) (by omega) (by omega))) ?_
   rintro _ w16 ⟨hx16,rfl⟩
   refine .a 1 (.bool true) rfl (bool_true (cmp_pos q9)) ?_
   refine .r rfl ?_
   refine StL.awk10 rfl rfl ?_
   intro wz hxz
   (iterate 6 refine Nv ?_;try refine .r rfl ?_)
   exact Out.ret1 rfl rfl ⟨(hx03.trans hx16).trans hxz,rfl⟩
end Go.Qf
namespace Go.Qf
open Go Go.Proofs
theorem strip_cut (rest : List (List Char)) : stripLifts liftWords ("cut".toList :: rest) = ([], "cut".toList :: rest) := by kernel_rfl
theorem cutGc : ("cut".toList == "gc".toList) = false := by kernel_rfl
theorem cutSpec : ("cut".toList == "spec".toList) = false := by kernel_rfl
theorem cutCarried : ("cut".toList == "carried".toList) = false := by kernel_rfl
theorem cutCut : ("cut".toList == "cut".toList) = true := by kernel_rfl
section
variable {P : Program} {rest : List (List Char)} (h : behindMainWord (wordsSigns P.initOrder.toList) = "cut".toList :: rest)
include h
theorem make_of:P.make=some .cut:=by
 unfold Program.make
 rw [h]
 simp only [cutGc,cutSpec,cutCut,Bool.or_self,Bool.true_or,if_true,Bool.false_eq_true,if_false]
theorem heads_of:P.headLifts=[]:=by
 unfold Program.headLifts
 rw [h]
 simp only [strip_cut,ite_self]
theorem final_of:P.liftsFinal=false:=by
 unfold Program.liftsFinal
 rw [heads_of h]
 rw [h]
 simp only [List.head?_cons,Option.some_beq_some,cutCarried,Bool.false_and,List.contains_nil,Bool.or_false]
theorem enter_of (h1:P.laysLater=false) (h2:P.bearsReflect=false) (h3:P.doorFits []=true):P.mayEnter=true:=by
 unfold Program.mayEnter
 rw [h]
 simp only [strip_cut,h1,h2,h3,List.head?_cons,Option.some_beq_some,cutCut,Bool.not_false,Bool.or_true,Bool.and_true,List.contains_nil]
end
theorem words_of {P : Program} (h : (behindMainWord (wordsSigns P.initOrder.toList)).head? = some "cut".toList) : ∃ rest, behindMainWord (wordsSigns P.initOrder.toList) = "cut".toList :: rest := by
 generalize behindMainWord (wordsSigns P.initOrder.toList)=ws at h
 cases ws with
 | nil=>cases h
 | cons c r=>exact ⟨r,by simp only [List.head?_cons,Option.some.injEq] at h;rw [h]⟩
set_option maxRecDepth 100000 in
theorem wordsCut : (behindMainWord (wordsSigns Tryz.prog.initOrder.toList)).head? = some "cut".toList := by
 rw [show Tryz.prog.initOrder.toList=_ from String.toList_ofList]
 kernel_rfl
theorem laysNot:Tryz.prog.laysLater=false:=by kernel_rfl
theorem reflNot:Tryz.prog.bearsReflect=false:=by kernel_rfl
theorem doorOk:Tryz.prog.doorFits []=true:=by kernel_rfl
theorem enterOk:Tryz.prog.mayEnter=true:=by
 obtain ⟨rest,h⟩:=words_of wordsCut
 exact enter_of h laysNot reflNot doorOk
theorem finalNo:Tryz.prog.liftsFinal=false:=by
 obtain ⟨rest,h⟩:=words_of wordsCut
 exact final_of h
theorem makeCut:Tryz.prog.make=some .cut:=by
 obtain ⟨rest,h⟩:=words_of wordsCut
 exact make_of h
end Go.Qf
