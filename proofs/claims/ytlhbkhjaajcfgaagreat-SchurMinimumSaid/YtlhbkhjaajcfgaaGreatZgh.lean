/- Lemmas on the model and on the program's functions, part Zgh. -/
import GoSem.Core.View
import Derived.WalkKit
import Derived.Deep.Quiet
import Derived.Deep.LoopGhost
import Derived.KernelRfl
import Derived.Test.YtlhbkhjaajcfgaaGreatProg
import Derived.Laws.BytesString
import Derived.Laws.RangeString
import Derived.Lib.OthersKept
import Derived.Laws.Strings
import Derived.ProofKit
import Derived.OpenShut
import Derived.Lib.SmallJoins
import Derived.Carry
import Derived.ChangeMaps5
import Derived.Maps.AppendAt
import Derived.Laws.Externs
import Derived.Lib.Bytealg
import Derived.ChangeArms
import Derived.Laws.OwnMore
import Derived.Scope
import Derived.RangeFuncLeaves
import Derived.RangeFuncRecord
import Derived.TacticsIn
import Derived.OrdersIn
import Derived.Test.YtlhbkhjaajcfgaaGreatRows
import Derived.Test.YtlhbkhjaajcfgaaGreatZga
import Derived.Test.YtlhbkhjaajcfgaaGreatZgb
import Derived.Test.YtlhbkhjaajcfgaaGreatZgc
import Derived.Test.YtlhbkhjaajcfgaaGreatZgd
import Derived.Test.YtlhbkhjaajcfgaaGreatZge
import Derived.Test.YtlhbkhjaajcfgaaGreatZgf
import Derived.Test.YtlhbkhjaajcfgaaGreatZgg
set_option linter.unusedVariables false
set_option linter.unusedSimpArgs false
namespace Go.Qf
open Go Go.RowKit Go.Proofs
set_option maxRecDepth 20000
theorem min_law (D d li qd sc:Rat) (hD:D≠0) (hd:d≠0) (h:d * sc=D * qd - li * li):sc / D=qd / d - ((Rat.divInt 1 2 * ((D+2 * li+qd) / d - (D - 2 * li+qd) / d)) * (Rat.divInt 1 2 * ((D+2 * li+qd) / d - (D - 2 * li+qd) / d))) / (2 * 2 * (Rat.divInt 1 2 * ((D - 2 * li+qd) / d+(D+2 * li+qd) / d) - qd / d))∧Rat.divInt 1 2 * ((D - 2 * li+qd) / d+(D+2 * li+qd) / d) - qd / d=D / d:=by
 have e:Rat.divInt 1 2=1 / 2:=by decide +kernel
 rw [e]
 have e1:(1 / 2:Rat) * ((D+2 * li+qd) / d - (D - 2 * li+qd) / d)=2 * li / d:=by grind
 have e2:(1 / 2:Rat) * ((D - 2 * li+qd) / d+(D+2 * li+qd) / d) - qd / d=D / d:=by grind
 rw [e1,e2]
 exact ⟨by grind,rfl⟩
theorem pn_cons {n:Nat} {f:Nat→Nat→Int} {ys:List Int} (h:RedF n f) (hl:ys.length<n) (x:Int):pnQ f n (x::ys)=((ddI f (n - ys.length):Rat) * ((x:Rat) * (x:Rat))+2 * ((x:Rat) * (liI f n ys:Rat))+(qdI f n ys:Rat)) / (ddI f (n - ys.length - 1):Rat):=by
 unfold pnQ
 rw [Rat.divInt_eq_div,List.length_cons,show n - (ys.length+1)=n - ys.length - 1 by omega,sc_cons h hl]
 simp only [Rat.intCast_add,Rat.intCast_mul]
 rfl
theorem min_plain {n:Nat} {f:Nat→Nat→Int} {ys:List Int} (h:RedF n f) (hl:ys.length<n) :
  0<Rat.divInt 1 2 * (pnQ f n (-1::ys)+pnQ f n (1::ys)) - pnQ f n (0::ys) ∧
  pnQ f n ys=pnQ f n (0::ys) - (Rat.divInt 1 2 * (pnQ f n (1::ys) - pnQ f n (-1::ys))) * (Rat.divInt 1 2 * (pnQ f n (1::ys) - pnQ f n (-1::ys))) / (2 * 2 * (Rat.divInt 1 2 * (pnQ f n (-1::ys)+pnQ f n (1::ys)) - pnQ f n (0::ys))):=by
 have hd:=ddI_pos h.pos (show n - ys.length≤n by omega)
 have hd0:=ddI_pos h.pos (show n - ys.length - 1≤n by omega)
 have hq:=sc_qd h hl
 have hD:(0:Rat)<(ddI f (n - ys.length):Rat):=by exact_mod_cast hd
 have hD0:(0:Rat)<(ddI f (n - ys.length - 1):Rat):=by exact_mod_cast hd0
 have hqr:(ddI f (n - ys.length - 1):Rat) * (scI f n ys:Rat)=(ddI f (n - ys.length):Rat) * (qdI f n ys:Rat) - (liI f n ys:Rat) * (liI f n ys:Rat):=by exact_mod_cast hq
 obtain ⟨k1,k2⟩:=min_law _ _ _ _ _ (show (ddI f (n - ys.length):Rat)≠0 by grind) (show (ddI f (n - ys.length - 1):Rat)≠0 by grind) hqr
 have ea:pnQ f n (-1::ys)=((ddI f (n - ys.length):Rat) - 2 * (liI f n ys:Rat)+(qdI f n ys:Rat)) / (ddI f (n - ys.length - 1):Rat):=by
  rw [pn_cons h hl]
  congr 2
  have:((-1:Int):Rat)=-1:=rfl
  rw [this]
  grind
 have eb:pnQ f n (0::ys)=(qdI f n ys:Rat) / (ddI f (n - ys.length - 1):Rat):=by
  rw [pn_cons h hl]
  congr 1
  have:((0:Int):Rat)=0:=rfl
  rw [this]
  grind
 have ec:pnQ f n (1::ys)=((ddI f (n - ys.length):Rat)+2 * (liI f n ys:Rat)+(qdI f n ys:Rat)) / (ddI f (n - ys.length - 1):Rat):=by
  rw [pn_cons h hl]
  congr 2
  have:((1:Int):Rat)=1:=rfl
  rw [this]
  grind
 have el:pnQ f n ys=(scI f n ys:Rat) / (ddI f (n - ys.length):Rat):=by
  unfold pnQ
  rw [Rat.divInt_eq_div]
 rw [ea,eb,ec,el,k2]
 refine ⟨?_,?_⟩
 ·rw [Rat.lt_div_iff hD0]
  grind
 ·rw [k2] at k1
  exact k1
theorem signI_pos' {r:Rat} (h:0<r):0<signI r.num:=by
 rw [Rat.lt_iff] at h
 have:0<r.num:=by simpa using h
 unfold signI
 rw [if_neg (by omega),if_neg (by omega)]
 decide
theorem pn_ok {w:World} {hv xv:Value} {M:List (List Int)} {ys:List Int} (h:M64 w hv M) (hl:M.length≤1000000) (k:L64 w xv ys) (hp:PNok M ys) :
  Calls Tryz.prog 15 #[hv,xv] w (Ret fun x w'=>Ext w w'∧∃ r,x=.tuple #[r,.bool true]∧CanR 0 w' r (pnQ (ent M) M.length ys)):=by
 refine (partialNorm_spec h hl k (Nat.le_trans hp.2.2.1 hl)).mono ?_
 rintro e w' ⟨x,rfl,hx,hP⟩
 exact ⟨x,rfl,hx,hP.1 hp⟩
theorem cmp_zero {p q:Rat} (h:p=q):cmpR p q=0:=by rw [h];exact cmpR_self q
set_option maxHeartbeats 3200000 in
theorem lawMinimum (w:World) (v:Value) (hV:LatV w v) (l:Value) (zs:List Int) (hL:L8 w l zs) (s:Nat) (hs:s<256) :
  Calls Tryz.prog 9 #[v,l,.int .u8 s] w (Ret fun r w'=>Ext w w'∧r=.bool true):=by
 obtain ⟨a0,a1,a2,a3,rfl⟩:=hV.agg
 refine calls_of_St (args:=[_,_,_]) Tryz.func9 rfl Tryz.ntmps9 rfl ?_
 refine Nv ?_
 refine .s (OpR.box rfl) ?_
 rintro _ w1 ⟨rfl,B1,hx1,hz1⟩
 (iterate 6 refine Nv ?_;try refine .r rfl ?_)
 refine .p (RunsTo.loadAgg TBok (cs:=[a0,a1,a2,a3]) rfl rfl rfl B1 (Nat.le_refl 4) rfl) ?_
 refine .s (OpR.call fn_quadformmake_Lattice_Form rfl (form_spec (most:=4) (hV.ext hx1) (by omega))) ?_
 rintro G w2 ⟨hx2,n,f,hn1,hn2,hM,hR⟩
 have hlen:=hM.len
 rw [mk_len] at hlen
 obtain ⟨pg,cg,rfl⟩:=hlen
 have hx02:=hx1.trans hx2
 refine .r rfl ?_
 refine Nv ?_
 refine .a 4 (.int .i64 ((n - 1:Nat):Int)) rfl (by rw [i64_id (by omega) (by omega)];congr 1;omega) ?_
 refine .r rfl ?_
 refine .s (OpR.call fn_w10_tail rfl (tail_spec (hL.ext hx02) (show n - 1≤100 by omega) hs)) ?_
 rintro T w3 ⟨hx3,ys,hyl,hys,hLO⟩
 have hyn:ys.length<n:=by rw [hyl];have:=Nat.mod_lt s (show 0<n - 1+1 by omega);omega
 have hx03:=hx02.trans hx3
 have hMl:(mk n n f).length≤1000000:=by rw [mk_len];omega
 have hred:=redF_red hR hn1 (by omega)
 have hts:TailOk ys:=hys.tail
 have hok:∀ x:Int,-2≤x→x≤2→PNok (mk n n f) (x::ys):=fun x h1 h2=>⟨hred,by simp,by rw [mk_len,List.length_cons];omega,fun y hy=>by
  rcases List.mem_cons.1 hy with rfl | hy
  ·omega
  ·exact hts y hy⟩
 have hzs:∀ x:Int,-2≤x→x≤2→rz (pnQ (ent (mk n n f)) (mk n n f).length (x::ys))≤3000:=fun x h1 h2=>rz_pn hred.redF.1 (by rw [mk_len];omega) (hok x h1 h2).2.2.1 (hok x h1 h2).2.2.2
 have hz0:rz (pnQ (ent (mk n n f)) (mk n n f).length ys)≤3000:=rz_pn hred.redF.1 (by rw [mk_len];omega) (by rw [mk_len];omega) hts
 have hmin:=min_plain hred.redF.1 (show ys.length<(mk n n f).length by rw [mk_len];exact hyn)
 have hnil:=fun e:ys.length=0=>pnQ_nil (ent (mk n n f)) (mk n n f).length e
 have hpn:∀ (w:World) (hv xv:Value) (zs:List Int),M64 w hv (mk n n f)→L64 w xv zs→PNok (mk n n f) zs→Calls Tryz.prog 15 #[hv,xv] w (Ret fun x w'=>Ext w w'∧∃ r,x=.tuple #[r,.bool true]∧CanR 0 w' r (pnQ (ent (mk n n f)) (mk n n f).length zs)):=fun w hv xv zs h k hp=>pn_ok h hMl k hp
 generalize pnQ (ent (mk n n f)) (mk n n f).length=P at *
 have zm:=hzs (-1) (by omega) (by omega)
 have z0:=hzs 0 (by omega) (by omega)
 have z1:=hzs 1 (by omega) (by omega)
 replace hM:=hM.ext hx3
 clear hx3
 obtain ⟨pt,ct,rfl⟩:=hLO.l64.len
 (iterate 6 refine Nv ?_;try refine .r rfl ?_)
 refine .s (OpR.call fn_w10_longer rfl (longer_spec (x:=-1) hLO.l64 (by omega))) ?_
 rintro L4 w4 ⟨hx4,hL4⟩
 replace hM:=hM.ext hx4
 replace hLO:=hLO.ext hx4
 replace hx03:=hx03.trans hx4
 clear hx4
 refine .r rfl ?_
 refine .s (OpR.call fn_schur_PartialNorm rfl (hpn _ _ _ _ hM hL4.l64 (hok (-1) (by omega) (by omega)))) ?_
 rintro _ w5 ⟨hx5,a,rfl,ha⟩
 replace hM:=hM.ext hx5
 replace hLO:=hLO.ext hx5
 replace hx03:=hx03.trans hx5
 clear hx5
 refine .r rfl ?_
 refine StL.newR rfl rfl (fun _=>rfl) ha.1 ?_
 intro b9 w6 _ hx6 B9
 replace hM:=hM.ext hx6
 replace hLO:=hLO.ext hx6
 replace ha:=ha.ext hx6
 replace hx03:=hx03.trans hx6
 clear hx6
 (iterate 6 refine Nv ?_;try refine .r rfl ?_)
 refine .s (OpR.call fn_w10_longer rfl (longer_spec (x:=0) hLO.l64 (by omega))) ?_
 rintro L7 w7 ⟨hx7,hL7⟩
 replace hM:=hM.ext hx7
 replace hLO:=hLO.ext hx7
 replace ha:=ha.ext hx7
 replace B9:=B9.ext hx7
 replace hx03:=hx03.trans hx7
 clear hx7
 refine .r rfl ?_
 refine .s (OpR.call fn_schur_PartialNorm rfl (hpn _ _ _ _ hM hL7.l64 (hok 0 (by omega) (by omega)))) ?_
 rintro _ w8 ⟨hx8,b,rfl,hb⟩
 replace hM:=hM.ext hx8
 replace hLO:=hLO.ext hx8
 replace ha:=ha.ext hx8
 replace B9:=B9.ext hx8
 replace hx03:=hx03.trans hx8
 clear hx8
 refine .r rfl ?_
 refine StL.newR rfl rfl (fun _=>rfl) hb.1 ?_
 intro b11 w9 _ hx9 B11
 replace hM:=hM.ext hx9
 replace hLO:=hLO.ext hx9
 replace ha:=ha.ext hx9
 replace B9:=B9.ext hx9
 replace hb:=hb.ext hx9
 replace hx03:=hx03.trans hx9
 clear hx9
 (iterate 6 refine Nv ?_;try refine .r rfl ?_)
 refine .s (OpR.call fn_w10_longer rfl (longer_spec (x:=1) hLO.l64 (by omega))) ?_
 rintro L10 w10 ⟨hx10,hL10⟩
 replace hM:=hM.ext hx10
 replace hLO:=hLO.ext hx10
 replace ha:=ha.ext hx10
 replace B9:=B9.ext hx10
 replace hb:=hb.ext hx10
 replace B11:=B11.ext hx10
 replace hx03:=hx03.trans hx10
 clear hx10
 refine .r rfl ?_
 refine .s (OpR.call fn_schur_PartialNorm rfl (hpn _ _ _ _ hM hL10.l64 (hok 1 (by omega) (by omega)))) ?_
 rintro _ w11 ⟨hx11,c,rfl,hc⟩
 replace hM:=hM.ext hx11
 replace hLO:=hLO.ext hx11
 replace ha:=ha.ext hx11
 replace B9:=B9.ext hx11
 replace hb:=hb.ext hx11
 replace B11:=B11.ext hx11
 replace hx03:=hx03.trans hx11
 clear hx11
 refine .r rfl ?_
 refine StL.newR rfl rfl (fun _=>rfl) hc.1 ?_
 intro b13 w12 _ hx12 B13
 replace hM:=hM.ext hx12
 replace hLO:=hLO.ext hx12
 replace ha:=ha.ext hx12
 replace B9:=B9.ext hx12
 replace hb:=hb.ext hx12
 replace B11:=B11.ext hx12
 replace hc:=hc.ext hx12
 replace hx03:=hx03.trans hx12
 clear hx12
 (iterate 6 refine Nv ?_;try refine .r rfl ?_)
 refine .cF ?_
 (iterate 6 refine Nv ?_;try refine .r rfl ?_)
 refine .s (OpR.call fn_r02_Small rfl (rsmallR_spec w12 0 (by decide) (by decide))) ?_
 rintro z w13 ⟨hx13,hz⟩
 replace hM:=hM.ext hx13
 replace hLO:=hLO.ext hx13
 replace ha:=ha.ext hx13
 replace B9:=B9.ext hx13
 replace hb:=hb.ext hx13
 replace B11:=B11.ext hx13
 replace hc:=hc.ext hx13
 replace B13:=B13.ext hx13
 replace hx03:=hx03.trans hx13
 clear hx13
 refine StL.newR rfl rfl (fun _=>rfl) hz.1 ?_
 intro b15 w14 hl15 hx14 B15
 (iterate 6 refine Nv ?_;try refine .r rfl ?_)
 refine St.cutX (fun _:Value=>[(9,.pointer (some ⟨b9,0,none⟩)),(10,.bool true),(11,.pointer (some ⟨b11,0,none⟩)),(13,.pointer (some ⟨b13,0,none⟩)),(15,.pointer (some ⟨b15,0,none⟩))]) (fun u w'=>Ext w13 w'∧Blk 33 w' b15 u.cells.toList∧CanR 0 w' u (P ys)) ?_ ?_
 ·by_cases h0:ys.length=0
  ·rw [show decide ((ys.length:Int) > 0)=false from decide_eq_false (by omega)]
   refine .cF ?_
   refine Nv ?_
   exact Out.met z sbb ⟨hx14,B15,by rw [hnil h0];exact hz.ext hx14⟩
  ·rw [show decide ((ys.length:Int) > 0)=true from decide_eq_true (by omega)]
   refine .cT ?_
   (iterate 6 refine Nv ?_;try refine .r rfl ?_)
   refine .s (OpR.call fn_schur_PartialNorm rfl (hpn _ _ _ _ (hM.ext hx14) (hLO.l64.ext hx14) ⟨hred,by omega,by rw [mk_len];omega,hts⟩)) ?_
   rintro _ w15 ⟨hx15,u,rfl,hu⟩
   refine .r rfl ?_
   refine StL.setR rfl rfl rfl hu.1 (B15.ext hx15) hz.1.len (hx14.trans hx15) hl15 ?_
   intro w16 B15' hu16 hx16
   refine .r rfl ?_
   exact StL.nil (Out.met u sbb ⟨hx16,B15',hu.upd hu16 (B15.ext hx15) (by decide)⟩)
 clear hx14 hl15 B15 hz
 rintro y w14 ⟨hx14,B15,hy⟩
 replace ha:=ha.ext hx14
 replace B9:=B9.ext hx14
 replace hb:=hb.ext hx14
 replace B11:=B11.ext hx14
 replace hc:=hc.ext hx14
 replace B13:=B13.ext hx14
 replace hx03:=hx03.trans hx14
 clear hx14
 (iterate 6 refine Nv ?_;try refine .r rfl ?_)
 refine .s (OpR.call fn_r02_Small rfl (rsmallR_spec w14 2 (by decide) (by decide))) ?_
 rintro two w15 ⟨hx15,htwo⟩
 replace ha:=ha.ext hx15
 replace B9:=B9.ext hx15
 replace hb:=hb.ext hx15
 replace B11:=B11.ext hx15
 replace hc:=hc.ext hx15
 replace B13:=B13.ext hx15
 replace hy:=hy.ext hx15
 replace B15:=B15.ext hx15
 replace hx03:=hx03.trans hx15
 clear hx15
 refine StL.newR rfl rfl (fun _=>rfl) htwo.1 ?_
 intro b16 w16 _ hx16 B16
 replace ha:=ha.ext hx16
 replace B9:=B9.ext hx16
 replace hb:=hb.ext hx16
 replace B11:=B11.ext hx16
 replace hc:=hc.ext hx16
 replace B13:=B13.ext hx16
 replace hy:=hy.ext hx16
 replace B15:=B15.ext hx16
 replace htwo:=htwo.ext hx16
 replace hx03:=hx03.trans hx16
 clear hx16
 have e2:((2:Int):Rat)=2:=rfl
 rw [e2] at htwo
 obtain ⟨hsq,hmin⟩:=hmin
 have zt:rz (2:Rat)≤1:=by decide +kernel
 have zh:=rz_half
 have zac:=rz_add (P (-1::ys)) (P (1::ys))
 have zhac:=rz_mul (Rat.divInt 1 2) (P (-1::ys)+P (1::ys))
 have zsq:=rz_sub (Rat.divInt 1 2 * (P (-1::ys)+P (1::ys))) (P (0::ys))
 have zca:=rz_sub (P (1::ys)) (P (-1::ys))
 have zsl:=rz_mul (Rat.divInt 1 2) (P (1::ys) - P (-1::ys))
 have zs2:=rz_mul (Rat.divInt 1 2 * (P (1::ys) - P (-1::ys))) (Rat.divInt 1 2 * (P (1::ys) - P (-1::ys)))
 have z22:=rz_mul 2 2
 have z2q:=rz_mul (2 * 2) (Rat.divInt 1 2 * (P (-1::ys)+P (1::ys)) - P (0::ys))
 refine Nv ?_
 refine St.sub (E':=[(9,.pointer (some ⟨b9,0,none⟩)),(10,.bool true),(11,.pointer (some ⟨b11,0,none⟩)),(13,.pointer (some ⟨b13,0,none⟩)),(15,.pointer (some ⟨b15,0,none⟩)),(16,.pointer (some ⟨b16,0,none⟩))]) ?_ sbb
 refine St.flow 8 TBfol (by kernel_rfl) rfl (by kernel_rfl) rfl True.intro ?_
 refine FL.callE fn_r02_Half rfl rfl rfl (fun wk hxk=>CallF.mk rfl (rhalf_spec wk)) (MonoR.canR 0 _) ?_
 refine .on (fun _ hR=>RunsTo.loadR rfl rfl (hR.blk (B9) (by simp)) (ha.1)) ?_
 refine .on (fun _ hR=>RunsTo.loadR rfl rfl (hR.blk (B13) (by simp)) (hc.1)) ?_
 refine FL.callE fn_r02_Add rfl rfl rfl (fun wk hxk=>CallF.mk rfl (raddR_spec ((ha.ext hxk).dnS (by omega)) ((hc.ext hxk).dnS (by omega)) (by omega) (by omega))) (MonoR.canR 0 _) ?_
 refine FL.callE fn_r02_Mul rfl rfl rfl (fun wk hxk t1 h1 t2 h2=>CallF.mk rfl (rmulR_spec (h1.dnS (by omega)) (h2.dnS (by omega)) (by omega) (by omega))) (MonoR.canR 0 _) ?_
 refine .on (fun _ hR=>RunsTo.loadR rfl rfl (hR.blk (B11) (by simp)) (hb.1)) ?_
 refine FL.callE fn_r02_Sub rfl rfl rfl (fun wk hxk t1 h1=>CallF.mk rfl (rsubR_spec (h1.dnS (by omega)) ((hb.ext hxk).dnS (by omega)) (by omega) (by omega))) (MonoR.canR 0 _) ?_
 refine FL.alloc TBok rfl rfl rfl rfl ?_
 refine FL.endE rfl ?_
 rintro w17 hx17 _ ⟨b17,C17,rfl,hg17,B17,hl17⟩ t77 h77 _ _ _ _ _ _ _ _
 refine StL.setR rfl rfl rfl h77.1 B17 hl17 hx17 hg17 ?_
 intro w18 B17' hu18 hx18
 replace h77:=h77.upd hu18 B17 (by decide)
 clear hu18 B17 hx17
 replace ha:=ha.ext hx18
 replace B9:=B9.ext hx18
 replace hb:=hb.ext hx18
 replace B11:=B11.ext hx18
 replace hc:=hc.ext hx18
 replace B13:=B13.ext hx18
 replace hy:=hy.ext hx18
 replace B15:=B15.ext hx18
 replace htwo:=htwo.ext hx18
 replace B16:=B16.ext hx18
 replace hx03:=hx03.trans hx18
 clear hx18
 generalize Rat.divInt 1 2 * (P (-1::ys)+P (1::ys)) - P (0::ys)=SQ at *
 refine Nv ?_
 refine St.sub (E':=[(9,.pointer (some ⟨b9,0,none⟩)),(10,.bool true),(11,.pointer (some ⟨b11,0,none⟩)),(13,.pointer (some ⟨b13,0,none⟩)),(15,.pointer (some ⟨b15,0,none⟩)),(16,.pointer (some ⟨b16,0,none⟩)),(17,.pointer (some ⟨b17,0,none⟩))]) ?_ sbb
 refine St.flow 6 TBfol (by kernel_rfl) rfl (by kernel_rfl) rfl True.intro ?_
 refine FL.callE fn_r02_Half rfl rfl rfl (fun wk hxk=>CallF.mk rfl (rhalf_spec wk)) (MonoR.canR 0 _) ?_
 refine .on (fun _ hR=>RunsTo.loadR rfl rfl (hR.blk (B13) (by simp)) (hc.1)) ?_
 refine .on (fun _ hR=>RunsTo.loadR rfl rfl (hR.blk (B9) (by simp)) (ha.1)) ?_
 refine FL.callE fn_r02_Sub rfl rfl rfl (fun wk hxk=>CallF.mk rfl (rsubR_spec ((hc.ext hxk).dnS (by omega)) ((ha.ext hxk).dnS (by omega)) (by omega) (by omega))) (MonoR.canR 0 _) ?_
 refine FL.callE fn_r02_Mul rfl rfl rfl (fun wk hxk t1 h1 t2 h2=>CallF.mk rfl (rmulR_spec (h1.dnS (by omega)) (h2.dnS (by omega)) (by omega) (by omega))) (MonoR.canR 0 _) ?_
 refine FL.alloc TBok rfl rfl rfl rfl ?_
 refine FL.endE rfl ?_
 rintro w19 hx19 _ ⟨b18,C18,rfl,hg18,B18,hl18⟩ t82 h82 _ _ _ _ _ _
 refine StL.setR rfl rfl rfl h82.1 B18 hl18 hx19 hg18 ?_
 intro w20 B18' hu20 hx20
 replace h82:=h82.upd hu20 B18 (by decide)
 clear hu20 B18 hx19
 replace hb:=hb.ext hx20
 replace B11:=B11.ext hx20
 replace hy:=hy.ext hx20
 replace B15:=B15.ext hx20
 replace htwo:=htwo.ext hx20
 replace B16:=B16.ext hx20
 replace h77:=h77.ext hx20
 replace B17':=B17'.ext hx20
 replace hx03:=hx03.trans hx20
 clear hx20
 generalize Rat.divInt 1 2 * (P (1::ys) - P (-1::ys))=SL at *
 have hne:2 * 2 * SQ≠0:=by grind
 refine Nv ?_
 refine St.sub (E':=[(10,.bool true),(11,.pointer (some ⟨b11,0,none⟩)),(15,.pointer (some ⟨b15,0,none⟩)),(16,.pointer (some ⟨b16,0,none⟩)),(17,.pointer (some ⟨b17,0,none⟩)),(18,.pointer (some ⟨b18,0,none⟩))]) ?_ sbb
 refine St.flow 14 TBfol (by kernel_rfl) rfl (by kernel_rfl) rfl True.intro ?_
 refine .on (fun _ hR=>RunsTo.loadR rfl rfl (hR.blk (B18') (by simp)) (h82.1)) ?_
 refine .on (fun _ hR=>RunsTo.loadR rfl rfl (hR.blk (B18') (by simp)) (h82.1)) ?_
 refine FL.callE fn_r02_Mul rfl rfl rfl (fun wk hxk=>CallF.mk rfl (rmulR_spec ((h82.ext hxk).dnS (by omega)) ((h82.ext hxk).dnS (by omega)) (by omega) (by omega))) (MonoR.canR 0 _) ?_
 refine .on (fun _ hR=>RunsTo.loadR rfl rfl (hR.blk (B16) (by simp)) (htwo.1)) ?_
 refine .on (fun _ hR=>RunsTo.loadR rfl rfl (hR.blk (B16) (by simp)) (htwo.1)) ?_
 refine FL.callE fn_r02_Mul rfl rfl rfl (fun wk hxk=>CallF.mk rfl (rmulR_spec ((htwo.ext hxk).dnS (by omega)) ((htwo.ext hxk).dnS (by omega)) (by omega) (by omega))) (MonoR.canR 0 _) ?_
 refine .on (fun _ hR=>RunsTo.loadR rfl rfl (hR.blk (B17') (by simp)) (h77.1)) ?_
 refine FL.callE fn_r02_Mul rfl rfl rfl (fun wk hxk t1 h1=>CallF.mk rfl (rmulR_spec (h1.dnS (by omega)) ((h77.ext hxk).dnS (by omega)) (by omega) (by omega))) (MonoR.canR 0 _) ?_
 refine FL.callE fn_r02_Quo (ψ:=fun v w'=>∃ r,v=.tuple #[r,.bool true]∧CanR 0 w' r (SL * SL / (2 * 2 * SQ))) rfl rfl rfl (fun wk hxk t1 h1 t2 h2=>?_) (fun _ _ _ hR ⟨r,h1,h2⟩=>⟨r,h1,h2.rg hR⟩) ?_
 ·refine CallF.mk rfl ((rquoR_spec (h1.dnS (by omega)) (h2.dnS (by omega)) (by omega) (by omega)).mono ?_)
  rintro _ w' ⟨x,rfl,hx,hq⟩
  exact ⟨x,rfl,hx,hq.2 hne⟩
 refine FL.fact (L:=[]) (ψ:=fun v w'=>∃ r,v=.tuple #[r,.bool true]∧CanR 0 w' r (SL * SL / (2 * 2 * SQ))) rfl rfl rfl rfl rfl (fun w7 hR t1 h1=>(RunsTo.pure TBok rfl).op.mono (by rintro _ _ ⟨rfl,rfl⟩;exact ⟨Ext.refl _,h1⟩)) (fun _ _ _ hR ⟨r,h1,h2⟩=>⟨r,h1,h2.rg hR⟩) ?_
 refine FL.fact (L:=[]) (ψ:=fun v w'=>CanR 0 w' v (SL * SL / (2 * 2 * SQ))) rfl rfl rfl rfl rfl (fun w7 hR t1 h1=>?_) (MonoR.canR 0 _) ?_
 ·obtain ⟨r,rfl,hr⟩:=h1
  exact (RunsTo.pure TBok rfl).op.mono (by rintro _ _ ⟨rfl,rfl⟩;exact ⟨Ext.refl _,hr⟩)
 refine FL.fact (L:=[]) (ψ:=Is (.bool true)) rfl rfl rfl rfl rfl (fun w7 hR t1 h1=>?_) (MonoR.is _ _) ?_
 ·obtain ⟨r,rfl,hr⟩:=h1
  exact (RunsTo.pure TBok rfl).op.mono (by rintro _ _ ⟨rfl,rfl⟩;exact ⟨Ext.refl _,rfl⟩)
 refine FL.alloc TBok rfl rfl rfl rfl ?_
 refine FL.storeN (L:=[]) (base:=w20.heap.size) TBok rfl rfl rfl rfl rfl (MonoR.canR 0 (SL * SL / (2 * 2 * SQ))) ?_ ?_
 ·intro w7 hR v11 h11 v24 h24
  exact ⟨⟨v11,rfl,h11⟩,v24,rfl,h24.1.len,h24.1.ones,h24⟩
 refine FL.endE rfl ?_
 rintro w21 hx21 _ ⟨b19,C19,rfl,hg19,_,_⟩ _ rfl _ _ _ _ _ _ _ _ _ _ _ _ ⟨⟨b19',u19,hbu,B19,hu19⟩,_⟩ hdist
 cases hbu
 clear hdist
 replace hb:=hb.ext hx21
 replace B11:=B11.ext hx21
 replace hy:=hy.ext hx21
 replace B15:=B15.ext hx21
 replace h77:=h77.ext hx21
 replace B17':=B17'.ext hx21
 replace hx03:=hx03.trans hx21
 clear hx21
 refine .r rfl ?_
 have zgain:rz (SL * SL / (2 * 2 * SQ))≤30000:=by
  have a1:=rz_inv (2 * 2 * SQ)
  have a2:=rz_mul (SL * SL) (2 * 2 * SQ)⁻¹
  rw [← Rat.div_def] at a2
  omega
 have zbg:=rz_sub (P (0::ys)) (SL * SL / (2 * 2 * SQ))
 refine Nv ?_
 refine St.sub (E':=[(10,.bool true),(11,.pointer (some ⟨b11,0,none⟩)),(15,.pointer (some ⟨b15,0,none⟩)),(17,.pointer (some ⟨b17,0,none⟩)),(19,.pointer (some ⟨b19,0,none⟩)),(20,.bool true)]) ?_ sbb
 refine St.flow 14 TBfol (by kernel_rfl) rfl (by kernel_rfl) rfl True.intro ?_
 refine FL.run TBok 99 rfl ?_
 refine .on (fun _ hR=>RunsTo.loadR rfl rfl (hR.blk (B17') (by simp)) (h77.1)) ?_
 refine FL.callXE fn_r02_Sign rfl rfl rfl (fun wk hxk=>CallF.mk rfl (rsignR_spec ((h77.ext hxk).dnS (by omega)))) ?_
 refine FL.as TBok 1 (.bool true) rfl (bool_true (signI_pos' hsq)) ?_
 refine FL.run TBok 99 rfl ?_
 refine .on (fun _ hR=>RunsTo.loadR rfl rfl (hR.blk (B15) (by simp)) (hy.1)) ?_
 refine .on (fun _ hR=>RunsTo.loadR rfl rfl (hR.blk (B11) (by simp)) (hb.1)) ?_
 refine .on (fun _ hR=>RunsTo.loadR rfl rfl (hR.blk (B19) (by simp)) (hu19.1)) ?_
 refine FL.callE fn_r02_Sub rfl rfl rfl (fun wk hxk=>CallF.mk rfl (rsubR_spec ((hb.ext hxk).dnS (by omega)) ((hu19.ext hxk).dnS (by omega)) (by omega) (by omega))) (MonoR.canR 0 _) ?_
 refine FL.endE rfl ?_
 rintro w22 hx22 t108 h108 _ _
 replace hy:=hy.ext hx22
 replace hx03:=hx03.trans hx22
 clear hx22
 refine .s (OpR.call fn_r02_Cmp rfl (rcmpR_spec (hy.dnS (by omega)) (h108.dnS (by omega)) (by omega) (by omega))) ?_
 rintro _ w23 ⟨hx23,rfl⟩
 refine .a 1 (.bool true) rfl (by rw [cmp_zero hmin];rfl) ?_
 refine .r rfl ?_
 refine StL.awk10 rfl rfl ?_
 intro wz hxz
 (iterate 6 refine Nv ?_;try refine .r rfl ?_)
 exact Out.ret1 rfl rfl ⟨(hx03.trans hx23).trans hxz,rfl⟩
section
variable (bc n:Nat) (f:Nat→Nat→Int) (B b:Int)
end
section
variable {w w':World} {q:Nat} {C:List Int} (hu:Upd q w w') (hB:Blk 3 w q (C.map i64))
include hu hB
end
end Go.Qf
namespace Go.Qf
open Go Go.RowKit Go.Proofs
def ngL (ys:List Int):List Int:=ys.map (fun y=>-y)
theorem ngL_len (ys:List Int):(ngL ys).length=ys.length:=by simp [ngL]
theorem yv_ng (ys:List Int) (i:Nat):yv (ngL ys) i=-yv ys i:=by
 unfold yv ngL
 rw [List.getD_eq_getElem?_getD,List.getD_eq_getElem?_getD,List.getElem?_map]
 cases ys[i]? <;> rfl
theorem sc_ng (f:Nat→Nat→Int) (n:Nat) (ys:List Int):scI f n (ngL ys)=scI f n ys:=by
 unfold scI
 rw [ngL_len]
 refine sumN_congr fun i _=>?_
 rw [yv_ng]
 have:sumN ys.length (fun j=>stI f (n - ys.length) i j * yv (ngL ys) j)=(-1) * sumN ys.length (fun j=>stI f (n - ys.length) i j * yv ys j):=by
  rw [← sumN_lmul]
  exact sumN_congr fun j _=>by rw [yv_ng];grind
 rw [this]
 grind
end Go.Qf
namespace Go.Qf
open Go Go.RowKit Go.Proofs
set_option maxRecDepth 20000
theorem rwithin_spec {w:World} {x:Value} {a:Int} (h:CanO 0 w x a) (hz:sz a≤1000) (hb:-4611686018427387904≤a∧a≤4611686018427387904) :
  Calls Tryz.prog 128 #[x] w (Ret fun r w'=>Ext w w'∧r=.tuple #[.int .i64 a,.bool true]):=by
 obtain ⟨n,s,rfl,_⟩:=h.r2
 refine calls_of_St (args:=[_]) Tryz.func128 rfl Tryz.ntmps128 rfl ?_
 refine Nv ?_
 refine .s (OpR.box rfl) ?_
 rintro _ w1 ⟨rfl,B1,hx1,hz1⟩
 (iterate 6 refine Nv ?_;try refine .r rfl ?_)
 refine .p (RunsTo.loadCan rfl B1 (h.ext hx1)) ?_
 refine .s (OpR.call fn_r01_Int64 rfl (rint64_dn ((h.ext hx1).dn (by omega)))) ?_
 rintro _ w2 ⟨hx2,rfl⟩
 rw [show int64V a=.tuple #[.int .i64 a,.bool true] from if_pos (by omega)]
 refine .r rfl ?_
 refine Nv ?_
 refine .a 5 (.bool false) rfl (bool_false (by omega)) ?_
 refine .a 4 (.bool false) rfl (bool_false (by omega)) ?_
 (iterate 6 refine Nv ?_;try refine .r rfl ?_)
 refine .cF ?_
 (iterate 6 refine Nv ?_;try refine .r rfl ?_)
 exact Out.rets TBok [_,_] rfl ⟨rfl,rfl,trivial⟩ ⟨hx1.trans hx2,rfl⟩
theorem rvalid_spec {w:World} {hv xv:Value} {M:List (List Int)} {ys:List Int} (h:M64 w hv M) (h64:M64b M) (hl:M.length≤1000) (k:L64 w xv ys) (hR:Red M) (hy:ys.length=M.length) (hT:TailOk ys) :
  Calls Tryz.prog 127 #[hv,xv] w (Ret fun x w'=>Ext w w'∧x=.bool true):=by
 obtain ⟨ph,ch,e⟩:=h.len
 subst e
 obtain ⟨px,cx,e⟩:=k.len
 subst e
 refine calls_of_St (args:=[_,_]) Tryz.func127 rfl Tryz.ntmps127 rfl ?_
 (iterate 6 refine Nv ?_;try refine .r rfl ?_)
 refine .s (OpR.call fn_r08_IsReduced rfl (risReduced_spec h h64)) ?_
 rintro _ w1 ⟨hx1,b,rfl,hb⟩
 obtain rfl:=hb.2 hR
 refine .r rfl ?_
 refine .s (OpR.call fn_r09_Fits rfl (fits_spec (k.ext hx1) (by omega) (by omega))) ?_
 rintro _ w2 ⟨hx2,b,rfl,hbt⟩
 obtain rfl:=hbt.2 ⟨hy,hT⟩
 (iterate 6 refine Nv ?_;try refine .r rfl ?_)
 exact Out.ret1 rfl rfl ⟨hx1.trans hx2,rfl⟩
theorem ent_sz {n:Nat} {f:Nat→Nat→Int} (h:RedF n f) (hn:n≤8):∀ i j,i<n→j<n→sz (f i j)≤2:=fun i j hi hj=>by
 have:=h.ent hn hi hj
 exact sz_small (by omega) (by omega)
theorem Sm.at {ys:List Int} (h:Sm ys) (i:Nat):-128≤yv ys i∧yv ys i≤127:=by
 unfold yv
 rw [List.getD_eq_getElem?_getD]
 cases e:ys[i]? with
 | none=>simp
 | some z=>exact h z (List.mem_of_getElem? e)
theorem sc_bnd {n:Nat} {f:Nat→Nat→Int} {ys:List Int} (h:RedF n f) (hn:n≤8) (hl:ys.length=n) (hs:Sm ys):-4611686018427387904≤scI f n ys∧scI f n ys≤4611686018427387904:=by
 unfold scI
 rw [hl,Nat.sub_self]
 have h1:∀ i j,i<n→j<n→-33554432≤stI f 0 i j * yv ys j∧stI f 0 i j * yv ys j≤33554432:=fun i j hi hj=>by
  have a1:=h.ent hn hi hj
  have a2:=hs.at j
  rw [stI_zero]
  have:=mul_bnd (x:=f i j) (y:=yv ys j) (a:=262144) (b:=128) (by omega) (by omega)
  omega
 have h2:∀ i,i<n→-268435456≤sumN n (fun j=>stI f 0 i j * yv ys j)∧sumN n (fun j=>stI f 0 i j * yv ys j)≤268435456:=fun i hi=>by
  have:=sumN_bnd (M:=33554432) n (fun j hj=>h1 i j hi hj)
  omega
 have h3:∀ i,i<n→-34359738368≤yv ys i * sumN n (fun j=>stI f 0 i j * yv ys j)∧yv ys i * sumN n (fun j=>stI f 0 i j * yv ys j)≤34359738368:=fun i hi=>by
  have a1:=h2 i hi
  have a2:=hs.at i
  have:=mul_bnd (x:=yv ys i) (y:=sumN n (fun j=>stI f 0 i j * yv ys j)) (a:=128) (b:=268435456) (by omega) (by omega)
  omega
 have:=sumN_bnd (M:=34359738368) n h3
 omega
theorem product9_spec {w:World} {hv xv:Value} {M:List (List Int)} {ys:List Int} (h:M64 w hv M) (h64:M64b M) (k:L64 w xv ys) (hR:Red M) (hy:ys.length=M.length) (hT:TailOk ys) :
  Calls Tryz.prog 129 #[hv,xv,xv] w (Ret fun x w'=>Ext w w'∧CanO 0 w' x (scI (ent M) M.length ys)):=by
 have hF:=hR.redF.1
 have hn:1≤M.length∧M.length≤8:=⟨hR.1.1,hR.2.2.1⟩
 have hmk:=hR.mk
 have hsz:=ent_sz hF hn.2
 have hsc:scI (ent M) M.length ys=sumN M.length (fun i=>yv ys i * sumN M.length (fun j=>ent M i j * yv ys j)):=by
  unfold scI
  rw [hy,Nat.sub_self]
  exact sumN_congr fun i _=>by rw [sumN_congr fun j _=>by rw [stI_zero]]
 have hs:∀ i j,i<M.length→j<M.length→sz (ent M i j * yv ys j)≤2000:=fun i j hi hj=>by
  have a1:=hsz i j hi hj
  have a2:=hT.sz j
  have a3:=sz_mul (ent M i j) (yv ys j)
  omega
 have hzi:∀ i,i<M.length→sz (sumN M.length (fun l=>ent M i l * yv ys l))≤2008:=fun i hi=>Nat.le_trans (sz_sumN M.length (fun l hl=>hs i l hi hl)) (by omega)
 have hof:∀ (w:World) (v:Value),M64 w v M→Calls Tryz.prog 37 #[v] w (Ret fun r w'=>Ext w w'∧MI w' r (mk M.length M.length (ent M))):=fun w v h=>by
  refine (of_spec (base:=0) w v _ h (Nat.zero_le _) h64).mono ?_
  rintro e w' ⟨x,rfl,hx,⟨_,rs,hC⟩ | ⟨hno,_⟩⟩
  ·refine ⟨x,rfl,hx,?_⟩
   rw [hmk] at hC
   exact hC.mi (mi_sz hsz (by omega))
  ·exact absurd hR.1 hno
 rw [hsc]
 obtain ⟨px,cx,e⟩:=k.len
 subst e
 refine calls_of_St (args:=[_,_,_]) Tryz.func129 rfl Tryz.ntmps129 rfl ?_
 refine Nv ?_
 refine .s (OpR.alloc TBok rfl) ?_
 rintro _ w1 ⟨rfl,B6,hx1,hz1⟩
 (iterate 6 refine Nv ?_;try refine .r rfl ?_)
 refine .s (OpR.call fn_r03_Of rfl (hof _ _ (h.ext hx1))) ?_
 rintro A w2 ⟨hx2,hA⟩
 have hx02:=hx1.trans hx2
 refine .r rfl ?_
 refine .s (OpR.call fn_r09_Column rfl (column_spec (k.ext hx02) (by omega) hT.t64)) ?_
 rintro C w3 ⟨hx3,hC⟩
 rw [hy] at hC
 refine .s (OpR.call fn_r03_Apply rfl (apply_spec (hA.ext hx3) (hC.lp (fun j _=>by have:=hT.sz j;omega)) ⟨hn.1,by omega⟩ hs)) ?_
 rintro _ w4 ⟨hx4,u,rfl,hu⟩
 have hx04:=(hx02.trans hx3).trans hx4
 (iterate 6 refine Nv ?_;try refine .r rfl ?_)
 refine .s (OpR.call fn_r09_Column rfl (column_spec (k.ext hx04) (by omega) hT.t64)) ?_
 rintro D w5 ⟨hx5,hD⟩
 rw [hy] at hD
 have hx05:=hx04.trans hx5
 refine .r rfl ?_
 refine .s (OpR.call fn_r03_Dot rfl (dotL_spec (s:=2010) (hD.lp (fun j _=>by have:=hT.sz j;omega)) ((hu.ext hx5).lp (fun j hj=>by have:=hzi j hj;omega)) (by omega) (fun l hl=>by have:=hzi l hl;have:=hT.sz l;have:=sz_mul (yv ys l) (sumN M.length (fun j=>ent M l j * yv ys j));omega) (by omega))) ?_
 rintro z w6 ⟨hx6,hz⟩
 refine StL.setCan rfl rfl ((B6.ext (((hx2.trans hx3).trans hx4).trans hx5)).ext hx6) rfl hz (hx05.trans hx6) (Nat.le_refl _) ?_
 intro w7 B6' hu7 hz7 hx7
 (iterate 6 refine Nv ?_;try refine .r rfl ?_)
 exact Out.retI rfl rfl B6' hz7 ⟨hx7,hz7⟩
theorem rnorm_spec {w:World} {hv xv:Value} {M:List (List Int)} {ys:List Int} (h:M64 w hv M) (h64:M64b M) (k:L64 w xv ys) (hR:Red M) (hy:ys.length=M.length) (hs:Sm ys) :
  Calls Tryz.prog 27 #[hv,xv] w (Ret fun x w'=>Ext w w'∧x=.tuple #[.int .i64 (scI (ent M) M.length ys),.bool true]):=by
 have hT:TailOk ys:=fun y hh=>by have:=hs y hh;omega
 have hF:=hR.redF.1
 have hn:1≤M.length∧M.length≤8:=⟨hR.1.1,hR.2.2.1⟩
 have hb:=sc_bnd hF hn.2 hy hs
 have hinner:Calls Tryz.prog 66 #[hv,xv,xv] w (Ret fun x w'=>Ext w w'∧x=.tuple #[.int .i64 (scI (ent M) M.length ys),.bool true]):=by
  refine calls_of_St (args:=[_,_,_]) Tryz.func66 rfl Tryz.ntmps66 rfl ?_
  (iterate 6 refine Nv ?_;try refine .r rfl ?_)
  refine .s (OpR.call fn_r09_Valid rfl (rvalid_spec h h64 (by omega) k hR hy hT)) ?_
  rintro _ w1 ⟨hx1,rfl⟩
  refine .r rfl ?_
  refine .s (OpR.call fn_r09_Valid rfl (rvalid_spec (h.ext hx1) h64 (by omega) (k.ext hx1) hR hy hT)) ?_
  rintro _ w2 ⟨hx2,rfl⟩
  have hx02:=hx1.trans hx2
  (iterate 6 refine Nv ?_;try refine .r rfl ?_)
  refine .cF ?_
  (iterate 6 refine Nv ?_;try refine .r rfl ?_)
  refine .s (OpR.call fn_r09_Product rfl (product9_spec (h.ext hx02) h64 (k.ext hx02) hR hy hT)) ?_
  rintro z w3 ⟨hx3,hz⟩
  refine .s (OpR.call fn_r09_within rfl (rwithin_spec hz (by have:=sz_small (show -18446744073709551616<scI (ent M) M.length ys by omega) (by omega);omega) hb)) ?_
  rintro _ w4 ⟨hx4,rfl⟩
  (iterate 6 refine Nv ?_;try refine .r rfl ?_)
  exact Out.rets TBok [_,_] rfl ⟨rfl,rfl,trivial⟩ ⟨(hx02.trans hx3).trans hx4,rfl⟩
 refine calls_of_St (args:=[_,_]) Tryz.func27 rfl Tryz.ntmps27 rfl ?_
 (iterate 6 refine Nv ?_;try refine .r rfl ?_)
 refine .s (OpR.call fn_r09_Inner rfl (hinner)) ?_
 rintro _ w1 ⟨hx1,rfl⟩
 (iterate 6 refine Nv ?_;try refine .r rfl ?_)
 exact Out.rets TBok [_,_] rfl ⟨rfl,rfl,trivial⟩ ⟨hx1,rfl⟩
theorem L64.drop {w:World} {p:Option Addr} {cap:Nat} {xs:List Int} (h:L64 w (.slice p xs.length cap) xs) {k:Nat} (hk:k≤xs.length):L64 w (.slice (if cap=k then p else p.map (·.add (k * 1))) (xs.length - k) (cap - k)) (xs.drop k):=by
 obtain ⟨p',cap',e,h1,h2,h3⟩:=h
 rw [List.length_map] at e h1
 cases e
 by_cases hc:cap=k
 ·refine ⟨_,_,by rw [List.length_map,List.length_drop],by rw [List.length_map,List.length_drop];omega,fun _=>by omega,fun a _ i c hi=>?_⟩
  have:xs.drop k=[]:=List.drop_eq_nil_of_le (by omega)
  rw [this] at hi
  simp at hi
 ·rw [if_neg hc]
  refine ⟨_,_,by rw [List.length_map,List.length_drop],by rw [List.length_map,List.length_drop];omega,fun e=>?_,fun a ha i c hi=>?_⟩
  ·cases p with
   | none=>have:=h2 rfl;omega
   | some a=>cases e
  ·cases p with
   | none=>cases ha
   | some b =>
    simp only [Option.map_some,Option.some.injEq] at ha
    subst ha
    have:=h3 b rfl (k+i) c (by rw [← hi,List.map_drop,List.getElem?_drop])
    rw [Nat.mul_one,Addr.add_add]
    exact this
theorem L64.drop' {w:World} {p:Option Addr} {n cap:Nat} {xs:List Int} (h:L64 w (.slice p n cap) xs) (hn:xs.length=n) {k:Nat} (hk:k≤n):L64 w (.slice (if cap=k then p else p.map (·.add (k * 1))) (n - k) (cap - k)) (xs.drop k):=by
 subst hn
 exact L64.drop h hk
theorem cmp_nneg {p q:Rat} (h:q≤p):¬ cmpR p q<0:=by
 intro k
 unfold cmpR at k
 split at k
 ·rename_i h1
  exact Rat.not_le.2 h1 h
 ·split at k <;> omega
theorem pn_grow {n:Nat} {f:Nat→Nat→Int} {t:List Int} (h:RedF n f) (hl:t.length<n) (x:Int):pnQ f n t≤pnQ f n (x::t):=by
 have hd:=ddI_pos h.pos (show n - t.length≤n by omega)
 have hd0:=ddI_pos h.pos (show n - t.length - 1≤n by omega)
 have hx:=sc_step h hl x
 have hn:=sq_nn (ddI f (n - t.length) * x+liI f n t)
 have hle:ddI f (n - t.length - 1) * scI f n t≤ddI f (n - t.length) * scI f n (x::t):=by omega
 have hdq:(0:Rat)<(ddI f (n - t.length):Rat):=by exact_mod_cast hd
 have hdq0:(0:Rat)<(ddI f (n - t.length - 1):Rat):=by exact_mod_cast hd0
 have hq:(ddI f (n - t.length - 1):Rat) * (scI f n t:Rat)≤(ddI f (n - t.length):Rat) * (scI f n (x::t):Rat):=by exact_mod_cast hle
 unfold pnQ
 rw [Rat.divInt_eq_div,Rat.divInt_eq_div,List.length_cons,show n - (t.length+1)=n - t.length - 1 by omega]
 refine Rat.not_lt.1 fun hlt=>?_
 rw [Rat.lt_div_iff hdq] at hlt
 have h1:=Rat.mul_lt_mul_of_pos_right hlt hdq0
 have e1:(scI f n (x::t):Rat) / (ddI f (n - t.length - 1):Rat) * (ddI f (n - t.length):Rat) * (ddI f (n - t.length - 1):Rat)=(ddI f (n - t.length):Rat) * (scI f n (x::t):Rat):=by grind
 grind
theorem pn_drop {n:Nat} {f:Nat→Nat→Int} {ys:List Int} (h:RedF n f) (hl:ys.length=n) {k:Nat} (hk:k<n):pnQ f n (ys.drop (k+1))≤pnQ f n (ys.drop k):=by
 have:ys.drop k=ys[k]'(by omega)::ys.drop (k+1):=by rw [List.drop_eq_getElem_cons]
 rw [this]
 exact pn_grow h (by rw [List.length_drop];omega) _
theorem pn_ng (f:Nat→Nat→Int) (n:Nat) (ys:List Int):pnQ f n (ngL ys)=pnQ f n ys:=by
 unfold pnQ
 rw [sc_ng,ngL_len]
theorem pn_full (f:Nat→Nat→Int) (n:Nat) {ys:List Int} (hl:ys.length=n):pnQ f n ys=((scI f n ys:Int):Rat):=by
 unfold pnQ
 rw [hl,Nat.sub_self,ddI_zero]
 rw [Rat.divInt_eq_div]
 show _ / (1:Rat)=_
 grind
theorem ng_drop (ys:List Int) (k:Nat):ngL (ys.drop k)=(ngL ys).drop k:=by
 unfold ngL
 rw [List.map_drop]
theorem Sm.neg {ys:List Int} (h:Sm ys):TailOk (ngL ys):=by
 intro y hy
 unfold ngL at hy
 obtain ⟨x,hx,rfl⟩:=List.mem_map.1 hy
 have:=h x hx
 omega
theorem TailOk.drop {ys:List Int} (h:TailOk ys) (k:Nat):TailOk (ys.drop k):=fun y hy=>h y (List.mem_of_mem_drop hy)
theorem ng_of {ys ms:List Int} {n:Nat} (h1:ys.length=n) (h2:ms.length=n) (h:∀ j,j<n→ms.getD j 0=-ys.getD j 0):ms=ngL ys:=by
 refine List.ext_getElem? fun i=>?_
 by_cases hi:i<n
 ·have:=h i hi
  rw [List.getD_eq_getElem?_getD,List.getD_eq_getElem?_getD] at this
  unfold ngL
  rw [List.getElem?_map]
  have e1:ms[i]?=some (ms[i]'(by omega)):=by simp
  have e2:ys[i]?=some (ys[i]'(by omega)):=by simp
  rw [e1,e2] at this ⊢
  simp only [Option.getD_some] at this
  rw [this]
  rfl
 ·rw [List.getElem?_eq_none (by omega),List.getElem?_eq_none (by rw [ngL_len];omega)]
set_option maxHeartbeats 6400000 in
theorem lawGrows (w:World) (v:Value) (hV:LatV w v) (l:Value) (zs:List Int) (hL:L8 w l zs) :
  Calls Tryz.prog 8 #[v,l] w (Ret fun r w'=>Ext w w'∧r=.bool true):=by
 obtain ⟨a0,a1,a2,a3,rfl⟩:=hV.agg
 refine calls_of_St (args:=[_,_]) Tryz.func8 rfl Tryz.ntmps8 rfl ?_
 refine Nv ?_
 refine .s (OpR.box rfl) ?_
 rintro _ w1 ⟨rfl,B1,hx1,hz1⟩
 (iterate 6 refine Nv ?_;try refine .r rfl ?_)
 refine .p (RunsTo.loadAgg TBok (cs:=[a0,a1,a2,a3]) rfl rfl rfl B1 (Nat.le_refl 4) rfl) ?_
 refine .s (OpR.call fn_quadformmake_Lattice_Form rfl (form_spec (most:=5) (hV.ext hx1) (by omega))) ?_
 rintro G w2 ⟨hx2,n,f,hn1,hn2,hM,hR⟩
 have hred:=redF_red hR hn1 (show n≤8 by omega)
 have h64:=redF_m64b hR (show n≤8 by omega)
 obtain ⟨M,hMe⟩:∃ M,M=mk n n f:=⟨_,rfl⟩
 rw [← hMe] at hM hred h64
 have hMn:M.length=n:=by rw [hMe,mk_len]
 clear hMe hR
 subst hMn
 obtain ⟨pg,cg,rfl⟩:=hM.len
 have hx02:=hx1.trans hx2
 have hMl:M.length≤1000000:=by omega
 have hF:=hred.redF.1
 (iterate 6 refine Nv ?_;try refine .r rfl ?_)
 refine .s (OpR.call fn_quadformmake_Vector rfl (vector_spec (hL.ext hx02) (show M.length≤1000 by omega))) ?_
 rintro Y w3 ⟨hx3,ys,hyl,hys,hLO⟩
 have hx03:=hx02.trans hx3
 replace hM:=hM.ext hx3
 have hts:TailOk ys:=fun y hh=>by have:=hys y hh;omega
 obtain ⟨py,cy,rfl⟩:=hLO.l64.len
 have hL64:=hLO.l64
 rw [hyl] at hLO hL64 ⊢
 (iterate 6 refine Nv ?_;try refine .r rfl ?_)
 refine .s (OpR.make TBok M.length rfl rfl rfl rfl rfl rfl rfl rfl (by show M.length * 8≤_;omega) (by omega)) ?_
 rintro _ w4 ⟨rfl,B4,hx4,hz4⟩
 have hO:LO w3.heap.size w4 (.slice (some ⟨w3.heap.size,0,none⟩) M.length M.length) (List.replicate M.length 0):=by
  refine ⟨i64_sh _,.inr ⟨w3.heap.size,M.length,[],by simp,Nat.le_refl _,?_,by simp,by simp,by unfold maxLen;omega⟩⟩
  rw [List.append_nil,flat_one _ (i64_cells _),List.map_replicate]
  exact B4
 clear B4
 (iterate 6 refine Nv ?_;try refine .r rfl ?_)
 refine St.rng TBok (28) (0) (M.length) (by omega) [(5,.slice pg M.length cg),(6,.slice py M.length cy),(7,.slice (some ⟨w3.heap.size,0,none⟩) M.length M.length),(27,.int .i64 M.length)] (fun i w'=>Ext w3 w'∧∃ ms:List Int,ms.length=M.length∧(∀ j,j<i→ms.getD j 0=-ys.getD j 0)∧LO w3.heap.size w' (.slice (some ⟨w3.heap.size,0,none⟩) M.length M.length) ms) sbb ?_ (fun _=>⟨rfl,rfl⟩) (fun _=>rfl) (fun _=>⟨rfl,rfl⟩) rfl rfl (by omega) ?_ ?_
 ·exact ⟨hx4,_,by simp,fun j hj=>by omega,hO⟩
 ·clear hO
  rintro i w5 hi ⟨hx5,ms,hml,hms,hO⟩
  obtain ⟨aa,c,e,hc⟩:=(hL64.ext hx5).cell (j:=i) (by omega)
  rw [hyl] at e
  cases e
  obtain ⟨g,cap,D,e,hg,hB,hput⟩:=hO.put (by intro e;rw [e] at hml;simp at hml;omega)
  rw [hml] at e hput
  cases e
  have hyi:-128≤ys.getD i 0∧ys.getD i 0≤127:=hys.at i
  (iterate 6 refine Nv ?_;try refine .r rfl ?_)
  refine .p (RunsTo.ia) ?_
  refine .p (RunsTo.load TBok rfl rfl rfl hc) ?_
  refine .a 1 (.int .i64 (-ys.getD i 0)) rfl (by rw [i64_id (by omega) (by omega)];congr 1;omega) ?_
  refine StL.put TBok i hB rfl (by omega) (by rw [List.length_append,List.length_map];omega) rfl rfl rfl rfl rfl rfl rfl rfl (fun _=>rfl) (fun _=>rfl) rfl rfl ?_
  intro p6 w6 hB6 hu6
  rw [Nat.zero_add] at hB6
  refine Nv ?_
  refine Out.rnd sbb ⟨hx5.then_upd hu6 hg,ms.set i (-ys.getD i 0),by simpa using hml,fun j hj=>?_,hput i _ w6 hi hB6⟩
  by_cases e:j=i
  ·subst e
   rw [List.getD_eq_getElem?_getD,List.getElem?_set_self (by omega)]
   rfl
  ·rw [List.getD_eq_getElem?_getD,List.getElem?_set_ne (by omega),← List.getD_eq_getElem?_getD]
   exact hms j (by omega)
 ·clear hO hx4 hz4
  rintro w5 ⟨hx5,ms,hml,hms,hO⟩
  have hng:=ng_of hyl hml hms
  subst hng
  have hO64:=hO.l64
  clear hms hO
  replace hM:=hM.ext hx5
  replace hL64:=hL64.ext hx5
  replace hx03:=hx03.trans hx5
  clear hx5
  (iterate 6 refine Nv ?_;try refine .r rfl ?_)
  refine .s (OpR.call fn_r02_Small rfl (rsmallR_spec w5 0 (by decide) (by decide))) ?_
  rintro z w6 ⟨hx6,hz⟩
  replace hM:=hM.ext hx6
  replace hL64:=hL64.ext hx6
  replace hO64:=hO64.ext hx6
  replace hx03:=hx03.trans hx6
  clear hx6
  refine StL.newR rfl rfl (fun _=>rfl) hz.1 ?_
  intro b9 w7 hl9 hx7 B9
  refine .r rfl ?_
  refine Nv ?_
  refine .a 3 (.int .i64 ((M.length:Int) - 1)) rfl (by rw [i64_id (by omega) (by omega)]) ?_
  have hPd:∀ k,k<M.length→PNok M (ys.drop k)∧PNok M ((ngL ys).drop k):=fun k hk=>⟨⟨hred,by rw [List.length_drop];omega,by rw [List.length_drop];omega,hts.drop k⟩,⟨hred,by rw [List.length_drop,ngL_len];omega,by rw [List.length_drop,ngL_len];omega,(Sm.neg hys).drop k⟩⟩
  have hPz:∀ k,k≤M.length→rz (pnQ (ent M) M.length (ys.drop k))≤3000:=fun k hk=>rz_pn hF (by omega) (by rw [List.length_drop];omega) (hts.drop k)
  have hPn:∀ k,pnQ (ent M) M.length ((ngL ys).drop k)=pnQ (ent M) M.length (ys.drop k):=fun k=>by rw [← ng_drop,pn_ng]
  have hPm:∀ k,k<M.length→pnQ (ent M) M.length (ys.drop (k+1))≤pnQ (ent M) M.length (ys.drop k):=fun k hk=>pn_drop hF hyl hk
  have hP0:pnQ (ent M) M.length (ys.drop 0)=((scI (ent M) M.length ys:Int):Rat):=pn_full _ _ hyl
  have hPe:pnQ (ent M) M.length (ys.drop M.length)=0:=pnQ_nil _ _ (by rw [List.length_drop];omega)
  have hpn:∀ (w:World) (hv xv:Value) (zs:List Int),M64 w hv M→L64 w xv zs→PNok M zs→Calls Tryz.prog 15 #[hv,xv] w (Ret fun x w'=>Ext w w'∧∃ r,x=.tuple #[r,.bool true]∧CanR 0 w' r (pnQ (ent M) M.length zs)):=fun w hv xv zs h k hp=>pn_ok h hMl k hp
  have hnrm:=sc_bnd hF (by omega) hyl hys
  generalize pnQ (ent M) M.length=P at *
  (iterate 6 refine Nv ?_;try refine .r rfl ?_)
  refine St.loop (α:=Nat×Value) (fun g=>[(10,.int .i64 ((g.1:Int) - 1)),(5,.slice pg M.length cg),(6,.slice py M.length cy),(7,.slice (some ⟨w3.heap.size,0,none⟩) M.length M.length),(9,.pointer (some ⟨b9,0,none⟩))]) (fun g w'=>Ext w6 w'∧g.1≤M.length∧Blk 33 w' b9 g.2.cells.toList∧CanR 0 w' g.2 (P (ys.drop g.1))) (fun g=>g.1) (M.length,z) sbb ⟨hx7,Nat.le_refl _,B9,by rw [hPe];exact hz.ext hx7⟩ ?_
  clear B9 hx7 hz
  rintro ⟨m,y⟩ w8 ⟨hx8,hm,B9,hy⟩
  dsimp only at hm B9 hy ⊢
  by_cases h0:1≤m
  ·obtain ⟨k,rfl⟩:∃ k,m=k+1:=⟨m - 1,by omega⟩
   rw [show ((k+1:Nat):Int) - 1=(k:Int) by omega]
   refine Nv ?_
   refine .a 2 (.bool true) rfl (bool_true (by omega)) ?_
   (iterate 6 refine Nv ?_;try refine .r rfl ?_)
   refine .cT ?_
   obtain ⟨q1,q2⟩:=hPd k (by omega)
   have q3:=hPz k (by omega)
   have q4:=hPz (k+1) (by omega)
   have hxa:=hx03.trans hx8
   have hMa:=hM.ext hx8
   have hd1:=(hL64.ext hx8).drop' hyl (k:=k) (by omega)
   have hd2:=(hO64.ext hx8).drop' (by rw [ngL_len];exact hyl) (k:=k) (by omega)
   (iterate 6 refine Nv ?_;try refine .r rfl ?_)
   refine .p (RunsTo.sliceLo TBok rfl rfl rfl rfl k rfl (by omega)) ?_
   refine .r rfl ?_
   refine .s (OpR.call fn_schur_PartialNorm rfl (hpn _ _ _ _ hMa hd1 q1)) ?_
   rintro _ w9 ⟨hx9,a,rfl,ha⟩
   replace hMa:=hMa.ext hx9
   replace hd2:=hd2.ext hx9
   replace B9:=B9.ext hx9
   replace hy:=hy.ext hx9
   replace hx8:=hx8.trans hx9
   clear hx9
   refine .r rfl ?_
   refine StL.newR rfl rfl (fun _=>rfl) ha.1 ?_
   intro b11 w10 _ hx10 B11
   replace hMa:=hMa.ext hx10
   replace hd2:=hd2.ext hx10
   replace B9:=B9.ext hx10
   replace hy:=hy.ext hx10
   replace ha:=ha.ext hx10
   replace hx8:=hx8.trans hx10
   clear hx10
   (iterate 6 refine Nv ?_;try refine .r rfl ?_)
   refine .p (RunsTo.sliceLo TBok rfl rfl rfl rfl k rfl (by omega)) ?_
   refine .r rfl ?_
   refine .s (OpR.call fn_schur_PartialNorm rfl (hpn _ _ _ _ hMa hd2 q2)) ?_
   rintro _ w11 ⟨hx11,b,rfl,hb⟩
   rw [hPn] at hb
   replace B9:=B9.ext hx11
   replace hy:=hy.ext hx11
   replace ha:=ha.ext hx11
   replace B11:=B11.ext hx11
   replace hx8:=hx8.trans hx11
   clear hx11
   refine .r rfl ?_
   refine StL.newR rfl rfl (fun _=>rfl) hb.1 ?_
   intro b13 w12 _ hx12 B13
   replace B9:=B9.ext hx12
   replace hy:=hy.ext hx12
   replace ha:=ha.ext hx12
   replace B11:=B11.ext hx12
   replace hb:=hb.ext hx12
   replace hx8:=hx8.trans hx12
   clear hx12
   (iterate 6 refine Nv ?_;try refine .r rfl ?_)
   refine .p (RunsTo.loadR rfl rfl (B11) (ha.1)) ?_
   refine .p (RunsTo.loadR rfl rfl (B13) (hb.1)) ?_
   refine .s (OpR.call fn_r02_Same rfl (sameR_can ha hb (by omega))) ?_
   rintro _ w13 ⟨hx13,rfl⟩
   replace B9:=B9.ext hx13
   replace hy:=hy.ext hx13
   replace ha:=ha.ext hx13
   replace B11:=B11.ext hx13
   replace hx8:=hx8.trans hx13
   clear hx13
   refine .r rfl ?_
   refine .p (RunsTo.loadR rfl rfl (B11) (ha.1)) ?_
   refine .p (RunsTo.loadR rfl rfl (B9) (hy.1)) ?_
   refine .s (OpR.call fn_r02_Cmp rfl (rcmpR_spec (ha.dnS (by omega)) (hy.dnS (by omega)) (by omega) (by omega))) ?_
   rintro _ w14 ⟨hx14,rfl⟩
   replace B9:=B9.ext hx14
   replace hy:=hy.ext hx14
   replace ha:=ha.ext hx14
   replace B11:=B11.ext hx14
   replace hx8:=hx8.trans hx14
   clear hx14
   refine .a 1 (.bool false) rfl (bool_false (cmp_nneg (hPm k (by omega)))) ?_
   (iterate 6 refine Nv ?_;try refine .r rfl ?_)
   refine .cF ?_
   (iterate 6 refine Nv ?_;try refine .r rfl ?_)
   refine .p (RunsTo.loadR rfl rfl (B11) (ha.1)) ?_
   refine StL.setR rfl rfl rfl ha.1 B9 hy.1.len hx8 hl9 ?_
   intro w15 B9' hu15 hx15
   replace ha:=ha.upd hu15 B9 (by decide)
   refine .r rfl ?_
   refine Nv ?_
   refine .a 2 (.int .i64 ((k:Int) - 1)) rfl (by rw [i64_id (by omega) (by omega)]) ?_
   (iterate 6 refine Nv ?_;try refine .r rfl ?_)
   exact Out.again (k,a) sbb ⟨hx15,by show k≤_;omega,B9',ha⟩ (Nat.lt_succ_self k)
  ·obtain rfl:m=0:=by omega
   rw [hP0] at hy
   have hzl:rz ((scI (ent M) M.length ys:Int):Rat)≤3000:=by
    have:=hPz 0 (by omega)
    rwa [hP0] at this
   refine Nv ?_
   refine .a 2 (.bool false) rfl (bool_false (by show ¬ ((0:Nat):Int) - 1≥0;omega)) ?_
   (iterate 6 refine Nv ?_;try refine .r rfl ?_)
   refine .cF ?_
   replace hM:=hM.ext hx8
   replace hL64:=hL64.ext hx8
   replace hx03:=hx03.trans hx8
   clear hx8
   (iterate 6 refine Nv ?_;try refine .r rfl ?_)
   refine .s (OpR.call fn_r09_Norm rfl (rnorm_spec hM h64 hL64 hred hyl hys)) ?_
   rintro _ w9 ⟨hx9,rfl⟩
   replace B9:=B9.ext hx9
   replace hy:=hy.ext hx9
   replace hx03:=hx03.trans hx9
   clear hx9
   refine .r rfl ?_
   refine Nv ?_
   refine St.sub (E':=[(9,.pointer (some ⟨b9,0,none⟩)),(15,.int .i64 (scI (ent M) M.length ys))]) ?_ sbb
   refine St.flow 3 TBfol (by kernel_rfl) rfl (by kernel_rfl) rfl True.intro ?_
   refine .on (fun _ hR=>RunsTo.loadR rfl rfl (hR.blk (B9) (by simp)) (hy.1)) ?_
   refine FL.run TBok 99 rfl ?_
   refine FL.callE fn_r02_Small rfl rfl rfl (fun wk hxk=>CallF.mk rfl (rsmallR_spec wk (scI (ent M) M.length ys) (by omega) (by omega))) (MonoR.canR 0 _) ?_
   refine FL.endE rfl ?_
   rintro w10 hx10 t91 h91 _ _
   replace hy:=hy.ext hx10
   replace hx03:=hx03.trans hx10
   clear hx10
   refine .s (OpR.call fn_r02_Same rfl (sameR_can hy h91 (by omega))) ?_
   rintro _ w11 ⟨hx11,rfl⟩
   refine .r rfl ?_
   refine StL.awk10 rfl rfl ?_
   intro wz hxz
   (iterate 6 refine Nv ?_;try refine .r rfl ?_)
   exact Out.ret1 rfl rfl ⟨(hx03.trans hx11).trans hxz,rfl⟩
end Go.Qf
namespace Go.Qf
open Go Go.Proofs
theorem strip_cut (rest : List (List Char)) : stripLifts liftWords ("cut".toList :: rest) = ([], "cut".toList :: rest) := by kernel_rfl
theorem cutGc : ("cut".toList == "gc".toList) = false := by kernel_rfl
theorem cutSpec : ("cut".toList == "spec".toList) = false := by kernel_rfl
theorem cutCarried : ("cut".toList == "carried".toList) = false := by kernel_rfl
theorem cutCut : ("cut".toList == "cut".toList) = true := by kernel_rfl
section
variable {P : Program} {rest : List (List Char)} (h : behindMainWord (wordsSigns P.initOrder.toList) = "cut".toList :: rest)
include h
theorem make_of:P.make=some .cut:=by
 unfold Program.make
 rw [h]
 simp only [cutGc,cutSpec,cutCut,Bool.or_self,Bool.true_or,if_true,Bool.false_eq_true,if_false]
theorem heads_of:P.headLifts=[]:=by
 unfold Program.headLifts
 rw [h]
 simp only [strip_cut,ite_self]
theorem final_of:P.liftsFinal=false:=by
 unfold Program.liftsFinal
 rw [heads_of h]
 rw [h]
 simp only [List.head?_cons,Option.some_beq_some,cutCarried,Bool.false_and,List.contains_nil,Bool.or_false]
theorem enter_of (h1:P.laysLater=false) (h2:P.bearsReflect=false) (h3:P.doorFits []=true):P.mayEnter=true:=by
 unfold Program.mayEnter
 rw [h]
 simp only [strip_cut,h1,h2,h3,List.head?_cons,Option.some_beq_some,cutCut,Bool.not_false,Bool.or_true,Bool.and_true,List.contains_nil]
end
theorem words_of {P : Program} (h : (behindMainWord (wordsSigns P.initOrder.toList)).head? = some "cut".toList) : ∃ rest, behindMainWord (wordsSigns P.initOrder.toList) = "cut".toList :: rest := by
 generalize behindMainWord (wordsSigns P.initOrder.toList)=ws at h
 cases ws with
 | nil=>cases h
 | cons c r=>exact ⟨r,by simp only [List.head?_cons,Option.some.injEq] at h;rw [h]⟩
set_option maxRecDepth 100000 in
theorem wordsCut : (behindMainWord (wordsSigns Tryz.prog.initOrder.toList)).head? = some "cut".toList := by
 rw [show Tryz.prog.initOrder.toList=_ from String.toList_ofList]
 kernel_rfl
theorem laysNot:Tryz.prog.laysLater=false:=by kernel_rfl
theorem reflNot:Tryz.prog.bearsReflect=false:=by kernel_rfl
theorem doorOk:Tryz.prog.doorFits []=true:=by kernel_rfl
theorem enterOk:Tryz.prog.mayEnter=true:=by
 obtain ⟨rest,h⟩:=words_of wordsCut
 exact enter_of h laysNot reflNot doorOk
theorem finalNo:Tryz.prog.liftsFinal=false:=by
 obtain ⟨rest,h⟩:=words_of wordsCut
 exact final_of h
theorem makeCut:Tryz.prog.make=some .cut:=by
 obtain ⟨rest,h⟩:=words_of wordsCut
 exact make_of h
end Go.Qf
