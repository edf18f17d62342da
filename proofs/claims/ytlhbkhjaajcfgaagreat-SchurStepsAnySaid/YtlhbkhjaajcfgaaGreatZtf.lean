/- Lemmas on the model and on the program's functions, part Ztf. -/
import GoSem.Core.View
import Derived.WalkKit
import Derived.Deep.Quiet
import Derived.Deep.LoopGhost
import Derived.KernelRfl
import Derived.Test.YtlhbkhjaajcfgaaGreatProg
import Derived.Laws.BytesString
import Derived.Laws.RangeString
import Derived.Lib.OthersKept
import Derived.Laws.Strings
import Derived.ProofKit
import Derived.OpenShut
import Derived.Lib.SmallJoins
import Derived.Carry
import Derived.ChangeMaps5
import Derived.Maps.AppendAt
import Derived.Laws.Externs
import Derived.Lib.Bytealg
import Derived.ChangeArms
import Derived.Laws.OwnMore
import Derived.Scope
import Derived.RangeFuncLeaves
import Derived.RangeFuncRecord
import Derived.TacticsIn
import Derived.OrdersIn
import Derived.Test.YtlhbkhjaajcfgaaGreatRows
import Derived.Test.YtlhbkhjaajcfgaaGreatZta
import Derived.Test.YtlhbkhjaajcfgaaGreatZtb
import Derived.Test.YtlhbkhjaajcfgaaGreatZtc
import Derived.Test.YtlhbkhjaajcfgaaGreatZtd
import Derived.Test.YtlhbkhjaajcfgaaGreatZte
set_option linter.unusedVariables false
set_option linter.unusedSimpArgs false
namespace Go.Qf
open Go Go.RowKit Go.Proofs
set_option maxRecDepth 20000
theorem mul_bnd {x y a b:Int} (hx:-a≤x∧x≤a) (hy:-b≤y∧y≤b):-(a * b)≤x * y∧x * y≤a * b:=by
 have ha:x.natAbs≤a.natAbs:=by omega
 have hb:y.natAbs≤b.natAbs:=by omega
 have h:=Nat.mul_le_mul ha hb
 rw [← Int.natAbs_mul,← Int.natAbs_mul] at h
 have h2:0≤a * b:=Int.mul_nonneg (by omega) (by omega)
 omega
set_option maxHeartbeats 6400000 in
theorem isReduced_spec {w:World} {v:Value} {M:List (List Int)} (h:M64 w v M) (hl:M.length≤1000000) :
  Calls Tryz.prog 39 #[v] w (Ret fun x w'=>Ext w w'∧∃ b,x=.bool b∧(b=true↔Red M)):=by
 refine calls_of_St (args:=[_]) Tryz.func39 rfl Tryz.ntmps39 rfl ?_
 (iterate 6 refine Nv ?_;try refine .r rfl ?_)
 refine .s (OpR.call fn_lll_isSmall rfl (isSmall_spec h hl)) ?_
 rintro _ w1 ⟨hx1,b,rfl,hb⟩
 cases b
 ·(iterate 6 refine Nv ?_;try refine .r rfl ?_)
  refine .cT ?_
  (iterate 6 refine Nv ?_;try refine .r rfl ?_)
  exact Out.ret1 rfl rfl ⟨hx1,false,rfl,⟨fun h=>(by cases h),fun h=>hb.2 h.small⟩⟩
 obtain ⟨hn8,hrow,hent⟩:=hb.1 rfl
 have hA:MatAt w1 v M.length (ent M):=(M64.at (n:=M.length) (f:=ent M) (by rw [← sq_mk hrow];exact h) (by omega)).ext hx1
 have hsymI:∀ p q,ent M p q=ent M q p:=by
  intro p q
  by_cases hp:p<M.length
  ·by_cases hq:q<M.length
   ·exact (hent p q hp hq).1
   ·rw [ent_out rfl hrow (.inr (by omega)),ent_out rfl hrow (.inl (by omega))]
  ·rw [ent_out rfl hrow (.inl (by omega)),ent_out rfl hrow (.inr (by omega))]
 have hS:Sym (RA (ent M)):=fun p q=>by unfold RA;rw [hsymI p q]
 have hf:∀ p q,p<M.length→q<M.length→RA (ent M) p q≤262144∧-262144≤RA (ent M) p q:=by
  intro p q hp hq
  obtain ⟨_,h1,h2⟩:=hent p q hp hq
  unfold RA
  have:=rlt2.2 h2
  have:=rgt2.2 h1
  constructor <;> grind
 have hred:Red M→Pos M.length (RA (ent M))∧dd (RA (ent M)) M.length≤10000∧RdP M.length (RA (ent M)):=fun h=>⟨h.redF.1.pos,h.redF.1.det,h.redF.1.rd⟩
 have hred2:Pos M.length (RA (ent M))→dd (RA (ent M)) M.length≤10000→RdP M.length (RA (ent M))→Red M:=by
  intro h1 h2 h3
  have:=redF_red ⟨hsymI,h1,h2,h3⟩ hn8.1 hn8.2
  rw [← sq_mk hrow] at this
  exact this
 have hmin:Red M→∀ k,k≤M.length→dd (RA (ent M)) k<65536:=fun h k hk=>red_minor hn8.2 (hred h).1 (hred h).2.2 (hred h).2.1 hk
 generalize hn:M.length=n at *
 generalize ent M=f at *
 clear hent hrow hb
 (iterate 6 refine Nv ?_;try refine .r rfl ?_)
 refine .cF ?_
 (iterate 6 refine Nv ?_;try refine .r rfl ?_)
 refine St.loop (α:=Nat×Value×(Nat→Nat→Int)×Int) (fun s=>[(3,s.2.1),(4,.int .i64 s.2.2.2)]) (fun s w'=>Ext w w'∧s.1<n∧MatAt w' s.2.1 (n - s.1) s.2.2.1∧Stg n f s.1 s.2.2.1 s.2.2.2∧OkS n f s.1∧∀ l,0<l→l≤s.1→LvP (RA f) l) (fun s=>n - s.1) (0,v,f,1) sbb ?_ ?_
 ·refine ⟨hx1,by show 0<n;omega,hA,⟨rfl,fun i j hi hj=>?_⟩,?_,fun l h1 h2=>absurd h2 (by show ¬ l≤0;omega)⟩
  ·rw [Nat.zero_add,Nat.zero_add,BB_zero];rfl
  ·refine ⟨fun m hm=>?_,fun m hm=>?_,fun l hl=>?_⟩
   ·obtain rfl:m=0:=by omega
    show (0:Rat)<1;decide
   ·obtain rfl:m=0:=by omega
    show (1:Rat)<65536;decide
   ·exact absurd hl (by show ¬ l<0;omega)
 ·clear hA hx1 w1
  rintro ⟨k,S,g,L⟩ w2 ⟨hx2,hkn,hA,hSt,hO,hlv⟩
  dsimp only at hkn hA hSt hO hlv ⊢
  have hk8:k≤8:=by omega
  obtain ⟨hL0,hL1⟩:=hSt.L_pos hO
  have hgb:∀ i j,i<n - k→j<n - k→-25769803776≤g i j∧g i j≤25769803776:=fun i j hi hj=>hSt.bnd hS hO hk8 hf hi hj
  have hA0:=hA
  obtain ⟨a,cap,rfl,hca,hA⟩:=hA
  obtain ⟨b0,c0,hc0,_,hd0⟩:=hA 0 (by omega)
  (iterate 6 refine Nv ?_;try refine .r rfl ?_)
  by_cases h1:n - k > 1
  ·refine St.condT rfl (decide_eq_true (by omega)) ?_
   (iterate 6 refine Nv ?_;try refine .r rfl ?_)
   refine .p (RunsTo.ia) ?_
   refine .p (RunsTo.load TBok rfl rfl rfl hc0) ?_
   refine .p (RunsTo.ia) ?_
   refine .p (RunsTo.load TBok rfl rfl rfl (hd0 0 (by omega))) ?_
   (iterate 6 refine Nv ?_;try refine .r rfl ?_)
   refine .s (OpR.call fn_lll_isShortened rfl (isShortened_spec hA0 (by omega) (fun i j hi hj=>by have:=hgb i j hi hj;omega))) ?_
   rintro _ w3 ⟨hx3,b,rfl,hb⟩
   cases b
   ·(iterate 6 refine Nv ?_;try refine .r rfl ?_)
    refine .cT ?_
    (iterate 6 refine Nv ?_;try refine .r rfl ?_)
    refine Out.ret1 rfl rfl ⟨hx2.trans hx3,false,rfl,⟨fun h=>(by cases h),fun h=>hb.2 ((hSt.short hkn).2 ⟨⟨(hred h).1 (k+1) (by omega),hmin h (k+1) (by omega)⟩,fun i h1 h2=>(hred h).2.2.1 i k h2 h1⟩)⟩⟩
   have hsh:=hb.1 rfl
   have hO1:=hO.next hSt hsh hkn
   have hSt1:=hSt.next hO1.pos (by omega)
   have hd0b:=hsh.1
   have hcol:∀ i,0<i→i<n - k→-32768≤g i 0∧g i 0≤32768:=fun i h1 h2=>by have:=hsh.2 i h1 h2;omega
   (iterate 6 refine Nv ?_;try refine .r rfl ?_)
   refine .cF ?_
   refine Nv ?_
   obtain ⟨m,hm⟩:∃ m,m=n - k - 1:=⟨_,rfl⟩
   refine .a 3 (.int .i64 m) rfl (by rw [i64_id (by omega) (by omega)];congr 1;omega) ?_
   refine .s (OpR.make TBok m rfl rfl rfl rfl rfl rfl rfl rfl (by show m * 24≤_;omega) (by omega)) ?_
   rintro _ w4 ⟨rfl,B,hx4,hz4⟩
   have h0:=matW_nil (base:=w3.heap.size) (Nat.le_refl _) (by omega) B
   rw [← fst_zero m m (nxt g L)] at h0
   (iterate 6 refine Nv ?_;try refine .r rfl ?_)
   refine St.rng TBok (32) (0) (m) (by omega) [(3,.slice (some a) (n - k) cap),(4,.int .i64 L),(5,.int .i64 (g 0 0)),(6,.slice (some ⟨w3.heap.size,0,none⟩) m m),(31,.int .i64 m)] (fun i w'=>Ext w3 w'∧∃ rs,MatW rs w3.heap.size w' (.slice (some ⟨w3.heap.size,0,none⟩) m m) (fst m m i (nxt g L))) sbb ?_ (fun _=>⟨rfl,rfl⟩) (fun _=>rfl) (fun _=>⟨rfl,rfl⟩) rfl rfl (by omega) ?_ ?_
   ·exact ⟨hx4,_,h0⟩
   ·clear h0 B hx4 hz4
    rintro i w5 hi ⟨hx5,rs,hM⟩
    obtain ⟨b1,c1,hc1,_,hd1⟩:=hA (i+1) (by omega)
    have hx25:=hx3.trans hx5
    refine Nv ?_
    refine .r rfl ?_
    refine Nv ?_
    refine .a 3 (.int .i64 ((i+1:Nat):Int)) rfl (i64_succ (by omega)) ?_
    refine .p (RunsTo.ia) ?_
    refine .p (RunsTo.load TBok rfl rfl rfl (hx25.cell hc1)) ?_
    (iterate 6 refine Nv ?_;try refine .r rfl ?_)
    refine .s (OpR.make TBok m rfl rfl rfl rfl rfl rfl rfl rfl (by show m * 8≤_;omega) (by omega)) ?_
    rintro _ w6 ⟨rfl,B6,hx6,hz6⟩
    refine StL.putRowW (w0:=w3) (hM.ext hx6) (by rw [fst_len];exact hi) (Nat.le_refl _) (hx5.trans hx6) B6 hx5.size (fun r hr=>hM.blkLt r hr _ (Nat.le_refl _)) (by omega) rfl rfl rfl (fun _=>rfl) rfl rfl (fun _=>rfl) ?_
    intro p7 w7 hx7 hM7
    rw [fst_add hi] at hM7
    obtain ⟨a3,rr,ea,_,hrr,hc3⟩:=hM7.rowAt (i:=i) (by rw [fst_len];exact hi)
    cases ea
    generalize hrs7:rs.set i (.slice (some ⟨w5.heap.size,0,none⟩) m m)=rs7 at hM7 hrr
    have hrv:rr=.slice (some ⟨w5.heap.size,0,none⟩) m m:=by
     have hrl:=hM.rsl
     rw [fst_len] at hrl
     rw [← hrs7,List.getElem?_set_self (by omega)] at hrr
     simpa using hrr.symm
    subst hrv
    clear hrs7 hM hx6 B6 hc3
    (iterate 6 refine Nv ?_;try refine .r rfl ?_)
    refine St.rng TBok (48) (0) (m) (by omega) [(32,.int .i64 i),(3,.slice (some a) (n - k) cap),(4,.int .i64 L),(5,.int .i64 (g 0 0)),(6,.slice (some ⟨w3.heap.size,0,none⟩) m m),(31,.int .i64 m),(7,.int .i64 i),(8,.slice (some b1) (n - k) c1),(47,.int .i64 m)] (fun j w'=>Ext w3 w'∧MatW rs7 w3.heap.size w' (.slice (some ⟨w3.heap.size,0,none⟩) m m) (fst m m (i+1) (fil (nxt g L) i j))) sbb ?_ (fun _=>⟨rfl,rfl⟩) (fun _=>rfl) (fun _=>⟨rfl,rfl⟩) rfl rfl (by omega) ?_ ?_
    ·refine ⟨hx7,?_⟩
     rw [fst_congr (g:=fun a b=>if a<i then nxt g L a b else 0)]
     ·exact hM7
     ·intro a b ha hb
      unfold fil
      by_cases e:a<i
      ·rw [if_pos (.inl e),if_pos e]
      ·rw [if_neg (by omega),if_neg e]
    ·clear hM7 hx7
     rintro j w8 hj ⟨hx8,hM8⟩
     have hx28:=hx3.trans hx8
     obtain ⟨a3,rr2,ea,_,hrr2,hc3⟩:=hM8.rowAt (i:=i) (by rw [fst_len];exact hi)
     cases ea
     rw [hrr] at hrr2
     cases hrr2
     have q1:=hgb (i+1) (j+1) (by omega) (by omega)
     have q2:=hcol (i+1) (by omega) (by omega)
     have q3:=hgb 0 (j+1) (by omega) (by omega)
     have p1:=mul_bnd (x:=g 0 0) (y:=g (i+1) (j+1)) (a:=65536) (b:=25769803776) (by omega) (by omega)
     have p2:=mul_bnd (x:=g (i+1) 0) (y:=g 0 (j+1)) (a:=32768) (b:=25769803776) (by omega) (by omega)
     have hq:=hSt1.bnd hS hO1 (by omega) hf (i:=i) (j:=j) (by omega) (by omega)
     (iterate 6 refine Nv ?_;try refine .r rfl ?_)
     refine St.sub (E':=[(48,.int .i64 j),(32,.int .i64 i),(3,.slice (some a) (n - k) cap),(4,.int .i64 L),(5,.int .i64 (g 0 0)),(6,.slice (some ⟨w3.heap.size,0,none⟩) m m),(31,.int .i64 m),(7,.int .i64 i),(8,.slice (some b1) (n - k) c1),(47,.int .i64 m),(9,.int .i64 j)]) ?_ sbb
     refine St.flow 26 TBfol (by kernel_rfl) rfl (by kernel_rfl) rfl True.intro ?_
     refine FL.run TBok 99 rfl ?_
     refine .on (fun _ _=>RunsTo.ia) ?_
     refine .on (fun _ hR=>RunsTo.load TBok rfl rfl rfl (hR.ext_nil.cell hc3)) ?_
     refine FL.as TBok 5 (.int .i64 ((j+1:Nat):Int)) rfl (i64_succ (by omega)) ?_
     refine .on (fun _ _=>RunsTo.ia) ?_
     refine .on (fun _ hR=>RunsTo.load TBok rfl rfl rfl (hR.ext_nil.cell (hx28.cell (hd1 (j+1) (by omega))))) ?_
     refine FL.as TBok 1 (.int .i64 (g 0 0 * g (i+1) (j+1))) rfl (by rw [i64_id (by omega) (by omega)]) ?_
     refine FL.run TBok 99 rfl ?_
     refine .on (fun _ _=>RunsTo.ia) ?_
     refine .on (fun _ hR=>RunsTo.load TBok rfl rfl rfl (hR.ext_nil.cell (hx28.cell (hd1 0 (by omega))))) ?_
     refine FL.run TBok 99 rfl ?_
     refine .on (fun _ _=>RunsTo.ia) ?_
     refine .on (fun _ hR=>RunsTo.load TBok rfl rfl rfl (hR.ext_nil.cell (hx28.cell hc0))) ?_
     refine FL.as TBok 2 (.int .i64 ((j+1:Nat):Int)) rfl (i64_succ (by omega)) ?_
     refine .on (fun _ _=>RunsTo.ia) ?_
     refine .on (fun _ hR=>RunsTo.load TBok rfl rfl rfl (hR.ext_nil.cell (hx28.cell (hd0 (j+1) (by omega))))) ?_
     refine FL.as TBok 1 (.int .i64 (g (i+1) 0 * g 0 (j+1))) rfl (by rw [i64_id (by omega) (by omega)]) ?_
     refine FL.as TBok 1 (.int .i64 (g 0 0 * g (i+1) (j+1) - g (i+1) 0 * g 0 (j+1))) rfl (by rw [i64_id (by omega) (by omega)]) ?_
     refine FL.run TBok 99 rfl ?_
     refine .on (fun _ _=>RunsTo.quoT rfl rfl (by omega)) ?_
     refine FL.endE rfl ?_
     intro w9 hx9 _ _
     have hqe:IntKind.i64.wrap ((g 0 0 * g (i+1) (j+1) - g (i+1) 0 * g 0 (j+1)).tdiv L)=nxt g L i j:=i64_id (by unfold nxt at hq;omega) (by unfold nxt at hq;omega)
     rw [hqe]
     refine StL.putW (w0:=w3) (hM8.ext hx9) hrr (fst_get hi) (j:=j) (by rw [if_pos (by omega),tab_len];exact hj) (Nat.le_refl _) (hx8.trans hx9) rfl rfl rfl (fun _=>rfl) rfl rfl (fun _=>rfl) ?_
     intro p10 w10 hx10 hM10
     rw [if_pos (by omega),fst_set hi (by omega) hj] at hM10
     refine Nv ?_
     refine Out.rnd sbb ⟨hx10,?_⟩
     rw [fst_congr (g:=upd2 (fil (nxt g L) i j) i j (nxt g L i j))]
     ·exact hM10
     ·intro a b ha hb
      unfold upd2 fil
      by_cases e:a=i∧b=j
      ·rw [if_pos e,if_pos (by omega),e.1,e.2]
      ·rw [if_neg e]
       by_cases e2:a<i∨a=i∧b<j
       ·rw [if_pos e2,if_pos (by omega)]
       ·rw [if_neg e2,if_neg (by omega)]
    ·rintro w8 ⟨hx8,hM8⟩
     refine Nv ?_
     refine Out.rnd sbb ⟨hx8,rs7,?_⟩
     rw [fst_congr (g:=fil (nxt g L) i m)]
     ·exact hM8
     ·intro a b ha hb
      unfold fil
      rw [if_pos (by omega)]
   ·rintro w5 ⟨hx5,rs,hM⟩
    rw [fst_all] at hM
    have hx25:=hx3.trans hx5
    have hN:=hM.m64.at (by omega)
    have hN0:=hN
    obtain ⟨aN,capN,eN,_,hN⟩:=hN
    cases eN
    obtain ⟨bN,cN,hcN,_,hdN⟩:=hN 0 (by omega)
    obtain ⟨b1,c1,hc1,_,hd1⟩:=hA 1 (by omega)
    have q1:=hSt1.bnd hS hO1 (by omega) hf (i:=0) (j:=0) (by omega) (by omega)
    have q2:=hcol 1 (by omega) (by omega)
    have p1:=mul_bnd (x:=L) (y:=nxt g L 0 0) (a:=65536) (b:=25769803776) (by omega) (by omega)
    have p2:=mul_bnd (x:=g 1 0) (y:=g 1 0) (a:=32768) (b:=32768) (by omega) (by omega)
    have p3:=mul_bnd (x:=3 * g 0 0) (y:=g 0 0) (a:=196608) (b:=65536) (by omega) (by omega)
    have hlov:=hSt.lov hSt1 (by omega)
    (iterate 6 refine Nv ?_;try refine .r rfl ?_)
    refine .p (RunsTo.ia) ?_
    refine .p (RunsTo.load TBok rfl rfl rfl (hx25.cell hc1)) ?_
    refine .p (RunsTo.ia) ?_
    refine .p (RunsTo.load TBok rfl rfl rfl (hx25.cell (hd1 0 (by omega)))) ?_
    (iterate 6 refine Nv ?_;try refine .r rfl ?_)
    refine .p (RunsTo.ia) ?_
    refine .p (RunsTo.load TBok rfl rfl rfl hcN) ?_
    refine .p (RunsTo.ia) ?_
    refine .p (RunsTo.load TBok rfl rfl rfl (hdN 0 (by omega))) ?_
    refine .a 1 (.int .i64 (L * nxt g L 0 0)) rfl (by rw [i64_id (by omega) (by omega)]) ?_
    refine .a 3 (.int .i64 (g 1 0 * g 1 0)) rfl (by rw [i64_id (by omega) (by omega)]) ?_
    refine .a 1 (.int .i64 (L * nxt g L 0 0+g 1 0 * g 1 0)) rfl (by rw [i64_id (by omega) (by omega)]) ?_
    refine .a 1 (.int .i64 (4 * (L * nxt g L 0 0+g 1 0 * g 1 0))) rfl (by rw [i64_id (by omega) (by omega)]) ?_
    refine .a 2 (.int .i64 (3 * g 0 0)) rfl (by rw [i64_id (by omega) (by omega)]) ?_
    refine .a 2 (.int .i64 (3 * g 0 0 * g 0 0)) rfl (by rw [i64_id (by omega) (by omega)]) ?_
    by_cases hlt:4 * (L * nxt g L 0 0+g 1 0 * g 1 0)<3 * g 0 0 * g 0 0
    ·refine .a 1 (.bool true) rfl (bool_true hlt) ?_
     (iterate 6 refine Nv ?_;try refine .r rfl ?_)
     refine .cT ?_
     (iterate 6 refine Nv ?_;try refine .r rfl ?_)
     exact Out.ret1 rfl rfl ⟨hx2.trans hx25,false,rfl,⟨fun h=>(by cases h),fun h=>absurd (hlov.1 ((hred h).2.2.2 (k+1) (by omega) (by omega))) (by omega)⟩⟩
    ·refine .a 1 (.bool false) rfl (bool_false hlt) ?_
     (iterate 6 refine Nv ?_;try refine .r rfl ?_)
     refine .cF ?_
     (iterate 6 refine Nv ?_;try refine .r rfl ?_)
     refine Out.again (k+1,.slice (some ⟨w3.heap.size,0,none⟩) m m,nxt g L,g 0 0) sbb ⟨hx2.trans hx25,by show k+1<n;omega,?_,hSt1,hO1,fun l h1 h2=>?_⟩ (by show n - (k+1)<n - k;omega)
     ·rw [show n - (k+1)=m by omega];exact hN0
     ·by_cases e:l=k+1
      ·rw [e];exact hlov.2 (by omega)
      ·exact hlv l h1 (by have:l≤k+1:=h2;omega)
  ·refine St.condF rfl (decide_eq_false (by omega)) ?_
   have hk1:n=k+1:=by omega
   have hdd:=hSt.2 0 0 (by omega) (by omega)
   rw [Nat.add_zero,BB_diag,← hk1] at hdd
   (iterate 6 refine Nv ?_;try refine .r rfl ?_)
   refine .p (RunsTo.ia) ?_
   refine .p (RunsTo.load TBok rfl rfl rfl hc0) ?_
   refine .p (RunsTo.ia) ?_
   refine .p (RunsTo.load TBok rfl rfl rfl (hd0 0 (by omega))) ?_
   have hRd:RdP n (RA f):=⟨fun i j hi hj=>hO.sz j (by omega) i hj hi,fun i h1 h2=>hlv i h1 (by omega)⟩
   by_cases hp:g 0 0 > 0
   ·refine .a 1 (.bool true) rfl (bool_true hp) ?_
    refine .r rfl ?_
    refine .p (RunsTo.ia) ?_
    refine .p (RunsTo.load TBok rfl rfl rfl hc0) ?_
    refine .p (RunsTo.ia) ?_
    refine .p (RunsTo.load TBok rfl rfl rfl (hd0 0 (by omega))) ?_
    (iterate 6 refine Nv ?_;try refine .r rfl ?_)
    refine Out.ret1 rfl rfl ⟨hx2,_,rfl,?_⟩
    rw [decide_eq_true_eq]
    constructor
    ·intro hle
     refine hred2 (fun m hm=>?_) ?_ hRd
     ·by_cases e:m=n
      ·rw [e,← hdd];exact_mod_cast hp
      ·exact hO.pos m (by omega)
     ·rw [← hdd];exact (Rat.intCast_le_intCast (a:=g 0 0) (b:=10000)).2 hle
    ·intro hR
     have:=(hred hR).2.1
     rw [← hdd] at this
     exact (Rat.intCast_le_intCast (a:=g 0 0) (b:=10000)).1 this
   ·refine .a 1 (.bool false) rfl (bool_false hp) ?_
    (iterate 6 refine Nv ?_;try refine .r rfl ?_)
    refine Out.ret1 rfl rfl ⟨hx2,false,rfl,⟨fun h=>(by cases h),fun hR=>?_⟩⟩
    exfalso
    have:=(hred hR).1 n (Nat.le_refl _)
    rw [← hdd] at this
    have:0<g 0 0:=by exact_mod_cast this
    omega
section
variable {P:Program} {T:List (Nat×TI)} {n:Nat} {E:List (Nat×Value)} {w:World} {Q:Exit→Act→World→Prop} {s:Prop}
theorem OpR.callV {f:FuncId} {fn:Func} (hF:IsFn P f fn) {d:Option Tmp} {x:Operand} {args:Array Operand} {tys:Array TypeId} {ty:TypeId} {pos:String} {af:Array Edge} {g:Option (Nat×Bool)} {vs:List Value} {fst cap:Array Value} {Φ:Value→World→Prop}
  (hx:ov E x=some (.func (.func f) fst cap)) (hargs:ovs E args.toList=some vs) (hc:Calls P f (fst++vs.toArray++cap) w (Ret Φ)) :
  OpR P n ⟨d,.call ⟨.value x,args,tys⟩,ty,pos,af,g⟩ E w Φ:=by
 intro a ha Q K hK
 have hm:=ovs_map ha _ _ hargs
 have hA:args.map a.eval=vs.toArray:=by
  rw [← hm]
  apply Array.toList_inj.1
  simp
 have hev:=ha.eval hx
 have hrun:(execOp a.eval ⟨d,.call ⟨.value x,args,tys⟩,ty,pos,af,g⟩).run P w=.ok (.enter f (fst++vs.toArray++cap)) w:=by
  simp only [execOp,resolve,hev,Deferred.ofValue,hA,Sem.run_bind,Sem.run_pure,Result.andThen_ok,invoke,callFunc]
  have hp:(program).run P w=.ok P w:=by simp [go_sem]
  simp only [hp,Result.andThen_ok,hF.func,hF.name,hF.body,Bool.false_eq_true,if_false,Sem.run_pure]
 unfold Oper.wp
 rw [hrun,Oper.upon_enter]
 refine hc.mono ?_
 rintro e w' ⟨v,rfl,hv⟩
 exact hK v w' hv
theorem RunsTo.func {f:Fn} {d:Option Tmp} {fs cs:Array Operand} {ty:TypeId} {pos:String} {af:Array Edge} {g:Option (Nat×Bool)} {us vs:List Value} (hf:ovs E fs.toList=some us) (hc:ovs E cs.toList=some vs) :
  RunsTo P n ⟨d,.makeFunc f fs cs,ty,pos,af,g⟩ E w (.func f us.toArray vs.toArray):=by
 intro a ha
 have h1:=ovs_map ha _ _ hf
 have h2:=ovs_map ha _ _ hc
 have e1:fs.map a.eval=us.toArray:=by
  rw [← h1]
  apply Array.toList_inj.1
  simp
 have e2:cs.map a.eval=vs.toArray:=by
  rw [← h2]
  apply Array.toList_inj.1
  simp
 simp [execOp,Instr.makeFunc,e1,e2,go_sem]
theorem St.scope {c:Code} (h:St P n E w c (Exit.noGoto Q)):St P n E w (.scope c) Q:=fun a ha=>wp_scope_straight (h a ha)
theorem St.label {l:Nat} (h:Out n E w .normal Q):St P n E w (.label l) Q:=fun a ha=>wp_label (h a ha)
instance {c:Code} [h:Nav (St P n E w c (Exit.noGoto Q)) s]:Nav (St P n E w (.scope c) Q) s:=⟨fun x=>St.scope (h.go x)⟩
instance {l:Nat} [h:Nav (Out n E w .normal Q) s]:Nav (St P n E w (.label l) Q) s:=⟨fun x=>St.label (h.go x)⟩
instance [h:Nav (Out n E w .normal Q) s]:Nav (Out n E w .normal (Exit.noGoto Q)) s:=⟨fun x=>h.go x⟩
instance [h:Nav (Out n E w .ret Q) s]:Nav (Out n E w .ret (Exit.noGoto Q)) s:=⟨fun x=>h.go x⟩
instance {id:Nat} [h:Nav (Out n E w (.exit id) Q) s]:Nav (Out n E w (.exit id) (Exit.noGoto Q)) s:=⟨fun x=>h.go x⟩
end
def ClosI (w:World) (v:Value) (r c:Nat) (G:Nat→Nat→Int):Prop:=∃ f fn cap,IsFn Tryz.prog f fn∧v=.func (.func f) #[] cap∧∀ w1,Ext w w1→∀ i j:Nat,i<r→j<c→Calls Tryz.prog f (#[]++[.int .i64 i,.int .i64 j].toArray++cap) w1 (Ret fun x w2=>Ext w1 w2∧CanO 0 w2 x (G i j))
theorem zI_can (w:World):CanO 0 w zI 0:=canO_zero 0 w
theorem matC_nil {base n:Nat} {w:World} {g:Nat} (hb:base≤g) (hn:n≤1000000) (B:Blk 45 w g (List.replicate n (.slice none 0 0))):MatC (List.replicate n (.slice none 0 0)) base w (.slice (some ⟨g,0,none⟩) n n) (List.replicate n []):=by
 refine ⟨List.replicate n [],⟨⟨?_,.inr ⟨g,n,[],by rw [List.length_replicate],hb,?_,by simp,by simp,by unfold maxLen;omega⟩⟩,by simp,?_,?_,?_⟩,by simp,?_⟩
 ·intro u hu;rw [List.eq_of_mem_replicate hu];exact ⟨rfl,by simp [Value.cells,Value.oneCell']⟩
 ·rw [flat_one _ (fun u hu=>by rw [List.eq_of_mem_replicate hu];rfl),List.append_nil];exact B
 ·intro u hu;rw [List.eq_of_mem_replicate hu];rfl
 ·intro i s us hs hus
  have e1:=List.eq_of_mem_replicate (List.mem_of_getElem? hs)
  have e2:=List.eq_of_mem_replicate (List.mem_of_getElem? hus)
  subst e1;subst e2
  exact RowO.nil
 ·intro i j s t _ hs _ _
  rw [List.eq_of_mem_replicate (List.mem_of_getElem? hs)];rfl
 ·intro i us row hus hrow
  have e1:=List.eq_of_mem_replicate (List.mem_of_getElem? hus)
  have e2:=List.eq_of_mem_replicate (List.mem_of_getElem? hrow)
  subst e1;subst e2
  exact ⟨rfl,fun j u x hj=>by simp at hj⟩
section
variable {n:Nat} {E:List (Nat×Value)} {w w0:World} {ops:Array Oper} {rest:List Oper} {Q:Exit→Act→World→Prop} {d1 s:Nat} {x I y:Operand} {ty ty2:TypeId} {pos pos2:String} {af af2:Array Edge} {g1 g2:Option (Nat×Bool)}
theorem StL.putRowC {rs:List Value} {base:Nat} {v:Value} {M:List (List Int)} {i c b:Nat} {iv:Int} (h:MatC rs base w v M) (hi:i<M.length) (hw:w0.heap.size≤base) (hx0:Ext w0 w) (B:Blk 31 w b (flat (List.replicate c zI))) (hbb:base≤b) (hfr:∀ r ∈ rs,r.ownBlock≠some b) (hc:c≤1000000)
  (hx:ov E x=some v) (hI:ov E I=some (.int .i64 iv)) (hiv:iv=i) (hy:∀ p,ov ((d1,p)::E) y=some (.slice (some ⟨b,0,none⟩) c c)) (hg:wantE ops E g1=some true) (hn:Nat.blt d1 n=true) (hg2:∀ p,wantE ops ((d1,p)::E) g2=some true)
  (next:∀ p w',Ext w0 w'→MatC (rs.set i (.slice (some ⟨b,0,none⟩) c c)) base w' v (M.set i (List.replicate c 0))→StL Tryz.prog n ((d1,p)::E) w' ops rest Q) :
  StL Tryz.prog n E w ops (⟨some d1,.indexAddr 68 x I,ty,pos,af,g1⟩::⟨none,.store 45 (.tmp d1) y,ty2,pos2,af2,g2⟩::rest) Q:=by
 have hrl:=h.rsl
 obtain ⟨R,h1,h2,h3⟩:=h
 obtain ⟨g,cap,D,hv,hg0,hb,hcl,hcd,hset⟩:=MatR.setRow h1 (by decide) (i:=i) (r:=.slice (some ⟨b,0,none⟩) c c) (us:=List.replicate c zI) (by omega)
  ⟨sh_rep c,.inr ⟨b,c,[],by rw [List.length_replicate],hbb,by rw [List.append_nil];exact B,by simp;omega,by simp,by unfold maxLen;omega⟩⟩ rfl rfl
  (fun j s _ hs e=>absurd e (hfr s (List.mem_of_getElem? hs)))
 subst hv
 refine StL.put TBok i hb hiv (by omega) (by simp) rfl rfl rfl rfl hx hI hg hn hg2 hy rfl rfl ?_
 intro p w' hb' hu'
 rw [Nat.zero_add] at hb'
 refine next p w' (hx0.then_upd hu' (by omega)) ⟨_,hset w' hu' hb',by simpa using h2,?_⟩
 intro i' us row hus hrow
 by_cases e:i=i'
 ·subst e
  rw [List.getElem?_set_self (by omega)] at hus hrow
  cases hus;cases hrow
  refine ⟨by simp,fun j u x hj hx=>?_⟩
  rw [List.eq_of_mem_replicate (List.mem_of_getElem? hj),List.eq_of_mem_replicate (List.mem_of_getElem? hx)]
  exact zI_can _
 ·rw [List.getElem?_set_ne e] at hus hrow
  obtain ⟨q1,q2⟩:=h3 i' us row hus hrow
  exact ⟨q1,fun j u x a b=>(q2 j u x a b).updT hu' hb (by decide)⟩
end
theorem MatC.rowAtM {rs:List Value} {base:Nat} {w:World} {p:Option Addr} {len cap:Nat} {M:List (List Int)} (h:MatC rs base w (.slice p len cap) M) {i:Nat} (hi:i<M.length):∃ a rr,p=some a∧len=M.length∧rs[i]?=some rr∧w.cell? (a.add i)=some rr:=by
 have hl:=h.rsl
 have hrr:rs[i]?=some (rs[i]'(by omega)):=by simp
 obtain ⟨a,cp,e,hc⟩:=h.rows.get hrr
 simp only [Value.slice.injEq] at e
 exact ⟨a,_,e.1,by omega,hrr,hc⟩
set_option maxHeartbeats 3200000 in
theorem buildM_spec {w:World} {fv:Value} {r c:Nat} {G:Nat→Nat→Int} (hF:ClosI w fv r c G) (hr:1≤r∧r≤16) (hc:1≤c∧c≤16) :
  Calls Tryz.prog 152 #[.int .i64 r,.int .i64 c,fv] w (Ret fun x w'=>Ext w w'∧∃ rs,MatC rs w.heap.size w' x (mk r c G)):=by
 obtain ⟨f,fn,cp,hfn,rfl,hcall⟩:=hF
 refine calls_of_St (args:=[_,_,_]) Tryz.func152 rfl Tryz.ntmps152 rfl ?_
 (iterate 6 refine Nv ?_;try refine .r rfl ?_)
 refine .s (OpR.make TBok r rfl rfl rfl rfl rfl rfl rfl rfl (by show r * 24≤_;omega) (by omega)) ?_
 rintro _ w2 ⟨rfl,B,hx2,hz2⟩
 have h0:=matC_nil (base:=w.heap.size) (Nat.le_refl _) (by omega) B
 rw [← fst_zero r c G] at h0
 (iterate 6 refine Nv ?_;try refine .r rfl ?_)
 refine St.rng TBok (14) (0) (r) (by omega) [(1,.int .i64 c),(2,.func (.func f) #[] cp),(7,.slice (some ⟨w.heap.size,0,none⟩) r r),(13,.int .i64 r)] (fun i w'=>Ext w w'∧∃ rs,MatC rs w.heap.size w' (.slice (some ⟨w.heap.size,0,none⟩) r r) (fst r c i G)) sbb ?_ (fun _=>⟨rfl,rfl⟩) (fun _=>rfl) (fun _=>⟨rfl,rfl⟩) rfl rfl (by omega) ?_ ?_
 ·exact ⟨hx2,_,h0⟩
 ·clear h0 B hx2 hz2
  rintro i w3 hi ⟨hx3,rs,hM⟩
  (iterate 6 refine Nv ?_;try refine .r rfl ?_)
  refine .s (OpR.makeI c rfl rfl rfl rfl (by omega)) ?_
  rintro _ w4 ⟨rfl,B4,hx4,hz4⟩
  refine StL.putRowC (w0:=w) (hM.ext hx4) (by rw [fst_len];exact hi) (Nat.le_refl _) (hx3.trans hx4) B4 hx3.size (fun r hr=>hM.blkLt r hr _ (Nat.le_refl _)) (by omega) rfl rfl rfl (fun _=>rfl) rfl rfl (fun _=>rfl) ?_
  intro p5 w5 hx5 hM5
  rw [fst_add hi] at hM5
  obtain ⟨a3,rr,ea,_,hrr,hc3⟩:=hM5.rowAtM (i:=i) (by rw [fst_len];exact hi)
  cases ea
  generalize hrs5:rs.set i (.slice (some ⟨w3.heap.size,0,none⟩) c c)=rs5 at hM5 hrr
  have hrv:rr=.slice (some ⟨w3.heap.size,0,none⟩) c c:=by
   have hrl:=hM.rsl
   rw [fst_len] at hrl
   rw [← hrs5,List.getElem?_set_self (by omega)] at hrr
   simpa using hrr.symm
  subst hrv
  clear hrs5 hM hx4 B4
  (iterate 6 refine Nv ?_;try refine .r rfl ?_)
  refine .p (RunsTo.ia) ?_
  refine .p (RunsTo.load TBok rfl rfl rfl hc3) ?_
  (iterate 6 refine Nv ?_;try refine .r rfl ?_)
  refine St.rng TBok (27) (0) (c) (by omega) [(14,.int .i64 i),(1,.int .i64 c),(2,.func (.func f) #[] cp),(7,.slice (some ⟨w.heap.size,0,none⟩) r r),(13,.int .i64 r),(8,.int .i64 i),(26,.int .i64 c)] (fun j w'=>Ext w w'∧MatC rs5 w.heap.size w' (.slice (some ⟨w.heap.size,0,none⟩) r r) (fst r c (i+1) (fil G i j))) sbb ?_ (fun _=>⟨rfl,rfl⟩) (fun _=>rfl) (fun _=>⟨rfl,rfl⟩) rfl rfl (by omega) ?_ ?_
  ·refine ⟨hx5,?_⟩
   rw [fst_congr (g:=fun a b=>if a<i then G a b else 0)]
   ·exact hM5
   ·intro a b ha hb
    unfold fil
    by_cases e:a<i
    ·rw [if_pos (.inl e),if_pos e]
    ·rw [if_neg (by omega),if_neg e]
  ·clear hM5 hc3 hx5
   rintro j w5 hj ⟨hx5,hM5⟩
   obtain ⟨a3,rr2,ea,_,hrr2,hc3⟩:=hM5.rowAtM (i:=i) (by rw [fst_len];exact hi)
   cases ea
   rw [hrr] at hrr2
   cases hrr2
   (iterate 6 refine Nv ?_;try refine .r rfl ?_)
   refine St.sub (E':=[(27,.int .i64 j),(14,.int .i64 i),(1,.int .i64 c),(2,.func (.func f) #[] cp),(7,.slice (some ⟨w.heap.size,0,none⟩) r r),(13,.int .i64 r),(8,.int .i64 i),(26,.int .i64 c),(9,.int .i64 j)]) ?_ sbb
   refine St.flow 9 TBfol (by kernel_rfl) rfl (by kernel_rfl) rfl True.intro ?_
   refine FL.run TBok 99 rfl ?_
   refine .on (fun _ _=>RunsTo.ia) ?_
   refine .on (fun _ hR=>RunsTo.load TBok rfl rfl rfl (hR.ext_nil.cell hc3)) ?_
   refine FL.run TBok 99 rfl ?_
   refine FL.fact (L:=[]) (ψ:=fun x w'=>CanO 0 w' x (G i j)) rfl rfl rfl rfl rfl (fun w6 hR=>OpR.callV hfn rfl rfl (hcall w6 (hx5.trans hR.ext_nil) i j hi hj)) (MonoR.canO 0 _) ?_
   refine FL.endE rfl ?_
   rintro w6 hx6 z hz _ _
   refine StL.putM (w0:=w) (hM5.ext hx6) hrr (fst_get hi) (j:=j) (by rw [if_pos (by omega),tab_len];exact hj) hz (hx5.trans hx6) (Nat.le_refl _) rfl rfl rfl (fun _=>rfl) rfl rfl (fun _=>rfl) ?_
   intro p7 w7 hx7 hM7
   rw [if_pos (by omega),fst_set hi (by omega) hj] at hM7
   refine Nv ?_
   refine Out.rnd sbb ⟨hx7,?_⟩
   rw [fst_congr (g:=upd2 (fil G i j) i j (G i j))]
   ·exact hM7
   ·intro a b ha hb
    unfold upd2 fil
    by_cases e:a=i∧b=j
    ·rw [if_pos e,if_pos (by omega),e.1,e.2]
    ·rw [if_neg e]
     by_cases e2:a<i∨a=i∧b<j
     ·rw [if_pos e2,if_pos (by omega)]
     ·rw [if_neg e2,if_neg (by omega)]
  ·rintro w6 ⟨hx6,hM6⟩
   refine Nv ?_
   refine Out.rnd sbb ⟨hx6,rs5,?_⟩
   rw [fst_congr (g:=fil G i c)]
   ·exact hM6
   ·intro a b ha hb
    unfold fil
    rw [if_pos (by omega)]
 ·rintro w3 ⟨hx3,rs,hM⟩
  rw [fst_all] at hM
  (iterate 6 refine Nv ?_;try refine .r rfl ?_)
  exact Out.ret1 rfl rfl ⟨hx3,rs,hM⟩
theorem shape64_spec {w:World} {v:Value} {n:Nat} {f:Nat→Nat→Int} (h:MatAt w v n f) (hn:1≤n∧n≤16) :
  Calls Tryz.prog 151 #[v] w (Ret fun x w'=>Ext w w'∧x=.tuple #[.int .i64 n,.int .i64 n,.bool true]):=by
 obtain ⟨a,cap,rfl,hca,hA⟩:=h
 obtain ⟨b0,c0,hc0,_,_⟩:=hA 0 (by omega)
 refine calls_of_St (args:=[_]) Tryz.func151 rfl Tryz.ntmps151 rfl ?_
 refine Nv ?_
 refine .r rfl ?_
 refine Nv ?_
 refine .a 3 (.bool false) rfl (bool_false (by omega)) ?_
 refine .a 4 (.bool false) rfl (bool_false (by omega)) ?_
 (iterate 6 refine Nv ?_;try refine .r rfl ?_)
 refine .cF ?_
 (iterate 6 refine Nv ?_;try refine .r rfl ?_)
 refine .p (RunsTo.ia) ?_
 refine .p (RunsTo.load TBok rfl rfl rfl hc0) ?_
 refine .r rfl ?_
 refine Nv ?_
 refine .a 2 (.bool false) rfl (bool_false (by omega)) ?_
 refine .a 3 (.bool false) rfl (bool_false (by omega)) ?_
 (iterate 6 refine Nv ?_;try refine .r rfl ?_)
 refine .cF ?_
 (iterate 6 refine Nv ?_;try refine .r rfl ?_)
 refine St.rng TBok (28) (0) (n) (by omega) [(0,.slice (some a) n cap),(5,.int .i64 n),(26,.slice (some a) n cap),(27,.int .i64 n)] (fun i w'=>w'=w) sbb ?_ (fun _=>⟨rfl,rfl⟩) (fun _=>rfl) (fun _=>⟨rfl,rfl⟩) rfl rfl (by omega) ?_ ?_
 ·rfl
 ·rintro i w hi rfl
  obtain ⟨b,c,hc,_,_⟩:=hA i hi
  refine Nv ?_
  refine .p (RunsTo.ia) ?_
  refine .p (RunsTo.load TBok rfl rfl rfl hc) ?_
  refine .r rfl ?_
  refine Nv ?_
  refine .a 4 (.bool false) rfl (by rw [bne_eq_false_iff_eq.2 rfl]) ?_
  (iterate 6 refine Nv ?_;try refine .r rfl ?_)
  refine .cF ?_
  refine Nv ?_
  exact Out.rnd sbb rfl
 ·rintro w rfl
  (iterate 6 refine Nv ?_;try refine .r rfl ?_)
  exact Out.rets TBok [_,_,_] rfl ⟨rfl,rfl,rfl,trivial⟩ ⟨Ext.refl _,rfl⟩
theorem fromInts1_spec {w:World} {v:Value} {n b:Nat} {f:Nat→Nat→Int} (h:MatAt w v n f) (B:Blk 25 w b [v]) {i j:Nat} (hi:i<n) (hj:j<n) (hn:n≤16) (hf:∀ i j,i<n→j<n→-9223372036854775808≤f i j∧f i j≤9223372036854775807) :
  Calls Tryz.prog 153 #[.int .i64 i,.int .i64 j,.pointer (some ⟨b,0,none⟩)] w (Ret fun x w'=>Ext w w'∧CanO 0 w' x (f i j)):=by
 obtain ⟨a,cap,rfl,hca,hA⟩:=h
 obtain ⟨b1,c1,hc1,_,hd1⟩:=hA i hi
 have hb:=hf i j hi hj
 refine calls_of_St (args:=[_,_,_]) Tryz.func153 rfl Tryz.ntmps153 rfl ?_
 refine Nv ?_
 refine .s (OpR.alloc TBok rfl) ?_
 rintro _ w1 ⟨rfl,B1,hx1,hz1⟩
 replace B:=B.ext hx1
 (iterate 6 refine Nv ?_;try refine .r rfl ?_)
 (refine .s (RunsTo.load TBok rfl rfl rfl (Blk.cell upp rfl)).op ?_;rintro _ _ ⟨rfl,rfl⟩)
 refine .r rfl ?_
 refine .p (RunsTo.ia) ?_
 refine .p (RunsTo.load TBok rfl rfl rfl (hx1.cell hc1)) ?_
 refine .r rfl ?_
 refine .p (RunsTo.ia) ?_
 refine .p (RunsTo.load TBok rfl rfl rfl (hx1.cell (hd1 j hj))) ?_
 refine .s (OpR.call fn_integer_Small rfl (small_spec w1 (f i j) (by omega) (by omega))) ?_
 rintro z w2 ⟨hx2,hz⟩
 refine StL.setCan rfl rfl (B1.ext hx2) rfl hz (hx1.trans hx2) (Nat.le_refl _) ?_
 intro w3 B3 hu3 hz3 hx3
 (iterate 6 refine Nv ?_;try refine .r rfl ?_)
 exact Out.retI rfl rfl B3 hz3 ⟨hx3,hz3⟩
theorem fromIntsM_spec {w:World} {v:Value} {n:Nat} {f:Nat→Nat→Int} (h:MatAt w v n f) (hn:1≤n∧n≤16) (hf:∀ i j,i<n→j<n→-9223372036854775808≤f i j∧f i j≤9223372036854775807) :
  Calls Tryz.prog 93 #[v] w (Ret fun x w'=>Ext w w'∧∃ u rs,x=.tuple #[u,.bool true]∧MatC rs w.heap.size w' u (mk n n f)):=by
 have hv:=h
 obtain ⟨a,cap,e,_⟩:=hv
 subst e
 refine calls_of_St (args:=[_]) Tryz.func93 rfl Tryz.ntmps93 rfl ?_
 refine Nv ?_
 refine .s (OpR.box rfl) ?_
 rintro _ w1 ⟨rfl,B1,hx1,hz1⟩
 (iterate 6 refine Nv ?_;try refine .r rfl ?_)
 (refine .s (RunsTo.load TBok rfl rfl rfl (Blk.cell upp rfl)).op ?_;rintro _ _ ⟨rfl,rfl⟩)
 refine .s (OpR.call fn_matrix_shape_int64 rfl (shape64_spec (h.ext hx1) hn)) ?_
 rintro _ w2 ⟨hx2,rfl⟩
 replace B1:=B1.ext hx2
 replace h:=(h.ext hx1).ext hx2
 (iterate 6 refine Nv ?_;try refine .r rfl ?_)
 refine .cF ?_
 (iterate 6 refine Nv ?_;try refine .r rfl ?_)
 refine .p (RunsTo.func (us:=[]) (vs:=[_]) rfl rfl) ?_
 refine .s (OpR.call fn_matrix_build_api_Int rfl (buildM_spec (G:=f) (w:=w2) ⟨_,_,_,fn_matrix_FromInts_1,rfl,fun w3 hx3 i j hi hj=>fromInts1_spec (h.ext hx3) (B1.ext hx3) hi hj hn.2 hf⟩ hn hn)) ?_
 rintro u w3 ⟨hx3,rs,hM⟩
 (iterate 6 refine Nv ?_;try refine .r rfl ?_)
 exact Out.rets TBok [_,_] rfl ⟨rfl,rfl,trivial⟩ ⟨(hx1.trans hx2).trans hx3,u,rs,rfl,hM.mono (hx1.trans hx2).size⟩
theorem cell_lt {w:World} {a:Addr} {v:Value} (h:w.cell? a=some v):a.block<w.heap.size:=by
 unfold World.cell? at h
 split at h
 ·rename_i hb
  exact (Array.getElem?_eq_some_iff.1 hb).1
 ·cases h
def MC (w:World) (v:Value) (r c:Nat) (G:Nat→Nat→Int):Prop:=∃ a cap,v=.slice (some a) r cap∧r≤cap∧∀ i,i<r→∃ b o cp,w.cell? (a.add i)=some (.slice (some ⟨b,o,none⟩) c cp)∧c≤cp∧RowC w b o c (G i)
theorem MC.ext {w w':World} {v:Value} {r c:Nat} {G:Nat→Nat→Int} (h:MC w v r c G) (hx:Ext w w'):MC w' v r c G:=by
 obtain ⟨a,cap,hv,hc,h⟩:=h
 refine ⟨a,cap,hv,hc,fun i hi=>?_⟩
 obtain ⟨b,o,cp,h1,h2,h3⟩:=h i hi
 exact ⟨b,o,cp,hx.cell h1,h2,h3.ext hx⟩
theorem MatC.mc {rs:List Value} {base r c:Nat} {w:World} {v:Value} {G:Nat→Nat→Int} (h:MatC rs base w v (mk r c G)) (hr:1≤r) (hc:1≤c):MC w v r c G:=by
 obtain ⟨R,h1,h2,h3⟩:=h
 rw [mk_len] at h2
 have hrl:rs.length=r:=by rw [h1.2.1,h2]
 obtain ⟨p,cap,hv,hl,h0,hcell⟩:=h1.rows
 cases p with
 | none=>have:=h0 rfl;omega
 | some a =>
  refine ⟨a,cap,by rw [hv,hrl],by omega,fun i hi=>?_⟩
  have hri:rs[i]?=some (rs[i]'(by omega)):=by simp
  have hRi:R[i]?=some (R[i]'(by omega)):=by simp
  obtain ⟨k1,k2⟩:=h3 i _ _ hRi (mk_get hi)
  have hro:=h1.2.2.2.1 i _ _ hri hRi
  have hlc:(R[i]'(by omega)).length=c:=by rw [k1];simp
  obtain ⟨b,o,cp,e,h4,h5⟩:=hro.lc hlc hc (fun j u hu=>k2 j u _ hu (row_get (by have:=(List.getElem?_eq_some_iff.1 hu).1;omega)))
  exact ⟨b,o,cp,by rw [← e];exact hcell a rfl i _ hri,h4,h5⟩
def MCq (q:Nat) (w:World) (v:Value) (r c:Nat) (G:Nat→Nat→Int):Prop:=∃ g cap C,v=.slice (some ⟨g,0,none⟩) r cap∧r≤cap∧Blk 45 w g C∧∀ i,i<r→∃ b o cp D,C[i]?=some (.slice (some ⟨b,o,none⟩) c cp)∧c≤cp∧b≠q∧Blk 31 w b D∧∀ j,j<c→∃ u,CanO 0 w u (G i j)∧(D.drop (o+2 * j)).take 2=u.cells.toList∧o+2 * j+2≤D.length
theorem MCq.mc {q:Nat} {w:World} {v:Value} {r c:Nat} {G:Nat→Nat→Int} (h:MCq q w v r c G):MC w v r c G:=by
 obtain ⟨g,cap,C,hv,hc,hB,h⟩:=h
 refine ⟨⟨g,0,none⟩,cap,hv,hc,fun i hi=>?_⟩
 obtain ⟨b,o,cp,D,h1,h2,_,h3,h4⟩:=h i hi
 exact ⟨b,o,cp,by rw [addr_add,Nat.zero_add];exact hB.cell h1,h2,_,_,h3,h4⟩
theorem MCq.keep {q:Nat} {w w':World} {v:Value} {r c:Nat} {G:Nat→Nat→Int} {et:TypeId} (h:MCq q w v r c G) (hB:∀ t b C,Blk t w b C→t≠et→Blk t w' b C) (hC:∀ u a,CanO 0 w u a→CanO 0 w' u a) (h1:45≠et) (h2:31≠et):MCq q w' v r c G:=by
 obtain ⟨g,cap,C,hv,hc,hb,h⟩:=h
 refine ⟨g,cap,C,hv,hc,hB _ _ _ hb h1,fun i hi=>?_⟩
 obtain ⟨b,o,cp,D,k1,k2,k3,k4,k5⟩:=h i hi
 refine ⟨b,o,cp,D,k1,k2,k3,hB _ _ _ k4 h2,fun j hj=>?_⟩
 obtain ⟨u,l1,l2,l3⟩:=k5 j hj
 exact ⟨u,hC u _ l1,l2,l3⟩
theorem MCq.ext {q:Nat} {w w':World} {v:Value} {r c:Nat} {G:Nat→Nat→Int} (h:MCq q w v r c G) (hx:Ext w w'):MCq q w' v r c G :=
 h.keep (et:=139) (fun _ _ _ hb _=>hb.ext hx) (fun _ _ hc=>hc.ext hx) (by decide) (by decide)
theorem MCq.upd {q:Nat} {w w':World} {v:Value} {r c:Nat} {G:Nat→Nat→Int} {C:List Value} (h:MCq q w v r c G) (hu:Upd q w w') (hB:Blk 31 w q C):MCq q w' v r c G:=by
 obtain ⟨g,cap,C',hv,hc,hb,h⟩:=h
 refine ⟨g,cap,C',hv,hc,hb.upd hu ?_,fun i hi=>?_⟩
 ·intro e
  subst e
  have:=hb.symm.trans hB
  simp only [Option.some.injEq,Obj.cells.injEq] at this
  exact absurd this.2.1 (by decide)
 ·obtain ⟨b,o,cp,D,k1,k2,k3,k4,k5⟩:=h i hi
  refine ⟨b,o,cp,D,k1,k2,k3,k4.upd hu k3,fun j hj=>?_⟩
  obtain ⟨u,l1,l2,l3⟩:=k5 j hj
  exact ⟨u,l1.updT hu hB (by decide),l2,l3⟩
theorem RunsTo.slice3 {P:Program} {T:List (Nat×TI)} {n:Nat} {E:List (Nat×Value)} {w:World} (hT:TblOk P T) {d:Option Tmp} {t:TypeId} {x u y z:Operand} {ty:TypeId} {pos:String} {af:Array Edge} {g:Option (Nat×Bool)} {et:TypeId} {s1 s2:Nat} {z0:Value} {ti:TI} {p:Option Addr} {len cap:Nat} {k1 k2 k3:IntKind} {jv iv mv:Int}
  (ht:lookT T t=some ⟨.slice et,s1,s2,z0⟩) (hte:lookT T et=some ti) (hx:ov E x=some (.slice p len cap)) (hu:ov E u=some (.int k1 jv)) (hy:ov E y=some (.int k2 iv)) (hz:ov E z=some (.int k3 mv)) (j i m:Nat) (hj:jv=j) (hi:iv=i) (hm:mv=m) (h1:j≤i) (h2:i≤m) (h3:m≤cap) :
  RunsTo P n ⟨d,.slice t x (some u) (some y) (some z),ty,pos,af,g⟩ E w (.slice (if m=j then p else p.map (·.add (j * ti.size))) (i - j) (m - j)):=by
 subst hj hi hm
 intro a ha
 have e1:=ha.eval hx
 have e2:=ha.eval hu
 have e3:=ha.eval hy
 have e4:=ha.eval hz
 generalize a.eval=ρ at e1 e2 e3 e4
 simp [execOp,Instr.sliceAt,Instr.slice,Instr.sliceBounds,Instr.sliceBound,e1,e2,e3,e4,run_underlying_T hT ht,run_sizeOf_T hT hte,asIntOf,h1,h2,h3,go_sem]
def rowsT (r c g i:Nat):List Value:=(List.range r).map fun a=>if a<i then .slice (some ⟨g,2 * (a * c),none⟩) c c else .slice none 0 0
theorem rowsT_len (r c g i:Nat):(rowsT r c g i).length=r:=by simp [rowsT]
theorem rowsT_get {r c g i a:Nat} (h:a<r):(rowsT r c g i)[a]?=some (if a<i then .slice (some ⟨g,2 * (a * c),none⟩) c c else .slice none 0 0):=by simp [rowsT,h]
theorem rowsT_zero (r c g:Nat):List.replicate r (Value.slice none 0 0)=rowsT r c g 0:=by
 apply List.ext_getElem?
 intro a
 by_cases h:a<r
 ·rw [rowsT_get h];simp [h]
 ·rw [List.getElem?_eq_none (by simp;omega),List.getElem?_eq_none (by rw [rowsT_len];omega)]
theorem rowsT_set {r c g i:Nat} (h:i<r):(rowsT r c g i).set i (.slice (some ⟨g,2 * (i * c),none⟩) c c)=rowsT r c g (i+1):=by
 apply List.ext_getElem?
 intro a
 by_cases e:i=a
 ·subst e
  rw [List.getElem?_set_self (by rw [rowsT_len];exact h),rowsT_get h,if_pos (by omega)]
 ·rw [List.getElem?_set_ne e]
  by_cases ha:a<r
  ·rw [rowsT_get ha,rowsT_get ha]
   by_cases h1:a<i
   ·rw [if_pos h1,if_pos (by omega)]
   ·rw [if_neg h1,if_neg (by omega)]
  ·rw [List.getElem?_eq_none (by rw [rowsT_len];omega),List.getElem?_eq_none (by rw [rowsT_len];omega)]
def EntT (w:World) (r c g:Nat) (G:Nat→Nat→Int) (us:List Value) (i j:Nat):Prop:=Blk 31 w g (flat us)∧us.length=r * c∧ShK 2 us∧∀ a b,b<c→(a<i∨a=i∧b<j)→∃ u,us[a * c+b]?=some u∧CanO 0 w u (G a b)
theorem EntT.ext {w w':World} {r c g:Nat} {G:Nat→Nat→Int} {us:List Value} {i j:Nat} (h:EntT w r c g G us i j) (hx:Ext w w'):EntT w' r c g G us i j:=by
 obtain ⟨h1,h2,h3,h4⟩:=h
 refine ⟨h1.ext hx,h2,h3,fun a b hb hab=>?_⟩
 obtain ⟨u,hu,hc⟩:=h4 a b hb hab
 exact ⟨u,hu,hc.ext hx⟩
theorem EntT.upd {w w':World} {r c g:Nat} {G:Nat→Nat→Int} {us:List Value} {i j b':Nat} {C:List Value} (h:EntT w r c g G us i j) (hx:Upd b' w w') (hB:Blk 45 w b' C):EntT w' r c g G us i j:=by
 obtain ⟨h1,h2,h3,h4⟩:=h
 refine ⟨h1.upd hx ?_,h2,h3,fun a b hb hab=>?_⟩
 ·intro e
  subst e
  have:=h1.symm.trans hB
  simp only [Option.some.injEq,Obj.cells.injEq] at this
  exact absurd this.2.1 (by decide)
 ·obtain ⟨u,hu,hc⟩:=h4 a b hb hab
  exact ⟨u,hu,hc.updT hx hB (by decide)⟩
theorem idx_lt {a b r c:Nat} (ha:a<r) (hb:b<c):a * c+b<r * c:=by
 have:(a+1) * c≤r * c:=Nat.mul_le_mul_right _ ha
 rw [Nat.add_mul] at this
 omega
theorem idx_inj {a b a' b' c:Nat} (hb:b<c) (hb':b'<c) (h:a * c+b=a' * c+b'):a=a'∧b=b':=by
 have hc:0<c:=by omega
 have e1:(a * c+b) / c=a:=by rw [Nat.add_comm,Nat.add_mul_div_right _ _ hc,Nat.div_eq_of_lt hb];omega
 have e2:(a' * c+b') / c=a':=by rw [Nat.add_comm,Nat.add_mul_div_right _ _ hc,Nat.div_eq_of_lt hb'];omega
 have:a=a':=by rw [← e1,← e2,h]
 subst this
 exact ⟨rfl,by omega⟩
theorem EntT.put {w w':World} {r c g:Nat} {G:Nat→Nat→Int} {us:List Value} {i j:Nat} {z:Value} (h:EntT w r c g G us i j) (hi:i<r) (hj:j<c) (hz:CanO 0 w z (G i j)) (hx:Upd g w w') (hB:Blk 31 w' g (over (flat us) (2 * (i * c)+2 * j) z.cells.toList)):EntT w' r c g G (us.set (i * c+j) z) i (j+1):=by
 obtain ⟨h1,h2,h3,h4⟩:=h
 have hlt:=idx_lt hi hj
 refine ⟨?_,by simpa using h2,h3.set hz.two,fun a b hb hab=>?_⟩
 ·have:=flatK_set (k:=2) us [] (i * c+j) z (fun v hv=>(h3 v hv).1) (by omega) hz.two.1
  rw [List.append_nil,List.append_nil,Nat.mul_add] at this
  rw [this] at hB
  exact hB
 ·by_cases e:a=i∧b=j
  ·obtain ⟨rfl,rfl⟩:=e
   exact ⟨z,by rw [List.getElem?_set_self (by omega)],hz.updT hx h1 (by decide)⟩
  ·obtain ⟨u,hu,hc⟩:=h4 a b hb (by omega)
   refine ⟨u,?_,hc.updT hx h1 (by decide)⟩
   rw [List.getElem?_set_ne]
   ·exact hu
   ·intro e2
    have:=idx_inj hj hb e2
    exact e ⟨this.1.symm,this.2.symm⟩
set_option maxHeartbeats 3200000 in
theorem table_spec {w:World} {fv:Value} {r c:Nat} {G:Nat→Nat→Int} (hF:ClosI w fv r c G) (hr:1≤r∧r≤16) (hc:1≤c∧c≤16) :
  Calls Tryz.prog 155 #[.int .i64 r,.int .i64 c,fv] w (Ret fun x w'=>Ext w w'∧∀ q,q<w.heap.size∨w'.heap.size≤q→MCq q w' x r c G):=by
 obtain ⟨f,fn,cp,hfn,rfl,hcall⟩:=hF
 have hrc:r * c≤256:=Nat.mul_le_mul hr.2 hc.2
 refine calls_of_St (args:=[_,_,_]) Tryz.func155 rfl Tryz.ntmps155 rfl ?_
 refine Nv ?_
 refine .r rfl ?_
 refine Nv ?_
 refine .a 3 (.int .i64 ((r * c:Nat):Int)) rfl (by rw [i64_id (by rw [← Int.natCast_mul];omega) (by rw [← Int.natCast_mul];omega)];rfl) ?_
 refine .s (OpR.makeI (r * c) rfl rfl rfl rfl (by omega)) ?_
 rintro _ w1 ⟨rfl,B1,hx1,hz1⟩
 (iterate 6 refine Nv ?_;try refine .r rfl ?_)
 refine .s (OpR.make TBok r rfl rfl rfl rfl rfl rfl rfl rfl (by show r * 24≤_;omega) (by omega)) ?_
 rintro _ w2 ⟨rfl,B2,hx2,hz2⟩
 have hE:EntT w2 r c w.heap.size G (List.replicate (r * c) zI) 0 0:=⟨B1.ext hx2,by simp,sh_rep _,fun a b _ h=>by omega⟩
 have B2:Blk 45 w2 w1.heap.size (rowsT r c w.heap.size 0):=by rw [← rowsT_zero];exact B2
 (iterate 6 refine Nv ?_;try refine .r rfl ?_)
 refine St.rng TBok (19) (0) (r) (by omega) [(1,.int .i64 c),(2,.func (.func f) #[] cp),(7,.slice (some ⟨w.heap.size,0,none⟩) (r * c) (r * c)),(8,.slice (some ⟨w1.heap.size,0,none⟩) r r),(18,.int .i64 r)] (fun i w'=>Ext w w'∧Blk 45 w' w1.heap.size (rowsT r c w.heap.size i)∧∃ us,EntT w' r c w.heap.size G us i 0) sbb ?_ (fun _=>⟨rfl,rfl⟩) (fun _=>rfl) (fun _=>⟨rfl,rfl⟩) rfl rfl (by omega) ?_ ?_
 ·exact ⟨hx1.trans hx2,B2,_,hE⟩
 ·clear hE B2 B1 hx2 hz2
  rintro i w3 hi ⟨hx3,B3,us,hE⟩
  have hic:i * c≤256:=Nat.le_trans (Nat.mul_le_mul_right _ (by omega)) hrc
  have hic1:(i+1) * c≤r * c:=Nat.mul_le_mul_right _ hi
  have e1:(i+1) * c=i * c+c:=by rw [Nat.add_mul,Nat.one_mul]
  refine Nv ?_
  refine .r rfl ?_
  refine Nv ?_
  refine .a 6 (.int .i64 ((i * c:Nat):Int)) rfl (by rw [i64_id (by rw [← Int.natCast_mul];omega) (by rw [← Int.natCast_mul];omega)];rfl) ?_
  refine .a 2 (.int .i64 ((i+1:Nat):Int)) rfl (i64_succ (by omega)) ?_
  refine .a 2 (.int .i64 (((i+1) * c:Nat):Int)) rfl (by rw [i64_id (by rw [← Int.natCast_mul];omega) (by rw [← Int.natCast_mul];omega)];rfl) ?_
  refine .a 2 (.int .i64 ((i+1:Nat):Int)) rfl (i64_succ (by omega)) ?_
  refine .a 2 (.int .i64 (((i+1) * c:Nat):Int)) rfl (by rw [i64_id (by rw [← Int.natCast_mul];omega) (by rw [← Int.natCast_mul];omega)];rfl) ?_
  refine .p (RunsTo.slice3 TBok rfl rfl rfl rfl rfl rfl (i * c) ((i+1) * c) ((i+1) * c) rfl rfl rfl (by omega) (by omega) (by omega)) ?_
  have ev:(if (i+1) * c=i * c then some (⟨w.heap.size,0,none⟩:Addr) else (some (⟨w.heap.size,0,none⟩:Addr)).map (·.add (i * c * 2)))=some ⟨w.heap.size,2 * (i * c),none⟩:=by
   rw [if_neg (by omega),Option.map_some,addr_add,Nat.zero_add,Nat.mul_comm]
  have ec:(i+1) * c - i * c=c:=by omega
  dsimp only
  rw [ev,ec]
  refine StL.put TBok i B3 rfl hi (by rw [rowsT_len];omega) rfl rfl rfl rfl rfl rfl rfl rfl (fun _=>rfl) (fun _=>rfl) rfl rfl ?_
  intro p4 w4 B4 hu4
  rw [Nat.zero_add,rowsT_set hi] at B4
  have hx4:Ext w w4:=hx3.then_upd hu4 hx1.size
  have hE4:=hE.upd hu4 B3
  clear hE
  have hcell:∀ {w5:World},Blk 45 w5 w1.heap.size (rowsT r c w.heap.size (i+1))→w5.cell? (Addr.add ⟨w1.heap.size,0,none⟩ i)=some (.slice (some ⟨w.heap.size,2 * (i * c),none⟩) c c):=by
   intro w5 B
   rw [addr_add,Nat.zero_add]
   exact B.cell (by rw [rowsT_get hi,if_pos (by omega)])
  (iterate 6 refine Nv ?_;try refine .r rfl ?_)
  refine .p (RunsTo.ia) ?_
  refine .p (RunsTo.load TBok rfl rfl rfl (hcell B4)) ?_
  (iterate 6 refine Nv ?_;try refine .r rfl ?_)
  refine St.rng TBok (43) (0) (c) (by omega) [(19,.int .i64 i),(1,.int .i64 c),(2,.func (.func f) #[] cp),(7,.slice (some ⟨w.heap.size,0,none⟩) (r * c) (r * c)),(8,.slice (some ⟨w1.heap.size,0,none⟩) r r),(18,.int .i64 r),(9,.int .i64 i),(42,.int .i64 c)] (fun j w'=>Ext w w'∧Blk 45 w' w1.heap.size (rowsT r c w.heap.size (i+1))∧∃ us,EntT w' r c w.heap.size G us i j) sbb ?_ (fun _=>⟨rfl,rfl⟩) (fun _=>rfl) (fun _=>⟨rfl,rfl⟩) rfl rfl (by omega) ?_ ?_
  ·exact ⟨hx4,B4,us,hE4⟩
  ·clear hE4 B4 hx4
   rintro j w4 hj ⟨hx4,B4,us,hE4⟩
   (iterate 6 refine Nv ?_;try refine .r rfl ?_)
   refine St.sub (E':=[(43,.int .i64 j),(19,.int .i64 i),(1,.int .i64 c),(2,.func (.func f) #[] cp),(7,.slice (some ⟨w.heap.size,0,none⟩) (r * c) (r * c)),(8,.slice (some ⟨w1.heap.size,0,none⟩) r r),(18,.int .i64 r),(9,.int .i64 i),(42,.int .i64 c),(10,.int .i64 j)]) ?_ sbb
   refine St.flow 9 TBfol (by kernel_rfl) rfl (by kernel_rfl) rfl True.intro ?_
   refine FL.run TBok 99 rfl ?_
   refine .on (fun _ _=>RunsTo.ia) ?_
   refine .on (fun _ hR=>RunsTo.load TBok rfl rfl rfl (hR.ext_nil.cell (hcell B4))) ?_
   refine FL.run TBok 99 rfl ?_
   refine FL.fact (L:=[]) (ψ:=fun x w'=>CanO 0 w' x (G i j)) rfl rfl rfl rfl rfl (fun w6 hR=>OpR.callV hfn rfl rfl (hcall w6 (hx4.trans hR.ext_nil) i j hi hj)) (MonoR.canO 0 _) ?_
   refine FL.endE rfl ?_
   rintro w6 hx6 z hz _ _
   have hE6:=hE4.ext hx6
   refine .p (RunsTo.indexI rfl rfl rfl hj) ?_
   refine StL.step0 rfl rfl (OpR.store TBok (off:=2 * (i * c)+2 * j) rfl rfl rfl rfl hz.two.1 hE6.1 (by rw [hz.two.1,hE6.2.2.1.flat,hE6.2.1];have:=idx_lt hi hj;omega) hz.two.2) ?_
   rintro _ w7 ⟨B7,hu7⟩
   refine Nv ?_
   refine Out.rnd sbb ⟨(hx4.trans hx6).then_upd hu7 (Nat.le_refl _),(B4.ext hx6).upd hu7 (by have:=hx1.size;omega),_,hE6.put hi hj hz hu7 B7⟩
  ·rintro w5 ⟨hx5,B5,us,h1,h2,h3,h4⟩
   refine Nv ?_
   exact Out.rnd sbb ⟨hx5,B5,us,h1,h2,h3,fun a b hb hab=>h4 a b hb (by omega)⟩
 ·rintro w3 ⟨hx3,B3,us,h1,h2,h3,h4⟩
  (iterate 6 refine Nv ?_;try refine .r rfl ?_)
  refine Out.ret1 rfl rfl ⟨hx3,fun q hq=>⟨w1.heap.size,r,_,rfl,Nat.le_refl _,B3,fun a ha=>⟨w.heap.size,2 * (a * c),c,_,?_,Nat.le_refl _,?_,h1,fun j hj=>?_⟩⟩⟩
  ·rw [rowsT_get ha,if_pos ha]
  ·have:=h1.lt;omega
  ·obtain ⟨u,hu,hcn⟩:=h4 a j hj (.inl ha)
   refine ⟨u,hcn,?_,?_⟩
   ·have:=flatK_at (k:=2) us [] (a * c+j) u (fun v hv=>(h3 v hv).1) hu
    rw [List.append_nil,Nat.mul_add] at this
    exact this
   ·rw [h3.flat,h2]
    have:=idx_lt ha hj
    omega
theorem shapeI_spec {w:World} {v:Value} {n:Nat} {G:Nat→Nat→Int} (h:MC w v n n G) (hn:1≤n∧n≤16) :
  Calls Tryz.prog 178 #[v] w (Ret fun x w'=>Ext w w'∧x=.tuple #[.int .i64 n,.int .i64 n,.bool true]):=by
 obtain ⟨a,cap,rfl,hca,hA⟩:=h
 obtain ⟨b0,o0,c0,hc0,_,_⟩:=hA 0 (by omega)
 refine calls_of_St (args:=[_]) Tryz.func178 rfl Tryz.ntmps178 rfl ?_
 refine Nv ?_
 refine .r rfl ?_
 refine Nv ?_
 refine .a 3 (.bool false) rfl (bool_false (by omega)) ?_
 refine .a 4 (.bool false) rfl (bool_false (by omega)) ?_
 (iterate 6 refine Nv ?_;try refine .r rfl ?_)
 refine .cF ?_
 (iterate 6 refine Nv ?_;try refine .r rfl ?_)
 refine .p (RunsTo.ia) ?_
 refine .p (RunsTo.load TBok rfl rfl rfl hc0) ?_
 refine .r rfl ?_
 refine Nv ?_
 refine .a 2 (.bool false) rfl (bool_false (by omega)) ?_
 refine .a 3 (.bool false) rfl (bool_false (by omega)) ?_
 (iterate 6 refine Nv ?_;try refine .r rfl ?_)
 refine .cF ?_
 (iterate 6 refine Nv ?_;try refine .r rfl ?_)
 refine St.rng TBok (28) (0) (n) (by omega) [(0,.slice (some a) n cap),(5,.int .i64 n),(26,.slice (some a) n cap),(27,.int .i64 n)] (fun i w'=>w'=w) sbb ?_ (fun _=>⟨rfl,rfl⟩) (fun _=>rfl) (fun _=>⟨rfl,rfl⟩) rfl rfl (by omega) ?_ ?_
 ·rfl
 ·rintro i w hi rfl
  obtain ⟨b,o,c,hc,_,_⟩:=hA i hi
  refine Nv ?_
  refine .p (RunsTo.ia) ?_
  refine .p (RunsTo.load TBok rfl rfl rfl hc) ?_
  refine .r rfl ?_
  refine Nv ?_
  refine .a 4 (.bool false) rfl (by rw [bne_eq_false_iff_eq.2 rfl]) ?_
  (iterate 6 refine Nv ?_;try refine .r rfl ?_)
  refine .cF ?_
  refine Nv ?_
  exact Out.rnd sbb rfl
 ·rintro w rfl
  (iterate 6 refine Nv ?_;try refine .r rfl ?_)
  exact Out.rets TBok [_,_,_] rfl ⟨rfl,rfl,rfl,trivial⟩ ⟨Ext.refl _,rfl⟩
theorem mShape_spec {w:World} {v:Value} {n:Nat} {G:Nat→Nat→Int} (h:MC w v n n G) (hn:1≤n∧n≤16) :
  Calls Tryz.prog 174 #[v] w (Ret fun x w'=>Ext w w'∧x=.tuple #[.int .i64 n,.int .i64 n,.bool true]):=by
 refine calls_of_St (args:=[_]) Tryz.func174 rfl Tryz.ntmps174 rfl ?_
 (iterate 6 refine Nv ?_;try refine .r rfl ?_)
 refine .s (OpR.call fn_matrix_shape_api_Int rfl (shapeI_spec h hn)) ?_
 rintro _ w1 ⟨hx1,rfl⟩
 (iterate 6 refine Nv ?_;try refine .r rfl ?_)
 exact Out.rets TBok [_,_,_] rfl ⟨rfl,rfl,rfl,trivial⟩ ⟨hx1,rfl⟩
theorem bsquare_spec {w:World} {v:Value} {n:Nat} {G:Nat→Nat→Int} (h:MC w v n n G) (hn:1≤n∧n≤16) :
  Calls Tryz.prog 154 #[v] w (Ret fun x w'=>Ext w w'∧x=.tuple #[.int .i64 n,.bool true]):=by
 refine calls_of_St (args:=[_]) Tryz.func154 rfl Tryz.ntmps154 rfl ?_
 (iterate 6 refine Nv ?_;try refine .r rfl ?_)
 refine .s (OpR.call fn_matrix_Shape rfl (mShape_spec h hn)) ?_
 rintro _ w1 ⟨hx1,rfl⟩
 refine .r rfl ?_
 refine Nv ?_
 refine .r rfl ?_
 refine .a 0 (.bool true) rfl (by simp) ?_
 (iterate 6 refine Nv ?_;try refine .r rfl ?_)
 exact Out.rets TBok [_,_] rfl ⟨rfl,rfl,trivial⟩ ⟨hx1,rfl⟩
def QR (q r:Int) (v:Value) (w:World):Prop:=∃ a b,v=.tuple #[a,b,.bool true]∧CanO 0 w a q∧CanO 0 w b r
theorem MonoR.qr (q r:Int):MonoR Tryz.prog (QR q r):=by
 rintro _ _ _ hR ⟨a,b,rfl,h1,h2⟩
 exact ⟨a,b,rfl,h1.rg hR,h2.rg hR⟩
set_option maxHeartbeats 3200000 in
theorem cross_spec {w:World} {va vb vc vd ve:Value} {a b c d e q:Int} (ha:Dn w va a) (hb:Dn w vb b) (hc:Dn w vc c) (hd:Dn w vd d) (he:Dn w ve e) (za:sz a≤1000) (zb:sz b≤1000) (zc:sz c≤1000) (zd:sz d≤1000) (he0:e≠0) (hq:a * d - b * c=q * e) :
  Calls Tryz.prog 159 #[va,vb,vc,vd,ve] w (Ret fun x w'=>Ext w w'∧CanO 0 w' x q):=by
 have hquo:(a * d - b * c) / e=q:=by rw [hq];exact Int.mul_ediv_cancel _ he0
 have m1:=sz_mul a d
 have m2:=sz_mul b c
 have m3:=sz_sub (a * d) (b * c)
 refine calls_of_St (args:=[_,_,_,_,_]) Tryz.func159 rfl Tryz.ntmps159 rfl ?_
 refine Nv ?_
 refine .s (OpR.box rfl) ?_
 rintro _ w1 ⟨rfl,B1,hx1,hz1⟩
 refine .s (OpR.box rfl) ?_
 rintro _ w2 ⟨rfl,B2,hx2,hz2⟩
 refine .s (OpR.box rfl) ?_
 rintro _ w3 ⟨rfl,B3,hx3,hz3⟩
 refine .s (OpR.box rfl) ?_
 rintro _ w4 ⟨rfl,B4,hx4,hz4⟩
 refine .s (OpR.box rfl) ?_
 rintro _ w5 ⟨rfl,B5,hx5,hz5⟩
 refine .s (OpR.alloc TBok rfl) ?_
 rintro _ w6 ⟨rfl,B6,hx6,hz6⟩
 have hx06:Ext w w6:=((((hx1.trans hx2).trans hx3).trans hx4).trans hx5).trans hx6
 replace B1:=((((B1.ext hx2).ext hx3).ext hx4).ext hx5).ext hx6
 replace B2:=(((B2.ext hx3).ext hx4).ext hx5).ext hx6
 replace B3:=((B3.ext hx4).ext hx5).ext hx6
 replace B4:=(B4.ext hx5).ext hx6
 replace B5:=B5.ext hx6
 replace ha:=ha.ext hx06
 replace hb:=hb.ext hx06
 replace hc:=hc.ext hx06
 replace hd:=hd.ext hx06
 replace he:=he.ext hx06
 have hsz:w.heap.size≤w5.heap.size:=by omega
 clear hx1 hx2 hx3 hx4 hx5
 refine Nv ?_
 refine St.sub (E':=[(5,.pointer (some ⟨w.heap.size,0,none⟩)),(6,.pointer (some ⟨w1.heap.size,0,none⟩)),(7,.pointer (some ⟨w2.heap.size,0,none⟩)),(8,.pointer (some ⟨w3.heap.size,0,none⟩)),(9,.pointer (some ⟨w4.heap.size,0,none⟩)),(10,.pointer (some ⟨w5.heap.size,0,none⟩))]) ?_ sbb
 refine St.flow 17 TBfol (by kernel_rfl) rfl (by kernel_rfl) rfl True.intro ?_
 refine .on (fun _ hR=>RunsTo.loadI2 rfl (hR.blk (B1) (by simp)) (ha.r2)) ?_
 refine .on (fun _ hR=>RunsTo.loadI2 rfl (hR.blk (B4) (by simp)) (hd.r2)) ?_
 refine FL.callE fn_integer_Mul rfl rfl rfl (fun w7 hx7=>CallF.mk rfl (mul_dn (ha.ext hx7) (hd.ext hx7))) (MonoR.canO 0 _) ?_
 refine .on (fun _ hR=>RunsTo.loadI2 rfl (hR.blk (B2) (by simp)) (hb.r2)) ?_
 refine .on (fun _ hR=>RunsTo.loadI2 rfl (hR.blk (B3) (by simp)) (hc.r2)) ?_
 refine FL.callE fn_integer_Mul rfl rfl rfl (fun w7 hx7=>CallF.mk rfl (mul_dn (hb.ext hx7) (hc.ext hx7))) (MonoR.canO 0 _) ?_
 refine FL.callE fn_integer_Sub rfl rfl rfl (fun w7 hx7 t1 h1 t2 h2=>CallF.mk rfl (sub_dn (h1.dn (by omega)) (h2.dn (by omega)))) (MonoR.canO 0 _) ?_
 refine .on (fun _ hR=>RunsTo.loadI2 rfl (hR.blk (B5) (by simp)) (he.r2)) ?_
 refine FL.callE fn_integer_DivMod (ψ:=QR q ((a * d - b * c) % e)) rfl rfl rfl (fun w7 hx7 t1 h1=>?_) (MonoR.qr _ _) ?_
 ·refine CallF.mk rfl ((divMod_dn (base:=0) (h1.dn (by omega)) (he.ext hx7) (Nat.zero_le _)).mono ?_)
  rintro _ w8 ⟨x,rfl,hx8,_,hdv⟩
  obtain ⟨u,m,rfl,hu,hm⟩:=hdv he0
  rw [hquo] at hu
  exact ⟨_,rfl,hx8,u,m,rfl,hu,hm⟩
 refine FL.fact (L:=[]) (ψ:=QR q ((a * d - b * c) % e)) rfl rfl rfl rfl rfl (fun w7 hR t1 h1=>(RunsTo.pure TBok rfl).op.mono (by rintro _ _ ⟨rfl,rfl⟩;exact ⟨Ext.refl _,h1⟩)) (MonoR.qr _ _) ?_
 refine FL.fact (L:=[]) (ψ:=fun v w'=>CanO 0 w' v q) rfl rfl rfl rfl rfl (fun w7 hR t1 h1=>?_) (MonoR.canO 0 _) ?_
 ·obtain ⟨u,m,rfl,hu,hm⟩:=h1
  exact (RunsTo.pure TBok rfl).op.mono (by rintro _ _ ⟨rfl,rfl⟩;exact ⟨Ext.refl _,hu⟩)
 refine FL.fact (L:=[]) (ψ:=fun v w'=>CanO 0 w' v ((a * d - b * c) % e)) rfl rfl rfl rfl rfl (fun w7 hR t1 h1=>?_) (MonoR.canO 0 _) ?_
 ·obtain ⟨u,m,rfl,hu,hm⟩:=h1
  exact (RunsTo.pure TBok rfl).op.mono (by rintro _ _ ⟨rfl,rfl⟩;exact ⟨Ext.refl _,hm⟩)
 refine FL.fact (L:=[]) (ψ:=Is (.bool true)) rfl rfl rfl rfl rfl (fun w7 hR t1 h1=>?_) (MonoR.is _ _) ?_
 ·obtain ⟨u,m,rfl,hu,hm⟩:=h1
  exact (RunsTo.pure TBok rfl).op.mono (by rintro _ _ ⟨rfl,rfl⟩;exact ⟨Ext.refl _,rfl⟩)
 refine FL.alloc TBok rfl rfl rfl rfl ?_
 refine FL.alloc TBok rfl rfl rfl rfl ?_
 refine FL.storeN (L:=[]) (base:=w6.heap.size) TBok rfl rfl rfl rfl rfl (MonoR.canO 0 q) ?_ ?_
 ·intro w7 hR v11 h11 v24 h24
  exact ⟨⟨v11,rfl,h11⟩,v24,rfl,h24.two.1,h24.two.2,h24⟩
 refine FL.storeN (L:=[]) (base:=w6.heap.size) TBok rfl rfl rfl rfl rfl (MonoR.canO 0 ((a * d - b * c) % e)) ?_ ?_
 ·intro w7 hR v11 h11 v24 h24
  exact ⟨⟨v11,rfl,h11⟩,v24,rfl,h24.two.1,h24.two.2,h24⟩
 refine FL.endE rfl ?_
 rintro w7 hx7 _ ⟨b12,C12,rfl,hg12,_,_⟩ _ ⟨b11,C11,rfl,hg11,_,_⟩ _ _ _ _ _ _ _ _ _ _ _ _ _ _ _ _ ⟨_,⟨b11',u11,hbu,B11,hu11⟩,_⟩ hdist
 cases hbu
 (iterate 6 refine Nv ?_;try refine .r rfl ?_)
 refine .p (RunsTo.loadI2 rfl (B11) (hu11.r2)) ?_
 refine StL.setCan rfl rfl (B6.ext hx7) rfl hu11 (hx06.trans hx7) hsz ?_
 intro w8 B8 hu8 hz8 hx8
 (iterate 6 refine Nv ?_;try refine .r rfl ?_)
 exact Out.retI rfl rfl B8 hz8 ⟨hx8,hz8⟩
def stI (f:Nat→Nat→Int) (k i j:Nat):Int:=(BB (RA f) k (k+i) (k+j)).num
def ddI (f:Nat→Nat→Int) (k:Nat):Int:=(dd (RA f) k).num
theorem num_int {q:Rat} (h:IsI q):(q.num:Rat)=q:=by
 obtain ⟨z,rfl⟩:=h
 rfl
theorem stI_cast {n:Nat} {f:Nat→Nat→Int} (h:Pos n (RA f)) {k:Nat} (hk:k≤n) (i j:Nat):(stI f k i j:Rat)=BB (RA f) k (k+i) (k+j) :=
 num_int (BB_int (RA_int f) k _ _ (by have:=h k hk;grind))
theorem ddI_cast {n:Nat} {f:Nat→Nat→Int} (h:Pos n (RA f)) {k:Nat} (hk:k≤n):(ddI f k:Rat)=dd (RA f) k:=by
 obtain ⟨z,e,_⟩:=dd_int h hk
 unfold ddI
 rw [e]
 rfl
theorem ddI_pos {n:Nat} {f:Nat→Nat→Int} (h:Pos n (RA f)) {k:Nat} (hk:k≤n):0<ddI f k:=by
 have h1:=ddI_cast h hk
 have h2:=h k hk
 rw [← h1] at h2
 exact_mod_cast h2
theorem stI_zero (f:Nat→Nat→Int) (i j:Nat):stI f 0 i j=f i j:=by
 unfold stI
 rw [BB_zero,Nat.zero_add,Nat.zero_add]
 rfl
theorem ddI_zero (f:Nat→Nat→Int):ddI f 0=1:=rfl
theorem stI_diag (f:Nat→Nat→Int) (k:Nat):stI f k 0 0=ddI f (k+1):=by
 unfold stI ddI
 rw [Nat.add_zero,BB_diag]
theorem stI_succ {n:Nat} {f:Nat→Nat→Int} (h:Pos n (RA f)) {k:Nat} (hk:k+1≤n) (i j:Nat):stI f k 0 0 * stI f k (i+1) (j+1) - stI f k (i+1) 0 * stI f k 0 (j+1)=stI f (k+1) i j * ddI f k:=by
 have hs:=BB_succ (RA f) k (k+1+i) (k+1+j) (by have:=h (k+1) hk;grind)
 have e1:=stI_cast h (show k≤n by omega) (i+1) (j+1)
 have e2:=stI_cast h (show k≤n by omega) (i+1) 0
 have e3:=stI_cast h (show k≤n by omega) 0 (j+1)
 have e4:=stI_cast h (show k≤n by omega) 0 0
 have e5:=stI_cast h hk i j
 have e6:=ddI_cast h (show k≤n by omega)
 rw [show k+(i+1)=k+1+i by omega] at e1 e2
 rw [show k+(j+1)=k+1+j by omega] at e1 e3
 rw [Nat.add_zero k] at e2 e3 e4
 rw [← e1,← e2,← e3,← e4,← e5,← e6,← Rat.intCast_mul,← Rat.intCast_mul,← Rat.intCast_mul,← Rat.intCast_sub] at hs
 exact (by exact_mod_cast hs:stI f (k+1) i j * ddI f k=_).symm
theorem RowC.at {w:World} {b o c:Nat} {g:Nat→Int} (h:RowC w b o c g) {j:Nat} (hj:j<c):∃ u e C,CanO 0 w u (g j)∧Blk e w b C∧(C.drop (o+2 * j)).take 2=u.cells.toList∧o+2 * j+2≤C.length:=by
 obtain ⟨e,C,hb,hg⟩:=h
 obtain ⟨u,h1,h2,h3⟩:=hg j hj
 exact ⟨u,e,C,h1,hb,h2,h3⟩
theorem stages1_spec {w:World} {v:Value} {n b:Nat} {G:Nat→Nat→Int} (h:MC w v n n G) (B:Blk 68 w b [v]) {i j:Nat} (hi:i<n) (hj:j<n) (hs:∀ i j,i<n→j<n→sz (G i j)≤1000) :
  Calls Tryz.prog 156 #[.int .i64 i,.int .i64 j,.pointer (some ⟨b,0,none⟩)] w (Ret fun x w'=>Ext w w'∧CanO 0 w' x (G i j)):=by
 obtain ⟨a,cap,rfl,hca,hA⟩:=h
 obtain ⟨b1,o1,c1,hc1,_,hr1⟩:=hA i hi
 have hz:=hs i j hi hj
 refine calls_of_St (args:=[_,_,_]) Tryz.func156 rfl Tryz.ntmps156 rfl ?_
 refine Nv ?_
 refine .s (OpR.alloc TBok rfl) ?_
 rintro _ w1 ⟨rfl,B1,hx1,hz1⟩
 replace B:=B.ext hx1
 obtain ⟨u,e,C,hd,hB,k1,k2⟩:=(hr1.ext hx1).at hj
 (iterate 6 refine Nv ?_;try refine .r rfl ?_)
 (refine .s (RunsTo.load TBok rfl rfl rfl (Blk.cell upp rfl)).op ?_;rintro _ _ ⟨rfl,rfl⟩)
 refine .r rfl ?_
 refine .p (RunsTo.ia) ?_
 refine .p (RunsTo.load TBok rfl rfl rfl (hx1.cell hc1)) ?_
 refine .r rfl ?_
 refine .p (RunsTo.indexI rfl rfl rfl (by omega)) ?_
 refine .p (RunsTo.loadIt rfl hB k1 k2 hd.r2) ?_
 refine .s (OpR.call fn_integer_Normalize rfl (normalize_dn (base:=0) (hd.dn (by omega)) (Nat.zero_le _))) ?_
 rintro z w2 ⟨hx2,hz⟩
 refine StL.setCan rfl rfl (B1.ext hx2) rfl hz (hx1.trans hx2) (Nat.le_refl _) ?_
 intro w3 B3 hu3 hz3 hx3
 (iterate 6 refine Nv ?_;try refine .r rfl ?_)
 exact Out.retI rfl rfl B3 hz3 ⟨hx3,hz3⟩
set_option maxHeartbeats 3200000 in
theorem stages2_spec {w:World} {v lv:Value} {m b1 b2:Nat} {g:Nat→Nat→Int} {L q:Int} (h:MC w v m m g) (B1:Blk 68 w b1 [v]) (B2:Blk 31 w b2 lv.cells.toList) (hlv:CanO 0 w lv L) {i j:Nat} (hi:i+1<m) (hj:j+1<m) (hm:m≤16) (hs:∀ i j,i<m→j<m→sz (g i j)≤1000) (hsL:sz L≤1000) (hL:L≠0) (hq:g 0 0 * g (i+1) (j+1) - g (i+1) 0 * g 0 (j+1)=q * L) :
  Calls Tryz.prog 158 #[.int .i64 i,.int .i64 j,.pointer (some ⟨b1,0,none⟩),.pointer (some ⟨b2,0,none⟩)] w (Ret fun x w'=>Ext w w'∧CanO 0 w' x q):=by
 obtain ⟨a,cap,rfl,hca,hA⟩:=h
 have z1:=hs 0 0 (by omega) (by omega)
 have z2:=hs (i+1) 0 (by omega) (by omega)
 have z3:=hs 0 (j+1) (by omega) (by omega)
 have z4:=hs (i+1) (j+1) (by omega) (by omega)
 refine calls_of_St (args:=[_,_,_,_]) Tryz.func158 rfl Tryz.ntmps158 rfl ?_
 refine Nv ?_
 refine .s (OpR.alloc TBok rfl) ?_
 rintro _ w1 ⟨rfl,B0,hx1,hz1⟩
 replace B1:=B1.ext hx1
 replace B2:=B2.ext hx1
 replace hlv:=hlv.ext hx1
 obtain ⟨br0,or0,cr0,hc0,_,hr0⟩:=hA 0 (by omega)
 obtain ⟨br1,or1,cr1,hc1,_,hr1⟩:=hA (i+1) (by omega)
 replace hc0:=hx1.cell hc0
 replace hc1:=hx1.cell hc1
 obtain ⟨u00,e00,C00,hd00,hB00,k00,l00⟩:=(hr0.ext hx1).at (j:=0) (by omega)
 obtain ⟨u10,e10,C10,hd10,hB10,k10,l10⟩:=(hr1.ext hx1).at (j:=0) (by omega)
 obtain ⟨u01,e01,C01,hd01,hB01,k01,l01⟩:=(hr0.ext hx1).at (j:=j+1) (by omega)
 obtain ⟨u11,e11,C11,hd11,hB11,k11,l11⟩:=(hr1.ext hx1).at (j:=j+1) (by omega)
 refine Nv ?_
 refine St.sub (E':=[(0,.int .i64 i),(1,.int .i64 j),(2,.pointer (some ⟨b1,0,none⟩)),(3,.pointer (some ⟨b2,0,none⟩)),(6,.pointer (some ⟨w.heap.size,0,none⟩))]) ?_ sbb
 refine St.flow 29 TBfol (by kernel_rfl) rfl (by kernel_rfl) rfl True.intro ?_
 refine FL.load (L:=[]) TBok rfl rfl rfl rfl rfl rfl upp (by simp) rfl ?_
 refine .on (fun _ _=>RunsTo.ia) ?_
 refine .on (fun _ hR=>RunsTo.load TBok rfl rfl rfl (hR.ext_nil.cell hc0)) ?_
 refine .on (fun _ _=>RunsTo.indexI (j:=0) rfl rfl rfl (by omega)) ?_
 refine .on (fun _ hR=>RunsTo.loadIt (j:=0) rfl (hR.blk hB00 (by simp)) k00 l00 hd00.r2) ?_
 refine FL.load (L:=[]) TBok rfl rfl rfl rfl rfl rfl upp (by simp) rfl ?_
 refine FL.as TBok 2 (.int .i64 ((i+1:Nat):Int)) rfl (i64_succ (by omega)) ?_
 refine .on (fun _ _=>RunsTo.ia) ?_
 refine .on (fun _ hR=>RunsTo.load TBok rfl rfl rfl (hR.ext_nil.cell hc1)) ?_
 refine .on (fun _ _=>RunsTo.indexI (j:=0) rfl rfl rfl (by omega)) ?_
 refine .on (fun _ hR=>RunsTo.loadIt (j:=0) rfl (hR.blk hB10 (by simp)) k10 l10 hd10.r2) ?_
 refine FL.load (L:=[]) TBok rfl rfl rfl rfl rfl rfl upp (by simp) rfl ?_
 refine .on (fun _ _=>RunsTo.ia) ?_
 refine .on (fun _ hR=>RunsTo.load TBok rfl rfl rfl (hR.ext_nil.cell hc0)) ?_
 refine FL.as TBok 2 (.int .i64 ((j+1:Nat):Int)) rfl (i64_succ (by omega)) ?_
 refine .on (fun _ _=>RunsTo.indexI rfl rfl rfl (by omega)) ?_
 refine .on (fun _ hR=>RunsTo.loadIt rfl (hR.blk hB01 (by simp)) k01 l01 hd01.r2) ?_
 refine FL.load (L:=[]) TBok rfl rfl rfl rfl rfl rfl upp (by simp) rfl ?_
 refine FL.as TBok 2 (.int .i64 ((i+1:Nat):Int)) rfl (i64_succ (by omega)) ?_
 refine .on (fun _ _=>RunsTo.ia) ?_
 refine .on (fun _ hR=>RunsTo.load TBok rfl rfl rfl (hR.ext_nil.cell hc1)) ?_
 refine FL.as TBok 2 (.int .i64 ((j+1:Nat):Int)) rfl (i64_succ (by omega)) ?_
 refine .on (fun _ _=>RunsTo.indexI rfl rfl rfl (by omega)) ?_
 refine .on (fun _ hR=>RunsTo.loadIt rfl (hR.blk hB11 (by simp)) k11 l11 hd11.r2) ?_
 refine .on (fun _ hR=>RunsTo.loadI2 rfl (hR.blk (B2) (by simp)) (hlv.r2)) ?_
 refine FL.endE rfl ?_
 intro w2 hx2 _ _
 refine .s (OpR.call fn_bareiss_cross rfl (cross_spec ((hd00.ext hx2).dn (by omega)) ((hd10.ext hx2).dn (by omega)) ((hd01.ext hx2).dn (by omega)) ((hd11.ext hx2).dn (by omega)) ((hlv.ext hx2).dn (by omega)) z1 z2 z3 z4 hL hq)) ?_
 rintro z w3 ⟨hx3,hz⟩
 refine StL.setCan rfl rfl ((B0.ext hx2).ext hx3) rfl hz ((hx1.trans hx2).trans hx3) (Nat.le_refl _) ?_
 intro w4 B4 hu4 hz4 hx4
 (iterate 6 refine Nv ?_;try refine .r rfl ?_)
 exact Out.retI rfl rfl B4 hz4 ⟨hx4,hz4⟩
def StgL (w:World) (v:Value) (n:Nat) (f:Nat→Nat→Int):Prop:=∃ us,Row 68 w v us∧us.length=n∧∀ k s,us[k]?=some s→MC w s (n - k) (n - k) (stI f k)
theorem StgL.ext {w w':World} {v:Value} {n:Nat} {f:Nat→Nat→Int} (h:StgL w v n f) (hx:Ext w w'):StgL w' v n f:=by
 obtain ⟨us,h1,h2,h3⟩:=h
 exact ⟨us,h1.ext hx,h2,fun k s hs=>(h3 k s hs).ext hx⟩
set_option maxHeartbeats 6400000 in
theorem stages_spec {w:World} {v:Value} {n:Nat} {f:Nat→Nat→Int} (h:MC w v n n f) (hn:1≤n∧n≤8) (hpos:Pos n (RA f)) (hs:∀ k,k<n→∀ i j,i<n - k→j<n - k→sz (stI f k i j)≤1000) (hsd:∀ k,k≤n→sz (ddI f k)≤1000) :
  Calls Tryz.prog 94 #[v] w (Ret fun x w'=>Ext w w'∧∃ u,x=.tuple #[u,.bool true]∧StgL w' u n f):=by
 have hn16:1≤n∧n≤16:=by omega
 have hv:=h
 obtain ⟨a,cap,e,_⟩:=hv
 have hs0:∀ i j,i<n→j<n→sz (f i j)≤1000:=fun i j hi hj=>by have:=hs 0 (by omega) i j (by omega) (by omega);rwa [stI_zero] at this
 subst e
 refine calls_of_St (args:=[_]) Tryz.func94 rfl Tryz.ntmps94 rfl ?_
 refine Nv ?_
 refine .s (OpR.box rfl) ?_
 rintro _ w1 ⟨rfl,B1,hx1,hz1⟩
 (iterate 6 refine Nv ?_;try refine .r rfl ?_)
 (refine .s (RunsTo.load TBok rfl rfl rfl (Blk.cell upp rfl)).op ?_;rintro _ _ ⟨rfl,rfl⟩)
 refine .s (OpR.call fn_bareiss_square rfl (bsquare_spec (h.ext hx1) hn16)) ?_
 rintro _ w2 ⟨hx2,rfl⟩
 replace B1:=B1.ext hx2
 replace h:=(h.ext hx1).ext hx2
 have hx02:=hx1.trans hx2
 (iterate 6 refine Nv ?_;try refine .r rfl ?_)
 refine .cF ?_
 (iterate 6 refine Nv ?_;try refine .r rfl ?_)
 refine .p (RunsTo.func (us:=[]) (vs:=[_]) rfl rfl) ?_
 refine .s (OpR.call fn_bareiss_table rfl (table_spec (G:=f) (w:=w2) ⟨_,_,_,fn_bareiss_Stages_1,rfl,fun w3 hx3 i j hi hj=>stages1_spec (h.ext hx3) (B1.ext hx3) hi hj hs0⟩ hn16 hn16)) ?_
 rintro sv w3 ⟨hx3,hT⟩
 (iterate 6 refine Nv ?_;try refine .r rfl ?_)
 refine .s (OpR.call fn_integer_Small rfl (small_spec w3 1 (by omega) (by omega))) ?_
 rintro l0 w4 ⟨hx4,hl0⟩
 refine StL.newI rfl (fun _=>rfl) hl0.r2 ?_
 intro w5 hx5 B5
 have hT5:=((hT w4.heap.size (.inr hx4.size)).ext hx4).ext hx5
 have hx05:=((hx02.trans hx3).trans hx4).trans hx5
 have hsz5:w.heap.size≤w4.heap.size:=((hx02.trans hx3).trans hx4).size
 have hl05:CanO 0 w5 l0 (ddI f 0):=hl0.ext hx5
 have hst0:(fun i j=>stI f 0 i j)=f:=by funext i j;exact stI_zero f i j
 (iterate 6 refine Nv ?_;try refine .r rfl ?_)
 refine St.rngG TBok (24) (0) (n) (by omega) (fun g:Value×Value=>[(1,.pointer (some ⟨w.heap.size,0,none⟩)),(4,.int .i64 n),(6,g.2),(7,.pointer (some ⟨w4.heap.size,0,none⟩)),(8,g.1),(23,.int .i64 n)]) (fun k g w'=>k<n∧Ext w w'∧(∃ us,RowO 1 68 w.heap.size w' g.1 us∧us.length=k∧∀ j s,us[j]?=some s→MCq w4.heap.size w' s (n - j) (n - j) (stI f j))∧MCq w4.heap.size w' g.2 (n - k) (n - k) (stI f k)∧∃ lv,Blk 31 w' w4.heap.size lv.cells.toList∧CanO 0 w' lv (ddI f k)) ((.slice none 0 0,sv)) sbb ?_ (fun _ _=>⟨rfl,rfl⟩) (fun _ _=>rfl) (fun _ _=>⟨rfl,rfl⟩) (fun _=>rfl) (fun _=>rfl) (by omega) ?_ ?_
 ·refine ⟨by omega,hx05,⟨[],RowO.nil,rfl,fun j s hj=>by simp at hj⟩,?_,l0,B5,hl05⟩
  rw [Nat.sub_zero]
  show MCq w4.heap.size w5 sv n n (fun i j=>stI f 0 i j)
  rw [hst0]
  exact hT5
 ·clear hT5 hT hl05 B5 hx05 hx5 hx4 hx3 B1
  rintro k ⟨lst,sv⟩ w6 hk ⟨_,hx6,⟨us,hR,hul,hus⟩,hS,lv,B7,hlv⟩
  dsimp only at hR hS ⊢
  have hcel:Cel 1 sv:=by
   obtain ⟨g,cap,C,rfl,_⟩:=hS
   exact .inl ⟨rfl,rfl,rfl⟩
  (iterate 6 refine Nv ?_;try refine .r rfl ?_)
  refine StL.app2 hR hcel rfl rfl rfl rfl rfl rfl (fun _=>rfl) rfl rfl (by omega) rfl hx6.size ?_
  intro p7 lst7 w7 hR7 hX7 hB7 _ hC7
  have keep:∀ {s:Value} {j:Nat},MCq w4.heap.size w6 s (n - j) (n - j) (stI f j)→MCq w4.heap.size w7 s (n - j) (n - j) (stI f j):=fun hm=>hm.keep (et:=68) (fun t b C hb hne=>hB7 t b C hb (.inl hne)) (fun u a=>hC7 (by decide) 0 u a) (by decide) (by decide)
  replace hS:=keep hS
  have hus7:∀ j s,(us++[sv])[j]?=some s→MCq w4.heap.size w7 s (n - j) (n - j) (stI f j):=by
   intro j s hj
   by_cases hlt:j<us.length
   ·rw [List.getElem?_append_left hlt] at hj
    exact keep (hus j s hj)
   ·have hje:j=us.length:=by
     have:=(List.getElem?_eq_some_iff.1 hj).1
     simp at this;omega
    subst hje
    simp at hj
    subst hj
    rw [hul]
    exact hS
  replace B7:=hB7 _ _ _ B7 (.inl (by decide))
  replace hlv:=hC7 (by decide) 0 _ _ hlv
  have hx7:=hX7 w hx6 (Nat.le_refl _)
  clear keep hus hR hB7 hC7 hX7 hx6
  refine .r rfl ?_
  refine Nv ?_
  refine .a 3 (.int .i64 ((n - 1:Nat):Int)) rfl (by rw [i64_id (by omega) (by omega)];congr 1;omega) ?_
  by_cases hk1:k=n - 1
  ·refine .a 1 (.bool true) rfl (by rw [beq_iff_eq.2 (by omega)]) ?_
   (iterate 6 refine Nv ?_;try refine .r rfl ?_)
   refine .cT ?_
   (iterate 6 refine Nv ?_;try refine .r rfl ?_)
   refine Out.rets TBok [_,_] rfl ⟨rfl,rfl,trivial⟩ ⟨hx7,lst7,rfl,us++[sv],hR7.row (fun u hu=>?_),by simp;omega,fun j s hj=>(hus7 j s hj).mc⟩
   obtain ⟨j,hj⟩:=List.mem_iff_getElem?.1 hu
   obtain ⟨g,cap,C,rfl,_⟩:=hus7 j u hj
   rfl
  ·refine .a 1 (.bool false) rfl (by rw [beq_eq_false_iff_ne.2 (by omega)]) ?_
   (iterate 6 refine Nv ?_;try refine .r rfl ?_)
   refine .cF ?_
   have hM:=hS.mc
   have hM0:=hM
   obtain ⟨a,cap,rfl,hca,hA⟩:=hM
   obtain ⟨b0,o0,c0,hc0,_,hr0⟩:=hA 0 (by omega)
   obtain ⟨u00,e00,C00,hd00,hB00,k00,l00⟩:=hr0.at (j:=0) (by omega)
   have hdk:=ddI_pos hpos (show k+1≤n by omega)
   have hdk0:=ddI_pos hpos (show k≤n by omega)
   have hsk:=hs k hk
   have hzz:=hsk 0 0 (by omega) (by omega)
   (iterate 6 refine Nv ?_;try refine .r rfl ?_)
   refine .p (RunsTo.ia) ?_
   refine .p (RunsTo.load TBok rfl rfl rfl hc0) ?_
   refine .p (RunsTo.indexI (j:=0) rfl rfl rfl (by omega)) ?_
   refine .p (RunsTo.loadIt (j:=0) rfl hB00 k00 l00 hd00.r2) ?_
   refine .s (OpR.call fn_integer_Sign rfl (sign_dn (hd00.dn (by omega)))) ?_
   rintro _ w8 ⟨hx8,rfl⟩
   have hsg:signI (stI f k 0 0)=1:=by rw [stI_diag];unfold signI;rw [if_neg (by omega),if_neg (by omega)]
   rw [hsg]
   refine .r rfl ?_
   refine Nv ?_
   refine .cF ?_
   (iterate 6 refine Nv ?_;try refine .r rfl ?_)
   refine .s (OpR.alloc TBok rfl) ?_
   rintro _ w9 ⟨rfl,B9,hx9,hz9⟩
   refine StL.step0 rfl rfl (OpR.store TBok (vs:=[.slice (some a) (n - k) cap]) rfl rfl rfl rfl rfl B9 (Nat.le_refl 1) (by simp [Value.oneCell'])) ?_
   rintro _ w10 ⟨B10,hu10⟩
   have hx10:Ext w8 w10:=hx9.then_upd hu10 (Nat.le_refl _)
   replace B10:Blk 68 w10 w8.heap.size [.slice (some a) (n - k) cap]:=B10
   have hx7a:=hx8.trans hx10
   have hS10:=hS.ext hx7a
   have hM10:=hM0.ext hx7a
   replace B7:=B7.ext hx7a
   replace hlv:=hlv.ext hx7a
   have hus10:=fun j s hj=>(hus7 j s hj).ext hx7a
   replace hR7:=hR7.ext hx7a
   have hx0a:=hx7.trans hx7a
   have hb7lt:=B7.lt
   clear hS hM0 hus7 hx7 hx8 hx9 hu10 B9
   refine Nv ?_
   refine .a 3 (.int .i64 ((n - k:Nat):Int)) rfl (by rw [i64_id (by omega) (by omega)];congr 1;omega) ?_
   refine .a 1 (.int .i64 ((n - (k+1):Nat):Int)) rfl (by rw [i64_id (by omega) (by omega)];congr 1;omega) ?_
   refine .a 3 (.int .i64 ((n - k:Nat):Int)) rfl (by rw [i64_id (by omega) (by omega)];congr 1;omega) ?_
   refine .a 1 (.int .i64 ((n - (k+1):Nat):Int)) rfl (by rw [i64_id (by omega) (by omega)];congr 1;omega) ?_
   refine .p (RunsTo.func (us:=[]) (vs:=[_,_]) rfl rfl) ?_
   refine .s (OpR.call fn_bareiss_table rfl (table_spec (G:=stI f (k+1)) (w:=w10) ⟨_,_,_,fn_bareiss_Stages_2,rfl,fun w3 hx3 i j hi hj=>stages2_spec (hM10.ext hx3) (B10.ext hx3) (B7.ext hx3) (hlv.ext hx3) (by omega) (by omega) (by omega) hsk (hsd k (by omega)) (by omega) (stI_succ hpos (by omega) i j)⟩ (by omega) (by omega))) ?_
   rintro sv2 w11 ⟨hx11,hT⟩
   have hT11:=hT w4.heap.size (.inl hb7lt)
   refine .r rfl ?_
   refine Nv ?_
   replace B10:=B10.ext hx11
   have hS11:=hS10.ext hx11
   obtain ⟨a',cap',e',_,hA'⟩:=hS11.mc
   cases e'
   obtain ⟨b0',o0',c0',hc0',_,hr0'⟩:=hA' 0 (by omega)
   obtain ⟨u01,e01,C01,hd01,hB01,k01,l01⟩:=hr0'.at (j:=0) (by omega)
   rw [stI_diag] at hd01
   (refine .s (RunsTo.load TBok rfl rfl rfl (Blk.cell upp rfl)).op ?_;rintro _ _ ⟨rfl,rfl⟩)
   refine .p (RunsTo.ia) ?_
   refine .p (RunsTo.load TBok rfl rfl rfl hc0') ?_
   refine .p (RunsTo.indexI (j:=0) rfl rfl rfl (by omega)) ?_
   refine .p (RunsTo.loadIt (j:=0) rfl hB01 k01 l01 hd01.r2) ?_
   refine StL.setCan rfl rfl (B7.ext hx11) hlv.two.1 hd01 (hx0a.trans hx11) hsz5 ?_
   intro w12 B12 hu12 hz12 hx12
   refine Nv ?_
   refine Out.rndG (lst7,sv2) sbb ⟨by omega,hx12,⟨us++[.slice (some a) (n - k) cap],(hR7.ext hx11).updT hu12 (B7.ext hx11) (by decide),by simp;omega,fun j s hj=>((hus10 j s hj).ext hx11).upd hu12 (B7.ext hx11)⟩,hT11.upd hu12 (B7.ext hx11),u01,B12,hz12⟩
 ·rintro g w6 ⟨h1,_⟩
  omega
def LCo (w:World) (v:Value) (c:Nat) (g:Nat→Int):Prop:=(∃ p cp,v=.slice p c cp)∧(0<c→∃ b o cp,v=.slice (some ⟨b,o,none⟩) c cp∧RowC w b o c g)
theorem LCo.ext {w w':World} {v:Value} {c:Nat} {g:Nat→Int} (h:LCo w v c g) (hx:Ext w w'):LCo w' v c g:=by
 refine ⟨h.1,fun hc=>?_⟩
 obtain ⟨b,o,cp,hv,hr⟩:=h.2 hc
 exact ⟨b,o,cp,hv,hr.ext hx⟩
abbrev yv (ys:List Int) (i:Nat):Int:=ys.getD i 0
def TailOk (ys:List Int):Prop:=∀ y ∈ ys,-1099511627776≤y∧y≤1099511627776
theorem TailOk.at {ys:List Int} (h:TailOk ys) (i:Nat):-1099511627776≤yv ys i∧yv ys i≤1099511627776:=by
 unfold yv
 rw [List.getD_eq_getElem?_getD]
 cases hi:ys[i]? with
 | none=>simp
 | some y=>exact h y (List.mem_of_getElem? hi)
theorem TailOk.sz {ys:List Int} (h:TailOk ys) (i:Nat):Go.Qf.sz (yv ys i)≤2:=by
 have:=h.at i
 exact sz_small (by omega) (by omega)
theorem isTail_spec {w:World} {v:Value} {ys:List Int} (h:L64 w v ys) (hl:ys.length≤1000000) :
  Calls Tryz.prog 40 #[v] w (Ret fun x w'=>Ext w w'∧∃ b,x=.bool b∧(b=true↔TailOk ys)):=by
 obtain ⟨p,cap,rfl⟩:=h.len
 refine calls_of_St (args:=[_]) Tryz.func40 rfl Tryz.ntmps40 rfl ?_
 (iterate 6 refine Nv ?_;try refine .r rfl ?_)
 refine St.rng TBok (7) (0) (ys.length) (by omega) [(5,.slice p ys.length cap),(6,.int .i64 ys.length)] (fun i w'=>w'=w∧∀ k,k<i→-1099511627776≤yv ys k∧yv ys k≤1099511627776) sbb ?_ (fun _=>⟨rfl,rfl⟩) (fun _=>rfl) (fun _=>⟨rfl,rfl⟩) rfl rfl (by omega) ?_ ?_
 ·exact ⟨rfl,fun k hk=>by omega⟩
 ·rintro i w hi ⟨rfl,hall⟩
  obtain ⟨a,c,e,hc⟩:=h.cell hi
  cases e
  have hmem:yv ys i ∈ ys:=by
   unfold yv
   rw [List.getD_eq_getElem?_getD,List.getElem?_eq_getElem hi]
   simp
  refine Nv ?_
  refine .p (RunsTo.ia) ?_
  refine .p (RunsTo.load TBok rfl rfl rfl hc) ?_
  refine .r rfl ?_
  refine Nv ?_
  by_cases h1:yv ys i < -1099511627776
  ·refine .a 2 (.bool true) rfl (bool_true h1) ?_
   (iterate 6 refine Nv ?_;try refine .r rfl ?_)
   refine .cT ?_
   (iterate 6 refine Nv ?_;try refine .r rfl ?_)
   exact Out.ret1 rfl rfl ⟨Ext.refl _,false,rfl,⟨fun h=>(by cases h),fun h=>absurd (h _ hmem) (by omega)⟩⟩
  ·refine .a 2 (.bool false) rfl (bool_false h1) ?_
   by_cases h2:yv ys i > 1099511627776
   ·refine .a 3 (.bool true) rfl (bool_true h2) ?_
    (iterate 6 refine Nv ?_;try refine .r rfl ?_)
    refine .cT ?_
    (iterate 6 refine Nv ?_;try refine .r rfl ?_)
    exact Out.ret1 rfl rfl ⟨Ext.refl _,false,rfl,⟨fun h=>(by cases h),fun h=>absurd (h _ hmem) (by omega)⟩⟩
   ·refine .a 3 (.bool false) rfl (bool_false h2) ?_
    (iterate 6 refine Nv ?_;try refine .r rfl ?_)
    refine .cF ?_
    refine Nv ?_
    refine Out.rnd sbb ⟨rfl,fun k hk=>?_⟩
    by_cases e:k=i
    ·subst e;exact ⟨by omega,by omega⟩
    ·exact hall k (by omega)
 ·rintro w ⟨rfl,hall⟩
  (iterate 6 refine Nv ?_;try refine .r rfl ?_)
  refine Out.ret1 rfl rfl ⟨Ext.refl _,true,rfl,⟨fun _ y hy=>?_,fun _=>rfl⟩⟩
  obtain ⟨i,hi⟩:=List.mem_iff_getElem?.1 hy
  have:=hall i (List.getElem?_eq_some_iff.1 hi).1
  unfold yv at this
  rw [List.getD_eq_getElem?_getD,hi] at this
  exact this
set_option maxHeartbeats 1600000 in
theorem product1_spec {w:World} {rv xv:Value} {c:Nat} {g:Nat→Int} {ys:List Int} (h:LCo w rv c g) (k:L64 w xv ys) (hl:c≤ys.length) (hc:c≤1000) (hs:∀ i,i<c→sz (g i)≤1000) (hy:TailOk ys) :
  Calls Tryz.prog 52 #[rv,xv] w (Ret fun r w'=>Ext w w'∧CanO 0 w' r (sumN c (fun i=>g i * yv ys i))):=by
 have hs2:∀ i,i<c→sz (g i * yv ys i)≤1002:=fun i hi=>by
  have:=hs i hi
  have:=hy.sz i
  have:=sz_mul (g i) (yv ys i)
  omega
 obtain ⟨p,cp,hv⟩:=h.1
 refine calls_of_St (args:=[_,_]) Tryz.func52 rfl Tryz.ntmps52 rfl ?_
 refine Nv ?_
 refine .s (OpR.alloc TBok rfl) ?_
 rintro _ w1 ⟨rfl,B4,hx1,hz1⟩
 refine Nv ?_
 (refine .s (RunsTo.build TBok rfl rfl rfl rfl).op ?_;rintro _ _ ⟨rfl,rfl⟩)
 refine .s (OpR.alloc TBok rfl) ?_
 rintro _ w2 ⟨rfl,B5,hx2,hz2⟩
 have hlt:=B4.lt
 refine StL.setCan (base:=0) (v:=zI) (a:=0) rfl rfl B5 rfl (canO_zero 0 _) (hx1.trans hx2) (by omega) ?_
 intro w3 S5 hu3 _ hx3
 replace B4:=(B4.ext hx2).upd hu3 (by omega)
 subst hv
 (iterate 6 refine Nv ?_;try refine .r rfl ?_)
 refine St.rng TBok (11) (0) (c) (by omega) [(1,xv),(4,.pointer (some ⟨w.heap.size,0,none⟩)),(5,.pointer (some ⟨w1.heap.size,0,none⟩)),(9,.slice p c cp),(10,.int .i64 c)] (fun i w'=>Ext w w'∧Blk 31 w' w.heap.size [.bool false,.slice none 0 0]∧∃ v,Blk 31 w' w1.heap.size v.cells.toList∧CanO 0 w' v (sumN i (fun i=>g i * yv ys i))) sbb ?_ (fun _=>⟨rfl,rfl⟩) (fun _=>rfl) (fun _=>⟨rfl,rfl⟩) rfl rfl (by omega) ?_ ?_
 ·exact ⟨hx3,B4,zI,S5,canO_zero 0 _⟩
 ·clear hx3 B4 S5 hu3 B5
  rintro i w4 hi ⟨hx4,B4,v,S5,hv⟩
  obtain ⟨b1,o1,cp1,e1,hR⟩:=h.2 (by omega)
  cases e1
  obtain ⟨u1,e1,C1,hd1,hB1,a1,a2⟩:=(hR.ext hx4).at hi
  obtain ⟨ax,cx,ex,hcx⟩:=(k.ext hx4).cell (j:=i) (by omega)
  subst ex
  have hsv:=sz_sumN (s:=1002) i (fun j hj=>hs2 j (by omega)) (g:=fun i=>g i * yv ys i)
  have hsi:=hs i hi
  have hyi:=hy.at i
  have hyz:=hy.sz i
  (iterate 6 refine Nv ?_;try refine .r rfl ?_)
  refine .p (RunsTo.indexI rfl rfl rfl (by omega)) ?_
  refine .p (RunsTo.loadIt rfl hB1 a1 a2 hd1.r2) ?_
  refine .s (OpR.alloc TBok rfl) ?_
  rintro _ w5 ⟨rfl,B7,hx5,hz5⟩
  refine .r rfl ?_
  refine StL.setCan rfl rfl B7 rfl (hd1.ext hx5) (hx4.trans hx5) (by have:=hx4.size;omega) ?_
  intro w6 B7' hu6 hd6 hx6
  replace S5:=(S5.ext hx5).upd hu6 (by have:=S5.lt;omega)
  replace B4:=(B4.ext hx5).upd hu6 (by have:=B4.lt;omega)
  replace hv:=(hv.ext hx5).updT hu6 B7 (by decide)
  replace hcx:=hu6.cell (hx5.cell hcx) (by rw [addr_add_block];have:=cell_lt hcx;rw [addr_add_block] at this;omega)
  refine Nv ?_
  refine St.sub (E':=[(11,.int .i64 i),(1,.slice (some ax) ys.length cx),(4,.pointer (some ⟨w.heap.size,0,none⟩)),(5,.pointer (some ⟨w1.heap.size,0,none⟩)),(9,.slice (some ⟨b1,o1,none⟩) c cp),(10,.int .i64 c),(6,.int .i64 i),(7,.pointer (some ⟨w4.heap.size,0,none⟩))]) ?_ sbb
  refine St.flow 8 TBfol (by kernel_rfl) rfl (by kernel_rfl) rfl True.intro ?_
  refine .on (fun _ hR=>RunsTo.loadCan rfl (hR.blk S5 (by simp)) hv) ?_
  refine .on (fun _ hR=>RunsTo.loadCan rfl (hR.blk B7' (by simp)) hd6) ?_
  refine FL.run TBok 99 rfl ?_
  refine .on (fun _ _=>RunsTo.ia) ?_
  refine .on (fun _ hR=>RunsTo.load TBok rfl rfl rfl (hR.ext_nil.cell hcx)) ?_
  refine FL.callE fn_integer_Small rfl rfl rfl (fun w7 hx7=>CallF.mk rfl (small_spec w7 (yv ys i) (by omega) (by omega))) (MonoR.canO 0 _) ?_
  refine FL.callE fn_integer_Mul rfl rfl rfl (fun w7 hx7 t1 h1=>CallF.mk rfl (mul_dn ((hd6.ext hx7).dn (by omega)) (h1.dn (by omega)))) (MonoR.canO 0 _) ?_
  refine FL.endE rfl ?_
  rintro w7 hx7 y hy1 _ _ _ _
  replace B4:=B4.ext hx7
  replace S5:=S5.ext hx7
  replace hv:=hv.ext hx7
  replace hx6:=hx6.trans hx7
  clear hx7
  refine .s (OpR.call fn_integer_Add rfl (add_dn (hv.dn (by omega)) (hy1.dn (by have:=hs2 i hi;omega)))) ?_
  rintro z w8 ⟨hx8,hz⟩
  replace B4:=B4.ext hx8
  replace S5:=S5.ext hx8
  replace hx6:=hx6.trans hx8
  clear hx8
  refine StL.setCan rfl rfl S5 hv.two.1 hz hx6 (by omega) ?_
  intro w9 S9 hu9 hz9 hx9
  refine Nv ?_
  exact Out.rnd sbb ⟨hx9,B4.upd hu9 (by omega),z,S9,hz9⟩
 ·rintro w4 ⟨hx4,B4,v,S5,hv⟩
  (iterate 6 refine Nv ?_;try refine .r rfl ?_)
  refine .p (RunsTo.loadCan rfl S5 hv) ?_
  refine StL.finCan rfl rfl B4 rfl hv hx4 (Nat.le_refl _) ?_
  intro w' hxf hcf fin
  refine Nv ?_
  exact fin _ _ rfl ⟨hxf,hcf⟩
def scI (f:Nat→Nat→Int) (n:Nat) (ys:List Int):Int:=sumN ys.length (fun i=>yv ys i * sumN ys.length (fun j=>stI f (n - ys.length) i j * yv ys j))
theorem MC.row {w:World} {v:Value} {r c:Nat} {G:Nat→Nat→Int} (h:MC w v r c G) {i:Nat} (hi:i<r):∃ a cap rv,v=.slice (some a) r cap∧w.cell? (a.add i)=some rv∧LCo w rv c (G i):=by
 obtain ⟨a,cap,hv,_,h⟩:=h
 obtain ⟨b,o,cp,h1,h2,h3⟩:=h i hi
 exact ⟨a,cap,_,hv,h1,⟨_,_,rfl⟩,fun _=>⟨b,o,cp,rfl,h3⟩⟩
set_option maxHeartbeats 3200000 in
theorem scaled_spec {w:World} {sv mv xv:Value} {n b:Nat} {f:Nat→Nat→Int} {ys:List Int} (B:Blk 75 w b [sv,mv]) (h:StgL w sv n f) (k:L64 w xv ys) (hl:ys.length≤n) (hn:1≤n∧n≤8) (hs:∀ k,k<n→∀ i j,i<n - k→j<n - k→sz (stI f k i j)≤1000) (hy:TailOk ys) :
  Calls Tryz.prog 43 #[.pointer (some ⟨b,0,none⟩),xv] w (Ret fun r w'=>Ext w w'∧CanO 0 w' r (scI f n ys)):=by
 obtain ⟨px,cx,hxv⟩:=k.len
 obtain ⟨us,hRow,hul,hus⟩:=h
 obtain ⟨ps,cs,hsv⟩:=hRow.len
 subst hxv
 refine calls_of_St (args:=[_,_]) Tryz.func43 rfl Tryz.ntmps43 rfl ?_
 refine Nv ?_
 refine .s (OpR.alloc TBok rfl) ?_
 rintro _ w1 ⟨rfl,B4,hx1,hz1⟩
 replace B:=B.ext hx1
 have hne:b≠w.heap.size:=by have:=B.lt;intro e;subst e;have:=B.symm.trans B4;simp only [Option.some.injEq,Obj.cells.injEq] at this;exact absurd this.2.1 (by decide)
 refine .r rfl ?_
 refine Nv ?_
 by_cases h0:ys.length=0
 ·have hys:ys=[]:=List.eq_nil_of_length_eq_zero h0
  subst hys
  (iterate 6 refine Nv ?_;try refine .r rfl ?_)
  refine .cT ?_
  refine Nv ?_
  (refine .s (RunsTo.build TBok rfl rfl rfl rfl).op ?_;rintro _ _ ⟨rfl,rfl⟩)
  refine StL.finCan (v:=zI) (a:=0) rfl rfl B4 rfl (canO_zero 0 _) hx1 (Nat.le_refl _) ?_
  intro w' hxf hcf fin
  refine Nv ?_
  exact fin _ _ rfl ⟨hxf,hcf⟩
 ·refine .a 3 (.bool false) rfl (by rw [beq_eq_false_iff_ne.2 (by omega)]) ?_
  (iterate 6 refine Nv ?_;try refine .r rfl ?_)
  refine .cF ?_
  obtain ⟨m,hm⟩:∃ m,m=ys.length:=⟨_,rfl⟩
  have hk:n - m<n:=by omega
  have huk:us[n - m]?=some (us[n - m]'(by omega)):=by simp
  generalize hst:us[n - m]'(by omega)=st at huk
  have hMC:=hus (n - m) st huk
  rw [show n - (n - m)=m by omega] at hMC
  obtain ⟨aSt,cs',es,hcs⟩:=(hRow.ext hx1).get huk
  rw [hul] at es
  subst es
  replace hMC:=hMC.ext hx1
  have hs':=hs (n - m) hk
  rw [show n - (n - m)=m by omega] at hs'
  rw [← hm]
  refine Nv ?_
  refine St.sub (E':=[(0,.pointer (some ⟨b,0,none⟩)),(1,.slice px m cx),(4,.pointer (some ⟨w.heap.size,0,none⟩))]) ?_ sbb
  refine St.flow 12 TBfol (by kernel_rfl) rfl (by kernel_rfl) rfl True.intro ?_
  refine FL.run TBok 99 rfl ?_
  refine FL.load (L:=[]) TBok rfl rfl rfl rfl rfl rfl upp (by simp) rfl ?_
  refine FL.run TBok 99 rfl ?_
  refine FL.load (L:=[]) TBok rfl rfl rfl rfl rfl rfl upp (by simp) rfl ?_
  refine FL.as TBok 4 (.int .i64 ((n - m:Nat):Int)) rfl (by rw [i64_id (by omega) (by omega)];congr 1;omega) ?_
  refine FL.endE rfl ?_
  intro w2 hx2 _ _
  refine .p (RunsTo.ia) ?_
  refine .p (RunsTo.load TBok rfl rfl rfl (hx2.cell hcs)) ?_
  replace hMC:=hMC.ext hx2
  replace B4:=B4.ext hx2
  have hbw2:=B4.lt
  have hx02:=hx1.trans hx2
  refine .r rfl ?_
  refine Nv ?_
  (refine .s (RunsTo.build TBok rfl rfl rfl rfl).op ?_;rintro _ _ ⟨rfl,rfl⟩)
  refine .s (OpR.alloc TBok rfl) ?_
  rintro _ w3 ⟨rfl,B6,hx3,hz3⟩
  refine StL.setCan (base:=0) (v:=zI) (a:=0) rfl rfl B6 rfl (canO_zero 0 _) (hx02.trans hx3) (by have:=hx02.size;omega) ?_
  intro w4 S6 hu4 _ hx4
  have hX24:Ext w2 w4:=hx3.then_upd hu4 (Nat.le_refl _)
  replace B4:=B4.ext hX24
  obtain ⟨aS,capS,_,eS,_,_⟩:=hMC.row (i:=0) (by omega)
  subst eS
  have hT2:∀ i,i<m→sz (sumN m (fun j=>stI f (n - m) i j * yv ys j))≤1010:=by
   intro i hi
   refine Nat.le_trans (sz_sumN (s:=1002) m (fun j hj=>?_)) (by omega)
   have a1:=hs' i j hi hj
   have a2:=hy.sz j
   have a3:=sz_mul (stI f (n - m) i j) (yv ys j)
   omega
  have hT3:∀ i,i<m→sz (yv ys i * sumN m (fun j=>stI f (n - m) i j * yv ys j))≤1012:=by
   intro i hi
   have a1:=hT2 i hi
   have a2:=hy.sz i
   have a3:=sz_mul (yv ys i) (sumN m (fun j=>stI f (n - m) i j * yv ys j))
   omega
  have hb4:=B4.lt
  have hx2s:=hx02.size
  (iterate 6 refine Nv ?_;try refine .r rfl ?_)
  refine St.rng TBok (30) (0) (m) (by omega) [(1,.slice px m cx),(4,.pointer (some ⟨w.heap.size,0,none⟩)),(6,.pointer (some ⟨w2.heap.size,0,none⟩)),(28,.slice (some aS) m capS),(29,.int .i64 m)] (fun i w'=>Ext w w'∧Ext w2 w'∧Blk 31 w' w.heap.size [.bool false,.slice none 0 0]∧∃ v,Blk 31 w' w2.heap.size v.cells.toList∧CanO 0 w' v (sumN i (fun i=>yv ys i * sumN m (fun j=>stI f (n - m) i j * yv ys j)))) sbb ?_ (fun _=>⟨rfl,rfl⟩) (fun _=>rfl) (fun _=>⟨rfl,rfl⟩) rfl rfl (by omega) ?_ ?_
  ·exact ⟨hx4,hX24,B4,zI,S6,canO_zero 0 _⟩
  ·clear hx4 B4 S6 hu4 B6
   rintro i w5 hi ⟨hx5,hx25,B5,v,S5,hv⟩
   have hMC5:=hMC.ext hx25
   obtain ⟨a',cap',rv,e',hcr,hLC⟩:=hMC5.row hi
   cases e'
   obtain ⟨ax,cx',ex,hcx⟩:=(k.ext hx5).cell (j:=i) (by omega)
   rw [← hm] at ex
   cases ex
   have hsv:=sz_sumN (s:=1012) i (fun j hj=>hT3 j (by omega)) (g:=fun i=>yv ys i * sumN m (fun j=>stI f (n - m) i j * yv ys j))
   have hyi:=hy.at i
   have hyz:=hy.sz i
   have h2i:=hT2 i hi
   have h3i:=hT3 i hi
   (iterate 6 refine Nv ?_;try refine .r rfl ?_)
   refine .p (RunsTo.ia) ?_
   refine .p (RunsTo.load TBok rfl rfl rfl hcr) ?_
   refine .r rfl ?_
   refine Nv ?_
   refine St.sub (E':=[(30,.int .i64 i),(1,.slice (some ax) m cx),(4,.pointer (some ⟨w.heap.size,0,none⟩)),(6,.pointer (some ⟨w2.heap.size,0,none⟩)),(28,.slice (some aS) m capS),(29,.int .i64 m),(7,.int .i64 i),(8,rv)]) ?_ sbb
   refine St.flow 10 TBfol (by kernel_rfl) rfl (by kernel_rfl) rfl True.intro ?_
   refine .on (fun _ hR=>RunsTo.loadCan rfl (hR.blk S5 (by simp)) hv) ?_
   refine FL.run TBok 99 rfl ?_
   refine .on (fun _ _=>RunsTo.ia) ?_
   refine .on (fun _ hR=>RunsTo.load TBok rfl rfl rfl (hR.ext_nil.cell hcx)) ?_
   refine FL.callE fn_integer_Small rfl rfl rfl (fun w7 hx7=>CallF.mk rfl (small_spec w7 (yv ys i) (by omega) (by omega))) (MonoR.canO 0 _) ?_
   refine FL.run TBok 99 rfl ?_
   refine FL.callE fn_schur_product rfl rfl rfl (fun w7 hx7=>CallF.mk rfl (product1_spec (hLC.ext hx7) (by rw [← hm] at k;exact (k.ext hx5).ext hx7) (by omega) (by omega) (fun j hj=>hs' i j hi hj) hy)) (MonoR.canO 0 _) ?_
   refine FL.callE fn_integer_Mul rfl rfl rfl (fun w7 hx7 t1 h1 t2 h2=>CallF.mk rfl (mul_dn (h1.dn (by omega)) (h2.dn (by omega)))) (MonoR.canO 0 _) ?_
   refine FL.endE rfl ?_
   rintro w7 hx7 y hy1 _ _ _ _ _ _
   replace B5:=B5.ext hx7
   replace S5:=S5.ext hx7
   replace hv:=hv.ext hx7
   replace hx5:=hx5.trans hx7
   replace hx25:=hx25.trans hx7
   clear hx7
   refine .s (OpR.call fn_integer_Add rfl (add_dn (hv.dn (by omega)) (hy1.dn (by omega)))) ?_
   rintro z w8 ⟨hx8,hz⟩
   replace B5:=B5.ext hx8
   replace S5:=S5.ext hx8
   replace hx5:=hx5.trans hx8
   replace hx25:=hx25.trans hx8
   clear hx8
   refine StL.setCan rfl rfl S5 hv.two.1 hz hx25 (Nat.le_refl _) ?_
   intro w9 S9 hu9 hz9 hx9
   refine Nv ?_
   exact Out.rnd sbb ⟨hx5.then_upd hu9 hx2s,hx9,B5.upd hu9 (by omega),z,S9,hz9⟩
  ·rintro w5 ⟨hx5,_,B5,v,S5,hv⟩
   (iterate 6 refine Nv ?_;try refine .r rfl ?_)
   refine .p (RunsTo.loadCan rfl S5 hv) ?_
   refine StL.finCan rfl rfl B5 rfl hv hx5 (Nat.le_refl _) ?_
   intro w' hxf hcf fin
   refine Nv ?_
   exact fin _ _ rfl ⟨hxf,by unfold scI;rw [← hm];exact hcf⟩
theorem RedF.symA {n:Nat} {f:Nat→Nat→Int} (h:RedF n f):Sym (RA f):=fun p q=>by unfold RA;rw [h.sym p q]
theorem RedF.ent {n:Nat} {f:Nat→Nat→Int} (h:RedF n f) (hn:n≤8) {i j:Nat} (hi:i<n) (hj:j<n):-262144<f i j∧f i j<262144:=by
 have:=red_entry hn h.symA h.pos h.rd h.det hi hj
 unfold RA at this
 exact ⟨rgt2.1 this.2,rlt2.1 this.1⟩
theorem RedF.oks {n:Nat} {f:Nat→Nat→Int} (h:RedF n f) (hn:n≤8) {k:Nat} (hk:k≤n):OkS n f k :=
 ⟨fun m hm=>h.pos m (by omega),fun m hm=>red_minor hn h.pos h.rd h.det (by omega),fun l hl i h1 h2=>h.rd.1 i l h2 h1⟩
theorem RedF.st {n:Nat} {f:Nat→Nat→Int} (h:RedF n f) (hn:n≤8) {k i j:Nat} (hk:k≤n) (hi:i<n - k) (hj:j<n - k):-25769803776≤stI f k i j∧stI f k i j≤25769803776:=by
 have h1:=stage_BB h.symA (h.oks hn hk) (by omega) (fun p q hp hq=>by
  have:=red_entry hn h.symA h.pos h.rd h.det hp hq
  constructor <;> grind) (show k≤k+i by omega) (show k≤k+j by omega) (by omega) (by omega)
 rw [← stI_cast h.pos hk i j] at h1
 exact int_of_rat (a:=25769803776) (b:=25769803776) h1
theorem RedF.ddI_lt {n:Nat} {f:Nat→Nat→Int} (h:RedF n f) (hn:n≤8) {k:Nat} (hk:k≤n):0<ddI f k∧ddI f k<65536:=by
 refine ⟨ddI_pos h.pos hk,?_⟩
 have h1:=red_minor hn h.pos h.rd h.det hk
 rw [← ddI_cast h.pos hk] at h1
 exact rlt.1 h1
theorem RedF.szs {n:Nat} {f:Nat→Nat→Int} (h:RedF n f) (hn:n≤8):∀ k,k<n→∀ i j,i<n - k→j<n - k→sz (stI f k i j)≤1000:=fun k hk i j hi hj=>by
 have:=h.st hn (show k≤n by omega) hi hj
 have:=sz_small (a:=stI f k i j) (by omega) (by omega)
 omega
theorem RedF.szd {n:Nat} {f:Nat→Nat→Int} (h:RedF n f) (hn:n≤8):∀ k,k≤n→sz (ddI f k)≤1000:=fun k hk=>by
 have:=h.ddI_lt hn hk
 have:=sz_small (a:=ddI f k) (by omega) (by omega)
 omega
theorem MCq.head {w:World} {v:Value} {m:Nat} {G:Nat→Nat→Int} (h:MC w v m m G) (hm:0<m):∃ a cap b o cp u e C,v=.slice (some a) m cap∧w.cell? (a.add 0)=some (.slice (some ⟨b,o,none⟩) m cp)∧CanO 0 w u (G 0 0)∧Blk e w b C∧(C.drop (o+2 * 0)).take 2=u.cells.toList∧o+2 * 0+2≤C.length:=by
 obtain ⟨a,cap,hv,_,h⟩:=h
 obtain ⟨b,o,cp,h1,h2,h3⟩:=h 0 hm
 obtain ⟨u,e,C,k1,k2,k3,k4⟩:=h3.at hm
 exact ⟨a,cap,b,o,cp,u,e,C,hv,h1,k1,k2,k3,k4⟩
theorem MC.updNil {w w':World} {v:Value} {r c q:Nat} {G:Nat→Nat→Int} {t:TypeId} (h:MC w v r c G) (hr:0<r) (hc:0<c) (hu:Upd q w w') (hB:Blk t w q [.slice none 0 0,.slice none 0 0]) (ht:139≠t):MC w' v r c G:=by
 obtain ⟨a,cap,hv,hcp,h⟩:=h
 have nil:∀ {x:Addr} {z:Value},w.cell? x=some z→x.block=q→z=.slice none 0 0:=by
  intro x z hz e
  obtain ⟨bx,ox,sx⟩:=x
  have e':bx=q:=e
  subst e'
  unfold Blk at hB
  unfold World.cell? at hz
  simp only [hB] at hz
  have:([Value.slice none 0 0,Value.slice none 0 0]:List Value)[ox]?=some z:=by
   simp at hz
   exact hz.2
  have hm:=List.mem_of_getElem? this
  simpa using hm
 refine ⟨a,cap,hv,hcp,fun i hi=>?_⟩
 obtain ⟨b,o,cp,h1,h2,e,C,h3,h4⟩:=h i hi
 have ha:a.block≠q:=by
  intro e
  have:=nil h1 (by rw [addr_add_block];exact e)
  cases this
 have hb:b≠q:=by
  intro e2
  subst e2
  obtain ⟨u,hd,k1,k2⟩:=h4 0 hc
  have hC:C=[.slice none 0 0,.slice none 0 0]:=by
   have:=h3.symm.trans hB
   simp only [Option.some.injEq,Obj.cells.injEq] at this
   simpa using this.1
  subst hC
  obtain ⟨p,cp',rfl,_⟩:=hd.cells
  simp only [List.length_cons,List.length_nil] at k2
  have:o=0:=by omega
  subst this
  simp [Value.cells] at k1
 refine ⟨b,o,cp,hu.cell h1 (by rw [addr_add_block];exact ha),h2,e,C,h3.upd hu hb,fun j hj=>?_⟩
 obtain ⟨u,hd,k1,k2⟩:=h4 j hj
 exact ⟨u,hd.updT hu hB ht,k1,k2⟩
theorem StgL.updNil {w w':World} {v:Value} {n q:Nat} {f:Nat→Nat→Int} (h:StgL w v n f) (hu:Upd q w w') (hB:Blk 75 w q [.slice none 0 0,.slice none 0 0]):StgL w' v n f:=by
 obtain ⟨us,h1,h2,h3⟩:=h
 refine ⟨us,?_,h2,fun k s hs=>?_⟩
 ·obtain ⟨p,cap,hv,hl,h0,hc⟩:=h1
  refine ⟨p,cap,hv,hl,h0,fun a ha i c hi=>hu.cell (hc a ha i c hi) ?_⟩
  intro e
  have hcell:=hc a ha i c hi
  have hlt:=(List.getElem?_eq_some_iff.1 hi).1
  obtain ⟨a2,cap2,e2,_⟩:=h3 i c hi
  generalize a.add i=x at hcell e
  obtain ⟨bx,ox,sx⟩:=x
  have e':bx=q:=e
  subst e'
  unfold Blk at hB
  unfold World.cell? at hcell
  simp only [hB] at hcell
  have:([Value.slice none 0 0,Value.slice none 0 0]:List Value)[ox]?=some c:=by
   simp at hcell
   exact hcell.2
  have hm:=List.mem_of_getElem? this
  rw [e2] at hm
  simp at hm
 ·have hlt:=(List.getElem?_eq_some_iff.1 hs).1
  exact (h3 k s hs).updNil (by omega) (by omega) hu hB (by decide)
set_option maxHeartbeats 6400000 in
theorem eliminate_spec {w:World} {v:Value} {n:Nat} {f:Nat→Nat→Int} (h:MatAt w v n f) (hn:1≤n∧n≤8) (hR:RedF n f) :
  Calls Tryz.prog 41 #[v] w (Ret fun x w'=>Ext w w'∧∃ sv mv,x=.agg #[sv,mv]∧StgL w' sv n f∧LC w' mv (n+1) (ddI f)):=by
 have hn16:1≤n∧n≤16:=by omega
 refine calls_of_St (args:=[_]) Tryz.func41 rfl Tryz.ntmps41 rfl ?_
 refine Nv ?_
 refine .s (OpR.alloc TBok rfl) ?_
 rintro _ w1 ⟨rfl,B2,hx1,hz1⟩
 (iterate 6 refine Nv ?_;try refine .r rfl ?_)
 refine .s (OpR.call fn_matrix_FromInts rfl (fromIntsM_spec (h.ext hx1) hn16 (fun i j hi hj=>by have:=hR.ent hn.2 hi hj;omega))) ?_
 rintro _ w2 ⟨hx2,u,rs,rfl,hC⟩
 have hMC:=hC.mc hn.1 hn.1
 (iterate 6 refine Nv ?_;try refine .r rfl ?_)
 refine .s (OpR.call fn_bareiss_Stages rfl (stages_spec hMC hn hR.pos (hR.szs hn.2) (hR.szd hn.2))) ?_
 rintro _ w3 ⟨hx3,sv,rfl,hS⟩
 obtain ⟨ps,cs,hsv⟩:=hS.choose_spec.1.len
 rw [hS.choose_spec.2.1] at hsv
 subst hsv
 (iterate 6 refine Nv ?_;try refine .r rfl ?_)
 refine .s (OpR.call fn_integer_Small rfl (small_spec w3 1 (by omega) (by omega))) ?_
 rintro l0 w4 ⟨hx4,hl0⟩
 replace hS:=hS.ext hx4
 refine .s (OpR.singleK (k:=2) rfl rfl rfl rfl rfl (hl0.dn (by have:sz 1=1:=sz_1;omega)).cel) ?_
 rintro _ w5 ⟨rfl,B5,hx5,hz5⟩
 (refine .s (RunsTo.build TBok rfl rfl rfl rfl).op ?_;rintro _ _ ⟨rfl,rfl⟩)
 refine .s (OpR.alloc TBok rfl) ?_
 rintro _ w6 ⟨rfl,B6,hx6,hz6⟩
 refine StL.step0 rfl rfl (OpR.store TBok (vs:=[.slice ps n cs,.slice (some ⟨w4.heap.size,0,none⟩) 1 1]) rfl rfl rfl rfl rfl B6 (Nat.le_refl 2) (by simp [Value.oneCell'])) ?_
 rintro _ w7 ⟨B7,hu7⟩
 replace B7:Blk 75 w7 w5.heap.size [.slice ps n cs,.slice (some ⟨w4.heap.size,0,none⟩) 1 1]:=B7
 have hx47:Ext w4 w7:=(hx5.trans hx6).then_upd hu7 hx5.size
 have hx57:Ext w5 w7:=hx6.then_upd hu7 (Nat.le_refl _)
 have hx04:Ext w w4:=((hx1.trans hx2).trans hx3).trans hx4
 have hb7:w4.heap.size≤w5.heap.size:=hx5.size
 have hB2:=(((B2.ext hx2).ext hx3).ext hx4)
 have hb2lt:=hB2.lt
 clear B2 B6 hu7 hx6 hx1 hx2 hx3 hC hMC
 have hcel0:=(hl0.dn (by have:sz 1=1:=sz_1;omega)).cel
 have hRow0:RowO 2 31 w4.heap.size w7 (.slice (some ⟨w4.heap.size,0,none⟩) 1 1) [l0]:=by
  refine ⟨fun u hu=>?_,.inr ⟨w4.heap.size,1,[],rfl,Nat.le_refl _,?_,rfl,Nat.le_refl _,by unfold maxLen;omega⟩⟩
  ·rw [List.mem_singleton.1 hu];exact hcel0.sh
  ·have:flat [l0]++[]=l0.cells.toList:=by unfold flat;simp
   rw [this]
   exact B5.ext hx57
 (iterate 6 refine Nv ?_;try refine .r rfl ?_)
 refine St.rng TBok (26) (0) (n) (by omega) [(2,.pointer (some ⟨w.heap.size,0,none⟩)),(7,.pointer (some ⟨w5.heap.size,0,none⟩)),(24,.slice ps n cs),(25,.int .i64 n)] (fun k w'=>Ext w4 w'∧∃ mv us,Blk 75 w' w5.heap.size [.slice ps n cs,mv]∧RowO 2 31 w4.heap.size w' mv us∧us.length=k+1∧∀ j u,us[j]?=some u→CanO 0 w' u (ddI f j)) sbb ?_ (fun _=>⟨rfl,rfl⟩) (fun _=>rfl) (fun _=>⟨rfl,rfl⟩) rfl rfl (by omega) ?_ ?_
 ·refine ⟨hx47,_,[l0],B7,hRow0,rfl,fun j u hu=>?_⟩
  have hj:j=0:=by have:=(List.getElem?_eq_some_iff.1 hu).1;simp at this;omega
  subst hj
  simp at hu
  subst hu
  exact hl0.ext hx47
 ·clear hRow0 B7 B5 hx47 hx57
  rintro k w6 hk ⟨hx6,mv,us,B7,hRw,hul,hus⟩
  obtain ⟨uS,hRow,hulS,husS⟩:=hS.ext hx6
  have huk:uS[k]?=some (uS[k]'(by omega)):=by simp
  obtain ⟨aS,cS,eS,hcS⟩:=hRow.get huk
  rw [hulS] at eS
  cases eS
  obtain ⟨a,cap,b0,o0,c0,u,e0,C0,est,hc0,hd,hB0,k0,l0'⟩:=MCq.head (husS k _ huk) (by omega)
  rw [est] at hcS
  rw [stI_diag] at hd
  have hdz:=hR.szd hn.2 (k+1) (by omega)
  have hcel:=(hd.dn (by omega)).cel
  refine Nv ?_
  refine .p (RunsTo.ia) ?_
  refine .p (RunsTo.load TBok rfl rfl rfl hcS) ?_
  refine .r rfl ?_
  refine Nv ?_
  refine St.sub (E':=[(26,.int .i64 k),(2,.pointer (some ⟨w.heap.size,0,none⟩)),(7,.pointer (some ⟨w5.heap.size,0,none⟩)),(24,.slice (some aS) n cs),(25,.int .i64 n),(9,.slice (some a) (n - k) cap)]) ?_ sbb
  refine St.any TBfol rfl ?_
  intro w8 hx8 _ _
  replace B7:=B7.ext hx8
  replace hRw:=hRw.ext hx8
  replace hc0:=hx8.cell hc0
  replace hd:=hd.ext hx8
  replace hB0:=hB0.ext hx8
  have hus8:=fun j u hu=>(hus j u hu).ext hx8
  have hx48:=hx6.trans hx8
  refine WA.takes (fuel:=9) TBok (by kernel_rfl) (fun _ _ _ _ _ h=>h) [0,2] (by kernel_rfl) rfl ?_
  refine WA.take 3 rfl rfl (by kernel_rfl) (by kernel_rfl) (by kernel_rfl) (fun _ _ _ h=>h) rfl rfl (fun w=>RunsTo.ia) ?_
  refine WA.meet 3 #[true,true,true,true,true,true,true,true,false,false,false] (fun b':Nat=>[(26,.int .i64 k),(2,.pointer (some ⟨w.heap.size,0,none⟩)),(7,.pointer (some ⟨w5.heap.size,0,none⟩)),(24,.slice (some aS) n cs),(25,.int .i64 n),(31,mv),(37,.slice (some ⟨b',0,none⟩) 1 1)]) (fun b' w'=>Ext w8 w'∧Blk 31 w' b' u.cells.toList) ?_ ?_
  ·rintro b' w9 ⟨hx9,B9⟩
   have hRw9:=hRw.ext hx9
   have B79:=B7.ext hx9
   refine WA.one (i:=8) (by kernel_rfl) (WOp.val rfl rfl rfl rfl (OpR.appK hRw9 hcel B9 rfl rfl rfl rfl rfl rfl rfl (by omega) rfl (hx48.trans hx9).size) ?_)
   rintro mv' w10 ⟨hR10,hg10,hfr10⟩
   have hcan10:∀ u a,CanO 0 w9 u a→CanO 0 w10 u a:=by
    intro u a hc
    rcases grown_cases hRw9 hg10 with hE | ⟨bb,CC,_,hbb,hBk,hU⟩
    ·exact hc.ext hE
    ·exact hc.updT hU hBk (by decide)
   have hx10:Ext w4 w10:=by
    rcases grown_cases hRw9 hg10 with hE | ⟨bb,CC,_,hbb,hBk,hU⟩
    ·exact (hx48.trans hx9).trans hE
    ·exact (hx48.trans hx9).then_upd hU hbb
   have B10:Blk 75 w10 w5.heap.size [.slice (some aS) n cs,mv]:=by
    rcases grown_cases hRw9 hg10 with hE | ⟨bb,CC,_,hbb,hBk,hU⟩
    ·exact B79.ext hE
    ·refine B79.upd hU ?_
     intro e
     subst e
     have:=B79.symm.trans hBk
     simp only [Option.some.injEq,Obj.cells.injEq] at this
     exact absurd this.2.1 (by decide)
   obtain ⟨pm,cm,hmv⟩:=hR10.len
   subst hmv
   refine WA.takes (fuel:=1) TBok (by kernel_rfl) (fun _ _ _ _ _ h=>h) [9] (by kernel_rfl) rfl ?_
   refine WA.one (i:=10) (by kernel_rfl) (WOp.eff rfl rfl rfl (OpR.store TBok (vs:=[_]) rfl rfl rfl rfl rfl B10 (Nat.le_refl 2) (by simp [Value.oneCell'])) ?_)
   rintro _ w11 ⟨B11,hu11⟩
   refine WA.done (by kernel_rfl) ?_
   refine Nv ?_
   refine Out.rnd sbb ⟨hx10.then_upd hu11 hb7,_,us++[u],B11,hR10.updT hu11 B10 (by decide),by simp;omega,fun j x hj=>?_⟩
   refine CanO.updT (?_:CanO 0 w10 x _) hu11 B10 (by decide)
   by_cases hlt:j<us.length
   ·rw [List.getElem?_append_left hlt] at hj
    exact hcan10 _ _ ((hus8 j x hj).ext hx9)
   ·have hje:j=us.length:=by
     have:=(List.getElem?_eq_some_iff.1 hj).1
     simp at this;omega
    subst hje
    simp at hj
    subst hj
    rw [hul]
    exact hcan10 _ _ (hd.ext hx9)
  ·intro meet
   have ld1:∀ {w9:World},Ext w8 w9→w9.cell? ⟨w5.heap.size,1,none⟩=some mv:=fun hx9=>(B7.ext hx9).cell rfl
   have sgl:∀ {w9:World},CanO 0 w9 u (ddI f (k+1))→Cel 2 u:=fun hc=>(hc.dn (by omega)).cel
   refine WA.two (i:=1) (j:=4) (by kernel_rfl) ?_ ?_
   ·refine WOp.val rfl rfl rfl rfl (RunsTo.load TBok rfl rfl rfl (ld1 (Ext.refl _))).op ?_
    rintro _ _ ⟨rfl,rfl⟩
    refine WA.one (i:=4) (by kernel_rfl) (WOp.val rfl rfl rfl rfl (RunsTo.load TBok rfl rfl rfl hc0).op ?_)
    rintro _ _ ⟨rfl,rfl⟩
    refine WA.take 5 rfl rfl (by kernel_rfl) (by kernel_rfl) (by kernel_rfl) (fun _ _ _ h=>h) rfl rfl (fun w=>RunsTo.indexI (j:=0) rfl rfl rfl (by omega)) ?_
    refine WA.one (i:=6) (by kernel_rfl) (WOp.val rfl rfl rfl rfl (RunsTo.loadIt (j:=0) rfl hB0 k0 l0' hd.r2).op ?_)
    rintro _ _ ⟨rfl,rfl⟩
    refine WA.one (i:=7) (by kernel_rfl) (WOp.val rfl rfl rfl rfl (OpR.singleK (k:=2) rfl rfl rfl rfl rfl hcel) ?_)
    rintro _ w9 ⟨rfl,B9,hx9,_⟩
    exact meet _ _ _ _ (by kernel_rfl) ⟨hx9,B9⟩ sbb
   ·refine WOp.val rfl rfl rfl rfl (RunsTo.load TBok rfl rfl rfl hc0).op ?_
    rintro _ _ ⟨rfl,rfl⟩
    refine WA.take 5 rfl rfl (by kernel_rfl) (by kernel_rfl) (by kernel_rfl) (fun _ _ _ h=>h) rfl rfl (fun w=>RunsTo.indexI (j:=0) rfl rfl rfl (by omega)) ?_
    refine WA.two (i:=1) (j:=6) (by kernel_rfl) ?_ ?_
    ·refine WOp.val rfl rfl rfl rfl (RunsTo.load TBok rfl rfl rfl (ld1 (Ext.refl _))).op ?_
     rintro _ _ ⟨rfl,rfl⟩
     refine WA.one (i:=6) (by kernel_rfl) (WOp.val rfl rfl rfl rfl (RunsTo.loadIt (j:=0) rfl hB0 k0 l0' hd.r2).op ?_)
     rintro _ _ ⟨rfl,rfl⟩
     refine WA.one (i:=7) (by kernel_rfl) (WOp.val rfl rfl rfl rfl (OpR.singleK (k:=2) rfl rfl rfl rfl rfl hcel) ?_)
     rintro _ w9 ⟨rfl,B9,hx9,_⟩
     exact meet _ _ _ _ (by kernel_rfl) ⟨hx9,B9⟩ sbb
    ·refine WOp.val rfl rfl rfl rfl (RunsTo.loadIt (j:=0) rfl hB0 k0 l0' hd.r2).op ?_
     rintro _ _ ⟨rfl,rfl⟩
     refine WA.two (i:=1) (j:=7) (by kernel_rfl) ?_ ?_
     ·refine WOp.val rfl rfl rfl rfl (RunsTo.load TBok rfl rfl rfl (ld1 (Ext.refl _))).op ?_
      rintro _ _ ⟨rfl,rfl⟩
      refine WA.one (i:=7) (by kernel_rfl) (WOp.val rfl rfl rfl rfl (OpR.singleK (k:=2) rfl rfl rfl rfl rfl hcel) ?_)
      rintro _ w9 ⟨rfl,B9,hx9,_⟩
      exact meet _ _ _ _ (by kernel_rfl) ⟨hx9,B9⟩ sbb
     ·refine WOp.val rfl rfl rfl rfl (OpR.singleK (k:=2) rfl rfl rfl rfl rfl hcel) ?_
      rintro _ w9 ⟨rfl,B9,hx9,_⟩
      refine WA.one (i:=1) (by kernel_rfl) (WOp.val rfl rfl rfl rfl (RunsTo.load TBok rfl rfl rfl (ld1 hx9)).op ?_)
      rintro _ _ ⟨rfl,rfl⟩
      exact meet _ _ _ _ (by kernel_rfl) ⟨hx9,B9⟩ sbb
 ·rintro w6 ⟨hx6,mv,us,B7,hRw,hul,hus⟩
  have hLC:=hRw.lc hul (by omega) (g:=ddI f) (fun j u hu=>hus j u hu)
  obtain ⟨pm,cm,hmv⟩:=hRw.len
  subst hmv
  (iterate 6 refine Nv ?_;try refine .r rfl ?_)
  refine .p (RunsTo.loadAgg TBok rfl rfl rfl B7 (Nat.le_refl 2) rfl) ?_
  refine StL.step0 rfl rfl (OpR.store TBok (vs:=[_,_]) rfl rfl rfl rfl rfl (hB2.ext hx6) (Nat.le_refl 2) (by simp [Value.oneCell'])) ?_
  rintro _ w8 ⟨B8,hu8⟩
  (iterate 6 refine Nv ?_;try refine .r rfl ?_)
  refine Out.rets TBok [_] rfl ⟨⟨_,_,_,_,rfl,B8,rfl,rfl,rfl,rfl⟩,trivial⟩ ⟨?_,_,_,rfl,?_,?_⟩
  ·exact (hx04.trans hx6).then_upd hu8 (Nat.le_refl _)
  ·exact (hS.ext hx6).updNil hu8 (hB2.ext hx6)
  ·exact (hRw.updT hu8 (hB2.ext hx6) (by decide)).lc hul (by omega) (fun j u hu=>(hus j u hu).updT hu8 (hB2.ext hx6) (by decide))
def pnQ (f:Nat→Nat→Int) (n:Nat) (ys:List Int):Rat:=Rat.divInt (scI f n ys) (ddI f (n - ys.length))
def PNok (M:List (List Int)) (ys:List Int):Prop:=Red M∧1≤ys.length∧ys.length≤M.length∧TailOk ys
def PNV (w:World) (x:Value) (M:List (List Int)) (ys:List Int):Prop:=(PNok M ys→∃ r,x=.tuple #[r,.bool true]∧CanR 0 w r (pnQ (ent M) M.length ys))∧(¬ PNok M ys→x=.tuple #[zR,.bool false])
theorem sz_scI {n:Nat} {f:Nat→Nat→Int} {ys:List Int} (hl:ys.length≤n) (hn:n≤8) (hs:∀ k,k<n→∀ i j,i<n - k→j<n - k→sz (stI f k i j)≤1000) (hy:TailOk ys):sz (scI f n ys)≤1100:=by
 unfold scI
 by_cases h0:ys.length=0
 ·rw [h0];show sz 0≤1100;rw [sz_zero];omega
 refine Nat.le_trans (sz_sumN (s:=1014) _ (fun i hi=>?_)) (by omega)
 have h1:sz (sumN ys.length (fun j=>stI f (n - ys.length) i j * yv ys j))≤1002+ys.length:=sz_sumN _ (fun j hj=>by
  have a1:=hs (n - ys.length) (by omega) i j (by omega) (by omega)
  have a2:=hy.sz j
  have a3:=sz_mul (stI f (n - ys.length) i j) (yv ys j)
  omega)
 have a2:=hy.sz i
 have a3:=sz_mul (yv ys i) (sumN ys.length (fun j=>stI f (n - ys.length) i j * yv ys j))
 omega
theorem Red.at {w:World} {v:Value} {M:List (List Int)} (h:Red M) (k:M64 w v M):MatAt w v M.length (ent M):=by
 have:=h.redF.2
 have h1:=h.1.1
 exact M64.at (by rw [← this];exact k) h1
set_option maxHeartbeats 3200000 in
theorem partialNorm_spec {w:World} {hv xv:Value} {M:List (List Int)} {ys:List Int} (h:M64 w hv M) (hl:M.length≤1000000) (k:L64 w xv ys) (hly:ys.length≤1000000) :
  Calls Tryz.prog 15 #[hv,xv] w (Ret fun x w'=>Ext w w'∧PNV w' x M ys):=by
 obtain ⟨ph,ch,e⟩:=h.len
 subst e
 obtain ⟨px,cx,e⟩:=k.len
 subst e
 refine calls_of_St (args:=[_,_]) Tryz.func15 rfl Tryz.ntmps15 rfl ?_
 refine Nv ?_
 refine .s (OpR.alloc TBok rfl) ?_
 rintro _ w1 ⟨rfl,B4,hx1,hz1⟩
 (iterate 6 refine Nv ?_;try refine .r rfl ?_)
 refine .s (OpR.call fn_lll_IsReduced rfl (isReduced_spec (h.ext hx1) hl)) ?_
 rintro _ w2 ⟨hx2,b,rfl,hb⟩
 have hx02:=hx1.trans hx2
 replace B4:=B4.ext hx2
 by_cases hR:b=true
 ·subst hR
  have hRed:=hb.1 rfl
  by_cases h1:ys.length<1
  ·refine .a 5 (.bool true) rfl (bool_true (by omega)) ?_
   (iterate 6 refine Nv ?_;try refine .r rfl ?_)
   refine .cT ?_
   refine Nv ?_
   refine .p (RunsTo.build TBok rfl rfl rfl rfl) ?_
   refine StL.setR (v:=zR) rfl rfl rfl zR_R4 B4 rfl hx02 (Nat.le_refl _) ?_
   intro w3 B5 hu5 hx5
   (iterate 6 refine Nv ?_;try refine .r rfl ?_)
   exact Out.retRT rfl rfl rfl B5 zR_R4 ⟨hx5,fun hp=>absurd hp.2.1 (by omega),fun _=>rfl⟩
  refine .a 5 (.bool false) rfl (bool_false (by omega)) ?_
  by_cases h2:ys.length > M.length
  ·refine .a 7 (.bool true) rfl (bool_true (by omega)) ?_
   (iterate 6 refine Nv ?_;try refine .r rfl ?_)
   refine .cT ?_
   refine Nv ?_
   refine .p (RunsTo.build TBok rfl rfl rfl rfl) ?_
   refine StL.setR (v:=zR) rfl rfl rfl zR_R4 B4 rfl hx02 (Nat.le_refl _) ?_
   intro w3 B5 hu5 hx5
   (iterate 6 refine Nv ?_;try refine .r rfl ?_)
   exact Out.retRT rfl rfl rfl B5 zR_R4 ⟨hx5,fun hp=>absurd hp.2.2.1 (by omega),fun _=>rfl⟩
  refine .a 7 (.bool false) rfl (bool_false (by omega)) ?_
  refine .r rfl ?_
  refine .s (OpR.call fn_schur_isTail rfl (isTail_spec (k.ext hx02) hly)) ?_
  rintro _ w3 ⟨hx3,b,rfl,hbt⟩
  have hx03:=hx02.trans hx3
  replace B4:=B4.ext hx3
  cases b
  ·(iterate 6 refine Nv ?_;try refine .r rfl ?_)
   refine .cT ?_
   refine Nv ?_
   refine .p (RunsTo.build TBok rfl rfl rfl rfl) ?_
   refine StL.setR (v:=zR) rfl rfl rfl zR_R4 B4 rfl hx03 (Nat.le_refl _) ?_
   intro w4 B5 hu5 hx5
   (iterate 6 refine Nv ?_;try refine .r rfl ?_)
   exact Out.retRT rfl rfl rfl B5 zR_R4 ⟨hx5,fun hp=>absurd (hbt.2 hp.2.2.2) (by simp),fun _=>rfl⟩
  have hT:=hbt.1 rfl
  have hPN:PNok M ys:=⟨hRed,by omega,by omega,hT⟩
  have hRF:=hRed.redF.1
  have hn:1≤M.length∧M.length≤8:=⟨hRed.1.1,hRed.2.2.1⟩
  have hA:=(hRed.at h).ext hx03
  unfold PNV
  generalize ent M=f at *
  have hszs:=hRF.szs hn.2
  have hszd:=hRF.szd hn.2
  have hsc:=sz_scI (f:=f) (show ys.length≤M.length by omega) hn.2 hszs hT
  have hdp:=hRF.ddI_lt hn.2 (show M.length - ys.length≤M.length by omega)
  have hzd:=hszd (M.length - ys.length) (by omega)
  (iterate 6 refine Nv ?_;try refine .r rfl ?_)
  refine .cF ?_
  (iterate 6 refine Nv ?_;try refine .r rfl ?_)
  refine .s (OpR.call fn_schur_eliminate rfl (eliminate_spec hA hn hRF)) ?_
  rintro _ w4 ⟨hx4,sv,mv,rfl,hS,hL⟩
  obtain ⟨us,hRow,hul,hus⟩:=hS
  obtain ⟨ps,cs,esv⟩:=hRow.len
  obtain ⟨bm,om,cm,emv,hcm,hRC⟩:=hL
  subst esv emv
  have hS:StgL w4 (.slice ps us.length cs) M.length f:=⟨us,hRow,hul,hus⟩
  refine .s (OpR.alloc TBok rfl) ?_
  rintro _ w5 ⟨rfl,B6,hx5,hz5⟩
  refine StL.step0 rfl rfl (OpR.store TBok (vs:=[_,_]) rfl rfl rfl rfl rfl B6 (Nat.le_refl 2) (by simp [Value.oneCell'])) ?_
  rintro _ w6 ⟨B6',hu6⟩
  replace B6':Blk 75 w6 w4.heap.size [.slice ps us.length cs,.slice (some ⟨bm,om,none⟩) (M.length+1) cm]:=B6'
  have hx46:Ext w4 w6:=hx5.then_upd hu6 (Nat.le_refl _)
  have hx06:=(hx03.trans hx4).trans hx46
  replace B4:=(B4.ext hx4).ext hx46
  replace hS:=hS.ext hx46
  replace hRC:=hRC.ext hx46
  obtain ⟨um,em,Cm,hdm,hBm,km,lm⟩:=hRC.at (j:=M.length - ys.length) (by omega)
  refine Nv ?_
  refine St.sub (E':=[(0,.slice ph M.length ch),(1,.slice px ys.length cx),(4,.pointer (some ⟨w.heap.size,0,none⟩)),(6,.pointer (some ⟨w4.heap.size,0,none⟩))]) ?_ sbb
  refine St.flow 14 TBfol (by kernel_rfl) rfl (by kernel_rfl) rfl True.intro ?_
  refine FL.run TBok 99 rfl ?_
  refine FL.callE fn_schur_elimination_scaled rfl rfl rfl (fun w7 hx7=>CallF.mk rfl (scaled_spec (B6'.ext hx7) (hS.ext hx7) ((k.ext hx06).ext hx7) (by omega) hn hszs hT)) (MonoR.canO 0 _) ?_
  refine FL.run TBok 99 rfl ?_
  refine FL.load (L:=[]) TBok rfl rfl rfl rfl rfl rfl upp (by simp) rfl ?_
  refine FL.as TBok 5 (.int .i64 ((M.length - ys.length:Nat):Int)) rfl (by rw [i64_id (by omega) (by omega)];congr 1;omega) ?_
  refine .on (fun _ _=>RunsTo.indexI rfl rfl rfl (by omega)) ?_
  refine .on (fun _ hR=>RunsTo.loadIt rfl (hR.blk hBm (by simp)) km lm hdm.r2) ?_
  refine FL.callE fn_rational_New (ψ:=fun v w'=>∃ r,v=.tuple #[r,.bool true]∧CanR 0 w' r (pnQ f M.length ys)) rfl rfl rfl (fun w7 hx7 t1 h1=>?_) (fun _ _ _ hR ⟨r,h1,h2⟩=>⟨r,h1,h2.rg hR⟩) ?_
  ·refine CallF.mk rfl ((new_spec (base:=0) (h1.dn (by omega)) ((hdm.ext hx7).dn (by omega)) (Nat.zero_le _)).mono ?_)
   rintro _ w8 ⟨x,rfl,hx8,_,hnv⟩
   obtain ⟨r,rfl,hr⟩:=hnv (by omega)
   exact ⟨_,rfl,hx8,r,rfl,hr⟩
  refine FL.fact (L:=[]) (ψ:=fun v w'=>CanR 0 w' v (pnQ f M.length ys)) rfl rfl rfl rfl rfl (fun w7 hR t1 h1=>?_) (MonoR.canR 0 _) ?_
  ·obtain ⟨r,rfl,hr⟩:=h1
   exact (RunsTo.pure TBok rfl).op.mono (by rintro _ _ ⟨rfl,rfl⟩;exact ⟨Ext.refl _,hr⟩)
  refine FL.fact (L:=[]) (ψ:=Is (.bool true)) rfl rfl rfl rfl rfl (fun w7 hR t1 h1=>?_) (MonoR.is _ _) ?_
  ·obtain ⟨r,rfl,hr⟩:=h1
   exact (RunsTo.pure TBok rfl).op.mono (by rintro _ _ ⟨rfl,rfl⟩;exact ⟨Ext.refl _,rfl⟩)
  refine FL.endE rfl ?_
  rintro w7 hx7 _ rfl r hr _ _ _ _ _ _
  have hx07:=hx06.trans hx7
  refine StL.setR rfl rfl rfl hr.1 (B4.ext hx7) rfl hx07 (Nat.le_refl _) ?_
  intro w8 B8 hu8 hx8
  (iterate 6 refine Nv ?_;try refine .r rfl ?_)
  exact Out.retRT rfl rfl rfl B8 hr.1 ⟨hx8,fun _=>⟨r,rfl,hr.upd hu8 (B4.ext hx7) (by decide)⟩,fun hn=>absurd hPN hn⟩
 ·have hbf:b=false:=by simpa using hR
  subst hbf
  (iterate 6 refine Nv ?_;try refine .r rfl ?_)
  refine .cT ?_
  refine Nv ?_
  refine .p (RunsTo.build TBok rfl rfl rfl rfl) ?_
  refine StL.setR (v:=zR) rfl rfl rfl zR_R4 B4 rfl hx02 (Nat.le_refl _) ?_
  intro w3 B5 hu5 hx5
  (iterate 6 refine Nv ?_;try refine .r rfl ?_)
  exact Out.retRT rfl rfl rfl B5 zR_R4 ⟨hx5,fun hp=>absurd (hb.2 hp.1) (by simp),fun _=>rfl⟩
theorem isRoot_ex (a:Nat):∃ x,IsRoot a x:=by
 induction a with
 | zero=>exact ⟨0,by unfold IsRoot;omega⟩
 | succ a ih =>
  obtain ⟨x,h1,h2⟩:=ih
  by_cases h:(x+1) * (x+1)≤a+1
  ·refine ⟨x+1,h,?_⟩
   have e:(x+1+1) * (x+1+1)=(x+1) * (x+1)+(x+1)+(x+1)+1:=by grind
   omega
  ·exact ⟨x,by omega,by omega⟩
def lo64 (a:Int):Int:=if -9223372036854775808≤a∧a≤9223372036854775807 then a else 0
theorem int64V_lo (a:Int):∃ b,int64V a=.tuple #[.int .i64 (lo64 a),.bool b]:=by
 unfold int64V lo64
 split
 ·exact ⟨true,rfl⟩
 ·exact ⟨false,rfl⟩
def liI (f:Nat→Nat→Int) (n:Nat) (ys:List Int):Int:=sumN ys.length (fun j=>stI f (n - ys.length - 1) 0 (j+1) * yv ys j)
def sqI (f:Nat→Nat→Int) (n:Nat) (B:Int) (ys:List Int):Int:=ddI f (n - ys.length - 1) * (ddI f (n - ys.length) * B - scI f n ys)
def IVok (M:List (List Int)) (B:Int) (ys:List Int):Prop:=Red M∧ys.length<M.length∧TailOk ys∧0≤B∧B≤4611686018427387904
def ivLo (f:Nat→Nat→Int) (n:Nat) (r:Nat) (ys:List Int):Int:=-((liI f n ys+r) / ddI f (n - ys.length))
def ivHi (f:Nat→Nat→Int) (n:Nat) (r:Nat) (ys:List Int):Int:=((r:Int) - liI f n ys) / ddI f (n - ys.length)
def IVV (x:Value) (M:List (List Int)) (B:Int) (ys:List Int):Prop:=(¬ IVok M B ys∨sqI (ent M) M.length B ys<0→x=.tuple #[.int .i64 0,.int .i64 0,.bool false]) ∧
 (IVok M B ys→0≤sqI (ent M) M.length B ys→∃ r,IsRoot (sqI (ent M) M.length B ys).natAbs r∧x=.tuple #[.int .i64 (lo64 (ivLo (ent M) M.length r ys)),.int .i64 (lo64 (ivHi (ent M) M.length r ys)),.bool true])
theorem RowC.tl {w:World} {b o c:Nat} {g:Nat→Int} (h:RowC w b o (c+1) g):RowC w b (o+2) c (fun j=>g (j+1)):=by
 obtain ⟨e,C,hb,hg⟩:=h
 refine ⟨e,C,hb,fun j hj=>?_⟩
 obtain ⟨u,h1,h2,h3⟩:=hg (j+1) (by omega)
 refine ⟨u,h1,?_,by omega⟩
 rw [show o+2+2 * j=o+2 * (j+1) by omega]
 exact h2
theorem sz_liI {n:Nat} {f:Nat→Nat→Int} {ys:List Int} (hl:ys.length<n) (hn:n≤8) (hs:∀ k,k<n→∀ i j,i<n - k→j<n - k→sz (stI f k i j)≤1000) (hy:TailOk ys):sz (liI f n ys)≤1100:=by
 unfold liI
 refine Nat.le_trans (sz_sumN (s:=1014) _ (fun j hj=>?_)) (by omega)
 have a1:=hs (n - ys.length - 1) (by omega) 0 (j+1) (by omega) (by omega)
 have a2:=hy.sz j
 have a3:=sz_mul (stI f (n - ys.length - 1) 0 (j+1)) (yv ys j)
 omega
theorem sz_root {a x:Nat} (h:IsRoot a x):sz (x:Int)≤sz (a:Int):=by
 refine sz_le_nat ?_
 have h1:=h.1
 simp only [Int.natAbs_natCast]
 rcases Nat.eq_zero_or_pos x with h0 | h0
 ·omega
 ·have:=Nat.mul_le_mul_left x h0;omega
set_option maxHeartbeats 6400000 in
theorem interval_spec {w:World} {hv xv:Value} {M:List (List Int)} {ys:List Int} {B:Int} (h:M64 w hv M) (hl:M.length≤1000000) (k:L64 w xv ys) (hly:ys.length≤1000000) :
  Calls Tryz.prog 19 #[hv,.int .i64 B,xv] w (Ret fun x w'=>Ext w w'∧IVV x M B ys):=by
 obtain ⟨ph,ch,e⟩:=h.len
 subst e
 obtain ⟨px,cx,e⟩:=k.len
 subst e
 refine calls_of_St (args:=[_,_,_]) Tryz.func19 rfl Tryz.ntmps19 rfl ?_
 (iterate 6 refine Nv ?_;try refine .r rfl ?_)
 refine .s (OpR.call fn_lll_IsReduced rfl (isReduced_spec h hl)) ?_
 rintro _ w2 ⟨hx02,b,rfl,hb⟩
 by_cases hR:b=true
 ·subst hR
  have hRed:=hb.1 rfl
  by_cases h1:ys.length≥M.length
  ·refine .a 7 (.bool true) rfl (bool_true (by omega)) ?_
   (iterate 6 refine Nv ?_;try refine .r rfl ?_)
   refine .cT ?_
   (iterate 6 refine Nv ?_;try refine .r rfl ?_)
   exact Out.rets TBok [_,_,_] rfl ⟨rfl,rfl,rfl,trivial⟩ ⟨hx02,fun _=>rfl,fun hp=>absurd hp.2.1 (by omega)⟩
  refine .a 7 (.bool false) rfl (bool_false (by omega)) ?_
  refine .r rfl ?_
  refine .s (OpR.call fn_schur_isTail rfl (isTail_spec (k.ext hx02) hly)) ?_
  rintro _ w3 ⟨hx3,b,rfl,hbt⟩
  have hx03:=hx02.trans hx3
  cases b
  ·(iterate 6 refine Nv ?_;try refine .r rfl ?_)
   refine .cT ?_
   (iterate 6 refine Nv ?_;try refine .r rfl ?_)
   exact Out.rets TBok [_,_,_] rfl ⟨rfl,rfl,rfl,trivial⟩ ⟨hx03,fun _=>rfl,fun hp=>absurd (hbt.2 hp.2.2.1) (by simp)⟩
  have hT:=hbt.1 rfl
  by_cases hB0:B<0
  ·refine .a 5 (.bool true) rfl (bool_true hB0) ?_
   (iterate 6 refine Nv ?_;try refine .r rfl ?_)
   refine .cT ?_
   (iterate 6 refine Nv ?_;try refine .r rfl ?_)
   exact Out.rets TBok [_,_,_] rfl ⟨rfl,rfl,rfl,trivial⟩ ⟨hx03,fun _=>rfl,fun hp=>absurd hp.2.2.2.1 (by omega)⟩
  refine .a 5 (.bool false) rfl (bool_false hB0) ?_
  by_cases hB1:B > 4611686018427387904
  ·refine .a 4 (.bool true) rfl (bool_true hB1) ?_
   (iterate 6 refine Nv ?_;try refine .r rfl ?_)
   refine .cT ?_
   (iterate 6 refine Nv ?_;try refine .r rfl ?_)
   exact Out.rets TBok [_,_,_] rfl ⟨rfl,rfl,rfl,trivial⟩ ⟨hx03,fun _=>rfl,fun hp=>absurd hp.2.2.2.2 (by omega)⟩
  refine .a 4 (.bool false) rfl (bool_false hB1) ?_
  have hIV:IVok M B ys:=⟨hRed,by omega,hT,by omega,by omega⟩
  have hRF:=hRed.redF.1
  have hn:1≤M.length∧M.length≤8:=⟨hRed.1.1,hRed.2.2.1⟩
  have hA:=(hRed.at h).ext hx03
  unfold IVV
  generalize ent M=f at *
  have hszs:=hRF.szs hn.2
  have hszd:=hRF.szd hn.2
  have hsc:=sz_scI (f:=f) (show ys.length≤M.length by omega) hn.2 hszs hT
  have hsl:=sz_liI (f:=f) (show ys.length<M.length by omega) hn.2 hszs hT
  have hdp:=hRF.ddI_lt hn.2 (show M.length - ys.length≤M.length by omega)
  have hdp0:=hRF.ddI_lt hn.2 (show M.length - ys.length - 1≤M.length by omega)
  have hzd:=hszd (M.length - ys.length) (by omega)
  have hzd0:=hszd (M.length - ys.length - 1) (by omega)
  have hzB:sz B≤2:=sz_small (by omega) (by omega)
  have hz1:=sz_mul (ddI f (M.length - ys.length)) B
  have hz2:=sz_sub (ddI f (M.length - ys.length) * B) (scI f M.length ys)
  have hz3:=sz_mul (ddI f (M.length - ys.length - 1)) (ddI f (M.length - ys.length) * B - scI f M.length ys)
  have hzq:sz (sqI f M.length B ys)≤4000:=by unfold sqI;omega
  obtain ⟨ρ,ok,hρ⟩:∃ (ρ:Nat) (ok:Bool),(sqI f M.length B ys<0∧ok=false∧ρ=0)∨(0≤sqI f M.length B ys∧ok=true∧IsRoot (sqI f M.length B ys).natAbs ρ):=by
   by_cases hs:sqI f M.length B ys<0
   ·exact ⟨0,false,.inl ⟨hs,rfl,rfl⟩⟩
   ·obtain ⟨x,hx⟩:=isRoot_ex (sqI f M.length B ys).natAbs
    exact ⟨x,true,.inr ⟨by omega,rfl,hx⟩⟩
  have hzρ:sz (ρ:Int)≤4000:=by
   rcases hρ with ⟨_,_,rfl⟩ | ⟨h0,_,hr⟩
   ·show sz 0≤4000;rw [sz_zero];omega
   ·have:=sz_root hr
    have e:((sqI f M.length B ys).natAbs:Int)=sqI f M.length B ys:=by omega
    rw [e] at this
    omega
  (iterate 6 refine Nv ?_;try refine .r rfl ?_)
  refine .cF ?_
  (iterate 6 refine Nv ?_;try refine .r rfl ?_)
  refine .s (OpR.call fn_schur_eliminate rfl (eliminate_spec hA hn hRF)) ?_
  rintro _ w4 ⟨hx4,sv,mv,rfl,hS,hL⟩
  obtain ⟨us,hRow,hul,hus⟩:=hS
  obtain ⟨ps,cs,esv⟩:=hRow.len
  rw [hul] at esv
  obtain ⟨bm,om,cm,emv,hcm,hRC⟩:=hL
  subst esv emv
  have hS:StgL w4 (.slice ps M.length cs) M.length f:=⟨us,hRow,hul,hus⟩
  refine .s (OpR.alloc TBok rfl) ?_
  rintro _ w5 ⟨rfl,B6,hx5,hz5⟩
  refine StL.step0 rfl rfl (OpR.store TBok (vs:=[_,_]) rfl rfl rfl rfl rfl B6 (Nat.le_refl 2) (by simp [Value.oneCell'])) ?_
  rintro _ w6 ⟨B9,hu6⟩
  replace B9:Blk 75 w6 w4.heap.size [.slice ps M.length cs,.slice (some ⟨bm,om,none⟩) (M.length+1) cm]:=B9
  have hx46:Ext w4 w6:=hx5.then_upd hu6 (Nat.le_refl _)
  have hx06:=(hx03.trans hx4).trans hx46
  replace hS:=hS.ext hx46
  replace hRC:=hRC.ext hx46
  clear hRow hus hx5 hu6 B6 hx46
  refine .r rfl ?_
  refine Nv ?_
  refine .a 5 (.int .i64 ((M.length - ys.length:Nat):Int)) rfl (by rw [i64_id (by omega) (by omega)];congr 1;omega) ?_
  refine .a 1 (.int .i64 ((M.length - ys.length - 1:Nat):Int)) rfl (by rw [i64_id (by omega) (by omega)];congr 1;omega) ?_
  obtain ⟨um,em,Cm,hdm,hBm,km,lm⟩:=hRC.at (j:=M.length - ys.length) (by omega)
  refine .r rfl ?_
  refine Nv ?_
  refine .r rfl ?_
  (refine .s (RunsTo.load TBok rfl rfl rfl (Blk.cell upp rfl)).op ?_;rintro _ _ ⟨rfl,rfl⟩)
  refine .a 2 (.int .i64 ((M.length - ys.length:Nat):Int)) rfl (by rw [i64_id (by omega) (by omega)];congr 1;omega) ?_
  refine .p (RunsTo.indexI rfl rfl rfl (by omega)) ?_
  refine .p (RunsTo.loadIt rfl hBm km lm hdm.r2) ?_
  refine StL.newI rfl (fun _=>rfl) hdm.r2 ?_
  intro w7 hx7 B11
  replace B9:=B9.ext hx7
  replace hS:=hS.ext hx7
  replace hRC:=hRC.ext hx7
  replace hdm:=hdm.ext hx7
  replace hx06:=hx06.trans hx7
  clear hx7
  refine Nv ?_
  refine St.sub (E':=[(1,.int .i64 B),(2,.slice px ys.length cx),(9,.pointer (some ⟨w4.heap.size,0,none⟩)),(10,.int .i64 ((M.length - ys.length - 1:Nat):Int)),(11,.pointer (some ⟨w6.heap.size,0,none⟩))]) ?_ sbb
  refine St.flow 8 TBfol (by kernel_rfl) rfl (by kernel_rfl) rfl True.intro ?_
  refine .on (fun _ hR=>RunsTo.loadCan rfl (hR.blk B11 (by simp)) hdm) ?_
  refine FL.run TBok 99 rfl ?_
  refine FL.callE fn_integer_Small rfl rfl rfl (fun w8 hx8=>CallF.mk rfl (small_spec w8 B (by omega) (by omega))) (MonoR.canO 0 _) ?_
  refine FL.callE fn_integer_Mul rfl rfl rfl (fun w8 hx8 t1 h1=>CallF.mk rfl (mul_dn ((hdm.ext hx8).dn (by omega)) (h1.dn (by omega)))) (MonoR.canO 0 _) ?_
  refine FL.run TBok 99 rfl ?_
  refine FL.callE fn_schur_elimination_scaled rfl rfl rfl (fun w8 hx8=>CallF.mk rfl (scaled_spec (B9.ext hx8) (hS.ext hx8) ((k.ext hx06).ext hx8) (by omega) hn hszs hT)) (MonoR.canO 0 _) ?_
  refine FL.callE fn_integer_Sub rfl rfl rfl (fun w8 hx8 t1 h1 t2 h2=>CallF.mk rfl (sub_dn (h1.dn (by omega)) (h2.dn (by omega)))) (MonoR.canO 0 _) ?_
  refine FL.alloc TBok rfl rfl rfl rfl ?_
  refine FL.endE rfl ?_
  rintro w8 hx8 _ ⟨b12,C12,rfl,hg12,B12,hl12⟩ z hz _ _ _ _ _ _ _ _
  refine StL.setCan rfl rfl B12 hl12 hz hx8 hg12 ?_
  intro w9 S12 hu9 hz9 hx9
  replace B9:=B9.ext hx9
  replace B11:=B11.ext hx9
  replace hS:=hS.ext hx9
  replace hRC:=hRC.ext hx9
  replace hdm:=hdm.ext hx9
  replace hx06:=hx06.trans hx9
  clear hx9
  clear B12 hz hu9 hx8
  obtain ⟨uk,ek,Ck,hdk,hBk,kk,lk⟩:=hRC.at (j:=M.length - ys.length - 1) (by omega)
  refine Nv ?_
  refine St.sub (E':=[(1,.int .i64 B),(2,.slice px ys.length cx),(9,.pointer (some ⟨w4.heap.size,0,none⟩)),(10,.int .i64 ((M.length - ys.length - 1:Nat):Int)),(11,.pointer (some ⟨w6.heap.size,0,none⟩)),(12,.pointer (some ⟨b12,0,none⟩))]) ?_ sbb
  refine St.flow 13 TBfol (by kernel_rfl) rfl (by kernel_rfl) rfl True.intro ?_
  refine FL.run TBok 99 rfl ?_
  refine FL.load (L:=[]) TBok rfl rfl rfl rfl rfl rfl upp (by simp) rfl ?_
  refine FL.run TBok 99 rfl ?_
  refine .on (fun _ _=>RunsTo.indexI rfl rfl rfl (by omega)) ?_
  refine .on (fun _ hR=>RunsTo.loadIt rfl (hR.blk hBk (by simp)) kk lk hdk.r2) ?_
  refine .on (fun _ hR=>RunsTo.loadCan rfl (hR.blk S12 (by simp)) hz9) ?_
  refine FL.callE fn_integer_Mul rfl rfl rfl (fun w10 hx10=>CallF.mk rfl (mul_dn ((hdk.ext hx10).dn (by omega)) ((hz9.ext hx10).dn (by omega)))) (MonoR.canO 0 _) ?_
  refine FL.callE fn_integer_Sqrt (ψ:=fun v w'=>∃ r,v=.tuple #[r,.bool ok]∧CanO 0 w' r (ρ:Int)) rfl rfl rfl (fun w10 hx10 t1 h1=>?_) (fun _ _ _ hR ⟨r,h1,h2⟩=>⟨r,h1,h2.rg hR⟩) ?_
  ·refine CallF.mk rfl ((sqrt_dn (h1.dn (by omega))).mono ?_)
   rintro _ w11 ⟨x,rfl,hx11,hs1,hs2⟩
   rcases hρ with ⟨h0,rfl,rfl⟩ | ⟨h0,rfl,hr⟩
   ·exact ⟨_,rfl,hx11,zI,hs1 h0,canO_zero 0 _⟩
   ·obtain ⟨r,y,rfl,hy,hc⟩:=hs2 h0
    have e:y=ρ:=hy.unique hr
    subst e
    exact ⟨_,rfl,hx11,r,rfl,hc⟩
  refine FL.fact (L:=[]) (ψ:=fun v w'=>∃ r,v=.tuple #[r,.bool ok]∧CanO 0 w' r (ρ:Int)) rfl rfl rfl rfl rfl (fun w7 hR t1 h1=>(RunsTo.pure TBok rfl).op.mono (by rintro _ _ ⟨rfl,rfl⟩;exact ⟨Ext.refl _,h1⟩)) (fun _ _ _ hR ⟨r,h1,h2⟩=>⟨r,h1,h2.rg hR⟩) ?_
  refine FL.fact (L:=[]) (ψ:=fun v w'=>CanO 0 w' v (ρ:Int)) rfl rfl rfl rfl rfl (fun w7 hR t1 h1=>?_) (MonoR.canO 0 _) ?_
  ·obtain ⟨r,rfl,hr⟩:=h1
   exact (RunsTo.pure TBok rfl).op.mono (by rintro _ _ ⟨rfl,rfl⟩;exact ⟨Ext.refl _,hr⟩)
  refine FL.fact (L:=[]) (ψ:=Is (.bool ok)) rfl rfl rfl rfl rfl (fun w7 hR t1 h1=>?_) (MonoR.is _ _) ?_
  ·obtain ⟨r,rfl,hr⟩:=h1
   exact (RunsTo.pure TBok rfl).op.mono (by rintro _ _ ⟨rfl,rfl⟩;exact ⟨Ext.refl _,rfl⟩)
  refine FL.alloc TBok rfl rfl rfl rfl ?_
  refine FL.storeN (L:=[]) (base:=w9.heap.size) TBok rfl rfl rfl rfl rfl (MonoR.canO 0 (ρ:Int)) ?_ ?_
  ·intro w7 hR v11 h11 v24 h24
   exact ⟨⟨v11,rfl,h11⟩,v24,rfl,h24.two.1,h24.two.2,h24⟩
  refine FL.endE rfl ?_
  rintro w10 hx10 _ ⟨b13,C13,rfl,hg13,_,_⟩ _ rfl _ _ _ _ _ _ _ _ ⟨⟨b13',u13,hbu,B13,hu13⟩,_⟩ hdist
  cases hbu
  replace B9:=B9.ext hx10
  replace B11:=B11.ext hx10
  replace hS:=hS.ext hx10
  replace hRC:=hRC.ext hx10
  replace hdm:=hdm.ext hx10
  replace hx06:=hx06.trans hx10
  clear hx10
  (iterate 6 refine Nv ?_;try refine .r rfl ?_)
  rcases hρ with ⟨h0,rfl,rfl⟩ | ⟨h0,rfl,hr⟩
  ·refine .cT ?_
   (iterate 6 refine Nv ?_;try refine .r rfl ?_)
   exact Out.rets TBok [_,_,_] rfl ⟨rfl,rfl,rfl,trivial⟩ ⟨hx06,fun _=>rfl,fun _ hp=>absurd hp (by omega)⟩
  refine .cF ?_
  obtain ⟨us,hRow,hul,hus⟩:=hS
  have huk:us[M.length - ys.length - 1]?=some (us[M.length - ys.length - 1]'(by omega)):=by simp
  have hMC:=hus _ _ huk
  rw [show M.length - (M.length - ys.length - 1)=ys.length+1 by omega] at hMC
  obtain ⟨aS,cS,eS,hcS⟩:=hRow.get huk
  rw [hul] at eS
  obtain ⟨aM,cM,eM,hcMp,hAM⟩:=hMC
  rw [eM] at hcS
  obtain ⟨b0,o0,c0,hc0,hcp0,hr0⟩:=hAM 0 (by omega)
  cases eS
  (iterate 6 refine Nv ?_;try refine .r rfl ?_)
  (refine .s (RunsTo.load TBok rfl rfl rfl (Blk.cell upp rfl)).op ?_;rintro _ _ ⟨rfl,rfl⟩)
  refine .r rfl ?_
  refine .p (RunsTo.ia) ?_
  refine .p (RunsTo.load TBok rfl rfl rfl hcS) ?_
  refine .p (RunsTo.ia) ?_
  refine .p (RunsTo.load TBok rfl rfl rfl hc0) ?_
  refine .p (RunsTo.sliceLo TBok rfl rfl rfl rfl 1 rfl (by omega)) ?_
  have hLC:LCo w10 (.slice (if c0=1 then some (⟨b0,o0,none⟩:Addr) else (some (⟨b0,o0,none⟩:Addr)).map (·.add (1 * 2))) (ys.length+1 - 1) (c0 - 1)) ys.length (fun j=>stI f (M.length - ys.length - 1) 0 (j+1)):=by
   rw [Nat.add_sub_cancel]
   refine ⟨⟨_,_,rfl⟩,fun hpos=>⟨b0,o0+2,c0 - 1,?_,hr0.tl⟩⟩
   rw [if_neg (by omega),Option.map_some,addr_add]
  refine .r rfl ?_
  refine .s (OpR.call fn_schur_product rfl (product1_spec hLC (k.ext hx06) (Nat.le_refl _) (by omega) (fun j hj=>hszs (M.length - ys.length - 1) (by omega) 0 (j+1) (by omega) (by omega)) hT)) ?_
  rintro lv w11 ⟨hx11,hlv⟩
  replace hlv:CanO 0 w11 lv (liI f M.length ys):=hlv
  replace B11:=B11.ext hx11
  replace B13:=B13.ext hx11
  replace hu13:=hu13.ext hx11
  replace hdm:=hdm.ext hx11
  replace hx06:=hx06.trans hx11
  clear hx11
  refine StL.newI rfl (fun _=>rfl) hlv.r2 ?_
  intro w12 hx12 B15
  replace B11:=B11.ext hx12
  replace B13:=B13.ext hx12
  replace hu13:=hu13.ext hx12
  replace hdm:=hdm.ext hx12
  replace hlv:=hlv.ext hx12
  replace hx06:=hx06.trans hx12
  clear hx12
  have za1:=sz_add (liI f M.length ys) (ρ:Int)
  have za2:=sz_sub (ρ:Int) (liI f M.length ys)
  refine Nv ?_
  refine St.sub (E':=[(11,.pointer (some ⟨w6.heap.size,0,none⟩)),(13,.pointer (some ⟨b13,0,none⟩)),(15,.pointer (some ⟨w11.heap.size,0,none⟩))]) ?_ sbb
  refine St.flow 13 TBfol (by kernel_rfl) rfl (by kernel_rfl) rfl True.intro ?_
  refine .on (fun _ hR=>RunsTo.loadCan rfl (hR.blk B15 (by simp)) hlv) ?_
  refine .on (fun _ hR=>RunsTo.loadCan rfl (hR.blk B13 (by simp)) hu13) ?_
  refine FL.callE fn_integer_Add rfl rfl rfl (fun w13 hx13=>CallF.mk rfl (add_dn ((hlv.ext hx13).dn (by omega)) ((hu13.ext hx13).dn (by omega)))) (MonoR.canO 0 _) ?_
  refine .on (fun _ hR=>RunsTo.loadCan rfl (hR.blk B11 (by simp)) hdm) ?_
  refine FL.callE fn_integer_DivMod (ψ:=QR ((liI f M.length ys+ρ) / ddI f (M.length - ys.length)) ((liI f M.length ys+ρ) % ddI f (M.length - ys.length))) rfl rfl rfl (fun _ hxD t1 h1=>?_) (MonoR.qr _ _) ?_
  ·refine CallF.mk rfl ((divMod_dn (base:=0) (h1.dn (by omega)) ((hdm.ext hxD).dn (by omega)) (Nat.zero_le _)).mono ?_)
   rintro _ wD ⟨x,rfl,hxE,_,hdv⟩
   obtain ⟨u,m,rfl,hu,hm⟩:=hdv (by omega)
   exact ⟨_,rfl,hxE,u,m,rfl,hu,hm⟩
  refine FL.fact (L:=[]) (ψ:=QR ((liI f M.length ys+ρ) / ddI f (M.length - ys.length)) ((liI f M.length ys+ρ) % ddI f (M.length - ys.length))) rfl rfl rfl rfl rfl (fun _ hR t1 h1=>(RunsTo.pure TBok rfl).op.mono (by rintro _ _ ⟨rfl,rfl⟩;exact ⟨Ext.refl _,h1⟩)) (MonoR.qr _ _) ?_
  refine FL.fact (L:=[]) (ψ:=fun v w'=>CanO 0 w' v ((liI f M.length ys+ρ) / ddI f (M.length - ys.length))) rfl rfl rfl rfl rfl (fun _ hR t1 h1=>?_) (MonoR.canO 0 _) ?_
  ·obtain ⟨u,m,rfl,hu,hm⟩:=h1
   exact (RunsTo.pure TBok rfl).op.mono (by rintro _ _ ⟨rfl,rfl⟩;exact ⟨Ext.refl _,hu⟩)
  refine FL.fact (L:=[]) (ψ:=fun v w'=>CanO 0 w' v ((liI f M.length ys+ρ) % ddI f (M.length - ys.length))) rfl rfl rfl rfl rfl (fun _ hR t1 h1=>?_) (MonoR.canO 0 _) ?_
  ·obtain ⟨u,m,rfl,hu,hm⟩:=h1
   exact (RunsTo.pure TBok rfl).op.mono (by rintro _ _ ⟨rfl,rfl⟩;exact ⟨Ext.refl _,hm⟩)
  refine FL.fact (L:=[]) (ψ:=Is (.bool true)) rfl rfl rfl rfl rfl (fun _ hR t1 h1=>?_) (MonoR.is _ _) ?_
  ·obtain ⟨u,m,rfl,hu,hm⟩:=h1
   exact (RunsTo.pure TBok rfl).op.mono (by rintro _ _ ⟨rfl,rfl⟩;exact ⟨Ext.refl _,rfl⟩)
  refine FL.alloc TBok rfl rfl rfl rfl ?_
  refine FL.alloc TBok rfl rfl rfl rfl ?_
  refine FL.storeN (L:=[]) (base:=w12.heap.size) TBok rfl rfl rfl rfl rfl (MonoR.canO 0 ((liI f M.length ys+ρ) / ddI f (M.length - ys.length))) ?_ ?_
  ·intro _ hR v11 h11 v24 h24
   exact ⟨⟨v11,rfl,h11⟩,v24,rfl,h24.two.1,h24.two.2,h24⟩
  refine FL.storeN (L:=[]) (base:=w12.heap.size) TBok rfl rfl rfl rfl rfl (MonoR.canO 0 ((liI f M.length ys+ρ) % ddI f (M.length - ys.length))) ?_ ?_
  ·intro _ hR v11 h11 v24 h24
   exact ⟨⟨v11,rfl,h11⟩,v24,rfl,h24.two.1,h24.two.2,h24⟩
  refine FL.endE rfl ?_
  rintro w13 hx13 _ ⟨b17,C17,rfl,hg17,_,_⟩ _ ⟨b16,C16,rfl,hg16,_,_⟩ _ _ _ _ _ _ _ _ _ _ _ _ ⟨_,⟨b16',u16,hbu,B16,hu16⟩,_⟩ hdist
  cases hbu
  clear hdist
  replace B11:=B11.ext hx13
  replace B13:=B13.ext hx13
  replace hu13:=hu13.ext hx13
  replace hdm:=hdm.ext hx13
  replace B15:=B15.ext hx13
  replace hlv:=hlv.ext hx13
  replace hx06:=hx06.trans hx13
  clear hx13
  refine .r rfl ?_
  refine Nv ?_
  refine St.sub (E':=[(11,.pointer (some ⟨w6.heap.size,0,none⟩)),(13,.pointer (some ⟨b13,0,none⟩)),(15,.pointer (some ⟨w11.heap.size,0,none⟩)),(16,.pointer (some ⟨b16,0,none⟩))]) ?_ sbb
  refine St.flow 13 TBfol (by kernel_rfl) rfl (by kernel_rfl) rfl True.intro ?_
  refine .on (fun _ hR=>RunsTo.loadCan rfl (hR.blk B13 (by simp)) hu13) ?_
  refine .on (fun _ hR=>RunsTo.loadCan rfl (hR.blk B15 (by simp)) hlv) ?_
  refine FL.callE fn_integer_Sub rfl rfl rfl (fun w14 hx14=>CallF.mk rfl (sub_dn ((hu13.ext hx14).dn (by omega)) ((hlv.ext hx14).dn (by omega)))) (MonoR.canO 0 _) ?_
  refine .on (fun _ hR=>RunsTo.loadCan rfl (hR.blk B11 (by simp)) hdm) ?_
  refine FL.callE fn_integer_DivMod (ψ:=QR ((ρ - liI f M.length ys) / ddI f (M.length - ys.length)) ((ρ - liI f M.length ys) % ddI f (M.length - ys.length))) rfl rfl rfl (fun _ hxD t1 h1=>?_) (MonoR.qr _ _) ?_
  ·refine CallF.mk rfl ((divMod_dn (base:=0) (h1.dn (by omega)) ((hdm.ext hxD).dn (by omega)) (Nat.zero_le _)).mono ?_)
   rintro _ wD ⟨x,rfl,hxE,_,hdv⟩
   obtain ⟨u,m,rfl,hu,hm⟩:=hdv (by omega)
   exact ⟨_,rfl,hxE,u,m,rfl,hu,hm⟩
  refine FL.fact (L:=[]) (ψ:=QR ((ρ - liI f M.length ys) / ddI f (M.length - ys.length)) ((ρ - liI f M.length ys) % ddI f (M.length - ys.length))) rfl rfl rfl rfl rfl (fun _ hR t1 h1=>(RunsTo.pure TBok rfl).op.mono (by rintro _ _ ⟨rfl,rfl⟩;exact ⟨Ext.refl _,h1⟩)) (MonoR.qr _ _) ?_
  refine FL.fact (L:=[]) (ψ:=fun v w'=>CanO 0 w' v ((ρ - liI f M.length ys) / ddI f (M.length - ys.length))) rfl rfl rfl rfl rfl (fun _ hR t1 h1=>?_) (MonoR.canO 0 _) ?_
  ·obtain ⟨u,m,rfl,hu,hm⟩:=h1
   exact (RunsTo.pure TBok rfl).op.mono (by rintro _ _ ⟨rfl,rfl⟩;exact ⟨Ext.refl _,hu⟩)
  refine FL.fact (L:=[]) (ψ:=fun v w'=>CanO 0 w' v ((ρ - liI f M.length ys) % ddI f (M.length - ys.length))) rfl rfl rfl rfl rfl (fun _ hR t1 h1=>?_) (MonoR.canO 0 _) ?_
  ·obtain ⟨u,m,rfl,hu,hm⟩:=h1
   exact (RunsTo.pure TBok rfl).op.mono (by rintro _ _ ⟨rfl,rfl⟩;exact ⟨Ext.refl _,hm⟩)
  refine FL.fact (L:=[]) (ψ:=Is (.bool true)) rfl rfl rfl rfl rfl (fun _ hR t1 h1=>?_) (MonoR.is _ _) ?_
  ·obtain ⟨u,m,rfl,hu,hm⟩:=h1
   exact (RunsTo.pure TBok rfl).op.mono (by rintro _ _ ⟨rfl,rfl⟩;exact ⟨Ext.refl _,rfl⟩)
  refine FL.alloc TBok rfl rfl rfl rfl ?_
  refine FL.alloc TBok rfl rfl rfl rfl ?_
  refine FL.storeN (L:=[]) (base:=w13.heap.size) TBok rfl rfl rfl rfl rfl (MonoR.canO 0 ((ρ - liI f M.length ys) / ddI f (M.length - ys.length))) ?_ ?_
  ·intro _ hR v11 h11 v24 h24
   exact ⟨⟨v11,rfl,h11⟩,v24,rfl,h24.two.1,h24.two.2,h24⟩
  refine FL.storeN (L:=[]) (base:=w13.heap.size) TBok rfl rfl rfl rfl rfl (MonoR.canO 0 ((ρ - liI f M.length ys) % ddI f (M.length - ys.length))) ?_ ?_
  ·intro _ hR v11 h11 v24 h24
   exact ⟨⟨v11,rfl,h11⟩,v24,rfl,h24.two.1,h24.two.2,h24⟩
  refine FL.endE rfl ?_
  rintro w14 hx14 _ ⟨b20,C20,rfl,hg20,_,_⟩ _ ⟨b19,C19,rfl,hg19,_,_⟩ _ _ _ _ _ _ _ _ _ _ _ _ ⟨_,⟨b19',u19,hbu,B19,hu19⟩,_⟩ hdist
  cases hbu
  clear hdist
  replace B16:=B16.ext hx14
  replace hu16:=hu16.ext hx14
  replace hx06:=hx06.trans hx14
  clear hx14
  have zq1:=sz_div (liI f M.length ys+ρ) (ddI f (M.length - ys.length))
  have zq2:=sz_div (ρ - liI f M.length ys) (ddI f (M.length - ys.length))
  have zq3:=sz_neg ((liI f M.length ys+ρ) / ddI f (M.length - ys.length))
  (iterate 6 refine Nv ?_;try refine .r rfl ?_)
  refine .p (RunsTo.loadI2 rfl (B16) (hu16.r2)) ?_
  refine .s (OpR.call fn_integer_Neg rfl (neg_dn (hu16.dn (by omega)))) ?_
  rintro ng w15 ⟨hx15,hng⟩
  replace B19:=B19.ext hx15
  replace hu19:=hu19.ext hx15
  replace hx06:=hx06.trans hx15
  clear hx15
  refine .s (OpR.call fn_integer_Int64 rfl (int64_dn (hng.dn (by omega)))) ?_
  rintro _ w16 ⟨hx16,rfl⟩
  replace B19:=B19.ext hx16
  replace hu19:=hu19.ext hx16
  replace hx06:=hx06.trans hx16
  clear hx16
  obtain ⟨bb1,e1⟩:=int64V_lo (-((liI f M.length ys+ρ) / ddI f (M.length - ys.length)))
  obtain ⟨bb2,e2⟩:=int64V_lo ((ρ - liI f M.length ys) / ddI f (M.length - ys.length))
  rw [e1]
  (iterate 6 refine Nv ?_;try refine .r rfl ?_)
  refine .p (RunsTo.loadI2 rfl (B19) (hu19.r2)) ?_
  refine .s (OpR.call fn_integer_Int64 rfl (int64_dn (hu19.dn (by omega)))) ?_
  rintro _ w17 ⟨hx17,rfl⟩
  replace hx06:=hx06.trans hx17
  clear hx17
  rw [e2]
  (iterate 6 refine Nv ?_;try refine .r rfl ?_)
  exact Out.rets TBok [_,_,_] rfl ⟨rfl,rfl,rfl,trivial⟩ ⟨hx06,fun hp=>hp.elim (fun hp=>absurd hIV hp) (fun hp=>absurd hp (by omega)),fun _ _=>⟨ρ,hr,rfl⟩⟩
 ·have hbf:b=false:=by simpa using hR
  subst hbf
  (iterate 6 refine Nv ?_;try refine .r rfl ?_)
  refine .cT ?_
  (iterate 6 refine Nv ?_;try refine .r rfl ?_)
  exact Out.rets TBok [_,_,_] rfl ⟨rfl,rfl,rfl,trivial⟩ ⟨hx02,fun _=>rfl,fun hp=>absurd (hb.2 hp.1) (by simp)⟩
theorem filS_zero (G:Nat→Nat→Int) (m:Nat):mk m m (fun _ _=>0)=mk m m (fil G 0 0):=mk_congr fun a b _ _=>by unfold fil;rw [if_neg (by omega)]
theorem filS_row (G:Nat→Nat→Int) (m i:Nat):mk m m (fil G i m)=mk m m (fil G (i+1) 0):=mk_congr fun a b ha hb=>by
 unfold fil
 by_cases e:a<i∨a=i∧b<m
 ·rw [if_pos e,if_pos (by omega)]
 ·rw [if_neg e,if_neg (by omega)]
theorem filS_all (G:Nat→Nat→Int) (m:Nat):mk m m (fil G m 0)=mk m m G:=mk_congr fun a b ha hb=>by unfold fil;rw [if_pos (by omega)]
theorem filS_put (G:Nat→Nat→Int) (m i j:Nat):mk m m (upd2 (fil G i j) i j (G i j))=mk m m (fil G i (j+1)):=mk_congr fun a b ha hb=>by
 unfold upd2 fil
 by_cases e:a=i∧b=j
 ·rw [if_pos e,if_pos (by omega),e.1,e.2]
 ·rw [if_neg e]
  by_cases e2:a<i∨a=i∧b<j
  ·rw [if_pos e2,if_pos (by omega)]
  ·rw [if_neg e2,if_neg (by omega)]
theorem pos_gd {n m:Nat} {f:Nat→Nat→Int} (h:Pos n (RA f)) (hm:m≤n+1):Gd m f:=fun j h1 h2 e=>by
 have:=h j (by omega)
 rw [e] at this
 exact absurd this (by decide)
theorem MatC.rowB {rs:List Value} {base:Nat} {w:World} {v r u:Value} {M:List (List Int)} {i j:Nat} {row:List Int} {y:Int} (h:MatC rs base w v M) (hr:rs[i]?=some r) (hi:M[i]?=some row) (hj:j<row.length) (hu:CanO 0 w u y) :
  ∃ g cap C,r=.slice (some ⟨g,0,none⟩) row.length cap∧base≤g∧Blk 31 w g C∧2 * j+2≤C.length∧∀ w',Upd g w w'→Blk 31 w' g (over C (2 * j) u.cells.toList)→MatC rs base w' v (M.set i (row.set j y)):=by
 obtain ⟨R,h1,h2,h3⟩:=h
 have hlt:i<R.length:=by have:=(List.getElem?_eq_some_iff.1 hi).1;omega
 have hR:R[i]?=some R[i]:=by simp
 obtain ⟨k1,k2⟩:=h3 i _ row hR hi
 have hjl:j<(R[i]).length:=by omega
 obtain ⟨g,cap,D,hv,hg0,hb,hc1,hc2,hput⟩:=h1.put (by decide) hr hR hjl (u:=u) hu.two
 have hl:=(h1.2.2.2.1 i _ _ hr hR).1.flat
 refine ⟨g,cap,_,by rw [hv,k1],hg0,hb,by rw [List.length_append,hl];omega,fun w' hu' hb'=>⟨_,hput w' hu' hb',by simpa using h2,?_⟩⟩
 intro i' us' row' hus' hrow'
 have keep:∀ (u':Value) (x':Int),CanO 0 w u' x'→CanO 0 w' u' x':=fun u' x' hc=>hc.updT hu' hb (by decide)
 by_cases e1:i=i'
 ·subst e1
  rw [List.getElem?_set_self hlt] at hus'
  rw [List.getElem?_set_self (by have:=(List.getElem?_eq_some_iff.1 hi).1;omega)] at hrow'
  cases hus'
  cases hrow'
  refine ⟨by simpa using k1,fun j' u' x' hu1 hx1=>?_⟩
  by_cases e2:j=j'
  ·subst e2
   rw [List.getElem?_set_self (by omega)] at hu1 hx1
   cases hu1
   cases hx1
   exact keep _ _ hu
  ·rw [List.getElem?_set_ne e2] at hu1 hx1
   exact keep _ _ (k2 j' u' x' hu1 hx1)
 ·rw [List.getElem?_set_ne e1] at hus' hrow'
  obtain ⟨q1,q2⟩:=h3 i' us' row' hus' hrow'
  exact ⟨q1,fun j' u' x' a b=>keep _ _ (q2 j' u' x' a b)⟩
set_option maxHeartbeats 6400000 in
theorem stage_spec {w:World} {v:Value} {n k s:Nat} {f:Nat→Nat→Int} (h:MI w v (mk n n f)) (hn:1≤n∧n≤16) (hs:∀ a b,a<n→b<n→sz (f a b)≤s) (hs1:1≤s) (hb:2 ^ n * (s+1)≤100000) (hk:k<n) (hpos:Pos n (RA f)) :
  Calls Tryz.prog 119 #[v,.int .i64 k] w (Ret fun x w'=>Ext w w'∧∃ rs,MatC rs w.heap.size w' x (mk (n - k) (n - k) (stI f k))):=by
 obtain ⟨pv,cv,ev⟩:=h.len
 rw [mk_len] at ev
 subst ev
 have hbk:=bd_le (k:=k+1) (n:=n) (by omega) hb
 refine calls_of_St (args:=[_,_]) Tryz.func119 rfl Tryz.ntmps119 rfl ?_
 refine Nv ?_
 refine .r rfl ?_
 refine Nv ?_
 refine .a 4 (.int .i64 ((n - k:Nat):Int)) rfl (by rw [i64_id (by omega) (by omega)];congr 1;omega) ?_
 obtain ⟨m,hm⟩:∃ m,m=n - k:=⟨_,rfl⟩
 rw [← hm]
 (iterate 6 refine Nv ?_;try refine .r rfl ?_)
 refine .s (OpR.call fn_r03_Zero rfl (zero_spec (base:=w.heap.size) w m m (by omega) (by omega) (Nat.le_refl _))) ?_
 rintro V w1 ⟨hx1,rs,hM⟩
 replace hM:=hM.zeroC
 rw [filS_zero (stI f k)] at hM
 obtain ⟨g,cap,rfl⟩:=hM.addr (by omega)
 (iterate 6 refine Nv ?_;try refine .r rfl ?_)
 refine St.rng TBok (18) (0) (m) (by omega) [(0,.slice pv n cv),(1,.int .i64 k),(6,.slice (some ⟨g,0,none⟩) m cap),(17,.int .i64 m)] (fun i w'=>Ext w w'∧MatC rs w.heap.size w' (.slice (some ⟨g,0,none⟩) m cap) (mk m m (fil (stI f k) i 0))) sbb ?_ (fun _=>⟨rfl,rfl⟩) (fun _=>rfl) (fun _=>⟨rfl,rfl⟩) rfl rfl (by omega) ?_ ?_
 ·exact ⟨hx1,hM⟩
 ·clear hM hx1
  rintro i w3 hi ⟨hx3,hM⟩
  obtain ⟨a3,rr,ea,_,hrr,hc3⟩:=hM.rowAtM (i:=i) (by rw [mk_len];exact hi)
  cases ea
  have hrv:∃ g3 cp3,rr=.slice (some ⟨g3,0,none⟩) m cp3:=by
   obtain ⟨R,h1,h2,h3⟩:=hM
   rw [mk_len] at h2
   have hRi:R[i]?=some (R[i]'(by omega)):=by simp
   obtain ⟨k1,k2⟩:=h3 i _ _ hRi (mk_get hi)
   obtain ⟨g3,cp3,D3,e3,_⟩:=(h1.2.2.2.1 i _ _ hrr hRi).open (by intro e;rw [e] at k1;simp at k1;omega)
   refine ⟨g3,cp3,?_⟩
   rw [e3,k1]
   simp
  obtain ⟨g3,cp3,rfl⟩:=hrv
  (iterate 6 refine Nv ?_;try refine .r rfl ?_)
  refine .p (RunsTo.ia) ?_
  refine .p (RunsTo.load TBok rfl rfl rfl hc3) ?_
  (iterate 6 refine Nv ?_;try refine .r rfl ?_)
  refine St.rng TBok (26) (0) (m) (by omega) [(18,.int .i64 i),(0,.slice pv n cv),(1,.int .i64 k),(6,.slice (some ⟨g,0,none⟩) m cap),(17,.int .i64 m),(7,.int .i64 i),(25,.int .i64 m)] (fun j w'=>Ext w w'∧MatC rs w.heap.size w' (.slice (some ⟨g,0,none⟩) m cap) (mk m m (fil (stI f k) i j))) sbb ?_ (fun _=>⟨rfl,rfl⟩) (fun _=>rfl) (fun _=>⟨rfl,rfl⟩) rfl rfl (by omega) ?_ ?_
  ·exact ⟨hx3,hM⟩
  ·clear hM hx3 hc3
   rintro j w5 hj ⟨hx5,hM5⟩
   obtain ⟨a3,rr2,ea,_,hrr2,hc3⟩:=hM5.rowAtM (i:=i) (by rw [mk_len];exact hi)
   cases ea
   rw [hrr] at hrr2
   cases hrr2
   (iterate 6 refine Nv ?_;try refine .r rfl ?_)
   refine St.sub (E':=[(26,.int .i64 j),(18,.int .i64 i),(0,.slice pv n cv),(1,.int .i64 k),(6,.slice (some ⟨g,0,none⟩) m cap),(17,.int .i64 m),(7,.int .i64 i),(25,.int .i64 m),(8,.int .i64 j)]) ?_ sbb
   refine St.any TBfol rfl ?_
   intro w6 hx6 _ _
   have hx5a:=hx5.trans hx6
   have hc6:=hx6.cell hc3
   refine WA.takes (fuel:=8) TBok (by kernel_rfl) (fun _ _ _ _ _ h=>h) [0,1,4,5,6,7,8,9,11,12,13,14] (by kernel_rfl) rfl ?_
   rw [show IntKind.i64.wrap ((k:Int)+(i:Int))=((k+i:Nat):Int) from by rw [i64_id (by omega) (by omega)];rfl,show IntKind.i64.wrap ((k:Int)+(j:Int))=((k+j:Nat):Int) from by rw [i64_id (by omega) (by omega)];rfl]
   refine WA.take 2 rfl rfl (by kernel_rfl) (by kernel_rfl) (by kernel_rfl) (fun _ _ _ h=>h) rfl rfl (fun w=>RunsTo.ia) ?_
   refine WA.meet 2 #[true,true,true,true,true,true,true,true,true,true,true,true,true,true,true,true,true,true,false,false] (fun s:Value×Int=>[(26,.int .i64 j),(18,.int .i64 i),(0,.slice pv n cv),(1,.int .i64 k),(6,.slice (some ⟨g,0,none⟩) m cap),(17,.int .i64 m),(7,.int .i64 i),(25,.int .i64 m),(8,.int .i64 j),(32,.slice (some ⟨g3,0,none⟩) m cp3),(33,.int .i64 j),(46,s.1)]) (fun sd w'=>Ext w6 w'∧CanO 0 w' sd.1 sd.2∧sz sd.2≤2 ^ (k+1) * (s+1)∧(Gd (k+1) (selF f k (k+i) (k+j))→(sd.2:Rat)=dd (RA (selF f k (k+i) (k+j))) (k+1))) ?_ ?_
   ·rintro ⟨u4,d⟩ w7 ⟨hx7,hd,hdz,hdv⟩
    dsimp only at hd hdz hdv ⊢
    have hde:d=stI f k i j:=by
     have h1:=hdv (Gd_sel (pos_gd hpos (by omega)))
     rw [dd_selF,← stI_cast hpos (show k≤n by omega)] at h1
     exact_mod_cast h1
    subst hde
    obtain ⟨g4,cap4,C4,e4,hg4,hB4,hl4,hput⟩:=((hM5.ext hx6).ext hx7).rowB hrr (mk_get hi) (j:=j) (by simp;exact hj) hd
    have hlr:((List.range m).map (fil (stI f k) i j i)).length=m:=by simp
    rw [hlr] at e4
    simp only [Value.slice.injEq,Option.some.injEq,Addr.mk.injEq,and_true,true_and] at e4
    obtain ⟨rfl,rfl⟩:=e4
    refine WA.one (i:=18) (by kernel_rfl) (WOp.val rfl rfl rfl rfl (RunsTo.indexI rfl rfl rfl hj).op ?_)
    rintro _ _ ⟨rfl,rfl⟩
    refine WA.one (i:=19) (by kernel_rfl) (WOp.eff rfl rfl rfl (OpR.store TBok (off:=0+2 * j) rfl rfl rfl rfl hd.two.1 hB4 (by rw [hd.two.1];omega) hd.two.2) ?_)
    rintro _ w8 ⟨B8,hu8⟩
    rw [Nat.zero_add] at B8
    have hM8:=hput w8 hu8 B8
    rw [mk_set hi hj,filS_put] at hM8
    refine WA.done (by kernel_rfl) ?_
    refine Nv ?_
    exact Out.rnd sbb ⟨(hx5a.trans hx7).then_upd hu8 hg4,hM8⟩
   ·intro meet
    refine WA.two (i:=3) (j:=10) (by kernel_rfl) ?_ ?_
    ·refine WOp.val rfl rfl rfl rfl (RunsTo.load TBok rfl rfl rfl ((Ext.refl _:Ext w6 w6).cell hc6)).op ?_
     rintro _ _ ⟨rfl,rfl⟩
     refine WA.one (i:=10) (by kernel_rfl) (WOp.val rfl rfl rfl rfl (OpR.call fn_r04_first rfl (first_spec (base:=0) _ k (k+i) (by omega) (by omega) (Nat.zero_le _))) ?_)
     rintro u1 wa ⟨hxa,hF1⟩
     refine WA.one (i:=15) (by kernel_rfl) (WOp.val rfl rfl rfl rfl (OpR.call fn_r04_first rfl (first_spec (base:=0) _ k (k+j) (by omega) (by omega) (Nat.zero_le _))) ?_)
     rintro u2 wb ⟨hxb,hF2⟩
     refine WA.one (i:=16) (by kernel_rfl) (WOp.val rfl rfl rfl rfl (OpR.call fn_r03_Select rfl (select_spec (h.ext (hx5a.trans (hxa.trans hxb))) hn hn ((hF1.ext hxb).row (tabN_one _ _)) (hF2.row (tabN_one _ _)) (by omega) (by omega) (fun x hx=>fstR_le (by omega) (by omega) hx) (fun x hx=>fstR_le (by omega) (by omega) hx))) ?_)
     rintro u3 wc ⟨hxc,hS⟩
     refine WA.one (i:=17) (by kernel_rfl) (WOp.val rfl rfl rfl rfl (OpR.call fn_r03_Determinant rfl (determinant_spec (f:=selF f k (k+i) (k+j)) hS ⟨by omega,by omega⟩ (s:=s) (fun a b ha hb=>hs _ _ (fstR_le (by omega) (by omega) ha) (fstR_le (by omega) (by omega) hb)) hs1 hbk)) ?_)
     rintro u4 wd ⟨hxd,d,hd,hdz,hdv⟩
     exact meet (u4,d) _ _ _ (by kernel_rfl) ⟨(((hxa.trans hxb).trans hxc).trans hxd),hd,hdz,hdv⟩ sbb
    ·refine WOp.val rfl rfl rfl rfl (OpR.call fn_r04_first rfl (first_spec (base:=0) _ k (k+i) (by omega) (by omega) (Nat.zero_le _))) ?_
     rintro u1 wa ⟨hxa,hF1⟩
     refine WA.two (i:=3) (j:=15) (by kernel_rfl) ?_ ?_
     ·refine WOp.val rfl rfl rfl rfl (RunsTo.load TBok rfl rfl rfl ((hxa:Ext w6 wa).cell hc6)).op ?_
      rintro _ _ ⟨rfl,rfl⟩
      refine WA.one (i:=15) (by kernel_rfl) (WOp.val rfl rfl rfl rfl (OpR.call fn_r04_first rfl (first_spec (base:=0) _ k (k+j) (by omega) (by omega) (Nat.zero_le _))) ?_)
      rintro u2 wb ⟨hxb,hF2⟩
      refine WA.one (i:=16) (by kernel_rfl) (WOp.val rfl rfl rfl rfl (OpR.call fn_r03_Select rfl (select_spec (h.ext (hx5a.trans (hxa.trans hxb))) hn hn ((hF1.ext hxb).row (tabN_one _ _)) (hF2.row (tabN_one _ _)) (by omega) (by omega) (fun x hx=>fstR_le (by omega) (by omega) hx) (fun x hx=>fstR_le (by omega) (by omega) hx))) ?_)
      rintro u3 wc ⟨hxc,hS⟩
      refine WA.one (i:=17) (by kernel_rfl) (WOp.val rfl rfl rfl rfl (OpR.call fn_r03_Determinant rfl (determinant_spec (f:=selF f k (k+i) (k+j)) hS ⟨by omega,by omega⟩ (s:=s) (fun a b ha hb=>hs _ _ (fstR_le (by omega) (by omega) ha) (fstR_le (by omega) (by omega) hb)) hs1 hbk)) ?_)
      rintro u4 wd ⟨hxd,d,hd,hdz,hdv⟩
      exact meet (u4,d) _ _ _ (by kernel_rfl) ⟨(((hxa.trans hxb).trans hxc).trans hxd),hd,hdz,hdv⟩ sbb
     ·refine WOp.val rfl rfl rfl rfl (OpR.call fn_r04_first rfl (first_spec (base:=0) _ k (k+j) (by omega) (by omega) (Nat.zero_le _))) ?_
      rintro u2 wb ⟨hxb,hF2⟩
      refine WA.two (i:=3) (j:=16) (by kernel_rfl) ?_ ?_
      ·refine WOp.val rfl rfl rfl rfl (RunsTo.load TBok rfl rfl rfl (((hxa.trans hxb):Ext w6 wb).cell hc6)).op ?_
       rintro _ _ ⟨rfl,rfl⟩
       refine WA.one (i:=16) (by kernel_rfl) (WOp.val rfl rfl rfl rfl (OpR.call fn_r03_Select rfl (select_spec (h.ext (hx5a.trans (hxa.trans hxb))) hn hn ((hF1.ext hxb).row (tabN_one _ _)) (hF2.row (tabN_one _ _)) (by omega) (by omega) (fun x hx=>fstR_le (by omega) (by omega) hx) (fun x hx=>fstR_le (by omega) (by omega) hx))) ?_)
       rintro u3 wc ⟨hxc,hS⟩
       refine WA.one (i:=17) (by kernel_rfl) (WOp.val rfl rfl rfl rfl (OpR.call fn_r03_Determinant rfl (determinant_spec (f:=selF f k (k+i) (k+j)) hS ⟨by omega,by omega⟩ (s:=s) (fun a b ha hb=>hs _ _ (fstR_le (by omega) (by omega) ha) (fstR_le (by omega) (by omega) hb)) hs1 hbk)) ?_)
       rintro u4 wd ⟨hxd,d,hd,hdz,hdv⟩
       exact meet (u4,d) _ _ _ (by kernel_rfl) ⟨(((hxa.trans hxb).trans hxc).trans hxd),hd,hdz,hdv⟩ sbb
      ·refine WOp.val rfl rfl rfl rfl (OpR.call fn_r03_Select rfl (select_spec (h.ext (hx5a.trans (hxa.trans hxb))) hn hn ((hF1.ext hxb).row (tabN_one _ _)) (hF2.row (tabN_one _ _)) (by omega) (by omega) (fun x hx=>fstR_le (by omega) (by omega) hx) (fun x hx=>fstR_le (by omega) (by omega) hx))) ?_
       rintro u3 wc ⟨hxc,hS⟩
       refine WA.two (i:=3) (j:=17) (by kernel_rfl) ?_ ?_
       ·refine WOp.val rfl rfl rfl rfl (RunsTo.load TBok rfl rfl rfl ((((hxa.trans hxb).trans hxc):Ext w6 wc).cell hc6)).op ?_
        rintro _ _ ⟨rfl,rfl⟩
        refine WA.one (i:=17) (by kernel_rfl) (WOp.val rfl rfl rfl rfl (OpR.call fn_r03_Determinant rfl (determinant_spec (f:=selF f k (k+i) (k+j)) hS ⟨by omega,by omega⟩ (s:=s) (fun a b ha hb=>hs _ _ (fstR_le (by omega) (by omega) ha) (fstR_le (by omega) (by omega) hb)) hs1 hbk)) ?_)
        rintro u4 wd ⟨hxd,d,hd,hdz,hdv⟩
        exact meet (u4,d) _ _ _ (by kernel_rfl) ⟨(((hxa.trans hxb).trans hxc).trans hxd),hd,hdz,hdv⟩ sbb
       ·refine WOp.val rfl rfl rfl rfl (OpR.call fn_r03_Determinant rfl (determinant_spec (f:=selF f k (k+i) (k+j)) hS ⟨by omega,by omega⟩ (s:=s) (fun a b ha hb=>hs _ _ (fstR_le (by omega) (by omega) ha) (fstR_le (by omega) (by omega) hb)) hs1 hbk)) ?_
        rintro u4 wd ⟨hxd,d,hd,hdz,hdv⟩
        refine WA.one (i:=3) (by kernel_rfl) (WOp.val rfl rfl rfl rfl (RunsTo.load TBok rfl rfl rfl (((((hxa.trans hxb).trans hxc).trans hxd):Ext w6 wd).cell hc6)).op ?_)
        rintro _ _ ⟨rfl,rfl⟩
        exact meet (u4,d) _ _ _ (by kernel_rfl) ⟨(((hxa.trans hxb).trans hxc).trans hxd),hd,hdz,hdv⟩ sbb
  ·rintro w6 ⟨hx6,hM6⟩
   refine Nv ?_
   refine Out.rnd sbb ⟨hx6,?_⟩
   rw [← filS_row]
   exact hM6
 ·rintro w3 ⟨hx3,hM⟩
  rw [filS_all] at hM
  (iterate 6 refine Nv ?_;try refine .r rfl ?_)
  exact Out.ret1 rfl rfl ⟨hx3,rs,hM⟩
theorem MatC.keep {rs:List Value} {base:Nat} {w w':World} {v:Value} {M:List (List Int)} {et:TypeId} (h:MatC rs base w v M) (hB:∀ t b C,Blk t w b C→t≠et→Blk t w' b C) (hC:∀ u a,CanO 0 w u a→CanO 0 w' u a) (h1:45≠et) (h2:31≠et):MatC rs base w' v M:=by
 obtain ⟨R,⟨a1,a2,a3,a4,a5⟩,b1,b2⟩:=h
 refine ⟨R,⟨a1.keepB fun b C _ hb=>hB _ _ _ hb h1,a2,a3,fun i r us hr hus=>(a4 i r us hr hus).keepB fun b C _ hb=>hB _ _ _ hb h2,a5⟩,b1,fun i us row hus hrow=>?_⟩
 obtain ⟨c1,c2⟩:=b2 i us row hus hrow
 exact ⟨c1,fun j u x hu hx=>hC u x (c2 j u x hu hx)⟩
def RStgL (w:World) (v:Value) (n:Nat) (f:Nat→Nat→Int):Prop:=∃ us,Row 68 w v us∧us.length=n∧∀ k s,us[k]?=some s→MI w s (mk (n - k) (n - k) (stI f k))
theorem RStgL.ext {w w':World} {v:Value} {n:Nat} {f:Nat→Nat→Int} (h:RStgL w v n f) (hx:Ext w w'):RStgL w' v n f:=by
 obtain ⟨us,h1,h2,h3⟩:=h
 exact ⟨us,h1.ext hx,h2,fun k s hs=>(h3 k s hs).ext hx⟩
def RStgO (w:World) (v:Value) (n:Nat) (f:Nat→Nat→Int):Prop:=∃ us,RowO 1 68 0 w v us∧us.length=n∧∀ k s,us[k]?=some s→∃ rs,MatC rs 0 w s (mk (n - k) (n - k) (stI f k))
theorem RStgO.ext {w w':World} {v:Value} {n:Nat} {f:Nat→Nat→Int} (h:RStgO w v n f) (hx:Ext w w'):RStgO w' v n f:=by
 obtain ⟨us,h1,h2,h3⟩:=h
 exact ⟨us,h1.ext hx,h2,fun k s hs=>by obtain ⟨rs,hm⟩:=h3 k s hs;exact ⟨rs,hm.ext hx⟩⟩
theorem RStgO.updT {w w':World} {v:Value} {n b:Nat} {f:Nat→Nat→Int} {t:TypeId} {C:List Value} (h:RStgO w v n f) (hu:Upd b w w') (hB:Blk t w b C) (h0:68≠t) (h1:45≠t) (h2:31≠t) (h3:139≠t):RStgO w' v n f:=by
 obtain ⟨us,k1,k2,k3⟩:=h
 refine ⟨us,k1.updT hu hB h0,k2,fun k s hs=>?_⟩
 obtain ⟨rs,hm⟩:=k3 k s hs
 refine ⟨rs,hm.keep (et:=t) (fun t' b' D hb hne=>hb.upd hu (by
  intro e
  subst e
  have:=hb.symm.trans hB
  simp only [Option.some.injEq,Obj.cells.injEq] at this
  exact hne this.2.1)) (fun _ _ hc=>hc.updT hu hB h3) h1 h2⟩
theorem RStgO.list {w:World} {v:Value} {n:Nat} {f:Nat→Nat→Int} (h:RStgO w v n f) (hszs:∀ k,k<n→∀ i j,i<n - k→j<n - k→sz (stI f k i j)≤1000):RStgL w v n f:=by
 obtain ⟨us,h1,h2,h3⟩:=h
 refine ⟨us,h1.row (fun u hu=>?_),h2,fun k s hs=>?_⟩
 ·obtain ⟨j,hj⟩:=List.mem_iff_getElem?.1 hu
  have hlt:=(List.getElem?_eq_some_iff.1 hj).1
  obtain ⟨rs,hm⟩:=h3 j u hj
  obtain ⟨g,cap,rfl⟩:=hm.addr (by omega)
  rfl
 ·have hlt:=(List.getElem?_eq_some_iff.1 hs).1
  obtain ⟨rs,hm⟩:=h3 k s hs
  exact hm.mi (mi_sz (fun a b ha hb=>hszs k (by omega) a b ha hb) (by omega))
set_option maxHeartbeats 6400000 in
theorem rstages_spec {w:World} {v:Value} {n s:Nat} {f:Nat→Nat→Int} (h:MI w v (mk n n f)) (hn:1≤n∧n≤16) (hs:∀ a b,a<n→b<n→sz (f a b)≤s) (hs1:1≤s) (hb:2 ^ n * (s+1)≤100000) (hpos:Pos n (RA f)) :
  Calls Tryz.prog 58 #[v] w (Ret fun x w'=>Ext w w'∧∃ u,x=.tuple #[u,.bool true]∧RStgO w' u n f):=by
 obtain ⟨pv,cv,ev⟩:=h.len
 rw [mk_len] at ev
 subst ev
 refine calls_of_St (args:=[_]) Tryz.func58 rfl Tryz.ntmps58 rfl ?_
 (iterate 6 refine Nv ?_;try refine .r rfl ?_)
 refine .s (OpR.call fn_r04_Leading rfl (leading_spec h hn hs hs1 hb)) ?_
 rintro _ w1 ⟨hx1,u,dl,rfl,hL,hsz,hdl⟩
 obtain ⟨bd,od,cd,ed,hcd,hRC⟩:=hL
 subst ed
 (iterate 6 refine Nv ?_;try refine .r rfl ?_)
 refine .cF ?_
 refine Nv ?_
 refine .a 4 (.int .i64 ((n - 1:Nat):Int)) rfl (by rw [i64_id (by omega) (by omega)];congr 1;omega) ?_
 refine .p (RunsTo.sliceHi TBok rfl rfl rfl rfl (by omega) (by omega)) ?_
 rw [Int.toNat_natCast]
 (iterate 6 refine Nv ?_;try refine .r rfl ?_)
 refine St.rng TBok (23) (0) (n - 1) (by omega) [(0,.slice pv n cv),(21,.slice (some ⟨bd,od,none⟩) (n - 1) cd),(22,.int .i64 ((n - 1:Nat):Int))] (fun i w'=>Ext w1 w') sbb ?_ (fun _=>⟨rfl,rfl⟩) (fun _=>rfl) (fun _=>⟨rfl,rfl⟩) rfl rfl (by omega) ?_ ?_
 ·exact Ext.refl _
 ·rintro i w3 hi hx3
  have hdi:=hdl i (by omega) (pos_gd hpos (by omega))
  have hzi:=hsz i (by omega)
  obtain ⟨y,e,C,hd,hB,k1,k2⟩:=(hRC.ext hx3).at (j:=i) (by omega)
  have hpi:0<dl i:=by
   have:=hpos (i+1) (by omega)
   rw [← hdi] at this
   exact_mod_cast this
  refine Nv ?_
  refine .p (RunsTo.indexI rfl rfl rfl (by omega)) ?_
  refine .p (RunsTo.loadIt rfl hB k1 k2 hd.r2) ?_
  refine StL.newI rfl (fun _=>rfl) hd.r2 ?_
  intro w4 hx4 B6
  refine Nv ?_
  refine .p (RunsTo.loadI2 rfl B6 hd.r2) ?_
  refine .s (OpR.call fn_r01_Sign rfl (rsign_dn ((hd.ext hx4).dn (by omega)))) ?_
  rintro _ w5 ⟨hx5,rfl⟩
  have hsg:signI (dl i)=1:=by unfold signI;rw [if_neg (by omega),if_neg (by omega)]
  rw [hsg]
  refine .r rfl ?_
  refine Nv ?_
  refine .cF ?_
  refine Nv ?_
  exact Out.rnd sbb ((hx3.trans hx4).trans hx5)
 ·rintro w2 hx2
  have hx02:=hx1.trans hx2
  (iterate 6 refine Nv ?_;try refine .r rfl ?_)
  refine St.rngG TBok (33) (0) (n) (by omega) (fun g:Value=>[(0,.slice pv n cv),(8,g),(32,.int .i64 n)]) (fun k g w'=>Ext w w'∧∃ us,RowO 1 68 w.heap.size w' g us∧us.length=k∧∀ j s,us[j]?=some s→∃ rs,MatC rs 0 w' s (mk (n - j) (n - j) (stI f j))) (.slice none 0 0) sbb ?_ (fun _ _=>⟨rfl,rfl⟩) (fun _ _=>rfl) (fun _ _=>⟨rfl,rfl⟩) (fun _=>rfl) (fun _=>rfl) (by omega) ?_ ?_
  ·exact ⟨hx02,[],RowO.nil,rfl,fun j s hj=>by simp at hj⟩
  ·clear hx02 hx2 hx1
   rintro k lst w3 hk ⟨hx3,us,hR,hul,hus⟩
   (iterate 6 refine Nv ?_;try refine .r rfl ?_)
   refine .s (OpR.call fn_r04_Stage rfl (stage_spec (h.ext hx3) hn hs hs1 hb hk hpos)) ?_
   rintro sv w4 ⟨hx4,rs,hM⟩
   have hcel:Cel 1 sv:=by
    obtain ⟨g,cap,rfl⟩:=hM.addr (by omega)
    exact .inl ⟨rfl,rfl,rfl⟩
   refine StL.app2 (hR.ext hx4) hcel rfl rfl rfl rfl rfl rfl (fun _=>rfl) rfl rfl (by omega) rfl (hx3.trans hx4).size ?_
   intro p7 lst7 w7 hR7 hX7 hB7 _ hC7
   have keep:∀ {s:Value} {j:Nat} {rs:List Value},MatC rs 0 w4 s (mk (n - j) (n - j) (stI f j))→MatC rs 0 w7 s (mk (n - j) (n - j) (stI f j)):=fun hm=>hm.keep (et:=68) (fun t b C hb hne=>hB7 t b C hb (.inl hne)) (fun u a=>hC7 (by decide) 0 u a) (by decide) (by decide)
   (iterate 6 refine Nv ?_;try refine .r rfl ?_)
   refine Out.rndG lst7 sbb ⟨hX7 w (hx3.trans hx4) (Nat.le_refl _),us++[sv],hR7,by simp;omega,fun j s hj=>?_⟩
   by_cases hlt:j<us.length
   ·rw [List.getElem?_append_left hlt] at hj
    obtain ⟨rs',hm⟩:=hus j s hj
    exact ⟨rs',keep (hm.ext hx4)⟩
   ·have hje:j=us.length:=by
     have:=(List.getElem?_eq_some_iff.1 hj).1
     simp at this;omega
    subst hje
    simp at hj
    subst hj
    rw [hul]
    exact ⟨rs,keep (hM.mono (Nat.zero_le _))⟩
  ·rintro lst w3 ⟨hx3,us,hR,hul,hus⟩
   (iterate 6 refine Nv ?_;try refine .r rfl ?_)
   exact Out.rets TBok [_,_] rfl ⟨rfl,rfl,trivial⟩ ⟨hx3,lst,rfl,us,hR.mono (Nat.zero_le _),hul,hus⟩
theorem RowC.list {w:World} {b o:Nat} {g:Nat→Int}:∀ {c:Nat},RowC w b o c g→∃ e C ds,Blk e w b C∧ds.length=c∧(C.drop o).take (2 * c)=flat ds∧(0<c→o+2 * c≤C.length)∧∀ j u,ds[j]?=some u→CanO 0 w u (g j):=by
 intro c
 induction c with
 | zero =>
  rintro ⟨e,C,hb,_⟩
  exact ⟨e,C,[],hb,rfl,by simp [flat],fun h=>by omega,fun j u hj=>by simp at hj⟩
 | succ c ih =>
  rintro ⟨e,C,hb,hg⟩
  obtain ⟨e',C',ds,hb',hl,hf,_,hd⟩:=ih ⟨e,C,hb,fun j hj=>hg j (by omega)⟩
  have hC:C'=C:=by
   have:=hb'.symm.trans hb
   simp only [Option.some.injEq,Obj.cells.injEq] at this
   simpa using this.1
  subst hC
  obtain ⟨u,h1,h2,h3⟩:=hg c (by omega)
  refine ⟨e,C',ds++[u],hb,by simp;omega,?_,fun _=>by omega,fun j x hj=>?_⟩
  ·rw [flat_snoc,← hf,← h2,show 2 * (c+1)=2 * c+2 by omega,List.take_add,List.drop_drop]
  ·by_cases hlt:j<ds.length
   ·rw [List.getElem?_append_left hlt] at hj
    exact hd j x hj
   ·have hje:j=ds.length:=by
     have:=(List.getElem?_eq_some_iff.1 hj).1
     simp at this;omega
    subst hje
    simp at hj
    subst hj
    rw [hl]
    exact h1
theorem OpR.appI {n:Nat} {E:List (Nat×Value)} {w:World} {d:Option Tmp} {s x:Operand} {ty:TypeId} {pos:String} {af:Array Edge} {g:Option (Nat×Bool)} {v:Value} {base b o c cp:Nat} {us ds C:List Value} {e:TypeId}
  (h:RowO 2 31 base w v us) (hB:Blk e w b C) (hl:ds.length=c) (hf:(C.drop o).take (2 * c)=flat ds) (hds:∀ u ∈ ds,Cel 2 u) (hs:ov E s=some v) (hx:ov E x=some (.slice (some ⟨b,o,none⟩) c cp)) (hlen:us.length+c≤1000000) (hbase:base≤w.heap.size) :
  OpR Tryz.prog n ⟨d,.call ⟨.builtin .append,#[s,x],#[45,45]⟩,ty,pos,af,g⟩ E w (fun v' w'=>RowO 2 31 base w' v' (us++ds)∧w.grownBy w' v.ownBlock∧(v'.ownBlock=v.ownBlock∨v'.ownBlock=some w.heap.size)):=by
 obtain ⟨hu1,_⟩:=TBok 45 _ rfl
 obtain ⟨_,inf,hi,hsize,hbi,hzero⟩:=TBok 31 _ rfl
 have hshd:ShK 2 ds:=fun u hu=>(hds u hu).sh
 have hfl:(flat ds).length=c * 2:=by rw [hshd.flat,hl,Nat.mul_comm]
 obtain ⟨v',w',hr,h2,h3,h4,h5⟩:=run_append_own_at (P:=Tryz.prog) w base 45 ty 31 inf _ 2 32 hu1 hi hzero hsize hbi rfl (by decide) v us.length (flat us) h.owns ⟨b,o,none⟩ c cp (flat ds) hfl
  (fun j u hj=>by
   rw [addr_add]
   refine hB.cell ?_
   rw [← hf,List.getElem?_take] at hj
   split at hj
   ·rw [List.getElem?_drop] at hj;exact hj
   ·cases hj) (fun u hu=>by
    unfold flat at hu
    obtain ⟨y,hy,hm⟩:=List.mem_flatMap.1 hu
    exact (hshd y hy).2 u hm) (by unfold maxLen;omega) (by omega) hbase
 have hsh:ShK 2 (us++ds):=by
  intro y hy
  rcases List.mem_append.1 hy with hy | hy
  ·exact h.1 y hy
  ·exact hshd y hy
 have hfa:flat us++flat ds=flat (us++ds):=by unfold flat;rw [List.flatMap_append]
 rw [hfa] at h2
 intro a ha Q' K hK
 have e1:=ha.eval hs
 have e2:=ha.eval hx
 have hrun:(execOp a.eval ⟨d,.call ⟨.builtin .append,#[s,x],#[45,45]⟩,ty,pos,af,g⟩).run Tryz.prog w=.ok (.value v') w':=by
  generalize a.eval=ρ at e1 e2
  simp only [execOp,resolve,invoke,builtin,Sem.run_bind,Sem.run_pure,Result.andThen_ok,List.map_toArray,List.map_cons,List.map_nil,e1,e2,hr]
 unfold Oper.wp
 rw [hrun,Oper.upon_value]
 exact hK v' w' ⟨RowO.of_owns hsh (by rw [List.length_append,hl];exact h2),h3,h5⟩
def FrV (w:World) (x:Value) (n:Nat) (f:Nat→Nat→Int):Prop:=∃ sv dv,x=.agg #[.int .i64 n,sv,dv]∧RStgL w sv n f∧LC w dv (n+1) (ddI f)
theorem FrV.ext {w w':World} {x:Value} {n:Nat} {f:Nat→Nat→Int} (h:FrV w x n f) (hx:Ext w w'):FrV w' x n f:=by
 obtain ⟨sv,dv,h1,h2,h3⟩:=h
 exact ⟨sv,dv,h1,h2.ext hx,h3.ext hx⟩
set_option maxHeartbeats 3200000 in
theorem frameOf_spec {w:World} {v:Value} {n:Nat} {f:Nat→Nat→Int} (h:M64 w v (mk n n f)) (hn:1≤n∧n≤8) (hR:RedF n f) :
  Calls Tryz.prog 21 #[v] w (Ret fun x w'=>Ext w w'∧FrV w' x n f):=by
 have hn16:1≤n∧n≤16:=by omega
 have hbd:BndF n 262144 f:=fun p q hp hq=>by have:=hR.ent hn.2 hp hq;omega
 have hs2:∀ a b,a<n→b<n→sz (f a b)≤2:=fun a b ha hb=>by have:=hbd a b ha hb;exact sz_small (by omega) (by omega)
 have hb2:2 ^ n * (2+1)≤100000:=Nat.le_trans (Nat.mul_le_mul_right _ (Nat.pow_le_pow_right (by omega) hn.2)) (by decide)
 have hszs:=hR.szs hn.2
 have hszd:=hR.szd hn.2
 obtain ⟨pv,cv,ev⟩:=h.len
 rw [mk_len] at ev
 subst ev
 refine calls_of_St (args:=[_]) Tryz.func21 rfl Tryz.ntmps21 rfl ?_
 refine Nv ?_
 refine .s (OpR.alloc TBok rfl) ?_
 rintro _ w1 ⟨rfl,B2,hx1,hz1⟩
 (iterate 6 refine Nv ?_;try refine .r rfl ?_)
 have hof:Calls Tryz.prog 37 #[.slice pv n cv] w1 (Ret fun r w'=>Ext w1 w'∧MI w' r (mk n n f)):=by
  refine (of_spec (base:=0) w1 _ _ (h.ext hx1) (Nat.zero_le _) ?_).mono ?_
  ·intro row hr x hx
   obtain ⟨i,hi⟩:=List.mem_iff_getElem?.1 hr
   have hlt:=(List.getElem?_eq_some_iff.1 hi).1
   rw [mk_len] at hlt
   rw [mk_get hlt] at hi
   cases hi
   simp only [List.mem_map,List.mem_range] at hx
   obtain ⟨j,hj,rfl⟩:=hx
   have:=hbd i j hlt hj
   omega
  ·rintro e w' ⟨x,rfl,hx,⟨_,rs,hC⟩ | ⟨hno,_⟩⟩
   ·exact ⟨x,rfl,hx,hC.mi (mi_sz hs2 (by omega))⟩
   ·exact absurd (okM_mk hn16.1 hn16.2 f).1 hno
 refine .s (OpR.call fn_r03_Of rfl (hof)) ?_
 rintro A w2 ⟨hx2,hMI⟩
 (iterate 6 refine Nv ?_;try refine .r rfl ?_)
 refine .s (OpR.call fn_r04_Stages rfl (rstages_spec hMI hn16 hs2 (by omega) hb2 hR.pos)) ?_
 rintro _ w3 ⟨hx3,sv,rfl,hS⟩
 (iterate 6 refine Nv ?_;try refine .r rfl ?_)
 refine .s (OpR.call fn_r04_Leading rfl (leading_spec (hMI.ext hx3) hn16 hs2 (by omega) hb2)) ?_
 rintro _ w4 ⟨hx4,dv,dl,rfl,hL,hsz,hdl⟩
 have hdl':∀ k,k<n→dl k=ddI f (k+1):=fun k hk=>by
  have h1:=hdl k hk (pos_gd hR.pos (by omega))
  rw [← ddI_cast hR.pos (show k+1≤n by omega)] at h1
  exact_mod_cast h1
 obtain ⟨bd,od,cd,ed,hcd,hRC⟩:=hL
 subst ed
 replace hS:=hS.ext hx4
 (iterate 6 refine Nv ?_;try refine .r rfl ?_)
 refine .s (OpR.call fn_r01_Small rfl (rsmall_spec (base:=0) w4 1 (by omega) (by omega) (Nat.zero_le _))) ?_
 rintro l0 w5 ⟨hx5,hl0⟩
 have hcel0:=(hl0.dn (by have:sz 1=1:=sz_1;omega)).cel
 refine .s (OpR.singleK (k:=2) rfl rfl rfl rfl rfl hcel0) ?_
 rintro _ w6 ⟨rfl,B6,hx6,hz6⟩
 have hx46:=hx5.trans hx6
 have hRow0:RowO 2 31 w5.heap.size w6 (.slice (some ⟨w5.heap.size,0,none⟩) 1 1) [l0]:=by
  refine ⟨fun u hu=>?_,.inr ⟨w5.heap.size,1,[],rfl,Nat.le_refl _,?_,rfl,Nat.le_refl _,by unfold maxLen;omega⟩⟩
  ·rw [List.mem_singleton.1 hu];exact hcel0.sh
  ·have:flat [l0]++[]=l0.cells.toList:=by unfold flat;simp
   rw [this]
   exact B6
 obtain ⟨ed,Cd,ds,hBd,hlds,hfd,_,hcd2⟩:=(hRC.ext hx46).list
 have hds:∀ u ∈ ds,Cel 2 u:=by
  intro u hu
  obtain ⟨j,hj⟩:=List.mem_iff_getElem?.1 hu
  have hlt:=(List.getElem?_eq_some_iff.1 hj).1
  exact ((hcd2 j u hj).dn (by have:=hsz j (by omega);omega)).cel
 refine .r rfl ?_
 refine .s (OpR.appI hRow0 hBd hlds hfd hds rfl rfl (by simp;omega) hx6.size) ?_
 rintro mv w7 ⟨hR7,hg7,_⟩
 have hx7:Ext w5 w7:=by
  rcases grown_cases hRow0 hg7 with hE | ⟨b,C,_,hb,_,hU⟩
  ·exact hx6.trans hE
  ·exact hx6.then_upd hU hb
 have hcan7:∀ u a,CanO 0 w6 u a→CanO 0 w7 u a:=by
  intro u a hc
  rcases grown_cases hRow0 hg7 with hE | ⟨bb,CC,_,hbb,hBk,hU⟩
  ·exact hc.ext hE
  ·exact hc.updT hU hBk (by decide)
 have hall:∀ j u,([l0]++ds)[j]?=some u→CanO 0 w7 u (ddI f j):=by
  intro j u hj
  cases j with
  | zero=>simp at hj;subst hj;exact hcan7 _ _ (hl0.ext hx6)
  | succ j =>
   have hj':ds[j]?=some u:=by simpa using hj
   have hlt:=(List.getElem?_eq_some_iff.1 hj').1
   have:=hcan7 _ _ (hcd2 j u hj')
   rw [hdl' j (by omega)] at this
   exact this
 have hB2:=((((B2.ext hx2).ext hx3).ext hx4).ext hx5).ext hx7
 have hS7:=(hS.ext hx5).ext hx7
 obtain ⟨pm,cm,em⟩:=hR7.len
 subst em
 obtain ⟨us,hus1,hus2,hus3⟩:=hS7
 obtain ⟨ps,cs,es⟩:=hus1.len
 subst es
 have hS7:RStgO w7 (.slice ps us.length cs) n f:=⟨us,hus1,hus2,hus3⟩
 have hx07:=(((hx1.trans hx2).trans hx3).trans hx4).trans (hx5.trans hx7)
 refine .p (RunsTo.build TBok rfl rfl rfl rfl) ?_
 refine StL.step0 rfl rfl (OpR.store TBok (vs:=[.int .i64 n,.slice ps us.length cs,.slice pm ([l0]++ds).length cm]) rfl rfl rfl rfl rfl hB2 (Nat.le_refl 3) (by simp [Value.oneCell'])) ?_
 rintro _ w8 ⟨B8,hu8⟩
 (iterate 6 refine Nv ?_;try refine .r rfl ?_)
 refine Out.rets TBok [_] rfl ⟨⟨_,_,_,_,rfl,B8,rfl,rfl,rfl,rfl⟩,trivial⟩ ⟨hx07.then_upd hu8 (Nat.le_refl _),_,_,rfl,?_,?_⟩
 ·exact (hS7.updT hu8 hB2 (by decide) (by decide) (by decide) (by decide)).list hszs
 ·exact (hR7.updT hu8 hB2 (by decide)).lc (by simp;omega) (by omega) (fun j u hu=>(hall j u hu).updT hu8 hB2 (by decide))
theorem andNot_bit {y s:Nat} (hy:y % 2 ^ (s+1)=0) (hyl:y+2 ^ s<4294967296):bitsI .andNot .u32 ((y+2 ^ s:Nat):Int) ((2 ^ s:Nat):Int)=(y:Int):=by
 have hbit:y.testBit s=false:=by
  obtain ⟨z,rfl⟩:=Nat.dvd_of_mod_eq_zero hy
  rw [Nat.testBit_two_pow_mul]
  simp
  intro h
  omega
 have key:BitVec.ofInt 32 ((y+2 ^ s:Nat):Int) &&& ~~~ BitVec.ofInt 32 ((2 ^ s:Nat):Int)=BitVec.ofNat 32 y:=by
  rw [BitVec.ofInt_natCast,BitVec.ofInt_natCast]
  apply BitVec.eq_of_getLsbD_eq
  intro i hi
  simp only [BitVec.getLsbD_and,BitVec.getLsbD_not,BitVec.getLsbD_ofNat,hi,decide_true,Bool.true_and]
  rw [← or_bit hy,Nat.testBit_or,Nat.testBit_two_pow]
  by_cases e:s=i
  ·subst e;simp [hbit]
  ·simp [e]
 show IntKind.u32.wrap (((BitVec.ofInt 32 ((y+2 ^ s:Nat):Int) &&& ~~~ BitVec.ofInt 32 ((2 ^ s:Nat):Int)).toNat:Nat):Int)=_
 rw [key,BitVec.toNat_ofNat,Nat.mod_eq_of_lt (by omega)]
 exact u32_id (by omega) (by omega)
theorem val_set_same {xs:List Nat} {k x:Nat} (hx:xs[k]?=some x) (y:Nat):(xs.set k y).set k x=xs:=by
 rw [List.set_set]
 apply List.ext_getElem?
 intro i
 by_cases e:k=i
 ·subst e
  rw [List.getElem?_set_self (List.getElem?_eq_some_iff.1 hx).1,hx]
 ·rw [List.getElem?_set_ne e]
theorem sq_step {m R p:Nat} (h1:m<(R+2 * p) * (R+2 * p)):m<(R+p+p) * (R+p+p):=by
 rwa [show R+p+p=R+2 * p from by omega]
set_option maxHeartbeats 1000000 in
theorem rsqrt_dn {w:World} {vx:Value} {a:Int} (h:Dn w vx a) (hsa:sz a≤100000):Calls Tryz.prog 115 #[vx] w (Ret fun r w'=>Ext w w'∧SqrtV w' r a):=by
 have hD:=h
 obtain ⟨na,xs,⟨p,cap,rfl,hs⟩,rfl,hlen⟩:=h
 have hl1:=limbs_length_le xs hs.2
 have hla:(limbs (val xs)).length≤100000:=by unfold sz at hsa;rwa [sg_abs] at hsa
 refine calls_of_St (args:=[_]) Tryz.func115 rfl Tryz.ntmps115 rfl ?_
 refine Nv ?_
 refine .s (OpR.box rfl) ?_
 rintro _ w1 ⟨rfl,hb1,hx1,hz1⟩
 refine .s (OpR.alloc TBok rfl) ?_
 rintro _ w2 ⟨rfl,hb2,hx2,hz2⟩
 have hB1:Blk 31 w2 w.heap.size [.bool na,.slice p xs.length cap]:=hb1.ext hx2
 have hB2:Blk 31 w2 w1.heap.size [.bool false,.slice none 0 0]:=hb2
 have hx02:=hx1.trans hx2
 have hs1:=hx1.size
 have hb2lt:=hb2.lt
 clear hb1 hb2 hx1 hx2
 (iterate 6 refine Nv ?_;try refine .r rfl ?_)
 refine .p (RunsTo.loadInt rfl hB1 rfl rfl) ?_
 refine .s (OpR.call fn_r01_Sign rfl (rsign_dn (hD.ext hx02))) ?_
 rintro _ w3 ⟨hx3,rfl⟩
 replace hB1:=hB1.ext hx3
 replace hB2:=hB2.ext hx3
 replace hx02:=hx02.trans hx3
 clear hx3
 (iterate 6 refine Nv ?_;try refine .r rfl ?_)
 by_cases hneg:sg na (val xs)<0
 ·refine St.condT rfl (by simp [signI,hneg]) ?_
  (iterate 6 refine Nv ?_;try refine .r rfl ?_)
  refine .p (RunsTo.build TBok rfl rfl rfl rfl) ?_
  refine StL.step0 rfl rfl (OpR.store TBok (vs:=[.bool false,.slice none 0 0]) rfl rfl rfl rfl rfl hB2 (Nat.le_refl _) (by simp [Value.oneCell'])) ?_
  rintro _ w4 ⟨hb4,hu4⟩
  (iterate 6 refine Nv ?_;try refine .r rfl ?_)
  exact Out.rets TBok [IntV false (.slice none 0 0),.bool false] rfl ⟨⟨_,_,_,_,rfl,hb4,rfl,rfl,rfl,rfl⟩,rfl,trivial⟩ ⟨hx02.then_upd hu4 hs1,fun _=>rfl,fun h0=>by omega⟩
 refine St.condF rfl (by simp only [signI,if_neg hneg];split <;> decide) ?_
 have hA:(sg na (val xs)).natAbs=val xs:=sg_abs _ _
 have hav:sg na (val xs)=(val xs:Int):=by omega
 (iterate 6 refine Nv ?_;try refine .r rfl ?_)
 refine .p (RunsTo.load TBok rfl rfl rfl (hB1.cell rfl)) ?_
 refine .s (OpR.call fn_r01_trim rfl (rtrim_spec (base:=0) w3 _ xs (hs.ext hx02) (by omega) (Nat.zero_le _))) ?_
 rintro v14 w4 ⟨hx4,h14⟩
 replace hB1:=hB1.ext hx4
 replace hB2:=hB2.ext hx4
 replace hx02:=hx02.trans hx4
 clear hx4
 obtain ⟨p14,c14,rfl,_⟩:=h14.sl.form
 have hMlt:val xs<4294967296 ^ (limbs (val xs)).length:=by have:=val_lt _ h14.2;rwa [val_limbs] at this
 generalize hM:val xs=M at *
 obtain ⟨L,hL⟩:∃ L,L=((limbs M).length+1) / 2:=⟨_,rfl⟩
 have eL:IntKind.i64.wrap (((limbs M).length:Int)+1)=(((limbs M).length+1:Nat):Int):=by rw [i64_id (by omega) (by omega)];rfl
 refine .r rfl ?_
 refine Nv ?_
 refine .a 3 (.int .i64 (((limbs M).length+1:Nat):Int)) rfl (by rw [eL]) ?_
 refine .p (RunsTo.quoN ((limbs M).length+1) 2 rfl rfl rfl rfl (by decide) (i64_of _ (by omega))) ?_
 rw [← hL]
 refine .s (OpR.make TBok L rfl rfl rfl rfl rfl rfl rfl rfl (by simp;omega) (by omega)) ?_
 rintro _ w5 ⟨rfl,hb5,hx5,hz5⟩
 have hg4:w.heap.size≤w4.heap.size:=hx02.size
 have hlt4:=hB2.lt
 have hx05:=hx02.trans hx5
 have hB15:=hB1.ext hx5
 have hB25:=hB2.ext hx5
 (iterate 6 refine Nv ?_;try refine .r rfl ?_)
 have ei:IntKind.i64.wrap (IntKind.i64.wrap (32 * (L:Int)) - 1)=((32 * L:Nat):Int) - 1:=by
  rw [i64_id (n:=32 * (L:Int)) (by omega) (by omega),i64_id (by omega) (by omega)];omega
 have hbig:M<2 ^ (32 * L) * 2 ^ (32 * L):=by
  rw [← Nat.pow_add,show 32 * L+32 * L=32 * (2 * L) from by omega,Nat.pow_mul]
  exact Nat.lt_of_lt_of_le hMlt (Nat.pow_le_pow_right (by decide) (by omega))
 refine St.loop (fun g:List Nat×Nat=>[(1,.pointer (some ⟨w.heap.size,0,none⟩)),(2,.pointer (some ⟨w1.heap.size,0,none⟩)),(5,.slice (some ⟨w4.heap.size,0,none⟩) L L),(6,.int .i64 ((g.2:Int) - 1))])
  (fun g w'=>Ext w w'∧Blk 31 w' w.heap.size [.bool na,.slice p xs.length cap]∧Blk 31 w' w1.heap.size [.bool false,.slice none 0 0]∧Blk 139 w' w4.heap.size (g.1.map u32)∧g.1.length=L∧Lim g.1∧g.2≤32 * L∧val g.1 % 2 ^ g.2=0∧val g.1 * val g.1≤M∧M<(val g.1+2 ^ g.2) * (val g.1+2 ^ g.2))
  (fun g=>g.2) (List.replicate L 0,32 * L) ⟨rfl,rfl,rfl,?_,trivial⟩ ⟨hx05,hB15,hB25,by rw [List.map_replicate];exact hb5,by simp,lim_replicate _,Nat.le_refl _,by simp [val_replicate_zero],by simp [val_replicate_zero],by simpa [val_replicate_zero] using hbig⟩ ?_
 ·show some (Value.int .i64 (IntKind.i64.wrap (IntKind.i64.wrap (32 * (L:Int)) - 1)))=_
  rw [ei]
 clear hB1 hB2 hB15 hB25 hb5 hx5 hx05 hx02
 rintro ⟨rs,j⟩ w6 ⟨hx6,hB1,hB2,hbr,hrl,hrlim,hj,hdiv,hlo,hhi⟩
 dsimp only at hx6 hB1 hB2 hbr hrl hrlim hj hdiv hlo hhi ⊢
 have hslOf:∀ {w':World} {ts:List Nat},Blk 139 w' w4.heap.size (ts.map u32)→ts.length=L→Lim ts→Sl w' (.slice (some ⟨w4.heap.size,0,none⟩) L L) ts:=fun hb hl hm=>⟨hb.row (by simp [hl]) (Nat.le_refl _) (by simp [hl]) (by rw [List.drop_zero,List.take_of_length_le (by simp [hl])]),hm⟩
 by_cases hj0:j=0
 ·subst hj0
  refine Nv ?_
  refine .a 2 (.bool false) rfl (bool_false (by omega)) ?_
  refine Nv ?_
  refine .cF ?_
  (iterate 6 refine Nv ?_;try refine .r rfl ?_)
  refine .s (OpR.call fn_r01_Make rfl (make_spec (base:=0) w6 false _ rs (hslOf hbr hrl hrlim) (by omega) (Nat.zero_le _))) ?_
  rintro v57 w7 ⟨hx7,h57⟩
  replace hB2:=hB2.ext hx7
  replace hx6:=hx6.trans hx7
  clear hx7
  refine StL.setCan rfl rfl hB2 rfl h57 hx6 hs1 ?_
  intro w8 hb8 hu8 h57' hx8
  (iterate 6 refine Nv ?_;try refine .r rfl ?_)
  refine Out.rets TBok [v57,.bool true] rfl ⟨⟨_,_,_,_,rfl,hb8,rfl,rfl,h57'.two.1,by simpa using h57'.agg⟩,rfl,trivial⟩ ⟨hx8,fun h0=>absurd h0 hneg,fun _=>⟨v57,val rs,rfl,?_,h57'⟩⟩
  rw [hA]
  exact ⟨hlo,by simpa using hhi⟩
 obtain ⟨i,rfl⟩:∃ i,j=i+1:=⟨j - 1,by omega⟩
 have ej:((i+1:Nat):Int) - 1=(i:Int):=by omega
 rw [ej]
 have hyk:rs[i / 32]?=some rs[i / 32]:=by simp
 have hev2:rs[i / 32] % 2 ^ (i % 32+1)=0:=by
  refine limb_even hrlim hyk (Nat.mod_lt _ (by decide)) ?_
  rw [show 32 * (i / 32)+i % 32+1=i+1 from by omega]
  exact hdiv
 generalize rs[i / 32]=y at hyk hev2
 have hyl:=hrlim.get hyk
 have hor:=or_bit hev2
 have hp32:2 ^ (i % 32)<4294967296:=Nat.pow_lt_pow_right (by decide) (Nat.mod_lt _ (by decide):i % 32<32)
 have hyp:y+2 ^ (i % 32)<4294967296:=by
  rw [← hor]
  exact Nat.or_lt_two_pow (n:=32) hyl hp32
 have hset:val (rs.set (i / 32) (y+2 ^ (i % 32)))=val rs+2 ^ i:=by
  rw [val_set_add hyk,Nat.mul_comm,← pow_at,Nat.div_add_mod]
 have hpi:(2:Nat) ^ (i+1)=2 * 2 ^ i:=by rw [Nat.pow_succ];omega
 have hdivi:val rs % 2 ^ i=0:=by
  obtain ⟨z,hz⟩:=Nat.dvd_of_mod_eq_zero hdiv
  rw [hz,Nat.pow_succ,Nat.mul_assoc]
  exact Nat.mul_mod_right _ _
 refine Nv ?_
 refine .a 2 (.bool true) rfl (bool_true (by omega)) ?_
 refine Nv ?_
 refine .cT ?_
 refine Nv ?_
 refine St.sub (E':=[(1,.pointer (some ⟨w.heap.size,0,none⟩)),(2,.pointer (some ⟨w1.heap.size,0,none⟩)),(5,.slice (some ⟨w4.heap.size,0,none⟩) L L),(6,.int .i64 i)]) ?_ ⟨rfl,rfl,rfl,rfl,trivial⟩
 refine St.flow 10 TBfol (by kernel_rfl) rfl (by kernel_rfl) rfl True.intro ?_
 refine FL.run TBok 99 rfl ?_
 refine .on (fun _ _=>RunsTo.quoN i 32 rfl rfl rfl rfl (by decide) (i64_of _ (by omega))) ?_
 refine .on (fun _ _=>RunsTo.ia) ?_
 refine FL.load (L:=[]) TBok rfl rfl rfl rfl rfl (by simp only [Int.toNat_natCast,addr_add,Nat.zero_add];rfl) hbr (by simp) (by simp [hyk];rfl) ?_
 refine FL.run TBok 99 rfl ?_
 refine .on (fun _ _=>RunsTo.remN i 32 rfl rfl rfl rfl (by decide)) ?_
 refine .on (fun _ _=>RunsTo.shlN 1 (i % 32) rfl rfl rfl rfl (by show i % 32≤32;omega) (by rw [Nat.one_mul];exact u32_id (by omega) (by omega))) ?_
 refine FL.as TBok 1 (.int .u32 ((y+2 ^ (i % 32):Nat):Int)) rfl (by rw [or_u32 _ _ hyl (by rw [Nat.one_mul];exact hp32),Nat.one_mul,hor]) ?_
 refine .on (fun _ _=>RunsTo.ia) ?_
 refine FL.endE rfl ?_
 intro w7 hx7 _ _
 refine StL.step0 rfl rfl (OpR.store TBok (vs:=[u32 (y+2 ^ (i % 32))]) rfl (by simp only [Int.toNat_natCast,addr_add,Nat.zero_add];rfl) rfl rfl rfl (hbr.ext hx7) (by simp;omega) (by simp [Value.oneCell'])) ?_
 rintro _ w8 ⟨hb8,hu8⟩
 have hbr8:Blk 139 w8 w4.heap.size ((rs.set (i / 32) (y+2 ^ (i % 32))).map u32):=by
  rw [← map_set_u32];exact hb8
 have hx08:=(hx6.trans hx7).then_upd hu8 hg4
 have hB18:=(hB1.ext hx7).upd hu8 (by omega)
 have hB28:=(hB2.ext hx7).upd hu8 (by omega)
 have hrl8:(rs.set (i / 32) (y+2 ^ (i % 32))).length=L:=by simpa using hrl
 have hrlim8:Lim (rs.set (i / 32) (y+2 ^ (i % 32))):=hrlim.set _ hyp
 clear hx7 hu8 hb8 hbr hB1 hB2 hx6
 (iterate 6 refine Nv ?_;try refine .r rfl ?_)
 refine .s (OpR.call fn_r01_Make rfl (make_spec (base:=0) w8 false _ _ (hslOf hbr8 hrl8 hrlim8) (by omega) (Nat.zero_le _))) ?_
 rintro v39 w9 ⟨hx9,h39⟩
 rw [hset] at h39
 have hszr:sz (((val rs+2 ^ i:Nat)):Int)≤100000:=by
  unfold sz
  rw [Int.natAbs_natCast,← hset]
  exact Nat.le_trans (limbs_length_le _ hrlim8) (by omega)
 have h39':CanO 0 w9 v39 ((val rs+2 ^ i:Nat):Int):=h39
 replace hbr8:=hbr8.ext hx9
 replace hB18:=hB18.ext hx9
 replace hB28:=hB28.ext hx9
 replace hx08:=hx08.trans hx9
 clear hx9
 refine StL.setNew rfl (fun _=>rfl) h39' hx08 ?_
 intro b7 w10 hg7 hx10 hS7 h7 hx010
 replace hbr8:=hbr8.ext hx10
 replace hB18:=hB18.ext hx10
 replace hB28:=hB28.ext hx10
 clear hx10
 clear hx08 h39 h39'
 have hDa:=hD.ext hx010
 rw [hav] at hDa
 have hmm:=sz_mul (((val rs+2 ^ i:Nat)):Int) (((val rs+2 ^ i:Nat)):Int)
 refine Nv ?_
 refine St.sub (E':=[(1,.pointer (some ⟨w.heap.size,0,none⟩)),(2,.pointer (some ⟨w1.heap.size,0,none⟩)),(5,.slice (some ⟨w4.heap.size,0,none⟩) L L),(6,.int .i64 i),(7,.pointer (some ⟨b7,0,none⟩))]) ?_ ⟨rfl,rfl,rfl,rfl,rfl,trivial⟩
 refine St.flow 6 TBfol (by kernel_rfl) rfl (by kernel_rfl) rfl True.intro ?_
 refine FL.run TBok 99 rfl ?_
 refine .on (fun _ hR=>RunsTo.loadCan rfl (hR.blk hS7 (by simp)) h7) ?_
 refine .on (fun _ hR=>RunsTo.loadCan rfl (hR.blk hS7 (by simp)) h7) ?_
 refine FL.callE fn_r01_Mul rfl rfl rfl (fun w11 hx11=>CallF.mk rfl (rmul_dn (base:=0) ((h7.ext hx11).dn (by omega)) ((h7.ext hx11).dn (by omega)) (Nat.zero_le _))) (MonoR.canO 0 _) ?_
 refine FL.loadAgg (L:=[]) TBok rfl rfl rfl rfl rfl rfl hB18 (by simp) (Nat.le_refl _) rfl ?_
 refine FL.callXE fn_r01_Cmp rfl rfl rfl (fun w11 hx11 v42 h42=>CallF.mk rfl (rcmp_dn (h42.dn (by omega)) (hDa.ext hx11))) ?_
 refine FL.run TBok 99 rfl ?_
 refine FL.endE rfl ?_
 intro w11 hx11 v42 _ _ _
 replace hbr8:=hbr8.ext hx11
 replace hB18:=hB18.ext hx11
 replace hB28:=hB28.ext hx11
 replace hx010:=hx010.trans hx11
 clear hx11
 clear hS7 h7 hDa
 have hsq:((val rs+2 ^ i:Nat):Int) * ((val rs+2 ^ i:Nat):Int)=(((val rs+2 ^ i) * (val rs+2 ^ i):Nat):Int):=(Int.natCast_mul _ _).symm
 rw [hsq]
 (iterate 6 refine Nv ?_;try refine .r rfl ?_)
 by_cases hgt:M<(val rs+2 ^ i) * (val rs+2 ^ i)
 ·refine St.condT rfl (by unfold cmpI;rw [if_neg (by omega),if_pos (by omega)];decide) ?_
  have hyk8:(rs.set (i / 32) (y+2 ^ (i % 32)))[i / 32]?=some (y+2 ^ (i % 32)):=List.getElem?_set_self (by omega)
  refine Nv ?_
  refine St.sub (E':=[(1,.pointer (some ⟨w.heap.size,0,none⟩)),(2,.pointer (some ⟨w1.heap.size,0,none⟩)),(5,.slice (some ⟨w4.heap.size,0,none⟩) L L),(6,.int .i64 i)]) ?_ ⟨rfl,rfl,rfl,rfl,trivial⟩
  refine St.flow 10 TBfol (by kernel_rfl) rfl (by kernel_rfl) rfl True.intro ?_
  refine FL.run TBok 99 rfl ?_
  refine .on (fun _ _=>RunsTo.quoN i 32 rfl rfl rfl rfl (by decide) (i64_of _ (by omega))) ?_
  refine .on (fun _ _=>RunsTo.ia) ?_
  refine FL.load (v:=u32 (y+2 ^ (i % 32))) (L:=[]) TBok rfl rfl rfl rfl rfl (by simp only [Int.toNat_natCast,addr_add,Nat.zero_add];rfl) hbr8 (by simp) (by rw [List.getElem?_map,hyk8];rfl) ?_
  refine FL.run TBok 99 rfl ?_
  refine .on (fun _ _=>RunsTo.remN i 32 rfl rfl rfl rfl (by decide)) ?_
  refine .on (fun _ _=>RunsTo.shlN 1 (i % 32) rfl rfl rfl rfl (by show i % 32≤32;omega) (by rw [Nat.one_mul];exact u32_id (by omega) (by omega))) ?_
  refine FL.as TBok 1 (.int .u32 (y:Int)) rfl (by rw [Nat.one_mul,andNot_bit hev2 hyp]) ?_
  refine .on (fun _ _=>RunsTo.ia) ?_
  refine FL.endE rfl ?_
  intro w12 hx12 _ _
  refine StL.step0 rfl rfl (OpR.store TBok (vs:=[u32 y]) rfl (by simp only [Int.toNat_natCast,addr_add,Nat.zero_add];rfl) rfl rfl rfl (hbr8.ext hx12) (by simp;omega) (by simp [Value.oneCell'])) ?_
  rintro _ w13 ⟨hb13,hu13⟩
  have hbr13:Blk 139 w13 w4.heap.size (rs.map u32):=by
   have e:=val_set_same hyk (y+2 ^ (i % 32))
   rw [← e,← map_set_u32];exact hb13
  (iterate 6 refine Nv ?_;try refine .r rfl ?_)
  refine Out.again (rs,i) ⟨rfl,rfl,rfl,?_,trivial⟩ ⟨(hx010.trans hx12).then_upd hu13 hg4,(hB18.ext hx12).upd hu13 (by omega),(hB28.ext hx12).upd hu13 (by omega),hbr13,hrl,hrlim,by dsimp only;omega,hdivi,hlo,hgt⟩ (Nat.lt_succ_self i)
  show some (Value.int .i64 (IntKind.i64.wrap ((i:Int) - 1)))=_
  rw [i64_id (by omega) (by omega)]
 ·refine St.condF rfl (by unfold cmpI;rw [decide_eq_false];split <;> (try split) <;> omega) ?_
  (iterate 6 refine Nv ?_;try refine .r rfl ?_)
  refine Out.again (rs.set (i / 32) (y+2 ^ (i % 32)),i) ⟨rfl,rfl,rfl,?_,trivial⟩ ⟨hx010,hB18,hB28,hbr8,hrl8,hrlim8,by dsimp only;omega,?_,?_,?_⟩ (Nat.lt_succ_self i)
  ·show some (Value.int .i64 (IntKind.i64.wrap ((i:Int) - 1)))=_
   rw [i64_id (by omega) (by omega)]
  ·dsimp only
   rw [hset,Nat.add_mod_right]
   exact hdivi
  ·dsimp only
   rw [hset]
   omega
  ·dsimp only
   rw [hset]
   rw [hpi] at hhi
   exact sq_step hhi
def T64 (ys:List Int):Prop:=∀ y ∈ ys,-9223372036854775808≤y∧y≤9223372036854775807
theorem T64.at {ys:List Int} (h:T64 ys) (i:Nat):-9223372036854775808≤yv ys i∧yv ys i≤9223372036854775807:=by
 unfold yv
 rw [List.getD_eq_getElem?_getD]
 cases hi:ys[i]? with
 | none=>simp
 | some y=>exact h y (List.mem_of_getElem? hi)
theorem T64.sz {ys:List Int} (h:T64 ys) (i:Nat):Go.Qf.sz (yv ys i)≤2:=by
 have:=h.at i
 exact sz_small (by omega) (by omega)
theorem RowO.lco {base c:Nat} {w:World} {v:Value} {us:List Value} {g:Nat→Int} (h:RowO 2 31 base w v us) (hl:us.length=c) (hu:∀ (j:Nat) (u:Value),us[j]?=some u→CanO 0 w u (g j)):LCo w v c g:=by
 refine ⟨by obtain ⟨p,cp,e⟩:=h.len;exact ⟨p,cp,by rw [e,hl]⟩,fun hc=>?_⟩
 obtain ⟨b,o,cp,hv,_,hr⟩:=h.lc hl hc hu
 exact ⟨b,o,cp,hv,hr⟩
set_option maxHeartbeats 1600000 in
theorem column_spec {w:World} {v:Value} {ys:List Int} (h:L64 w v ys) (hl:ys.length≤1000) (hy:T64 ys) :
  Calls Tryz.prog 64 #[v] w (Ret fun x w'=>Ext w w'∧LCo w' x ys.length (yv ys)):=by
 obtain ⟨p,cap,rfl⟩:=h.len
 refine calls_of_St (args:=[_]) Tryz.func64 rfl Tryz.ntmps64 rfl ?_
 (iterate 6 refine Nv ?_;try refine .r rfl ?_)
 refine St.rngG TBok (8) (0) (ys.length) (by omega) (fun g:Value=>[(3,g),(6,.slice p ys.length cap),(7,.int .i64 ys.length)]) (fun k g w'=>Ext w w'∧∃ us,RowO 2 31 w.heap.size w' g us∧us.length=k∧∀ j u,us[j]?=some u→CanO 0 w' u (yv ys j)) (.slice none 0 0) sbb ?_ (fun _ _=>⟨rfl,rfl⟩) (fun _ _=>rfl) (fun _ _=>⟨rfl,rfl⟩) (fun _=>rfl) (fun _=>rfl) (by omega) ?_ ?_
 ·exact ⟨Ext.refl _,[],RowO.nil,rfl,fun j u hj=>by simp at hj⟩
 ·rintro i lst w3 hi ⟨hx3,us,hR,hul,hus⟩
  obtain ⟨a,c,e,hc⟩:=(h.ext hx3).cell hi
  cases e
  have hyi:=hy.at i
  have hyz:=hy.sz i
  refine Nv ?_
  refine .p (RunsTo.ia) ?_
  refine .p (RunsTo.load TBok rfl rfl rfl hc) ?_
  (iterate 6 refine Nv ?_;try refine .r rfl ?_)
  refine .s (OpR.call fn_r01_Small rfl (rsmall_spec (base:=0) w3 (yv ys i) (by omega) (by omega) (Nat.zero_le _))) ?_
  rintro z w4 ⟨hx4,hz⟩
  refine StL.app2 (hR.ext hx4) (hz.dn (by omega)).cel rfl rfl rfl rfl rfl rfl (fun _=>rfl) rfl rfl (by omega) rfl (hx3.trans hx4).size ?_
  intro p7 lst7 w7 hR7 hX7 hB7 _ hC7
  (iterate 6 refine Nv ?_;try refine .r rfl ?_)
  refine Out.rndG lst7 sbb ⟨hX7 w (hx3.trans hx4) (Nat.le_refl _),us++[z],hR7,by simp;omega,fun j u hj=>hC7 (by decide) 0 _ _ ?_⟩
  by_cases hlt:j<us.length
  ·rw [List.getElem?_append_left hlt] at hj
   exact (hus j u hj).ext hx4
  ·have hje:j=us.length:=by
    have:=(List.getElem?_eq_some_iff.1 hj).1
    simp at this;omega
   subst hje
   simp at hj
   subst hj
   rw [hul]
   exact hz
 ·rintro lst w3 ⟨hx3,us,hR,hul,hus⟩
  (iterate 6 refine Nv ?_;try refine .r rfl ?_)
  exact Out.ret1 rfl rfl ⟨hx3,hR.lco hul hus⟩
def LPo (w:World) (v:Value) (c:Nat) (g:Nat→Int):Prop:=(∃ p cp,v=.slice p c cp)∧(0<c→∃ b o cp,v=.slice (some ⟨b,o,none⟩) c cp∧RowP w b o c g)
theorem LPo.ext {w w':World} {v:Value} {c:Nat} {g:Nat→Int} (h:LPo w v c g) (hx:Ext w w'):LPo w' v c g:=by
 refine ⟨h.1,fun hc=>?_⟩
 obtain ⟨b,o,cp,hv,hr⟩:=h.2 hc
 exact ⟨b,o,cp,hv,hr.ext hx⟩
theorem LCo.lp {w:World} {v:Value} {c:Nat} {g:Nat→Int} (h:LCo w v c g) (hs:∀ j,j<c→sz (g j)≤1000000):LPo w v c g:=by
 refine ⟨h.1,fun hc=>?_⟩
 obtain ⟨b,o,cp,hv,hr⟩:=h.2 hc
 exact ⟨b,o,cp,hv,hr.rp hs⟩
theorem RowP.tl {w:World} {b o c:Nat} {g:Nat→Int} (h:RowP w b o (c+1) g):RowP w b (o+2) c (fun j=>g (j+1)):=by
 obtain ⟨e,C,hb,hg⟩:=h
 refine ⟨e,C,hb,fun j hj=>?_⟩
 obtain ⟨u,h1,h2,h3⟩:=hg (j+1) (by omega)
 refine ⟨u,h1,?_,by omega⟩
 rw [show o+2+2 * j=o+2 * (j+1) by omega]
 exact h2
theorem RowP.slice1 {w:World} {b o c cp:Nat} {g:Nat→Int} (h:RowP w b o (c+1) g) (hcp:c+1≤cp):LPo w (.slice (if cp=1 then some (⟨b,o,none⟩:Addr) else (some (⟨b,o,none⟩:Addr)).map (·.add (1 * 2))) (c+1 - 1) (cp - 1)) c (fun j=>g (j+1)):=by
 rw [Nat.add_sub_cancel]
 refine ⟨⟨_,_,rfl⟩,fun hpos=>⟨b,o+2,cp - 1,?_,h.tl⟩⟩
 rw [if_neg (by omega),Option.map_some,addr_add]
theorem dotL_spec {w:World} {v1 v2:Value} {c:Nat} {f g:Nat→Int} (h:LPo w v1 c f) (k:LPo w v2 c g) (hc:c≤1000) {s:Nat} (hs:∀ i,i<c→sz (f i * g i)≤s) (hsz:s≤900000) :
  Calls Tryz.prog 113 #[v1,v2] w (Ret fun r w'=>Ext w w'∧CanO 0 w' r (sumN c (fun i=>f i * g i))):=by
 by_cases h0:0<c
 ·obtain ⟨b1,o1,p1,rfl,hr1⟩:=h.2 h0
  obtain ⟨b2,o2,p2,rfl,hr2⟩:=k.2 h0
  exact dot_spec hr1 hr2 (Nat.le_refl _) hc hs hsz
 ·obtain rfl:c=0:=by omega
  obtain ⟨p1,cp1,rfl⟩:=h.1
  refine calls_of_St (args:=[_,_]) Tryz.func113 rfl Tryz.ntmps113 rfl ?_
  refine Nv ?_
  refine .s (OpR.alloc TBok rfl) ?_
  rintro _ w1 ⟨rfl,B4,hx1,hz1⟩
  refine Nv ?_
  (refine .s (RunsTo.build TBok rfl rfl rfl rfl).op ?_;rintro _ _ ⟨rfl,rfl⟩)
  refine .s (OpR.alloc TBok rfl) ?_
  rintro _ w2 ⟨rfl,B5,hx2,hz2⟩
  have hlt:=B4.lt
  refine StL.setCan (base:=0) (v:=zI) (a:=0) rfl rfl B5 rfl (canO_zero 0 _) (hx1.trans hx2) (by omega) ?_
  intro w3 S5 hu3 _ hx3
  replace B4:=(B4.ext hx2).upd hu3 (by omega)
  (iterate 6 refine Nv ?_;try refine .r rfl ?_)
  refine St.rng TBok (10) (0) (0) (by omega) [(4,.pointer (some ⟨w.heap.size,0,none⟩)),(5,.pointer (some ⟨w1.heap.size,0,none⟩)),(9,.int .i64 ((0:Nat):Int))] (fun i w'=>w'=w3) sbb ?_ (fun _=>⟨rfl,rfl⟩) (fun _=>rfl) (fun _=>⟨rfl,rfl⟩) rfl rfl (by omega) ?_ ?_
  ·rfl
  ·rintro i w4 hi
   omega
  ·rintro w4 rfl
   (iterate 6 refine Nv ?_;try refine .r rfl ?_)
   refine .p (RunsTo.loadCan rfl S5 (canO_zero 0 w4)) ?_
   refine StL.finCan (v:=zI) (a:=0) rfl rfl B4 rfl (canO_zero 0 _) hx3 (Nat.le_refl _) ?_
   intro w' hxf hcf fin
   refine Nv ?_
   exact fin _ _ rfl ⟨hxf,hcf⟩
theorem FrV.open {w:World} {x:Value} {n:Nat} {f:Nat→Nat→Int} (h:FrV w x n f) (hn:1≤n):∃ aS cs bm om cm,x=.agg #[.int .i64 n,.slice (some aS) n cs,.slice (some ⟨bm,om,none⟩) (n+1) cm] ∧
  (∀ k,k<n→∃ aM cM,w.cell? (aS.add k)=some (.slice (some aM) (n - k) cM)∧MI w (.slice (some aM) (n - k) cM) (mk (n - k) (n - k) (stI f k)))∧RowC w bm om (n+1) (ddI f):=by
 obtain ⟨sv,dv,rfl,⟨us,hRow,hul,hus⟩,bm,om,cm,rfl,hcm,hRC⟩:=h
 have h0:us[0]?=some (us[0]'(by omega)):=by simp
 obtain ⟨aS,cS,eS,_⟩:=hRow.get h0
 rw [hul] at eS
 refine ⟨aS,cS,bm,om,cm,by rw [eS],fun k hk=>?_,hRC⟩
 have hk':us[k]?=some (us[k]'(by omega)):=by simp
 obtain ⟨a',c',e',hc'⟩:=hRow.get hk'
 rw [eS,hul] at e'
 simp only [Value.slice.injEq,Option.some.injEq] at e'
 obtain ⟨rfl,_,_⟩:=e'
 have hM:=hus k _ hk'
 obtain ⟨aM,cM,eM,_⟩:=hM.mp (by omega) (by omega)
 rw [eM] at hc' hM
 exact ⟨aM,cM,hc',hM⟩
end Go.Qf
namespace Go.Qf
open Go Go.RowKit Go.Proofs
theorem stI_sym {n:Nat} {f:Nat→Nat→Int} (h:RedF n f) (k i j:Nat):stI f k i j=stI f k j i:=by
 unfold stI BB
 rw [EL_sym h.symA k (k+i) (k+j)]
def qdI (f:Nat→Nat→Int) (n:Nat) (ys:List Int):Int:=sumN ys.length (fun i=>yv ys i * sumN ys.length (fun j=>stI f (n - ys.length - 1) (i+1) (j+1) * yv ys j))
theorem sumN_sub (n:Nat) (f g:Nat→Int):sumN n (fun i=>f i - g i)=sumN n f - sumN n g:=by
 induction n with
 | zero=>rfl
 | succ n ih=>show sumN n _+_=sumN n f+f n - (sumN n g+g n);rw [ih];dsimp only;omega
theorem sc_qd {n:Nat} {f:Nat→Nat→Int} {ys:List Int} (h:RedF n f) (hl:ys.length<n) :
  ddI f (n - ys.length - 1) * scI f n ys=ddI f (n - ys.length) * qdI f n ys - liI f n ys * liI f n ys:=by
 unfold qdI liI
 have hk1:n - ys.length=n - ys.length - 1+1:=by omega
 generalize hm:ys.length=m at *
 generalize hk:n - m - 1=k at *
 have e1:∀ i j,stI f (k+1) i j * ddI f k=ddI f (k+1) * stI f k (i+1) (j+1) - stI f k 0 (i+1) * stI f k 0 (j+1):=by
  intro i j
  have:=stI_succ h.pos (show k+1≤n by omega) i j
  rw [stI_diag,stI_sym h k (i+1) 0] at this
  exact this.symm
 unfold scI
 rw [hm,hk1]
 have inner:∀ i,ddI f k * (yv ys i * sumN m (fun j=>stI f (k+1) i j * yv ys j))=ddI f (k+1) * (yv ys i * sumN m (fun j=>stI f k (i+1) (j+1) * yv ys j)) - (stI f k 0 (i+1) * yv ys i) * sumN m (fun j=>stI f k 0 (j+1) * yv ys j):=by
  intro i
  have:ddI f k * sumN m (fun j=>stI f (k+1) i j * yv ys j)=ddI f (k+1) * sumN m (fun j=>stI f k (i+1) (j+1) * yv ys j) - stI f k 0 (i+1) * sumN m (fun j=>stI f k 0 (j+1) * yv ys j):=by
   rw [← sumN_lmul,← sumN_lmul,← sumN_lmul,← sumN_sub]
   refine sumN_congr fun j _=>?_
   have:=e1 i j
   grind
  grind
 rw [← sumN_lmul,sumN_congr (fun i _=>inner i),sumN_sub,sumN_lmul,sumN_mul]
theorem sq_eq {n:Nat} {f:Nat→Nat→Int} {ys:List Int} (h:RedF n f) (hl:ys.length<n) (B:Int) :
  liI f n ys * liI f n ys - stI f (n - ys.length - 1) 0 0 * (qdI f n ys - B * ddI f (n - ys.length - 1))=sqI f n B ys:=by
 have h1:=sc_qd h hl
 rw [stI_diag,show n - ys.length - 1+1=n - ys.length by omega]
 unfold sqI
 grind
end Go.Qf
namespace Go.Qf
open Go Go.RowKit Go.Proofs
def rtN:Nat→Nat
 | 0=>0
 | a+1=>if (rtN a+1) * (rtN a+1)≤a+1 then rtN a+1 else rtN a
theorem rtN_root (a:Nat):IsRoot a (rtN a):=by
 induction a with
 | zero=>unfold IsRoot rtN;omega
 | succ a ih =>
  obtain ⟨h1,h2⟩:=ih
  unfold rtN
  split
  ·refine ⟨by assumption,?_⟩
   have e:(rtN a+1+1) * (rtN a+1+1)=(rtN a+1) * (rtN a+1)+(rtN a+1)+(rtN a+1)+1:=by grind
   omega
  ·exact ⟨by omega,by omega⟩
theorem IsRoot.rt {a x:Nat} (h:IsRoot a x):x=rtN a:=h.unique (rtN_root a)
theorem sumN_front (m:Nat) (g:Nat→Int):sumN (m+1) g=g 0+sumN m (fun i=>g (i+1)):=by
 induction m with
 | zero=>show (0:Int)+g 0=g 0+0;omega
 | succ m ih =>
  show sumN (m+1) g+g (m+1)=g 0+(sumN m (fun i=>g (i+1))+g (m+1))
  rw [ih];omega
theorem yv_zero (x:Int) (ys:List Int):yv (x::ys) 0=x:=rfl
theorem yv_succ (x:Int) (ys:List Int) (i:Nat):yv (x::ys) (i+1)=yv ys i:=rfl
theorem sc_cons {n:Nat} {f:Nat→Nat→Int} {ys:List Int} (h:RedF n f) (hl:ys.length<n) (x:Int) :
  scI f n (x::ys)=ddI f (n - ys.length) * (x * x)+2 * (x * liI f n ys)+qdI f n ys:=by
 have hk1:n - ys.length=n - ys.length - 1+1:=by omega
 unfold scI qdI liI
 rw [List.length_cons,hk1,← stI_diag,show n - (ys.length+1)=n - ys.length - 1 by omega]
 generalize n - ys.length - 1=k
 rw [sumN_front,yv_zero,sumN_front,yv_zero]
 have e:∀ i,yv (x::ys) (i+1) * sumN (ys.length+1) (fun j=>stI f k (i+1) j * yv (x::ys) j)=x * (stI f k 0 (i+1) * yv ys i)+yv ys i * sumN ys.length (fun j=>stI f k (i+1) (j+1) * yv ys j):=by
  intro i
  rw [sumN_front,yv_zero,yv_succ,stI_sym h k (i+1) 0]
  simp only [yv_succ]
  grind
 rw [sumN_congr (fun i _=>e i),sumN_add,sumN_lmul]
 simp only [yv_succ]
 grind
theorem sc_step {n:Nat} {f:Nat→Nat→Int} {ys:List Int} (h:RedF n f) (hl:ys.length<n) (x:Int) :
  ddI f (n - ys.length) * scI f n (x::ys)=ddI f (n - ys.length - 1) * scI f n ys+(ddI f (n - ys.length) * x+liI f n ys) * (ddI f (n - ys.length) * x+liI f n ys):=by
 rw [sc_cons h hl,sc_qd h hl]
 grind
def reI (f:Nat→Nat→Int) (n:Nat) (B:Int) (ys:List Int):Int:=ddI f (n - ys.length) * B - scI f n ys
theorem sqI_re (f:Nat→Nat→Int) (n:Nat) (B:Int) (ys:List Int):sqI f n B ys=ddI f (n - ys.length - 1) * reI f n B ys:=rfl
theorem re_step {n:Nat} {f:Nat→Nat→Int} {ys:List Int} (h:RedF n f) (hl:ys.length<n) (B x:Int) :
  sqI f n B ys - (ddI f (n - ys.length) * x+liI f n ys) * (ddI f (n - ys.length) * x+liI f n ys)=ddI f (n - ys.length) * reI f n B (x::ys):=by
 have h1:=sc_step h hl x
 rw [sqI_re]
 unfold reI
 rw [List.length_cons,show n - (ys.length+1)=n - ys.length - 1 by omega]
 grind
theorem re_nil (f:Nat→Nat→Int) (n:Nat) (B:Int):reI f n B []=ddI f n * B:=by
 unfold reI scI
 show ddI f n * B - 0=_
 omega
def loI (f:Nat→Nat→Int) (n:Nat) (B:Int) (ys:List Int):Int:=ivLo f n (rtN (sqI f n B ys).natAbs) ys
def hiI (f:Nat→Nat→Int) (n:Nat) (B:Int) (ys:List Int):Int:=ivHi f n (rtN (sqI f n B ys).natAbs) ys
theorem root_iff {a r:Nat} (h:IsRoot a r) (u:Int):(-(r:Int)≤u∧u≤r)↔u * u≤a:=by
 obtain ⟨h1,h2⟩:=h
 have e:u * u=((u.natAbs * u.natAbs:Nat):Int):=by rw [← Int.natAbs_mul_self' u];norm_cast
 rw [e]
 constructor
 ·intro hu
  have:u.natAbs≤r:=by omega
  have:=Nat.mul_le_mul this this
  omega
 ·intro hu
  have:u.natAbs<r+1:=by
   rcases Nat.lt_or_ge u.natAbs (r+1) with h | h
   ·exact h
   ·have:=Nat.mul_le_mul h h;omega
  omega
theorem iv_iff {n:Nat} {f:Nat→Nat→Int} {ys:List Int} (h:RedF n f) {r:Nat} (x:Int) :
  (ivLo f n r ys≤x∧x≤ivHi f n r ys)↔(-(r:Int)≤ddI f (n - ys.length) * x+liI f n ys∧ddI f (n - ys.length) * x+liI f n ys≤r):=by
 have hd:=ddI_pos h.pos (show n - ys.length≤n by omega)
 generalize hdd:ddI f (n - ys.length)=d at *
 unfold ivLo ivHi
 rw [hdd]
 have a1:x≤((r:Int) - liI f n ys) / d↔x * d≤(r:Int) - liI f n ys:=Int.le_ediv_iff_mul_le hd
 have a2:-x≤(liI f n ys+r) / d↔-x * d≤liI f n ys+r:=Int.le_ediv_iff_mul_le hd
 have e1:x * d=d * x:=Int.mul_comm _ _
 have e2:-x * d=-(d * x):=by rw [Int.neg_mul,Int.mul_comm]
 rw [e1] at a1
 rw [e2] at a2
 omega
theorem re_pos {n:Nat} {f:Nat→Nat→Int} {ys:List Int} (h:RedF n f) (B:Int):0≤reI f n B ys↔0≤sqI f n B ys:=by
 have hd:=ddI_pos h.pos (show n - ys.length - 1≤n by omega)
 rw [sqI_re]
 constructor
 ·exact fun h=>Int.mul_nonneg (by omega) h
 ·intro h2
  rcases Int.lt_or_le (reI f n B ys) 0 with h3 | h3
  ·have:=Int.mul_neg_of_pos_of_neg hd h3;omega
  ·exact h3
theorem in_iff {n:Nat} {f:Nat→Nat→Int} {ys:List Int} (h:RedF n f) (hl:ys.length<n) {B:Int} (h0:0≤sqI f n B ys) (x:Int) :
  (loI f n B ys≤x∧x≤hiI f n B ys)↔0≤reI f n B (x::ys):=by
 have hd:=ddI_pos h.pos (show n - ys.length≤n by omega)
 unfold loI hiI
 rw [iv_iff h,root_iff (rtN_root _)]
 have h1:=re_step h hl B x
 generalize (ddI f (n - ys.length) * x+liI f n ys) * (ddI f (n - ys.length) * x+liI f n ys)=u at *
 constructor
 ·intro hu
  rcases Int.lt_or_le (reI f n B (x::ys)) 0 with h3 | h3
  ·have:=Int.mul_neg_of_pos_of_neg hd h3;omega
  ·exact h3
 ·intro hr
  have:=Int.mul_nonneg (show 0≤ddI f (n - ys.length) by omega) hr
  omega
theorem hi_lo {n:Nat} {f:Nat→Nat→Int} {ys:List Int} (h:RedF n f) {r:Nat}:ivLo f n r ys≤ivHi f n r ys+1:=by
 have hd:=ddI_pos h.pos (show n - ys.length≤n by omega)
 by_cases hc:ivLo f n r ys≤ivHi f n r ys
 ·omega
 rcases Int.lt_or_le (ivHi f n r ys+1) (ivLo f n r ys) with h2 | h2
 ·exfalso
  have b1:ddI f (n - ys.length) * ivHi f n r ys+liI f n ys≤r:=by
   have:=Int.mul_ediv_self_le (x:=(r:Int) - liI f n ys) (k:=ddI f (n - ys.length)) (by omega)
   unfold ivHi
   omega
  have b2:-(r:Int)≤ddI f (n - ys.length) * ivLo f n r ys+liI f n ys:=by
   have:=Int.mul_ediv_self_le (x:=liI f n ys+(r:Int)) (k:=ddI f (n - ys.length)) (by omega)
   unfold ivLo
   rw [Int.mul_neg]
   omega
  have b3:ddI f (n - ys.length) * (ivHi f n r ys+1)+liI f n ys > r:=by
   have:=Int.lt_mul_ediv_self_add (x:=(r:Int) - liI f n ys) (k:=ddI f (n - ys.length)) (by omega)
   unfold ivHi
   rw [Int.mul_add,Int.mul_one]
   omega
  have b4:ddI f (n - ys.length) * (ivLo f n r ys - 1)+liI f n ys < -(r:Int):=by
   have:=Int.lt_mul_ediv_self_add (x:=liI f n ys+(r:Int)) (k:=ddI f (n - ys.length)) (by omega)
   unfold ivLo
   rw [Int.mul_sub,Int.mul_neg,Int.mul_one]
   omega
  have b5:=Int.mul_le_mul_of_nonneg_left (show ivHi f n r ys+1≤ivLo f n r ys - 1 by omega) (show 0≤ddI f (n - ys.length) by omega)
  omega
 ·exact h2
theorem sc_pos {n:Nat} {f:Nat→Nat→Int} (h:RedF n f):∀ (ys:List Int),ys.length≤n→0≤scI f n ys
 | [],_=>by unfold scI;exact Int.le_refl _
 | x::t,hl=>by
  rw [List.length_cons] at hl
  have ih:=sc_pos h t (by omega)
  have hd:=ddI_pos h.pos (show n - t.length≤n by omega)
  have hd0:=ddI_pos h.pos (show n - t.length - 1≤n by omega)
  have h1:=sc_step h (show t.length<n by omega) x
  have h2:=Int.mul_nonneg (show 0≤ddI f (n - t.length - 1) by omega) ih
  have h3:0≤(ddI f (n - t.length) * x+liI f n t) * (ddI f (n - t.length) * x+liI f n t):=by
   rcases Int.le_total 0 (ddI f (n - t.length) * x+liI f n t) with h | h
   ·exact Int.mul_nonneg h h
   ·exact Int.mul_nonneg_of_nonpos_of_nonpos h h
  rcases Int.lt_or_le (scI f n (x::t)) 0 with h4 | h4
  ·have:=Int.mul_neg_of_pos_of_neg hd h4;omega
  ·exact h4
theorem sq_nn (u:Int):0≤u * u:=by
 rcases Int.le_total 0 u with h | h
 ·exact Int.mul_nonneg h h
 ·exact Int.mul_nonneg_of_nonpos_of_nonpos h h
theorem re_tail {n:Nat} {f:Nat→Nat→Int} {t:List Int} (h:RedF n f) (hl:t.length<n) {B x:Int} (hre:0≤reI f n B (x::t)):0≤reI f n B t:=by
 rw [re_pos h]
 have hd:=ddI_pos h.pos (show n - t.length≤n by omega)
 have h1:=re_step h hl B x
 have h2:=Int.mul_nonneg (show 0≤ddI f (n - t.length) by omega) hre
 have h3:=sq_nn (ddI f (n - t.length) * x+liI f n t)
 omega
def aS:List Int→Nat
 | []=>0
 | x::t=>x.natAbs+aS t
theorem aS_at (ys:List Int) (i:Nat):(yv ys i).natAbs≤aS ys:=by
 induction ys generalizing i with
 | nil=>simp [yv,aS]
 | cons x t ih =>
  cases i with
  | zero=>show x.natAbs≤x.natAbs+aS t;omega
  | succ i=>have:=ih i;rw [yv_succ];show _≤x.natAbs+aS t;omega
theorem aS_mem {ys:List Int} {y:Int} (h:y ∈ ys):y.natAbs≤aS ys:=by
 obtain ⟨i,hi⟩:=List.mem_iff_getElem?.1 h
 have:=aS_at ys i
 unfold yv at this
 rw [List.getD_eq_getElem?_getD,hi] at this
 exact this
theorem st_half {n:Nat} {f:Nat→Nat→Int} (h:RedF n f) {k j:Nat} (hj:k+j+1<n):-ddI f (k+1)≤2 * stI f k 0 (j+1)∧2 * stI f k 0 (j+1)≤ddI f (k+1):=by
 have h1:=h.rd.1 (k+(j+1)) k (by omega) (by omega)
 unfold SzP at h1
 have e0:stI f k 0 (j+1)=stI f k (j+1) 0:=stI_sym h k 0 (j+1)
 have e1:((stI f k (j+1) 0:Int):Rat)=BB (RA f) k (k+(j+1)) k:=stI_cast h.pos (by omega) (j+1) 0
 rw [← e1,← ddI_cast h.pos (by omega)] at h1
 rw [e0]
 obtain ⟨h2,h3⟩:=h1
 constructor
 ·have:-(2 * stI f k (j+1) 0)≤ddI f (k+1):=by exact_mod_cast h3
  omega
 ·exact_mod_cast h2
theorem li_le {m:Nat} {g:Nat→Int} {d:Int} (ys:List Int) (hd:0≤d) (hm:m=ys.length) (hg:∀ j,j<m→-d≤2 * g j∧2 * g j≤d):-(d * aS ys)≤2 * sumN m (fun j=>g j * yv ys j)∧2 * sumN m (fun j=>g j * yv ys j)≤d * aS ys:=by
 induction ys generalizing m g with
 | nil=>subst hm;simp [sumN,aS]
 | cons x t ih =>
  subst hm
  rw [List.length_cons] at hg
  have ih':=ih (m:=t.length) (g:=fun j=>g (j+1)) rfl (fun j hj=>hg (j+1) (by omega))
  rw [List.length_cons,sumN_front,yv_zero]
  simp only [yv_succ]
  have h0:=hg 0 (by omega)
  have hx:=mul_bnd (x:=2 * g 0) (y:=x) (a:=d) (b:=x.natAbs) (by omega) (by omega)
  have e:2 * g 0 * x=2 * (g 0 * x):=Int.mul_assoc _ _ _
  rw [e] at hx
  show -(d * ((x.natAbs+aS t:Nat):Int))≤_∧_≤d * ((x.natAbs+aS t:Nat):Int)
  rw [Int.natCast_add,Int.mul_add]
  constructor <;> omega
theorem li_half {n:Nat} {f:Nat→Nat→Int} {ys:List Int} (h:RedF n f) (hl:ys.length<n):-(ddI f (n - ys.length) * aS ys)≤2 * liI f n ys∧2 * liI f n ys≤ddI f (n - ys.length) * aS ys:=by
 have hd:=ddI_pos h.pos (show n - ys.length≤n by omega)
 refine li_le ys (by omega) rfl (fun j hj=>?_)
 have:=st_half h (k:=n - ys.length - 1) (j:=j) (by omega)
 rw [show n - ys.length - 1+1=n - ys.length by omega] at this
 exact this
theorem sq_le_r {u R:Int} (hR:0≤R) (h:u * u≤R * R):-R≤u∧u≤R:=by
 have e:(u.natAbs:Int) * u.natAbs=u * u:=Int.natAbs_mul_self' u
 have:u.natAbs≤R.natAbs:=by
  rcases Nat.lt_or_ge R.natAbs u.natAbs with h2 | h2
  ·exfalso
   have h3:=Nat.mul_le_mul (show R.natAbs+1≤u.natAbs from h2) (show R.natAbs+1≤u.natAbs from h2)
   have e3:(R.natAbs+1) * (R.natAbs+1)=R.natAbs * R.natAbs+R.natAbs+R.natAbs+1:=by grind
   have e4:(R.natAbs:Int) * R.natAbs=R * R:=Int.natAbs_mul_self' R
   have e5:((R.natAbs * R.natAbs:Nat):Int)=R * R:=by rw [← e4];norm_cast
   have e6:((u.natAbs * u.natAbs:Nat):Int)=u * u:=by rw [← e];norm_cast
   omega
  ·exact h2
 omega
theorem sq_small {n:Nat} {f:Nat→Nat→Int} {ys:List Int} (h:RedF n f) (hn:n≤8) (hl:ys.length≤n) {B:Int} (hB:0≤B):sqI f n B ys≤4294967296 * B∧reI f n B ys≤65536 * B:=by
 have hd:=h.ddI_lt hn (show n - ys.length≤n by omega)
 have hd0:=h.ddI_lt hn (show n - ys.length - 1≤n by omega)
 have hs:=sc_pos h ys hl
 have h1:reI f n B ys≤65536 * B:=by
  unfold reI
  have:=Int.mul_le_mul_of_nonneg_right (show ddI f (n - ys.length)≤65536 by omega) hB
  omega
 refine ⟨?_,h1⟩
 rw [sqI_re]
 have h2:=Int.mul_le_mul_of_nonneg_left h1 (show 0≤ddI f (n - ys.length - 1) by omega)
 have h3:=Int.mul_le_mul_of_nonneg_right (show ddI f (n - ys.length - 1)≤65536 by omega) (show 0≤65536 * B by omega)
 omega
theorem tail_bound {n:Nat} {f:Nat→Nat→Int} (h:RedF n f) (hn:n≤8) {B:Int} {R:Nat} (hB:0≤B) (hR:4294967296 * B≤(R:Int) * R):∀ (ys:List Int),ys.length≤n→0≤reI f n B ys→aS ys+R≤R * 2 ^ ys.length
 | [],_,_=>by show 0+R≤R * 1;omega
 | x::t,hl,hre=>by
  rw [List.length_cons] at hl
  have hr:=re_tail h (show t.length<n by omega) hre
  have ih:=tail_bound h hn hB hR t (by omega) hr
  have hd:=ddI_pos h.pos (show n - t.length≤n by omega)
  have h1:=re_step h (show t.length<n by omega) B x
  have h2:=Int.mul_nonneg (show 0≤ddI f (n - t.length) by omega) hre
  have h3:=(sq_small h hn (ys:=t) (by omega) hB).1
  have h4:=sq_le_r (u:=ddI f (n - t.length) * x+liI f n t) (R:=R) (by omega) (by omega)
  have h5:=li_half h (show t.length<n by omega)
  have h6:2 * (ddI f (n - t.length) * x.natAbs)≤2 * R+ddI f (n - t.length) * aS t:=by
   rcases Int.le_total 0 x with hx | hx
   ·rw [show ((x.natAbs:Nat):Int)=x by omega];omega
   ·rw [show ((x.natAbs:Nat):Int)=-x by omega,Int.mul_neg];omega
  have h7:2 * x.natAbs≤2 * R+aS t:=by
   rcases Nat.lt_or_ge (2 * R+aS t) (2 * x.natAbs) with h8 | h8
   ·exfalso
    have h9:((2 * R+aS t+1:Nat):Int)≤((2 * x.natAbs:Nat):Int):=by exact_mod_cast h8
    have h10:=Int.mul_le_mul_of_nonneg_left h9 (show 0≤ddI f (n - t.length) by omega)
    have h11:=Int.mul_le_mul_of_nonneg_right (show 1≤ddI f (n - t.length) by omega) (show (0:Int)≤2 * R by omega)
    have e1:ddI f (n - t.length) * ((2 * R+aS t+1:Nat):Int)=ddI f (n - t.length) * (2 * R)+ddI f (n - t.length) * aS t+ddI f (n - t.length):=by
     rw [show ((2 * R+aS t+1:Nat):Int)=2 * R+aS t+1 by omega,Int.mul_add,Int.mul_add,Int.mul_one]
    have e2:ddI f (n - t.length) * ((2 * x.natAbs:Nat):Int)=2 * (ddI f (n - t.length) * x.natAbs):=by
     rw [show ((2 * x.natAbs:Nat):Int)=2 * (x.natAbs:Int) by omega,Int.mul_left_comm]
    omega
   ·exact h8
  show x.natAbs+aS t+R≤R * 2 ^ (t.length+1)
  rw [Nat.pow_succ,← Nat.mul_assoc]
  omega
def bump:List Int→Nat→Int→List Int
 | [],_,_=>[]
 | x::t,0,c=>(x+c)::t
 | x::t,i+1,c=>x::bump t i c
def visL (g:Int→Int×List Int→Option (Int×List Int)):Nat→Int→Int×List Int→Option (Int×List Int)
 | 0,_,s=>some s
 | j+1,x,s=>match g x s with
  | none=>none
  | some s'=>visL g j (x+1) s'
def visN (f:Nat→Nat→Int) (n:Nat) (B:Int):Nat→List Int→Int×List Int→Option (Int×List Int)
 | 0,_,s=>some s
 | k+1,ys,s=>if s.1<hiI f n B ys - loI f n B ys+1 then none else
   visL (fun x s=>visN f n B k (x::ys) s) (hiI f n B ys - loI f n B ys+1).toNat (loI f n B ys) (s.1 - (hiI f n B ys - loI f n B ys+1),bump s.2 ys.length (hiI f n B ys - loI f n B ys+1))
theorem bump_len (l:List Int) (i:Nat) (c:Int):(bump l i c).length=l.length:=by
 induction l generalizing i with
 | nil=>rfl
 | cons x t ih=>cases i with
  | zero=>rfl
  | succ i=>show _+1=_+1;rw [ih]
theorem bump_set (l:List Int) (i:Nat) (c:Int):bump l i c=l.set i (yv l i+c):=by
 induction l generalizing i with
 | nil=>rfl
 | cons x t ih=>cases i with
  | zero=>rfl
  | succ i=>show x::bump t i c=x::t.set i (yv t i+c);rw [ih]
end Go.Qf
