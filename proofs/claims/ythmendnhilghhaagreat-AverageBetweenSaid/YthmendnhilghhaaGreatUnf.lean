/- Lemmas on the model and on the program's functions, part Unf. -/
import GoSem.Core.View
import Derived.WalkKit
import Derived.Deep.Quiet
import Derived.Deep.LoopGhost
import Derived.KernelRfl
import Derived.Test.YthmendnhilghhaaGreatProg
import Derived.Laws.BytesString
import Derived.Laws.RangeString
import Derived.Lib.OthersKept
import Derived.Laws.Strings
import Derived.ProofKit
import Derived.OpenShut
import Derived.Lib.SmallJoins
import Derived.Carry
import Derived.ChangeMaps5
import Derived.Maps.AppendAt
import Derived.Laws.Externs
import Derived.Lib.Bytealg
import Derived.ChangeArms
import Derived.Laws.OwnMore
import Derived.Scope
import Derived.RangeFuncLeaves
import Derived.RangeFuncRecord
import Derived.TacticsIn
import Derived.OrdersIn
import Derived.Maps.OwnSet
import Derived.Maps.Views
import Derived.Test.YthmendnhilghhaaGreatRows
import Derived.Test.YthmendnhilghhaaGreatUna
import Derived.Test.YthmendnhilghhaaGreatUnb
import Derived.Test.YthmendnhilghhaaGreatUnc
import Derived.Test.YthmendnhilghhaaGreatUnd
import Derived.Test.YthmendnhilghhaaGreatUne
set_option linter.unusedVariables false
set_option linter.unusedSimpArgs false
set_option maxRecDepth 20000
set_option maxHeartbeats 6400000
namespace Go.Qf
open Go Go.RowKit Go.Proofs Go.Proofs.Tryz
theorem A0v:∀ (L:List FV),YT (L.map (fun e=>(1:Rat) / (e.2:Rat)))=Eb L:=fun L=>by unfold YT Eb;rw[List.foldl_map]
theorem Sh {w:World}{cv:Value}{es:List FV}(h:Ke w cv es) (hl:es.length<=1000) :
  Calls prog 17 #[cv] w (AJ fun x w'=>Ac w w'/\A9h w' x es):=by
 obtain⟨p,cap,e⟩:=h.len;subst e;have R:∀ e ∈ es,sz e.2<=20:=fun e l=>by obtain⟨i,d⟩:=Cx.1 l;obtain⟨hu,e1⟩:=Au.1 d;obtain⟨_,_,_,_,_,_,_,_,_,b⟩:=h.at hu;rw[<- e1];exact b.sz
 refine cS func17 ntmps17 ?_;refine Nv ?_;refine .s (oA) ?_;rintro _ w1 ⟨rfl,B2,H,ka⟩;refine A7 ?_;refine H6 (13) (0) (es.length) [(0,.slice p es.length cap),(2,.pointer (some ⟨w.heap.size,0,none⟩)),(3,.int .i64 0),(11,.slice p es.length cap),(12,.int .i64 es.length)] (fun i w'=>Ac w1 w'/\∀ e ∈ es.take i,1<=e.2) ?_ ?_ ?_
 ·exact⟨Ac.refl _,by intro e l;simp at l⟩
 ·rintro i n d ⟨D,B⟩;have T:=H.trans D;obtain⟨a,_,fv,neg,mag,e1,O,Q,hM,b⟩:=(h.ext T).at d;cases e1;have hw:=DU d;rw[DA d];obtain⟨o,P⟩:∃ o,o=es[i].2:=⟨_,rfl⟩;rw[<- P]at b;refine A7 ?_;refine .p (rK d) ?_;refine .p (A0.aB (cs:=[fv,neg,mag]) A8 rfl rfl rfl rfl O) ?_;refine .s (oA) ?_;rintro _ F ⟨rfl,B5,z,kb⟩;refine Af.step0 rfl rfl (Av.store A8 (vs:=[fv,neg,mag]) rfl rfl rfl rfl rfl B5 (Ai 3) Q) ?_;rintro _ I ⟨A,hz⟩;replace A:Aj 62 I n.heap.size [fv,neg,mag]:=A;have hb:Ac n I:=z.aj hz AO;refine A7 ?_;refine .p (A0.aA (cs:=[neg,mag]) A8 rfl rfl rfl A (by show 1+2<=3;decide) rfl) ?_;refine .s (oK CF (Kv (b.dn.ext hb))) ?_;rintro _ G ⟨X,rfl⟩;have V:=D.trans (hb.trans X);by_cases h0:o<1
  ·refine .a 1 (.bool true) rfl (Aa (by unfold AH;split <;> (first | omega | (split <;> omega)))) ?_;refine A7 ?_;refine .ct ?_;refine .p (rB) ?_;refine Af.aT (v:=zR) rfl rfl rfl GR (B2.ext V) rfl (H.trans V) AO ?_;intro J B8 h9 f;refine A7 ?_;exact Ad.bF rfl rfl rfl B8 GR ⟨f,fun hp=>absurd (hp _ hw) (by rw[<- P];omega),fun _=>rfl⟩
  ·have hx:AH o=1:=by unfold AH;rw[if_neg oo,if_neg oo]
   rw[hx];refine .a 1 (.bool false) rfl (A9 oo) ?_;refine A7 ?_;refine .cF ?_;refine Nv ?_;refine Ad.rnd AL ⟨V,fun e l=>?_⟩;rcases FB.1 l with l | l
   ·exact B e l
   ·rw[Du]at l;rw[l,<- P];omega
 ·rintro n ⟨D,B⟩;rw[D5]at B;have T:=H.trans D;obtain⟨qs,C⟩:∃ qs,qs=es.map (fun e=>(1:Rat) / (e.2:Rat)):=⟨_,rfl⟩;have Z:qs.length=es.length:=by rw[C,Bj]
  refine A7 ?_;refine sG (25) (0) (es.length) (fun g:Value=>[(2,.pointer (some ⟨w.heap.size,0,none⟩)),(6,g),(23,.slice p es.length cap),(24,.int .i64 es.length)]) (fun i g w'=>Ac n w'/\∃ us,Aq 4 39 n.heap.size w' g us/\Lz w' us (qs.take i)) (.slice none 0 0) ?_ ?_ ?_
  ·exact⟨Ac.refl _,[],Aq.nil,rfl,fun i u q d=>by simp at d⟩
  ·rintro i g F d ⟨z,us,j,y⟩;have ha:=y.1;rw[EE,Z]at ha;obtain⟨a,_,fv,neg,mag,e1,O,Q,hM,b⟩:=(h.ext (T.trans z)).at d;cases e1;have h8:=B _ (DU d);have hy:qs.take (i+1)=qs.take i++[(1:Rat) / (es[i].2:Rat)]:=by rw[DA oo];congr 1;simp[C]
   rw[hy];generalize es[i].2=o at *
   have hm:Rat.divInt 1 o=(1:Rat) / (o:Rat):=by rw[Q4];rfl
   refine A7 ?_;refine .p (rK d) ?_;refine .p (A0.aB (cs:=[fv,neg,mag]) A8 rfl rfl rfl rfl O) ?_;refine .s (oA) ?_;rintro _ I ⟨rfl,A,W,kc⟩;refine Af.step0 rfl rfl (Av.store A8 (vs:=[fv,neg,mag]) rfl rfl rfl rfl rfl A (Ai 3) Q) ?_;rintro _ G ⟨B7,S⟩;replace B7:Aj 62 G F.heap.size [fv,neg,mag]:=B7;have hc:Ac F G:=W.aj S AO;have hg:=b.dn.ext hc;refine Nv ?_;refine St.sub (E':=[(25,.int .i64 i),(2,.pointer (some ⟨w.heap.size,0,none⟩)),(6,g),(23,.slice (some a) es.length cap),(24,.int .i64 es.length),(8,.pointer (some ⟨F.heap.size,0,none⟩))]) ?_ AL;refine sF 9 ?_;refine FL.au BC rfl rfl rfl (fun J f=>cM (DY J 1 oo oo)) (Am.aF 0 _) ?_;refine .q ?_;refine .on (fun _ j=>A0.aA (cs:=[neg,mag]) A8 rfl rfl rfl (j.blk B7 sm) (by show 1+2<=3;decide) rfl) ?_;refine FL.au Mr rfl rfl rfl (fun J f kd hf=>cM (ZI (base:=0) (hf.dn (by rw[RI];omega)) (hg.ext f) BI)) (Am.newV 0 _ _) ?_;refine FL.fact (L:=[]) (ψ:=fun r w'=>∃ t,r=.tuple #[t,.bool true]/\Bk 0 w' t (1 / (o:Rat))) rfl rfl rfl rfl rfl ?_ (fun _ _ _ j ⟨t,e,m⟩=>⟨t,e,m.rg j⟩) ?_
   ·intro K j r hr;obtain⟨t,rfl,m⟩:=hr.2 oo;rw[hm]at m;exact A0.ext (A0.pure A8 rfl) ⟨t,rfl,m⟩
   refine FL.fact (L:=[]) (ψ:=fun v w'=>Bk 0 w' v (1 / (o:Rat))) rfl rfl rfl rfl rfl ?_ (Am.bE 0 _) ?_
   ·rintro K j r ⟨t,rfl,m⟩;exact A0.ext (A0.pure A8 rfl) m
   refine FL.exact (L:=[]) (c:=.bool true) rfl rfl rfl rfl rfl ?_ ?_
   ·rintro K j r ⟨t,rfl,m⟩;exact A0.ext (ψ:=fun v _=>v=.bool true) (A0.pure A8 rfl) rfl
   refine FL.alloc A8 rfl rfl rfl rfl ?_;refine FL.bP (L:=[]) (base:=G.heap.size) A8 rfl rfl rfl rfl rfl (Am.bE 0 (1 / (o:Rat))) ?_ ?_
   ·intro K j v7 h7 h5 M;exact⟨⟨v7,rfl,h7⟩,h5,rfl,M.1.len,M.1.ones,M⟩
   refine FL.aG rfl ?_;rintro J f _ ⟨bb,CC,rfl,_,_,_⟩ _ _ _ _ _ _ _ _ ⟨⟨h6,t,hj,BB,m⟩,_⟩ _;cases hj;have h2:=hc.trans f;obtain⟨x1,x2,x3,x4,hk⟩:=m.1.eF;refine A7 ?_;refine .p (rR (BB) (m.1)) ?_;refine .s (Av.bV rfl rfl rfl rfl rfl hk) ?_;rintro _ K ⟨rfl,B9,hd,_⟩;have E:=h2.trans hd;refine .s (Av.cV (k:=4) (j.ext E) (Lw B9) m.1.k4 rfl rfl rfl rfl rfl rfl rfl (by simp;omega) rfl (z.trans E).size) ?_;rintro gA wA ⟨hh,hs,_⟩;have N:=J2 (j.ext E) hs;refine A7 ?_;exact Ad.aO gA AL ⟨N.ext0 n (z.trans E) AO,_,hh,((y.ext E).kp N de).snoc ((m.ext hd).kp N de)⟩
  ·rintro g F ⟨z,us,j,y⟩;have ha:=y.1;rw[<- Z,D5]at y;have h1:=D.trans z;have h4:∀ i,rz (YT (qs.take i))<=40000:=fun i=>by
    rw[C,<- PU,A0v];rcases Nat.le_total i es.length with d | d
    ·have:=R9 R i d;omega
    ·have:=R9 R es.length AO;rw[D5]at this;rw[Bs d];omega
   have h3:∀ q ∈ qs,rz q<=40000:=fun q Y=>by rw[C]at Y;obtain⟨e,l,rfl⟩:=CG.1 Y;have:=Se (R e l) 1 (by rw[RI];omega);have e1:((1:Int):Rat)=1:=rfl;rw[e1]at this;omega
   refine A7 ?_;refine .s (oK Ro (A0u (j.mono BI) y (by have:=y.1;omega) h4 h3)) ?_;rintro v I ⟨W,hv⟩;rw[C,A0v]at hv;have U:=h1.trans W;refine Af.aT rfl rfl rfl hv.1 (B2.ext U) rfl (H.trans U) AO ?_;intro G B7 S X;refine A7 ?_;exact Ad.bF rfl rfl rfl B7 hv.1 ⟨X,fun _=>⟨_,rfl,hv.upd S (B2.ext U) de⟩,fun hn=>absurd B hn⟩
variable {i:Nat}{us vs:List Value}{u cv lv:Value}{es:List FV}{qs:List Rat}
theorem Kd {w:World}{v:Value}(h:Aq 4 39 0 w v us) (d:Lz w us qs) (r:i<qs.length):∃ (a:Addr) (cap:Nat) (u:Value) (cs:List Value),v=.slice (some a) qs.length cap/\Bk 0 w u qs[i]/\u=.agg cs.toArray/\cs.length=4/\∀ (j:Nat) (c:Value),cs[j]?=some c->w.cell? ((a.add (4 * i)).add j)=some c:=by
 have m:=d.1;have hu:us[i]?=some (us[i]'oo):=by simp
 have o:qs[i]?=some qs[i]:=by simp
 have g:=d.2 i _ _ hu o;obtain⟨a,cap,e,k⟩:=h.cells.at h.1 hu;obtain⟨x1,x2,q,x4,e2,_⟩:=id g.1;refine⟨a,cap,_,[.bool x1,x2,.bool q,x4],by rw[e,m],g,e2,rfl,fun j c l=>?_⟩;rw[Addr.add_add];refine k j c ?_;rw[e2];exact l
theorem Pa {w:World}{v:Value}(h:Aq 4 39 0 w u us) (t:Lz w us qs) (k:Aq 4 39 0 w v vs) (f:Lz w vs qs) (I:qs.length<=1000000) (G:∀ q ∈ qs,rz q<=100000) :
  Calls prog 29 #[u,v] w (AJ fun x w'=>Ac w w'/\x=.bool true):=by
 obtain⟨n,m,e1⟩:=h.len;obtain⟨pv,cv,e2⟩:=k.len;rw[t.1]at e1;rw[f.1]at e2;subst e1 e2;refine cS func29 ntmps29 ?_;refine Nv ?_;refine .r rfl ?_;refine Nv ?_;refine .a 5 (.bool false) rfl sm ?_;refine A7 ?_;refine .cf ?_;refine H6 (13) (0) (qs.length) [(0,.slice n qs.length m),(1,.slice pv qs.length cv),(11,.slice n qs.length m),(12,.int .i64 qs.length)] (fun i w'=>Ac w w') ?_ ?_ ?_
 ·exact Ac.refl _
 ·rintro i w1 l e;obtain⟨a,_,x,cs,e1,p,ex,B,A⟩:=Kd (h.ext e) (t.ext e) l;obtain⟨b,_,y,ds,e2,C,ey,E,D⟩:=Kd (k.ext e) (f.ext e) l;cases e1;cases e2;have H:=G _ (DU l);generalize qs[i]=q at *
  refine A7 ?_;refine sD 8 [(16,Is (.slice (some a) qs.length m)),(17,Is (.int .i64 i)),(18,Is (.pointer (some (a.add (4 * i))))),(19,Is x),(20,Is (.slice (some b) qs.length cv)),(21,Is (.int .i64 i)),(22,Is (.pointer (some (b.add (4 * i))))),(23,Is y)] ?_ ?_
  ·refine⟨?_,?_,?_,?_,?_,?_,?_,?_,trivial⟩
   ·exact fun g d=>oP
   ·exact fun g d=>oP
   ·rintro g d _ rfl _ rfl;exact CD.run rfl rfl rfl rfl (rK l) rfl
   ·rintro g d _ rfl;exact CD.run rfl rfl rfl rfl (A0.aB (cs:=cs) A8 rfl rfl rfl (by rw[B]) (fun j c o=>d.cell (A j c o))) ex.symm
   ·exact fun g d=>oP
   ·exact fun g d=>oP
   ·rintro g d _ rfl _ rfl;exact CD.run rfl rfl rfl rfl (rK l) rfl
   ·rintro g d _ rfl;exact CD.run rfl rfl rfl rfl (A0.aB (cs:=ds) A8 rfl rfl rfl (by rw[E]) (fun j c o=>d.cell (D j c o))) ey.symm
  rintro w2 z _ _ _ _ _ _ v1 e3 _ _ _ _ _ _ v2 e4 _;replace e3:v1=x:=e3;replace e4:v2=y:=e4;subst v1 v2;refine .s (oK Z4 (A3w (p.ext z) (C.ext z) H)) ?_;rintro _ w3 ⟨F,rfl⟩;refine A7 ?_;refine .cF ?_;refine Nv ?_;exact Ad.rnd AL ((e.trans z).trans F)
 ·rintro w1 e;refine A7 ?_;exact Ad.ax rfl rfl ⟨e,rfl⟩
theorem Xt {w:World}{ls:List Value}(b:Bool) (h:Ke w cv es) (k:NJ w lv ls) :
  Calls prog 22 #[cv,lv,.bool b] w (AJ fun x w'=>Ac w w'/\∃ fs,Ke w' x fs/\(b=false->fs=es)/\(b=true->fs.length<=4/\fs.length<=ls.length/\A0n 3 fs)):=by
 refine cS func22 ntmps22 ?_;refine A7 ?_;cases b
 ·refine .cf ?_;exact Ad.ax rfl rfl ⟨Ac.refl _,es,h,fun _=>rfl,fun e=>by (cases e)⟩
 ·refine .ct ?_;refine .s (oK CK (Gm (most:=3) k oo)) ?_;rintro x w1 ⟨l,fs,c,d,g,j⟩;refine A7 ?_;exact uR ⟨l,fs,c,fun e=>by (cases e),fun _=>⟨d,g,j⟩⟩
variable {n b j m s1 s2 cap:Nat}{w':World}{t ty et t2:TypeId}{af:Array Edge}{g:Option (Nat×Bool)}{x:Operand}{E:List (Nat×Value)}{d:Option Tmp}{C cs D:List Value}{z:Value}{iv jv:Int}{k':IntKind}{et1:TI}
def zA:List Value:=AV (List.replicate 1001 zR)
def TS:List (Nat×TI):=(79,⟨.array 1001 39,4004,64064,.agg zA.toArray⟩)::TB
theorem A8B:zA.length=4004:=by unfold zA;rw[M8.flat (k:=4) (fun u hu=>by rw[BU hu];exact⟨GR.len,GR.ones⟩),He]
theorem Rc:Aw prog TS:=Aw.cons underlying79 kr A8
section
variable {P:Program}{T:List (Nat×TI)}{n:Nat}{E:List (Nat×Value)}{w:World}
theorem A0.bZ (c:Aw P T) {i:Operand}{pos:String}{a:Addr}{s:Nat}{k:IntKind}
  (u:AG T t=some ⟨.array m et,s1,s2,z⟩) (v:AG T et=some et1) (r:et1.size=s) (y:ov E x=some (.pointer (some a))) (o:ov E i=some (.int k iv)) (q:iv=j) (l:j<m) :
  A0 P n ⟨d,.indexAddr t x i,ty,pos,af,g⟩ E w (.pointer (some (a.add (s * j)))):=by subst q;intro b e;have e1:=e.eval y;have e2:=e.eval o;have e3:j * s=s * j:=AQ _ _;generalize b.eval=ρ at e1 e2;simp[execOp,Instr.indexAt,Instr.sureAddr,e1,e2,Ag c u,AK c v,r,l,asIntOf,e3,go_sem]
theorem A0.eG (c:Aw P T) {pos:String}{a:Addr}
  (j:AG T t=some ⟨.array m et,s1,s2,z⟩) (k:AG T et=some et1) (l:ov E x=some (.pointer (some a))) :
  A0 P n ⟨d,.slice t x none none none,ty,pos,af,g⟩ E w (.slice (some a) m m):=by intro b e;have e1:=e.eval l;generalize b.eval=ρ at e1;simp[execOp,Instr.sliceAt,Instr.sliceBounds,Instr.sureAddr,e1,Ag c j,AK c k,Addr.add,go_sem]
end
theorem A4a (m:Nat):(List.range (m * 4)).map (fun x=>(#[.bool false,.slice none 0 0,.bool false,.slice none 0 0]:Array Value)[x % 4]!)=AV (List.replicate m zR):=by
 induction m with
 | zero=>rfl
 | succ m ih =>
  have e:AV (List.replicate (m+1) zR)=AV (List.replicate m zR)++[.bool false,.slice none 0 0,.bool false,.slice none 0 0]:=by unfold AV;rw[List.replicate_succ',LU];rfl
  rw[e,<- ih,show (m+1) * 4=m * 4+1+1+1+1 by omega,Iv,Iv,Iv,Iv];simp only[Ev,EO];congr 1;have c:m * 4 % 4=0:=by omega
  have d:(m * 4+1) % 4=1:=by omega
  have g:(m * 4+1+1) % 4=2:=by omega
  have j:(m * 4+1+1+1) % 4=3:=by omega
  simp only[Er,J4,c,d,g,j];rfl
theorem Av.makeR {w:World}{y:Operand}{pos:String}{k:IntKind}(m:Nat)
  (B:ov E x=some (.int k iv)) (f:iv=m) (C:ov E y=some (.int k' jv)) (h:jv=m) (D:m<=1000000) :
  Av prog n ⟨d,.makeSlice 29 x y,ty,pos,af,g⟩ E w (fun v w'=>v=.slice (some ⟨w.heap.size,0,none⟩) m m/\Aj 39 w' w.heap.size (AV (List.replicate m zR))/\Ac w w'/\w'.heap.size=w.heap.size+1):=by
 intro a j Q K z;subst f h;obtain⟨_,inf,q,F,l,r⟩:=A8 39 _ rfl;have e:=Ag (P:=prog) (w:=w) A8 (t:=29) rfl;have c:=AK (P:=prog) (w:=w) A8 (t:=39) rfl;dsimp only at l r e c;have e1:=j.eval B;have e2:=j.eval C;have A:IntKind.i64.wrap (m:Int)=m:=Ab oo oo;have b:¬ ((decide (((m:Nat):Int)<0) || decide (((64:Nat):Int) * ((m:Nat):Int) > 2 ^ 48) || decide (((m:Nat):Int)<0) || decide (((m:Nat):Int) > ((m:Nat):Int)))=true):=by simp only[H9,decide_eq_true_eq];omega
 have p:¬ (m * 64 > roomBytes):=by unfold roomBytes;omega
 have o:((Array.range (m * 4)).map (fun x=>(#[.bool false,.slice none 0 0,.bool false,.slice none 0 0]:Array Value)[x % 4]!))=(AV (List.replicate m zR)).toArray:=by rw[<- A4a];apply Array.ext';simp[Array.toList_range]
 have s:(execOp a.eval ⟨d,.makeSlice 29 x y,ty,pos,af,g⟩).run prog w=.ok (.value (.slice (some ⟨w.heap.size,0,none⟩) m m)) (w.alloc (.cells (AV (List.replicate m zR)).toArray 39 (0,0))):=by
  generalize a.eval=ρ at e1 e2;have i:(Instr.makeSlice 29 (.int k m) (.int k' m)).run prog w=.ok (.slice (some ⟨w.heap.size,0,none⟩) m m) (w.alloc (.cells (AV (List.replicate m zR)).toArray 39 (0,0))):=by
   unfold Instr.makeSlice;simp only[Bq,e,Bp,asInt,asIntOf,AX,BZ q,l,A];rw[if_neg b];simp only[Bq,AX,Bp,Cj,askRoom,if_neg p,c];by_cases u:m=0
   ·subst u;simp[newRow,AV,go_sem]
   ·rw[if_neg oo];simp only[Bq,zeroValue,BZ q,AX,Bp,r,Value.cells,Ty,BR,Fj,AE,o];simp[newRow,o,go_sem]
  simp only[execOp,e1,e2,Bq,i,Bp,AX]
 unfold Oper.wp;rw[s,Oper.upon_value];refine z _ _ ⟨rfl,?_,Da _ _,Dc _ _⟩;have:=DN w 39 (AV (List.replicate m zR)).toArray;simpa using this
theorem Av.copyR {w:World}{y:Operand}{pos:String}{len cap2:Nat}{a:Addr}
  (B:ov E x=some (.slice (some ⟨b,0,none⟩) m cap)) (C:ov E y=some (.slice (some a) len cap2)) (p:m<=len) (z:Aj 39 w b D) (F:D.length=m * 4) (G:cs.length=m * 4) (f:∀ (j:Nat) (c:Value),cs[j]?=some c->w.cell? (a.add j)=some c) (u:∀ c ∈ cs,c.oneCell'=true) :
  Av prog n ⟨d,.call ⟨.builtin .copy,#[x,y],#[29,t2]⟩,ty,pos,af,g⟩ E w (fun _ w'=>Aj 39 w' b cs/\CE b w w'):=by
 intro ac l Q K v;have k:=Ag (P:=prog) (w:=w) A8 (t:=29) rfl;have e:=AK (P:=prog) (w:=w) A8 (t:=39) rfl;dsimp only at k e;have e1:=l.eval B;have e2:=l.eval C;have i:Nat.min len m=m:=Nat.min_eq_right p;have q:=NG (P:=prog) f (m * 4) 0 #[] oo;simp only[FE,Tz]at q;obtain⟨w',A,o,hu⟩:=MO (P:=prog) cs w D 0 z (off:=0) oo u;have r:=WP cs [] D oo;simp only[HX,Fj]at r;simp only[AE,r]at o;have s:(execOp ac.eval ⟨d,.call ⟨.builtin .copy,#[x,y],#[29,t2]⟩,ty,pos,af,g⟩).run prog w=.ok (.value (goInt m)) w':=by
  generalize ac.eval=ρ at e1 e2;have h:(Builtin.copy_ #[29,t2] ty #[.slice (some ⟨b,0,none⟩) m cap,.slice (some a) len cap2]).run prog w=.ok (goInt m) w':=by unfold Builtin.copy_;simp[k,e,Builtin.lenOf,Builtin.firstCells,i,loadCells,q,A,go_sem]
  simp only[execOp,resolve,invoke,builtin,Bq,AX,Bp,Js,Er,J4,e1,e2,h]
 unfold Oper.wp;rw[s,Oper.upon_value];exact v _ w' ⟨o,hu⟩
def JI (w:World) (us:List Value) (f:Nat->Rat):Prop:=M8 4 us/\us.length=1001/\∀ (i:Nat) (u:Value),us[i]?=some u->Bk 0 w u (f i)
theorem JI.ext {w:World}{f:Nat->Rat}(h:JI w us f) (d:Ac w w'):JI w' us f:=⟨h.1,h.2.1,fun i u c=>(h.2.2 i u c).ext d⟩
theorem JI.upd {w:World}{f:Nat->Rat}(h:JI w us f) (hu:CE b w w') (c:Aj t w b C) (e:109≠t):JI w' us f:=⟨h.1,h.2.1,fun i u d=>(h.2.2 i u d).upd hu c e⟩
theorem JI.set {w:World}{f:Nat->Rat}(h:JI w us f) {q:Rat}(hu:Bk 0 w u q):JI w (us.set j u) (fun i=>if i=j then q else f i):=by
 refine⟨h.1.set ⟨hu.1.len,hu.1.ones⟩,by rw[EP];exact h.2.1,fun i v c=>?_⟩;by_cases e:j=i
 ·subst e;have d:=(Au.1 c).1;rw[Bx (by simpa using d)]at c;cases c;simpa using hu
 ·rw[Ce e]at c;simp only[if_neg (fun e2=>e (Eq.symm e2))];exact h.2.2 i v c
theorem JI.cell {w:World}(h:M8 4 us) (d:Aj t w b (AV us)) (e:us[i]?=some u) (j:Nat) (c:Value) (g:u.cells.toList[j]?=some c):w.cell? ((Addr.add ⟨b,0,none⟩ (4 * i)).add j)=some c:=by rw[Addr.add_add,Ak,AE];exact d.cell (Lv h e g)
theorem A0w (h:M8 4 us) (hu:u.cells.toList.length=4) (c:j<us.length):Fl (AV us) (4 * j) u.cells.toList=AV (us.set j u):=by have:=L7 us [] j u (fun v hv=>(h v hv).1) c hu;rw[D7,D7]at this;exact this
theorem JI.bT {w:World}{f:Nat->Rat}(h:JI w us f):(AV us).length=4004:=by rw[h.1.flat,h.2.1]
theorem JI.congr {w:World}{f g:Nat->Rat}(h:JI w us f) (e:∀ i,f i=g i):JI w us g:=⟨h.1,h.2.1,fun i u c=>by rw[<- e];exact h.2.2 i u c⟩
theorem JI.ones {w:World}{f:Nat->Rat}(h:JI w us f):∀ c ∈ AV us,c.oneCell'=true:=by intro c d;unfold AV at d;rw[List.mem_flatMap]at d;obtain⟨u,hu,d⟩:=d;exact (h.1 u hu).2 c d
theorem A4b {w:World}{f:Nat->Rat}{tv:Value}{xs:List Int}{neg mag:Value}{o:Int}(l:JI w us f) (A:LO 0 w tv xs) (hl:xs.length<=1001) (hy:∀ m,0<=xs.getD m 0/\xs.getD m 0<=1000000) (n:DnE w (.agg #[neg,mag]) o) (ho:1<=o) (hz:∀ i,rz (f i)<=40000) :
  Calls prog 42 #[.agg (AV us).toArray,tv,.agg #[neg,mag]] w (AJ fun x w'=>Ac w w'/\∃ us',x=.agg (AV us').toArray/\JI w' us' (fun i=>if i<xs.length then f i+((xs.getD i 0:Int):Rat) / (o:Rat) else f i)):=by
 obtain⟨pt,I,e⟩:=A.len;rw[Bj]at e;subst e;have h3:(o:Rat)≠0:=by
  intro e;have:o=0:=by exact_mod_cast e
  omega
 have hn:=n.sz;refine cS func42 ntmps42 ?_;refine Nv ?_;refine .s (oB) ?_;rintro _ w1 ⟨rfl,B1,M,h5⟩;refine .s (oB) ?_;rintro _ w2 ⟨rfl,B2,D,h6⟩;refine .s (Av.alloc Rc rfl) ?_;rintro _ w3 ⟨rfl,B3,E,h8⟩;replace B1:Aj 79 w3 w.heap.size (AV us):=(B1.ext D).ext E;replace B2:Aj 37 w3 w1.heap.size [neg,mag]:=B2.ext E;replace B3:Aj 79 w3 w2.heap.size zA:=B3;have C:Ac w w3:=(M.trans D).trans E;replace l:=l.ext C;replace A:=A.ext C;replace n:=n.ext C;have hk:w.heap.size<=w2.heap.size:=(M.trans D).size;have Y:=A8B;clear M D E;refine Nv ?_;refine .p (A0.aA (cs:=AV us) Rc rfl rfl rfl B1 (by rw[l.bT];exact Ai _) (by rw[FE];exact Bs (by rw[l.bT];exact Ai _))) ?_;refine .s (Av.alloc Rc rfl) ?_;rintro _ w4 ⟨rfl,B4,hw,h9⟩;replace B4:Aj 79 w4 w3.heap.size zA:=B4;refine Af.step0 rfl rfl (Av.storeAll Rc rfl rfl rfl rfl l.bT Y l.ones B4) ?_;rintro _ Z ⟨B5,hp,_⟩;replace B5:Aj 79 Z w3.heap.size (AV us):=B5;have X:Ac w3 Z:=hw.aj hp AO;refine A7 ?_;refine sG (15) (0) (xs.length) (fun _:List Value=>[(5,.pointer (some ⟨w1.heap.size,0,none⟩)),(6,.pointer (some ⟨w2.heap.size,0,none⟩)),(7,.pointer (some ⟨w3.heap.size,0,none⟩)),(13,.slice pt xs.length I),(14,.int .i64 xs.length)]) (fun i us w'=>Ac w3 w'/\Aj 79 w' w3.heap.size (AV us)/\JI w' us (fun j=>if j<i then f j+((xs.getD j 0:Int):Rat) / (o:Rat) else f j)) (us) ?_ ?_ ?_
 ·exact⟨X,B5,(l.ext X).congr (fun i=>by rw[if_neg oo])⟩
 ·rintro i vs w6 hi ⟨z,G,d⟩;obtain⟨b2,c2,e2,T⟩:=(A.ext z).l64.cell (j:=i) hi;cases e2;have hf:=hy i;have ka:=hz i;have hu:vs[i]?=some (vs[i]'(by rw[d.2.1];omega)):=by simp
  have b:=d.2.2 i _ hu;dsimp only at b;rw[if_neg oo]at b;generalize vs[i]'(by rw[d.2.1];omega)=u at hu b;obtain⟨c,S⟩:∃ c,c=xs.getD i 0:=⟨_,rfl⟩;rw[<- S]at T hf;have hg:Rat.divInt c o=(c:Rat) / (o:Rat):=Q4 c o;have hm:sz c<=2:=Bn oo oo;have h4:=Se hn c hm;have hd:=n.dn.ext z;have ha:=B2.ext z;refine A7 ?_;refine .p (A0.ia) ?_;refine .p (rL T) ?_;refine Nv ?_;refine .r rfl ?_;refine Nv ?_;refine St.sub (E':=[(15,.int .i64 i),(5,.pointer (some ⟨w1.heap.size,0,none⟩)),(6,.pointer (some ⟨w2.heap.size,0,none⟩)),(7,.pointer (some ⟨w3.heap.size,0,none⟩)),(13,.slice (some b2) xs.length I),(14,.int .i64 xs.length),(8,.int .i64 i),(9,.int .i64 c)]) ?_ AL;refine sF 9 ?_;refine .q ?_;refine FL.au BC rfl rfl rfl (fun O a=>cM (DY O c oo oo)) (Am.aF 0 _) ?_;refine .on (fun _ y=>A0.aA (cs:=[neg,mag]) A8 rfl rfl rfl (y.blk ha sm) (Ai 2) rfl) ?_;refine FL.au Mr rfl rfl rfl (fun O a kb hb=>cM (ZI (base:=0) (hb.dn oo) (hd.ext a) BI)) (Am.newV 0 _ _) ?_;refine FL.fact (L:=[]) (ψ:=fun r w'=>∃ t,r=.tuple #[t,.bool true]/\Bk 0 w' t ((c:Rat) / (o:Rat))) rfl rfl rfl rfl rfl ?_ (fun _ _ _ y ⟨t,e,g⟩=>⟨t,e,g.rg y⟩) ?_
  ·intro F y r hr;obtain⟨t,rfl,g⟩:=hr.2 oo;rw[hg]at g;exact A0.ext (A0.pure A8 rfl) ⟨t,rfl,g⟩
  refine FL.fact (L:=[]) (ψ:=fun v w'=>Bk 0 w' v ((c:Rat) / (o:Rat))) rfl rfl rfl rfl rfl ?_ (Am.bE 0 _) ?_
  ·rintro F y r ⟨t,rfl,g⟩;exact A0.ext (A0.pure A8 rfl) g
  refine FL.exact (L:=[]) (c:=.bool true) rfl rfl rfl rfl rfl ?_ ?_
  ·rintro F y r ⟨t,rfl,g⟩;exact A0.ext (ψ:=fun v _=>v=.bool true) (A0.pure A8 rfl) rfl
  refine FL.alloc A8 rfl rfl rfl rfl ?_;refine FL.bP (L:=[]) (base:=w6.heap.size) A8 rfl rfl rfl rfl rfl (Am.bE 0 ((c:Rat) / (o:Rat))) ?_ ?_
  ·intro F y v7 h7 h0 J;exact⟨⟨v7,rfl,h7⟩,h0,rfl,J.1.len,J.1.ones,J⟩
  refine FL.aG rfl ?_;rintro O a _ ⟨bb,CC,rfl,_,_,_⟩ _ _ _ _ _ _ _ _ ⟨⟨h1,t,he,BB,g⟩,_⟩ _;cases he;have hs:=z.trans a;have hq:=b.ext a;have R:=G.ext a;have U:i<1001:=by omega
  refine Nv ?_;refine .r rfl ?_;refine Nv ?_;refine St.sub (E':=[(15,.int .i64 i),(5,.pointer (some ⟨w1.heap.size,0,none⟩)),(6,.pointer (some ⟨w2.heap.size,0,none⟩)),(7,.pointer (some ⟨w3.heap.size,0,none⟩)),(13,.slice (some b2) xs.length I),(14,.int .i64 xs.length),(8,.int .i64 i),(10,.pointer (some ⟨bb,0,none⟩))]) ?_ AL;refine sD 6 [(27,Is (.int .i64 i)),(28,Is (.int .i64 i)),(29,Is (.pointer (some (Addr.add ⟨w3.heap.size,0,none⟩ (4 * i))))),(30,Is u),(31,Is t),(32,fun v w'=>Bk 0 w' v (f i+(c:Rat) / (o:Rat)))] ?_ ?_
  ·refine⟨?_,?_,?_,?_,?_,?_,trivial⟩
   ·exact fun h k=>oP
   ·exact fun h k=>oP
   ·rintro h k _ rfl;exact CD.run rfl rfl rfl rfl (A0.bZ Rc rfl rfl rfl rfl rfl rfl U) rfl
   ·rintro h k _ rfl;exact CD.run rfl rfl rfl rfl (A0.aB (cs:=u.cells.toList) A8 rfl rfl rfl (by rw[b.1.len]) (fun j c B=>k.cell (JI.cell d.1 R hu j c B))) (show Value.agg u.cells.toList.toArray=u by simpa using b.1.agg.symm)
   ·exact fun h k=>CD.run rfl rfl rfl rfl (rR (BB.ext k) g.1) rfl
   ·rintro h k v1 e1 v2 e2;replace e1:v1=u:=e1;replace e2:v2=t:=e2;subst v1 v2;refine oC Ms (X2 ((hq.ext k).dn oo) ((g.ext k).dn oo) oo oo) ?_;rintro v w' ⟨hx,hv⟩;exact⟨hx,hv⟩
  rintro F N _ rfl _ rfl _ rfl v3 e3 v4 e4 v hv _;have H:=R.ext N;have h2:vs.length=1001:=d.2.1;have hh:=d.bT;refine .p (A0.bZ Rc rfl rfl rfl rfl rfl rfl U) ?_;simp only[Ak,AE];refine Af.step0 rfl rfl (Av.store A8 (vs:=v.cells.toList) rfl rfl rfl rfl hv.1.len H (by rw[hv.1.len,hh];omega) hv.1.ones) ?_;rintro _ kc ⟨P,K⟩;rw[A0w d.1 hv.1.len oo]at P;refine A7 ?_;refine Ad.aO (vs.set i v) AL ⟨(hs.trans N).aj K AO,P,(((d.ext (a.trans N)).upd K H de).set (hv.upd K H de)).congr (fun j=>?_)⟩;by_cases B:j=i
  ·subst B;rw[if_pos rfl,if_pos oo,<- S]
  ·rw[if_neg B];by_cases V:j<i
   ·rw[if_pos V,if_pos oo]
   ·rw[if_neg V,if_neg oo]
 ·rintro vs w6 ⟨z,G,d⟩;refine A7 ?_;refine .p (A0.aA (cs:=AV vs) Rc rfl rfl rfl G (by rw[d.bT];exact Ai _) (by rw[FE];exact Bs (by rw[d.bT];exact Ai _))) ?_;have Q:=B3.ext z;refine Af.step0 rfl rfl (Av.storeAll Rc rfl rfl rfl rfl d.bT Y d.ones Q) ?_;rintro _ w7 ⟨B7,W,_⟩;replace B7:Aj 79 w7 w2.heap.size (AV vs):=B7;refine A7 ?_;exact Ad.aC Rc [_] rfl ⟨⟨_,_,_,_,rfl,B7,rfl,rfl,d.bT,rfl⟩,trivial⟩ ⟨(C.trans z).aj W hk,vs,rfl,d.upd W Q de⟩
variable {B:Int}
theorem A7m:rz 0<=2:=by have c:=Jf 0;have e:((0:Int):Rat)=0:=rfl;have z:=Bn (a:=0) oo oo;rw[e]at c;omega
theorem A67 {w:World}{f:Nat->Rat}(h:JI w us f) (hB:B.toNat<=1000) (g:∀ m,m<B.toNat+1->f m=En B m es):Lz w (us.take (B.toNat+1)) (Kb B es):=by refine⟨by simp[Kb,h.2.1];omega,fun i u q hu c=>?_⟩;have d:=(Au.1 c).1;simp[Kb]at d;rw[Dz oo]at hu;have e:=h.2.2 i u hu;simp[Kb,d]at c;rw[<- c,<- g i oo];exact e
theorem NK {w:World}{b:Int}(h:Ke w cv es) (kc:∀ e ∈ es,e.1.length<=1000000) (hl:es.length<=1000) :
  Calls prog 16 #[cv,.int .i64 B,.int .i64 b] w (AJ fun x w'=>Ac w w'/\YS w.heap.size w' x es B b (Kb B es)):=by
 obtain⟨p,cap,e⟩:=h.len;subst e;unfold YS;have kh:∀ e ∈ es,sz e.2<=20:=fun e A=>by obtain⟨i,g⟩:=Cx.1 A;obtain⟨kd,e1⟩:=Au.1 g;obtain⟨_,_,_,_,_,_,_,_,_,O⟩:=h.at kd;rw[<- e1];exact O.sz
 refine cS func16 ntmps16 ?_;refine Nv ?_;refine .r rfl ?_;refine Nv ?_;by_cases H:es.length=0
 ·have F:ML B b es=3:=if_pos H;rw[F];refine .a 3 (.bool true) rfl (by rw[H];rfl) ?_;refine A7 ?_;refine .ct ?_;exact Ad.aC A8 [_,_] rfl ⟨rfl,rfl,trivial⟩ ⟨Ac.refl _,_,rfl,fun e=>by (cases e),fun _=>rfl⟩
 refine .a 3 (.bool false) rfl (by rw[beq_eq_false_iff_ne.2 oo]) ?_;refine A7 ?_;refine .cf ?_;refine .s (oK JR (Sh h hl)) ?_;rintro _ w1 ⟨hp,h2,h3⟩;by_cases E:okO es
 ·have F:ML B b es=Ox B b es:=by unfold ML;rw[if_neg H,if_pos E]
  rw[F];obtain⟨sv,rfl,kg⟩:=h2 E;refine A7 ?_;refine Af.bn rfl rfl (fun _=>rfl) kg.1 ?_;intro b8 w2 h4 Q B8;have ho:=hp.trans Q;refine A7 ?_;refine .cf ?_;refine .s (oK FZ (KE (h.ext ho) kc oo)) ?_;rintro _ w3 ⟨kl,lv,rfl,k0,k1⟩;have I:=ho.trans kl;refine .r rfl ?_;by_cases y:Ox B b es=0
  ·have hV:=k0 y;have kb:¬ 64<es.length:=fun hh=>by unfold Ox at y;rw[if_pos hh]at y;cases y
   have hb:=Ra (show WH B b es=0 by unfold Ox at y;rwa [if_neg kb]at y);have hg:=fun e (A:e ∈ es) m=>Kc (hb e A) m;rw[y];have hd:(OI B es).length=es.length:=by simp[OI]
   have h6:∀ i (g:i<es.length) (ka:i<(OI B es).length),(OI B es)[i]=H7 es[i].1 B:=fun i g ka=>by simp[OI]
   obtain⟨al,J,Y⟩:=hV.len;rw[hd]at Y;subst Y;have kk:∀ M,(H7 M B).length=B.toNat+1:=fun M=>by unfold H7;rw[El]
   have hA:=(R6 (hb _ (DU (show 0<es.length by omega)))).2.1;have kr:0<=B:=hA.1;have h1:B.toNat<=1000:=by have:=hA.2.1;omega
   have ks:B=(B.toNat:Int):=by omega
   refine A7 ?_;refine .cF ?_;refine Nv ?_;refine .s (Av.alloc Rc rfl) ?_;rintro _ w4 ⟨rfl,B4,km,ku⟩;replace B4:Aj 79 w4 w3.heap.size (AV (List.replicate 1001 zR)):=B4;have ko:M8 4 (List.replicate 1001 zR):=fun u hu=>by rw[BU hu];exact⟨GR.len,GR.ones⟩
   refine A7 ?_;refine sG (38) (0) (1001) (fun _:List Value=>[(0,.slice p es.length cap),(1,.int .i64 B),(10,.slice al es.length J),(12,.pointer (some ⟨w3.heap.size,0,none⟩))]) (fun i us w'=>Ac w3 w'/\us.length=1001/\M8 4 us/\Aj 79 w' w3.heap.size (AV us)/\∀ (j:Nat) (u:Value),j<i->us[j]?=some u->Bk 0 w' u 0) (List.replicate 1001 zR) ?_ ?_ ?_
   ·exact⟨km,by rw[He],ko,B4,fun j u C=>by omega⟩
   ·rintro i us T g ⟨R,n,G,B5,N⟩;have h8:(AV us).length=4004:=by rw[G.flat,n]
    refine A7 ?_;refine .s (oK Rn (A0t T 0 oo oo)) ?_;rintro v U ⟨l,hv⟩;replace hv:Bk 0 U v 0:=hv;have z:=B5.ext l;refine .p (A0.bZ Rc rfl rfl rfl rfl rfl rfl g) ?_;simp only[Ak,AE];refine Af.step0 rfl rfl (Av.store A8 (vs:=v.cells.toList) rfl rfl rfl rfl hv.1.len z (by rw[hv.1.len,h8];omega) hv.1.ones) ?_;rintro _ w7 ⟨B7,P⟩;rw[A0w G hv.1.len oo]at B7;refine A7 ?_;refine Ad.aO (us.set i v) AL ⟨(R.trans l).aj P AO,by rw[EP];exact n,G.set ⟨hv.1.len,hv.1.ones⟩,B7,fun j u C hu=>?_⟩;by_cases e:i=j
    ·subst e;rw[Bx oo]at hu;cases hu;exact hv.upd P z de
    ·rw[Ce e]at hu;exact ((N j u oo hu).ext l).upd P z de
   ·rintro us T ⟨R,n,G,B5,N⟩;have hx:JI T us (fun _=>0):=⟨G,n,fun i u hu=>N i u (by have:=(Au.1 hu).1;omega) hu⟩;refine A7 ?_;refine sG (47) (0) (es.length) (fun _:List Value=>[(0,.slice p es.length cap),(1,.int .i64 B),(12,.pointer (some ⟨w3.heap.size,0,none⟩)),(45,.slice al es.length J),(46,.int .i64 es.length)]) (fun i us w'=>Ac w3 w'/\Aj 79 w' w3.heap.size (AV us)/\JI w' us (fun m=>if m<B.toNat+1 then En B m (es.take i) else 0)) (us) ?_ ?_ ?_
    ·exact⟨R,B5,hx.congr (fun m=>by split <;> rfl)⟩
    ·rintro i us U g ⟨l,z,d⟩;obtain⟨a,_,fv,neg,mag,e1,h5,kt,hM,O⟩:=(h.ext (I.trans l)).at g;cases e1;have hf:=DU g;have ke:=E _ hf;have ki:=hg _ hf;have kf:=fun m=>Um (B:=B) (m:=m) (L:=es) (fun e A=>⟨kh e A,by have:=hg e A m;exact Bn oo oo⟩) i oo;obtain⟨hw,kp,S,Z,h7,ha⟩:=(hV.ext l).at (i:=i) oo;rw[hd]at Z;cases Z;rw[h6 i g oo]at ha;have kn:=kk es[i].1;have kj:∀ m,En B m (es.take (i+1))=En B m (es.take i)+(((H7 es[i].1 B).getD m 0:Int):Rat) / (es[i].2:Rat):=fun m=>by rw[DA g,Sg]
     have kq:=A7m;generalize H7 es[i].1 B=th at *
     generalize es[i].2=o at *
     refine A7 ?_;refine .p (A0.ia) ?_;refine .p (rL h7) ?_;refine Nv ?_;refine .r rfl ?_;refine Nv ?_;refine St.sub (E':=[(47,.int .i64 i),(0,.slice (some a) es.length cap),(1,.int .i64 B),(12,.pointer (some ⟨w3.heap.size,0,none⟩)),(45,.slice (some hw) es.length J),(46,.int .i64 es.length),(14,.int .i64 i),(15,S)]) ?_ AL;refine sD 7 [(52,Is (.agg (AV us).toArray)),(53,Is S),(54,Is (.slice (some a) es.length cap)),(55,Is (.int .i64 i)),(56,Is (.pointer (some (a.add (3 * i))))),(57,Is (.pointer (some ((a.add (3 * i)).add 1)))),(58,Is (.agg #[neg,mag]))] ?_ ?_
     ·refine⟨?_,?_,?_,?_,?_,?_,?_,trivial⟩
      ·exact fun D f=>CD.run rfl rfl rfl rfl (A0.aA (cs:=AV us) Rc rfl rfl rfl (z.ext f) (by rw[d.bT];exact Ai _) (by rw[FE];exact Bs (by rw[d.bT];exact Ai _))) rfl
      ·exact fun D f=>oP
      ·exact fun D f=>oP
      ·exact fun D f=>oP
      ·rintro D f _ rfl _ rfl;exact CD.run rfl rfl rfl rfl (rK g) rfl
      ·rintro D f _ rfl;exact oP
      ·rintro D f _ rfl;refine CD.run rfl rfl rfl rfl (A0.aB (cs:=[neg,mag]) A8 rfl rfl rfl rfl (fun j c C=>f.cell ?_)) rfl;rw[Addr.add_add,FD];exact h5 (j+1) c C
     rintro w7 q hr V hs W _ rfl _ rfl _ rfl _ rfl ht X _;replace V:hr=.agg (AV us).toArray:=V;replace W:hs=S:=W;replace X:ht=.agg #[neg,mag]:=X;subst hr hs ht;refine .s (oK MT (A4b (d.ext q) (ha.ext q) oo ki (O.ext q) ke (fun m=>by have:=kf m;split <;> omega))) ?_;rintro _ w8 ⟨hq,vs,rfl,K⟩;have B8:=z.ext (q.trans hq);refine Af.step0 rfl rfl (Av.storeAll Rc rfl rfl rfl rfl K.bT d.bT K.ones B8) ?_;rintro _ w9 ⟨B9,hn,_⟩;replace B9:Aj 79 w9 w3.heap.size (AV vs):=B9;refine A7 ?_;refine Ad.aO vs AL ⟨(l.trans (q.trans hq)).aj hn AO,B9,(K.upd hn B8 de).congr (fun m=>?_)⟩;rw[kn];by_cases t:m<B.toNat+1
     ·rw[if_pos t,if_pos t,if_pos t,kj]
     ·rw[if_neg t,if_neg t,if_neg t]
    ·rintro us U ⟨l,z,d⟩;rw[D5]at d;refine Nv ?_;refine .a 2 (.int .i64 ((B.toNat+1:Nat):Int)) rfl (by rw[Ab oo oo];congr 1;omega) ?_;refine .s (Av.makeR (B.toNat+1) rfl rfl rfl rfl oo) ?_;rintro _ w7 ⟨rfl,B7,q,_⟩;refine Nv ?_;refine .r rfl ?_;refine Nv ?_;refine .r rfl ?_;refine .p (A0.eG Rc rfl rfl rfl) ?_;have hy:=z.ext q;have h9:(AV (us.take (B.toNat+1))).length=(B.toNat+1) * 4:=by rw[M8.flat (k:=4) (fun u hu=>d.1 u (HU hu)),EE,d.2.1,H8 oo,AQ]
     refine .s (Av.copyR (cs:=AV (us.take (B.toNat+1))) rfl rfl oo B7 (by rw[M8.flat (k:=4) (fun u hu=>by rw[BU hu];exact⟨GR.len,GR.ones⟩),He,AQ]) h9 (fun j c C=>?_) (fun c hc=>?_)) ?_
     ·rw[Ak,AE];refine hy.cell ?_;rw[Mo us (B.toNat+1),BM (Au.1 C).1];exact C
     ·refine d.ones c ?_;rw[Mo us (B.toNat+1)];exact List.mem_append_left _ hc
     rintro _ w8 ⟨B8,hk⟩;refine A7 ?_;have n:(us.take (B.toNat+1)).length=B.toNat+1:=by rw[EE,d.2.1];omega
     refine Ad.aC A8 [_,_] rfl ⟨rfl,rfl,trivial⟩ ⟨(I.trans l).trans (q.aj hk AO),_,rfl,fun _=>⟨us.take (B.toNat+1),⟨fun u hu=>d.1 u (HU hu),.inr ⟨_,B.toNat+1,[],by rw[n],(I.trans l).size,by rw[D7];exact B8,by rw[n];simp;omega,by omega,by unfold maxLen;omega⟩⟩,?_⟩,fun e=>absurd rfl e⟩;exact A67 ((d.ext q).upd hk B7 de) h1 (fun m t=>if_pos t)
  ·refine Nv ?_;refine .a 11 (.bool true) rfl (by simp[y]) ?_;refine A7 ?_;refine .ct ?_;exact Ad.aC A8 [_,_] rfl ⟨rfl,rfl,trivial⟩ ⟨I,_,rfl,fun e=>absurd e y,fun _=>rfl⟩
 ·have F:ML B b es=31:=by unfold ML;rw[if_neg H,if_neg E]
  rw[F];obtain rfl:=h3 E;refine A7 ?_;refine Af.bn rfl rfl (fun _=>rfl) GR ?_;intro b8 w2 h4 Q B8;refine A7 ?_;refine .ct ?_;exact Ad.aC A8 [_,_] rfl ⟨rfl,rfl,trivial⟩ ⟨hp.trans Q,_,rfl,fun e=>by (cases e),fun _=>rfl⟩
def Kf (B:Int) (es:List FV):List Rat:=(List.range (B.toNat+1)).map (fun m=>En B m es / Eb es)
theorem Rd:∀ {es:List FV},okO es->es≠[]->0<Eb es:=by
 have key:∀ (es:List FV) (s:Rat),okO es->0<=s->s<=es.foldl (fun s e=>s+(1:Rat) / (e.2:Rat)) s/\(es≠[]->s<es.foldl (fun s e=>s+(1:Rat) / (e.2:Rat)) s):=by
  intro es;induction es with
  | nil=>intro s _ _;exact⟨EQ,fun h=>absurd rfl h⟩
  | cons e t ih =>
   intro s h m;have q:=h e sm;have j:(0:Rat)<1 / (e.2:Rat):=by rw[DV,Kl];exact Q9.2 (U9.2 oo)
   have d:s<s+1 / (e.2:Rat):=by have:=(Rat.add_lt_add_left (c:=s)).2 j;rwa [Rat.add_zero]at this
   have k:=(ih (s+1 / (e.2:Rat)) (fun x o=>h x (HW _ o)) (Ga m (Bz d))).1;have g:s<(e::t).foldl (fun s e=>s+(1:Rat) / (e.2:Rat)) s:=O0.1 (fun h=>O0.2 d (Ga k h));exact⟨Bz g,fun _=>g⟩
 intro es h l;exact (key es 0 h EQ).2 l
theorem A2U {w:World}{f:Nat->Rat}(k:us.length=B.toNat+1) (h:∀ (j:Nat) (u:Value),us[j]?=some u->Bk 0 w u (f j)) (g:∀ j,j<B.toNat+1->f j=En B j es / Eb es):Lz w us (Kf B es):=by refine⟨by simp[Kf,k],fun i u q hu d=>?_⟩;have c:=(Au.1 d).1;simp[Kf]at c;have e:=h i u hu;simp[Kf,c]at d;rw[<- d,<- g i c];exact e
theorem A68 {w:World}(h:Lz w us (Kb B es)):us.length=B.toNat+1/\∀ (j:Nat) (u:Value),us[j]?=some u->Bk 0 w u (En B j es):=by have c:=h.1;simp[Kb]at c;refine⟨c,fun j u hu=>?_⟩;have d:=(Au.1 hu).1;exact h.2 j u _ hu (by unfold Kb;rw[J7,List.getElem?_range oo];rfl)
theorem Si {w:World}{b:Int}(h:Ke w cv es) (t:es.length<=1000) (c:Ox B b es=0) (z:es≠[]):(∀ m,rz (En B m es)<=30000)/\rz (Eb es)<=30000/\B.toNat<=1000:=by
 have j:∀ e ∈ es,sz e.2<=20:=fun e d=>by obtain⟨i,u⟩:=Cx.1 d;obtain⟨y,e1⟩:=Au.1 u;obtain⟨_,_,_,_,_,_,_,_,_,q⟩:=h.at y;rw[<- e1];exact q.sz
 have v:¬ 64<es.length:=fun r=>by unfold Ox at c;rw[if_pos r]at c;cases c
 have g:=Ra (show WH B b es=0 by unfold Ox at c;rwa [if_neg v]at c);have k:=R9 j es.length AO;rw[D5]at k;have o:=(R6 (g _ (DU (show 0<es.length from List.length_pos_iff.2 z)))).2.1;refine⟨fun m=>?_,by omega,by have:=o.2.1;omega⟩;have l:=Um (B:=B) (m:=m) (L:=es) (fun e d=>⟨j e d,by have:=Kc (g e d) m;exact Bn oo oo⟩) es.length AO;rw[D5]at l;omega
theorem W4 {b:Int}(h:ML B b es=0):es≠[]/\okO es/\Ox B b es=0:=by
 unfold ML at h;split at h
 ·cases h
 ·rename_i c;split at h
  ·rename_i d;exact⟨fun e=>c (by rw[e];rfl),d,h⟩
  ·cases h
theorem A2b {w:World}{b:Int}(h:Ke w cv es) (Y:∀ e ∈ es,Lj e.1) (F:es.length<=1000) :
  Calls prog 28 #[cv,.int .i64 B,.int .i64 b] w (AJ fun x w'=>Ac w w'/\YS w.heap.size w' x es B b (Kf B es)):=by
 obtain⟨p,cap,e⟩:=h.len;subst e;unfold YS;refine cS func28 ntmps28 ?_;refine A7 ?_;refine .s (oK Qe (Rb h Y F)) ?_;rintro _ w1 ⟨H,tv,rfl,k0,k1⟩;refine .r rfl ?_;by_cases y:ML B b es=0
 ·obtain⟨us,N,E⟩:=k0 y;obtain⟨S,T,hf⟩:=W4 y;obtain⟨he,hq,hm⟩:=Si h F hf S;obtain⟨d,E⟩:=A68 E;have U:=Rd T S;obtain⟨g,cp,D,rfl,Q,M,O,P,ha⟩:=N.open (by intro e;rw[e]at d;simp at d);have ho:=M.lt;have m:=N.1;rw[y];rw[d]at O P ⊢;refine A7 ?_;refine .cf ?_;refine .s (oK Ut (W0 (h.ext H) F)) ?_;rintro _ w2 ⟨V,Z,_⟩;obtain⟨sv,rfl,q⟩:=Z T;refine .r rfl ?_;refine Af.bn rfl rfl (fun _=>rfl) q.1 ?_;intro b10 w3 hn W n;have I:=V.trans W;have hd:b10≠g:=by have:=V.size;omega
  refine A7 ?_;refine sG (30) (0) ((B.toNat+1)) (fun _:List Value=>[(8,.slice (some ⟨g,0,none⟩) (B.toNat+1) cp),(10,.pointer (some ⟨b10,0,none⟩)),(28,.slice (some ⟨g,0,none⟩) (B.toNat+1) cp),(29,.int .i64 ((B.toNat+1:Nat):Int))]) (fun i us w'=>Ac w w'/\M8 4 us/\us.length=B.toNat+1/\Aj 39 w' g (AV us++D)/\(∀ (j:Nat) (u:Value),us[j]?=some u->Bk 0 w' u (if j<i then En B j es / Eb es else En B j es))/\Aj 39 w' b10 sv.cells.toList/\Bk 0 w' sv (Eb es)) (us) ?_ ?_ ?_
  ·exact⟨H.trans I,m,d,M.ext I,fun j u hu=>by rw[if_neg oo];exact (E j u hu).ext I,n,q.ext W⟩
  ·rintro i us X R ⟨J,m,d,B4,C,n,q⟩;have hu:us[i]?=some (us[i]'oo):=by simp
   have z:=C i _ hu;rw[if_neg oo]at z;generalize us[i]'oo=u at hu z;have hp:=he i;have hb:∀ (j:Nat) (c:Value),u.cells.toList[j]?=some c->X.cell? ((Addr.add ⟨g,0,none⟩ (4 * i)).add j)=some c:=fun j c l=>by rw[Addr.add_add,Ak,AE];refine B4.cell ?_;have:=Lv m hu l;rw[BM (Au.1 this).1];exact this
   have hc:(AV us).length=4 * (B.toNat+1):=by rw[m.flat,d]
   refine A7 ?_;refine St.sub (E':=[(30,.int .i64 i),(8,.slice (some ⟨g,0,none⟩) (B.toNat+1) cp),(10,.pointer (some ⟨b10,0,none⟩)),(28,.slice (some ⟨g,0,none⟩) (B.toNat+1) cp),(29,.int .i64 ((B.toNat+1:Nat):Int)),(12,.int .i64 i)]) ?_ AL;refine sD 8 [(33,Is (.slice (some ⟨g,0,none⟩) (B.toNat+1) cp)),(34,Is (.int .i64 i)),(35,Is (.slice (some ⟨g,0,none⟩) (B.toNat+1) cp)),(36,Is (.int .i64 i)),(37,Is (.pointer (some (Addr.add ⟨g,0,none⟩ (4 * i))))),(38,Is u),(39,Is sv),(40,fun v w'=>Bk 0 w' v (En B i es / Eb es))] ?_ ?_
   ·refine⟨?_,?_,?_,?_,?_,?_,?_,?_,trivial⟩
    ·exact fun o k=>oP
    ·exact fun o k=>oP
    ·exact fun o k=>oP
    ·exact fun o k=>oP
    ·rintro o k _ rfl _ rfl;exact CD.run rfl rfl rfl rfl (rK R) rfl
    ·rintro o k _ rfl;exact CD.run rfl rfl rfl rfl (A0.aB (cs:=u.cells.toList) A8 rfl rfl rfl (by rw[z.1.len]) (fun j c l=>k.cell (hb j c l))) (show Value.agg u.cells.toList.toArray=u by simpa using z.1.agg.symm)
    ·exact fun o k=>CD.run rfl rfl rfl rfl (rR (n.ext k) q.1) rfl
    ·rintro o k v1 e1 v2 e2;replace e1:v1=u:=e1;replace e2:v2=sv:=e2;subst v1 v2;refine oC Pd (PO ((z.ext k).dnS oo) ((q.ext k).dnS oo) oo oo (fun e=>by rw[e]at U;exact Q0 U)) ?_;rintro v w' ⟨G,hv⟩;exact⟨G,hv⟩
   rintro w5 f _ rfl _ rfl _ rfl _ rfl _ rfl hr hh hs hk v hv _;have A:=B4.ext f;refine .p (rK R) ?_;simp only[Ak,AE];refine Af.step0 rfl rfl (Av.store A8 (vs:=v.cells.toList) rfl rfl rfl rfl hv.1.len A (by rw[Bf,hv.1.len,hc];omega) hv.1.ones) ?_;rintro _ w6 ⟨K,t⟩;rw[L7 us D i v (fun x G=>(m x G).1) oo hv.1.len]at K;refine A7 ?_;refine Ad.aO (us.set i v) AL ⟨(J.trans f).aj t Q,m.set ⟨hv.1.len,hv.1.ones⟩,by rw[EP];exact d,K,fun j x l=>?_,(n.ext f).upd t hd,(q.ext f).upd t A de⟩;by_cases e:i=j
   ·subst e;rw[Bx oo]at l;cases l;rw[if_pos oo];exact hv.upd t A de
   ·rw[Ce e]at l;have:=((C j x l).ext f).upd t A de;by_cases L:j<i
    ·rw[if_pos L]at this;rw[if_pos oo];exact this
    ·rw[if_neg L]at this;rw[if_neg oo];exact this
  ·rintro us X ⟨J,m,d,B4,C,_,_⟩;refine A7 ?_;exact Ad.aC A8 [_,_] rfl ⟨rfl,rfl,trivial⟩ ⟨J,_,rfl,fun _=>⟨us,⟨m,.inr ⟨g,cp,D,by rw[d],Q,B4,by rw[d];exact O,by rw[d];exact P,ha⟩⟩,A2U d C (fun j l=>by rw[if_pos l])⟩,fun e=>absurd rfl e⟩
 ·obtain rfl:=k1 y;refine Nv ?_;refine .a 11 (.bool true) rfl (by simp[y]) ?_;refine A7 ?_;refine .ct ?_;exact Ad.aC A8 [_,_] rfl ⟨rfl,rfl,trivial⟩ ⟨H,_,rfl,fun e=>absurd e y,fun _=>rfl⟩
theorem JQ {w:World}{cv:Value}{es:List FV}{B b:Int}(h:Ke w cv es) (hc:∀ e ∈ es,e.1.length<=1000000) (C:es.length<=1000) :
  Calls prog 11 #[cv,.int .i64 B,.int .i64 b] w (AJ fun x w'=>Ac w w'/\YS w.heap.size w' x es B b (Kf B es)):=by
 obtain⟨p,cap,e⟩:=h.len;subst e;unfold YS;refine Sj (args:=[_,_,_]) func11 rfl ntmps11 rfl ?_;refine A7 ?_;refine .s (Av.call I3 rfl (NK h hc C)) ?_;rintro _ w1 ⟨E,tv,rfl,k0,k1⟩;refine .r rfl ?_;by_cases y:ML B b es=0
 ·obtain⟨us,K,t⟩:=k0 y;obtain⟨R,S,hh⟩:=W4 y;obtain⟨he,hp,hk⟩:=Si h C hh R;obtain⟨d,t⟩:=A68 t;have T:=Rd S R;obtain⟨g,cp,D,rfl,P,J,M,N,Z⟩:=K.open (by intro e;rw[e]at d;simp at d);have hn:=J.lt;have m:=K.1;rw[y];rw[d]at M N ⊢;refine A7 ?_;refine .cf ?_;refine .s (Av.call JR rfl (Sh (h.ext E) C)) ?_;rintro _ w2 ⟨U,Y,_⟩;obtain⟨sv,rfl,o⟩:=Y S;refine .r rfl ?_;refine Af.bn rfl rfl (fun _=>rfl) o.1 ?_;intro b10 w3 hm V z;have F:=U.trans V;have hd:b10≠g:=by have:=U.size;omega
  refine A7 ?_;refine St.rngG A8 (30) (0) ((B.toNat+1)) oo (fun _:List Value=>[(8,.slice (some ⟨g,0,none⟩) (B.toNat+1) cp),(10,.pointer (some ⟨b10,0,none⟩)),(28,.slice (some ⟨g,0,none⟩) (B.toNat+1) cp),(29,.int .i64 ((B.toNat+1:Nat):Int))]) (fun i us w'=>Ac w w'/\M8 4 us/\us.length=B.toNat+1/\Aj 39 w' g (AV us++D)/\(∀ (j:Nat) (u:Value),us[j]?=some u->Bk 0 w' u (if j<i then En B j es / Eb es else En B j es))/\Aj 39 w' b10 sv.cells.toList/\Bk 0 w' sv (Eb es)) (us) AL ?_ (fun _ _=>⟨rfl,rfl⟩) (fun _ _=>rfl) (fun _ _=>⟨rfl,rfl⟩) (fun _=>rfl) (fun _=>rfl) oo ?_ ?_
  ·exact⟨E.trans F,m,d,J.ext F,fun j u hu=>by rw[if_neg oo];exact (t j u hu).ext F,z,o.ext V⟩
  ·rintro i us W Q ⟨G,m,d,B4,A,z,o⟩;have hu:us[i]?=some (us[i]'oo):=by simp
   have q:=A i _ hu;rw[if_neg oo]at q;generalize us[i]'oo=u at hu q;have ho:=he i;have ha:∀ (j:Nat) (c:Value),u.cells.toList[j]?=some c->W.cell? ((Addr.add ⟨g,0,none⟩ (4 * i)).add j)=some c:=fun j c l=>by rw[Addr.add_add,Ak,AE];refine B4.cell ?_;have:=Lv m hu l;rw[BM (Au.1 this).1];exact this
   have hb:(AV us).length=4 * (B.toNat+1):=by rw[m.flat,d]
   refine A7 ?_;refine St.sub (E':=[(30,.int .i64 i),(8,.slice (some ⟨g,0,none⟩) (B.toNat+1) cp),(10,.pointer (some ⟨b10,0,none⟩)),(28,.slice (some ⟨g,0,none⟩) (B.toNat+1) cp),(29,.int .i64 ((B.toNat+1:Nat):Int)),(12,.int .i64 i)]) ?_ AL;refine St.any Dv rfl ?_;intro X k _ _;refine WA.takes (fuel:=9) A8 kr (fun _ _ _ _ _ h=>h) [0,1,2,3] kr rfl ?_;refine WA.take 4 rfl rfl kr kr kr (fun _ _ _ h=>h) rfl rfl (fun w=>A0.bL A8 rfl rfl rfl rfl rfl rfl Q) ?_;simp only[Ak,AE];have O:∀ (j:Nat) (c:Value),u.cells.toList[j]?=some c->X.cell? ((⟨g,4 * i,none⟩:Addr).add j)=some c:=fun j c l=>by have:=k.cell (ha j c l);rw[Ak,AE]at this;exact this
   have L:Value.agg u.cells.toList.toArray=u:=by simpa using q.1.agg.symm
   refine WA.meet 6 #[true,true,true,true,true,true,true,false,false,false,false,false,false] (fun _:Unit=>[(30,.int .i64 i),(8,.slice (some ⟨g,0,none⟩) (B.toNat+1) cp),(10,.pointer (some ⟨b10,0,none⟩)),(28,.slice (some ⟨g,0,none⟩) (B.toNat+1) cp),(29,.int .i64 ((B.toNat+1:Nat):Int)),(34,.slice (some ⟨g,0,none⟩) (B.toNat+1) cp),(35,.int .i64 i),(39,u),(40,sv)]) (fun _ w'=>w'=X) ?_ ?_;rotate_left
   ·intro meet;refine WA.two (i:=5) (j:=6) kr ?_ ?_
    ·refine Ed.val rfl rfl rfl rfl (A0.aB (cs:=u.cells.toList) A8 rfl rfl rfl (by rw[q.1.len]) O).op ?_;rintro _ _ ⟨rfl,rfl⟩;rw[L];refine WA.one (i:=6) kr (Ed.val rfl rfl rfl rfl (A0.loadR rfl rfl (z.ext k) o.1).op ?_);rintro _ _ ⟨rfl,rfl⟩;exact meet () _ _ _ kr rfl AL
    ·refine Ed.val rfl rfl rfl rfl (A0.loadR rfl rfl (z.ext k) o.1).op ?_;rintro _ _ ⟨rfl,rfl⟩;refine WA.one (i:=5) kr (Ed.val rfl rfl rfl rfl (A0.aB (cs:=u.cells.toList) A8 rfl rfl rfl (by rw[q.1.len]) O).op ?_);rintro _ _ ⟨rfl,rfl⟩;rw[L];exact meet () _ _ _ kr rfl AL
   rintro _ _ rfl;refine WA.one (i:=7) kr (Ed.val rfl rfl rfl rfl (Av.call SX rfl (A3v ((q.ext k).dn oo) ((o.ext k).dn oo) oo oo)) ?_);rintro _ hq ⟨hf,t⟩;obtain⟨v,rfl,hv⟩:=t.2 (fun e=>by rw[e]at T;exact Q0 T);replace k:=k.trans hf;refine WA.takes (fuel:=2) A8 kr (fun _ _ _ _ _ h=>h) [8,9,10] kr rfl ?_;refine WA.take 11 rfl rfl kr kr kr (fun _ _ _ h=>h) rfl rfl (fun w=>A0.bL A8 rfl rfl rfl rfl rfl rfl Q) ?_;simp only[Ak,AE];have n:=B4.ext k;refine WA.one (i:=12) kr (Ed.eff rfl rfl rfl (Av.store A8 (vs:=v.cells.toList) rfl rfl rfl rfl hv.1.len n (by rw[Bf,hv.1.len,hb];omega) hv.1.ones) ?_);rintro _ w6 ⟨H,f⟩;rw[L7 us D i v (fun x hx=>(m x hx).1) oo hv.1.len]at H;refine WA.done kr ?_;refine Nv ?_;refine Ad.aO (us.set i v) AL ⟨(G.trans k).aj f P,m.set ⟨hv.1.len,hv.1.ones⟩,by rw[EP];exact d,H,fun j x l=>?_,(z.ext k).upd f hd,(o.ext k).upd f n de⟩;by_cases e:i=j
   ·subst e;rw[Bx oo]at l;cases l;rw[if_pos oo];exact hv.upd f n de
   ·rw[Ce e]at l;have:=((A j x l).ext k).upd f n de;by_cases I:j<i
    ·rw[if_pos I]at this;rw[if_pos oo];exact this
    ·rw[if_neg I]at this;rw[if_neg oo];exact this
  ·rintro us W ⟨G,m,d,B4,A,_,_⟩;refine A7 ?_;exact Ad.aC A8 [_,_] rfl ⟨rfl,rfl,trivial⟩ ⟨G,_,rfl,fun _=>⟨us,⟨m,.inr ⟨g,cp,D,by rw[d],P,B4,by rw[d];exact M,by rw[d];exact N,Z⟩⟩,A2U d A (fun j l=>by rw[if_pos l])⟩,fun e=>absurd rfl e⟩
 ·obtain rfl:=k1 y;refine Nv ?_;refine .a 11 (.bool true) rfl (by simp[y]) ?_;refine A7 ?_;refine .ct ?_;exact Ad.aC A8 [_,_] rfl ⟨rfl,rfl,trivial⟩ ⟨E,_,rfl,fun e=>absurd e y,fun _=>rfl⟩
def m2:List (List Int):=[[1,0],[0,1]]
theorem A8C:BQ 2 (ent m2):=by
 refine⟨?_,?_,?_,?_,?_⟩
 ·intro p q;match p,q with
  | 0,0=>rfl
  | 0,1=>rfl
  | 1,0=>rfl
  | 1,1=>rfl
  | 0,q+2=>rfl
  | 1,q+2=>rfl
  | p+2,0=>rfl
  | p+2,1=>rfl
  | p+2,q+2=>rfl
 ·intro m c;match m,c with
  | 0,_=>decide +kernel
  | 1,_=>decide +kernel
  | 2,_=>decide +kernel
 ·decide +kernel
 ·intro i j g k;obtain⟨rfl,rfl⟩:i=1/\j=0:=by omega
  unfold Ok;decide +kernel
 ·intro i d e;obtain rfl:i=1:=by omega
  unfold Ww;decide +kernel
theorem A8D:Ie m2:=Vp A8C oo oo
theorem A9i:P7 (ent m2) 2 2 2 []<=1000:=by decide +kernel
theorem A9j:H7 m2 2=[1,4,4]:=by decide +kernel
theorem A9k:OH m2 2 1000=0:=by have h:=A9i;have c:Lx 2 1000:=⟨by omega,by omega,by omega,by omega⟩;unfold OH;rw[if_pos A8D,if_pos c,if_neg (by show ¬ (1000:Int)<P7 (ent m2) 2 2 2 [];omega)]
def e2:List FV:=[(m2,8)]
theorem A69:ML 2 1000 e2=0:=by
 have d:okO e2:=by intro e c;rw[Du.1 c];decide
 unfold ML;rw[if_neg de,if_pos d];unfold Ox;rw[if_neg de];unfold e2 WH;rw[if_pos A9k];rfl
theorem A2c (m:Nat):En 2 m e2 / Eb e2=(([1,4,4]:List Int).getD m 0:Rat):=by have e:En 2 m e2=0+(((H7 m2 2).getD m 0:Int):Rat) / ((8:Int):Rat):=rfl;have e':Eb e2=0+1 / ((8:Int):Rat):=rfl;rw[e,e',A9j,Q3,Q3];rw[DV,DV,DV,Kl,Rat.inv_inv,NZ,Rat.inv_mul_cancel _ de,Rat.mul_one]
theorem A8E:Kf 2 e2=[((1:Int):Rat),((4:Int):Rat),((4:Int):Rat)]:=by show [En 2 0 e2 / Eb e2,En 2 1 e2 / Eb e2,En 2 2 e2 / Eb e2]=_;rw[A2c,A2c,A2c];rfl
theorem A7O:rz ((1:Int):Rat)<=1000/\rz ((4:Int):Rat)<=1000:=by decide +kernel
theorem A6a:A6P ((1:Int):Rat)=[49]/\A6P ((4:Int):Rat)=[52]:=by decide +kernel
theorem A8F {w:World}{b b0 b1:Nat}{e0 e1 e:TypeId}(j:Aj e0 w b0 [.int .i64 1,.int .i64 0]) (k:Aj e1 w b1 [.int .i64 0,.int .i64 1]) (h:Aj e w b [.slice (some ⟨b0,0,none⟩) 2 2,.slice (some ⟨b1,0,none⟩) 2 2]):Ft w (.slice (some ⟨b,0,none⟩) 2 2) m2:=by
 refine⟨[.slice (some ⟨b0,0,none⟩) 2 2,.slice (some ⟨b1,0,none⟩) 2 2],⟨some ⟨b,0,none⟩,2,rfl,Ai _,fun e=>(by cases e),?_⟩,rfl,?_⟩
 ·rintro a l i c m;cases l;rw[Ak,AE];exact h.cell m
 ·intro i r row d g;match i with
  | 0=>simp[m2]at d g;subst d g;exact A2M (xs:=[1,0]) j
  | 1=>simp[m2]at d g;subst d g;exact A2M (xs:=[0,1]) k
  | i+2=>simp at d
theorem Eo (w:World):Calls prog 12 #[] w (AJ fun r w'=>Ac w w'/\r=.bool true):=by
 refine cS func12 ntmps12 ?_;refine A7 ?_;refine .s (Av.pair A8 rfl rfl rfl rfl rfl) ?_;rintro _ w1 ⟨rfl,B1,T,_⟩;refine .s (Av.pair A8 rfl rfl rfl rfl rfl) ?_;rintro _ w2 ⟨rfl,B2,B,_⟩;refine .s (Av.pairV A8 rfl rfl rfl rfl rfl) ?_;rintro _ w3 ⟨rfl,B3,b,_⟩;have J:=A8F ((B1.ext B).ext b) (B2.ext b) B3;have R:=(T.trans B).trans b;refine .s (oK AW (Ba (base:=0) w3 8 oo oo BI)) ?_;rintro v X ⟨C,hv⟩;have Q:=hv;obtain⟨q,c,rfl,_⟩:=Q;refine .p (rB) ?_;refine .s (Av.dJ rfl rfl rfl rfl rfl rfl) ?_;rintro _ D ⟨rfl,B5,f,_⟩;have A:Tt D _ (m2,8):=⟨_,_,_,rfl,⟨rfl,rfl⟩,⟨rfl,rfl⟩,J.ext (C.trans f),(hv.ext f).dnE (by have:=Bn (a:=8) oo oo;omega)⟩;have I:Ke D (.slice (some ⟨X.heap.size,0,none⟩) 1 1) e2:=by
  refine⟨[_],Lw B5,A.k3,rfl,fun i u e hu z=>?_⟩;match i with
  | 0=>cases hu;cases z;exact A
  | i+1=>simp at hu
 refine .s (oK Dp (JQ I (fun e z=>by rw[Du.1 z];decide) de)) ?_;rintro _ x ⟨U,l,rfl,k0,_⟩;obtain⟨us,d,k⟩:=k0 A69;rw[A69];rw[A8E]at k;replace d:=d.mono BI;obtain⟨a,cap,u0,cs0,rfl,m,F,N,K⟩:=Kd d k (i:=0) de;obtain⟨a',cap',u1,cs1,e1,o,G,O,L⟩:=Kd d k (i:=1) de;cases e1;obtain⟨a',cap',u2,E,e1,y,H,P,M⟩:=Kd d k (i:=2) de;cases e1;replace m:Bk 0 x u0 ((1:Int):Rat):=m;replace o:Bk 0 x u1 ((4:Int):Rat):=o;replace y:Bk 0 x u2 ((4:Int):Rat):=y;obtain⟨z1,z4⟩:=A7O;obtain⟨f1,g⟩:=A6a;have S:=(R.trans (C.trans f)).trans U;refine A7 ?_;refine .p (A0.bL (j:=0) A8 rfl rfl rfl rfl rfl rfl de) ?_;refine .p (A0.aB (cs:=cs0) A8 rfl rfl rfl (by rw[N]) K) ?_;rw[<- F];refine .s (oK ET (JF (m.dn oo))) ?_;rintro _ Y ⟨n,rfl⟩;refine .p (A0.cJ (bs:=[49]) (by rw[f1];exact Ng _ rfl) (Ng _ rfl) rfl rfl f1) ?_;refine .r rfl ?_;refine .p (A0.bL (j:=1) A8 rfl rfl rfl rfl rfl rfl de) ?_;refine .p (A0.aB (cs:=cs1) A8 rfl rfl rfl (by rw[O]) (fun j c t=>n.cell (L j c t))) ?_;rw[<- G];refine .s (oK ET (JF ((o.ext n).dn oo))) ?_;rintro _ Z ⟨V,rfl⟩;have h:=n.trans V;refine .p (A0.cJ (bs:=[52]) (by rw[g];exact Ng _ rfl) (Ng _ rfl) rfl rfl g) ?_;refine .r rfl ?_;refine .p (A0.bL (j:=2) A8 rfl rfl rfl rfl rfl rfl de) ?_;refine .p (A0.aB (cs:=E) A8 rfl rfl rfl (by rw[P]) (fun j c t=>h.cell (M j c t))) ?_;rw[<- H];refine .s (oK ET (JF ((y.ext h).dn oo))) ?_;rintro _ w9 ⟨W,rfl⟩;refine .p (A0.cJ (bs:=[52]) (by rw[g];exact Ng _ rfl) (Ng _ rfl) rfl rfl g) ?_;refine A7 ?_;exact Ad.ax rfl rfl ⟨(S.trans h).trans W,rfl⟩
theorem A44.len {w:World}{v:Value}(h:A44 w v es):∃ p cap,v=.slice p es.length cap:=by obtain⟨us,⟨p,cap,c,_⟩,_,d,_⟩:=h;exact⟨p,cap,by rw[c,d]⟩
def SmE (w:World) (u:Value) (e:FV):Prop:=Tt w u e/\e.1.length<=6/\(∀ j,(e.1.getD j []).length<=6)
theorem W5 {w:World}{v:Value}(h:A44 w v es) :
  Calls prog 21 #[v] w (AJ fun x w'=>Ac w w'/\∃ b,x=.bool b/\(b=false->Ke w v es/\es.length<=70/\∀ e ∈ es,Lj e.1/\e.1.length<=6/\∀ j,(e.1.getD j []).length<=6)):=by
 obtain⟨p,cap,e⟩:=h.len;obtain⟨us,F,H,I,G⟩:=h;subst e;refine cS func21 ntmps21 ?_;refine Nv ?_;refine .r rfl ?_;refine Nv ?_;by_cases ha:es.length > 70
 ·refine .a 3 (.bool true) rfl (Aa oo) ?_;refine A7 ?_;refine .ct ?_;exact Ad.ax rfl rfl ⟨Ac.refl _,_,rfl,fun e=>by (cases e)⟩
 refine .a 3 (.bool false) rfl (A9 oo) ?_;refine A7 ?_;refine .cf ?_;refine H6 (12) (0) (es.length) [(0,.slice p es.length cap),(10,.slice p es.length cap),(11,.int .i64 es.length)] (fun i w'=>Ac w w'/\∀ j,j<i->∀ u e,us[j]?=some u->es[j]?=some e->SmE w u e) ?_ ?_ ?_
 ·exact⟨Ac.refl _,fun j l=>by omega⟩
 ·rintro i w1 g ⟨f,t⟩;have hu:us[i]?=some (us[i]'oo):=by simp
  have d:es[i]?=some es[i]:=by simp
  have J:=G i _ _ hu d;obtain⟨a,_,e1,O⟩:=(F.ext f).at H hu;rw[I]at e1;cases e1;have Q:SmE w (us[i]'oo) es[i]->∀ j,j<i+1->∀ u e,us[j]?=some u->es[j]?=some e->SmE w u e:=fun M j l u e D C=>by
   by_cases n:j=i
   ·subst n;rw[hu]at D;rw[d]at C;cases D;cases C;exact M
   ·exact t j oo u e D C
  generalize us[i]'oo=u at *
  generalize es[i]=e at *
  obtain⟨fv,neg,q,c2,xs,rfl,hf,B,E,T,R⟩:=J;have L:=B;obtain⟨pf,cf,rfl⟩:=L.len;refine A7 ?_;refine .p (rK g) ?_;refine .p (A0.aB (cs:=[.slice pf e.1.length cf,.bool neg,.slice q xs.length c2]) A8 rfl rfl rfl rfl (fun j c l=>by rw[Addr.add_add];exact O j c l)) ?_;refine .s (oA) ?_;rintro _ w2 ⟨rfl,B2,W,hc⟩;refine Af.step0 rfl rfl (Av.store A8 (vs:=[.slice pf e.1.length cf,.bool neg,.slice q xs.length c2]) rfl rfl rfl rfl rfl B2 (Ai 3) (by simp[Value.oneCell'])) ?_;rintro _ w3 ⟨B3,U⟩;replace B3:Aj 62 w3 w1.heap.size [.slice pf e.1.length cf,.bool neg,.slice q xs.length c2]:=B3;have V:Ac w1 w3:=W.aj U AO;have y:=f.trans V;refine Nv ?_;refine .r rfl ?_;refine Nv ?_;refine .r rfl ?_;refine .p (FX B3) ?_;by_cases Z:e.1.length > 6
  ·refine .a 2 (.bool true) rfl (Aa oo) ?_;refine A7 ?_;refine .ct ?_;exact Ad.ax rfl rfl ⟨y,_,rfl,fun e=>by (cases e)⟩
  refine .a 2 (.bool false) rfl (A9 oo) ?_;refine .r rfl ?_;refine .p (FX B3) ?_;by_cases Y:xs.length > 10
  ·refine .a 2 (.bool true) rfl (Aa oo) ?_;refine A7 ?_;refine .ct ?_;exact Ad.ax rfl rfl ⟨y,_,rfl,fun e=>by (cases e)⟩
  refine .a 2 (.bool false) rfl (A9 oo) ?_;have K:Tt w (.agg #[.slice pf e.1.length cf,.bool neg,.slice q xs.length c2]) e:=⟨_,_,_,rfl,⟨rfl,rfl⟩,⟨rfl,rfl⟩,B,neg,xs,⟨q,c2,rfl,T⟩,R.symm,by omega⟩;refine A7 ?_;refine .cF ?_;refine Nv ?_;refine .r rfl ?_;refine .p (FX B3) ?_;refine A7 ?_;refine H6 (30) (0) (e.1.length) [(12,.int .i64 i),(0,.slice (some a) es.length cap),(10,.slice (some a) es.length cap),(11,.int .i64 es.length),(28,.slice pf e.1.length cf),(29,.int .i64 e.1.length)] (fun j w'=>Ac w3 w'/\∀ k,k<j->(e.1.getD k []).length<=6) ?_ ?_ ?_
  ·exact⟨Ac.refl _,fun k o=>by omega⟩
  ·rintro j X l ⟨z,A⟩;obtain⟨b2,_,p3,c3,e3,N,hb⟩:=(B.ext (y.trans z)).row2 l;cases e3;generalize S:(e.1.getD j []).length=m at *
   refine A7 ?_;refine .p (A0.ia) ?_;refine .p (rL N) ?_;refine Nv ?_;refine .r rfl ?_;refine Nv ?_;by_cases h7:m > 6
   ·refine .a 3 (.bool true) rfl (Aa oo) ?_;refine A7 ?_;refine .ct ?_;exact Ad.ax rfl rfl ⟨y.trans z,_,rfl,fun e=>by (cases e)⟩
   refine .a 3 (.bool false) rfl (A9 oo) ?_;refine A7 ?_;refine .cF ?_;refine Nv ?_;refine Ad.rnd AL ⟨z,fun k o=>?_⟩;by_cases n:k=j
   ·rw[n,S];omega
   ·exact A k oo
  ·rintro X ⟨z,A⟩;refine A7 ?_;refine Ad.rnd AL ⟨y.trans z,Q ⟨K,by omega,fun k=>?_⟩⟩;rcases Dl k e.1.length with o | o
   ·exact A k o
   ·rw[Bd,BJ o];exact Cu _
 ·rintro w1 ⟨f,t⟩;refine A7 ?_;refine Ad.ax rfl rfl ⟨f,_,rfl,fun _=>⟨⟨us,F,H,I,fun i u e hu d=>(t i (Au.1 d).1 u e hu d).1⟩,by omega,fun e d=>?_⟩⟩;obtain⟨i,g⟩:=Cx.1 d;have P:=(Au.1 g).1;have hu:us[i]?=some (us[i]'oo):=by simp
  obtain⟨_,_,_,_,_,_,_,_,E,_⟩:=G i _ _ hu g;exact⟨E,(t i P _ _ hu g).2⟩
theorem A7n (w:World):Ft w (.slice none 0 0) []:=⟨[],⟨none,0,rfl,Ai _,fun _=>rfl,fun a c=>by cases c⟩,rfl,fun i r row d=>by simp at d⟩
theorem A6b {n:Int}(b:Bool) (c:-9223372036854775808<=n/\n<=9223372036854775807):A2a n b<=19:=by have d:=PQ c;have e:=PQ (n:=n.tmod 20+20) oo;unfold A2a;split <;> omega
theorem A2V {w:World}{x:Value}{b:Int}(h:R7 w x es B b):∃ v,x=.tuple #[v,.int .i64 (Ox B b es)]/\Ft w v (if Ox B b es=0 then OI B es else []):=by
 obtain⟨v,rfl,d,e⟩:=h;refine⟨v,rfl,?_⟩;by_cases c:Ox B b es=0
 ·rw[if_pos c];exact (d c).m64
 ·rw[if_neg c,e c];exact A7n w
theorem A7o {b:Int}(hB:B<=19) (c:es.length<=70):(if Ox B b es=0 then OI B es else []).length<=1000000/\∀ i,((if Ox B b es=0 then OI B es else []).getD i []).length<=1000000:=by
 split
 ·refine⟨by simp[OI];omega,fun i=>?_⟩;rw[Bd];unfold OI;rw[J7];cases es[i]? with
  | none=>exact Cu _
  | some e =>
   show (H7 e.1 B).length<=1000000;unfold H7;rw[El];omega
 ·exact⟨Cu _,fun i=>Cu _⟩
theorem A0x {fs:List FV}{made:Bool}(h:es.length<=70/\∀ e ∈ es,Lj e.1/\e.1.length<=6/\∀ j,(e.1.getD j []).length<=6) (d:made=false->fs=es) (g:made=true->fs.length<=4/\fs.length<=n/\A0n 3 fs):fs.length<=70/\∀ e ∈ fs,Lj e.1/\e.1.length<=1000000:=by
 cases made with
 | false =>
  rw[d rfl];exact⟨h.1,fun e c=>⟨(h.2 e c).1,by have:=(h.2 e c).2.1;omega⟩⟩
 | true =>
  obtain⟨k1,_,k2⟩:=g rfl;exact⟨by omega,fun e c=>⟨(k2 e c).2.2.1,by have:=(k2 e c).2.1;omega⟩⟩
theorem lawTheta (w:World) (cv:Value) (es:List FV) (f:A44 w cv es) (lv:Value) (ls:List Value) (h:NJ w lv ls) (made:Bool) (b:Int) (g:-9223372036854775808<=b/\b<=9223372036854775807) (n:Int) (W:-9223372036854775808<=n/\n<=9223372036854775807) (d limit:Bool) :
  Calls prog 5 #[cv,lv,.bool made,.int .i64 b,.int .i64 n,.bool d,.bool limit] w (AJ fun r w'=>Ac w w'/\r=.bool true):=by
 have hB:=A6b limit g;refine cS func5 ntmps5 ?_;refine A7 ?_;refine .s (oK Qc (W5 f)) ?_;rintro _ w1 ⟨c,S,rfl,G⟩;cases S with
 | true =>
  refine A7 ?_;refine .ct ?_;refine .s (oK Cq (Eo w1)) ?_;rintro _ w2 ⟨k,rfl⟩;refine A7 ?_;exact Ad.ax rfl rfl ⟨c.trans k,rfl⟩
 | false =>
  obtain⟨A,J⟩:=G rfl;refine A7 ?_;refine .cf ?_;refine .s (oK Sk (Xt made (A.ext c) (h.ext c))) ?_;rintro x w2 ⟨k,fs,l,H,I⟩;obtain⟨D,m⟩:=A0x J H I;have K:=c.trans k;refine A7 ?_;refine .s (oK G0 (Ip w2 b limit g)) ?_;rintro _ w3 ⟨q,rfl⟩;refine .r rfl ?_;refine .s (oK Fc (GX w3 n d)) ?_;rintro _ Y ⟨v,rfl⟩;refine .s (oK FZ (KE (l.ext (q.trans v)) (fun e j=>(m e j).2) oo)) ?_;rintro _ T ⟨N,i⟩;obtain⟨u,rfl,p⟩:=A2V i;have o:=(q.trans v).trans N;have L:=K.trans o;refine A7 ?_;refine .s (oK G0 (Ip T b limit g)) ?_;rintro _ U ⟨O,rfl⟩;refine .r rfl ?_;refine .s (oK Fc (GX U n d)) ?_;rintro _ Z ⟨P,rfl⟩;have z:=O.trans P;refine .s (oK Qd (R8 (l.ext (o.trans z)) (fun e j=>(m e j).1) oo)) ?_;rintro _ w8 ⟨Q,B⟩;obtain⟨y,rfl,C⟩:=A2V B;have t:=z.trans Q;obtain⟨E,F⟩:=A7o (es:=fs) (b:=if d then n else 100000) hB D;refine Nv ?_;refine .r rfl ?_;refine Nv ?_;refine .a 3 (.bool true) rfl sm ?_;refine .r rfl ?_;refine .s (oK SW (WK (p.ext t) C E F)) ?_;rintro _ V ⟨R,rfl⟩;refine .r rfl ?_;refine .s (oK Cq (Eo V)) ?_;rintro _ X ⟨M,rfl⟩;refine A7 ?_;exact Ad.ax rfl rfl ⟨((L.trans t).trans R).trans M,rfl⟩
theorem Xu (rest : List (List Char)) : stripLifts liftWords ("cut".toList :: rest) = ([], "cut".toList :: rest) := by kernel_rfl
theorem A9l : ("cut".toList == "gc".toList) = false := by kernel_rfl
theorem A7p : ("cut".toList == "spec".toList) = false := by kernel_rfl
theorem A2d : ("cut".toList == "carried".toList) = false := by kernel_rfl
theorem A6c : ("cut".toList == "cut".toList) = true := by kernel_rfl
section
variable {P : Program}{rest : List (List Char)}(h : behindMainWord (wordsSigns P.initOrder.toList) = "cut".toList :: rest)
include h
theorem A7q:P.make=some .cut:=by unfold Program.make;rw[h];simp only[A9l,A7p,A6c,Bool.or_self,Bool.true_or,if_true,Hg,if_false]
theorem A6d:P.headLifts=[]:=by unfold Program.headLifts;rw[h];simp only[Xu,ite_self]
theorem A6e:P.liftsFinal=false:=by unfold Program.liftsFinal;rw[A6d h];rw[h];simp only[List.head?_cons,Option.some_beq_some,A2d,Tx,List.contains_nil,Bool.or_false]
theorem A6f (c:P.laysLater=false) (d:P.bearsReflect=false) (e:P.doorFits []=true):P.mayEnter=true:=by unfold Program.mayEnter;rw[h];simp only[Xu,c,d,e,List.head?_cons,Option.some_beq_some,A6c,Bool.not_false,Bool.or_true,Bool.and_true,List.contains_nil]
end
theorem W6 {P : Program}(h : (behindMainWord (wordsSigns P.initOrder.toList)).head? = some "cut".toList) : ∃ rest, behindMainWord (wordsSigns P.initOrder.toList) = "cut".toList :: rest := by
 generalize behindMainWord (wordsSigns P.initOrder.toList)=ws at h;cases ws with
 | nil=>cases h
 | cons c r=>exact⟨r,by simp only[List.head?_cons,AP]at h;rw[h]⟩
theorem W7 : (behindMainWord (wordsSigns prog.initOrder.toList)).head? = some "cut".toList := by rw[show prog.initOrder.toList=_ from String.toList_ofList];kernel_rfl
theorem A7r:prog.laysLater=false:=by kernel_rfl
theorem A7s:prog.bearsReflect=false:=by kernel_rfl
theorem A8G:prog.doorFits []=true:=by kernel_rfl
theorem enterOk:prog.mayEnter=true:=by obtain⟨rest,h⟩:=W6 W7;exact A6f h A7r A7s A8G
theorem finalNo:prog.liftsFinal=false:=by obtain⟨rest,h⟩:=W6 W7;exact A6e h
theorem makeCut:prog.make=some .cut:=by obtain⟨rest,h⟩:=W6 W7;exact A7q h
variable {base:Nat}
theorem Rf {w:World}{x:Value}{b:Int}{g:List Rat}(h:YS base w x es B b g):∃ v us,x=.tuple #[v,.int .i64 (ML B b es)]/\Aq 4 39 0 w v us/\Lz w us (if ML B b es=0 then g else []):=by
 obtain⟨v,rfl,d,e⟩:=h;by_cases c:ML B b es=0
 ·obtain⟨us,j,k⟩:=d c;exact⟨v,us,rfl,j.mono BI,by rw[if_pos c];exact k⟩
 ·rw[e c];exact⟨_,[],rfl,Aq.nil,by rw[if_neg c];exact⟨rfl,fun i u q l=>by simp at l⟩⟩
theorem A8H {w:World}{b:Int}(h:Ke w cv es) (hB:B<=19) (g:es.length<=1000) :
  ((if ML B b es=0 then Kb B es else []).length<=1000000/\∀ q ∈ (if ML B b es=0 then Kb B es else []),rz q<=100000)/\((if ML B b es=0 then Kf B es else []).length<=1000000/\∀ q ∈ (if ML B b es=0 then Kf B es else []),rz q<=100000):=by
 by_cases d:ML B b es=0
 ·rw[if_pos d,if_pos d];obtain⟨j,_,k⟩:=W4 d;obtain⟨e,l,_⟩:=Si h g k j;refine⟨⟨by simp[Kb];omega,fun q c=>?_⟩,by simp[Kf];omega,fun q c=>?_⟩
  ·obtain⟨m,_,rfl⟩:=CG.1 c;have:=e m;omega
  ·obtain⟨m,_,rfl⟩:=CG.1 c;have k1:=e m;have k2:=V5 (Eb es);have k3:=V4 (En B m es) (Eb es)⁻¹;rw[DV];omega
 ·rw[if_neg d,if_neg d];exact⟨⟨Cu _,fun q c=>by cases c⟩,Cu _,fun q c=>by cases c⟩
theorem lawTotal (w:World) (cv:Value) (es:List FV) (D:A44 w cv es) (lv:Value) (ls:List Value) (F:NJ w lv ls) (made:Bool) (b:Int) (l:-9223372036854775808<=b/\b<=9223372036854775807) (n:Int) (hn:-9223372036854775808<=n/\n<=9223372036854775807) (k limit:Bool) :
  Calls prog 6 #[cv,lv,.bool made,.int .i64 b,.int .i64 n,.bool k,.bool limit] w (AJ fun r w'=>Ac w w'/\r=.bool true):=by
 have hB:=A6b limit l;refine cS func6 ntmps6 ?_;refine A7 ?_;refine .s (oK Qc (W5 D)) ?_;rintro _ w1 ⟨y,lg,rfl,R⟩;cases lg with
 | true =>
  refine A7 ?_;refine .ct ?_;refine .s (oK Cq (Eo w1)) ?_;rintro _ w2 ⟨f,rfl⟩;refine A7 ?_;exact Ad.ax rfl rfl ⟨y.trans f,rfl⟩
 | false =>
  obtain⟨I,W⟩:=R rfl;refine A7 ?_;refine .cf ?_;refine .s (oK Sk (Xt made (I.ext y) (F.ext y))) ?_;rintro x w2 ⟨f,fs,c,S,T⟩;obtain⟨ho,q⟩:=A0x W S T;have X:=y.trans f;have E:=c;refine A7 ?_;refine .s (oK G0 (Ip w2 b limit l)) ?_;rintro _ w3 ⟨hf,rfl⟩;refine .r rfl ?_;refine .s (oK Fc (GX w3 n k)) ?_;rintro _ w4 ⟨hg,rfl⟩;have p:=hf.trans hg;refine .s (oK I3 (NK (c.ext p) (fun e g=>(q e g).2) oo)) ?_;rintro _ w5 ⟨z,d⟩;obtain⟨u,us,rfl,G,H⟩:=Rf d;clear d;replace z:=p.trans z;replace c:=c.ext z;refine A7 ?_;refine .s (oK G0 (Ip w5 b limit l)) ?_;rintro _ w6 ⟨hh,rfl⟩;refine .r rfl ?_;refine .s (oK Fc (GX w6 n k)) ?_;rintro _ w7 ⟨hi,rfl⟩;have A:=hh.trans hi;refine .s (oK Qe (Rb (c.ext A) (fun e g=>(q e g).1) oo)) ?_;rintro _ w8 ⟨t,d⟩;obtain⟨v,vs,rfl,J,K⟩:=Rf d;clear d;replace t:=A.trans t;replace c:=c.ext t;refine A7 ?_;refine .s (oK G0 (Ip w8 b limit l)) ?_;rintro _ w9 ⟨hj,rfl⟩;refine .r rfl ?_;refine .s (oK Fc (GX w9 n k)) ?_;rintro _ hp ⟨Y,rfl⟩;have B:=hj.trans Y;refine .s (oK Dp (JQ (c.ext B) (fun e g=>(q e g).2) oo)) ?_;rintro _ hk ⟨m,d⟩;obtain⟨x1,xs,rfl,L,M⟩:=Rf d;clear d;replace m:=B.trans m;replace c:=c.ext m;refine A7 ?_;refine .s (oK G0 (Ip hk b limit l)) ?_;rintro _ hl ⟨Z,rfl⟩;refine .r rfl ?_;refine .s (oK Fc (GX hl n k)) ?_;rintro _ hq ⟨ha,rfl⟩;have i:=Z.trans ha;refine .s (oK Us (A2b (c.ext i) (fun e g=>(q e g).1) oo)) ?_;rintro _ hr ⟨j,d⟩;obtain⟨y1,ys,rfl,N,O⟩:=Rf d;clear d;replace j:=i.trans j;obtain⟨⟨P,U⟩,Q,V⟩:=A8H (b:=if k then n else 100000) E hB oo;have h:=t.trans (m.trans j);have C:=m.trans j;refine Nv ?_;refine .r rfl ?_;refine Nv ?_;refine .a 3 (.bool true) rfl sm ?_;refine .a 4 (.bool true) rfl sm ?_;refine .r rfl ?_;refine .s (oK Mq (Pa (G.ext h) (H.ext h) (J.ext C) (K.ext C) P U)) ?_;rintro _ hs ⟨o,rfl⟩;refine .r rfl ?_;refine .s (oK Mq (Pa ((L.ext j).ext o) ((M.ext j).ext o) (N.ext o) (O.ext o) Q V)) ?_;rintro _ hm ⟨hc,rfl⟩;refine .r rfl ?_;refine .s (oK Cq (Eo hm)) ?_;rintro _ ht ⟨hd,rfl⟩;refine A7 ?_;exact Ad.ax rfl rfl ⟨X.trans (z.trans (h.trans (o.trans (hc.trans hd)))),rfl⟩
variable {most:Nat}
theorem Nt.k4 {w:World}(h:Nt w u):M8 4 [u]:=by
 obtain⟨d,k,s1,s2,xs,rfl,_,_,l,m⟩:=h;obtain⟨p,c,e,_⟩:=l.1;subst e;intro x g;rw[Du]at g;subst g;refine⟨rfl,fun y j=>?_⟩;simp[Value.cells]at j;rcases j with rfl | rfl | rfl | rfl
 ·rfl
 ·rfl
 ·rfl
 ·exact m
theorem Nt.one {w:World}(h:Nt w u) (hB:Aj t w b u.cells.toList):NJ w (.slice (some ⟨b,0,none⟩) 1 1) [u] :=
 ⟨Lw hB,h.k4,fun x c=>by rw[Du.1 c];exact h⟩
theorem Uo (h:A0n most es):okO es:=fun e c=>(h e c).2.2.2
theorem NL (d:most<=8) (h:A0n most es):∀ e ∈ es,e.1.length<=1000000:=fun e c=>by have:=(h e c).2.1;omega
theorem A7t {b:Int}(h:A0n most es) (c:es.length=1) (hB:¬ (0<=B/\B<=1000)):Ox B b es=1:=by
 match es,c with
 | [e],_ =>
  have d:=(h e sm).1;have g:OH e.1 B b=1:=by unfold OH;rw[if_pos d,if_neg (fun h=>hB ⟨h.1,h.2.1⟩)]
  unfold Ox;rw[if_neg sm];unfold WH;rw[g,if_neg oo]
theorem lawLimits39 (w:World) (v:Value) (q:Nt w v) (n:Int) (M:-9223372036854775808<=n/\n<=9223372036854775807) :
  Calls prog 7 #[v,.int .i64 n] w (AJ fun r w'=>Ac w w'/\r=.bool true):=by
 obtain⟨a0,a1,a2,a3,rfl⟩:=q.agg;refine cS func7 ntmps7 ?_;refine Nv ?_;refine .s (oB) ?_;rintro _ w1 ⟨rfl,B1,h,P⟩;refine A7 ?_;refine .p (A0.aA A8 (cs:=[a0,a1,a2,a3]) rfl rfl rfl B1 (Ai 4) rfl) ?_;refine .s (Av.bV rfl rfl rfl rfl rfl rfl) ?_;rintro _ w2 ⟨rfl,B2,i,_⟩;have A:=((q.ext h).ext i).one B2;have D:=h.trans i;refine .s (oK CK (Gm (most:=2) A oo)) ?_;rintro x w3 ⟨F,es,l,_,z,j⟩;have f:=D.trans F;obtain⟨p,cap,rfl⟩:=l.len;replace z:es.length<=1:=z;have o:∀ w',Ac w w'->Calls prog 12 #[] w' (AJ fun r w2=>Ac w w2/\r=.bool true):=fun w' C=>(Eo w').mono (fun e w2 ⟨v,e,c,d⟩=>⟨v,e,C.trans c,d⟩);refine .r rfl ?_;refine Af.nil (Ad.ak ?_);refine St.seq ?_;refine St.cut (fun g:Bool=>[(23,.bool g),(5,.slice p es.length cap),(1,.int .i64 n)]) (fun g w'=>w'=w3/\(g=false->es.length=1/\¬ (0<=n/\n<=1000))) ?_ ?_
 ·refine Nv ?_;by_cases c:es.length=1
  ·refine .a 3 (.bool false) rfl (by rw[c];rfl) ?_;by_cases N:n<0
   ·refine .a 3 (.bool false) rfl (A9 oo) ?_;refine .r rfl ?_;refine Af.nil ?_;exact Ad.met false AL ⟨rfl,fun _=>⟨c,by omega⟩⟩
   ·refine .a 3 (.bool true) rfl (Aa oo) ?_;by_cases d:n<=1000
    ·refine .a 3 (.bool true) rfl (Aa d) ?_;refine .r rfl ?_;refine Af.nil ?_;exact Ad.met true AL ⟨rfl,fun e=>by cases e⟩
    ·refine .a 3 (.bool false) rfl (A9 d) ?_;refine .r rfl ?_;refine Af.nil ?_;exact Ad.met false AL ⟨rfl,fun _=>⟨c,by omega⟩⟩
  ·refine .a 3 (.bool true) rfl (by simp;omega) ?_;refine .r rfl ?_;refine Af.nil ?_;exact Ad.met true AL ⟨rfl,fun e=>by cases e⟩
 rintro g L ⟨O,B⟩;subst L;cases g with
 | true =>
  refine Nv ?_;refine .ct ?_;refine .s (oK Cq (o w3 f)) ?_;rintro _ J ⟨k,rfl⟩;refine A7 ?_;exact Ad.ax rfl rfl ⟨k,rfl⟩
 | false =>
  obtain⟨c,hB⟩:=B rfl;have m:=A7t (b:=100000) j c hB;refine Nv ?_;refine .cf ?_;refine .s (oK FZ (KE l (NL oo j) oo)) ?_;rintro _ J ⟨k,u,rfl,_,hu⟩;obtain rfl:=hu (by rw[m];decide);rw[m];have E:=f.trans k;refine A7 ?_;refine .s (oK Dp (JQ (l.ext k) (NL oo j) oo)) ?_;rintro _ K ⟨G,y,rfl,_,I⟩;have t:ML n 100000 es=1:=by unfold ML;rw[if_neg oo,if_pos (Uo j),m]
  obtain rfl:=I (by rw[t];decide);rw[t];refine A7 ?_;refine .s (oK Cq (o K (E.trans G))) ?_;rintro _ Q ⟨H,rfl⟩;refine A7 ?_;exact Ad.ax rfl rfl ⟨H,rfl⟩
theorem A7u {B:Int}{m:Nat}{e:FV}(j:1<=e.2):En B m [e] / Eb [e]=(((H7 e.1 B).getD m 0:Int):Rat):=by
 have c:En B m [e]=0+(((H7 e.1 B).getD m 0:Int):Rat) / (e.2:Rat):=rfl;have d:Eb [e]=0+1 / (e.2:Rat):=rfl;have g:(e.2:Rat)≠0:=by
  intro e1;have:e.2=0:=by exact_mod_cast e1
  omega
 rw[c,d,Q3,Q3,DV,DV,DV,Kl,Rat.inv_inv,NZ,Rat.inv_mul_cancel _ g,Rat.mul_one]
theorem A8I {B b:Int}{e:FV}(c:1<=e.2):ML B b [e]=OH e.1 B b:=by
 have d:okO [e]:=fun x g=>by rw[Du.1 g];exact c
 unfold ML;rw[if_neg sm,if_pos d];unfold Ox;rw[if_neg sm];unfold WH;by_cases h:OH e.1 B b=0
 ·rw[if_pos h,h];rfl
 ·rw[if_neg h]
theorem A8J (bd:Nat):0<=(bd:Int).tmod 20/\(bd:Int).tmod 20<=19:=by rw[Int.tmod_eq_emod_of_nonneg oo];omega
theorem lawAlone (w:World) (v:Value) (K:Nt w v) (bd:Nat) (hp:bd<256) :
  Calls prog 8 #[v,.int .u8 bd] w (AJ fun r w'=>Ac w w'/\r=.bool true):=by
 obtain⟨a0,a1,a2,a3,rfl⟩:=K.agg;refine cS func8 ntmps8 ?_;refine Nv ?_;refine .s (oB) ?_;rintro _ w1 ⟨rfl,B1,R,hv⟩;refine A7 ?_;refine .p (A0.aA A8 (cs:=[a0,a1,a2,a3]) rfl rfl rfl B1 (Ai 4) rfl) ?_;refine .s (Av.bV rfl rfl rfl rfl rfl rfl) ?_;rintro _ w2 ⟨rfl,B2,S,_⟩;have hL:=((K.ext R).ext S).one B2;have hk:=R.trans S;refine .s (oK CK (Gm (most:=4) hL oo)) ?_;rintro x w3 ⟨hn,es,n,_,M,J⟩;have Q:=hk.trans hn;obtain⟨p,cap,rfl⟩:=n.len;replace M:es.length<=1:=M;have H:∀ w',Ac w w'->Calls prog 12 #[] w' (AJ fun r w2=>Ac w w2/\r=.bool true):=fun w' hx=>(Eo w').mono (fun e w2 ⟨v,e,l,m⟩=>⟨v,e,hx.trans l,m⟩);refine .r rfl ?_;refine Nv ?_;by_cases l:¬ es.length=1
 ·refine .a 3 (.bool true) rfl (by simp;omega) ?_;refine A7 ?_;refine .ct ?_;refine .s (oK Cq (H w3 Q)) ?_;rintro _ U ⟨t,rfl⟩;refine A7 ?_;exact Ad.ax rfl rfl ⟨t,rfl⟩
 replace l:es.length=1:=by omega
 refine .a 3 (.bool false) rfl (by rw[l];rfl) ?_;obtain⟨B,h⟩:∃ B,(bd:Int).tmod 20=B:=⟨_,rfl⟩;have hB:=A8J bd;rw[h]at hB;obtain⟨e,rfl⟩:∃ e,es=[e]:=by
  match es,l with
  | [e],_=>exact⟨e,rfl⟩
 have P:=Uo J e sm;have O:=NL oo J;obtain⟨a,_,fv,neg,mag,e1,D,_,A,_⟩:=n.at (i:=0) sm;cases e1;refine A7 ?_;refine .cf ?_;refine .p (A0.bL (j:=0) A8 rfl rfl rfl rfl rfl rfl oo) ?_;refine .r rfl ?_;refine .p (A0.load A8 rfl rfl rfl (D 0 fv rfl)) ?_;refine .a 2 (.int .i64 (bd:Int)) rfl (by rw[Ab oo oo]) ?_;refine .p (A0.bJ rfl rfl de) ?_;rw[h];replace A:Ft w3 fv e.1:=A;refine .s (oK MR (SS A (O e sm))) ?_;rintro _ U ⟨t,hT⟩;obtain⟨F,rfl,t0,t1⟩:=hT.w;replace t0:OH e.1 B 100000=0->LO 0 U F (H7 e.1 B):=t0;replace t1:OH e.1 B 100000≠0->F=.slice none 0 0:=t1;have hl:=Q.trans t;refine A7 ?_;refine .a 3 (.int .i64 (bd:Int)) rfl (by rw[Ab oo oo]) ?_;refine .p (A0.bJ rfl rfl de) ?_;rw[h];refine .s (oK Dp (JQ (n.ext t) O sm)) ?_;rintro _ w5 ⟨T,yv,rfl,y0,y1⟩;rw[A8I P]at y0 y1 ⊢;have hm:=hl.trans T;obtain⟨N,pt,k,z,cy,e1,e2,hN,hf⟩:∃ N pt k z cy,F=.slice pt N k/\yv=.slice z N cy/\N<=20/\∀ i,i<N->OH e.1 B 100000=0/\i<B.toNat+1:=by
  by_cases d:OH e.1 B 100000=0
  ·obtain⟨pt,k,m⟩:=(t0 d).len;obtain⟨us,g,C⟩:=y0 d;obtain⟨z,cy,I⟩:=g.len;have he:=C.1;rw[Bj]at m;have Y:(H7 e.1 B).length=B.toNat+1:=by unfold H7;rw[El]
   have Z:us.length=B.toNat+1:=by rw[he];simp[Kf]
   rw[Y]at m;rw[Z]at I;exact⟨B.toNat+1,pt,k,z,cy,m,I,by omega,fun i o=>⟨d,o⟩⟩
  ·exact⟨0,none,0,none,0,t1 d,y1 d,by omega,fun i o=>by omega⟩
 subst e1 e2;generalize hg:OH e.1 B 100000=st at *
 refine Nv ?_;refine .r rfl ?_;refine Nv ?_;refine .a 3 (.bool false) rfl sm ?_;refine .a 6 (.bool false) rfl sm ?_;refine A7 ?_;refine .cf ?_;refine H6 (49) (0) (N) [(6,.slice pt N k),(8,.slice z N cy),(47,.slice pt N k),(48,.int .i64 N)] (fun i w'=>Ac w w' /\Ac w5 w') ?_ ?_ ?_
 ·exact⟨hm,Ac.refl _⟩
 ·rintro i V o ⟨E,b⟩;obtain⟨d,hs⟩:=hf i o;obtain⟨us,g,C⟩:=y0 d;have hh:(H7 e.1 B).length=B.toNat+1:=by unfold H7;rw[El]
  have hb:(Kf B [e]).length=B.toNat+1:=by simp[Kf]
  obtain⟨b2,c2,e2,hc⟩:=((t0 d).ext (T.trans b)).l64.cell (j:=i) oo;rw[hh]at e2;cases e2;obtain⟨b3,_,u,cs,e2,L,W,hd,D⟩:=Kd ((g.mono BI).ext b) (C.ext b) (i:=i) oo;rw[hb]at e2;cases e2;have hq:(Kf B [e])[i]'oo=(((H7 e.1 B).getD i 0:Int):Rat):=by rw[<- A7u P];simp[Kf]
  rw[hq]at L;have hr:=Kc (hg.trans d) i;generalize (H7 e.1 B).getD i 0=c at *
  have hu:sz c<=2:=Bn oo oo;have ht:=Jf c;refine A7 ?_;refine sF 10 ?_;refine .q ?_;refine .on (fun _ _=>rK o) ?_;refine .on (fun _ g=>A0.aB (cs:=cs) A8 rfl rfl rfl (by rw[hd]) (fun j c hj=>g.aq.cell (D j c hj))) ?_;refine .q ?_;refine .on (fun _ _=>A0.ia) ?_;refine .on (fun _ g=>rL (g.aq.cell hc)) ?_;refine FL.au AW rfl rfl rfl (fun G f=>cM (Ba (base:=0) G c oo oo BI)) (Am.aF 0 _) ?_;refine FL.au Dw rfl rfl rfl (fun G f hw X=>cM (Ib (base:=0) (X.dn oo) BI)) (Am.bE 0 _) ?_;refine FL.aG rfl ?_;rintro w7 y hy ha _ _ _ _;rw[<- W];refine .s (oK EY (Lb ((L.ext y).dn oo) (Bk.dn ha oo) oo oo)) ?_;rintro _ G ⟨f,rfl⟩;rw[RK];refine A7 ?_;refine .cF ?_;refine Nv ?_;exact Ad.rnd AL ⟨E.trans (y.trans f),b.trans (y.trans f)⟩
 ·rintro V ⟨E,_⟩;refine A7 ?_;refine .s (oK Cq (H V E)) ?_;rintro _ w7 ⟨y,rfl⟩;refine A7 ?_;exact Ad.ax rfl rfl ⟨y,rfl⟩
variable {f:Nat->Nat->Int}{M:List (List Int)}{ys:List Int}{α:Type}
theorem Xv {g:Int->List α}(c:∀ x,(g x).Nodup) (d:∀ x y z,z ∈ g x->z ∈ g y->x=y):∀ (j:Nat) (x:Int),(JG g j x).Nodup
 | 0,x=>List.nodup_nil
 | j+1,x=>by unfold JG;rw[TT];refine⟨c x,Xv c d j (x+1),fun a k b l e=>?_⟩;subst e;obtain⟨i,_,m⟩:=Ot.1 l;have:=d _ _ _ k m;omega
theorem YU:∀ {k:Nat}{ys z:List Int},z ∈ Gs f n B k ys->∃ w,z=w++ys
 | 0,ys,z,h=>by unfold Gs at h;rw[Du]at h;exact⟨[],h⟩
 | k+1,ys,z,h=>by unfold Gs at h;obtain⟨i,_,c⟩:=Ot.1 h;obtain⟨w,e⟩:=YU c;exact⟨w++[Cc f n B ys+i],by rw[e,EO];rfl⟩
theorem Xw:∀ (k:Nat) (ys:List Int),(Gs f n B k ys).Nodup
 | 0,ys=>by unfold Gs;simp
 | k+1,ys=>by unfold Gs;refine Xv (fun x=>Xw k (x::ys)) (fun x y z d g=>?_) _ _;obtain⟨w,e⟩:=YU d;obtain⟨v,e2⟩:=YU g;rw[e]at e2;have c:=congrArg List.length e2;simp at c;have:=(List.append_inj e2 c).2;simp at this;exact this
theorem W8 {g:Nat->Int}:∀ (n:Nat),(∀ i,i<n->g i=0)->Ay n g=0
 | 0,_=>rfl
 | n+1,h=>by show Ay n g+g n=0;rw[W8 n (fun i c=>h i oo),h n oo];rfl
theorem A7P (h:∀ y ∈ ys,y=0) (j:Nat):yv ys j=0:=by
 unfold yv;rw[Bd];cases hj:ys[j]? with
 | none=>rfl
 | some y=>exact h y (Bi hj)
theorem A2W (h:BQ n f):∀ (ys:List Int),ys.length<=n->IJ f n ys=0->∀ y ∈ ys,y=0
 | [],_,_=>fun y c=>by cases c
 | x::t,hl,h0=>by
  rw[BR]at hl;have d:=Oq h (ys:=t) oo 0 x;have d1:=CV h.pos (k:=n - t.length) oo;have d2:=CV h.pos (k:=n - t.length - 1) oo;have r:=RZ h t oo;have e1:HO f n 0 (x::t)=0:=by unfold HO;rw[h0];simp
  have e2:HO f n 0 t=-IJ f n t:=by unfold HO;simp
  rw[KL,e1,e2,LW,Ju]at d;generalize e:AY f (n - t.length) * x+DG f n t=q at d;have o:0<=q * q:=by rw[<- U3 q];exact DI (PY _) (PY _)
  have g:IJ f n t=0:=by
   rcases Gw 0 (IJ f n t) with h4 | h4
   ·have:=Int.mul_pos d2 h4;omega
   ·omega
  have j:=A2W h t oo g;rw[g,LW]at d;have m:q=0:=by
   have:q * q=0:=by omega
   rcases Int.mul_eq_zero.1 this with h | h <;> exact h
  have l:DG f n t=0:=by unfold DG;exact W8 _ (fun i _=>by rw[A7P j,LW])
  rw[l,m,Q7]at e;intro y c;rcases Cw.1 c with rfl | c
  ·rcases Int.mul_eq_zero.1 e with h5 | h5
   ·omega
   ·exact h5
  ·exact j y c
theorem A2X:IJ f n (List.replicate m 0)=0:=by unfold IJ;exact W8 _ (fun i _=>by rw[A7P (fun y c=>BU c),Int.zero_mul])
theorem A7v {b:Int}(h:OH M B b=0):(H7 M B).getD 0 0=1:=by
 obtain⟨j,d,_⟩:=R6 h;have g:=j.bq.1;unfold H7;rw[A2O (show 0<B.toNat+1 by omega)];unfold MK Sb;rw[List.filter_map,Bj];have e:(Gs (ent M) M.length B M.length []).filter ((fun it:DF=>decide (it.1=((0:Nat):Int))) ∘ A0h (ent M) M.length)=(Gs (ent M) M.length B M.length []).filter (fun z=>z == List.replicate M.length 0):=by
  refine List.filter_congr (fun z l=>?_);obtain⟨k,_⟩:=(Uk g d.1 z).1 l;show decide (IJ (ent M) M.length z=0)=_;by_cases c:IJ (ent M) M.length z=0
  ·have:=A2W g z oo c;rw[decide_eq_true c];symm;rw[beq_iff_eq];rw[<- k];exact List.eq_replicate_of_mem this
  ·rw[decide_eq_false c];symm;rw[beq_eq_false_iff_ne];intro e;rw[e]at c;exact c A2X
 rw[e,<- List.count_eq_length_filter,Xw _ _ |>.count,if_pos]
 ·rfl
 ·rw[Uk g d.1,A2X];exact⟨He,d.1⟩
theorem A7w {b:Int}(h:∀ e ∈ es,1<=e.2/\OH e.1 B b=0):0<=En B m es:=by
 have key:∀ (es:List FV) (s:Rat),(∀ e ∈ es,1<=e.2/\OH e.1 B b=0)->0<=s->0<=es.foldl (fun s e=>s+(((H7 e.1 B).getD m 0:Int):Rat) / (e.2:Rat)) s:=by
  intro es;induction es with
  | nil=>intro s _ c;exact c
  | cons e t ih =>
   intro s h c;obtain⟨j,d⟩:=h e sm;refine ih _ (fun x g=>h x (HW _ g)) (Rat.add_nonneg c ?_);rw[DV];refine Br (Rat.intCast_nonneg.2 (Kc d m).1) (Bz (Q9.2 (U9.2 oo)))
 exact key es 0 h EQ
theorem Xx {b:Int}(h:∀ e ∈ es,OH e.1 B b=0):En B 0 es=Eb es:=by
 have key:∀ (es:List FV) (s:Rat),(∀ e ∈ es,OH e.1 B b=0)->es.foldl (fun s e=>s+(((H7 e.1 B).getD 0 0:Int):Rat) / (e.2:Rat)) s=es.foldl (fun s e=>s+(1:Rat) / (e.2:Rat)) s:=by
  intro es;induction es with
  | nil=>intro s _;rfl
  | cons e t ih =>
   intro s h;rw[TG,TG,A7v (h e sm),ih _ (fun x c=>h x (HW _ c))];rfl
 exact key es 0 h
variable {xs bs:List Nat}{P:Program}
theorem A0.strIsno {w:World}{y:Operand}{pos:String}(c:B8 xs) (j:B8 bs) (k:ov E x=some (MG xs)) (l:ov E y=some (MG bs)) (e:xs=bs) :
  A0 P n ⟨d,.binOp .neq 9 x y t2,ty,pos,af,g⟩ E w (.bool false):=by have:=A0.strNeq (P:=P) (n:=n) (w:=w) (d:=d) (t:=9) (t2:=t2) (ty:=ty) (pos:=pos) (af:=af) (g:=g) c j k l;rwa [decide_eq_true e]at this
theorem A2Y (h:i<(Kb B es).length):(Kb B es)[i]=En B i es:=by simp[Kb]
theorem YV (h:i<(Kf B es).length):(Kf B es)[i]=En B i es / Eb es:=by simp[Kf]
theorem YW {q:Rat}(h:0<q):q / q=((1:Int):Rat):=by rw[DV,Gb _ (fun e=>by rw[e]at h;exact Q0 h)];rfl
theorem NM {p q:Rat}(h:0<q):p / q * q=p:=by rw[DV,NZ,Rat.inv_mul_cancel _ (fun e=>by rw[e]at h;exact Q0 h),Rat.mul_one]
theorem A2Z {b:Int}(h:ML B b es=0):∀ e ∈ es,OH e.1 B b=0:=by
 have c:=(W4 h).2.2;have g:¬ 64<es.length:=fun d=>by unfold Ox at c;rw[if_pos d]at c;cases c
 exact Ra (show WH B b es=0 by unfold Ox at c;rwa [if_neg g]at c)
theorem lawFirst (w:World) (lv:Value) (ls:List Value) (hL:NJ w lv ls) (bd:Nat) (kd:bd<256) :
  Calls prog 4 #[lv,.int .u8 bd] w (AJ fun r w'=>Ac w w'/\r=.bool true):=by
 refine cS func4 ntmps4 ?_;refine A7 ?_;refine .s (oK CK (Gm (most:=3) hL oo)) ?_;rintro x w1 ⟨hn,es,y,h4,_,U⟩;obtain⟨p,cap,rfl⟩:=y.len;have K:=Uo U;have hf:=NL oo U;have F:∀ w',Ac w w'->Calls prog 12 #[] w' (AJ fun r w2=>Ac w w2/\r=.bool true):=fun w' hx=>(Eo w').mono (fun e w2 ⟨v,e,S,T⟩=>⟨v,e,hx.trans S,T⟩);obtain⟨B,h⟩:∃ B,(bd:Int).tmod 20=B:=⟨_,rfl⟩;have hB:=A8J bd;rw[h]at hB;refine .r rfl ?_;refine Nv ?_;by_cases R:es.length=0
 ·refine .a 3 (.bool true) rfl (by rw[R];rfl) ?_;refine A7 ?_;refine .ct ?_;refine .s (oK Cq (F w1 hn)) ?_;rintro _ w2 ⟨z,rfl⟩;refine A7 ?_;exact Ad.ax rfl rfl ⟨z,rfl⟩
 refine .a 3 (.bool false) rfl (by rw[beq_eq_false_iff_ne.2 oo]) ?_;have hg:es≠[]:=fun e=>R (by rw[e];rfl);have M:=Rd K hg;refine Nv ?_;refine .cF ?_;refine Nv ?_;refine .a 3 (.int .i64 (bd:Int)) rfl (by rw[Ab oo oo]) ?_;refine .p (A0.bJ rfl rfl de) ?_;rw[h];refine .s (oK I3 (NK y hf oo)) ?_;rintro _ w2 ⟨z,xv,rfl,x0,x1⟩;refine .r rfl ?_;refine Nv ?_;refine .a 3 (.int .i64 (bd:Int)) rfl (by rw[Ab oo oo]) ?_;refine .p (A0.bJ rfl rfl de) ?_;rw[h];refine .s (oK Dp (JQ (y.ext z) hf oo)) ?_;rintro _ w3 ⟨ho,yv,rfl,y0,y1⟩;refine A7 ?_;refine .s (oK JR (Sh ((y.ext z).ext ho) oo)) ?_;rintro _ w4 ⟨h8,hS,_⟩;obtain⟨sv,rfl,m⟩:=hS K;refine .r rfl ?_;refine Af.bn rfl rfl (fun _=>rfl) m.1 ?_;intro b10 w5 kc hp Q;have O:=h8.trans hp;have N:=ho.trans O;have hm:=hn.trans (z.trans N);replace m:=m.ext hp;refine .r rfl ?_;refine Nv ?_;by_cases l:¬ ML B 100000 es=0
 ·refine .a 2 (.bool true) rfl (by simp[l]) ?_;refine .r rfl ?_;refine Nv ?_;refine .cT ?_;refine Nv ?_;refine .a 3 (.bool true) rfl sm ?_;refine .r rfl ?_;refine .s (oK Cq (F w5 hm)) ?_;rintro _ w6 ⟨t,rfl⟩;refine A7 ?_;exact Ad.ax rfl rfl ⟨t,rfl⟩
 replace l:ML B 100000 es=0:=Decidable.not_not.1 l;rw[l];obtain⟨us,C,n⟩:=x0 l;obtain⟨vs,D,A⟩:=y0 l;replace C:=(C.mono BI).ext N;replace n:=n.ext N;replace D:=(D.mono BI).ext O;replace A:=A.ext O;have hl:(Kb B es).length=B.toNat+1:=by simp[Kb]
 have V:(Kf B es).length=B.toNat+1:=by simp[Kf]
 have H:=A2Z l;obtain⟨hh,kf,_⟩:=Si y oo (W4 l).2.2 hg;have h6:∀ i,rz (En B i es / Eb es)<=65000:=fun i=>by have k1:=hh i;have k2:=V5 (Eb es);have k3:=V4 (En B i es) (Eb es)⁻¹;rw[DV];omega
 obtain⟨a,G,u0,cs0,rfl,X,hs,hy,hv⟩:=Kd C n (i:=0) oo;obtain⟨b,cy,v0,ds0,rfl,Y,ht,h5,hz⟩:=Kd D A (i:=0) oo;rw[A2Y,Xx H]at X;rw[YV,Xx H,YW M]at Y;rw[hl,V];have kg:=A7O.1;have hb:=A6a.1;refine A7 ?_;refine .cF ?_;refine Nv ?_;refine St.sub (E':=[(1,.int .u8 bd),(6,.slice (some a) (B.toNat+1) G),(8,.slice (some b) (B.toNat+1) cy),(10,.pointer (some ⟨b10,0,none⟩)),(11,.int .i64 0)]) ?_ AL;refine sF 23 ?_;refine FL.as A8 7 (.int .i64 (bd:Int)) rfl (by rw[Ab oo oo]) ?_;refine .on (fun _ _=>A0.bJ rfl rfl de) ?_;rw[h];refine FL.as A8 2 (.bool false) rfl (by rw[Ab oo oo];simp;omega) ?_;refine FL.as A8 7 (.bool false) rfl sm ?_;refine .q ?_;refine .on (fun _ _=>A0.bL (j:=0) A8 rfl rfl rfl rfl rfl rfl oo) ?_;refine .on (fun _ d=>A0.aB (cs:=cs0) A8 rfl rfl rfl (by rw[hy]) (fun j c g=>d.aq.cell (hv j c g))) ?_;refine .on (fun _ d=>rR (d.blk (Q) sm) (m.1)) ?_;refine FL.aG rfl ?_;rintro w6 t _ _;rw[<- hs];refine .s (oK EY (Lb ((X.ext t).dn oo) ((m.ext t).dn oo) oo oo)) ?_;rintro _ w7 ⟨ka,rfl⟩;rw[RK];have P:=t.trans ka;refine .r rfl ?_;refine .p (A0.bL (j:=0) A8 rfl rfl rfl rfl rfl rfl oo) ?_;refine .p (A0.aB (cs:=ds0) A8 rfl rfl rfl (by rw[h5]) (fun j c g=>P.cell (hz j c g))) ?_;rw[<- ht];refine .s (oK ET (JF ((Y.ext P).dn oo))) ?_;rintro _ w8 ⟨o,rfl⟩;refine .p (A0.strIsno (bs:=[49]) (by rw[hb];exact Ng _ rfl) (Ng _ rfl) rfl rfl hb) ?_;have h9:=P.trans o;refine A7 ?_;refine .cf ?_;refine H6 (87) (0) ((B.toNat+1)) [(6,.slice (some a) (B.toNat+1) G),(8,.slice (some b) (B.toNat+1) cy),(10,.pointer (some ⟨b10,0,none⟩)),(85,.slice (some b) (B.toNat+1) cy),(86,.int .i64 ((B.toNat+1:Nat):Int))] (fun i w'=>Ac w5 w') ?_ ?_ ?_
 ·exact h9
 ·rintro i w9 J k;obtain⟨_,_,u,cs,e1,W,eu,hw,hu⟩:=Kd (C.ext k) (n.ext k) (i:=i) oo;rw[hl]at e1;cases e1;obtain⟨_,_,v,ds,e1,I,ev,ha,Z⟩:=Kd (D.ext k) (A.ext k) (i:=i) oo;rw[V]at e1;cases e1;rw[A2Y]at W;rw[YV]at I;have hr:=Q.ext k;have hk:=m.ext k;have S:=hh i;have T:=h6 i;have h3:=V4 (En B i es / Eb es) (Eb es);have ke:0<=(En B i es / Eb es).num:=by refine Rat.num_nonneg.2 ?_;rw[DV];exact Br (A7w (fun e he=>⟨K e he,H e he⟩)) (Bz (Q9.2 M))
  refine A7 ?_;refine St.sub (E':=[(87,.int .i64 i),(6,.slice (some a) (B.toNat+1) G),(8,.slice (some b) (B.toNat+1) cy),(10,.pointer (some ⟨b10,0,none⟩)),(85,.slice (some b) (B.toNat+1) cy),(86,.int .i64 ((B.toNat+1:Nat):Int)),(12,.int .i64 i)]) ?_ AL;refine sF 17 ?_;refine .q ?_;refine .on (fun _ _=>rK J) ?_;refine FL.one (L:=[]) (v:=v) rfl rfl rfl rfl rfl (fun _ d=>by rw[ev];exact A0.aB (cs:=ds) A8 rfl rfl rfl (by rw[ha]) (fun j c g=>d.aq.cell (Z j c g))) ?_;refine FL.aY Rm rfl rfl rfl (fun w8 o=>cM (A1h ((I.ext o).dn oo))) ?_;refine FL.as A8 1 (.bool false) rfl (A9 (by unfold AH;split <;> omega)) ?_;refine .q ?_;refine .on (fun _ _=>rK J) ?_;refine FL.one (L:=[]) (v:=v) rfl rfl rfl rfl rfl (fun _ d=>by rw[ev];exact A0.aB (cs:=ds) A8 rfl rfl rfl (by rw[ha]) (fun j c g=>d.aq.cell (Z j c g))) ?_;refine .on (fun _ d=>rR (d.blk (hr) sm) (hk.1)) ?_;refine FL.au SV rfl rfl rfl (fun w8 o=>cM (A3u ((I.ext o).dn oo) ((hk.ext o).dn oo) oo oo)) (Am.bE 0 _) ?_;refine .q ?_;refine .on (fun _ _=>rK J) ?_;refine FL.one (L:=[]) (v:=u) rfl rfl rfl rfl rfl (fun _ d=>by rw[eu];exact A0.aB (cs:=cs) A8 rfl rfl rfl (by rw[hw]) (fun j c g=>d.aq.cell (hu j c g))) ?_;refine FL.aG rfl ?_;rintro hq E kb f _ _;replace f:Bk 0 hq kb (En B i es / Eb es * Eb es):=f;rw[NM M]at f;refine .s (oK EY (Lb (f.dn oo) ((W.ext E).dn oo) oo oo)) ?_;rintro _ kh ⟨h7,rfl⟩;rw[RK];refine A7 ?_;refine .cF ?_;refine Nv ?_;exact Ad.rnd AL (k.trans (E.trans h7))
 ·rintro w9 k;refine A7 ?_;refine .s (oK Cq (F w9 (hm.trans k))) ?_;rintro _ hq ⟨E,rfl⟩;refine A7 ?_;exact Ad.ax rfl rfl ⟨E,rfl⟩
section
variable {P:Program}{n:Nat}{E:List (Nat×Value)}{w:World}{d:Option Tmp}{x y:Operand}{tys:Array TypeId}{ty:TypeId}{pos:String}{af:Array Edge}{g:Option (Nat×Bool)}{a b:Int}
theorem A0.minI (e:ov E x=some (.int .i64 a)) (j:ov E y=some (.int .i64 b)):A0 P n ⟨d,.call ⟨.builtin .min,#[x,y],tys⟩,ty,pos,af,g⟩ E w (.int .i64 (if b<a then b else a)):=by intro f c;have e1:=c.eval e;have e2:=c.eval j;generalize f.eval=ρ at e1 e2;simp[execOp,resolve,invoke,builtin,Builtin.min_,Builtin.min2,e1,e2,go_sem]
theorem A0.maxI (e:ov E x=some (.int .i64 a)) (j:ov E y=some (.int .i64 b)):A0 P n ⟨d,.call ⟨.builtin .max,#[x,y],tys⟩,ty,pos,af,g⟩ E w (.int .i64 (if b > a then b else a)):=by intro f c;have e1:=c.eval e;have e2:=c.eval j;generalize f.eval=ρ at e1 e2;simp[execOp,resolve,invoke,builtin,Builtin.max_,Builtin.max2,e1,e2,go_sem]
end
theorem A7x {l:Int}(d:0<Eb es) (h:∀ e ∈ es,1<=e.2/\l<=(H7 e.1 B).getD m 0):(l:Rat)<=En B m es / Eb es:=by
 have key:∀ (es:List FV) (s t:Rat),(∀ e ∈ es,1<=e.2/\l<=(H7 e.1 B).getD m 0)->(l:Rat) * s<=t->(l:Rat) * es.foldl (fun s e=>s+(1:Rat) / (e.2:Rat)) s<=es.foldl (fun s e=>s+(((H7 e.1 B).getD m 0:Int):Rat) / (e.2:Rat)) t:=by
  intro es;induction es with
  | nil=>intro s t _ d;exact d
  | cons e r ih =>
   intro s t h d;obtain⟨q,j⟩:=h e sm;refine ih _ _ (fun x o=>h x (HW _ o)) ?_;have k:(0:Rat)<=(e.2:Rat)⁻¹:=Bz (Q9.2 (U9.2 oo));have g:=Rat.mul_le_mul_of_nonneg_right (Iy.2 j) k;dsimp only;rw[Q1,DV,DV,Kl];exact Ga (Rat.add_le_add_right.2 d) (Rat.add_le_add_left.2 g)
 have g:=key es 0 0 h (by rw[LV];exact EQ);refine Rat.le_of_mul_le_mul_right (c:=Eb es) ?_ d;rw[NM d];exact g
theorem A6g {l:Int}(d:0<Eb es) (h:∀ e ∈ es,1<=e.2/\(H7 e.1 B).getD m 0<=l):En B m es / Eb es<=(l:Rat):=by
 have key:∀ (es:List FV) (s t:Rat),(∀ e ∈ es,1<=e.2/\(H7 e.1 B).getD m 0<=l)->t<=(l:Rat) * s->es.foldl (fun s e=>s+(((H7 e.1 B).getD m 0:Int):Rat) / (e.2:Rat)) t<=(l:Rat) * es.foldl (fun s e=>s+(1:Rat) / (e.2:Rat)) s:=by
  intro es;induction es with
  | nil=>intro s t _ d;exact d
  | cons e r ih =>
   intro s t h d;obtain⟨q,j⟩:=h e sm;refine ih _ _ (fun x o=>h x (HW _ o)) ?_;have k:(0:Rat)<=(e.2:Rat)⁻¹:=Bz (Q9.2 (U9.2 oo));have g:=Rat.mul_le_mul_of_nonneg_right (Iy.2 j) k;dsimp only;rw[Q1,DV,DV,Kl];exact Ga (Rat.add_le_add_right.2 d) (Rat.add_le_add_left.2 g)
 have g:=key es 0 0 h (by rw[LV];exact EQ);refine Rat.le_of_mul_le_mul_right (c:=Eb es) ?_ d;rw[NM d];exact g
theorem A7y {p q:Rat}(h:q<=p):0<=RJ p q:=by unfold RJ;rw[if_neg (Rat.not_lt.2 h)];split <;> omega
theorem A7z {p q:Rat}(h:p<=q):RJ p q<=0:=by
 unfold RJ;split
 ·omega
 ·rw[if_neg (Rat.not_lt.2 h)];omega
theorem A9m {b:Int}(c:¬ es.length=0) (d:okO es):ML B b es=Ox B b es:=by unfold ML;rw[if_neg c,if_pos d]
theorem lawBetween39 (w:World) (lv:Value) (ls:List Value) (Q:NJ w lv ls) (bd:Nat) (ke:bd<256) :
  Calls prog 3 #[lv,.int .u8 bd] w (AJ fun r w'=>Ac w w'/\r=.bool true):=by
 refine Sj (args:=[_,_]) func3 rfl ntmps3 rfl ?_;refine A7 ?_;refine .s (Av.call CK rfl (Gm (most:=3) Q oo)) ?_;rintro x w1 ⟨ka,es,K,h4,_,hM⟩;obtain⟨p,cap,rfl⟩:=K.len;have T:=Uo hM;have hr:=NL oo hM;have U:∀ w',Ac w w'->Calls prog 12 #[] w' (AJ fun r w2=>Ac w w2/\r=.bool true):=fun w' hx=>(Eo w').mono (fun e w2 ⟨v,e,h1,h2⟩=>⟨v,e,hx.trans h1,h2⟩);obtain⟨B,W⟩:∃ B,(bd:Int).tmod 20=B:=⟨_,rfl⟩;have hB:=A8J bd;rw[W]at hB;refine .r rfl ?_;refine Nv ?_;refine .a 3 (.int .i64 (bd:Int)) rfl (by rw[Ab oo oo]) ?_;refine .p (A0.bJ rfl rfl de) ?_;rw[W];refine .s (Av.call FZ rfl (KE K hr oo)) ?_;rintro _ w2 ⟨hu,tv,rfl,t0,t1⟩;refine .r rfl ?_;refine Nv ?_;refine .a 3 (.int .i64 (bd:Int)) rfl (by rw[Ab oo oo]) ?_;refine .p (A0.bJ rfl rfl de) ?_;rw[W];refine .s (Av.call Dp rfl (JQ (K.ext hu) hr oo)) ?_;rintro _ w3 ⟨hv,yv,rfl,y0,y1⟩;have hb:=ka.trans (hu.trans hv);refine .r rfl ?_;refine Nv ?_;by_cases P:es.length=0
 ·have h9:ML B 100000 es=3:=if_pos P;rw[h9];refine .a 3 (.bool true) rfl (by rw[P];rfl) ?_;refine A7 ?_;refine .ct ?_;refine .s (Av.call Cq rfl (U w3 hb)) ?_;rintro _ w4 ⟨J,rfl⟩;refine A7 ?_;exact Ad.ax rfl rfl ⟨J,rfl⟩
 refine .a 3 (.bool false) rfl (by rw[beq_eq_false_iff_ne.2 oo]) ?_;have Z:es≠[]:=fun e=>P (by rw[e];rfl);have hs:=Rd T Z;have hh:=A9m (B:=B) (b:=100000) P T;rw[hh]at y0 y1 ⊢;refine Nv ?_;refine .cF ?_;refine Nv ?_;by_cases C:¬ Ox B 100000 es=0
 ·refine .a 2 (.bool true) rfl (by simp[C]) ?_;refine .r rfl ?_;refine Nv ?_;refine .cT ?_;refine Nv ?_;refine .a 3 (.bool true) rfl sm ?_;refine .r rfl ?_;refine .s (Av.call Cq rfl (U w3 hb)) ?_;rintro _ w6 ⟨hd,rfl⟩;refine A7 ?_;exact Ad.ax rfl rfl ⟨hd,rfl⟩
 replace C:Ox B 100000 es=0:=Decidable.not_not.1 C;have hm:=A2Z (hh.trans C);have hV:=(t0 C).ext hv;obtain⟨vs,R,hg⟩:=y0 C;replace R:=R.mono BI;obtain⟨_,kg,_⟩:=Si K oo C Z;obtain⟨h8,_,_⟩:=Si K oo C Z;rw[C];have hl:(Kf B es).length=B.toNat+1:=by simp[Kf]
 have ho:(OI B es).length=es.length:=by simp[OI]
 have ht:∀ M,(H7 M B).length=B.toNat+1:=fun M=>by unfold H7;rw[El]
 have h5:∀ i (F:i<es.length) (d:i<(OI B es).length),(OI B es)[i]=H7 es[i].1 B:=fun i F d=>by simp[OI]
 obtain⟨pt,n,e1⟩:=hV.len;rw[ho]at e1;subst e1;obtain⟨D,cy,e1⟩:=R.len;rw[hg.1,hl]at e1;subst e1;have ha:∀ {w'},Ac w3 w'->∀ {j i:Nat} (f:j<es.length),i<B.toNat+1->∃ a b c,pt=some a/\w'.cell? (a.add j)=some (.slice (some b) (B.toNat+1) c)/\w'.cell? (b.add i)=some (.int .i64 ((H7 es[j].1 B).getD i 0)):=by intro w' hx j i f F;obtain⟨a,_,u,e1,o,Q⟩:=(hV.ext hx).at (i:=j) oo;rw[ho]at e1;cases e1;rw[h5 j f oo]at Q;obtain⟨b,c,e2,E⟩:=Q.l64.cell (j:=i) (by rw[ht];exact F);rw[ht]at e2;rw[e2]at o;exact⟨a,b,c,rfl,o,E⟩
 refine A7 ?_;refine .cF ?_;refine Nv ?_;refine .a 5 (.bool false) rfl sm ?_;refine A7 ?_;refine .cf ?_;refine St.rng A8 (62) (0) (es.length) oo [(6,.slice pt es.length n),(8,.slice D (B.toNat+1) cy),(60,.slice pt es.length n),(61,.int .i64 es.length)] (fun i w'=>Ac w3 w') AL ?_ (fun _=>⟨rfl,rfl⟩) (fun _=>rfl) (fun _=>⟨rfl,rfl⟩) rfl rfl oo ?_ ?_
 ·exact Ac.refl _
 ·rintro j w4 f J;obtain⟨a,b,c,e1,o,_⟩:=ha J (i:=0) f oo;cases e1;refine A7 ?_;refine .p (A0.ia) ?_;refine .p (A0.load A8 rfl rfl rfl o) ?_;refine Nv ?_;refine .r rfl ?_;refine Nv ?_;refine .a 5 (.bool false) rfl sm ?_;refine A7 ?_;refine .cF ?_;refine Nv ?_;exact Ad.rnd AL J
 rintro w4 J;refine A7 ?_;refine St.rng A8 (74) (0) ((B.toNat+1)) oo [(6,.slice pt es.length n),(8,.slice D (B.toNat+1) cy),(72,.slice D (B.toNat+1) cy),(73,.int .i64 ((B.toNat+1:Nat):Int))] (fun i w'=>Ac w3 w') AL ?_ (fun _=>⟨rfl,rfl⟩) (fun _=>rfl) (fun _=>⟨rfl,rfl⟩) rfl rfl oo ?_ ?_
 ·exact J
 ·rintro i w5 F hw;obtain⟨a,b,c,e1,o,E⟩:=ha hw (j:=0) (i:=i) oo F;cases e1;have N:=Kc (hm _ (DU (show 0<es.length by omega))) i;generalize (H7 (es[0]'oo).1 B).getD i 0=z0 at E N;refine A7 ?_;refine St.sub (E':=[(74,.int .i64 i),(6,.slice (some a) es.length n),(8,.slice D (B.toNat+1) cy),(72,.slice D (B.toNat+1) cy),(73,.int .i64 ((B.toNat+1:Nat):Int)),(12,.int .i64 i)]) ?_ AL;refine St.flow 13 Dv kr rfl kr rfl True.intro ?_;refine .q ?_;refine .on (fun _ _=>A0.ia) ?_;refine .on (fun _ t=>A0.load A8 rfl rfl rfl (t.aq.cell o)) ?_;refine .q ?_;refine .on (fun _ _=>A0.ia) ?_;refine .on (fun _ t=>A0.load A8 rfl rfl rfl (t.aq.cell E)) ?_;refine .q ?_;refine .on (fun _ _=>A0.ia) ?_;refine .on (fun _ t=>A0.load A8 rfl rfl rfl (t.aq.cell o)) ?_;refine .q ?_;refine .on (fun _ _=>A0.ia) ?_;refine .on (fun _ t=>A0.load A8 rfl rfl rfl (t.aq.cell E)) ?_;refine .q ?_;refine FL.aG rfl ?_;rintro w6 hd _ _;refine A7 ?_;refine St.rngG A8 (91) (0) (es.length) oo (fun g:Int×Int=>[(74,.int .i64 i),(6,.slice (some a) es.length n),(8,.slice D (B.toNat+1) cy),(72,.slice D (B.toNat+1) cy),(73,.int .i64 ((B.toNat+1:Nat):Int)),(12,.int .i64 i),(13,.int .i64 g.1),(14,.int .i64 g.2),(89,.slice (some a) es.length n),(90,.int .i64 es.length)]) (fun j g w'=>Ac w3 w'/\(0<=g.1/\g.1<=1000000/\0<=g.2/\g.2<=1000000)/\∀ k (A:k<es.length),k<j->g.1<=(H7 es[k].1 B).getD i 0/\(H7 es[k].1 B).getD i 0<=g.2) ((z0,z0)) AL ?_ (fun _ _=>⟨rfl,rfl⟩) (fun _ _=>rfl) (fun _ _=>⟨rfl,rfl⟩) (fun _=>rfl) (fun _=>rfl) oo ?_ ?_
  ·exact⟨hw.trans hd,⟨N.1,N.2,N.1,N.2⟩,fun k A H=>by omega⟩
  ·rintro j ⟨lo,d⟩ w7 f ⟨I,X,A⟩;dsimp only at X A;obtain⟨_,b,c,e1,o,E⟩:=ha I (j:=j) (i:=i) f F;cases e1;have hz:=Kc (hm _ (DU f)) i;generalize kc:(H7 es[j].1 B).getD i 0=z at E hz;refine A7 ?_;refine .p (A0.ia) ?_;refine .p (A0.load A8 rfl rfl rfl o) ?_;refine Nv ?_;refine .r rfl ?_;refine Nv ?_;have hq:(0<=(if z<lo then z else lo)/\(if z<lo then z else lo)<=1000000/\0<=(if z > d then z else d)/\(if z > d then z else d)<=1000000)/\∀ k (A:k<es.length),k<j+1->(if z<lo then z else lo)<=(H7 es[k].1 B).getD i 0/\(H7 es[k].1 B).getD i 0<=(if z > d then z else d):=by
    refine⟨by omega,fun k O H=>?_⟩;by_cases e:k=j
    ·subst e;rw[kc];omega
    ·have:=A k O oo;omega
   refine St.sub (E':=[(91,.int .i64 j),(74,.int .i64 i),(6,.slice (some a) es.length n),(8,.slice D (B.toNat+1) cy),(72,.slice D (B.toNat+1) cy),(73,.int .i64 ((B.toNat+1:Nat):Int)),(12,.int .i64 i),(13,.int .i64 lo),(14,.int .i64 d),(89,.slice (some a) es.length n),(90,.int .i64 es.length),(16,.slice (some b) (B.toNat+1) c)]) ?_ AL;refine St.any Dv rfl ?_;intro G y _ _;have S:=y.cell E;refine WA.takes (fuel:=8) A8 kr (fun _ _ _ _ _ h=>h) [0,1,2,6,7,8] kr rfl ?_;refine WA.take 3 rfl rfl kr kr kr (fun _ _ _ h=>h) rfl rfl (fun w=>A0.ia) ?_;refine WA.take 9 rfl rfl kr kr kr (fun _ _ _ h=>h) rfl rfl (fun w=>A0.ia) ?_;refine WA.two (i:=4) (j:=10) kr ?_ ?_
   ·refine Ed.val rfl rfl rfl rfl (A0.load A8 rfl rfl rfl S).op ?_;rintro _ _ ⟨rfl,rfl⟩;refine WA.take 5 rfl rfl kr kr kr (fun _ _ _ h=>h) rfl rfl (fun w=>A0.minI rfl rfl) ?_;refine WA.takes (fuel:=3) A8 kr (fun _ _ _ _ _ h=>h) [12] kr rfl ?_;refine WA.one (i:=10) kr (Ed.val rfl rfl rfl rfl (A0.load A8 rfl rfl rfl S).op ?_);rintro _ _ ⟨rfl,rfl⟩;refine WA.take 11 rfl rfl kr kr kr (fun _ _ _ h=>h) rfl rfl (fun w=>A0.maxI rfl rfl) ?_;refine WA.takes (fuel:=0) A8 kr (fun _ _ _ _ _ h=>h) [13] kr rfl ?_;refine WA.done kr ?_;refine Nv ?_;exact Ad.aO (if z<lo then z else lo,if z > d then z else d) AL ⟨I.trans y,hq⟩
   ·refine Ed.val rfl rfl rfl rfl (A0.load A8 rfl rfl rfl S).op ?_;rintro _ _ ⟨rfl,rfl⟩;refine WA.take 11 rfl rfl kr kr kr (fun _ _ _ h=>h) rfl rfl (fun w=>A0.maxI rfl rfl) ?_;refine WA.one (i:=4) kr (Ed.val rfl rfl rfl rfl (A0.load A8 rfl rfl rfl S).op ?_);rintro _ _ ⟨rfl,rfl⟩;refine WA.take 5 rfl rfl kr kr kr (fun _ _ _ h=>h) rfl rfl (fun w=>A0.minI rfl rfl) ?_;refine WA.takes (fuel:=0) A8 kr (fun _ _ _ _ _ h=>h) [12,13] kr rfl ?_;refine WA.done kr ?_;refine Nv ?_;exact Ad.aO (if z<lo then z else lo,if z > d then z else d) AL ⟨I.trans y,hq⟩
  rintro⟨lo,d⟩ w7 ⟨I,X,A⟩;dsimp only at X A;obtain⟨_,_,u,cs,e1,o,eu,hp,hn⟩:=Kd (R.ext I) (hg.ext I) (i:=i) oo;rw[hl]at e1;cases e1;rw[YV]at o;have h6:=A7x (m:=i) (B:=B) (l:=lo) hs (fun e Y=>by obtain⟨k,O⟩:=Cx.1 Y;obtain⟨H,e2⟩:=Au.1 O;rw[<- e2];exact⟨T _ (DU _),(A k H H).1⟩)
  have h7:=A6g (m:=i) (B:=B) (l:=d) hs (fun e Y=>by obtain⟨k,O⟩:=Cx.1 Y;obtain⟨H,e2⟩:=Au.1 O;rw[<- e2];exact⟨T _ (DU _),(A k H H).2⟩)
  have kf:rz (En B i es / Eb es)<=65000:=by have k1:=h8 i;have k2:=V5 (Eb es);have k3:=V4 (En B i es) (Eb es)⁻¹;rw[DV];omega
  generalize En B i es / Eb es=q at *
  have s1:sz lo<=2:=Bn oo oo;have s2:sz d<=2:=Bn oo oo;have r1:=Jf lo;have r2:=Jf d;have c1:=A7y h6;have c2:=A7z h7;refine A7 ?_;refine St.sub (E':=[(74,.int .i64 i),(6,.slice (some a) es.length n),(8,.slice _ (B.toNat+1) cy),(72,.slice _ (B.toNat+1) cy),(73,.int .i64 ((B.toNat+1:Nat):Int)),(12,.int .i64 i),(13,.int .i64 lo),(14,.int .i64 d)]) ?_ AL;refine St.flow 17 Dv kr rfl kr rfl True.intro ?_;refine .q ?_;refine .on (fun _ _=>A0.bL A8 rfl rfl rfl rfl rfl rfl F) ?_;refine FL.one (L:=[]) (v:=u) rfl rfl rfl rfl rfl (fun _ t=>by rw[eu];exact A0.aB (cs:=cs) A8 rfl rfl rfl (by rw[hp]) (fun j c f=>t.aq.cell (hn j c f))) ?_;refine .q ?_;refine FL.au AW rfl rfl rfl (fun G y=>Gj.mk rfl (Ba (base:=0) G lo oo oo BI)) (Am.aF 0 _) ?_;refine FL.au Dw rfl rfl rfl (fun G y kd V=>Gj.mk rfl (Ib (base:=0) (V.dn oo) BI)) (Am.bE 0 _) ?_;refine FL.aY EY rfl rfl rfl (fun G y ki h3=>Gj.mk rfl (Lb ((o.ext y).dn oo) (Bk.dn h3 oo) oo oo)) ?_;refine FL.as A8 1 (.bool false) rfl (A9 oo) ?_;refine .q ?_;refine .on (fun _ _=>A0.bL A8 rfl rfl rfl rfl rfl rfl F) ?_;refine FL.one (L:=[]) (v:=u) rfl rfl rfl rfl rfl (fun _ t=>by rw[eu];exact A0.aB (cs:=cs) A8 rfl rfl rfl (by rw[hp]) (fun j c f=>t.aq.cell (hn j c f))) ?_;refine .q ?_;refine FL.au AW rfl rfl rfl (fun G y=>Gj.mk rfl (Ba (base:=0) G d oo oo BI)) (Am.aF 0 _) ?_;refine FL.au Dw rfl rfl rfl (fun G y kd V=>Gj.mk rfl (Ib (base:=0) (V.dn oo) BI)) (Am.bE 0 _) ?_;refine FL.aG rfl ?_;rintro G y kh hy _ _ _ _ _ _ _ _;refine .s (Av.call EY rfl (Lb ((o.ext y).dn oo) (Bk.dn hy oo) oo oo)) ?_;rintro _ w9 ⟨hf,rfl⟩;refine .a 1 (.bool false) rfl (A9 oo) ?_;refine A7 ?_;refine .cF ?_;refine Nv ?_;exact Ad.rnd AL (I.trans (y.trans hf))
 rintro w9 hf;refine A7 ?_;refine .s (Av.call Cq rfl (U w9 (hb.trans hf))) ?_;rintro _ kj ⟨kb,rfl⟩;refine A7 ?_;exact Ad.ax rfl rfl ⟨kb,rfl⟩
end Go.Qf
