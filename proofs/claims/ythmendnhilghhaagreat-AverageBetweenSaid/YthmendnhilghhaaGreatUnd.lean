/- Lemmas on the model and on the program's functions, part Und. -/
import GoSem.Core.View
import Derived.WalkKit
import Derived.Deep.Quiet
import Derived.Deep.LoopGhost
import Derived.KernelRfl
import Derived.Test.YthmendnhilghhaaGreatProg
import Derived.Laws.BytesString
import Derived.Laws.RangeString
import Derived.Lib.OthersKept
import Derived.Laws.Strings
import Derived.ProofKit
import Derived.OpenShut
import Derived.Lib.SmallJoins
import Derived.Carry
import Derived.ChangeMaps5
import Derived.Maps.AppendAt
import Derived.Laws.Externs
import Derived.Lib.Bytealg
import Derived.ChangeArms
import Derived.Laws.OwnMore
import Derived.Scope
import Derived.RangeFuncLeaves
import Derived.RangeFuncRecord
import Derived.TacticsIn
import Derived.OrdersIn
import Derived.Maps.OwnSet
import Derived.Maps.Views
import Derived.Test.YthmendnhilghhaaGreatRows
import Derived.Test.YthmendnhilghhaaGreatUna
import Derived.Test.YthmendnhilghhaaGreatUnb
import Derived.Test.YthmendnhilghhaaGreatUnc
set_option linter.unusedVariables false
set_option linter.unusedSimpArgs false
set_option maxRecDepth 20000
set_option maxHeartbeats 6400000
namespace Go.Qf
open Go Go.RowKit Go.Proofs Go.Proofs.Tryz Go.ChangeShapes Go.WideShapes Go.Joins
theorem A3N {H:Type}{enc:TypeId×Value->H}{W:World}{base:Nat}{spare:Nat->Bool}{held:Bool}{n:Nat}{c0 c1:Value}{y:DataW H×List MemPlace}(h:DataW.trod enc prog W base spare held n 37 [c0,c1]=some y):∃ neg xs q cap,c0=.bool neg/\c1=.slice q xs.length cap/\Sl W (.slice q xs.length cap) xs:=by
 obtain⟨y0,y1,m,_,_,c,d⟩:=trod_struct2 underlying37 h;have k0:prog.cellsOf 4=1:=by kernel_rfl
 have k1:prog.cellsOf 35=1:=by kernel_rfl
 simp only[k0,k1]at c d;obtain⟨b,e0,_⟩:=DataW.trod_bool underlying4 (show DataW.trod enc prog W base spare held m 4 [c0]=some y0 from c);simp only[Iu,and_true]at e0;obtain⟨q,cap,xs,e1,e,_⟩:=A11 (show DataW.trod enc prog W base spare held m 35 [c1]=some y1 from d);exact⟨b,xs,q,cap,e0,e1,e⟩
end Go.Qf
namespace Go.Qf
open Go Go.RowKit Go.Proofs Go.Proofs.Tryz
theorem A3O {n:Nat}{f:Nat->Nat->Int}(c:A1q n f):∃ f',mk n n f'=mk n n f/\(∀ p q,f' p q=f' q p)/\(∀ p q,p<n->q<n->RA f' p q=RA f p q):=by
 refine⟨fun p q=>if p<n/\q<n then f p q else 0,BV fun a b d e=>by rw[if_pos ⟨d,e⟩],fun p q=>?_,fun p q g j=>by unfold RA;dsimp only;rw[if_pos ⟨g,j⟩]⟩;dsimp only;by_cases h:p<n/\q<n
 ·rw[if_pos h,if_pos h.symm];exact c.1 p q h.1 h.2
 ·rw[if_neg h,if_neg (fun k=>h k.symm)]
theorem A3P {w:World}{v:Value}{most:Nat}(h:Nt w v) (E:1<=most/\most<=8) :
  Calls prog 31 #[v,.int .i64 most] w (AJ fun x w'=>Ac w w'/\∃ n f,1<=n/\n<=most/\Ft w' x (mk n n f)/\BQ n f):=by
 have C:=h;obtain⟨d,kd,s1,s2,xs,rfl,O,P,N,Q⟩:=h;refine cS func31 ntmps31 ?_;refine Nv ?_;refine .s (oB) ?_;rintro _ w1 ⟨rfl,B1,z,R⟩;refine A7 ?_;refine .p (A0.aA A8 (cs:=[.int .u8 d,.int .u8 kd,s1,s2]) rfl rfl rfl B1 (Ai 4) rfl) ?_;refine .r rfl ?_;refine .s (oK Ja (A3J (C.ext z) E)) ?_;rintro G w2 ⟨K,n,f,y,H,b,l,j,D⟩;have F:1<=n/\n<=16:=by omega
 refine .s (oK O7 (A7I (base:=0) b F l de BI)) ?_;rintro A w3 ⟨L,k⟩;obtain⟨f',e,J,g⟩:=A3O j;rw[<- e]at k;have I:Ld n (RA f'):=by
  intro m o;rw[HC g m o];by_cases e0:m=0
  ·subst e0;show (0:Rat)<1;decide
  ·exact j.2 m oo o
 refine .s (oK Wf (ZZ k ⟨y,by omega⟩ J I (by rw[HC g n AO];exact D) (fun q c=>by rw[g q q c c];unfold RA;have:=(l q q c c).2;exact_mod_cast this))) ?_;rintro _ S ⟨M,u,t,a,rfl,i,B⟩;refine A7 ?_;exact uR ⟨((z.trans K).trans L).trans M,n,a,y,H,i,B⟩
variable {base j s1 s2 base':Nat}{w' w1:World}{t ty et:TypeId}{af:Array Edge}{g:Option (Nat×Bool)}{x:Operand}{d:Option Tmp}{us cs:List Value}{z y:Value}{ti:TI}
section
variable {n:Nat}{E:List (Nat×Value)}{w:World}
theorem Av.appL {s:Operand}{pos:String}{v:Value}
  (h:Aq 1 et base w v us) (V:Jk et w y cs) (k:∀ c ∈ cs,c.cells=#[c]/\c.oneCell'=true) (S:AG TB t=some ⟨.slice et,s1,s2,z⟩) (T:AG TB et=some ti) (R:ti.size=1) (W:ti.zero.cells.size=1) (N:ov E s=some v) (U:ov E x=some y)
  (L:us.length+cs.length<=1000000) (D:Nat.ble ti.bytes 1000=true) (B:base<=w.heap.size) :
  Av prog n ⟨d,.call ⟨.builtin .append,#[s,x],#[t,t]⟩,ty,pos,af,g⟩ E w (fun v' w'=>Aq 1 et base w' v' (us++cs)/\w.grownBy w' v.ownBlock/\(v'.ownBlock=v.ownBlock\/v'.ownBlock=some w.heap.size)):=by
 obtain⟨f,_⟩:=A8 t _ S;obtain⟨_,inf,b,Q,C,X⟩:=A8 et ti T;have F:ti.bytes<=1000:=Jr D;have u:AV cs=cs:=CO cs (fun c e=>(k c e).1);have O:M8 1 (us++cs):=by
  intro c e;rcases FB.1 e with e | e
  ·exact h.1 c e
  ·rw[(k c e).1];exact⟨rfl,by simpa using (k c e).2⟩
 have I:AV (us++cs)=AV us++cs:=by unfold AV at u ⊢;rw[LU,u]
 obtain⟨p,cap,hv,Z,i,G⟩:=V;have key:∃ v' w',(Builtin.append_ #[t,t] ty #[v,y]).run prog w=.ok v' w'/\Aq 1 et base w' v' (us++cs)/\w.grownBy w' v.ownBlock/\(v'.ownBlock=v.ownBlock\/v'.ownBlock=some w.heap.size):=by
  cases p with
  | none =>
   have e0:=i rfl;have H:cs=[]:=FA oo;subst H;subst e0;subst hv;refine⟨v,w,run_append_owned_none (P:=prog) w base t ty et inf 1 f b v us.length (AV us) h.owns,by rw[D7];exact h,⟨rfl,rfl,rfl,Ai _,fun _ _ _=>rfl⟩,.inl rfl⟩
  | some a =>
   subst hv;obtain⟨v',w',q,l,m,Y,o⟩:=run_append_own_at (P:=prog) w base t ty et inf ti.zero 1 ti.bytes f b X (Q.trans R) C W de v us.length (AV us) h.owns a cs.length cap cs oo
    (fun j c J=>G a rfl j c J) (fun c e=>(k c e).2) (by unfold maxLen;omega) (by have:(us.length+cs.length) * ti.bytes<=1000000 * 1000:=Dg L F;omega) B
   refine⟨v',w',q,Aq.bU O (by rw[Bf,I];exact l),m,o⟩
 obtain⟨v',w',q,l,m,o⟩:=key;intro a r Q' K A;have e1:=r.eval N;have e2:=r.eval U;have M:(execOp a.eval ⟨d,.call ⟨.builtin .append,#[s,x],#[t,t]⟩,ty,pos,af,g⟩).run prog w=.ok (.value v') w':=by generalize a.eval=ρ at e1 e2;simp only[execOp,resolve,invoke,builtin,Bq,AX,Bp,Js,Er,J4,e1,e2,q]
 unfold Oper.wp;rw[M,Oper.upon_value];exact A v' w' ⟨l,m,o⟩
end
theorem A71 (xs:List Int):∀ c ∈ xs.map DZ,c.cells=#[c]/\c.oneCell'=true:=by intro u hu;obtain⟨x,_,rfl⟩:=CG.1 hu;exact⟨rfl,rfl⟩
def LO (base:Nat) (w:World) (v:Value) (xs:List Int):Prop:=Aq 1 2 base w v (xs.map DZ)
theorem LO.ext {w:World}{v:Value}{xs:List Int}(h:LO base w v xs) (c:Ac w w'):LO base w' v xs:=Aq.ext h c
theorem LO.mono {w:World}{v:Value}{xs:List Int}(h:LO base w v xs) (c:base'<=base):LO base' w v xs:=Aq.mono h c
theorem LO.l64 {w:World}{v:Value}{xs:List Int}(h:LO base w v xs):Nh w v xs:=Aq.row h (EH xs)
theorem A1D {w:World}{x:Int}{xs:List Int}(h:Nh w1 y xs) (c:xs.length<=1000) (d:Ac w w1) (B:Aj 2 w1 w.heap.size [.int .i64 x]):Aq 1 2 w.heap.size w1 (.slice (some ⟨w.heap.size,0,none⟩) 1 1) [DZ x] :=
 ⟨RQ [x],.inr ⟨w.heap.size,1,[],rfl,Ai _,B,rfl,Ai _,by unfold maxLen;omega⟩⟩
theorem QM {w:World}{x:Int}{xs:List Int}(h:Nh w y xs) (l:xs.length<=1000) :
  Calls prog 127 #[.int .i64 x,y] w (AJ fun r w'=>Ac w w'/\LO w.heap.size w' r (x::xs)):=by
 refine cS func127 ntmps127 ?_;refine A7 ?_;refine .s (Av.aP (k:=1) rfl rfl rfl rfl rfl (.inl ⟨rfl,rfl,rfl⟩)) ?_;rintro _ w1 ⟨rfl,B,c,m⟩;refine .r rfl ?_;have d:=A1D (h.ext c) l c B;refine .s (Av.appL d (h.ext c) (A71 xs) rfl rfl rfl rfl rfl rfl (by simp;omega) rfl c.size) ?_;rintro v' w2 ⟨e,j,_⟩;have g:Ac w w2:=by
  rcases CB d j with hE | ⟨b,C,_,hb,_,hU⟩
  ·exact c.trans hE
  ·exact c.aj hU hb
 refine A7 ?_;exact uR ⟨g,e⟩
theorem Nh.cell {w:World}{v:Value}{xs:List Int}(h:Nh w v xs) (g:j<xs.length):∃ a c,v=.slice (some a) xs.length c/\w.cell? (a.add j)=some (.int .i64 (xs.getD j 0)):=by
 have k:(xs.map DZ)[j]?=some (DZ (xs.getD j 0)):=by simp[g,Bd]
 obtain⟨a,c,e,d⟩:=Jk.get h k;have l:(xs.map DZ).length=xs.length:=by simp
 rw[l]at e;exact⟨a,c,e,d⟩
variable {n m cap:Nat}{f:Nat->Nat->Int}{E:List (Nat×Value)}{M:List (List Int)}{P:Program}{T:List (Nat×TI)}{k':IntKind}{jv:Int}
theorem Addr.add_add (a:Addr) (i j:Nat):(a.add i).add j=a.add (i+j):=by
 unfold Addr.add;by_cases c:i=0
 ·subst c;simp
 ·by_cases d:j=0
  ·subst d;simp
  ·simp[c,d,HS]
theorem A0.bC {w:World}(c:Aw P T) {u:Operand}{pos:String}{p:Option Addr}{len:Nat}
  (m:AG T t=some ⟨.slice et,s1,s2,z⟩) (o:AG T et=some ti) (q:ov E x=some (.slice p len cap)) (hu:ov E u=some (.int k' jv)) (j:Nat) (l:jv=j) (k:j<=len) :
  A0 P n ⟨d,.slice t x (some u) none none,ty,pos,af,g⟩ E w (.slice (if cap=j then p else p.map (·.add (j * ti.size))) (len - j) (cap - j)):=by subst l;intro a e;have e1:=e.eval q;have e3:=e.eval hu;generalize a.eval=ρ at e1 e3;simp[execOp,Instr.sliceAt,Instr.slice,Instr.sliceBounds,Instr.sliceBound,e1,e3,Ag c m,AK c o,asIntOf,k,go_sem]
def G8 (w:World) (v:Value) (n:Nat) (f:Nat->Nat->Int):Prop:=∃ a cap,v=.slice (some a) n cap/\n<=cap/\∀ i,i<n->∃ b c,w.cell? (a.add i)=some (.slice (some b) n c)/\n<=c/\∀ j,j<n->w.cell? (b.add j)=some (.int .i64 (f i j))
theorem G8.ext {w:World}{v:Value}(h:G8 w v n f) (d:Ac w w'):G8 w' v n f:=by obtain⟨a,cap,hv,l,h⟩:=h;refine⟨a,cap,hv,l,fun i m=>?_⟩;obtain⟨b,c,e,g,k⟩:=h i m;exact⟨b,c,d.cell e,g,fun j o=>d.cell (k j o)⟩
theorem Ft.at {w:World}{v:Value}(h:Ft w v (mk n n f)) (x:0<n):G8 w v n f:=by
 obtain⟨rs,m,c,o⟩:=h;rw[AU]at c;obtain⟨p,cap,hv,s,k,q⟩:=m;cases p with
 | none=>have:=k rfl;omega
 | some a =>
  refine⟨a,cap,by rw[hv,c],by omega,fun i u=>?_⟩;have e:rs[i]?=some (rs[i]'oo):=by simp
  have t:=o i _ _ e (BK u);obtain⟨p2,c2,g,d,l,r⟩:=t;have z:(((List.range n).map (f i)).map DZ).length=n:=by simp
  rw[z]at g d;cases p2 with
  | none=>have:=l rfl;omega
  | some b =>
   refine⟨b,c2,by rw[<- g];exact q a rfl i _ e,d,fun j y=>r b rfl j _ (by simp[y])⟩
def Yk (M:List (List Int)):Prop:=(1<=M.length/\M.length<=8)/\(∀ (i:Nat) (row:List Int),M[i]?=some row->row.length=M.length)/\∀ i j,i<M.length->j<M.length->ent M i j=ent M j i/\-262144<ent M i j/\ent M i j<262144
theorem A2x (h:∀ (i:Nat) (row:List Int),M[i]?=some row->row.length=M.length):M=mk M.length M.length (ent M):=by
 apply Fk;intro i;by_cases e:i<M.length
 ·rw[BK e];have c:M[i]?=some M[i]:=by simp
  rw[c];congr 1;have k:=h i _ c;apply Fk;intro j;by_cases g:j<M.length
  ·have d:(M[i])[j]?=some ((M[i])[j]'oo):=by simp
   rw[d,Fu g,A2m c d]
  ·rw[BJ oo,BJ (by simp;omega)]
 ·rw[BJ oo,BJ (by rw[AU];omega)]
theorem Yl {w:World}{v:Value}(h:Ft w v M) (Q:M.length<=1000000) :
  Calls prog 91 #[v] w (AJ fun x w'=>Ac w w'/\∃ b,x=.bool b/\(b=true↔Yk M)):=by
 obtain⟨p,cap,hv⟩:=h.len;have E:=h;obtain⟨rs,B,C,D⟩:=h;subst hv;refine cS func91 ntmps91 ?_;refine Nv ?_;refine .r rfl ?_;refine Nv ?_;refine .r rfl ?_;refine Nv ?_;by_cases R:M.length<1
 ·refine .a 2 (.bool true) rfl (Aa oo) ?_;refine A7 ?_;refine .ct ?_;exact Ad.ax rfl rfl ⟨Ac.refl _,false,rfl,⟨fun h=>(by cases h),fun h=>absurd h.1 oo⟩⟩
 refine .a 2 (.bool false) rfl (A9 oo) ?_;by_cases P:8<M.length
 ·refine .a 3 (.bool true) rfl (Aa oo) ?_;refine A7 ?_;refine .ct ?_;exact Ad.ax rfl rfl ⟨Ac.refl _,false,rfl,⟨fun h=>(by cases h),fun h=>absurd h.1 oo⟩⟩
 refine .a 3 (.bool false) rfl (A9 oo) ?_;refine A7 ?_;refine .cf ?_;refine H6 (20) (0) (M.length) [(0,.slice p M.length cap),(3,.int .i64 M.length),(18,.slice p M.length cap),(19,.int .i64 M.length)] (fun i w'=>w'=w/\∀ (k:Nat) (row:List Int),k<i->M[k]?=some row->row.length=M.length) ?_ ?_ ?_
 ·exact⟨rfl,fun k row K=>by omega⟩
 ·rintro i w l ⟨rfl,g⟩;have z:M[i]?=some M[i]:=by simp
  have s:rs[i]?=some (rs[i]'oo):=by simp
  obtain⟨a,c,ea,t⟩:=B.get s;rw[C]at ea;cases ea;obtain⟨p2,c2,e2⟩:=(D i _ _ s z).len;rw[e2]at t;refine Nv ?_;refine .p (A0.ia) ?_;refine .p (rL t) ?_;refine .r rfl ?_;refine Nv ?_;by_cases e:(M[i]).length=M.length
  ·refine .a 4 (.bool false) rfl (by rw[bne_eq_false_iff_eq.2 oo]) ?_;refine A7 ?_;refine .cF ?_;refine Nv ?_;refine Ad.rnd AL ⟨rfl,fun k row K d=>?_⟩;by_cases e3:k=i
   ·subst e3;rw[z]at d;cases d;exact e
   ·exact g k row oo d
  ·refine .a 4 (.bool true) rfl (by rw[bne_iff_ne.2 oo]) ?_;refine A7 ?_;refine .ct ?_;exact Ad.ax rfl rfl ⟨Ac.refl _,false,rfl,⟨fun h=>(by cases h),fun h=>absurd (h.2.1 i _ z) e⟩⟩
 ·rintro w ⟨rfl,g⟩;have A:∀ (i:Nat) (row:List Int),M[i]?=some row->row.length=M.length:=fun i row d=>g i row (Au.1 d).1 d;have o:G8 _ _ _ _:=Ft.at (n:=M.length) (f:=ent M) (by rw[<- A2x A];exact E) oo;generalize L:M.length=n at *
  generalize J:ent M=f at *
  obtain⟨a,cap',ea,O,o⟩:=o;cases ea;have q:Yk M↔∀ i j,i<n->j<n->f i j=f j i/\-262144<f i j/\f i j<262144:=by unfold Yk;rw[L,J];exact⟨fun h=>h.2.2,fun h=>⟨by omega,A,h⟩⟩
  refine A7 ?_;refine H6 (31) (0) (n) [(0,.slice (some a) n cap),(29,.slice (some a) n cap),(30,.int .i64 n)] (fun i w'=>w'=w/\∀ x y,x<i->y<n->f x y=f y x/\-262144<f x y/\f x y<262144) ?_ ?_ ?_
  ·exact⟨rfl,fun x y N=>by omega⟩
  ·rintro i w l ⟨rfl,g⟩;obtain⟨b,c,F,_,G⟩:=o i l;refine A7 ?_;refine .p (A0.ia) ?_;refine .p (rL F) ?_;refine A7 ?_;refine H6 (38) (0) (n) [(31,.int .i64 i),(0,.slice (some a) n cap),(29,.slice (some a) n cap),(30,.int .i64 n),(6,.int .i64 i),(36,.slice (some b) n c),(37,.int .i64 n)] (fun j w'=>w'=w/\∀ y,y<j->f i y=f y i/\-262144<f i y/\f i y<262144) ?_ ?_ ?_
   ·exact⟨rfl,fun y u=>by omega⟩
   ·rintro j w m ⟨rfl,d⟩;obtain⟨b2,c2,H,_,I⟩:=o j m;refine A7 ?_;refine .p (A0.ia) ?_;refine .p (rL (G j m)) ?_;refine A7 ?_;refine .p (A0.ia) ?_;refine .p (rL H) ?_;refine .r rfl ?_;refine .p (A0.ia) ?_;refine .p (rL (I i l)) ?_;by_cases e:f i j=f j i
    ·refine .a 1 (.bool false) rfl (by rw[bne_eq_false_iff_eq.2 e]) ?_;by_cases e2:f i j<=-262144
     ·refine .a 3 (.bool true) rfl (Aa e2) ?_;refine A7 ?_;refine .ct ?_;exact Ad.ax rfl rfl ⟨Ac.refl _,false,rfl,⟨fun h=>(by cases h),fun h=>absurd ((q.1 h) i j l m).2.1 oo⟩⟩
     ·refine .a 3 (.bool false) rfl (A9 e2) ?_;by_cases e3:f i j>=262144
      ·refine .a 4 (.bool true) rfl (Aa e3) ?_;refine A7 ?_;refine .ct ?_;exact Ad.ax rfl rfl ⟨Ac.refl _,false,rfl,⟨fun h=>(by cases h),fun h=>absurd ((q.1 h) i j l m).2.2 oo⟩⟩
      ·refine .a 4 (.bool false) rfl (A9 e3) ?_;refine A7 ?_;refine .cF ?_;refine Nv ?_;refine Ad.rnd AL ⟨rfl,fun y u=>?_⟩;by_cases e4:y=j
       ·subst e4;exact⟨e,by omega,by omega⟩
       ·exact d y oo
    ·refine .a 1 (.bool true) rfl (by rw[bne_iff_ne.2 e]) ?_;refine A7 ?_;refine .ct ?_;exact Ad.ax rfl rfl ⟨Ac.refl _,false,rfl,⟨fun h=>(by cases h),fun h=>absurd ((q.1 h) i j l m).1 e⟩⟩
   ·rintro w ⟨rfl,d⟩;refine Nv ?_;refine Ad.rnd AL ⟨rfl,fun x y N u=>?_⟩;by_cases e4:x=i
    ·subst e4;exact d y u
    ·exact g x y oo u
  ·rintro w ⟨rfl,g⟩;refine A7 ?_;exact Ad.ax rfl rfl ⟨Ac.refl _,true,rfl,⟨fun _=>q.2 g,fun _=>rfl⟩⟩
def A1E (m:Nat) (g:Nat->Nat->Int):Prop:=(0<g 0 0/\g 0 0<65536)/\∀ i,0<i->i<m->2 * g i 0<=g 0 0/\-(2 * g i 0)<=g 0 0
theorem RX {w:World}{v:Value}{g:Nat->Nat->Int}(h:G8 w v m g) (D:2<=m/\m<=1000000) (f:∀ i j,i<m->j<m->-1099511627776<=g i j/\g i j<=1099511627776) :
  Calls prog 92 #[v] w (AJ fun x w'=>Ac w w'/\∃ b,x=.bool b/\(b=true↔A1E m g)):=by
 obtain⟨a,cap,rfl,s,k⟩:=h;obtain⟨b0,c0,u,_,t⟩:=k 0 oo;refine cS func92 ntmps92 ?_;refine A7 ?_;refine .p (A0.ia) ?_;refine .p (rL u) ?_;refine .p (A0.ia) ?_;refine .p (rL (t 0 oo)) ?_;refine .r rfl ?_;refine Nv ?_;by_cases C:g 0 0<=0
 ·refine .a 2 (.bool true) rfl (Aa oo) ?_;refine A7 ?_;refine .ct ?_;exact Ad.ax rfl rfl ⟨Ac.refl _,false,rfl,⟨fun h=>(by cases h),fun h=>absurd h.1.1 oo⟩⟩
 refine .a 2 (.bool false) rfl (A9 oo) ?_;by_cases A:65536<=g 0 0
 ·refine .a 3 (.bool true) rfl (Aa oo) ?_;refine A7 ?_;refine .ct ?_;exact Ad.ax rfl rfl ⟨Ac.refl _,false,rfl,⟨fun h=>(by cases h),fun h=>absurd h.1.2 oo⟩⟩
 refine .a 3 (.bool false) rfl (A9 oo) ?_;refine A7 ?_;refine .cf ?_;refine .p (A0.bC A8 rfl rfl rfl rfl 1 rfl oo) ?_;rw[if_neg oo];obtain⟨q,rfl⟩:∃ q,m=q+1:=⟨m - 1,by omega⟩;simp only[LP,TM];refine A7 ?_;refine H6 (20) (0) (q) [(3,.int .i64 (g 0 0)),(18,.slice (some (a.add (1 * 1))) q (cap - 1)),(19,.int .i64 q)] (fun i w'=>w'=w/\∀ x,0<x->x<i+1->2 * g x 0<=g 0 0/\-(2 * g x 0)<=g 0 0) ?_ ?_ ?_
 ·exact⟨rfl,fun x e o=>by omega⟩
 ·rintro i w B ⟨rfl,d⟩;obtain⟨b,c,y,_,l⟩:=k (i+1) oo;have z:w.cell? ((a.add (1 * 1)).add i)=some (.slice (some b) (q+1) c):=by rw[Addr.add_add,show 1 * 1+i=i+1 by omega];exact y
  have n:=f (i+1) 0 oo oo;refine A7 ?_;refine .p (A0.ia) ?_;refine .p (rL z) ?_;refine A7 ?_;refine .p (A0.ia) ?_;refine .p (rL (l 0 oo)) ?_;refine .a 1 (.int .i64 (2 * g (i+1) 0)) rfl (by rw[Ab oo oo]) ?_;by_cases e1:2 * g (i+1) 0 > g 0 0
  ·refine .a 2 (.bool true) rfl (Aa e1) ?_;refine A7 ?_;refine .ct ?_;exact Ad.ax rfl rfl ⟨Ac.refl _,false,rfl,⟨fun h=>(by cases h),fun h=>absurd (h.2 (i+1) oo oo).1 oo⟩⟩
  ·refine .a 2 (.bool false) rfl (A9 e1) ?_;refine .r rfl ?_;refine .p (A0.ia) ?_;refine .p (rL (l 0 oo)) ?_;refine .a 1 (.int .i64 (-(2 * g (i+1) 0))) rfl (by rw[Ab oo oo];congr 1;omega) ?_;by_cases e2:-(2 * g (i+1) 0) > g 0 0
   ·refine .a 2 (.bool true) rfl (Aa e2) ?_;refine A7 ?_;refine .ct ?_;exact Ad.ax rfl rfl ⟨Ac.refl _,false,rfl,⟨fun h=>(by cases h),fun h=>absurd (h.2 (i+1) oo oo).2 oo⟩⟩
   ·refine .a 2 (.bool false) rfl (A9 e2) ?_;refine A7 ?_;refine .cF ?_;refine Nv ?_;refine Ad.rnd AL ⟨rfl,fun x e o=>?_⟩;by_cases e4:x=i+1
    ·subst e4;exact⟨by omega,by omega⟩
    ·exact d x e oo
 ·rintro w ⟨rfl,d⟩;refine A7 ?_;exact Ad.ax rfl rfl ⟨Ac.refl _,true,rfl,⟨fun _=>⟨⟨by omega,by omega⟩,d⟩,fun _=>rfl⟩⟩
theorem A0.quoT {P:Program}{n:Nat}{E:List (Nat×Value)}{w:World}{d:Option Tmp}{t t2:TypeId}{x y:Operand}{ty:TypeId}{pos:String}{af:Array Edge}{g:Option (Nat×Bool)}{k:IntKind}{m s:Int}(hx:ov E x=some (.int k m)) (hy:ov E y=some (.int k s)) (hs:s≠0) :
  A0 P n ⟨d,.binOp .quo t x y t2,ty,pos,af,g⟩ E w (.int k (k.wrap (m.tdiv s))):=by intro a ha;have e1:=ha.eval hx;have e2:=ha.eval hy;generalize a.eval=ρ at e1 e2;simp[execOp,e1,e2,eqGuard,binOp,Op.intDiv,hs,go_sem]
section
variable {n k:Nat}{f:Nat->Nat->Int}
structure OkS (n:Nat) (f:Nat->Nat->Int) (k:Nat):Prop where
 pos:Ld k (RA f)
 lt:∀ m,m<=k->dd (RA f) m<65536
 sz:∀ l,l<k->∀ i,l<i->i<n->Ok (RA f) i l
theorem A5k (hS:PE (RA f)) (h:OkS n f k) (hf:∀ p q,p<n->q<n->RA f p q<=262144/\-262144<=RA f p q):∀ m,m<=k->∀ p q,m<=p->m<=q->p<n->q<n->EL (RA f) m p q<=262144+(m:Rat) * 16384/\-(262144+(m:Rat) * 16384)<=EL (RA f) m p q:=by
 intro m;induction m with
 | zero =>
  intro _ p q _ _ hp hq;have:=hf p q hp hq;have e:((0:Nat):Rat)=0:=rfl;rw[e];have e2:EL (RA f) 0 p q=RA f p q:=rfl;rw[e2];constructor <;> grind
 | succ m ih =>
  intro hm p q hp hq hpn hqn;have i1:=ih oo p q oo oo hpn hqn;have hB:=CI h.pos (show m<k by omega);have hB2:=A5h h.pos (show m<k by omega) (h.lt (m+1) hm);have s1:=(RU (h.pos m oo)).1 (h.sz m oo p oo hpn);have s2:=(RU (h.pos m oo)).1 (h.sz m oo q oo hqn);have e:((m+1:Nat):Rat)=(m:Rat)+1:=by rw[U1];rfl
  rw[Cn,e,RP hS m m q];have hv:=Gb _ (show EL (RA f) m m m≠0 by grind);have hp2:=Nr hB;generalize EL (RA f) m p m=x at *
  generalize EL (RA f) m q m=y at *
  generalize EL (RA f) m m m=B at *
  generalize B⁻¹=v at *
  have h1:=Yh (a:=2 * x) (b:=2 * y) (M:=B) (c:=B) ⟨by grind,by grind⟩ ⟨by grind,by grind⟩;have h2:=Ch (Bz hp2) h1.1;have h3:=Ch (Bz hp2) h1.2;have e1:v * (B * B)=B:=by grind
  have e2:v * (-(B * B))=-B:=by grind
  rw[e1]at h2;rw[e2]at h3;constructor <;> grind
theorem A01 (hS:PE (RA f)) (h:OkS n f k) (hk:k<=8) (hf:∀ p q,p<n->q<n->RA f p q<=262144/\-262144<=RA f p q) {p q:Nat}(hp:k<=p) (hq:k<=q) (hpn:p<n) (hqn:q<n):BB (RA f) k p q<=25769803776/\-25769803776<=BB (RA f) k p q:=by
 have h1:=A5k hS h hf k AO p q hp hq hpn hqn;have h2:(k:Rat)<=8:=by exact_mod_cast hk
 have h3:=h.lt k AO;have h4:=h.pos k AO;unfold BB;have:=Yh (a:=dd (RA f) k) (b:=EL (RA f) k p q) (M:=65536) (c:=393216) ⟨by grind,by grind⟩ ⟨by grind,by grind⟩;constructor <;> grind
theorem Vs {z:Int}{a b:Int}(h:(z:Rat)<=(b:Rat)/\-(a:Rat)<=(z:Rat)):-a<=z/\z<=b:=by refine⟨?_,by exact_mod_cast h.1⟩;have h2:=h.2;rw[<- Q5]at h2;exact_mod_cast h2
theorem rlt {z:Int}:(z:Rat)<65536↔z<65536:=Rat.intCast_lt_intCast (a:=z) (b:=65536)
theorem A8i {z:Int}:(z:Rat)<262144↔z<262144:=Rat.intCast_lt_intCast (a:=z) (b:=262144)
theorem A8j {z:Int}:-262144<(z:Rat)↔-262144<z:=Rat.intCast_lt_intCast (a:=-262144) (b:=z)
def YY (g:Nat->Nat->Int) (L:Int):Nat->Nat->Int:=fun i j=>(g 0 0 * g (i+1) (j+1) - g (i+1) 0 * g 0 (j+1)).tdiv L
def Stg (n:Nat) (f:Nat->Nat->Int) (k:Nat) (g:Nat->Nat->Int) (L:Int):Prop:=(L:Rat)=dd (RA f) k/\∀ i j,i<n - k->j<n - k->(g i j:Rat)=BB (RA f) k (k+i) (k+j)
theorem Stg.bnd {g:Nat->Nat->Int}{L:Int}(h:Stg n f k g L) (hS:PE (RA f)) (hO:OkS n f k) (hk:k<=8) (hf:∀ p q,p<n->q<n->RA f p q<=262144/\-262144<=RA f p q) {i j:Nat}(hi:i<n - k) (hj:j<n - k):-25769803776<=g i j/\g i j<=25769803776:=by have h1:=A01 hS hO hk hf (show k<=k+i by omega) (show k<=k+j by omega) oo oo;rw[<- h.2 i j hi hj]at h1;exact Vs (a:=25769803776) (b:=25769803776) h1
theorem Stg.L_pos {g:Nat->Nat->Int}{L:Int}(h:Stg n f k g L) (hO:OkS n f k):0<L/\L<65536:=by have h1:=hO.pos k AO;have h2:=hO.lt k AO;rw[<- h.1]at h1 h2;exact⟨by exact_mod_cast h1,rlt.1 h2⟩
theorem Stg.short {g:Nat->Nat->Int}{L:Int}(h:Stg n f k g L) (hkn:k<n):A1E (n - k) g↔(0<dd (RA f) (k+1)/\dd (RA f) (k+1)<65536)/\∀ i,k<i->i<n->Ok (RA f) i k:=by
 have h0:=h.2 0 0 oo oo;rw[Ep,Fv]at h0;have hi:∀ i,k<i->i<n->(g (i - k) 0:Rat)=BB (RA f) k i k:=fun i h1 h2=>by have:=h.2 (i - k) 0 oo oo;rw[show k+(i - k)=i by omega,Ep]at this;exact this
 have c2:((2:Int):Rat)=2:=rfl;constructor
 ·rintro⟨⟨a1,a2⟩,a3⟩;refine⟨by rw[<- h0];exact⟨by exact_mod_cast a1,rlt.2 a2⟩,fun i h1 h2=>?_⟩;have:=a3 (i - k) oo oo;unfold Ok;rw[<- hi i h1 h2,<- h0,<- c2,<- FG,<- Q5];exact⟨by exact_mod_cast this.1,by exact_mod_cast this.2⟩
 ·rintro⟨⟨a1,a2⟩,a3⟩;rw[<- h0]at a1 a2;refine⟨⟨by exact_mod_cast a1,rlt.1 a2⟩,fun i h1 h2=>?_⟩;have:=a3 (k+i) oo oo;unfold Ok at this;rw[<- hi (k+i) oo oo,<- h0,show k+i - k=i by omega,<- c2,<- FG,<- Q5]at this;exact⟨by exact_mod_cast this.1,by exact_mod_cast this.2⟩
theorem Stg.next {g:Nat->Nat->Int}{L:Int}(h:Stg n f k g L) (hp:∀ m,m<=k+1->0<dd (RA f) m) (hkn:k+1<n):Stg n f (k+1) (YY g L) (g 0 0):=by
 have h0:=h.2 0 0 oo oo;rw[Ep,Fv]at h0;refine⟨h0,fun i j hi hj=>?_⟩;have hne:dd (RA f) (k+1)≠0:=by have:=hp (k+1) AO;grind
 have hne0:dd (RA f) k≠0:=by have:=hp k oo;grind
 obtain⟨z,hz⟩:=Y4 (Y9 f) (k+1) (k+1+i) (k+1+j) hne;have hs:=Y6 (RA f) k (k+1+i) (k+1+j) hne;have e1:=h.2 (i+1) (j+1) oo oo;have e2:=h.2 (i+1) 0 oo oo;have e3:=h.2 0 (j+1) oo oo;rw[show k+(i+1)=k+1+i by omega]at e1 e2;rw[show k+(j+1)=k+1+j by omega]at e1 e3;rw[Ep k]at e2 e3;rw[Fv,hz,<- h.1,<- h0,<- e1,<- e2,<- e3,<- FG,<- FG,<- FG,<- Rat.intCast_sub]at hs;have hs':z * L=g 0 0 * g (i+1) (j+1) - g (i+1) 0 * g 0 (j+1):=by exact_mod_cast hs
 have hL:L≠0:=by intro e;rw[e]at h;apply hne0;rw[<- h.1];rfl
 rw[hz];unfold YY;rw[<- hs',Int.mul_tdiv_cancel _ hL]
theorem OkS.next {g:Nat->Nat->Int}{L:Int}(hO:OkS n f k) (h:Stg n f k g L) (hs:A1E (n - k) g) (hkn:k<n):OkS n f (k+1):=by
 obtain⟨⟨a1,a2⟩,a3⟩:=(h.short hkn).1 hs;refine⟨fun m hm=>?_,fun m hm=>?_,fun l hl i h1 h2=>?_⟩
 ·by_cases e:m=k+1
  ·subst e;exact a1
  ·exact hO.pos m oo
 ·by_cases e:m=k+1
  ·subst e;exact a2
  ·exact hO.lt m oo
 ·by_cases e:l=k
  ·subst e;exact a3 i h1 h2
  ·exact hO.sz l oo i h1 h2
theorem Stg.lov {g g':Nat->Nat->Int}{L d:Int}(h:Stg n f k g L) (h':Stg n f (k+1) g' d) (hkn:k+1<n):Ww (RA f) (k+1)↔3 * d * d<=4 * (L * g' 0 0+g 1 0 * g 1 0):=by
 have h0:=h'.2 0 0 oo oo;rw[Ep,Fv]at h0;have h1:=h.2 1 0 oo oo;rw[Ep k]at h1;unfold Ww;rw[show k+1 - 1=k by omega,<- h0,<- h1,<- h.1,<- h'.1];have e:(3:Rat) * ((d:Rat) * d)=((3 * d * d:Int):Rat):=by rw[FG,FG];have:((3:Int):Rat)=3:=rfl;rw[this];grind
 have e2:(4:Rat) * ((L:Rat) * (g' 0 0:Rat)+(g 1 0:Rat) * (g 1 0:Rat))=((4 * (L * g' 0 0+g 1 0 * g 1 0):Int):Rat):=by rw[FG,U2,FG,FG];rfl
 rw[e,e2];exact Iy
end
theorem Ie.small {M:List (List Int)}(h:Ie M):Yk M:=by
 obtain⟨hR,_⟩:=h.bq;have hS:PE (RA (ent M)):=fun p q=>by unfold RA;rw[hR.sym p q]
 obtain⟨ho,hl,h8,hf,hd,hr⟩:=h;refine⟨⟨ho.1,h8⟩,fun i row hi=>by have:=(ho.2.2 i row hi).2.2;omega,fun i j hi hj=>⟨hR.sym i j,?_⟩⟩;have:=RV h8 hS hR.pos hr hd hi hj;unfold RA at this;have h1:=this.1;have h2:=this.2;exact⟨A8j.1 h2,A8i.1 h1⟩
theorem Fx {x y a b:Int}(g:-a<=x/\x<=a) (j:-b<=y/\y<=b):-(a * b)<=x * y/\x * y<=a * b:=by
 have c:x.natAbs<=a.natAbs:=by omega
 have d:y.natAbs<=b.natAbs:=by omega
 have h:=Dg c d;rw[<- NX,<- NX]at h;have e:0<=a * b:=DI oo oo;omega
theorem Nu {w:World}{v:Value}{M:List (List Int)}(h:Ft w v M) (hl:M.length<=1000000) :
  Calls prog 56 #[v] w (AJ fun x w'=>Ac w w'/\∃ b,x=.bool b/\(b=true↔Ie M)):=by
 refine cS func56 ntmps56 ?_;refine A7 ?_;refine .s (oK Uv (Yl h hl)) ?_;rintro _ w1 ⟨Z,b,rfl,t⟩;cases b
 ·refine A7 ?_;refine .ct ?_;exact Ad.ax rfl rfl ⟨Z,false,rfl,⟨fun h=>(by cases h),fun h=>t.2 h.small⟩⟩
 obtain⟨hv,G,ho⟩:=t.1 rfl;have z:G8 w1 v M.length (ent M):=(Ft.at (n:=M.length) (f:=ent M) (by rw[<- A2x G];exact h) oo).ext Z;have h8:∀ p q,ent M p q=ent M q p:=by
  intro p q;by_cases F:p<M.length
  ·by_cases I:q<M.length
   ·exact (ho p q F I).1
   ·rw[Ky rfl G (.inr oo),Ky rfl G (.inl oo)]
  ·rw[Ky rfl G (.inl oo),Ky rfl G (.inr oo)]
 have hS:PE (RA (ent M)):=fun p q=>by unfold RA;rw[h8 p q]
 have hf:∀ p q,p<M.length->q<M.length->RA (ent M) p q<=262144/\-262144<=RA (ent M) p q:=by intro p q F I;obtain⟨_,c,u⟩:=ho p q F I;unfold RA;have:=A8i.2 u;have:=A8j.2 c;constructor <;> grind
 have D:Ie M->Ld M.length (RA (ent M))/\dd (RA (ent M)) M.length<=10000/\RdP M.length (RA (ent M)):=fun h=>⟨h.bq.1.pos,h.bq.1.det,h.bq.1.rd⟩;have km:Ld M.length (RA (ent M))->dd (RA (ent M)) M.length<=10000->RdP M.length (RA (ent M))->Ie M:=by intro c u h3;have:=Vp ⟨h8,c,u,h3⟩ hv.1 hv.2;rw[<- A2x G]at this;exact this
 have kk:Ie M->∀ k,k<=M.length->dd (RA (ent M)) k<65536:=fun h k hk=>Oo hv.2 (D h).1 (D h).2.2 (D h).2.1 hk;generalize hn:M.length=n at *
 generalize ent M=f at *
 clear ho G t;refine A7 ?_;refine .cf ?_;refine St.loop (α:=Nat×Value×(Nat->Nat->Int)×Int) (fun s=>[(3,s.2.1),(4,.int .i64 s.2.2.2)]) (fun s w'=>Ac w w'/\s.1<n/\G8 w' s.2.1 (n - s.1) s.2.2.1/\Stg n f s.1 s.2.2.1 s.2.2.2/\OkS n f s.1/\∀ l,0<l->l<=s.1->Ww (RA f) l) (fun s=>n - s.1) (0,v,f,1) AL ?_ ?_
 ·refine⟨Z,by show 0<n;omega,z,⟨rfl,fun i j o A=>?_⟩,?_,fun l c u=>absurd u (by show ¬ l<=0;omega)⟩
  ·rw[AE,AE,Y5];rfl
  ·refine⟨fun m hm=>?_,fun m hm=>?_,fun l hl=>?_⟩
   ·obtain rfl:m=0:=by omega
    show (0:Rat)<1;decide
   ·obtain rfl:m=0:=by omega
    show (1:Rat)<65536;decide
   ·exact absurd hl (by show ¬ l<0;omega)
 ·clear z Z w1;rintro⟨k,S,g,L⟩ w2 ⟨P,ht,z,C,H,hu⟩;dsimp only at ht z C H hu ⊢;have ki:k<=8:=by omega
  obtain⟨ks,kt⟩:=C.L_pos H;have hs:∀ i j,i<n - k->j<n - k->-25769803776<=g i j/\g i j<=25769803776:=fun i j o A=>C.bnd hS H ki hf o A;have kc:=z;obtain⟨a,cap,rfl,ku,z⟩:=z;obtain⟨b0,c0,W,_,X⟩:=z 0 oo;refine A7 ?_;by_cases c:n - k > 1
  ·refine St.aD rfl (decide_eq_true oo) ?_;refine A7 ?_;refine .p (A0.ia) ?_;refine .p (rL W) ?_;refine .p (A0.ia) ?_;refine .p (rL (X 0 oo)) ?_;refine A7 ?_;refine .s (oK Pg (RX kc oo (fun i j o A=>by have:=hs i j o A;omega))) ?_;rintro _ w3 ⟨hd,b,rfl,t⟩;cases b
   ·refine A7 ?_;refine .ct ?_;refine Ad.ax rfl rfl ⟨P.trans hd,false,rfl,⟨fun h=>(by cases h),fun h=>t.2 ((C.short ht).2 ⟨⟨(D h).1 (k+1) oo,kk h (k+1) oo⟩,fun i c u=>(D h).2.2.1 i k u c⟩)⟩⟩
   have hw:=t.1 rfl;have U:=H.next C hw ht;have V:=C.next U.pos oo;have kv:=hw.1;have hz:∀ i,0<i->i<n - k->-32768<=g i 0/\g i 0<=32768:=fun i c u=>by have:=hw.2 i c u;omega
   refine A7 ?_;refine .cF ?_;refine Nv ?_;obtain⟨m,hm⟩:∃ m,m=n - k - 1:=⟨_,rfl⟩;refine .a 3 (.int .i64 m) rfl (by rw[Ab oo oo];congr 1;omega) ?_;refine .s (Av.make A8 m rfl rfl rfl rfl rfl rfl rfl rfl (by show m * 24<=_;omega) oo) ?_;rintro _ w4 ⟨rfl,B,h9,kq⟩;have h0:=QC (base:=w3.heap.size) AO oo B;rw[<- Nq m m (YY g L)]at h0;refine A7 ?_;refine H6 (32) (0) (m) [(3,.slice (some a) (n - k) cap),(4,.int .i64 L),(5,.int .i64 (g 0 0)),(6,.slice (some ⟨w3.heap.size,0,none⟩) m m),(31,.int .i64 m)] (fun i w'=>Ac w3 w'/\∃ rs,DK rs w3.heap.size w' (.slice (some ⟨w3.heap.size,0,none⟩) m m) (SF m m i (YY g L))) ?_ ?_ ?_
   ·exact⟨h9,_,h0⟩
   ·clear h0 B h9 kq;rintro i w5 o ⟨Q,rs,E⟩;obtain⟨b1,c1,hg,_,Y⟩:=z (i+1) oo;have J:=hd.trans Q;refine Nv ?_;refine .r rfl ?_;refine Nv ?_;refine .a 3 (.int .i64 ((i+1:Nat):Int)) rfl (Bv oo) ?_;refine .p (A0.ia) ?_;refine .p (rL (J.cell hg)) ?_;refine A7 ?_;refine .s (Av.make A8 m rfl rfl rfl rfl rfl rfl rfl rfl (by show m * 8<=_;omega) oo) ?_;rintro _ w6 ⟨rfl,B6,hx,kw⟩;refine Af.dD (w0:=w3) (E.ext hx) (by rw[Cv];exact o) AO (Q.trans hx) B6 Q.size (fun r hr=>E.bG r hr _ AO) oo rfl rfl rfl (fun _=>rfl) rfl rfl (fun _=>rfl) ?_;intro p7 w7 ka K;rw[QE o]at K;obtain⟨a3,rr,ea,_,O,hh⟩:=K.rowAt (i:=i) (by rw[Cv];exact o);cases ea;generalize h7:rs.set i (.slice (some ⟨w5.heap.size,0,none⟩) m m)=rs7 at K O;have ko:rr=.slice (some ⟨w5.heap.size,0,none⟩) m m:=by have kn:=E.rsl;rw[Cv]at kn;rw[<- h7,Bx oo]at O;simpa using O.symm
    subst ko;clear h7 E hx B6 hh;refine A7 ?_;refine H6 (48) (0) (m) [(32,.int .i64 i),(3,.slice (some a) (n - k) cap),(4,.int .i64 L),(5,.int .i64 (g 0 0)),(6,.slice (some ⟨w3.heap.size,0,none⟩) m m),(31,.int .i64 m),(7,.int .i64 i),(8,.slice (some b1) (n - k) c1),(47,.int .i64 m)] (fun j w'=>Ac w3 w'/\DK rs7 w3.heap.size w' (.slice (some ⟨w3.heap.size,0,none⟩) m m) (SF m m (i+1) (JM (YY g L) i j))) ?_ ?_ ?_
    ·refine⟨ka,?_⟩;rw[G7 (g:=fun a b=>if a<i then YY g L a b else 0)]
     ·exact K
     ·intro a b ha t;unfold JM;by_cases e:a<i
      ·rw[if_pos (.inl e),if_pos e]
      ·rw[if_neg oo,if_neg e]
    ·clear K ka;rintro j w8 A ⟨he,R⟩;have hc:=hd.trans he;obtain⟨a3,ky,ea,_,h6,hh⟩:=R.rowAt (i:=i) (by rw[Cv];exact o);cases ea;rw[O]at h6;cases h6;have q1:=hs (i+1) (j+1) oo oo;have q2:=hz (i+1) oo oo;have q3:=hs 0 (j+1) oo oo;have p1:=Fx (x:=g 0 0) (y:=g (i+1) (j+1)) (a:=65536) (b:=25769803776) oo oo;have p2:=Fx (x:=g (i+1) 0) (y:=g 0 (j+1)) (a:=32768) (b:=25769803776) oo oo;have I:=V.bnd hS U oo hf (i:=i) (j:=j) oo oo;refine A7 ?_;refine St.sub (E':=[(48,.int .i64 j),(32,.int .i64 i),(3,.slice (some a) (n - k) cap),(4,.int .i64 L),(5,.int .i64 (g 0 0)),(6,.slice (some ⟨w3.heap.size,0,none⟩) m m),(31,.int .i64 m),(7,.int .i64 i),(8,.slice (some b1) (n - k) c1),(47,.int .i64 m),(9,.int .i64 j)]) ?_ AL;refine sF 26 ?_;refine .q ?_;refine .on (fun _ _=>A0.ia) ?_;refine .on (fun _ d=>rL (d.aq.cell hh)) ?_;refine FL.as A8 5 (.int .i64 ((j+1:Nat):Int)) rfl (Bv oo) ?_;refine .on (fun _ _=>A0.ia) ?_;refine .on (fun _ d=>rL (d.aq.cell (hc.cell (Y (j+1) oo)))) ?_;refine FL.as A8 1 (.int .i64 (g 0 0 * g (i+1) (j+1))) rfl (by rw[Ab oo oo]) ?_;refine .q ?_;refine .on (fun _ _=>A0.ia) ?_;refine .on (fun _ d=>rL (d.aq.cell (hc.cell (Y 0 oo)))) ?_;refine .q ?_;refine .on (fun _ _=>A0.ia) ?_;refine .on (fun _ d=>rL (d.aq.cell (hc.cell W))) ?_;refine FL.as A8 2 (.int .i64 ((j+1:Nat):Int)) rfl (Bv oo) ?_;refine .on (fun _ _=>A0.ia) ?_;refine .on (fun _ d=>rL (d.aq.cell (hc.cell (X (j+1) oo)))) ?_;refine FL.as A8 1 (.int .i64 (g (i+1) 0 * g 0 (j+1))) rfl (by rw[Ab oo oo]) ?_;refine FL.as A8 1 (.int .i64 (g 0 0 * g (i+1) (j+1) - g (i+1) 0 * g 0 (j+1))) rfl (by rw[Ab oo oo]) ?_;refine .q ?_;refine .on (fun _ _=>A0.quoT rfl rfl oo) ?_;refine FL.aG rfl ?_;intro w9 kb _ _;have kl:IntKind.i64.wrap ((g 0 0 * g (i+1) (j+1) - g (i+1) 0 * g 0 (j+1)).tdiv L)=YY g L i j:=Ab (by unfold YY at I;omega) (by unfold YY at I;omega);rw[kl];refine Af.putW (w0:=w3) (R.ext kb) O (EX o) (j:=j) (by rw[if_pos oo,D9];exact A) AO (he.trans kb) rfl rfl rfl (fun _=>rfl) rfl rfl (fun _=>rfl) ?_;intro kx kz kp hy;rw[if_pos oo,Mf o oo A]at hy;refine Nv ?_;refine Ad.rnd AL ⟨kp,?_⟩;rw[G7 (g:=Eg (JM (YY g L) i j) i j (YY g L i j))]
     ·exact hy
     ·intro a b ha t;unfold Eg JM;by_cases e:a=i/\b=j
      ·rw[if_pos e,if_pos oo,e.1,e.2]
      ·rw[if_neg e];by_cases e2:a<i\/a=i/\b<j
       ·rw[if_pos e2,if_pos oo]
       ·rw[if_neg e2,if_neg oo]
    ·rintro w8 ⟨he,R⟩;refine Nv ?_;refine Ad.rnd AL ⟨he,rs7,?_⟩;rw[G7 (g:=JM (YY g L) i m)]
     ·exact R
     ·intro a b ha t;unfold JM;rw[if_pos oo]
   ·rintro w5 ⟨Q,rs,E⟩;rw[QD]at E;have J:=hd.trans Q;have T:=E.m64.at oo;have kd:=T;obtain⟨aN,kr,eN,_,T⟩:=T;cases eN;obtain⟨bN,cN,kf,_,kg⟩:=T 0 oo;obtain⟨b1,c1,hg,_,Y⟩:=z 1 oo;have q1:=V.bnd hS U oo hf (i:=0) (j:=0) oo oo;have q2:=hz 1 oo oo;have p1:=Fx (x:=L) (y:=YY g L 0 0) (a:=65536) (b:=25769803776) oo oo;have p2:=Fx (x:=g 1 0) (y:=g 1 0) (a:=32768) (b:=32768) oo oo;have p3:=Fx (x:=3 * g 0 0) (y:=g 0 0) (a:=196608) (b:=65536) oo oo;have h4:=C.lov V oo;refine A7 ?_;refine .p (A0.ia) ?_;refine .p (rL (J.cell hg)) ?_;refine .p (A0.ia) ?_;refine .p (rL (J.cell (Y 0 oo))) ?_;refine A7 ?_;refine .p (A0.ia) ?_;refine .p (rL kf) ?_;refine .p (A0.ia) ?_;refine .p (rL (kg 0 oo)) ?_;refine .a 1 (.int .i64 (L * YY g L 0 0)) rfl (by rw[Ab oo oo]) ?_;refine .a 3 (.int .i64 (g 1 0 * g 1 0)) rfl (by rw[Ab oo oo]) ?_;refine .a 1 (.int .i64 (L * YY g L 0 0+g 1 0 * g 1 0)) rfl (by rw[Ab oo oo]) ?_;refine .a 1 (.int .i64 (4 * (L * YY g L 0 0+g 1 0 * g 1 0))) rfl (by rw[Ab oo oo]) ?_;refine .a 2 (.int .i64 (3 * g 0 0)) rfl (by rw[Ab oo oo]) ?_;refine .a 2 (.int .i64 (3 * g 0 0 * g 0 0)) rfl (by rw[Ab oo oo]) ?_;by_cases h5:4 * (L * YY g L 0 0+g 1 0 * g 1 0)<3 * g 0 0 * g 0 0
    ·refine .a 1 (.bool true) rfl (Aa h5) ?_;refine A7 ?_;refine .ct ?_;exact Ad.ax rfl rfl ⟨P.trans J,false,rfl,⟨fun h=>(by cases h),fun h=>absurd (h4.1 ((D h).2.2.2 (k+1) oo oo)) oo⟩⟩
    ·refine .a 1 (.bool false) rfl (A9 h5) ?_;refine A7 ?_;refine .cf ?_;refine Ad.again (k+1,.slice (some ⟨w3.heap.size,0,none⟩) m m,YY g L,g 0 0) AL ⟨P.trans J,by show k+1<n;omega,?_,V,U,fun l c u=>?_⟩ (by show n - (k+1)<n - k;omega)
     ·rw[show n - (k+1)=m by omega];exact kd
     ·by_cases e:l=k+1
      ·rw[e];exact h4.2 oo
      ·exact hu l c (by have:l<=k+1:=u;omega)
  ·refine St.ay rfl (decide_eq_false oo) ?_;have kh:n=k+1:=by omega
   have N:=C.2 0 0 oo oo;rw[Ep,Fv,<- kh]at N;refine A7 ?_;refine .p (A0.ia) ?_;refine .p (rL W) ?_;refine .p (A0.ia) ?_;refine .p (rL (X 0 oo)) ?_;have ke:RdP n (RA f):=⟨fun i j o A=>H.sz j oo i A o,fun i c u=>hu i c oo⟩;by_cases F:g 0 0 > 0
   ·refine .a 1 (.bool true) rfl (Aa F) ?_;refine .r rfl ?_;refine .p (A0.ia) ?_;refine .p (rL W) ?_;refine .p (A0.ia) ?_;refine .p (rL (X 0 oo)) ?_;refine A7 ?_;refine Ad.ax rfl rfl ⟨P,_,rfl,?_⟩;rw[decide_eq_true_eq];constructor
    ·intro kj;refine km (fun m hm=>?_) ?_ ke
     ·by_cases e:m=n
      ·rw[e,<- N];exact_mod_cast F
      ·exact H.pos m oo
     ·rw[<- N];exact (Iy (a:=g 0 0) (b:=10000)).2 kj
    ·intro d;have:=(D d).2.1;rw[<- N]at this;exact (Iy (a:=g 0 0) (b:=10000)).1 this
   ·refine .a 1 (.bool false) rfl (A9 F) ?_;refine A7 ?_;refine Ad.ax rfl rfl ⟨P,false,rfl,⟨fun h=>(by cases h),fun d=>?_⟩⟩;exfalso;have:=(D d).1 n AO;rw[<- N]at this;have:0<g 0 0:=by exact_mod_cast this
    omega
variable {i b c:Nat}{rs vs:List Value}{Φ:Value->World->Prop}{fn:Func}{iv:Int}{G:Nat->Nat->Int}{args:Array Operand}{tys:Array TypeId}
section
variable {P:Program}{T:List (Nat×TI)}{n:Nat}{E:List (Nat×Value)}{w:World}{Q:Exit->Act->World->Prop}{s:Prop}
theorem Av.bY {f:FuncId}(c:Oy P f fn) {pos:String}{SF cap:Array Value}
  (z:ov E x=some (.func (.func f) SF cap)) (m:Z3 E args.toList=some vs) (o:Calls P f (SF++vs.toArray++cap) w (AJ Φ)) :
  Av P n ⟨d,.call ⟨.value x,args,tys⟩,ty,pos,af,g⟩ E w Φ:=by
 intro a j Q K l;have r:=LX j _ _ m;have k:args.map a.eval=vs.toArray:=by rw[<- r];apply LD.1;simp
 have q:=j.eval z;have y:(execOp a.eval ⟨d,.call ⟨.value x,args,tys⟩,ty,pos,af,g⟩).run P w=.ok (.enter f (SF++vs.toArray++cap)) w:=by
  simp only[execOp,resolve,q,Deferred.ofValue,k,Bq,AX,Bp,invoke,callFunc];have u:(program).run P w=.ok P w:=by simp[go_sem]
  simp only[u,Bp,c.func,c.name,c.body,Hg,if_false,AX]
 unfold Oper.wp;rw[y,Oper.upon_enter];refine o.mono ?_;rintro e w' ⟨v,rfl,hv⟩;exact l v w' hv
theorem A0.func {f:Fn}{fs cs:Array Operand}{pos:String}(l:Z3 E fs.toList=some us) (k:Z3 E cs.toList=some vs) :
  A0 P n ⟨d,.makeFunc f fs cs,ty,pos,af,g⟩ E w (.func f us.toArray vs.toArray):=by
 intro a c;have e:=LX c _ _ l;have j:=LX c _ _ k;have e1:fs.map a.eval=us.toArray:=by rw[<- e];apply LD.1;simp
 have e2:cs.map a.eval=vs.toArray:=by rw[<- j];apply LD.1;simp
 simp[execOp,Instr.makeFunc,e1,e2,go_sem]
theorem St.scope {c:Code}(h:St P n E w c (Exit.noGoto Q)):St P n E w (.scope c) Q:=fun a d=>wp_scope_straight (h a d)
theorem St.label {l:Nat}(h:Ad n E w .normal Q):St P n E w (.label l) Q:=fun a c=>wp_label (h a c)
instance {c:Code} [h:JJ (St P n E w c (Exit.noGoto Q)) s]:JJ (St P n E w (.scope c) Q) s:=⟨fun x=>St.scope (h.go x)⟩
instance {l:Nat} [h:JJ (Ad n E w .normal Q) s]:JJ (St P n E w (.label l) Q) s:=⟨fun x=>St.label (h.go x)⟩
instance [h:JJ (Ad n E w .normal Q) s]:JJ (Ad n E w .normal (Exit.noGoto Q)) s:=⟨fun x=>h.go x⟩
instance [h:JJ (Ad n E w .ret Q) s]:JJ (Ad n E w .ret (Exit.noGoto Q)) s:=⟨fun x=>h.go x⟩
instance {id:Nat} [h:JJ (Ad n E w (.exit id) Q) s]:JJ (Ad n E w (.exit id) (Exit.noGoto Q)) s:=⟨fun x=>h.go x⟩
end
def A7J (w:World) (v:Value) (r c:Nat) (G:Nat->Nat->Int):Prop:=∃ f fn cap,Oy prog f fn/\v=.func (.func f) #[] cap/\∀ w1,Ac w w1->∀ i j:Nat,i<r->j<c->Calls prog f (#[]++[.int .i64 i,.int .i64 j].toArray++cap) w1 (AJ fun x w2=>Ac w1 w2/\Ao 0 w2 x (G i j))
theorem A8k (w:World):Ao 0 w zI 0:=DS 0 w
theorem A5l {w:World}{g:Nat}(e:base<=g) (m:n<=1000000) (B:Aj 122 w g (List.replicate n (.slice none 0 0))):BH (List.replicate n (.slice none 0 0)) base w (.slice (some ⟨g,0,none⟩) n n) (List.replicate n []):=by
 refine⟨List.replicate n [],⟨⟨?_,.inr ⟨g,n,[],by rw[He],e,?_,by simp,by simp,by unfold maxLen;omega⟩⟩,by simp,?_,?_,?_⟩,by simp,?_⟩
 ·intro u hu;rw[BU hu];exact⟨rfl,by simp[Value.cells,Value.oneCell']⟩
 ·rw[CO _ (fun u hu=>by rw[BU hu];rfl),D7];exact B
 ·intro u hu;rw[BU hu];rfl
 ·intro i s us c d;have e1:=BU (Bi c);have e2:=BU (Bi d);subst e1;subst e2;exact Aq.nil
 ·intro i j s t _ c _ _;rw[BU (Bi c)];rfl
 ·intro i us row d l;have e1:=BU (Bi d);have e2:=BU (Bi l);subst e1;subst e2;exact⟨rfl,fun j u x k=>by simp at k⟩
section
variable {n:Nat}{E:List (Nat×Value)}{w w0:World}{ops:Array Oper}{rest:List Oper}{Q:Exit->Act->World->Prop}{d1 s:Nat}{x I y:Operand}{ty ty2:TypeId}{pos pos2:String}{af af2:Array Edge}{g1 g2:Option (Nat×Bool)}
theorem Af.putRowC {v:Value}(h:BH rs base w v M) (X:i<M.length) (Z:w0.heap.size<=base) (P:Ac w0 w) (B:Aj 37 w b (AV (List.replicate c zI))) (C:base<=b) (F:∀ r ∈ rs,r.ownBlock≠some b) (T:c<=1000000)
  (m:ov E x=some v) (A:ov E I=some (.int .i64 iv)) (J:iv=i) (S:∀ p,ov ((d1,p)::E) y=some (.slice (some ⟨b,0,none⟩) c c)) (G:Bg ops E g1=some true) (L:Nat.blt d1 n=true) (H:∀ p,Bg ops ((d1,p)::E) g2=some true)
  (next:∀ p w',Ac w0 w'->BH (rs.set i (.slice (some ⟨b,0,none⟩) c c)) base w' v (M.set i (List.replicate c 0))->Af prog n ((d1,p)::E) w' ops rest Q) :
  Af prog n E w ops (⟨some d1,.indexAddr 94 x I,ty,pos,af,g1⟩::⟨none,.store 122 (.tmp d1) y,ty2,pos2,af2,g2⟩::rest) Q:=by
 have Y:=h.rsl;obtain⟨R,z,t,f⟩:=h;obtain⟨g,cap,D,hv,W,o,V,U,O⟩:=DE.setRow z de (i:=i) (r:=.slice (some ⟨b,0,none⟩) c c) (us:=List.replicate c zI) oo
  ⟨A1c c,.inr ⟨b,c,[],by rw[He],C,by rw[D7];exact B,by simp;omega,by simp,by unfold maxLen;omega⟩⟩ rfl rfl
  (fun j s _ N e=>absurd e (F s (Bi N)))
 subst hv;refine Af.put A8 i o J oo sm rfl rfl rfl rfl m A G L H S rfl rfl ?_;intro p w' q l;rw[AE]at q;refine next p w' (P.aj l oo) ⟨_,O w' l q,by simpa using t,?_⟩
 intro i' us row k d;by_cases e:i=i'
 ·subst e;rw[Bx oo]at k d;cases k;cases d;refine⟨by simp,fun j u x K m=>?_⟩;rw[BU (Bi K),BU (Bi m)];exact A8k _
 ·rw[Ce e]at k d;obtain⟨q1,q2⟩:=f i' us row k d;exact⟨q1,fun j u x a b=>(q2 j u x a b).aI l o de⟩
end
theorem BH.cI {w:World}{p:Option Addr}{len:Nat}(h:BH rs base w (.slice p len cap) M) (g:i<M.length):∃ a rr,p=some a/\len=M.length/\rs[i]?=some rr/\w.cell? (a.add i)=some rr:=by
 have j:=h.rsl;have c:rs[i]?=some (rs[i]'oo):=by simp
 obtain⟨a,cp,e,d⟩:=h.rows.get c;simp only[Ci]at e;exact⟨a,_,e.1,by omega,c,d⟩
theorem A02 {w:World}{fv:Value}{r:Nat}(M:A7J w fv r c G) (H:1<=r/\r<=16) (X:1<=c/\c<=16) :
  Calls prog 216 #[.int .i64 r,.int .i64 c,fv] w (AJ fun x w'=>Ac w w'/\∃ rs,BH rs w.heap.size w' x (mk r c G)):=by
 obtain⟨f,fn,cp,P,rfl,O⟩:=M;refine cS func216 ntmps216 ?_;refine A7 ?_;refine .s (Av.make A8 r rfl rfl rfl rfl rfl rfl rfl rfl (by show r * 24<=_;omega) oo) ?_;rintro _ w2 ⟨rfl,B,K,U⟩;have t:=A5l (base:=w.heap.size) AO oo B;rw[<- Nq r c G]at t;refine A7 ?_;refine H6 (14) (0) (r) [(1,.int .i64 c),(2,.func (.func f) #[] cp),(7,.slice (some ⟨w.heap.size,0,none⟩) r r),(13,.int .i64 r)] (fun i w'=>Ac w w'/\∃ rs,BH rs w.heap.size w' (.slice (some ⟨w.heap.size,0,none⟩) r r) (SF r c i G)) ?_ ?_ ?_
 ·exact⟨K,_,t⟩
 ·clear t B K U;rintro i w3 l ⟨v,rs,k⟩;refine A7 ?_;refine .s (Av.dZ c rfl rfl rfl rfl oo) ?_;rintro _ w4 ⟨rfl,B4,A,Y⟩;refine Af.putRowC (w0:=w) (k.ext A) (by rw[Cv];exact l) AO (v.trans A) B4 v.size (fun r H=>k.bG r H _ AO) oo rfl rfl rfl (fun _=>rfl) rfl rfl (fun _=>rfl) ?_;intro Z W o d;rw[QE l]at d;obtain⟨a3,V,ea,_,m,u⟩:=d.cI (i:=i) (by rw[Cv];exact l);cases ea;generalize J:rs.set i (.slice (some ⟨w3.heap.size,0,none⟩) c c)=rs5 at d m;have R:V=.slice (some ⟨w3.heap.size,0,none⟩) c c:=by have Q:=k.rsl;rw[Cv]at Q;rw[<- J,Bx oo]at m;simpa using m.symm
  subst R;clear J k A B4;refine A7 ?_;refine .p (A0.ia) ?_;refine .p (rL u) ?_;refine A7 ?_;refine H6 (27) (0) (c) [(14,.int .i64 i),(1,.int .i64 c),(2,.func (.func f) #[] cp),(7,.slice (some ⟨w.heap.size,0,none⟩) r r),(13,.int .i64 r),(8,.int .i64 i),(26,.int .i64 c)] (fun j w'=>Ac w w'/\BH rs5 w.heap.size w' (.slice (some ⟨w.heap.size,0,none⟩) r r) (SF r c (i+1) (JM G i j))) ?_ ?_ ?_
  ·refine⟨o,?_⟩;rw[G7 (g:=fun a b=>if a<i then G a b else 0)]
   ·exact d
   ·intro a b E F;unfold JM;by_cases e:a<i
    ·rw[if_pos (.inl e),if_pos e]
    ·rw[if_neg oo,if_neg e]
  ·clear d u o;rintro j W n ⟨o,d⟩;obtain⟨a3,hd,ea,_,I,u⟩:=d.cI (i:=i) (by rw[Cv];exact l);cases ea;rw[m]at I;cases I;refine A7 ?_;refine St.sub (E':=[(27,.int .i64 j),(14,.int .i64 i),(1,.int .i64 c),(2,.func (.func f) #[] cp),(7,.slice (some ⟨w.heap.size,0,none⟩) r r),(13,.int .i64 r),(8,.int .i64 i),(26,.int .i64 c),(9,.int .i64 j)]) ?_ AL;refine sF 9 ?_;refine .q ?_;refine .on (fun _ _=>A0.ia) ?_;refine .on (fun _ h=>rL (h.aq.cell u)) ?_;refine .q ?_;refine FL.fact (L:=[]) (ψ:=fun x w'=>Ao 0 w' x (G i j)) rfl rfl rfl rfl rfl (fun C h=>Av.bY P rfl rfl (O C (o.trans h.aq) i j l n)) (Am.aF 0 _) ?_;refine FL.aG rfl ?_;rintro C y z T _ _;refine Af.dL (w0:=w) (d.ext y) m (EX l) (j:=j) (by rw[if_pos oo,D9];exact n) T (o.trans y) AO rfl rfl rfl (fun _=>rfl) rfl rfl (fun _=>rfl) ?_;intro p7 w7 S D;rw[if_pos oo,Mf l oo n]at D;refine Nv ?_;refine Ad.rnd AL ⟨S,?_⟩;rw[G7 (g:=Eg (JM G i j) i j (G i j))]
   ·exact D
   ·intro a b E F;unfold Eg JM;by_cases e:a=i/\b=j
    ·rw[if_pos e,if_pos oo,e.1,e.2]
    ·rw[if_neg e];by_cases e2:a<i\/a=i/\b<j
     ·rw[if_pos e2,if_pos oo]
     ·rw[if_neg e2,if_neg oo]
  ·rintro C ⟨y,N⟩;refine Nv ?_;refine Ad.rnd AL ⟨y,rs5,?_⟩;rw[G7 (g:=JM G i c)]
   ·exact N
   ·intro a b E F;unfold JM;rw[if_pos oo]
 ·rintro w3 ⟨v,rs,k⟩;rw[QD]at k;refine A7 ?_;exact uR ⟨v,rs,k⟩
theorem Ym {w:World}{v:Value}(h:G8 w v n f) (l:1<=n/\n<=16) :
  Calls prog 215 #[v] w (AJ fun x w'=>Ac w w'/\x=.tuple #[.int .i64 n,.int .i64 n,.bool true]):=by
 obtain⟨a,cap,rfl,k,d⟩:=h;obtain⟨b0,c0,g,_,_⟩:=d 0 oo;refine cS func215 ntmps215 ?_;refine Nv ?_;refine .r rfl ?_;refine Nv ?_;refine .a 3 (.bool false) rfl (A9 oo) ?_;refine .a 4 (.bool false) rfl (A9 oo) ?_;refine A7 ?_;refine .cf ?_;refine .p (A0.ia) ?_;refine .p (rL g) ?_;refine .r rfl ?_;refine Nv ?_;refine .a 2 (.bool false) rfl (A9 oo) ?_;refine .a 3 (.bool false) rfl (A9 oo) ?_;refine A7 ?_;refine .cf ?_;refine H6 (28) (0) (n) [(0,.slice (some a) n cap),(5,.int .i64 n),(26,.slice (some a) n cap),(27,.int .i64 n)] (fun i w'=>w'=w) ?_ ?_ ?_
 ·rfl
 ·rintro i w j rfl;obtain⟨b,c,e,_,_⟩:=d i j;refine Nv ?_;refine .p (A0.ia) ?_;refine .p (rL e) ?_;refine .r rfl ?_;refine Nv ?_;refine .a 4 (.bool false) rfl (by rw[bne_eq_false_iff_eq.2 rfl]) ?_;refine A7 ?_;refine .cF ?_;refine Nv ?_;exact Ad.rnd AL rfl
 ·rintro w rfl;refine A7 ?_;exact Ad.aC A8 [_,_,_] rfl ⟨rfl,rfl,rfl,trivial⟩ ⟨Ac.refl _,rfl⟩
theorem Vt {w:World}{v:Value}(h:G8 w v n f) (B:Aj 25 w b [v]) (d:i<n) (e:j<n) (C:n<=16) (q:∀ i j,i<n->j<n->-9223372036854775808<=f i j/\f i j<=9223372036854775807) :
  Calls prog 217 #[.int .i64 i,.int .i64 j,.pointer (some ⟨b,0,none⟩)] w (AJ fun x w'=>Ac w w'/\Ao 0 w' x (f i j)):=by obtain⟨a,cap,rfl,A,l⟩:=h;obtain⟨b1,c1,m,_,o⟩:=l i d;have t:=q i j d e;refine cS func217 ntmps217 ?_;refine Nv ?_;refine .s (oA) ?_;rintro _ w1 ⟨rfl,B1,c,E⟩;replace B:=B.ext c;refine A7 ?_;refine .p FW ?_;refine .r rfl ?_;refine .p (A0.ia) ?_;refine .p (rL (c.cell m)) ?_;refine .r rfl ?_;refine .p (A0.ia) ?_;refine .p (rL (c.cell (o j e))) ?_;refine .s (Av.call BC rfl (DY w1 (f i j) oo oo)) ?_;rintro z w2 ⟨g,y⟩;refine sC (B1.ext g) y (c.trans g) AO ?_;intro w3 B3 D k u;refine A7 ?_;exact Ad.cE rfl rfl B3 k ⟨u,k⟩
theorem Nw {w:World}{v:Value}(h:G8 w v n f) (c:1<=n/\n<=16) (m:∀ i j,i<n->j<n->-9223372036854775808<=f i j/\f i j<=9223372036854775807) :
  Calls prog 191 #[v] w (AJ fun x w'=>Ac w w'/\∃ u rs,x=.tuple #[u,.bool true]/\BH rs w.heap.size w' u (mk n n f)):=by have hv:=h;obtain⟨a,cap,e,_⟩:=hv;subst e;refine cS func191 ntmps191 ?_;refine Nv ?_;refine .s (oB) ?_;rintro _ w1 ⟨rfl,B1,d,r⟩;refine A7 ?_;refine .p FW ?_;refine .s (oK ME (Ym (h.ext d) c)) ?_;rintro _ w2 ⟨g,rfl⟩;replace B1:=B1.ext g;replace h:=(h.ext d).ext g;refine A7 ?_;refine .cf ?_;refine .p (A0.func (us:=[]) (vs:=[_]) rfl rfl) ?_;refine .s (Av.call KZ rfl (A02 (G:=f) (w:=w2) ⟨_,_,_,MX,rfl,fun w3 k i j o q=>Vt (h.ext k) (B1.ext k) o q c.2 m⟩ c c)) ?_;rintro u w3 ⟨k,rs,l⟩;refine A7 ?_;exact Ad.aC A8 [_,_] rfl ⟨rfl,rfl,trivial⟩ ⟨(d.trans g).trans k,u,rs,rfl,l.mono (d.trans g).size⟩
variable {C:List Value}
def MC (w:World) (v:Value) (r c:Nat) (G:Nat->Nat->Int):Prop:=∃ a cap,v=.slice (some a) r cap/\r<=cap/\∀ i,i<r->∃ b o cp,w.cell? (a.add i)=some (.slice (some ⟨b,o,none⟩) c cp)/\c<=cp/\JE w b o c (G i)
theorem MC.ext {w:World}{v:Value}{r:Nat}(h:MC w v r c G) (d:Ac w w'):MC w' v r c G:=by obtain⟨a,cap,hv,k,h⟩:=h;refine⟨a,cap,hv,k,fun i l=>?_⟩;obtain⟨b,o,cp,e,g,j⟩:=h i l;exact⟨b,o,cp,d.cell e,g,j.ext d⟩
theorem BH.mc {r:Nat}{w:World}{v:Value}(h:BH rs base w v (mk r c G)) (C:1<=r) (t:1<=c):MC w v r c G:=by
 obtain⟨R,d,g,q⟩:=h;rw[AU]at g;have x:rs.length=r:=by rw[d.2.1,g]
 obtain⟨p,cap,hv,B,m,f⟩:=d.rows;cases p with
 | none=>have:=m rfl;omega
 | some a =>
  refine⟨a,cap,by rw[hv,x],by omega,fun i n=>?_⟩;have l:rs[i]?=some (rs[i]'oo):=by simp
  have k:R[i]?=some (R[i]'oo):=by simp
  obtain⟨k1,k2⟩:=q i _ _ k (BK n);have A:=d.2.2.2.1 i _ _ l k;have s:(R[i]'oo).length=c:=by rw[k1];simp
  obtain⟨b,o,cp,e,y,z⟩:=A.lc s t (fun j u hu=>k2 j u _ hu (Fu (by have:=(Au.1 hu).1;omega)));exact⟨b,o,cp,by rw[<- e];exact f a rfl i _ l,y,z⟩
def Xb (q:Nat) (w:World) (v:Value) (r c:Nat) (G:Nat->Nat->Int):Prop:=∃ g cap C,v=.slice (some ⟨g,0,none⟩) r cap/\r<=cap/\Aj 122 w g C/\∀ i,i<r->∃ b o cp D,C[i]?=some (.slice (some ⟨b,o,none⟩) c cp)/\c<=cp/\b≠q/\Aj 37 w b D/\∀ j,j<c->∃ u,Ao 0 w u (G i j)/\(D.drop (o+2 * j)).take 2=u.cells.toList/\o+2 * j+2<=D.length
theorem Xb.mc {q:Nat}{w:World}{v:Value}{r:Nat}(h:Xb q w v r c G):MC w v r c G:=by obtain⟨g,cap,C,hv,l,hB,h⟩:=h;refine⟨⟨g,0,none⟩,cap,hv,l,fun i m=>?_⟩;obtain⟨b,o,cp,D,d,e,_,j,k⟩:=h i m;exact⟨b,o,cp,by rw[Ak,AE];exact hB.cell d,e,_,_,j,k⟩
theorem Xb.keep {q:Nat}{w:World}{v:Value}{r:Nat}(h:Xb q w v r c G) (hB:∀ t b C,Aj t w b C->t≠et->Aj t w' b C) (k:∀ u a,Ao 0 w u a->Ao 0 w' u a) (d:122≠et) (e:37≠et):Xb q w' v r c G:=by obtain⟨g,cap,C,hv,m,l,h⟩:=h;refine⟨g,cap,C,hv,m,hB _ _ _ l d,fun i y=>?_⟩;obtain⟨b,o,cp,D,k1,k2,k3,k4,k5⟩:=h i y;refine⟨b,o,cp,D,k1,k2,k3,hB _ _ _ k4 e,fun j z=>?_⟩;obtain⟨u,l1,l2,f⟩:=k5 j z;exact⟨u,k u _ l1,l2,f⟩
theorem Xb.ext {q:Nat}{w:World}{v:Value}{r:Nat}(h:Xb q w v r c G) (d:Ac w w'):Xb q w' v r c G :=
 h.keep (et:=109) (fun _ _ _ e _=>e.ext d) (fun _ _ g=>g.ext d) de de
theorem Xb.upd {q:Nat}{w:World}{v:Value}{r:Nat}(h:Xb q w v r c G) (hu:CE q w w') (hB:Aj 37 w q C):Xb q w' v r c G:=by
 obtain⟨g,cap,C',hv,k,d,h⟩:=h;refine⟨g,cap,C',hv,k,d.upd hu ?_,fun i l=>?_⟩
 ·intro e;subst e;have:=d.symm.trans hB;simp only[AP,Obj.cells.injEq]at this;exact absurd this.2.1 de
 ·obtain⟨b,o,cp,D,k1,k2,k3,k4,k5⟩:=h i l;refine⟨b,o,cp,D,k1,k2,k3,k4.upd hu k3,fun j m=>?_⟩;obtain⟨u,l1,l2,y⟩:=k5 j m;exact⟨u,l1.aI hu hB de,l2,y⟩
theorem A0.slice3 {w:World}(e:Aw P T) {u y z:Operand}{pos:String}{z0:Value}{p:Option Addr}{len:Nat}{k1 k2 k3:IntKind}{mv:Int}
  (b:AG T t=some ⟨.slice et,s1,s2,z0⟩) (f:AG T et=some ti) (h:ov E x=some (.slice p len cap)) (hu:ov E u=some (.int k1 jv)) (s:ov E y=some (.int k2 iv)) (A:ov E z=some (.int k3 mv)) (j i m:Nat) (r:jv=j) (q:iv=i) (v:mv=m) (k:j<=i) (l:i<=m) (o:m<=cap) :
  A0 P n ⟨d,.slice t x (some u) (some y) (some z),ty,pos,af,g⟩ E w (.slice (if m=j then p else p.map (·.add (j * ti.size))) (i - j) (m - j)):=by subst r q v;intro a c;have e1:=c.eval h;have e2:=c.eval hu;have e3:=c.eval s;have e4:=c.eval A;generalize a.eval=ρ at e1 e2 e3 e4;simp[execOp,Instr.sliceAt,Instr.slice,Instr.sliceBounds,Instr.sliceBound,e1,e2,e3,e4,Ag e b,AK e f,asIntOf,k,l,o,go_sem]
def Nx (r c g i:Nat):List Value:=(List.range r).map fun a=>if a<i then .slice (some ⟨g,2 * (a * c),none⟩) c c else .slice none 0 0
theorem Lf (r c g i:Nat):(Nx r c g i).length=r:=by simp[Nx]
theorem JP {r g a:Nat}(h:a<r):(Nx r c g i)[a]?=some (if a<i then .slice (some ⟨g,2 * (a * c),none⟩) c c else .slice none 0 0):=by simp[Nx,h]
theorem A1F (r c g:Nat):List.replicate r (Value.slice none 0 0)=Nx r c g 0:=by
 apply Fk;intro a;by_cases h:a<r
 ·rw[JP h];simp[h]
 ·rw[BJ (by simp;omega),BJ (by rw[Lf];omega)]
theorem A3Q {r g:Nat}(h:i<r):(Nx r c g i).set i (.slice (some ⟨g,2 * (i * c),none⟩) c c)=Nx r c g (i+1):=by
 apply Fk;intro a;by_cases e:i=a
 ·subst e;rw[Bx (by rw[Lf];exact h),JP h,if_pos oo]
 ·rw[Ce e];by_cases j:a<r
  ·rw[JP j,JP j];by_cases d:a<i
   ·rw[if_pos d,if_pos oo]
   ·rw[if_neg d,if_neg oo]
  ·rw[BJ (by rw[Lf];omega),BJ (by rw[Lf];omega)]
def Tp (w:World) (r c g:Nat) (G:Nat->Nat->Int) (us:List Value) (i j:Nat):Prop:=Aj 37 w g (AV us)/\us.length=r * c/\M8 2 us/\∀ a b,b<c->(a<i\/a=i/\b<j)->∃ u,us[a * c+b]?=some u/\Ao 0 w u (G a b)
theorem Tp.ext {w:World}{r g:Nat}(h:Tp w r c g G us i j) (d:Ac w w'):Tp w' r c g G us i j:=by obtain⟨e,k,l,m⟩:=h;refine⟨e.ext d,k,l,fun a b q o=>?_⟩;obtain⟨u,hu,v⟩:=m a b q o;exact⟨u,hu,v.ext d⟩
theorem Tp.upd {w:World}{r g:Nat}{b':Nat}(h:Tp w r c g G us i j) (k:CE b' w w') (hB:Aj 122 w b' C):Tp w' r c g G us i j:=by
 obtain⟨d,l,m,o⟩:=h;refine⟨d.upd k ?_,l,m,fun a b v q=>?_⟩
 ·intro e;subst e;have:=d.symm.trans hB;simp only[AP,Obj.cells.injEq]at this;exact absurd this.2.1 de
 ·obtain⟨u,hu,y⟩:=o a b v q;exact⟨u,hu,y.aI k hB de⟩
theorem A1G {a r:Nat}(d:a<r) (e:b<c):a * c+b<r * c:=by have:(a+1) * c<=r * c:=Bm _ d;rw[Bw]at this;omega
theorem A73 {a a' b':Nat}(e:b<c) (g:b'<c) (h:a * c+b=a' * c+b'):a=a'/\b=b':=by
 have d:0<c:=by omega
 have e1:(a * c+b) / c=a:=by rw[FD,Nat.add_mul_div_right _ _ d,J5 e];omega
 have e2:(a' * c+b') / c=a':=by rw[FD,Nat.add_mul_div_right _ _ d,J5 g];omega
 have:a=a':=by rw[<- e1,<- e2,h]
 subst this;exact⟨rfl,by omega⟩
theorem Tp.put {w:World}{r g:Nat}(h:Tp w r c g G us i j) (p:i<r) (q:j<c) (d:Ao 0 w z (G i j)) (y:CE g w w') (hB:Aj 37 w' g (Fl (AV us) (2 * (i * c)+2 * j) z.cells.toList)):Tp w' r c g G (us.set (i * c+j) z) i (j+1):=by
 obtain⟨l,t,m,f⟩:=h;have x:=A1G p q;refine⟨?_,by simpa using t,m.set d.two,fun a b o s=>?_⟩
 ·have:=L7 (k:=2) us [] (i * c+j) z (fun v hv=>(m v hv).1) oo d.two.1;rw[D7,D7,Dk]at this;rw[this]at hB;exact hB
 ·by_cases e:a=i/\b=j
  ·obtain⟨rfl,rfl⟩:=e;exact⟨z,by rw[Bx oo],d.aI y l de⟩
  ·obtain⟨u,hu,n⟩:=f a b o oo;refine⟨u,?_,n.aI y l de⟩;rw[Ce]
   ·exact hu
   ·intro e2;have:=A73 q o e2;exact e ⟨this.1.symm,this.2.symm⟩
theorem Vu {w:World}{fv:Value}{r:Nat}(R:A7J w fv r c G) (X:1<=r/\r<=16) (T:1<=c/\c<=16) :
  Calls prog 219 #[.int .i64 r,.int .i64 c,fv] w (AJ fun x w'=>Ac w w'/\∀ q,q<w.heap.size\/w'.heap.size<=q->Xb q w' x r c G):=by
 obtain⟨f,fn,cp,W,rfl,U⟩:=R;have Y:r * c<=256:=Dg X.2 T.2;refine cS func219 ntmps219 ?_;refine Nv ?_;refine .r rfl ?_;refine Nv ?_;refine .a 3 (.int .i64 ((r * c:Nat):Int)) rfl (by rw[Ab (by rw[<- Gv];omega) (by rw[<- Gv];omega)];rfl) ?_;refine .s (Av.dZ (r * c) rfl rfl rfl rfl oo) ?_;rintro _ w1 ⟨rfl,B1,I,hh⟩;refine A7 ?_;refine .s (Av.make A8 r rfl rfl rfl rfl rfl rfl rfl rfl (by show r * 24<=_;omega) oo) ?_;rintro _ w2 ⟨rfl,B2,J,hd⟩;have g:Tp w2 r c w.heap.size G (List.replicate (r * c) zI) 0 0:=⟨B1.ext J,by simp,A1c _,fun a b _ h=>by omega⟩;have B2:Aj 122 w2 w1.heap.size (Nx r c w.heap.size 0):=by rw[<- A1F];exact B2
 refine A7 ?_;refine H6 (19) (0) (r) [(1,.int .i64 c),(2,.func (.func f) #[] cp),(7,.slice (some ⟨w.heap.size,0,none⟩) (r * c) (r * c)),(8,.slice (some ⟨w1.heap.size,0,none⟩) r r),(18,.int .i64 r)] (fun i w'=>Ac w w'/\Aj 122 w' w1.heap.size (Nx r c w.heap.size i)/\∃ us,Tp w' r c w.heap.size G us i 0) ?_ ?_ ?_
 ·exact⟨I.trans J,B2,_,g⟩
 ·clear g B2 B1 J hd;rintro i w3 d ⟨K,B3,us,g⟩;have hf:i * c<=256:=Ar (Bm _ oo) Y;have hg:(i+1) * c<=r * c:=Bm _ d;have e1:(i+1) * c=i * c+c:=by rw[Bw,Cf]
  refine Nv ?_;refine .r rfl ?_;refine Nv ?_;refine .a 6 (.int .i64 ((i * c:Nat):Int)) rfl (by rw[Ab (by rw[<- Gv];omega) (by rw[<- Gv];omega)];rfl) ?_;refine .a 2 (.int .i64 ((i+1:Nat):Int)) rfl (Bv oo) ?_;refine .a 2 (.int .i64 (((i+1) * c:Nat):Int)) rfl (by rw[Ab (by rw[<- Gv];omega) (by rw[<- Gv];omega)];rfl) ?_;refine .a 2 (.int .i64 ((i+1:Nat):Int)) rfl (Bv oo) ?_;refine .a 2 (.int .i64 (((i+1) * c:Nat):Int)) rfl (by rw[Ab (by rw[<- Gv];omega) (by rw[<- Gv];omega)];rfl) ?_;refine .p (A0.slice3 A8 rfl rfl rfl rfl rfl rfl (i * c) ((i+1) * c) ((i+1) * c) rfl rfl rfl oo oo oo) ?_;have ev:(if (i+1) * c=i * c then some (⟨w.heap.size,0,none⟩:Addr) else (some (⟨w.heap.size,0,none⟩:Addr)).map (·.add (i * c * 2)))=some ⟨w.heap.size,2 * (i * c),none⟩:=by rw[if_neg oo,LP,Ak,AE,AQ]
  have ec:(i+1) * c - i * c=c:=by omega
  dsimp only;rw[ev,ec];refine Af.put A8 i B3 rfl d (by rw[Lf];omega) rfl rfl rfl rfl rfl rfl rfl rfl (fun _=>rfl) (fun _=>rfl) rfl rfl ?_;intro p4 P B4 O;rw[AE,A3Q d]at B4;have l:Ac w P:=K.aj O I.size;have y:=g.upd O B3;clear g;have N:∀ {C:World},Aj 122 C w1.heap.size (Nx r c w.heap.size (i+1))->C.cell? (Addr.add ⟨w1.heap.size,0,none⟩ i)=some (.slice (some ⟨w.heap.size,2 * (i * c),none⟩) c c):=by intro C B;rw[Ak,AE];exact B.cell (by rw[JP d,if_pos oo])
  refine A7 ?_;refine .p (A0.ia) ?_;refine .p (rL (N B4)) ?_;refine A7 ?_;refine H6 (43) (0) (c) [(19,.int .i64 i),(1,.int .i64 c),(2,.func (.func f) #[] cp),(7,.slice (some ⟨w.heap.size,0,none⟩) (r * c) (r * c)),(8,.slice (some ⟨w1.heap.size,0,none⟩) r r),(18,.int .i64 r),(9,.int .i64 i),(42,.int .i64 c)] (fun j w'=>Ac w w'/\Aj 122 w' w1.heap.size (Nx r c w.heap.size (i+1))/\∃ us,Tp w' r c w.heap.size G us i j) ?_ ?_ ?_
  ·exact⟨l,B4,us,y⟩
  ·clear y B4 l;rintro j P e ⟨l,B4,us,y⟩;refine A7 ?_;refine St.sub (E':=[(43,.int .i64 j),(19,.int .i64 i),(1,.int .i64 c),(2,.func (.func f) #[] cp),(7,.slice (some ⟨w.heap.size,0,none⟩) (r * c) (r * c)),(8,.slice (some ⟨w1.heap.size,0,none⟩) r r),(18,.int .i64 r),(9,.int .i64 i),(42,.int .i64 c),(10,.int .i64 j)]) ?_ AL;refine sF 9 ?_;refine .q ?_;refine .on (fun _ _=>A0.ia) ?_;refine .on (fun _ F=>rL (F.aq.cell (N B4))) ?_;refine .q ?_;refine FL.fact (L:=[]) (ψ:=fun x w'=>Ao 0 w' x (G i j)) rfl rfl rfl rfl rfl (fun Q F=>Av.bY W rfl rfl (U Q (l.trans F.aq) i j d e)) (Am.aF 0 _) ?_;refine FL.aG rfl ?_;rintro Q M z A _ _;have t:=y.ext M;refine .p (rJ e) ?_;refine Af.step0 rfl rfl (Av.store A8 (off:=2 * (i * c)+2 * j) rfl rfl rfl rfl A.two.1 t.1 (by rw[A.two.1,t.2.2.1.flat,t.2.1];have:=A1G d e;omega) A.two.2) ?_;rintro _ w7 ⟨B7,H⟩;refine Nv ?_;refine Ad.rnd AL ⟨(l.trans M).aj H AO,(B4.ext M).upd H (by have:=I.size;omega),_,t.put d e A H B7⟩
  ·rintro C ⟨Z,B5,us,m,D,o,E⟩;refine Nv ?_;exact Ad.rnd AL ⟨Z,B5,us,m,D,o,fun a b S he=>E a b S oo⟩
 ·rintro w3 ⟨K,B3,us,m,D,o,E⟩;refine A7 ?_;refine Ad.ax rfl rfl ⟨K,fun q hq=>⟨w1.heap.size,r,_,rfl,Ai _,B3,fun a n=>⟨w.heap.size,2 * (a * c),c,_,?_,Ai _,?_,m,fun j e=>?_⟩⟩⟩
  ·rw[JP n,if_pos n]
  ·have:=m.lt;omega
  ·obtain⟨u,hu,V⟩:=E a j e (.inl n);refine⟨u,V,?_,?_⟩
   ·have:=Ni (k:=2) us [] (a * c+j) u (fun v hv=>(o v hv).1) hu;rw[D7,Dk]at this;exact this
   ·rw[o.flat,D];have:=A1G n e;omega
theorem SG {w:World}{v:Value}(h:MC w v n n G) (l:1<=n/\n<=16) :
  Calls prog 223 #[v] w (AJ fun x w'=>Ac w w'/\x=.tuple #[.int .i64 n,.int .i64 n,.bool true]):=by
 obtain⟨a,cap,rfl,k,d⟩:=h;obtain⟨b0,o0,c0,g,_,_⟩:=d 0 oo;refine cS func223 ntmps223 ?_;refine Nv ?_;refine .r rfl ?_;refine Nv ?_;refine .a 3 (.bool false) rfl (A9 oo) ?_;refine .a 4 (.bool false) rfl (A9 oo) ?_;refine A7 ?_;refine .cf ?_;refine .p (A0.ia) ?_;refine .p (rL g) ?_;refine .r rfl ?_;refine Nv ?_;refine .a 2 (.bool false) rfl (A9 oo) ?_;refine .a 3 (.bool false) rfl (A9 oo) ?_;refine A7 ?_;refine .cf ?_;refine H6 (28) (0) (n) [(0,.slice (some a) n cap),(5,.int .i64 n),(26,.slice (some a) n cap),(27,.int .i64 n)] (fun i w'=>w'=w) ?_ ?_ ?_
 ·rfl
 ·rintro i w j rfl;obtain⟨b,o,c,e,_,_⟩:=d i j;refine Nv ?_;refine .p (A0.ia) ?_;refine .p (rL e) ?_;refine .r rfl ?_;refine Nv ?_;refine .a 4 (.bool false) rfl (by rw[bne_eq_false_iff_eq.2 rfl]) ?_;refine A7 ?_;refine .cF ?_;refine Nv ?_;exact Ad.rnd AL rfl
 ·rintro w rfl;refine A7 ?_;exact Ad.aC A8 [_,_,_] rfl ⟨rfl,rfl,rfl,trivial⟩ ⟨Ac.refl _,rfl⟩
theorem A03 {w:World}{v:Value}(h:MC w v n n G) (c:1<=n/\n<=16) :
  Calls prog 233 #[v] w (AJ fun x w'=>Ac w w'/\x=.tuple #[.int .i64 n,.int .i64 n,.bool true]):=by refine cS func233 ntmps233 ?_;refine A7 ?_;refine .s (oK GK (SG h c)) ?_;rintro _ w1 ⟨d,rfl⟩;refine A7 ?_;exact Ad.aC A8 [_,_,_] rfl ⟨rfl,rfl,rfl,trivial⟩ ⟨d,rfl⟩
theorem Yn {w:World}{v:Value}(h:MC w v n n G) (c:1<=n/\n<=16) :
  Calls prog 218 #[v] w (AJ fun x w'=>Ac w w'/\x=.tuple #[.int .i64 n,.bool true]):=by refine cS func218 ntmps218 ?_;refine A7 ?_;refine .s (oK Td (A03 h c)) ?_;rintro _ w1 ⟨d,rfl⟩;refine .r rfl ?_;refine Nv ?_;refine .r rfl ?_;refine .a 0 (.bool true) rfl sm ?_;refine A7 ?_;exact Ad.aC A8 [_,_] rfl ⟨rfl,rfl,trivial⟩ ⟨d,rfl⟩
def QR (q r:Int) (v:Value) (w:World):Prop:=∃ a b,v=.tuple #[a,b,.bool true]/\Ao 0 w a q/\Ao 0 w b r
theorem Am.qr (q r:Int):Am prog (QR q r):=by rintro _ _ _ c ⟨a,b,rfl,d,e⟩;exact⟨a,b,rfl,d.rg c,e.rg c⟩
theorem A1H {w:World}{va vb vc vd ve:Value}{a b c d e q:Int}(h:Dn w va a) (i:Dn w vb b) (n:Dn w vc c) (A:Dn w vd d) (B:Dn w ve e) (za:sz a<=1000) (zb:sz b<=1000) (zc:sz c<=1000) (zd:sz d<=1000) (J:e≠0) (U:a * d - b * c=q * e) :
  Calls prog 222 #[va,vb,vc,vd,ve] w (AJ fun x w'=>Ac w w'/\Ao 0 w' x q):=by
 have V:(a * d - b * c) / e=q:=by rw[U];exact Int.mul_ediv_cancel _ J
 have m1:=Bt a d;have m2:=Bt b c;have m3:=RE (a * d) (b * c);refine cS func222 ntmps222 ?_;refine Nv ?_;refine .s (oB) ?_;rintro _ w1 ⟨rfl,B1,M,hl⟩;refine .s (oB) ?_;rintro _ w2 ⟨rfl,B2,E,hn⟩;refine .s (oB) ?_;rintro _ w3 ⟨rfl,B3,C,ho⟩;refine .s (oB) ?_;rintro _ X ⟨rfl,B4,f,hp⟩;refine .s (oB) ?_;rintro _ O ⟨rfl,B5,y,hr⟩;refine .s (oA) ?_;rintro _ I ⟨rfl,Q,z,hs⟩;have r:Ac w I:=((((M.trans E).trans C).trans f).trans y).trans z;replace B1:=((((B1.ext E).ext C).ext f).ext y).ext z;replace B2:=(((B2.ext C).ext f).ext y).ext z;replace B3:=((B3.ext f).ext y).ext z;replace B4:=(B4.ext y).ext z;replace B5:=B5.ext z;replace h:=h.ext r;replace i:=i.ext r;replace n:=n.ext r;replace A:=A.ext r;replace B:=B.ext r;have W:w.heap.size<=O.heap.size:=by omega
 clear M E C f y;refine Nv ?_;refine St.sub (E':=[(5,.pointer (some ⟨w.heap.size,0,none⟩)),(6,.pointer (some ⟨w1.heap.size,0,none⟩)),(7,.pointer (some ⟨w2.heap.size,0,none⟩)),(8,.pointer (some ⟨w3.heap.size,0,none⟩)),(9,.pointer (some ⟨X.heap.size,0,none⟩)),(10,.pointer (some ⟨O.heap.size,0,none⟩))]) ?_ AL;refine sF 17 ?_;refine .on (fun _ g=>rI (g.blk (B1) sm) (h.r2)) ?_;refine .on (fun _ g=>rI (g.blk (B4) sm) (A.r2)) ?_;refine FL.au D8 rfl rfl rfl (fun l k=>cM (M7 (h.ext k) (A.ext k))) (Am.aF 0 _) ?_;refine .on (fun _ g=>rI (g.blk (B2) sm) (i.r2)) ?_;refine .on (fun _ g=>rI (g.blk (B3) sm) (n.r2)) ?_;refine FL.au D8 rfl rfl rfl (fun l k=>cM (M7 (i.ext k) (n.ext k))) (Am.aF 0 _) ?_;refine FL.au UH rfl rfl rfl (fun l k t1 j t2 R=>cM (A7Z (j.dn oo) (R.dn oo))) (Am.aF 0 _) ?_;refine .on (fun _ g=>rI (g.blk (B5) sm) (B.r2)) ?_;refine FL.au Hv (ψ:=QR q ((a * d - b * c) % e)) rfl rfl rfl (fun l k t1 j=>?_) (Am.qr _ _) ?_
 ·refine cM ((RF (base:=0) (j.dn oo) (B.ext k) BI).mono ?_);rintro _ Y ⟨x,rfl,F,_,T⟩;obtain⟨u,m,rfl,hu,t⟩:=T J;rw[V]at hu;exact⟨_,rfl,F,u,m,rfl,hu,t⟩
 refine FL.fact (L:=[]) (ψ:=QR q ((a * d - b * c) % e)) rfl rfl rfl rfl rfl (fun l g t1 j=>(A0.pure A8 rfl).op.mono (by rintro _ _ ⟨rfl,rfl⟩;exact⟨Ac.refl _,j⟩)) (Am.qr _ _) ?_;refine FL.fact (L:=[]) (ψ:=fun v w'=>Ao 0 w' v q) rfl rfl rfl rfl rfl (fun l g t1 j=>?_) (Am.aF 0 _) ?_
 ·obtain⟨u,m,rfl,hu,t⟩:=j;exact (A0.pure A8 rfl).op.mono (by rintro _ _ ⟨rfl,rfl⟩;exact⟨Ac.refl _,hu⟩)
 refine FL.fact (L:=[]) (ψ:=fun v w'=>Ao 0 w' v ((a * d - b * c) % e)) rfl rfl rfl rfl rfl (fun l g t1 j=>?_) (Am.aF 0 _) ?_
 ·obtain⟨u,m,rfl,hu,t⟩:=j;exact (A0.pure A8 rfl).op.mono (by rintro _ _ ⟨rfl,rfl⟩;exact⟨Ac.refl _,t⟩)
 refine FL.fact (L:=[]) (ψ:=Is (.bool true)) rfl rfl rfl rfl rfl (fun l g t1 j=>?_) (Am.is _ _) ?_
 ·obtain⟨u,m,rfl,hu,t⟩:=j;exact (A0.pure A8 rfl).op.mono (by rintro _ _ ⟨rfl,rfl⟩;exact⟨Ac.refl _,rfl⟩)
 refine FL.alloc A8 rfl rfl rfl rfl ?_;refine FL.alloc A8 rfl rfl rfl rfl ?_;refine FL.bP (L:=[]) (base:=I.heap.size) A8 rfl rfl rfl rfl rfl (Am.aF 0 q) ?_ ?_
 ·intro l g G D H o;exact⟨⟨G,rfl,D⟩,H,rfl,o.two.1,o.two.2,o⟩
 refine FL.bP (L:=[]) (base:=I.heap.size) A8 rfl rfl rfl rfl rfl (Am.aF 0 ((a * d - b * c) % e)) ?_ ?_
 ·intro l g G D H o;exact⟨⟨G,rfl,D⟩,H,rfl,o.two.1,o.two.2,o⟩
 refine FL.aG rfl ?_;rintro l k _ ⟨b12,hf,rfl,hj,_,_⟩ _ ⟨b11,Z,rfl,hi,_,_⟩ _ _ _ _ _ _ _ _ _ _ _ _ _ _ _ _ ⟨_,⟨hg,ht,S,P,K⟩,_⟩ hh;cases S;refine A7 ?_;refine .p (rI (P) (K.r2)) ?_;refine sC (Q.ext k) K (r.trans k) W ?_;intro Y B8 hk N F;refine A7 ?_;exact Ad.cE rfl rfl B8 N ⟨F,N⟩
variable {k b2 b1:Nat}{lv:Value}
def CP (f:Nat->Nat->Int) (k i j:Nat):Int:=(BB (RA f) k (k+i) (k+j)).num
def AY (f:Nat->Nat->Int) (k:Nat):Int:=(dd (RA f) k).num
theorem A74 {q:Rat}(h:ZH q):(q.num:Rat)=q:=by obtain⟨z,rfl⟩:=h;rfl
theorem IZ (h:Ld n (RA f)) (c:k<=n) (i j:Nat):(CP f k i j:Rat)=BB (RA f) k (k+i) (k+j) :=
 A74 (Y4 (Y9 f) k _ _ (by have:=h k c;grind))
theorem HE (h:Ld n (RA f)) (c:k<=n):(AY f k:Rat)=dd (RA f) k:=by obtain⟨z,e,_⟩:=Vm h c;unfold AY;rw[e];rfl
theorem CV (h:Ld n (RA f)) (d:k<=n):0<AY f k:=by have e:=HE h d;have c:=h k d;rw[<- e]at c;exact_mod_cast c
theorem Ny (f:Nat->Nat->Int) (i j:Nat):CP f 0 i j=f i j:=by unfold CP;rw[Y5,AE,AE];rfl
theorem Nz (f:Nat->Nat->Int):AY f 0=1:=rfl
theorem HF (f:Nat->Nat->Int) (k:Nat):CP f k 0 0=AY f (k+1):=by unfold CP AY;rw[Ep,Fv]
theorem A04 (h:Ld n (RA f)) (c:k+1<=n) (i j:Nat):CP f k 0 0 * CP f k (i+1) (j+1) - CP f k (i+1) 0 * CP f k 0 (j+1)=CP f (k+1) i j * AY f k:=by have d:=Y6 (RA f) k (k+1+i) (k+1+j) (by have:=h (k+1) c;grind);have e1:=IZ h (show k<=n by omega) (i+1) (j+1);have e2:=IZ h (show k<=n by omega) (i+1) 0;have e3:=IZ h (show k<=n by omega) 0 (j+1);have e4:=IZ h (show k<=n by omega) 0 0;have e5:=IZ h c i j;have e6:=HE h (show k<=n by omega);rw[show k+(i+1)=k+1+i by omega]at e1 e2;rw[show k+(j+1)=k+1+j by omega]at e1 e3;rw[Ep k]at e2 e3 e4;rw[<- e1,<- e2,<- e3,<- e4,<- e5,<- e6,<- FG,<- FG,<- FG,<- Rat.intCast_sub]at d;exact (by exact_mod_cast d:CP f (k+1) i j * AY f k=_).symm
theorem JE.at {w:World}{o:Nat}{g:Nat->Int}(h:JE w b o c g) (r:j<c):∃ u e C,Ao 0 w u (g j)/\Aj e w b C/\(C.drop (o+2 * j)).take 2=u.cells.toList/\o+2 * j+2<=C.length:=by obtain⟨e,C,m,q⟩:=h;obtain⟨u,d,k,l⟩:=q j r;exact⟨u,e,C,d,m,k,l⟩
theorem Yo {w:World}{v:Value}(h:MC w v n n G) (B:Aj 94 w b [v]) (g:i<n) (k:j<n) (f:∀ i j,i<n->j<n->sz (G i j)<=1000) :
  Calls prog 220 #[.int .i64 i,.int .i64 j,.pointer (some ⟨b,0,none⟩)] w (AJ fun x w'=>Ac w w'/\Ao 0 w' x (G i j)):=by obtain⟨a,cap,rfl,D,q⟩:=h;obtain⟨b1,o1,c1,y,_,t⟩:=q i g;have m:=f i j g k;refine cS func220 ntmps220 ?_;refine Nv ?_;refine .s (oA) ?_;rintro _ w1 ⟨rfl,B1,c,F⟩;replace B:=B.ext c;obtain⟨u,e,C,d,hB,k1,k2⟩:=(t.ext c).at k;refine A7 ?_;refine .p FW ?_;refine .r rfl ?_;refine .p (A0.ia) ?_;refine .p (rL (c.cell y)) ?_;refine .r rfl ?_;refine .p (rJ oo) ?_;refine .p (A0.aH rfl hB k1 k2 d.r2) ?_;refine .s (oK IP (Qw (base:=0) (d.dn oo) BI)) ?_;rintro z w2 ⟨l,m⟩;refine sC (B1.ext l) m (c.trans l) AO ?_;intro w3 B3 E o A;refine A7 ?_;exact Ad.cE rfl rfl B3 o ⟨A,o⟩
theorem Yp {w:World}{v:Value}{g:Nat->Nat->Int}{L q:Int}(h:MC w v m m g) (B1:Aj 94 w b1 [v]) (B2:Aj 37 w b2 lv.cells.toList) (o:Ao 0 w lv L) (hi:i+1<m) (hj:j+1<m) (hm:m<=16) (r:∀ i j,i<m->j<m->sz (g i j)<=1000) (hg:sz L<=1000) (H:L≠0) (I:g 0 0 * g (i+1) (j+1) - g (i+1) 0 * g 0 (j+1)=q * L) :
  Calls prog 221 #[.int .i64 i,.int .i64 j,.pointer (some ⟨b1,0,none⟩),.pointer (some ⟨b2,0,none⟩)] w (AJ fun x w'=>Ac w w'/\Ao 0 w' x q):=by obtain⟨a,cap,rfl,hf,u⟩:=h;have S:=r 0 0 oo oo;have T:=r (i+1) 0 oo oo;have U:=r 0 (j+1) oo oo;have z4:=r (i+1) (j+1) oo oo;refine cS func221 ntmps221 ?_;refine Nv ?_;refine .s (oA) ?_;rintro _ w1 ⟨rfl,C,d,hk⟩;replace B1:=B1.ext d;replace B2:=B2.ext d;replace o:=o.ext d;obtain⟨Z,hl,hb,k,_,n⟩:=u 0 oo;obtain⟨ha,hn,hc,l,_,p⟩:=u (i+1) oo;replace k:=d.cell k;replace l:=d.cell l;obtain⟨ho,hd,V,y,D,M,O⟩:=(n.ext d).at (j:=0) oo;obtain⟨hr,e10,X,b,F,k10,Q⟩:=(p.ext d).at (j:=0) oo;obtain⟨hp,he,W,t,E,N,P⟩:=(n.ext d).at (j:=j+1) oo;obtain⟨ht,e11,Y,f,G,k11,R⟩:=(p.ext d).at (j:=j+1) oo;refine Nv ?_;refine St.sub (E':=[(0,.int .i64 i),(1,.int .i64 j),(2,.pointer (some ⟨b1,0,none⟩)),(3,.pointer (some ⟨b2,0,none⟩)),(6,.pointer (some ⟨w.heap.size,0,none⟩))]) ?_ AL;refine sF 29 ?_;refine FL.load (L:=[]) A8 rfl rfl rfl rfl rfl rfl EC sm rfl ?_;refine .on (fun _ _=>A0.ia) ?_;refine .on (fun _ c=>rL (c.aq.cell k)) ?_;refine .on (fun _ _=>A0.aQ (j:=0) rfl rfl rfl oo) ?_;refine .on (fun _ c=>A0.aH (j:=0) rfl (c.blk D sm) M O y.r2) ?_;refine FL.load (L:=[]) A8 rfl rfl rfl rfl rfl rfl EC sm rfl ?_;refine FL.as A8 2 (.int .i64 ((i+1:Nat):Int)) rfl (Bv oo) ?_;refine .on (fun _ _=>A0.ia) ?_;refine .on (fun _ c=>rL (c.aq.cell l)) ?_;refine .on (fun _ _=>A0.aQ (j:=0) rfl rfl rfl oo) ?_;refine .on (fun _ c=>A0.aH (j:=0) rfl (c.blk F sm) k10 Q b.r2) ?_;refine FL.load (L:=[]) A8 rfl rfl rfl rfl rfl rfl EC sm rfl ?_;refine .on (fun _ _=>A0.ia) ?_;refine .on (fun _ c=>rL (c.aq.cell k)) ?_;refine FL.as A8 2 (.int .i64 ((j+1:Nat):Int)) rfl (Bv oo) ?_;refine .on (fun _ _=>rJ oo) ?_;refine .on (fun _ c=>A0.aH rfl (c.blk E sm) N P t.r2) ?_;refine FL.load (L:=[]) A8 rfl rfl rfl rfl rfl rfl EC sm rfl ?_;refine FL.as A8 2 (.int .i64 ((i+1:Nat):Int)) rfl (Bv oo) ?_;refine .on (fun _ _=>A0.ia) ?_;refine .on (fun _ c=>rL (c.aq.cell l)) ?_;refine FL.as A8 2 (.int .i64 ((j+1:Nat):Int)) rfl (Bv oo) ?_;refine .on (fun _ _=>rJ oo) ?_;refine .on (fun _ c=>A0.aH rfl (c.blk G sm) k11 R f.r2) ?_;refine .on (fun _ c=>rI (c.blk (B2) sm) (o.r2)) ?_;refine FL.aG rfl ?_;intro w2 e _ _;refine .s (oK Ru (A1H ((y.ext e).dn oo) ((b.ext e).dn oo) ((t.ext e).dn oo) ((f.ext e).dn oo) ((o.ext e).dn oo) S T U z4 H I)) ?_;rintro z w3 ⟨A,K⟩;refine sC ((C.ext e).ext A) K ((d.trans e).trans A) AO ?_;intro w4 B4 hh B J;refine A7 ?_;exact Ad.cE rfl rfl B4 B ⟨J,B⟩
def Vv (w:World) (v:Value) (n:Nat) (f:Nat->Nat->Int):Prop:=∃ us,Jk 94 w v us/\us.length=n/\∀ k s,us[k]?=some s->MC w s (n - k) (n - k) (CP f k)
theorem Vv.ext {w:World}{v:Value}(h:Vv w v n f) (c:Ac w w'):Vv w' v n f:=by obtain⟨us,d,e,g⟩:=h;exact⟨us,d.ext c,e,fun k s j=>(g k s j).ext c⟩
theorem SH {w:World}{v:Value}(h:MC w v n n f) (hn:1<=n/\n<=8) (N:Ld n (RA f)) (hs:∀ k,k<n->∀ i j,i<n - k->j<n - k->sz (CP f k i j)<=1000) (kb:∀ k,k<=n->sz (AY f k)<=1000) :
  Calls prog 192 #[v] w (AJ fun x w'=>Ac w w'/\∃ u,x=.tuple #[u,.bool true]/\Vv w' u n f):=by
 have M:1<=n/\n<=16:=by omega
 have hv:=h;obtain⟨a,cap,e,_⟩:=hv;have ka:∀ i j,i<n->j<n->sz (f i j)<=1000:=fun i j L c=>by have:=hs 0 oo i j oo oo;rwa [Ny]at this
 subst e;refine cS func192 ntmps192 ?_;refine Nv ?_;refine .s (oB) ?_;rintro _ w1 ⟨rfl,B1,P,k0⟩;refine A7 ?_;refine .p FW ?_;refine .s (oK Qp (Yn (h.ext P) M)) ?_;rintro _ w2 ⟨Q,rfl⟩;replace B1:=B1.ext Q;replace h:=(h.ext P).ext Q;have hf:=P.trans Q;refine A7 ?_;refine .cf ?_;refine .p (A0.func (us:=[]) (vs:=[_]) rfl rfl) ?_;refine .s (Av.call L5 rfl (Vu (G:=f) (w:=w2) ⟨_,_,_,OB,rfl,fun w3 d i j L c=>Yo (h.ext d) (B1.ext d) L c ka⟩ M M)) ?_;rintro sv w3 ⟨d,D⟩;refine A7 ?_;refine .s (oK BC (DY w3 1 oo oo)) ?_;rintro l0 l ⟨A,Z⟩;refine Af.cn rfl (fun _=>rfl) Z.r2 ?_;intro w5 F B5;have W:=((D l.heap.size (.inr A.size)).ext A).ext F;have hg:=((hf.trans d).trans A).trans F;have ke:w.heap.size<=l.heap.size:=((hf.trans d).trans A).size;have ha:Ao 0 w5 l0 (AY f 0):=Z.ext F;have kd:(fun i j=>CP f 0 i j)=f:=by funext i j;exact Ny f i j
 refine A7 ?_;refine sG (24) (0) (n) (fun g:Value×Value=>[(1,.pointer (some ⟨w.heap.size,0,none⟩)),(4,.int .i64 n),(6,g.2),(7,.pointer (some ⟨l.heap.size,0,none⟩)),(8,g.1),(23,.int .i64 n)]) (fun k g w'=>k<n/\Ac w w'/\(∃ us,Aq 1 94 w.heap.size w' g.1 us/\us.length=k/\∀ j s,us[j]?=some s->Xb l.heap.size w' s (n - j) (n - j) (CP f j))/\Xb l.heap.size w' g.2 (n - k) (n - k) (CP f k)/\∃ lv,Aj 37 w' l.heap.size lv.cells.toList/\Ao 0 w' lv (AY f k)) ((.slice none 0 0,sv)) ?_ ?_ ?_
 ·refine⟨by omega,hg,⟨[],Aq.nil,rfl,fun j s c=>by simp at c⟩,?_,l0,B5,ha⟩;rw[PT];show Xb l.heap.size w5 sv n n (fun i j=>CP f 0 i j);rw[kd];exact W
 ·clear W D ha B5 hg F A d B1;rintro k ⟨k3,sv⟩ w6 hk ⟨_,R,⟨us,J,kf,he⟩,o,lv,B7,y⟩;dsimp only at J o ⊢;have h4:Y1 1 sv:=by obtain⟨g,cap,C,rfl,_⟩:=o;exact .inl ⟨rfl,rfl,rfl⟩
  refine A7 ?_;refine Af.aZ J h4 rfl rfl rfl rfl rfl rfl (fun _=>rfl) rfl rfl oo rfl R.size ?_;intro p7 ho w7 B X H _ I;have keep:∀ {s:Value} {j:Nat},Xb l.heap.size w6 s (n - j) (n - j) (CP f j)->Xb l.heap.size w7 s (n - j) (n - j) (CP f j):=fun hm=>hm.keep (et:=94) (fun t b C hb h7=>H t b C hb (.inl h7)) (fun u a=>I de 0 u a) de de;replace o:=keep o;have E:∀ j s,(us++[sv])[j]?=some s->Xb l.heap.size w7 s (n - j) (n - j) (CP f j):=by
   intro j s c;by_cases h6:j<us.length
   ·rw[BM h6]at c;exact keep (he j s c)
   ·have h5:j=us.length:=by have:=(Au.1 c).1;simp at this;omega
    subst h5;simp at c;subst c;rw[kf];exact o
  replace B7:=H _ _ _ B7 (.inl de);replace y:=I de 0 _ _ y;have S:=X w R AO;clear keep he J H I X R;refine .r rfl ?_;refine Nv ?_;refine .a 3 (.int .i64 ((n - 1:Nat):Int)) rfl (by rw[Ab oo oo];congr 1;omega) ?_;by_cases kz:k=n - 1
  ·refine .a 1 (.bool true) rfl (by rw[beq_iff_eq.2 oo]) ?_;refine A7 ?_;refine .ct ?_;refine Ad.aC A8 [_,_] rfl ⟨rfl,rfl,trivial⟩ ⟨S,ho,rfl,us++[sv],B.row (fun u hu=>?_),by simp;omega,fun j s c=>(E j s c).mc⟩;obtain⟨j,c⟩:=Cx.1 hu;obtain⟨g,cap,C,rfl,_⟩:=E j u c;rfl
  ·refine .a 1 (.bool false) rfl (by rw[beq_eq_false_iff_ne.2 oo]) ?_;refine A7 ?_;refine .cF ?_;have U:=o.mc;have V:=U;obtain⟨a,cap,rfl,kw,hA⟩:=U;obtain⟨b0,o0,c0,h2,_,h8⟩:=hA 0 oo;obtain⟨k5,ku,kr,Y,hr,kl,kn⟩:=h8.at (j:=0) oo;have kx:=CV N (show k+1<=n by omega);have ky:=CV N (show k<=n by omega);have hc:=hs k hk;have k2:=hc 0 0 oo oo;refine A7 ?_;refine .p (A0.ia) ?_;refine .p (rL h2) ?_;refine .p (A0.aQ (j:=0) rfl rfl rfl oo) ?_;refine .p (A0.aH (j:=0) rfl hr kl kn Y.r2) ?_;refine .s (oK CF (Kv (Y.dn oo))) ?_;rintro _ w8 ⟨hh,rfl⟩;have kc:AH (CP f k 0 0)=1:=by rw[HF];unfold AH;rw[if_neg oo,if_neg oo]
   rw[kc];refine .r rfl ?_;refine Nv ?_;refine .cf ?_;refine .s (oA) ?_;rintro _ w9 ⟨rfl,B9,hl,k1⟩;refine Af.step0 rfl rfl (Av.store A8 (vs:=[.slice (some a) (n - k) cap]) rfl rfl rfl rfl rfl B9 (Ai 1) (by simp[Value.oneCell'])) ?_;rintro _ T ⟨z,hd⟩;have ki:Ac w8 T:=hl.aj hd AO;replace z:Aj 94 T w8.heap.size [.slice (some a) (n - k) cap]:=z;have q:=hh.trans ki;have hx:=o.ext q;have hw:=V.ext q;replace B7:=B7.ext q;replace y:=y.ext q;have kg:=fun j s c=>(E j s c).ext q;replace B:=B.ext q;have kh:=S.trans q;have h0:=B7.lt;clear o V E S hh hl hd B9;refine Nv ?_;refine .a 3 (.int .i64 ((n - k:Nat):Int)) rfl (by rw[Ab oo oo];congr 1;omega) ?_;refine .a 1 (.int .i64 ((n - (k+1):Nat):Int)) rfl (by rw[Ab oo oo];congr 1;omega) ?_;refine .a 3 (.int .i64 ((n - k:Nat):Int)) rfl (by rw[Ab oo oo];congr 1;omega) ?_;refine .a 1 (.int .i64 ((n - (k+1):Nat):Int)) rfl (by rw[Ab oo oo];congr 1;omega) ?_;refine .p (A0.func (us:=[]) (vs:=[_,_]) rfl rfl) ?_;refine .s (Av.call L5 rfl (Vu (G:=CP f (k+1)) (w:=T) ⟨_,_,_,OC,rfl,fun w3 d i j L c=>Yp (hw.ext d) (z.ext d) (B7.ext d) (y.ext d) oo oo oo hc (kb k oo) oo (A04 N oo i j)⟩ oo oo)) ?_;rintro kp k6 ⟨m,D⟩;have hz:=D l.heap.size (.inl h0);refine .r rfl ?_;refine Nv ?_;replace z:=z.ext m;have hy:=hx.ext m;obtain⟨a',cap',e',_,hq⟩:=hy.mc;cases e';obtain⟨kt,k4,c0',h3,_,h9⟩:=hq 0 oo;obtain⟨kq,kv,ks,K,ht,km,ko⟩:=h9.at (j:=0) oo;rw[HF]at K;refine .p FW ?_;refine .p (A0.ia) ?_;refine .p (rL h3) ?_;refine .p (A0.aQ (j:=0) rfl rfl rfl oo) ?_;refine .p (A0.aH (j:=0) rfl ht km ko K.r2) ?_;refine Af.aK rfl rfl (B7.ext m) y.two.1 K (kh.trans m) ke ?_;intro k7 hp O kk kj;refine Nv ?_;refine Ad.aO (ho,kp) AL ⟨by omega,kj,⟨us++[.slice (some a) (n - k) cap],(B.ext m).aI O (B7.ext m) de,by simp;omega,fun j s c=>((kg j s c).ext m).upd O (B7.ext m)⟩,hz.upd O (B7.ext m),kq,hp,kk⟩
 ·rintro g w6 ⟨h1,_⟩;omega
def LCo (w:World) (v:Value) (c:Nat) (g:Nat->Int):Prop:=(∃ p cp,v=.slice p c cp)/\(0<c->∃ b o cp,v=.slice (some ⟨b,o,none⟩) c cp/\JE w b o c g)
theorem LCo.ext {w w':World}{v:Value}{c:Nat}{g:Nat->Int}(h:LCo w v c g) (j:Ac w w'):LCo w' v c g:=by refine⟨h.1,fun d=>?_⟩;obtain⟨b,o,cp,hv,e⟩:=h.2 d;exact⟨b,o,cp,hv,e.ext j⟩
abbrev yv (ys:List Int) (i:Nat):Int:=ys.getD i 0
def EA (ys:List Int):Prop:=∀ y ∈ ys,-1099511627776<=y/\y<=1099511627776
theorem EA.at {ys:List Int}(h:EA ys) (i:Nat):-1099511627776<=yv ys i/\yv ys i<=1099511627776:=by
 unfold yv;rw[Bd];cases hi:ys[i]? with
 | none=>simp
 | some y=>exact h y (Bi hi)
theorem EA.sz {ys:List Int}(h:EA ys) (i:Nat):Go.Qf.sz (yv ys i)<=2:=by have:=h.at i;exact Bn oo oo
def IJ (f:Nat->Nat->Int) (n:Nat) (ys:List Int):Int:=Ay ys.length (fun i=>yv ys i * Ay ys.length (fun j=>CP f (n - ys.length) i j * yv ys j))
theorem BQ.bh (h:BQ n f):PE (RA f):=fun p q=>by unfold RA;rw[h.sym p q]
theorem BQ.ent (h:BQ n f) (e:n<=8) (c:i<n) (d:j<n):-262144<f i j/\f i j<262144:=by have:=RV e h.bh h.pos h.rd h.det c d;unfold RA at this;exact⟨A8j.1 this.2,A8i.1 this.1⟩
theorem BQ.oks (h:BQ n f) (g:n<=8) (j:k<=n):OkS n f k :=
 ⟨fun m e=>h.pos m oo,fun m e=>Oo g h.pos h.rd h.det oo,fun l o i c d=>h.rd.1 i l d c⟩
theorem BQ.st (h:BQ n f) (e:n<=8) (d:k<=n) (m:i<n - k) (o:j<n - k):-25769803776<=CP f k i j/\CP f k i j<=25769803776:=by
 have c:=A01 h.bh (h.oks e d) oo (fun p q g l=>by have:=RV e h.bh h.pos h.rd h.det g l;constructor <;> grind) (show k<=k+i by omega) (show k<=k+j by omega) oo oo
 rw[<- IZ h.pos d i j]at c;exact Vs (a:=25769803776) (b:=25769803776) c
theorem BQ.aW (h:BQ n f) (e:n<=8) (c:k<=n):0<AY f k/\AY f k<65536:=by refine⟨CV h.pos c,?_⟩;have d:=Oo e h.pos h.rd h.det c;rw[<- HE h.pos c]at d;exact rlt.1 d
theorem BQ.szs (h:BQ n f) (e:n<=8):∀ k,k<n->∀ i j,i<n - k->j<n - k->sz (CP f k i j)<=1000:=fun k g i j c d=>by have:=h.st e (show k<=n by omega) c d;have:=Bn (a:=CP f k i j) oo oo;omega
theorem BQ.szd (h:BQ n f) (d:n<=8):∀ k,k<=n->sz (AY f k)<=1000:=fun k c=>by have:=h.aW d c;have:=Bn (a:=AY f k) oo oo;omega
theorem Xb.head {w:World}{v:Value}(h:MC w v m m G) (c:0<m):∃ a cap b o cp u e C,v=.slice (some a) m cap/\w.cell? (a.add 0)=some (.slice (some ⟨b,o,none⟩) m cp)/\Ao 0 w u (G 0 0)/\Aj e w b C/\(C.drop (o+2 * 0)).take 2=u.cells.toList/\o+2 * 0+2<=C.length:=by obtain⟨a,cap,hv,_,h⟩:=h;obtain⟨b,o,cp,d,j,g⟩:=h 0 c;obtain⟨u,e,C,k1,k2,k3,k4⟩:=g.at c;exact⟨a,cap,b,o,cp,u,e,C,hv,d,k1,k2,k3,k4⟩
theorem MC.dx {w:World}{v:Value}{r q:Nat}(h:MC w v r c G) (J:0<r) (A:0<c) (hu:CE q w w') (hB:Aj t w q [.slice none 0 0,.slice none 0 0]) (H:109≠t):MC w' v r c G:=by
 obtain⟨a,cap,hv,B,h⟩:=h;have nil:∀ {x:Addr} {z:Value},w.cell? x=some z->x.block=q->z=.slice none 0 0:=by
  intro x z d e;obtain⟨bx,ox,K⟩:=x;have e':bx=q:=e;subst e';unfold Aj at hB;unfold World.cell? at d;simp only[hB]at d;have:([Value.slice none 0 0,Value.slice none 0 0]:List Value)[ox]?=some z:=by simp at d;exact d.2
  have F:=Bi this;simpa using F
 refine⟨a,cap,hv,B,fun i D=>?_⟩;obtain⟨b,o,cp,k,y,e,C,l,m⟩:=h i D;have n:a.block≠q:=by intro e;have:=nil k (by rw[DW];exact e);cases this
 have s:b≠q:=by
  intro e2;subst e2;obtain⟨u,g,k1,k2⟩:=m 0 A;have f:C=[.slice none 0 0,.slice none 0 0]:=by have:=l.symm.trans hB;simp only[AP,Obj.cells.injEq]at this;simpa using this.1
  subst f;obtain⟨p,I,rfl,_⟩:=g.cells;simp only[BR,Fj]at k2;have:o=0:=by omega
  subst this;simp[Value.cells]at k1
 refine⟨b,o,cp,hu.cell k (by rw[DW];exact n),y,e,C,l.upd hu s,fun j E=>?_⟩;obtain⟨u,g,k1,k2⟩:=m j E;exact⟨u,g.aI hu hB H,k1,k2⟩
theorem Vv.dx {w:World}{v:Value}{q:Nat}(h:Vv w v n f) (hu:CE q w w') (hB:Aj 220 w q [.slice none 0 0,.slice none 0 0]):Vv w' v n f:=by
 obtain⟨us,y,z,j⟩:=h;refine⟨us,?_,z,fun k s r=>?_⟩
 ·obtain⟨p,cap,hv,t,u,m⟩:=y;refine⟨p,cap,hv,t,u,fun a l i c g=>hu.cell (m a l i c g) ?_⟩;intro e;have d:=m a l i c g;have b:=(Au.1 g).1;obtain⟨a2,A,e2,_⟩:=j i c g;generalize a.add i=x at d e;obtain⟨bx,ox,B⟩:=x;have e':bx=q:=e;subst e';unfold Aj at hB;unfold World.cell? at d;simp only[hB]at d;have:([Value.slice none 0 0,Value.slice none 0 0]:List Value)[ox]?=some c:=by simp at d;exact d.2
  have o:=Bi this;rw[e2]at o;simp at o
 ·have b:=(Au.1 r).1;exact (j k s r).dx oo oo hu hB de
theorem Vw {w:World}{v:Value}(h:G8 w v n f) (t:1<=n/\n<=8) (D:BQ n f) :
  Calls prog 186 #[v] w (AJ fun x w'=>Ac w w'/\∃ sv mv,x=.agg #[sv,mv]/\Vv w' sv n f/\LC w' mv (n+1) (AY f)):=by
 have h0:1<=n/\n<=16:=by omega
 refine Sj (args:=[_]) func186 rfl ntmps186 rfl ?_;refine Nv ?_;refine .s (Av.alloc A8 rfl) ?_;rintro _ w1 ⟨rfl,B2,W,ka⟩;refine A7 ?_;refine .s (Av.call JW rfl (Nw (h.ext W) h0 (fun i j hi o=>by have:=D.ent t.2 hi o;omega))) ?_;rintro _ w2 ⟨X,u,rs,rfl,hC⟩;have hg:=hC.mc t.1 t.1;refine A7 ?_;refine .s (Av.call Ks rfl (SH hg t D.pos (D.szs t.2) (D.szd t.2))) ?_;rintro _ w3 ⟨Y,sv,rfl,A⟩;obtain⟨ps,cs,hp⟩:=A.choose_spec.1.len;rw[A.choose_spec.2.1]at hp;subst hp;refine A7 ?_;refine .s (Av.call BC rfl (DY w3 1 oo oo)) ?_;rintro l0 l ⟨Z,S⟩;replace A:=A.ext Z;refine .s (Av.aP (k:=2) rfl rfl rfl rfl rfl (S.dn (by have:sz 1=1:=RI;omega)).cel) ?_;rintro _ q ⟨rfl,B5,he,kb⟩;refine .p (A0.build A8 rfl rfl rfl rfl) ?_;refine .s (Av.alloc A8 rfl) ?_;rintro _ w6 ⟨rfl,B6,d,kc⟩;refine Af.step0 rfl rfl (Av.store A8 (vs:=[.slice ps n cs,.slice (some ⟨l.heap.size,0,none⟩) 1 1]) rfl rfl rfl rfl rfl B6 (Ai 2) (by simp[Value.oneCell'])) ?_;rintro _ N ⟨B7,V⟩;replace B7:Aj 220 N q.heap.size [.slice ps n cs,.slice (some ⟨l.heap.size,0,none⟩) 1 1]:=B7;have ha:Ac l N:=(he.trans d).aj V he.size;have hr:Ac q N:=d.aj V AO;have h4:Ac w l:=((W.trans X).trans Y).trans Z;have hw:l.heap.size<=q.heap.size:=he.size;have C:=(((B2.ext X).ext Y).ext Z);have h7:=C.lt;clear B2 B6 V d W X Y hC hg;have hx:=(S.dn (by have:sz 1=1:=RI;omega)).cel;have hl:Aq 2 37 l.heap.size N (.slice (some ⟨l.heap.size,0,none⟩) 1 1) [l0]:=by
  refine⟨fun u hu=>?_,.inr ⟨l.heap.size,1,[],rfl,Ai _,?_,rfl,Ai _,by unfold maxLen;omega⟩⟩
  ·rw[Du.1 hu];exact hx.sh
  ·have:AV [l0]++[]=l0.cells.toList:=by unfold AV;simp
   rw[this];exact B5.ext hr
 refine A7 ?_;refine St.rng A8 (26) (0) (n) oo [(2,.pointer (some ⟨w.heap.size,0,none⟩)),(7,.pointer (some ⟨q.heap.size,0,none⟩)),(24,.slice ps n cs),(25,.int .i64 n)] (fun k w'=>Ac l w'/\∃ mv us,Aj 220 w' q.heap.size [.slice ps n cs,mv]/\Aq 2 37 l.heap.size w' mv us/\us.length=k+1/\∀ j u,us[j]?=some u->Ao 0 w' u (AY f j)) AL ?_ (fun _=>⟨rfl,rfl⟩) (fun _=>rfl) (fun _=>⟨rfl,rfl⟩) rfl rfl oo ?_ ?_
 ·refine⟨ha,_,[l0],B7,hl,rfl,fun j u hu=>?_⟩;have o:j=0:=by have:=(Au.1 hu).1;simp at this;omega
  subst o;simp at hu;subst hu;exact S.ext ha
 ·clear hl B7 B5 ha hr;rintro k w6 hk ⟨d,mv,us,B7,z,J,K⟩;obtain⟨uS,hv,h1,h3⟩:=A.ext d;have hq:uS[k]?=some (uS[k]'oo):=by simp
  obtain⟨Q,cS,eS,hm⟩:=hv.get hq;rw[h1]at eS;cases eS;obtain⟨a,cap,b0,o0,c0,u,e0,C0,ht,H,y,B,k0,hf⟩:=Xb.head (h3 k _ hq) oo;rw[ht]at hm;rw[HF]at y;have h8:=D.szd t.2 (k+1) oo;have E:=(y.dn oo).cel;refine Nv ?_;refine .p (A0.ia) ?_;refine .p (A0.load A8 rfl rfl rfl hm) ?_;refine .r rfl ?_;refine Nv ?_;refine St.sub (E':=[(26,.int .i64 k),(2,.pointer (some ⟨w.heap.size,0,none⟩)),(7,.pointer (some ⟨q.heap.size,0,none⟩)),(24,.slice (some Q) n cs),(25,.int .i64 n),(9,.slice (some a) (n - k) cap)]) ?_ AL;refine St.any Dv rfl ?_;intro w8 b _ _;replace B7:=B7.ext b;replace z:=z.ext b;replace H:=b.cell H;replace y:=y.ext b;replace B:=B.ext b;have h2:=fun j u hu=>(K j u hu).ext b;have hb:=d.trans b;refine WA.takes (fuel:=9) A8 kr (fun _ _ _ _ _ h=>h) [0,2] kr rfl ?_;refine WA.take 3 rfl rfl kr kr kr (fun _ _ _ h=>h) rfl rfl (fun w=>A0.ia) ?_;refine WA.meet 3 #[true,true,true,true,true,true,true,true,false,false,false] (fun b':Nat=>[(26,.int .i64 k),(2,.pointer (some ⟨w.heap.size,0,none⟩)),(7,.pointer (some ⟨q.heap.size,0,none⟩)),(24,.slice (some Q) n cs),(25,.int .i64 n),(31,mv),(37,.slice (some ⟨b',0,none⟩) 1 1)]) (fun b' w'=>Ac w8 w'/\Aj 37 w' b' u.cells.toList) ?_ ?_
  ·rintro b' m ⟨c,B9⟩;have F:=z.ext c;have P:=B7.ext c;refine WA.one (i:=8) kr (Ed.val rfl rfl rfl rfl (Av.dc F E B9 rfl rfl rfl rfl rfl rfl rfl oo rfl (hb.trans c).size) ?_);rintro kd M ⟨hh,R,h9⟩;have ho:∀ u a,Ao 0 m u a->Ao 0 M u a:=by
    intro u a G;rcases CB F R with hE | ⟨bb,CC,_,hbb,hBk,hU⟩
    ·exact G.ext hE
    ·exact G.aI hU hBk de
   have h5:Ac l M:=by
    rcases CB F R with hE | ⟨bb,CC,_,hbb,hBk,hU⟩
    ·exact (hb.trans c).trans hE
    ·exact (hb.trans c).aj hU hbb
   have O:Aj 220 M q.heap.size [.slice (some Q) n cs,mv]:=by
    rcases CB F R with hE | ⟨bb,CC,_,hbb,hBk,hU⟩
    ·exact P.ext hE
    ·refine P.upd hU ?_;intro e;subst e;have:=P.symm.trans hBk;simp only[AP,Obj.cells.injEq]at this;exact absurd this.2.1 de
   obtain⟨pm,cm,T⟩:=hh.len;subst T;refine WA.takes (fuel:=1) A8 kr (fun _ _ _ _ _ h=>h) [9] kr rfl ?_;refine WA.one (i:=10) kr (Ed.eff rfl rfl rfl (Av.store A8 (vs:=[_]) rfl rfl rfl rfl rfl O (Ai 2) (by simp[Value.oneCell'])) ?_);rintro _ kf ⟨hs,U⟩;refine WA.done kr ?_;refine Nv ?_;refine Ad.rnd AL ⟨h5.aj U hw,_,us++[u],hs,hh.aI U O de,by simp;omega,fun j x o=>?_⟩;refine Ao.aI (?_:Ao 0 M x _) U O de;by_cases hz:j<us.length
   ·rw[BM hz]at o;exact ho _ _ ((h2 j x o).ext c)
   ·have hy:j=us.length:=by have:=(Au.1 o).1;simp at this;omega
    subst hy;simp at o;subst o;rw[J];exact ho _ _ (y.ext c)
  ·intro meet;have L:∀ {m:World},Ac w8 m->m.cell? ⟨q.heap.size,1,none⟩=some mv:=fun c=>(B7.ext c).cell rfl;have ke:∀ {m:World},Ao 0 m u (AY f (k+1))->Y1 2 u:=fun G=>(G.dn oo).cel;refine WA.two (i:=1) (j:=4) kr ?_ ?_
   ·refine Ed.val rfl rfl rfl rfl (A0.load A8 rfl rfl rfl (L (Ac.refl _))).op ?_;rintro _ _ ⟨rfl,rfl⟩;refine WA.one (i:=4) kr (Ed.val rfl rfl rfl rfl (A0.load A8 rfl rfl rfl H).op ?_);rintro _ _ ⟨rfl,rfl⟩;refine WA.take 5 rfl rfl kr kr kr (fun _ _ _ h=>h) rfl rfl (fun w=>A0.aQ (j:=0) rfl rfl rfl oo) ?_;refine WA.one (i:=6) kr (Ed.val rfl rfl rfl rfl (A0.aH (j:=0) rfl B k0 hf y.r2).op ?_);rintro _ _ ⟨rfl,rfl⟩;refine WA.one (i:=7) kr (Ed.val rfl rfl rfl rfl (Av.aP (k:=2) rfl rfl rfl rfl rfl E) ?_);rintro _ m ⟨rfl,B9,c,_⟩;exact meet _ _ _ _ kr ⟨c,B9⟩ AL
   ·refine Ed.val rfl rfl rfl rfl (A0.load A8 rfl rfl rfl H).op ?_;rintro _ _ ⟨rfl,rfl⟩;refine WA.take 5 rfl rfl kr kr kr (fun _ _ _ h=>h) rfl rfl (fun w=>A0.aQ (j:=0) rfl rfl rfl oo) ?_;refine WA.two (i:=1) (j:=6) kr ?_ ?_
    ·refine Ed.val rfl rfl rfl rfl (A0.load A8 rfl rfl rfl (L (Ac.refl _))).op ?_;rintro _ _ ⟨rfl,rfl⟩;refine WA.one (i:=6) kr (Ed.val rfl rfl rfl rfl (A0.aH (j:=0) rfl B k0 hf y.r2).op ?_);rintro _ _ ⟨rfl,rfl⟩;refine WA.one (i:=7) kr (Ed.val rfl rfl rfl rfl (Av.aP (k:=2) rfl rfl rfl rfl rfl E) ?_);rintro _ m ⟨rfl,B9,c,_⟩;exact meet _ _ _ _ kr ⟨c,B9⟩ AL
    ·refine Ed.val rfl rfl rfl rfl (A0.aH (j:=0) rfl B k0 hf y.r2).op ?_;rintro _ _ ⟨rfl,rfl⟩;refine WA.two (i:=1) (j:=7) kr ?_ ?_
     ·refine Ed.val rfl rfl rfl rfl (A0.load A8 rfl rfl rfl (L (Ac.refl _))).op ?_;rintro _ _ ⟨rfl,rfl⟩;refine WA.one (i:=7) kr (Ed.val rfl rfl rfl rfl (Av.aP (k:=2) rfl rfl rfl rfl rfl E) ?_);rintro _ m ⟨rfl,B9,c,_⟩;exact meet _ _ _ _ kr ⟨c,B9⟩ AL
     ·refine Ed.val rfl rfl rfl rfl (Av.aP (k:=2) rfl rfl rfl rfl rfl E) ?_;rintro _ m ⟨rfl,B9,c,_⟩;refine WA.one (i:=1) kr (Ed.val rfl rfl rfl rfl (A0.load A8 rfl rfl rfl (L c)).op ?_);rintro _ _ ⟨rfl,rfl⟩;exact meet _ _ _ _ kr ⟨c,B9⟩ AL
 ·rintro w6 ⟨d,mv,us,B7,z,J,K⟩;have h6:=z.lc J oo (g:=AY f) (fun j u hu=>K j u hu);obtain⟨pm,cm,T⟩:=z.len;subst T;refine A7 ?_;refine .p (A0.aA A8 rfl rfl rfl B7 (Ai 2) rfl) ?_;refine Af.step0 rfl rfl (Av.store A8 (vs:=[_,_]) rfl rfl rfl rfl rfl (C.ext d) (Ai 2) (by simp[Value.oneCell'])) ?_;rintro _ w8 ⟨B8,I⟩;refine A7 ?_;refine Ad.aC A8 [_] rfl ⟨⟨_,_,_,_,rfl,B8,rfl,rfl,rfl,rfl⟩,trivial⟩ ⟨?_,_,_,rfl,?_,?_⟩
  ·exact (h4.trans d).aj I AO
  ·exact (A.ext d).dx I (C.ext d)
  ·exact (z.aI I (C.ext d) de).lc J oo (fun j u hu=>(K j u hu).aI I (C.ext d) de)
def pnQ (f:Nat->Nat->Int) (n:Nat) (ys:List Int):Rat:=Rat.divInt (IJ f n ys) (AY f (n - ys.length))
theorem A8l {n:Nat}{f:Nat->Nat->Int}{ys:List Int}(o:ys.length<=n) (q:n<=8) (e:∀ k,k<n->∀ i j,i<n - k->j<n - k->sz (CP f k i j)<=1000) (c:EA ys):sz (IJ f n ys)<=1100:=by
 unfold IJ;by_cases d:ys.length=0
 ·rw[d];show sz 0<=1100;rw[Ud];omega
 refine Ar (Gp (s:=1014) _ (fun i l=>?_)) oo;have g:sz (Ay ys.length (fun j=>CP f (n - ys.length) i j * yv ys j))<=1002+ys.length:=Gp _ (fun j m=>by have a1:=e (n - ys.length) oo i j oo oo;have a2:=c.sz j;have a3:=Bt (CP f (n - ys.length) i j) (yv ys j);omega)
 have a2:=c.sz i;have a3:=Bt (yv ys i) (Ay ys.length (fun j=>CP f (n - ys.length) i j * yv ys j));omega
theorem Ie.at {w:World}{v:Value}{M:List (List Int)}(h:Ie M) (k:Ft w v M):G8 w v M.length (ent M):=by have:=h.bq.2;have c:=h.1.1;exact Ft.at (by rw[<- this];exact k) c
def Yq (a:Int):Int:=if -9223372036854775808<=a/\a<=9223372036854775807 then a else 0
theorem RY (a:Int):∃ b,Je a=.tuple #[.int .i64 (Yq a),.bool b]:=by
 unfold Je Yq;split
 ·exact⟨true,rfl⟩
 ·exact⟨false,rfl⟩
def DG (f:Nat->Nat->Int) (n:Nat) (ys:List Int):Int:=Ay ys.length (fun j=>CP f (n - ys.length - 1) 0 (j+1) * yv ys j)
def GH (f:Nat->Nat->Int) (n:Nat) (B:Int) (ys:List Int):Int:=AY f (n - ys.length - 1) * (AY f (n - ys.length) * B - IJ f n ys)
def Mi (f:Nat->Nat->Int) (n:Nat) (r:Nat) (ys:List Int):Int:=-((DG f n ys+r) / AY f (n - ys.length))
def Mj (f:Nat->Nat->Int) (n:Nat) (r:Nat) (ys:List Int):Int:=((r:Int) - DG f n ys) / AY f (n - ys.length)
theorem JE.tl {w:World}{b o c:Nat}{g:Nat->Int}(h:JE w b o (c+1) g):JE w b (o+2) c (fun j=>g (j+1)):=by obtain⟨e,C,l,m⟩:=h;refine⟨e,C,l,fun j r=>?_⟩;obtain⟨u,d,k,q⟩:=m (j+1) oo;refine⟨u,d,?_,by omega⟩;rw[show o+2+2 * j=o+2 * (j+1) by omega];exact k
theorem A75 {a x:Nat}(h:EW a x):sz (x:Int)<=sz (a:Int):=by
 refine Od ?_;have c:=h.1;simp only[Int.natAbs_natCast];rcases Gu x with h0 | h0
 ·omega
 ·have:=HV x h0;omega
variable {u:Value}
theorem A3R (G:Nat->Nat->Int) (m:Nat):mk m m (fun _ _=>0)=mk m m (JM G 0 0):=BV fun a b _ _=>by unfold JM;rw[if_neg oo]
theorem A5m (G:Nat->Nat->Int) (m i:Nat):mk m m (JM G i m)=mk m m (JM G (i+1) 0):=BV fun a b c d=>by
 unfold JM;by_cases e:a<i\/a=i/\b<m
 ·rw[if_pos e,if_pos oo]
 ·rw[if_neg e,if_neg oo]
theorem A5n (G:Nat->Nat->Int) (m:Nat):mk m m (JM G m 0)=mk m m G:=BV fun a b c d=>by unfold JM;rw[if_pos oo]
theorem A5o (G:Nat->Nat->Int) (m i j:Nat):mk m m (Eg (JM G i j) i j (G i j))=mk m m (JM G i (j+1)):=BV fun a b c d=>by
 unfold Eg JM;by_cases e:a=i/\b=j
 ·rw[if_pos e,if_pos oo,e.1,e.2]
 ·rw[if_neg e];by_cases e2:a<i\/a=i/\b<j
  ·rw[if_pos e2,if_pos oo]
  ·rw[if_neg e2,if_neg oo]
theorem A1I (h:Ld n (RA f)) (g:m<=n+1):Gd m f:=fun j c d e=>by have:=h j oo;rw[e]at this;exact absurd this de
theorem BH.cw {w:World}{v r:Value}{row:List Int}{y:Int}(h:BH rs base w v M) (t:rs[i]?=some r) (m:M[i]?=some row) (J:j<row.length) (hu:Ao 0 w u y) :
  ∃ g cap C,r=.slice (some ⟨g,0,none⟩) row.length cap/\base<=g/\Aj 37 w g C/\2 * j+2<=C.length/\∀ w',CE g w w'->Aj 37 w' g (Fl C (2 * j) u.cells.toList)->BH rs base w' v (M.set i (row.set j y)):=by
 obtain⟨R,o,n,q⟩:=h;have E:i<R.length:=by have:=(Au.1 m).1;omega
 have l:R[i]?=some R[i]:=by simp
 obtain⟨k1,k2⟩:=q i _ row l m;have A:j<(R[i]).length:=by omega
 obtain⟨g,cap,D,hv,x,z,H,I,F⟩:=o.put de t l A (u:=u) hu.two;have B:=(o.2.2.2.1 i _ _ t l).1.flat;refine⟨g,cap,_,by rw[hv,k1],x,z,by rw[Bf,B];omega,fun w' f p=>⟨_,F w' f p,by simpa using n,?_⟩⟩;intro i' G row' e c;have keep:∀ (u':Value) (x':Int),Ao 0 w u' x'->Ao 0 w' u' x':=fun u' x' s=>s.aI f z de;by_cases e1:i=i'
 ·subst e1;rw[Bx E]at e;rw[Bx (by have:=(Au.1 m).1;omega)]at c;cases e;cases c;refine⟨by simpa using k1,fun j' u' x' d k=>?_⟩;by_cases e2:j=j'
  ·subst e2;rw[Bx oo]at d k;cases d;cases k;exact keep _ _ hu
  ·rw[Ce e2]at d k;exact keep _ _ (k2 j' u' x' d k)
 ·rw[Ce e1]at e c;obtain⟨q1,q2⟩:=q i' G row' e c;exact⟨q1,fun j' u' x' a b=>keep _ _ (q2 j' u' x' a b)⟩
theorem A1J {w:World}{v:Value}{s:Nat}(h:MI w v (mk n n f)) (F:1<=n/\n<=16) (N:∀ a b,a<n->b<n->sz (f a b)<=s) (O:1<=s) (z:2 ^ n * (s+1)<=100000) (hk:k<n) (he:Ld n (RA f)) :
  Calls prog 174 #[v,.int .i64 k] w (AJ fun x w'=>Ac w w'/\∃ rs,BH rs w.heap.size w' x (mk (n - k) (n - k) (CP f k))):=by
 obtain⟨pv,cv,ev⟩:=h.len;rw[AU]at ev;subst ev;have K:=ZL (k:=k+1) (n:=n) oo z;refine Sj (args:=[_,_]) func174 rfl ntmps174 rfl ?_;refine Nv ?_;refine .r rfl ?_;refine Nv ?_;refine .a 4 (.int .i64 ((n - k:Nat):Int)) rfl (by rw[Ab oo oo];congr 1;omega) ?_;obtain⟨m,hm⟩:∃ m,m=n - k:=⟨_,rfl⟩;rw[<- hm];refine A7 ?_;refine .s (Av.call IQ rfl (L9 (base:=w.heap.size) w m m oo oo AO)) ?_;rintro V w1 ⟨hh,rs,q⟩;replace q:=q.cP;rw[A3R (CP f k)]at q;obtain⟨g,cap,rfl⟩:=q.addr oo;refine A7 ?_;refine St.rng A8 (18) (0) (m) oo [(0,.slice pv n cv),(1,.int .i64 k),(6,.slice (some ⟨g,0,none⟩) m cap),(17,.int .i64 m)] (fun i w'=>Ac w w'/\BH rs w.heap.size w' (.slice (some ⟨g,0,none⟩) m cap) (mk m m (JM (CP f k) i 0))) AL ?_ (fun _=>⟨rfl,rfl⟩) (fun _=>rfl) (fun _=>⟨rfl,rfl⟩) rfl rfl oo ?_ ?_
 ·exact⟨hh,q⟩
 ·clear q hh;rintro i w3 M ⟨U,q⟩;obtain⟨a3,rr,ea,_,X,T⟩:=q.cI (i:=i) (by rw[AU];exact M);cases ea;have hv:∃ g3 I,rr=.slice (some ⟨g3,0,none⟩) m I:=by
   obtain⟨R,S,h2,h3⟩:=q;rw[AU]at h2;have hc:R[i]?=some (R[i]'oo):=by simp
   obtain⟨k1,k2⟩:=h3 i _ _ hc (BK M);obtain⟨g3,I,D3,e3,_⟩:=(S.2.2.2.1 i _ _ X hc).open (by intro e;rw[e]at k1;simp at k1;omega);refine⟨g3,I,?_⟩;rw[e3,k1];simp
  obtain⟨g3,I,rfl⟩:=hv;refine A7 ?_;refine .p (A0.ia) ?_;refine .p (A0.load A8 rfl rfl rfl T) ?_;refine A7 ?_;refine St.rng A8 (26) (0) (m) oo [(18,.int .i64 i),(0,.slice pv n cv),(1,.int .i64 k),(6,.slice (some ⟨g,0,none⟩) m cap),(17,.int .i64 m),(7,.int .i64 i),(25,.int .i64 m)] (fun j w'=>Ac w w'/\BH rs w.heap.size w' (.slice (some ⟨g,0,none⟩) m cap) (mk m m (JM (CP f k) i j))) AL ?_ (fun _=>⟨rfl,rfl⟩) (fun _=>rfl) (fun _=>⟨rfl,rfl⟩) rfl rfl oo ?_ ?_
  ·exact⟨U,q⟩
  ·clear q U T;rintro j w5 W ⟨hw,Y⟩;obtain⟨a3,h0,ea,_,hf,T⟩:=Y.cI (i:=i) (by rw[AU];exact M);cases ea;rw[X]at hf;cases hf;refine A7 ?_;refine St.sub (E':=[(26,.int .i64 j),(18,.int .i64 i),(0,.slice pv n cv),(1,.int .i64 k),(6,.slice (some ⟨g,0,none⟩) m cap),(17,.int .i64 m),(7,.int .i64 i),(25,.int .i64 m),(8,.int .i64 j)]) ?_ AL;refine St.any Dv rfl ?_;intro G Q _ _;have P:=hw.trans Q;have L:=Q.cell T;refine WA.takes (fuel:=8) A8 kr (fun _ _ _ _ _ h=>h) [0,1,4,5,6,7,8,9,11,12,13,14] kr rfl ?_;rw[show IntKind.i64.wrap ((k:Int)+(i:Int))=((k+i:Nat):Int) from by rw[Ab oo oo];rfl,show IntKind.i64.wrap ((k:Int)+(j:Int))=((k+j:Nat):Int) from by rw[Ab oo oo];rfl];refine WA.take 2 rfl rfl kr kr kr (fun _ _ _ h=>h) rfl rfl (fun w=>A0.ia) ?_;refine WA.meet 2 #[true,true,true,true,true,true,true,true,true,true,true,true,true,true,true,true,true,true,false,false] (fun s:Value×Int=>[(26,.int .i64 j),(18,.int .i64 i),(0,.slice pv n cv),(1,.int .i64 k),(6,.slice (some ⟨g,0,none⟩) m cap),(17,.int .i64 m),(7,.int .i64 i),(25,.int .i64 m),(8,.int .i64 j),(32,.slice (some ⟨g3,0,none⟩) m I),(33,.int .i64 j),(46,s.1)]) (fun sd w'=>Ac G w'/\Ao 0 w' sd.1 sd.2/\sz sd.2<=2 ^ (k+1) * (s+1)/\(Gd (k+1) (Tn f k (k+i) (k+j))->(sd.2:Rat)=dd (RA (Tn f k (k+i) (k+j))) (k+1))) ?_ ?_
   ·rintro⟨C,d⟩ w7 ⟨hl,l,t,y⟩;dsimp only at l t y ⊢;have hq:d=CP f k i j:=by have S:=y (A1p (A1I he oo));rw[Ye,<- IZ he (show k<=n by omega)]at S;exact_mod_cast S
    subst hq;obtain⟨g4,hy,C4,e4,hr,ho,hz,hu⟩:=((Y.ext Q).ext hl).cw X (BK M) (j:=j) (by simp;exact W) l;have ht:((List.range m).map (JM (CP f k) i j i)).length=m:=by simp
    rw[ht]at e4;simp only[Ci,AP,FF,and_true,true_and]at e4;obtain⟨rfl,rfl⟩:=e4;refine WA.one (i:=18) kr (Ed.val rfl rfl rfl rfl (A0.aQ rfl rfl rfl W).op ?_);rintro _ _ ⟨rfl,rfl⟩;refine WA.one (i:=19) kr (Ed.eff rfl rfl rfl (Av.store A8 (off:=0+2 * j) rfl rfl rfl rfl l.two.1 ho (by rw[l.two.1];omega) l.two.2) ?_);rintro _ w8 ⟨B8,hg⟩;rw[AE]at B8;have Z:=hu w8 hg B8;rw[K4 M W,A5o]at Z;refine WA.done kr ?_;refine Nv ?_;exact Ad.rnd AL ⟨(P.trans hl).aj hg hr,Z⟩
   ·intro meet;refine WA.two (i:=3) (j:=10) kr ?_ ?_
    ·refine Ed.val rfl rfl rfl rfl (A0.load A8 rfl rfl rfl ((Ac.refl _:Ac G G).cell L)).op ?_;rintro _ _ ⟨rfl,rfl⟩;refine WA.one (i:=10) kr (Ed.val rfl rfl rfl rfl (Av.call EV rfl (GG (base:=0) _ k (k+i) oo oo BI)) ?_);rintro u1 wa ⟨u,J⟩;refine WA.one (i:=15) kr (Ed.val rfl rfl rfl rfl (Av.call EV rfl (GG (base:=0) _ k (k+j) oo oo BI)) ?_);rintro u2 wb ⟨c,H⟩;refine WA.one (i:=16) kr (Ed.val rfl rfl rfl rfl (Av.call Fe rfl (GU (h.ext (P.trans (u.trans c))) F F ((J.ext c).row (Fa _ _)) (H.row (Fa _ _)) oo oo (fun x o=>CN oo oo o) (fun x o=>CN oo oo o))) ?_);rintro u3 wc ⟨A,E⟩;refine WA.one (i:=17) kr (Ed.val rfl rfl rfl rfl (Av.call Ca rfl (CH (f:=Tn f k (k+i) (k+j)) E ⟨by omega,by omega⟩ (s:=s) (fun a b D z=>N _ _ (CN oo oo D) (CN oo oo z)) O K)) ?_);rintro C wd ⟨B,d,l,t,y⟩;exact meet (C,d) _ _ _ kr ⟨(((u.trans c).trans A).trans B),l,t,y⟩ AL
    ·refine Ed.val rfl rfl rfl rfl (Av.call EV rfl (GG (base:=0) _ k (k+i) oo oo BI)) ?_;rintro u1 wa ⟨u,J⟩;refine WA.two (i:=3) (j:=15) kr ?_ ?_
     ·refine Ed.val rfl rfl rfl rfl (A0.load A8 rfl rfl rfl ((u:Ac G wa).cell L)).op ?_;rintro _ _ ⟨rfl,rfl⟩;refine WA.one (i:=15) kr (Ed.val rfl rfl rfl rfl (Av.call EV rfl (GG (base:=0) _ k (k+j) oo oo BI)) ?_);rintro u2 wb ⟨c,H⟩;refine WA.one (i:=16) kr (Ed.val rfl rfl rfl rfl (Av.call Fe rfl (GU (h.ext (P.trans (u.trans c))) F F ((J.ext c).row (Fa _ _)) (H.row (Fa _ _)) oo oo (fun x o=>CN oo oo o) (fun x o=>CN oo oo o))) ?_);rintro u3 wc ⟨A,E⟩;refine WA.one (i:=17) kr (Ed.val rfl rfl rfl rfl (Av.call Ca rfl (CH (f:=Tn f k (k+i) (k+j)) E ⟨by omega,by omega⟩ (s:=s) (fun a b D z=>N _ _ (CN oo oo D) (CN oo oo z)) O K)) ?_);rintro C wd ⟨B,d,l,t,y⟩;exact meet (C,d) _ _ _ kr ⟨(((u.trans c).trans A).trans B),l,t,y⟩ AL
     ·refine Ed.val rfl rfl rfl rfl (Av.call EV rfl (GG (base:=0) _ k (k+j) oo oo BI)) ?_;rintro u2 wb ⟨c,H⟩;refine WA.two (i:=3) (j:=16) kr ?_ ?_
      ·refine Ed.val rfl rfl rfl rfl (A0.load A8 rfl rfl rfl (((u.trans c):Ac G wb).cell L)).op ?_;rintro _ _ ⟨rfl,rfl⟩;refine WA.one (i:=16) kr (Ed.val rfl rfl rfl rfl (Av.call Fe rfl (GU (h.ext (P.trans (u.trans c))) F F ((J.ext c).row (Fa _ _)) (H.row (Fa _ _)) oo oo (fun x o=>CN oo oo o) (fun x o=>CN oo oo o))) ?_);rintro u3 wc ⟨A,E⟩;refine WA.one (i:=17) kr (Ed.val rfl rfl rfl rfl (Av.call Ca rfl (CH (f:=Tn f k (k+i) (k+j)) E ⟨by omega,by omega⟩ (s:=s) (fun a b D z=>N _ _ (CN oo oo D) (CN oo oo z)) O K)) ?_);rintro C wd ⟨B,d,l,t,y⟩;exact meet (C,d) _ _ _ kr ⟨(((u.trans c).trans A).trans B),l,t,y⟩ AL
      ·refine Ed.val rfl rfl rfl rfl (Av.call Fe rfl (GU (h.ext (P.trans (u.trans c))) F F ((J.ext c).row (Fa _ _)) (H.row (Fa _ _)) oo oo (fun x o=>CN oo oo o) (fun x o=>CN oo oo o))) ?_;rintro u3 wc ⟨A,E⟩;refine WA.two (i:=3) (j:=17) kr ?_ ?_
       ·refine Ed.val rfl rfl rfl rfl (A0.load A8 rfl rfl rfl ((((u.trans c).trans A):Ac G wc).cell L)).op ?_;rintro _ _ ⟨rfl,rfl⟩;refine WA.one (i:=17) kr (Ed.val rfl rfl rfl rfl (Av.call Ca rfl (CH (f:=Tn f k (k+i) (k+j)) E ⟨by omega,by omega⟩ (s:=s) (fun a b D z=>N _ _ (CN oo oo D) (CN oo oo z)) O K)) ?_);rintro C wd ⟨B,d,l,t,y⟩;exact meet (C,d) _ _ _ kr ⟨(((u.trans c).trans A).trans B),l,t,y⟩ AL
       ·refine Ed.val rfl rfl rfl rfl (Av.call Ca rfl (CH (f:=Tn f k (k+i) (k+j)) E ⟨by omega,by omega⟩ (s:=s) (fun a b D z=>N _ _ (CN oo oo D) (CN oo oo z)) O K)) ?_;rintro C wd ⟨B,d,l,t,y⟩;refine WA.one (i:=3) kr (Ed.val rfl rfl rfl rfl (A0.load A8 rfl rfl rfl (((((u.trans c).trans A).trans B):Ac G wd).cell L)).op ?_);rintro _ _ ⟨rfl,rfl⟩;exact meet (C,d) _ _ _ kr ⟨(((u.trans c).trans A).trans B),l,t,y⟩ AL
  ·rintro G ⟨Q,hp⟩;refine Nv ?_;refine Ad.rnd AL ⟨Q,?_⟩;rw[<- A5m];exact hp
 ·rintro w3 ⟨U,q⟩;rw[A5n]at q;refine A7 ?_;exact Ad.ax rfl rfl ⟨U,rs,q⟩
variable {e:TypeId}
theorem BH.keep {w:World}{v:Value}(h:BH rs base w v M) (hB:∀ t b C,Aj t w b C->t≠et->Aj t w' b C) (k:∀ u a,Ao 0 w u a->Ao 0 w' u a) (e:122≠et) (g:37≠et):BH rs base w' v M:=by obtain⟨R,⟨a1,a2,a3,a4,a5⟩,b1,b2⟩:=h;refine⟨R,⟨a1.bO fun b C _ c=>hB _ _ _ c e,a2,a3,fun i r us l d=>(a4 i r us l d).bO fun b C _ c=>hB _ _ _ c g,a5⟩,b1,fun i us row d m=>?_⟩;obtain⟨c1,c2⟩:=b2 i us row d m;exact⟨c1,fun j u x hu o=>k u x (c2 j u x hu o)⟩
def A05 (w:World) (v:Value) (n:Nat) (f:Nat->Nat->Int):Prop:=∃ us,Jk 94 w v us/\us.length=n/\∀ k s,us[k]?=some s->MI w s (mk (n - k) (n - k) (CP f k))
theorem A05.ext {w:World}{v:Value}(h:A05 w v n f) (c:Ac w w'):A05 w' v n f:=by obtain⟨us,d,e,g⟩:=h;exact⟨us,d.ext c,e,fun k s j=>(g k s j).ext c⟩
def P6 (w:World) (v:Value) (n:Nat) (f:Nat->Nat->Int):Prop:=∃ us,Aq 1 94 0 w v us/\us.length=n/\∀ k s,us[k]?=some s->∃ rs,BH rs 0 w s (mk (n - k) (n - k) (CP f k))
theorem P6.ext {w:World}{v:Value}(h:P6 w v n f) (c:Ac w w'):P6 w' v n f:=by obtain⟨us,d,e,g⟩:=h;exact⟨us,d.ext c,e,fun k s l=>by obtain⟨rs,j⟩:=g k s l;exact⟨rs,j.ext c⟩⟩
theorem P6.aI {w:World}{v:Value}(h:P6 w v n f) (hu:CE b w w') (hB:Aj t w b C) (d:94≠t) (g:122≠t) (j:37≠t) (l:109≠t):P6 w' v n f:=by
 obtain⟨us,k1,k2,k3⟩:=h;refine⟨us,k1.aI hu hB d,k2,fun k s r=>?_⟩;obtain⟨rs,o⟩:=k3 k s r;refine⟨rs,o.keep (et:=t) (fun t' b' D c q=>c.upd hu (by intro e;subst e;have:=c.symm.trans hB;simp only[AP,Obj.cells.injEq]at this;exact q this.2.1)) (fun _ _ m=>m.aI hu hB l) g j⟩
theorem P6.list {w:World}{v:Value}(h:P6 w v n f) (z:∀ k,k<n->∀ i j,i<n - k->j<n - k->sz (CP f k i j)<=1000):A05 w v n f:=by
 obtain⟨us,m,o,d⟩:=h;refine⟨us,m.row (fun u hu=>?_),o,fun k s l=>?_⟩
 ·obtain⟨j,e⟩:=Cx.1 hu;have y:=(Au.1 e).1;obtain⟨rs,c⟩:=d j u e;obtain⟨g,cap,rfl⟩:=c.addr oo;rfl
 ·have y:=(Au.1 l).1;obtain⟨rs,c⟩:=d k s l;exact c.mi (Ns (fun a b q r=>z k oo a b q r) oo)
theorem Yr {w:World}{v:Value}{s:Nat}(h:MI w v (mk n n f)) (F:1<=n/\n<=16) (G:∀ a b,a<n->b<n->sz (f a b)<=s) (H:1<=s) (m:2 ^ n * (s+1)<=100000) (A:Ld n (RA f)) :
  Calls prog 124 #[v] w (AJ fun x w'=>Ac w w'/\∃ u,x=.tuple #[u,.bool true]/\P6 w' u n f):=by
 obtain⟨pv,cv,ev⟩:=h.len;rw[AU]at ev;subst ev;refine cS func124 ntmps124 ?_;refine A7 ?_;refine .s (oK FK (HB h F G H m)) ?_;rintro _ w1 ⟨J,u,dl,rfl,Q,he,W⟩;obtain⟨bd,od,cd,ed,hh,S⟩:=Q;subst ed;refine A7 ?_;refine .cF ?_;refine Nv ?_;refine .a 4 (.int .i64 ((n - 1:Nat):Int)) rfl (by rw[Ab oo oo];congr 1;omega) ?_;refine .p (A0.bp A8 rfl rfl rfl rfl oo oo) ?_;rw[Cj];refine A7 ?_;refine H6 (23) (0) (n - 1) [(0,.slice pv n cv),(21,.slice (some ⟨bd,od,none⟩) (n - 1) cd),(22,.int .i64 ((n - 1:Nat):Int))] (fun i w'=>Ac w1 w') ?_ ?_ ?_
 ·exact Ac.refl _
 ·rintro i w3 hi c;have V:=W i oo (A1I A oo);have ho:=he i oo;obtain⟨y,e,C,o,hB,k1,k2⟩:=(S.ext c).at (j:=i) oo;have hl:0<dl i:=by have:=A (i+1) oo;rw[<- V]at this;exact_mod_cast this
  refine Nv ?_;refine .p (rJ oo) ?_;refine .p (A0.aH rfl hB k1 k2 o.r2) ?_;refine Af.cn rfl (fun _=>rfl) o.r2 ?_;intro M l N;refine Nv ?_;refine .p (rI N o.r2) ?_;refine .s (oK Dd (EZ ((o.ext l).dn oo))) ?_;rintro _ w5 ⟨hf,rfl⟩;have hc:AH (dl i)=1:=by unfold AH;rw[if_neg oo,if_neg oo]
  rw[hc];refine .r rfl ?_;refine Nv ?_;refine .cF ?_;refine Nv ?_;exact Ad.rnd AL ((c.trans l).trans hf)
 ·rintro w2 K;have I:=J.trans K;refine A7 ?_;refine sG (33) (0) (n) (fun g:Value=>[(0,.slice pv n cv),(8,g),(32,.int .i64 n)]) (fun k g w'=>Ac w w'/\∃ us,Aq 1 94 w.heap.size w' g us/\us.length=k/\∀ j s,us[j]?=some s->∃ rs,BH rs 0 w' s (mk (n - j) (n - j) (CP f j))) (.slice none 0 0) ?_ ?_ ?_
  ·exact⟨I,[],Aq.nil,rfl,fun j s d=>by simp at d⟩
  ·clear I K J;rintro k L w3 Y ⟨c,us,q,B,D⟩;refine A7 ?_;refine .s (oK XH (A1J (h.ext c) F G H m Y A)) ?_;rintro sv M ⟨l,rs,E⟩;have U:Y1 1 sv:=by obtain⟨g,cap,rfl⟩:=E.addr oo;exact .inl ⟨rfl,rfl,rfl⟩
   refine Af.aZ (q.ext l) U rfl rfl rfl rfl rfl rfl (fun _=>rfl) rfl rfl oo rfl (c.trans l).size ?_;intro p7 hg w7 R T O _ P;have keep:∀ {s:Value} {j:Nat} {rs:List Value},BH rs 0 M s (mk (n - j) (n - j) (CP f j))->BH rs 0 w7 s (mk (n - j) (n - j) (CP f j)):=fun z=>z.keep (et:=94) (fun t b C m ha=>O t b C m (.inl ha)) (fun u a=>P de 0 u a) de de;refine A7 ?_;refine Ad.aO hg AL ⟨T w (c.trans l) AO,us++[sv],R,by simp;omega,fun j s d=>?_⟩;by_cases Z:j<us.length
   ·rw[BM Z]at d;obtain⟨rs',z⟩:=D j s d;exact⟨rs',keep (z.ext l)⟩
   ·have X:j=us.length:=by have:=(Au.1 d).1;simp at this;omega
    subst X;simp at d;subst d;rw[B];exact⟨rs,keep (E.mono BI)⟩
  ·rintro L w3 ⟨c,us,q,B,D⟩;refine A7 ?_;exact Ad.aC A8 [_,_] rfl ⟨rfl,rfl,trivial⟩ ⟨c,L,rfl,us,q.mono BI,B,D⟩
theorem JE.list {w:World}{o:Nat}{g:Nat->Int}:∀ {c:Nat},JE w b o c g->∃ e C ds,Aj e w b C/\ds.length=c/\(C.drop o).take (2 * c)=AV ds/\(0<c->o+2 * c<=C.length)/\∀ j u,ds[j]?=some u->Ao 0 w u (g j):=by
 intro c;induction c with
 | zero =>
  rintro⟨e,C,k,_⟩;exact⟨e,C,[],k,rfl,by simp[AV],fun h=>by omega,fun j u d=>by simp at d⟩
 | succ c ih =>
  rintro⟨e,C,k,l⟩;obtain⟨e',C',ds,v,a,z,_,y⟩:=ih ⟨e,C,k,fun j d=>l j oo⟩;have r:C'=C:=by have:=v.symm.trans k;simp only[AP,Obj.cells.injEq]at this;simpa using this.1
  subst r;obtain⟨u,m,q,i⟩:=l c oo;refine⟨e,C',ds++[u],k,by simp;omega,?_,fun _=>by omega,fun j x d=>?_⟩
  ·rw[WZ,<- z,<- q,show 2 * (c+1)=2 * c+2 by omega,List.take_add,Hl]
  ·by_cases f:j<ds.length
   ·rw[BM f]at d;exact y j x d
   ·have t:j=ds.length:=by have:=(Au.1 d).1;simp at this;omega
    subst t;simp at d;subst d;rw[a];exact m
theorem Av.appI {w:World}{s:Operand}{pos:String}{v:Value}{o cp:Nat}{ds:List Value}
  (h:Aq 2 37 base w v us) (hB:Aj e w b C) (z:ds.length=c) (D:(C.drop o).take (2 * c)=AV ds) (B:∀ u ∈ ds,Y1 2 u) (M:ov E s=some v) (R:ov E x=some (.slice (some ⟨b,o,none⟩) c cp)) (U:us.length+c<=1000000) (p:base<=w.heap.size) :
  Av prog n ⟨d,.call ⟨.builtin .append,#[s,x],#[122,122]⟩,ty,pos,af,g⟩ E w (fun v' w'=>Aq 2 37 base w' v' (us++ds)/\w.grownBy w' v.ownBlock/\(v'.ownBlock=v.ownBlock\/v'.ownBlock=some w.heap.size)):=by
 obtain⟨Q,_⟩:=A8 122 _ rfl;obtain⟨_,inf,H,O,A,S⟩:=A8 37 _ rfl;have m:M8 2 ds:=fun u hu=>(B u hu).sh;have G:(AV ds).length=c * 2:=by rw[m.flat,z,AQ]
 obtain⟨v',w',J,q,t,T,f⟩:=run_append_own_at (P:=prog) w base 122 ty 37 inf _ 2 32 Q H S O A rfl de v us.length (AV us) h.owns ⟨b,o,none⟩ c cp (AV ds) G
  (fun j u l=>by
   rw[Ak];refine hB.cell ?_;rw[<- D,List.getElem?_take]at l;split at l
   ·rw[Jt]at l;exact l
   ·cases l) (fun u hu=>by unfold AV at hu;obtain⟨y,k,I⟩:=List.mem_flatMap.1 hu;exact (m y k).2 u I) (by unfold maxLen;omega) oo p
 have N:M8 2 (us++ds):=by
  intro y k;rcases FB.1 k with k | k
  ·exact h.1 y k
  ·exact m y k
 have F:AV us++AV ds=AV (us++ds):=by unfold AV;rw[LU]
 rw[F]at q;intro a r Q' K i;have e1:=r.eval M;have e2:=r.eval R;have L:(execOp a.eval ⟨d,.call ⟨.builtin .append,#[s,x],#[122,122]⟩,ty,pos,af,g⟩).run prog w=.ok (.value v') w':=by generalize a.eval=ρ at e1 e2;simp only[execOp,resolve,invoke,builtin,Bq,AX,Bp,Js,Er,J4,e1,e2,J]
 unfold Oper.wp;rw[L,Oper.upon_value];exact i v' w' ⟨Aq.bU N (by rw[Bf,z];exact q),t,f⟩
def FrV (w:World) (x:Value) (n:Nat) (f:Nat->Nat->Int):Prop:=∃ sv dv,x=.agg #[.int .i64 n,sv,dv]/\A05 w sv n f/\LC w dv (n+1) (AY f)
theorem FrV.ext {w:World}{x:Value}(h:FrV w x n f) (c:Ac w w'):FrV w' x n f:=by obtain⟨sv,dv,d,e,g⟩:=h;exact⟨sv,dv,d,e.ext c,g.ext c⟩
theorem Mk {w:World}{v:Value}(h:Ft w v (mk n n f)) (o:1<=n/\n<=8) (d:BQ n f) :
  Calls prog 81 #[v] w (AJ fun x w'=>Ac w w'/\FrV w' x n f):=by
 have y:1<=n/\n<=16:=by omega
 have S:QI n 262144 f:=fun p q hp hq=>by have:=d.ent o.2 hp hq;omega
 have K:∀ a b,a<n->b<n->sz (f a b)<=2:=fun a b ha I=>by have:=S a b ha I;exact Bn oo oo
 have R:2 ^ n * (2+1)<=100000:=Ar (Bm _ (DB oo o.2)) de;have h0:=d.szs o.2;have h7:=d.szd o.2;obtain⟨pv,cv,ev⟩:=h.len;rw[AU]at ev;subst ev;refine cS func81 ntmps81 ?_;refine Nv ?_;refine .s (oA) ?_;rintro _ w1 ⟨rfl,B2,he,h8⟩;refine A7 ?_;have hy:Calls prog 60 #[.slice pv n cv] w1 (AJ fun r w'=>Ac w1 w'/\MI w' r (mk n n f)):=by
  refine (Y0 (base:=0) w1 _ _ (h.ext he) BI ?_).mono ?_
  ·intro row hr x t;obtain⟨i,J⟩:=Cx.1 hr;have g:=(Au.1 J).1;rw[AU]at g;rw[BK g]at J;cases J;simp only[CG,CZ]at t;obtain⟨j,c,rfl⟩:=t;have:=S i j g c;omega
  ·rintro e w' ⟨x,rfl,t,⟨_,rs,hC⟩ | ⟨hw,_⟩⟩
   ·exact⟨x,rfl,t,hC.mi (Ns K oo)⟩
   ·exact absurd (A1C y.1 y.2 f).1 hw
 refine .s (oK O7 (hy)) ?_;rintro A w2 ⟨hf,P⟩;refine A7 ?_;refine .s (oK Wi (Yr P y K oo R d.pos)) ?_;rintro _ w3 ⟨L,sv,rfl,G⟩;refine A7 ?_;refine .s (oK FK (HB (P.ext L) y K oo R)) ?_;rintro _ w4 ⟨M,dv,dl,rfl,hL,hz,hm⟩;have ho:∀ k,k<n->dl k=AY f (k+1):=fun k hk=>by have O:=hm k hk (A1I d.pos oo);rw[<- HE d.pos (show k+1<=n by omega)]at O;exact_mod_cast O
 obtain⟨bd,od,cd,ed,h6,hh⟩:=hL;subst ed;replace G:=G.ext M;refine A7 ?_;refine .s (oK AW (Ba (base:=0) w4 1 oo oo BI)) ?_;rintro l0 D ⟨B,Z⟩;have W:=(Z.dn (by have:sz 1=1:=RI;omega)).cel;refine .s (Av.aP (k:=2) rfl rfl rfl rfl rfl W) ?_;rintro _ w6 ⟨rfl,B6,l,h9⟩;have h5:=B.trans l;have F:Aq 2 37 D.heap.size w6 (.slice (some ⟨D.heap.size,0,none⟩) 1 1) [l0]:=by
  refine⟨fun u hu=>?_,.inr ⟨D.heap.size,1,[],rfl,Ai _,?_,rfl,Ai _,by unfold maxLen;omega⟩⟩
  ·rw[Du.1 hu];exact W.sh
  ·have:AV [l0]++[]=l0.cells.toList:=by unfold AV;simp
   rw[this];exact B6
 obtain⟨ed,Cd,ds,hg,hv,ht,_,V⟩:=(hh.ext h5).list;have hs:∀ u ∈ ds,Y1 2 u:=by intro u hu;obtain⟨j,c⟩:=Cx.1 hu;have g:=(Au.1 c).1;exact ((V j u c).dn (by have:=hz j oo;omega)).cel
 refine .r rfl ?_;refine .s (Av.appI F hg hv ht hs rfl rfl (by simp;omega) l.size) ?_;rintro mv E ⟨Q,X,_⟩;have N:Ac D E:=by
  rcases CB F X with hE | ⟨b,C,_,I,_,hU⟩
  ·exact l.trans hE
  ·exact l.aj hU I
 have U:∀ u a,Ao 0 w6 u a->Ao 0 E u a:=by
  intro u a T;rcases CB F X with hE | ⟨bb,CC,_,hbb,hBk,hU⟩
  ·exact T.ext hE
  ·exact T.aI hU hBk de
 have hl:∀ j u,([l0]++ds)[j]?=some u->Ao 0 E u (AY f j):=by
  intro j u c;cases j with
  | zero=>simp at c;subst c;exact U _ _ (Z.ext l)
  | succ j =>
   have Y:ds[j]?=some u:=by simpa using c
   have g:=(Au.1 Y).1;have:=U _ _ (V j u Y);rw[ho j oo]at this;exact this
 have m:=((((B2.ext hf).ext L).ext M).ext B).ext N;have H:=(G.ext B).ext N;obtain⟨pm,cm,em⟩:=Q.len;subst em;obtain⟨us,hd,h2,h3⟩:=H;obtain⟨ps,cs,es⟩:=hd.len;subst es;have H:P6 E (.slice ps us.length cs) n f:=⟨us,hd,h2,h3⟩;have h4:=(((he.trans hf).trans L).trans M).trans (B.trans N);refine .p (rB) ?_;refine Af.step0 rfl rfl (Av.store A8 (vs:=[.int .i64 n,.slice ps us.length cs,.slice pm ([l0]++ds).length cm]) rfl rfl rfl rfl rfl m (Ai 3) (by simp[Value.oneCell'])) ?_;rintro _ w8 ⟨B8,z⟩;refine A7 ?_;refine Ad.aC A8 [_] rfl ⟨⟨_,_,_,_,rfl,B8,rfl,rfl,rfl,rfl⟩,trivial⟩ ⟨h4.aj z AO,_,_,rfl,?_,?_⟩
 ·exact (H.aI z m de de de de).list h0
 ·exact (Q.aI z m de).lc (by simp;omega) oo (fun j u hu=>(hl j u hu).aI z m de)
theorem A1K {y s:Nat}(c:y % 2 ^ (s+1)=0) (j:y+2 ^ s<4294967296):Km .andNot .u32 ((y+2 ^ s:Nat):Int) ((2 ^ s:Nat):Int)=(y:Int):=by
 have d:y.testBit s=false:=by obtain⟨z,rfl⟩:=U0 c;rw[Nat.testBit_two_pow_mul];simp;intro h;omega
 have key:BitVec.ofInt 32 ((y+2 ^ s:Nat):Int) &&& ~~~ BitVec.ofInt 32 ((2 ^ s:Nat):Int)=BitVec.ofNat 32 y:=by
  rw[BitVec.ofInt_natCast,BitVec.ofInt_natCast];apply BitVec.eq_of_getLsbD_eq;intro i g;simp only[BitVec.getLsbD_and,BitVec.getLsbD_not,BitVec.getLsbD_ofNat,g,decide_true,Bool.true_and];rw[<- A1b c,Nat.testBit_or,Nat.testBit_two_pow];by_cases e:s=i
  ·subst e;simp[d]
  ·simp[e]
 show IntKind.u32.wrap (((BitVec.ofInt 32 ((y+2 ^ s:Nat):Int) &&& ~~~ BitVec.ofInt 32 ((2 ^ s:Nat):Int)).toNat:Nat):Int)=_;rw[key,BitVec.toNat_ofNat,Hj oo];exact Hs oo oo
theorem Ys {xs:List Nat}{k x:Nat}(c:xs[k]?=some x) (y:Nat):(xs.set k y).set k x=xs:=by
 rw[List.set_set];apply Fk;intro i;by_cases e:k=i
 ·subst e;rw[Bx (Au.1 c).1,c]
 ·rw[Ce e]
theorem A76 {m R p:Nat}(c:m<(R+2 * p) * (R+2 * p)):m<(R+p+p) * (R+p+p):=by rwa [show R+p+p=R+2 * p from by omega]
theorem A5p {w:World}{vx:Value}{a:Int}(h:Dn w vx a) (hx:sz a<=100000):Calls prog 180 #[vx] w (AJ fun r w'=>Ac w w'/\A8V w' r a):=by
 have hD:=h;obtain⟨na,xs,⟨p,cap,rfl,hs⟩,rfl,kt⟩:=h;have kr:=Ap xs hs.2;have ks:(Ae (Ah xs)).length<=100000:=by unfold sz at hx;rwa [Gf]at hx
 refine cS func180 ntmps180 ?_;refine Nv ?_;refine .s (oB) ?_;rintro _ w1 ⟨rfl,ho,hf,kx⟩;refine .s (oA) ?_;rintro _ w2 ⟨rfl,X,hg,ky⟩;have d:Aj 37 w2 w.heap.size [.bool na,.slice p xs.length cap]:=ho.ext hg;have c:Aj 37 w2 w1.heap.size [.bool false,.slice none 0 0]:=X;have m:=hf.trans hg;have hw:=hf.size;have kp:=X.lt;clear ho X hf hg;refine A7 ?_;refine .p (A0.bB rfl d rfl rfl) ?_;refine .s (oK Dd (EZ (hD.ext m))) ?_;rintro _ w3 ⟨P,rfl⟩;replace d:=d.ext P;replace c:=c.ext P;replace m:=m.trans P;clear P;refine A7 ?_;by_cases hc:sg na (Ah xs)<0
 ·refine St.aD rfl (by simp[AH,hc]) ?_;refine A7 ?_;refine .p (rB) ?_;refine Af.step0 rfl rfl (Av.store A8 (vs:=[.bool false,.slice none 0 0]) rfl rfl rfl rfl rfl c AO (by simp[Value.oneCell'])) ?_;rintro _ k ⟨kc,kj⟩;refine A7 ?_;exact Ad.aC A8 [FM false (.slice none 0 0),.bool false] rfl ⟨⟨_,_,_,_,rfl,kc,rfl,rfl,rfl,rfl⟩,rfl,trivial⟩ ⟨m.aj kj hw,fun _=>rfl,fun h0=>by omega⟩
 refine St.ay rfl (by simp only[AH,if_neg hc];split <;> decide) ?_;have hA:(sg na (Ah xs)).natAbs=Ah xs:=Gf _ _;have ka:sg na (Ah xs)=(Ah xs:Int):=by omega
 refine A7 ?_;refine .p (FX d) ?_;refine .s (oK CU (Dq (base:=0) w3 _ xs (hs.ext m) oo BI)) ?_;rintro k1 k ⟨Q,hh⟩;replace d:=d.ext Q;replace c:=c.ext Q;replace m:=m.trans Q;clear Q;obtain⟨k0,c14,rfl,_⟩:=hh.sl.form;have h9:Ah xs<4294967296 ^ (Ae (Ah xs)).length:=by have:=Fm _ hh.2;rwa [Al]at this
 generalize hM:Ah xs=M at *
 obtain⟨L,hL⟩:∃ L,L=((Ae M).length+1) / 2:=⟨_,rfl⟩;have eL:IntKind.i64.wrap (((Ae M).length:Int)+1)=(((Ae M).length+1:Nat):Int):=by rw[Ab oo oo];rfl
 refine .r rfl ?_;refine Nv ?_;refine .a 3 (.int .i64 (((Ae M).length+1:Nat):Int)) rfl (by rw[eL]) ?_;refine .p (A0.dM ((Ae M).length+1) 2 rfl rfl rfl rfl de (V2 _ oo)) ?_;rw[<- hL];refine .s (Av.make A8 L rfl rfl rfl rfl rfl rfl rfl rfl (by simp;omega) oo) ?_;rintro _ w5 ⟨rfl,hp,R,kz⟩;have hr:w.heap.size<=k.heap.size:=m.size;have ku:=c.lt;have h1:=m.trans R;have hk:=d.ext R;have hn:=c.ext R;refine A7 ?_;have ei:IntKind.i64.wrap (IntKind.i64.wrap (32 * (L:Int)) - 1)=((32 * L:Nat):Int) - 1:=by rw[Ab (n:=32 * (L:Int)) oo oo,Ab oo oo];omega
 have kd:M<2 ^ (32 * L) * 2 ^ (32 * L):=by rw[<- Df,show 32 * L+32 * L=32 * (2 * L) from by omega,LJ];exact CW h9 (DB de oo)
 refine St.loop (fun g:List Nat×Nat=>[(1,.pointer (some ⟨w.heap.size,0,none⟩)),(2,.pointer (some ⟨w1.heap.size,0,none⟩)),(5,.slice (some ⟨k.heap.size,0,none⟩) L L),(6,.int .i64 ((g.2:Int) - 1))])
  (fun g w'=>Ac w w'/\Aj 37 w' w.heap.size [.bool na,.slice p xs.length cap]/\Aj 37 w' w1.heap.size [.bool false,.slice none 0 0]/\Aj 109 w' k.heap.size (g.1.map Dr)/\g.1.length=L/\EB g.1/\g.2<=32 * L/\Ah g.1 % 2 ^ g.2=0/\Ah g.1 * Ah g.1<=M/\M<(Ah g.1+2 ^ g.2) * (Ah g.1+2 ^ g.2))
  (fun g=>g.2) (List.replicate L 0,32 * L) ⟨rfl,rfl,rfl,?_,trivial⟩ ⟨h1,hk,hn,by rw[G9];exact hp,by simp,DL _,Ai _,by simp[CR],by simp[CR],by simpa[CR] using kd⟩ ?_
 ·show some (Value.int .i64 (IntKind.i64.wrap (IntKind.i64.wrap (32 * (L:Int)) - 1)))=_;rw[ei]
 clear d c hk hn hp R h1 m;rintro⟨rs,j⟩ w6 ⟨x,d,c,C,J,f,hj,Y,ha,I⟩;dsimp only at x d c C J f hj Y ha I ⊢;have hy:∀ {w':World} {ts:List Nat},Aj 109 w' k.heap.size (ts.map Dr)->ts.length=L->EB ts->Sl w' (.slice (some ⟨k.heap.size,0,none⟩) L L) ts:=fun hb hl hm=>⟨hb.row (by simp[hl]) AO (by simp[hl]) (by rw[FE,Bs (by simp[hl])]),hm⟩;by_cases kg:j=0
 ·subst kg;refine Nv ?_;refine .a 2 (.bool false) rfl (A9 oo) ?_;refine Nv ?_;refine .cf ?_;refine .s (oK CT (DR (base:=0) w6 false _ rs (hy C J f) oo BI)) ?_;rintro h4 w7 ⟨t,h8⟩;replace c:=c.ext t;replace x:=x.trans t;clear t;refine sC c h8 x hw ?_;intro w8 H E T kk;refine A7 ?_;refine Ad.aC A8 [h4,.bool true] rfl ⟨⟨_,_,_,_,rfl,H,rfl,rfl,T.two.1,by simpa using T.agg⟩,rfl,trivial⟩ ⟨kk,fun h0=>absurd h0 hc,fun _=>⟨h4,Ah rs,rfl,?_,T⟩⟩;rw[hA];exact⟨ha,by simpa using I⟩
 obtain⟨i,rfl⟩:∃ i,j=i+1:=⟨j - 1,by omega⟩;have ej:((i+1:Nat):Int) - 1=(i:Int):=by omega
 rw[ej];have A:rs[i / 32]?=some rs[i / 32]:=by simp
 have Z:rs[i / 32] % 2 ^ (i % 32+1)=0:=by refine WY f A (CX _ de) ?_;rw[show 32 * (i / 32)+i % 32+1=i+1 from by omega];exact Y
 generalize rs[i / 32]=y at A Z;have h2:=f.get A;have ht:=A1b Z;have hu:2 ^ (i % 32)<4294967296:=Nat.pow_lt_pow_right de (CX _ de:i % 32<32);have h3:y+2 ^ (i % 32)<4294967296:=by rw[<- ht];exact TD (n:=32) h2 hu
 have D:Ah (rs.set (i / 32) (y+2 ^ (i % 32)))=Ah rs+2 ^ i:=by rw[SC A,AQ,<- XZ,Ho]
 have kh:(2:Nat) ^ (i+1)=2 * 2 ^ i:=by rw[Ck];omega
 have hq:Ah rs % 2 ^ i=0:=by obtain⟨z,hz⟩:=U0 Y;rw[hz,Ck,Bb];exact Nat.mul_mod_right _ _
 refine Nv ?_;refine .a 2 (.bool true) rfl (Aa oo) ?_;refine Nv ?_;refine .cT ?_;refine Nv ?_;refine St.sub (E':=[(1,.pointer (some ⟨w.heap.size,0,none⟩)),(2,.pointer (some ⟨w1.heap.size,0,none⟩)),(5,.slice (some ⟨k.heap.size,0,none⟩) L L),(6,.int .i64 i)]) ?_ ⟨rfl,rfl,rfl,rfl,trivial⟩;refine sF 10 ?_;refine .q ?_;refine .on (fun _ _=>A0.dM i 32 rfl rfl rfl rfl de (V2 _ oo)) ?_;refine .on (fun _ _=>A0.ia) ?_;refine FL.load (L:=[]) A8 rfl rfl rfl rfl rfl (by simp only[Cj,Ak,AE];rfl) C sm (by simp[A];rfl) ?_;refine .q ?_;refine .on (fun _ _=>A0.cO i 32 rfl rfl rfl rfl de) ?_;refine .on (fun _ _=>A0.dW 1 (i % 32) rfl rfl rfl rfl (by show i % 32<=32;omega) (by rw[Cf];exact Hs oo oo)) ?_;refine FL.as A8 1 (.int .u32 ((y+2 ^ (i % 32):Nat):Int)) rfl (by rw[A0C _ _ h2 (by rw[Cf];exact hu),Cf,ht]) ?_;refine .on (fun _ _=>A0.ia) ?_;refine FL.aG rfl ?_;intro w7 t _ _;refine Af.step0 rfl rfl (Av.store A8 (vs:=[Dr (y+2 ^ (i % 32))]) rfl (by simp only[Cj,Ak,AE];rfl) rfl rfl rfl (C.ext t) (by simp;omega) (by simp[Value.oneCell'])) ?_;rintro _ w8 ⟨H,E⟩;have l:Aj 109 w8 k.heap.size ((rs.set (i / 32) (y+2 ^ (i % 32))).map Dr):=by rw[<- CA];exact H
 have K:=(x.trans t).aj E hr;have u:=(d.ext t).upd E oo;have b:=(c.ext t).upd E oo;have hv:(rs.set (i / 32) (y+2 ^ (i % 32))).length=L:=by simpa using J
 have hd:EB (rs.set (i / 32) (y+2 ^ (i % 32))):=f.set _ h3;clear t E H C d c x;refine A7 ?_;refine .s (oK CT (DR (base:=0) w8 false _ _ (hy l hv hd) oo BI)) ?_;rintro km w9 ⟨G,S⟩;rw[D]at S;have kw:sz (((Ah rs+2 ^ i:Nat)):Int)<=100000:=by unfold sz;rw[Int.natAbs_natCast,<- D];exact Ar (Ap _ hd) oo
 have hi:Ao 0 w9 km ((Ah rs+2 ^ i:Nat):Int):=S;replace l:=l.ext G;replace u:=u.ext G;replace b:=b.ext G;replace K:=K.trans G;clear G;refine Af.d9 rfl (fun _=>rfl) hi K ?_;intro b7 k2 kq N W B F;replace l:=l.ext N;replace u:=u.ext N;replace b:=b.ext N;clear N;clear K S hi;have U:=hD.ext F;rw[ka]at U;have kv:=Bt (((Ah rs+2 ^ i:Nat)):Int) (((Ah rs+2 ^ i:Nat)):Int);refine Nv ?_;refine St.sub (E':=[(1,.pointer (some ⟨w.heap.size,0,none⟩)),(2,.pointer (some ⟨w1.heap.size,0,none⟩)),(5,.slice (some ⟨k.heap.size,0,none⟩) L L),(6,.int .i64 i),(7,.pointer (some ⟨b7,0,none⟩))]) ?_ ⟨rfl,rfl,rfl,rfl,rfl,trivial⟩;refine sF 6 ?_;refine .q ?_;refine .on (fun _ V=>rC (V.blk W sm) B) ?_;refine .on (fun _ V=>rC (V.blk W sm) B) ?_;refine FL.au BP rfl rfl rfl (fun h5 o=>cM (Dy (base:=0) ((B.ext o).dn oo) ((B.ext o).dn oo) BI)) (Am.aF 0 _) ?_;refine FL.aA (L:=[]) A8 rfl rfl rfl rfl rfl rfl u sm AO rfl ?_;refine FL.aY Gz rfl rfl rfl (fun h5 o kn h6=>cM (Ma (h6.dn oo) (U.ext o))) ?_;refine .q ?_;refine FL.aG rfl ?_;intro h5 o kn _ _ _;replace l:=l.ext o;replace u:=u.ext o;replace b:=b.ext o;replace F:=F.trans o;clear o;clear W B U;have ki:((Ah rs+2 ^ i:Nat):Int) * ((Ah rs+2 ^ i:Nat):Int)=(((Ah rs+2 ^ i) * (Ah rs+2 ^ i):Nat):Int):=(Gv _ _).symm;rw[ki];refine A7 ?_;by_cases kf:M<(Ah rs+2 ^ i) * (Ah rs+2 ^ i)
 ·refine St.aD rfl (by unfold HK;rw[if_neg oo,if_pos oo];decide) ?_;have kl:(rs.set (i / 32) (y+2 ^ (i % 32)))[i / 32]?=some (y+2 ^ (i % 32)):=Bx oo;refine Nv ?_;refine St.sub (E':=[(1,.pointer (some ⟨w.heap.size,0,none⟩)),(2,.pointer (some ⟨w1.heap.size,0,none⟩)),(5,.slice (some ⟨k.heap.size,0,none⟩) L L),(6,.int .i64 i)]) ?_ ⟨rfl,rfl,rfl,rfl,trivial⟩;refine sF 10 ?_;refine .q ?_;refine .on (fun _ _=>A0.dM i 32 rfl rfl rfl rfl de (V2 _ oo)) ?_;refine .on (fun _ _=>A0.ia) ?_;refine FL.load (v:=Dr (y+2 ^ (i % 32))) (L:=[]) A8 rfl rfl rfl rfl rfl (by simp only[Cj,Ak,AE];rfl) l sm (by rw[J7,kl];rfl) ?_;refine .q ?_;refine .on (fun _ _=>A0.cO i 32 rfl rfl rfl rfl de) ?_;refine .on (fun _ _=>A0.dW 1 (i % 32) rfl rfl rfl rfl (by show i % 32<=32;omega) (by rw[Cf];exact Hs oo oo)) ?_;refine FL.as A8 1 (.int .u32 (y:Int)) rfl (by rw[Cf,A1K Z h3]) ?_;refine .on (fun _ _=>A0.ia) ?_;refine FL.aG rfl ?_;intro k3 O _ _;refine Af.step0 rfl rfl (Av.store A8 (vs:=[Dr y]) rfl (by simp only[Cj,Ak,AE];rfl) rfl rfl rfl (l.ext O) (by simp;omega) (by simp[Value.oneCell'])) ?_;rintro _ ko ⟨kb,he⟩;have ke:Aj 109 ko k.heap.size (rs.map Dr):=by have e:=Ys A (y+2 ^ (i % 32));rw[<- e,<- CA];exact kb
  refine A7 ?_;refine Ad.again (rs,i) ⟨rfl,rfl,rfl,?_,trivial⟩ ⟨(F.trans O).aj he hr,(u.ext O).upd he oo,(b.ext O).upd he oo,ke,J,f,by dsimp only;omega,hq,ha,kf⟩ (LG i);show some (Value.int .i64 (IntKind.i64.wrap ((i:Int) - 1)))=_;rw[Ab oo oo]
 ·refine St.ay rfl (by unfold HK;rw[decide_eq_false];split <;> (try split) <;> omega) ?_;refine A7 ?_;refine Ad.again (rs.set (i / 32) (y+2 ^ (i % 32)),i) ⟨rfl,rfl,rfl,?_,trivial⟩ ⟨F,u,b,l,hv,hd,by dsimp only;omega,?_,?_,?_⟩ (LG i)
  ·show some (Value.int .i64 (IntKind.i64.wrap ((i:Int) - 1)))=_;rw[Ab oo oo]
  ·dsimp only;rw[D,Nat.add_mod_right];exact hq
  ·dsimp only;rw[D];omega
  ·dsimp only;rw[D];rw[kh]at I;exact A76 I
variable {ys:List Int}{xv:Value}
def T64 (ys:List Int):Prop:=∀ y ∈ ys,-9223372036854775808<=y/\y<=9223372036854775807
theorem T64.at (h:T64 ys) (i:Nat):-9223372036854775808<=yv ys i/\yv ys i<=9223372036854775807:=by
 unfold yv;rw[Bd];cases hi:ys[i]? with
 | none=>simp
 | some y=>exact h y (Bi hi)
theorem T64.sz (h:T64 ys) (i:Nat):Go.Qf.sz (yv ys i)<=2:=by have:=h.at i;exact Bn oo oo
theorem EA.t64 (h:EA ys):T64 ys:=fun y c=>by have:=h y c;omega
theorem A06 {w:World}{v:Value}(h:Nh w v ys) (z:ys.length<=1000000) :
  Calls prog 235 #[v] w (AJ fun x w'=>Ac w w'/\∃ b,x=.bool b/\(b=true↔EA ys)):=by
 obtain⟨p,cap,rfl⟩:=h.len;refine cS func235 ntmps235 ?_;refine A7 ?_;refine H6 (7) (0) (ys.length) [(5,.slice p ys.length cap),(6,.int .i64 ys.length)] (fun i w'=>w'=w/\∀ k,k<i->-1099511627776<=yv ys k/\yv ys k<=1099511627776) ?_ ?_ ?_
 ·exact⟨rfl,fun k q=>by omega⟩
 ·rintro i w d ⟨rfl,g⟩;obtain⟨a,c,e,o⟩:=h.cell d;cases e;have m:yv ys i ∈ ys:=by unfold yv;rw[Bd,DH d];simp
  refine Nv ?_;refine .p (A0.ia) ?_;refine .p (rL o) ?_;refine .r rfl ?_;refine Nv ?_;by_cases j:yv ys i < -1099511627776
  ·refine .a 2 (.bool true) rfl (Aa j) ?_;refine A7 ?_;refine .ct ?_;exact Ad.ax rfl rfl ⟨Ac.refl _,false,rfl,⟨fun h=>(by cases h),fun h=>absurd (h _ m) oo⟩⟩
  ·refine .a 2 (.bool false) rfl (A9 j) ?_;by_cases l:yv ys i > 1099511627776
   ·refine .a 3 (.bool true) rfl (Aa l) ?_;refine A7 ?_;refine .ct ?_;exact Ad.ax rfl rfl ⟨Ac.refl _,false,rfl,⟨fun h=>(by cases h),fun h=>absurd (h _ m) oo⟩⟩
   ·refine .a 3 (.bool false) rfl (A9 l) ?_;refine A7 ?_;refine .cF ?_;refine Nv ?_;refine Ad.rnd AL ⟨rfl,fun k q=>?_⟩;by_cases e:k=i
    ·subst e;exact⟨by omega,by omega⟩
    ·exact g k oo
 ·rintro w ⟨rfl,g⟩;refine A7 ?_;refine Ad.ax rfl rfl ⟨Ac.refl _,true,rfl,⟨fun _ y u=>?_,fun _=>rfl⟩⟩;obtain⟨i,d⟩:=Cx.1 u;have:=g i (Au.1 d).1;unfold yv at this;rw[Bd,d]at this;exact this
theorem Aq.lco {w:World}{v:Value}{g:Nat->Int}(h:Aq 2 37 base w v us) (d:us.length=c) (hu:∀ (j:Nat) (u:Value),us[j]?=some u->Ao 0 w u (g j)):LCo w v c g:=by refine⟨by obtain⟨p,cp,e⟩:=h.len;exact⟨p,cp,by rw[e,d]⟩,fun k=>?_⟩;obtain⟨b,o,cp,hv,_,l⟩:=h.lc d k hu;exact⟨b,o,cp,hv,l⟩
theorem Kz {w:World}{v:Value}(h:Nh w v ys) (H:ys.length<=1000) (y:T64 ys) :
  Calls prog 177 #[v] w (AJ fun x w'=>Ac w w'/\LCo w' x ys.length (yv ys)):=by
 obtain⟨p,cap,rfl⟩:=h.len;refine cS func177 ntmps177 ?_;refine A7 ?_;refine sG (8) (0) (ys.length) (fun g:Value=>[(3,g),(6,.slice p ys.length cap),(7,.int .i64 ys.length)]) (fun k g w'=>Ac w w'/\∃ us,Aq 2 37 w.heap.size w' g us/\us.length=k/\∀ j u,us[j]?=some u->Ao 0 w' u (yv ys j)) (.slice none 0 0) ?_ ?_ ?_
 ·exact⟨Ac.refl _,[],Aq.nil,rfl,fun j u d=>by simp at d⟩
 ·rintro i E w3 B ⟨l,us,o,q,r⟩;obtain⟨a,c,e,A⟩:=(h.ext l).cell B;cases e;have I:=y.at i;have J:=y.sz i;refine Nv ?_;refine .p (A0.ia) ?_;refine .p (rL A) ?_;refine A7 ?_;refine .s (oK AW (Ba (base:=0) w3 (yv ys i) oo oo BI)) ?_;rintro z L ⟨m,t⟩;refine Af.aZ (o.ext m) (t.dn oo).cel rfl rfl rfl rfl rfl rfl (fun _=>rfl) rfl rfl oo rfl (l.trans m).size ?_;intro K F M f n G _ b;refine A7 ?_;refine Ad.aO F AL ⟨n w (l.trans m) AO,us++[z],f,by simp;omega,fun j u d=>b de 0 _ _ ?_⟩;by_cases D:j<us.length
  ·rw[BM D]at d;exact (r j u d).ext m
  ·have C:j=us.length:=by have:=(Au.1 d).1;simp at this;omega
   subst C;simp at d;subst d;rw[q];exact t
 ·rintro E w3 ⟨l,us,o,q,r⟩;refine A7 ?_;exact uR ⟨l,o.lco q r⟩
def LPo (w:World) (v:Value) (c:Nat) (g:Nat->Int):Prop:=(∃ p cp,v=.slice p c cp)/\(0<c->∃ b o cp,v=.slice (some ⟨b,o,none⟩) c cp/\Nk w b o c g)
theorem LPo.ext {w:World}{v:Value}{g:Nat->Int}(h:LPo w v c g) (j:Ac w w'):LPo w' v c g:=by refine⟨h.1,fun d=>?_⟩;obtain⟨b,o,cp,hv,e⟩:=h.2 d;exact⟨b,o,cp,hv,e.ext j⟩
theorem LCo.lp {w:World}{v:Value}{g:Nat->Int}(h:LCo w v c g) (k:∀ j,j<c->sz (g j)<=1000000):LPo w v c g:=by refine⟨h.1,fun d=>?_⟩;obtain⟨b,o,cp,hv,e⟩:=h.2 d;exact⟨b,o,cp,hv,e.rp k⟩
theorem Nk.tl {w:World}{o:Nat}{g:Nat->Int}(h:Nk w b o (c+1) g):Nk w b (o+2) c (fun j=>g (j+1)):=by obtain⟨e,C,l,m⟩:=h;refine⟨e,C,l,fun j r=>?_⟩;obtain⟨u,d,k,q⟩:=m (j+1) oo;refine⟨u,d,?_,by omega⟩;rw[show o+2+2 * j=o+2 * (j+1) by omega];exact k
theorem Nk.eB {w:World}{o cp:Nat}{g:Nat->Int}(h:Nk w b o (c+1) g) (d:c+1<=cp):LPo w (.slice (if cp=1 then some (⟨b,o,none⟩:Addr) else (some (⟨b,o,none⟩:Addr)).map (·.add (1 * 2))) (c+1 - 1) (cp - 1)) c (fun j=>g (j+1)):=by rw[TM];refine⟨⟨_,_,rfl⟩,fun e=>⟨b,o+2,cp - 1,?_,h.tl⟩⟩;rw[if_neg oo,LP,Ak]
theorem Lg {w:World}{v1 v2:Value}{f g:Nat->Int}(h:LPo w v1 c f) (k:LPo w v2 c g) (m:c<=1000) {s:Nat}(y:∀ i,i<c->sz (f i * g i)<=s) (z:s<=900000) :
  Calls prog 178 #[v1,v2] w (AJ fun r w'=>Ac w w'/\Ao 0 w' r (Ay c (fun i=>f i * g i))):=by
 by_cases d:0<c
 ·obtain⟨b1,o1,p1,rfl,q⟩:=h.2 d;obtain⟨b2,o2,p2,rfl,u⟩:=k.2 d;exact ZE q u AO m y z
 ·obtain rfl:c=0:=by omega
  obtain⟨p1,A,rfl⟩:=h.1;refine cS func178 ntmps178 ?_;refine Nv ?_;refine .s (oA) ?_;rintro _ w1 ⟨rfl,B4,b,D⟩;refine Nv ?_;refine .p (rB) ?_;refine .s (oA) ?_;rintro _ w2 ⟨rfl,B5,e,E⟩;have C:=B4.lt;refine Af.aK (base:=0) (v:=zI) (a:=0) rfl rfl B5 rfl (DS 0 _) (b.trans e) oo ?_;intro w3 l t _ n;replace B4:=(B4.ext e).upd t oo;refine A7 ?_;refine H6 (10) (0) (0) [(4,.pointer (some ⟨w.heap.size,0,none⟩)),(5,.pointer (some ⟨w1.heap.size,0,none⟩)),(9,.int .i64 ((0:Nat):Int))] (fun i w'=>w'=w3) ?_ ?_ ?_
  ·rfl
  ·rintro i j B;omega
  ·rintro j rfl;refine A7 ?_;refine .p (rC l (DS 0 j)) ?_;refine Af.aJ (v:=zI) (a:=0) rfl rfl B4 rfl (DS 0 _) n AO ?_;intro w' x o fin;refine Nv ?_;exact fin _ _ rfl ⟨x,o⟩
theorem SI {w:World}{v:Value}{y:Nat->Int}(h:MI w v (mk m m G)) (k:LPo w xv m y) (q:1<=m/\m<=16) (D:∀ i j,i<m->j<m->sz (G i j * y j)<=2000) :
  Calls prog 205 #[v,xv] w (AJ fun x w'=>Ac w w'/\∃ u us,x=.tuple #[u,.bool true]/\Aq 2 37 w.heap.size w' u us/\us.length=m/\∀ i z,us[i]?=some z->Ao 0 w' z (Ay m (fun j=>G i j * y j))):=by
 obtain⟨a,cap,e,J⟩:=h.mp q.1 q.1;subst e;obtain⟨px,H,ex⟩:=k.1;subst ex;refine cS func205 ntmps205 ?_;refine A7 ?_;refine .s (oK Hx (K5 h q q)) ?_;rintro _ w1 ⟨Q,rfl⟩;refine .r rfl ?_;refine Nv ?_;refine .a 7 (.bool false) rfl (by rw[bne_eq_false_iff_eq.2 rfl]) ?_;refine A7 ?_;refine .cf ?_;refine sG (28) (0) (m) (fun g:Value=>[(1,.slice px m H),(9,g),(26,.slice (some a) m cap),(27,.int .i64 m)]) (fun i g w'=>Ac w w'/\∃ us,Aq 2 37 w.heap.size w' g us/\us.length=i/\∀ j u,us[j]?=some u->Ao 0 w' u (Ay m (fun l=>G j l * y l))) (.slice none 0 0) ?_ ?_ ?_
 ·exact⟨Q,[],Aq.nil,rfl,fun j u c=>by simp at c⟩
 ·rintro i F w3 n ⟨d,us,f,B,C⟩;obtain⟨b,o,cp,M,P⟩:=(J.ext d) i n;have T:sz (Ay m (fun l=>G i l * y l))<=2000+m:=Gp m (fun l A=>D i l n A);refine Nv ?_;refine .p (A0.ia) ?_;refine .p (rL M) ?_;refine A7 ?_;refine .s (Av.call I6 rfl (Lg (s:=2000) ⟨⟨_,_,rfl⟩,fun _=>⟨b,o,cp,rfl,P⟩⟩ (k.ext d) oo (fun l A=>D i l n A) oo)) ?_;rintro z V ⟨t,E⟩;refine Af.aZ (f.ext t) (E.dn oo).cel rfl rfl rfl rfl rfl rfl (fun _=>rfl) rfl rfl oo rfl (d.trans t).size ?_;intro U R W K L S _ I;refine A7 ?_;refine Ad.aO R AL ⟨L w (d.trans t) AO,us++[z],K,by simp;omega,fun j u c=>I de 0 _ _ ?_⟩;by_cases O:j<us.length
  ·rw[BM O]at c;exact (C j u c).ext t
  ·have N:j=us.length:=by have:=(Au.1 c).1;simp at this;omega
   subst N;simp at c;subst c;rw[B];exact E
 ·rintro F w3 ⟨d,us,f,B,C⟩;refine A7 ?_;exact Ad.aC A8 [_,_] rfl ⟨rfl,rfl,trivial⟩ ⟨d,F,us,rfl,f,B,C⟩
theorem A1L {w:World}{v:Value}{y:Nat->Int}(h:MI w v (mk m m G)) (k:LPo w xv m y) (d:1<=m/\m<=16) (g:∀ i j,i<m->j<m->sz (G i j * y j)<=2000) :
  Calls prog 205 #[v,xv] w (AJ fun x w'=>Ac w w'/\∃ u,x=.tuple #[u,.bool true]/\LCo w' u m (fun i=>Ay m (fun j=>G i j * y j))):=by refine (SI h k d g).mono ?_;rintro e w' ⟨x,rfl,q,u,us,rfl,c,l,o⟩;exact⟨_,rfl,q,u,rfl,c.lco l o⟩
theorem A07 {w:World}{v:Value}{y:Nat->Int}(h:MI w v (mk m m G)) (k:LPo w xv m y) (f:1<=m/\m<=8) (g:∀ i j,i<m->j<m->sz (G i j * y j)<=2000) (p:∀ i,i<m->sz (y i)<=2) :
  Calls prog 182 #[v,xv] w (AJ fun x w'=>Ac w w'/\Ao 0 w' x (Ay m (fun i=>y i * Ay m (fun j=>G i j * y j)))):=by have r:∀ i,i<m->sz (Ay m (fun l=>G i l * y l))<=2008:=fun i a=>Ar (Gp m (fun l c=>g i l a c)) oo;refine cS func182 ntmps182 ?_;refine Nv ?_;refine .s (oA) ?_;rintro _ w1 ⟨rfl,B4,d,C⟩;refine A7 ?_;refine .s (oK Qo (A1L (h.ext d) (k.ext d) ⟨f.1,by omega⟩ g)) ?_;rintro _ w2 ⟨e,u,rfl,hu⟩;refine A7 ?_;refine .s (oK I6 (Lg (s:=2010) ((k.ext d).ext e) (hu.lp (fun j b=>by have:=r j b;omega)) oo (fun l c=>by have:=r l c;have:=p l c;have:=Bt (y l) (Ay m (fun j=>G l j * y j));omega) oo)) ?_;rintro z w3 ⟨o,A⟩;refine sC ((B4.ext e).ext o) A ((d.trans e).trans o) AO ?_;intro D t B q n;refine A7 ?_;exact Ad.cE rfl rfl t q ⟨n,q⟩
theorem A78 (f:Nat->Nat->Int) (n:Nat) (h:ys.length=0):pnQ f n ys=0:=by unfold pnQ IJ;rw[h];show Rat.divInt 0 _=0;exact Rat.zero_divInt _
theorem FrV.open {w:World}{x:Value}(h:FrV w x n f) (p:1<=n):∃ d cs bm g j,x=.agg #[.int .i64 n,.slice (some d) n cs,.slice (some ⟨bm,g,none⟩) (n+1) j] /\
  (∀ k,k<n->∃ c e,w.cell? (d.add k)=some (.slice (some c) (n - k) e)/\MI w (.slice (some c) (n - k) e) (mk (n - k) (n - k) (CP f k)))/\JE w bm g (n+1) (AY f):=by
 obtain⟨sv,dv,rfl,⟨us,o,u,a⟩,bm,g,j,rfl,b,t⟩:=h;have z:us[0]?=some (us[0]'oo):=by simp
 obtain⟨d,v,l,_⟩:=o.get z;rw[u]at l;refine⟨d,v,bm,g,j,by rw[l],fun k i=>?_,t⟩;have r:us[k]?=some (us[k]'oo):=by simp
 obtain⟨a',c',e',q⟩:=o.get r;rw[l,u]at e';simp only[Ci,AP]at e';obtain⟨rfl,_,_⟩:=e';have m:=a k _ r;obtain⟨c,e,y,_⟩:=m.mp oo oo;rw[y]at q m;exact⟨c,e,q,m⟩
theorem QN {w:World}{x v:Value}(Q:FrV w x n f) (k:Nh w v ys) (T:ys.length<=n) (q:1<=n/\n<=8) (h:BQ n f) (o:EA ys) :
  Calls prog 129 #[x,v] w (AJ fun r w'=>Ac w w'/\Bk 0 w' r (pnQ f n ys)):=by
 have D:=h.szs q.2;have U:=h.szd q.2;have hb:=A8l (f:=f) T q.2 D o;obtain⟨z,cs,bm,G,L,rfl,S,R⟩:=Q.open q.1;obtain⟨px,t,rfl⟩:=k.len;refine cS func129 ntmps129 ?_;refine Nv ?_;refine .s (oB) ?_;rintro _ w1 ⟨rfl,B2,u,hc⟩;refine .s (oA) ?_;rintro _ w2 ⟨rfl,B4,F,hd⟩;have l:=u.trans F;replace B2:=B2.ext F;refine Nv ?_;by_cases M:ys.length=0
 ·refine .a 3 (.bool true) rfl (by rw[beq_iff_eq.2 oo]) ?_;refine A7 ?_;refine .ct ?_;refine .s (Av.call G1 rfl (G6 w2 0 oo oo)) ?_;rintro r w3 ⟨y,g⟩;refine Af.aT rfl rfl rfl g.1 (B4.ext y) rfl (l.trans y) u.size ?_;intro d B5 V e;refine A7 ?_;refine Ad.bA rfl rfl B5 g.1 ⟨e,?_⟩;rw[A78 f n M];exact g.upd V (B4.ext y) de
 refine .a 3 (.bool false) rfl (by rw[beq_eq_false_iff_ne.2 oo]) ?_;refine A7 ?_;refine .cf ?_;refine .p FW ?_;obtain⟨m,C⟩:∃ m,m=n - ys.length:=⟨_,rfl⟩;refine .a 3 (.int .i64 (m:Int)) rfl (by rw[Ab oo oo];congr 1;omega) ?_;obtain⟨J,K,A,b⟩:=S m oo;rw[show n - m=ys.length by omega]at A b;obtain⟨Z,em,Cm,B,P,km,Y⟩:=R.at (j:=m) oo;have he:=U m oo;refine A7 ?_;refine St.sub (E':=[(1,.slice px ys.length t),(2,.pointer (some ⟨w.heap.size,0,none⟩)),(4,.pointer (some ⟨w1.heap.size,0,none⟩)),(5,.int .i64 (m:Int))]) ?_ AL;refine sD 13 [(15,Is (.pointer (some ⟨w.heap.size,1,none⟩))),(16,Is (.slice (some z) n cs)),(17,Is (.int .i64 (m:Int))),(18,Is (.pointer (some (z.add m)))),(19,Is (.slice (some J) ys.length K)),(20,Is (.slice px ys.length t)),(21,fun v w'=>LCo w' v ys.length (yv ys)),(22,fun v w'=>Ao 0 w' v (IJ f n ys)),(23,Is (.pointer (some ⟨w.heap.size,2,none⟩))),(24,Is (.slice (some ⟨bm,G,none⟩) (n+1) L)),(25,Is (.int .i64 (m:Int))),(26,Is (.pointer (some ⟨bm,G+2 * m,none⟩))),(27,Is Z)] ?_ ?_
 ·refine⟨?_,?_,?_,?_,?_,?_,?_,?_,?_,?_,?_,?_,?_,trivial⟩
  ·exact fun d c=>oP
  ·rintro d c _ rfl;exact CD.run rfl rfl rfl rfl (FX (B2.ext c)) rfl
  ·exact fun d c=>oP
  ·rintro d c _ rfl _ rfl;exact CD.run rfl rfl rfl rfl (A0.indexAddr A8 rfl rfl rfl rfl rfl oo oo) rfl
  ·rintro d c _ rfl;exact CD.run rfl rfl rfl rfl (rL ((l.trans c).cell A)) rfl
  ·exact fun d c=>oP
  ·rintro d c _ rfl;refine CD.call IC rfl rfl rfl (Kz (k.ext (l.trans c)) oo o.t64) ?_;rintro v H ⟨e,hv⟩;exact⟨e,hv⟩
  ·rintro d c _ rfl ha N;refine CD.call XI rfl rfl rfl (A07 (b.ext (l.trans c)) (N.lp (fun j _=>by have:=o.sz j;omega)) ⟨by omega,by omega⟩ (fun i j hi hj=>?_) (fun i _=>o.sz i)) ?_
   ·have a1:=D m oo i j oo oo;have a2:=o.sz j;have a3:=Bt (CP f m i j) (yv ys j);omega
   rintro v H ⟨e,hv⟩;refine⟨e,?_⟩;unfold IJ;rw[<- C];exact hv
  ·exact fun d c=>oP
  ·rintro d c _ rfl;exact CD.run rfl rfl rfl rfl (FX (B2.ext c)) rfl
  ·exact fun d c=>oP
  ·rintro d c _ rfl _ rfl;exact CD.run rfl rfl rfl rfl (A0.aQ rfl rfl rfl oo) rfl
  ·rintro d c _ rfl;exact CD.run rfl rfl rfl rfl (A0.aH rfl (P.ext (l.trans c)) km Y B.r2) rfl
 rintro d c _ rfl _ rfl _ rfl _ rfl _ rfl _ rfl ha _ hf O _ rfl _ rfl _ rfl _ rfl _ rfl _;have E:=l.trans c;refine .s (Av.call Mv rfl (P5 (O.dn oo) ((B.ext E).dn oo) oo oo)) ?_;rintro r H ⟨e,g⟩;refine Af.aT rfl rfl rfl g.1 ((B4.ext c).ext e) rfl (E.trans e) u.size ?_;intro w6 I W X;refine A7 ?_;refine Ad.bA rfl rfl I g.1 ⟨X,?_⟩;unfold pnQ;rw[<- C];exact g.upd W ((B4.ext c).ext e) de
theorem Yt (h:BQ n f) (k i j:Nat):CP f k i j=CP f k j i:=by unfold CP BB;rw[RP h.bh k (k+i) (k+j)]
def qdI (f:Nat->Nat->Int) (n:Nat) (ys:List Int):Int:=Ay ys.length (fun i=>yv ys i * Ay ys.length (fun j=>CP f (n - ys.length - 1) (i+1) (j+1) * yv ys j))
theorem A08 (n:Nat) (f g:Nat->Int):Ay n (fun i=>f i - g i)=Ay n f - Ay n g:=by
 induction n with
 | zero=>rfl
 | succ n ih=>show Ay n _+_=Ay n f+f n - (Ay n g+g n);rw[ih];dsimp only;omega
theorem A7K (h:BQ n f) (g:ys.length<n) :
  AY f (n - ys.length - 1) * IJ f n ys=AY f (n - ys.length) * qdI f n ys - DG f n ys * DG f n ys:=by
 unfold qdI DG;have c:n - ys.length=n - ys.length - 1+1:=by omega
 generalize d:ys.length=m at *
 generalize e:n - m - 1=k at *
 have e1:∀ i j,CP f (k+1) i j * AY f k=AY f (k+1) * CP f k (i+1) (j+1) - CP f k 0 (i+1) * CP f k 0 (j+1):=by intro i j;have:=A04 h.pos (show k+1<=n by omega) i j;rw[HF,Yt h k (i+1) 0]at this;exact this.symm
 unfold IJ;rw[d,c];have inner:∀ i,AY f k * (yv ys i * Ay m (fun j=>CP f (k+1) i j * yv ys j))=AY f (k+1) * (yv ys i * Ay m (fun j=>CP f k (i+1) (j+1) * yv ys j)) - (CP f k 0 (i+1) * yv ys i) * Ay m (fun j=>CP f k 0 (j+1) * yv ys j):=by
  intro i;have:AY f k * Ay m (fun j=>CP f (k+1) i j * yv ys j)=AY f (k+1) * Ay m (fun j=>CP f k (i+1) (j+1) * yv ys j) - CP f k 0 (i+1) * Ay m (fun j=>CP f k 0 (j+1) * yv ys j):=by rw[<- Ig,<- Ig,<- Ig,<- A08];refine Bo fun j _=>?_;have:=e1 i j;grind
  grind
 rw[<- Ig,Bo (fun i _=>inner i),A08,Ig,Vl]
theorem A98 (h:BQ n f) (c:ys.length<n) (B:Int) :
  DG f n ys * DG f n ys - CP f (n - ys.length - 1) 0 0 * (qdI f n ys - B * AY f (n - ys.length - 1))=GH f n B ys:=by have d:=A7K h c;rw[HF,show n - ys.length - 1+1=n - ys.length by omega];unfold GH;grind
variable {B:Int}
def Jo:Nat->Nat
 | 0=>0
 | a+1=>if (Jo a+1) * (Jo a+1)<=a+1 then Jo a+1 else Jo a
theorem EI (a:Nat):EW a (Jo a):=by
 induction a with
 | zero=>unfold EW Jo;omega
 | succ a ih =>
  obtain⟨c,d⟩:=ih;unfold Jo;split
  ·refine⟨by assumption,?_⟩;have e:(Jo a+1+1) * (Jo a+1+1)=(Jo a+1) * (Jo a+1)+(Jo a+1)+(Jo a+1)+1:=by grind
   omega
  ·exact⟨by omega,by omega⟩
theorem EW.rt {a x:Nat}(h:EW a x):x=Jo a:=h.unique (EI a)
theorem FQ (m:Nat) (g:Nat->Int):Ay (m+1) g=g 0+Ay m (fun i=>g (i+1)):=by
 induction m with
 | zero=>show (0:Int)+g 0=g 0+0;omega
 | succ m ih =>
  show Ay (m+1) g+g (m+1)=g 0+(Ay m (fun i=>g (i+1))+g (m+1));rw[ih];omega
theorem Ml (x:Int) (ys:List Int):yv (x::ys) 0=x:=rfl
theorem QO (x:Int) (ys:List Int) (i:Nat):yv (x::ys) (i+1)=yv ys i:=rfl
theorem A2A (h:BQ n f) (d:ys.length<n) (x:Int) :
  IJ f n (x::ys)=AY f (n - ys.length) * (x * x)+2 * (x * DG f n ys)+qdI f n ys:=by
 have c:n - ys.length=n - ys.length - 1+1:=by omega
 unfold IJ qdI DG;rw[BR,c,<- HF,show n - (ys.length+1)=n - ys.length - 1 by omega];generalize n - ys.length - 1=k;rw[FQ,Ml,FQ,Ml];have e:∀ i,yv (x::ys) (i+1) * Ay (ys.length+1) (fun j=>CP f k (i+1) j * yv (x::ys) j)=x * (CP f k 0 (i+1) * yv ys i)+yv ys i * Ay ys.length (fun j=>CP f k (i+1) (j+1) * yv ys j):=by intro i;rw[FQ,Ml,QO,Yt h k (i+1) 0];simp only[QO];grind
 rw[Bo (fun i _=>e i),Vk,Ig];simp only[QO];grind
theorem A2B (h:BQ n f) (c:ys.length<n) (x:Int) :
  AY f (n - ys.length) * IJ f n (x::ys)=AY f (n - ys.length - 1) * IJ f n ys+(AY f (n - ys.length) * x+DG f n ys) * (AY f (n - ys.length) * x+DG f n ys):=by rw[A2A h c,A7K h c];grind
def HO (f:Nat->Nat->Int) (n:Nat) (B:Int) (ys:List Int):Int:=AY f (n - ys.length) * B - IJ f n ys
theorem KL (f:Nat->Nat->Int) (n:Nat) (B:Int) (ys:List Int):GH f n B ys=AY f (n - ys.length - 1) * HO f n B ys:=rfl
theorem Oq (h:BQ n f) (c:ys.length<n) (B x:Int) :
  GH f n B ys - (AY f (n - ys.length) * x+DG f n ys) * (AY f (n - ys.length) * x+DG f n ys)=AY f (n - ys.length) * HO f n B (x::ys):=by have d:=A2B h c x;rw[KL];unfold HO;rw[BR,show n - (ys.length+1)=n - ys.length - 1 by omega];grind
theorem PK (f:Nat->Nat->Int) (n:Nat) (B:Int):HO f n B []=AY f n * B:=by unfold HO IJ;show AY f n * B - 0=_;omega
def Cc (f:Nat->Nat->Int) (n:Nat) (B:Int) (ys:List Int):Int:=Mi f n (Jo (GH f n B ys).natAbs) ys
def Ct (f:Nat->Nat->Int) (n:Nat) (B:Int) (ys:List Int):Int:=Mj f n (Jo (GH f n B ys).natAbs) ys
theorem Lh {a r:Nat}(h:EW a r) (u:Int):(-(r:Int)<=u/\u<=r)↔u * u<=a:=by
 obtain⟨c,d⟩:=h;have e:u * u=((u.natAbs * u.natAbs:Nat):Int):=by rw[<- U3 u];norm_cast
 rw[e];constructor
 ·intro hu;have:u.natAbs<=r:=by omega
  have:=Dg this this;omega
 ·intro hu;have:u.natAbs<r+1:=by
   rcases Dl u.natAbs (r+1) with h | h
   ·exact h
   ·have:=Dg h h;omega
  omega
theorem A8m (h:BQ n f) {r:Nat}(x:Int) :
  (Mi f n r ys<=x/\x<=Mj f n r ys)↔(-(r:Int)<=AY f (n - ys.length) * x+DG f n ys/\AY f (n - ys.length) * x+DG f n ys<=r):=by
 have c:=CV h.pos (show n - ys.length<=n by omega);generalize e:AY f (n - ys.length)=d at *
 unfold Mi Mj;rw[e];have a1:x<=((r:Int) - DG f n ys) / d↔x * d<=(r:Int) - DG f n ys:=U4 c;have a2:-x<=(DG f n ys+r) / d↔-x * d<=DG f n ys+r:=U4 c;have e1:x * d=d * x:=HT _ _;have e2:-x * d=-(d * x):=by rw[Jv,HT]
 rw[e1]at a1;rw[e2]at a2;omega
theorem HG (h:BQ n f) (B:Int):0<=HO f n B ys↔0<=GH f n B ys:=by
 have c:=CV h.pos (show n - ys.length - 1<=n by omega);rw[KL];constructor
 ·exact fun h=>DI oo h
 ·intro d;rcases Gw (HO f n B ys) 0 with h3 | h3
  ·have:=TZ c h3;omega
  ·exact h3
theorem NA (h:BQ n f) (d:ys.length<n) (g:0<=GH f n B ys) (x:Int) :
  (Cc f n B ys<=x/\x<=Ct f n B ys)↔0<=HO f n B (x::ys):=by
 have c:=CV h.pos (show n - ys.length<=n by omega);unfold Cc Ct;rw[A8m h,Lh (EI _)];have j:=Oq h d B x;generalize (AY f (n - ys.length) * x+DG f n ys) * (AY f (n - ys.length) * x+DG f n ys)=u at *
 constructor
 ·intro hu;rcases Gw (HO f n B (x::ys)) 0 with h3 | h3
  ·have:=TZ c h3;omega
  ·exact h3
 ·intro e;have:=DI (show 0<=AY f (n - ys.length) by omega) e;omega
theorem Xc (h:BQ n f) {r:Nat}:Mi f n r ys<=Mj f n r ys+1:=by
 have d:=CV h.pos (show n - ys.length<=n by omega);by_cases c:Mi f n r ys<=Mj f n r ys
 ·omega
 rcases Gw (Mj f n r ys+1) (Mi f n r ys) with h2 | h2
 ·exfalso;have b1:AY f (n - ys.length) * Mj f n r ys+DG f n ys<=r:=by have:=Int.mul_ediv_self_le (x:=(r:Int) - DG f n ys) (k:=AY f (n - ys.length)) oo;unfold Mj;omega
  have b2:-(r:Int)<=AY f (n - ys.length) * Mi f n r ys+DG f n ys:=by have:=Int.mul_ediv_self_le (x:=DG f n ys+(r:Int)) (k:=AY f (n - ys.length)) oo;unfold Mi;rw[Ju];omega
  have b3:AY f (n - ys.length) * (Mj f n r ys+1)+DG f n ys > r:=by have:=U5 (x:=(r:Int) - DG f n ys) (k:=AY f (n - ys.length)) oo;unfold Mj;rw[LQ,Int.mul_one];omega
  have b4:AY f (n - ys.length) * (Mi f n r ys - 1)+DG f n ys < -(r:Int):=by have:=U5 (x:=DG f n ys+(r:Int)) (k:=AY f (n - ys.length)) oo;unfold Mi;rw[Int.mul_sub,Ju,Int.mul_one];omega
  have b5:=J8 (show Mj f n r ys+1<=Mi f n r ys - 1 by omega) (show 0<=AY f (n - ys.length) by omega);omega
 ·exact h2
theorem RZ (h:BQ n f):∀ (ys:List Int),ys.length<=n->0<=IJ f n ys
 | [],_=>by unfold IJ;exact Gy _
 | x::t,hl=>by
  rw[BR]at hl;have ih:=RZ h t oo;have c:=CV h.pos (show n - t.length<=n by omega);have j:=CV h.pos (show n - t.length - 1<=n by omega);have d:=A2B h (show t.length<n by omega) x;have e:=DI (show 0<=AY f (n - t.length - 1) by omega) ih;have g:0<=(AY f (n - t.length) * x+DG f n t) * (AY f (n - t.length) * x+DG f n t):=by
   rcases Int.le_total 0 (AY f (n - t.length) * x+DG f n t) with h | h
   ·exact DI h h
   ·exact Int.mul_nonneg_of_nonpos_of_nonpos h h
  rcases Gw (IJ f n (x::t)) 0 with h4 | h4
  ·have:=TZ c h4;omega
  ·exact h4
theorem A09 (u:Int):0<=u * u:=by
 rcases Int.le_total 0 u with h | h
 ·exact DI h h
 ·exact Int.mul_nonneg_of_nonpos_of_nonpos h h
theorem Yu {t:List Int}(h:BQ n f) (c:t.length<n) {x:Int}(d:0<=HO f n B (x::t)):0<=HO f n B t:=by rw[HG h];have k:=CV h.pos (show n - t.length<=n by omega);have e:=Oq h c B x;have g:=DI (show 0<=AY f (n - t.length) by omega) d;have j:=A09 (AY f (n - t.length) * x+DG f n t);omega
def aS:List Int->Nat
 | []=>0
 | x::t=>x.natAbs+aS t
theorem Vx (ys:List Int) (i:Nat):(yv ys i).natAbs<=aS ys:=by
 induction ys generalizing i with
 | nil=>simp[yv,aS]
 | cons x t ih =>
  cases i with
  | zero=>show x.natAbs<=x.natAbs+aS t;omega
  | succ i=>have:=ih i;rw[QO];show _<=x.natAbs+aS t;omega
theorem A5q {y:Int}(h:y ∈ ys):y.natAbs<=aS ys:=by obtain⟨i,c⟩:=Cx.1 h;have:=Vx ys i;unfold yv at this;rw[Bd,c]at this;exact this
theorem QP (h:BQ n f) (g:k+j+1<n):-AY f (k+1)<=2 * CP f k 0 (j+1)/\2 * CP f k 0 (j+1)<=AY f (k+1):=by
 have c:=h.rd.1 (k+(j+1)) k oo oo;unfold Ok at c;have e0:CP f k 0 (j+1)=CP f k (j+1) 0:=Yt h k 0 (j+1);have e1:((CP f k (j+1) 0:Int):Rat)=BB (RA f) k (k+(j+1)) k:=IZ h.pos oo (j+1) 0;rw[<- e1,<- HE h.pos oo]at c;rw[e0];obtain⟨d,e⟩:=c;constructor
 ·have:-(2 * CP f k (j+1) 0)<=AY f (k+1):=by exact_mod_cast e
  omega
 ·exact_mod_cast d
theorem A99 {g:Nat->Int}{d:Int}(ys:List Int) (q:0<=d) (k:m=ys.length) (c:∀ j,j<m->-d<=2 * g j/\2 * g j<=d):-(d * aS ys)<=2 * Ay m (fun j=>g j * yv ys j)/\2 * Ay m (fun j=>g j * yv ys j)<=d * aS ys:=by
 induction ys generalizing m g with
 | nil=>subst k;simp[Ay,aS]
 | cons x t ih =>
  subst k;rw[BR]at c;have ih':=ih (m:=t.length) (g:=fun j=>g (j+1)) rfl (fun j r=>c (j+1) oo);rw[BR,FQ,Ml];simp only[QO];have o:=c 0 oo;have l:=Fx (x:=2 * g 0) (y:=x) (a:=d) (b:=x.natAbs) oo oo;have e:2 * g 0 * x=2 * (g 0 * x):=O1 _ _ _;rw[e]at l;show -(d * ((x.natAbs+aS t:Nat):Int))<=_/\_<=d * ((x.natAbs+aS t:Nat):Int);rw[TW,LQ];constructor <;> omega
theorem QQ (h:BQ n f) (e:ys.length<n):-(AY f (n - ys.length) * aS ys)<=2 * DG f n ys/\2 * DG f n ys<=AY f (n - ys.length) * aS ys:=by have c:=CV h.pos (show n - ys.length<=n by omega);refine A99 ys oo rfl (fun j d=>?_);have:=QP h (k:=n - ys.length - 1) (j:=j) oo;rw[show n - ys.length - 1+1=n - ys.length by omega]at this;exact this
theorem QS {u R:Int}(d:0<=R) (h:u * u<=R * R):-R<=u/\u<=R:=by
 have e:(u.natAbs:Int) * u.natAbs=u * u:=U3 u;have:u.natAbs<=R.natAbs:=by
  rcases Dl R.natAbs u.natAbs with h2 | h2
  ·exfalso;have c:=Dg (show R.natAbs+1<=u.natAbs from h2) (show R.natAbs+1<=u.natAbs from h2);have e3:(R.natAbs+1) * (R.natAbs+1)=R.natAbs * R.natAbs+R.natAbs+R.natAbs+1:=by grind
   have e4:(R.natAbs:Int) * R.natAbs=R * R:=U3 R;have e5:((R.natAbs * R.natAbs:Nat):Int)=R * R:=by rw[<- e4];norm_cast
   have e6:((u.natAbs * u.natAbs:Nat):Int)=u * u:=by rw[<- e];norm_cast
   omega
  ·exact h2
 omega
theorem NC (h:BQ n f) (d:n<=8) (e:ys.length<=n) (hB:0<=B):GH f n B ys<=4294967296 * B/\HO f n B ys<=65536 * B:=by
 have k:=h.aW d (show n - ys.length<=n by omega);have l:=h.aW d (show n - ys.length - 1<=n by omega);have m:=RZ h ys e;have c:HO f n B ys<=65536 * B:=by unfold HO;have:=Jz (show AY f (n - ys.length)<=65536 by omega) hB;omega
 refine⟨?_,c⟩;rw[KL];have g:=J8 c (show 0<=AY f (n - ys.length - 1) by omega);have j:=Jz (show AY f (n - ys.length - 1)<=65536 by omega) (show 0<=65536 * B by omega);omega
theorem FR (h:BQ n f) (c:n<=8) {R:Nat}(hB:0<=B) (e:4294967296 * B<=(R:Int) * R):∀ (ys:List Int),ys.length<=n->0<=HO f n B ys->aS ys+R<=R * 2 ^ ys.length
 | [],_,_=>by show 0+R<=R * 1;omega
 | x::t,hl,hre=>by
  rw[BR]at hl;have g:=Yu h (show t.length<n by omega) hre;have ih:=FR h c hB e t oo g;have z:=CV h.pos (show n - t.length<=n by omega);have j:=Oq h (show t.length<n by omega) B x;have m:=DI (show 0<=AY f (n - t.length) by omega) hre;have o:=(NC h c (ys:=t) oo hB).1;have q:=QS (u:=AY f (n - t.length) * x+DG f n t) (R:=R) oo oo;have r:=QQ h (show t.length<n by omega);have v:2 * (AY f (n - t.length) * x.natAbs)<=2 * R+AY f (n - t.length) * aS t:=by
   rcases Int.le_total 0 x with hx | hx
   ·rw[show ((x.natAbs:Nat):Int)=x by omega];omega
   ·rw[show ((x.natAbs:Nat):Int)=-x by omega,Ju];omega
  have y:2 * x.natAbs<=2 * R+aS t:=by
   rcases Dl (2 * R+aS t) (2 * x.natAbs) with h8 | h8
   ·exfalso;have d:((2 * R+aS t+1:Nat):Int)<=((2 * x.natAbs:Nat):Int):=by exact_mod_cast h8
    have k:=J8 d (show 0<=AY f (n - t.length) by omega);have l:=Jz (show 1<=AY f (n - t.length) by omega) (show (0:Int)<=2 * R by omega);have e1:AY f (n - t.length) * ((2 * R+aS t+1:Nat):Int)=AY f (n - t.length) * (2 * R)+AY f (n - t.length) * aS t+AY f (n - t.length):=by rw[show ((2 * R+aS t+1:Nat):Int)=2 * R+aS t+1 by omega,LQ,LQ,Int.mul_one]
    have e2:AY f (n - t.length) * ((2 * x.natAbs:Nat):Int)=2 * (AY f (n - t.length) * x.natAbs):=by rw[show ((2 * x.natAbs:Nat):Int)=2 * (x.natAbs:Int) by omega,Int.mul_left_comm]
    omega
   ·exact h8
  show x.natAbs+aS t+R<=R * 2 ^ (t.length+1);rw[Ck,<- Bb];omega
def GZ:List Int->Nat->Int->List Int
 | [],_,_=>[]
 | x::t,0,c=>(x+c)::t
 | x::t,i+1,c=>x::GZ t i c
def Li (g:Int->Int×List Int->Option (Int×List Int)):Nat->Int->Int×List Int->Option (Int×List Int)
 | 0,_,s=>some s
 | j+1,x,s=>match g x s with
  | none=>none
  | some s'=>Li g j (x+1) s'
def Dh (f:Nat->Nat->Int) (n:Nat) (B:Int):Nat->List Int->Int×List Int->Option (Int×List Int)
 | 0,_,s=>some s
 | k+1,ys,s=>if s.1<Ct f n B ys - Cc f n B ys+1 then none else
   Li (fun x s=>Dh f n B k (x::ys) s) (Ct f n B ys - Cc f n B ys+1).toNat (Cc f n B ys) (s.1 - (Ct f n B ys - Cc f n B ys+1),GZ s.2 ys.length (Ct f n B ys - Cc f n B ys+1))
theorem Vy (l:List Int) (i:Nat) (c:Int):(GZ l i c).length=l.length:=by
 induction l generalizing i with
 | nil=>rfl
 | cons x t ih=>cases i with
  | zero=>rfl
  | succ i=>show _+1=_+1;rw[ih]
theorem Vz (l:List Int) (i:Nat) (c:Int):GZ l i c=l.set i (yv l i+c):=by
 induction l generalizing i with
 | nil=>rfl
 | cons x t ih=>cases i with
  | zero=>rfl
  | succ i=>show x::GZ t i c=x::t.set i (yv t i+c);rw[ih]
theorem A79 (g:ys.length<n) (l:n<=8) (c:∀ k,k<n->∀ i j,i<n - k->j<n - k->sz (CP f k i j)<=1000) (d:T64 ys):sz (DG f n ys)<=1100:=by unfold DG;refine Ar (Gp (s:=1014) _ (fun j e=>?_)) oo;have a1:=c (n - ys.length - 1) oo 0 (j+1) oo oo;have a2:=d.sz j;have a3:=Bt (CP f (n - ys.length - 1) 0 (j+1)) (yv ys j);omega
theorem MI.mpc {w:World}{v:Value}{r:Nat}(h:MI w v (mk r c f)) (x:1<=r) (u:1<=c):∃ a cap,v=.slice (some a) r cap/\∀ i,i<r->∃ b o cp,w.cell? (a.add i)=some (.slice (some ⟨b,o,none⟩) c cp)/\c<=cp/\Nk w b o c (f i):=by
 obtain⟨rs,e,g,q⟩:=h;rw[AU]at g;have m:rs[0]?=some (rs[0]'oo):=by simp
 obtain⟨a,cap,hv,_⟩:=e.get m;refine⟨a,cap,by rw[hv,g],fun i z=>?_⟩;have k:rs[i]?=some (rs[i]'oo):=by simp
 obtain⟨a',cap',d,y⟩:=e.get k;rw[hv]at d;simp only[Ci,AP]at d;obtain⟨rfl,_,_⟩:=d;have j:=q i _ _ k (BK z);obtain⟨b,o,cp,l,n⟩:=j.rp u;obtain⟨p,s,e3,t,_⟩:=j;simp only[Bj,List.length_range,tab]at e3 t;have e4:=l.symm.trans e3;simp only[Ci]at e4;exact⟨b,o,cp,by rw[y,l],by omega,n⟩
theorem Nk.at {w:World}{o:Nat}{g:Nat->Int}(h:Nk w b o c g) (r:j<c):∃ u e C,Dn w u (g j)/\Aj e w b C/\(C.drop (o+2 * j)).take 2=u.cells.toList/\o+2 * j+2<=C.length:=by obtain⟨e,C,m,q⟩:=h;obtain⟨u,d,k,l⟩:=q j r;exact⟨u,e,C,d,m,k,l⟩
theorem K8 {w:World}{x v:Value}(hF:FrV w x n f) (k:Nh w v ys) (hl:ys.length<n) (V:1<=n/\n<=8) (d:BQ n f) (I:T64 ys)
  (hB:-9223372036854775808<=B/\B<=9223372036854775807) (h0:0<=GH f n B ys) :
  Calls prog 126 #[x,.int .i64 B,v] w (AJ fun r w'=>Ac w w'/\r=.tuple #[.int .i64 (Yq (Cc f n B ys)),.int .i64 (Yq (Ct f n B ys))]):=by
 have kd:=d.szs V.2;have kw:=d.szd V.2;have ue:=A79 (f:=f) hl V.2 kd I;have ul:sz B<=2:=Bn oo oo;obtain⟨aS,cs,bm,om,cm,rfl,hS,kn⟩:=hF.open V.1;obtain⟨px,cx,rfl⟩:=k.len;obtain⟨s,W⟩:∃ s,s=n - ys.length - 1:=⟨_,rfl⟩;obtain⟨M,N,h6,h3⟩:=hS s oo;rw[show n - s=ys.length+1 by omega]at h6 h3;obtain⟨_,_,e,h4⟩:=h3.mpc oo oo;simp only[Ci,AP]at e;obtain⟨rfl,_,_⟩:=e;have kc:∀ i j,i<=ys.length->j<=ys.length->sz (CP f s i j)<=1000:=fun i j F hj=>kd s oo i j oo oo;have hh:∀ i,i<=ys.length->∀ j,j<ys.length->sz (CP f s i (j+1) * yv ys j)<=1014:=by intro i F j hj;have a1:=kc i (j+1) F oo;have a2:=I.sz j;have a3:=Bt (CP f s i (j+1)) (yv ys j);omega
 have h8:∀ i,i<=ys.length->sz (Ay ys.length (fun j=>CP f s i (j+1) * yv ys j))<=1022:=fun i F=>Ar (Gp (s:=1014) _ (hh i F)) oo;have hk:∀ i,i<ys.length->sz (yv ys i * Ay ys.length (fun j=>CP f s (i+1) (j+1) * yv ys j))<=1036:=by intro i F;have a1:=h8 (i+1) oo;have a2:=I.sz i;have a3:=Bt (yv ys i) (Ay ys.length (fun j=>CP f s (i+1) (j+1) * yv ys j));omega
 refine cS func126 ntmps126 ?_;refine Nv ?_;refine .s (oB) ?_;rintro _ w1 ⟨rfl,B3,hv,k2⟩;refine A7 ?_;refine .p FW ?_;refine .a 3 (.int .i64 ((n - ys.length:Nat):Int)) rfl (by rw[Ab oo oo];congr 1;omega) ?_;refine .a 1 (.int .i64 (s:Int)) rfl (by rw[Ab oo oo];congr 1;omega) ?_;refine A7 ?_;refine .p FW ?_;refine .r rfl ?_;refine .p (A0.ia) ?_;refine .p (rL (hv.cell h6)) ?_;refine A7 ?_;refine .s (Av.call IC rfl (Kz (k.ext hv) oo I)) ?_;rintro ut w2 ⟨ke,Q⟩;have ho:=hv.trans ke;replace B3:=B3.ext ke;obtain⟨py,cy,ki⟩:=Q.1;subst ki;obtain⟨b0,o0,c0,C,kq,h9⟩:=h4 0 oo;have kl:=Q.lp (fun j _=>by have:=I.sz j;omega);refine A7 ?_;refine .p (A0.ia) ?_;refine .p (rL (ho.cell C)) ?_;refine .p (A0.bC A8 rfl rfl rfl rfl 1 rfl oo) ?_;refine .r rfl ?_;refine .s (Av.call I6 rfl (Lg (s:=1014) ((h9.ext ho).eB kq) kl oo (hh 0 oo) oo)) ?_;rintro lv w3 ⟨hw,m⟩;replace m:Ao 0 w3 lv (DG f n ys):=by unfold DG;rw[<- W];exact m
 have kz:=ho.trans hw;refine Af.cn rfl (fun _=>rfl) m.r2 ?_;intro K Y A;have hp:=kz.trans Y;replace m:=m.ext Y;replace B3:=(B3.ext hw).ext Y;replace Q:=(Q.ext hw).ext Y;refine Nv ?_;refine .p (rB) ?_;refine Af.cn (v:=zI) rfl (fun _=>rfl) (DS 0 K).r2 ?_;intro w5 k1 he;refine A7 ?_;refine H6 (42) (0) (ys.length) [(1,.int .i64 B),(3,.pointer (some ⟨w.heap.size,0,none⟩)),(8,.int .i64 s),(9,.slice (some M) (ys.length+1) N),(10,.slice py ys.length cy),(11,.pointer (some ⟨w3.heap.size,0,none⟩)),(12,.pointer (some ⟨K.heap.size,0,none⟩)),(41,.int .i64 ys.length)] (fun i w'=>Ac K w'/\∃ v,Aj 37 w' K.heap.size v.cells.toList/\Ao 0 w' v (Ay i (fun i=>yv ys i * Ay ys.length (fun j=>CP f s (i+1) (j+1) * yv ys j)))) ?_ ?_ ?_
 ·exact⟨k1,zI,he,DS 0 _⟩
 ·clear he;rintro i w6 F ⟨J,u,h,hu⟩;have X:=hp.trans J;have h5:=Q.ext J;obtain⟨by',oy,k8,ey,ku⟩:=h5.2 oo;cases ey;obtain⟨uy,k9,Cy,h7,kk,ky,ly⟩:=ku.at F;obtain⟨bi,oi,ci,kp,kr,kt⟩:=h4 (i+1) oo;have uq:=Gp (s:=1036) i (fun j hj=>hk j oo) (g:=fun i=>yv ys i * Ay ys.length (fun j=>CP f s (i+1) (j+1) * yv ys j));have ht:=hk i F;have uf:=I.sz i;have uc:=h8 (i+1) oo;refine A7 ?_;refine St.sub (E':=[(42,.int .i64 i),(13,.int .i64 i),(1,.int .i64 B),(3,.pointer (some ⟨w.heap.size,0,none⟩)),(8,.int .i64 s),(9,.slice (some M) (ys.length+1) N),(10,.slice (some ⟨by',oy,none⟩) ys.length cy),(11,.pointer (some ⟨w3.heap.size,0,none⟩)),(12,.pointer (some ⟨K.heap.size,0,none⟩)),(41,.int .i64 ys.length)]) ?_ AL;refine sF 14 ?_;refine .on (fun _ d=>A0.cD rfl (d.blk h sm) hu) ?_;refine .q ?_;refine .on (fun _ _=>A0.aQ rfl rfl rfl oo) ?_;refine .on (fun _ d=>A0.aH rfl (d.blk kk sm) ky ly h7.r2) ?_;refine FL.as A8 3 (.int .i64 ((i+1:Nat):Int)) rfl (Bv oo) ?_;refine .on (fun _ _=>A0.ia) ?_;refine .on (fun _ d=>rL (d.aq.cell (X.cell kp))) ?_;refine .on (fun _ _=>A0.bC A8 rfl rfl rfl rfl 1 rfl oo) ?_;refine .q ?_;refine FL.au I6 rfl rfl rfl (fun E t=>Gj.mk rfl (Lg (s:=1014) (((kt.ext X).ext t).eB kr) ((h5.lp (fun j _=>by have:=I.sz j;omega)).ext t) oo (hh (i+1) oo) oo)) (Am.aF 0 _) ?_;refine FL.au BP rfl rfl rfl (fun E t t1 l=>Gj.mk rfl (Dy (base:=0) ((h7.ext t).dn oo) (l.dn oo) BI)) (Am.aF 0 _) ?_;refine FL.aG rfl ?_;rintro E t y T _ _ _ _;replace h:=h.ext t;replace hu:=hu.ext t;refine .s (Av.call FJ rfl (Kw (base:=0) (hu.dn oo) (T.dn oo) BI)) ?_;rintro z w8 ⟨R,hz⟩;replace h:=h.ext R;refine Af.aK rfl rfl h hu.two.1 hz ((J.trans t).trans R) AO ?_;intro w9 S9 kx Z S;refine Nv ?_;exact Ad.rnd AL ⟨S,z,S9,Z⟩
 ·clear he;rintro w6 ⟨J,u,h,hu⟩;have X:=hp.trans J;replace hu:Ao 0 w6 u (qdI f n ys):=by unfold qdI;rw[<- W];exact hu
  have up:sz (qdI f n ys)<=1044:=by unfold qdI;rw[<- W];exact Ar (Gp (s:=1036) _ hk) oo
  have B3':=B3.ext J;obtain⟨um,em,Cm,hg,hx,km,lm⟩:=(kn.ext X).at (j:=s) oo;have uo:=kw s oo;have ug:=kc 0 0 oo oo;have un:=Bt B (AY f s);have k2:=RE (qdI f n ys) (B * AY f s);have uh:=Bt (DG f n ys) (DG f n ys);have ui:=Bt (CP f s 0 0) (qdI f n ys - B * AY f s);have k3:=RE (DG f n ys * DG f n ys) (CP f s 0 0 * (qdI f n ys - B * AY f s));have kb:DG f n ys * DG f n ys - CP f s 0 0 * (qdI f n ys - B * AY f s)=GH f n B ys:=by rw[W];exact A98 d hl B
  rw[kb]at k3;refine Nv ?_;refine St.sub (E':=[(1,.int .i64 B),(3,.pointer (some ⟨w.heap.size,0,none⟩)),(8,.int .i64 s),(9,.slice (some M) (ys.length+1) N),(11,.pointer (some ⟨w3.heap.size,0,none⟩)),(12,.pointer (some ⟨K.heap.size,0,none⟩))]) ?_ AL;refine sF 9 ?_;refine .on (fun _ d=>A0.cD rfl (d.blk h sm) hu) ?_;refine .q ?_;refine FL.au AW rfl rfl rfl (fun E t=>Gj.mk rfl (Ba (base:=0) E B oo oo BI)) (Am.aF 0 _) ?_;refine .q ?_;refine FL.load (L:=[]) A8 rfl rfl rfl rfl rfl rfl EC sm rfl ?_;refine .q ?_;refine .on (fun _ _=>A0.aQ rfl rfl rfl oo) ?_;refine .on (fun _ d=>A0.aH rfl (d.blk hx sm) km lm hg.r2) ?_;refine FL.au BP rfl rfl rfl (fun E t t1 l=>Gj.mk rfl (Dy (base:=0) (l.dn oo) ((hg.ext t).dn oo) BI)) (Am.aF 0 _) ?_;refine FL.aG rfl ?_;rintro E t y T _ _ _ _;replace h:=h.ext t;replace hu:=hu.ext t;refine .s (Av.call JU rfl (Qx (base:=0) (hu.dn oo) (T.dn oo) BI)) ?_;rintro z w8 ⟨R,hz⟩;replace h:=h.ext R;refine Af.aK rfl rfl h hu.two.1 hz ((J.trans t).trans R) AO ?_;intro w9 S9 kx Z S;clear B3' hg hx;have hq:=hp.trans S;replace A:=A.ext S;replace m:=m.ext S;obtain⟨u0,e0,C0,D,H,k0,l0⟩:=(h9.ext hq).at (j:=0) oo;replace C:=hq.cell C;obtain⟨ρ,hρ⟩:∃ ρ,ρ=Jo (GH f n B ys).natAbs:=⟨_,rfl⟩;have ka:EW (GH f n B ys).natAbs ρ:=by rw[hρ];exact EI _
  have ur:sz (ρ:Int)<=4000:=by
   have:=A75 ka;have e:((GH f n B ys).natAbs:Int)=GH f n B ys:=by omega
   rw[e]at this;omega
  refine Nv ?_;refine St.sub (E':=[(9,.slice (some M) (ys.length+1) N),(11,.pointer (some ⟨w3.heap.size,0,none⟩)),(12,.pointer (some ⟨K.heap.size,0,none⟩))]) ?_ AL;refine sF 17 ?_;refine .on (fun _ d=>A0.cD rfl (d.blk A sm) m) ?_;refine .on (fun _ d=>A0.cD rfl (d.blk A sm) m) ?_;refine FL.au BP rfl rfl rfl (fun ha b=>Gj.mk rfl (Dy (base:=0) ((m.ext b).dn oo) ((m.ext b).dn oo) BI)) (Am.aF 0 _) ?_;refine .q ?_;refine .on (fun _ _=>A0.ia) ?_;refine .on (fun _ d=>rL (d.aq.cell C)) ?_;refine .on (fun _ _=>A0.aQ (j:=0) rfl rfl rfl oo) ?_;refine .on (fun _ d=>A0.aH (j:=0) rfl (d.blk H sm) k0 l0 D.r2) ?_;refine .on (fun _ d=>A0.cD rfl (d.blk S9 sm) Z) ?_;refine FL.au BP rfl rfl rfl (fun ha b=>Gj.mk rfl (Dy (base:=0) (D.ext b) ((Z.ext b).dn oo) BI)) (Am.aF 0 _) ?_;refine FL.au JU rfl rfl rfl (fun ha b t1 l t2 P=>Gj.mk rfl (Qx (base:=0) (l.dn oo) (P.dn oo) BI)) (Am.aF 0 _) ?_;refine FL.au Z8 (ψ:=fun v w'=>∃ r,v=.tuple #[r,.bool true]/\Ao 0 w' r (ρ:Int)) rfl rfl rfl (fun ha b t1 l=>?_) (fun _ _ _ d ⟨r,l,P⟩=>⟨r,l,P.rg d⟩) ?_
  ·rw[kb]at l;refine Gj.mk rfl ((A5p (l.dn oo) oo).mono ?_);rintro _ hb ⟨x,rfl,o,ud,kv⟩;obtain⟨r,y,rfl,T,hc⟩:=kv h0;have e:y=ρ:=T.unique ka;subst e;exact⟨_,rfl,o,r,rfl,hc⟩
  refine FL.fact (L:=[]) (ψ:=fun v w'=>∃ r,v=.tuple #[r,.bool true]/\Ao 0 w' r (ρ:Int)) rfl rfl rfl rfl rfl (fun E d t1 l=>(A0.pure A8 rfl).op.mono (by rintro _ _ ⟨rfl,rfl⟩;exact⟨Ac.refl _,l⟩)) (fun _ _ _ d ⟨r,l,P⟩=>⟨r,l,P.rg d⟩) ?_;refine FL.fact (L:=[]) (ψ:=fun v w'=>Ao 0 w' v (ρ:Int)) rfl rfl rfl rfl rfl (fun E d t1 l=>?_) (Am.aF 0 _) ?_
  ·obtain⟨r,rfl,hr⟩:=l;exact (A0.pure A8 rfl).op.mono (by rintro _ _ ⟨rfl,rfl⟩;exact⟨Ac.refl _,hr⟩)
  refine FL.fact (L:=[]) (ψ:=Is (.bool true)) rfl rfl rfl rfl rfl (fun E d t1 l=>?_) (Am.is _ _) ?_
  ·obtain⟨r,rfl,hr⟩:=l;exact (A0.pure A8 rfl).op.mono (by rintro _ _ ⟨rfl,rfl⟩;exact⟨Ac.refl _,rfl⟩)
  refine FL.alloc A8 rfl rfl rfl rfl ?_;refine FL.bP (L:=[]) (base:=w9.heap.size) A8 rfl rfl rfl rfl rfl (Am.aF 0 (ρ:Int)) ?_ ?_
  ·intro E d k4 kj k5 hf;exact⟨⟨k4,rfl,kj⟩,k5,rfl,hf.two.1,hf.two.2,hf⟩
  refine FL.aG rfl ?_;rintro ha b _ ⟨b14,k6,rfl,ub,_,_⟩ _ rfl _ _ _ _ _ _ _ _ _ _ _ _ ⟨⟨k7,us,ko,U,O⟩,_⟩ ks;cases ko;clear ks;replace A:=A.ext b;replace m:=m.ext b;replace H:=H.ext b;replace D:=D.ext b;replace C:=b.cell C;have hm:=hq.trans b;have ua:=CV d.pos (show n - ys.length<=n by omega);have kh:CP f s 0 0=AY f (n - ys.length):=by rw[HF,show s+1=n - ys.length by omega]
  have uj:=RE (ρ:Int) (DG f n ys);have uk:=Pt (ρ:Int) (DG f n ys);have uu:=V3 ((ρ:Int) - DG f n ys) (CP f s 0 0);have uv:=V3 ((ρ:Int)+DG f n ys) (CP f s 0 0);have uw:=KG (((ρ:Int)+DG f n ys) / CP f s 0 0);obtain⟨kf,e1⟩:=RY (((ρ:Int) - DG f n ys) / CP f s 0 0);obtain⟨kg,e2⟩:=RY (-(((ρ:Int)+DG f n ys) / CP f s 0 0));refine .r rfl ?_;refine Nv ?_;refine St.sub (E':=[(9,.slice (some M) (ys.length+1) N),(11,.pointer (some ⟨w3.heap.size,0,none⟩)),(14,.pointer (some ⟨b14,0,none⟩))]) ?_ AL;refine sF 14 ?_;refine .on (fun _ d=>A0.cD rfl (d.blk U sm) O) ?_;refine .on (fun _ d=>A0.cD rfl (d.blk A sm) m) ?_;refine FL.au JU rfl rfl rfl (fun hb o=>Gj.mk rfl (Qx (base:=0) ((O.ext o).dn oo) ((m.ext o).dn oo) BI)) (Am.aF 0 _) ?_;refine .q ?_;refine .on (fun _ _=>A0.ia) ?_;refine .on (fun _ d=>rL (d.aq.cell C)) ?_;refine .on (fun _ _=>A0.aQ (j:=0) rfl rfl rfl oo) ?_;refine .on (fun _ d=>A0.aH (j:=0) rfl (d.blk H sm) k0 l0 D.r2) ?_;refine FL.au I5 rfl rfl rfl (fun hb o t1 l=>Gj.mk rfl (Oj (l.dn oo) (D.ext o) oo ⟨by omega,by omega⟩)) (Am.aF 0 _) ?_;refine FL.aY JB (c:=.tuple #[.int .i64 (Yq (((ρ:Int) - DG f n ys) / CP f s 0 0)),.bool kf]) rfl rfl rfl (fun hb o t1 l=>Gj.mk rfl (by rw[<- e1];exact Oh (l.dn oo))) ?_;refine .q ?_;refine FL.aG rfl ?_;rintro hb o _ _ _ _ _ _;replace A:=A.ext o;replace m:=m.ext o;replace H:=H.ext o;replace D:=D.ext o;replace C:=o.cell C;replace U:=U.ext o;replace O:=O.ext o;replace hm:=hm.trans o;refine .r rfl ?_;refine Nv ?_;refine St.sub (E':=[(9,.slice (some M) (ys.length+1) N),(11,.pointer (some ⟨w3.heap.size,0,none⟩)),(14,.pointer (some ⟨b14,0,none⟩)),(16,.int .i64 (Yq (((ρ:Int) - DG f n ys) / CP f s 0 0)))]) ?_ AL;refine sF 15 ?_;refine .on (fun _ d=>A0.cD rfl (d.blk U sm) O) ?_;refine .on (fun _ d=>A0.cD rfl (d.blk A sm) m) ?_;refine FL.au FJ rfl rfl rfl (fun hd G=>Gj.mk rfl (Kw (base:=0) ((O.ext G).dn oo) ((m.ext G).dn oo) BI)) (Am.aF 0 _) ?_;refine .q ?_;refine .on (fun _ _=>A0.ia) ?_;refine .on (fun _ d=>rL (d.aq.cell C)) ?_;refine .on (fun _ _=>A0.aQ (j:=0) rfl rfl rfl oo) ?_;refine .on (fun _ d=>A0.aH (j:=0) rfl (d.blk H sm) k0 l0 D.r2) ?_;refine FL.au I5 rfl rfl rfl (fun hd G t1 l=>Gj.mk rfl (Oj (l.dn oo) (D.ext G) oo ⟨by omega,by omega⟩)) (Am.aF 0 _) ?_;refine FL.au I4 rfl rfl rfl (fun hd G t1 l=>Gj.mk rfl (Og (base:=0) (l.dn oo) BI)) (Am.aF 0 _) ?_;refine FL.aY JB (c:=.tuple #[.int .i64 (Yq (-(((ρ:Int)+DG f n ys) / CP f s 0 0))),.bool kg]) rfl rfl rfl (fun hd G t1 l=>Gj.mk rfl (by rw[<- e2];exact Oh (l.dn oo))) ?_;refine .q ?_;refine FL.aG rfl ?_;rintro hd G _ _ _ _ _ _ _ _;refine A7 ?_;refine Ad.aC A8 [_,_] rfl ⟨rfl,rfl,trivial⟩ ⟨hm.trans G,?_⟩;unfold Cc Ct Mi Mj;rw[<- hρ,kh,NW (DG f n ys) (ρ:Int)];rfl
def Lj (M:List (List Int)):Prop:=∀ row ∈ M,∀ x ∈ row,-9223372036854775808<=x/\x<=9223372036854775807
theorem Ie.mk {M:List (List Int)}(h:Ie M):M=mk M.length M.length (ent M):=A2x h.small.2.1
variable {t2:TypeId}
theorem A1M {x y l:Nat}(c:y * 2 ^ n<=x) (d:x<(y+1) * 2 ^ n) (g:2 ^ (l - 1)<=y) (j:y<2 ^ l) (k:1<=l):2 ^ (n+l - 1)<=x/\x<2 ^ (n+l):=by
 constructor
 ·have e:(2:Nat) ^ (n+l - 1)=2 ^ (l - 1) * 2 ^ n:=by rw[<- Df,show l - 1+n=n+l - 1 by omega]
  rw[e];exact Ar (Bm _ g) c
 ·have e:(2:Nat) ^ (n+l)=2 ^ l * 2 ^ n:=by rw[<- Df,FD]
  rw[e];exact CW d (Bm _ j)
theorem VA (w:World) (x:Nat) (E:x≠0) (N:x<9223372036854775808) :
  Calls prog 190 #[.int .u64 x] w (AJ fun r w'=>w'=w/\∃ L:Nat,r=.int .i64 L/\1<=L/\L<=63/\x<2 ^ L):=by
 refine cS func190 ntmps190 ?_;refine St.seq (St.region (Af.run A8 99 rfl (Af.nil (Ad.ak ?_))));refine St.cut (fun g:Nat×Nat=>[(0,.int .u64 g.2),(2,.int .i64 g.1)]) (fun g w'=>w'=w/\g.1<=32/\g.2<4294967296/\g.2≠0/\g.2 * 2 ^ g.1<=x/\x<(g.2+1) * 2 ^ g.1) ?_ ?_
 ·refine A7 ?_;by_cases c:x<4294967296
  ·refine St.ay rfl (by simp;omega) ?_;exact St.skip (Ad.met (0,x) ⟨rfl,rfl,trivial⟩ ⟨rfl,by simp only;omega,c,E,by simp,by simp⟩)
  ·refine St.aD rfl (by simp;omega) ?_;refine Nv ?_;refine .r rfl ?_;refine Nv ?_;refine .r rfl ?_;refine Af.nil (Ad.met (32,x / 4294967296) ⟨?_,rfl,trivial⟩ ⟨rfl,by simp only;omega,by simp only;omega,by simp only;omega,by simp only;omega,by simp only;omega⟩);show some (Value.int .u64 ((x:Int) / 2 ^ 32))=_;rw[show (x:Int) / 2 ^ 32=((x / 4294967296:Nat):Int) from by omega]
 rintro⟨m0,y0⟩ w1 ⟨rfl,A,F,t,d,k⟩;simp only at A F t d k;dsimp only;have step:∀ {m y s q:Nat},y * 2 ^ m<=x->x<(y+1) * 2 ^ m->q=2 ^ s->y / q * 2 ^ (m+s)<=x/\x<(y / q+1) * 2 ^ (m+s):=by
  intro m y s q c p z;have D:0<q:=by rw[z];exact EM de
  rw[Df,AQ (2 ^ m),<- Bb,<- Bb,<- z];have e1:=TQ y q;have e2:=Nat.lt_div_mul_add (a:=y) D;refine⟨Ar (Bm _ e1) c,CW p (Bm _ ?_)⟩;rw[Bw,Cf];exact e2
 refine St.cut (fun g:Nat×Nat=>[(0,.int .u64 g.2),(2,.int .i64 g.1)]) (fun g w'=>w'=w1/\g.1<=48/\g.2<65536/\g.2≠0/\g.2 * 2 ^ g.1<=x/\x<(g.2+1) * 2 ^ g.1) ?_ ?_
 ·refine A7 ?_;by_cases c:y0<65536
  ·refine St.ay rfl (by simp;omega) ?_;exact St.skip (Ad.met (m0,y0) ⟨rfl,rfl,trivial⟩ ⟨rfl,by simp only;omega,c,t,d,k⟩)
  ·refine St.aD rfl (by simp;omega) ?_;refine Nv ?_;refine .r rfl ?_;refine Nv ?_;refine .r rfl ?_;obtain⟨s1,s2⟩:=step (s:=16) (q:=65536) d k de;refine Af.nil (Ad.met (m0+16,y0 / 65536) ⟨?_,?_,trivial⟩ ⟨rfl,by simp only;omega,by simp only;omega,by simp only;omega,s1,s2⟩)
   ·show some (Value.int .u64 ((y0:Int) / 2 ^ 16))=_;rw[show (y0:Int) / 2 ^ 16=((y0 / 65536:Nat):Int) from by omega]
   ·show some (Value.int .i64 (IntKind.i64.wrap ((m0:Int)+16)))=_;rw[Ab oo oo];rfl
 rintro⟨m,y⟩ w2 ⟨rfl,C,G,f,e,j⟩;simp only at C G f e j;dsimp only;refine St.cut (fun g:Nat×Nat=>[(0,.int .u64 g.2),(2,.int .i64 g.1)]) (fun g w'=>w'=w2/\g.1<=56/\g.2<256/\g.2≠0/\g.2 * 2 ^ g.1<=x/\x<(g.2+1) * 2 ^ g.1) ?_ ?_
 ·refine A7 ?_;by_cases c:y<256
  ·refine St.ay rfl (by simp;omega) ?_;exact St.skip (Ad.met (m,y) ⟨rfl,rfl,trivial⟩ ⟨rfl,by simp only;omega,c,f,e,j⟩)
  ·refine St.aD rfl (by simp;omega) ?_;refine Nv ?_;refine .r rfl ?_;refine Nv ?_;refine .r rfl ?_;obtain⟨s1,s2⟩:=step (s:=8) (q:=256) e j de;refine Af.nil (Ad.met (m+8,y / 256) ⟨?_,?_,trivial⟩ ⟨rfl,by simp only;omega,by simp only;omega,by simp only;omega,s1,s2⟩)
   ·show some (Value.int .u64 ((y:Int) / 2 ^ 8))=_;rw[show (y:Int) / 2 ^ 8=((y / 256:Nat):Int) from by omega]
   ·show some (Value.int .i64 (IntKind.i64.wrap ((m:Int)+8)))=_;rw[Ab oo oo];rfl
 rintro⟨m',y'⟩ w' ⟨rfl,B,o,b,u,v⟩;simp only at B o b u v;dsimp only;obtain⟨q1,q2,q3,H⟩:=WN ⟨y',o⟩ b;simp only at q1 q2 q3 H;refine A7 ?_;refine .s (A0.cK A8 y' (fun i=>UInt8.ofNat (Tf i)) rfl rfl rfl ?_ o (by decide +kernel)).op ?_
 ·show IntKind.u8.wrap (y':Int)=_;rw[Ua];omega
 rintro _ _ ⟨rfl,rfl⟩;have e8:((UInt8.ofNat (Tf y')).toNat:Nat)=Tf y':=by rw[UInt8.toNat_ofNat'];exact Hj oo
 rw[e8];generalize Tf y'=l at *
 obtain⟨O,I⟩:=A1M u v q1 q2 q3;have J:m'+l<=63:=by
  rcases Dl 63 (m'+l) with h | h
  ·have K:(2:Nat) ^ 63<=2 ^ (m'+l - 1):=DB de oo;have M:(2:Nat) ^ 63=9223372036854775808:=by decide
   omega
  ·exact h
 refine A7 ?_;refine Ad.ax rfl rfl ⟨rfl,m'+l,?_,by omega,J,I⟩;rw[Ab (n:=(l:Int)) oo oo,Ab oo oo];rfl
theorem A7a {a:Nat}:((a:Int)).tdiv (b:Int)=((a / b:Nat):Int):=by rw[Int.tdiv_eq_ediv_of_nonneg oo];rfl
theorem A0.cU {w:World}{y:Operand}{pos:String}{mi si:Int}(m s:Nat) (j:ov E x=some (.int .i64 mi)) (c:mi=m) (k:ov E y=some (.int .i64 si)) (e:si=s) (l:0<s) (o:m<=9223372036854775807) :
  A0 P n ⟨d,.binOp .quo t x y t2,ty,pos,af,g⟩ E w (.int .i64 ((m / s:Nat):Int)):=by
 have:=EN m s;have h:=A0.quoT (P:=P) (n:=n) (w:=w) (d:=d) (t:=t) (t2:=t2) (ty:=ty) (pos:=pos) (af:=af) (g:=g) j k oo;rw[c,e,A7a]at h;generalize m / s=q at *
 rw[Ab oo oo]at h;exact h
theorem A0.quoZ {w:World}{y:Operand}{pos:String}{m s:Int}(e:ov E x=some (.int .i64 m)) (j:ov E y=some (.int .i64 s)) (c:s≠0) (k:-9223372036854775807<=m/\m<=9223372036854775807) :
  A0 P n ⟨d,.binOp .quo t x y t2,ty,pos,af,g⟩ E w (.int .i64 (m.tdiv s)):=by
 have l:(m.tdiv s).natAbs<=m.natAbs:=by rw[Int.natAbs_tdiv];exact EN _ _
 have h:=A0.quoT (P:=P) (n:=n) (w:=w) (d:=d) (t:=t) (t2:=t2) (ty:=ty) (pos:=pos) (af:=af) (g:=g) e j c;rw[Ab oo oo]at h;exact h
theorem Xd (w:World) (a:Nat) (z:a<=4611686018427387904) :
  Calls prog 188 #[.int .i64 a] w (AJ fun r w'=>w'=w/\r=.int .i64 (Jo a)):=by
 refine cS func188 ntmps188 ?_;refine A7 ?_;by_cases c:a=0
 ·refine St.aD rfl (by subst c;rfl) ?_;refine A7 ?_;refine Ad.ax rfl rfl ⟨rfl,?_⟩;subst c;rfl
 refine St.ay rfl (beq_eq_false_iff_ne.2 oo) ?_;refine Nv ?_;refine .a 2 (.int .u64 (a:Int)) rfl (by rw[Cz];congr 1;omega) ?_;refine .s (oK JV (VA w a c oo)) ?_;rintro _ w1 ⟨rfl,L,rfl,v,y,k⟩;refine .a 1 (.int .i64 ((L+1:Nat):Int)) rfl (by rw[Ab oo oo];rfl) ?_;refine .p (A0.cU (L+1) 2 rfl rfl rfl rfl de oo) ?_;have b:(2:Nat) ^ ((L+1) / 2)<=2 ^ 32:=DB de oo;have f:0<(2:Nat) ^ ((L+1) / 2):=EM de;have m:a<2 ^ ((L+1) / 2) * 2 ^ ((L+1) / 2):=by rw[<- Df];exact CW k (DB de oo)
 have u:(2:Nat) ^ 32=4294967296:=by decide
 refine .p (A0.dW 1 ((L+1) / 2) rfl rfl rfl rfl (by show _<=64;omega) (by rw[Cf];exact Ab oo oo)) ?_;rw[Cf];generalize 2 ^ ((L+1) / 2)=r0 at *
 refine A7 ?_;refine St.loop (fun r:Nat=>[(0,.int .i64 (a:Int)),(3,.int .i64 (r:Int))]) (fun r w'=>w'=w1/\1<=r/\r<=4294967296/\a<(r+1) * (r+1)) (fun r=>r) r0 AL ?_ ?_
 ·refine⟨rfl,by omega,by omega,?_⟩;have:=Dg (LK r0) (LK r0);exact CW m this
 ·rintro r w2 ⟨rfl,d,o,j⟩;have h:a / r<=a:=EN a r;have g:=Qs (a:=a) (x:=r) d;have l:=Sy (a:=a) (x:=r);refine A7 ?_;refine .p (A0.cU a r rfl rfl rfl rfl d oo) ?_;generalize a / r=q at *
  refine .a 1 (.int .i64 ((r+q:Nat):Int)) rfl (by rw[Ab oo oo];rfl) ?_;refine .p (A0.cU (r+q) 2 rfl rfl rfl rfl de oo) ?_;generalize (r+q) / 2=x at *
  refine A7 ?_;by_cases t:x>=r
  ·refine St.aD rfl (decide_eq_true oo) ?_;refine A7 ?_;refine Ad.ax rfl rfl ⟨rfl,?_⟩;rw[EW.rt ⟨l oo,j⟩]
  ·refine St.ay rfl (decide_eq_false oo) ?_;refine A7 ?_;refine Ad.again x AL ⟨rfl,?_,by omega,g⟩ oo;rcases Gu x with e | e
   ·rw[e]at g;omega
   ·exact e
theorem VB (w:World) (a b:Int) (c:0<b) (j:-9223372036854775807<=a/\a<=9223372036854775807) :
  Calls prog 214 #[.int .i64 a,.int .i64 b] w (AJ fun r w'=>w'=w/\r=.int .i64 (a / b)):=by
 have d:a / b=if a.tmod b<0 then a.tdiv b - 1 else a.tdiv b:=by
  rw[Int.tdiv_eq_ediv,Int.tmod_eq_emod];have m:=Int.emod_nonneg a (show b≠0 by omega);have o:=Int.emod_lt_of_pos a c;have l:b.sign=1:=TX c;have k:(b.natAbs:Int)=b:=by omega
  by_cases h:0<=a\/b ∣ a
  ·rw[if_pos h,if_pos h];rw[if_neg oo];omega
  ·rw[if_neg h,if_neg h,l,k];have:a % b≠0:=fun e=>h (.inr (Int.dvd_of_emod_eq_zero e));rw[if_pos oo];omega
 have q:(a.tdiv b).natAbs<=a.natAbs:=by rw[Int.natAbs_tdiv];exact EN _ _
 have u:(a.tmod b).natAbs<=a.natAbs:=by rw[Int.natAbs_tmod];exact NU _ _
 refine cS func214 ntmps214 ?_;refine St.seq (St.region (Af.run A8 99 rfl (Af.nil (Ad.ak (St.seq (St.region (Af.run A8 99 rfl ?_)))))));refine .p (A0.quoZ rfl rfl oo j) ?_;refine .r rfl ?_;refine Af.nil (Ad.ak ?_);refine St.cut (fun g:Int=>[(5,.int .i64 g)]) (fun g w'=>w'=w/\g=a / b) ?_ ?_
 ·refine A7 ?_;refine .p (A0.bJ rfl rfl oo) ?_;by_cases h:a.tmod b<0
  ·refine .a 1 (.bool true) rfl (Aa h) ?_;refine A7 ?_;refine .ct ?_;refine Ad.met (a / b) ⟨?_,trivial⟩ ⟨rfl,rfl⟩;rw[d,if_pos h];show some (Value.int .i64 (IntKind.i64.wrap (a.tdiv b - 1)))=_;rw[Ab oo oo]
  ·refine .a 1 (.bool false) rfl (A9 h) ?_;refine A7 ?_;refine .cf ?_;refine Ad.met (a / b) ⟨?_,trivial⟩ ⟨rfl,rfl⟩;rw[d,if_neg h];rfl
 ·rintro g w1 ⟨rfl,rfl⟩;refine A7 ?_;exact Ad.ax rfl rfl ⟨rfl,rfl⟩
theorem QT {w:World}{v:Value}{a:Int}(h:Dn w v a) (d:-9223372036854775808<=a/\a<=9223372036854775807) :
  Calls prog 187 #[v] w (AJ fun r w'=>Ac w w'/\r=.int .i64 a):=by obtain⟨b,e⟩:=RY a;have el:Yq a=a:=if_pos d;rw[el]at e;refine cS func187 ntmps187 ?_;refine Nv ?_;refine .s (oB) ?_;rintro _ w1 ⟨rfl,B1,c,j⟩;refine A7 ?_;refine .p (rI (B1) (h.r2)) ?_;refine .s (oK KY (Zw (h.ext c))) ?_;rintro _ w2 ⟨g,rfl⟩;rw[e];refine A7 ?_;exact Ad.ax rfl rfl ⟨c.trans g,rfl⟩
variable {bx:Nat}{D:List Value}
abbrev Ii (c:Nat) (g:Nat->Int):List Value:=(List.range c).map (fun j=>Value.int .i64 (g j))
theorem Gr (x:Int):Y1 1 (.int .i64 x):=.inl ⟨rfl,rfl,rfl⟩
theorem S1 (c:Nat) (g:Nat->Int):Ii c g++[.int .i64 (g c)]=Ii (c+1) g:=by simp[Ii,Iv]
theorem Ll (c:Nat) (g:Nat->Int):(Ii c g).length=c:=by simp[Ii]
def WkV (w:World) (bw bx:Nat) (n:Nat) (f:Nat->Nat->Int) (B:Int):Prop:=bx<bw/\∃ mv lv us,
 Aj 218 w bw [.int .i64 B,mv,lv,.slice (some ⟨bx,0,none⟩) n n]/\Aq 1 2 (bx+1) w mv (Ii (n+1) (AY f)) /\
 Aq 1 33 (bx+1) w lv us/\us.length=n/\∀ (k:Nat) (u:Value),us[k]?=some u->Aq 1 2 (bx+1) w u (Ii (n - 1 - k) (fun j=>CP f k 0 (j+1)))
theorem CE.bf {w w2:World}(h:CE b w w1) (k:Ac w1 w2):CE b w w2:=h.trans (k.upd b)
theorem JE.ne {w:World}{o q:Nat}{g:Nat->Int}(h:JE w b o c g) (r:0<c) (hB:Aj t w q D) (k:∀ x ∈ D,∀ y,x≠.bool y):b≠q:=by
 obtain⟨e,C,m,v⟩:=h;obtain⟨u,d,j,a⟩:=v 0 r;intro e1;subst e1;have e2:=m.same hB;subst e2;obtain⟨p,cap,hu,_⟩:=d;have e3:∃ y,Value.bool y ∈ C:=by
  subst hu;have:(C.drop (o+2 * 0)).take 2=[.bool (decide (g 0<0)),.slice p (Ae (g 0).natAbs).length cap]:=by rw[j];rfl
  refine⟨_,NN (HU (i:=2) (l:=C.drop (o+2 * 0)) (by rw[this];exact List.mem_cons_self))⟩
 obtain⟨y,z⟩:=e3;exact k _ z y rfl
theorem JE.updW {w:World}{o q:Nat}{g:Nat->Int}(h:JE w b o c g) (y:b≠q) (hu:CE q w w') (hB:Aj t w q D) (z:109≠t):JE w' b o c g:=by obtain⟨e,C,m,r⟩:=h;refine⟨e,C,m.upd hu y,fun j v=>?_⟩;obtain⟨u,d,k,l⟩:=r j v;exact⟨u,d.aI hu hB z,k,l⟩
def FrW (w:World) (aS:Addr) (n q:Nat) (f:Nat->Nat->Int):Prop:=∀ k,k<n->∃ aM cM b o cp,w.cell? (aS.add k)=some (.slice (some aM) (n - k) cM)/\w.cell? (aM.add 0)=some (.slice (some ⟨b,o,none⟩) (n - k) cp)/\n - k<=cp/\JE w b o (n - k) (CP f k 0)/\aS.block≠q/\aM.block≠q/\b≠q
theorem Uh (a:Addr) (k:Nat):(a.add k).block=a.block:=by unfold Addr.add;split <;> rfl
theorem FrW.upd {w:World}{aS:Addr}{q:Nat}(h:FrW w aS n q f) (hu:CE q w w') (hB:Aj t w q D) (y:109≠t):FrW w' aS n q f:=by intro k v;obtain⟨g,j,b,o,cp,l,m,r,u,c,d,e⟩:=h k v;exact⟨g,j,b,o,cp,hu.cell l (by rw[Uh];exact c),hu.cell m (by rw[Uh];exact d),r,u.updW e hu hB y,c,d,e⟩
theorem KA {w:World}{q:Nat}{a:Addr}(hB:Aj t w q D) (h:w.cell? a=some z) (c:a.block=q):z ∈ D:=by
 obtain⟨b,o,s⟩:=a;simp only at c;subst c;unfold World.cell? at h;rw[hB]at h;simp only at h;have d:(D.toArray)[o]?=some z:=by revert h;cases s <;> simp
 exact Bi (by simpa using d)
theorem Vv.frw {w:World}{v:Value}{q:Nat}(h:Vv w v n f) (L:0<n) (hB:Aj t w q [.int .i64 B,.slice none 0 0,.slice none 0 0,.slice (some ⟨bx,0,none⟩) n n]) (u:Aj t2 w bx (List.replicate n (.int .i64 0))):∃ c cs,v=.slice (some c) n cs/\FrW w c n q f:=by
 obtain⟨us,r,i,H⟩:=h;have D:us[0]?=some (us[0]'oo):=by simp
 obtain⟨c,A,g,_⟩:=r.get D;rw[i]at g;refine⟨c,A,g,fun k K=>?_⟩;have a:us[k]?=some (us[k]'oo):=by simp
 obtain⟨a',c',e',j⟩:=r.get a;rw[g,i]at e';simp only[Ci,AP]at e';obtain⟨rfl,_,_⟩:=e';obtain⟨p,s,C,J,E⟩:=H k _ a;obtain⟨b,o,cp,d,G,l⟩:=E 0 oo;rw[C]at j;have F:∀ {z:Value},w.cell? (Addr.add ⟨bx,0,none⟩ 0)=some z->z=.int .i64 0:=fun I=>BU (KA u I rfl);refine⟨p,s,b,o,cp,j,d,G,l,?_,?_,?_⟩
 ·intro e;have:=KA hB j (by rw[Uh];exact e);simp only[Cw,LN,or_false,reduceCtorEq,false_or,Ci,AP]at this;rcases this with h1 | h1 | h1
  ·exact absurd h1.1 sm
  ·exact absurd h1.1 sm
  ·rw[h1.1]at d;exact absurd (F d) sm
 ·intro e;have:=KA hB d (by rw[Uh];exact e);simp only[Cw,LN,or_false,reduceCtorEq,false_or,Ci,AP]at this;rcases this with h1 | h1 | h1
  ·exact absurd h1.1 sm
  ·exact absurd h1.1 sm
  ·simp only[FF]at h1;exact JE.ne l oo u (fun x m y e=>by rw[BU m]at e;cases e) h1.1.1
 ·exact JE.ne l oo hB (fun x m y e=>by subst e;simp at m)
theorem Yv {w:World}{v:Value}(h:G8 w v n f) (X:1<=n/\n<=8) (V:BQ n f) :
  Calls prog 136 #[v,.int .i64 B] w (AJ fun x w'=>Ac w w'/\∃ bw bx,x=.pointer (some ⟨bw,0,none⟩)/\w.heap.size<=bx/\WkV w' bw bx n f B/\Aj 2 w' bx (List.replicate n (.int .i64 0))):=by
 have kz:=V.szs X.2;have ky:=V.szd X.2;have hh:=h;obtain⟨pv,cv,rfl,_⟩:=hh;refine Sj (args:=[_,_]) func136 rfl ntmps136 rfl ?_;refine A7 ?_;refine .s (Av.make A8 n rfl rfl rfl rfl rfl rfl rfl rfl (by show n * 8<=_;omega) oo) ?_;rintro _ w1 ⟨rfl,I,h7,k3⟩;refine .p (A0.build A8 rfl rfl rfl rfl) ?_;refine .s (Av.box rfl) ?_;rintro _ w2 ⟨rfl,z,hu,k4⟩;have ht:=h7.trans hu;have uj:w1.heap.size=w.heap.size+1:=k3;replace I:=I.ext hu;replace z:Aj 218 w2 w1.heap.size [.int .i64 B,.slice none 0 0,.slice none 0 0,.slice (some ⟨w.heap.size,0,none⟩) n n]:=z;refine A7 ?_;refine .s (Av.call Pk rfl (Vw (h.ext ht) X V)) ?_;rintro _ w3 ⟨hd,sv,mv,rfl,O,hL⟩;obtain⟨us,ho,K,Q⟩:=O;obtain⟨ps,cs,hz⟩:=ho.len;rw[K]at hz;obtain⟨bm,om,cm,hw,ue,W⟩:=hL;subst hz hw;have O:Vv w3 (.slice ps n cs) n f:=⟨us,ho,K,Q⟩;refine .s (Av.alloc A8 rfl) ?_;rintro _ w4 ⟨rfl,B6,h8,k5⟩;refine Af.step0 rfl rfl (Av.store A8 (vs:=[_,_]) rfl rfl rfl rfl rfl B6 (Ai 2) (by simp[Value.oneCell'])) ?_;rintro _ T ⟨B9,h5⟩;replace B9:Aj 220 T w3.heap.size [.slice ps n cs,.slice (some ⟨bm,om,none⟩) (n+1) cm]:=B9;have R:Ac w3 T:=h8.aj h5 AO;replace O:=O.ext R;replace W:=W.ext R;replace I:=(I.ext hd).ext R;replace z:=(z.ext hd).ext R;have k1:=(ht.trans hd).trans R;have ud:=z.lt;clear ho Q h8 h5 B6 R hd hu h7 ht k5 k4 K us;obtain⟨aS,cs',hy,hg⟩:=O.frw oo z I;simp only[Ci]at hy;obtain⟨rfl,_,rfl⟩:=hy;have kv:bm≠w1.heap.size:=W.ne oo z (fun x hx y e=>by subst e;simp at hx);have kt:w3.heap.size≠w1.heap.size:=by intro e;rw[e]at B9;have:=B9.same z;simp at this
 clear O;refine A7 ?_;refine .p FW ?_;refine A7 ?_;refine St.rng A8 (25) (0) ((n+1)) oo [(5,.pointer (some ⟨w1.heap.size,0,none⟩)),(6,.pointer (some ⟨w3.heap.size,0,none⟩)),(23,.slice (some ⟨bm,om,none⟩) (n+1) cm),(24,.int .i64 ((n+1:Nat):Int))] (fun k w'=>CE w1.heap.size T w'/\∃ mv,Aj 218 w' w1.heap.size [.int .i64 B,mv,.slice none 0 0,.slice (some ⟨w.heap.size,0,none⟩) n n]/\Aq 1 2 T.heap.size w' mv (Ii k (AY f))) AL ?_ (fun _=>⟨rfl,rfl⟩) (fun _=>rfl) (fun _=>⟨rfl,rfl⟩) rfl rfl oo ?_ ?_
 ·exact⟨CE.refl _ _,_,z,Aq.nil⟩
 ·rintro k E hk ⟨F,mv,D,N⟩;have kg:=W.updW kv F z de;obtain⟨um,em,Cm,G,ke,km,lm⟩:=kg.at (j:=k) oo;have uk:=ky k oo;have uf:=V.aW X.2 (show k<=n by omega);obtain⟨pm,k9,hw⟩:=N.len;refine Nv ?_;refine .p (A0.aQ rfl rfl rfl oo) ?_;refine .p (A0.aH rfl ke km lm G.r2) ?_;refine Af.cn rfl (fun _=>rfl) G.r2 ?_;intro U he B8;replace D:=D.ext he;replace N:=N.ext he;replace G:=G.ext he;have A:=F.bf he;refine Nv ?_;refine St.sub (E':=[(25,.int .i64 k),(5,.pointer (some ⟨w1.heap.size,0,none⟩)),(6,.pointer (some ⟨w3.heap.size,0,none⟩)),(23,.slice (some ⟨bm,om,none⟩) (n+1) cm),(24,.int .i64 ((n+1:Nat):Int)),(8,.pointer (some ⟨E.heap.size,0,none⟩))]) ?_ AL;refine St.any Dv rfl ?_;intro Z a _ _;replace D:=D.ext a;replace N:=N.ext a;replace G:=G.ext a;replace B8:=B8.ext a;have ki:=A.bf a;refine WA.takes (fuel:=8) A8 kr (fun _ _ _ _ _ h=>h) [0,1,2,3] kr rfl ?_;refine WA.meet 4 #[true,true,true,true,true,true,true,true,false,false,false,false] (fun b':Nat=>[(25,.int .i64 k),(5,.pointer (some ⟨w1.heap.size,0,none⟩)),(6,.pointer (some ⟨w3.heap.size,0,none⟩)),(23,.slice (some ⟨bm,om,none⟩) (n+1) cm),(24,.int .i64 ((n+1:Nat):Int)),(29,.pointer (some ⟨w1.heap.size,0,none⟩)),(33,mv),(36,.slice (some ⟨b',0,none⟩) 1 1)]) (fun b' w'=>Ac Z w'/\Aj 2 w' b' [.int .i64 (AY f k)]) ?_ ?_
  ·rintro b' q ⟨c,kb⟩;have hp:=N.ext c;have hv:=D.ext c;have hs:=ki.bf c;refine WA.one (i:=8) kr (Ed.val rfl rfl rfl rfl (Av.dc hp (Gr (AY f k)) kb rfl rfl rfl rfl rfl rfl rfl (by rw[Ll];omega) rfl hs.size) ?_);rintro uo C ⟨M,hc,ug⟩;rw[S1]at M;have hq:CE w1.heap.size T C:=by
    rcases CB hp hc with hE | ⟨bb,CC,_,hbb,hBk,hU⟩
    ·exact hs.bf hE
    ·exact hs.aj hU hbb
   have L:Aj 218 C w1.heap.size [.int .i64 B,mv,.slice none 0 0,.slice (some ⟨w.heap.size,0,none⟩) n n]:=by
    rcases CB hp hc with hE | ⟨bb,CC,_,hbb,hBk,hU⟩
    ·exact hv.ext hE
    ·exact hv.upd hU oo
   obtain⟨ur,k8,ks⟩:=M.len;subst ks;refine WA.takes (fuel:=1) A8 kr (fun _ _ _ _ _ h=>h) [9,10] kr rfl ?_;refine WA.one (i:=11) kr (Ed.eff rfl rfl rfl (Av.store A8 (vs:=[_]) rfl rfl rfl rfl rfl L (by show 0+1+1<=4;decide) (by simp[Value.oneCell'])) ?_);rintro _ h9 ⟨hf,P⟩;refine WA.done kr ?_;refine Nv ?_;exact Ad.rnd AL ⟨hq.trans P,_,hf,M.aI P L de⟩
  ·intro meet;have ld:∀ {q:World},Ac Z q->q.cell? ⟨w1.heap.size,1,none⟩=some mv:=fun c=>(D.ext c).cell rfl;have sm:∀ {q:World},Ac Z q->Calls prog 187 #[um] q (AJ fun r w'=>Ac q w'/\r=.int .i64 (AY f k)):=fun c=>QT ((G.ext c).dn oo) oo;refine WA.two (i:=4) (j:=5) kr ?_ ?_
   ·refine Ed.val rfl rfl rfl rfl (A0.load A8 rfl rfl rfl (ld (Ac.refl _))).op ?_;rintro _ _ ⟨rfl,rfl⟩;refine WA.one (i:=5) kr (Ed.val rfl rfl rfl rfl (A0.cD rfl B8 G).op ?_);rintro _ _ ⟨rfl,rfl⟩;refine WA.one (i:=6) kr (Ed.val rfl rfl rfl rfl (Av.call Hz rfl (sm (Ac.refl _))) ?_);rintro _ q ⟨c,rfl⟩;refine WA.one (i:=7) kr (Ed.val rfl rfl rfl rfl (Av.aP (k:=1) rfl rfl rfl rfl rfl (Gr _)) ?_);rintro _ C ⟨rfl,J,t,_⟩;exact meet _ _ _ _ kr ⟨c.trans t,J⟩ AL
   ·refine Ed.val rfl rfl rfl rfl (A0.cD rfl B8 G).op ?_;rintro _ _ ⟨rfl,rfl⟩;refine WA.two (i:=4) (j:=6) kr ?_ ?_
    ·refine Ed.val rfl rfl rfl rfl (A0.load A8 rfl rfl rfl (ld (Ac.refl _))).op ?_;rintro _ _ ⟨rfl,rfl⟩;refine WA.one (i:=6) kr (Ed.val rfl rfl rfl rfl (Av.call Hz rfl (sm (Ac.refl _))) ?_);rintro _ q ⟨c,rfl⟩;refine WA.one (i:=7) kr (Ed.val rfl rfl rfl rfl (Av.aP (k:=1) rfl rfl rfl rfl rfl (Gr _)) ?_);rintro _ C ⟨rfl,J,t,_⟩;exact meet _ _ _ _ kr ⟨c.trans t,J⟩ AL
    ·refine Ed.val rfl rfl rfl rfl (Av.call Hz rfl (sm (Ac.refl _))) ?_;rintro _ q ⟨c,rfl⟩;refine WA.two (i:=4) (j:=7) kr ?_ ?_
     ·refine Ed.val rfl rfl rfl rfl (A0.load A8 rfl rfl rfl (ld c)).op ?_;rintro _ _ ⟨rfl,rfl⟩;refine WA.one (i:=7) kr (Ed.val rfl rfl rfl rfl (Av.aP (k:=1) rfl rfl rfl rfl rfl (Gr _)) ?_);rintro _ C ⟨rfl,J,t,_⟩;exact meet _ _ _ _ kr ⟨c.trans t,J⟩ AL
     ·refine Ed.val rfl rfl rfl rfl (Av.aP (k:=1) rfl rfl rfl rfl rfl (Gr _)) ?_;rintro _ C ⟨rfl,J,t,_⟩;refine WA.one (i:=4) kr (Ed.val rfl rfl rfl rfl (A0.load A8 rfl rfl rfl (ld (c.trans t))).op ?_);rintro _ _ ⟨rfl,rfl⟩;exact meet _ _ _ _ kr ⟨c.trans t,J⟩ AL
 ·rintro E ⟨F,mv,D,h3⟩;replace hg:=hg.upd F z de;replace B9:=B9.upd F kt;replace I:=I.upd F oo;have k2:Ac w E:=k1.aj F oo;have ub:=F.size;have kh:=h3.mono (show w.heap.size+1<=T.heap.size by omega);have ui:=h3;clear W F z;refine A7 ?_;refine .p FW ?_;refine A7 ?_;refine St.rng A8 (44) (0) (n) oo [(5,.pointer (some ⟨w1.heap.size,0,none⟩)),(42,.slice (some aS) n cs),(43,.int .i64 n)] (fun k w'=>CE w1.heap.size E w'/\∃ lv us,Aj 218 w' w1.heap.size [.int .i64 B,mv,lv,.slice (some ⟨w.heap.size,0,none⟩) n n]/\Aq 1 33 E.heap.size w' lv us/\us.length=k/\∀ (j:Nat) (u:Value),us[j]?=some u->Aq 1 2 E.heap.size w' u (Ii (n - 1 - j) (fun l=>CP f j 0 (l+1)))) AL ?_ (fun _=>⟨rfl,rfl⟩) (fun _=>rfl) (fun _=>⟨rfl,rfl⟩) rfl rfl oo ?_ ?_
  ·exact⟨CE.refl _ _,_,[],D,Aq.nil,rfl,fun j u d=>by simp at d⟩
  ·rintro k U hk ⟨A,lv,us,H,hl,K,Q⟩;obtain⟨aM,cM,b,o,cp,kk,kl,kn,hr,_,_,_⟩:=hg.upd A D de k hk;have h0:=A.size;refine Nv ?_;refine .p (A0.ia) ?_;refine .p (A0.load A8 rfl rfl rfl kk) ?_;refine A7 ?_;refine .p (A0.ia) ?_;refine .p (A0.load A8 rfl rfl rfl kl) ?_;refine .p (A0.bC A8 rfl rfl rfl rfl 1 rfl oo) ?_;obtain⟨m,hm⟩:∃ m,n - k=m+1:=⟨n - k - 1,by omega⟩;rw[hm]at hr kn;have hi:LCo U (.slice (if cp=1 then some (⟨b,o,none⟩:Addr) else (some (⟨b,o,none⟩:Addr)).map (·.add (1 * 2))) (n - k - 1) (cp - 1)) m (fun j=>CP f k 0 (j+1)):=by rw[show n - k - 1=m by omega];refine⟨⟨_,_,rfl⟩,fun uh=>⟨b,o+2,cp - 1,?_,hr.tl⟩⟩;rw[if_neg oo,LP,Ak]
   obtain⟨pt,ct,et⟩:=hi.1;rw[et]at hi ⊢;refine A7 ?_;refine St.rngG A8 (53) (0) (m) oo (fun g:Value=>[(44,.int .i64 k),(5,.pointer (some ⟨w1.heap.size,0,none⟩)),(42,.slice (some aS) n cs),(43,.int .i64 n),(11,g),(51,.slice pt m ct),(52,.int .i64 m)]) (fun j g w'=>Ac U w'/\Aq 1 2 U.heap.size w' g (Ii j (fun l=>CP f k 0 (l+1)))) (.slice none 0 0) AL ?_ (fun _ _=>⟨rfl,rfl⟩) (fun _ _=>rfl) (fun _ _=>⟨rfl,rfl⟩) (fun _=>rfl) (fun _=>rfl) oo ?_ ?_
   ·exact⟨Ac.refl _,Aq.nil⟩
   ·rintro j S Z d ⟨a,ha⟩;obtain⟨b',o',ua,kd,kx⟩:=(hi.ext a).2 oo;cases kd;obtain⟨uu,ee,CC,hb,kf,ku,lu⟩:=kx.at d;have ul:=kz k hk 0 (j+1) oo oo;have uc:=V.st X.2 (show k<=n by omega) (i:=0) (j:=j+1) oo oo;refine Nv ?_;refine .p (A0.aQ rfl rfl rfl oo) ?_;refine .p (A0.aH rfl kf ku lu hb.r2) ?_;refine Af.cn rfl (fun _=>rfl) hb.r2 ?_;intro q c ka;refine A7 ?_;refine .p (A0.cD rfl ka hb) ?_;refine .s (Av.call Hz rfl (QT ((hb.ext c).dn oo) oo)) ?_;rintro _ C ⟨t,rfl⟩;refine Af.aZ ((ha.ext c).ext t) (Gr _) rfl rfl rfl rfl rfl rfl (fun _=>rfl) rfl rfl (by rw[Ll];omega) rfl ((a.trans c).trans t).size ?_;intro up k6 h9 h1 kj _ _ _;rw[S1 (g:=fun l=>CP f k 0 (l+1))]at h1;refine A7 ?_;exact Ad.aO k6 AL ⟨kj U ((a.trans c).trans t) AO,h1⟩
   ·rintro S Z ⟨a,ha⟩;obtain⟨pr,cr,er⟩:=ha.len;have h4:Y1 1 S:=.inl ⟨rfl,by rw[er];rfl,by rw[er];rfl⟩;replace H:=H.ext a;refine A7 ?_;refine .p FW ?_;refine .r rfl ?_;refine .s (Av.aP (k:=1) rfl rfl rfl rfl rfl h4) ?_;rintro _ q ⟨rfl,kc,c,_⟩;have Y:=a.trans c;have h2:=hl.ext Y;refine .s (Av.dc h2 h4 kc rfl rfl rfl rfl rfl rfl rfl oo rfl (by have:=Y.size;omega)) ?_;rintro un C ⟨M,hc,_⟩;replace H:=H.ext c;have kw:Aq 1 2 E.heap.size q S (Ii (n - 1 - k) (fun l=>CP f k 0 (l+1))):=by rw[show n - 1 - k=m by omega];exact (ha.mono h0).ext c
    have h6:∀ (j:Nat) (u:Value),(us++[S])[j]?=some u->Aq 1 2 E.heap.size q u (Ii (n - 1 - j) (fun l=>CP f j 0 (l+1))):=by
     intro j u d;by_cases kp:j<us.length
     ·rw[BM kp]at d;exact (Q j u d).ext Y
     ·have ko:j=us.length:=by have:=(Au.1 d).1;simp at this;omega
      subst ko;simp at d;subst d;rw[K];exact kw
    obtain⟨hq,L,k0⟩:CE w1.heap.size E C/\Aj 218 C w1.heap.size [.int .i64 B,mv,lv,.slice (some ⟨w.heap.size,0,none⟩) n n]/\∀ (j:Nat) (u:Value),(us++[S])[j]?=some u->Aq 1 2 E.heap.size C u (Ii (n - 1 - j) (fun l=>CP f j 0 (l+1))):=by
     rcases CB h2 hc with hE | ⟨bb,CC,_,hbb,hBk,hU⟩
     ·exact⟨(A.bf Y).bf hE,H.ext hE,fun j u d=>(h6 j u d).ext hE⟩
     ·exact⟨(A.bf Y).aj hU hbb,H.upd hU oo,fun j u d=>(h6 j u d).aI hU hBk de⟩
    obtain⟨uq,k7,kq⟩:=M.len;subst kq;refine A7 ?_;refine Af.step0 rfl rfl (Av.store A8 (vs:=[_]) rfl rfl rfl rfl rfl L (by show 0+2+1<=4;decide) (by simp[Value.oneCell'])) ?_;rintro _ h9 ⟨hf,P⟩;refine Nv ?_;exact Ad.rnd AL ⟨hq.trans P,_,us++[S],hf,M.aI P L de,by simp;omega,fun j u d=>(k0 j u d).aI P L de⟩
  ·rintro U ⟨A,lv,us,H,hl,K,Q⟩;have h0:=A.size;refine A7 ?_;refine Ad.ax rfl rfl ⟨k2.aj A oo,_,_,rfl,Ai _,⟨by omega,mv,lv,us,H,?_,hl.mono oo,K,fun j u d=>(Q j u d).mono oo⟩,I.upd A oo⟩;exact kh.aI A D de
variable {o:Oper}{l rest:List Oper}{id L:Nat}
abbrev wR (ro:Option Nat):Fence:={ Fence.wide with round:=ro }
def HI:List Oper->Bool
 | []=>true
 | o::r=>(match o.op with | .defer _=>false | _=>true) && HI r
section
variable {P:Program}{T:List (Nat×TI)}{n m:Nat}{E:List (Nat×Value)}{w:World}{Q:Exit->Act->World->Prop}{s:Prop}{ro:Option Nat}{ops:Array Oper}
theorem A8n {a:Act}{K:Act->World->Prop}(g:∀ c,o.op≠.defer c) (h:o.wp P a w K Q):o.wpIn (wR ro) m P a w K Q:=by
 refine⟨fun _ _=>trivial,?_⟩;rw[Oper.semAt_eq _ _ _ g];unfold Oper.wp at h;generalize (execOp a.eval o).run P w=r at h;cases r with
 | ok x w' =>
  cases x with
  | value v=>exact h
  | skip=>exact h
  | defer d=>exact h
  | enter f args=>exact⟨fun e=>by simp[Fence.wide]at e,callsIn_wide.2 h⟩
  | row r args=>exact⟨fun e=>by simp[Fence.wide]at e,fun c cs _=>by obtain⟨v,w',hv,j⟩:=h c cs;exact⟨v,w',hv,stepsIn_wide.2 j⟩⟩
  | _=>exact h.elim
 | halt x w'=>cases x <;> exact h
theorem A5r {a:Act}{K K':Act->World->Prop}(c:∀ a w,K a w->K' a w) (h:o.wp P a w K Q):o.wp P a w K' Q:=by
 unfold Oper.wp at *
 generalize (execOp a.eval o).run P w=r at *
 cases r with
 | ok x w' =>
  cases x with
  | value v=>exact c _ _ h
  | skip=>exact c _ _ h
  | defer d=>exact c _ _ h
  | enter f args=>exact Calls.mono h (fun e w'' g=>by cases e <;> first | exact c _ _ g | exact g)
  | row r args=>exact Rows.mono h (fun _ _ g=>c _ _ g)
  | _=>exact h
 | halt x w'=>cases x <;> exact h
theorem Yw (d:¬ LetsOut Q):∀ (l:List Oper) (a:Act) (w:World),HI l=true->wpList P ops Q l a w->wpListIn (wR ro) m P ops Q l a w
 | [],a,w,_,h=>h
 | o::r,a,w,hn,h=>by
  simp only[HI,Et]at hn;unfold wpList at h;unfold wpListIn;split
  ·rename_i g;rw[if_pos g]at h;rcases h with h | h
   ·refine A8n (fun c e=>?_) (A5r (fun a w j=>Yw d r a w hn.2 j) h);rw[e]at hn;exact absurd hn.1 sm
   ·exact absurd h.2 d
  ·rename_i g;rw[if_neg g]at h;exact⟨fun _ _=>trivial,Yw d r _ w hn.2 h⟩
def StY (P:Program) (n:Nat) (E:List (Nat×Value)) (w:World) (ops:Array Oper) (l:List Oper) (Q:Exit->Act->World->Prop):Prop:=∀ a,DM n E a->wpListIn (wR none) 0 P ops Q l a w
theorem St.regionY (h:StY P n E w l.toArray l Q):St P n E w (.region id l.toArray false) Q:=fun a c=>wpIn_wide.1 (wpIn_region_lit (F:=Fence.wide) (n:=0) (h a c))
theorem S2 {l2:List Oper}(g:¬ LetsOut Q):∀ (l:List Oper) (a:Act) (w:World),HI l=true->wpList P ops (Exit.then (fun a w=>wpListIn (wR ro) m P ops Q l2 a w) Q) l a w->wpListIn (wR ro) m P ops Q (l++l2) a w
 | [],a,w,_,h=>h
 | o::r,a,w,hn,h=>by
  simp only[HI,Et]at hn;unfold wpList at h;show wpListIn (wR ro) m P ops Q (o::(r++l2)) a w;unfold wpListIn;split
  ·rename_i j;rw[if_pos j]at h;rcases h with h | h
   ·refine A8n (fun c e=>?_) ?_
    ·rw[e]at hn;exact absurd hn.1 sm
    ·have d:=A5r (fun a w k=>S2 g r a w hn.2 k) h;unfold Oper.wp at d ⊢;generalize (execOp a.eval o).run P w=r at *
     cases r with
     | ok x w'=>cases x <;> exact d
     | halt x w'=>cases x <;> exact d
   ·exact absurd h.2 g
  ·rename_i j;rw[if_neg j]at h;exact⟨fun _ _=>trivial,S2 g r _ w hn.2 h⟩
theorem St.yieldAt (k:Nat) (c:¬ LetsOut Q) (e:HI (l.take k)=true)
  (h:Af P n E w l.toArray (l.take k) (Exit.then (fun a w=>wpListIn (wR none) 0 P l.toArray Q (l.drop k) a w) Q)):St P n E w (.region id l.toArray false) Q:=by refine St.regionY fun a d=>?_;have:=S2 (l2:=l.drop k) c (l.take k) a w e (h a d);rwa [Kh]at this
abbrev Fg (r:Loop) (vs:List Value):Array Value:=(r.params.zip vs.toArray).foldl (fun t (p,v)=>t.setIfInBounds p v) r.tmps
theorem Ad.yield {r:Loop}{d:Nat}{pos:String}{Ψ:Bool->World->Prop}
  (f:ov E x=some (.func (.yield L) #[] #[])) (l:Z3 E args.toList=some vs) (j:w.heap[L]?=some (.loop r)) (t:vs.length=r.params.size) (o:Nat.blt d n=true) (k:¬ LetsOut Q) (v:HI rest=true)
  (y:RoundIn (wR none) 0 P L r.fn (Fg r vs) r.assign r.body w (fun e w2=>∃ b,e=.returned (.bool b)/\Ψ b w2)) (next:∀ b w2,Ψ b w2->Af P n ((d,.bool b)::E) w2 ops rest Q) :
  Ad n E w .normal (Exit.then (fun a w=>wpListIn (wR none) 0 P ops Q (⟨some d,.call ⟨.value x,args,tys⟩,ty,pos,af,none⟩::rest) a w) Q):=by
 intro a c;show wpListIn (wR none) 0 P ops Q (⟨some d,.call ⟨.value x,args,tys⟩,ty,pos,af,none⟩::rest) a w;unfold wpListIn;rw[if_pos (by simp[Region.wanted])];refine⟨fun _ _=>trivial,?_⟩;have u:=LX c _ _ l;have g:args.map a.eval=vs.toArray:=by rw[<- u];apply LD.1;simp
 have q:=c.eval f;have z:(Oper.semAt (wR none).round a.eval ⟨some d,.call ⟨.value x,args,tys⟩,ty,pos,af,none⟩).run P w=.ok (.round L r.fn (Fg r vs) r.assign r.body) w:=by show (execOp a.eval ⟨some d,.call ⟨.value x,args,tys⟩,ty,pos,af,none⟩).run P w=_;simp only[execOp,resolve,q,Deferred.ofValue,g,Bq,AX,Bp,invoke];rw[show (#[]:Array Value)++vs.toArray=vs.toArray from by simp];exact run_yield j t
 rw[z];refine⟨fun e=>by simp[Fence.wide]at e,RoundIn.mono y ?_⟩;rintro e w2 ⟨b,rfl,m⟩;exact Yw k rest _ w2 v (next b w2 m _ (c.put o _))
def MH (P:Program) (n L:Nat) (E:List (Nat×Value)) (w:World) (c:Code) (Q:Exit->Act->World->Prop):Prop:=∀ a,DM n E a->c.wpIn (wR (some L)) 0 P Q a w
theorem MH.seq {x y:Code}(h:MH P n L E w x (Exit.then (y.wpIn (wR (some L)) 0 P Q) Q)):MH P n L E w (.seq x y) Q:=fun a c=>wpIn_seq (h a c)
theorem MH.region (c:¬ LetsOut Q) (e:HI l=true) (h:Af P n E w l.toArray l Q):MH P n L E w (.region id l.toArray false) Q:=fun a d=>wpIn_region_lit (Yw c l a w e (h a d))
theorem MH.ret (h:Ad n E w .ret Q):MH P n L E w .ret Q:=fun a c=>wpIn_ret (h a c)
theorem MH.skip (h:Ad n E w .normal Q):MH P n L E w .skip Q:=fun a c=>wpIn_skip (h a c)
theorem MH.block {c:Code}(h:MH P n L E w c (Exit.inBlock id Q)):MH P n L E w (.block id c) Q:=fun a d=>wpIn_block (h a d)
theorem MH.aD {c:Operand}{x y:Code}(e:ov E c=some (.bool true)) (g:MH P n L E w x Q):MH P n L E w (.cond c x y) Q:=fun a d=>wpIn_cond_true (d.eval e) (g a d)
theorem MH.ay {c:Operand}{x y:Code}(e:ov E c=some (.bool false)) (g:MH P n L E w y Q):MH P n L E w (.cond c x y) Q:=fun a d=>wpIn_cond_false (d.eval e) (g a d)
theorem Ad.cB {y:Code}(h:MH P n L E w y Q):Ad n E w .normal (Exit.then (y.wpIn (wR (some L)) 0 P Q) Q):=h
abbrev A2C (st:LoopState) (pe:Option Code) (fn:FuncId) (tmps:Array Value) (ps:Array Tmp) (assign body:Code) (D:Nat):Loop:={ state:=st,pending:=pe,fn,tmps,params:=ps,assign,body,defers:=D }
theorem A5s {r:Loop}{R:Ending->World->Prop}{E1:List (Nat×Value)}
  (j:DM n E { tmps:=Fg r vs,defers:=[] }) (g:w.heap[L]?=some (.loop r)) (m:r.state=.ready)
  (k:MH P n L E w r.assign (Exit.then (fun a1 w1=>DM n E1 a1/\w1=w) (fun _ _ _=>False)))
  (l:MH P n L E1 (w.putObj L (.loop { r with state:=.busy })) r.body (roundPost P L R)):RoundIn (wR none) 0 P L r.fn (Fg r vs) r.assign r.body w R:=by
 refine roundIn_of_wpIn (F:=wR none) trivial ?_;refine wpIn_mono (k _ j) ?_;intro e a1 w1 c;cases e with
 | normal =>
  obtain⟨d,rfl⟩:=c;exact⟨_,run_beginRound g m,l a1 d⟩
 | _=>exact c
theorem A1N {a:Act}{r:Loop}{p1 p2:Nat}{v1 v2:Value}(c:DM n E a) (k:r.tmps=a.tmps) (j:r.params=#[p1,p2]) (d:Nat.blt p1 n=true) (g:Nat.blt p2 n=true):DM n ((p2,v2)::(p1,v1)::E) { tmps:=Fg r [v1,v2],defers:=[] }:=by
 have e:({ tmps:=Fg r [v1,v2],defers:=[] }:Act)=(a.put (some p1) v1).put (some p2) v2:=by unfold Fg Act.put;rw[k,j,<- c.defers];simp
 rw[e];exact (c.put d v1).put g v2
abbrev SJ (D:Nat) (a:Act):Act:={ a with defers:=a.defers++[{ target:=.collected D,args:=#[] }] }
theorem St.rangeFunc {g:Operand}{ps:Array Tmp}{assign body:Code}{gf:FuncId}(j:Oy P gf fn) {fs:Array Value}(t:ov E g=some (.func (.func gf) fs #[]))
  (h:∀ (a:Act) (fi:FuncId) (rec:Loop),DM n E a->rec=A2C .ready none fi a.tmps ps assign body w.heap.size->Calls P gf (fs++#[.func (.yield (w.heap.size+1)) #[] #[]]++#[]) ((w.alloc (.deferred (some []))).alloc (.loop rec))
   (AJ fun _ w3=>∃ r3,w3.heap[w.heap.size+1]?=some (.loop r3)/\r3.state≠.busy/\((r3.pending=none/\Q .normal (SJ w.heap.size a) (w3.putObj (w.heap.size+1) (.loop { r3 with state:=.exhausted })))\/(r3.pending=some .ret/\Q .ret (SJ w.heap.size a) (w3.putObj (w.heap.size+1) (.loop { r3 with state:=.exhausted })))))) :
  St P n E w (.rangeFunc g ps assign body) Q:=by
 intro a k;have z:=k.eval t;have b:({ a with defers:=[{ target:=.collected w.heap.size,args:=#[] }]++a.defers }:Act)=SJ w.heap.size a:=by unfold SJ;rw[k.defers];rfl
 refine wpIn_wide.1 (wpIn_rangeFunc (F:=Fence.wide) (n:=0) ?_);intro fi _;obtain⟨w1,m⟩:∃ w1,w1=(w.alloc (.deferred (some []))).alloc (.loop (A2C .ready none fi a.tmps ps assign body w.heap.size)):=⟨_,rfl⟩;have o:(Instr.enterLoop fi a.tmps ps assign body Fence.wide.round).run P w=.ok (w.heap.size+1,[{ target:=.collected w.heap.size,args:=#[] }]) w1:=by rw[m];exact run_enterLoop_outer fi a.tmps ps assign body
 have q:(resolve a.eval (rangeCall g (w.heap.size+1)) 0).run P w1=.ok { target:=.fn (.func gf) #[],args:=fs++#[.func (.yield (w.heap.size+1)) #[] #[]] } w1:=by
  simp only[rangeCall,resolve,z,Deferred.ofValue,AX];have e:Array.map a.eval #[Operand.const (.func (.yield (w.heap.size+1)) #[] #[])]=#[.func (.yield (w.heap.size+1)) #[] #[]]:=by simp[Act.eval]
  rw[e]
 have r:(invoke (.fn (.func gf) #[]) (fs++#[.func (.yield (w.heap.size+1)) #[] #[]])).run P w1=.ok (.enter gf (fs++#[.func (.yield (w.heap.size+1)) #[] #[]]++#[])) w1:=by
  have c:(program).run P w1=.ok P w1:=by simp[go_sem]
  simp only[invoke,callFunc,Bq,c,Bp,j.func,j.name,j.body,Hg,if_false,AX]
 have l:=h a fi _ k rfl;rw[<- m]at l;refine⟨_,_,w1,_,w1,gf,_,w1,o,q,fun _ _=>trivial,r,fun e=>by simp[Fence.wide]at e,callsIn_wide.2 (l.mono ?_)⟩;rintro e w3 ⟨v,rfl,r3,u,y,d⟩;rw[b];refine⟨r3.pending,_,run_endLoop u y,?_⟩;rcases d with ⟨c,d⟩ | ⟨c,d⟩
 ·cases r3;simp only at c;subst c;exact d
 ·cases r3;simp only at c;subst c;exact wpIn_ret d
theorem Yx {f:FuncId}{c:Code}{args:List Value}
  (g:P.funcs[f]?=some fn) (e:fn.body=some c) (o:fn.ntmps=n) (l:Nat.ble args.length n=true)
  (h:St P n (GI 0 args) w c (bodyPostM Fence.wide 0 P fn (AJ Φ))):Calls P f args.toArray w (AJ Φ):=by
 refine callsIn_wide.1 (callsIn_of_wp_marks (F:=Fence.wide) (n:=0) g e trivial (wpIn_wide.2 (h _ ⟨?_,rfl,?_⟩)))
 ·have:=Jr l;simp[o];omega
 ·intro k v j;obtain⟨_,d⟩:=MN args 0 k v j;simp only[PT]at d;have m:k<args.length:=(Au.1 d).1;rw[Array.getElem?_append_left (by simpa using m)];simpa using d
theorem Ad.bS (h:Ad n E w .ret (bodyPost P fn (AJ Φ))):Ad n E w .ret (bodyPostM Fence.wide 0 P fn (AJ Φ)):=by intro a d;obtain⟨e,v,hv,c⟩:=h a d;show LeavesInM Fence.wide 0 P fn a.tmps (AJ Φ) a.defers .returning w;rw[e];exact⟨v,hv,c⟩
theorem VC {D:Nat}{a:Act}(e:DM n E a) (c:w.heap[D]?=some (.deferred (some []))) (h:Ad n E (w.putObj D (.deferred none)) .ret (bodyPost P fn (AJ Φ))):bodyPostM Fence.wide 0 P fn (AJ Φ) .ret (SJ D a) w:=by obtain⟨g,v,hv,d⟩:=h a e;show LeavesInM Fence.wide 0 P fn a.tmps (AJ Φ) (a.defers++_) .returning w;rw[g];exact⟨by simp,.inl ⟨D,_,rfl,run_takeDeferred c,v,hv,d⟩⟩
theorem A8o:¬ LetsOut (bodyPostM Fence.wide 0 P fn (AJ Φ)):=by rintro⟨a,w,v,h,_⟩;cases h
theorem A7L:¬ LetsOut (bodyPost P fn (AJ Φ)):=by rintro⟨a,w,v,h,_⟩;cases h
theorem Ij {K:Act->World->Prop}(h:¬ LetsOut Q):¬ LetsOut (Exit.then K Q):=h
theorem Ik (h:¬ LetsOut Q):¬ LetsOut (Exit.inBlock id Q):=h
theorem K9 {R:Ending->World->Prop}:¬ LetsOut (roundPost P L R):=fun ⟨_,_,h⟩=>h
theorem Ka {D:Nat}:∀ (l:List Oper) (a:Act) (w:World),wpList P ops (fun e a w=>Q e (SJ D a) w) l a w->HI l=true->¬ LetsOut Q->wpList P ops Q l (SJ D a) w
 | [],a,w,h,_,_=>h
 | o::r,a,w,h,hn,hQ=>by
  simp only[HI,Et]at hn;unfold wpList at h ⊢;have ew:Region.wanted o (yielded ops (SJ D a).tmps)=Region.wanted o (yielded ops a.tmps):=rfl;rw[ew];split
  ·rename_i k;rw[if_pos k]at h;rcases h with h | h
   ·left;unfold Oper.wp at h ⊢;have ee:(SJ D a).eval=a.eval:=rfl;rw[ee];have g:∀ v,(SJ D a).put o.dst v=SJ D (a.put o.dst v):=by intro v;cases o.dst <;> rfl
    generalize q:(execOp a.eval o).run P w=r0 at h;cases r0 with
    | ok x w' =>
     cases x with
     | value v=>show wpList P ops Q r ((SJ D a).put o.dst v) w';rw[g];exact Ka r _ _ h hn.2 hQ
     | skip=>show wpList P ops Q r ((SJ D a).put o.dst undef) w';rw[g];exact Ka r _ _ h hn.2 hQ
     | defer d =>
      have m:({ SJ D a with defers:=d::(SJ D a).defers }:Act).put o.dst undef=SJ D (({ a with defers:=d::a.defers }:Act).put o.dst undef):=by cases o.dst <;> rfl
      show wpList P ops Q r (({ SJ D a with defers:=d::(SJ D a).defers }:Act).put o.dst undef) w';rw[m];exact Ka r _ _ h hn.2 hQ
     | enter f args =>
      refine Calls.mono h (fun e w'' j=>?_);cases e with
      | returned v=>show wpList P ops Q r ((SJ D a).put o.dst v) w'';rw[g];exact Ka r _ _ j hn.2 hQ
      | panicked c=>exact j
      | outgrown=>exact absurd j (fun ⟨a,w,h⟩=>hQ ⟨_,w,h⟩)
     | row rr args =>
      refine Rows.mono h (fun v w'' j=>?_);show wpList P ops Q r ((SJ D a).put o.dst v) w'';rw[g];exact Ka r _ _ j hn.2 hQ
     | _=>exact h
    | halt x w'=>cases x <;> exact h
   ·exact absurd h.2 (fun ⟨a,w,h⟩=>hQ ⟨_,w,h⟩)
  ·rename_i k;rw[if_neg k]at h;have g:(SJ D a).put o.dst undef=SJ D (a.put o.dst undef):=by cases o.dst <;> rfl
   rw[g];exact Ka r _ _ h hn.2 hQ
end
def SK (bx:Nat) (wM w:World):Prop:=wM.heap.size<=w.heap.size/\∀ j,bx<j->j<wM.heap.size->w.heap[j]?=wM.heap[j]?
theorem Aq.eC {wM w:World}{v:Value}(h:Aq k e (bx+1) wM v us) (c:SK bx wM w):Aq k e (bx+1) w v us:=by
 refine⟨h.1,?_⟩;rcases h.2 with h1 | ⟨g,cap,D,hv,hb,hB,h2⟩
 ·exact .inl h1
 ·exact .inr ⟨g,cap,D,hv,hb,(c.2 g oo hB.lt).trans hB,h2⟩
theorem WkV.keep {bw:Nat}{wM w:World}(h:WkV wM bw bx n f B) (c:SK bx wM w):WkV w bw bx n f B:=by obtain⟨d,mv,lv,us,e,g,j,l,m⟩:=h;exact⟨d,mv,lv,us,(c.2 bw d e.lt).trans e,g.eC c,j.eC c,l,fun k u hu=>(m k u hu).eC c⟩
theorem QU {g:Nat->Int}(d:j<c):(Ii c g)[j]?=some (.int .i64 (g j)):=by simp[Ii,d]
theorem Aq.eD {w:World}{v:Value}{g:Nat->Int}(h:Aq 1 e base w v (Ii c g)) (l:0<c):∃ a cap,v=.slice (some a) c cap/\∀ j,j<c->w.cell? (a.add j)=some (.int .i64 (g j)):=by have k:=h.row (fun u hu=>by simp[Ii]at hu;obtain⟨_,_,rfl⟩:=hu;rfl);obtain⟨a,cap,hv,_⟩:=k.get (QU l);rw[Ll]at hv;refine⟨a,cap,hv,fun j o=>?_⟩;obtain⟨a',cap',d,m⟩:=k.get (QU o);rw[hv,Ll]at d;simp only[Ci,AP]at d;obtain⟨rfl,_,_⟩:=d;exact m
theorem WkV.open {bw:Nat}{w:World}(h:WkV w bw bx n f B) (J:1<=n):∃ am l al g,Aj 218 w bw [.int .i64 B,.slice (some am) (n+1) l,.slice (some al) n g,.slice (some ⟨bx,0,none⟩) n n] /\
  (∀ j,j<n+1->w.cell? (am.add j)=some (.int .i64 (AY f j)))/\∀ k,k<n->∃ pr m,w.cell? (al.add k)=some (.slice pr (n - 1 - k) m)/\(0<n - 1 - k->∃ d,pr=some d/\∀ j,j<n - 1 - k->w.cell? (d.add j)=some (.int .i64 (CP f k 0 (j+1)))):=by
 obtain⟨H,mv,lv,us,t,a,b,q,r⟩:=h;obtain⟨am,l,rfl,C⟩:=a.eD oo;have E:∀ u ∈ us,u.cells=#[u]:=fun u hu=>by obtain⟨i,A⟩:=Cx.1 hu;obtain⟨p,c,e⟩:=(r i u A).len;rw[e];rfl
 have z:=b.row E;have F:us[0]?=some (us[0]'oo):=by simp
 obtain⟨al,g,hv,_⟩:=z.get F;rw[q]at hv;subst hv;refine⟨am,l,al,g,t,C,fun k I=>?_⟩;have y:us[k]?=some (us[k]'oo):=by simp
 obtain⟨a',c',e',x⟩:=z.get y;rw[q]at e';simp only[Ci,AP]at e';obtain⟨rfl,_,_⟩:=e';have v:=r k _ y;obtain⟨pr,m,er⟩:=v.len;rw[Ll]at er;refine⟨pr,m,by rw[x,er],fun D=>?_⟩;obtain⟨d,G,o,s⟩:=v.eD D;rw[er]at o;simp only[Ci]at o;exact⟨d,o.1,s⟩
structure Yc (bx hi L:Nat) (I:Int×List Int->World->Prop) (X:World->Prop) (n:Nat):Prop where
 stable:∀ s w w',I s w->CE bx w w'->I s w'
 round:∀ s w (m:Nat) (c:Int),I s w->m<n->0<=c->c<=4611686018427387904->hi<=w.heap.size->∃ r,w.heap[L]?=some (.loop r)/\r.params.size=2 /\
  RoundIn (wR none) 0 prog L r.fn (Fg r [.int .i64 ((m+1:Nat):Int),.int .i64 c]) r.assign r.body w (fun e w2=>∃ b,e=.returned (.bool b)/\(∀ j,bx<=j->j<hi->w2.heap[j]?=w.heap[j]?)/\w.heap.size<=w2.heap.size/\(s.1<c->b=false/\X w2)/\(¬ s.1<c->b=true/\I (s.1 - c,GZ s.2 m c) w2))
section
variable (bw bx n L:Nat)(f:Nat->Nat->Int)(B:Int)(wM:World)(I:Int×List Int->World->Prop)(X:World->Prop)
def Yy (k:Nat):Prop:=∀ (xs:List Int) (s:Int×List Int) (w:World),SK bx wM w->Aj 2 w bx (xs.map DZ)->xs.length=n->I s w->0<=HO f n B (xs.drop (k+1)) ->
 Calls prog 189 #[.pointer (some ⟨bw,0,none⟩),.int .i64 k,.int .i64 (HO f n B (xs.drop (k+1))),.func (.yield L) #[] #[]] w (AJ fun x w' =>
  (Dh f n B (k+1) (xs.drop (k+1)) s=none->x=.bool false/\X w')/\∀ s',Dh f n B (k+1) (xs.drop (k+1)) s=some s'->x=.bool true/\I s' w'/\SK bx wM w'/\∃ xs':List Int,Aj 2 w' bx (xs'.map DZ)/\xs'.length=n/\xs'.drop (k+1)=xs.drop (k+1))
end
theorem Lm {a d M:Int}(c:0<d) (h:-M<=a/\a<=M):-M<=a / d/\a / d<=M:=by
 have e:0<=M:=by omega
 have g:=J8 (show 1<=d by omega) e;constructor
 ·refine (U4 c).2 ?_;rw[Jv];omega
 ·exact Int.ediv_le_of_le_mul c oo
theorem QV {M:Int}{g:Nat->Int}:∀ (i:Nat),(∀ j,j<i->-M<=g j/\g j<=M)->-((i:Int) * M)<=Ay i g/\Ay i g<=(i:Int) * M
 | 0,_=>by simp[Ay]
 | i+1,h=>by have ih:=QV i (fun j d=>h j oo);have c:=h i oo;show _<=Ay i g+g i/\Ay i g+g i<=_;rw[show ((i+1:Nat):Int) * M=(i:Int) * M+M from by rw[TW,Int.add_mul];simp];omega
theorem PL (j:Nat) (x:Int) (s:Int×List Int):Li (fun _ s=>some s) j x s=some s:=by
 induction j generalizing x with
 | zero=>rfl
 | succ j ih=>exact ih (x+1)
theorem QW {xs:List Int}(c:k<xs.length) (x:Int):(xs.set k x).drop k=x::xs.drop (k+1):=by rw[List.drop_set,if_neg oo,J6,ED c];rfl
theorem VD {bw:Nat}{wM:World}{I:Int×List Int->World->Prop}{X:World->Prop}(e:BQ n f) (o:1<=n/\n<=8) (hB:0<=B/\B<1073741824) (K:WkV wM bw bx n f B) (hY:Yc bx wM.heap.size L I X n)
 (hk:k<n) (ih:∀ k',k=k'+1->Yy bw bx n L f B wM I X k'):Yy bw bx n L f B wM I X k:=by
 intro xs s w C hX hx hI S;obtain⟨ys,A⟩:∃ ys,ys=xs.drop (k+1):=⟨_,rfl⟩;have k0:ys.length=n - 1 - k:=by rw[A,Jy];omega
 rw[<- A]at S ⊢;have D:n - ys.length=k+1:=by omega
 have hg:n - ys.length - 1=k:=by omega
 have E:=e.aW o.2 (show k+1<=n by omega);have uc:=e.aW o.2 (show k<=n by omega);have ul:=NC e o.2 (ys:=ys) oo hB.1;have kr:0<=GH f n B ys:=(HG e B).1 S;have ua:=FR e o.2 (R:=2147483648) hB.1 oo ys oo S;have kl:(2:Nat) ^ ys.length<=2 ^ 8:=DB de oo;have k8:aS ys<=549755813888:=by
  have:=HV 2147483648 kl;have e8:(2:Nat) ^ 8=256:=by decide
  omega
 have kg:=QQ e (show ys.length<n by omega);rw[D]at kg;have ug:-18014398509481984<=DG f n ys/\DG f n ys<=18014398509481984:=by have:=O2 (show AY f (k+1)<=65536 by omega) (show (aS ys:Int)<=549755813888 by omega) oo oo;omega
 obtain⟨r,z⟩:∃ r,r=Jo (GH f n B ys).natAbs:=⟨_,rfl⟩;have ko:EW (GH f n B ys).natAbs r:=by rw[z];exact EI _
 have uk:r<=2147483648:=by have l:=(Lh ko r).1 oo;have m:=QS (u:=r) (R:=2147483648) oo oo;omega
 have ki:Cc f n B ys=-(((r:Int)+DG f n ys) / AY f (k+1)):=by unfold Cc Mi;rw[<- z,D,NW]
 have kc:Ct f n B ys=((r:Int) - DG f n ys) / AY f (k+1):=by unfold Ct Mj;rw[<- z,D]
 have k3:=Lm (a:=(r:Int)+DG f n ys) (d:=AY f (k+1)) (M:=18014400656965632) E.1 oo;have k2:=Lm (a:=(r:Int) - DG f n ys) (d:=AY f (k+1)) (M:=18014400656965632) E.1 oo;have kd:=Xc e (ys:=ys) (r:=r);have ke:Cc f n B ys<=Ct f n B ys+1:=by unfold Cc Ct;rw[<- z];exact kd
 obtain⟨am,cm,al,cl,k6,ho,kf⟩:=(K.keep C).open o.1;obtain⟨pr,cr,hf,hp⟩:=kf k hk;rw[<- k0]at hf hp;refine cS func189 ntmps189 ?_;refine A7 ?_;refine .p FW ?_;refine .r rfl ?_;refine .a 2 (.int .i64 ((k+1:Nat):Int)) rfl (Bv oo) ?_;refine .p (A0.ia) ?_;refine .p (A0.load A8 rfl rfl rfl (ho (k+1) oo)) ?_;refine A7 ?_;refine .p FW ?_;refine .r rfl ?_;refine .p (A0.ia) ?_;refine .p (rL hf) ?_;refine A7 ?_;refine sG (35) (0) (ys.length) (fun g:Int=>[(0,.pointer (some ⟨bw,0,none⟩)),(1,.int .i64 k),(2,.int .i64 (HO f n B ys)),(3,.func (.yield L) #[] #[]),(9,.int .i64 (AY f (k+1))),(10,.int .i64 g),(33,.slice pr ys.length cr),(34,.int .i64 ys.length)]) (fun i g w'=>w'=w/\g=Ay i (fun j=>CP f k 0 (j+1) * yv ys j)) (0) ?_ ?_ ?_
 ·exact⟨rfl,rfl⟩
 ·rintro i g w1 hi ⟨rfl,rfl⟩;obtain⟨ar,rfl,ka⟩:=hp oo;have kz:(xs.map DZ)[k+1+i]?=some (.int .i64 (yv ys i)):=by
   have l:(xs.drop (k+1))[i]?=some (yv ys i):=by rw[<- A];unfold yv;rw[Bd,DH hi];rfl
   rw[Jt]at l;simp[l]
  have um:=QP e (k:=k) (j:=i) oo;have k9:=Vx ys i;have ui:=Fx (x:=CP f k 0 (i+1)) (y:=yv ys i) (a:=32768) (b:=549755813888) oo oo;have uj:=QV (M:=18014398509481984) (g:=fun j=>CP f k 0 (j+1) * yv ys j) i (fun j hj=>by have l:=QP e (k:=k) (j:=j) oo;have m:=Vx ys j;have h3:=Fx (x:=CP f k 0 (j+1)) (y:=yv ys j) (a:=32768) (b:=549755813888) oo oo;omega)
  have uf:(i:Int) * 18014398509481984<=8 * 18014398509481984:=Jz oo oo;have kt:Ay (i+1) (fun j=>CP f k 0 (j+1) * yv ys j)=Ay i (fun j=>CP f k 0 (j+1) * yv ys j)+CP f k 0 (i+1) * yv ys i:=rfl;refine Nv ?_;refine .r rfl ?_;refine .p (A0.ia) ?_;refine .p (rL (ka i hi)) ?_;refine A7 ?_;refine .p FW ?_;refine .a 2 (.int .i64 ((k+1:Nat):Int)) rfl (Bv oo) ?_;refine .a 2 (.int .i64 ((k+1+i:Nat):Int)) rfl (by rw[Ab oo oo];rfl) ?_;refine .p (A0.ia) ?_;refine .p (A0.load A8 rfl rfl rfl (show w1.cell? (Addr.add ⟨bx,0,none⟩ (k+1+i))=some (.int .i64 (yv ys i)) by rw[Ak,AE];exact hX.cell kz)) ?_;refine .a 1 (.int .i64 (CP f k 0 (i+1) * yv ys i)) rfl (by rw[Ab oo oo]) ?_;refine .a 1 (.int .i64 (Ay (i+1) (fun j=>CP f k 0 (j+1) * yv ys j))) rfl (by rw[kt,Ab oo oo]) ?_;refine A7 ?_;exact Ad.aO _ AL ⟨rfl,rfl⟩
 ·rintro g w1 ⟨rfl,rfl⟩;have kh:Ay ys.length (fun j=>CP f k 0 (j+1) * yv ys j)=DG f n ys:=by unfold DG;rw[hg]
  rw[kh];have ks:AY f k * HO f n B ys=GH f n B ys:=by rw[KL,hg]
  have hq:((GH f n B ys).natAbs:Int)=GH f n B ys:=by omega
  refine A7 ?_;refine .p FW ?_;refine .r rfl ?_;refine .p (A0.ia) ?_;refine .p (A0.load A8 rfl rfl rfl (ho k oo)) ?_;refine .a 2 (.int .i64 (GH f n B ys)) rfl (by rw[ks,Ab oo oo]) ?_;rw[<- hq];refine A7 ?_;refine .s (Av.call OT rfl (Xd w1 (GH f n B ys).natAbs oo)) ?_;rintro _ w2 ⟨rfl,rfl⟩;rw[<- z];refine .r rfl ?_;refine Nv ?_;refine .a 3 (.int .i64 ((r:Int)+DG f n ys)) rfl (by rw[Ab oo oo]) ?_;refine .r rfl ?_;refine .s (Av.call MW rfl (VB w2 _ _ E.1 oo)) ?_;rintro _ w3 ⟨rfl,rfl⟩;refine .a 1 (.int .i64 (Cc f n B ys)) rfl (by rw[ki,Ab oo oo,Int.zero_sub]) ?_;refine .a 3 (.int .i64 ((r:Int) - DG f n ys)) rfl (by rw[Ab oo oo]) ?_;refine .r rfl ?_;refine .s (Av.call MW rfl (VB w3 _ _ E.1 oo)) ?_;rintro _ w4 ⟨rfl,rfl⟩;rw[<- kc];refine .r rfl ?_;refine Af.nil (Ad.ak (St.seq (St.seq ?_)));rw[hq];obtain⟨c,hc⟩:∃ c,c=Ct f n B ys - Cc f n B ys+1:=⟨_,rfl⟩;refine St.sub (E':=[(0,.pointer (some ⟨bw,0,none⟩)),(1,.int .i64 k),(3,.func (.yield L) #[] #[]),(9,.int .i64 (AY f (k+1))),(10,.int .i64 (DG f n ys)),(13,.int .i64 (GH f n B ys)),(15,.int .i64 (Cc f n B ys)),(16,.int .i64 (Ct f n B ys))]) ?_ AL;have h8:0<=c:=by omega
  have h9:c<=4611686018427387904:=by omega
  obtain⟨R,hL,ku,kp⟩:=hY.round s w4 ys.length c hI oo h8 h9 C.1;refine St.yieldAt 12 ?_ rfl ?_
  ·repeat first | exact A7L | refine Ij ?_ | refine Ik ?_
  refine .r rfl ?_;refine .p FW ?_;refine .a 3 (.int .i64 ((ys.length+1:Nat):Int)) rfl (by rw[Ab oo oo];congr 1;omega) ?_;refine .a 3 (.int .i64 (Ct f n B ys - Cc f n B ys)) rfl (by rw[Ab oo oo]) ?_;refine .a 1 (.int .i64 c) rfl (by rw[hc,Ab oo oo]) ?_;refine Af.nil (Ad.yield rfl rfl hL (by rw[ku];rfl) rfl ?_ rfl kp ?_)
  ·repeat first | exact A7L | refine Ij ?_ | refine Ik ?_
  rintro b w5 ⟨hm,kv,kj,ky⟩;have ha:SK bx wM w5:=⟨Ar C.1 kv,fun j l m=>(hm j oo m).trans (C.2 j l m)⟩;have hb:Aj 2 w5 bx (xs.map DZ):=(hm bx AO (by obtain⟨h0,_,_,_,l,_⟩:=K;have:=l.lt;omega)).trans hX;have t:Dh f n B (k+1) ys s=if s.1<c then none else Li (fun x s=>Dh f n B k (x::ys) s) c.toNat (Cc f n B ys) (s.1 - c,GZ s.2 ys.length c):=by rw[hc];rfl
  by_cases F:s.1<c
  ·obtain⟨rfl,h7⟩:=kj F;rw[if_pos F]at t;refine A7 ?_;refine .ct ?_;exact Ad.ax rfl rfl ⟨fun _=>⟨rfl,h7⟩,fun s' h=>by rw[t]at h;cases h⟩
  obtain⟨rfl,Z⟩:=ky F;rw[if_neg F]at t;refine A7 ?_;refine .cf ?_;by_cases hl:k=0
  ·refine St.aD rfl (by rw[hl];rfl) ?_;have hs:Dh f n B (k+1) ys s=some (s.1 - c,GZ s.2 ys.length c):=by rw[t,hl];exact PL _ _ _
   refine A7 ?_;exact Ad.ax rfl rfl ⟨fun h=>(by rw[hs]at h;cases h),fun s' h=>by rw[hs]at h;cases h;exact⟨rfl,Z,ha,xs,hb,hx,A.symm⟩⟩
  refine St.ay rfl (beq_eq_false_iff_ne.2 oo) ?_;obtain⟨k',rfl⟩:∃ k',k=k'+1:=⟨k - 1,by omega⟩;have ihk:=ih k' rfl;refine A7 ?_;refine St.loop (α:=Int×(Int×List Int)×List Int) (fun g=>[(0,.pointer (some ⟨bw,0,none⟩)),(1,.int .i64 ((k'+1:Nat):Int)),(3,.func (.yield L) #[] #[]),(9,.int .i64 (AY f (k'+1+1))),(10,.int .i64 (DG f n ys)),(13,.int .i64 (GH f n B ys)),(16,.int .i64 (Ct f n B ys)),(17,.int .i64 g.1)])
   (fun g w'=>(Cc f n B ys<=g.1/\g.1<=Ct f n B ys+1)/\Li (fun x s=>Dh f n B (k'+1) (x::ys) s) (Ct f n B ys+1 - g.1).toNat g.1 g.2.1=Dh f n B (k'+1+1) ys s/\SK bx wM w'/\Aj 2 w' bx (g.2.2.map DZ)/\g.2.2.length=n/\g.2.2.drop (k'+1+1)=ys/\I g.2.1 w') (fun g=>(Ct f n B ys+1 - g.1).toNat) (Cc f n B ys,(s.1 - c,GZ s.2 ys.length c),xs) AL ?_ ?_
  ·refine⟨⟨Gy _,ke⟩,?_,ha,hb,hx,A.symm,Z⟩;rw[t];show Li _ (Ct f n B ys+1 - Cc f n B ys).toNat _ _=_;rw[show Ct f n B ys+1 - Cc f n B ys=c by omega]
  ·rintro⟨x,s1,q⟩ w6 ⟨⟨hw,kw⟩,G,v,N,W,P,J⟩;dsimp only at hw kw G N W P J ⊢;refine A7 ?_;by_cases Q:x<=Ct f n B ys
   ·refine St.aD rfl (decide_eq_true Q) ?_;obtain⟨k1,k5,al',k4,k7,_,_⟩:=(K.keep v).open o.1;have T:=(NA e (show ys.length<n by omega) kr x).1 ⟨hw,Q⟩;have ub:=FR e o.2 (R:=2147483648) hB.1 oo (x::ys) (by rw[BR];omega) T;have km:(2:Nat) ^ (x::ys).length<=2 ^ 8:=DB de (by rw[BR];omega);have up:x.natAbs<=549755813888:=by
     have l:=HV 2147483648 km;have e8:(2:Nat) ^ 8=256:=by decide
     have m:=Vx (x::ys) 0;rw[Ml]at m;omega
    have ue:=Fx (x:=AY f (k'+1+1)) (y:=x) (a:=65536) (b:=549755813888) oo oo;have U:=Oq e (show ys.length<n by omega) B x;rw[D]at U;obtain⟨u,hu⟩:∃ u,u=AY f (k'+1+1) * x+DG f n ys:=⟨_,rfl⟩;rw[<- hu]at U;have un:=A09 u;have ud:=DI (show 0<=AY f (k'+1+1) by omega) T;have kn:(GH f n B ys - u * u).tdiv (AY f (k'+1+1))=HO f n B (x::ys):=by rw[U];exact Int.mul_tdiv_cancel_left _ oo
    have hh:(q.set (k'+1) x).drop (k'+1)=x::ys:=by rw[QW oo,P]
    have uh:k'+1<(q.map DZ).length:=by rw[Bj];omega
    refine A7 ?_;refine .p FW ?_;refine .r rfl ?_;refine Af.put A8 (k'+1) N rfl hk (by rw[Bj];omega) rfl rfl rfl rfl rfl rfl rfl rfl (fun _=>rfl) (fun _=>rfl) rfl rfl ?_;intro p7 Y hd V;rw[AE,show (q.map DZ).set (k'+1) (.int .i64 x)=(q.set (k'+1) x).map DZ from by rw[Gx]]at hd;have h5:SK bx wM Y:=⟨Ar v.1 V.size,fun j l m=>(V.block j (CW m v.1) oo).trans (v.2 j l m)⟩;have hz:=hY.stable s1 w6 Y J V;refine Nv ?_;refine .a 3 (.int .i64 (AY f (k'+1+1) * x)) rfl (by rw[Ab oo oo]) ?_;refine .a 2 (.int .i64 u) rfl (by rw[hu,Ab oo oo]) ?_;refine .r rfl ?_;refine Nv ?_;refine .a 3 (.int .i64 ((k':Nat):Int)) rfl (by rw[Ab oo oo];congr 1;omega) ?_;refine .a 4 (.int .i64 (u * u)) rfl (by rw[Ab oo oo]) ?_;refine .a 1 (.int .i64 (GH f n B ys - u * u)) rfl (by rw[Ab oo oo]) ?_;refine .r rfl ?_;refine .p (A0.quoZ rfl rfl oo oo) ?_;rw[kn];refine .r rfl ?_;have he:=ihk (q.set (k'+1) x) s1 Y h5 hd (by rw[EP];exact W) hz (by rw[hh];exact T);rw[hh]at he;refine .s (oK Jn he) ?_;rintro y w8 ⟨kk,kq⟩;have hj:(Ct f n B ys+1 - x).toNat=(Ct f n B ys+1 - (x+1)).toNat+1:=by omega
    rw[hj]at G;have H:(match Dh f n B (k'+1) (x::ys) s1 with | none=>none | some s'=>Li (fun x s=>Dh f n B (k'+1) (x::ys) s) (Ct f n B ys+1 - (x+1)).toNat (x+1) s')=Dh f n B (k'+1+1) ys s:=G;cases hv:Dh f n B (k'+1) (x::ys) s1 with
    | none =>
     obtain⟨rfl,O⟩:=kk hv;rw[hv]at H;refine A7 ?_;refine .ct ?_;exact Ad.ax rfl rfl ⟨fun _=>⟨rfl,O⟩,fun s' h=>by rw[<- H]at h;cases h⟩
    | some s2 =>
     obtain⟨rfl,h4,h6,hy,O,kx,kb⟩:=kq s2 hv;rw[hv]at H;refine A7 ?_;refine .cF ?_;refine Nv ?_;refine .a 2 (.int .i64 (x+1)) rfl (by rw[Ab oo oo]) ?_;refine A7 ?_;refine Ad.again (x+1,s2,hy) AL ⟨⟨by show _<=x+1;omega,by show x+1<=_;omega⟩,H,h6,O,kx,?_,h4⟩ (by show (Ct f n B ys+1 - (x+1)).toNat<(Ct f n B ys+1 - x).toNat;omega);show hy.drop (k'+1+1)=ys;rw[<- Hl (i:=1),kb];rfl
   ·refine St.ay rfl (decide_eq_false Q) ?_;have uo:x=Ct f n B ys+1:=by omega
    have ht:Dh f n B (k'+1+1) ys s=some s1:=by rw[<- G,show (Ct f n B ys+1 - x).toNat=0 by omega];rfl
    refine A7 ?_;exact Ad.ax rfl rfl ⟨fun h=>(by rw[ht]at h;cases h),fun s' h=>by rw[ht]at h;cases h;exact⟨rfl,J,v,q,N,W,P.trans rfl⟩⟩
variable {α:Type}
def Mx (P:Program) (n:Nat) (l:List Oper) (Q:Exit->Act->World->Prop) (fuel:Nat) (listed:Array Bool) (E:List (Nat×Value)) (w:World):Prop:=∀ a,DM n E a->wpAnyIn (wR none) 0 P .any l.toArray Q fuel listed a w
section
variable {P:Program}{T:List (Nat×TI)}{n:Nat}{l:List Oper}{Q:Exit->Act->World->Prop}{fuel:Nat}{listed:Array Bool}{E:List (Nat×Value)}{w:World}
theorem St.anyI (c:P.follows .mixedOrders=true) (g:l.length=k) (h:∀ w1,Ac w w1->w1.heap=w.heap->Mx P n l Q k (Array.replicate k false) E w1):St P n E w (.region id l.toArray true) Q:=by
 intro a d;subst g;refine wpIn_wide.1 (wpIn_region_any (F:=Fence.wide) (n:=0) c ?_);have:=h { w with drawn:=w.drawn+1 } ⟨rfl,rfl,rfl,Ai _,fun _ _=>rfl⟩ rfl a d;have e:l.toArray.size=l.length:=by simp
 rw[e];exact this
theorem Mx.meet (f2:Nat) (d:Array Bool) (c:α->List (Nat×Value)) (I:α->World->Prop) (fin:∀ g w,I g w->Mx P n l Q f2 d (c g) w)
  (paths:(∀ g w E' L',d=L'->I g w->Xy (c g) E'->Mx P n l Q f2 L' E' w)->Mx P n l Q fuel listed E w):Mx P n l Q fuel listed E w:=by refine paths ?_;rintro g w E' L' rfl e k a j;exact fin g w e a (j.sub k)
theorem Mx.take (i:Nat) {d:Nat}{v:Value}(r:l.toArray[i]?=some o) (k:o.dst=some d) (y:Region.noSelect l.toArray=true) (m:Region.free .any l.toArray listed i=true) (u:(Region.ready .any l.toArray listed).contains i=true)
  (g:∀ c a w,Q (.panic c) (a.put o.dst v) w->Q (.panic c) a w) (z:Bg l.toArray E o.guard=some true) (q:Nat.blt d n=true) (j:∀ w ρ,o.about P w ρ=none) (t:∀ w,A0 P n o E w v) (next:Mx P n l Q fuel (listed.setIfInBounds i true) ((d,v)::E) w):Mx P n l Q (fuel+1) listed E w:=by intro a e;refine wpAnyIn_take (F:=wR none) rfl r y m u g ⟨.inl ⟨CL e z,fun w'=>t w' a e⟩,fun w=>j w _⟩ (next _ ?_);rw[k];exact e.put q v
def PM (P:Program) (n:Nat) (l:List Oper) (Q:Exit->Act->World->Prop) (fuel:Nat) (listed:Array Bool) (E:List (Nat×Value)) (w:World) (i:Nat):Prop:=∀ a,DM n E a->wpOpIn (wR none) 0 P l.toArray Q i (wpAnyIn (wR none) 0 P .any l.toArray Q fuel (listed.setIfInBounds i true)) a w
theorem PM.val {d:Nat}(m:l.toArray[i]?=some o) (g:o.dst=some d) (k:∀ c,o.op≠.defer c) (q:Bg l.toArray E o.guard=some true) (j:Nat.blt d n=true) (h:Av P n o E w Φ) (next:∀ v w',Φ v w'->Mx P n l Q fuel (listed.setIfInBounds i true) ((d,v)::E) w'):PM P n l Q fuel listed E w i:=by intro a e;unfold wpOpIn;simp only[m];rw[if_pos (CL e q)];exact A8n k (h a e Q _ fun v w' hv=>next v w' hv _ (by rw[g];exact e.put j v))
theorem Mx.one (e:Region.ready .any l.toArray listed=[i]) (h:PM P n l Q fuel listed E w i):Mx P n l Q (fuel+1) listed E w:=by intro a d;refine wpAnyIn_all e sm ?_;intro j c;simp only[Du]at c;subst c;exact h a d
theorem Mx.two (g:Region.ready .any l.toArray listed=[i,j]) (h:PM P n l Q fuel listed E w i) (e:PM P n l Q fuel listed E w j):Mx P n l Q (fuel+1) listed E w:=by
 intro a c;refine wpAnyIn_all g sm ?_;intro k d;simp only[Cw,LN,or_false]at d;rcases d with rfl | rfl
 ·exact h a c
 ·exact e a c
theorem Mx.yield {r:Loop}{d:Nat}{pos:String}{Ψ:Bool->World->Prop}
  (z:Region.ready .any l.toArray listed=[i]) (y:l.toArray[i]?=some ⟨some d,.call ⟨.value x,args,tys⟩,ty,pos,af,none⟩) (q:Region.ready .any l.toArray (listed.setIfInBounds i true)=[])
  (p:ov E x=some (.func (.yield L) #[] #[])) (k:Z3 E args.toList=some vs) (j:w.heap[L]?=some (.loop r)) (h:vs.length=r.params.size) (o:Nat.blt d n=true)
  (t:RoundIn (wR none) 0 P L r.fn (Fg r vs) r.assign r.body w (fun e w2=>∃ b,e=.returned (.bool b)/\Ψ b w2)) (next:∀ b w2,Ψ b w2->Ad n ((d,.bool b)::E) w2 .normal Q) :
  Mx P n l Q (fuel+1) listed E w:=by
 refine Mx.one z ?_;intro a c;unfold wpOpIn;simp only[y];rw[if_pos (by simp[Region.wanted])];refine⟨fun _ _=>trivial,?_⟩;have v:=LX c _ _ k;have g:args.map a.eval=vs.toArray:=by rw[<- v];apply LD.1;simp
 have u:=c.eval p;have f:(Oper.semAt (wR none).round a.eval ⟨some d,.call ⟨.value x,args,tys⟩,ty,pos,af,none⟩).run P w=.ok (.round L r.fn (Fg r vs) r.assign r.body) w:=by show (execOp a.eval ⟨some d,.call ⟨.value x,args,tys⟩,ty,pos,af,none⟩).run P w=_;simp only[execOp,resolve,u,Deferred.ofValue,g,Bq,AX,Bp,invoke];rw[show (#[]:Array Value)++vs.toArray=vs.toArray from by simp];exact run_yield j h
 rw[f];refine⟨fun e=>by simp[Fence.wide]at e,RoundIn.mono t ?_⟩;rintro e w2 ⟨b,rfl,m⟩;exact wpAnyIn_done q (next b w2 m _ (c.put o _)) _
theorem Ad.norm {R:Ending->World->Prop}(h:Ad n E w .ret (bodyPost P fn R)):Ad n E w .normal (bodyPost P fn R):=h
end
theorem A1O {bw:Nat}{wM:World}{I:Int×List Int->World->Prop}{X:World->Prop}(d:BQ n f) (l:1<=n/\n<=8) (hB:0<=B/\B<1073741824) (g:WkV wM bw bx n f B) (j:Yc bx wM.heap.size L I X n):∀ k,k<n->Yy bw bx n L f B wM I X k:=by
 intro k;induction k with
 | zero=>exact fun c=>VD d l hB g j c (fun k' e=>by omega)
 | succ k ih=>exact fun c=>VD d l hB g j c (fun k' e=>by
   have e2:k'=k:=by omega
   subst e2;exact ih oo)
theorem A5t {d B:Nat}(c:0<d):Jo (d * B) / d=Jo (B / d):=by
 refine (EW.rt ⟨?_,?_⟩)
 ·refine (Nat.le_div_iff_mul_le c).2 ?_;have e:=TQ (Jo (d * B)) d;have k:=(EI (d * B)).1;have g:=Dg e e;generalize Jo (d * B) / d=q at *
  have l:q * d * (q * d)=d * (q * q * d):=by grind
  have j:d * (q * q * d)<=d * B:=by omega
  exact Nat.le_of_mul_le_mul_left j c
 ·refine (Nat.div_lt_iff_lt_mul c).2 ?_;have e:=Nat.lt_div_mul_add (a:=Jo (d * B)) c;have k:=(EI (d * B)).2;generalize Jo (d * B) / d=q at *
  have g:Jo (d * B)+1<=(q+1) * d:=by rw[Bw,Cf];omega
  have l:=Dg g g;have j:(q+1) * d * ((q+1) * d)=d * ((q+1) * (q+1) * d):=by grind
  have m:d * B<d * ((q+1) * (q+1) * d):=by omega
  exact Nat.lt_of_mul_lt_mul_left m
theorem A5u {s:Int×List Int}(j:BQ 1 f) (hB:0<=B):Dh f 1 B 1 [] s=if s.1<2 * (Jo (B.toNat / (AY f 1).toNat):Int)+1 then none else some (s.1 - (2 * (Jo (B.toNat / (AY f 1).toNat):Int)+1),GZ s.2 0 (2 * (Jo (B.toNat / (AY f 1).toNat):Int)+1)):=by
 have o:=CV j.pos (Ai 1);have m:GH f 1 B []=AY f 1 * B:=by rw[KL,PK];show AY f 0 * _=_;rw[Nz];omega
 have g:(GH f 1 B []).natAbs=(AY f 1).toNat * B.toNat:=by rw[m,NX];congr 1 <;> omega
 have e:DG f 1 []=0:=rfl;have l:=A5t (d:=(AY f 1).toNat) (B:=B.toNat) oo;have c:((Jo ((AY f 1).toNat * B.toNat):Nat):Int) / AY f 1=(Jo (B.toNat / (AY f 1).toNat):Int):=by
  rw[<- l];have:AY f 1=(((AY f 1).toNat:Nat):Int):=by omega
  rw[TY];rw[<- this]
 have r:Cc f 1 B []=-(Jo (B.toNat / (AY f 1).toNat):Int):=by unfold Cc Mi;rw[g,e,Q6];show -(_ / AY f 1)=_;rw[c]
 have q:Ct f 1 B []=(Jo (B.toNat / (AY f 1).toNat):Int):=by unfold Ct Mj;rw[g,e,U6];show _ / AY f 1=_;rw[c]
 have k:Ct f 1 B [] - Cc f 1 B []+1=2 * (Jo (B.toNat / (AY f 1).toNat):Int)+1:=by omega
 show (if s.1<Ct f 1 B [] - Cc f 1 B []+1 then none else Li (fun x s=>some s) _ _ _)=_;rw[PL,k];rfl
theorem A1P {bw:Nat}{wM w:World}{I:Int×List Int->World->Prop}{X:World->Prop}{s:Int×List Int}{xs:List Int}(g:BQ n f) (t:1<=n/\n<=8) (hB:0<=B/\B<=4611686018427387904) (N:n≠1->B<1073741824) (E:WkV wM bw bx n f B) (z:Yc bx wM.heap.size L I X n)
  (o:SK bx wM w) (T:Aj 2 w bx (xs.map DZ)) (hb:xs.length=n) (D:I s w) :
  Calls prog 137 #[.pointer (some ⟨bw,0,none⟩),.func (.yield L) #[] #[]] w (AJ fun _ w'=>(Dh f n B n [] s=none->X w')/\∀ s',Dh f n B n [] s=some s'->I s' w'):=by
 obtain⟨am,cm,al,cl,P,H,_⟩:=(E.keep o).open t.1;refine cS func137 ntmps137 ?_;refine A7 ?_;refine .p FW ?_;refine A7 ?_;by_cases k:n=1
 ·refine St.aD rfl (by rw[k];rfl) ?_;subst k;have U:=g.aW t.2 (Ai 1);obtain⟨q,C⟩:∃ q,q=Jo (B.toNat / (AY f 1).toNat):=⟨_,rfl⟩;have hf:q<=2147483648:=by
   have u:=(EI (B.toNat / (AY f 1).toNat)).1;rw[<- C]at u;have h3:=EN B.toNat (AY f 1).toNat;rcases Dl 2147483648 q with h4 | h4
   ·have:=Dg h4 h4;omega
   ·exact h4
  have r:=A5u (B:=B) (s:=s) g hB.1;rw[<- C]at r;refine Nv ?_;refine St.sub (E':=[(0,.pointer (some ⟨bw,0,none⟩)),(1,.func (.yield L) #[] #[])]) ?_ AL;refine St.anyI Dv rfl ?_;intro w1 d V;have l:=P.ext d;have A:=d.cell (H 1 oo);have Q:I s w1:=z.stable s w w1 D (d.upd bx);obtain⟨R,S,ha,Z⟩:=z.round s w1 0 (2 * (q:Int)+1) Q oo oo oo (by rw[V];exact o.1);refine Mx.take 0 rfl rfl kr kr kr (fun _ _ _ h=>h) rfl rfl (fun _ _=>rfl) (fun w=>A0.pure A8 rfl) ?_;refine Mx.take 1 rfl rfl kr kr kr (fun _ _ _ h=>h) rfl rfl (fun _ _=>rfl) (fun w=>A0.pure A8 rfl) ?_;refine Mx.take 2 rfl rfl kr kr kr (fun _ _ _ h=>h) rfl rfl (fun _ _=>rfl) (fun w=>A0.pure A8 rfl) ?_;refine Mx.take 3 rfl rfl kr kr kr (fun _ _ _ h=>h) rfl rfl (fun _ _=>rfl) (fun w=>A0.pure A8 rfl) ?_;refine Mx.take 5 rfl rfl kr kr kr (fun _ _ _ h=>h) rfl rfl (fun _ _=>rfl) (fun w=>A0.pure A8 rfl) ?_;refine Mx.take 6 rfl rfl kr kr kr (fun _ _ _ h=>h) rfl rfl (fun _ _=>rfl) (fun w=>A0.pure A8 rfl) ?_;refine Mx.take 7 rfl rfl kr kr kr (fun _ _ _ h=>h) rfl rfl (fun _ _=>rfl) (fun w=>A0.pure A8 rfl) ?_;refine Mx.meet 5 #[true,true,true,true,true,true,true,true,true,true,true,false,false,false,false,false] (fun _:Unit=>[(12,.func (.yield L) #[] #[]),(16,.int .i64 B),(22,.int .i64 (AY f 1))]) (fun _ w'=>w'=w1) ?_ ?_
  ·rintro _ w2 rfl;refine Mx.one (i:=11) kr (PM.val rfl rfl (fun c e=>by cases e) rfl rfl (A0.cU B.toNat (AY f 1).toNat rfl oo rfl oo oo oo).op ?_);rintro _ _ ⟨rfl,rfl⟩;refine Mx.one (i:=12) kr (PM.val rfl rfl (fun c e=>by cases e) rfl rfl (Av.call OT rfl (Xd _ _ (Ar (EN _ _) oo))) ?_);rintro _ _ ⟨rfl,rfl⟩;rw[<- C];refine Mx.take 13 (v:=.int .i64 (2 * (q:Int))) rfl rfl kr kr kr (fun _ _ _ h=>h) rfl rfl (fun _ _=>rfl) (fun w=>A0.pure A8 (by show some (Value.int .i64 (IntKind.i64.wrap (2 * (q:Int))))=_;rw[Ab oo oo])) ?_;refine Mx.take 14 (v:=.int .i64 (2 * (q:Int)+1)) rfl rfl kr kr kr (fun _ _ _ h=>h) rfl rfl (fun _ _=>rfl) (fun w=>A0.pure A8 (by show some (Value.int .i64 (IntKind.i64.wrap (2 * (q:Int)+1)))=_;rw[Ab oo oo])) ?_;refine Mx.yield (i:=15) kr rfl kr rfl rfl S (by rw[ha];rfl) rfl Z ?_;rintro b w3 ⟨_,_,Y,hc⟩;refine Nv ?_;refine Ad.aC A8 [] rfl trivial ⟨fun h=>?_,fun s' h=>?_⟩
   ·rw[r]at h;split at h
    ·exact (Y (by assumption)).2
    ·cases h
   ·rw[r]at h;split at h
    ·cases h
    ·cases h;exact (hc (by assumption)).2
  ·intro meet;refine Mx.two (i:=4) (j:=8) kr ?_ ?_
   ·refine PM.val rfl rfl (fun c e=>by cases e) rfl rfl (FX l).op ?_;rintro _ _ ⟨rfl,rfl⟩;refine Mx.one (i:=8) kr (PM.val rfl rfl (fun c e=>by cases e) rfl rfl (FX l).op ?_);rintro _ _ ⟨rfl,rfl⟩;refine Mx.take 9 rfl rfl kr kr kr (fun _ _ _ h=>h) rfl rfl (fun _ _=>rfl) (fun w=>A0.ia) ?_;refine Mx.one (i:=10) kr (PM.val rfl rfl (fun c e=>by cases e) rfl rfl (rL A).op ?_);rintro _ _ ⟨rfl,rfl⟩;exact meet () _ _ _ kr rfl AL
   ·refine PM.val rfl rfl (fun c e=>by cases e) rfl rfl (FX l).op ?_;rintro _ _ ⟨rfl,rfl⟩;refine Mx.take 9 rfl rfl kr kr kr (fun _ _ _ h=>h) rfl rfl (fun _ _=>rfl) (fun w=>A0.ia) ?_;refine Mx.two (i:=4) (j:=10) kr ?_ ?_
    ·refine PM.val rfl rfl (fun c e=>by cases e) rfl rfl (FX l).op ?_;rintro _ _ ⟨rfl,rfl⟩;refine Mx.one (i:=10) kr (PM.val rfl rfl (fun c e=>by cases e) rfl rfl (rL A).op ?_);rintro _ _ ⟨rfl,rfl⟩;exact meet () _ _ _ kr rfl AL
    ·refine PM.val rfl rfl (fun c e=>by cases e) rfl rfl (rL A).op ?_;rintro _ _ ⟨rfl,rfl⟩;refine Mx.one (i:=4) kr (PM.val rfl rfl (fun c e=>by cases e) rfl rfl (FX l).op ?_);rintro _ _ ⟨rfl,rfl⟩;exact meet () _ _ _ kr rfl AL
 ·refine St.ay rfl (beq_eq_false_iff_ne.2 oo) ?_;have O:=N k;have U:=g.aW t.2 (Ai n);have r:=A1O g t ⟨hB.1,O⟩ E z (n - 1) oo;obtain⟨m,hm⟩:∃ m,n=m+1:=⟨n - 1,by omega⟩;have G:xs.drop (n - 1+1)=[]:=by rw[List.drop_eq_nil_iff];omega
  have K:HO f n B []=AY f n * B:=PK f n B;have he:=Fx (x:=AY f n) (y:=B) (a:=65536) (b:=1073741824) oo oo;have W:=DI (show 0<=AY f n by omega) hB.1;refine Nv ?_;refine St.sub (E':=[(0,.pointer (some ⟨bw,0,none⟩)),(1,.func (.yield L) #[] #[]),(4,.int .i64 n)]) ?_ AL;refine sF 16 ?_;refine FL.as A8 3 (.int .i64 ((n - 1:Nat):Int)) rfl (by rw[Ab oo oo];congr 1;omega) ?_;refine .q ?_;refine FL.load (L:=[]) A8 rfl rfl rfl rfl rfl rfl EC sm rfl ?_;refine .q ?_;refine .on (fun _ _=>A0.ia) ?_;refine .on (fun _ g=>A0.load A8 rfl rfl rfl (g.aq.cell (H n oo))) ?_;refine .q ?_;refine FL.load (L:=[]) A8 rfl rfl rfl rfl rfl rfl EC sm rfl ?_;refine FL.as A8 1 (.int .i64 (HO f n B [])) rfl (by rw[K,Ab oo oo]) ?_;refine .q ?_;refine FL.aG rfl ?_;rintro w1 d _ _;have F:=r xs s w1 ⟨Ar o.1 d.size,fun j k u=>(d.block j (CW u o.1)).trans (o.2 j k u)⟩ (T.ext d) hb (z.stable s w w1 D (d.upd bx)) (by rw[G,K];exact W);rw[G]at F;refine .s (oK Jn F) ?_;rintro y w2 ⟨J,M⟩;rw[show n - 1+1=n by omega]at J M;refine Nv ?_;exact Ad.norm (Ad.aC A8 [] rfl trivial ⟨fun h=>(J h).2,fun s' h=>(M s' h).2.1⟩)
def CY (f:Nat->Nat->Int) (n:Nat) (B:Int) (ys:List Int):Int:=Ct f n B ys - Cc f n B ys+1
theorem KM (h:BQ n f) (B:Int) (ys:List Int):0<=CY f n B ys:=by have:=Xc h (ys:=ys) (r:=Jo (GH f n B ys).natAbs);unfold CY Cc Ct;omega
theorem S3 {g:Int->Int×List Int->Option (Int×List Int)}{c:Int->Int}(d:∀ x s s',0<=s.1->g x s=some s'->0<=s'.1/\s'.1<=s.1 - c x):∀ (j:Nat) (x:Int) (s s':Int×List Int),0<=s.1->Li g j x s=some s'->0<=s'.1/\s'.1<=s.1 - Ay j (fun i=>c (x+i))
 | 0,x,s,s',h0,h=>by unfold Li at h;cases h;show _/\s.1<=s.1 - 0;omega
 | j+1,x,s,s',h0,h=>by
  unfold Li at h;split at h
  ·cases h
  ·rename_i s1 k;have a1:=d x s s1 h0 k;have a2:=S3 d j (x+1) s1 s' a1.1 h;rw[FQ];have e:Ay j (fun i=>c (x+((i+1:Nat):Int)))=Ay j (fun i=>c (x+1+i)):=Bo fun i _=>by congr 1;omega
   rw[e];have e0:c (x+((0:Nat):Int))=c x:=by congr 1;omega
   rw[e0];omega
theorem Xe (h:BQ n f):∀ (k:Nat) (ys:List Int) (s s':Int×List Int),0<=s.1->Dh f n B k ys s=some s'->0<=s'.1/\s'.1<=s.1 - (if k=0 then 0 else CY f n B ys)
 | 0,ys,s,s',h0,hv=>by unfold Dh at hv;cases hv;simp;exact h0
 | k+1,ys,s,s',h0,hv=>by
  unfold Dh at hv;split at hv
  ·cases hv
  ·rename_i l;have j:=KM h B ys;have ih:=S3 (g:=fun x s=>Dh f n B k (x::ys) s) (c:=fun x=>if k=0 then 0 else CY f n B (x::ys)) (fun x s s' e d=>Xe h k (x::ys) s s' e d) _ _ _ _ (by show 0<=s.1 - _;omega) hv;have m:0<=Ay (Ct f n B ys - Cc f n B ys+1).toNat (fun i=>if k=0 then 0 else CY f n B ((Cc f n B ys+i)::ys)):=GW fun i _=>by
    split
    ·exact Gy _
    ·exact KM h B _
   rw[if_neg oo];unfold CY;refine⟨ih.1,?_⟩;have:=ih.2;dsimp only at this;omega
theorem A5v (h:BQ n f) {s s':Int×List Int}(m:0<=s.1) (hv:Dh f n B (k+2) ys s=some s'):Ay (CY f n B ys).toNat (fun i=>CY f n B ((Cc f n B ys+i)::ys))<=s.1:=by
 unfold Dh at hv;split at hv
 ·cases hv
 ·rename_i q;have e:=KM h B ys;have ih:=S3 (g:=fun x s=>Dh f n B (k+1) (x::ys) s) (c:=fun x=>CY f n B (x::ys)) (fun x s s' l j=>by simpa using Xe h (k+1) (x::ys) s s' l j) _ _ _ _ (by show 0<=s.1 - _;omega) hv;have o:=ih.1;have d:=ih.2;dsimp only at d;unfold CY at e;show Ay (Ct f n B ys - Cc f n B ys+1).toNat _<=_;omega
theorem A8p (h:BQ n f) {N:Int}(m:0<=N) (g:(N * AY f (n - ys.length)) * (N * AY f (n - ys.length))<=GH f n B ys):2 * N - 1<=CY f n B ys:=by
 have c:=CV h.pos (show n - ys.length<=n by omega);have e:=EI (GH f n B ys).natAbs;have j:0<=GH f n B ys:=Int.le_trans (A09 _) g;have l:=(Lh e (N * AY f (n - ys.length))).2 oo;unfold CY Cc Ct Mi Mj;generalize Jo (GH f n B ys).natAbs=r at *
 generalize AY f (n - ys.length)=d at *
 have a1:=U5 (x:=(r:Int) - DG f n ys) (k:=d) c;have a2:=U5 (x:=DG f n ys+(r:Int)) (k:=d) c;generalize ((r:Int) - DG f n ys) / d=p at *
 generalize (DG f n ys+(r:Int)) / d=q at *
 rcases Gw (p - -q+1) (2 * N - 1) with hlt | hle
 ·exfalso;have b1:=J8 (show p+q+2<=2 * N - 1+1 by omega) (show 0<=d by omega);have e1:d * (p+q+2)=d * p+d * q+2 * d:=by grind
  have e2:d * (2 * N - 1+1)=2 * (N * d):=by grind
  omega
 ·exact hle
theorem A7c (h:BQ n f) (G:2<=n) {b:Int}(hB:1073741824<=B) (v:0<=b/\b<=1000000) (cs:List Int):Dh f n B n [] (b,cs)=none:=by
 cases hv:Dh f n B n [] (b,cs) with
 | none=>rfl
 | some s' =>
  exfalso;obtain⟨m,rfl⟩:∃ m,n=m+2:=⟨n - 2,by omega⟩;have key:=A5v h (k:=m) (ys:=[]) (s:=(b,cs)) v.1 hv;dsimp only at key;have d2:=CV h.pos (show m+2<=m+2 by omega);have d1:=CV h.pos (show m+1<=m+2 by omega);have d0:=CV h.pos (show m<=m+2 by omega);have o:AY f (m+2)<=10000:=by have:=h.det;rw[<- HE h.pos AO]at this;exact (Iy (a:=AY f (m+2)) (b:=10000)).1 this
  have F:AY f (m+1) * AY f (m+1)<=2 * AY f m * AY f (m+2):=by have:=ZU (A:=RA f) (i:=m+1) (h.rd.1 (m+1) m oo oo) (h.rd.2 (m+1) oo oo) oo;rw[show m+1 - 1=m by omega,show m+1+1=m+2 by omega,<- HE h.pos (show m+1<=m+2 by omega),<- HE h.pos (show m<=m+2 by omega),<- HE h.pos (show m+2<=m+2 by omega)]at this;exact_mod_cast this
  have u:AY f (m+1)<=442 * AY f m:=by
   rcases Gw (442 * AY f m) (AY f (m+1)) with d | d
   ·exfalso;have b1:=O2 (LA d) (LA d) oo oo;have b2:=J8 o (show 0<=2 * AY f m by omega);have b3:442 * AY f m * (442 * AY f m)=195364 * (AY f m * AY f m):=by grind
    have b4:=J8 (show 1<=AY f m by omega) (show 0<=AY f m by omega);omega
   ·exact d
  have p:GH f (m+2) B []=AY f (m+1) * (AY f (m+2) * B):=by rw[KL,PK];rfl
  have w:0<=GH f (m+2) B []:=by rw[p];exact DI oo (DI oo oo)
  have r:∀ x:Int,-231<=x->x<=231->2 * HO f (m+2) B [x]>=AY f (m+1) * B:=by
   intro x d g;have e:HO f (m+2) B [x]=AY f (m+1) * B - AY f (m+2) * (x * x):=by unfold HO;rw[A2A h (by show 0<m+2;omega)];show AY f (m+2 - 1) * B - (AY f (m+2) * (x * x)+2 * (x * 0)+0)=_;rw[show m+2 - 1=m+1 by omega];omega
   rw[e];have D:x * x<=53361:=by have:=Fx (x:=x) (y:=x) (a:=231) (b:=231) oo oo;omega
   have b1:=O2 o D (A09 x) oo;have b2:=J8 hB (show 0<=AY f (m+1) by omega);have b3:=Jz (show 1<=AY f (m+1) by omega) (show (0:Int)<=1073741824 by omega);omega
  have q:∀ x:Int,-231<=x->x<=231->Cc f (m+2) B []<=x/\x<=Ct f (m+2) B []:=by intro x d g;refine (NA h (by show 0<m+2;omega) w x).2 ?_;have b1:=r x d g;have b2:=DI (show 0<=AY f (m+1) by omega) (show 0<=B by omega);omega
  have z:∀ x:Int,-231<=x->x<=231->2201<=CY f (m+2) B [x]:=by
   intro x d g;have:2 * 1101 - 1<=CY f (m+2) B [x]:=by
    refine A8p h oo ?_;show (1101 * AY f (m+2 - 1)) * (1101 * AY f (m+2 - 1))<=GH f (m+2) B [x];rw[KL];show _<=AY f (m+2 - 1 - 1) * HO f (m+2) B [x];rw[show m+2 - 1=m+1 by omega,show m+1 - 1=m by omega];have b1:=r x d g;have b2:=J8 (LA (show AY f (m+1) * B - 1<2 * HO f (m+2) B [x] by omega)) (show 0<=AY f m by omega);have b3:=J8 b1 (show 0<=AY f m by omega);have e3:AY f m * (2 * HO f (m+2) B [x])=2 * (AY f m * HO f (m+2) B [x]):=by grind
    have b4:=J8 hB (DI (show 0<=AY f m by omega) (show 0<=AY f (m+1) by omega));have e4:AY f m * AY f (m+1) * B=AY f m * (AY f (m+1) * B):=O1 _ _ _;have b5:=Jz u (show 0<=AY f (m+1) by omega);have e5:442 * AY f m * AY f (m+1)=442 * (AY f m * AY f (m+1)):=O1 _ _ _;have b6:=DI (show 0<=AY f m by omega) (show 0<=AY f (m+1) by omega);have e6:1101 * AY f (m+1) * (1101 * AY f (m+1))=1212201 * (AY f (m+1) * AY f (m+1)):=by grind
    omega
   omega
  obtain⟨l1,l2⟩:=q (-231) oo oo;obtain⟨H,I⟩:=q 231 oo oo;have C:∀ N:Nat,∀ c:Nat->Int,(∀ i,0<=c i)->∀ a k:Nat,a+k<=N->(∀ i,a<=i->i<a+k->2201<=c i)->2201 * (k:Int)<=Ay N c:=by
   intro N;induction N with
   | zero =>
        intro c j a k t l;have:k=0:=by omega
        subst this;show 2201 * ((0:Nat):Int)<=0;omega
   | succ N ih =>
    intro c j a k t l;show _<=Ay N c+c N;by_cases e:a+k<=N
    ·have:=ih c j a k e l;have:=j N;omega
    ·cases k with
     | zero =>
          have:=ih c j 0 0 oo (fun i d g=>by omega);have:=j N;omega
     | succ k =>
      have:=ih c j a k oo (fun i d g=>l i d oo);have:=l N oo oo;omega
  have E:=C (CY f (m+2) B []).toNat (fun i=>CY f (m+2) B [Cc f (m+2) B []+i]) (fun i=>KM h B _) (-231 - Cc f (m+2) B []).toNat 463 (by unfold CY;omega) (fun i d g=>z _ oo oo);have:Ay (CY f (m+2) B []).toNat (fun i=>CY f (m+2) B [Cc f (m+2) B []+i])<=b:=key;omega
variable {hv:Value}
def TE:List (Nat×TI):=(26,⟨.int .i64,1,8,.int .i64 0⟩)::TB
theorem ND:Aw prog TE:=Aw.cons underlying26 kr A8
section
variable {P:Program}{T:List (Nat×TI)}{n:Nat}{E:List (Nat×Value)}{w:World}{Q:Exit->Act->World->Prop}
theorem Ad.bH (g:Aw P T) {p q:Tmp}{tp tq:TypeId}{a b:Addr}{i j:TI}{x:Value}(r:fn.results=#[.cell p tp,.cell q tq])
  (m:AR E p=some (.pointer (some a))) (o:AR E q=some (.pointer (some b))) (u:AG T tp=some i) (z:AG T tq=some j) (k:DJ i.desc=false) (l:DJ j.desc=false)
  (t:w.cell? a=some x) (f:w.cell? b=some y) (h:Φ (.tuple #[x,y]) w):Ad n E w .ret (bodyPost P fn (AJ Φ)):=by
 intro c e;refine bodyPost_ret (v:=.tuple #[x,y]) ?_ e.defers ⟨_,rfl,h⟩;rw[UK,r];have e1:c.tmps.getD p undef=.pointer (some a):=by simp[EK,e.slots p _ m]
 have e2:c.tmps.getD q undef=.pointer (some b):=by simp[EK,e.slots q _ o]
 have a1:∀ d:Addr,(asAddr (.pointer (some d))).run P w=.ok d w:=fun d=>by simp[asAddr,go_sem]
 have l1:(loadVar tp a).run P w=.ok x w:=by simp[loadVar,FH g u,k,t,go_sem]
 have l2:(loadVar tq b).run P w=.ok y w:=by simp[loadVar,FH g z,l,f,go_sem]
 have m1:(OV c.tmps (.cell p tp)).run P w=.ok x w:=by simp only[OV,Bq,e1,a1,Bp,l1]
 have m2:(OV c.tmps (.cell q tq)).run P w=.ok y w:=by simp only[OV,Bq,e2,a1,Bp,l2]
 rw[Array.mapM_eq_mapM_toList];simp only[PW,List.mapM_nil,Bq,m1,m2,AX,Bp,map_eq_pure_bind];rfl
theorem A3T {D:Nat}{a:Act}(d:DM n E a) (g:HI l=true) (c:¬ LetsOut Q) (h:Af P n E w l.toArray l (fun e a w=>Exit.then (Code.ret.wp P Q) Q e (SJ D a) w)):(Code.seq (.region id l.toArray false) .ret).wp P Q (SJ D a) w :=
 wp_seq (wp_region_lit (Ka l a w (h a d) g c))
theorem Ad.markRet {D:Nat}(c:w.heap[D]?=some (.deferred (some []))) (h:Ad n E (w.putObj D (.deferred none)) .ret (bodyPost P fn (AJ Φ))) :
  Ad n E w .normal (fun e a w=>Exit.then (Code.ret.wp P (bodyPostM Fence.wide 0 P fn (AJ Φ))) (bodyPostM Fence.wide 0 P fn (AJ Φ)) e (SJ D a) w):=fun a d=>wp_ret (VC d c h)
end
theorem Mm (w:World) (L:Nat) (o:Obj):CE L w (w.putObj L o):=⟨rfl,rfl,rfl,by simp,fun k _ c=>World.putObj_heap_other c⟩
theorem A1Q {w:World}{o o':Obj}(h:w.heap[L]?=some o'):(w.putObj L o).heap[L]?=some o:=by have c:=(Gt.1 h).1;simp[World.putObj,c]
structure A9a (w0:World) (n b6 b7 b8 bs b9 L D:Nat) (rec:Loop) (s:Int×List Int) (w:World):Prop where
 ext:Ac w0 w
 r6:Aj 117 w b6 [.slice none 0 0]
 r7:Aj 26 w b7 [.int .i64 0]
 st:Aj 117 w b8 [.slice (some ⟨bs,0,none⟩) n n]
 row:Aj 3 w bs (s.2.map DZ)
 len:s.2.length=n
 left:Aj 2 w b9 [.int .i64 s.1]
 pos:0<=s.1/\s.1<=1000000
 ent:∀ y ∈ s.2,0<=y/\y<=1000000 - s.1
 loop:w.heap[L]?=some (.loop rec)
 defer:w.heap[D]?=some (.deferred (some []))
structure A9w (w0:World) (b6 b7 L D:Nat) (rec:Loop) (w:World):Prop where
 ext:Ac w0 w
 r6:Aj 117 w b6 [.slice none 0 0]
 r7:Aj 26 w b7 [.int .i64 9]
 loop:w.heap[L]?=some (.loop { rec with state:=.done,pending:=some .ret })
 defer:w.heap[D]?=some (.deferred (some []))
theorem CE.obj {w:World}{o:Obj}(hu:CE b w w') (h:w.heap[k]?=some o) (c:k≠b):w'.heap[k]?=some o:=(hu.block k (Gt.1 h).1 c).trans h
def Fy (B b:Int):Prop:=0<=B/\B<=4611686018427387904/\0<=b/\b<=1000000
def Yz (w:World) (x:Value) (M:List (List Int)) (B b:Int):Prop :=
 (¬ Ie M->x=.tuple #[.slice none 0 0,.int .i64 6])/\(Ie M->¬ Fy B b->x=.tuple #[.slice none 0 0,.int .i64 1]) /\
 (Ie M->Fy B b->Dh (ent M) M.length B M.length [] (b,List.replicate M.length 0)=none->x=.tuple #[.slice none 0 0,.int .i64 9]) /\
 (Ie M->Fy B b->∀ s',Dh (ent M) M.length B M.length [] (b,List.replicate M.length 0)=some s'->∃ v,x=.tuple #[v,.int .i64 0]/\Nh w v s'.2)
theorem Tq {w:World}{b:Int}(h:Ft w hv M) (hl:M.length<=1000000) :
  Calls prog 93 #[hv,.int .i64 B,.int .i64 b] w (AJ fun x w'=>Ac w w'/\Yz w' x M B b):=by
 obtain⟨ph,ch,e⟩:=h.len;subst e;refine Yx (args:=[_,_,_]) func93 rfl ntmps93 rfl ?_;refine Nv ?_;refine .s (oA) ?_;rintro _ w1 ⟨rfl,l,uo,uq⟩;refine .s (Av.alloc ND rfl) ?_;rintro _ w2 ⟨rfl,B7,kp,u7⟩;have ka:=uo.trans kp;replace l:=l.ext kp;have k7:=l.lt;refine Af.nil (Ad.ak ?_);refine St.cut (fun _:Unit=>[(0,.slice ph M.length ch),(1,.int .i64 B),(2,.int .i64 b),(6,.pointer (some ⟨w.heap.size,0,none⟩)),(7,.pointer (some ⟨w1.heap.size,0,none⟩))]) (fun _ w'=>Ac w2 w'/\Ie M/\Fy B b/\(M.length≠1->B<1073741824)) ?_ ?_;rotate_left
 ·rintro _ w3 ⟨O,q,W,ky⟩;have J:=ka.trans O;replace l:=l.ext O;replace B7:=B7.ext O;have hf:=q.bq.1;have hn:1<=M.length/\M.length<=8:=⟨q.1.1,q.2.2.1⟩;have g:=(q.at h).ext J;have key:∀ (x:Value) (w':World),((Dh (ent M) M.length B M.length [] (b,List.replicate M.length 0)=none->x=.tuple #[.slice none 0 0,.int .i64 9])/\(∀ s',Dh (ent M) M.length B M.length [] (b,List.replicate M.length 0)=some s'->∃ v,x=.tuple #[v,.int .i64 0]/\Nh w' v s'.2))->Yz w' x M B b:=fun x w' hh=>⟨fun o=>absurd q o,fun _ g=>absurd W g,fun _ _=>hh.1,fun _ _=>hh.2⟩;obtain⟨kw,kx,k5,k6⟩:=W;generalize ent M=f at *
  generalize u1:M.length=n at *
  clear q k7;refine A7 ?_;refine .s (Av.make A8 n rfl rfl rfl rfl rfl rfl rfl rfl (by show n * 8<=_;omega) oo) ?_;rintro _ D ⟨rfl,V,kc,u8⟩;refine .s (oA) ?_;rintro _ Y ⟨rfl,B8,kr,u9⟩;refine Af.step0 rfl rfl (Av.store A8 (vs:=[_]) rfl rfl rfl rfl rfl B8 (Ai 1) (by simp[Value.oneCell'])) ?_;rintro _ Q ⟨Z,kn⟩;replace Z:Aj 117 Q D.heap.size [.slice (some ⟨w3.heap.size,0,none⟩) n n]:=Z;refine A7 ?_;refine .s (oA) ?_;rintro _ w7 ⟨rfl,B9,ks,va⟩;refine Af.step0 rfl rfl (Av.store A8 (vs:=[_]) rfl rfl rfl rfl rfl B9 (Ai 1) (by simp[Value.oneCell'])) ?_;rintro _ w8 ⟨he,ko⟩;replace he:Aj 2 w8 Q.heap.size [.int .i64 b]:=he;have us:=l.lt;have ut:=B7.lt;have u3:=V.lt;have uu:=Z.lt;have hx:Ac D Q:=kr.aj kn AO;have hz:Ac Q w8:=ks.aj ko AO;have hd:Ac w3 w8:=(kc.trans hx).trans hz;have kq:Ac D w8:=hx.trans hz;have un:=J.trans hd;replace l:=l.ext hd;replace B7:=B7.ext hd;replace V:Aj 3 w8 w3.heap.size ((List.replicate n (0:Int)).map DZ):=by have:=V.ext kq;rw[G9];exact this
  replace B8:=Z.ext hz;replace g:=g.ext hd;have u4:=kc.size;have u5:=hx.size;have ur:w.heap.size<w1.heap.size:=by have:=uq;omega
  have uv:=he.lt;clear kc kr ks kn ko B9 Z hx hz kq hd;refine A7 ?_;refine .s (oK Rs (Yv g hn hf)) ?_;rintro _ E ⟨X,bw,bx,rfl,uw,hW,BX⟩;replace l:=l.ext X;replace B7:=B7.ext X;replace V:=V.ext X;replace B8:=B8.ext X;replace B9:=he.ext X;have kb:=un.trans X;have ux:=BX.lt;refine A7 ?_;refine .p (A0.func rfl rfl) ?_;refine Af.nil (Ad.ak (St.block ?_));refine St.sub (E':=[(6,.pointer (some ⟨w.heap.size,0,none⟩)),(7,.pointer (some ⟨w1.heap.size,0,none⟩)),(8,.pointer (some ⟨D.heap.size,0,none⟩)),(9,.pointer (some ⟨Q.heap.size,0,none⟩)),(42,.func (.func 137) #[.pointer (some ⟨bw,0,none⟩)] #[])]) ?_ AL;refine St.rangeFunc OE rfl ?_;intro a fi rec ha U;obtain⟨L,kj⟩:∃ L,L=E.heap.size+1:=⟨_,rfl⟩;rw[<- kj];obtain⟨T,hw⟩:∃ T,T=(E.alloc (.deferred (some []))).alloc (.loop rec):=⟨_,rfl⟩;rw[<- hw];have P:Ac E T:=by rw[hw];exact (Da _ _).trans (Da _ _)
  have k2:T.heap[L]?=some (.loop rec):=by rw[hw,kj];have:=World.alloc_heap_new (E.alloc (.deferred (some []))) (.loop rec);rwa [World.size_alloc]at this
  have kz:T.heap[E.heap.size]?=some (.deferred (some [])):=by rw[hw];exact (Below.heap_alloc _ _ _ sm).trans (World.alloc_heap_new E _)
  have hq:rec.state=.ready:=by rw[U]
  have h8:rec.pending=none:=by rw[U]
  have hY:Yc bx E.heap.size L (A9a w n w.heap.size w1.heap.size D.heap.size w3.heap.size Q.heap.size L E.heap.size rec) (A9w w w.heap.size w1.heap.size L E.heap.size rec) n:=by
   refine⟨?_,?_⟩
   ·intro s w' w'' d hu;exact⟨d.ext.aj hu oo,d.r6.upd hu oo,d.r7.upd hu oo,d.st.upd hu oo,d.row.upd hu oo,d.len,d.left.upd hu oo,d.pos,d.ent,hu.obj d.loop oo,hu.obj d.defer oo⟩
   ·intro s w' m c d hm uy uz u0;refine⟨rec,d.loop,by rw[U];rfl,?_⟩;obtain⟨wb,h9⟩:∃ wb,wb=w'.putObj L (.loop { rec with state:=.busy }):=⟨_,rfl⟩;have A:CE L w' wb:=by rw[h9];exact Mm _ _ _
    have ki:wb.heap[L]?=some (.loop { rec with state:=.busy }):=by rw[h9];exact A1Q d.loop
    have ub:=A1N (r:=rec) (p1:=43) (p2:=44) (v1:=.int .i64 ((m+1:Nat):Int)) (v2:=.int .i64 c) ha (by rw[U]) (by rw[U]) rfl rfl;refine A5s (E1:=[(6,.pointer (some ⟨w.heap.size,0,none⟩)),(7,.pointer (some ⟨w1.heap.size,0,none⟩)),(8,.pointer (some ⟨D.heap.size,0,none⟩)),(9,.pointer (some ⟨Q.heap.size,0,none⟩)),(11,.int .i64 ((m+1:Nat):Int)),(12,.int .i64 c)]) ub d.loop hq ?_ ?_
    ·rw[show rec.assign=_ from by rw[U]];refine MH.seq (MH.region ?_ rfl (Af.run A8 99 rfl (Af.nil (Ad.cB (MH.region ?_ rfl (Af.run A8 99 rfl (Af.nil ?_)))))))
     ·exact fun ⟨_,_,h⟩=>h
     ·exact fun ⟨_,_,h⟩=>h
     ·exact fun a1 H=>⟨H.sub AL,rfl⟩
    ·rw[<- h9];have u2:∀ {R:Ending->World->Prop},¬ LetsOut (roundPost prog L R):=K9;have ui:=d.left.upd A oo;have hk:=d.r6.upd A oo;have ho:=d.r7.upd A oo;have kk:=d.st.upd A oo;have h7:=d.row.upd A oo;have kh:=A.obj d.defer oo;have kt:Ac w wb:=d.ext.aj A oo;rw[show rec.body=_ from by rw[U]];refine MH.block (MH.seq (MH.seq (MH.region ?_ rfl ?_)))
     ·exact Ij (Ij (Ik K9))
     refine .r rfl ?_;refine .p FW ?_;by_cases hg:s.1<c
     ·refine .a 1 (.bool true) rfl (Aa hg) ?_;refine Af.nil (Ad.cB (MH.aD rfl (MH.seq (MH.region ?_ rfl ?_))))
      ·exact Ij (Ij (Ik K9))
      refine Af.step0 rfl rfl (Av.store A8 (vs:=[.slice none 0 0]) rfl rfl rfl rfl rfl hk (Ai 1) (by simp[Value.oneCell'])) ?_;rintro _ wc ⟨ue,k⟩;refine Af.step0 rfl rfl (Av.store ND (vs:=[.int .i64 9]) rfl rfl rfl rfl rfl (ho.upd k oo) (Ai 1) (by simp[Value.oneCell'])) ?_;rintro _ wd ⟨ug,u⟩;refine Af.nil (Ad.cB (MH.ret ?_));intro a2 k4;have hc:=u.obj (k.obj ki oo) oo;have h0:=u.obj (k.obj kh oo) oo;have C:=Mm wd L (.loop { rec with state:=.done,pending:=some .ret });refine⟨_,_,run_endRound (some .ret) hc,false,rfl,?_,?_,fun _=>⟨rfl,?_⟩,fun h=>absurd hg h⟩
      ·intro j H I;have N:j<w'.heap.size:=by omega
       have e1:=A.block j N oo;have e2:=k.block j (CW N A.size) oo;have e3:=u.block j (CW N (Ar A.size k.size)) oo;have e4:=C.block j (CW N (Ar (Ar A.size k.size) u.size)) oo;exact ((e4.trans e3).trans e2).trans e1
      ·exact Ar (Ar (Ar A.size k.size) u.size) C.size
      ·exact⟨((kt.aj k AO).aj u oo).aj C oo,(ue.upd u oo).upd C oo,ug.upd C oo,A1Q hc,C.obj h0 oo⟩
     ·refine .a 1 (.bool false) rfl (A9 hg) ?_;refine Af.nil (Ad.cB (MH.ay rfl (MH.skip (Ad.cB (MH.seq (MH.region ?_ rfl ?_))))))
      ·exact Ij (Ik K9)
      have uc:m<s.2.length:=by rw[d.len];exact hm
      have kv:s.2[m]?=some (yv s.2 m):=by unfold yv;rw[Bd,DH uc];rfl
      have u6:=d.ent _ (Bi kv);have hp:=d.pos;refine .p FW ?_;refine .a 2 (.int .i64 (s.1 - c)) rfl (by rw[Ab oo oo]) ?_;refine Af.step0 rfl rfl (Av.store A8 (vs:=[_]) rfl rfl rfl rfl rfl ui (Ai 1) (by simp[Value.oneCell'])) ?_;rintro _ wc ⟨h6,k⟩;replace h6:Aj 2 wc Q.heap.size [.int .i64 (s.1 - c)]:=h6;have uh:=kk.upd k oo;have kl:=h7.upd k oo;refine Af.nil (Ad.cB (MH.region ?_ rfl ?_))
      ·exact Ik K9
      have k9:wc.cell? (Addr.add ⟨w3.heap.size,0,none⟩ m)=some (.int .i64 (yv s.2 m)):=by rw[Ak,AE];exact kl.cell (by rw[J7,kv];rfl)
      refine .p FW ?_;refine .a 2 (.int .i64 (m:Int)) rfl (by rw[Ab oo oo];congr 1;omega) ?_;refine .p (A0.ia) ?_;refine .p (rL k9) ?_;refine .a 2 (.int .i64 (yv s.2 m+c)) rfl (by rw[Ab oo oo]) ?_;refine Af.put A8 m kl rfl hm (by rw[Bj,d.len];omega) rfl rfl rfl rfl rfl rfl rfl rfl (fun _=>rfl) (fun _=>rfl) rfl rfl ?_;intro pd wd km u;rw[AE,show (s.2.map DZ).set m (.int .i64 (yv s.2 m+c))=(GZ s.2 m c).map DZ from by rw[Vz,Gx]]at km;refine Af.nil ?_;intro a2 k4;have hc:=u.obj (k.obj ki oo) oo;have h0:=u.obj (k.obj kh oo) oo;have C:=Mm wd L (.loop { rec with state:=.ready,pending:=none });have uk:({ rec with state:=.ready,pending:=none }:Loop)=rec:=by cases rec;simp only at hq h8;subst hq h8;rfl
      refine⟨_,_,run_endRound none hc,true,rfl,?_,?_,fun h=>absurd h hg,fun _=>⟨rfl,?_⟩⟩
      ·intro j H I;have N:j<w'.heap.size:=by omega
       have e1:=A.block j N oo;have e2:=k.block j (CW N A.size) oo;have e3:=u.block j (CW N (Ar A.size k.size)) oo;have e4:=C.block j (CW N (Ar (Ar A.size k.size) u.size)) oo;exact ((e4.trans e3).trans e2).trans e1
      ·exact Ar (Ar (Ar A.size k.size) u.size) C.size
      ·refine⟨((kt.aj k oo).aj u oo).aj C oo,((hk.upd k oo).upd u oo).upd C oo,((ho.upd k oo).upd u oo).upd C oo,(uh.upd u oo).upd C oo,km.upd C oo,by show (GZ s.2 m c).length=n;rw[Vy];exact d.len,(h6.upd u oo).upd C oo,⟨by show 0<=s.1 - c;omega,by show s.1 - c<=_;omega⟩,?_,?_,C.obj h0 oo⟩
       ·intro y hy;show 0<=y/\y<=1000000 - (s.1 - c);have ku:y ∈ GZ s.2 m c:=hy;rw[Vz]at ku;rcases LF ku with H | H
        ·have:=d.ent y H;omega
        ·omega
       ·exact (A1Q hc).trans (by show some (Obj.loop { rec with state:=.ready,pending:=none })=_;rw[uk])
  have k1:A9a w n w.heap.size w1.heap.size D.heap.size w3.heap.size Q.heap.size L E.heap.size rec (b,List.replicate n 0) T :=
   ⟨kb.trans P,l.ext P,B7.ext P,B8.ext P,V.ext P,by simp,B9.ext P,⟨k5,k6⟩,fun y hy=>by rw[BU hy];show (0:Int)<=0/\0<=1000000 - b;omega,k2,kz⟩
  have k8:=A1P (w:=T) (xs:=List.replicate n 0) hf hn ⟨kw,kx⟩ ky hW hY ⟨P.size,fun j _ I=>P.block j I⟩ (by rw[G9];exact BX.ext P) sm k1;refine (show Calls prog _ (#[.pointer (some ⟨bw,0,none⟩)]++#[.func (.yield L) #[] #[]]++#[]) T _ from k8).mono ?_;rintro e wB ⟨v,rfl,ud,ul⟩;refine⟨v,rfl,?_⟩;cases hv:Dh f n B n [] (b,List.replicate n 0) with
  | none =>
   have hX:=ud hv;refine⟨_,hX.loop,by simp,.inr ⟨rfl,?_⟩⟩;have hu:=Mm wB L (.loop { { rec with state:=.done,pending:=some .ret } with state:=.exhausted });have h3:=hu.obj hX.defer oo;have S:=Mm (wB.putObj L (.loop { { rec with state:=.done,pending:=some .ret } with state:=.exhausted })) E.heap.size (.deferred none);show bodyPostM Fence.wide 0 prog _ _ .ret (SJ _ a) _;refine VC ha h3 ?_;exact Ad.bH ND rfl rfl rfl rfl rfl rfl rfl (((hX.r6.upd hu oo).upd S oo).cell rfl) (((hX.r7.upd hu oo).upd S oo).cell rfl) ⟨(hX.ext.aj hu oo).aj S (by have:=kb.size;omega),key _ _ ⟨fun _=>rfl,fun s' d=>by rw[hv]at d;cases d⟩⟩
  | some s' =>
   have K:=ul s' hv;refine⟨rec,K.loop,by rw[hq];simp,.inl ⟨h8,?_⟩⟩;have hu:=Mm wB L (.loop { rec with state:=.exhausted });obtain⟨wC,um⟩:∃ wC,wC=wB.putObj L (.loop { rec with state:=.exhausted }):=⟨_,rfl⟩;rw[<- um]at hu ⊢;have hk:=K.r6.upd hu oo;have ho:=K.r7.upd hu oo;have kk:=K.st.upd hu oo;have h7:=K.row.upd hu oo;have h3:=hu.obj K.defer oo;have up:Ac w wC:=K.ext.aj hu oo;refine A3T ha rfl A8o ?_;refine .p FW ?_;refine Af.step0 rfl rfl (Av.store A8 (vs:=[_]) rfl rfl rfl rfl rfl hk (Ai 1) (by simp[Value.oneCell'])) ?_;rintro _ wD ⟨h5,hr⟩;replace h5:Aj 117 wD w.heap.size [.slice (some ⟨w3.heap.size,0,none⟩) n n]:=h5;refine Af.step0 rfl rfl (Av.store ND (vs:=[.int .i64 0]) rfl rfl rfl rfl rfl (ho.upd hr oo) (Ai 1) (by simp[Value.oneCell'])) ?_;rintro _ wE ⟨uf,ht⟩;have k0:=ht.obj (hr.obj h3 oo) oo;have S:=Mm wE E.heap.size (.deferred none);have uj:=((h7.upd hr oo).upd ht oo).upd S oo;refine Af.nil (Ad.markRet k0 (Ad.bH ND rfl rfl rfl rfl rfl rfl rfl (((h5.upd ht oo).upd S oo).cell rfl) ((uf.upd S oo).cell rfl) ⟨((up.aj hr AO).aj ht oo).aj S (by have:=kb.size;omega),key _ _ ⟨fun d=>(by rw[hv]at d;cases d),fun s2 d=>?_⟩⟩));rw[hv]at d;cases d;refine⟨_,rfl,⟨some ⟨w3.heap.size,0,none⟩,n,by rw[Bj,K.len],by rw[Bj,K.len];omega,fun e=>(by cases e),?_⟩⟩;rintro a' k3 i c hi;cases k3;rw[Ak,AE];exact uj.cell hi
 refine A7 ?_;refine .s (oK KS (Nu (h.ext ka) hl)) ?_;rintro _ w3 ⟨O,bR,rfl,hb⟩;have J:=ka.trans O;replace l:=l.ext O;replace B7:=B7.ext O;have fail:∀ (e:Int) (w':World),Aj 117 w' w.heap.size [.slice none 0 0]->Aj 26 w' w1.heap.size [.int .i64 e]->w'.cell? ⟨w.heap.size,0,none⟩=some (.slice none 0 0)/\w'.cell? ⟨w1.heap.size,0,none⟩=some (.int .i64 e):=fun e w' H I=>⟨H.cell rfl,I.cell rfl⟩;cases bR
 ·have h4:¬ Ie M:=fun o=>absurd (hb.2 o) sm;refine A7 ?_;refine .ct ?_;refine Af.step0 rfl rfl (Av.store A8 (vs:=[.slice none 0 0]) rfl rfl rfl rfl rfl l (Ai 1) (by simp[Value.oneCell'])) ?_;rintro _ D ⟨F,z⟩;refine Af.step0 rfl rfl (Av.store ND (vs:=[.int .i64 6]) rfl rfl rfl rfl rfl (B7.upd z oo) (Ai 1) (by simp[Value.oneCell'])) ?_;rintro _ Y ⟨G,t⟩;refine A7 ?_;refine Ad.bS (Ad.bH ND rfl rfl rfl rfl rfl rfl rfl ((F.upd t oo).cell rfl) (G.cell rfl) ⟨(J.aj z AO).aj t oo,fun _=>rfl,fun o=>absurd o h4,fun o=>absurd o h4,fun o=>absurd o h4⟩)
 have q:=hb.1 rfl;refine .r rfl ?_;refine Nv ?_;refine .cF ?_;refine Nv ?_;by_cases kd:B<0
 ·refine .a 2 (.bool true) rfl (Aa kd) ?_;refine A7 ?_;refine .ct ?_;refine .ct ?_;refine Af.step0 rfl rfl (Av.store A8 (vs:=[.slice none 0 0]) rfl rfl rfl rfl rfl l (Ai 1) (by simp[Value.oneCell'])) ?_;rintro _ D ⟨F,z⟩;refine Af.step0 rfl rfl (Av.store ND (vs:=[.int .i64 1]) rfl rfl rfl rfl rfl (B7.upd z oo) (Ai 1) (by simp[Value.oneCell'])) ?_;rintro _ Y ⟨G,t⟩;refine A7 ?_;exact Ad.bS (Ad.bH ND rfl rfl rfl rfl rfl rfl rfl ((F.upd t oo).cell rfl) (G.cell rfl) ⟨(J.aj z AO).aj t oo,fun o=>absurd q o,fun _ _=>rfl,fun _ g=>absurd g (by unfold Fy;omega),fun _ g=>absurd g (by unfold Fy;omega)⟩)
 refine .a 2 (.bool false) rfl (A9 kd) ?_;refine A7 ?_;refine .cF ?_;refine Nv ?_;by_cases ke:B > 4611686018427387904
 ·refine .a 2 (.bool true) rfl (Aa ke) ?_;refine A7 ?_;refine .ct ?_;refine .ct ?_;refine Af.step0 rfl rfl (Av.store A8 (vs:=[.slice none 0 0]) rfl rfl rfl rfl rfl l (Ai 1) (by simp[Value.oneCell'])) ?_;rintro _ D ⟨F,z⟩;refine Af.step0 rfl rfl (Av.store ND (vs:=[.int .i64 1]) rfl rfl rfl rfl rfl (B7.upd z oo) (Ai 1) (by simp[Value.oneCell'])) ?_;rintro _ Y ⟨G,t⟩;refine A7 ?_;exact Ad.bS (Ad.bH ND rfl rfl rfl rfl rfl rfl rfl ((F.upd t oo).cell rfl) (G.cell rfl) ⟨(J.aj z AO).aj t oo,fun o=>absurd q o,fun _ _=>rfl,fun _ g=>absurd g (by unfold Fy;omega),fun _ g=>absurd g (by unfold Fy;omega)⟩)
 refine .a 2 (.bool false) rfl (A9 ke) ?_;refine A7 ?_;refine .cF ?_;refine Nv ?_;by_cases kf:b<0
 ·refine .a 2 (.bool true) rfl (Aa kf) ?_;refine A7 ?_;refine .ct ?_;refine .ct ?_;refine Af.step0 rfl rfl (Av.store A8 (vs:=[.slice none 0 0]) rfl rfl rfl rfl rfl l (Ai 1) (by simp[Value.oneCell'])) ?_;rintro _ D ⟨F,z⟩;refine Af.step0 rfl rfl (Av.store ND (vs:=[.int .i64 1]) rfl rfl rfl rfl rfl (B7.upd z oo) (Ai 1) (by simp[Value.oneCell'])) ?_;rintro _ Y ⟨G,t⟩;refine A7 ?_;exact Ad.bS (Ad.bH ND rfl rfl rfl rfl rfl rfl rfl ((F.upd t oo).cell rfl) (G.cell rfl) ⟨(J.aj z AO).aj t oo,fun o=>absurd q o,fun _ _=>rfl,fun _ g=>absurd g (by unfold Fy;omega),fun _ g=>absurd g (by unfold Fy;omega)⟩)
 refine .a 2 (.bool false) rfl (A9 kf) ?_;refine A7 ?_;refine .cF ?_;refine Nv ?_;by_cases kg:b > 1000000
 ·refine .a 2 (.bool true) rfl (Aa kg) ?_;refine A7 ?_;refine .ct ?_;refine Af.step0 rfl rfl (Av.store A8 (vs:=[.slice none 0 0]) rfl rfl rfl rfl rfl l (Ai 1) (by simp[Value.oneCell'])) ?_;rintro _ D ⟨F,z⟩;refine Af.step0 rfl rfl (Av.store ND (vs:=[.int .i64 1]) rfl rfl rfl rfl rfl (B7.upd z oo) (Ai 1) (by simp[Value.oneCell'])) ?_;rintro _ Y ⟨G,t⟩;refine A7 ?_;exact Ad.bS (Ad.bH ND rfl rfl rfl rfl rfl rfl rfl ((F.upd t oo).cell rfl) (G.cell rfl) ⟨(J.aj z AO).aj t oo,fun o=>absurd q o,fun _ _=>rfl,fun _ g=>absurd g (by unfold Fy;omega),fun _ g=>absurd g (by unfold Fy;omega)⟩)
 refine .a 2 (.bool false) rfl (A9 kg) ?_;refine A7 ?_;refine .cF ?_;refine Nv ?_;have W:Fy B b:=⟨by omega,by omega,by omega,by omega⟩;have hf:=q.bq.1;have hn:1<=M.length/\M.length<=8:=⟨q.1.1,q.2.2.1⟩;have g:=(q.at h).ext J;have ua:M.length > 1->B>=1073741824->Dh (ent M) M.length B M.length [] (b,List.replicate M.length 0)=none:=fun H I=>A7c hf oo I ⟨by omega,by omega⟩ _;by_cases H:M.length > 1
 ·refine .a 3 (.bool true) rfl (Aa oo) ?_;by_cases I:B>=1073741824
  ·refine .a 3 (.bool true) rfl (Aa I) ?_;refine A7 ?_;refine .ct ?_;refine Af.step0 rfl rfl (Av.store A8 (vs:=[.slice none 0 0]) rfl rfl rfl rfl rfl l (Ai 1) (by simp[Value.oneCell'])) ?_;rintro _ D ⟨F,z⟩;refine Af.step0 rfl rfl (Av.store ND (vs:=[.int .i64 9]) rfl rfl rfl rfl rfl (B7.upd z oo) (Ai 1) (by simp[Value.oneCell'])) ?_;rintro _ Y ⟨G,t⟩;refine A7 ?_;exact Ad.bS (Ad.bH ND rfl rfl rfl rfl rfl rfl rfl ((F.upd t oo).cell rfl) (G.cell rfl) ⟨(J.aj z AO).aj t oo,fun o=>absurd q o,fun _ g=>absurd W g,fun _ _ _=>rfl,fun _ _ s' d=>by rw[ua H I]at d;cases d⟩)
  ·refine .a 3 (.bool false) rfl (A9 I) ?_;refine A7 ?_;refine .cf ?_;exact Ad.met () AL ⟨O,q,W,fun _=>by omega⟩
 ·refine .a 3 (.bool false) rfl (A9 oo) ?_;refine A7 ?_;refine .cf ?_;exact Ad.met () AL ⟨O,q,W,fun h=>absurd h oo⟩
def sL (cs:List Int):Int:=Ay cs.length (yv cs)
theorem Mn (x:Int) (t:List Int):sL (x::t)=x+sL t:=by unfold sL;rw[BR,FQ,Ml];rfl
theorem A7d {cs:List Int}(hm:m<cs.length) (c:Int):sL (GZ cs m c)=sL cs+c:=by
 induction cs generalizing m with
 | nil=>simp at hm
 | cons x t ih=>cases m with
  | zero=>show sL ((x+c)::t)=_;rw[Mn,Mn];omega
  | succ m=>show sL (x::GZ t m c)=_;rw[Mn,Mn,ih (by simpa using hm)];omega
theorem A3U (cs:List Int) (m:Nat):GZ cs m 0=cs:=by
 induction cs generalizing m with
 | nil=>rfl
 | cons x t ih=>cases m with
  | zero=>show (x+0)::t=_;rw[Q7]
  | succ m=>show x::GZ t m 0=_;rw[ih]
theorem Xf {cs:List Int}(h:∀ y ∈ cs,0<=y):0<=sL cs:=by
 induction cs with
 | nil=>exact Gy _
 | cons x t ih =>
  rw[Mn];have:=h x sm;have:=ih (fun y hy=>h y (by simp[hy]));omega
theorem A5w {cs:List Int}(h:∀ y ∈ cs,0<=y) {y:Int}(hy:y ∈ cs):y<=sL cs:=by
 induction cs with
 | nil=>simp at hy
 | cons x t ih =>
  rw[Mn];have h1:=h x sm;have h2:=Xf (fun y hy=>h y (by simp[hy]):∀ y ∈ t,0<=y);rcases Cw.1 hy with e | e
  ·omega
  ·have:=ih (fun y hy=>h y (by simp[hy])) e;omega
theorem A0a {cs:List Int}{c:Int}(h:∀ y ∈ cs,0<=y) (hc:0<=c):∀ y ∈ GZ cs m c,0<=y:=by
 induction cs generalizing m with
 | nil=>intro y hy;simp[GZ]at hy
 | cons x t ih =>
  intro y hy;cases m with
  | zero =>
   have hy':y ∈ (x+c)::t:=hy;rcases Cw.1 hy' with e | e
   ·have:=h x sm;omega
   ·exact h y (by simp[e])
  | succ m =>
   have hy':y ∈ x::GZ t m c:=hy;rcases Cw.1 hy' with e | e
   ·rw[e];exact h x sm
   ·exact ih (fun y hy=>h y (by simp[hy])) y e
theorem Xg {a d M:Int}(hd:0<d) (h:-(d * M)<=a/\a<=d * M):-M<=a / d/\a / d<=M:=by
 constructor
 ·refine (U4 hd).2 ?_;rw[Jv,HT];exact h.1
 ·exact Int.ediv_le_of_le_mul hd (by rw[HT];exact h.2)
theorem A0b (hR:BQ n f) (hn:n<=8) (hl:ys.length<n) (hB:0<=B/\B<=4611686018427387904) (hre:0<=HO f n B ys):T64 ys/\(-72057594037927936<=Cc f n B ys/\Cc f n B ys<=72057594037927936)/\(-72057594037927936<=Ct f n B ys/\Ct f n B ys<=72057594037927936):=by
 have hd:=CV hR.pos (show n - ys.length<=n by omega);have hbnd:=FR hR hn (R:=140737488355328) hB.1 oo ys oo hre;have hpow:(2:Nat) ^ ys.length<=2 ^ 8:=DB de oo;have haS:aS ys<=36028797018963968:=by
  have:=HV 140737488355328 hpow;have e8:(2:Nat) ^ 8=256:=by decide
  omega
 have hli:=QQ hR hl;have hsq:=(NC hR hn (ys:=ys) oo hB.1).1;have hsq0:0<=GH f n B ys:=(HG hR B).1 hre;obtain⟨r,hr⟩:∃ r,r=Jo (GH f n B ys).natAbs:=⟨_,rfl⟩;have hroot:EW (GH f n B ys).natAbs r:=by rw[hr];exact EI _
 have hrb:r<=140737488355328:=by have h1:=(Lh hroot r).1 oo;have h2:=QS (u:=r) (R:=140737488355328) oo oo;omega
 have hdr:=Jz (show 1<=AY f (n - ys.length) by omega) (show (0:Int)<=140737488355328 by omega);have hda:=DI (show 0<=AY f (n - ys.length) by omega) (show (0:Int)<=aS ys by omega);have hdm:AY f (n - ys.length) * ((aS ys:Int)+140737488355328)=AY f (n - ys.length) * aS ys+AY f (n - ys.length) * 140737488355328:=LQ _ _ _;have b1:=Xg (a:=DG f n ys+(r:Int)) (d:=AY f (n - ys.length)) (M:=(aS ys:Int)+140737488355328) hd oo;have b2:=Xg (a:=(r:Int) - DG f n ys) (d:=AY f (n - ys.length)) (M:=(aS ys:Int)+140737488355328) hd oo;refine⟨fun y hy=>?_,?_,?_⟩
 ·have:=A5q hy;omega
 ·unfold Cc Mi;rw[<- hr];omega
 ·unfold Ct Mj;rw[<- hr];omega
theorem Uj {a:Int}(h:-72057594037927936<=a/\a<=72057594037927936):Yq a=a:=if_pos oo
section
variable (bc n:Nat)(f:Nat->Nat->Int)(B b:Int)
def YA (j:Nat):Prop:=∀ (ys cs:List Int) (w:World) (x tv:Value),ys.length+j=n->Nh w tv ys->WM bc tv->FrV w x n f->Aj 3 w bc (cs.map DZ)->cs.length=n->(∀ y ∈ cs,0<=y)->sL cs<=b->0<=HO f n B ys ->
 Calls prog 123 #[x,.int .i64 B,tv,.slice (some ⟨bc,0,none⟩) n n,.int .i64 b] w (AJ fun r w'=>CE bc w w'/\(Dh f n B j ys (b - sL cs,cs)=none->r=.bool false) /\
  ∀ s',Dh f n B j ys (b - sL cs,cs)=some s'->r=.bool true/\Aj 3 w' bc (s'.2.map DZ)/\s'.2.length=n/\(∀ y ∈ s'.2,0<=y)/\s'.1=b - sL s'.2/\sL s'.2<=b)
end
section
variable {w w':World}{q:Nat}{C:List Int}(hu:CE q w w')(hB:Aj 3 w q (C.map DZ))
include hu hB
theorem A3V {a:Addr}(h:w.cell? a=some z) (hz:∀ m,z≠.int .i64 m):w'.cell? a=some z:=by refine hu.cell h fun e=>?_;have:=KA hB h e;simp only[CG]at this;obtain⟨m,_,rfl⟩:=this;exact hz m rfl
theorem VE {v:Value}(h:Jk e w v cs) (hz:∀ z ∈ cs,∀ m,z≠.int .i64 m):Jk e w' v cs:=by obtain⟨p,cap,hv,hl,h0,hc⟩:=h;exact⟨p,cap,hv,hl,h0,fun a ha i c hi=>A3V hu hB (hc a ha i c hi) (hz c (Bi hi))⟩
theorem A7e {v:Value}{a:Int}(h:Dn w v a):Dn w' v a:=by obtain⟨neg,xs,⟨p,cap,hv,hs⟩,h2,h3⟩:=h;refine⟨neg,xs,⟨p,cap,hv,VE hu hB hs.1 (fun z hz m e=>?_),hs.2⟩,h2,h3⟩;simp only[CG]at hz;obtain⟨x,_,rfl⟩:=hz;cases e
theorem A5x {p:Option Addr}{a:Int}(h:At2 w p i u) (hd:Dn w u a):At2 w' p i u:=by obtain⟨b,o,e,D,hp,hb,h1,h2⟩:=h;refine⟨b,o,e,D,hp,hb.upd hu fun eq=>?_,h1,h2⟩;subst eq;have e2:=hb.same hB;subst e2;obtain⟨neg,xs,⟨p',cap,hv,_⟩,_⟩:=hd;rw[hv]at h1;have:Value.bool neg ∈ (C.map DZ):=NN (HU (i:=2) (l:=(C.map DZ).drop (o+2 * i)) (by rw[h1];exact List.mem_cons_self));simp at this
theorem A7f {v:Value}(h:MI w v M):MI w' v M:=by
 obtain⟨rs,h1,h2,h3⟩:=h;refine⟨rs,VE hu hB h1 (fun z hz m e=>?_),h2,fun i r row hr hrow=>?_⟩
 ·obtain⟨i,hi⟩:=Cx.1 hz;have hlt:=(Au.1 hi).1;obtain⟨p,cap,hv,_⟩:=h3 i z (M[i]'oo) hi sm;rw[hv]at e;cases e
 ·obtain⟨p,cap,hv,hc,hg⟩:=h3 i r row hr hrow;refine⟨p,cap,hv,hc,fun j x hj=>?_⟩;obtain⟨u,k1,k2⟩:=hg j x hj;exact⟨u,A5x hu hB k1 k2,A7e hu hB k2⟩
theorem FrV.upd {x:Value}(h:FrV w x n f) (hn:1<=n):FrV w' x n f:=by
 obtain⟨sv,dv,hx,⟨us,h1,h2,h3⟩,b,o,cp,hdv,hcp,hRC⟩:=h;refine⟨sv,dv,hx,⟨us,VE hu hB h1 (fun z hz m e=>?_),h2,fun k s hs=>A7f hu hB (h3 k s hs)⟩,b,o,cp,hdv,hcp,hRC.updW (hRC.ne oo hB (fun x hx y e=>?_)) hu hB de⟩
 ·obtain⟨i,hi⟩:=Cx.1 hz;obtain⟨rs,⟨p,cap,hv,_⟩,_⟩:=h3 i z hi;rw[hv]at e;cases e
 ·subst e;simp at hx
end
theorem A0c {w:World}{q:Nat}{v:Value}{xs:List Int}(h:Nh w v xs) (hu:CE q w w') (ha:WM q v):Nh w' v xs:=Jk.upd h hu ha
theorem LO.apart {q:Nat}{w:World}{v:Value}{xs:List Int}(h:LO base w v xs) (hq:q<base):WM q v:=by
 intro c off s len cap e hc;rcases h.2 with ⟨hv,_⟩ | ⟨g,cp,D,hv,hb,_⟩
 ·rw[hv]at e;cases e
 ·rw[hv]at e;simp only[Ci,AP,FF]at e;omega
theorem A1R {bc:Nat}{b:Int}(hR:BQ n f) (hn:1<=n/\n<=8) (hB:0<=B/\B<=4611686018427387904) (hb:0<=b/\b<=1000000) (hj:1<=j) (ih:∀ j',j=j'+1->1<=j'->YA bc n f B b j'):YA bc n f B b j:=by
 intro ys cs w x tv hyj hL hAp hF hC hcl hc0 hcs hre;have hl:ys.length<n:=by omega
 obtain⟨hT,blo,bhi⟩:=A0b hR hn.2 hl hB hre;have hsq0:0<=GH f n B ys:=(HG hR B).1 hre;have hhl:Cc f n B ys<=Ct f n B ys+1:=Xc hR;have hbc:=hC.lt;obtain⟨aS,cS,bm,om,cm,ex,_,_⟩:=hF.open hn.1;subst ex;obtain⟨px,cx,et⟩:=hL.len;subst et;obtain⟨c,hc⟩:∃ c,c=Ct f n B ys - Cc f n B ys+1:=⟨_,rfl⟩;obtain⟨j',rfl⟩:∃ j',j=j'+1:=⟨j - 1,by omega⟩;have hvis:Dh f n B (j'+1) ys (b - sL cs,cs)=if b - sL cs<c then none else Li (fun x s=>Dh f n B j' (x::ys) s) c.toNat (Cc f n B ys) (b - sL cs - c,GZ cs ys.length c):=by rw[hc];rfl
 have hcn:=Xf hc0;refine Sj (args:=[_,_,_,_,_]) func123 rfl ntmps123 rfl ?_;refine Nv ?_;refine .s (Av.box rfl) ?_;rintro _ w1 ⟨rfl,B5,hx1,hz1⟩;replace B5:Aj 124 w1 w.heap.size [.int .i64 n,.slice (some aS) n cS,.slice (some ⟨bm,om,none⟩) (n+1) cm]:=B5;refine A7 ?_;refine .p (A0.aA A8 rfl rfl rfl B5 (Ai 3) rfl) ?_;refine .r rfl ?_;refine .s (Av.call HM rfl (K8 (hF.ext hx1) (hL.ext hx1) hl hn hR hT oo hsq0)) ?_;rintro _ w2 ⟨hx2,rfl⟩;rw[Uj blo,Uj bhi];have hx02:=hx1.trans hx2;replace B5:=B5.ext hx2;replace hF:=hF.ext hx02;replace hL:=hL.ext hx02;replace hC:=hC.ext hx02;refine .r rfl ?_;refine Nv ?_;refine .r rfl ?_;refine Nv ?_;by_cases h1:Ct f n B ys<Cc f n B ys
 ·refine .a 3 (.bool true) rfl (Aa h1) ?_;have hc':c=0:=by omega
  have hv:Dh f n B (j'+1) ys (b - sL cs,cs)=some (b - sL cs,cs):=by rw[hvis,hc',if_neg oo,A3U];show some (b - sL cs - 0,cs)=_;rw[U6]
  refine A7 ?_;refine .ct ?_;exact Ad.ax rfl rfl ⟨hx02.upd bc,fun h=>(by rw[hv]at h;cases h),fun s' h=>by rw[hv]at h;cases h;exact⟨rfl,hC,hcl,hc0,rfl,hcs⟩⟩
 refine .a 3 (.bool false) rfl (A9 h1) ?_;refine A7 ?_;refine .cF ?_;refine Nv ?_;refine .a 3 (.int .i64 (Ct f n B ys - Cc f n B ys)) rfl (by rw[Ab oo oo]) ?_;by_cases h2:Ct f n B ys - Cc f n B ys>=b
 ·refine .a 2 (.bool true) rfl (Aa h2) ?_;have hv:Dh f n B (j'+1) ys (b - sL cs,cs)=none:=by rw[hvis,if_pos oo]
  refine A7 ?_;refine .ct ?_;exact Ad.ax rfl rfl ⟨hx02.upd bc,fun _=>rfl,fun s' h=>by rw[hv]at h;cases h⟩
 refine .a 2 (.bool false) rfl (A9 h2) ?_;refine A7 ?_;refine .cF ?_;have hm:ys.length<cs.length:=by omega
 have hym:cs[ys.length]?=some (yv cs ys.length):=by unfold yv;rw[Bd,DH hm];rfl
 have hy0:=hc0 _ (Bi hym);have hy1:=A5w hc0 (Bi hym);have hcell:w2.cell? (Addr.add ⟨bc,0,none⟩ ys.length)=some (.int .i64 (yv cs ys.length)):=by rw[Ak,AE];exact hC.cell (by rw[J7,hym];rfl)
 refine A7 ?_;refine .p (A0.ia) ?_;refine .p (A0.load A8 rfl rfl rfl hcell) ?_;refine .a 3 (.int .i64 (Ct f n B ys - Cc f n B ys)) rfl (by rw[Ab oo oo]) ?_;refine .a 1 (.int .i64 c) rfl (by rw[hc,Ab oo oo]) ?_;refine .a 1 (.int .i64 (yv cs ys.length+c)) rfl (by rw[Ab oo oo]) ?_;refine Af.put A8 ys.length hC rfl hl (by rw[Bj,hcl];omega) rfl rfl rfl rfl rfl rfl rfl rfl (fun _=>rfl) (fun _=>rfl) rfl rfl ?_;intro p3 w3 hC3 hu3;rw[AE,show (cs.map DZ).set ys.length (.int .i64 (yv cs ys.length+c))=(GZ cs ys.length c).map DZ from by rw[Vz,Gx]]at hC3;have hF3:=hF.upd hu3 hC hn.1;have hL3:=A0c hL hu3 hAp;have B53:=B5.upd hu3 oo;have hU3:CE bc w1 w3:=(hx2.upd bc).trans hu3;have hU03:CE bc w w3:=(hx02.upd bc).trans hu3;obtain⟨ds,hds⟩:∃ ds,ds=GZ cs ys.length c:=⟨_,rfl⟩;have hdl:ds.length=n:=by rw[hds,Vy,hcl]
 have hd0:∀ y ∈ ds,0<=y:=by rw[hds];exact A0a hc0 oo
 have hdS:sL ds=sL cs+c:=by rw[hds];exact A7d hm c
 have hdm:∀ y ∈ ds,y<=2000000:=fun y hy=>by have:=A5w hd0 hy;omega
 rw[<- hds]at hC3 hvis;have hdat:∀ i,i<n->0<=yv ds i/\yv ds i<=2000000/\w3.cell? (Addr.add ⟨bc,0,none⟩ i)=some (.int .i64 (yv ds i)):=by
  intro i hi;have hg:ds[i]?=some (yv ds i):=by unfold yv;rw[Bd,DH oo];rfl
  refine⟨hd0 _ (Bi hg),hdm _ (Bi hg),?_⟩;rw[Ak,AE];exact hC3.cell (by rw[J7,hg];rfl)
 refine A7 ?_;refine St.rngG A8 (47) (0) (n) oo (fun g:Int=>[(1,.int .i64 B),(2,.slice px ys.length cx),(3,.slice (some ⟨bc,0,none⟩) n n),(4,.int .i64 b),(5,.pointer (some ⟨w.heap.size,0,none⟩)),(11,.int .i64 (Cc f n B ys)),(12,.int .i64 (Ct f n B ys)),(13,.int .i64 ys.length),(14,.int .i64 g),(45,.slice (some ⟨bc,0,none⟩) n n),(46,.int .i64 n)]) (fun i g w'=>w'=w3/\g=Ay i (yv ds)) (0) AL ?_ (fun _ _=>⟨rfl,rfl⟩) (fun _ _=>rfl) (fun _ _=>⟨rfl,rfl⟩) (fun _=>rfl) (fun _=>rfl) oo ?_ ?_
 ·exact⟨rfl,rfl⟩
 ·rintro i g w4 hi ⟨rfl,rfl⟩;obtain⟨e1,e2,e3⟩:=hdat i hi;have hps:=QV (M:=2000000) (g:=yv ds) i (fun k hk=>by have:=hdat k oo;omega);have hi8:(i:Int) * 2000000<=8 * 2000000:=Jz oo oo;have hsucc:Ay (i+1) (yv ds)=Ay i (yv ds)+yv ds i:=rfl;refine Nv ?_;refine .p (A0.ia) ?_;refine .p (A0.load A8 rfl rfl rfl e3) ?_;refine .r rfl ?_;refine Nv ?_;refine .a 3 (.int .i64 (Ay (i+1) (yv ds))) rfl (by rw[hsucc,Ab oo oo]) ?_;refine A7 ?_;exact Ad.aO _ AL ⟨rfl,rfl⟩
 ·rintro g w4 ⟨rfl,rfl⟩;have hsum:Ay n (yv ds)=sL cs+c:=by rw[<- hdS];unfold sL;rw[hdl]
  rw[hsum];refine Nv ?_;by_cases h3:sL cs+c > b
  ·refine .a 3 (.bool true) rfl (Aa h3) ?_;have hv:Dh f n B (j'+1) ys (b - sL cs,cs)=none:=by rw[hvis,if_pos oo]
   refine A7 ?_;refine .ct ?_;exact Ad.ax rfl rfl ⟨hU03,fun _=>rfl,fun s' h=>by rw[hv]at h;cases h⟩
  refine .a 3 (.bool false) rfl (A9 h3) ?_;rw[if_neg oo]at hvis;have hs0:b - sL cs - c=b - sL ds:=by omega
  rw[hs0]at hvis;refine A7 ?_;refine .cf ?_;refine St.loop (α:=Int×List Int) (fun g=>[(1,.int .i64 B),(2,.slice px ys.length cx),(3,.slice (some ⟨bc,0,none⟩) n n),(4,.int .i64 b),(5,.pointer (some ⟨w.heap.size,0,none⟩)),(12,.int .i64 (Ct f n B ys)),(13,.int .i64 ys.length),(17,.int .i64 g.1)])
   (fun g w'=>(Cc f n B ys<=g.1/\g.1<=Ct f n B ys+1)/\Li (fun x s=>Dh f n B j' (x::ys) s) (Ct f n B ys+1 - g.1).toNat g.1 (b - sL g.2,g.2)=Dh f n B (j'+1) ys (b - sL cs,cs)/\CE bc w1 w'/\FrV w' (.agg #[.int .i64 n,.slice (some aS) n cS,.slice (some ⟨bm,om,none⟩) (n+1) cm]) n f/\Nh w' (.slice px ys.length cx) ys/\Aj 124 w' w.heap.size [.int .i64 n,.slice (some aS) n cS,.slice (some ⟨bm,om,none⟩) (n+1) cm]/\Aj 3 w' bc (g.2.map DZ)/\g.2.length=n/\(∀ y ∈ g.2,0<=y)/\sL g.2<=b) (fun g=>(Ct f n B ys+1 - g.1).toNat) (Cc f n B ys,ds) AL ?_ ?_
  ·refine⟨⟨Gy _,hhl⟩,?_,hU3,hF3,hL3,B53,hC3,hdl,hd0,by show sL ds<=b;omega⟩;rw[hvis];show Li _ (Ct f n B ys+1 - Cc f n B ys).toNat _ _=_;rw[show Ct f n B ys+1 - Cc f n B ys=c by omega]
  ·rintro⟨x,cs1⟩ w5 ⟨⟨hx1',hx2'⟩,hvl,hU5,hF5,hL5,B55,hC5,hcl5,hc05,hcs5⟩;dsimp only at hx1' hx2' hvl hC5 hcl5 hc05 hcs5 ⊢;have fin:∀ s1,Dh f n B (j'+1) ys (b - sL cs,cs)=some s1->s1=(b - sL cs1,cs1)->∀ s',Dh f n B (j'+1) ys (b - sL cs,cs)=some s'->Value.bool true=.bool true/\Aj 3 w5 bc (s'.2.map DZ)/\s'.2.length=n/\(∀ y ∈ s'.2,0<=y)/\s'.1=b - sL s'.2/\sL s'.2<=b:=by intro s1 h1 h2 s' h;rw[h1]at h;cases h;subst h2;exact⟨rfl,hC5,hcl5,hc05,rfl,hcs5⟩
   have hU05:CE bc w w5:=(hx1.upd bc).trans hU5;refine Nv ?_;by_cases hle:x<=Ct f n B ys
   ·refine .a 3 (.bool true) rfl (Aa hle) ?_;refine .a 3 (.int .i64 ((ys.length+1:Nat):Int)) rfl (Bv oo) ?_;refine .r rfl ?_;refine .p FW ?_;by_cases hj0:j'=0
    ·refine .a 1 (.bool false) rfl (A9 oo) ?_;subst hj0;have hv:Dh f n B (0+1) ys (b - sL cs,cs)=some (b - sL cs1,cs1):=by rw[<- hvl];exact PL _ _ _
     refine A7 ?_;refine .cf ?_;exact Ad.ax rfl rfl ⟨hU05,fun h=>(by rw[hv]at h;cases h),fin _ hv rfl⟩
    ·refine .a 1 (.bool true) rfl (Aa oo) ?_;have hre':=(NA hR hl hsq0 x).1 ⟨hx1',hle⟩;have ihj:=ih j' rfl oo;have hs5:=hU5.size;refine A7 ?_;refine .cT ?_;refine Nv ?_;refine St.sub (E':=[(1,.int .i64 B),(2,.slice px ys.length cx),(3,.slice (some ⟨bc,0,none⟩) n n),(4,.int .i64 b),(5,.pointer (some ⟨w.heap.size,0,none⟩)),(12,.int .i64 (Ct f n B ys)),(13,.int .i64 ys.length),(17,.int .i64 x)]) ?_ AL;refine St.draw 7 [(71,Is (.agg #[.int .i64 n,.slice (some aS) n cS,.slice (some ⟨bm,om,none⟩) (n+1) cm])),(72,Is (.int .i64 B)),(73,Is (.int .i64 x)),(74,Is (.slice px ys.length cx)),(75,fun v w'=>LO w5.heap.size w' v (x::ys)),(76,Is (.slice (some ⟨bc,0,none⟩) n n)),(77,Is (.int .i64 b))] Dv kr rfl kr kr ⟨Is.mono _,Is.mono _,Is.mono _,Is.mono _,fun _ _ _ hx hv=>hv.ext hx,Is.mono _,Is.mono _,trivial⟩ ?_ ?_
     ·refine⟨?_,?_,?_,?_,?_,?_,?_,trivial⟩
      ·exact fun w6 hx6=>CD.run rfl rfl rfl rfl (A0.aA A8 rfl rfl rfl (B55.ext hx6) (Ai 3) rfl) rfl
      ·exact fun w6 hx6=>CD.pure A8 rfl rfl rfl rfl rfl rfl
      ·exact fun w6 hx6=>CD.pure A8 rfl rfl rfl rfl rfl rfl
      ·exact fun w6 hx6=>CD.pure A8 rfl rfl rfl rfl rfl rfl
      ·rintro w6 hx6 _ rfl _ rfl;refine CD.call OK rfl rfl rfl (QM (hL5.ext hx6) oo) ?_;rintro v w7 ⟨hx7,hv⟩;exact⟨hx7,hv.mono hx6.size⟩
      ·exact fun w6 hx6=>CD.pure A8 rfl rfl rfl rfl rfl rfl
      ·exact fun w6 hx6=>CD.pure A8 rfl rfl rfl rfl rfl rfl
     rintro w6 hx6 _ rfl _ rfl _ rfl _ rfl tl htl _ rfl _ rfl _;have hU6:CE bc w1 w6:=hU5.bf hx6;have hcall:=ihj (x::ys) cs1 w6 _ tl (by rw[BR];omega) htl.l64 (htl.apart (by have:=hC5.lt;omega)) (hF5.ext hx6) (hC5.ext hx6) hcl5 hc05 hcs5 hre';refine .s (Av.call JT rfl hcall) ?_;rintro y w7 ⟨hu7,hnone,hsome⟩;have hjj:(Ct f n B ys+1 - x).toNat=(Ct f n B ys+1 - (x+1)).toNat+1:=by omega
     rw[hjj]at hvl;have hvl2:(match Dh f n B j' (x::ys) (b - sL cs1,cs1) with | none=>none | some s'=>Li (fun x s=>Dh f n B j' (x::ys) s) (Ct f n B ys+1 - (x+1)).toNat (x+1) s')=Dh f n B (j'+1) ys (b - sL cs,cs):=hvl;have hU7:CE bc w1 w7:=hU6.trans hu7;cases hv:Dh f n B j' (x::ys) (b - sL cs1,cs1) with
     | none =>
      have e:=hnone hv;subst e;rw[hv]at hvl2;refine A7 ?_;refine .ct ?_;exact Ad.ax rfl rfl ⟨(hx1.upd bc).trans hU7,fun _=>rfl,fun s' h=>by rw[<- hvl2]at h;cases h⟩
     | some s2 =>
      obtain⟨rfl,hC7,hcl7,hc07,hs7,hcs7⟩:=hsome s2 hv;rw[hv]at hvl2;have hs2:s2=(b - sL s2.2,s2.2):=Iw hs7 rfl;rw[hs2]at hvl2;refine A7 ?_;refine .cF ?_;refine Nv ?_;refine .a 2 (.int .i64 (x+1)) rfl (by rw[Ab oo oo]) ?_;refine A7 ?_;exact Ad.again (x+1,s2.2) AL ⟨⟨by show _<=x+1;omega,by show x+1<=_;omega⟩,hvl2,hU7,(hF5.ext hx6).upd hu7 (hC5.ext hx6) hn.1,A0c (hL5.ext hx6) hu7 hAp,(B55.ext hx6).upd hu7 oo,hC7,hcl7,hc07,hcs7⟩ (by show (Ct f n B ys+1 - (x+1)).toNat<(Ct f n B ys+1 - x).toNat;omega)
   ·refine .a 3 (.bool false) rfl (A9 hle) ?_;have hv3:Dh f n B (j'+1) ys (b - sL cs,cs)=some (b - sL cs1,cs1):=by rw[<- hvl,show (Ct f n B ys+1 - x).toNat=0 by omega];rfl
    refine A7 ?_;refine .cf ?_;exact Ad.ax rfl rfl ⟨hU05,fun h=>(by rw[hv3]at h;cases h),fin _ hv3 rfl⟩
theorem A1S {bc:Nat}{b:Int}(hR:BQ n f) (hn:1<=n/\n<=8) (hB:0<=B/\B<=4611686018427387904) (hb:0<=b/\b<=1000000):∀ j,1<=j->YA bc n f B b j:=by
 intro j;induction j with
 | zero=>intro h;omega
 | succ j ihj=>exact fun hj=>A1R hR hn hB hb hj (fun j' e h1=>by
   have e2:j'=j:=by omega
   subst e2;exact ihj h1)
theorem VF {w:World}{b:Int}(h:Ft w hv M) (v:Lj M) :
  Calls prog 79 #[hv,.int .i64 B,.int .i64 4611686018427387904,.int .i64 b] w (AJ fun x w'=>Ac w w'/\(¬ Ie M->x=.int .i64 6)/\(Ie M->¬ Fy B b->x=.int .i64 1)/\(Ie M->Fy B b->x=.int .i64 0)):=by
 refine cS func79 ntmps79 ?_;refine A7 ?_;refine .s (oK G3 (Gq h v)) ?_;rintro _ w2 ⟨e,o,rfl,q⟩;cases o
 ·have u:¬ Ie M:=fun c=>absurd (q.2 c) sm;refine A7 ?_;refine .ct ?_;exact Ad.ax rfl rfl ⟨e,fun _=>rfl,fun c=>absurd c u,fun c=>absurd c u⟩
 have g:=q.1 rfl;refine .r rfl ?_;refine Nv ?_;refine .cF ?_;refine Nv ?_;by_cases j:B<0
 ·refine .a 2 (.bool true) rfl (Aa j) ?_;refine A7 ?_;refine .ct ?_;exact Ad.ax rfl rfl ⟨e,fun c=>absurd g c,fun _ _=>rfl,fun _ d=>absurd d (by unfold Fy;omega)⟩
 refine .a 2 (.bool false) rfl (A9 j) ?_;by_cases k:B > 4611686018427387904
 ·refine .a 4 (.bool true) rfl (Aa k) ?_;refine A7 ?_;refine .ct ?_;exact Ad.ax rfl rfl ⟨e,fun c=>absurd g c,fun _ _=>rfl,fun _ d=>absurd d (by unfold Fy;omega)⟩
 refine .a 4 (.bool false) rfl (A9 k) ?_;by_cases l:b<0
 ·refine .a 4 (.bool true) rfl (Aa l) ?_;refine A7 ?_;refine .ct ?_;exact Ad.ax rfl rfl ⟨e,fun c=>absurd g c,fun _ _=>rfl,fun _ d=>absurd d (by unfold Fy;omega)⟩
 refine .a 4 (.bool false) rfl (A9 l) ?_;by_cases m:b > 1000000
 ·refine .a 4 (.bool true) rfl (Aa m) ?_;refine A7 ?_;refine .ct ?_;exact Ad.ax rfl rfl ⟨e,fun c=>absurd g c,fun _ _=>rfl,fun _ d=>absurd d (by unfold Fy;omega)⟩
 refine .a 4 (.bool false) rfl (A9 m) ?_;refine A7 ?_;refine .cf ?_;exact Ad.ax rfl rfl ⟨e,fun c=>absurd g c,fun _ d=>absurd (show Fy B b from ⟨by omega,by omega,by omega,by omega⟩) d,fun _ _=>rfl⟩
theorem A5y {w:World}{xs:List Int}(h:Aj e w b (xs.map DZ)):Nh w (.slice (some ⟨b,0,none⟩) xs.length xs.length) xs:=by refine⟨some ⟨b,0,none⟩,xs.length,by rw[Bj],by rw[Bj];exact Ai _,fun e=>(by cases e),?_⟩;rintro a d i c g;cases d;rw[Ak,AE];exact h.cell g
theorem A1T (n:Nat):∀ y ∈ List.replicate n (0:Int),0<=y:=fun y c=>by rw[BU c];exact Gy _
theorem A5z (n:Nat):sL (List.replicate n 0)=0:=by
 induction n with
 | zero=>rfl
 | succ n ih=>rw[List.replicate_succ,Mn,ih];rfl
theorem SL {w:World}{b:Int}(h:Ft w hv M) (H:Lj M) :
  Calls prog 80 #[hv,.int .i64 B,.int .i64 b] w (AJ fun x w'=>Ac w w'/\Yz w' x M B b):=by
 obtain⟨ph,ch,e⟩:=h.len;subst e;refine cS func80 ntmps80 ?_;refine A7 ?_;refine .s (oK KT (VF h H)) ?_;rintro V w1 ⟨m,G,F,E⟩;by_cases d:Ie M
 ·by_cases k:Fy B b
  ·have e:=E d k;subst e;have q:=d.bq.1;have u:1<=M.length/\M.length<=8:=⟨d.1.1,d.2.2.1⟩;have Q:=d.mk;have L:Ft w1 (.slice ph M.length ch) (mk M.length M.length (ent M)):=by rw[<- Q];exact h.ext m
   have key:∀ (x:Value) (w':World),((Dh (ent M) M.length B M.length [] (b,List.replicate M.length 0)=none->x=.tuple #[.slice none 0 0,.int .i64 9])/\(∀ s',Dh (ent M) M.length B M.length [] (b,List.replicate M.length 0)=some s'->∃ v,x=.tuple #[v,.int .i64 0]/\Nh w' v s'.2))->Yz w' x M B b:=fun x w' i=>⟨fun g=>absurd d g,fun _ l=>absurd k l,fun _ _=>i.1,fun _ _=>i.2⟩;obtain⟨y,I,z,O⟩:=k;generalize ent M=f at *
   generalize W:M.length=n at *
   refine .r rfl ?_;refine Nv ?_;refine .a 2 (.bool false) rfl rfl ?_;refine A7 ?_;refine .cf ?_;refine .s (Av.make A8 n rfl rfl rfl rfl rfl rfl rfl rfl (by show n * 8<=_;omega) oo) ?_;rintro _ w2 ⟨rfl,o,A,X⟩;replace o:Aj 3 w2 w1.heap.size ((List.replicate n (0:Int)).map DZ):=by rw[G9];exact o
   refine A7 ?_;refine .s (oK Rp (Mk (L.ext A) u q)) ?_;rintro fr w3 ⟨C,K⟩;refine .r rfl ?_;have t:=A1S (bc:=w1.heap.size) q u ⟨y,I⟩ ⟨z,O⟩ n u.1 [] (List.replicate n 0) w3 fr (.slice none 0 0) (by show 0+n=n;omega) ⟨none,0,rfl,Ai _,fun _=>rfl,fun a N=>by cases N⟩ (fun c off s len cap e=>by cases e) K (o.ext C) sm (A1T n) (by rw[A5z];exact z) (by rw[PK];exact DI (by have:=CV q.pos (Ai n);omega) y);rw[A5z,U6]at t;refine .s (oK JT t) ?_;rintro r U ⟨T,R,S⟩;have D:Ac w U:=((m.trans A).trans C) |>.aj T m.size;cases hv:Dh f n B n [] (b,List.replicate n 0) with
   | none =>
    have e:=R hv;subst e;refine A7 ?_;refine .ct ?_;exact Ad.aC A8 [_,_] rfl ⟨rfl,rfl,trivial⟩ ⟨D,key _ _ ⟨fun _=>rfl,fun s' j=>by rw[hv]at j;cases j⟩⟩
   | some s2 =>
    obtain⟨rfl,J,P,_,_,_⟩:=S s2 hv;refine A7 ?_;refine .cf ?_;refine Ad.aC A8 [_,_] rfl ⟨rfl,rfl,trivial⟩ ⟨D,key _ _ ⟨fun j=>(by rw[hv]at j;cases j),fun s' j=>?_⟩⟩;rw[hv]at j;cases j;have p:=A5y J;rw[P]at p;exact⟨_,rfl,p⟩
  ·have e:=F d k;subst e;refine .r rfl ?_;refine Nv ?_;refine .a 2 (.bool true) rfl rfl ?_;refine A7 ?_;refine .ct ?_;exact Ad.aC A8 [_,_] rfl ⟨rfl,rfl,trivial⟩ ⟨m,fun g=>absurd d g,fun _ _=>rfl,fun _ l=>absurd l k,fun _ l=>absurd l k⟩
 ·have e:=G d;subst e;refine .r rfl ?_;refine Nv ?_;refine .a 2 (.bool true) rfl rfl ?_;refine A7 ?_;refine .ct ?_;exact Ad.aC A8 [_,_] rfl ⟨rfl,rfl,trivial⟩ ⟨m,fun _=>rfl,fun g=>absurd g d,fun g=>absurd g d,fun g=>absurd g d⟩
end Go.Qf
