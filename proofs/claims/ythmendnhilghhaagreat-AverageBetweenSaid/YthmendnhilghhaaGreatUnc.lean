/- Lemmas on the model and on the program's functions, part Unc. -/
import GoSem.Core.View
import Derived.WalkKit
import Derived.Deep.Quiet
import Derived.Deep.LoopGhost
import Derived.KernelRfl
import Derived.Test.YthmendnhilghhaaGreatProg
import Derived.Laws.BytesString
import Derived.Laws.RangeString
import Derived.Lib.OthersKept
import Derived.Laws.Strings
import Derived.ProofKit
import Derived.OpenShut
import Derived.Lib.SmallJoins
import Derived.Carry
import Derived.ChangeMaps5
import Derived.Maps.AppendAt
import Derived.Laws.Externs
import Derived.Lib.Bytealg
import Derived.ChangeArms
import Derived.Laws.OwnMore
import Derived.Scope
import Derived.RangeFuncLeaves
import Derived.RangeFuncRecord
import Derived.TacticsIn
import Derived.OrdersIn
import Derived.Maps.OwnSet
import Derived.Maps.Views
import Derived.Test.YthmendnhilghhaaGreatRows
import Derived.Test.YthmendnhilghhaaGreatUna
import Derived.Test.YthmendnhilghhaaGreatUnb
set_option linter.unusedVariables false
set_option linter.unusedSimpArgs false
set_option maxRecDepth 20000
set_option maxHeartbeats 6400000
namespace Go.Qf
open Go Go.RowKit Go.Proofs Go.Proofs.Tryz
variable {n base b k s1 s2 d1 d2:Nat}{w':World}{t ty e et ty2:TypeId}{af af2:Array Edge}{g:Option (Nat×Bool)}{x:Operand}{E:List (Nat×Value)}{d:Option Tmp}{us:List Value}{u z:Value}{ti:TI}{pos2:String}
def Y1 (k:Nat) (u:Value):Prop:=(k=1/\u.cells=#[u]/\u.oneCell'=true)\/(k=2/\∃ x y,u.cells=#[x,y]/\x.oneCell'=true/\y.oneCell'=true)
theorem Y1.sh (h:Y1 k u):u.cells.toList.length=k/\∀ c ∈ u.cells.toList,c.oneCell'=true:=by
 rcases h with ⟨rfl,h1,h2⟩ | ⟨rfl,x,y,h1,h2,h3⟩
 ·rw[h1];exact⟨rfl,by simpa using h2⟩
 ·rw[h1];exact⟨rfl,by simpa using ⟨h2,h3⟩⟩
theorem Dn.cel {w:World}{v:Value}{a:Int}(h:Dn w v a):Y1 2 v:=by obtain⟨k,s,rfl,c⟩:=h.r2;refine .inr ⟨rfl,.bool k,s,rfl,rfl,?_⟩;simpa[Value.oneCell'] using c
theorem Aq.owns {w:World}{v:Value}(h:Aq k e base w v us):w.ownsRow base e k v us.length (AV us):=by
 refine⟨by rw[h.1.flat,AQ],?_⟩;rcases h.2 with ⟨hv,h0⟩ | ⟨g,cap,D,hv,hg,hb,h1,h2,h3⟩
 ·exact .inl ⟨hv,by rw[h0];rfl⟩
 ·refine .inr ⟨g,cap,(AV us++D).toArray,hv,hg,hb,h2,h3,?_,?_⟩
  ·rw[Ty,Bf,h.1.flat];exact h1
  ·show (AV us++D).take _=_;rw[List.take_append_of_le_length (by rw[h.1.flat,AQ];exact Ai _),Bs (by rw[h.1.flat,AQ];exact Ai _)]
theorem Aq.bU {w:World}{v:Value}(d:M8 k us) (h:w.ownsRow base e k v us.length (AV us)):Aq k e base w v us:=by
 refine⟨d,?_⟩;rcases h.2 with ⟨hv,h0⟩ | ⟨g,cap,cur,hv,hg,hb,h1,h2,h3,h4⟩
 ·exact .inl ⟨hv,FA h0⟩
 ·have e1:cur.toList=AV us++cur.toList.drop (us.length * k):=by rw[<- h4,Kh]
  have e2:(AV us++cur.toList.drop (us.length * k)).toArray=cur:=by rw[<- e1]
  have j:us.length * k<=cap * k:=Bm _ h1;refine .inr ⟨g,cap,cur.toList.drop (us.length * k),hv,hg,?_,?_,h1,h2⟩
  ·show w.heap[g]?=some (.cells (AV us++cur.toList.drop (us.length * k)).toArray e (0,0));rw[e2];exact hb
  ·have c:cur.toList.length=cap * k:=by simpa using h3
   rw[Jy,AQ k,c];omega
theorem Av.aP {w:World}{pos:String}
  (f:AG TB t=some ⟨.slice et,s1,s2,z⟩) (c:AG TB et=some ti) (b:ti.size=k) (p:ti.zero.cells.size=k) (h:ov E x=some u) (hu:Y1 k u) :
  Av prog n ⟨d,.buildSlice t 1 #[(0,x)],ty,pos,af,g⟩ E w (fun v w'=>v=.slice (some ⟨w.heap.size,0,none⟩) 1 1/\Aj et w' w.heap.size u.cells.toList/\Ac w w'/\w'.heap.size=w.heap.size+1):=by
 intro a j Q K e;obtain⟨_,inf,o,B,A,s⟩:=A8 et ti c;have e1:=j.eval h;have y:(execOp a.eval ⟨d,.buildSlice t 1 #[(0,x)],ty,pos,af,g⟩).run prog w=.ok (.value (.slice (some ⟨w.heap.size,0,none⟩) 1 1)) (w.alloc (.cells u.cells et (0,0))):=by
  generalize a.eval=ρ at e1;have m:∀ zc:Array Value,zc.size=k->Instr.fill (fun i=>some (i * k,k)) ((Array.range (1 * k)).map (zc[· % zc.size]!)) [(0,u)]=some u.cells:=by
   intro zc C;unfold Instr.fill;rcases hu with ⟨rfl,h1,h2⟩ | ⟨rfl,y1,y2,h1,h2,h3⟩
   ·rw[h1];simp[Instr.fill,show Array.range 1=#[0] from rfl]
   ·rw[h1];simp[Instr.fill,show Array.range 2=#[0,1] from rfl]
  have q:¬ 1 * k=0:=by rcases hu with ⟨rfl,_⟩ | ⟨rfl,_⟩ <;> decide
  have r:¬ 1 * k > 2 ^ 24:=by rcases hu with ⟨rfl,_⟩ | ⟨rfl,_⟩ <;> decide
  have l:(Instr.buildSlice t 1 #[(0,u)]).run prog w=.ok (.slice (some ⟨w.heap.size,0,none⟩) 1 1) (w.alloc (.cells u.cells et (0,0))):=by unfold Instr.buildSlice;simp only[Bq,Ag A8 f,Bp,AK A8 c,b,if_neg q,if_neg r,zeroValue,BZ o,s,AX,m _ p];simp[newRow,go_sem]
  simp only[execOp,Js,Er,J4,e1,Bq,l,Bp,AX]
 unfold Oper.wp;rw[y,Oper.upon_value];refine e _ _ ⟨rfl,?_,Da _ _,Dc _ _⟩;exact DN _ _ _
theorem WZ (us:List Value) (u:Value):AV (us++[u])=AV us++u.cells.toList:=by unfold AV;rw[LU];simp
theorem CB {w:World}{v:Value}(h:Aq k e base w v us) (c:w.grownBy w' v.ownBlock):Ac w w'\/∃ b C,v.ownBlock=some b/\base<=b/\Aj e w b C/\CE b w w':=by
 rcases h.2 with ⟨hv,_⟩ | ⟨g,cap,D,hv,hb,hbk,_⟩
 ·subst hv;exact .inl ⟨c.os,c.tape,c.output,c.size,fun j d=>c.block j d (by simp[Value.ownBlock])⟩
 ·have e1:v.ownBlock=some g:=by rw[hv];rfl
  exact .inr ⟨g,_,e1,hb,hbk,c.os,c.tape,c.output,c.size,fun j d m=>c.block j d (by rw[e1];intro l;exact m (by simpa using l))⟩
section
variable {n:Nat}{E:List (Nat×Value)}{w:World}{ops:Array Oper}{rest:List Oper}{Q:Exit->Act->World->Prop}
theorem Av.dc {s:Operand}{pos:String}{v:Value}
  (h:Aq k et base w v us) (hu:Y1 k u) (B:Aj et w b u.cells.toList) (N:AG TB t=some ⟨.slice et,s1,s2,z⟩) (O:AG TB et=some ti) (M:ti.size=k) (S:ti.zero.cells.size=k) (D:Nat.blt 0 k=true) (I:ov E s=some v) (R:ov E x=some (.slice (some ⟨b,0,none⟩) 1 1))
  (V:us.length<=1000000) (i:Nat.ble ti.bytes 1000=true) (y:base<=w.heap.size) :
  Av prog n ⟨d,.call ⟨.builtin .append,#[s,x],#[t,t]⟩,ty,pos,af,g⟩ E w (fun v' w'=>Aq k et base w' v' (us++[u])/\w.grownBy w' v.ownBlock/\(v'.ownBlock=v.ownBlock\/v'.ownBlock=some w.heap.size)):=by
 obtain⟨Q,_⟩:=A8 t _ N;obtain⟨_,inf,A,L,f,T⟩:=A8 et ti O;have p:ti.bytes<=1000:=Jr i;have F:0<k:=by simpa[Kg] using D
 obtain⟨v',w',G,l,o,U,q⟩:=run_append_own_at (P:=prog) w base t ty et inf ti.zero k ti.bytes Q A T (L.trans M) f S F v us.length (AV us) h.owns ⟨b,0,none⟩ 1 1 u.cells.toList (by rw[hu.sh.1,Cf])
  (fun j c C=>by rw[Ak,AE];exact B.cell C) hu.sh.2 (by unfold maxLen;omega) (by have:(us.length+1) * ti.bytes<=1000001 * 1000:=Dg oo p;omega) y
 have J:M8 k (us++[u]):=by
  intro c e;rcases FB.1 e with e | e
  ·exact h.1 c e
  ·rw[Du.1 e];exact hu.sh
 rw[<- WZ]at l;intro a m Q' K r;have e1:=m.eval I;have e2:=m.eval R;have H:(execOp a.eval ⟨d,.call ⟨.builtin .append,#[s,x],#[t,t]⟩,ty,pos,af,g⟩).run prog w=.ok (.value v') w':=by generalize a.eval=ρ at e1 e2;simp only[execOp,resolve,invoke,builtin,Bq,AX,Bp,Js,Er,J4,e1,e2,G]
 unfold Oper.wp;rw[H,Oper.upon_value];exact r v' w' ⟨Aq.bU J (by rw[Bf];exact l),o,q⟩
theorem Af.aZ {s:Operand}{pos:String}{v:Value}
  (h:Aq k et base w v us) (hu:Y1 k u) (q:AG TB t=some ⟨.slice et,s1,s2,z⟩) (r:AG TB et=some ti) (o:ti.size=k) (f:ti.zero.cells.size=k) (G:Nat.blt 0 k=true) (L:ov E x=some u) (K:∀ p,ov ((d1,p)::E) s=some v)
  (I:Nat.blt d1 n=true) (J:Nat.blt d2 n=true) (H:us.length<=1000000) (F:Nat.ble ti.bytes 1000=true) (D:base<=w.heap.size)
  (next:∀ p v' w',Aq k et base w' v' (us++[u])->(∀ w0,Ac w0 w->w0.heap.size<=base->Ac w0 w')->(∀ t' b C,Aj t' w b C->t'≠et\/v.ownBlock≠some b->Aj t' w' b C)->(v'.ownBlock=v.ownBlock\/∃ b,v'.ownBlock=some b/\w.heap.size<=b)->(109≠et->∀ bs u a,Ao bs w u a->Ao bs w' u a)->Af prog n ((d2,v')::(d1,p)::E) w' ops rest Q) :
  Af prog n E w ops (⟨some d1,.buildSlice t 1 #[(0,x)],ty,pos,af,none⟩::⟨some d2,.call ⟨.builtin .append,#[s,.tmp d1],#[t,t]⟩,ty2,pos2,af2,none⟩::rest) Q:=by
 refine Af.step rfl rfl I (Av.aP q r o f L hu) ?_;rintro _ w1 ⟨rfl,B,d,O⟩;have g:=h.ext d;refine Af.step rfl rfl J (Av.dc g hu B q r o f G (K _) (AF _ _ _) H F (Ar D d.size)) ?_;rintro v' w' ⟨A,j,i⟩;refine next _ _ _ A ?_ ?_ (i.imp id fun e=>⟨_,e,d.size⟩) ?_
 ·intro w0 M N;have y:=M.trans d;rcases CB g j with hE | ⟨b,C,_,hb,_,hU⟩
  ·exact y.trans hE
  ·exact y.aj hU oo
 ·intro t' b C hB c;have l:=hB.ext d;rcases CB g j with hE | ⟨b',C',hb',hb,hBk,hU⟩
  ·exact l.ext hE
  ·refine l.upd hU ?_;intro e;subst e;rcases c with c | c
   ·have:=l.symm.trans hBk;simp only[AP,Obj.cells.injEq]at this;exact c this.2.1
   ·exact c hb'
 ·intro c bs u a m;rcases CB g j with hE | ⟨b',C',hb',hb,hBk,hU⟩
  ·exact (m.ext d).ext hE
  ·exact (m.ext d).aI hU hBk c
theorem Af.app {s:Operand}{pos:String}{v:Value}
  (h:Aq k et base w v us) (hu:Y1 k u) (a:AG TB t=some ⟨.slice et,s1,s2,z⟩) (f:AG TB et=some ti) (y:ti.size=k) (A:ti.zero.cells.size=k) (l:Nat.blt 0 k=true) (i:ov E x=some u) (r:∀ p,ov ((d1,p)::E) s=some v)
  (o:Nat.blt d1 n=true) (q:Nat.blt d2 n=true) (m:us.length<=1000000) (j:Nat.ble ti.bytes 1000=true) (g:base<=w.heap.size)
  (next:∀ p v' w',Aq k et base w' v' (us++[u])->(∀ w0,Ac w0 w->w0.heap.size<=base->Ac w0 w')->(∀ t' b C,Aj t' w b C->t'≠et\/v.ownBlock≠some b->Aj t' w' b C)->Af prog n ((d2,v')::(d1,p)::E) w' ops rest Q) :
  Af prog n E w ops (⟨some d1,.buildSlice t 1 #[(0,x)],ty,pos,af,none⟩::⟨some d2,.call ⟨.builtin .append,#[s,.tmp d1],#[t,t]⟩,ty2,pos2,af2,none⟩::rest) Q :=
 Af.aZ h hu a f y A l i r o q m j g fun p v' w' c d e _ _=>next p v' w' c d e
end
variable {f:Nat->Nat->Int}{c j m:Nat}{w0:World}{ρ:Nat->Nat}
def nI (x:Nat):Value:=.int .i64 x
def KI (m:Nat) (ρ:Nat->Nat):List Value:=(List.range m).map fun x=>nI (ρ x)
theorem IY (m:Nat) (ρ:Nat->Nat):(KI m ρ).length=m:=by simp[KI]
theorem ZF (h:j<m):(KI m ρ)[j]?=some (nI (ρ j)):=by simp[KI,h]
theorem La (m:Nat) (ρ:Nat->Nat):KI (m+1) ρ=KI m ρ++[nI (ρ m)]:=by simp[KI,Iv]
theorem Va {σ:Nat->Nat}(h:∀ j,j<m->ρ j=σ j):KI m ρ=KI m σ:=by unfold KI;exact NY fun j c=>by rw[h j (CZ.1 c)]
theorem Fa (m:Nat) (ρ:Nat->Nat):∀ u ∈ KI m ρ,u.cells=#[u]:=by intro u hu;obtain⟨x,_,rfl⟩:=CG.1 hu;rfl
theorem RM (x:Nat):Y1 1 (nI x):=.inl ⟨rfl,rfl,rfl⟩
def PA (k m:Nat) (x:Nat):Nat:=if x<k then x else m
theorem GG (w:World) (k m:Nat) (y:k<=1000) (z:m<=1000) (q:base<=w.heap.size) :
  Calls prog 176 #[.int .i64 k,.int .i64 m] w (AJ fun r w'=>Ac w w'/\Aq 1 3 base w' r (KI (k+1) (PA k m))):=by
 refine cS func176 ntmps176 ?_;refine A7 ?_;refine St.dB A8 (6) (0) (k) oo (fun g:Value=>[(0,.int .i64 k),(1,.int .i64 m),(5,g)]) (fun i g w'=>Ac w w'/\Aq 1 3 w.heap.size w' g (KI i id)) (.slice none 0 0) AL ?_ (fun _ _=>⟨rfl,rfl⟩) (fun _ _=>rfl) (fun _ _=>⟨rfl,rfl⟩) (fun _=>rfl) (fun _=>rfl) oo ?_ ?_
 ·exact⟨Ac.refl _,Aq.nil⟩
 ·rintro i g w1 v ⟨c,d⟩;refine A7 ?_;refine Af.app d (RM i) rfl rfl rfl rfl rfl rfl (fun _=>rfl) rfl rfl (by rw[IY];omega) rfl c.size ?_;intro p v' w2 l o hB;refine A7 ?_;refine Ad.aO v' AL ⟨o w c AO,?_⟩;rw[La];exact l
 ·rintro g w1 ⟨c,d⟩;refine A7 ?_;refine Af.app d (RM m) rfl rfl rfl rfl rfl rfl (fun _=>rfl) rfl rfl (by rw[IY];omega) rfl c.size ?_;intro p v' w2 l o hB;refine A7 ?_;refine uR ⟨o w c AO,?_⟩;have e:KI (k+1) (PA k m)=KI k id++[nI m]:=by
   rw[La];congr 1
   ·exact Va fun j u=>by unfold PA;rw[if_pos u];rfl
   ·unfold PA;rw[if_neg oo]
  rw[e];exact l.mono q
theorem Aq.liD {w:World}{v:Value}{xs:List Int}(h:Aq 2 37 base w v us) (d:us.length=xs.length) (c:∀ (j:Nat) (u:Value) (x:Int),us[j]?=some u->xs[j]?=some x->Dn w0 u x) (e:Ac w0 w):LI w v xs :=
 h.li d (fun j u x a b=>(c j u x a b).ext e)
def Vb (w0 w:World) (base:Nat) (r:Value) (c:Nat) (g:Nat->Int):Prop:=∃ us,Aq 2 37 base w r us/\us.length=c/\∀ (j:Nat) (u:Value),us[j]?=some u->Dn w0 u (g j)
theorem Vb.keep {w:World}{r:Value}{g:Nat->Int}(h:Vb w0 w base r c g) (hB:∀ t' b C,Aj t' w b C->t'=37->Aj t' w' b C):Vb w0 w' base r c g:=by
 obtain⟨us,d,j,e⟩:=h;refine⟨us,⟨d.1,?_⟩,j,e⟩;rcases d.2 with h0 | ⟨b,cap,D,hv,hg,hb,r1⟩
 ·exact .inl h0
 ·exact .inr ⟨b,cap,D,hv,hg,hB _ b _ hb rfl,r1⟩
theorem Vb.li {w:World}{r:Value}{g:Nat->Int}(h:Vb w0 w base r c g) (o:Ac w0 w):LI w r (tab c g):=by
 obtain⟨us,e,l,k⟩:=h;refine e.liD (by rw[D9];exact l) (fun j u x hu d=>?_) o;have m:j<c:=by have:=(Au.1 d).1;rw[D9]at this;exact this
 rw[Mc m]at d;cases d;exact k j u hu
theorem Vb.one {w:World}{r:Value}{g:Nat->Int}(h:Vb w0 w base r c g):Y1 1 r:=by obtain⟨us,d,j,e⟩:=h;obtain⟨p,cap,rfl⟩:=d.len;exact .inl ⟨rfl,rfl,rfl⟩
theorem GU {w:World}{v u1 u2:Value}{r:Nat}{σ:Nat->Nat}(h:MI w v (mk r c f)) (hr:1<=r/\r<=16) (X:1<=c/\c<=16) (t:Jk 3 w u1 (KI m ρ)) (B:Jk 3 w u2 (KI k σ)) (hm:m<=1000) (hk:k<=1000) (P:∀ x,x<m->ρ x<r) (Q:∀ x,x<k->σ x<c) :
  Calls prog 175 #[v,u1,u2] w (AJ fun y w'=>Ac w w'/\MI w' y (mk m k (fun a b=>f (ρ a) (σ b)))):=by
 obtain⟨a,cap,rfl,V⟩:=h.mp hr.1 X.1;obtain⟨p1,c1,rfl⟩:=t.len;obtain⟨p2,c2,rfl⟩:=B.len;rw[IY]at t B ⊢;rw[IY];refine cS func175 ntmps175 ?_;refine A7 ?_;refine sG (15) (0) (m) (fun g:Value×List Value=>[(0,.slice (some a) r cap),(1,.slice p1 m c1),(2,.slice p2 k c2),(13,.slice p1 m c1),(14,.int .i64 m),(7,g.1)]) (fun i g w'=>Ac w w'/\Aq 1 122 w.heap.size w' g.1 g.2/\g.2.length=i/\∀ (x:Nat) (r:Value),g.2[x]?=some r->Vb w w' w.heap.size r k (fun b=>f (ρ x) (σ b))) ((.slice none 0 0,[])) ?_ ?_ ?_
 ·exact⟨Ac.refl _,Aq.nil,rfl,fun x r h=>by simp at h⟩
 ·rintro i ⟨out,rs⟩ w1 H ⟨l,n,s,z⟩;dsimp only at n s z ⊢;refine Nv ?_;refine Af.elem A8 i _ (t.ext l) (ZF H) rfl rfl rfl rfl rfl rfl rfl rfl rfl rfl rfl (fun _=>rfl) ?_;intro p;refine A7 ?_;refine sG (21) (0) (k) (fun g:Value=>[(0,.slice (some a) r cap),(1,.slice p1 m c1),(2,.slice p2 k c2),(13,.slice p1 m c1),(14,.int .i64 m),(7,out),(15,.int .i64 i),(9,nI (ρ i)),(19,.slice p2 k c2),(20,.int .i64 k),(10,g)]) (fun j g w'=>Ac w1 w'/\∃ us,Aq 2 37 w1.heap.size w' g us/\us.length=j/\∀ (x:Nat) (u:Value),us[x]?=some u->Dn w u (f (ρ i) (σ x))) (.slice none 0 0) ?_ ?_ ?_
  ·exact⟨Ac.refl _,[],Aq.nil,rfl,fun x r h=>by simp at h⟩
  ·rintro j g w2 I ⟨q,us,D,K,L⟩;have M:=l.trans q;obtain⟨b,o,cp,Y,e,C,R,hg⟩:=V (ρ i) (P i H);obtain⟨y,G,k1,k2⟩:=hg (σ j) (Q j I);have he:=P i H;have hf:=Q j I;have Z:=M.cell Y;have S:=R.ext M;refine Nv ?_;refine Af.elem A8 j _ (B.ext M) (ZF I) rfl rfl rfl rfl rfl rfl rfl rfl rfl rfl rfl (fun _=>rfl) ?_;intro p';unfold nI;refine A7 ?_;refine .p (A0.ia) ?_;refine .p (rL Z) ?_;refine .r rfl ?_;refine .p (rJ oo) ?_;refine .p (A0.aH rfl S k1 k2 G.r2) ?_;refine Af.app D G.cel rfl rfl rfl rfl rfl rfl (fun _=>rfl) rfl rfl oo rfl q.size ?_;intro p3 v' w3 W E hB;refine A7 ?_;refine Ad.aO v' AL ⟨E w1 q AO,_,W,by simp;omega,?_⟩;intro x u hu;by_cases A:x<us.length
   ·rw[BM A]at hu;exact L x u hu
   ·have N:x=us.length:=by have:=(Au.1 hu).1;simp at this;omega
    subst N;simp at hu;subst hu;rw[K];exact G
  ·rintro g w2 ⟨q,us,D,K,L⟩;have O:Vb w w2 w.heap.size g k (fun b=>f (ρ i) (σ b)):=⟨us,D.mono l.size,K,L⟩;have T:=n.ext q;refine A7 ?_;refine Af.app T O.one rfl rfl rfl rfl rfl rfl (fun _=>rfl) rfl rfl oo rfl (l.trans q).size ?_;intro p3 v' w3 U E hB;refine A7 ?_;refine Ad.aO (v',rs++[g]) AL ⟨E w (l.trans q) AO,U,by simp;omega,?_⟩;have keep:∀ (r:Value) (g:Nat->Int),Vb w w2 w.heap.size r k g->Vb w w3 w.heap.size r k g:=fun r g h=>h.keep fun t' b C F ht=>hB t' b C F (.inl (by rw[ht];decide));intro x r' d;by_cases A:x<rs.length
   ·rw[BM A]at d;refine keep _ _ ((z x r' d).keep fun t' b C F _=>F.ext q)
   ·have N:x=rs.length:=by have:=(Au.1 d).1;simp at this;omega
    subst N;simp at d;subst d;rw[s];exact keep _ _ O
 ·rintro⟨out,rs⟩ w1 ⟨l,n,s,z⟩;dsimp only at n s z ⊢;refine A7 ?_;refine uR ⟨l,rs,n.row ?_,by rw[AU];exact s,?_⟩
  ·intro r' d;obtain⟨x,A⟩:=Cx.1 d;rcases (z x r' A).one with ⟨_,t,_⟩ | ⟨h,_⟩
   ·exact t
   ·cases h
  ·intro x r' row d J;have ha:x<m:=by have:=(Au.1 J).1;rw[AU]at this;exact this
   rw[BK ha]at J;cases J;exact (z x r' d).li l
variable {i cap:Nat}{D:List Value}{Q:Exit->Act->World->Prop}{α:Type}{ops:Array Oper}{rest:List Oper}
section
variable {P:Program}{T:List (Nat×TI)}{n:Nat}{l:List Oper}{Q:Exit->Act->World->Prop}{fuel:Nat}{listed:Array Bool}{E:List (Nat×Value)}{w:World}
theorem WA.meet (f2:Nat) (d:Array Bool) (c:α->List (Nat×Value)) (I:α->World->Prop) (fin:∀ g w,I g w->WA P n l Q f2 d (c g) w)
  (paths:(∀ g w E' L',d=L'->I g w->Xy (c g) E'->WA P n l Q f2 L' E' w)->WA P n l Q fuel listed E w):WA P n l Q fuel listed E w:=by refine paths ?_;rintro g w E' L' rfl e k a j;exact fin g w e a (j.sub k)
end
theorem Af.cn {w:World}{d s:Nat}{ty1:TypeId}{p1 p2:String}{a1 a2:Array Edge}{v:Value}(g:Nat.blt d n=true) (j:∀ p,AR ((d,p)::E) s=some v) (hv:R2 v)
  (next:∀ w',Ac w w'->Aj 37 w' w.heap.size v.cells.toList->Af prog n ((d,.pointer (some ⟨w.heap.size,0,none⟩))::E) w' ops rest Q) :
  Af prog n E w ops (⟨some d,.alloc 37,ty1,p1,a1,none⟩::⟨none,.store 37 (.tmp d) (.tmp s),ty2,p2,a2,none⟩::rest) Q:=by refine Af.step rfl rfl g (Av.alloc A8 rfl) ?_;rintro _ r ⟨rfl,c,l,q⟩;obtain⟨x,y,rfl,m⟩:=hv;refine Af.step0 rfl rfl (Av.storeAll A8 rfl rfl (AF _ _ _) (j _) rfl rfl (by simpa[FM,Value.cells,Value.oneCell'] using m) c) ?_;rintro _ o ⟨e,k,_⟩;exact next o (l.aj k AO) e
section
variable {k:Nat}{te e:TypeId}{base:Nat}{w w':World}{v:Value}{rs:List Value}{R:List (List Value)}
theorem DE.newRow (h:DE k te e base w v rs R) (V:e≠te) {r:Value}(o:i<rs.length) (u:r.cells=#[r]) (T:r.oneCell'=true) {g:Nat}(hv:v=.slice (some ⟨g,0,none⟩) rs.length cap) (f:Aj te w g (rs++D))
  (hu:CE g w w') (L:Aj te w' g (rs.set i r++D)) (C:Aq k e w.heap.size w' r us) (M:base<=w.heap.size):DE k te e base w' v (rs.set i r) (R.set i us):=by
 have J:=h;obtain⟨z,E,t,F,G⟩:=h;obtain⟨g',cap',D',y,S,n,N,O,P⟩:=z.open (by intro e;rw[e]at o;simp at o);rw[hv]at y;simp only[Ci,AP,FF,and_true]at y;obtain⟨rfl,_,rfl⟩:=y;rw[CO rs t]at n;have I:=f.same n;have H:D=D':=List.append_cancel_left I;subst H;have A:∀ x ∈ rs.set i r,x.cells=#[x]:=by
  intro x d;rcases LF d with d | d
  ·exact t x d
  ·subst d;exact u
 have B:∀ (j:Nat) (s:Value),rs[j]?=some s->s.ownBlock=r.ownBlock->r.ownBlock=none:=by
  intro j s U Q;cases ho:r.ownBlock with
  | none=>rfl
  | some b =>
   have X:=J.cH U (Q.trans ho);rcases C.2 with ⟨h0,_⟩ | ⟨g2,c2,D2,hv2,hg2,_⟩
   ·rw[h0]at ho;cases ho
   ·rw[hv2]at ho;have:g2=b:=by simpa[Value.ownBlock] using ho
    omega
 refine⟨⟨?_,.inr ⟨g,cap,D,by rw[hv,EP],S,?_,by rw[EP];exact N,by rw[EP];exact O,P⟩⟩,by simpa using E,A,?_,?_⟩
 ·intro x d;rcases LF d with d | d
  ·exact z.1 x d
  ·subst d;exact⟨by rw[u];rfl,by rw[u];intro c p;simp at p;subst p;exact T⟩
 ·rw[CO _ A];exact L
 ·intro i' r' W l q;by_cases e1:i=i'
  ·subst e1;rw[Bx o]at l;rw[Bx oo]at q;cases l;cases q;exact C.mono M
  ·rw[Ce e1]at l q;exact (F i' r' W l q).aI hu f V
 ·intro a b r' s' K l m e2;by_cases ea:i=a
  ·subst ea;rw[Bx o]at l;cases l;rw[Ce oo]at m;exact B b s' m e2.symm
  ·rw[Ce ea]at l;by_cases eb:i=b
   ·subst eb;rw[Bx o]at m;cases m;rw[e2];exact B a r' l e2
   ·rw[Ce eb]at m;exact G a b r' s' K l m e2
end
theorem Ao.grown {bs:Nat}{w:World}{v:Value}{a:Int}(h:Ao base w u a) (d:Aq k 37 bs w v us) (c:w.grownBy w' v.ownBlock):Ao base w' u a:=by
 rcases CB d c with hE | ⟨b,C,_,_,hb,hU⟩
 ·exact h.ext hE
 ·exact h.aI hU hb de
theorem Ao.cel {w:World}{a:Int}(h:Ao base w u a):Y1 2 u:=by obtain⟨k,s,rfl,c⟩:=h.r2;refine .inr ⟨rfl,.bool k,s,rfl,rfl,?_⟩;simpa[Value.oneCell'] using c
theorem Aq.cQ {w:World}{v:Value}(h:Aq k e base w v us):v.cells=#[v]/\v.oneCell'=true:=by obtain⟨p,cap,rfl⟩:=h.len;exact⟨rfl,rfl⟩
theorem X0 {w:World}{v:Value}{r:Nat}(h:MI w v (mk r c f)) (hr:1<=r/\r<=16) (hc:1<=c/\c<=16) (hy:base<=w.heap.size) :
  Calls prog 99 #[v] w (AJ fun x w'=>Ac w w'/\∃ rs,BH rs base w' x (mk r c f)):=by
 obtain⟨a,cap,rfl,hP⟩:=h.mp hr.1 hc.1;refine Sj (args:=[_]) func99 rfl ntmps99 rfl ?_;refine A7 ?_;refine .s (Av.make A8 r rfl rfl rfl rfl rfl rfl rfl rfl (by show r * 24<=_;omega) oo) ?_;rintro _ w1 ⟨rfl,B,ho,h7⟩;have h0:DE 2 122 37 w.heap.size w1 (.slice (some ⟨w.heap.size,0,none⟩) r r) (List.replicate r (.slice none 0 0)) (List.replicate r []):=by
  refine⟨⟨?_,.inr ⟨w.heap.size,r,[],by rw[He],Ai _,?_,by simp,by simp,by unfold maxLen;omega⟩⟩,by simp,?_,?_,?_⟩
  ·intro u hu;rw[BU hu];exact⟨rfl,by simp[Value.cells,Value.oneCell']⟩
  ·rw[CO _ (fun u hu=>by rw[BU hu];rfl),D7];exact B
  ·intro u hu;rw[BU hu];rfl
  ·intro i s us hs C;have e1:=BU (Bi hs);have e2:=BU (Bi C);subst e1;subst e2;exact Aq.nil
  ·intro i j s t _ hs _ _;rw[BU (Bi hs)];rfl
 refine A7 ?_;refine St.rng A8 (12) (0) (r) oo [(0,.slice (some a) r cap),(3,.slice (some ⟨w.heap.size,0,none⟩) r r),(11,.int .i64 r)] (fun i w'=>Ac w w'/\∃ rs R,DE 2 122 37 w.heap.size w' (.slice (some ⟨w.heap.size,0,none⟩) r r) rs R/\rs.length=r/\Aj 122 w' w.heap.size rs/\(∀ (x:Nat),i<=x->x<r->rs[x]?=some (.slice none 0 0))/\∀ (x:Nat) (us:List Value),x<i->R[x]?=some us->us.length=c/\∀ (y:Nat) (u:Value),us[y]?=some u->Ao 0 w' u (f x y)) AL ?_ (fun _=>⟨rfl,rfl⟩) (fun _=>rfl) (fun _=>⟨rfl,rfl⟩) rfl rfl oo ?_ ?_
 ·exact⟨ho,_,_,h0,by simp,B,fun x _ W=>by simp[W],fun x us W=>by omega⟩
 ·clear h0 B ho h7;rintro i w2 hi ⟨G,rs,R,K,hb,hB,ha,Y⟩;obtain⟨b,o,cp,hn,U⟩:=(hP.ext G) i hi;refine A7 ?_;refine .p (A0.ia) ?_;refine .p (A0.load A8 rfl rfl rfl hn) ?_;refine A7 ?_;refine St.rng A8 (20) (0) (c) oo [(0,.slice (some a) r cap),(3,.slice (some ⟨w.heap.size,0,none⟩) r r),(11,.int .i64 r),(12,.int .i64 i),(4,.int .i64 i),(18,.slice (some ⟨b,o,none⟩) c cp),(19,.int .i64 c)] (fun j w'=>CE w.heap.size w2 w'/\∃ s us,Aj 122 w' w.heap.size (rs.set i s)/\Aq 2 37 w2.heap.size w' s us/\us.length=j/\∀ (y:Nat) (u:Value),us[y]?=some u->Ao 0 w' u (f i y)) AL ?_ (fun _=>⟨rfl,rfl⟩) (fun _=>rfl) (fun _=>⟨rfl,rfl⟩) rfl rfl oo ?_ ?_
  ·refine⟨CE.refl _ _,.slice none 0 0,[],?_,Aq.nil,rfl,fun y u hu=>by simp at hu⟩;have:rs.set i (.slice none 0 0)=rs:=by
    apply Fk;intro y;by_cases e:i=y
    ·subst e;rw[Bx oo,ha i AO hi]
    ·rw[Ce e]
   rw[this];exact hB
  ·rintro j w3 hj ⟨E,s,us,l,n,he,C⟩;have hf:Ac w w3:=G.aj E AO;obtain⟨b',o',hh,h1,e1,C1,hp,hg⟩:=hP i hi;have:=(G.cell h1).symm.trans hn;simp only[AP,Ci,FF,and_true]at this;obtain⟨⟨rfl,rfl⟩,_,rfl⟩:=this;obtain⟨y,F,k1,k2⟩:=hg j hj;have ht:=hp.ext hf;refine Nv ?_;refine .p (A0.aQ rfl rfl rfl oo) ?_;refine .p (A0.aH rfl ht k1 k2 F.r2) ?_;refine Af.cn rfl (fun _=>rfl) F.r2 ?_;intro w4 J P;replace l:=l.ext J;replace n:=n.ext J;have L:=E.trans (J.upd w.heap.size);have O:=hf.trans J;have ka:=(n.cQ).1;have kb:=(n.cQ).2;have T:(rs.set i s)[i]?=some s:=Bx oo;refine Nv ?_;refine St.sub (E':=[(20,.int .i64 j),(0,.slice (some a) r cap),(3,.slice (some ⟨w.heap.size,0,none⟩) r r),(11,.int .i64 r),(12,.int .i64 i),(4,.int .i64 i),(18,.slice (some ⟨b',o',none⟩) c hh),(19,.int .i64 c),(6,.pointer (some ⟨w3.heap.size,0,none⟩))]) ?_ AL;refine St.any Dv rfl ?_;intro w5 H _ _;replace P:=P.ext H;replace l:=l.ext H;replace n:=n.ext H;replace L:=L.trans (H.upd w.heap.size);replace O:=O.trans H;have h3:∀ (y:Nat) (u:Value),us[y]?=some u->Ao 0 w5 u (f i y):=fun y u hu=>((C y u hu).ext J).ext H;clear J H hf E C;refine WA.takes (fuel:=8) A8 kr (fun _ _ _ _ _ h=>h) [0,1,2,3] kr rfl ?_;refine WA.take 4 rfl rfl kr kr kr (fun _ _ _ h=>h) rfl rfl (fun w=>A0.ia) ?_;simp only[Cj,Ak,AE];refine WA.meet 3 #[true,true,true,true,true,true,true,true,true,false,false,false] (fun g:Nat×Value=>[(24,.slice (some ⟨w.heap.size,0,none⟩) r r),(25,.int .i64 i),(29,s),(32,.slice (some ⟨g.1,0,none⟩) 1 1),(20,.int .i64 j),(0,.slice (some a) r cap),(3,.slice (some ⟨w.heap.size,0,none⟩) r r),(11,.int .i64 r),(12,.int .i64 i),(4,.int .i64 i),(18,.slice (some ⟨b',o',none⟩) c hh),(19,.int .i64 c)])
    (fun g w'=>Ac w5 w'/\Aj 37 w' g.1 g.2.cells.toList/\Ao 0 w' g.2 (f i j)) ?_ ?_
   ·rintro⟨b8,z⟩ I ⟨k,B8,d⟩;dsimp only at B8 d ⊢;have Q:=n.ext k;have hk:=l.ext k;refine WA.one (i:=9) kr (Ed.val rfl rfl rfl rfl (Av.dc Q d.cel B8 rfl rfl rfl rfl rfl rfl rfl oo rfl (Ar L.size k.size)) ?_);rintro s' A ⟨hm,Z,_⟩;have M:CE w.heap.size w2 A/\Aj 122 A w.heap.size (rs.set i s):=by
     rcases CB Q Z with hE | ⟨b9,C9,_,hb9,hBk9,hU9⟩
     ·exact⟨(L.trans (k.upd _)).trans (hE.upd _),hk.ext hE⟩
     ·have h9:=hB.lt;refine⟨?_,hk.upd hU9 oo⟩;have:=L.trans (k.upd w.heap.size);exact⟨hU9.os.trans this.os,hU9.tape.trans this.tape,hU9.output.trans this.output,Ar this.size hU9.size,fun q hq h2=>(hU9.block q (CW hq this.size) oo).trans (this.block q hq h2)⟩
    have N:=hm.cQ;refine WA.one (i:=10) kr (Ed.val rfl rfl rfl rfl (A0.ia).op ?_);rintro _ _ ⟨rfl,rfl⟩;simp only[Cj,Ak,AE];refine WA.one (i:=11) kr (Ed.eff rfl rfl rfl (Av.store A8 (vs:=[s']) rfl rfl rfl (by rw[N.1]) rfl M.2 (by simp;omega) (by simpa using N.2)) ?_);rintro _ w8 ⟨hl,S⟩;refine WA.done kr ?_;refine Nv ?_;refine Ad.rnd AL ⟨M.1.trans S,s',us++[z],?_,hm.aI S M.2 de,by simp;omega,?_⟩
    ·have e2:Fl (rs.set i s) i [s']=rs.set i s':=by simp[Fl]
     rw[e2]at hl;exact hl
    ·intro y' u hu;by_cases h5:y'<us.length
     ·rw[BM h5]at hu;exact ((((h3 y' u hu).ext k).grown Q Z).aI S M.2 de)
     ·have h4:y'=us.length:=by have:=(Au.1 hu).1;simp at this;omega
      subst h4;simp at hu;subst hu;rw[he];exact (d.grown Q Z).aI S M.2 de
   ·intro meet;refine WA.two (i:=5) (j:=6) kr ?_ ?_
    ·refine Ed.val rfl rfl rfl rfl (A0.load A8 rfl rfl rfl (l.cell T)).op ?_;rintro _ _ ⟨rfl,rfl⟩;refine WA.one (i:=6) kr (Ed.val rfl rfl rfl rfl (A0.loadI2 rfl P F.r2).op ?_);rintro _ _ ⟨rfl,rfl⟩;refine WA.one (i:=7) kr (Ed.val rfl rfl rfl rfl (Av.call EF rfl (Gk (base:=0) (F.ext O) BI)) ?_);rintro z I ⟨k,d⟩;refine WA.one (i:=8) kr (Ed.val rfl rfl rfl rfl (Av.aP rfl rfl rfl rfl rfl d.cel) ?_);rintro _ A ⟨rfl,B7,m,_⟩;exact meet (I.heap.size,z) A _ _ kr ⟨k.trans m,B7,d.ext m⟩ AL
    ·refine Ed.val rfl rfl rfl rfl (A0.loadI2 rfl P F.r2).op ?_;rintro _ _ ⟨rfl,rfl⟩;refine WA.two (i:=5) (j:=7) kr ?_ ?_
     ·refine Ed.val rfl rfl rfl rfl (A0.load A8 rfl rfl rfl (l.cell T)).op ?_;rintro _ _ ⟨rfl,rfl⟩;refine WA.one (i:=7) kr (Ed.val rfl rfl rfl rfl (Av.call EF rfl (Gk (base:=0) (F.ext O) BI)) ?_);rintro z I ⟨k,d⟩;refine WA.one (i:=8) kr (Ed.val rfl rfl rfl rfl (Av.aP rfl rfl rfl rfl rfl d.cel) ?_);rintro _ A ⟨rfl,B7,m,_⟩;exact meet (I.heap.size,z) A _ _ kr ⟨k.trans m,B7,d.ext m⟩ AL
     ·refine Ed.val rfl rfl rfl rfl (Av.call EF rfl (Gk (base:=0) (F.ext O) BI)) ?_;rintro z I ⟨k,d⟩;refine WA.two (i:=5) (j:=8) kr ?_ ?_
      ·refine Ed.val rfl rfl rfl rfl (A0.load A8 rfl rfl rfl ((l.ext k).cell T)).op ?_;rintro _ _ ⟨rfl,rfl⟩;refine WA.one (i:=8) kr (Ed.val rfl rfl rfl rfl (Av.aP rfl rfl rfl rfl rfl d.cel) ?_);rintro _ A ⟨rfl,B7,m,_⟩;exact meet (I.heap.size,z) A _ _ kr ⟨k.trans m,B7,d.ext m⟩ AL
      ·refine Ed.val rfl rfl rfl rfl (Av.aP rfl rfl rfl rfl rfl d.cel) ?_;rintro _ A ⟨rfl,B7,m,_⟩;refine WA.one (i:=5) kr (Ed.val rfl rfl rfl rfl (A0.load A8 rfl rfl rfl ((l.ext (k.trans m)).cell T)).op ?_);rintro _ _ ⟨rfl,rfl⟩;exact meet (I.heap.size,z) A _ _ kr ⟨k.trans m,B7,d.ext m⟩ AL
  ·rintro w3 ⟨E,s,us,l,n,he,C⟩;have N:=n.cQ;have hv:=K.newRow (i:=i) de (D:=[]) oo N.1 N.2 (by rw[hb]) (by rw[D7];exact hB) E (by rw[D7];exact l) n G.size;refine Nv ?_;refine Ad.rnd AL ⟨G.aj E AO,_,_,hv,by simpa using hb,l,?_,?_⟩
   ·intro x W X;rw[Ce oo];exact ha x oo X
   ·intro x h8 W V;by_cases e:i=x
    ·subst e;have hw:=K.2.1;rw[Bx oo]at V;cases V;exact⟨he,C⟩
    ·rw[Ce e]at V;obtain⟨q1,q2⟩:=Y x h8 oo V;exact⟨q1,fun y u hu=>(q2 y u hu).aI E hB de⟩
 ·rintro w2 ⟨G,rs,R,K,hb,hB,ha,Y⟩;have hw:=K.2.1;refine A7 ?_;refine Ad.ax rfl rfl ⟨G,rs,R,K.mono hy,by rw[AU];omega,?_⟩;intro x us row C U;have X:x<r:=by have:=(Au.1 U).1;rw[AU]at this;exact this
  rw[BK X]at U;cases U;obtain⟨q1,q2⟩:=Y x us X C;refine⟨by simp;omega,fun y u z hu d=>?_⟩;have h6:y<c:=by have:=(Au.1 d).1;simpa using this
  rw[Fu h6]at d;cases d;exact q2 y u hu
end Go.Qf
namespace Go.Qf
abbrev Ej:=Nat->Rat
def Ri (f:Nat->List Nat->Rat):List Nat->Rat
 | []=>0
 | c::cs=>f c cs - Ri (fun x rest=>f x (c::rest)) cs
theorem Ia {f g:Nat->List Nat->Rat}(h:∀ c cs,f c cs=g c cs) (cs:List Nat):Ri f cs=Ri g cs:=by
 have:f=g:=by funext c cs;exact h c cs
 rw[this]
theorem Y2 (f g:Nat->List Nat->Rat) (cs:List Nat):Ri (fun c r=>f c r+g c r) cs=Ri f cs+Ri g cs:=by
 induction cs generalizing f g with
 | nil=>show (0:Rat)=0+0;decide +kernel
 | cons c cs ih =>
  show (f c cs+g c cs) - Ri (fun x rest=>f x (c::rest)+g x (c::rest)) cs=(f c cs - Ri _ cs)+(g c cs - Ri _ cs);rw[ih];grind
theorem Qy (a:Rat) (f:Nat->List Nat->Rat) (cs:List Nat):Ri (fun c r=>a * f c r) cs=a * Ri f cs:=by
 induction cs generalizing f with
 | nil=>show (0:Rat)=a * 0;rw[LV]
 | cons c cs ih =>
  show a * f c cs - Ri (fun x rest=>a * f x (c::rest)) cs=a * (f c cs - Ri _ cs);rw[ih];grind
def JN (r:Ej) (F:List Nat->Rat):List Nat->Rat:=Ri (fun c rest=>r c * F rest)
def Tk (r s:Ej):Ej:=fun c=>r c+s c
def P3 (a:Rat) (r:Ej):Ej:=fun c=>a * r c
theorem Y3 (r s:Ej) (F:List Nat->Rat) (cs:List Nat):JN (Tk r s) F cs=JN r F cs+JN s F cs:=by unfold JN Tk;rw[<- Y2];exact Ia (fun c rest=>Rat.add_mul _ _ _) cs
theorem A4S (a:Rat) (r:Ej) (F:List Nat->Rat) (cs:List Nat):JN (P3 a r) F cs=a * JN r F cs:=by unfold JN P3;rw[<- Qy];exact Ia (fun c rest=>NZ _ _ _) cs
theorem Vc (r:Ej) (F G:List Nat->Rat) (cs:List Nat):JN r (fun x=>F x+G x) cs=JN r F cs+JN r G cs:=by unfold JN;rw[<- Y2];exact Ia (fun c rest=>Q1 _ _ _) cs
theorem A3o (a:Rat) (r:Ej) (F:List Nat->Rat) (cs:List Nat):JN r (fun x=>a * F x) cs=a * JN r F cs:=by unfold JN;rw[<- Qy];exact Ia (fun c rest=>by grind) cs
theorem RN {r:Ej}{F G:List Nat->Rat}(h:∀ x,F x=G x) (cs:List Nat):JN r F cs=JN r G cs:=by have:F=G:=funext h;rw[this]
theorem Ue (r:Ej) (F:List Nat->Rat) (cs:List Nat):JN r (JN r F) cs=0:=by
 induction cs generalizing F with
 | nil=>rfl
 | cons c cs ih =>
  have e:JN r (JN r F) (c::cs)=r c * JN r F cs - Ri (fun x rest=>r x * JN r F (c::rest)) cs:=rfl;rw[e];have e2:∀ x rest,r x * JN r F (c::rest)=r c * (r x * F rest)+(-1) * (r x * JN r (fun l=>F (c::l)) rest):=by intro x rest;have:JN r F (c::rest)=r c * F rest - JN r (fun l=>F (c::l)) rest:=rfl;rw[this];grind
  rw[Ia e2,Y2,Qy,Qy];have e3:Ri (fun x rest=>r x * JN r (fun l=>F (c::l)) rest) cs=0:=ih (fun l=>F (c::l));have e4:Ri (fun x rest=>r x * F rest) cs=JN r F cs:=rfl;rw[e3,e4];grind
theorem ZG (r s:Ej) (F:List Nat->Rat) (cs:List Nat):JN r (JN s F) cs=- JN s (JN r F) cs:=by have h:=Ue (Tk r s) F cs;have e:∀ x,JN (Tk r s) F x=JN r F x+JN s F x:=fun x=>Y3 r s F x;rw[RN e,Y3,Vc,Vc,Ue,Ue]at h;grind
def det:List Ej->List Nat->Rat
 | []=>fun _=>1
 | r::rs=>JN r (det rs)
theorem A4T (r:Ej) (rs:List Ej) (cs:List Nat):det (r::rs) cs=JN r (det rs) cs:=rfl
theorem A3p (r:Ej) (a:Ej->Rat) (rs:List Ej) (cs:List Nat):JN r (det (rs.map (fun s=>Tk s (P3 (a s) r)))) cs=JN r (det rs) cs:=by
 induction rs generalizing cs with
 | nil=>rfl
 | cons s rs ih =>
  show JN r (JN (Tk s (P3 (a s) r)) (det (rs.map _))) cs=JN r (JN s (det rs)) cs;have e:∀ x,JN (Tk s (P3 (a s) r)) (det (rs.map (fun s=>Tk s (P3 (a s) r)))) x=JN s (det (rs.map (fun s=>Tk s (P3 (a s) r)))) x+a s * JN r (det (rs.map (fun s=>Tk s (P3 (a s) r)))) x:=by intro x;rw[Y3,A4S]
  rw[RN e,Vc,A3o,Ue,ZG,RN (fun x=>ih x),<- ZG];grind
theorem A4U {c:Nat}:∀ (rs:List Ej) (cs:List Nat),rs.length=cs.length+1->(∀ r ∈ rs,r c=0)->det rs (c::cs)=0:=by
 intro rs;induction rs with
 | nil=>intro cs h;cases h
 | cons r rs ih =>
  intro cs hl h;have e:det (r::rs) (c::cs)=r c * det rs cs - Ri (fun x rest=>r x * det rs (c::rest)) cs:=rfl;rw[e,h r sm,Rat.zero_mul];have key:∀ (ds:List Nat) (pre:List Nat),rs.length=pre.length+ds.length->Ri (fun x rest=>r x * det rs (c::(pre++rest))) ds=0:=by
   intro ds;induction ds with
   | nil=>intro pre _;rfl
   | cons d ds ihd =>
    intro pre hp;show r d * det rs (c::(pre++ds)) - Ri (fun x rest=>r x * det rs (c::(pre++(d::rest)))) ds=0;have h1:det rs (c::(pre++ds))=0:=ih (pre++ds) (by simp at hp ⊢;omega) (fun s hs=>h s (by simp[hs]));have h2:=ihd (pre++[d]) (by simp at hp ⊢;omega);have h3:Ri (fun x rest=>r x * det rs (c::(pre++[d]++rest))) ds=Ri (fun x rest=>r x * det rs (c::(pre++(d::rest)))) ds:=Ia (fun x rest=>by simp) ds;rw[h1,<- h3,h2,LV];decide +kernel
  have:=key cs [] (by simp at hl ⊢;exact hl);simp only[HX]at this;rw[this];decide +kernel
def OD (r:Ej) (c:Nat) (s:Ej):Ej:=Tk s (P3 (-(s c / r c)) r)
theorem A6G {r s:Ej}{c:Nat}(h:r c≠0):OD r c s c=0:=by unfold OD Tk P3;have:=Rat.div_mul_cancel (a:=s c) h;grind
theorem A4V (r:Ej) (rs:List Ej) (c:Nat) (cs:List Nat) (h:r c≠0) (hl:rs.length=cs.length):det (r::rs) (c::cs)=r c * det (rs.map (OD r c)) cs:=by
 have e1:=A3p r (fun s=>-(s c / r c)) rs (c::cs);rw[A4T,<- e1];show JN r (det (rs.map (OD r c))) (c::cs)=_;have e:JN r (det (rs.map (OD r c))) (c::cs)=r c * det (rs.map (OD r c)) cs - Ri (fun x rest=>r x * det (rs.map (OD r c)) (c::rest)) cs:=rfl;rw[e];have key:∀ (ds:List Nat) (pre:List Nat),rs.length=pre.length+ds.length->Ri (fun x rest=>r x * det (rs.map (OD r c)) (c::(pre++rest))) ds=0:=by
  intro ds;induction ds with
  | nil=>intro pre _;rfl
  | cons d ds ihd =>
   intro pre hp;show r d * det (rs.map (OD r c)) (c::(pre++ds)) - Ri (fun x rest=>r x * det (rs.map (OD r c)) (c::(pre++(d::rest)))) ds=0;have h1:det (rs.map (OD r c)) (c::(pre++ds))=0:=A4U _ _ (by simp at hp ⊢;omega) (by intro s hs;simp only[CG]at hs;obtain⟨t,_,rfl⟩:=hs;exact A6G h)
   have h2:=ihd (pre++[d]) (by simp at hp ⊢;omega);have h3:Ri (fun x rest=>r x * det (rs.map (OD r c)) (c::(pre++[d]++rest))) ds=Ri (fun x rest=>r x * det (rs.map (OD r c)) (c::(pre++(d::rest)))) ds:=Ia (fun x rest=>by simp) ds;rw[h1,<- h3,h2,LV];decide +kernel
 have:=key cs [] (by simpa using hl);simp only[HX]at this;rw[this];grind
def ZH (q:Rat):Prop:=∃ z:Int,q=z
theorem ZH.mul {p q:Rat}(h:ZH p) (k:ZH q):ZH (p * q):=by obtain⟨a,rfl⟩:=h;obtain⟨b,rfl⟩:=k;exact⟨a * b,(FG a b).symm⟩
theorem ZH.sub {p q:Rat}(h:ZH p) (k:ZH q):ZH (p - q):=by obtain⟨a,rfl⟩:=h;obtain⟨b,rfl⟩:=k;exact⟨a - b,(Rat.intCast_sub a b).symm⟩
theorem A6H {f:Nat->List Nat->Rat}(h:∀ c cs,ZH (f c cs)) (cs:List Nat):ZH (Ri f cs):=by
 induction cs generalizing f with
 | nil=>exact⟨0,rfl⟩
 | cons c cs ih=>exact (h c cs).sub (ih (fun x rest=>h x (c::rest)))
theorem A6I {rs:List Ej}(h:∀ r ∈ rs,∀ c,ZH (r c)) (cs:List Nat):ZH (det rs cs):=by
 induction rs generalizing cs with
 | nil=>exact⟨1,rfl⟩
 | cons r rs ih=>exact A6H (fun c rest=>(h r sm c).mul (ih (fun s hs=>h s (by simp[hs])) rest)) cs
def EL (A:Nat->Ej):Nat->Nat->Ej
 | 0=>A
 | k+1=>fun i=>OD (EL A k k) k (EL A k i)
def dd (A:Nat->Ej):Nat->Rat
 | 0=>1
 | k+1=>dd A k * EL A k k k
def BB (A:Nat->Ej) (k i j:Nat):Rat:=dd A k * EL A k i j
theorem Uf (A:Nat->Ej) (k i j:Nat):EL A (k+1) i j=EL A k i j - EL A k i k / EL A k k k * EL A k k j:=by show EL A k i j+-(EL A k i k / EL A k k k) * EL A k k j=_;grind
theorem A1e {A:Nat->Ej}{k:Nat}(h:dd A (k+1)≠0):EL A k k k≠0/\dd A k≠0:=by
 constructor
 ·intro e;apply h;show dd A k * EL A k k k=0;rw[e,LV]
 ·intro e;apply h;show dd A k * EL A k k k=0;rw[e,Rat.zero_mul]
theorem A8Y {A:Nat->Ej}:∀ {m k:Nat},dd A (k+m)≠0->dd A k≠0:=by
 intro m;induction m with
 | zero=>intro k h;exact h
 | succ m ih=>intro k h;exact ih (A1e h).2
theorem A4W (A:Nat->Ej) (i j:Nat):∀ (m k:Nat),dd A (k+m)≠0->dd A k * det ((List.range' k m).map (EL A k)++[EL A k i]) (List.range' k m++[j])=BB A (k+m) i j:=by
 intro m;induction m with
 | zero =>
  intro k _;show dd A k * (EL A k i j * 1 - 0)=dd A k * EL A k i j;grind
 | succ m ih =>
  intro k h;have hk:dd A (k+1+m)≠0:=by rw[show k+1+m=k+(m+1) by omega];exact h
  have hp:=(A1e (A8Y (m:=m) hk)).1;rw[List.range'_succ,Er,Hh,Hh,A4V _ _ _ _ hp sm];rw[Ev,List.map_map,Er,J4];have e:(OD (EL A k k) k ∘ EL A k)=EL A (k+1):=rfl;have e2:OD (EL A k k) k (EL A k i)=EL A (k+1) i:=rfl;rw[e,e2,<- NZ];have:=ih (k+1) hk;rw[show k+1+m=k+(m+1) by omega]at this;exact this
theorem A1f (A:Nat->Ej) (k i j:Nat) (h:dd A k≠0):det ((List.range k).map A++[A i]) (List.range k++[j])=BB A k i j:=by have:=A4W A i j k 0 (by simpa using h);rw[AE,<- List.range_eq_range']at this;rw[<- this];show _=1 * det _ _;rw[Kl];rfl
theorem Y4 {A:Nat->Ej}(hA:∀ i j,ZH (A i j)) (k i j:Nat) (h:dd A k≠0):ZH (BB A k i j):=by
 rw[<- A1f A k i j h];refine A6I ?_ _;intro r hr c;simp only[FB,CG,Du]at hr;rcases hr with ⟨l,_,rfl⟩ | rfl
 ·exact hA l c
 ·exact hA i c
theorem Y5 (A:Nat->Ej) (i j:Nat):BB A 0 i j=A i j:=by show 1 * A i j=_;rw[Kl]
theorem Fv (A:Nat->Ej) (k:Nat):BB A k k k=dd A (k+1):=rfl
theorem Y6 (A:Nat->Ej) (k i j:Nat) (h:dd A (k+1)≠0):BB A (k+1) i j * dd A k=BB A k k k * BB A k i j - BB A k i k * BB A k k j:=by
 have hp:=(A1e h).1;have e:=Rat.div_mul_cancel (a:=EL A k i k) hp;unfold BB;rw[Uf];show dd A k * EL A k k k * (EL A k i j - EL A k i k / EL A k k k * EL A k k j) * dd A k=_;generalize EL A k i k / EL A k k k=q at *
 rw[<- e];grind
end Go.Qf
namespace Go.Qf
open Go Go.RowKit Go.Proofs Go.Proofs.Tryz
variable {base:Nat}{y:Value}
theorem A83 {a b:Int}(c:sz a<=1000000) (d:sz b<=1000000):sz (if b<0 then -((Nat.gcd a.natAbs b.natAbs:Nat):Int) else ((Nat.gcd a.natAbs b.natAbs:Nat):Int))<=1000000:=by
 have h:=A4B a b;split
 ·rw[KG];omega
 ·omega
theorem A84 {a b:Int}(c:b≠0):(if b<0 then -((Nat.gcd a.natAbs b.natAbs:Nat):Int) else ((Nat.gcd a.natAbs b.natAbs:Nat):Int))≠0:=by have h:=XV (a:=a) c;split <;> omega
theorem Kx {w:World}{x:Value}{a b:Int}(d:Dn w x a) (c:Dn w y b) (G:b≠0) (L:base<=w.heap.size) :
  Calls prog 76 #[x,y] w (AJ fun r w'=>Ac w w'/\Bk base w' r (Rat.divInt a b)):=by
 have he:=d;have T:=c;refine cS func76 ntmps76 ?_;refine Nv ?_;refine .s (oB) ?_;rintro _ w1 ⟨rfl,B1,O,hk⟩;refine .s (oB) ?_;rintro _ w2 ⟨rfl,B2,K,hl⟩;refine .s (oA) ?_;rintro _ w3 ⟨rfl,B3,E,hm⟩;have e:Ac w w3:=(O.trans K).trans E;replace B1:=(B1.ext K).ext E;replace B2:=B2.ext E;replace d:=d.ext e;replace c:=c.ext e;clear O K E;refine A7 ?_;refine .p (rI (B1) (d.r2)) ?_;refine .p (rI (B2) (c.r2)) ?_;refine .s (oK Uy (A80 d c)) ?_;rintro g w4 ⟨m,M⟩;replace B1:=B1.ext m;replace B2:=B2.ext m;replace B3:=B3.ext m;replace d:=d.ext m;replace c:=c.ext m;replace e:=e.trans m;clear m;refine Af.d9 rfl (fun _=>rfl) M e ?_;intro b5 w5 V o B5 l J;refine A7 ?_;refine .p (rI (B2.ext o) (c.r2)) ?_;refine .s (oK CF (Kv (c.ext o))) ?_;rintro _ w6 ⟨i,rfl⟩;replace B5:=B5.ext i;replace l:=l.ext i;replace o:=o.trans i;replace J:=J.trans i;clear i;have C:=A83 d.bM c.bM;have N:=A84 (a:=a) G;have W:=Pu (a:=a) G;have U:=A16 (a:=a) G;refine .r rfl ?_;refine Af.nil (Ad.ak (St.cL (fun _:Value=>[(2,.pointer (some ⟨w.heap.size,0,none⟩)),(3,.pointer (some ⟨w1.heap.size,0,none⟩)),(4,.pointer (some ⟨w2.heap.size,0,none⟩)),(5,.pointer (some ⟨b5,0,none⟩))]) (fun u w'=>Ac w4 w'/\Aj 37 w' b5 u.cells.toList/\Ao 0 w' u (if b<0 then -((Nat.gcd a.natAbs b.natAbs:Nat):Int) else ((Nat.gcd a.natAbs b.natAbs:Nat):Int))) ?_ ?_))
 ·by_cases t:b<0
  ·refine St.aD rfl (decide_eq_true (by unfold AH;rw[if_pos t];decide)) ?_;rw[if_pos t,KG]at C;refine A7 ?_;refine .p (rI (B5) (l.r2)) ?_;refine .s (oK Uz (A7X (l.dn C))) ?_;rintro v7 w7 ⟨j,R⟩;refine Af.aK rfl rfl (B5.ext j) l.two.1 R (o.trans j) V ?_;intro w8 B8 hj S k;refine Af.nil (Ad.met v7 ⟨rfl,rfl,rfl,rfl,trivial⟩ ⟨k,B8,?_⟩);rw[if_pos t];exact S
  ·refine St.ay rfl (decide_eq_false (by unfold AH;rw[if_neg t];split <;> decide)) (St.skip (Ad.met g ⟨rfl,rfl,rfl,rfl,trivial⟩ ⟨o,B5,?_⟩));rw[if_neg t];exact l
 ·rintro u w7 ⟨j,q,hu⟩;have hf:=B1.lt;have hh:=B2.lt;have hi:=B3.lt;replace B1:=B1.ext j;replace B2:=B2.ext j;replace B3:=B3.ext j;replace d:=d.ext j;replace c:=c.ext j;replace e:=e.trans j;clear j;generalize (if b<0 then -((Nat.gcd a.natAbs b.natAbs:Nat):Int) else ((Nat.gcd a.natAbs b.natAbs:Nat):Int))=D at *
  clear B5 l o J M;refine A7 ?_;refine .p (rI (B1) (d.r2)) ?_;refine .p (rI (q) (hu.r2)) ?_;refine .s (oK Hv (RF (base:=base) d (hu.dn C) (Ar L e.size))) ?_;rintro _ w8 ⟨k,_,H⟩;obtain⟨q1,m1,rfl,A,_⟩:=H N;rw[W]at A;replace B1:=B1.ext k;replace B2:=B2.ext k;replace B3:=B3.ext k;replace q:=q.ext k;replace hu:=hu.ext k;replace e:=e.trans k;clear k;refine .r rfl ?_;refine Af.aK rfl rfl B1 d.r2.len A e AO ?_;intro w9 z h f n;replace B2:=B2.upd h oo;replace B3:=B3.upd h oo;replace q:=q.upd h oo;replace hu:=hu.aI h B1 de;clear h B1 e;refine A7 ?_;refine .p (rI (B2) (c.r2)) ?_;refine .p (rI (q) (hu.r2)) ?_;refine .s (oK Hv (RF (base:=base) (T.ext n) (hu.dn C) (Ar L n.size))) ?_;rintro _ hn ⟨v,_,H⟩;obtain⟨q2,m2,rfl,B,_⟩:=H N;rw[U]at B;replace z:=z.ext v;replace B2:=B2.ext v;replace B3:=B3.ext v;replace f:=f.ext v;replace n:=n.trans v;clear v;refine .r rfl ?_;refine Af.aK rfl rfl B2 c.r2.len B n oo ?_;intro hc Q I X Z;replace z:=z.upd I oo;replace B3:=B3.upd I oo;replace f:=f.aI I B2 de;refine A7 ?_;refine .p (rI (z) (A.r2)) ?_;refine .p (rI (Q) (B.r2)) ?_;refine .p (A0.bK rfl rfl A.r2 B.r2) ?_;have F:Bk base hc (mkR q1 q2) (Rat.divInt a b):=Bk.mk f X;refine Af.aT rfl rfl rfl F.1 B3 rfl Z oo ?_;intro ho P Y ha;refine A7 ?_;exact Ad.bA rfl rfl P F.1 ⟨ha,F.upd Y B3 de⟩
def A3q (base:Nat) (w:World) (r:Value) (a b:Int):Prop:=(b=0->r=.tuple #[zR,.bool false])/\(b≠0->∃ v,r=.tuple #[v,.bool true]/\Bk base w v (Rat.divInt a b))
theorem GV (a:Int):(AH a=0)=(a=0):=by
 unfold AH;apply propext;constructor
 ·intro h;split at h
  ·omega
  ·split at h <;> omega
 ·intro h;subst h;rfl
theorem ZI {w:World}{x:Value}{a b:Int}(g:Dn w x a) (c:Dn w y b) (u:base<=w.heap.size) :
  Calls prog 44 #[x,y] w (AJ fun r w'=>Ac w w'/\A3q base w' r a b):=by
 refine cS func44 ntmps44 ?_;refine Nv ?_;refine .s (oB) ?_;rintro _ w1 ⟨rfl,B1,o,n⟩;refine .s (oB) ?_;rintro _ w2 ⟨rfl,B2,m,A⟩;refine .s (oA) ?_;rintro _ w3 ⟨rfl,B3,l,B⟩;have d:Ac w w3:=(o.trans m).trans l;replace B1:=(B1.ext m).ext l;replace B2:=B2.ext l;replace g:=g.ext d;replace c:=c.ext d;clear o m l;refine A7 ?_;refine .p (rI (B2) (c.r2)) ?_;refine .s (oK CF (Kv c)) ?_;rintro _ C ⟨e,rfl⟩;replace B1:=B1.ext e;replace B2:=B2.ext e;replace B3:=B3.ext e;replace g:=g.ext e;replace c:=c.ext e;replace d:=d.trans e;clear e;by_cases j:b=0
 ·refine .a 1 (.bool true) rfl (Aa (by rw[GV];exact j)) ?_;refine A7 ?_;refine .ct ?_;refine .p (rB) ?_;refine Af.aT (v:=zR) rfl rfl rfl GR B3 rfl d oo ?_;intro f B5 i k;refine A7 ?_;exact Ad.bF rfl rfl rfl B5 GR ⟨k,fun _=>rfl,fun h=>absurd j h⟩
 ·refine .a 1 (.bool false) rfl (A9 (by rw[GV];exact j)) ?_;refine A7 ?_;refine .cf ?_;refine .p (rI (B1) (g.r2)) ?_;refine .p (rI (B2) (c.r2)) ?_;refine .s (oK EU (Kx (base:=base) g c j (Ar u d.size))) ?_;rintro v f ⟨k,hv⟩;refine Af.aT rfl rfl rfl hv.1 (B3.ext k) rfl (d.trans k) oo ?_;intro D q z t;refine A7 ?_;exact Ad.bF rfl rfl rfl q hv.1 ⟨t,fun h=>absurd h j,fun _=>⟨v,rfl,hv.upd z (B3.ext k) de⟩⟩
theorem Ib {w:World}{x:Value}{a:Int}(d:Dn w x a) (l:base<=w.heap.size) :
  Calls prog 14 #[x] w (AJ fun r w'=>Ac w w'/\Bk base w' r (a:Rat)):=by refine cS func14 ntmps14 ?_;refine Nv ?_;refine .s (oB) ?_;rintro _ w1 ⟨rfl,B1,m,t⟩;refine .s (oA) ?_;rintro _ w2 ⟨rfl,B2,j,b⟩;have c:Ac w w2:=m.trans j;replace B1:=B1.ext j;replace d:=d.ext c;clear m j;refine A7 ?_;refine .p (rI (B1) (d.r2)) ?_;refine .s (oK IP (Qw (base:=base) d (Ar l c.size))) ?_;rintro u w3 ⟨k,hu⟩;replace B2:=B2.ext k;replace c:=c.trans k;clear k;refine .s (oK BC (SA (base:=base) w3 1 de de (Ar l c.size))) ?_;rintro v z ⟨e,hv⟩;replace B2:=B2.ext e;replace hu:=hu.ext e;replace c:=c.trans e;clear e;refine .p (A0.bK rfl rfl hu.r2 hv.r2) ?_;have g:Bk base z (mkR u v) (a:Rat):=Bk.mk hu hv;refine Af.aT rfl rfl rfl g.1 B2 rfl c oo ?_;intro f o q y;refine A7 ?_;exact Ad.bA rfl rfl o g.1 ⟨y,g.upd q B2 de⟩
theorem A6J (w:World):Dn w (FM false (.slice none 0 0)) 0:=⟨false,[],⟨none,0,rfl,⟨⟨none,0,rfl,Ai _,fun _=>rfl,fun a c=>by cases c⟩,EB.nil⟩⟩,rfl,Cu _⟩
theorem Tm {w:World}{x:Value}{q:Rat}(f:Pv w x q) (z:base<=w.heap.size) :
  Calls prog 67 #[x] w (AJ fun r w'=>Ac w w'/\Bk base w' r q):=by
 refine cS func67 ntmps67 ?_;refine Nv ?_;refine .s (oB) ?_;rintro _ w1 ⟨rfl,B1,t,A⟩;refine .s (oA) ?_;rintro _ w2 ⟨rfl,B2,u,B⟩;have c:Ac w w2:=t.trans u;replace B1:=B1.ext u;obtain⟨l,a,b,m,j,rfl⟩:=f.ext c;clear t u;refine A7 ?_;refine .p (A0.aX rfl (B1) (l)) ?_;refine .s (oK CF (Kv j)) ?_;rintro _ h ⟨e,rfl⟩;replace B1:=B1.ext e;replace B2:=B2.ext e;replace m:=m.ext e;replace j:=j.ext e;replace c:=c.trans e;clear e;by_cases g:b=0
 ·refine .a 1 (.bool true) rfl (Aa (by rw[GV];exact g)) ?_;subst g;rw[Rat.divInt_zero];refine A7 ?_;refine .ct ?_;refine .p (rB) ?_;refine .s (oK Dw (Ib (base:=base) (A6J h) (Ar z c.size))) ?_;rintro v i ⟨d,hv⟩;refine Af.aT rfl rfl rfl hv.1 (B2.ext d) rfl (c.trans d) oo ?_;intro n k o y;refine A7 ?_;exact Ad.bA rfl rfl k hv.1 ⟨y,hv.upd o (B2.ext d) de⟩
 ·refine .a 1 (.bool false) rfl (A9 (by rw[GV];exact g)) ?_;refine A7 ?_;refine .cf ?_;refine .p (A0.bg rfl (B1) (l)) ?_;refine .r rfl ?_;refine .p (A0.aX rfl (B1) (l)) ?_;refine .s (oK EU (Kx (base:=base) m j g (Ar z c.size))) ?_;rintro v i ⟨d,hv⟩;refine Af.aT rfl rfl rfl hv.1 (B2.ext d) rfl (c.trans d) oo ?_;intro n k o y;refine A7 ?_;exact Ad.bA rfl rfl k hv.1 ⟨y,hv.upd o (B2.ext d) de⟩
theorem Ea {w:World}{x:Value}{q:Rat}(c:Pv w x q) (l:base<=w.heap.size) :
  Calls prog 35 #[x] w (AJ fun r w'=>Ac w w'/\Bk base w' r q):=by refine cS func35 ntmps35 ?_;refine Nv ?_;refine .s (oB) ?_;rintro _ w1 ⟨rfl,B1,j,u⟩;refine .s (oA) ?_;rintro _ w2 ⟨rfl,B2,e,y⟩;have d:Ac w w2:=j.trans e;replace B1:=B1.ext e;replace c:=c.ext d;clear j e;refine A7 ?_;refine .p (rR (B1) (c.1)) ?_;refine .s (oK MA (Tm (base:=base) c (Ar l d.size))) ?_;rintro v z ⟨g,hv⟩;refine Af.aT rfl rfl rfl hv.1 (B2.ext g) rfl (d.trans g) oo ?_;intro t k m o;refine A7 ?_;exact Ad.retF rfl rfl k hv.1 ⟨o,hv.upd m (B2.ext g) de⟩
variable {n i b s1 s2 b2 b1 d1 d2:Nat}{w' w0:World}{ty e ty2:TypeId}{af:Array Edge}{g:Option (Nat×Bool)}{E:List (Nat×Value)}{d:Option Tmp}{u:Value}{P:Program}{Φ:Value->World->Prop}{fn:Func}{Q:Exit->Act->World->Prop}{ops:Array Oper}{vs:List Value}{args:Array Operand}{tys:Array TypeId}{rest:List Oper}{qs:List Rat}
theorem Pv.rz {w:World}{v:Value}{q:Rat}(h:Pv w v q):rz q<=1000000:=by obtain⟨_,a,b,c,d,rfl⟩:=h;have:=JK a b;have:=c.bM;have:=d.bM;omega
theorem A1g (base:Nat) (w:World):Ao base w (FM false (.slice none 0 0)) 0:=⟨none,0,rfl,Gh.nil _ _ _,EB.nil⟩
theorem Av.callT {w:World}{f:FuncId}(c:Oy P f fn) {t:Nat}{pos:String}
  (z:AR E t=some (.func (.func f) #[] #[])) (m:Z3 E args.toList=some vs) (o:Calls P f vs.toArray w (AJ Φ)) :
  Av P n ⟨d,.call ⟨.value (.tmp t),args,tys⟩,ty,pos,af,g⟩ E w Φ:=by
 intro a j Q K l;have r:=LX j _ _ m;have k:args.map a.eval=vs.toArray:=by rw[<- r];apply LD.1;simp
 have q:a.eval (.tmp t)=.func (.func f) #[] #[]:=j.eval (x:=.tmp t) z;have y:(execOp a.eval ⟨d,.call ⟨.value (.tmp t),args,tys⟩,ty,pos,af,g⟩).run P w=.ok (.enter f vs.toArray) w:=by
  simp only[execOp,resolve,q,Deferred.ofValue,k,Bq,AX,Bp,invoke,callFunc];simp only[Array.append_empty,Tz];have u:(program).run P w=.ok P w:=by simp[go_sem]
  simp only[u,Bp,c.func,c.name,c.body,Hg,if_false,AX]
 unfold Oper.wp;rw[y,Oper.upon_enter];refine o.mono ?_;rintro e w' ⟨v,rfl,hv⟩;exact l v w' hv
theorem PB {w:World}{x:Value}{q:Rat}(h:Bk base w x q) (e:rz q<=1000000) :
  Calls prog 34 #[x] w (AJ fun r w'=>Ac w w'/\r=.int .i64 (AH q.num)):=by refine cS func34 ntmps34 ?_;refine Nv ?_;refine .s (oB) ?_;rintro _ w1 ⟨rfl,B1,c,g⟩;refine A7 ?_;refine .p (A0.bg rfl (B1) (h.1)) ?_;refine .s (oK CF (Kv ((h.2.1.ext c).dn (Ar (Ez q) e)))) ?_;rintro _ w2 ⟨d,rfl⟩;refine A7 ?_;exact Ad.ax rfl rfl ⟨c.trans d,rfl⟩
theorem A1h {w:World}{x:Value}{q:Rat}(h:Pv w x q) :
  Calls prog 19 #[x] w (AJ fun r w'=>Ac w w'/\r=.int .i64 (AH q.num)):=by
 refine cS func19 ntmps19 ?_;refine Nv ?_;refine .s (oB) ?_;rintro _ w1 ⟨rfl,B1,g,o⟩;obtain⟨e,a,b,j,k,rfl⟩:=h.ext g;refine A7 ?_;refine sF 5 ?_;refine .q ?_;refine .on (fun _ d=>A0.bg rfl (d.blk (B1) sm) (e)) ?_;refine FL.aY CF rfl rfl rfl (fun w2 c=>cM (Kv (j.ext c))) ?_;refine .q ?_;refine .on (fun _ d=>A0.aX rfl (d.blk (B1) sm) (e)) ?_;refine FL.aG rfl ?_;intro w2 c _ _;refine .s (oK CF (Kv (k.ext c))) ?_;rintro _ w3 ⟨l,rfl⟩;refine .a 1 (.int .i64 (AH (Rat.divInt a b).num)) rfl ?_ ?_
 ·congr 1;have m:=FN (Rat.divInt a b).num;show IntKind.i64.wrap (AH a * AH b)=_;rw[Zy,Ab oo oo]
 refine A7 ?_;exact Ad.ax rfl rfl ⟨(g.trans c).trans l,rfl⟩
def Y7 (w:World) (b:Nat) (vs:List Value) (qs:List Rat):Prop :=
 Aj 39 w b (AV vs)/\(∀ v ∈ vs,R4 v)/\vs.length=qs.length/\∀ (i:Nat) (v:Value) (q:Rat),vs[i]?=some v->qs[i]?=some q->Pv w v q
theorem Y7.ext {w:World}(h:Y7 w b vs qs) (c:Ac w w'):Y7 w' b vs qs :=
 ⟨h.1.ext c,h.2.1,h.2.2.1,fun i v q d e=>(h.2.2.2 i v q d e).ext c⟩
theorem Y7.two {w:World}{v:Value}{p q:Rat}(hB:Aj 39 w b (AV [u,v])) (hu:Pv w u p) (hv:Pv w v q):Y7 w b [u,v] [p,q]:=by
 refine⟨hB,?_,rfl,?_⟩
 ·intro k e;simp at e;rcases e with rfl | rfl
  ·exact hu.1
  ·exact hv.1
 ·intro i k r c d;match i with
  | 0=>simp at c d;subst c;subst d;exact hu
  | 1=>simp at c d;subst c;subst d;exact hv
  | i+2=>simp at c
def A3r (l:List Rat):Rat:=l.foldl (·+·) 0
def X1 (l:List Rat):Rat:=l.foldl (· * ·) 1
theorem A3s {l:List Rat}{q:Rat}(h:l[i]?=some q):A3r (l.take (i+1))=A3r (l.take i)+q:=by unfold A3r;rw[List.take_add_one,h,Q2];rfl
theorem A1i {l:List Rat}{q:Rat}(h:l[i]?=some q):X1 (l.take (i+1))=X1 (l.take i) * q:=by unfold X1;rw[List.take_add_one,h,Q2];rfl
theorem Md (q:Rat):(q.den:Int)≠0:=by have:=A6x q;omega
theorem A4X {w:World}(h:Y7 w b vs qs) (hs:qs.length<=3) (hq:∀ q ∈ qs,rz q<=100000) :
  Calls prog 119 #[.slice (some ⟨b,0,none⟩) vs.length vs.length] w (AJ fun r w'=>Ac w w'/\Bk 0 w' r (A3r qs)):=by
 have h1:=h.2.2.1;refine cS func119 ntmps119 ?_;refine Nv ?_;refine .s (oA) ?_;rintro _ w1 ⟨rfl,B1,P,h3⟩;refine A7 ?_;refine .p (rB) ?_;refine .s (oK BC (DY w1 1 de de)) ?_;rintro v9 w2 ⟨K,W⟩;have N:Ac w w2:=P.trans K;replace B1:=B1.ext K;clear P K;refine Af.cZ rfl rfl rfl (fun _ _=>rfl) (fun _ _=>rfl) (A1g 0 w2) W N ?_;intro b3 b4 w3 hx Z hb hj B3 B4 V X h2;have hw:=B1.lt;refine A7 ?_;refine St.loop (fun g:Nat×(Value×Value)×Int×Int=>[(2,.pointer (some ⟨w.heap.size,0,none⟩)),(3,.pointer (some ⟨b3,0,none⟩)),(4,.pointer (some ⟨b4,0,none⟩)),(10,.slice (some ⟨b,0,none⟩) vs.length vs.length),(11,.int .i64 vs.length),(12,.int .i64 g.1)])
  (fun g w'=>Ac w2 w'/\Aj 37 w' b3 g.2.1.1.cells.toList/\Aj 37 w' b4 g.2.1.2.cells.toList/\Ao 0 w' g.2.1.1 g.2.2.1/\Ao 0 w' g.2.1.2 g.2.2.2/\g.2.2.2≠0/\Rat.divInt g.2.2.1 g.2.2.2=A3r (qs.take g.1)/\sz g.2.2.1<=(g.1+1) * 100001/\sz g.2.2.2<=(g.1+1) * 100001/\g.1<=vs.length)
  (fun g=>vs.length - g.1) (0,(_,v9),0,1) ⟨rfl,rfl,rfl,rfl,rfl,rfl,trivial⟩ ⟨hj,B3,B4,V,X,by show (1:Int)≠0;decide,by rw[Rat.zero_divInt];rfl,by have:=Ud;dsimp only;omega,by have:=RI;dsimp only;omega,Cu _⟩ ?_
 rintro⟨i,⟨u,v⟩,A,B⟩ w4 ⟨d,B3,B4,hu,hv,D,J,he,hf,Y⟩;dsimp only at B3 B4 hu hv D J he hf Y ⊢;have O:=N.trans d;replace B1:=B1.ext d;by_cases hc:i<vs.length
 ·have H:vs[i]?=some vs[i]:=by simp
  have I:qs[i]?=some (qs[i]'oo):=by simp
  have hd:=hq (qs[i]'oo) (DU _);generalize vs[i]=x at H;generalize (qs[i]'oo)=q at I hd;have G:=h.ext O;have C:=G.2.2.2 i x q H I;have ha:=B3.lt;have hn:=B4.lt;refine Nv ?_;refine .a 1 (.bool true) rfl (Aa oo) ?_;refine Nv ?_;refine .ct ?_;refine .p (A0.dU rfl rfl hc) ?_;refine .p (A0.dA rfl G.1 G.2.1 H) ?_;refine Af.bn rfl rfl (fun _=>rfl) C.1 ?_;intro b6 w5 hp e E;replace B1:=B1.ext e;replace B3:=B3.ext e;replace B4:=B4.ext e;replace hu:=hu.ext e;replace hv:=hv.ext e;replace C:=C.ext e;replace d:=d.trans e;clear e;refine A7 ?_;refine .p (rR (E) (C.1)) ?_;refine .s (oK Cl (Ea (base:=0) C BI)) ?_;rintro t w6 ⟨l,c⟩;replace B1:=B1.ext l;replace B3:=B3.ext l;replace B4:=B4.ext l;replace hu:=hu.ext l;replace hv:=hv.ext l;replace d:=d.trans l;clear l;have h0:=ha;refine Af.bn rfl rfl (fun _=>rfl) c.1 ?_;intro b7 w7 hr o B7;have hm:=B3.lt;have ho:=B4.lt;replace B1:=B1.ext o;replace B3:=B3.ext o;replace B4:=B4.ext o;replace hu:=hu.ext o;replace hv:=hv.ext o;replace c:=c.ext o;replace d:=d.trans o;clear o;have hz:=Ez q;have hy:=EG q;have m1:=Bt A (q.den:Int);have m2:=Bt q.num B;have m3:=Pt (A * (q.den:Int)) (q.num * B);have m4:=Bt B (q.den:Int);refine A7 ?_;refine sF 7 ?_;refine .q ?_;refine .on (fun _ y=>rI (y.blk (B3) sm) (hu.r2)) ?_;refine .q ?_;refine .on (fun _ y=>A0.aX rfl (y.blk (B7) sm) (c.1)) ?_;refine FL.au D8 rfl rfl rfl (fun w8 j=>cM (M7 ((hu.ext j).dn oo) ((c.2.2.ext j).dn oo))) (Am.aF 0 _) ?_;refine .q ?_;refine .on (fun _ y=>A0.bg rfl (y.blk (B7) sm) (c.1)) ?_;refine .on (fun _ y=>rI (y.blk (B4) sm) (hv.r2)) ?_;refine FL.aG rfl ?_;intro w8 j h5 F _ _;replace B1:=B1.ext j;replace B3:=B3.ext j;replace B4:=B4.ext j;replace B7:=B7.ext j;replace hu:=hu.ext j;replace hv:=hv.ext j;replace c:=c.ext j;replace d:=d.trans j;clear j;refine .s (oK D8 (M7 (c.2.1.dn oo) (hv.dn oo))) ?_;rintro h6 w9 ⟨k,R⟩;replace B1:=B1.ext k;replace B3:=B3.ext k;replace B4:=B4.ext k;replace B7:=B7.ext k;replace hu:=hu.ext k;replace hv:=hv.ext k;replace c:=c.ext k;replace F:=F.ext k;replace d:=d.trans k;clear k;refine .s (oK UE (A7Y (F.dn oo) (R.dn oo))) ?_;rintro hk h7 ⟨m,S⟩;replace B1:=B1.ext m;replace B3:=B3.ext m;replace B4:=B4.ext m;replace B7:=B7.ext m;replace hv:=hv.ext m;replace c:=c.ext m;replace d:=d.trans m;clear m;refine Af.aK rfl rfl B3 hu.two.1 S d Z ?_;intro ka B3' f z L;replace B4:=B4.upd f oo;replace B7:=B7.upd f oo;replace hv:=hv.aI f B3 de;replace c:=c.upd f B3 de;clear f B3 d;refine A7 ?_;refine .p (rI (B4) (hv.r2)) ?_;refine .r rfl ?_;refine .p (A0.aX rfl (B7) (c.1)) ?_;refine .s (oK D8 (M7 (hv.dn oo) (c.2.2.dn oo))) ?_;rintro hl kb ⟨n,T⟩;replace B3':=B3'.ext n;replace B4:=B4.ext n;replace z:=z.ext n;replace L:=L.trans n;clear n;refine Af.aK rfl rfl B4 hv.two.1 T L hb ?_;intro kc Q M U hh;replace B3':=B3'.upd M oo;replace z:=z.aI M B4 de;refine A7 ?_;refine Ad.again (i+1,(hk,hl),A * (q.den:Int)+q.num * B,B * (q.den:Int)) ⟨rfl,rfl,rfl,rfl,rfl,?_,trivial⟩ ⟨hh,B3',Q,z,U,Int.mul_ne_zero D (Md q),?_,by dsimp only;omega,by dsimp only;omega,by dsimp only;omega⟩ (by dsimp only;omega)
  ·show some (Value.int .i64 (IntKind.i64.wrap ((i:Int)+1)))=_;rw[Ab oo oo];rfl
  ·dsimp only;rw[A3s I,<- J,<- Rat.divInt_add_divInt A q.num D (Md q),LS]
 ·refine Nv ?_;refine .a 1 (.bool false) rfl (A9 oo) ?_;refine Nv ?_;refine .cf ?_;refine .p (rI (B3) (hu.r2)) ?_;refine .p (rI (B4) (hv.r2)) ?_;refine .s (oK EU (Kx (base:=0) (hu.dn oo) (hv.dn oo) D BI)) ?_;rintro t w5 ⟨e,c⟩;rw[J,Bs oo]at c;refine Af.aT rfl rfl rfl c.1 (B1.ext e) rfl (O.trans e) AO ?_;intro w6 E hg l;refine A7 ?_;exact Ad.bA rfl rfl E c.1 ⟨l,c.upd hg (B1.ext e) de⟩
theorem Y8 {w:World}(h:Y7 w b vs qs) (hp:qs.length<=3) (Z:∀ q ∈ qs,rz q<=100000) :
  Calls prog 48 #[.slice (some ⟨b,0,none⟩) vs.length vs.length] w (AJ fun r w'=>Ac w w'/\Bk 0 w' r (X1 qs)):=by
 have hy:=h.2.2.1;refine cS func48 ntmps48 ?_;refine Nv ?_;refine .s (oA) ?_;rintro _ w1 ⟨rfl,B1,P,h0⟩;refine A7 ?_;refine .s (oK BC (DY w1 1 de de)) ?_;rintro v8 hk ⟨L,F⟩;refine .s (oK BC (DY hk 1 de de)) ?_;rintro v9 w2 ⟨z,T⟩;have N:Ac w w2:=(P.trans L).trans z;replace B1:=(B1.ext L).ext z;replace F:=F.ext z;clear P L z;refine Af.cZ rfl rfl rfl (fun _ _=>rfl) (fun _ _=>rfl) F T N ?_;intro b3 b4 w3 hs W X hg B3 B4 S U hz;have hr:=B1.lt;refine A7 ?_;refine St.loop (fun g:Nat×(Value×Value)×Int×Int=>[(2,.pointer (some ⟨w.heap.size,0,none⟩)),(3,.pointer (some ⟨b3,0,none⟩)),(4,.pointer (some ⟨b4,0,none⟩)),(10,.slice (some ⟨b,0,none⟩) vs.length vs.length),(11,.int .i64 vs.length),(12,.int .i64 g.1)])
  (fun g w'=>Ac w2 w'/\Aj 37 w' b3 g.2.1.1.cells.toList/\Aj 37 w' b4 g.2.1.2.cells.toList/\Ao 0 w' g.2.1.1 g.2.2.1/\Ao 0 w' g.2.1.2 g.2.2.2/\g.2.2.2≠0/\Rat.divInt g.2.2.1 g.2.2.2=X1 (qs.take g.1)/\sz g.2.2.1<=(g.1+1) * 100001/\sz g.2.2.2<=(g.1+1) * 100001/\g.1<=vs.length)
  (fun g=>vs.length - g.1) (0,(v8,v9),1,1) ⟨rfl,rfl,rfl,rfl,rfl,rfl,trivial⟩ ⟨hg,B3,B4,S,U,by show (1:Int)≠0;decide,by show Rat.divInt 1 1=1;decide +kernel,by have:=RI;dsimp only;omega,by have:=RI;dsimp only;omega,Cu _⟩ ?_
 rintro⟨i,⟨u,v⟩,A,B⟩ w4 ⟨d,B3,B4,hu,hv,G,J,hb,hc,V⟩;dsimp only at B3 B4 hu hv G J hb hc V ⊢;have O:=N.trans d;replace B1:=B1.ext d;by_cases Y:i<vs.length
 ·have H:vs[i]?=some vs[i]:=by simp
  have I:qs[i]?=some (qs[i]'oo):=by simp
  have ha:=Z (qs[i]'oo) (DU _);generalize vs[i]=x at H;generalize (qs[i]'oo)=q at I ha;have E:=h.ext O;have y:=E.2.2.2 i x q H I;have hl:=B3.lt;have hm:=B4.lt;refine Nv ?_;refine .a 1 (.bool true) rfl (Aa oo) ?_;refine Nv ?_;refine .ct ?_;refine .p (A0.dU rfl rfl Y) ?_;refine .p (A0.dA rfl E.1 E.2.1 H) ?_;refine Af.bn rfl rfl (fun _=>rfl) y.1 ?_;intro b6 w5 hn e f;replace B1:=B1.ext e;replace B3:=B3.ext e;replace B4:=B4.ext e;replace hu:=hu.ext e;replace hv:=hv.ext e;replace y:=y.ext e;replace d:=d.trans e;clear e;refine A7 ?_;refine .p (rR (f) (y.1)) ?_;refine .s (oK Cl (Ea (base:=0) y BI)) ?_;rintro t w6 ⟨k,c⟩;replace B1:=B1.ext k;replace B3:=B3.ext k;replace B4:=B4.ext k;replace hu:=hu.ext k;replace hv:=hv.ext k;replace d:=d.trans k;clear k;refine Af.bn rfl rfl (fun _=>rfl) c.1 ?_;intro b7 w7 ho l B7;replace B1:=B1.ext l;replace B3:=B3.ext l;replace B4:=B4.ext l;replace hu:=hu.ext l;replace hv:=hv.ext l;replace c:=c.ext l;replace d:=d.trans l;clear l;have hx:=Ez q;have hw:=EG q;have m1:=Bt A q.num;have m4:=Bt B (q.den:Int);refine A7 ?_;refine sF 7 ?_;refine .q ?_;refine .on (fun _ m=>rI (m.blk (B3) sm) (hu.r2)) ?_;refine .q ?_;refine .on (fun _ m=>A0.bg rfl (m.blk (B7) sm) (c.1)) ?_;refine FL.au D8 rfl rfl rfl (fun w8 j=>cM (M7 ((hu.ext j).dn oo) ((c.2.1.ext j).dn oo))) (Am.aF 0 _) ?_;refine .on (fun _ m=>rI (m.blk (B4) sm) (hv.r2)) ?_;refine .q ?_;refine .on (fun _ m=>A0.aX rfl (m.blk (B7) sm) (c.1)) ?_;refine FL.aG rfl ?_;intro w8 j hh n _ _;replace B1:=B1.ext j;replace B3:=B3.ext j;replace B4:=B4.ext j;replace B7:=B7.ext j;replace hu:=hu.ext j;replace hv:=hv.ext j;replace c:=c.ext j;replace d:=d.trans j;clear j;refine .s (oK D8 (M7 (hv.dn oo) (c.2.2.dn oo))) ?_;rintro hj w9 ⟨o,D⟩;replace B3:=B3.ext o;replace B4:=B4.ext o;replace n:=n.ext o;replace d:=d.trans o;clear o;refine Af.aK rfl rfl B3 hu.two.1 n d W ?_;intro h1 B3' K C he;replace B4:=B4.upd K oo;replace D:=D.aI K B3 de;clear K B3 d;refine Af.aK rfl rfl B4 hv.two.1 D he X ?_;intro h2 Q M R hf;replace B3':=B3'.upd M oo;replace C:=C.aI M B4 de;refine A7 ?_;refine Ad.again (i+1,(hh,hj),A * q.num,B * (q.den:Int)) ⟨rfl,rfl,rfl,rfl,rfl,?_,trivial⟩ ⟨hf,B3',Q,C,R,Int.mul_ne_zero G (Md q),?_,by dsimp only;omega,by dsimp only;omega,by dsimp only;omega⟩ (by dsimp only;omega)
  ·show some (Value.int .i64 (IntKind.i64.wrap ((i:Int)+1)))=_;rw[Ab oo oo];rfl
  ·dsimp only;rw[A1i I,<- J,<- Rat.divInt_mul_divInt A q.num,LS]
 ·refine Nv ?_;refine .a 1 (.bool false) rfl (A9 oo) ?_;refine Nv ?_;refine .cf ?_;refine .p (rI (B3) (hu.r2)) ?_;refine .p (rI (B4) (hv.r2)) ?_;refine .s (oK EU (Kx (base:=0) (hu.dn oo) (hv.dn oo) G BI)) ?_;rintro t w5 ⟨e,c⟩;rw[J,Bs oo]at c;refine Af.aT rfl rfl rfl c.1 (B1.ext e) rfl (O.trans e) AO ?_;intro w6 f hd k;refine A7 ?_;exact Ad.bA rfl rfl f c.1 ⟨k,c.upd hd (B1.ext e) de⟩
theorem A9v (p q:Rat):A3r [p,q]=p+q:=by show (0+p)+q=_;rw[Q3]
theorem A8Z (p q:Rat):X1 [p,q]=p * q:=by show (1 * p) * q=_;rw[Kl]
theorem A4Y {p q:Rat}(d:rz p<=100000) (e:rz q<=100000):∀ r ∈ [p,q],rz r<=100000:=by
 intro r c;simp at c;rcases c with rfl | rfl
 ·exact d
 ·exact e
theorem A3t {w:World}{v:Value}{p q:Rat}(B:Aj 39 w b (AV [u,v])) (h:Pv w u p) (k:Pv w v q) (c:rz p<=100000) (d:rz q<=100000) :
  Calls prog 119 #[.slice (some ⟨b,0,none⟩) 2 2] w (AJ fun r w'=>Ac w w'/\Bk 0 w' r (p+q)):=by have:=A4X (Y7.two B h k) (LK 2) (A4Y c d);rw[A9v]at this;exact this
theorem P4 {w:World}{v:Value}{p q:Rat}(B:Aj 39 w b (AV [u,v])) (h:Pv w u p) (k:Pv w v q) (c:rz p<=100000) (d:rz q<=100000) :
  Calls prog 48 #[.slice (some ⟨b,0,none⟩) 2 2] w (AJ fun r w'=>Ac w w'/\Bk 0 w' r (p * q)):=by have:=Y8 (Y7.two B h k) (LK 2) (A4Y c d);rw[A8Z]at this;exact this
theorem X2 {w:World}{x:Value}{p q:Rat}(h:Pv w x p) (k:Pv w y q) (o:rz p<=100000) (u:rz q<=100000) :
  Calls prog 75 #[x,y] w (AJ fun r w'=>Ac w w'/\Bk 0 w' r (p+q)):=by refine cS func75 ntmps75 ?_;refine Nv ?_;refine .s (oB) ?_;rintro _ w1 ⟨rfl,B1,l,a⟩;refine .s (oB) ?_;rintro _ w2 ⟨rfl,B2,g,b⟩;refine .s (oA) ?_;rintro _ w3 ⟨rfl,B3,e,f⟩;have c:Ac w w3:=(l.trans g).trans e;replace B1:=(B1.ext g).ext e;replace B2:=B2.ext e;replace h:=h.ext c;replace k:=k.ext c;clear l g e;refine A7 ?_;refine .p (rR (B1) (h.1)) ?_;refine .p (rR (B2) (k.1)) ?_;refine .s (Av.dV rfl rfl h.1 k.1) ?_;rintro _ n ⟨rfl,B4,d⟩;replace B3:=B3.ext d;replace h:=h.ext d;replace k:=k.ext d;replace c:=c.trans d;clear d;refine .s (oK Ta (A3t B4 h k o u)) ?_;rintro v A ⟨j,hv⟩;replace B3:=B3.ext j;replace c:=c.trans j;clear j;refine Af.aT rfl rfl rfl hv.1 B3 rfl c oo ?_;intro i m z t;refine A7 ?_;exact Ad.bA rfl rfl m hv.1 ⟨t,hv.upd z B3 de⟩
theorem A3u {w:World}{x:Value}{p q:Rat}(h:Pv w x p) (k:Pv w y q) (o:rz p<=100000) (u:rz q<=100000) :
  Calls prog 20 #[x,y] w (AJ fun r w'=>Ac w w'/\Bk 0 w' r (p * q)):=by refine cS func20 ntmps20 ?_;refine Nv ?_;refine .s (oB) ?_;rintro _ w1 ⟨rfl,B1,l,a⟩;refine .s (oB) ?_;rintro _ w2 ⟨rfl,B2,g,b⟩;refine .s (oA) ?_;rintro _ w3 ⟨rfl,B3,e,f⟩;have c:Ac w w3:=(l.trans g).trans e;replace B1:=(B1.ext g).ext e;replace B2:=B2.ext e;replace h:=h.ext c;replace k:=k.ext c;clear l g e;refine A7 ?_;refine .p (rR (B1) (h.1)) ?_;refine .p (rR (B2) (k.1)) ?_;refine .s (Av.dV rfl rfl h.1 k.1) ?_;rintro _ n ⟨rfl,B4,d⟩;replace B3:=B3.ext d;replace h:=h.ext d;replace k:=k.ext d;replace c:=c.trans d;clear d;refine .s (oK Jl (P4 B4 h k o u)) ?_;rintro v A ⟨j,hv⟩;replace B3:=B3.ext j;replace c:=c.trans j;clear j;refine Af.aT rfl rfl rfl hv.1 B3 rfl c oo ?_;intro i m z t;refine A7 ?_;exact Ad.bA rfl rfl m hv.1 ⟨t,hv.upd z B3 de⟩
def A90 (w:World) (r:Value) (p q:Rat):Prop:=(q=0->r=.tuple #[zR,.bool false])/\(q≠0->∃ v,r=.tuple #[v,.bool true]/\Bk 0 w v (p / q))
theorem A3v {w:World}{x:Value}{p q:Rat}(h:Pv w x p) (k:Pv w y q) (A:rz p<=100000) (G:rz q<=99999) :
  Calls prog 33 #[x,y] w (AJ fun r w'=>Ac w w'/\A90 w' r p q):=by
 refine cS func33 ntmps33 ?_;refine Nv ?_;refine .s (oB) ?_;rintro _ w1 ⟨rfl,B1,i,I⟩;refine .s (oB) ?_;rintro _ w2 ⟨rfl,B2,b,J⟩;refine .s (oA) ?_;rintro _ w3 ⟨rfl,B3,t,K⟩;have c:Ac w w3:=(i.trans b).trans t;replace B1:=(B1.ext b).ext t;replace B2:=B2.ext t;replace h:=h.ext c;replace k:=k.ext c;clear i b t;refine A7 ?_;refine .p (rR (B2) (k.1)) ?_;refine .s (oK Cl (Ea (base:=0) k BI)) ?_;rintro u N ⟨m,hu⟩;replace B1:=B1.ext m;replace B3:=B3.ext m;replace h:=h.ext m;replace c:=c.trans m;clear m;refine Af.bn rfl rfl (fun _=>rfl) hu.1 ?_;intro b6 O F j l;replace B1:=B1.ext j;replace B3:=B3.ext j;replace h:=h.ext j;replace hu:=hu.ext j;replace c:=c.trans j;clear j;refine A7 ?_;refine .p (rR (l) (hu.1)) ?_;refine .s (oK Ef (PB hu oo)) ?_;rintro _ D ⟨d,rfl⟩;replace B1:=B1.ext d;replace B3:=B3.ext d;replace l:=l.ext d;replace h:=h.ext d;replace hu:=hu.ext d;replace c:=c.trans d;clear d;by_cases o:q=0
 ·refine .a 1 (.bool true) rfl (Aa (by rw[GV];exact (XX q).2 o)) ?_;refine A7 ?_;refine .ct ?_;refine .p (rB) ?_;refine Af.aT (v:=zR) rfl rfl rfl GR B3 rfl c oo ?_;intro E B8 H g;refine A7 ?_;exact Ad.bF rfl rfl rfl B8 GR ⟨g,fun _=>rfl,fun h=>absurd o h⟩
 ·refine .a 1 (.bool false) rfl (A9 (by rw[GV];exact fun e=>o ((XX q).1 e))) ?_;refine A7 ?_;refine .cf ?_;refine .p (rR (B1) (h.1)) ?_;refine .r rfl ?_;refine .p (A0.aX rfl (l) (hu.1)) ?_;refine .r rfl ?_;refine .p (A0.bg rfl (l) (hu.1)) ?_;refine .p (A0.bK rfl rfl hu.1.two.2 hu.1.two.1) ?_;have z:Pv D (mkR (dm u) (nm u)) q⁻¹:=by rw[Rat.inv_def];exact Pv.mk (hu.2.2.dn (Ar (EG q) oo)) (hu.2.1.dn (Ar (Ez q) oo))
  have L:=V5 q;refine .s (Av.dV rfl rfl h.1 z.1) ?_;rintro _ E ⟨rfl,B8,g⟩;replace B3:=B3.ext g;replace h:=h.ext g;replace z:=z.ext g;replace c:=c.trans g;clear g;refine .s (oK Jl (P4 B8 h z A oo)) ?_;rintro v P ⟨f,hv⟩;rw[<- DV]at hv;replace B3:=B3.ext f;replace c:=c.trans f;clear f;refine Af.aT rfl rfl rfl hv.1 B3 rfl c oo ?_;intro M n B C;refine A7 ?_;exact Ad.bF rfl rfl rfl n hv.1 ⟨C,fun e=>absurd e o,fun _=>⟨v,rfl,hv.upd B B3 de⟩⟩
theorem A2n:rz (Rat.divInt 1 2)=1:=by decide +kernel
theorem A6K (q:Rat):(HK (q.den:Int) 1=0)=(q.den=1):=by
 unfold HK;apply propext;constructor
 ·intro h;split at h
  ·omega
  ·split at h <;> omega
 ·intro h;rw[h];rfl
theorem Wu {w:World}{x:Value}{q:Rat}(h:Pv w x q) :
  Calls prog 46 #[x] w (AJ fun r w'=>Ac w w'/\r=.bool (decide (q.den=1))):=by
 have j:=h.rz;have l:=EG q;refine cS func46 ntmps46 ?_;refine Nv ?_;refine .s (oB) ?_;rintro _ w1 ⟨rfl,B1,c,k⟩;replace h:=h.ext c;refine A7 ?_;refine .p (rR (B1) (h.1)) ?_;refine .s (oK Cl (Ea (base:=0) h BI)) ?_;rintro v w3 ⟨e,hv⟩;refine .p (A0.fieldD rfl rfl hv.1) ?_;refine .s (oK BC (DY w3 1 de de)) ?_;rintro u m ⟨d,hu⟩;refine .s (oK MS (A4C ((hv.2.2.ext d).dn oo) (hu.dn (by decide +kernel)))) ?_;rintro _ o ⟨g,rfl⟩;refine .a 1 (.bool (decide (q.den=1))) rfl ?_ ?_
 ·congr 1;exact decide_eq_decide.2 (by rw[A6K])
 refine A7 ?_;exact Ad.ax rfl rfl ⟨((c.trans e).trans d).trans g,rfl⟩
theorem Af.twoR {w:World}{ty1:TypeId}{p1 p2:String}{a1 a2:Array Edge}{c1 c2:Nat}{C1 C2:List Value}{v:Value}{p q:Rat}
  (g:RT e=true) (f:AR E d1=some (.pointer (some ⟨b1,0,none⟩))) (h:AR E d2=some (.pointer (some ⟨b2,0,none⟩))) (a:AR E s1=some u) (b:AR E s2=some v) (l:b1≠b2)
  (B1:Aj e w b1 C1) (z:C1.length=4) (B2:Aj e w b2 C2) (t:C2.length=4) (i:Ac w0 w) (r:w0.heap.size<=b1) (y:w0.heap.size<=b2) (hu:Bk c1 w u p) (hv:Bk c2 w v q)
  (next:∀ w',Ac w0 w'->Aj e w' b1 u.cells.toList->Aj e w' b2 v.cells.toList->Bk c1 w' u p->Bk c2 w' v q->Af prog n E w' ops rest Q) :
  Af prog n E w ops (⟨none,.store e (.tmp d1) (.tmp s1),ty1,p1,a1,none⟩::⟨none,.store e (.tmp d2) (.tmp s2),ty2,p2,a2,none⟩::rest) Q:=by obtain⟨ti,_,_,_,_,c⟩:=RT.look g;refine Af.aT g f a hu.1 B1 z i r ?_;intro B m j s;have d:=B2.upd j (fun e=>l e.symm);refine Af.aT g h b hv.1 d t s y ?_;intro A o k x;exact next A x (m.upd k l) o ((hu.upd j B1 c).upd k d c) ((hv.upd j B1 c).upd k d c)
theorem X3 {p q:Rat}:(AH p.num<AH q.num->RJ p q=-1)/\(AH q.num<AH p.num->RJ p q=1):=by
 have e1:∀ r:Rat,AH r.num<0->r<0:=fun r h=>(A6y r).1 (by unfold AH at h;split at h <;> first | assumption | (split at h <;> omega));have e2:∀ r:Rat,0<AH r.num->0<r:=fun r h=>by
  have:0<r.num:=by unfold AH at h;split at h <;> first | omega | (split at h <;> omega)
  rw[Rat.lt_iff];simpa using this
 have e3:∀ r:Rat,AH r.num<=0->r<=0:=fun r h=>by
  have:r.num<=0:=by unfold AH at h;split at h <;> first | omega | (split at h <;> omega)
  rw[Rat.le_iff];simpa using this
 have e4:∀ r:Rat,0<=AH r.num->0<=r:=fun r h=>by
  have:0<=r.num:=by unfold AH at h;split at h <;> first | omega | (split at h <;> omega)
  exact Rat.num_nonneg.1 this
 have e:∀ r s:Rat,AH r.num<AH s.num->r<s:=by
  intro r s h;rcases Gw (AH r.num) 0 with h1 | h1
  ·have d:=e1 r h1;rcases Gw (AH s.num) 0 with h2 | h2
   ·have:=FN r.num;omega
   ·exact O0.1 fun c=>O0.2 d (Ga (e4 s h2) c)
  ·have g:=e2 s oo;have d:=e3 r (by have:=FN s.num;omega);exact O0.1 fun c=>O0.2 g (Ga c d)
 constructor
 ·intro h;unfold RJ;rw[if_pos (e p q h)]
 ·intro h;have:=e q p h;unfold RJ;rw[if_neg (Rat.not_lt.2 (Bz this)),if_pos this]
theorem Lb {w:World}{x:Value}{p q:Rat}(h:Pv w x p) (k:Pv w y q) (R:rz p<=100000) (S:rz q<=100000) :
  Calls prog 13 #[x,y] w (AJ fun r w'=>Ac w w'/\r=.int .i64 (RJ p q)):=by
 have N:=Ez p;have O:=EG p;have P:=Ez q;have Q:=EG q;have m1:=Bt p.num (q.den:Int);have m2:=Bt q.num (p.den:Int);refine cS func13 ntmps13 ?_;refine Nv ?_;refine .s (oB) ?_;rintro _ w1 ⟨rfl,B1,A,T⟩;refine .s (oB) ?_;rintro _ w2 ⟨rfl,B2,f,U⟩;have d:Ac w w2:=A.trans f;replace B1:=B1.ext f;replace h:=h.ext d;replace k:=k.ext d;clear A f;refine A7 ?_;refine sF 6 ?_;refine .on (fun _ c=>rR (c.blk (B1) sm) (h.1)) ?_;refine FL.au Cl rfl rfl rfl (fun C o=>cM (Ea (base:=0) (h.ext o) BI)) (Am.bE 0 _) ?_;refine .on (fun _ c=>rR (c.blk (B2) sm) (k.1)) ?_;refine FL.au Cl rfl rfl rfl (fun C o=>cM (Ea (base:=0) (k.ext o) BI)) (Am.bE 0 _) ?_;refine FL.alloc A8 rfl rfl rfl rfl ?_;refine FL.alloc A8 rfl rfl rfl rfl ?_;refine FL.aG rfl ?_;rintro C o _ ⟨b7,C7,rfl,F,B7,H⟩ _ ⟨b6,M,rfl,E,i,G⟩ v hv u hu _ n;refine Af.twoR rfl rfl rfl rfl rfl (fun e=>n 6 de 7 de de _ rfl (by rw[e];rfl)) i G B7 H o E F hu hv ?_;intro w8 B g j hu hv;replace d:=d.trans B;clear B o i B7 n;refine A7 ?_;refine sF 5 ?_;refine .q ?_;refine .on (fun _ c=>rR (c.blk (g) sm) (hu.1)) ?_;refine FL.fact (L:=[]) (ψ:=fun r _=>r=.int .i64 (AH p.num)) rfl rfl rfl rfl rfl (fun K c=>Av.callT Ef rfl rfl (PB (hu.ext c.aq) oo)) (fun _ _ _ _ h=>h) ?_;refine .q ?_;refine .on (fun _ c=>rR (c.blk (j) sm) (hv.1)) ?_;refine FL.aG rfl ?_;rintro K z _ rfl _ _;replace g:=g.ext z;replace j:=j.ext z;replace hu:=hu.ext z;replace hv:=hv.ext z;replace d:=d.trans z;clear z;refine .s (Av.callT Ef rfl rfl (PB hv oo)) ?_;rintro _ X ⟨m,rfl⟩;replace g:=g.ext m;replace j:=j.ext m;replace hu:=hu.ext m;replace hv:=hv.ext m;replace d:=d.trans m;clear m;refine .r rfl ?_;refine Nv ?_;by_cases c1:AH p.num<AH q.num
 ·refine .a 3 (.bool true) rfl (Aa c1) ?_;refine A7 ?_;refine .ct ?_;exact uR ⟨d,by rw[X3.1 c1]⟩
 refine .a 3 (.bool false) rfl (A9 c1) ?_;refine A7 ?_;refine .cF ?_;refine Nv ?_;by_cases c2:AH q.num<AH p.num
 ·refine .a 3 (.bool true) rfl (Aa c2) ?_;refine A7 ?_;refine .ct ?_;exact uR ⟨d,by rw[X3.2 c2]⟩
 refine .a 3 (.bool false) rfl (A9 c2) ?_;refine A7 ?_;refine .cf ?_;refine sF 9 ?_;refine .q ?_;refine .on (fun _ c=>A0.bg rfl (c.blk (g) sm) (hu.1)) ?_;refine .q ?_;refine .on (fun _ c=>A0.aX rfl (c.blk (j) sm) (hv.1)) ?_;refine FL.au D8 rfl rfl rfl (fun J l=>cM (M7 ((hu.2.1.ext l).dn oo) ((hv.2.2.ext l).dn oo))) (Am.aF 0 _) ?_;refine .q ?_;refine .on (fun _ c=>A0.bg rfl (c.blk (j) sm) (hv.1)) ?_;refine .q ?_;refine .on (fun _ c=>A0.aX rfl (c.blk (g) sm) (hu.1)) ?_;refine FL.aG rfl ?_;intro J l V t _ _;replace hu:=hu.ext l;replace hv:=hv.ext l;replace d:=d.trans l;clear l;refine .s (oK D8 (M7 (hv.2.1.dn oo) (hu.2.2.dn oo))) ?_;rintro W Y ⟨b,D⟩;replace t:=t.ext b;replace d:=d.trans b;clear b;refine .s (oK MS (A4C (t.dn oo) (D.dn oo))) ?_;rintro _ Z ⟨I,rfl⟩;rw[A17];refine A7 ?_;exact Ad.ax rfl rfl ⟨d.trans I,rfl⟩
theorem Oj {w:World}{x y:Value}{a b:Int}(d:Dn w x a) (e:Dn w y b) (z:b≠0) (A:sz a<=100000/\sz b<=100000) :
  Calls prog 132 #[x,y] w (AJ fun r w'=>Ac w w'/\Ao 0 w' r (a / b)):=by refine cS func132 ntmps132 ?_;refine Nv ?_;refine .s (oB) ?_;rintro _ w1 ⟨rfl,B1,u,F⟩;refine .s (oB) ?_;rintro _ w2 ⟨rfl,B2,j,G⟩;refine .s (oA) ?_;rintro _ w3 ⟨rfl,B3,g,H⟩;have c:Ac w w3:=(u.trans j).trans g;replace B1:=(B1.ext j).ext g;replace B2:=B2.ext g;replace d:=d.ext c;replace e:=e.ext c;clear u j g;refine A7 ?_;refine .p (rI (B1) (d.r2)) ?_;refine .p (rI (B2) (e.r2)) ?_;refine .s (oK OQ (V8 d e)) ?_;rintro _ I ⟨k,_,t⟩;obtain⟨q,m,rfl,h,f⟩:=t z;replace B3:=B3.ext k;replace c:=c.trans k;clear k;refine .r rfl ?_;refine Af.cZ rfl rfl rfl (fun _ _=>rfl) (fun _ _=>rfl) h f c ?_;intro b5 b6 J D B C v B5 _ l _ i;replace B3:=B3.ext v;clear v;refine A7 ?_;refine .p (rI (B5) (l.r2)) ?_;refine sC B3 l i oo ?_;intro K B8 E o n;refine A7 ?_;exact Ad.cE rfl rfl B8 o ⟨n,o⟩
theorem A91 {a b:Int}(c:sz a<=100000) (d:sz b<=100000):sz ((Nat.gcd a.natAbs b.natAbs:Nat):Int)<=100000:=by have:=A4B a b;omega
theorem RO {w:World}{x y:Value}{a b:Int}(d:Dn w x a) (c:Dn w y b) (Q:sz a<=100000) (R:sz b<=100000) :
  Calls prog 85 #[x,y] w (AJ fun r w'=>Ac w w'/\A3q 0 w' r a b):=by
 refine cS func85 ntmps85 ?_;refine Nv ?_;refine .s (oB) ?_;rintro _ w1 ⟨rfl,B1,V,hu⟩;refine .s (oB) ?_;rintro _ w2 ⟨rfl,B2,N,hv⟩;refine .s (oA) ?_;rintro _ w3 ⟨rfl,B3,B,hw⟩;have l:Ac w w3:=(V.trans N).trans B;replace B1:=(B1.ext N).ext B;replace B2:=B2.ext B;replace d:=d.ext l;replace c:=c.ext l;clear V N B;refine A7 ?_;refine .p (rI (B2) (c.r2)) ?_;refine .s (oK Dd (EZ c)) ?_;rintro _ w4 ⟨z,rfl⟩;replace B1:=B1.ext z;replace B2:=B2.ext z;replace B3:=B3.ext z;replace d:=d.ext z;replace c:=c.ext z;replace l:=l.trans z;clear z;by_cases i:b=0
 ·refine .a 1 (.bool true) rfl (Aa (by rw[GV];exact i)) ?_;refine A7 ?_;refine .ct ?_;refine .p (rB) ?_;refine Af.aT (v:=zR) rfl rfl rfl GR B3 rfl l oo ?_;intro w5 B5 ht m;refine A7 ?_;exact Ad.bF rfl rfl rfl B5 GR ⟨m,fun _=>rfl,fun h=>absurd i h⟩
 refine .a 1 (.bool false) rfl (A9 (by rw[GV];exact i)) ?_;refine A7 ?_;refine .cf ?_;refine .p (rI (B2) (c.r2)) ?_;refine .s (oK Dd (EZ c)) ?_;rintro _ w5 ⟨m,rfl⟩;replace B1:=B1.ext m;replace B2:=B2.ext m;replace B3:=B3.ext m;replace d:=d.ext m;replace c:=c.ext m;replace l:=l.trans m;clear m;refine .r rfl ?_;have hp:=B1.lt;have hq:=B2.lt;have hr:=B3.lt;refine Af.nil (Ad.ak (St.cL (fun _:(Value×Value)×Int×Int=>[(2,.pointer (some ⟨w.heap.size,0,none⟩)),(3,.pointer (some ⟨w1.heap.size,0,none⟩)),(4,.pointer (some ⟨w2.heap.size,0,none⟩))])
  (fun g w'=>Ac w w'/\Aj 37 w' w.heap.size g.1.1.cells.toList/\Aj 37 w' w1.heap.size g.1.2.cells.toList/\(∃ C,Aj 39 w' w2.heap.size C/\C.length=4)/\Dn w' g.1.1 g.2.1/\Dn w' g.1.2 g.2.2/\0<g.2.2/\Rat.divInt g.2.1 g.2.2=Rat.divInt a b/\sz g.2.1<=100000/\sz g.2.2<=100000) ?_ ?_))
 ·by_cases U:b<0
  ·refine St.aD rfl (decide_eq_true (by unfold AH;rw[if_pos U];decide)) ?_;refine A7 ?_;refine sF 3 ?_;refine .on (fun _ j=>rI (j.blk (B1) sm) (d.r2)) ?_;refine FL.au I4 rfl rfl rfl (fun W o=>cM (Og (base:=0) (d.ext o) BI)) (Am.aF 0 _) ?_;refine .on (fun _ j=>rI (j.blk (B2) sm) (c.r2)) ?_;refine FL.aG rfl ?_;intro W o hj E _ _;replace B1:=B1.ext o;replace B2:=B2.ext o;replace B3:=B3.ext o;replace d:=d.ext o;replace c:=c.ext o;replace l:=l.trans o;clear o;refine .s (oK I4 (Og (base:=0) c BI)) ?_;rintro hk w7 ⟨k,G⟩;replace B1:=B1.ext k;replace B2:=B2.ext k;replace B3:=B3.ext k;replace E:=E.ext k;replace l:=l.trans k;clear k;refine Af.aK rfl rfl B1 d.r2.len E l AO ?_;intro w8 D K F u;replace B2:=B2.upd K oo;replace B3:=B3.upd K oo;replace G:=G.aI K B1 de;refine Af.aK rfl rfl B2 c.r2.len G u oo ?_;intro X Z L hc hh;replace D:=D.upd L oo;replace B3:=B3.upd L oo;replace F:=F.aI L B2 de;refine Af.nil (Ad.met ((hj,hk),-a,-b) ⟨rfl,rfl,rfl,trivial⟩ ⟨hh,D,Z,⟨_,B3,rfl⟩,F.dn (by rw[KG];omega),hc.dn (by rw[KG];omega),by dsimp only;omega,Rat.neg_divInt_neg a b,by dsimp only;rw[KG];exact Q,by dsimp only;rw[KG];exact R⟩)
  ·refine St.ay rfl (decide_eq_false (by unfold AH;rw[if_neg U];split <;> decide)) (St.skip (Ad.met ((x,y),a,b) ⟨rfl,rfl,rfl,trivial⟩ ⟨l,B1,B2,⟨_,B3,rfl⟩,d,c,by dsimp only;omega,rfl,Q,R⟩))
 ·rintro⟨⟨x',y'⟩,a',b'⟩ W ⟨M,B1,B2,⟨C3,B3,hd⟩,d,c,J,S,H,I⟩;dsimp only at B1 B2 d c J S H I;have T:=A91 H I;have ho:=XV (a:=a') (b:=b') oo;refine A7 ?_;refine .p (rI (B1) (d.r2)) ?_;refine .p (rI (B2) (c.r2)) ?_;refine .s (oK A0E (A6D d c)) ?_;rintro g w7 ⟨k,he⟩;replace B1:=B1.ext k;replace B2:=B2.ext k;replace B3:=B3.ext k;replace d:=d.ext k;replace c:=c.ext k;replace M:=M.trans k;clear k;refine Af.d9 rfl (fun _=>rfl) he M ?_;intro b6 w8 hs f O t u;replace B1:=B1.ext f;replace B2:=B2.ext f;replace B3:=B3.ext f;replace d:=d.ext f;replace c:=c.ext f;clear f;refine Nv ?_;refine St.sub (E':=[(2,.pointer (some ⟨w.heap.size,0,none⟩)),(3,.pointer (some ⟨w1.heap.size,0,none⟩)),(4,.pointer (some ⟨w2.heap.size,0,none⟩)),(6,.pointer (some ⟨b6,0,none⟩))]) ?_ ⟨rfl,rfl,rfl,rfl,trivial⟩;refine sF 5 ?_;refine .on (fun _ j=>rI (j.blk (B1) sm) (d.r2)) ?_;refine .on (fun _ j=>rI (j.blk (O) sm) (t.r2)) ?_;refine FL.au I5 rfl rfl rfl (fun X q=>cM (Oj (d.ext q) ((t.ext q).dn oo) oo ⟨H,T⟩)) (Am.aF 0 _) ?_;refine .on (fun _ j=>rI (j.blk (B2) sm) (c.r2)) ?_;refine .on (fun _ j=>rI (j.blk (O) sm) (t.r2)) ?_;refine FL.aG rfl ?_;intro X q hl n _ _;replace B3:=B3.ext q;replace c:=c.ext q;replace t:=t.ext q;replace u:=u.trans q;clear q;refine .s (oK I5 (Oj c (t.dn oo) oo ⟨I,T⟩)) ?_;rintro hm hn ⟨A,P⟩;replace B3:=B3.ext A;replace n:=n.ext A;replace u:=u.trans A;clear A;refine .p (A0.bK rfl rfl n.r2 P.r2) ?_;have j:Bk 0 hn (mkR hl hm) (Rat.divInt a b):=by rw[<- S];exact Bk.mk (by rw[A2k J];exact n) (by rw[Zx J];exact P)
  refine sR j.1 B3 hd u oo ?_;intro hx Y hf hi;refine A7 ?_;exact Ad.bF rfl rfl rfl Y j.1 ⟨hi,fun e=>absurd e i,fun _=>⟨_,rfl,j.upd hf B3 de⟩⟩
theorem Nm {w:World}{x:Value}{a:Int}(d:Dn w x a) :
  Calls prog 54 #[x] w (AJ fun r w'=>Ac w w'/\Bk 0 w' r (a:Rat)):=by refine cS func54 ntmps54 ?_;refine Nv ?_;refine .s (oB) ?_;rintro _ w1 ⟨rfl,B1,l,z⟩;refine .s (oA) ?_;rintro _ w2 ⟨rfl,B2,j,t⟩;have c:Ac w w2:=l.trans j;replace B1:=B1.ext j;replace d:=d.ext c;clear l j;refine A7 ?_;refine .p (rI (B1) (d.r2)) ?_;refine .s (oK EF (Gk (base:=0) d BI)) ?_;rintro u w3 ⟨k,hu⟩;replace B2:=B2.ext k;replace c:=c.trans k;clear k;refine .s (oK AW (Ba (base:=0) w3 1 de de BI)) ?_;rintro v y ⟨e,hv⟩;replace B2:=B2.ext e;replace hu:=hu.ext e;replace c:=c.trans e;clear e;refine .p (A0.bK rfl rfl hu.r2 hv.r2) ?_;have g:Bk 0 y (mkR u v) (a:Rat):=Bk.mk hu hv;refine Af.aT rfl rfl rfl g.1 B2 rfl c oo ?_;intro b m o q;refine A7 ?_;exact Ad.bA rfl rfl m g.1 ⟨q,g.upd o B2 de⟩
theorem G6 (w:World) (a:Int) (j:-9223372036854775808<=a) (k:a<=9223372036854775807) :
  Calls prog 51 #[.int .i64 a] w (AJ fun r w'=>Ac w w'/\Bk 0 w' r (a:Rat)):=by have o:sz a<=2:=Bn oo oo;refine cS func51 ntmps51 ?_;refine Nv ?_;refine .s (oA) ?_;rintro _ w2 ⟨rfl,B2,c,q⟩;refine A7 ?_;refine .s (oK AW (Ba (base:=0) w2 a j k BI)) ?_;rintro u w3 ⟨d,hu⟩;replace B2:=B2.ext d;replace c:=c.trans d;clear d;refine .s (oK LY (Nm (hu.dn oo))) ?_;rintro v z ⟨e,hv⟩;replace B2:=B2.ext e;replace c:=c.trans e;clear e;refine Af.aT rfl rfl rfl hv.1 B2 rfl c oo ?_;intro y g l m;refine A7 ?_;exact Ad.bA rfl rfl g hv.1 ⟨m,hv.upd l B2 de⟩
def DnS (w:World) (v:Value) (q:Rat):Prop:=R4 v/\∃ a b,Dn w (nm v) a/\Dn w (dm v) b/\q=Rat.divInt a b/\sz a<=100000/\sz b<=100000
theorem DnS.ext {w w':World}{v:Value}{q:Rat}(h:DnS w v q) (c:Ac w w'):DnS w' v q:=by obtain⟨d,a,b,g,j,e,s⟩:=h;exact⟨d,a,b,g.ext c,j.ext c,e,s⟩
theorem DnS.rz {w:World}{v:Value}{q:Rat}(h:DnS w v q):rz q<=100000:=by obtain⟨_,a,b,_,_,rfl,c,d⟩:=h;have:=JK a b;omega
theorem Bk.dnS {base:Nat}{w:World}{v:Value}{q:Rat}(h:Bk base w v q) (e:Go.Qf.rz q<=100000):DnS w v q:=by have c:=Ez q;have d:=EG q;exact⟨h.1,q.num,q.den,h.2.1.dn oo,h.2.2.dn oo,(LS q).symm,by omega,by omega⟩
theorem DT {w:World}{x:Value}{q:Rat}(t:DnS w x q) :
  Calls prog 84 #[x] w (AJ fun r w'=>Ac w w'/\Bk 0 w' r q):=by
 refine cS func84 ntmps84 ?_;refine Nv ?_;refine .s (oB) ?_;rintro _ w1 ⟨rfl,B1,y,E⟩;refine .s (oA) ?_;rintro _ w2 ⟨rfl,B2,l,F⟩;have c:Ac w w2:=y.trans l;replace B1:=B1.ext l;obtain⟨u,a,b,f,h,rfl,B,C⟩:=t.ext c;clear y l;refine A7 ?_;refine .p (A0.bg rfl (B1) (u)) ?_;refine .r rfl ?_;refine .p (A0.aX rfl (B1) (u)) ?_;refine .s (oK Pf (RO f h B C)) ?_;rintro _ G ⟨m,n,A⟩;replace B2:=B2.ext m;replace c:=c.trans m;clear m;by_cases g:b=0
 ·rw[n g];subst g;rw[Rat.divInt_zero];refine .r rfl ?_;refine Af.bn (v:=zR) rfl rfl (fun _=>rfl) GR ?_;intro b3 z i d _;replace B2:=B2.ext d;replace c:=c.trans d;clear d;refine A7 ?_;refine .ct ?_;refine .s (oK G1 (G6 z 0 de de)) ?_;rintro v H ⟨o,hv⟩;replace B2:=B2.ext o;replace c:=c.trans o;clear o;refine Af.aT rfl rfl rfl hv.1 B2 rfl c oo ?_;intro D e j k;refine A7 ?_;exact Ad.bA rfl rfl e hv.1 ⟨k,hv.upd j B2 de⟩
 ·obtain⟨v,rfl,hv⟩:=A g;refine .r rfl ?_;refine Af.bn rfl rfl (fun _=>rfl) hv.1 ?_;intro b3 z i d B3;replace B2:=B2.ext d;replace hv:=hv.ext d;replace c:=c.trans d;clear d;refine A7 ?_;refine .cf ?_;refine .p (rR (B3) (hv.1)) ?_;refine Af.aT rfl rfl rfl hv.1 B2 rfl c oo ?_;intro D e j k;refine A7 ?_;exact Ad.bA rfl rfl e hv.1 ⟨k,hv.upd j B2 de⟩
theorem A4Z {w:World}{x y:Value}(g:R4 x) (k:R4 y) (l:∀ w',Ac w w'->Calls prog 90 #[nm x,nm y] w' (AJ fun r w''=>Ac w' w''/\r=.bool true))
  (m:∀ w',Ac w w'->Calls prog 90 #[dm x,dm y] w' (AJ fun r w''=>Ac w' w''/\r=.bool true)) :
  Calls prog 55 #[x,y] w (AJ fun r w'=>Ac w w'/\r=.bool true):=by refine cS func55 ntmps55 ?_;refine Nv ?_;refine .s (oB) ?_;rintro _ w1 ⟨rfl,B1,j,q⟩;refine .s (oB) ?_;rintro _ w2 ⟨rfl,B2,e,u⟩;have c:Ac w w2:=j.trans e;replace B1:=B1.ext e;clear j e;refine A7 ?_;refine .p (A0.bg rfl (B1) (g)) ?_;refine .r rfl ?_;refine .p (A0.bg rfl (B2) (k)) ?_;refine .s (oK Sm (l w2 c)) ?_;rintro _ w3 ⟨d,rfl⟩;replace B1:=B1.ext d;replace B2:=B2.ext d;replace c:=c.trans d;clear d;refine .r rfl ?_;refine .p (A0.aX rfl (B1) (g)) ?_;refine .r rfl ?_;refine .p (A0.aX rfl (B2) (k)) ?_;refine .s (oK Sm (m w3 c)) ?_;rintro _ v ⟨o,rfl⟩;refine A7 ?_;exact Ad.ax rfl rfl ⟨c.trans o,rfl⟩
theorem A3w {b1 b2:Nat}{w:World}{x y:Value}{q:Rat}(h:Bk b1 w x q) (k:Bk b2 w y q) (d:rz q<=100000) :
  Calls prog 55 #[x,y] w (AJ fun r w'=>Ac w w'/\r=.bool true) :=
 A4Z h.1 k.1 (fun _ c=>WX (h.2.1.ext c) (k.2.1.ext c) (Ar (Ez q) oo)) (fun _ c=>WX (h.2.2.ext c) (k.2.2.ext c) (Ar (EG q) oo))
variable {k c j cap:Nat}{f:Nat->Nat->Int}{rs D:List Value}{α:Type}{neg:Bool}
def RA (f:Nat->Nat->Int):Nat->Ej:=fun i j=>(f i j:Rat)
theorem Y9 (f:Nat->Nat->Int):∀ i j,ZH (RA f i j):=fun i j=>⟨f i j,rfl⟩
def Gl (A:Nat->Nat->Int) (L:Int) (k i j:Nat):Nat->Nat->Int:=fun a b=>if k<a/\k<b/\(a<i\/a=i/\b<j) then (A k k * A a b - A a k * A k b) / L else A a b
theorem ZJ (A:Nat->Nat->Int) (L:Int) (k n:Nat):mk n n (Gl A L k (k+1) (k+1))=mk n n A:=BV fun a b _ _=>by unfold Gl;rw[if_neg oo]
theorem A1j (A:Nat->Nat->Int) (L:Int) (k i j n:Nat) (c:k<i) (d:k<j):mk n n (Eg (Gl A L k i j) i j ((A k k * A i j - A i k * A k j) / L))=mk n n (Gl A L k i (j+1)):=BV fun a b _ _=>by
 unfold Eg Gl;by_cases e:a=i/\b=j
 ·obtain⟨rfl,rfl⟩:=e;rw[if_pos ⟨rfl,rfl⟩,if_pos oo]
 ·rw[if_neg e];by_cases g:k<a/\k<b/\(a<i\/a=i/\b<j)
  ·rw[if_pos g,if_pos oo]
  ·rw[if_neg g,if_neg oo]
theorem A1k (A:Nat->Nat->Int) (L:Int) (k i n:Nat):mk n n (Gl A L k i n)=mk n n (Gl A L k (i+1) (k+1)):=BV fun a b _ _=>by
 unfold Gl;by_cases g:k<a/\k<b/\(a<i\/a=i/\b<n)
 ·rw[if_pos g,if_pos oo]
 ·rw[if_neg g,if_neg oo]
theorem ZK (A:Nat->Nat->Int) (L:Int) (k i j b:Nat):Gl A L k i j k b=A k b:=by unfold Gl;rw[if_neg oo]
theorem A50 (A:Nat->Nat->Int) (L:Int) (k i j a:Nat):Gl A L k i j a k=A a k:=by unfold Gl;rw[if_neg oo]
theorem A51 (A:Nat->Nat->Int) (L:Int) (k i j:Nat):Gl A L k i j i j=A i j:=by unfold Gl;rw[if_neg oo]
def Gd (n:Nat) (f:Nat->Nat->Int):Prop:=∀ m,1<=m->m<n->dd (RA f) m≠0
def Qz (n:Nat) (f:Nat->Nat->Int) (k:Nat) (A:Nat->Nat->Int) (L:Int) (neg:Bool):Prop :=
 L≠0/\(Gd n f->neg=false/\(L:Rat)=dd (RA f) k/\∀ i j,k<=i->k<=j->i<n->j<n->(A i j:Rat)=BB (RA f) k i j)
theorem Qz.start (n:Nat) (f:Nat->Nat->Int):Qz n f 0 f 1 false :=
 ⟨by decide,fun _=>⟨rfl,rfl,fun i j _ _ _ _=>by rw[Y5];rfl⟩⟩
theorem Qz.step {A:Nat->Nat->Int}{L:Int}(h:Qz n f k A L neg) (c:k<n) (q:A k k≠0):Qz n f (k+1) (Gl A L k n (k+1)) (A k k) neg:=by
 refine⟨q,fun t=>?_⟩;obtain⟨v,y,d⟩:=h.2 t;have o:(A k k:Rat)=dd (RA f) (k+1):=(d k k AO AO c c).trans (Fv _ _);have l:dd (RA f) (k+1)≠0:=by rw[<- o];exact fun e=>q (by exact_mod_cast e)
 refine⟨v,o,fun i j b p g m=>?_⟩;unfold Gl;rw[if_pos ⟨by omega,by omega,.inl g⟩];obtain⟨z,u⟩:=Y4 (Y9 f) (k+1) i j l;have r:=Y6 (RA f) k i j l;rw[u,<- y,<- d k k AO AO c c,<- d i j oo oo g m,<- d i k oo AO g c,<- d k j AO oo c m]at r;have a:z * L=A k k * A i j - A i k * A k j:=by exact_mod_cast r
 rw[u,<- a,Int.mul_ediv_cancel _ h.1]
theorem Qz.swap {p:Nat}{A:Nat->Nat->Int}{L:Int}(h:Qz n f k A L neg) (m:k<p) (o:p<n) (d:A k k=0) (A':Nat->Nat->Int) (g:Bool):Qz n f k A' L g:=by refine⟨h.1,fun c=>?_⟩;exfalso;obtain⟨j,l,e⟩:=h.2 c;have:=e k k AO AO oo oo;rw[Fv,d]at this;exact c (k+1) oo oo this.symm
theorem Qz.zero {A:Nat->Nat->Int}{L:Int}(h:Qz n f k A L neg) (d:k<n) (g:A k k=0) (c:Gd n f):((0:Int):Rat)=dd (RA f) n:=by
 obtain⟨l,m,j⟩:=h.2 c;have:=j k k AO AO d d;rw[Fv,g]at this;by_cases e:k+1=n
 ·rw[<- e];exact this
 ·exact absurd this.symm (c (k+1) oo oo)
section
variable {k:Nat}{te e:TypeId}{base:Nat}{w w':World}{v:Value}{rs:List Value}{R:List (List Value)}
theorem Lc {l:List α}{x y:α}(k:i≠j) (c:l[i]?=some x) (d:l[j]?=some y) (a:Nat):((l.set i y).set j x)[a]?=l[if a=i then j else if a=j then i else a]?:=by
 have e:=(Au.1 c).1;have g:=(Au.1 d).1;by_cases ea:a=i
 ·subst ea;rw[if_pos rfl,Ce (Ne.symm k),Bx e,d]
 ·rw[if_neg ea];by_cases eb:a=j
  ·subst eb;rw[if_pos rfl,Bx (by simpa using g),c]
  ·rw[if_neg eb,Ce (Ne.symm eb),Ce (Ne.symm ea)]
theorem DE.swapR (h:DE k te e base w v rs R) (S:e≠te) {x:Value}{X Y:List Value}(m:i≠j) (l:rs[i]?=some x) (q:rs[j]?=some y) (K:R[i]?=some X) (L:R[j]?=some Y) {g:Nat}(hv:v=.slice (some ⟨g,0,none⟩) rs.length cap) (A:Aj te w g (rs++D))
  (hu:CE g w w') (M:Aj te w' g ((rs.set i y).set j x++D)):DE k te e base w' v ((rs.set i y).set j x) ((R.set i Y).set j X):=by
 obtain⟨n,G,o,H,I⟩:=h;have C:=(Au.1 l).1;obtain⟨g',cap',D',f,Q,B,N,O,P⟩:=n.open (by intro e;rw[e]at C;simp at C);rw[hv]at f;simp only[Ci,AP,FF,and_true]at f;obtain⟨rfl,_,rfl⟩:=f;rw[CO rs o]at B;have J:D=D':=List.append_cancel_left (A.same B);subst J;have t:∀ z ∈ (rs.set i y).set j x,z ∈ rs:=by intro z c;obtain⟨a,p⟩:=Cx.1 c;rw[Lc m l q]at p;exact Bi p
 have u:((rs.set i y).set j x).length=rs.length:=by simp
 refine⟨⟨fun z c=>n.1 z (t z c),.inr ⟨g,cap,D,by rw[hv,u],Q,?_,by rw[u];exact N,by rw[u];exact O,P⟩⟩,by simpa using G,fun z c=>o z (t z c),?_,?_⟩
 ·rw[CO _ (fun z c=>o z (t z c))];exact M
 ·intro a r us d F;rw[Lc m l q]at d;rw[Lc m K L]at F;exact (H _ r us d F).aI hu A S
 ·intro a b r s T d E;rw[Lc m l q]at d E;refine I _ _ r s ?_ d E;by_cases a1:a=i <;> by_cases a2:a=j <;> by_cases b1:b=i <;> by_cases b2:b=j <;> simp only[a1,a2,b1,b2,if_true,if_false] <;> simp_all <;> omega
end
def swF (i j:Nat) (A:Nat->Nat->Int):Nat->Nat->Int:=fun a b=>A (if a=i then j else if a=j then i else a) b
theorem BH.swapC {w:World}{v:Value}{A:Nat->Nat->Int}(h:BH rs base w v (mk n c A)) (q:i≠j) (B:i<n) (C:j<n) {x:Value}(G:rs[i]?=some x) (H:rs[j]?=some y) {g:Nat}(hv:v=.slice (some ⟨g,0,none⟩) n cap) (o:Aj 122 w g (rs++D))
  (hu:CE g w w') (s:Aj 122 w' g ((rs.set i y).set j x++D)):BH ((rs.set i y).set j x) base w' v (mk n c (swF i j A)):=by
 have r:=h.rsl;rw[AU]at r;obtain⟨R,f,e,p⟩:=h;rw[AU]at e;have k:R[i]?=some (R[i]'oo):=by simp
 have l:R[j]?=some (R[j]'oo):=by simp
 refine⟨_,f.swapR de q G H k l (by rw[hv,r]) o hu s,by rw[AU];simpa using e,?_⟩;intro a us row t d;have m:a<n:=by have:=(Au.1 d).1;rw[AU]at this;exact this
 rw[BK m]at d;cases d;rw[Lc q k l]at t;have E:(if a=i then j else if a=j then i else a)<n:=by split;exact C;split;exact B;exact m
 obtain⟨q1,q2⟩:=p _ us _ t (BK E);refine⟨by simpa using q1,fun b u z F I=>?_⟩;exact (q2 b u z F I).aI hu o de
variable {b5:Nat}{M:List (List Int)}{C:List Value}{lv:Value}
theorem Bv (h:k<4611686018427387904):Value.int .i64 (IntKind.i64.wrap ((k:Int)+1))=.int .i64 ((k+1:Nat):Int):=by rw[Ab oo oo];rfl
structure DSt (w:World) (B:Nat) (V:Value) (b5 n:Nat) (A:Nat->Nat->Int) (L:Int) (bd:Nat) (rs:List Value) (lv:Value):Prop where
 mat:BH rs B w V (mk n n A)
 own:∀ r ∈ rs,r.ownBlock≠some b5
 box:Aj 37 w b5 lv.cells.toList
 can:Ao 0 w lv L
 szL:sz L+1<=bd
 szA:∀ a b,a<n->b<n->sz (A a b)+1<=bd
theorem DSt.ext {w:World}{B:Nat}{V:Value}{A:Nat->Nat->Int}{L:Int}{bd:Nat}(h:DSt w B V b5 n A L bd rs lv) (c:Ac w w'):DSt w' B V b5 n A L bd rs lv :=
 ⟨h.mat.ext c,h.own,h.box.ext c,h.can.ext c,h.szL,h.szA⟩
theorem BH.mpAt {B:Nat}{w:World}{a:Addr}{A:Nat->Nat->Int}{s:Nat}(h:BH rs B w (.slice (some a) n cap) (mk n c A)) (o:1<=n) (l:1<=c) (q:∀ a b,a<n->b<c->sz (A a b)<=s) (g:s<=1000000):MP w a n c A/\∀ i,i<n->∃ d,rs[i]?=some d/\w.cell? (a.add i)=some d:=by
 constructor
 ·obtain⟨a',cap',hv,k⟩:=(h.miS q g).mp o l;simp only[Ci,AP]at hv;obtain⟨rfl,_,_⟩:=hv;exact k
 ·intro i m;obtain⟨a',d,e,g,j⟩:=h.rowAt m;simp only[AP]at e;subst e;exact⟨d,g,j⟩
theorem BH.outer {B g:Nat}{w:World}{A:Nat->Nat->Int}(h:BH rs B w (.slice (some ⟨g,0,none⟩) n cap) (mk n c A)) (r:1<=n):B<=g/\∃ D,Aj 122 w g (rs++D):=by have d:=h.rsl;rw[AU]at d;have m:=h.one;obtain⟨R,k,o,q⟩:=h;obtain⟨g',cap',D,hv,l,j,_⟩:=k.1.open (by intro e;rw[e]at d;simp at d;omega);simp only[Ci,AP,FF,and_true]at hv;obtain⟨rfl,_,_⟩:=hv;rw[CO rs m]at j;exact⟨l,D,j⟩
theorem BH.canAt {B:Nat}{w:World}{a:Addr}{A:Nat->Nat->Int}(h:BH rs B w (.slice (some a) n cap) (mk n c A)) (m:i<n) (t:j<c):∃ b o cp u e C,w.cell? (a.add i)=some (.slice (some ⟨b,o,none⟩) c cp)/\Aj e w b C/\(C.drop (o+2 * j)).take 2=u.cells.toList/\o+2 * j+2<=C.length/\Ao 0 w u (A i j):=by
 obtain⟨a',f,e,q,r⟩:=h.rowAt m;simp only[AP]at e;subst e;obtain⟨R,q1,q2,q3⟩:=h;rw[AU]at q2;have l:R[i]?=some (R[i]'oo):=by simp
 obtain⟨k1,k2⟩:=q3 i _ _ l (BK m);have k:=q1.2.2.2.1 i f _ q l;have d:(R[i]'oo).length=c:=by simpa using k1
 have hu:(R[i]'oo)[j]?=some ((R[i]'oo)[j]'oo):=by simp
 obtain⟨g,cp,D,hv,_,y,p,_⟩:=k.open (by intro e;rw[e]at d;simp at d;omega);have z:=k.1.flat;refine⟨g,0,cp,_,_,_,by rw[r,hv,d],y,?_,?_,k2 j _ _ hu (Fu t)⟩
 ·rw[AE];exact Ni _ D j _ (fun v hv=>(k.1 v hv).1) hu
 ·rw[Bf,z,d];omega
theorem BH.dX {B:Nat}{w:World}{V:Value}(h:BH rs B w V M) (hu:CE b w w') (d:Aj 37 w b C) (m:∀ r ∈ rs,r.ownBlock≠some b):BH rs B w' V M:=by obtain⟨R,g,k,l⟩:=h;obtain⟨k1,k2,k3,k4,k5⟩:=g;refine⟨R,⟨k1.aI hu d de,k2,k3,fun i r us e c=>(k4 i r us e c).upd hu (m r (Bi e)),k5⟩,k,fun i us row c o=>?_⟩;obtain⟨q1,q2⟩:=l i us row c o;exact⟨q1,fun j u x q v=>(q2 j u x q v).aI hu d de⟩
theorem BH.addr {B:Nat}{w:World}{V:Value}{A:Nat->Nat->Int}(h:BH rs B w V (mk n c A)) (m:1<=n):∃ g cap,V=.slice (some ⟨g,0,none⟩) n cap:=by have d:=h.rsl;rw[AU]at d;obtain⟨R,j,k,l⟩:=h;obtain⟨g',cap',D,hv,_⟩:=j.1.open (by intro e;rw[e]at d;simp at d;omega);exact⟨g',cap',by rw[hv,d]⟩
theorem BH.bG {B:Nat}{w:World}{V:Value}(h:BH rs B w V M):∀ r ∈ rs,∀ b,w.heap.size<=b->r.ownBlock≠some b:=by obtain⟨R,c,_⟩:=h;intro r g b j e;obtain⟨i,d⟩:=Cx.1 g;have:=c.cH d e;omega
theorem ZL {s:Nat}(c:k<=n) (h:2 ^ n * (s+1)<=100000):2 ^ k * (s+1)<=100000 :=
 Ar (Bm _ (DB oo c)) h
theorem Ya (k s:Nat):2 ^ (k+1) * (s+1)=2 * (2 ^ k * (s+1)):=by rw[Ck];rw[AQ (2 ^ k) 2,Bb]
theorem Vd {A:Nat->Nat->Int}{L:Int}{bd:Nat}(c:k<n) (h:∀ a b,a<n->b<n->sz (A a b)+1<=bd) (i j:Nat):∀ a b,a<n->b<n->sz (Gl A L k i j a b)+1<=2 * bd:=by
 intro a b d e;unfold Gl;split
 ·have g:=h k k c c;have l:=h a b d e;have m:=h a k d c;have o:=h k b c e;have q1:=Bt (A k k) (A a b);have q2:=Bt (A a k) (A k b);have q3:=RE (A k k * A a b) (A a k * A k b);have q:=V3 (A k k * A a b - A a k * A k b) L;omega
 ·have:=h a b d e;omega
theorem CH {w:World}{v:Value}{s:Nat}(h:MI w v (mk n n f)) (J:1<=n/\n<=16) (hs:∀ a b,a<n->b<n->sz (f a b)<=s) (ul:1<=s) (H:2 ^ n * (s+1)<=100000) :
  Calls prog 147 #[v] w (AJ fun x w'=>Ac w w'/\∃ d:Int,Ao 0 w' x d/\sz d<=2 ^ n * (s+1)/\(Gd n f->(d:Rat)=dd (RA f) n)):=by
 refine Sj (args:=[_]) func147 rfl ntmps147 rfl ?_;refine Nv ?_;refine .s (Av.alloc A8 rfl) ?_;rintro _ w1 ⟨rfl,B2,hv,uq⟩;refine A7 ?_;refine .s (Av.call Sn rfl (X0 (base:=w1.heap.size) (h.ext hv) J J AO)) ?_;rintro V w2 ⟨h8,rs,hC⟩;obtain⟨g,cap,rfl⟩:=hC.addr J.1;refine A7 ?_;refine .s (Av.call AW rfl (Ba (base:=0) w2 1 oo oo BI)) ?_;rintro one w3 ⟨hf,h4⟩;refine Af.cn rfl (fun _=>rfl) h4.r2 ?_;intro w4 hw B5;have k9:=(h8.trans hf).trans hw;have uf:=B2.lt;have um:sz 1=1:=by decide +kernel
 have ke:DSt w4 w1.heap.size (.slice (some ⟨g,0,none⟩) n cap) w3.heap.size n f 1 (2 ^ 0 * (s+1)) rs one :=
  ⟨(hC.ext hf).ext hw,fun r hr=>(hC.ext hf).bG r hr _ AO,B5,h4.ext hw,by omega,fun a b C H=>by have:=hs a b C H;omega⟩
 have uo:=hf.size;have un:=h8.size;clear hC B5 h4 h8 hf hw;refine A7 ?_;refine St.dB A8 (7) (0) (n) oo (fun neg:Bool=>[(2,.pointer (some ⟨w.heap.size,0,none⟩)),(3,.slice (some ⟨g,0,none⟩) n cap),(4,.int .i64 n),(5,.pointer (some ⟨w3.heap.size,0,none⟩)),(6,.bool neg)]) (fun k neg w'=>Ac w1 w'/\∃ A L rs lv,DSt w' w1.heap.size (.slice (some ⟨g,0,none⟩) n cap) w3.heap.size n A L (2 ^ k * (s+1)) rs lv/\Qz n f k A L neg) (false) AL ?_ (fun _ _=>⟨rfl,rfl⟩) (fun _ _=>rfl) (fun _ _=>⟨rfl,rfl⟩) (fun _=>rfl) (fun _=>rfl) oo ?_ ?_
 ·exact⟨k9,f,1,rs,one,ke,Qz.start n f⟩
 ·clear ke;rintro k neg w5 m ⟨O,A,L,rs,lv,c,G⟩;have ku:=ZL (k:=k) (n:=n) oo H;have kg:=ZL (k:=k+1) (n:=n) oo H;rw[Ya]at kg;generalize kf:2 ^ k * (s+1)=bd at c ku kg;refine A7 ?_;refine St.loop (fun p:Nat=>[(7,.int .i64 k),(2,.pointer (some ⟨w.heap.size,0,none⟩)),(3,.slice (some ⟨g,0,none⟩) n cap),(4,.int .i64 n),(5,.pointer (some ⟨w3.heap.size,0,none⟩)),(6,.bool neg),(8,.int .i64 p)])
   (fun p w'=>Ac w1 w'/\DSt w' w1.heap.size (.slice (some ⟨g,0,none⟩) n cap) w3.heap.size n A L bd rs lv/\k<=p/\p<=n/\∀ q,k<=q->q<p->A q k=0) (fun p=>n - p) k AL ⟨O,c,Ai _,by omega,fun q S h2=>by omega⟩ ?_
  clear c O;rintro p w6 ⟨B,c,uj,uk,K⟩;obtain⟨Y,h5⟩:=c.mat.mpAt J.1 J.1 (s:=bd) (fun a b C H=>by have:=c.szA a b C H;omega) oo;refine Nv ?_;by_cases k0:p<n
  ·obtain⟨b,o,cp,kh,e1,C1,kb,T⟩:=Y p k0;obtain⟨y,hd,k1,k2⟩:=T k m;refine .a 3 (.bool true) rfl (Aa oo) ?_;refine .r rfl ?_;refine .p (A0.ia) ?_;refine .p (A0.load A8 rfl rfl rfl kh) ?_;refine .r rfl ?_;refine .p (A0.aQ rfl rfl rfl oo) ?_;refine .p (A0.aH rfl kb k1 k2 hd.r2) ?_;refine .s (Av.call Dd rfl (EZ hd)) ?_;rintro _ w7 ⟨E,rfl⟩;by_cases W:A p k=0
   ·refine .a 1 (.bool true) rfl (by rw[Py,decide_eq_true W]) ?_;refine A7 ?_;refine .cT ?_;refine Nv ?_;refine .a 3 (.int .i64 ((p+1:Nat):Int)) rfl (Bv oo) ?_;refine Nv ?_;refine Ad.again (p+1) AL ⟨B.trans E,c.ext E,by omega,by omega,?_⟩ oo;intro q S h2;by_cases e:q=p
    ·rw[e];exact W
    ·exact K q S oo
   ·refine .a 1 (.bool false) rfl (by rw[Py,decide_eq_false W]) ?_;refine A7 ?_;refine .cf ?_;replace B:=B.trans E;replace c:=c.ext E;clear E Y h5 kh kb T hd;refine St.ay rfl (by simp;omega) ?_;refine Nv ?_;refine .a 3 (.bool (decide (k<p))) rfl (by congr 1;simp) ?_;refine Af.nil (Ad.ak ?_);refine St.cL (fun M:Bool=>[(7,.int .i64 k),(2,.pointer (some ⟨w.heap.size,0,none⟩)),(3,.slice (some ⟨g,0,none⟩) n cap),(4,.int .i64 n),(5,.pointer (some ⟨w3.heap.size,0,none⟩)),(6,.bool M)])
     (fun M w'=>Ac w1 w'/\∃ A rs,DSt w' w1.heap.size (.slice (some ⟨g,0,none⟩) n cap) w3.heap.size n A L bd rs lv/\Qz n f k A L M/\A k k≠0) ?_ ?_
    ·by_cases ht:k<p
     ·refine St.aD rfl (decide_eq_true ht) ?_;have k6:=c.mat.rsl;rw[AU]at k6;obtain⟨x,hc⟩:∃ x,rs[p]?=some x:=⟨rs[p]'oo,by simp⟩;obtain⟨y,he⟩:∃ y,rs[k]?=some y:=⟨rs[k]'oo,by simp⟩;obtain⟨ug,D,F⟩:=c.mat.outer J.1;have kn:=c.mat.one x (Bi hc);have ko:=c.mat.one y (Bi he);have ub:x.oneCell'=true:=by obtain⟨R,q1,_⟩:=c.mat;have:=(q1.1.1 x (Bi hc)).2;rw[kn]at this;exact this x sm
      have uc:y.oneCell'=true:=by obtain⟨R,q1,_⟩:=c.mat;have:=(q1.1.1 y (Bi he)).2;rw[ko]at this;exact this y sm
      have ki:(rs++D)[p]?=some x:=by rw[BM oo];exact hc
      have kj:(rs++D)[k]?=some y:=by rw[BM oo];exact he
      refine Nv ?_;refine St.sub (E':=[(7,.int .i64 k),(2,.pointer (some ⟨w.heap.size,0,none⟩)),(3,.slice (some ⟨g,0,none⟩) n cap),(4,.int .i64 n),(5,.pointer (some ⟨w3.heap.size,0,none⟩)),(6,.bool neg),(8,.int .i64 p)]) ?_ AL;refine St.any Dv rfl ?_;intro I u _ _;replace F:=F.ext u;replace c:=c.ext u;replace B:=B.trans u;clear u;have fin:∀ Q P,Aj 122 Q g (Fl (rs++D) p [y])->CE g I Q->Aj 122 P g (Fl (Fl (rs++D) p [y]) k [x])->CE g Q P->Ac w1 P/\∃ A rs,DSt P w1.heap.size (.slice (some ⟨g,0,none⟩) n cap) w3.heap.size n A L bd rs lv/\Qz n f k A L (!neg)/\A k k≠0:=by
       intro Q P hx h7 hm h6;have hu:=h7.trans h6;have e2:Fl (Fl (rs++D) p [y]) k [x]=(rs.set p y).set k x++D:=by simp only[Fl];rw[NR _ _ oo,NR _ _ (by simp;omega)]
       rw[e2]at hm;have hM:=c.mat.swapC (i:=p) (j:=k) oo oo m hc he rfl F hu hm;have k3:w3.heap.size≠g:=by intro e;have hq:=c.box;rw[e]at hq;have:=hq.symm.trans F;simp only[AP,Obj.cells.injEq]at this;exact absurd this.2.1 de
       refine⟨B.aj hu oo,swF p k A,_,⟨hM,?_,c.box.upd hu k3,c.can.aI hu F de,c.szL,?_⟩,G.swap ht oo (K k AO ht) _ _,?_⟩
       ·intro r hr;refine c.own r ?_;obtain⟨a,C⟩:=Cx.1 hr;rw[Lc oo hc he]at C;exact Bi C
       ·intro a b C kt;unfold swF;refine c.szA _ b ?_ kt;split
        ·exact m
        ·split
         ·omega
         ·exact C
       ·unfold swF;rw[if_neg oo,if_pos rfl];exact W
      refine WA.takes (fuel:=8) A8 kr (fun _ _ _ _ _ h=>h) [0,1,2,3,4,5,8,9] kr rfl ?_;refine WA.take 6 rfl rfl kr kr kr (fun _ _ _ h=>h) rfl rfl (fun w=>A0.ia) ?_;refine WA.take 10 rfl rfl kr kr kr (fun _ _ _ h=>h) rfl rfl (fun w=>A0.ia) ?_;simp only[Cj,Ak,AE];refine WA.meet 4 #[true,true,true,true,true,true,true,true,true,true,true,true,false,false,false,false] (fun _:Unit=>[(7,.int .i64 k),(2,.pointer (some ⟨w.heap.size,0,none⟩)),(3,.slice (some ⟨g,0,none⟩) n cap),(4,.int .i64 n),(5,.pointer (some ⟨w3.heap.size,0,none⟩)),(6,.bool neg),(45,.slice (some ⟨g,0,none⟩) n cap),(46,.int .i64 p),(47,.slice (some ⟨g,0,none⟩) n cap),(48,.int .i64 k),(52,y),(56,x)]) (fun _ w'=>w'=I) ?_ ?_
      ·rintro _ I rfl;refine WA.one (i:=12) kr (Ed.val rfl rfl rfl rfl (A0.ia).op ?_);rintro _ _ ⟨rfl,rfl⟩;simp only[Cj,Ak,AE];refine WA.one (i:=13) kr (Ed.eff rfl rfl rfl (Av.store A8 (vs:=[y]) rfl rfl rfl (by rw[ko]) rfl F (by simp;omega) (by simpa using uc)) ?_);rintro _ Q ⟨hx,h7⟩;refine WA.one (i:=14) kr (Ed.val rfl rfl rfl rfl (A0.ia).op ?_);rintro _ _ ⟨rfl,rfl⟩;simp only[Cj,Ak,AE];refine WA.one (i:=15) kr (Ed.eff rfl rfl rfl (Av.store A8 (vs:=[x]) rfl rfl rfl (by rw[kn]) rfl hx (by simp[Fl];omega) (by simpa using ub)) ?_);rintro _ P ⟨hm,h6⟩;refine WA.done kr ?_;refine A7 ?_;exact Ad.met (!neg) AL (fin Q P hx h7 hm h6)
      ·intro meet;refine WA.two (i:=7) (j:=11) kr ?_ ?_
       ·refine Ed.val rfl rfl rfl rfl (A0.load A8 rfl rfl rfl (F.cell kj)).op ?_;rintro _ _ ⟨rfl,rfl⟩;refine WA.one (i:=11) kr (Ed.val rfl rfl rfl rfl (A0.load A8 rfl rfl rfl (F.cell ki)).op ?_);rintro _ _ ⟨rfl,rfl⟩;exact meet () _ _ _ kr rfl AL
       ·refine Ed.val rfl rfl rfl rfl (A0.load A8 rfl rfl rfl (F.cell ki)).op ?_;rintro _ _ ⟨rfl,rfl⟩;refine WA.one (i:=7) kr (Ed.val rfl rfl rfl rfl (A0.load A8 rfl rfl rfl (F.cell kj)).op ?_);rintro _ _ ⟨rfl,rfl⟩;exact meet () _ _ _ kr rfl AL
     ·refine St.ay rfl (decide_eq_false ht) ?_;obtain rfl:p=k:=by omega
      refine Nv ?_;exact Ad.met neg AL ⟨B,A,rs,c,G,W⟩
    ·clear c G K B W;rintro M w6 ⟨B,A,rs,c,G,k5⟩;refine Nv ?_;refine .a 3 (.int .i64 ((k+1:Nat):Int)) rfl (Bv oo) ?_;refine Nv ?_;refine St.ef A8 (9) (k+1) (n) oo [(7,.int .i64 k),(2,.pointer (some ⟨w.heap.size,0,none⟩)),(3,.slice (some ⟨g,0,none⟩) n cap),(4,.int .i64 n),(5,.pointer (some ⟨w3.heap.size,0,none⟩)),(6,.bool M)] (fun i w'=>k+1<=i/\Ac w1 w'/\DSt w' w1.heap.size (.slice (some ⟨g,0,none⟩) n cap) w3.heap.size n (Gl A L k i (k+1)) L (2 * bd) rs lv) AL ?_ (fun _=>⟨rfl,rfl⟩) (fun _=>rfl) (fun _=>⟨rfl,rfl⟩) rfl rfl oo ?_ ?_
     ·refine⟨Ai _,B,?_,c.own,c.box,c.can,by have:=c.szL;omega,Vd m c.szA _ _⟩;rw[ZJ];exact c.mat
     ·rintro i w7 U ⟨uh,E,l⟩;refine Nv ?_;refine .a 3 (.int .i64 ((k+1:Nat):Int)) rfl (Bv oo) ?_;refine Nv ?_;refine St.ef A8 (10) (k+1) (n) oo [(9,.int .i64 i),(7,.int .i64 k),(2,.pointer (some ⟨w.heap.size,0,none⟩)),(3,.slice (some ⟨g,0,none⟩) n cap),(4,.int .i64 n),(5,.pointer (some ⟨w3.heap.size,0,none⟩)),(6,.bool M)] (fun j w'=>k+1<=j/\Ac w1 w'/\DSt w' w1.heap.size (.slice (some ⟨g,0,none⟩) n cap) w3.heap.size n (Gl A L k i j) L (2 * bd) rs lv) AL ?_ (fun _=>⟨rfl,rfl⟩) (fun _=>rfl) (fun _=>⟨rfl,rfl⟩) rfl rfl oo ?_ ?_
      ·exact⟨Ai _,E,l⟩
      ·clear l E;rintro j w7 hj ⟨ui,E,l⟩;obtain⟨Y,h5⟩:=l.mat.mpAt J.1 J.1 (s:=2 * bd) (fun a b C H=>by have:=l.szA a b C H;omega) oo;obtain⟨rr,km,kw⟩:=h5 i U;obtain⟨b1,o1,kp,ho,e1,C1,kc,kk⟩:=Y i U;obtain⟨y1,hy,k11,k12⟩:=kk j hj;obtain⟨y2,h0,k21,k22⟩:=kk k m;obtain⟨b3,o3,kq,hp,e3,C3,hl,kl⟩:=Y k m;obtain⟨y3,N,h9,ka⟩:=kl k m;obtain⟨y4,h3,ud,ue⟩:=kl j hj;obtain rfl:rr=.slice (some ⟨b1,o1,none⟩) n kp:=Ir (kw.symm.trans ho);have k4:=l.own _ (Bi km);rw[A51]at hy;rw[A50]at h0;rw[ZK]at N h3;have z1:=c.szA i j U hj;have z2:=c.szA i k U m;have z3:=c.szA k k m m;have z4:=c.szA k j m hj;have q1:=Bt (A k k) (A i j);have q2:=Bt (A i k) (A k j);have q3:=RE (A k k * A i j) (A i k * A k j);have k7:=c.szL;refine Nv ?_;refine St.sub (E':=[(10,.int .i64 j),(9,.int .i64 i),(7,.int .i64 k),(2,.pointer (some ⟨w.heap.size,0,none⟩)),(3,.slice (some ⟨g,0,none⟩) n cap),(4,.int .i64 n),(5,.pointer (some ⟨w3.heap.size,0,none⟩)),(6,.bool M)]) ?_ AL;refine St.flow 38 Dv kr rfl kr rfl True.intro ?_;refine .q ?_;refine .on (fun _ _=>A0.ia) ?_;refine .on (fun _ t=>A0.load A8 rfl rfl rfl (t.aq.cell ho)) ?_;refine .q ?_;refine .on (fun _ _=>A0.ia) ?_;refine .on (fun _ t=>A0.load A8 rfl rfl rfl (t.aq.cell hp)) ?_;refine .q ?_;refine .on (fun _ _=>A0.aQ rfl rfl rfl oo) ?_;refine .on (fun _ t=>A0.aH rfl (t.blk hl sm) h9 ka N.r2) ?_;refine .q ?_;refine .on (fun _ _=>A0.ia) ?_;refine .on (fun _ t=>A0.load A8 rfl rfl rfl (t.aq.cell ho)) ?_;refine .q ?_;refine .on (fun _ _=>A0.aQ rfl rfl rfl oo) ?_;refine .on (fun _ t=>A0.aH rfl (t.blk kc sm) k11 k12 hy.r2) ?_;refine FL.au BP rfl rfl rfl (fun I u=>Gj.mk rfl (Dy (base:=0) (N.ext u) (hy.ext u) BI)) (Am.aF 0 _) ?_;refine .q ?_;refine .on (fun _ _=>A0.ia) ?_;refine .on (fun _ t=>A0.load A8 rfl rfl rfl (t.aq.cell ho)) ?_;refine .q ?_;refine .on (fun _ _=>A0.aQ rfl rfl rfl oo) ?_;refine .on (fun _ t=>A0.aH rfl (t.blk kc sm) k21 k22 h0.r2) ?_;refine .q ?_;refine .on (fun _ _=>A0.ia) ?_;refine .on (fun _ t=>A0.load A8 rfl rfl rfl (t.aq.cell hp)) ?_;refine .q ?_;refine .on (fun _ _=>A0.aQ rfl rfl rfl oo) ?_;refine .on (fun _ t=>A0.aH rfl (t.blk hl sm) ud ue h3.r2) ?_;refine FL.au BP rfl rfl rfl (fun I u=>Gj.mk rfl (Dy (base:=0) (h0.ext u) (h3.ext u) BI)) (Am.aF 0 _) ?_;refine FL.au JU rfl rfl rfl (fun I u t1 S t2 h2=>Gj.mk rfl (Qx (base:=0) (S.dn oo) (h2.dn oo) BI)) (Am.aF 0 _) ?_;refine .on (fun _ t=>A0.cD rfl (t.blk l.box sm) l.can) ?_;refine FL.au I5 rfl rfl rfl (fun I u t1 S=>Gj.mk rfl (Oj (S.dn oo) ((l.can.ext u).dn oo) G.1 ⟨by omega,by omega⟩)) (Am.aF 0 _) ?_;refine FL.aG rfl ?_;intro I u z K _ _ _ _ _ _ _ _;replace l:=l.ext u;refine Af.putM2 (w0:=w1) l.mat km (BK U) (j:=j) (by simp;omega) K (E.trans u) AO rfl rfl rfl (fun _=>rfl) rfl rfl (fun _=>rfl) ?_;intro p9 Q ua kd ks kv;rw[K4 U hj,A1j A L k i j n oo oo]at kd;refine Nv ?_;exact Ad.rnd AL ⟨by omega,ua,kd,l.own,ks _ _ _ l.box k4,kv _ _ _ l.can,l.szL,Vd m c.szA _ _⟩
      ·rintro I ⟨_,u,X⟩;refine Nv ?_;refine Ad.rnd AL ⟨by omega,u,?_,X.own,X.box,X.can,X.szL,Vd m c.szA _ _⟩;rw[<- A1k];exact X.mat
     ·rintro w7 ⟨_,E,l⟩;have ky:=G.step m k5;obtain⟨b3,o3,kq,y3,e3,C3,hp,hl,h9,ka,N⟩:=l.mat.canAt m m;rw[ZK]at N;have up:=c.szA k k m m;refine A7 ?_;refine .p (A0.ia) ?_;refine .p (A0.load A8 rfl rfl rfl hp) ?_;refine .r rfl ?_;refine .p (A0.aQ rfl rfl rfl oo) ?_;refine .p (A0.aH rfl hl h9 ka N.r2) ?_;refine Af.aK rfl rfl l.box l.can.two.1 N E oo ?_;intro I S8 k8 kx u;refine Nv ?_;refine Ad.aO M AL ⟨u,Gl A L k n (k+1),A k k,rs,y3,⟨l.mat.dX k8 l.box l.own,l.own,S8,kx,by rw[Ya,kf];omega,fun a b C H=>by rw[Ya,kf];exact l.szA a b C H⟩,ky⟩
  ·obtain rfl:p=n:=by omega
   refine .a 3 (.bool false) rfl (A9 oo) ?_;refine A7 ?_;refine .cf ?_;refine St.aD rfl sm ?_;refine Nv ?_;refine .p (A0.build A8 rfl rfl rfl rfl) ?_;refine Af.aJ (base:=0) (v:=zI) (a:=0) rfl rfl (B2.ext B) rfl (DS 0 _) (hv.trans B) AO ?_;intro w' hh Z fin;refine Nv ?_;exact fin _ _ rfl ⟨hh,0,Z,by rw[Ud];omega,G.zero m (K k AO m)⟩
 ·rintro neg w5 ⟨O,A,L,rs,lv,c,G⟩;have kz:Gd n f->(L:Rat)=dd (RA f) n:=fun T=>(G.2 T).2.1;have k7:=c.szL;refine A7 ?_;cases neg
  ·refine .cF ?_;refine Nv ?_;refine .p (A0.cD rfl c.box c.can) ?_;refine Af.aJ (base:=0) rfl rfl (B2.ext O) rfl c.can (hv.trans O) AO ?_;intro w' hh Z fin;refine Nv ?_;exact fin _ _ rfl ⟨hh,L,Z,by omega,kz⟩
  ·refine .cT ?_;refine Nv ?_;refine .p (A0.cD rfl c.box c.can) ?_;refine .s (Av.call I4 rfl (Og (base:=0) (c.can.dn oo) BI)) ?_;rintro z w6 ⟨B,K⟩;refine Af.aJ (base:=0) rfl rfl (B2.ext (O.trans B)) rfl K ((hv.trans O).trans B) AO ?_;intro w' hh Z fin;refine Nv ?_;refine fin _ _ rfl ⟨hh,-L,Z,by rw[KG];omega,fun T=>?_⟩;have:=(G.2 T).1;cases this
end Go.Qf
namespace Go.Qf
theorem Cn (A:Nat->Ej) (k i j:Nat):EL A (k+1) i j=EL A k i j - EL A k i k * EL A k k j * (EL A k k k)⁻¹:=by rw[Uf,DV];grind
def PE (A:Nat->Ej):Prop:=∀ i j,A i j=A j i
theorem RP {A:Nat->Ej}(h:PE A):∀ k,PE (EL A k):=by
 intro k;induction k with
 | zero=>exact h
 | succ k ih =>
  intro i j;rw[Cn,Cn,ih i j,ih i k,ih k j];grind
def Ve (c:Rat) (i j:Nat) (X:Nat->Ej):Nat->Ej:=fun p q =>
 X p q+(if p=i then c * X j q else 0)+(if q=i then c * X p j else 0)+(if p=i/\q=i then c * c * X j j else 0)
theorem Fq {c:Rat}{i j p q:Nat}{X:Nat->Ej}(hp:p≠i) (hq:q≠i):Ve c i j X p q=X p q:=by unfold Ve;rw[if_neg hp,if_neg hq,if_neg (fun h=>hp h.1)];grind
theorem KJ {c:Rat}{i j q:Nat}{X:Nat->Ej}(hq:q≠i):Ve c i j X i q=X i q+c * X j q:=by unfold Ve;rw[if_pos rfl,if_neg hq,if_neg (fun h=>hq h.2)];grind
theorem Me {c:Rat}{i j p:Nat}{X:Nat->Ej}(hp:p≠i):Ve c i j X p i=X p i+c * X p j:=by unfold Ve;rw[if_neg hp,if_pos rfl,if_neg (fun h=>hp h.1)];grind
theorem Yb {c:Rat}{i j:Nat}{X:Nat->Ej}:Ve c i j X i i=X i i+c * X j i+c * X i j+c * c * X j j:=by unfold Ve;rw[if_pos rfl,if_pos rfl,if_pos ⟨rfl,rfl⟩]
theorem A2o {c:Rat}{i j:Nat}{X:Nat->Ej}(h:PE X):PE (Ve c i j X):=by
 intro p q;by_cases hp:p=i <;> by_cases hq:q=i
 ·subst hp;subst hq;rfl
 ·subst hp;rw[KJ hq,Me hq,h p q,h j q]
 ·subst hq;rw[KJ hp,Me hp,h q p,h j p]
 ·rw[Fq hp hq,Fq hq hp,h p q]
theorem Ug {c:Rat}{i j:Nat}(hji:j<i) (A:Nat->Ej):∀ k,k<=j->EL (Ve c i j A) k=Ve c i j (EL A k):=by
 intro k;induction k with
 | zero=>intro _;rfl
 | succ k ih =>
  intro hk;have e:=ih oo;have hki:k≠i:=by omega
  funext p q;rw[Cn,e,Fq hki hki];by_cases hp:p=i <;> by_cases hq:q=i
  ·subst hp;subst hq;rw[Yb,Yb,KJ hki,Me hki,Cn,Cn,Cn,Cn];grind
  ·subst hp;rw[KJ hq,KJ hq,KJ hki,Fq hki hq,Cn,Cn];grind
  ·subst hq;rw[Me hp,Me hp,Me hki,Fq hp hki,Cn,Cn];grind
  ·rw[Fq hp hq,Fq hp hq,Fq hp hki,Fq hki hq,Cn]
theorem ZM {c:Rat}{i j:Nat}(hji:j<i) (A:Nat->Ej) (hj:EL A j j j≠0):∀ k,j<k->EL (Ve c i j A) k=EL A k:=by
 intro k hk;obtain⟨m,rfl⟩:∃ m,k=j+1+m:=⟨k - (j+1),by omega⟩;clear hk;induction m with
 | zero =>
  have hji':j≠i:=by omega
  have hv:=Gb _ hj;funext p q;show EL (Ve c i j A) (j+1) p q=EL A (j+1) p q;rw[Cn,Ug hji A j AO,Fq hji' hji',Cn];generalize (EL A j j j)⁻¹=v at *
  by_cases hp:p=i <;> by_cases hq:q=i
  ·subst hp;subst hq;rw[Yb,KJ hji',Me hji'];grind
  ·subst hp;rw[KJ hq,KJ hji',Fq hji' hq];grind
  ·subst hq;rw[Me hp,Me hji',Fq hp hji'];grind
  ·rw[Fq hp hq,Fq hp hji',Fq hji' hq]
 | succ m ih =>
  funext p q;show EL (Ve c i j A) (j+1+m+1) p q=EL A (j+1+m+1) p q;rw[Cn,Cn,ih]
theorem A6L {c:Rat}{i j:Nat}(hji:j<i) (A:Nat->Ej) (hj:EL A j j j≠0) (k:Nat):EL (Ve c i j A) k k k=EL A k k k:=by
 by_cases hk:k<=j
 ·rw[Ug hji A k hk,Fq oo oo]
 ·rw[ZM hji A hj k oo]
theorem Jg {c:Rat}{i j:Nat}(hji:j<i) (A:Nat->Ej) (hj:EL A j j j≠0):∀ k,dd (Ve c i j A) k=dd A k:=by
 intro k;induction k with
 | zero=>rfl
 | succ k ih =>
  show dd _ k * EL _ k k k=dd A k * EL A k k k;rw[ih,A6L hji A hj]
theorem A2p {c:Rat}{i j:Nat}(hji:j<i) (A:Nat->Ej) (hj:EL A j j j≠0) {p q:Nat}(hq:q<p) (h:p≠i\/j<q):BB (Ve c i j A) q p q=BB A q p q:=by
 unfold BB;rw[Jg hji A hj];by_cases hk:j<q
 ·rw[ZM hji A hj q hk]
 ·have hp:p≠i:=h.elim id (fun h=>absurd h hk);rw[Ug hji A q oo,Fq hp oo]
theorem A1l {c:Rat}{i j:Nat}(hji:j<i) (A:Nat->Ej) (hj:EL A j j j≠0):BB (Ve c i j A) j i j=BB A j i j+c * dd A (j+1):=by unfold BB;rw[Jg hji A hj,Ug hji A j AO,KJ oo];show _=_+c * (dd A j * EL A j j j);grind
def sw (m p:Nat):Nat:=if p=m then m+1 else if p=m+1 then m else p
theorem A52 (m:Nat):sw m m=m+1:=if_pos rfl
theorem A85 (m:Nat):sw m (m+1)=m:=by unfold sw;rw[if_neg oo,if_pos rfl]
theorem A6M {m p:Nat}(h:p≠m) (h1:p≠m+1):sw m p=p:=by unfold sw;rw[if_neg h,if_neg h1]
def PF (m:Nat) (X:Nat->Ej):Nat->Ej:=fun p q=>X (sw m p) (sw m q)
theorem Yd (m:Nat) (A:Nat->Ej):∀ k,k<=m->EL (PF m A) k=PF m (EL A k):=by
 intro k;induction k with
 | zero=>intro _;rfl
 | succ k ih =>
  intro hk;have e:=ih oo;have hs:sw m k=k:=A6M oo oo;funext p q;rw[Cn,e];unfold PF;rw[hs,Cn]
theorem Vf (m:Nat) (A:Nat->Ej):∀ k,k<=m->dd (PF m A) k=dd A k:=by
 intro k;induction k with
 | zero=>intro _;rfl
 | succ k ih =>
  intro hk;show dd _ k * EL _ k k k=dd A k * EL A k k k;rw[ih oo,Yd m A k oo];unfold PF;rw[A6M oo oo]
theorem A86 (m:Nat) (A:Nat->Ej):EL (PF m A) m m m=EL A m (m+1) (m+1):=by rw[Yd m A m AO];unfold PF;rw[A52]
theorem X4 (m:Nat) (A:Nat->Ej):dd (PF m A) (m+1)=dd A m * EL A m (m+1) (m+1):=by show dd _ m * EL _ m m m=_;rw[Vf m A m AO,A86]
theorem A6N (m:Nat) (A:Nat->Ej) (ha:EL A m m m≠0) (hc:EL A m (m+1) (m+1)≠0) (hP:EL A (m+1) (m+1) (m+1)≠0) :
  EL (PF m A) (m+1) (m+1) (m+1) * EL A m (m+1) (m+1)=EL A m m m * EL A (m+1) (m+1) (m+1)/\∀ p q,m+2<=p->m+2<=q->EL (PF m A) (m+2) p q=EL A (m+2) p q:=by
 have hX:=Yd m A m AO;have hv:=Gb _ ha;have hw:=Gb _ hc;have e1:EL (PF m A) (m+1) (m+1) (m+1)=EL A m m m - EL A m m (m+1) * EL A m (m+1) m * (EL A m (m+1) (m+1))⁻¹:=by rw[Cn,hX];unfold PF;rw[A52,A85]
 have e2:EL A (m+1) (m+1) (m+1)=EL A m (m+1) (m+1) - EL A m (m+1) m * EL A m m (m+1) * (EL A m m m)⁻¹:=Cn A m _ _;have e3:EL (PF m A) (m+1) (m+1) (m+1) * EL A m (m+1) (m+1)=EL A m m m * EL A (m+1) (m+1) (m+1):=by
  rw[e1,e2];generalize (EL A m m m)⁻¹=v at *
  generalize (EL A m (m+1) (m+1))⁻¹=u at *
  grind
 refine⟨e3,fun p q hp hq=>?_⟩;have hP':EL (PF m A) (m+1) (m+1) (m+1)≠0:=by
  intro e;rw[e,Rat.zero_mul]at e3;rcases Rat.mul_eq_zero.1 e3.symm with h | h
  ·exact ha h
  ·exact hP h
 have hu:=Gb _ hP;have hu':=Gb _ hP';rw[Cn (PF m A) (m+1),Cn A (m+1)];have sp:sw m p=p:=A6M oo oo;have sq:sw m q=q:=A6M oo oo;have f1:EL (PF m A) (m+1) p q=EL A m p q - EL A m p (m+1) * EL A m (m+1) q * (EL A m (m+1) (m+1))⁻¹:=by rw[Cn,hX];unfold PF;rw[A52,sp,sq]
 have f2:EL (PF m A) (m+1) p (m+1)=EL A m p m - EL A m p (m+1) * EL A m (m+1) m * (EL A m (m+1) (m+1))⁻¹:=by rw[Cn,hX];unfold PF;rw[A52,A85,sp]
 have f3:EL (PF m A) (m+1) (m+1) q=EL A m m q - EL A m m (m+1) * EL A m (m+1) q * (EL A m (m+1) (m+1))⁻¹:=by rw[Cn,hX];unfold PF;rw[A52,A85,sq]
 rw[f1,f2,f3,Cn A m p q,Cn A m p (m+1),Cn A m (m+1) q];generalize (EL (PF m A) (m+1) (m+1) (m+1))⁻¹=u' at *
 generalize (EL A (m+1) (m+1) (m+1))⁻¹=u at *
 generalize EL (PF m A) (m+1) (m+1) (m+1)=P' at *
 generalize EL A (m+1) (m+1) (m+1)=P at *
 generalize (EL A m m m)⁻¹=v at *
 generalize (EL A m (m+1) (m+1))⁻¹=z at *
 generalize EL A m m m=a at *
 generalize EL A m (m+1) (m+1)=c at *
 generalize EL A m m (m+1)=b at *
 generalize EL A m (m+1) m=b' at *
 generalize EL A m p q=x at *
 generalize EL A m p m=pm at *
 generalize EL A m p (m+1)=pi at *
 generalize EL A m m q=mq at *
 generalize EL A m (m+1) q=iq at *
 have g1:v * P'=z * P:=by
  have h1:v * P'=v * z * (P' * c):=by grind
  have h2:z * P=v * z * (a * P):=by grind
  rw[h1,h2,e3]
 have g2:v * u=z * u':=by
  have h1:v * u=v * P' * (u * u'):=by grind
  have h2:z * u'=z * P * (u * u'):=by grind
  rw[h1,h2,g1]
 have k1:u=z+b * b' * z * (z * u'):=by
  rw[<- g2];have:b * b' * z=a - P':=by grind
  rw[this];have h3:P' * (v * u)=z:=by rw[g2];grind
  grind
 have k2:u'=v+b * b' * v * (v * u):=by
  rw[g2];have:b * b' * v=c - P:=by grind
  rw[this];have h3:P * (z * u')=v:=by rw[<- g2];grind
  grind
 have l1:(pi - pm * b * v) * (iq - b' * mq * v) * u=pi * iq * u - pi * b' * mq * (v * u) - pm * b * iq * (v * u)+pm * mq * (b * b' * v * (v * u)):=by grind
 have l2:(pm - pi * b' * z) * (mq - b * iq * z) * u'=pm * mq * u' - pm * b * iq * (z * u') - pi * b' * mq * (z * u')+pi * iq * (b * b' * z * (z * u')):=by grind
 rw[l1,l2,g2];have m1:pi * iq * u=pi * iq * z+pi * iq * (b * b' * z * (z * u')):=by rw[<- Q1,<- k1]
 have m2:pm * mq * u'=pm * mq * v+pm * mq * (b * b' * v * (v * u)):=by rw[<- Q1,<- k2]
 rw[g2]at m2;rw[m1,m2];grind
theorem A1m (m:Nat) (A:Nat->Ej) (ha:EL A m m m≠0) (hc:EL A m (m+1) (m+1)≠0) (hP:EL A (m+1) (m+1) (m+1)≠0):∀ k,m+2<=k->dd (PF m A) k=dd A k:=by
 obtain⟨h1,h2⟩:=A6N m A ha hc hP;have hE:∀ t p q,m+2+t<=p->m+2+t<=q->EL (PF m A) (m+2+t) p q=EL A (m+2+t) p q:=by
  intro t;induction t with
  | zero=>intro p q hp hq;exact h2 p q hp hq
  | succ t ih =>
   intro p q hp hq;show EL (PF m A) (m+2+t+1) p q=EL A (m+2+t+1) p q;rw[Cn,Cn,ih p q oo oo,ih p _ oo oo,ih _ q oo oo,ih _ _ oo oo]
 intro k hk;obtain⟨t,rfl⟩:∃ t,k=m+2+t:=⟨k - (m+2),by omega⟩;clear hk;induction t with
 | zero =>
  show dd (PF m A) (m+1) * EL (PF m A) (m+1) (m+1) (m+1)=dd A m * EL A m m m * EL A (m+1) (m+1) (m+1);rw[X4,NZ,Rat.mul_comm (EL A m (m+1) (m+1)),h1];grind
 | succ t ih =>
  show dd (PF m A) (m+2+t) * EL (PF m A) (m+2+t) (m+2+t) (m+2+t)=dd A (m+2+t) * EL A (m+2+t) (m+2+t) (m+2+t);rw[ih,hE t _ _ AO AO]
end Go.Qf
namespace Go.Qf
theorem A53 (A:Nat->Ej) {ρ σ:Nat->Nat}:∀ (k:Nat),(∀ x,x<k->ρ x=x)->(∀ x,x<k->σ x=x)->∀ a b,EL (fun a b=>A (ρ a) (σ b)) k a b=EL A k (ρ a) (σ b):=by
 intro k;induction k with
 | zero=>intro _ _ a b;rfl
 | succ k ih =>
  intro c d a b;have h:=ih (fun x e=>c x oo) (fun x e=>d x oo);rw[Uf,Uf,h,h,h,h,c k oo,d k oo]
theorem A54 (A:Nat->Ej) {ρ σ:Nat->Nat}:∀ (k:Nat),(∀ x,x<k->ρ x=x)->(∀ x,x<k->σ x=x)->dd (fun a b=>A (ρ a) (σ b)) k=dd A k:=by
 intro k;induction k with
 | zero=>intro _ _;rfl
 | succ k ih =>
  intro d e;rw[<- Fv,<- Fv];unfold BB;rw[ih (fun x c=>d x oo) (fun x c=>e x oo),A53 A k (fun x c=>d x oo) (fun x c=>e x oo),d k oo,e k oo]
theorem A3x (A:Nat->Ej) {ρ σ:Nat->Nat}(k:Nat) (c:∀ x,x<k->ρ x=x) (d:∀ x,x<k->σ x=x):dd (fun a b=>A (ρ a) (σ b)) (k+1)=BB A k (ρ k) (σ k):=by rw[<- Fv];unfold BB;rw[A54 A k c d,A53 A k c d]
end Go.Qf
namespace Go.Qf
open Go Go.RowKit Go.Proofs Go.Proofs.Tryz
variable {n base i b k c j m:Nat}{f:Nat->Nat->Int}{w':World}{us:List Value}
theorem A1n (a b:Int):decide (HK a b<=0)=decide (a<=b):=by rw[decide_eq_decide];unfold HK;split <;> (try split) <;> omega
theorem A87 (a b:Int):decide (HK a b>=0)=decide (b<=a):=by rw[decide_eq_decide];unfold HK;split <;> (try split) <;> omega
theorem A88 (a b:Int):(HK a b != 0)=decide (a≠b):=by
 have:(HK a b != 0)=decide (HK a b≠0):=by by_cases h:HK a b=0 <;> simp[h]
 rw[this,decide_eq_decide];unfold HK;split <;> (try split) <;> omega
theorem A6O (a:Int):decide (AH a<=0)=decide (a<=0):=by rw[decide_eq_decide];unfold AH;split <;> (try split) <;> omega
def JE (w:World) (b o c:Nat) (g:Nat->Int):Prop:=∃ e C,Aj e w b C/\∀ j,j<c->∃ u,Ao 0 w u (g j)/\(C.drop (o+2 * j)).take 2=u.cells.toList/\o+2 * j+2<=C.length
def LC (w:World) (v:Value) (c:Nat) (g:Nat->Int):Prop:=∃ b o cp,v=.slice (some ⟨b,o,none⟩) c cp/\c<=cp/\JE w b o c g
theorem JE.ext {w:World}{o:Nat}{g:Nat->Int}(h:JE w b o c g) (d:Ac w w'):JE w' b o c g:=by obtain⟨e,C,m,r⟩:=h;refine⟨e,C,m.ext d,fun j v=>?_⟩;obtain⟨u,q,k,l⟩:=r j v;exact⟨u,q.ext d,k,l⟩
theorem LC.ext {w:World}{v:Value}{g:Nat->Int}(h:LC w v c g) (j:Ac w w'):LC w' v c g:=by obtain⟨b,o,cp,hv,d,e⟩:=h;exact⟨b,o,cp,hv,d,e.ext j⟩
theorem JE.rp {w:World}{o:Nat}{g:Nat->Int}(h:JE w b o c g) (v:∀ j,j<c->sz (g j)<=1000000):Nk w b o c g:=by obtain⟨e,C,m,r⟩:=h;refine⟨e,C,m,fun j d=>?_⟩;obtain⟨u,q,k,l⟩:=r j d;exact⟨u,q.dn (v j d),k,l⟩
theorem Aq.lc {w:World}{v:Value}{g:Nat->Int}(h:Aq 2 37 base w v us) (d:us.length=c) (q:1<=c) (hu:∀ (j:Nat) (u:Value),us[j]?=some u->Ao 0 w u (g j)):LC w v c g:=by
 obtain⟨b,cp,D,hv,_,l,m,o,_⟩:=h.open (by intro e;rw[e]at d;simp at d;omega);refine⟨b,0,cp,by rw[hv,d],by omega,_,_,l,fun j r=>?_⟩;have k:us[j]?=some (us[j]'oo):=by simp
 refine⟨_,hu j _ k,?_,?_⟩
 ·rw[AE];exact Ni us D j _ (fun v hv=>(h.1 v hv).1) k
 ·rw[Bf,h.1.flat,d];omega
theorem QA {x:Nat}(h:x<k):PA k m x=x:=if_pos h
theorem A1o (k m:Nat):PA k m k=m:=if_neg oo
theorem CN {x:Nat}(c:k<=n) (d:m<n) (e:x<k+1):PA k m x<n:=by unfold PA;split <;> omega
def Tn (f:Nat->Nat->Int) (k i j:Nat):Nat->Nat->Int:=fun a b=>f (PA k i a) (PA k j b)
theorem A1p (h:Gd (k+1) f):Gd (k+1) (Tn f k i j):=by intro m c d;have:dd (RA (Tn f k i j)) m=dd (RA f) m:=A54 (RA f) (ρ:=PA k i) (σ:=PA k j) m (fun x e=>QA oo) (fun x e=>QA oo);rw[this];exact h m c d
theorem Ye (f:Nat->Nat->Int) (k i j:Nat):dd (RA (Tn f k i j)) (k+1)=BB (RA f) k i j:=by have:=A3x (RA f) (ρ:=PA k i) (σ:=PA k j) k (fun x c=>QA c) (fun x c=>QA c);rw[A1o,A1o]at this;exact this
theorem HB {w:World}{v:Value}{s:Nat}(h:MI w v (mk n n f)) (l:1<=n/\n<=16) (T:∀ a b,a<n->b<n->sz (f a b)<=s) (U:1<=s) (z:2 ^ n * (s+1)<=100000) :
  Calls prog 125 #[v] w (AJ fun x w'=>Ac w w'/\∃ (u:Value) (dl:Nat->Int),x=.tuple #[u,.bool true]/\LC w' u n dl/\(∀ k,k<n->sz (dl k)<=2 ^ n * (s+1))/\∀ k,k<n->Gd (k+1) f->(dl k:Rat)=dd (RA f) (k+1)):=by
 refine cS func125 ntmps125 ?_;refine A7 ?_;refine .s (oK OM (SD h l l)) ?_;rintro _ w1 ⟨F,rfl⟩;rw[if_pos rfl];refine A7 ?_;refine .cf ?_;refine St.dB A8 (7) (0) (n) oo (fun g:Value=>[(0,v),(4,.int .i64 n),(6,g)]) (fun k g w'=>Ac w w'/\∃ (us:List Value) (dl:Nat->Int),Aq 2 37 w.heap.size w' g us/\us.length=k/\(∀ (j:Nat) (u:Value),us[j]?=some u->Ao 0 w' u (dl j))/\(∀ j,j<k->sz (dl j)<=2 ^ n * (s+1))/\∀ j,j<k->Gd (j+1) f->(dl j:Rat)=dd (RA f) (j+1)) (.slice none 0 0) AL ?_ (fun _ _=>⟨rfl,rfl⟩) (fun _ _=>rfl) (fun _ _=>⟨rfl,rfl⟩) (fun _=>rfl) (fun _=>rfl) oo ?_ ?_
 ·exact⟨F,[],fun _=>0,Aq.nil,rfl,fun j u hu=>by simp at hu,fun j c=>by omega,fun j c=>by omega⟩
 ·clear F;rintro k g w2 o ⟨m,us,dl,y,A,B,i,t⟩;refine A7 ?_;refine .s (Av.call EV rfl (GG (base:=0) w2 k k oo oo BI)) ?_;rintro u1 w3 ⟨W,I⟩;refine .r rfl ?_;refine .s (Av.call EV rfl (GG (base:=0) w3 k k oo oo BI)) ?_;rintro u2 w4 ⟨H,J⟩;have G:=W.trans H;have V:=m.trans G;refine .s (Av.call Fe rfl (GU (h.ext V) l l ((I.ext H).row (Fa _ _)) (J.row (Fa _ _)) oo oo (fun x C=>CN oo o C) (fun x C=>CN oo o C))) ?_;rintro u3 w5 ⟨X,M⟩;have P:=ZL (k:=k+1) (n:=n) oo z;have hc:2 ^ (k+1) * (s+1)<=2 ^ n * (s+1):=Bm _ (DB oo oo);refine .s (Av.call Ca rfl (CH (f:=Tn f k k k) M ⟨by omega,by omega⟩ (s:=s) (fun a b O z=>T _ _ (CN oo o O) (CN oo o z)) U P)) ?_;rintro Z w6 ⟨Y,d,D,he,R⟩;have q:=(G.trans X).trans Y;have K:=y.ext q;refine Af.aZ K D.cel rfl rfl rfl rfl rfl rfl (fun _=>rfl) rfl rfl oo rfl (m.trans q).size ?_;intro p v' w7 L N hB hf Q;refine A7 ?_;have keep:∀ (u:Value) (a:Int),Ao 0 w6 u a->Ao 0 w7 u a:=fun u a=>Q de 0 u a;refine Ad.aO v' AL ⟨N w (m.trans q) AO,us++[Z],fun j=>if j=k then d else dl j,L,by simp;omega,?_,?_,?_⟩
  ·intro j u hu;dsimp only;by_cases c:j<us.length
   ·rw[BM c]at hu;rw[if_neg oo];exact keep _ _ ((B j u hu).ext q)
   ·have S:j=us.length:=by have:=(Au.1 hu).1;simp at this;omega
    subst S;simp at hu;subst hu;rw[if_pos A];exact keep _ _ D
  ·intro j c;dsimp only;by_cases e:j=k
   ·rw[if_pos e];omega
   ·rw[if_neg e];exact i j oo
  ·intro j c E;dsimp only;by_cases e:j=k
   ·subst e;rw[if_pos rfl,R (A1p E),Ye,Fv]
   ·rw[if_neg e];exact t j oo E
 ·rintro g w2 ⟨m,us,dl,y,A,B,i,t⟩;refine A7 ?_;exact Ad.aC A8 [_,_] rfl ⟨rfl,rfl,trivial⟩ ⟨m,g,dl,rfl,y.lc A l.1 B,i,t⟩
def A89 (n:Nat) (f:Nat->Nat->Int):Prop:=∀ i j,i<n->j<n->f i j=f j i
theorem Nn {w:World}{v:Value}(h:MI w v (mk n n f)) (p:1<=n/\n<=16) :
  Calls prog 144 #[v] w (AJ fun x w'=>Ac w w'/\∃ b,x=.bool b/\(b=true↔A89 n f)):=by
 obtain⟨a,cap,rfl,u⟩:=h.mp p.1 p.1;refine cS func144 ntmps144 ?_;refine A7 ?_;refine H6 (7) (0) (n) [(0,.slice (some a) n cap),(6,.int .i64 n)] (fun i w'=>Ac w w'/\∀ x y,x<i->y<x->f x y=f y x) ?_ ?_ ?_
 ·exact⟨Ac.refl _,fun x y r=>by omega⟩
 ·rintro i w1 m ⟨c,l⟩;refine A7 ?_;refine St.ef A8 (4) (0) (i) oo [(7,.int .i64 i),(0,.slice (some a) n cap),(6,.int .i64 n),(3,.int .i64 i)] (fun j w'=>Ac w w'/\∀ y,y<j->f i y=f y i) AL ?_ (fun _=>⟨rfl,rfl⟩) (fun _=>rfl) (fun _=>⟨rfl,rfl⟩) rfl rfl oo ?_ ?_
  ·exact⟨c,fun y g=>by omega⟩
  ·clear c;rintro j w1 O ⟨c,o⟩;obtain⟨b1,o1,M,D,e1,C1,B,F⟩:=(u.ext c) i m;obtain⟨y1,z,k11,k12⟩:=F j oo;obtain⟨b3,P,N,E,e3,L,C,G⟩:=(u.ext c) j oo;obtain⟨Q,t,J,K⟩:=G i m;refine Nv ?_;refine St.sub (E':=[(4,.int .i64 j),(7,.int .i64 i),(0,.slice (some a) n cap),(6,.int .i64 n),(3,.int .i64 i)]) ?_ AL;refine sF 14 ?_;refine .q ?_;refine .on (fun _ _=>A0.ia) ?_;refine .on (fun _ d=>rL (d.aq.cell D)) ?_;refine .q ?_;refine .on (fun _ _=>A0.aQ rfl rfl rfl oo) ?_;refine .on (fun _ d=>A0.aH rfl (d.blk B sm) k11 k12 z.r2) ?_;refine .q ?_;refine .on (fun _ _=>A0.ia) ?_;refine .on (fun _ d=>rL (d.aq.cell E)) ?_;refine .q ?_;refine .on (fun _ _=>A0.aQ rfl rfl rfl oo) ?_;refine .on (fun _ d=>A0.aH rfl (d.blk C sm) J K t.r2) ?_;refine FL.aG rfl ?_;intro w2 k _ _;refine .s (oK Gz (Ma (z.ext k) (t.ext k))) ?_;rintro _ w3 ⟨I,rfl⟩;refine .a 1 (.bool (decide (f i j≠f j i))) rfl (by rw[A88]) ?_;refine Nv ?_;have A:=(c.trans k).trans I;by_cases e:f i j=f j i
   ·refine St.ay rfl (decide_eq_false (by simpa using e)) ?_;refine Nv ?_;refine Ad.rnd AL ⟨A,fun y g=>?_⟩;by_cases e2:y=j
    ·rw[e2];exact e
    ·exact o y oo
   ·refine St.aD rfl (decide_eq_true e) ?_;refine A7 ?_;exact Ad.ax rfl rfl ⟨A,false,rfl,by simp;exact fun H=>e (H i j m oo)⟩
  ·rintro w2 ⟨k,o⟩;refine Nv ?_;refine Ad.rnd AL ⟨k,fun x y r g=>?_⟩;by_cases e:x=i
   ·subst e;exact o y g
   ·exact l x y oo g
 ·rintro w1 ⟨c,l⟩;refine A7 ?_;refine Ad.ax rfl rfl ⟨c,true,rfl,⟨fun _ x y r g=>?_,fun _=>rfl⟩⟩;rcases LH x y with hlt | rfl | hlt
  ·exact (l y x g hlt).symm
  ·rfl
  ·exact l x y r hlt
def PD (n:Nat) (f:Nat->Nat->Int):Prop:=∀ m,1<=m->m<=n->0<dd (RA f) m
theorem PD.gd (h:PD n f) (g:k<=n+1):Gd k f:=fun m c d e=>by have:=h m c oo;rw[e]at this;exact absurd this de
theorem Wv {w:World}{v:Value}{s:Nat}(h:MI w v (mk n n f)) (z:1<=n/\n<=16) (R:∀ a b,a<n->b<n->sz (f a b)<=s) (S:1<=s) (J:2 ^ n * (s+1)<=100000) (T:A89 n f) :
  Calls prog 145 #[v] w (AJ fun x w'=>Ac w w'/\∃ b,x=.bool b/\(b=true↔PD n f)):=by
 refine cS func145 ntmps145 ?_;refine A7 ?_;refine .s (oK FK (HB h z R S J)) ?_;rintro _ w1 ⟨t,u,dl,rfl,I,U,L⟩;refine .r rfl ?_;refine Nv ?_;refine .r rfl ?_;refine .s (oK KW (Nn (h.ext t) z)) ?_;rintro _ w2 ⟨A,b,rfl,K⟩;obtain rfl:=K.2 T;refine A7 ?_;refine .cF ?_;obtain⟨b0,o0,F,rfl,W,k⟩:=I;replace k:=(k.rp (fun j O=>by have:=U j O;omega)).ext A;refine A7 ?_;refine H6 (21) (0) (n) [(19,.slice (some ⟨b0,o0,none⟩) n F),(20,.int .i64 n)] (fun i w'=>Ac w w'/\Ac w2 w'/\∀ m,m<i->0<dd (RA f) (m+1)) ?_ ?_ ?_
 ·exact⟨t.trans A,Ac.refl _,fun m P=>by omega⟩
 ·rintro i w3 q ⟨g,B,c⟩;have N:Gd (i+1) f:=fun m G H e=>by have:=c (m - 1) oo;rw[show m - 1+1=m by omega,e]at this;exact absurd this de
  have o:=L i q N;obtain⟨e,C,hB,M⟩:=k.ext B;obtain⟨y,d,k1,k2⟩:=M i q;refine Nv ?_;refine .p (A0.aQ rfl rfl rfl oo) ?_;refine .p (A0.aH rfl hB k1 k2 d.r2) ?_;refine Af.cn rfl (fun _=>rfl) d.r2 ?_;intro X D E;refine Nv ?_;refine .p (rI E d.r2) ?_;refine .s (oK Dd (EZ (d.ext D))) ?_;rintro _ Y ⟨V,rfl⟩;refine .a 1 (.bool (decide (dl i<=0))) rfl (by rw[A6O]) ?_;refine Nv ?_;have l:=D.trans V;by_cases e:dl i<=0
  ·refine St.aD rfl (decide_eq_true e) ?_;refine A7 ?_;refine Ad.ax rfl rfl ⟨g.trans l,false,rfl,⟨fun h=>(by cases h),fun Q=>?_⟩⟩;exfalso;have:=Q (i+1) oo oo;rw[<- o]at this;have:0<dl i:=by exact_mod_cast this
   omega
  ·refine St.ay rfl (decide_eq_false e) ?_;refine Nv ?_;refine Ad.rnd AL ⟨g.trans l,B.trans l,fun m P=>?_⟩;by_cases e2:m=i
   ·subst e2;rw[<- o];have:0<dl m:=by omega
    exact_mod_cast this
   ·exact c m oo
 ·rintro w3 ⟨g,_,c⟩;refine A7 ?_;refine Ad.ax rfl rfl ⟨g,true,rfl,⟨fun _ m G H=>?_,fun _=>rfl⟩⟩;have:=c (m - 1) oo;rw[show m - 1+1=m by omega]at this;exact this
def A1q (n:Nat) (f:Nat->Nat->Int):Prop:=A89 n f/\PD n f
theorem KK {w:World}{v:Value}{r s:Nat}(h:MI w v (mk r c f)) (k:1<=r/\r<=16) (u:1<=c/\c<=16) (y:∀ a b,a<r->b<c->sz (f a b)<=s) (z:1<=s) (o:256 * (s+1)<=100000) :
  Calls prog 97 #[v] w (AJ fun x w'=>Ac w w'/\∃ e:Int,x=.int .i64 e/\(e=0↔(r=c/\r<=8/\A1q r f))):=by
 refine cS func97 ntmps97 ?_;refine A7 ?_;refine .s (oK OM (SD h k u)) ?_;rintro _ w1 ⟨d,rfl⟩;by_cases e:r=c
 ·subst e;rw[if_pos rfl];refine .r rfl ?_;refine Nv ?_;by_cases t:8<r
  ·refine .a 5 (.bool true) rfl (Aa oo) ?_;refine A7 ?_;refine .ct ?_;exact Ad.ax rfl rfl ⟨d,3,rfl,⟨fun h=>oo,fun h=>oo⟩⟩
  refine .a 5 (.bool false) rfl (A9 oo) ?_;have q:2 ^ r * (s+1)<=100000:=Ar (Bm _ (DB oo (show r<=8 by omega))) o;refine A7 ?_;refine .cf ?_;refine .s (oK KW (Nn (h.ext d) k)) ?_;rintro _ w2 ⟨j,b,rfl,g⟩;cases b
  ·refine A7 ?_;refine .ct ?_;exact Ad.ax rfl rfl ⟨d.trans j,4,rfl,⟨fun h=>oo,fun h=>(by have:=g.2 h.2.2.1;cases this)⟩⟩
  have l:=g.1 rfl;refine A7 ?_;refine .cf ?_;refine .s (oK Tc (Wv (h.ext (d.trans j)) k y z q l)) ?_;rintro _ w3 ⟨m,b,rfl,g⟩;cases b
  ·refine A7 ?_;refine .ct ?_;exact Ad.ax rfl rfl ⟨(d.trans j).trans m,5,rfl,⟨fun h=>oo,fun h=>(by have:=g.2 h.2.2.2;cases this)⟩⟩
  refine A7 ?_;refine .cf ?_;exact Ad.ax rfl rfl ⟨(d.trans j).trans m,0,rfl,⟨fun _=>⟨rfl,by omega,l,g.1 rfl⟩,fun _=>rfl⟩⟩
 ·rw[if_neg e];refine A7 ?_;refine .ct ?_;exact Ad.ax rfl rfl ⟨d,3,rfl,⟨fun h=>oo,fun h=>absurd h.1 e⟩⟩
def A92 (s:List Nat):Bool:=decide (s.head?=some 45)
def body (s:List Nat):List Nat:=if s.head?=some 45 then s.tail else s
def A55 (b:Nat):Prop:=48<=b/\b<=57
def A8a (s:List Nat):Prop:=s≠[]/\(∀ b ∈ s,A55 b)/\¬ (2<=s.length/\s.head?=some 48)
instance (b:Nat):Decidable (A55 b):=by unfold A55;infer_instance
instance (s:List Nat):Decidable (A8a s):=by unfold A8a;infer_instance
theorem Af.skipU {P:Program}{n:Nat}{E:List (Nat×Value)}{w:World}{Q:Exit->Act->World->Prop}{ops:Array Oper}{rest:List Oper}{o:Oper}{d j e:Nat}{want:Bool}(k:o.dst=some d) (m:o.guard=some (j,want)) (q:(ops[j]?).bind (·.dst)=some e) (hu:AR E e=some undef) (r:Nat.blt d n=true)
  (next:Af P n ((d,undef)::E) w ops rest Q):Af P n E w ops (o::rest) Q:=by
 intro a c;refine wpList_step fun K g=>?_;have u:=c.slots e undef hu;have l:Region.wanted o (yielded ops a.tmps)=false:=by unfold Region.wanted;rw[m];simp[yielded,q,u,undef]
 rw[if_neg (by rw[l];simp)];exact g _ _ (next _ (by rw[k];exact c.put r undef))
def A93 (s:List Nat):Prop:=A8a (body s)/\¬ (A92 s=true/\body s=[48])
instance (s:List Nat):Decidable (A93 s):=by unfold A93;infer_instance
theorem A56 (n k:Nat) (h:n<4294967296 ^ k):(A4A n).length<=11 * k+1:=by
 unfold A4A;split
 ·simp
 ·rw[List.length_reverse];exact Qv h
def pos:List Nat->Option Nat
 | []=>none
 | b::l=>if b=47 then some 0 else (pos l).map (·+1)
theorem A3y (a b:Int):(HK a b=0)=(a=b):=by
 apply propext;unfold HK;constructor
 ·intro h;split at h
  ·omega
  ·split at h <;> omega
 ·intro h;split
  ·omega
  ·split <;> omega
def A6P (q:Rat):List Nat:=if q.den=1 then Wr q.num else Wr q.num++47::Wr (q.den:Int)
theorem ZN (a:Int):(Wr a).length<=11 * sz a+2:=by
 have c:=A56 a.natAbs (sz a) (by have:=Fm (Ae a.natAbs) (KQ _);rw[Al]at this;exact this);unfold Wr;split
 ·simp;omega
 ·omega
theorem JF {w:World}{x:Value}{q:Rat}(h:Pv w x q) :
  Calls prog 18 #[x] w (AJ fun r w'=>Ac w w'/\r=MG (A6P q)):=by
 have o:=h.rz;have b:=Ez q;have a:=EG q;have u:=ZN q.num;have y:=ZN (q.den:Int);refine cS func18 ntmps18 ?_;refine Nv ?_;refine .s (oB) ?_;rintro _ w1 ⟨rfl,B1,c,t⟩;replace h:=h.ext c;refine A7 ?_;refine .p (rR (B1) (h.1)) ?_;refine .s (oK Cl (Ea (base:=0) h BI)) ?_;rintro v w3 ⟨m,hv⟩;replace c:=c.trans m;clear m;refine Af.bn rfl rfl (fun _=>rfl) hv.1 ?_;intro b5 f z k B5;replace hv:=hv.ext k;replace c:=c.trans k;clear k;refine A7 ?_;refine .p (rR (B5) (hv.1)) ?_;refine .s (oK OA (Wu (hv.dn o))) ?_;rintro _ i ⟨g,rfl⟩;replace B5:=B5.ext g;replace hv:=hv.ext g;replace c:=c.trans g;clear g;unfold A6P;by_cases e:q.den=1
 ·rw[decide_eq_true e,if_pos e];refine A7 ?_;refine .ct ?_;refine .p (A0.bg rfl (B5) (hv.1)) ?_;refine .s (oK Hu (RG (hv.2.1.dn oo))) ?_;rintro _ l ⟨d,rfl⟩;refine A7 ?_;exact Ad.ax rfl rfl ⟨c.trans d,rfl⟩
 ·rw[decide_eq_false e,if_neg e];refine A7 ?_;refine .cF ?_;refine Nv ?_;refine St.sub (E':=[(3,.pointer (some ⟨b5,0,none⟩))]) ?_ ⟨rfl,trivial⟩;refine sF 7 ?_;refine .q ?_;refine .on (fun _ j=>A0.bg rfl (j.blk (B5) sm) (hv.1)) ?_;refine FL.aY Hu rfl rfl rfl (fun l d=>cM (RG ((hv.2.1.ext d).dn oo))) ?_;refine .on (fun _ _=>A0.dR (bs:=[47]) rfl rfl (by simp;omega)) ?_;refine .q ?_;refine .on (fun _ j=>A0.aX rfl (j.blk (B5) sm) (hv.1)) ?_;refine FL.aY Hu rfl rfl rfl (fun l d=>cM (RG ((hv.2.2.ext d).dn oo))) ?_;refine FL.aG rfl ?_;intro l d _ _;refine .p (A0.dR rfl rfl (by simp;omega)) ?_;refine A7 ?_;refine uR ⟨c.trans d,?_⟩;rw[EO];rfl
theorem A3q.rg {base:Nat}{T:Nat->Prop}{w w':World}{r:Value}{a b:Int}(h:A3q base w r a b) (d:Rg prog T w w'):A3q base w' r a b :=
 ⟨h.1,fun c=>by obtain⟨v,e,hv⟩:=h.2 c;exact⟨v,e,hv.rg d⟩⟩
theorem Am.newV (base:Nat) (a b:Int):Am prog (fun v w=>A3q base w v a b):=fun _ _ _ c h=>h.rg c
theorem A1r (p q:Rat):Rat.divInt (p.num * q.den+q.num * p.den) (p.den * q.den)=p+q:=by rw[<- Rat.divInt_add_divInt p.num q.num (Md p) (Md q),LS,LS]
theorem A1s (p q:Rat):Rat.divInt (p.num * q.den) (p.den * q.num)=p / q:=by rw[<- Rat.divInt_mul_divInt,LS,<- Rat.inv_def,DV]
theorem PG {w:World}{x y:Value}{p q:Rat}(h:DnS w x p) (k:DnS w y q) (hp:rz p<=40000) (hq:rz q<=40000) :
  Calls prog 52 #[x,y] w (AJ fun r w'=>Ac w w'/\Bk 0 w' r (p+q)):=by
 have h1:=Ez p;have h2:=EG p;have h3:=Ez q;have h4:=EG q;have m1:=Bt p.num (q.den:Int);have m2:=Bt q.num (p.den:Int);have m3:=Pt (p.num * (q.den:Int)) (q.num * (p.den:Int));have m4:=Bt (p.den:Int) (q.den:Int);refine cS func52 ntmps52 ?_;refine Nv ?_;refine .s (oB) ?_;rintro _ w1 ⟨rfl,B1,C,hb⟩;refine .s (oB) ?_;rintro _ w2 ⟨rfl,B2,i,hc⟩;refine .s (oA) ?_;rintro _ w3 ⟨rfl,B3,z,hd⟩;have m:Ac w w3:=(C.trans i).trans z;replace B1:=(B1.ext i).ext z;replace B2:=B2.ext z;replace h:=h.ext m;replace k:=k.ext m;clear C i z;refine A7 ?_;refine sF 6 ?_;refine .on (fun _ d=>rR (d.blk (B1) sm) (h.1)) ?_;refine FL.au DP rfl rfl rfl (fun D o=>cM (DT (h.ext o))) (Am.bE 0 _) ?_;refine .on (fun _ d=>rR (d.blk (B2) sm) (k.1)) ?_;refine FL.au DP rfl rfl rfl (fun D o=>cM (DT (k.ext o))) (Am.bE 0 _) ?_;refine FL.alloc A8 rfl rfl rfl rfl ?_;refine FL.alloc A8 rfl rfl rfl rfl ?_;refine FL.aG rfl ?_;rintro D o _ ⟨b7,C7,rfl,O,B7,Q⟩ _ ⟨b6,X,rfl,N,A,P⟩ v hv u hu _ B;refine Af.twoR rfl rfl rfl rfl rfl (fun e=>B 5 de 6 de de _ rfl (by rw[e];rfl)) A P B7 Q o N O hu hv ?_;intro W n a b hu hv;replace m:=m.trans n;replace B3:=B3.ext n;clear n o A B7 B;refine Nv ?_;refine St.sub (E':=[(4,.pointer (some ⟨w2.heap.size,0,none⟩)),(5,.pointer (some ⟨b6,0,none⟩)),(6,.pointer (some ⟨b7,0,none⟩))]) ?_ ⟨rfl,rfl,rfl,trivial⟩;refine sF 22 ?_;refine .q ?_;refine .on (fun _ d=>A0.bg rfl (d.blk (a) sm) (hu.1)) ?_;refine .q ?_;refine .on (fun _ d=>A0.aX rfl (d.blk (b) sm) (hv.1)) ?_;refine FL.au BP rfl rfl rfl (fun l g=>cM (Dy (base:=0) ((hu.2.1.ext g).dn oo) ((hv.2.2.ext g).dn oo) BI)) (Am.aF 0 _) ?_;refine .q ?_;refine .on (fun _ d=>A0.bg rfl (d.blk (b) sm) (hv.1)) ?_;refine .q ?_;refine .on (fun _ d=>A0.aX rfl (d.blk (a) sm) (hu.1)) ?_;refine FL.au BP rfl rfl rfl (fun l g=>cM (Dy (base:=0) ((hv.2.1.ext g).dn oo) ((hu.2.2.ext g).dn oo) BI)) (Am.aF 0 _) ?_;refine FL.au FJ rfl rfl rfl (fun l g he G hf H=>cM (Kw (base:=0) (G.dn oo) (H.dn oo) BI)) (Am.aF 0 _) ?_;refine .q ?_;refine .on (fun _ d=>A0.aX rfl (d.blk (a) sm) (hu.1)) ?_;refine .q ?_;refine .on (fun _ d=>A0.aX rfl (d.blk (b) sm) (hv.1)) ?_;refine FL.au BP rfl rfl rfl (fun l g=>cM (Dy (base:=0) ((hu.2.2.ext g).dn oo) ((hv.2.2.ext g).dn oo) BI)) (Am.aF 0 _) ?_;refine FL.au Pf rfl rfl rfl (fun l g hg I hh J=>cM (RO (I.dn oo) (J.dn oo) oo oo)) (Am.newV 0 _ _) ?_;refine FL.fact (L:=[]) (ψ:=fun r w'=>∃ t,r=.tuple #[t,.bool true]/\Bk 0 w' t (p+q)) rfl rfl rfl rfl rfl ?_ (fun _ _ _ d ⟨t,e,j⟩=>⟨t,e,j.rg d⟩) ?_
 ·intro l d r R;obtain⟨t,rfl,j⟩:=R.2 (Int.mul_ne_zero (Md p) (Md q));rw[A1r]at j;exact A0.ext (A0.pure A8 rfl) ⟨t,rfl,j⟩
 refine FL.fact (L:=[]) (ψ:=fun v w'=>Bk 0 w' v (p+q)) rfl rfl rfl rfl rfl ?_ (Am.bE 0 _) ?_
 ·rintro l d r ⟨t,rfl,j⟩;exact A0.ext (A0.pure A8 rfl) j
 refine FL.exact (L:=[]) (c:=.bool true) rfl rfl rfl rfl rfl ?_ ?_
 ·rintro l d r ⟨t,rfl,j⟩;exact A0.ext (ψ:=fun v _=>v=.bool true) (A0.pure A8 rfl) rfl
 refine FL.alloc A8 rfl rfl rfl rfl ?_;refine FL.bP (L:=[]) (base:=W.heap.size) A8 rfl rfl rfl rfl rfl (Am.bE 0 (p+q)) ?_ ?_
 ·intro l d V K U f;exact⟨⟨V,rfl,K⟩,U,rfl,f.1.len,f.1.ones,f⟩
 refine FL.aG rfl ?_;rintro l g _ ⟨Z,Y,rfl,_,_,_⟩ _ _ _ _ _ _ _ _ _ _ _ _ _ _ ⟨⟨ha,t,M,F,j⟩,_⟩ _;cases M;replace B3:=B3.ext g;replace m:=m.trans g;clear g;refine A7 ?_;refine .p (rR (F) (j.1)) ?_;refine Af.aT rfl rfl rfl j.1 B3 rfl m oo ?_;intro hi E S T;refine A7 ?_;exact Ad.bA rfl rfl E j.1 ⟨T,j.upd S B3 de⟩
theorem A1t {w:World}{x y:Value}{p q:Rat}(h:DnS w x p) (k:DnS w y q) (U:rz p<=40000) (V:rz q<=40000) :
  Calls prog 88 #[x,y] w (AJ fun r w'=>Ac w w'/\A90 w' r p q):=by
 have Q:=Ez p;have R:=EG p;have S:=Ez q;have T:=EG q;have m1:=Bt p.num (q.den:Int);have m4:=Bt (p.den:Int) q.num;refine cS func88 ntmps88 ?_;refine Nv ?_;refine .s (oB) ?_;rintro _ w1 ⟨rfl,B1,D,W⟩;refine .s (oB) ?_;rintro _ w2 ⟨rfl,B2,f,X⟩;refine .s (oA) ?_;rintro _ w3 ⟨rfl,B3,a,Y⟩;have l:Ac w w3:=(D.trans f).trans a;replace B1:=(B1.ext f).ext a;replace B2:=B2.ext a;replace h:=h.ext l;replace k:=k.ext l;clear D f a;refine A7 ?_;refine sF 6 ?_;refine .on (fun _ d=>rR (d.blk (B1) sm) (h.1)) ?_;refine FL.au DP rfl rfl rfl (fun E m=>cM (DT (h.ext m))) (Am.bE 0 _) ?_;refine .on (fun _ d=>rR (d.blk (B2) sm) (k.1)) ?_;refine FL.au DP rfl rfl rfl (fun E m=>cM (DT (k.ext m))) (Am.bE 0 _) ?_;refine FL.alloc A8 rfl rfl rfl rfl ?_;refine FL.alloc A8 rfl rfl rfl rfl ?_;refine FL.aG rfl ?_;rintro E m _ ⟨b7,C7,rfl,J,B7,M⟩ _ ⟨b6,P,rfl,I,A,K⟩ v hv u hu _ C;refine Af.twoR rfl rfl rfl rfl rfl (fun e=>C 6 de 7 de de _ rfl (by rw[e];rfl)) A K B7 M m I J hu hv ?_;intro w8 i n B hu hv;replace l:=l.trans i;replace B3:=B3.ext i;clear i m A B7 C;refine Nv ?_;refine St.sub (E':=[(4,.pointer (some ⟨w2.heap.size,0,none⟩)),(6,.pointer (some ⟨b6,0,none⟩)),(7,.pointer (some ⟨b7,0,none⟩))]) ?_ ⟨rfl,rfl,rfl,trivial⟩;refine sF 13 ?_;refine .q ?_;refine .on (fun _ d=>A0.bg rfl (d.blk (n) sm) (hu.1)) ?_;refine .q ?_;refine .on (fun _ d=>A0.aX rfl (d.blk (B) sm) (hv.1)) ?_;refine FL.au BP rfl rfl rfl (fun z g=>cM (Dy (base:=0) ((hu.2.1.ext g).dn oo) ((hv.2.2.ext g).dn oo) BI)) (Am.aF 0 _) ?_;refine .q ?_;refine .on (fun _ d=>A0.aX rfl (d.blk (n) sm) (hu.1)) ?_;refine .q ?_;refine .on (fun _ d=>A0.bg rfl (d.blk (B) sm) (hv.1)) ?_;refine FL.au BP rfl rfl rfl (fun z g=>cM (Dy (base:=0) ((hu.2.2.ext g).dn oo) ((hv.2.1.ext g).dn oo) BI)) (Am.aF 0 _) ?_;refine FL.au Pf rfl rfl rfl (fun z g Z G ha H=>cM (RO (G.dn oo) (H.dn oo) oo oo)) (Am.newV 0 _ _) ?_;have b:(p.den:Int) * q.num=0↔q=0:=by
  rw[<- XX];constructor
  ·intro e;rcases Int.mul_eq_zero.1 e with e | e
   ·exact absurd e (Md p)
   ·exact e
  ·intro e;rw[e,LW]
 refine FL.fact (L:=[]) (ψ:=fun v w'=>R4 v/\(q=0->v=zR)/\(q≠0->Bk 0 w' v (p / q))) rfl rfl rfl rfl rfl ?_ (fun _ _ _ d h=>⟨h.1,h.2.1,fun e=>(h.2.2 e).rg d⟩) ?_
 ·intro z d r o;by_cases e:q=0
  ·rw[o.1 (b.2 e)];exact A0.ext (A0.pure A8 rfl) ⟨GR,fun _=>rfl,fun h=>absurd e h⟩
  ·obtain⟨t,rfl,j⟩:=o.2 (fun h=>e (b.1 h));rw[A1s]at j;exact A0.ext (A0.pure A8 rfl) ⟨j.1,fun h=>absurd h e,fun _=>j⟩
 refine FL.exact (L:=[]) (c:=.bool (decide (q≠0))) rfl rfl rfl rfl rfl ?_ ?_
 ·intro z d r o;by_cases e:q=0
  ·rw[o.1 (b.2 e),decide_eq_false (fun h=>h e)];exact A0.ext (ψ:=fun v _=>v=.bool false) (A0.pure A8 rfl) rfl
  ·obtain⟨t,rfl,j⟩:=o.2 (fun h=>e (b.1 h));rw[decide_eq_true e];exact A0.ext (ψ:=fun v _=>v=.bool true) (A0.pure A8 rfl) rfl
 refine FL.aG rfl ?_;rintro z g t j _ _ _ _ _ _ _ _;replace B3:=B3.ext g;replace l:=l.trans g;clear g;refine Af.aT rfl rfl rfl j.1 B3 rfl l oo ?_;intro hb F N O;refine A7 ?_;refine Ad.bF rfl rfl rfl F j.1 ⟨O,fun e=>?_,fun e=>⟨t,?_,(j.2.2 e).upd N B3 de⟩⟩
 ·rw[j.2.1 e,decide_eq_false (fun h=>h e)]
 ·rw[decide_eq_true e]
theorem Yf {w:World}{x:Value}{q:Rat}(h:DnS w x q) :
  Calls prog 194 #[x] w (AJ fun r w'=>Ac w w'/\Ao 0 w' r q.floor):=by have z:=h.rz;have f:=Ez q;have b:=EG q;refine cS func194 ntmps194 ?_;refine Nv ?_;refine .s (oB) ?_;rintro _ w1 ⟨rfl,B1,l,t⟩;refine .s (oA) ?_;rintro _ w2 ⟨rfl,B2,e,a⟩;have c:Ac w w2:=l.trans e;replace B1:=B1.ext e;replace h:=h.ext c;clear l e;refine A7 ?_;refine .p (rR (B1) (h.1)) ?_;refine .s (oK DP (DT h)) ?_;rintro v w3 ⟨g,hv⟩;replace B2:=B2.ext g;replace c:=c.trans g;clear g;refine Af.bn rfl rfl (fun _=>rfl) hv.1 ?_;intro b5 i o d B5;replace B2:=B2.ext d;replace hv:=hv.ext d;replace c:=c.trans d;clear d;refine A7 ?_;refine .p (A0.bg rfl (B5) (hv.1)) ?_;refine .r rfl ?_;refine .p (A0.aX rfl (B5) (hv.1)) ?_;refine .s (oK I5 (Oj (hv.2.1.dn oo) (hv.2.2.dn oo) (Md q) ⟨by omega,by omega⟩)) ?_;rintro u n ⟨j,hu⟩;rw[<- Rat.floor_def]at hu;replace B2:=B2.ext j;replace c:=c.trans j;clear j;refine sC B2 hu c oo ?_;intro A B8 y k m;refine A7 ?_;exact Ad.cE rfl rfl B8 k ⟨m,k⟩
theorem A3z {w:World}{u v:Value}(hu:Ao 0 w u 1) (hv:Ao 0 w v 2):Bk 0 w (mkR u v) (Rat.divInt 1 2) :=
 Bk.mk (by rw[show (Rat.divInt 1 2).num=1 from by decide +kernel];exact hu) (by rw[show ((Rat.divInt 1 2).den:Int)=2 from by decide +kernel];exact hv)
theorem A1u (w:World):Calls prog 195 #[] w (AJ fun r w'=>Ac w w'/\Bk 0 w' r (Rat.divInt 1 2)):=by refine cS func195 ntmps195 ?_;refine Nv ?_;refine .s (oA) ?_;rintro _ w2 ⟨rfl,B2,c,m⟩;refine A7 ?_;refine .s (oK AW (Ba (base:=0) w2 1 de de BI)) ?_;rintro u w3 ⟨g,hu⟩;replace B2:=B2.ext g;replace c:=c.trans g;clear g;refine .s (oK AW (Ba (base:=0) w3 2 de de BI)) ?_;rintro v q ⟨d,hv⟩;replace B2:=B2.ext d;replace hu:=hu.ext d;replace c:=c.trans d;clear d;refine .p (A0.bK rfl rfl hu.r2 hv.r2) ?_;have e:=A3z hu hv;refine Af.aT rfl rfl rfl e.1 B2 rfl c oo ?_;intro o j k l;refine A7 ?_;exact Ad.bA rfl rfl j e.1 ⟨l,e.upd k B2 de⟩
theorem Vg {w:World}{x:Value}{q:Rat}(h:DnS w x q) (y:rz q<=40000) :
  Calls prog 150 #[x] w (AJ fun r w'=>Ac w w'/\Ao 0 w' r (q+Rat.divInt 1 2).floor):=by have b:=XW q (Rat.divInt 1 2);have a:=A2n;refine cS func150 ntmps150 ?_;refine Nv ?_;refine .s (oB) ?_;rintro _ w1 ⟨rfl,B1,l,n⟩;refine .s (oA) ?_;rintro _ w2 ⟨rfl,B2,e,p⟩;have c:Ac w w2:=l.trans e;replace B1:=B1.ext e;replace h:=h.ext c;clear l e;refine A7 ?_;refine sF 2 ?_;refine .on (fun _ o=>rR (o.blk (B1) sm) (h.1)) ?_;refine FL.au Z9 rfl rfl rfl (fun m d=>cM (A1u m)) (Am.bE 0 _) ?_;refine FL.aG rfl ?_;intro m d u hu _ _;replace B2:=B2.ext d;replace h:=h.ext d;replace c:=c.trans d;clear d;refine .s (oK Pc (PG h (hu.dnS oo) y oo)) ?_;rintro s A ⟨g,z⟩;replace B2:=B2.ext g;replace c:=c.trans g;clear g;refine .s (oK XJ (Yf (z.dnS oo))) ?_;rintro f B ⟨j,v⟩;replace B2:=B2.ext j;replace c:=c.trans j;clear j;refine sC B2 v c oo ?_;intro C B9 i k t;refine A7 ?_;exact Ad.cE rfl rfl B9 k ⟨t,k⟩
variable {e:TypeId}{u:Value}{dl:Nat->Int}
theorem Aq.bO {w:World}{v:Value}(h:Aq k e base w v us) (hB:∀ b C,v.ownBlock=some b->Aj e w b C->Aj e w' b C):Aq k e base w' v us:=by
 refine⟨h.1,?_⟩;rcases h.2 with h0 | ⟨g,cap,D,hv,hg,hb,r⟩
 ·exact .inl h0
 ·exact .inr ⟨g,cap,D,hv,hg,hB g _ (by rw[hv];rfl) hb,r⟩
theorem Aq.bG {w:World}{v:Value}(h:Aq k e base w v us) (c:v.ownBlock=some b):b<w.heap.size:=by
 rcases h.2 with ⟨h0,_⟩ | ⟨g,cap,D,hv,hg,hbk,r⟩
 ·rw[h0]at c;cases c
 ·rw[hv]at c;have:g=b:=by simpa[Value.ownBlock] using c
  subst this;exact hbk.lt
theorem Np {w:World}{v:Value}{s:Nat}(h:MI w v (mk n n f)) (O:1<=n/\n<=16) (hs:∀ a b,a<n->b<n->sz (f a b)<=s) (hc:1<=s) (c:2 ^ n * (s+1)<=100000) (M:i<n) (N:j<n) :
  Calls prog 152 #[v,.int .i64 i,.int .i64 j] w (AJ fun x w'=>Ac w w'/\∃ d:Int,Ao 0 w' x d/\sz d<=2 ^ n * (s+1)/\(Gd (j+1) f->(d:Rat)=BB (RA f) j i j)):=by
 refine cS func152 ntmps152 ?_;refine Nv ?_;refine .s (oA) ?_;rintro _ w1 ⟨rfl,S,P,hp⟩;refine A7 ?_;refine St.dB A8 (9) (0) (j) oo (fun g:Value×Value=>[(0,v),(1,.int .i64 i),(2,.int .i64 j),(6,.pointer (some ⟨w.heap.size,0,none⟩)),(7,g.1),(8,g.2)]) (fun k g w'=>Ac w1 w'/\Aq 1 3 w1.heap.size w' g.1 (KI k id)/\Aq 1 3 w1.heap.size w' g.2 (KI k id)/\∀ b,g.1.ownBlock=some b->g.2.ownBlock≠some b) ((.slice none 0 0,.slice none 0 0)) AL ?_ (fun _ _=>⟨rfl,rfl⟩) (fun _ _=>rfl) (fun _ _=>⟨rfl,rfl⟩) (fun _=>rfl) (fun _=>rfl) oo ?_ ?_
 ·exact⟨Ac.refl _,Aq.nil,Aq.nil,fun b c=>by cases c⟩
 ·rintro k ⟨g1,g2⟩ w2 hk ⟨z,u,o,q⟩;dsimp only at u o q ⊢;refine A7 ?_;refine Af.aZ u (RM k) rfl rfl rfl rfl rfl rfl (fun _=>rfl) rfl rfl (by rw[IY];omega) rfl z.size ?_;intro p1 v1 w3 p H E J _;have G:=o.bO (w':=w3) (fun b C c hB=>E _ b C hB (.inr fun e=>q b e c));have D:∀ b,v1.ownBlock=some b->g2.ownBlock≠some b:=by
   intro b c l;rcases J with e | ⟨b',e,hle⟩
   ·rw[e]at c;exact q b c l
   ·have:=o.bG l;rw[c]at e;have:b=b':=by simpa using e
    omega
  have t:=H w1 z AO;refine A7 ?_;refine Af.aZ G (RM k) rfl rfl rfl rfl rfl rfl (fun _=>rfl) rfl rfl (by rw[IY];omega) rfl t.size ?_;intro p2 v2 K B I F L _;have A:=p.bO (w':=K) (fun b C c hB=>F _ b C hB (.inr (D b c)));refine A7 ?_;refine Ad.aO (v1,v2) AL ⟨I w1 t AO,?_,?_,?_⟩
  ·rw[La];exact A
  ·rw[La];exact B
  ·intro b c l;rcases L with e | ⟨b',e,hle⟩
   ·rw[e]at l;exact D b c l
   ·have:=p.bG c;rw[l]at e;have:b=b':=by simpa using e
    omega
 ·rintro⟨g1,g2⟩ w2 ⟨z,u,o,q⟩;dsimp only at u o q ⊢;have he:∀ m,KI (j+1) (PA j m)=KI j id++[nI m]:=by intro m;rw[La,A1o];congr 1;exact Va fun x y=>QA y
  refine A7 ?_;refine Af.aZ u (RM i) rfl rfl rfl rfl rfl rfl (fun _=>rfl) rfl rfl (by rw[IY];omega) rfl z.size ?_;intro p1 v1 w3 p H E J _;have G:=o.bO (w':=w3) (fun b C c hB=>E _ b C hB (.inr fun e=>q b e c));have D:∀ b,v1.ownBlock=some b->g2.ownBlock≠some b:=by
   intro b c l;rcases J with e | ⟨b',e,hle⟩
   ·rw[e]at c;exact q b c l
   ·have:=o.bG l;rw[c]at e;have:b=b':=by simpa using e
    omega
  have t:=H w1 z AO;refine .r rfl ?_;refine Af.aZ G (RM j) rfl rfl rfl rfl rfl rfl (fun _=>rfl) rfl rfl (by rw[IY];omega) rfl t.size ?_;intro p2 v2 K B I F L _;have A:=p.bO (w':=K) (fun b C c hB=>F _ b C hB (.inr (D b c)));have R:=I w1 t AO;rw[<- he]at A B;refine .s (Av.call Fe rfl (GU (h.ext (P.trans R)) O O (A.row (Fa _ _)) (B.row (Fa _ _)) oo oo (fun x y=>CN oo M y) (fun x y=>CN oo N y))) ?_;rintro u3 w5 ⟨hf,T⟩;have V:=ZL (k:=j+1) (n:=n) oo c;have hm:2 ^ (j+1) * (s+1)<=2 ^ n * (s+1):=Bm _ (DB oo oo);refine .s (Av.call Ca rfl (CH (f:=Tn f j i j) T ⟨by omega,by omega⟩ (s:=s) (fun a b U c=>hs _ _ (CN oo M U) (CN oo N c)) hc V)) ?_;rintro u4 w6 ⟨hh,d,X,ho,Y⟩;have Q:=(R.trans hf).trans hh;refine Af.aJ rfl rfl (S.ext Q) rfl X (P.trans Q) AO ?_;intro w' hl W fin;refine Nv ?_;exact fin _ _ rfl ⟨hl,d,W,by omega,fun Z=>by rw[Y (A1p Z),Ye]⟩
def dI (dl:Nat->Int) (k:Nat):Int:=if k=0 then 1 else dl (k - 1)
theorem Ic {w:World}{v:Value}(h:LC w v n dl) (f:k<=n) (i:n<=16) :
  Calls prog 153 #[v,.int .i64 k] w (AJ fun x w'=>Ac w w'/\Ao 0 w' x (dI dl k)):=by
 obtain⟨b,o,cp,rfl,t,e,C,hB,r⟩:=h;refine cS func153 ntmps153 ?_;refine Nv ?_;refine .s (oA) ?_;rintro _ w1 ⟨rfl,B4,c,A⟩;refine Nv ?_;by_cases j:k=0
 ·subst j;refine .a 2 (.bool true) rfl (by rfl) ?_;refine A7 ?_;refine .ct ?_;refine .s (Av.call AW rfl (Ba (base:=0) w1 1 oo oo BI)) ?_;rintro z w2 ⟨m,y⟩;refine Af.aJ rfl rfl (B4.ext m) rfl y (c.trans m) AO ?_;intro w' g d fin;refine Nv ?_;exact fin _ _ rfl ⟨g,d⟩
 ·obtain⟨u,hu,k1,k2⟩:=r (k - 1) oo;have q:=hB.ext c;have l:=hu.ext c;refine .a 2 (.bool false) rfl (by rw[show ((k:Int) == 0)=false from by simp;omega]) ?_;refine A7 ?_;refine .cF ?_;refine Nv ?_;refine .a 3 (.int .i64 ((k - 1:Nat):Int)) rfl (by rw[Ab oo oo];congr 1;omega) ?_;refine .p (A0.aQ rfl rfl rfl oo) ?_;refine .p (A0.aH rfl q k1 k2 l.r2) ?_;refine Af.aJ rfl rfl B4 rfl l c AO ?_;intro w' g d fin;refine Nv ?_;refine fin _ _ rfl ⟨g,?_⟩;unfold dI;rw[if_neg j];exact d
def Ok (A:Nat->Ej) (i j:Nat):Prop:=2 * BB A j i j<=dd A (j+1)/\-(2 * BB A j i j)<=dd A (j+1)
def Ww (A:Nat->Ej) (i:Nat):Prop:=3 * (dd A i * dd A i)<=4 * (dd A (i - 1) * dd A (i+1)+BB A (i - 1) i (i - 1) * BB A (i - 1) i (i - 1))
def Mnr (n:Nat) (f:Nat->Nat->Int) (dl:Nat->Int):Prop:=∀ k,k<n->(dl k:Rat)=dd (RA f) (k+1)
theorem Mnr.dI (h:Mnr n f dl) (c:k<=n):(Go.Qf.dI dl k:Rat)=dd (RA f) k:=by
 unfold Go.Qf.dI;by_cases e:k=0
 ·subst e;rfl
 ·rw[if_neg e,h (k - 1) oo,show k - 1+1=k by omega]
theorem ZO {Z:Nat}(h:∀ k,k<n->sz (dl k)<=Z) (c:1<=Z) (d:k<=n):sz (dI dl k)<=Z:=by
 unfold dI;by_cases e:k=0
 ·subst e;rw[if_pos rfl,RI];exact c
 ·rw[if_neg e];exact h _ oo
theorem Vh {w:World}{v:Value}{s:Nat}(h:MI w v (mk n n f)) (g:1<=n/\n<=16) (K:∀ a b,a<n->b<n->sz (f a b)<=s) (L:1<=s) (B:2 ^ n * (s+1)<=100000) (I:PD n f) (p:LC w u n dl) (D:Mnr n f dl) (E:∀ k,k<n->sz (dl k)<=2 ^ n * (s+1)) (F:i<n) (G:j<n) :
  Calls prog 149 #[v,u,.int .i64 i,.int .i64 j] w (AJ fun x w'=>Ac w w'/\∃ b,x=.bool b/\(b=true↔Ok (RA f) i j)):=by
 have P:2<=2 ^ n * (s+1):=Ar (show 2<=1 * 2 by decide) (Dg Nat.one_le_two_pow oo);refine cS func149 ntmps149 ?_;refine A7 ?_;refine .s (Av.call AW rfl (Ba (base:=0) w 2 oo oo BI)) ?_;rintro two w1 ⟨e,M⟩;refine .r rfl ?_;refine .s (oK KF (Np (h.ext e) g K L B F G)) ?_;rintro l w2 ⟨y,d,C,R,c⟩;have c:=c (I.gd oo);refine .s (Av.call Pj rfl (XY (base:=0) (C.dn oo) BI)) ?_;rintro al w3 ⟨z,A⟩;have V:sz (d.natAbs:Int)<=sz d:=I9 AO;have W:sz 2<=2:=Bn oo oo;have X:=Bt 2 (d.natAbs:Int);refine .s (Av.call BP rfl (Dy (base:=0) (((M.ext y).ext z).dn oo) (A.dn oo) BI)) ?_;rintro m S ⟨N,H⟩;have o:=(y.trans z).trans N;refine .a 3 (.int .i64 ((j+1:Nat):Int)) rfl (Bv oo) ?_;refine .s (Av.call G5 rfl (Ic (p.ext (e.trans o)) (k:=j+1) oo g.2)) ?_;rintro q T ⟨t,J⟩;have z4:=ZO E oo (k:=j+1) oo;refine .s (Av.call Gz rfl (Ma ((H.ext t).dn oo) (J.dn oo))) ?_;rintro _ U ⟨O,rfl⟩;refine .a 1 (.bool (decide (2 * (d.natAbs:Int)<=dI dl (j+1)))) rfl (by rw[A1n]) ?_;refine A7 ?_;refine Ad.ax rfl rfl ⟨((e.trans o).trans t).trans O,_,rfl,?_⟩;rw[decide_eq_true_eq];unfold Ok;rw[<- c,<- D.dI oo];constructor
 ·intro Q;constructor
  ·have:2 * d<=dI dl (j+1):=by omega
   exact_mod_cast this
  ·have:-(2 * d)<=dI dl (j+1):=by omega
   exact_mod_cast this
 ·rintro⟨q1,q2⟩;have q1':2 * d<=dI dl (j+1):=by exact_mod_cast q1
  have q2':-(2 * d)<=dI dl (j+1):=by exact_mod_cast q2
  omega
variable {M:List (List Int)}
theorem SE {w:World}{v:Value}{s:Nat}(h:MI w v (mk n n f)) (A:1<=n/\n<=16) (S:∀ a b,a<n->b<n->sz (f a b)<=s) (T:1<=s) (H:2 ^ n * (s+1)<=100000) (R:PD n f) (o:LC w u n dl) (B:Mnr n f dl) (D:∀ k,k<n->sz (dl k)<=2 ^ n * (s+1)) (P:i<n) (hf:0<i) :
  Calls prog 154 #[v,u,.int .i64 i] w (AJ fun x w'=>Ac w w'/\∃ b,x=.bool b/\(b=true↔Ww (RA f) i)):=by
 have hc:2<=2 ^ n * (s+1):=Ar (show 2<=1 * 2 by decide) (Dg Nat.one_le_two_pow oo);generalize G:2 ^ n * (s+1)=Z at *
 have he:=H;refine cS func154 ntmps154 ?_;refine Nv ?_;refine .r rfl ?_;refine Nv ?_;refine .a 4 (.int .i64 ((i - 1:Nat):Int)) rfl (by rw[Ab oo oo];congr 1;omega) ?_;refine .s (oK KF (Np h A S T (by rw[G];exact H) P (j:=i - 1) oo)) ?_;rintro l w1 ⟨Y,d,y,U,C⟩;rw[G]at U;have C:=C (R.gd oo);refine Af.cn rfl (fun _=>rfl) y.r2 ?_;intro w2 J B7;replace y:=y.ext J;have I:=Y.trans J;replace o:=o.ext I;have z0:=ZO D oo (k:=i - 1) oo;have z1:=ZO D oo (k:=i+1) oo;have z2:=ZO D oo (k:=i) oo;have z3:sz 4<=2:=Bn oo oo;have z4:sz 3<=2:=Bn oo oo;have q1:=Bt (dI dl (i - 1)) (dI dl (i+1));have q2:=Bt d d;have q3:=Pt (dI dl (i - 1) * dI dl (i+1)) (d * d);have q4:=Bt 4 (dI dl (i - 1) * dI dl (i+1)+d * d);have q5:=Bt (dI dl i) (dI dl i);have q6:=Bt 3 (dI dl i * dI dl i);refine Nv ?_;refine St.sub (E':=[(0,v),(1,u),(2,.int .i64 i),(7,.pointer (some ⟨w1.heap.size,0,none⟩))]) ?_ AL;refine sF 16 ?_;refine FL.au AW rfl rfl rfl (fun e c=>cM (Ba (base:=0) e 4 oo oo BI)) (Am.aF 0 _) ?_;refine FL.as A8 3 (.int .i64 ((i - 1:Nat):Int)) rfl (by rw[Ab oo oo];congr 1;omega) ?_;refine FL.au G5 rfl rfl rfl (fun e c=>cM (Ic (o.ext c) (k:=i - 1) oo A.2)) (Am.aF 0 _) ?_;refine FL.as A8 3 (.int .i64 ((i+1:Nat):Int)) rfl (Bv oo) ?_;refine FL.au G5 rfl rfl rfl (fun e c=>cM (Ic (o.ext c) (k:=i+1) oo A.2)) (Am.aF 0 _) ?_;refine FL.au BP rfl rfl rfl (fun e c t1 g t2 m=>cM (Dy (base:=0) (g.dn oo) (m.dn oo) BI)) (Am.aF 0 _) ?_;refine .on (fun _ p=>rC (p.blk B7 sm) y) ?_;refine .on (fun _ p=>rC (p.blk B7 sm) y) ?_;refine FL.au BP rfl rfl rfl (fun e c=>cM (Dy (base:=0) ((y.ext c).dn oo) ((y.ext c).dn oo) BI)) (Am.aF 0 _) ?_;refine FL.au FJ rfl rfl rfl (fun e c t1 g t2 m=>cM (Kw (base:=0) (g.dn oo) (m.dn oo) BI)) (Am.aF 0 _) ?_;refine FL.au BP rfl rfl rfl (fun e c t1 g t2 m=>cM (Dy (base:=0) (g.dn oo) (m.dn oo) BI)) (Am.aF 0 _) ?_;refine FL.alloc A8 rfl rfl rfl rfl ?_;refine FL.aG rfl ?_;rintro e c _ ⟨b8,C8,rfl,O,B8,Q⟩ z L _ _ _ _ _ _ _ _ _ _ _ _ _ _;refine Af.aK rfl rfl B8 Q L c O ?_;intro w5 N W M F;replace o:=o.ext F;have X:=I.trans F;clear c F W B8 L;refine Nv ?_;refine St.sub (E':=[(1,u),(2,.int .i64 i),(8,.pointer (some ⟨b8,0,none⟩))]) ?_ AL;refine sF 10 ?_;refine .on (fun _ p=>rC (p.blk N sm) M) ?_;refine FL.au AW rfl rfl rfl (fun e c=>cM (Ba (base:=0) e 3 oo oo BI)) (Am.aF 0 _) ?_;refine .q ?_;refine FL.au G5 rfl rfl rfl (fun e c=>cM (Ic (o.ext c) (k:=i) oo A.2)) (Am.aF 0 _) ?_;refine .q ?_;refine FL.au G5 rfl rfl rfl (fun e c=>cM (Ic (o.ext c) (k:=i) oo A.2)) (Am.aF 0 _) ?_;refine FL.au BP rfl rfl rfl (fun e c t1 g t2 m=>cM (Dy (base:=0) (g.dn oo) (m.dn oo) BI)) (Am.aF 0 _) ?_;refine FL.au BP rfl rfl rfl (fun e c t1 g t2 m=>cM (Dy (base:=0) (g.dn oo) (m.dn oo) BI)) (Am.aF 0 _) ?_;refine FL.aG rfl ?_;rintro w6 K t V _ _ _ _ _ _ _ _ _ _;refine .s (oK Gz (Ma ((M.ext K).dn oo) (V.dn oo))) ?_;rintro _ w7 ⟨ha,rfl⟩;refine .a 1 (.bool (decide (3 * (dI dl i * dI dl i)<=4 * (dI dl (i - 1) * dI dl (i+1)+d * d)))) rfl (by rw[A87]) ?_;refine A7 ?_;refine Ad.ax rfl rfl ⟨(X.trans K).trans ha,_,rfl,?_⟩;rw[decide_eq_true_eq];unfold Ww;rw[show i - 1+1=i by omega]at *
 rw[<- C,<- B.dI (k:=i) oo,<- B.dI (k:=i - 1) oo,<- B.dI (k:=i+1) oo];constructor
 ·intro E;exact_mod_cast E
 ·intro E;exact_mod_cast E
def RdP (n:Nat) (A:Nat->Ej):Prop:=(∀ i j,i<n->j<i->Ok A i j)/\∀ i,0<i->i<n->Ww A i
theorem Mnr.of (d:PD n f) (h:∀ k,k<n->Gd (k+1) f->(dl k:Rat)=dd (RA f) (k+1)):Mnr n f dl:=fun k c=>h k c (d.gd oo)
theorem Yg {w:World}{v:Value}{s:Nat}(h:MI w v (mk n n f)) (g:1<=n/\n<=16) (D:∀ a b,a<n->b<n->sz (f a b)<=s) (E:1<=s) (B:2 ^ n * (s+1)<=100000) (C:PD n f) :
  Calls prog 159 #[v] w (AJ fun x w'=>Ac w w'/\∃ b,x=.bool b/\(b=true↔RdP n (RA f))):=by
 obtain⟨a,cap,hv,_⟩:=h.mp g.1 g.1;refine cS func159 ntmps159 ?_;refine A7 ?_;refine .s (oK FK (HB h g D E B)) ?_;rintro _ w1 ⟨k,u,dl,rfl,H,J,m⟩;replace m:=Mnr.of C m;subst hv;refine A7 ?_;refine H6 (14) (0) (n) [(0,.slice (some a) n cap),(3,u),(13,.int .i64 n)] (fun i w'=>Ac w1 w'/\(∀ x y,x<i->y<x->Ok (RA f) x y)/\∀ x,0<x->x<i->Ww (RA f) x) ?_ ?_ ?_
 ·exact⟨Ac.refl _,fun x y L=>by omega,fun x z G=>by omega⟩
 ·rintro i w2 o ⟨c,p,A⟩;refine A7 ?_;refine St.ef A8 (6) (0) (i) oo [(14,.int .i64 i),(5,.int .i64 i),(0,.slice (some a) n cap),(3,u),(13,.int .i64 n)] (fun j w'=>Ac w1 w'/\∀ y,y<j->Ok (RA f) i y) AL ?_ (fun _=>⟨rfl,rfl⟩) (fun _=>rfl) (fun _=>⟨rfl,rfl⟩) rfl rfl oo ?_ ?_
  ·exact⟨c,fun y q=>by omega⟩
  ·clear c;rintro j w2 K ⟨c,t⟩;refine A7 ?_;refine .s (oK Ql (Vh (h.ext (k.trans c)) g D E B C (H.ext c) m J o (j:=j) oo)) ?_;rintro _ w3 ⟨l,b,rfl,d⟩;cases b
   ·refine A7 ?_;refine .ct ?_;exact Ad.ax rfl rfl ⟨(k.trans c).trans l,false,rfl,⟨fun h=>(by cases h),fun h=>d.2 (h.1 i j o K)⟩⟩
   ·refine A7 ?_;refine .cF ?_;refine Nv ?_;refine Ad.rnd AL ⟨c.trans l,fun y q=>?_⟩;by_cases e:y=j
    ·rw[e];exact d.1 rfl
    ·exact t y oo
  ·clear c;rintro w2 ⟨c,t⟩;have I:∀ x y,x<i+1->y<x->Ok (RA f) x y:=by
    intro x y L q;by_cases e:x=i
    ·subst e;exact t y q
    ·exact p x y oo q
   refine Nv ?_;by_cases F:0<i
   ·refine .a 2 (.bool true) rfl (Aa oo) ?_;refine .r rfl ?_;refine .s (oK OO (SE (h.ext (k.trans c)) g D E B C (H.ext c) m J o F)) ?_;rintro _ w3 ⟨l,b,rfl,d⟩;cases b
    ·refine A7 ?_;refine .ct ?_;exact Ad.ax rfl rfl ⟨(k.trans c).trans l,false,rfl,⟨fun h=>(by cases h),fun h=>d.2 (h.2 i F o)⟩⟩
    ·refine A7 ?_;refine .cF ?_;refine Nv ?_;refine Ad.rnd AL ⟨c.trans l,I,fun x z G=>?_⟩;by_cases e:x=i
     ·rw[e];exact d.1 rfl
     ·exact A x z oo
   ·refine .a 2 (.bool false) rfl (A9 oo) ?_;refine A7 ?_;refine .cF ?_;refine Nv ?_;exact Ad.rnd AL ⟨c,I,fun x z G=>by omega⟩
 ·rintro w2 ⟨c,p,A⟩;refine A7 ?_;exact Ad.ax rfl rfl ⟨k.trans c,true,rfl,⟨fun _=>⟨p,A⟩,fun _=>rfl⟩⟩
theorem QB {w:World}{v:Value}{s:Nat}(h:MI w v (mk n n f)) (k:1<=n/\n<=16) (m:∀ a b,a<n->b<n->sz (f a b)<=s) (o:1<=s) (g:2 ^ n * (s+1)<=100000) (l:PD n f) :
  Calls prog 98 #[v] w (AJ fun x w'=>Ac w w'/\∃ b,x=.bool b/\(b=true↔dd (RA f) n<=10000)):=by refine cS func98 ntmps98 ?_;refine A7 ?_;refine .s (oK Ca (CH h k m o g)) ?_;rintro y w1 ⟨q,d,j,t,c⟩;have c:=c (l.gd oo);refine .s (oK AW (Ba (base:=0) w1 10000 oo oo BI)) ?_;rintro z w2 ⟨e,u⟩;have i:sz 10000<=2:=Bn oo oo;refine .s (oK Gz (Ma ((j.ext e).dn oo) (u.dn oo))) ?_;rintro _ w3 ⟨r,rfl⟩;refine .a 1 (.bool (decide (d<=10000))) rfl (by rw[A1n]) ?_;refine A7 ?_;refine Ad.ax rfl rfl ⟨(q.trans e).trans r,_,rfl,?_⟩;rw[decide_eq_true_eq,<- c];exact (Iy (a:=d) (b:=10000)).symm
def Ie (M:List (List Int)):Prop:=okM M/\M.length=(M.getD 0 []).length/\M.length<=8/\A1q M.length (ent M)/\dd (RA (ent M)) M.length<=10000/\RdP M.length (RA (ent M))
theorem Gq {w:World}{v:Value}(h:Ft w v M) (z:∀ row ∈ M,∀ x ∈ row,-9223372036854775808<=x/\x<=9223372036854775807) :
  Calls prog 111 #[v] w (AJ fun x w'=>Ac w w'/\∃ b,x=.bool b/\(b=true↔Ie M)):=by
 refine cS func111 ntmps111 ?_;refine A7 ?_;refine .s (oK Mu (OZ (base:=0) w v M h BI z)) ?_;rintro _ w1 ⟨y,⟨c,u,rs,rfl,H⟩ | ⟨c,rfl⟩⟩
 ·have D:∀ row ∈ M,∀ x ∈ row,sz x<=2:=fun row o x d=>by have:=z row o x d;exact Bn oo oo
  have I:=H.mi (fun row o x d=>by have:=D row o x d;omega);have q:1<=M.length/\M.length<=16:=⟨c.1,c.2.1⟩;have G:M[0]?=some (M[0]'oo):=by simp
  have K:1<=(M.getD 0 []).length/\(M.getD 0 []).length<=16:=by have:=c.2.2 0 _ G;exact⟨by omega,by omega⟩
  have k:MI w1 u (mk M.length (M.getD 0 []).length (ent M)):=by rw[A1d c];exact I
  have B:∀ a b,a<M.length->b<(M.getD 0 []).length->sz (ent M a b)<=2:=by
   intro a b f J;have m:M[a]?=some (M[a]):=by simp
   have N:=(c.2.2 a _ m).2.2;have d:(M[a])[b]?=some ((M[a])[b]'oo):=by simp
   rw[A2m m d];exact D _ (Bi m) _ (Bi d)
  refine .r rfl ?_;refine Nv ?_;refine .r rfl ?_;refine .s (oK Jb (KK k q K B oo oo)) ?_;rintro _ w2 ⟨g,e,rfl,A⟩;by_cases l:e=0
  ·subst l;obtain⟨e1,e8,j⟩:=A.1 rfl;have t:MI w1 u (mk M.length M.length (ent M)):=by rw[<- e1]at k;exact k
   have C:∀ a b,a<M.length->b<M.length->sz (ent M a b)<=2:=fun a b f J=>B a b f oo;have i:2 ^ M.length * (2+1)<=100000:=Ar (Bm _ (DB oo e8)) de;refine .r rfl ?_;refine .s (oK Qj (QB (t.ext g) q C oo i j.2)) ?_;rintro _ w3 ⟨F,b,rfl,p⟩;have E:=(y.trans g).trans F;cases b
   ·refine A7 ?_;exact Ad.ax rfl rfl ⟨E,false,rfl,⟨fun h=>(by cases h),fun h=>p.2 h.2.2.2.2.1⟩⟩
   ·refine .r rfl ?_;refine .s (oK UB (Yg (t.ext (g.trans F)) q C oo i j.2)) ?_;rintro _ O ⟨L,b,rfl,n⟩;refine A7 ?_;exact Ad.ax rfl rfl ⟨E.trans L,b,rfl,⟨fun h=>⟨c,e1,e8,j,p.1 rfl,n.1 h⟩,fun h=>n.2 h.2.2.2.2.2⟩⟩
  ·refine .a 1 (.bool false) rfl (by rw[show (e == 0)=false from by simpa using l]) ?_;refine A7 ?_;exact Ad.ax rfl rfl ⟨y.trans g,false,rfl,⟨fun h=>(by cases h),fun h=>absurd (A.2 ⟨h.2.1,h.2.2.1,h.2.2.2.1⟩) l⟩⟩
 ·refine A7 ?_;exact Ad.ax rfl rfl ⟨y,false,rfl,⟨fun h=>(by cases h),fun h=>absurd h.1 c⟩⟩
variable {cap:Nat}{rs:List Value}{iv:Int}
theorem EH (xs:List Int):∀ u ∈ xs.map DZ,u.cells=#[u]:=by intro u hu;obtain⟨x,_,rfl⟩:=CG.1 hu;rfl
theorem RQ (xs:List Int):M8 1 (xs.map DZ):=by intro u hu;obtain⟨x,_,rfl⟩:=CG.1 hu;exact⟨rfl,by simp[Value.cells,Value.oneCell']⟩
theorem DK.ext {w:World}{v:Value}(h:DK rs base w v M) (c:Ac w w'):DK rs base w' v M:=DE.ext h c
theorem DK.rsl {w:World}{v:Value}(h:DK rs base w v M):rs.length=M.length:=by have:=h.2.1;simpa using this
theorem DK.m64 {w:World}{v:Value}(h:DK rs base w v M):Ft w v M:=by
 refine⟨rs,DE.rows h,h.rsl,fun i r row d e=>?_⟩;have c:(M.map (fun row=>row.map DZ))[i]?=some (row.map DZ):=by simp[e]
 exact (h.2.2.2.1 i r _ d c).row (EH row)
theorem DK.rowAt {w:World}{p:Option Addr}{len:Nat}(h:DK rs base w (.slice p len cap) M) (g:i<M.length):∃ a rr,p=some a/\len=M.length/\rs[i]?=some rr/\w.cell? (a.add i)=some rr:=by
 have j:=h.rsl;have c:rs[i]?=some (rs[i]'oo):=by simp
 obtain⟨a,cp,e,d⟩:=(DE.rows h).get c;simp only[Ci]at e;exact⟨a,_,e.1,by omega,c,d⟩
theorem QC {w:World}{g:Nat}(d:base<=g) (k:n<=1000000) (B:Aj 33 w g (List.replicate n (.slice none 0 0))):DK (List.replicate n (.slice none 0 0)) base w (.slice (some ⟨g,0,none⟩) n n) (List.replicate n []):=by
 unfold DK;rw[G9];refine⟨⟨?_,.inr ⟨g,n,[],by rw[He],d,?_,by simp,by simp,by unfold maxLen;omega⟩⟩,by simp,?_,?_,?_⟩
 ·intro u hu;rw[BU hu];exact⟨rfl,by simp[Value.cells,Value.oneCell']⟩
 ·rw[CO _ (fun u hu=>by rw[BU hu];rfl),D7];exact B
 ·intro u hu;rw[BU hu];rfl
 ·intro i s us c e;have e1:=BU (Bi c);have e2:=BU (Bi e);subst e1;subst e2;exact Aq.nil
 ·intro i j s t _ c _ _;rw[BU (Bi c)];rfl
section
variable {n:Nat}{E:List (Nat×Value)}{w w0:World}{ops:Array Oper}{rest:List Oper}{Q:Exit->Act->World->Prop}{d1 s:Nat}{x I y:Operand}{ty ty2:TypeId}{pos pos2:String}{af af2:Array Edge}{g1 g2:Option (Nat×Bool)}
theorem Af.dD {v:Value}(h:DK rs base w v M) (O:i<M.length) (R:w0.heap.size<=base) (G:Ac w0 w) (B:Aj 2 w b (List.replicate c (.int .i64 0))) (o:base<=b) (q:∀ r ∈ rs,r.ownBlock≠some b) (J:c<=1000000)
  (F:ov E x=some v) (l:ov E I=some (.int .i64 iv)) (t:iv=i) (H:∀ p,ov ((d1,p)::E) y=some (.slice (some ⟨b,0,none⟩) c c)) (u:Bg ops E g1=some true) (a:Nat.blt d1 n=true) (z:∀ p,Bg ops ((d1,p)::E) g2=some true)
  (next:∀ p w',Ac w0 w'->DK (rs.set i (.slice (some ⟨b,0,none⟩) c c)) base w' v (M.set i (List.replicate c 0))->Af prog n ((d1,p)::E) w' ops rest Q) :
  Af prog n E w ops (⟨some d1,.indexAddr 25 x I,ty,pos,af,g1⟩::⟨none,.store 33 (.tmp d1) y,ty2,pos2,af2,g2⟩::rest) Q:=by
 have P:=h.rsl;have f:List.replicate c (Value.int .i64 0)=(List.replicate c (0:Int)).map DZ:=by rw[G9]
 obtain⟨g,cap,D,hv,N,m,L,K,C⟩:=DE.setRow h de (i:=i) (r:=.slice (some ⟨b,0,none⟩) c c) (us:=(List.replicate c (0:Int)).map DZ) oo
  ⟨RQ _,.inr ⟨b,c,[],by simp,o,by rw[D7,CO _ (EH _),<- f];exact B,by simp,by simp,by unfold maxLen;omega⟩⟩ rfl rfl
  (fun j s _ A e=>absurd e (q s (Bi A)))
 subst hv;refine Af.put A8 i m t oo sm rfl rfl rfl rfl F l u a z H rfl rfl ?_;intro p w' d k;rw[AE]at d;refine next p w' (G.aj k oo) ?_
 have:=C w' k d;unfold DK;rw[Gx];exact this
theorem Af.putW {v r:Value}{row:List Int}{z:Int}(h:DK rs base w v M) (C:rs[i]?=some r) (b:M[i]?=some row) (s:j<row.length) (L:w0.heap.size<=base) (F:Ac w0 w)
  (m:ov E x=some r) (o:ov E I=some (.int .i64 iv)) (f:iv=j) (G:∀ p,ov ((d1,p)::E) y=some (.int .i64 z)) (t:Bg ops E g1=some true) (B:Nat.blt d1 n=true) (a:∀ p,Bg ops ((d1,p)::E) g2=some true)
  (next:∀ p w',Ac w0 w'->DK rs base w' v (M.set i (row.set j z))->Af prog n ((d1,p)::E) w' ops rest Q) :
  Af prog n E w ops (⟨some d1,.indexAddr 33 x I,ty,pos,af,g1⟩::⟨none,.store 2 (.tmp d1) y,ty2,pos2,af2,g2⟩::rest) Q:=by
 have q:(M.map (fun row=>row.map DZ))[i]?=some (row.map DZ):=by simp[b]
 obtain⟨g,cap,D,hv,K,d,H,J,c⟩:=DE.put h de C q (j:=j) (by simpa using s) (u:=.int .i64 z) ⟨rfl,by simp[Value.cells,Value.oneCell']⟩;rw[CO _ (EH row)]at d c;subst hv;have A:(row.map DZ).length=row.length:=by simp
 rw[A]at m;refine Af.put A8 j d f oo (by rw[Bf];simp) rfl rfl rfl rfl m o t B a G rfl rfl ?_;intro p w' k l;rw[AE]at k;refine next p w' (F.aj l oo) ?_
 have e:Fl (row.map DZ++D) (1 * j) (Value.int .i64 z).cells.toList=(row.map DZ++D).set j (.int .i64 z):=by rw[Cf];rfl
 rw[e]at c;have:=c w' l k;unfold DK;rw[Gx,Gx];exact this
end
theorem DK.bG {B:Nat}{w:World}{V:Value}(h:DK rs B w V M):∀ r ∈ rs,∀ b,w.heap.size<=b->r.ownBlock≠some b:=by intro r d b g e;obtain⟨i,c⟩:=Cx.1 d;have:=DE.cH h c e;omega
def SF (n c i:Nat) (f:Nat->Nat->Int):List (List Int):=(List.range n).map fun a=>if a<i then tab c (f a) else []
theorem Cv (n c i:Nat) (f:Nat->Nat->Int):(SF n c i f).length=n:=by simp[SF]
theorem EX {a:Nat}(d:a<n):(SF n c i f)[a]?=some (if a<i then tab c (f a) else []):=by simp[SF,d]
theorem Nq (n c:Nat) (f:Nat->Nat->Int):SF n c 0 f=List.replicate n []:=by
 apply Fk;intro a;by_cases d:a<n
 ·rw[EX d];simp[d]
 ·rw[BJ (by rw[Cv];omega),BJ (by simp;omega)]
theorem QD (n c:Nat) (f:Nat->Nat->Int):SF n c n f=mk n c f:=by
 apply Fk;intro a;by_cases d:a<n
 ·rw[EX d,BK d,if_pos d];rfl
 ·rw[BJ (by rw[Cv];omega),BJ (by rw[AU];omega)]
theorem G7 {g:Nat->Nat->Int}(h:∀ a b,a<i->b<c->f a b=g a b):SF n c i f=SF n c i g:=by
 unfold SF;apply NY;intro a _;by_cases e:a<i
 ·rw[if_pos e,if_pos e];exact Oi fun b d=>h a b e d
 ·rw[if_neg e,if_neg e]
theorem QE (k:i<n):(SF n c i f).set i (List.replicate c 0)=SF n c (i+1) (fun a b=>if a<i then f a b else 0):=by
 apply Fk;intro a;by_cases e:i=a
 ·subst e;rw[Bx (by rw[Cv];exact k),EX k,if_pos oo];congr 1;apply Fk;intro b;by_cases j:b<c
  ·rw[Mc j,if_neg oo];simp[j]
  ·rw[BJ (by simp;omega),BJ (by rw[D9];omega)]
 ·rw[Ce e];by_cases g:a<n
  ·rw[EX g,EX g];by_cases d:a<i
   ·rw[if_pos d,if_pos oo];congr 1;exact Oi fun b _=>by rw[if_pos d]
   ·rw[if_neg d,if_neg oo]
  ·rw[BJ (by rw[Cv];omega),BJ (by rw[Cv];omega)]
theorem A6Q {g:Nat->Int}{y:Int}(k:j<c):(tab c g).set j y=tab c (fun b=>if b=j then y else g b):=by
 apply Fk;intro b;by_cases e:j=b
 ·subst e;rw[Bx (by rw[D9];exact k),Mc k,if_pos rfl]
 ·rw[Ce e];by_cases d:b<c
  ·rw[Mc d,Mc d,if_neg (Ne.symm e)]
  ·rw[BJ (by rw[D9];omega),BJ (by rw[D9];omega)]
theorem Mf {a:Nat}{y:Int}(g:a<n) (l:a<i) (m:j<c):(SF n c i f).set a ((tab c (f a)).set j y)=SF n c i (Eg f a j y):=by
 apply Fk;intro a';by_cases e:a=a'
 ·subst e;rw[Bx (by rw[Cv];exact g),EX g,if_pos l,A6Q m];congr 1;exact Oi fun b _=>by unfold Eg;by_cases e:b=j <;> simp[e]
 ·rw[Ce e];by_cases k:a'<n
  ·rw[EX k,EX k];by_cases d:a'<i
   ·rw[if_pos d,if_pos d];congr 1;exact Oi fun b _=>by unfold Eg;rw[if_neg oo]
   ·rw[if_neg d,if_neg d]
  ·rw[BJ (by rw[Cv];omega),BJ (by rw[Cv];omega)]
theorem P5 {w:World}{x y:Value}{a b:Int}(c:Dn w x a) (d:Dn w y b) (q:sz a<=100000) (u:sz b<=100000) :
  Calls prog 151 #[x,y] w (AJ fun r w'=>Ac w w'/\Bk 0 w' r (Rat.divInt a b)):=by refine cS func151 ntmps151 ?_;refine Nv ?_;refine .s (oB) ?_;rintro _ w1 ⟨rfl,B1,l,i⟩;refine .s (oB) ?_;rintro _ w2 ⟨rfl,B2,g,n⟩;refine .s (oA) ?_;rintro _ w3 ⟨rfl,B3,j,A⟩;have e:Ac w w3:=(l.trans g).trans j;replace B1:=(B1.ext g).ext j;replace B2:=B2.ext j;replace c:=c.ext e;replace d:=d.ext e;have h:=(l.trans g).size;clear l g j;refine A7 ?_;refine .p (rI (B1) (c.r2)) ?_;refine .p (rI (B2) (d.r2)) ?_;refine .p (A0.bK rfl rfl c.r2 d.r2) ?_;have v:DnS w3 (mkR x y) (Rat.divInt a b):=⟨A1a c.r2 d.r2,a,b,by rw[A18 c.r2];exact c,by rw[A19 d.r2];exact d,rfl,q,u⟩;refine .s (oK DP (DT v)) ?_;rintro z C ⟨m,k⟩;replace B3:=B3.ext m;replace e:=e.trans m;clear m;refine Af.aT rfl rfl rfl k.1 B3 rfl e oo ?_;intro B o t f;refine A7 ?_;exact Ad.bA rfl rfl o k.1 ⟨f,k.upd t B3 de⟩
theorem ZP {w:World}{v:Value}{n:Nat}{f:Nat->Nat->Int}(h:MI w v (mk n n f)) (t:1<=n/\n<=16) (S:∀ a b,a<n->b<n->-9223372036854775808<=f a b/\f a b<=9223372036854775807) :
  Calls prog 102 #[v] w (AJ fun x w'=>Ac w w'/\∃ u,x=.tuple #[u,.bool true]/\Ft w' u (mk n n f)):=by
 obtain⟨a,cap,hv,F⟩:=h.mp t.1 t.1;refine cS func102 ntmps102 ?_;refine A7 ?_;refine .s (oK Hx (K5 h t t)) ?_;rintro _ w1 ⟨N,rfl⟩;subst hv;replace F:=F.ext N;refine A7 ?_;refine .cf ?_;refine .s (Av.make A8 n rfl rfl rfl rfl rfl rfl rfl rfl (by show n * 24<=_;omega) oo) ?_;rintro _ w2 ⟨rfl,B,O,hc⟩;have E:=QC (base:=w1.heap.size) AO oo B;rw[<- Nq n n f]at E;refine A7 ?_;refine H6 (24) (0) (n) [(0,.slice (some a) n cap),(5,.int .i64 n),(7,.slice (some ⟨w1.heap.size,0,none⟩) n n),(23,.int .i64 n)] (fun i w'=>Ac w1 w'/\∃ rs,DK rs w1.heap.size w' (.slice (some ⟨w1.heap.size,0,none⟩) n n) (SF n n i f)) ?_ ?_ ?_
 ·exact⟨O,_,E⟩
 ·clear E B O hc;rintro i w3 d ⟨A,rs,k⟩;refine A7 ?_;refine .s (Av.make A8 n rfl rfl rfl rfl rfl rfl rfl rfl (by show n * 8<=_;omega) oo) ?_;rintro _ w4 ⟨rfl,B4,G,he⟩;refine Af.dD (w0:=w1) (k.ext G) (by rw[Cv];exact d) AO (A.trans G) B4 A.size (fun r V=>k.bG r V _ AO) oo rfl rfl rfl (fun _=>rfl) rfl rfl (fun _=>rfl) ?_;intro p5 w5 m c;rw[QE d]at c;obtain⟨a3,rr,ea,_,l,q⟩:=c.rowAt (i:=i) (by rw[Cv];exact d);cases ea;generalize M:rs.set i (.slice (some ⟨w3.heap.size,0,none⟩) n n)=rs5 at c l;have X:rr=.slice (some ⟨w3.heap.size,0,none⟩) n n:=by have W:=k.rsl;rw[Cv]at W;rw[<- M,Bx oo]at l;simpa using l.symm
  subst X;clear M k G B4;refine A7 ?_;refine .p (A0.ia) ?_;refine .p (rL q) ?_;refine A7 ?_;refine H6 (37) (0) (n) [(0,.slice (some a) n cap),(5,.int .i64 n),(7,.slice (some ⟨w1.heap.size,0,none⟩) n n),(23,.int .i64 n),(24,.int .i64 i),(8,.int .i64 i),(36,.int .i64 n)] (fun j w'=>Ac w1 w'/\DK rs5 w1.heap.size w' (.slice (some ⟨w1.heap.size,0,none⟩) n n) (SF n n (i+1) (JM f i j))) ?_ ?_ ?_
  ·refine⟨m,?_⟩;rw[G7 (g:=fun a b=>if a<i then f a b else 0)]
   ·exact c
   ·intro a b I J;unfold JM;by_cases e:a<i
    ·rw[if_pos (.inl e),if_pos e]
    ·rw[if_neg oo,if_neg e]
  ·clear c q m;rintro j w5 z ⟨m,c⟩;obtain⟨b,o,cp,R,e,C,P,U⟩:=(F.ext m) i d;obtain⟨y,K,k1,k2⟩:=U j z;have T:=S i j d z;refine A7 ?_;refine .p (A0.ia) ?_;refine .p (rL R) ?_;refine .r rfl ?_;refine .p (rJ oo) ?_;refine .p (A0.aH rfl P k1 k2 K.r2) ?_;refine .s (oK JB (Oh K)) ?_;rintro _ w6 ⟨D,rfl⟩;unfold Je;rw[if_pos T];refine A7 ?_;refine .cF ?_;replace c:=c.ext D;have Y:=m.trans D;obtain⟨a3,hh,ea,_,L,q⟩:=c.rowAt (i:=i) (by rw[Cv];exact d);cases ea;rw[l]at L;cases L;refine A7 ?_;refine .p (A0.ia) ?_;refine .p (rL q) ?_;refine .r rfl ?_;refine Af.putW (w0:=w1) c l (EX d) (j:=j) (by rw[if_pos oo,D9];exact z) AO Y rfl rfl rfl (fun _=>rfl) rfl rfl (fun _=>rfl) ?_;intro p7 w7 Z H;rw[if_pos oo,Mf d oo z]at H;refine Nv ?_;refine Ad.rnd AL ⟨Z,?_⟩;rw[G7 (g:=Eg (JM f i j) i j (f i j))]
   ·exact H
   ·intro a b I J;unfold Eg JM;by_cases e:a=i/\b=j
    ·rw[if_pos e,if_pos oo,e.1,e.2]
    ·rw[if_neg e];by_cases e2:a<i\/a=i/\b<j
     ·rw[if_pos e2,if_pos oo]
     ·rw[if_neg e2,if_neg oo]
  ·rintro w6 ⟨D,Q⟩;refine Nv ?_;refine Ad.rnd AL ⟨D,rs5,?_⟩;rw[G7 (g:=JM f i n)]
   ·exact Q
   ·intro a b I J;unfold JM;rw[if_pos oo]
 ·rintro w3 ⟨A,rs,k⟩;rw[QD]at k;refine A7 ?_;exact Ad.aC A8 [_,_] rfl ⟨rfl,rfl,trivial⟩ ⟨N.trans A,_,rfl,k.m64⟩
theorem A8b (q:Rat):sz q.floor<=rz q:=by rw[Rat.floor_def];exact Ar (V3 _ _) (Ez q)
def X5 (A:Nat->Ej) (i j:Nat):Rat:=BB A j i j / dd A (j+1)
def cR (A:Nat->Ej) (i j:Nat):Int:=-((X5 A i j+Rat.divInt 1 2).floor)
def A2q (A:Nat->Ej) (i:Nat):Prop:=(∀ x y,x<i->y<x->Ok A x y)/\∀ x,0<x->x<i->Ww A x
def A7C (n:Nat) (f:Nat->Nat->Int) (g:Nat->Nat->Int) (i j:Nat):Prop:=j<i/\i<n/\A2q (RA f) i/\(∀ y,j<y->y<i->Ok (RA f) i y)/\¬ Ok (RA f) i j/\g=Eg Ti j i (cR (RA f) i j)
def A7D (n:Nat) (f:Nat->Nat->Int) (g:Nat->Nat->Int) (i:Nat):Prop:=0<i/\i<n/\A2q (RA f) i/\(∀ y,y<i->Ok (RA f) i y)/\¬ Ww (RA f) i/\g=swF i (i - 1) Ti
theorem A3A {w:World}{v:Value}{n s:Nat}{f:Nat->Nat->Int}(h:MI w v (mk n n f)) (p:1<=n/\n<=16) (V:∀ a b,a<n->b<n->sz (f a b)<=s) (W:1<=s) (hb:2 ^ n * (s+1)<=40000) (S:PD n f) :
  Calls prog 101 #[v] w (AJ fun x w'=>Ac w w'/\((RdP n (RA f)/\x=.tuple #[.slice none 0 0,.bool false])\/∃ u rs g,x=.tuple #[u,.bool true]/\BH rs 0 w' u (mk n n g)/\((∃ i j,A7C n f g i j)\/∃ i,A7D n f g i))):=by
 have Q:2 ^ n * (s+1)<=100000:=by omega
 have ke:2<=2 ^ n * (s+1):=Ar (show 2<=1 * 2 by decide) (Dg Nat.one_le_two_pow oo);obtain⟨a,cap,hv,_⟩:=h.mp p.1 p.1;refine Sj (args:=[_]) func101 rfl ntmps101 rfl ?_;refine A7 ?_;refine .s (Av.call FK rfl (HB h p V W Q)) ?_;rintro _ w1 ⟨Z,u,dl,rfl,I,Y,K⟩;replace K:=Mnr.of S K;subst hv;refine A7 ?_;refine .s (Av.call Mt rfl (P2 (base:=w1.heap.size) w1 n p AO)) ?_;rintro _ w2 ⟨L,t,rs,rfl,P⟩;obtain⟨g,cp,rfl⟩:=P.addr p.1;replace I:=I.ext L;have hh:=Z.trans L;have ki:=L.size;replace h:=h.ext hh;refine A7 ?_;refine St.rng A8 (23) (0) (n) oo [(0,.slice (some a) n cap),(4,u),(6,.slice (some ⟨g,0,none⟩) n cp),(22,.int .i64 n)] (fun i w'=>Ac w2 w'/\A2q (RA f) i) AL ?_ (fun _=>⟨rfl,rfl⟩) (fun _=>rfl) (fun _=>⟨rfl,rfl⟩) rfl rfl oo ?_ ?_
 ·exact⟨Ac.refl _,fun x y hx=>by omega,fun x c o=>by omega⟩
 ·rintro i w3 B ⟨l,G⟩;refine Nv ?_;refine .r rfl ?_;refine Nv ?_;refine .a 3 (.int .i64 ((i:Int) - 1)) rfl (by rw[Ab oo oo]) ?_;refine Nv ?_;refine St.loop (fun m:Nat=>[(23,.int .i64 i),(8,.int .i64 i),(0,.slice (some a) n cap),(4,u),(6,.slice (some ⟨g,0,none⟩) n cp),(22,.int .i64 n),(9,.int .i64 ((m:Int) - 1))])
   (fun m w'=>Ac w2 w'/\m<=i/\∀ y,m<=y->y<i->Ok (RA f) i y) (fun m=>m) i AL ⟨l,Ai _,fun y c o=>by omega⟩ ?_
  clear l;rintro m w3 ⟨l,kh,X⟩;refine Nv ?_;by_cases hm:0<m
  ·obtain⟨j,rfl⟩:∃ j,m=j+1:=⟨m - 1,by omega⟩;rw[show (((j+1:Nat):Int) - 1)=(j:Int) by omega];refine .a 2 (.bool true) rfl (Aa oo) ?_;refine A7 ?_;refine .ct ?_;refine .s (Av.call Ql rfl (Vh (h.ext l) p V W Q S (I.ext l) K Y B (j:=j) oo)) ?_;rintro _ w4 ⟨M,b,rfl,J⟩;replace l:=l.trans M;clear M;cases b
   ·refine A7 ?_;refine .cT ?_;have h6:¬ Ok (RA f) i j:=fun h=>by have:=J.2 h;cases this
    obtain⟨a3,rr,ea,h8,hq⟩:=(P.ext l).rowAt (i:=j) oo;cases ea;have ho:=I.ext l;have h4:=h.ext l;have z1:=ZO Y oo (k:=j+1) oo;refine Nv ?_;refine St.sub (E':=[(9,.int .i64 j),(8,.int .i64 i),(0,.slice (some a) n cap),(4,u),(6,.slice (some ⟨g,0,none⟩) n cp)]) ?_ AL;refine St.flow 16 Dv kr rfl kr rfl True.intro ?_;refine .q ?_;refine .on (fun _ _=>A0.ia) ?_;refine .on (fun _ F=>A0.load A8 rfl rfl rfl (F.aq.cell hq)) ?_;refine .q ?_;refine FL.au KF (ψ:=fun x w'=>∃ d:Int,Ao 0 w' x d/\sz d<=2 ^ n * (s+1)/\(d:Rat)=BB (RA f) j i j) rfl rfl rfl (fun O C=>Gj.mk rfl ((Np (h4.ext C) p V W Q B (j:=j) oo).mono ?_)) (fun _ _ _ F ⟨d,c,o⟩=>⟨d,c.rg F,o⟩) ?_
    ·rintro e w6 ⟨x,rfl,H,d,c,o,h3⟩;exact⟨x,rfl,H,d,c,o,h3 (S.gd oo)⟩
    refine FL.as A8 3 (.int .i64 ((j+1:Nat):Int)) rfl (Bv oo) ?_;refine FL.au G5 rfl rfl rfl (fun O C=>Gj.mk rfl (Ic (ho.ext C) (k:=j+1) oo p.2)) (Am.aF 0 _) ?_;refine FL.au Mv (ψ:=fun x w'=>Bk 0 w' x (X5 (RA f) i j)/\rz (X5 (RA f) i j)<=40000) rfl rfl rfl (fun O C t1 c t2 o=>?_) (fun _ _ _ F ⟨c,o⟩=>⟨c.rg F,o⟩) ?_
    ·obtain⟨d,hr,kg,ht⟩:=c;refine Gj.mk rfl ((P5 (hr.dn oo) (o.dn oo) oo oo).mono ?_);rintro e w6 ⟨x,rfl,H,c⟩;have e1:Rat.divInt d (dI dl (j+1))=X5 (RA f) i j:=by rw[Q4,ht,K.dI oo];rfl
     have e2:=JK d (dI dl (j+1));rw[e1]at c e2;exact⟨x,rfl,H,c,by omega⟩
    refine FL.au UA (ψ:=fun x w'=>Ao 0 w' x (X5 (RA f) i j+Rat.divInt 1 2).floor/\rz (X5 (RA f) i j)<=40000) rfl rfl rfl (fun O C t1 c=>?_) (fun _ _ _ F ⟨c,o⟩=>⟨c.rg F,o⟩) ?_
    ·refine Gj.mk rfl ((Vg (c.1.dnS oo) c.2).mono ?_);rintro e w6 ⟨x,rfl,H,o⟩;exact⟨x,rfl,H,o,c.2⟩
    refine FL.au I4 (ψ:=fun x w'=>Ao 0 w' x (cR (RA f) i j)) rfl rfl rfl (fun O C t1 c=>?_) (Am.aF 0 _) ?_
    ·refine Gj.mk rfl (Og (base:=0) (c.1.dn ?_) BI);have e1:=A8b (X5 (RA f) i j+Rat.divInt 1 2);have e2:=XW (X5 (RA f) i j) (Rat.divInt 1 2);have e3:=A2n;have e4:=c.2;omega
    refine FL.aG rfl ?_;rintro O C z hz _ _ _ _ _ _ _ _ _ _;refine Af.dL (w0:=w1) ((P.ext l).ext C) h8 (BK oo) (j:=i) (by simp;omega) hz ((L.trans l).trans C) AO rfl rfl rfl (fun _=>rfl) rfl rfl (fun _=>rfl) ?_;intro p6 w6 H hc;rw[K4 oo B]at hc;refine A7 ?_;exact Ad.aC A8 [_,_] rfl ⟨rfl,rfl,trivial⟩ ⟨Z.trans H,.inr ⟨_,rs,_,rfl,hc.mono BI,.inl ⟨i,j,by omega,B,G,fun y c o=>X y oo o,h6,rfl⟩⟩⟩
   ·refine A7 ?_;refine .cF ?_;refine Nv ?_;refine .a 3 (.int .i64 ((j:Int) - 1)) rfl (by rw[Ab oo oo]) ?_;refine Nv ?_;refine Ad.again j AL ⟨l,by omega,fun y c o=>?_⟩ oo;by_cases e:y=j
    ·rw[e];exact J.1 rfl
    ·exact X y oo o
  ·obtain rfl:m=0:=by omega
   refine .a 2 (.bool false) rfl (by rfl) ?_;refine A7 ?_;refine .cF ?_;have hg:∀ y,y<i->Ok (RA f) i y:=fun y N=>X y BI N;refine Nv ?_;by_cases h0:0<i
   ·refine .a 2 (.bool true) rfl (Aa oo) ?_;refine .r rfl ?_;refine .s (Av.call OO rfl (SE (h.ext l) p V W Q S (I.ext l) K Y B h0)) ?_;rintro _ w4 ⟨M,b,rfl,J⟩;replace l:=l.trans M;clear M;cases b
    ·refine A7 ?_;refine .cT ?_;have h5:¬ Ww (RA f) i:=fun h=>by have:=J.2 h;cases this
     have A:=P.ext l;have h7:=A.rsl;rw[AU]at h7;obtain⟨q,rfl⟩:∃ q,i=q+1:=⟨i - 1,by omega⟩;obtain⟨x,T⟩:∃ x,rs[q+1]?=some x:=⟨rs[q+1]'oo,by simp⟩;obtain⟨y,U⟩:∃ y,rs[q]?=some y:=⟨rs[q]'oo,by simp⟩;obtain⟨kf,D,E⟩:=A.outer p.1;have hk:=A.one x (Bi T);have hl:=A.one y (Bi U);have kc:x.oneCell'=true:=by obtain⟨R,q1,_⟩:=A;have:=(q1.1.1 x (Bi T)).2;rw[hk]at this;exact this x sm
     have kd:y.oneCell'=true:=by obtain⟨R,q1,_⟩:=A;have:=(q1.1.1 y (Bi U)).2;rw[hl]at this;exact this y sm
     have he:(rs++D)[q+1]?=some x:=by rw[BM oo];exact T
     have hf:(rs++D)[q]?=some y:=by rw[BM oo];exact U
     have hw:IntKind.i64.wrap (((q+1:Nat):Int) - 1)=(q:Int):=by rw[Ab oo oo];omega
     refine Nv ?_;refine St.sub (E':=[(8,.int .i64 ((q+1:Nat):Int)),(6,.slice (some ⟨g,0,none⟩) n cp)]) ?_ AL;refine St.any Dv rfl ?_;intro w8 ha _ _;replace E:=E.ext ha;replace A:=A.ext ha;have kb:=(L.trans l).trans ha;refine WA.takes (fuel:=10) A8 kr (fun _ _ _ _ _ h=>h) [0,1,2,3,4,5,6,7] kr rfl ?_;simp only[hw];refine WA.take 8 rfl rfl kr kr kr (fun _ _ _ h=>h) rfl rfl (fun w=>A0.ia) ?_;refine WA.takes (fuel:=7) A8 kr (fun _ _ _ _ _ h=>h) [10,11] kr rfl ?_;refine WA.take 12 rfl rfl kr kr kr (fun _ _ _ h=>h) rfl rfl (fun w=>A0.ia) ?_;simp only[Cj,Ak,AE];refine WA.meet 4 #[true,true,true,true,true,true,true,true,true,true,true,true,true,true,false,false,false,false] (fun _:Unit=>[(6,.slice (some ⟨g,0,none⟩) n cp),(65,.slice (some ⟨g,0,none⟩) n cp),(66,.int .i64 ((q+1:Nat):Int)),(67,.slice (some ⟨g,0,none⟩) n cp),(69,.int .i64 q),(74,y),(78,x)]) (fun _ w'=>w'=w8) ?_ ?_
     ·rintro _ w8 rfl;refine WA.one (i:=14) kr (Ed.val rfl rfl rfl rfl (A0.ia).op ?_);rintro _ _ ⟨rfl,rfl⟩;simp only[Cj,Ak,AE];refine WA.one (i:=15) kr (Ed.eff rfl rfl rfl (Av.store A8 (vs:=[y]) rfl rfl rfl (by rw[hl]) rfl E (by simp;omega) (by simpa using kd)) ?_);rintro _ w9 ⟨hp,ka⟩;refine WA.one (i:=16) kr (Ed.val rfl rfl rfl rfl (A0.ia).op ?_);rintro _ _ ⟨rfl,rfl⟩;simp only[Cj,Ak,AE];refine WA.one (i:=17) kr (Ed.eff rfl rfl rfl (Av.store A8 (vs:=[x]) rfl rfl rfl (by rw[hk]) rfl hp (by simp[Fl];omega) (by simpa using kc)) ?_);rintro _ kj ⟨hd,h9⟩;refine WA.done kr ?_;have hu:=ka.trans h9;have e2:Fl (Fl (rs++D) (q+1) [y]) q [x]=(rs.set (q+1) y).set q x++D:=by simp only[Fl];rw[NR _ _ oo,NR _ _ (by simp;omega)]
      rw[e2]at hd;have hM:=A.swapC (i:=q+1) (j:=q) oo B oo T U rfl E hu hd;refine A7 ?_;exact Ad.aC A8 [_,_] rfl ⟨rfl,rfl,trivial⟩ ⟨Z.trans (kb.aj hu oo),.inr ⟨_,_,_,rfl,hM.mono BI,.inr ⟨q+1,by omega,B,G,hg,h5,rfl⟩⟩⟩
     ·intro meet;refine WA.two (i:=9) (j:=13) kr ?_ ?_
      ·refine Ed.val rfl rfl rfl rfl (A0.load A8 rfl rfl rfl (E.cell hf)).op ?_;rintro _ _ ⟨rfl,rfl⟩;refine WA.one (i:=13) kr (Ed.val rfl rfl rfl rfl (A0.load A8 rfl rfl rfl (E.cell he)).op ?_);rintro _ _ ⟨rfl,rfl⟩;exact meet () _ _ _ kr rfl AL
      ·refine Ed.val rfl rfl rfl rfl (A0.load A8 rfl rfl rfl (E.cell he)).op ?_;rintro _ _ ⟨rfl,rfl⟩;refine WA.one (i:=9) kr (Ed.val rfl rfl rfl rfl (A0.load A8 rfl rfl rfl (E.cell hf)).op ?_);rintro _ _ ⟨rfl,rfl⟩;exact meet () _ _ _ kr rfl AL
    ·refine A7 ?_;refine .cF ?_;refine Nv ?_;refine Ad.rnd AL ⟨l,?_,?_⟩
     ·intro x y hx N;by_cases e:x=i
      ·subst e;exact hg y N
      ·exact G.1 x y oo N
     ·intro x c o;by_cases e:x=i
      ·rw[e];exact J.1 rfl
      ·exact G.2 x c oo
   ·refine .a 2 (.bool false) rfl (A9 oo) ?_;refine A7 ?_;refine .cF ?_;refine Nv ?_;exact Ad.rnd AL ⟨l,fun x y hx N=>by omega,fun x c o=>by omega⟩
 ·rintro w3 ⟨l,G⟩;refine A7 ?_;exact Ad.aC A8 [_,_] rfl ⟨rfl,rfl,trivial⟩ ⟨hh.trans l,.inl ⟨⟨fun i j B hj=>G.1 i j B hj,fun i c o=>G.2 i c o⟩,rfl⟩⟩
end Go.Qf
namespace Go.Qf
theorem Mg (x:Rat):0<=x * x:=by
 rcases Gc (a:=0) (b:=x) with h | h
 ·exact Br h h
 ·have:0<=(-x) * (-x):=Br (by grind) (by grind);grind
theorem K6 {a b:Rat}(c:0<a) (h:0<a * b):0<b:=by
 rcases Gc (a:=b) (b:=0) with h1 | h1
 ·have:0<=a * (-b):=Br (by grind) (by grind);grind
 ·by_cases e:b=0
  ·subst e;rw[LV]at h;exact absurd h (by grind)
  ·grind
theorem A2r {a b c:Rat}(d:0<a) (h:b<c):a * b<a * c:=by have:=Iz d (show 0<c - b by grind);grind
theorem Ch {a b c:Rat}(d:0<=a) (h:b<=c):a * b<=a * c:=by have:=Br d (show 0<=c - b by grind);grind
theorem Ol {a b c:Rat}(d:0<a) (h:a * b<=a * c):b<=c:=by
 rcases Gc (a:=b) (b:=c) with h1 | h1
 ·exact h1
 ·by_cases e:b=c
  ·rw[e];exact EQ
  ·have:=A2r d (show c<b by grind);grind
theorem Nr {a:Rat}(h:0<a):0<a⁻¹:=by have:=Gb a (by grind);exact K6 h (by rw[this];decide)
def Ld (n:Nat) (A:Nat->Ej):Prop:=∀ m,m<=n->0<dd A m
section
variable {n:Nat}{A:Nat->Ej}
theorem Fw (A:Nat->Ej) (k:Nat):dd A (k+1)=dd A k * EL A k k k:=rfl
theorem CI (h:Ld n A) {k:Nat}(d:k<n):0<EL A k k k:=by have c:=h (k+1) oo;rw[Fw]at c;exact K6 (h k oo) c
theorem QG (c:PE A) (k i:Nat):EL A (k+1) i i=EL A k i i - EL A k i k * EL A k i k * (EL A k k k)⁻¹:=by rw[Cn,RP c k k i]
theorem A6R (c:PE A) (h:Ld n A) {k:Nat}(d:k<n) (i:Nat):EL A (k+1) i i<=EL A k i i:=by rw[QG c];have e:=Br (Mg (EL A k i k)) (Bz (Nr (CI h d)));grind
theorem ZQ (g:PE A) (h:Ld n A) (i:Nat):∀ (d k:Nat),k+d<=n->EL A (k+d) i i<=EL A k i i:=by
 intro d;induction d with
 | zero=>intro k _;exact EQ
 | succ d ih =>
  intro k j;have c:=ih k oo;have e:=A6R g h (k:=k+d) oo i;exact Ga e c
theorem FO (d:PE A) (h:Ld n A) {k i:Nat}(e:i<n) (j:k<=i):0<EL A k i i:=by have c:=ZQ d h i (i - k) k oo;rw[show k+(i - k)=i by omega]at c;have g:=CI h e;grind
theorem A7E (d:PE A) (h:Ld n A) {k q:Nat}(j:q<n) (m:k<q):EL A k q k * EL A k q k<=EL A k q q * EL A k k k:=by
 have c:=FO d h j (show k+1<=q by omega);rw[QG d]at c;have hB:=CI h (show k<n by omega);have l:=Gb _ (show EL A k k k≠0 by grind);have e:=Iz c hB;have g:(EL A k q q - EL A k q k * EL A k q k * (EL A k k k)⁻¹) * EL A k k k=EL A k q q * EL A k k k - EL A k q k * EL A k q k:=by grind
 rw[g]at e;grind
theorem A2s (c:PE A) (h:Ld n A) {k:Nat}(d:k<=n) (i:Nat):EL A k i i<=A i i:=by have:=ZQ c h i k 0 oo;rw[AE]at this;exact this
theorem A7F (c:PE A) (h:Ld n A) {i j:Nat}(e:i<n) (g:j<i):EL A j i j * EL A j i j<=A i i * EL A j j j:=by have k:=A7E c h e g;have d:=A2s c h (show j<=n by omega) i;have l:=Ch (Bz (CI h (show j<n by omega))) d;grind
theorem Vj (d:PE A) (h:Ld n A) {i j:Nat}(k:i<n) (l:j<i) (c:Rat):0<A i i+2 * c * A i j+c * c * A j j:=by
 have q:EL A j j j≠0:=by have:=CI h (show j<n by omega);grind
 have g:Ld n (Ve c i j A):=fun m o=>by rw[Jg l A q];exact h m o
 have:=FO (A2o d) g k BI;have e:EL (Ve c i j A) 0 i i=Ve c i j A i i:=rfl;rw[e,Yb,d j i]at this;grind
theorem RR (c:PE A) (h:Ld n A) {i j:Nat}(d:i<n) (e:j<i) {M:Rat}(g:A i i<=M) (k:A j j<=M):A i j<=M/\-M<=A i j:=by have p:=Vj c h d e 1;have q:=Vj c h d e (-1);constructor <;> grind
theorem A1v (o:PE A) (h:Ld n A) {i:Nat}(q:i<n) {D:Rat}(c:∀ k,k<n->EL A k k k<=D) (u:∀ k,k<i->2 * EL A k i k<=EL A k k k/\-(2 * EL A k i k)<=EL A k k k):∀ (d k:Nat),k+d=i->EL A k i i<=((d+1:Nat):Rat) * D:=by
 intro d;induction d with
 | zero =>
  intro k r;have:k=i:=by omega
  subst this;have:=c k q;have e:((0+1:Nat):Rat)=1:=rfl;rw[e];grind
 | succ d ih =>
  intro k r;have g:=ih (k+1) oo;have v:=u k oo;have hB:=CI h (show k<n by omega);have y:=c k oo;rw[QG o]at g;have j:EL A k i k * EL A k i k<=EL A k k k * EL A k k k:=by have a1:=Br (show 0<=EL A k k k - EL A k i k by grind) (show 0<=EL A k k k+EL A k i k by grind);grind
  have z:=Gb _ (show EL A k k k≠0 by grind);have l:=Ch (Bz (Nr hB)) j;have m:(EL A k k k)⁻¹ * (EL A k k k * EL A k k k)=EL A k k k:=by grind
  rw[m]at l;have e:((d+1+1:Nat):Rat)=((d+1:Nat):Rat)+1:=by rw[U1];rfl
  rw[e];grind
end
end Go.Qf
namespace Go.Qf
def Gg:Nat->(Nat->Rat)->Rat
 | 0,_=>0
 | n+1,g=>Gg n g+g n
theorem K7 {n:Nat}{f g:Nat->Rat}(h:∀ i,i<n->f i=g i):Gg n f=Gg n g:=by
 induction n with
 | zero=>rfl
 | succ n ih=>simp only[Gg];rw[ih (fun i hi=>h i oo),h n oo]
theorem ZR (n:Nat) (f g:Nat->Rat):Gg n (fun i=>f i - g i)=Gg n f - Gg n g:=by
 induction n with
 | zero=>simp only[Gg];grind
 | succ n ih=>simp only[Gg];rw[ih];grind
theorem ZS (n:Nat) (c:Rat) (f:Nat->Rat):Gg n (fun i=>f i * c)=Gg n f * c:=by
 induction n with
 | zero=>simp only[Gg];grind
 | succ n ih=>simp only[Gg];rw[ih];grind
theorem X6 {n:Nat}{f:Nat->Rat}(h:∀ i,i<n->f i=0):Gg n f=0:=by
 induction n with
 | zero=>rfl
 | succ n ih=>simp only[Gg];rw[ih (fun i hi=>h i oo),h n oo];grind
theorem A6S {n:Nat}{f:Nat->Rat}{b:Rat}(h:∀ i,i<n->f i<=b/\-b<=f i):Gg n f<=(n:Rat) * b/\-((n:Rat) * b)<=Gg n f:=by
 induction n with
 | zero=>simp only[Gg];have:((0:Nat):Rat)=0:=rfl;rw[this];constructor <;> grind
 | succ n ih =>
  have h1:=ih (fun i hi=>h i oo);have h2:=h n oo;have e:((n+1:Nat):Rat)=(n:Rat)+1:=by rw[U1];rfl
  simp only[Gg];rw[e];constructor <;> grind
theorem A57 {n k:Nat}(hk:k<n) (f:Nat->Rat):Gg n f=f k+Gg n (fun i=>if i=k then 0 else f i):=by
 induction n with
 | zero=>omega
 | succ n ih =>
  simp only[Gg];by_cases e:k=n
  ·subst e;rw[if_pos rfl,K7 (g:=fun i=>if i=k then 0 else f i) (fun i hi=>by rw[if_neg oo])];grind
  ·rw[if_neg (Ne.symm e),ih oo];grind
section
variable {n:Nat}{A:Nat->Ej}
theorem A2t (h:Ld n A) (p:Nat):∀ k,p<k->k<=n->∀ q,EL A k p q=0:=by
 intro k;induction k with
 | zero=>intro h1;omega
 | succ k ih =>
  intro h1 h2 q;rw[Cn];by_cases e:p=k
  ·subst e;have:=Gb _ (show EL A p p p≠0 by have:=CI h (show p<n by omega);grind);grind
  ·rw[ih oo oo,ih oo oo];grind
def YX (n:Nat) (A:Nat->Ej) (k:Nat) (x:Nat->Rat):Rat:=Gg n (fun q=>EL A k k q * x q)
def QF (n:Nat) (A:Nat->Ej) (k:Nat) (x:Nat->Rat):Rat:=Gg n (fun p=>Gg n (fun q=>EL A k p q * x q) * x p)
theorem A2u (hS:PE A) (k:Nat) (x:Nat->Rat):QF n A (k+1) x=QF n A k x - YX n A k x * YX n A k x * (EL A k k k)⁻¹:=by
 unfold QF;have h1:∀ p,Gg n (fun q=>EL A (k+1) p q * x q)=Gg n (fun q=>EL A k p q * x q) - EL A k p k * (EL A k k k)⁻¹ * YX n A k x:=by
  intro p;have e:∀ q,EL A (k+1) p q * x q=EL A k p q * x q - EL A k k q * x q * (EL A k p k * (EL A k k k)⁻¹):=by intro q;rw[Cn];grind
  rw[K7 (fun q _=>e q),ZR,ZS];unfold YX;grind
 have h2:∀ p,Gg n (fun q=>EL A (k+1) p q * x q) * x p=Gg n (fun q=>EL A k p q * x q) * x p - EL A k k p * x p * ((EL A k k k)⁻¹ * YX n A k x):=by intro p;rw[h1,RP hS k p k];grind
 rw[K7 (fun p _=>h2 p),ZR,ZS];unfold YX;grind
theorem A6T (h:Ld n A) (x:Nat->Rat):QF n A n x=0:=by unfold QF;refine X6 fun p hp=>?_;rw[X6 fun q _=>by rw[A2t h p n hp AO];grind];grind
theorem A2v (hS:PE A) (h:Ld n A) {k:Nat}(hk:k<n) (x:Nat->Rat):QF n A (k+1) x<=QF n A k x:=by rw[A2u hS];have:=Br (Mg (YX n A k x)) (Bz (Nr (CI h hk)));grind
theorem X7 (hS:PE A) (h:Ld n A) (x:Nat->Rat):∀ (d k:Nat),k+d=n->0<=QF n A k x:=by
 intro d;induction d with
 | zero=>intro k hk;rw[show k=n by omega,A6T h];exact EQ
 | succ d ih=>intro k hk;exact Ga (ih (k+1) oo) (A2v hS h oo x)
theorem A8c (hS:PE A) (h:Ld n A) (x:Nat->Rat):∀ k,k<=n->QF n A k x<=QF n A 0 x:=by
 intro k;induction k with
 | zero=>intro _;exact EQ
 | succ k ih=>intro hk;exact Ga (A2v hS h oo x) (ih oo)
theorem A8d (hS:PE A) (h:Ld n A) {k:Nat}(hk:k<n) (x:Nat->Rat):YX n A k x * YX n A k x<=QF n A 0 x * EL A k k k:=by
 have h1:=X7 hS h x (n - (k+1)) (k+1) oo;rw[A2u hS]at h1;have h2:=A8c hS h x k oo;have hB:=CI h hk;have h3:=Gb _ (show EL A k k k≠0 by grind);have h4:=Br h1 (Bz hB);have h5:(QF n A k x - YX n A k x * YX n A k x * (EL A k k k)⁻¹) * EL A k k k=QF n A k x * EL A k k k - YX n A k x * YX n A k x:=by grind
 rw[h5]at h4;have h6:=Ch (Bz hB) h2;grind
def bet (D Y S:Rat):Nat->Rat
 | 0=>0
 | m+1=>D * (Y+S * bet D Y S m)
theorem A58 {D Y S:Rat}(hD:1<=D) (hY:0<=Y) (hS:1<=S):∀ m,0<=bet D Y S m/\bet D Y S m<=bet D Y S (m+1):=by
 intro m;have key:∀ b:Rat,0<=b->b<=D * (Y+S * b):=by intro b hb;have h1:=Ch hb hS;have h2:=Br (show 0<=D - 1 by grind) (show 0<=Y+S * b by grind);grind
 induction m with
 | zero =>
  refine⟨EQ,?_⟩;exact key 0 EQ
 | succ m ih =>
  have h0:0<=bet D Y S (m+1):=Ga ih.1 ih.2;exact⟨h0,key _ h0⟩
theorem A59 {x Y:Rat}(h:x * x<=Y) (hY:1<=Y):x<=Y/\-Y<=x:=by
 constructor
 ·rcases Gc (a:=x) (b:=1) with h1 | h1
  ·grind
  ·have:=Br (show 0<=x by grind) (show 0<=x - 1 by grind);grind
 ·rcases Gc (a:=-1) (b:=x) with h1 | h1
  ·grind
  ·have:=Br (show 0<=-x by grind) (show 0<=-x - 1 by grind);grind
theorem A3B {x M:Rat}(h:x * x<=M * M) (hM:0<=M):x<=M/\-M<=x:=by
 constructor
 ·rcases Gc (a:=x) (b:=M) with h1 | h1
  ·exact h1
  ·by_cases e:x=M
   ·rw[e];exact EQ
   ·have a1:=Iz (show 0<x - M by grind) (show 0<x by grind);have a2:=Br (show 0<=x - M by grind) hM;grind
 ·rcases Gc (a:=-M) (b:=x) with h1 | h1
  ·exact h1
  ·by_cases e:x=-M
   ·rw[e];exact EQ
   ·have a1:=Iz (show 0 < -x - M by grind) (show 0 < -x by grind);have a2:=Br (show 0<=-x - M by grind) hM;grind
theorem Yh {a b M c:Rat}(h1:a<=M/\-M<=a) (h2:b<=c/\-c<=b):a * b<=M * c/\-(M * c)<=a * b:=by have p1:=Br (show 0<=M - a by grind) (show 0<=c+b by grind);have p2:=Br (show 0<=M+a by grind) (show 0<=c - b by grind);have p3:=Br (show 0<=M - a by grind) (show 0<=c - b by grind);have p4:=Br (show 0<=M+a by grind) (show 0<=c+b by grind);constructor <;> grind
theorem A5a (hS:PE A) (h:Ld n A) {M D H Y:Rat}(hM:∀ q,q<n->A q q<=M) (hM1:1<=M) (hD:∀ k,k<n->1<=EL A k k k * D) (hD1:1<=D) (x:Nat->Rat) (hH:QF n A 0 x<=H) (hHY:H * M<=Y) (hY:1<=Y) (hn:1<=n) :
  ∀ (d k:Nat),k+d=n->∀ q,k<=q->q<n->x q<=bet D Y ((n:Rat) * M) d/\-(bet D Y ((n:Rat) * M) d)<=x q:=by
 have hn1:(1:Rat)<=(n:Rat):=by exact_mod_cast hn
 have hSM:1<=(n:Rat) * M:=by have:=Br (show 0<=(n:Rat) - 1 by grind) (show 0<=M by grind);grind
 intro d;induction d with
 | zero=>intro k hk q h1 h2;omega
 | succ d ih =>
  intro k hk;have ih':=ih (k+1) oo;have hm:=A58 hD1 (show 0<=Y by grind) hSM d;intro q h1 h2;by_cases e:q=k
  ·subst e;have hB:=CI h h2;have hBM:EL A q q q<=M:=Ga (A2s hS h (show q<=n by omega) q) (hM q h2);have hl:=A8d hS h h2 x;have hH0:=X7 hS h x n 0 oo;have hl2:YX n A q x * YX n A q x<=Y:=by have a1:=Ch hH0 hBM;have a2:=Br (show 0<=H - QF n A 0 x by grind) (show 0<=M by grind);grind
   have hly:=A59 hl2 hY;have e1:YX n A q x=EL A q q q * x q+Gg n (fun i=>if i=q then 0 else EL A q q i * x i):=by unfold YX;rw[A57 h2]
   have hterm:∀ i,i<n->(if i=q then 0 else EL A q q i * x i)<=M * bet D Y ((n:Rat) * M) d/\-(M * bet D Y ((n:Rat) * M) d)<=(if i=q then 0 else EL A q q i * x i):=by
    intro i hi;have hpos:=Br (show 0<=M by grind) hm.1;by_cases c1:i=q
    ·rw[if_pos c1];constructor <;> grind
    ·rw[if_neg c1];by_cases c2:i<q
     ·rw[RP hS q q i,A2t h i q c2 oo];constructor <;> grind
     ·have hiq:=ih' i oo hi;have c3:=A7E hS h hi (show q<i by omega);have c4:EL A q i i<=M:=Ga (A2s hS h (show q<=n by omega) i) (hM i hi);have c5:EL A q i q * EL A q i q<=M * M:=by have a1:=Ch (Bz hB) c4;have a2:=Ch (show 0<=M by grind) hBM;grind
      have c6:=A3B c5 (by grind);rw[RP hS q q i];exact Yh c6 hiq
   have hsum:=A6S hterm;have hDD:=hD q h2;show x q<=D * (Y+(n:Rat) * M * bet D Y ((n:Rat) * M) d)/\-(D * (Y+(n:Rat) * M * bet D Y ((n:Rat) * M) d))<=x q;generalize bet D Y ((n:Rat) * M) d=b at *
   generalize Gg n (fun i=>if i=q then 0 else EL A q q i * x i)=sm at *
   generalize YX n A q x=l at *
   generalize EL A q q q=B at *
   have b1:B * x q<=Y+n * M * b:=by grind
   have b2:-(Y+n * M * b)<=B * x q:=by grind
   have hZ:0<=Y+n * M * b:=by grind
   generalize Y+n * M * b=Z at *
   have hDB:0<D * B:=by grind
   constructor
   ·rcases Gc (a:=x q) (b:=0) with c | c
    ·have:=Br (show 0<=D by grind) hZ;grind
    ·have a1:=Ch (show 0<=D by grind) b1;have a2:=Br (show 0<=B * D - 1 by grind) c;grind
   ·rcases Gc (a:=0) (b:=x q) with c | c
    ·have:=Br (show 0<=D by grind) hZ;grind
    ·have a1:=Ch (show 0<=D by grind) b2;have a2:=Br (show 0<=B * D - 1 by grind) (show 0<=-(x q) by grind);grind
  ·have:=ih' q oo h2;have:=hm.2;constructor <;> grind
end
end Go.Qf
namespace Go.Qf
theorem Bo {n:Nat}{f g:Nat->Int}(h:∀ i,i<n->f i=g i):Ay n f=Ay n g:=by
 induction n with
 | zero=>rfl
 | succ n ih=>simp only[Ay];rw[ih (fun i c=>h i oo),h n oo]
theorem Vk (n:Nat) (f g:Nat->Int):Ay n (fun i=>f i+g i)=Ay n f+Ay n g:=by
 induction n with
 | zero=>rfl
 | succ n ih=>simp only[Ay];rw[ih];omega
theorem Vl (n:Nat) (c:Int) (f:Nat->Int):Ay n (fun i=>f i * c)=Ay n f * c:=by
 induction n with
 | zero=>simp[Ay]
 | succ n ih=>simp only[Ay];rw[ih,Int.add_mul]
theorem Ig (n:Nat) (c:Int) (f:Nat->Int):Ay n (fun i=>c * f i)=c * Ay n f:=by rw[Bo (g:=fun i=>f i * c) (fun i _=>HT _ _),Vl,HT]
theorem Om {n:Nat}{f:Nat->Int}(h:∀ i,i<n->f i=0):Ay n f=0:=by
 induction n with
 | zero=>rfl
 | succ n ih=>simp only[Ay];rw[ih (fun i c=>h i oo),h n oo];rfl
theorem JO {n q:Nat}(g:q<n) (a:Nat->Int) (c:Int):Ay n (fun k=>a k * (if k=q then c else 0))=a q * c:=by
 induction n with
 | zero=>omega
 | succ n ih =>
  simp only[Ay];by_cases e:q=n
  ·subst e;rw[if_pos rfl,Om (fun k d=>by rw[if_neg oo,LW])];omega
  ·rw[ih oo,if_neg (Ne.symm e),LW];omega
theorem X8 (n m:Nat) (f:Nat->Nat->Int):Ay n (fun i=>Ay m (fun j=>f i j))=Ay m (fun j=>Ay n (fun i=>f i j)):=by
 induction n with
 | zero=>exact (Om (fun j _=>rfl)).symm
 | succ n ih=>simp only[Ay];rw[ih,Vk]
theorem PH (n:Nat) (a b c:Nat->Nat->Int) (p q:Nat):EJ n (EJ n a b) c p q=EJ n a (EJ n b c) p q:=by unfold EJ;rw[Bo (g:=fun k=>Ay n (fun l=>a p l * b l k * c k q)) (fun k _=>(Vl n (c k q) _).symm),X8];refine Bo fun l _=>?_;rw[<- Ig];exact Bo fun k _=>O1 _ _ _
theorem Ih {n:Nat}{a a' b b':Nat->Nat->Int}{p q:Nat}(d:∀ k,k<n->a p k=a' p k) (e:∀ k,k<n->b k q=b' k q):EJ n a b p q=EJ n a' b' p q:=by unfold EJ;exact Bo fun k c=>by rw[d k c,e k c]
theorem A6U (n:Nat) (a b:Nat->Nat->Int) (p q:Nat):EJ n a b p q=EJ n (fun x y=>b y x) (fun x y=>a y x) q p:=by unfold EJ;exact Bo fun k _=>HT _ _
def Mh (n:Nat) (f t:Nat->Nat->Int):Nat->Nat->Int:=EJ n (EJ n (fun a b=>t b a) f) t
theorem ZT (n:Nat) (f t u:Nat->Nat->Int) (p q:Nat):Mh n f (EJ n t u) p q=Mh n (Mh n f t) u p q:=by
 unfold Mh;have c:∀ k,EJ n (fun a b=>EJ n t u b a) f p k=EJ n (fun a b=>u b a) (EJ n (fun a b=>t b a) f) p k:=by intro k;rw[<- PH];refine Ih (fun l _=>?_) (fun l _=>rfl);exact A6U n t u l p
 rw[Ih (a':=EJ n (fun a b=>u b a) (EJ n (fun a b=>t b a) f)) (b':=EJ n t u) (fun k _=>c k) (fun k _=>rfl)];rw[<- PH];refine Ih (fun k _=>?_) (fun k _=>rfl);exact PH n _ _ _ p k
def RS (c:Int) (i j:Nat) (f:Nat->Nat->Int):Nat->Nat->Int:=fun p q =>
 f p q+(if p=i then c * f j q else 0)+(if q=i then c * f p j else 0)+(if p=i/\q=i then c * c * f j j else 0)
def swZ (m:Nat) (f:Nat->Nat->Int):Nat->Nat->Int:=fun p q=>f (sw m p) (sw m q)
theorem A5b (m:Nat) (f:Nat->Nat->Int):RA (swZ m f)=PF m (RA f):=rfl
theorem IG (c:Int) (i j:Nat) (f:Nat->Nat->Int):RA (RS c i j f)=Ve (c:Rat) i j (RA f):=by funext p q;unfold RA RS Ve;have z:((0:Int):Rat)=0:=rfl;by_cases d:p=i <;> by_cases e:q=i <;> simp only[d,e,if_true,if_false,and_true,and_false,U2,FG,z]
theorem A5c {n i j:Nat}(v:i<n) (r:j<n) (o:j≠i) (c:Int) (f:Nat->Nat->Int):mk n n (Mh n f (Eg Ti j i c))=mk n n (RS c i j f):=by
 have key:∀ (X:Nat->Int) (q:Nat),q<n->Ay n (fun k=>X k * Eg Ti j i c k q)=X q+(if q=i then X j * c else 0):=by
  intro X q m;have e:∀ k,X k * Eg Ti j i c k q=X k * (if k=q then 1 else 0)+X k * (if k=j then (if q=i then c else 0) else 0):=by
   intro k;unfold Eg Ti;by_cases d:k=j/\q=i
   ·obtain⟨rfl,rfl⟩:=d;rw[if_pos ⟨rfl,rfl⟩,if_neg o,if_pos rfl,if_pos rfl];omega
   ·rw[if_neg d];by_cases l:k=j
    ·rw[if_pos l,if_neg (fun h=>d ⟨l,h⟩)];omega
    ·rw[if_neg l];omega
  rw[Bo (fun k _=>e k),Vk,JO m,JO r];by_cases h:q=i
  ·rw[if_pos h,if_pos h];omega
  ·rw[if_neg h,if_neg h];omega
 refine BV fun p q u m=>?_;unfold Mh EJ;rw[key _ q m];have k2:∀ b,Ay n (fun k=>Eg Ti j i c k p * f k b)=f p b+(if p=i then f j b * c else 0):=by intro b;rw[Bo (g:=fun k=>f k b * Eg Ti j i c k p) (fun k _=>HT _ _)];exact key (fun k=>f k b) p u
 dsimp only;rw[k2,k2];unfold RS;by_cases d:p=i <;> by_cases l:q=i <;> simp only[d,l,if_true,if_false,and_true,and_false] <;> grind
theorem A6V {n m:Nat}(l:m+1<n) (f:Nat->Nat->Int):mk n n (Mh n f (swF (m+1) m Ti))=mk n n (swZ m f):=by
 have j:∀ q,q<n->sw m q<n:=by intro q c;unfold sw;split <;> (try split) <;> omega
 have key:∀ (X:Nat->Int) (q:Nat),q<n->Ay n (fun k=>X k * swF (m+1) m Ti k q)=X (sw m q):=by
  intro X q c;have e:∀ k,X k * swF (m+1) m Ti k q=X k * (if k=sw m q then 1 else 0):=by
   intro k;congr 1;unfold swF Ti sw;by_cases a1:k=m+1
   ·by_cases b1:q=m
    ·subst b1;rw[if_pos a1,if_pos rfl,if_pos rfl,if_pos a1]
    ·rw[if_pos a1,if_neg (fun h=>b1 h.symm)];by_cases b2:q=m+1
     ·rw[if_neg b1,if_pos b2,if_neg oo]
     ·rw[if_neg b1,if_neg b2,if_neg oo]
   ·rw[if_neg a1];by_cases a2:k=m
    ·rw[if_pos a2];by_cases b2:q=m+1
     ·have e2:(if q=m then m+1 else if q=m+1 then m else q)=m:=by rw[if_neg oo,if_pos b2]
      rw[if_pos b2.symm,e2,if_pos a2]
     ·rw[if_neg (fun h=>b2 h.symm)];by_cases b1:q=m
      ·rw[if_pos b1,if_neg oo]
      ·rw[if_neg b1,if_neg b2,if_neg oo]
    ·rw[if_neg a2];by_cases b1:q=m
     ·rw[if_pos b1,if_neg oo,if_neg a1]
     ·rw[if_neg b1];by_cases b2:q=m+1
      ·rw[if_pos b2,if_neg oo,if_neg a2]
      ·rw[if_neg b2]
  rw[Bo (fun k _=>e k),JO (j q c)];omega
 refine BV fun p q d c=>?_;unfold Mh EJ;rw[key _ q c];dsimp only;rw[Bo (g:=fun k=>f k (sw m q) * swF (m+1) m Ti k p) (fun k _=>HT _ _)];exact key (fun k=>f k (sw m q)) p d
end Go.Qf
namespace Go.Qf
structure Le (n:Nat) (f:Nat->Nat->Int) (Dm:Rat):Prop where
 sym:∀ p q,f p q=f q p
 pos:Ld n (RA f)
 dm:∀ k,k<=n->dd (RA f) k<=Dm
theorem Le.bh {n:Nat}{f:Nat->Nat->Int}{Dm:Rat}(h:Le n f Dm):PE (RA f):=fun p q=>by unfold RA;rw[h.sym p q]
theorem Vm {n:Nat}{f:Nat->Nat->Int}(h:Ld n (RA f)) {k:Nat}(hk:k<=n):∃ z:Int,dd (RA f) k=z/\1<=z:=by
 have hp:=h k hk;have hz:ZH (dd (RA f) k):=by
  cases k with
  | zero=>exact⟨1,rfl⟩
  | succ k =>
   rw[<- Fv];exact Y4 (Y9 f) k k k (by have:=h k oo;grind)
 obtain⟨z,hz⟩:=hz;refine⟨z,hz,?_⟩;rw[hz]at hp;have:(0:Int)<z:=by exact_mod_cast hp
 omega
theorem A1x {n:Nat}{f:Nat->Nat->Int}(h:Ld n (RA f)) {k:Nat}(hk:k<=n):1<=dd (RA f) k:=by obtain⟨z,e,hz⟩:=Vm h hk;rw[e];exact_mod_cast hz
section
variable {n:Nat}{f:Nat->Nat->Int}{Dm:Rat}
theorem Le.piv_le (h:Le n f Dm) {k:Nat}(hk:k<n):EL (RA f) k k k<=Dm:=by have h1:=h.dm (k+1) oo;rw[Fw]at h1;have h2:=A1x h.pos (show k<=n by omega);have h3:=CI h.pos hk;have:=Br (show 0<=dd (RA f) k - 1 by grind) (Bz h3);grind
theorem Le.dh (h:Le n f Dm) {k:Nat}(hk:k<n):1<=EL (RA f) k k k * Dm:=by have h1:=A1x h.pos (show k+1<=n by omega);rw[Fw]at h1;have h2:=h.dm k oo;have h3:=CI h.pos hk;have:=Br (show 0<=Dm - dd (RA f) k by grind) (Bz h3);grind
theorem RU {A:Nat->Ej}{i j:Nat}(h:0<dd A j):Ok A i j↔2 * EL A j i j<=EL A j j j/\-(2 * EL A j i j)<=EL A j j j:=by
 unfold Ok BB;rw[Fw];constructor
 ·rintro⟨h1,h2⟩;exact⟨Ol h (by grind),Ol h (by grind)⟩
 ·rintro⟨h1,h2⟩;have a1:=Ch (Bz h) h1;have a2:=Ch (Bz h) h2;constructor <;> grind
theorem A1y {A:Nat->Ej}{i j:Nat}(h:0<dd A j) (hp:0<EL A j j j):X5 A i j * EL A j j j=EL A j i j:=by
 unfold X5 BB;rw[Fw,DV];have hd:0<dd A j * EL A j j j:=Iz h hp;have:=Gb _ (show dd A j * EL A j j j≠0 by grind);generalize (dd A j * EL A j j j)⁻¹=v at *
 have e:dd A j * (dd A j * EL A j i j * v * EL A j j j)=dd A j * EL A j i j:=by grind
 have h0:dd A j≠0:=by grind
 have h5:=Gb _ h0;have:(dd A j)⁻¹ * (dd A j * (dd A j * EL A j i j * v * EL A j j j))=(dd A j)⁻¹ * (dd A j * EL A j i j):=by rw[e]
 generalize (dd A j)⁻¹=u at *
 grind
theorem Le.row_le (h:Le n f Dm) {i:Nat}(hi:i<n) (hs:∀ k,k<i->Ok (RA f) i k):RA f i i<=((i+1:Nat):Rat) * Dm:=by have:=A1v h.bh h.pos hi (D:=Dm) (fun k hk=>h.piv_le hk) (fun k hk=>(RU (h.pos k oo)).1 (hs k hk)) i 0 oo;exact this
theorem PI (μ:Rat):((μ+Rat.divInt 1 2).floor:Rat)<=μ+1 / 2/\μ+1 / 2<((μ+Rat.divInt 1 2).floor:Rat)+1:=by
 have e:Rat.divInt 1 2=1 / 2:=by rw[Q4];rfl
 rw[e];refine⟨Rat.floor_le _,?_⟩;have:=Rat.lt_floor_add_one (μ+1 / 2);rw[U2]at this;exact this
theorem Yi (A:Nat->Ej) (i j:Nat):(cR A i j:Rat)=-((X5 A i j+Rat.divInt 1 2).floor:Rat):=by unfold cR;rw[Q5]
theorem Le.red (h:Le n f Dm) {i j:Nat}(hj:j<i) (hi:i<n) (c:Int):Le n (RS c i j f) Dm:=by
 have hne:EL (RA f) j j j≠0:=by have:=CI h.pos (show j<n by omega);grind
 refine⟨?_,?_,?_⟩
 ·intro p q;have:=A2o (c:=(c:Rat)) (i:=i) (j:=j) h.bh p q;rw[<- IG]at this;unfold RA at this;exact_mod_cast this
 ·rw[IG];intro m hm;rw[Jg hj _ hne];exact h.pos m hm
 ·rw[IG];intro m hm;rw[Jg hj _ hne];exact h.dm m hm
theorem Le.ek (h:Le n f Dm) {i j:Nat}(hj:j<i) (hi:i<n) (c:Int) {p q:Nat}(hq:q<p) (hpq:p≠i\/j<q):Ok (RA (RS c i j f)) p q↔Ok (RA f) p q:=by
 have hne:EL (RA f) j j j≠0:=by have:=CI h.pos (show j<n by omega);grind
 unfold Ok;rw[IG,A2p hj _ hne hq hpq,Jg hj _ hne]
theorem Le.red_lv (h:Le n f Dm) {i j:Nat}(hj:j<i) (hi:i<n) (c:Int) {x:Nat}(hx:x<i) (hx0:0<x):Ww (RA (RS c i j f)) x↔Ww (RA f) x:=by
 have hne:EL (RA f) j j j≠0:=by have:=CI h.pos (show j<n by omega);grind
 unfold Ww;rw[IG,A2p hj _ hne oo (.inl oo),Jg hj _ hne,Jg hj _ hne,Jg hj _ hne]
theorem Le.red_at (h:Le n f Dm) {i j:Nat}(hj:j<i) (hi:i<n):Ok (RA (RS (cR (RA f) i j) i j f)) i j:=by
 have hp:=CI h.pos (show j<n by omega);have hne:EL (RA f) j j j≠0:=by grind
 have hd:=h.pos j oo;unfold Ok;rw[IG,A1l hj _ hne,Jg hj _ hne,Yi];have hm:=A1y (i:=i) hd hp;have hfl:=PI (X5 (RA f) i j);unfold BB;rw[Fw,<- hm];generalize ((X5 (RA f) i j+Rat.divInt 1 2).floor:Rat)=z at *
 generalize X5 (RA f) i j=μ at *
 generalize EL (RA f) j j j=B at *
 generalize dd (RA f) j=d at *
 have hdB:=Iz hd hp;have a1:=Br (Bz hdB) (show 0<=μ+1 / 2 - z by grind);have a2:=Br (Bz hdB) (show 0<=z+1 - (μ+1 / 2) by grind);constructor <;> grind
theorem Le.c_sq (h:Le n f Dm) {i j:Nat}(hj:j<i) (hi:i<n) (hns:¬ Ok (RA f) i j):(cR (RA f) i j:Rat) * (cR (RA f) i j:Rat)<=4 * (RA f i i * Dm):=by
 have hp:=CI h.pos (show j<n by omega);have hd:=h.pos j oo;have hm:=A1y (i:=i) hd hp;have hfl:=PI (X5 (RA f) i j);have hmu:=A7F h.bh h.pos hi hj;have hge:=h.dh (show j<n by omega);have hii:=FO h.bh h.pos hi (Cu i);have hii':0<RA f i i:=hii;rw[RU hd,<- hm]at hns;rw[<- hm]at hmu;rw[Yi];generalize ((X5 (RA f) i j+Rat.divInt 1 2).floor:Rat)=z at *
 generalize X5 (RA f) i j=μ at *
 generalize EL (RA f) j j j=B at *
 generalize RA f i i=X at *
 have hz:z * z<=4 * (μ * μ):=by
  rcases Gc (a:=0) (b:=μ) with c | c
  ·have hμ:1 / 2<μ:=by
    rcases Gc (a:=μ) (b:=1 / 2) with c2 | c2
    ·exfalso;apply hns;have a1:=Br (show 0<=1 / 2 - μ by grind) (Bz hp);have a2:=Br c (Bz hp);constructor <;> grind
    ·by_cases e:μ=1 / 2
     ·exfalso;apply hns;subst e;constructor <;> grind
     ·grind
   have a1:=Br (show 0<=2 * μ - z by grind) (show 0<=2 * μ+z by grind);grind
  ·have hμ:μ < -(1 / 2):=by
    rcases Gc (a:=-(1 / 2)) (b:=μ) with c2 | c2
    ·exfalso;apply hns;have a1:=Br (show 0<=1 / 2+μ by grind) (Bz hp);have a2:=Br (show 0<=-μ by grind) (Bz hp);constructor <;> grind
    ·by_cases e:μ=-(1 / 2)
     ·exfalso;apply hns;subst e;constructor <;> grind
     ·grind
   have a1:=Br (show 0<=z - 2 * μ by grind) (show 0<=-z - 2 * μ by grind);grind
 have hμ2:μ * μ<=X * Dm:=by
  have hDm:0<Dm:=K6 hp (by grind);have b1:B * (B * (μ * μ))<=B * X:=by grind
  have b2:=Ol hp b1;have b3:=Ch (Bz hDm) b2;have b4:=Br (show 0<=B * Dm - 1 by grind) (Mg μ);grind
 grind
theorem Le.red_ii (h:Le n f Dm) {i j:Nat}(hj:j<i) (hi:i<n) (hns:¬ Ok (RA f) i j) {C:Rat}(hC:RA f j j<=C) (hC0:0<=C):RA (RS (cR (RA f) i j) i j f) i i<=(2+8 * Dm * C) * RA f i i:=by
 have hp:=CI h.pos (show j<n by omega);have hd:=h.pos j oo;have hm:=A1y (i:=i) hd hp;have hfl:=PI (X5 (RA f) i j);have hmu:=A7F h.bh h.pos hi hj;have hge:=h.dh (show j<n by omega);have hii:=FO h.bh h.pos hi (Cu i);have hii':0<RA f i i:=hii;have hjj:0<RA f j j:=FO h.bh h.pos (show j<n by omega) (Cu j);have hcomb:=Vj h.bh h.pos hi hj (-(cR (RA f) i j:Rat));rw[IG,Go.Qf.Yb,h.bh j i];rw[RU hd,<- hm]at hns;rw[<- hm]at hmu;rw[Yi]at hcomb ⊢;generalize ((X5 (RA f) i j+Rat.divInt 1 2).floor:Rat)=z at *
 generalize X5 (RA f) i j=μ at *
 generalize EL (RA f) j j j=B at *
 generalize RA f i i=X at *
 generalize RA f j j=Y at *
 generalize RA f i j=O at *
 have hz:z * z<=4 * (μ * μ):=by
  rcases Gc (a:=0) (b:=μ) with c | c
  ·have hμ:1 / 2<μ:=by
    rcases Gc (a:=μ) (b:=1 / 2) with c2 | c2
    ·exfalso;apply hns;have a1:=Br (show 0<=1 / 2 - μ by grind) (Bz hp);have a2:=Br c (Bz hp);constructor <;> grind
    ·by_cases e:μ=1 / 2
     ·exfalso;apply hns;subst e;constructor <;> grind
     ·grind
   have a1:=Br (show 0<=2 * μ - z by grind) (show 0<=2 * μ+z by grind);grind
  ·have hμ:μ < -(1 / 2):=by
    rcases Gc (a:=-(1 / 2)) (b:=μ) with c2 | c2
    ·exfalso;apply hns;have a1:=Br (show 0<=1 / 2+μ by grind) (Bz hp);have a2:=Br (show 0<=-μ by grind) (Bz hp);constructor <;> grind
    ·by_cases e:μ=-(1 / 2)
     ·exfalso;apply hns;subst e;constructor <;> grind
     ·grind
   have a1:=Br (show 0<=z - 2 * μ by grind) (show 0<=-z - 2 * μ by grind);grind
 have hμ2:μ * μ<=X * Dm:=by
  have hDm:0<Dm:=K6 hp (by grind);have b1:B * (B * (μ * μ))<=B * X:=by grind
  have b2:=Ol hp b1;have b3:=Ch (Bz hDm) b2;have b4:=Br (show 0<=B * Dm - 1 by grind) (Mg μ);grind
 have c1:=Ch (Bz hjj) hz;have c2:=Ch (Bz hjj) hμ2;have hDm:0<Dm:=K6 hp (by grind);have c3:=Ch (Bz (Iz hii' hDm)) hC;grind
theorem Le.sw_less (h:Le n f Dm) {m:Nat}(hm:m+1<n) (hlv:¬ Ww (RA f) (m+1)):EL (RA f) m (m+1) (m+1)<EL (RA f) m m m:=by
 have ha:=CI h.pos (show m<n by omega);have hd:=h.pos m oo;have he:=QG h.bh m (m+1);have hv:=Gb _ (show EL (RA f) m m m≠0 by grind);unfold Ww BB at hlv;rw[show m+1 - 1=m by omega,Fw (RA f) (m+1),Fw (RA f) m,he]at hlv;generalize (EL (RA f) m m m)⁻¹=v at *
 generalize EL (RA f) m m m=a at *
 generalize EL (RA f) m (m+1) (m+1)=c at *
 generalize EL (RA f) m (m+1) m=b at *
 generalize dd (RA f) m=d at *
 have e1:4 * (d * (d * a * (c - b * b * v))+d * b * (d * b))=4 * (d * d * a * c):=by grind
 rw[e1]at hlv;have hdd:=Iz (Iz hd hd) ha;rcases Gc (a:=a) (b:=c) with h1 | h1
 ·exfalso;apply hlv;have:=Br (Bz hdd) (show 0<=c - a by grind);have:=Br (Bz hdd) (Bz ha);grind
 ·by_cases e:a=c
  ·exfalso;apply hlv;subst e;have:=Br (Bz hdd) (Bz ha);grind
  ·grind
theorem Le.dF (h:Le n f Dm) {m:Nat}(hm:m+1<n) {k:Nat}(hk:k≠m+1):dd (RA (swZ m f)) k=dd (RA f) k:=by
 rw[A5b];by_cases h1:k<=m
 ·exact Vf m _ k h1
 ·have ha:=CI h.pos (show m<n by omega);have hc:=FO h.bh h.pos hm (show m<=m+1 by omega);have hP:=CI h.pos hm;exact A1m m _ (by grind) (by grind) (by grind) k oo
theorem Le.ep (h:Le n f Dm) {m:Nat}(hm:m+1<n) (hlv:¬ Ww (RA f) (m+1)):0<dd (RA (swZ m f)) (m+1)/\dd (RA (swZ m f)) (m+1)<dd (RA f) (m+1):=by rw[A5b,X4,Fw (RA f) m];have hc:=FO h.bh h.pos hm (show m<=m+1 by omega);have hd:=h.pos m oo;exact⟨Iz hd hc,A2r hd (h.sw_less hm hlv)⟩
theorem Le.sw (h:Le n f Dm) {m:Nat}(hm:m+1<n) (hlv:¬ Ww (RA f) (m+1)):Le n (swZ m f) Dm:=by
 refine⟨fun p q=>h.sym _ _,?_,?_⟩
 ·intro k hk;by_cases e:k=m+1
  ·subst e;exact (h.ep hm hlv).1
  ·rw[h.dF hm e];exact h.pos k hk
 ·intro k hk;by_cases e:k=m+1
  ·subst e;have a1:=(h.ep hm hlv).2;have a2:=h.dm _ hk;grind
  ·rw[h.dF hm e];exact h.dm k hk
end
end Go.Qf
namespace Go.Qf
theorem A5d {n:Nat}{a b:Nat->Nat->Int}(h:mk n n a=mk n n b) {p q:Nat}(e:p<n) (g:q<n):a p q=b p q:=by
 have c:(mk n n a)[p]?=(mk n n b)[p]?:=by rw[h]
 rw[BK e,BK e]at c;have d:((List.range n).map (a p))[q]?=((List.range n).map (b p))[q]?:=by simp only[AP]at c;rw[c]
 rw[Fu g,Fu g]at d;simpa using d
theorem X9 (n:Nat) (g:Nat->Int):((Ay n g:Int):Rat)=Gg n (fun i=>(g i:Rat)):=by
 induction n with
 | zero=>rfl
 | succ n ih=>simp only[Ay,Gg];rw[U2,ih]
theorem Vn {n:Nat}{f f' g:Nat->Nat->Int}(h:∀ p q,p<n->q<n->f p q=f' p q) {p q:Nat}:Mh n f g p q=Mh n f' g p q:=by unfold Mh;exact Ih (fun k c=>Ih (fun l _=>rfl) (fun l d=>h l k d c)) (fun k _=>rfl)
theorem A3D (n:Nat) {f:Nat->Nat->Int}(t:Nat->Nat->Int) (c:∀ p q,f p q=f q p) (p:Nat):((Mh n f t p p:Int):Rat)=QF n (RA f) 0 (fun q=>(t q p:Rat)):=by unfold Mh EJ QF;rw[X9];refine K7 fun k _=>?_;rw[FG,X9];congr 1;refine K7 fun l _=>?_;rw[FG];show _=RA f k l * _;unfold RA;rw[c k l,Rat.mul_comm]
theorem A6W {N:Nat}{a b:Nat->Int}(h:∀ k,k<N->a k<=b k) {m:Nat}(j:m<N) (g:a m<b m):Ay N a<Ay N b:=by
 induction N with
 | zero=>omega
 | succ N ih =>
  simp only[Ay];have c:=h N oo;by_cases e:m=N
  ·subst e;have:Ay m a<=Ay m b:=by
    clear ih j g c;induction m with
    | zero=>exact Gy _
    | succ m ih=>simp only[Ay];have:=h m oo;have:=ih (fun k d=>h k oo);omega
   omega
  ·have:=ih (fun k d=>h k oo) oo;omega
theorem GW {N:Nat}{a:Nat->Int}(h:∀ k,k<N->0<=a k):0<=Ay N a:=by
 induction N with
 | zero=>exact Gy _
 | succ N ih=>simp only[Ay];have:=h N oo;have:=ih (fun k c=>h k oo);omega
def pw (F:Rat):Nat->Rat
 | 0=>1
 | m+1=>F * pw F m
theorem Vo {F:Rat}(c:1<=F):∀ m,1<=pw F m:=by
 intro m;induction m with
 | zero=>exact EQ
 | succ m ih =>
  show 1<=F * pw F m;have:=Br (show 0<=F - 1 by grind) (show 0<=pw F m by grind);grind
theorem QH {F:Rat}(c:1<=F) {a b:Nat}(h:a<=b):pw F a<=pw F b:=by
 obtain⟨d,rfl⟩:∃ d,b=a+d:=⟨b - a,by omega⟩;clear h;induction d with
 | zero=>exact EQ
 | succ d ih =>
  show _<=F * pw F (a+d);have:=Vo c (a+d);have:=Br (show 0<=F - 1 by grind) (show 0<=pw F (a+d) by grind);grind
structure Wx (n:Nat) (f0:Nat->Nat->Int) (Dm K F:Rat) (f T:Nat->Nat->Int) (i j:Nat):Prop where
 lat:Le n f Dm
 con:∀ p q,p<n->q<n->f p q=Mh n f0 T p q
 cl:A2q (RA f) i
 szd:∀ y,j<=y->y<i->Ok (RA f) i y
 ji:j<=i
 hi:i<n
 oth:∀ p,p<n->p≠i->RA f p p<=K
 own:RA f i i<=K * pw F (i - j)
 det:dd (RA f) n=dd (RA f0) n
theorem Le.dm1 {n:Nat}{f:Nat->Nat->Int}{Dm:Rat}(h:Le n f Dm):1<=Dm:=by have:=h.dm 0 BI;exact this
theorem Le.dG {n:Nat}{f:Nat->Nat->Int}{Dm:Rat}(h:Le n f Dm) {i:Nat}(c:i<n) (d:∀ k,k<i->Ok (RA f) i k):RA f i i<=(n:Rat) * Dm:=by
 have e:=h.row_le c d;have g:((i+1:Nat):Rat)<=(n:Rat):=by exact_mod_cast c
 have j:=h.dm1;have:=Br (show 0<=(n:Rat) - ((i+1:Nat):Rat) by grind) (show 0<=Dm by grind);grind
theorem Le.n_dm {n:Nat}{f:Nat->Nat->Int}{Dm:Rat}(h:Le n f Dm) (c:0<n):1<=(n:Rat) * Dm:=by
 have d:(1:Rat)<=(n:Rat):=by exact_mod_cast c
 have e:=h.dm1;have:=Br (show 0<=(n:Rat) - 1 by grind) (show 0<=Dm by grind);grind
section
variable {n:Nat}{f0:Nat->Nat->Int}{Dm K F:Rat}{f T:Nat->Nat->Int}{i j:Nat}
theorem Wx.red (h:Wx n f0 Dm K F f T i j) (N:(n:Rat) * Dm<=K) (M:2+8 * Dm * ((n:Rat) * Dm)<=F) {g:Nat->Nat->Int}{i' j':Nat}(I:A7C n f g i' j') :
  Wx n f0 Dm K F (RS (cR (RA f) i' j') i' j' f) (EJ n T g) i' j'/\Go.Qf.mk n n (Mh n f g)=Go.Qf.mk n n (RS (cR (RA f) i' j') i' j' f)/\((i'=i/\j'<j)\/i<i'):=by
 obtain⟨l,d,r,J,t,rfl⟩:=I;have c:=h.lat;have O:=c.dm1;have Q:=c.n_dm (show 0<n by omega);have b:1<=F:=by have:=Br (show 0<=Dm by grind) (show 0<=(n:Rat) * Dm by grind);grind
 have P:i<=i':=by
  rcases Dl i' i with hlt | hge
  ·exact absurd (h.cl.1 i' j' hlt l) t
  ·exact hge
 have w:(i'=i/\j'<j)\/i<i':=by
  rcases Dl i i' with hlt | hge
  ·exact .inr hlt
  ·have e:i'=i:=by omega
   refine .inl ⟨e,?_⟩;rcases Dl j' j with m | m
   ·exact m
   ·subst e;exact absurd (h.szd j' m l) t
 have G:=c.dG (show j'<n by omega) (fun k z=>r.1 j' k l z);have D:RA f i' i'<=K * pw F (i' - j' - 1):=by
  rcases w with ⟨e,hlt⟩ | hlt
  ·subst e;have m:=h.own;have o:=QH b (show i' - j<=i' - j' - 1 by omega);have:=Ch (show 0<=K by grind) o;grind
  ·have m:=h.oth i' d oo;have o:=Vo b (i' - j' - 1);have:=Ch (show 0<=K by grind) o;grind
 have s:=A5c d (show j'<n by omega) (show j'≠i' by omega) (cR (RA f) i' j') f;refine⟨⟨c.red l d _,?_,?_,?_,by omega,d,?_,?_,?_⟩,s,w⟩
 ·intro p q u H;rw[ZT,<- Vn h.con,A5d s u H]
 ·refine⟨fun x y v B=>(c.ek l d _ B (.inl oo)).2 (r.1 x y v B),fun x a v=>(c.red_lv l d _ v a).2 (r.2 x a v)⟩
 ·intro y R C;by_cases e:y=j'
  ·subst e;exact c.red_at l d
  ·exact (c.ek l d _ C (.inr oo)).2 (J y oo C)
 ·intro p u A;rw[IG,Fq A A];by_cases e:p=i
  ·subst e;have:=c.dG u (fun k z=>r.1 p k oo z);grind
  ·exact h.oth p u e
 ·have m:=c.red_ii l d t G (by grind);have e:i' - j'=(i' - j' - 1)+1:=by omega
  rw[e];show _<=K * (F * pw F (i' - j' - 1));have E:0<RA f i' i':=FO c.bh c.pos d (Cu i');have o:=Br (show 0<=F - (2+8 * Dm * ((n:Rat) * Dm)) by grind) (Bz E);have L:=Ch (show 0<=F by grind) D;grind
 ·rw[IG,Jg l _ (by have:=CI c.pos (show j'<n by omega);grind)];exact h.det
def A1z (n:Nat) (f:Nat->Nat->Int):Nat:=(Ay (n+1) (fun k=>(dd (RA f) k).num)).toNat
theorem Wx.all (h:Wx n f0 Dm K F f T i j) (g:(n:Rat) * Dm<=K) (d:∀ y,y<i->Ok (RA f) i y):∀ p,p<n->RA f p p<=K:=by
 intro p c;by_cases e:p=i
 ·subst e;have:=h.lat.dG c d;grind
 ·exact h.oth p c e
theorem Wx.sw (h:Wx n f0 Dm K F f T i j) (H:(n:Rat) * Dm<=K) {g:Nat->Nat->Int}{i':Nat}(M:A7D n f g i') :
  Wx n f0 Dm K F (swZ (i' - 1) f) (EJ n T g) 0 0/\Go.Qf.mk n n (Mh n f g)=Go.Qf.mk n n (swZ (i' - 1) f)/\A1z n (swZ (i' - 1) f)<A1z n f:=by
 obtain⟨J,v,I,L,t,rfl⟩:=M;obtain⟨m,rfl⟩:∃ m,i'=m+1:=⟨i' - 1,by omega⟩;rw[show m+1 - 1=m by omega];have u:=h.lat;have A:=h.all H (by
  rcases LH (m+1) i with C | e | hgt
  ·exact absurd (h.cl.2 (m+1) J C) t
  ·subst e;exact L
  ·exact fun y O=>I.1 i y hgt O)
 have B:=A6V v f;have w:=u.sw v t;have E:∀ q,q<n->Go.Qf.sw m q<n:=by intro q D;unfold Go.Qf.sw;split <;> (try split) <;> omega
 refine⟨⟨w,?_,⟨fun x y N=>by omega,fun x G N=>by omega⟩,fun y o r=>by omega,Ai _,by omega,?_,?_,by rw[u.dF v (show n≠m+1 by omega)];exact h.det⟩,B,?_⟩
 ·intro p q a D;rw[ZT,<- Vn h.con,A5d B a D]
 ·intro p a _;exact A _ (E p a)
 ·show RA f (Go.Qf.sw m 0) (Go.Qf.sw m 0)<=K * 1;have:=A _ (E 0 oo);grind
 ·have b:∀ k,k<n+1->∃ c d:Int,dd (RA (swZ m f)) k=c/\dd (RA f) k=d/\1<=c/\c<=d/\(k=m+1->c<d):=by
   intro k z;obtain⟨c,e1,o⟩:=Vm w.pos (show k<=n by omega);obtain⟨d,e2,r⟩:=Vm u.pos (show k<=n by omega);refine⟨c,d,e1,e2,o,?_⟩;by_cases e:k=m+1
   ·subst e;have l:=(u.ep v t).2;rw[e1,e2]at l;have s:c<d:=by exact_mod_cast l
    exact⟨by omega,fun _=>s⟩
   ·have l:=u.dF v e;rw[e1,e2]at l;have s:c=d:=by exact_mod_cast l
    exact⟨by omega,fun h=>absurd h e⟩
  have C:Ay (n+1) (fun k=>(dd (RA (swZ m f)) k).num)<Ay (n+1) (fun k=>(dd (RA f) k).num):=by
   refine A6W (m:=m+1) (fun k z=>?_) oo ?_
   ·obtain⟨c,d,e1,e2,o,r,_⟩:=b k z;rw[e1,e2];exact r
   ·obtain⟨c,d,e1,e2,o,r,l⟩:=b (m+1) oo;rw[e1,e2];exact l rfl
  have G:0<=Ay (n+1) (fun k=>(dd (RA (swZ m f)) k).num):=by refine GW fun k z=>?_;obtain⟨c,d,e1,e2,o,r,l⟩:=b k z;rw[e1];show 0<=c;omega
  unfold A1z;omega
def lmu (n:Nat) (f:Nat->Nat->Int) (i j:Nat):Nat:=A1z n f * ((n+1) * (n+1))+((n - i) * (n+1)+j)
theorem A6X {n i j i' j':Nat}(d:j<=n) (e:j'<=n) (c:i'<n) (h:(i'=i/\j'<j)\/i<i'):(n - i') * (n+1)+j'<(n - i) * (n+1)+j:=by
 rcases h with ⟨rfl,h⟩ | h
 ·omega
 ·have:(n - i'+1) * (n+1)<=(n - i) * (n+1):=Bm _ oo;rw[Bw]at this;omega
theorem A8e {n i j i' j':Nat}{a b:Nat}(g:j'<=n) (h:a<b):a * ((n+1) * (n+1))+((n - i') * (n+1)+j')<b * ((n+1) * (n+1))+((n - i) * (n+1)+j):=by
 have c:(a+1) * ((n+1) * (n+1))<=b * ((n+1) * (n+1)):=Bm _ h;rw[Bw,Cf]at c;have d:(n - i') * (n+1)<=n * (n+1):=Bm _ oo;have e:(n+1) * (n+1)=n * (n+1)+(n+1):=by rw[Bw,Cf]
 omega
theorem A5e (h:Le n f Dm) {i j:Nat}(d:j<i) (g:i<n) (c:Int):A1z n (RS c i j f)=A1z n f:=by
 have e:EL (RA f) j j j≠0:=by have:=CI h.pos (show j<n by omega);grind
 unfold A1z;rw[IG];simp only[Jg d _ e]
theorem A6Y {n:Nat}(f:Nat->Nat->Int) {p q:Nat}(d:p<n) (e:q<n):Mh n f Ti p q=f p q:=by
 have c:∀ k,k<n->EJ n (fun a b=>Ti b a) f p k=f p k:=by intro k _;unfold EJ Ti;rw[Bo (g:=fun l=>f l k * (if l=p then 1 else 0)) (fun l _=>HT _ _),JO d];omega
 unfold Mh;rw[Ih (a':=f) (b':=Ti) c (fun _ _=>rfl)];unfold EJ Ti;rw[JO e];omega
theorem Wx.init (h:Le n f Dm) (e:0<n) (d:∀ q,q<n->RA f q q<=K):Wx n f Dm K F f Ti 0 0 :=
 ⟨h,fun p q c g=>(A6Y f c g).symm,⟨fun x y j=>by omega,fun x k j=>by omega⟩,fun y l m=>by omega,Ai _,e,fun p c _=>d p c,by have:=d 0 e;show _<=K * 1;grind,rfl⟩
theorem Wx.dw (h:Wx n f0 Dm K F f T i j) (r:1<=K) (o:1<=F) {p q:Nat}(d:p<n) (l:q<n):RA f p q<=K * pw F n/\-(K * pw F n)<=RA f p q:=by
 have c:=h.lat;have g:∀ p,p<n->RA f p p<=K * pw F n:=by
  intro p d;by_cases e:p=i
  ·subst e;have m:=h.own;have k:=Ch (show 0<=K by grind) (QH o (show p - j<=n by omega));grind
  ·have m:=h.oth p d e;have k:=Ch (show 0<=K by grind) (Vo o n);grind
 rcases LH p q with hlt | e | hgt
 ·rw[c.bh p q];exact RR c.bh c.pos l hlt (g q l) (g p d)
 ·subst e;have m:0<RA f p p:=FO c.bh c.pos d (Cu p);have k:=g p d;exact⟨k,by grind⟩
 ·exact RR c.bh c.pos d hgt (g p d) (g q l)
theorem Wx.T_le (h:Wx n f0 Dm K F f T i j) (c:Le n f0 Dm) (r:1<=K) (l:1<=F) {M:Rat}(u:∀ q,q<n->RA f0 q q<=M) (v:1<=M) {p q:Nat}(d:p<n) (z:q<n) :
  (T q p:Rat)<=bet Dm (K * pw F n * M) ((n:Rat) * M) n/\-(bet Dm (K * pw F n * M) ((n:Rat) * M) n)<=(T q p:Rat):=by
 have e:=A3D n T c.sym p;rw[<- h.con p p d d]at e;have g:=(h.dw r l d d).1;have m:RA f p p=QF n (RA f0) 0 (fun q=>(T q p:Rat)):=e;rw[m]at g;have t:1<=K * pw F n:=by have:=Ch (show 0<=K by grind) (Vo l n);grind
 have o:1<=K * pw F n * M:=by have:=Br (show 0<=K * pw F n - 1 by grind) (show 0<=M by grind);grind
 exact A5a c.bh c.pos u v (fun k y=>c.dh y) c.dm1 (fun q=>(T q p:Rat)) g EQ o oo n 0 oo q BI z
theorem Wx.fin (h:Wx n f0 Dm K F f T i j) (r:RdP n (RA f)) {p q:Nat}(d:p<n) (l:q<n):RA f p q<=(n:Rat) * Dm/\-((n:Rat) * Dm)<=RA f p q:=by
 have c:=h.lat;have g:∀ p,p<n->RA f p p<=(n:Rat) * Dm:=fun p d=>c.dG d (fun k o=>r.1 p k d o);rcases LH p q with hlt | e | hgt
 ·rw[c.bh p q];exact RR c.bh c.pos l hlt (g q l) (g p d)
 ·subst e;have u:0<RA f p p:=FO c.bh c.pos d (Cu p);have m:=g p d;exact⟨m,by grind⟩
 ·exact RR c.bh c.pos d hgt (g p d) (g q l)
end
theorem A5f {a:Int}{k:Nat}{B:Rat}(h:(a:Rat)<=B/\-B<=(a:Rat)) (hB:B<((4294967296 ^ k:Nat):Rat)):sz a<=k:=by
 have d:(a:Rat)<((4294967296 ^ k:Nat):Rat):=by grind
 have c:-((4294967296 ^ k:Nat):Rat)<(a:Rat):=by grind
 have e:((4294967296 ^ k:Nat):Rat)=(((4294967296 ^ k:Nat):Int):Rat):=rfl;rw[e]at d c;rw[<- Q5]at c;have g:a<((4294967296 ^ k:Nat):Int):=by exact_mod_cast d
 have j:-((4294967296 ^ k:Nat):Int)<a:=by exact_mod_cast c
 unfold sz;exact Gn oo
end Go.Qf
namespace Go.Qf
def tri:Nat->Nat
 | 0=>0
 | k+1=>tri k+(k+1)
theorem A1A {d:Nat->Nat}{n:Nat}(h0:d 0=1) (hp:∀ k,k<=n->1<=d k) (h:∀ k,k+2<=n->d (k+1) * d (k+1)<=2 * d k * d (k+2)) :
  ∀ k,k+1<=n->d k ^ (k+1)<=d (k+1) ^ k * 2 ^ tri k:=by
 intro k;induction k with
 | zero=>intro _;rw[h0];simp[tri]
 | succ k ih =>
  intro hk;have i1:=ih oo;have i2:=Nat.pow_le_pow_left (h k oo) (k+1);have hpos:0<d (k+1) ^ k:=EM (hp (k+1) oo);refine Nat.le_of_mul_le_mul_left ?_ hpos;have e1:d (k+1) ^ k * d (k+1) ^ (k+1+1)=(d (k+1) * d (k+1)) ^ (k+1):=by rw[Nat.mul_pow,<- Df,<- Df];congr 1;omega
  have e2:(2 * d k * d (k+2)) ^ (k+1)=d k ^ (k+1) * (2 ^ (k+1) * d (k+2) ^ (k+1)):=by rw[Nat.mul_pow,Nat.mul_pow];ac_rfl
  rw[e1];refine Ar i2 ?_;rw[e2];refine Ar (Bm _ i1) ?_;have e3:tri (k+1)=tri k+(k+1):=rfl;rw[e3,Df 2 (tri k),show k+1+1=k+2 by omega];generalize 2 ^ (k+1)=a;generalize 2 ^ tri k=b;generalize d (k+2) ^ (k+1)=c;generalize d (k+1) ^ k=e;apply Nat.le_of_eq;ac_rfl
def A3E:Nat->Nat
 | 8=>10000
 | 7=>35777
 | 6=>64000
 | 5=>57300
 | 4=>25700
 | _=>10000
theorem A3F:∀ k,k<8->1<=k->A3E (k+1) ^ k * 2 ^ tri k<(A3E k+1) ^ (k+1):=by decide +kernel
theorem A5g {d:Nat->Nat}{n:Nat}(hn:n<=8) (h0:d 0=1) (hp:∀ k,k<=n->1<=d k) (h:∀ k,k+2<=n->d (k+1) * d (k+1)<=2 * d k * d (k+2)) (hd:d n<=10000) :
  ∀ k,k<=n->d k<65536:=by
 have hV:∀ k,k<9->10000<=A3E k/\A3E k<65536:=by decide
 have key:∀ m k,k+m=n->1<=k->d k<=A3E k:=by
  intro m;induction m with
  | zero =>
       intro k hk _;have:k=n:=by omega
       subst this;exact Ar hd (hV k oo).1
  | succ m ih =>
   intro k hk h1;have i1:=ih (k+1) oo oo;have i2:=A1A h0 hp h k oo;have i3:d k ^ (k+1)<(A3E k+1) ^ (k+1):=LL (Ar i2 (Bm _ (Nat.pow_le_pow_left i1 k))) (A3F k oo h1);have:=(Nat.pow_lt_pow_iff_left oo).1 i3;omega
 intro k hk;by_cases e:k=0
 ·subst e;rw[h0];decide
 ·have:=key (n - k) k oo oo;have:=(hV k oo).2;omega
section
variable {n:Nat}{f:Nat->Nat->Int}
theorem A8f (h:Ld n (RA f)):∃ d:Nat->Nat,∀ k,k<=n->dd (RA f) k=(d k:Rat)/\1<=d k:=by
 refine⟨fun k=>(dd (RA f) k).num.toNat,fun k hk=>?_⟩;obtain⟨z,e,hz⟩:=Vm h hk;dsimp only;rw[e];have e1:((z:Rat)).num.toNat=z.toNat:=rfl;rw[e1];refine⟨?_,by omega⟩;have e2:((z.toNat:Nat):Int)=z:=by omega
 have e3:((z.toNat:Nat):Rat)=(((z.toNat:Nat):Int):Rat):=rfl;rw[e3,e2]
theorem ZU {A:Nat->Ej}{i:Nat}(hs:Ok A i (i - 1)) (hl:Ww A i) (hi:0<i):dd A i * dd A i<=2 * dd A (i - 1) * dd A (i+1):=by
 obtain⟨h1,h2⟩:=hs;unfold Ww at hl;rw[show i - 1+1=i by omega]at h1 h2;generalize BB A (i - 1) i (i - 1)=l at *
 generalize dd A i=d at *
 have:=Br (show 0<=d - 2 * l by grind) (show 0<=d+2 * l by grind);grind
theorem Oo (hn:n<=8) (h:Ld n (RA f)) (hr:RdP n (RA f)) (hd:dd (RA f) n<=10000) {k:Nat}(hk:k<=n):dd (RA f) k<65536:=by
 obtain⟨d,hd1⟩:=A8f h;have h0:d 0=1:=by have:=(hd1 0 oo).1;have e:dd (RA f) 0=1:=rfl;rw[e]at this;exact_mod_cast this.symm
 have hlt:=A5g hn h0 (fun k hk=>(hd1 k hk).2) (fun k hk=>?_) (by rw[(hd1 n oo).1]at hd;exact_mod_cast hd) k hk
 ·rw[(hd1 k hk).1];exact_mod_cast hlt
 ·have:=ZU (hr.1 (k+1) k oo oo) (hr.2 (k+1) oo oo) oo;rw[show k+1 - 1=k by omega,show k+1+1=k+2 by omega,(hd1 k oo).1,(hd1 (k+1) oo).1,(hd1 (k+2) oo).1]at this;exact_mod_cast this
theorem A5h (h:Ld n (RA f)) {k:Nat}(hk:k<n) {D:Rat}(hd:dd (RA f) (k+1)<D):EL (RA f) k k k<D:=by rw[Fw]at hd;have h2:=A1x h (show k<=n by omega);have h3:=CI h hk;have:=Br (show 0<=dd (RA f) k - 1 by grind) (Bz h3);grind
theorem ZV {A:Nat->Ej}(hS:PE A) (h:Ld n A) {i:Nat}(hi:i<n) {D:Rat}(hD:∀ k,k<n->EL A k k k<=D) (hs:∀ k,k<i->2 * EL A k i k<=EL A k k k/\-(2 * EL A k i k)<=EL A k k k):∀ (d k:Nat),k+d=i->4 * EL A k i i<=((d+4:Nat):Rat) * D:=by
 intro d;induction d with
 | zero =>
  intro k hk;have:k=i:=by omega
  subst this;have:=hD k hi;have e:((0+4:Nat):Rat)=4:=rfl;rw[e];grind
 | succ d ih =>
  intro k hk;have h1:=ih (k+1) oo;have h2:=hs k oo;have hB:=CI h (show k<n by omega);have h3:=hD k oo;rw[QG hS]at h1;have h5:4 * (EL A k i k * EL A k i k)<=EL A k k k * EL A k k k:=by have a1:=Br (show 0<=EL A k k k - 2 * EL A k i k by grind) (show 0<=EL A k k k+2 * EL A k i k by grind);grind
  have h6:=Gb _ (show EL A k k k≠0 by grind);have h7:=Ch (Bz (Nr hB)) h5;have h8:(EL A k k k)⁻¹ * (EL A k k k * EL A k k k)=EL A k k k:=by grind
  rw[h8]at h7;have e:((d+1+4:Nat):Rat)=((d+4:Nat):Rat)+1:=by
   have:d+1+4=(d+4)+1:=by omega
   rw[this,U1];rfl
  rw[e];grind
theorem RV (hn:n<=8) (hS:PE (RA f)) (h:Ld n (RA f)) (hr:RdP n (RA f)) (hd:dd (RA f) n<=10000) {p q:Nat}(hp:p<n) (hq:q<n):RA f p q<262144/\-262144<RA f p q:=by
 have hdiag:∀ p,p<n->RA f p p<=180224:=by
  intro p hp;have h1:=ZV hS h hp (D:=65536) (fun k hk=>Bz (A5h h hk (Oo hn h hr hd oo))) (fun k hk=>(RU (h k oo)).1 (hr.1 p k hp hk)) p 0 oo;have h2:((p+4:Nat):Rat)<=11:=by
   have:p+4<=11:=by omega
   exact_mod_cast this
  have e:EL (RA f) 0 p p=RA f p p:=rfl;rw[e]at h1;grind
 have key:RA f p q<=180224/\-180224<=RA f p q:=by
  rcases LH p q with hlt | e | hgt
  ·rw[hS p q];exact RR hS h hq hlt (hdiag q hq) (hdiag p hp)
  ·subst e;have h1:0<RA f p p:=FO hS h hp (Cu p);exact⟨hdiag p hp,by grind⟩
  ·exact RR hS h hp hgt (hdiag p hp) (hdiag q hq)
 constructor <;> grind
end
end Go.Qf
namespace Go.Qf
open Go Go.RowKit Go.Proofs Go.Proofs.Tryz
variable {n k:Nat}{f:Nat->Nat->Int}{M:List (List Int)}{A:Nat->Ej}
theorem ZW {B:Nat->Ej}(h:∀ p q,p<n->q<n->A p q=B p q):∀ k,k<=n->∀ p q,p<n->q<n->EL A k p q=EL B k p q:=by
 intro k;induction k with
 | zero=>intro _ p q c d;exact h p q c d
 | succ k ih =>
  intro e p q c d;have i1:=ih oo;rw[Cn,Cn,i1 p q c d,i1 p k c oo,i1 k q oo d,i1 k k oo oo]
theorem HC {B:Nat->Ej}(h:∀ p q,p<n->q<n->A p q=B p q):∀ k,k<=n->dd A k=dd B k:=by
 intro k;induction k with
 | zero=>intro _;rfl
 | succ k ih=>intro c;rw[Fw,Fw,ih oo,ZW h k oo k k oo oo]
theorem ZX {B:Nat->Ej}(h:∀ p q,p<n->q<n->A p q=B p q) (c:k<=n) {p q:Nat}(d:p<n) (e:q<n):BB A k p q=BB B k p q:=by unfold BB;rw[HC h k c,ZW h k c p q d e]
theorem A3G {B:Nat->Ej}(h:∀ p q,p<n->q<n->A p q=B p q) (d:RdP n A):RdP n B:=by
 refine⟨fun i j c g=>?_,fun i e c=>?_⟩
 ·have:=d.1 i j c g;unfold Ok at this ⊢;rw[<- ZX h (show j<=n by omega) c (show j<n by omega),<- HC h (j+1) oo];exact this
 ·have:=d.2 i e c;unfold Ww at this ⊢;rw[<- ZX h (show i - 1<=n by omega) c (show i - 1<n by omega),<- HC h (i+1) oo,<- HC h (i - 1) oo,<- HC h i oo];exact this
structure BQ (n:Nat) (f:Nat->Nat->Int):Prop where
 sym:∀ p q,f p q=f q p
 pos:Ld n (RA f)
 det:dd (RA f) n<=10000
 rd:RdP n (RA f)
theorem A1B (f:Nat->Nat->Int) {p q:Nat}(c:p<n) (d:q<n):ent (mk n n f) p q=f p q:=A2m (BK c) (Fu d)
theorem A1C (g:1<=n) (j:n<=16) (f:Nat->Nat->Int):okM (mk n n f)/\((mk n n f).getD 0 []).length=n:=by
 have d:((mk n n f).getD 0 []).length=n:=by rw[Bd,BK oo];simp
 refine⟨⟨by rw[AU];exact g,by rw[AU];exact j,fun i row c=>?_⟩,d⟩;have e:=(Au.1 c).1;rw[AU]at e;rw[BK e]at c;cases c;rw[d];simp;omega
theorem Vp (h:BQ n f) (e:1<=n) (c:n<=8):Ie (mk n n f):=by
 obtain⟨o,l⟩:=A1C e (show n<=16 by omega) f;have d:∀ p q,p<n->q<n->RA f p q=RA (ent (mk n n f)) p q:=fun p q r u=>by unfold RA;rw[A1B f r u]
 refine⟨o,by rw[l,AU],by rw[AU];exact c,⟨?_,?_⟩,?_,?_⟩
 ·rw[AU];intro i j g k;rw[A1B f g k,A1B f k g];exact h.sym i j
 ·rw[AU];intro m e c;rw[<- HC d m c];exact h.pos m c
 ·rw[AU,<- HC d n AO];exact h.det
 ·rw[AU];exact A3G d h.rd
theorem Ky (j:M.length=n) (e:∀ (i:Nat) (row:List Int),M[i]?=some row->row.length=n) {p q:Nat}(h:n<=p\/n<=q):ent M p q=0:=by
 unfold ent;by_cases k:p<M.length
 ·have c:M[p]?=some M[p]:=by simp
  have g:=e p _ c;have d:(M[p])[q]?=none:=BJ oo;simp[Bd,c,d]
 ·have c:M[p]?=none:=BJ oo;simp[Bd,c]
theorem Ie.bq (h:Ie M):BQ M.length (ent M)/\M=Go.Qf.mk M.length M.length (ent M):=by
 obtain⟨g,l,y,d,j,v⟩:=h;have c:∀ (i:Nat) (row:List Int),M[i]?=some row->row.length=M.length:=fun i row k=>by have:=(g.2.2 i row k).2.2;omega
 refine⟨⟨?_,?_,j,v⟩,?_⟩
 ·intro p q;by_cases r:p<M.length
  ·by_cases u:q<M.length
   ·exact d.1 p q r u
   ·rw[Ky rfl c (.inr oo),Ky rfl c (.inl oo)]
  ·rw[Ky rfl c (.inl oo),Ky rfl c (.inr oo)]
 ·intro m o;by_cases e:m=0
  ·subst e;show (0:Rat)<1;decide
  ·exact d.2 m oo o
 ·have:=A1d g;rw[<- l]at this;exact this.symm
def ZY:Rat:=43046721
def KC:Rat:=344373768
def FC:Rat:=2+8 * ZY * KC
theorem A94:KC * pw FC 8<((4294967296 ^ 16:Nat):Rat):=by decide +kernel
theorem A95:4 * (KC * pw FC 8 * ZY)<((4294967296 ^ 17:Nat):Rat):=by decide +kernel
theorem A96:∀ n,n<9->bet ZY (KC * pw FC n * 9) ((n:Rat) * 9) n<((4294967296 ^ 24:Nat):Rat):=by decide +kernel
theorem A97 (g:PE A) (h:Ld n A) {M:Rat}(l:1<=M) (e:∀ q,q<n->A q q<=M):∀ k,k<=n->dd A k<=pw M k:=by
 intro k;induction k with
 | zero=>intro _;exact EQ
 | succ k ih =>
  intro m;have c:=ih oo;have d:=Ga (A2s g h (show k<=n by omega) k) (e k oo);have j:=CI h (show k<n by omega);rw[Fw];show _<=M * pw M k;have a1:=Ch (Bz (h k oo)) d;have a2:=Ch (show 0<=M by grind) c;grind
theorem A5i (a b:Nat):sz (Ti a b)<=17:=by unfold Ti;split <;> decide +kernel
theorem Ns {s:Nat}(h:∀ a b,a<n->b<n->sz (f a b)<=s) (l:s<=1000000):∀ row ∈ mk n n f,∀ x ∈ row,sz x<=1000000:=by intro row k x e;obtain⟨i,c⟩:=Cx.1 k;have d:=(Au.1 c).1;rw[AU]at d;rw[BK d]at c;cases c;simp only[CG,CZ]at e;obtain⟨j,g,rfl⟩:=e;exact Ar (h i j d g) l
theorem ZZ {w:World}{v:Value}{f0:Nat->Nat->Int}(h:MI w v (mk n n f0)) (C:1<=n/\n<=8) (Z:∀ p q,f0 p q=f0 q p) (V:Ld n (RA f0)) (hr:dd (RA f0) n<=10000) (J:∀ q,q<n->RA f0 q q<=9) :
  Calls prog 59 #[v] w (AJ fun x w'=>Ac w w'/\∃ u t f,x=.tuple #[u,t,.int .i64 0]/\Ft w' u (mk n n f)/\BQ n f):=by
 have d:1<=n/\n<=16:=⟨C.1,by omega⟩;have hS:PE (RA f0):=fun p q=>by unfold RA;rw[Z p q]
 have hs:PD n f0:=fun m o l=>V m l;have Q:Le n f0 ZY:=⟨Z,V,fun k hk=>by
  have o:=A97 hS V (M:=9) de J k hk;have l:=QH (F:=9) de (show k<=8 by omega);have h3:pw 9 8<=ZY:=by decide +kernel
  grind⟩
 have kn:(n:Rat)<=8:=by exact_mod_cast C.2
 have O:(0:Rat)<=ZY:=by decide +kernel
 have kj:8 * ZY=KC:=by decide +kernel
 have K:(n:Rat) * ZY<=KC:=by have:=Br (show 0<=8 - (n:Rat) by grind) O;grind
 have h8:2+8 * ZY * ((n:Rat) * ZY)<=FC:=by have:=Ch (show 0<=8 * ZY by grind) K;unfold FC;grind
 have P:1<=KC:=by decide +kernel
 have E:1<=FC:=by decide +kernel
 have h9:(9:Rat)<=KC:=by decide +kernel
 have hH:KC * pw FC n<=KC * pw FC 8:=Ch (by grind) (QH E C.2);have ki:1<=KC * pw FC n:=by have:=Ch (show 0<=KC by grind) (Vo E n);grind
 have D:∀ {f T:Nat->Nat->Int} {i j:Nat},Wx n f0 ZY KC FC f T i j->∀ a b,a<n->b<n->sz (f a b)<=16:=by intro f T i j c a b A B;exact A5f (c.dw P E A B) (by have:=A94;grind)
 have N:∀ {f T:Nat->Nat->Int} {i j:Nat},Wx n f0 ZY KC FC f T i j->∀ a b,a<n->b<n->sz (T a b)<=24:=by intro f T i j c a b A B;exact A5f (c.T_le Q P E J de B A) (A96 n oo)
 have h6:∀ a b,a<n->b<n->sz (f0 a b)<=16:=D (Wx.init Q oo (fun q W=>by have:=J q W;grind));have h7:2 ^ n<=256:=DB oo (show n<=8 by omega);have ka:2 ^ n * (16+1)<=40000:=Ar (Bm _ h7) de;have kb:2 ^ n * (16+1)<=100000:=by omega
 obtain⟨a,cap,hv,_⟩:=h.mp C.1 C.1;refine cS func59 ntmps59 ?_;refine A7 ?_;refine .s (oK Jb (KK h d d h6 oo oo)) ?_;rintro _ w1 ⟨L,e,rfl,kd⟩;obtain rfl:=kd.2 ⟨rfl,C.2,fun i j _ _=>Z i j,hs⟩;refine A7 ?_;refine .cf ?_;refine .s (oK Qj (QB (h.ext L) d h6 oo kb hs)) ?_;rintro _ w2 ⟨hd,b,rfl,kc⟩;obtain rfl:=kc.2 hr;refine A7 ?_;refine .cf ?_;refine .s (oK Sn (X0 (base:=0) (h.ext (L.trans hd)) d d BI)) ?_;rintro kf w3 ⟨hy,ko,hg⟩;subst hv;refine A7 ?_;refine .s (oK Mt (P2 (base:=0) w3 n d BI)) ?_;rintro _ w4 ⟨hf,t4,kp,rfl,hj⟩;have hw:=((L.trans hd).trans hy).trans hf;refine A7 ?_;refine St.loop (α:=Value×Value×(Nat->Nat->Int)×(Nat->Nat->Int)×Nat×Nat) (fun g=>[(6,g.1),(7,g.2.1)])
  (fun g w'=>Ac w w'/\MI w' g.1 (mk n n g.2.2.1)/\MI w' g.2.1 (mk n n g.2.2.2.1)/\Wx n f0 ZY KC FC g.2.2.1 g.2.2.2.1 g.2.2.2.2.1 g.2.2.2.2.2) (fun g=>lmu n g.2.2.1 g.2.2.2.2.1 g.2.2.2.2.2) (kf,t4,f0,Ti,0,0) AL ?_ ?_
 ·have U:=Wx.init (F:=FC) Q oo (fun q W=>by have:=J q W;exact Ga this h9);exact⟨hw,(hg.ext hf).mi (Ns (D U) oo),hj.mi (Ns (N U) oo),U⟩
 ·clear hw hf hy hd L hj hg;rintro⟨hv,tv,f,T,i,j⟩ w5 ⟨hz,I,ho,c⟩;dsimp only at I ho c ⊢;have ke:PD n f:=fun m o l=>c.lat.pos m l;refine A7 ?_;refine .s (oK Z6 (A3A I d (D c) oo ka ke)) ?_;rintro _ w6 ⟨G,⟨ht,rfl⟩ | ⟨u,rs,g,rfl,hU,hu⟩⟩
  ·refine A7 ?_;refine .ct ?_;refine .s (oK Wh (ZP (I.ext G) d (fun a b A B=>?_))) ?_
   ·have o:=c.fin ht A B;have l:KC<=9223372036854775807:=by decide +kernel
    have h3:(f a b:Rat)<=((9223372036854775807:Int):Rat):=by unfold RA at o;exact Ga o.1 (Ga K l)
    have h4:((-9223372036854775808:Int):Rat)<=(f a b:Rat):=by
     unfold RA at o;have h5:((-9223372036854775808:Int):Rat)<=-KC:=by decide +kernel
     have:=o.2;grind
    exact⟨Iy.1 h4,Iy.1 h3⟩
   ·rintro _ w7 ⟨H,u,rfl,hm⟩;refine A7 ?_;exact Ad.aC A8 [_,_,_] rfl ⟨rfl,rfl,rfl,trivial⟩ ⟨(hz.trans G).trans H,u,tv,f,rfl,hm,c.lat.sym,c.lat.pos,by rw[c.det];exact hr,ht⟩
  ·have X:∀ a b,a<n->b<n->sz (g a b)<=17:=by
    intro a b A B;rcases hu with ⟨i',j',o,l,_,_,hns,rfl⟩ | ⟨i',o,l,_,_,_,rfl⟩
    ·unfold Eg;split
     ·have hc:=c.lat.c_sq o l hns;have km:=(c.dw P E l l).1;have a1:=Br (show 0<=KC * pw FC n - RA f i' i' by grind) O;have a2:=Br (show 0<=KC * pw FC 8 - KC * pw FC n by grind) O;have kh:(1:Rat)<=ZY:=by decide +kernel
      have a3:=Br (show 0<=KC * pw FC 8 - 1 by grind) (show 0<=ZY by grind);exact A5f (A59 (Y:=4 * (KC * pw FC 8 * ZY)) (by grind) (by grind)) A95
     ·exact A5i _ _
    ·exact A5i _ _
   have hp:MI w6 u (mk n n g):=hU.mi (Ns X oo);refine A7 ?_;refine .cf ?_;refine .s (oK Rq (V9 (base:=0) (I.ext G) hp d (D c) X oo BI)) ?_;rintro u7 w7 ⟨H,kg,z⟩;refine .r rfl ?_;refine .s (oK JS (KH (base:=0) ((ho.ext G).ext H) (hp.ext H) d d d (N c) X oo BI)) ?_;rintro u8 w8 ⟨h0,kq,hh⟩;have hx:=((hz.trans G).trans H).trans h0;replace z:BH kg 0 w8 u7 (mk n n (Mh n f g)):=z.ext h0;refine A7 ?_;rcases hu with ⟨i',j',hst⟩ | ⟨i',hst⟩
   ·obtain⟨y,S,R⟩:=c.red K h8 hst;rw[S]at z;refine Ad.again (u7,u8,RS (cR (RA f) i' j') i' j' f,EJ n T g,i',j') AL ⟨hx,z.mi (Ns (D y) oo),hh.mi (Ns (N y) oo),y⟩ ?_;have kl:=c.ji;have kk:=c.hi;show lmu n _ i' j'<lmu n f i j;unfold lmu;rw[A5e c.lat hst.1 hst.2.1];have:=A6X (n:=n) (show j<=n by omega) (show j'<=n by have:=hst.1;have:=hst.2.1;omega) hst.2.1 R;omega
   ·obtain⟨y,S,R⟩:=c.sw K hst;rw[S]at z;refine Ad.again (u7,u8,swZ (i' - 1) f,EJ n T g,0,0) AL ⟨hx,z.mi (Ns (D y) oo),hh.mi (Ns (N y) oo),y⟩ ?_;show lmu n _ 0 0<lmu n f i j;exact A8e BI R
abbrev Bh:=Be func108
abbrev OE:=Be func137
abbrev PJ:=Be func141
abbrev Eh:=Be func158
abbrev Jn:=Be func189
variable {base i b c j m:Nat}{w' w0 w1:World}{t e:TypeId}{C rs:List Value}{iv:Int}
abbrev i8 (x:Int):Value:=.int .i8 x
def L8 (w:World) (v:Value) (xs:List Int):Prop:=Jk 228 w v (xs.map i8)/\(∀ x ∈ xs,-128<=x/\x<=127)/\xs.length<=9223372036854775807
theorem L8.ext {w:World}{v:Value}{xs:List Int}(h:L8 w v xs) (c:Ac w w'):L8 w' v xs:=⟨h.1.ext c,h.2⟩
def Jh (w0 w:World) (b:Nat):Prop:=w0.heap.size<=b/\∃ v xs k,Aj 147 w b [v,.int .i64 (k:Nat)]/\L8 w0 v xs/\k<=xs.length
theorem Jh.ext {w:World}(h:Jh w0 w b) (j:Ac w w'):Jh w0 w' b:=by obtain⟨c,v,xs,k,d,e,g⟩:=h;exact⟨c,v,xs,k,d.ext j,e,g⟩
theorem Jh.upd {w:World}(h:Jh w0 w b) (q:CE c w w') (m:Aj e w c C) (o:e≠147):Jh w0 w' b:=by obtain⟨g,v,xs,k,d,j,l⟩:=h;refine⟨g,v,xs,k,d.upd q ?_,j,l⟩;intro e1;subst e1;have:=d.symm.trans m;simp only[AP,Obj.cells.injEq]at this;exact o this.2.1.symm
theorem Jh.blk {w:World}(h:Jh w0 w b):∃ C,Aj 147 w b C:=by obtain⟨d,v,xs,k,c,e,g⟩:=h;exact⟨_,c⟩
theorem CE.aj {w w2:World}(h:CE b w w1) (k:CE c w1 w2) (g:w.heap.size<=c):CE b w w2 :=
 ⟨k.os.trans h.os,k.tape.trans h.tape,k.output.trans h.output,Ar h.size k.size,fun i d e=>(k.block i (CW d h.size) oo).trans (h.block i d e)⟩
theorem RW {w:World}(n:Ac w0 w) (h:Jh w0 w b):Calls prog 158 #[.pointer (some ⟨b,0,none⟩)] w (AJ fun x w'=>CE b w w'/\Jh w0 w' b/\∃ z,x=.int .i64 z/\-128<=z/\z<=127):=by
 obtain⟨g,v,xs,k,hB,c,f⟩:=h;obtain⟨p,cap,hv⟩:=c.1.len;rw[Bj]at hv;have B:=c.2.2;have y:=c.2.1;subst hv;refine cS func158 ntmps158 ?_;refine A7 ?_;refine St.sub (E':=[(0,.pointer (some ⟨b,0,none⟩))]) ?_ AL;refine sF 9 ?_;refine .q ?_;refine FL.load (L:=[]) A8 rfl rfl rfl rfl rfl rfl EC sm rfl ?_;refine .q ?_;refine FL.load (L:=[]) A8 rfl rfl rfl rfl rfl rfl EC sm rfl ?_;refine .q ?_;refine FL.aG rfl ?_;intro w1 d _ _;replace hB:=hB.ext d;by_cases m:k<xs.length
 ·refine .a 1 (.bool false) rfl (A9 oo) ?_;refine A7 ?_;refine .cf ?_;refine .p FW ?_;refine .a 1 (.int .i64 ((k+1:Nat):Int)) rfl (by rw[Ab oo oo];rfl) ?_;refine .r rfl ?_;refine Af.step0 rfl rfl (Av.store A8 (vs:=[.int .i64 ((k+1:Nat):Int)]) rfl rfl rfl rfl rfl hB (Ai 2) (by simp[Value.oneCell'])) ?_;rintro _ w2 ⟨j,o⟩;have j:Aj 147 w2 b [.slice p xs.length cap,.int .i64 ((k+1:Nat):Int)]:=j;have A:(xs.map i8)[k]?=some (i8 xs[k]):=by simp[m]
  have s:Ac w0 w2:=(n.trans d).aj o g;obtain⟨a,cp,e,t⟩:=(c.1.ext s).get A;have i:(xs.map i8).length=xs.length:=by simp
  rw[i]at e;cases e;refine Nv ?_;refine St.sub (E':=[(0,.pointer (some ⟨b,0,none⟩))]) ?_ AL;refine sF 9 ?_;refine .q ?_;refine FL.load (L:=[]) A8 rfl rfl rfl rfl rfl rfl EC sm rfl ?_;refine .q ?_;refine FL.load (L:=[]) A8 rfl rfl rfl rfl rfl rfl EC sm rfl ?_;refine FL.as A8 1 (.int .i64 k) rfl (by rw[Ab oo oo];congr 1;omega) ?_;refine FL.aG rfl ?_;intro w3 l _ _;refine .p (A0.ia) ?_;refine .p (rL (l.cell t)) ?_;have u:=y xs[k] sm;refine .a 1 (.int .i64 xs[k]) rfl (by rw[Ab oo oo]) ?_;refine A7 ?_;exact Ad.ax rfl rfl ⟨((d.upd b).trans o).trans (l.upd b),⟨g,_,xs,k+1,j.ext l,c,m⟩,_,rfl,u.1,u.2⟩
 ·refine .a 1 (.bool true) rfl (Aa oo) ?_;refine A7 ?_;refine .ct ?_;exact Ad.ax rfl rfl ⟨d.upd b,⟨g,_,xs,k,hB,c,f⟩,0,rfl,by omega,by omega⟩
theorem A8g (z:Int):∃ y:Nat,IntKind.i64.wrap (IntKind.u8.wrap z)=(y:Int)/\y<256:=by rw[Ua,Ab oo oo];exact⟨(z % 256).toNat,by omega,by omega⟩
theorem FP {w:World}(d:Ac w0 w) (h:Jh w0 w b) (k:1<=m):Calls prog 108 #[.pointer (some ⟨b,0,none⟩),.int .i64 m] w (AJ fun x w'=>CE b w w'/\Jh w0 w' b/\∃ z:Nat,x=.int .i64 z/\z<m):=by refine cS func108 ntmps108 ?_;refine A7 ?_;refine .s (oK Eh (RW d h)) ?_;rintro _ w1 ⟨hu,c,z,rfl,g,j⟩;refine .r rfl ?_;obtain⟨y,e,l⟩:=A8g z;refine .p (A0.cO y m rfl e rfl rfl oo) ?_;refine A7 ?_;exact Ad.ax rfl rfl ⟨hu,c,y % m,rfl,CX _ oo⟩
theorem DE.aI {te:TypeId}{w:World}{v:Value}{R:List (List Value)}(h:DE k te e base w v rs R) (hu:CE b w w') (c:Aj t w b C) (d:te≠t) (g:e≠t):DE k te e base w' v rs R:=by obtain⟨a1,a2,a3,a4,a5⟩:=h;exact⟨a1.aI hu c d,a2,a3,fun i r us j l=>(a4 i r us j l).aI hu c g,a5⟩
section
variable {n:Nat}{E:List (Nat×Value)}{w:World}{ops:Array Oper}{rest:List Oper}{Q:Exit->Act->World->Prop}{d1 s:Nat}{x I y:Operand}{ty ty2:TypeId}{pos pos2:String}{af af2:Array Edge}{g1 g2:Option (Nat×Bool)}
theorem Af.dH {v:Value}(h:DK rs base w v M) (O:i<M.length) (B:Aj 2 w b (List.replicate c (.int .i64 0))) (o:base<=b) (q:∀ r ∈ rs,r.ownBlock≠some b) (K:c<=1000000)
  (H:ov E x=some v) (m:ov E I=some (.int .i64 iv)) (a:iv=i) (J:∀ p,ov ((d1,p)::E) y=some (.slice (some ⟨b,0,none⟩) c c)) (u:Bg ops E g1=some true) (f:Nat.blt d1 n=true) (t:∀ p,Bg ops ((d1,p)::E) g2=some true)
  (next:∀ p w' g C,base<=g->Aj 33 w g C->CE g w w'->DK (rs.set i (.slice (some ⟨b,0,none⟩) c c)) base w' v (M.set i (List.replicate c 0))->Af prog n ((d1,p)::E) w' ops rest Q) :
  Af prog n E w ops (⟨some d1,.indexAddr 25 x I,ty,pos,af,g1⟩::⟨none,.store 33 (.tmp d1) y,ty2,pos2,af2,g2⟩::rest) Q:=by
 have P:=h.rsl;have A:List.replicate c (Value.int .i64 0)=(List.replicate c (0:Int)).map DZ:=by rw[G9]
 obtain⟨g,cap,D,hv,z,d,N,L,G⟩:=DE.setRow h de (i:=i) (r:=.slice (some ⟨b,0,none⟩) c c) (us:=(List.replicate c (0:Int)).map DZ) oo
  ⟨RQ _,.inr ⟨b,c,[],by simp,o,by rw[D7,CO _ (EH _),<- A];exact B,by simp,by simp,by unfold maxLen;omega⟩⟩ rfl rfl
  (fun j s _ F e=>absurd e (q s (Bi F)))
 subst hv;refine Af.put A8 i d a oo sm rfl rfl rfl rfl H m u f t J rfl rfl ?_;intro p w' k l;rw[AE]at k;refine next p w' g _ z d l ?_
 have:=G w' l k;unfold DK;rw[Gx];exact this
theorem Af.putU {v r:Value}{row:List Int}{z:Int}(h:DK rs base w v M) (G:rs[i]?=some r) (f:M[i]?=some row) (A:j<row.length)
  (m:ov E x=some r) (o:ov E I=some (.int .i64 iv)) (s:iv=j) (H:∀ p,ov ((d1,p)::E) y=some (.int .i64 z)) (t:Bg ops E g1=some true) (F:Nat.blt d1 n=true) (b:∀ p,Bg ops ((d1,p)::E) g2=some true)
  (next:∀ p w' g C,base<=g->Aj 2 w g C->CE g w w'->DK rs base w' v (M.set i (row.set j z))->Af prog n ((d1,p)::E) w' ops rest Q) :
  Af prog n E w ops (⟨some d1,.indexAddr 33 x I,ty,pos,af,g1⟩::⟨none,.store 2 (.tmp d1) y,ty2,pos2,af2,g2⟩::rest) Q:=by
 have q:(M.map (fun row=>row.map DZ))[i]?=some (row.map DZ):=by simp[f]
 obtain⟨g,cap,D,hv,a,c,J,K,d⟩:=DE.put h de G q (j:=j) (by simpa using A) (u:=.int .i64 z) ⟨rfl,by simp[Value.cells,Value.oneCell']⟩;rw[CO _ (EH row)]at c d;subst hv;have B:(row.map DZ).length=row.length:=by simp
 rw[B]at m;refine Af.put A8 j c s oo (by rw[Bf];simp) rfl rfl rfl rfl m o t F b H rfl rfl ?_;intro p w' k l;rw[AE]at k;refine next p w' g _ a c l ?_
 have e:Fl (row.map DZ++D) (1 * j) (Value.int .i64 z).cells.toList=(row.map DZ++D).set j (.int .i64 z):=by rw[Cf];rfl
 rw[e]at d;have:=d w' l k;unfold DK;rw[Gx,Gx];exact this
end
theorem DK.cw {w:World}{v r:Value}{row:List Int}(h:DK rs base w v M) (q:rs[i]?=some r) (f:M[i]?=some row) (p:row≠[]) :
  ∃ g cap D,r=.slice (some ⟨g,0,none⟩) row.length cap/\base<=g/\Aj 2 w g (row.map DZ++D)/\∀ j z w',j<row.length->CE g w w'->Aj 2 w' g ((row.map DZ++D).set j (.int .i64 z))->DK rs base w' v (M.set i (row.set j z)):=by
 have m:(M.map (fun row=>row.map DZ))[i]?=some (row.map DZ):=by simp[f]
 have y:0<row.length:=List.length_pos_iff.2 p;obtain⟨g,cap,D,hv,b,d,A,B,_⟩:=DE.put h de q m (j:=0) (by simpa using y) (u:=.int .i64 0) ⟨rfl,by simp[Value.cells,Value.oneCell']⟩;rw[CO _ (EH row)]at d;refine⟨g,cap,D,by rw[hv];simp,b,d,fun j z w' n s a=>?_⟩;obtain⟨g2,x,c,l,_,o,_,_,k⟩:=DE.put h de q m (j:=j) (by simpa using n) (u:=.int .i64 z) ⟨rfl,by simp[Value.cells,Value.oneCell']⟩;rw[hv]at l;simp only[Ci,AP,FF]at l;obtain⟨⟨rfl,_⟩,_,_⟩:=l;rw[CO _ (EH row)]at o k;have t:c=D:=by have:=o.symm.trans d;simp only[AP,Obj.cells.injEq]at this;simpa using this.1
 subst t;have e:Fl (row.map DZ++c) (1 * j) (Value.int .i64 z).cells.toList=(row.map DZ++c).set j (.int .i64 z):=by rw[Cf];rfl
 rw[e]at k;have:=k w' s a;unfold DK;rw[Gx,Gx];exact this
def A00 (n m:Nat) (f:Nat->Nat->Int):Prop:=∀ p q,p<n->q<n->(p≠q->f p q=0)/\(p=q->1<=f p q/\f p q<=m)
theorem II {w0 w:World}{b n m:Nat}(K:Ac w0 w) (c:Jh w0 w b) (hn:1<=n/\n<=16) (T:1<=m/\m<=9) :
  Calls prog 109 #[.pointer (some ⟨b,0,none⟩),.int .i64 n,.int .i64 m] w (AJ fun x w'=>CE b w w'/\Ac w0 w'/\Jh w0 w' b/\∃ rs f,DK rs w.heap.size w' x (mk n n f)/\A00 n m f):=by
 have ho:b<w.heap.size:=by obtain⟨C,W⟩:=c.blk;exact W.lt
 have ha:=c.1;refine Sj (args:=[_,_,_]) func109 rfl ntmps109 rfl ?_;refine A7 ?_;refine .s (Av.make A8 n rfl rfl rfl rfl rfl rfl rfl rfl (by show n * 24<=_;omega) oo) ?_;rintro _ w2 ⟨rfl,B,E,hl⟩;have H:=QC (base:=w.heap.size) AO oo B;rw[<- Nq n n (fun _ _=>0)]at H;refine A7 ?_;refine St.rng A8 (13) (0) (n) oo [(0,.pointer (some ⟨b,0,none⟩)),(1,.int .i64 n),(2,.int .i64 m),(7,.slice (some ⟨w.heap.size,0,none⟩) n n),(12,.int .i64 n)] (fun i w'=>CE b w w'/\Ac w0 w'/\Jh w0 w' b/\∃ rs f,DK rs w.heap.size w' (.slice (some ⟨w.heap.size,0,none⟩) n n) (SF n n i f)/\∀ p q,p<i->q<n->(p≠q->f p q=0)/\(p=q->1<=f p q/\f p q<=m)) AL ?_ (fun _=>⟨rfl,rfl⟩) (fun _=>rfl) (fun _=>⟨rfl,rfl⟩) rfl rfl oo ?_ ?_
 ·exact⟨E.upd b,K.trans E,c.ext E,_,_,H,fun p q hp=>by omega⟩
 ·clear H B E hl c;rintro i w3 l ⟨t,L,c,rs,f,o,I⟩;refine A7 ?_;refine .s (Av.make A8 n rfl rfl rfl rfl rfl rfl rfl rfl (by show n * 8<=_;omega) oo) ?_;rintro _ w4 ⟨rfl,B4,F,hs⟩;refine Af.dH (o.ext F) (by rw[Cv];exact l) B4 t.size (fun r hr=>o.bG r hr _ AO) oo rfl rfl rfl (fun _=>rfl) rfl rfl (fun _=>rfl) ?_;intro p5 U g5 C5 hc hb J v;rw[QE l]at v;have O:=(c.ext F).upd J hb de;have Z:CE b w U:=(t.trans (F.upd b)).aj J hc;have Q:Ac w0 U:=(L.trans F).aj J (by have:=K.size;omega);obtain⟨a3,rr,ea,_,y,S⟩:=v.rowAt (i:=i) (by rw[Cv];exact l);cases ea;generalize hj:rs.set i (.slice (some ⟨w3.heap.size,0,none⟩) n n)=rs5 at v y;have hk:rr=.slice (some ⟨w3.heap.size,0,none⟩) n n:=by have he:=o.rsl;rw[Cv]at he;rw[<- hj,Bx oo]at y;simpa using y.symm
  subst hk;refine Nv ?_;refine St.sub (E':=[(13,.int .i64 i),(0,.pointer (some ⟨b,0,none⟩)),(1,.int .i64 n),(2,.int .i64 m),(7,.slice (some ⟨w.heap.size,0,none⟩) n n),(12,.int .i64 n),(8,.int .i64 i)]) ?_ AL;refine St.any Dv rfl ?_;intro w6 k _ _;refine WA.takes (fuel:=6) A8 kr (fun _ _ _ _ _ h=>h) [0,1,4,5,6] kr rfl ?_;refine WA.take 2 rfl rfl kr kr kr (fun _ _ _ h=>h) rfl rfl (fun w=>A0.ia) ?_;refine WA.meet 2 #[true,true,true,true,true,true,true,true,true,false,false] (fun z:Nat=>[(13,.int .i64 i),(0,.pointer (some ⟨b,0,none⟩)),(1,.int .i64 n),(2,.int .i64 m),(7,.slice (some ⟨w.heap.size,0,none⟩) n n),(12,.int .i64 n),(24,.slice (some ⟨w3.heap.size,0,none⟩) n n),(25,.int .i64 i),(29,.int .i64 (IntKind.i64.wrap (1+(z:Int))))]) (fun z w'=>CE b w6 w'/\Jh w0 w' b/\z<m) ?_ ?_
  ·rintro z M ⟨d,u,G⟩;obtain⟨C6,X⟩:=(O.ext k).blk;have Y:DK rs5 w.heap.size M _ _:=DE.aI (v.ext k) d X de de;have hh:(SF n n (i+1) (fun a b=>if a<i then f a b else 0))[i]?=some (tab n (fun b=>if i<i then f i b else 0)):=by rw[EX l,if_pos oo]
   obtain⟨g,cap,D,hv,hg,hB,hd⟩:=Y.cw y hh (by intro e;have:=congrArg List.length e;rw[D9]at this;simp at this;omega);rw[D9]at hv;simp only[Ci,AP,FF,and_true]at hv;obtain⟨rfl,_,rfl⟩:=hv;refine WA.one (i:=9) kr (Ed.val rfl rfl rfl rfl (A0.ia).op ?_);rintro _ _ ⟨rfl,rfl⟩;simp only[Cj,Ak,AE];refine WA.one (i:=10) kr (Ed.eff rfl rfl rfl (Av.store A8 (vs:=[_]) rfl rfl rfl rfl rfl hB (by rw[Bf,Bj,D9];simp;omega) (by simp[Value.oneCell'])) ?_);rintro _ w8 ⟨V,A⟩;refine WA.done kr ?_;have N:=hd i (IntKind.i64.wrap (1+(z:Int))) w8 (by rw[D9];exact l) A V;rw[Ab oo oo,Mf (f:=fun a b=>if a<i then f a b else 0) l oo l]at N;refine Nv ?_;refine Ad.rnd AL ⟨((Z.trans (k.upd b)).trans d).aj A oo,((Q.trans k).aj d ha).aj A (by have:=K.size;omega),u.upd A hB de,rs5,_,N,fun p q hp hq=>?_⟩;unfold Eg;by_cases e:p=i
   ·subst e;by_cases e2:q=p
    ·subst e2;rw[if_pos ⟨rfl,rfl⟩];exact⟨fun h=>absurd rfl h,fun _=>by omega⟩
    ·rw[if_neg (fun h=>e2 h.2)];dsimp only;rw[if_neg oo];exact⟨fun _=>rfl,fun h=>absurd h.symm e2⟩
   ·rw[if_neg (fun h=>e h.1)];dsimp only;rw[if_pos oo];exact I p q oo hq
  ·intro meet;have R:=Q.trans k;have P:=O.ext k;refine WA.two (i:=3) (j:=7) kr ?_ ?_
   ·refine Ed.val rfl rfl rfl rfl (A0.load A8 rfl rfl rfl (k.cell S)).op ?_;rintro _ _ ⟨rfl,rfl⟩;refine WA.one (i:=7) kr (Ed.val rfl rfl rfl rfl (Av.call Bh rfl (FP R P T.1)) ?_);rintro _ M ⟨d,u,z,rfl,G⟩;refine WA.takes (fuel:=2) A8 kr (fun _ _ _ _ _ h=>h) [8] kr rfl ?_;exact meet z _ _ _ kr ⟨d,u,G⟩ AL
   ·refine Ed.val rfl rfl rfl rfl (Av.call Bh rfl (FP R P T.1)) ?_;rintro _ M ⟨d,u,z,rfl,G⟩;refine WA.takes (fuel:=3) A8 kr (fun _ _ _ _ _ h=>h) [8] kr rfl ?_;refine WA.one (i:=3) kr (Ed.val rfl rfl rfl rfl (A0.load A8 rfl rfl rfl (d.cell (k.cell S) (by rw[DW];show w.heap.size≠b;omega))).op ?_);rintro _ _ ⟨rfl,rfl⟩;exact meet z _ _ _ kr ⟨d,u,G⟩ AL
 ·rintro w3 ⟨t,L,c,rs,f,o,I⟩;rw[QD]at o;refine A7 ?_;exact Ad.ax rfl rfl ⟨t,L,c,rs,f,o,I⟩
def QI (n:Nat) (c:Int) (f:Nat->Nat->Int):Prop:=∀ p q,p<n->q<n->-c<=f p q/\f p q<=c
theorem Vq {w:World}{n:Nat}{fork:Bool}(hn:1<=n/\n<=16) :
  Calls prog 107 #[.int .i64 n,.bool fork] w (AJ fun x w'=>Ac w w'/\∃ rs f,DK rs w.heap.size w' x (mk n n f)/\QI n 2 f):=by
 refine Sj (args:=[_,_]) func107 rfl ntmps107 rfl ?_;refine A7 ?_;refine .s (Av.make A8 n rfl rfl rfl rfl rfl rfl rfl rfl (by show n * 24<=_;omega) oo) ?_;rintro _ w2 ⟨rfl,B,W,hu⟩;have C:=QC (base:=w.heap.size) AO oo B;rw[<- Nq n n (fun _ _=>0)]at C;refine A7 ?_;refine St.rng A8 (12) (0) (n) oo [(0,.int .i64 n),(1,.bool fork),(5,.slice (some ⟨w.heap.size,0,none⟩) n n),(11,.int .i64 n)] (fun i w'=>Ac w w'/\∃ rs f,DK rs w.heap.size w' (.slice (some ⟨w.heap.size,0,none⟩) n n) (SF n n i f)/\∀ p q,p<i->q<n->-2<=f p q/\f p q<=2) AL ?_ (fun _=>⟨rfl,rfl⟩) (fun _=>rfl) (fun _=>⟨rfl,rfl⟩) rfl rfl oo ?_ ?_
 ·exact⟨W,_,_,C,fun p q y=>by omega⟩
 ·clear C B W hu;rintro i w3 c ⟨t,rs,f,d,F⟩;refine A7 ?_;refine .s (Av.make A8 n rfl rfl rfl rfl rfl rfl rfl rfl (by show n * 8<=_;omega) oo) ?_;rintro _ w4 ⟨rfl,B4,G,h1⟩;refine Af.dH (d.ext G) (by rw[Cv];exact c) B4 t.size (fun r hr=>d.bG r hr _ AO) oo rfl rfl rfl (fun _=>rfl) rfl rfl (fun _=>rfl) ?_;intro p5 w5 g5 C5 hk he S o;rw[QE c]at o;have hc:Ac w w5:=(t.trans G).aj S hk;obtain⟨a3,X,ea,_,l,v⟩:=o.rowAt (i:=i) (by rw[Cv];exact c);cases ea;generalize R:rs.set i (.slice (some ⟨w3.heap.size,0,none⟩) n n)=rs5 at o l;have ht:X=.slice (some ⟨w3.heap.size,0,none⟩) n n:=by have ho:=d.rsl;rw[Cv]at ho;rw[<- R,Bx oo]at l;simpa using l.symm
  subst ht;refine A7 ?_;refine .p (A0.ia) ?_;refine .p (A0.load A8 rfl rfl rfl v) ?_;refine .r rfl ?_;refine Af.putU o l (EX c) (j:=i) (by rw[if_pos oo,D9];exact c) rfl rfl rfl (fun _=>rfl) rfl rfl (fun _=>rfl) ?_;intro p6 A g6 C6 hl hh T u;rw[if_pos oo,Mf (f:=fun a b=>if a<i then f a b else 0) c oo c]at u;have K:Ac w A:=hc.aj T hl;have M:∀ p q,p<i+1->q<n->-2<=Eg (fun a b=>if a<i then f a b else 0) i i 2 p q/\Eg (fun a b=>if a<i then f a b else 0) i i 2 p q<=2:=by
   intro p q y z;unfold Eg;split
   ·omega
   ·dsimp only;split
    ·exact F p q oo z
    ·omega
  generalize Eg (fun a b=>if a<i then f a b else 0) i i 2=f6 at *
  clear o v d B4 G S he T hh R;refine Nv ?_;refine .a 2 (.int .i64 ((i:Int) - 1)) rfl (by rw[Ab oo oo]) ?_;refine .r rfl ?_;refine Af.nil (Ad.ak ?_);refine St.cut (fun k:Int=>[(12,.int .i64 i),(0,.int .i64 n),(1,.bool fork),(5,.slice (some ⟨w.heap.size,0,none⟩) n n),(11,.int .i64 n),(6,.int .i64 i),(7,.int .i64 k)]) (fun k w'=>w'=A/\-1<=k/\k<i) ?_ ?_
  ·have no:∀ {E:List (Nat×Value)} {Q:Exit->Act->World->Prop} {Em:Int->List (Nat×Value)},Xy (Em ((i:Int) - 1)) E->Ad 57 E A .normal (Exit.then (Met 57 Em (fun k w'=>w'=A/\-1<=k/\k<i)) Q):=fun hs=>Ad.met ((i:Int) - 1) hs ⟨rfl,by omega,by omega⟩;refine Nv ?_;cases fork
   ·refine .r rfl ?_;refine Nv ?_;refine .cF ?_;exact St.skip (no AL)
   ·by_cases e:i=n - 1
    ·refine .a 6 (.bool true) rfl (by rw[Ab oo oo,beq_of_eq oo]) ?_;by_cases h3:3<n
     ·refine .a 4 (.bool true) rfl (Aa oo) ?_;refine .r rfl ?_;refine Nv ?_;refine .cT ?_;refine Nv ?_;refine .a 2 (.int .i64 ((i:Int) - 2)) rfl (by rw[Ab oo oo]) ?_;refine .r rfl ?_;refine Af.nil ?_;exact Ad.met ((i:Int) - 2) AL ⟨rfl,by omega,by omega⟩
     ·refine .a 4 (.bool false) rfl (A9 oo) ?_;refine .r rfl ?_;refine Nv ?_;refine .cF ?_;exact St.skip (no AL)
    ·refine .a 6 (.bool false) rfl (by rw[Ab oo oo,beq_false_of_ne oo]) ?_;refine .r rfl ?_;refine Nv ?_;refine .cF ?_;exact St.skip (no AL)
  ·rintro k _ ⟨rfl,hy,hz⟩;refine Nv ?_;by_cases hx:0<=k
   ·obtain⟨j,rfl⟩:∃ j:Nat,k=j:=⟨k.toNat,by omega⟩;refine .a 2 (.bool true) rfl (Aa oo) ?_;refine A7 ?_;refine .cT ?_;refine Nv ?_;obtain⟨a3,X,ea,_,P,v⟩:=u.rowAt (i:=i) (by rw[Cv];exact c);cases ea;rw[l]at P;cases P;obtain⟨a4,r4,ea,_,hm,L⟩:=u.rowAt (i:=j) (by rw[Cv];omega);cases ea;refine St.sub (E':=[(12,.int .i64 i),(0,.int .i64 n),(1,.bool fork),(5,.slice (some ⟨w.heap.size,0,none⟩) n n),(11,.int .i64 n),(6,.int .i64 i),(7,.int .i64 j)]) ?_ AL;refine St.any Dv rfl ?_;intro w7 m _ _;refine WA.takes (fuel:=8) A8 kr (fun _ _ _ _ _ h=>h) [0,1,4,5,6,9] kr rfl ?_;refine WA.take 2 rfl rfl kr kr kr (fun _ _ _ h=>h) rfl rfl (fun w=>A0.ia) ?_;refine WA.take 7 rfl rfl kr kr kr (fun _ _ _ h=>h) rfl rfl (fun w=>A0.ia) ?_;refine WA.meet 4 #[true,true,true,true,true,true,true,true,true,true,false,false,false,false] (fun _:Unit=>[(12,.int .i64 i),(0,.int .i64 n),(1,.bool fork),(5,.slice (some ⟨w.heap.size,0,none⟩) n n),(11,.int .i64 n),(6,.int .i64 i),(7,.int .i64 j),(46,.slice (some ⟨w3.heap.size,0,none⟩) n n),(47,.int .i64 j),(51,r4),(52,.int .i64 i)]) (fun _ w'=>w'=w7) ?_ ?_
    ·rintro _ _ rfl;have hb:=u.ext m;obtain⟨g,cap,D,hv,hg,hB,N⟩:=hb.cw l (EX c) (by rw[if_pos oo];intro e;have:=congrArg List.length e;rw[D9]at this;simp at this;omega);rw[if_pos oo]at hv hB N;rw[D9]at hv;simp only[Ci,AP,FF,and_true]at hv;obtain⟨rfl,_,rfl⟩:=hv;refine WA.one (i:=10) kr (Ed.val rfl rfl rfl rfl (A0.ia).op ?_);rintro _ _ ⟨rfl,rfl⟩;simp only[Cj,Ak,AE];refine WA.one (i:=11) kr (Ed.eff rfl rfl rfl (Av.store A8 (vs:=[_]) rfl rfl rfl rfl rfl hB (by rw[Bf,Bj,D9];simp;omega) (by simp[Value.oneCell'])) ?_);rintro _ Y ⟨Z,U⟩;have I:=N j (-1) Y (by rw[D9];omega) U Z;rw[Mf c oo oo]at I;have hd:Ac w Y:=(K.trans m).aj U hg;obtain⟨g2,hw,D2,rfl,hj,H,O⟩:=I.cw hm (EX (show j<n by omega)) (by rw[if_pos oo];intro e;have:=congrArg List.length e;rw[D9]at this;simp at this;omega);rw[if_pos oo]at H O;refine WA.one (i:=12) kr (Ed.val rfl rfl rfl rfl (A0.indexAddr A8 rfl rfl rfl rfl rfl oo (by rw[if_pos oo,D9];omega)).op ?_);rintro _ _ ⟨rfl,rfl⟩;simp only[Cj,Ak,AE];refine WA.one (i:=13) kr (Ed.eff rfl rfl rfl (Av.store A8 (vs:=[_]) rfl rfl rfl rfl rfl H (by rw[Bf,Bj,D9];simp;omega) (by simp[Value.oneCell'])) ?_);rintro _ w9 ⟨ha,V⟩;have J:=O i (-1) w9 (by rw[D9];exact c) V ha;rw[Mf oo oo c]at J;refine WA.done kr ?_;refine Nv ?_;refine Ad.rnd AL ⟨hd.aj V hj,rs5,_,J,fun p q y z=>?_⟩;unfold Eg;split
     ·omega
     ·split
      ·omega
      ·exact M p q y z
    ·intro meet;refine WA.two (i:=3) (j:=8) kr ?_ ?_
     ·refine Ed.val rfl rfl rfl rfl (A0.load A8 rfl rfl rfl (m.cell v)).op ?_;rintro _ _ ⟨rfl,rfl⟩;refine WA.one (i:=8) kr (Ed.val rfl rfl rfl rfl (A0.load A8 rfl rfl rfl (m.cell L)).op ?_);rintro _ _ ⟨rfl,rfl⟩;exact meet () _ _ _ kr rfl AL
     ·refine Ed.val rfl rfl rfl rfl (A0.load A8 rfl rfl rfl (m.cell L)).op ?_;rintro _ _ ⟨rfl,rfl⟩;refine WA.one (i:=3) kr (Ed.val rfl rfl rfl rfl (A0.load A8 rfl rfl rfl (m.cell v)).op ?_);rintro _ _ ⟨rfl,rfl⟩;exact meet () _ _ _ kr rfl AL
   ·refine .a 2 (.bool false) rfl (A9 oo) ?_;refine A7 ?_;refine .cF ?_;refine Nv ?_;exact Ad.rnd AL ⟨K,rs5,f6,u,M⟩
 ·rintro w3 ⟨t,rs,f,d,F⟩;rw[QD]at d;refine A7 ?_;exact Ad.ax rfl rfl ⟨t,rs,f,d,fun p q y z=>F p q y z⟩
theorem DK.addr {w:World}{v:Value}(h:DK rs base w v M) (j:0<M.length):∃ g cap,v=.slice (some ⟨g,0,none⟩) M.length cap/\base<=g:=by have c:=h.rsl;obtain⟨g,cap,D,hv,d,_⟩:=h.1.open (by intro e;rw[e]at c;simp at c;omega);exact⟨g,cap,by rw[hv,c],d⟩
theorem DK.cellAt {w:World}{v rr:Value}(h:DK rs base w v (mk n n f)) (o:rs[i]?=some rr) (g:i<n) (k:j<n):∃ a c,rr=.slice (some a) n c/\w.cell? (a.add j)=some (.int .i64 (f i j)):=by
 have d:(mk n n f |>.map (fun row=>row.map DZ))[i]?=some (((List.range n).map (f i)).map DZ):=by simp[BK g]
 have q:=(h.2.2.2.1 i rr _ o d).row (EH _);have l:(((List.range n).map (f i)).map DZ)[j]?=some (DZ (f i j)):=by simp[k]
 obtain⟨a5,c5,e5,e⟩:=q.get l;have m:(((List.range n).map (f i)).map DZ).length=n:=by simp
 rw[m]at e5;exact⟨a5,c5,e5,e⟩
theorem A7H (z:Int):-2<=z.tmod 3/\z.tmod 3<=2:=by have d:=Int.tmod_lt_of_pos z (show (0:Int)<3 by decide);have c:=Int.tmod_lt_of_pos (-z) (show (0:Int)<3 by decide);rw[Int.neg_tmod]at c;omega
theorem Yj {w:World}(L:Ac w0 w) (r:Jh w0 w b) (hn:1<=n/\n<=16) :
  Calls prog 106 #[.pointer (some ⟨b,0,none⟩),.int .i64 n] w (AJ fun x w'=>CE b w w'/\Ac w0 w'/\Jh w0 w' b/\∃ rs f,DK rs w.heap.size w' x (mk n n f)/\QI n 6 f):=by
 have h0:b<w.heap.size:=by obtain⟨C,hC⟩:=r.blk;exact hC.lt
 have hd:=r.1;refine Sj (args:=[_,_]) func106 rfl ntmps106 rfl ?_;refine A7 ?_;refine .s (Av.call Dt rfl (II (m:=6) L r hn oo)) ?_;rintro V w1 ⟨X,Z,R,rs,f,c,d⟩;obtain⟨g,cap,rfl,hg⟩:=c.addr (by rw[AU];omega);rw[AU]at c ⊢;replace d:QI n 6 f:=fun p q t a=>by
  obtain⟨a1,a2⟩:=d p q t a;by_cases e:p=q
  ·have:=a2 e;omega
  ·have:=a1 e;omega
 refine A7 ?_;refine St.rng A8 (13) (0) (n) oo [(0,.pointer (some ⟨b,0,none⟩)),(5,.slice (some ⟨g,0,none⟩) n cap),(12,.int .i64 n)] (fun i w'=>CE b w w'/\Ac w0 w'/\Jh w0 w' b/\∃ f,DK rs w.heap.size w' (.slice (some ⟨g,0,none⟩) n cap) (mk n n f)/\QI n 6 f) AL ?_ (fun _=>⟨rfl,rfl⟩) (fun _=>rfl) (fun _=>⟨rfl,rfl⟩) rfl rfl oo ?_ ?_
 ·exact⟨X,Z,R,f,c,d⟩
 ·clear c d R Z X r f;rintro i w2 v ⟨Y,ha,S,f,c,d⟩;refine A7 ?_;refine St.ef A8 (7) (0) (i) oo [(13,.int .i64 i),(0,.pointer (some ⟨b,0,none⟩)),(5,.slice (some ⟨g,0,none⟩) n cap),(12,.int .i64 n),(6,.int .i64 i)] (fun j w'=>CE b w w'/\Ac w0 w'/\Jh w0 w' b/\∃ f,DK rs w.heap.size w' (.slice (some ⟨g,0,none⟩) n cap) (mk n n f)/\QI n 6 f) AL ?_ (fun _=>⟨rfl,rfl⟩) (fun _=>rfl) (fun _=>⟨rfl,rfl⟩) rfl rfl oo ?_ ?_
  ·exact⟨Y,ha,S,f,c,d⟩
  ·clear c d S ha Y f;rintro j w3 hj ⟨B,A,G,f,c,d⟩;obtain⟨a3,rr,ea,_,hs,H⟩:=c.rowAt (i:=i) (by rw[AU];exact v);cases ea;refine Nv ?_;refine St.sub (E':=[(7,.int .i64 j),(13,.int .i64 i),(0,.pointer (some ⟨b,0,none⟩)),(5,.slice (some ⟨g,0,none⟩) n cap),(12,.int .i64 n),(6,.int .i64 i)]) ?_ AL;refine St.any Dv rfl ?_;intro w6 l _ _;refine WA.takes (fuel:=6) A8 kr (fun _ _ _ _ _ h=>h) [0,1,4,5] kr rfl ?_;refine WA.take 2 rfl rfl kr kr kr (fun _ _ _ h=>h) rfl rfl (fun w=>A0.ia) ?_;refine WA.meet 2 #[true,true,true,true,true,true,true,true,false,false] (fun z:Int=>[(7,.int .i64 j),(13,.int .i64 i),(0,.pointer (some ⟨b,0,none⟩)),(5,.slice (some ⟨g,0,none⟩) n cap),(12,.int .i64 n),(6,.int .i64 i),(24,rr),(25,.int .i64 j),(28,.int .i64 z)]) (fun z w'=>CE b w6 w'/\Jh w0 w' b/\-2<=z/\z<=2) ?_ ?_
   ·rintro z M ⟨k,u,hz⟩;obtain⟨C6,O⟩:=(G.ext l).blk;have Q:DK rs w.heap.size M _ _:=DE.aI (c.ext l) k O de de;obtain⟨g3,hy,D,rfl,hr,hB,J⟩:=Q.cw hs (BK v) (by intro e;have:=congrArg List.length e;simp at this;omega);have W:((List.range n).map (f i)).length=n:=by simp
    rw[W]at J ⊢;refine WA.one (i:=8) kr (Ed.val rfl rfl rfl rfl (A0.ia).op ?_);rintro _ _ ⟨rfl,rfl⟩;simp only[Cj,Ak,AE];refine WA.one (i:=9) kr (Ed.eff rfl rfl rfl (Av.store A8 (vs:=[_]) rfl rfl rfl rfl rfl hB (by rw[Bf,Bj,W];simp;omega) (by simp[Value.oneCell'])) ?_);rintro _ N ⟨hb,E⟩;refine WA.done kr ?_;have o:=J j z N oo E hb;rw[K4 v oo]at o;have hv:CE b w N:=((B.trans (l.upd b)).trans k).aj E hr;have hw:Ac w0 N:=((A.trans l).aj k hd).aj E (by have:=L.size;omega);have hc:=u.upd E hB de;have I:QI n 6 (Eg f i j z):=by
     intro p q t a;unfold Eg;split
     ·omega
     ·exact d p q t a
    generalize Eg f i j z=f8 at o I;clear Q J hB u k O c H G l B A;refine Nv ?_;obtain⟨a3,rr,ea,_,ht,hh⟩:=o.rowAt (i:=j) (by rw[AU];omega);cases ea;obtain⟨a3,h2,ea,_,hu,hk⟩:=o.rowAt (i:=i) (by rw[AU];omega);cases ea;obtain⟨a5,c5,rfl,hm⟩:=o.cellAt hu v (show j<n by omega);refine St.sub (E':=[(7,.int .i64 j),(13,.int .i64 i),(0,.pointer (some ⟨b,0,none⟩)),(5,.slice (some ⟨g,0,none⟩) n cap),(12,.int .i64 n),(6,.int .i64 i)]) ?_ AL;refine St.flow 12 Dv kr rfl kr rfl True.intro ?_;refine .q ?_;refine .on (fun _ _=>A0.ia) ?_;refine .on (fun _ y=>A0.load A8 rfl rfl rfl (y.aq.cell hh)) ?_;refine .q ?_;refine .on (fun _ _=>A0.ia) ?_;refine .on (fun _ y=>A0.load A8 rfl rfl rfl (y.aq.cell hk)) ?_;refine .q ?_;refine .on (fun _ _=>A0.ia) ?_;refine .on (fun _ y=>A0.load A8 rfl rfl rfl (y.aq.cell hm)) ?_;refine FL.aG rfl ?_;intro w9 F _ _;refine Af.putU (o.ext F) ht (BK (show j<n by omega)) (j:=i) (by simp;omega) rfl rfl rfl (fun _=>rfl) rfl rfl (fun _=>rfl) ?_;intro h1 h4 g10 hx ho he K P;rw[K4 oo v]at P;refine Nv ?_;refine Ad.rnd AL ⟨(hv.trans (F.upd b)).aj K ho,(hw.trans F).aj K (by have:=L.size;omega),(hc.ext F).upd K he de,_,P,?_⟩;intro p q t a;unfold Eg;split
    ·exact I i j v oo
    ·exact I p q t a
   ·intro meet;have U:=A.trans l;have T:=G.ext l;refine WA.two (i:=3) (j:=6) kr ?_ ?_
    ·refine Ed.val rfl rfl rfl rfl (A0.load A8 rfl rfl rfl (l.cell H)).op ?_;rintro _ _ ⟨rfl,rfl⟩;refine WA.one (i:=6) kr (Ed.val rfl rfl rfl rfl (Av.call Eh rfl (RW U T)) ?_);rintro _ M ⟨k,u,z,rfl,_⟩;refine WA.take 7 rfl rfl kr kr kr (fun _ _ _ h=>h) rfl rfl (fun w=>A0.bJ rfl rfl de) ?_;exact meet (z.tmod 3) _ _ _ kr ⟨k,u,A7H z⟩ AL
    ·refine Ed.val rfl rfl rfl rfl (Av.call Eh rfl (RW U T)) ?_;rintro _ M ⟨k,u,z,rfl,_⟩;refine WA.take 7 rfl rfl kr kr kr (fun _ _ _ h=>h) rfl rfl (fun w=>A0.bJ rfl rfl de) ?_;refine WA.one (i:=3) kr (Ed.val rfl rfl rfl rfl (A0.load A8 rfl rfl rfl (k.cell (l.cell H) (by rw[DW];show g≠b;omega))).op ?_);rintro _ _ ⟨rfl,rfl⟩;exact meet (z.tmod 3) _ _ _ kr ⟨k,u,A7H z⟩ AL
  ·rintro w3 h3;refine Nv ?_;exact Ad.rnd AL h3
 ·rintro w3 ⟨B,A,r,f,c,d⟩;refine A7 ?_;exact Ad.ax rfl rfl ⟨B,A,r,rs,f,c,d⟩
variable {most:Nat}
theorem A5j {c:Int}(h:QI n c f) (g:c<=1000):∀ a b,a<n->b<n->sz (f a b)<=2:=fun a b d e=>by have:=h a b d e;exact Bn oo oo
theorem A8h {c:Int}(h:QI n c f) (m:c<=1000):∀ row ∈ mk n n f,∀ x ∈ row,-9223372036854775808<=x/\x<=9223372036854775807:=by intro row l x g;obtain⟨i,d⟩:=Cx.1 l;have e:=(Au.1 d).1;rw[AU]at e;rw[BK e]at d;cases d;simp only[CG,CZ]at g;obtain⟨j,k,rfl⟩:=g;have:=h i j e k;omega
theorem A7I {w:World}{v:Value}{c:Int}(h:Ft w v (mk n n f)) (j:1<=n/\n<=16) (g:QI n c f) (d:c<=1000) (l:base<=w.heap.size) :
  Calls prog 60 #[v] w (AJ fun r w'=>Ac w w'/\MI w' r (mk n n f)):=by
 refine (Y0 (base:=base) w v _ h l (A8h g d)).mono ?_;rintro e w' ⟨x,rfl,o,⟨_,rs,k⟩ | ⟨m,_⟩⟩
 ·exact⟨x,rfl,o,k.mi (Ns (A5j g d) oo)⟩
 ·exact absurd (A1C j.1 j.2 f).1 m
theorem A3H {w:World}{v:Value}(h:Ft w v (mk n n f)) (k:1<=n/\n<=8) (t:QI n 9 f) :
  Calls prog 110 #[v] w (AJ fun x w'=>Ac w w'/\∃ b,x=.bool b/\(b=true↔A1q n f/\dd (RA f) n<=10000)):=by
 have c:1<=n/\n<=16:=⟨k.1,by omega⟩;have i:=A5j t de;have B:2 ^ n * (2+1)<=100000:=Ar (Bm _ (DB oo k.2)) de;refine Sj (args:=[_]) func110 rfl ntmps110 rfl ?_;refine A7 ?_;refine .s (Av.call O7 rfl (A7I (base:=0) h c t de BI)) ?_;rintro u w1 ⟨p,o⟩;refine A7 ?_;refine .s (Av.call Jb rfl (KK o c c i oo oo)) ?_;rintro _ w2 ⟨l,e,rfl,q⟩;by_cases j:e=0
 ·subst j;obtain⟨_,_,m⟩:=q.1 rfl;refine .r rfl ?_;refine .s (Av.call Ca rfl (CH (o.ext l) c i oo B)) ?_;rintro y w3 ⟨D,d,C,G,g⟩;have g:=g (m.2.gd oo);refine .s (Av.call AW rfl (Ba (base:=0) w3 10000 oo oo BI)) ?_;rintro z H ⟨A,F⟩;have J:sz 10000<=2:=Bn oo oo;refine .s (Av.call Gz rfl (Ma ((C.ext A).dn oo) (F.dn oo))) ?_;rintro _ I ⟨E,rfl⟩;refine .a 1 (.bool (decide (d<=10000))) rfl (by rw[A1n]) ?_;refine A7 ?_;refine Ad.ax rfl rfl ⟨(((p.trans l).trans D).trans A).trans E,_,rfl,?_⟩;rw[decide_eq_true_eq,<- g];have:=Iy (a:=d) (b:=10000);exact⟨fun h=>⟨m,this.2 h⟩,fun h=>this.1 h.2⟩
 ·refine .a 1 (.bool false) rfl (by rw[show (e == 0)=false from by simpa using j]) ?_;refine A7 ?_;exact Ad.ax rfl rfl ⟨p.trans l,false,rfl,⟨fun h=>(by cases h),fun h=>absurd (q.2 ⟨rfl,k.2,h.1⟩) j⟩⟩
theorem A6Z (h:A00 n m f):∀ k,k<=n->∀ p q,p<n->q<n->k<=p->k<=q->EL (RA f) k p q=RA f p q:=by
 intro k;induction k with
 | zero=>intro _ p q _ _ _ _;rfl
 | succ k ih =>
  intro j p q c d e g;rw[Cn,ih oo p q c d oo oo,ih oo p k c oo oo oo];have:RA f p k=0:=by unfold RA;rw[(h p k c oo).1 oo];rfl
  rw[this];grind
theorem A2w (h:A00 n 2 f):∀ k,k<=n->1<=dd (RA f) k/\dd (RA f) k<=pw 2 k:=by
 intro k;induction k with
 | zero=>intro _;exact⟨EQ,EQ⟩
 | succ k ih =>
  intro g;obtain⟨d,e⟩:=ih oo;rw[Fw,A6Z h k oo k k oo oo AO AO];have c:=(h k k oo oo).2 rfl;have a1:(1:Rat)<=RA f k k:=by unfold RA;exact_mod_cast c.1
  have a2:RA f k k<=(2:Rat):=by unfold RA;have:=c.2;exact_mod_cast this
  show 1<=dd (RA f) k * RA f k k/\dd (RA f) k * RA f k k<=2 * pw 2 k;have b1:=Br (show 0<=dd (RA f) k - 1 by grind) (show 0<=RA f k k by grind);have b2:=Br (show 0<=dd (RA f) k by grind) (show 0<=2 - RA f k k by grind);constructor <;> grind
theorem A3I (l:n<=8) (h:A00 n 2 f):A1q n f/\dd (RA f) n<=10000:=by
 refine⟨⟨fun i j d g=>?_,fun m k c=>?_⟩,?_⟩
 ·by_cases e:i=j
  ·rw[e]
  ·rw[(h i j d g).1 e,(h j i g d).1 (Ne.symm e)]
 ·have:=(A2w h m c).1;grind
 ·have k:=(A2w h n AO).2;have c:=QH (F:=2) de l;have o:pw 2 8<=10000:=by decide +kernel
  grind
theorem Vr (h:A00 n m f) (g:m<=9):QI n 9 f:=fun p q c d=>by
 obtain⟨a1,a2⟩:=h p q c d;by_cases e:p=q
 ·have:=a2 e;omega
 ·have:=a1 e;omega
def Nt (w:World) (v:Value):Prop:=∃ (d k:Nat) (s1 s2:Value) (xs:List Int),v=.agg #[.int .u8 d,.int .u8 k,s1,s2]/\d<256/\k<256/\L8 w s1 xs/\s2.oneCell'=true
theorem Nt.ext {w:World}{v:Value}(h:Nt w v) (l:Ac w w'):Nt w' v:=by obtain⟨d,k,s1,s2,xs,hv,c,e,g,j⟩:=h;exact⟨d,k,s1,s2,xs,hv,c,e,g.ext l,j⟩
theorem A3J {w:World}{v:Value}(h:Nt w v) (hm:1<=most/\most<=8) :
  Calls prog 61 #[v,.int .i64 most] w (AJ fun x w'=>Ac w w'/\∃ n f,1<=n/\n<=most/\Ft w' x (mk n n f)/\QI n 9 f/\A1q n f/\dd (RA f) n<=10000):=by
 obtain⟨d,kd,s1,s2,xs,rfl,hd,hk,hL,kc⟩:=h;have h7:=hL;obtain⟨p1,c1,h5⟩:=hL.1.len;subst h5;refine Sj (args:=[_,_]) func61 rfl ntmps61 rfl ?_;refine Nv ?_;refine .s (Av.box rfl) ?_;rintro _ w1 ⟨rfl,B1,Y,kf⟩;refine A7 ?_;refine .p FW ?_;refine .p (A0.build A8 rfl rfl rfl rfl) ?_;refine .s (Av.box rfl) ?_;rintro _ w2 ⟨rfl,B2,hs,kg⟩;have Q:Jh w w2 w1.heap.size:=⟨Y.size,_,xs,0,B2,hL,Cu _⟩;have L:=Y.trans hs;replace B1:=B1.ext hs;refine A7 ?_;refine .p FW ?_;refine .a 1 (.int .i64 d) rfl (by rw[Ab oo oo]) ?_;refine .r rfl ?_;refine .p (A0.cO d most rfl rfl rfl rfl oo) ?_;have kb:d % most<most:=CX _ oo;obtain⟨n,h3⟩:∃ n,n=1+d % most:=⟨_,rfl⟩;refine .a 1 (.int .i64 n) rfl (by rw[Ab oo oo];congr 1;omega) ?_;have X:1<=n/\n<=8:=by omega
 have K:1<=n/\n<=16:=by omega
 have ho:n<=most:=by omega
 clear h3;refine .r rfl ?_;refine Nv ?_;refine .r rfl ?_;refine Af.nil (Ad.ak ?_);have ka:w1.heap.size<w2.heap.size:=by omega
 have h9:w.heap.size<=w2.heap.size:=L.size;refine St.sub (E':=[(5,.pointer (some ⟨w1.heap.size,0,none⟩)),(6,.int .i64 n),(2,.pointer (some ⟨w.heap.size,0,none⟩))]) ?_ AL;refine St.cut (fun V:Value=>[(5,.pointer (some ⟨w1.heap.size,0,none⟩)),(6,.int .i64 n),(7,V)]) (fun V w'=>Ac w w'/\Jh w w' w1.heap.size/\∃ rs f,DK rs w2.heap.size w' V (mk n n f)/\QI n 9 f) ?_ ?_
 ·refine Nv ?_;refine .r rfl ?_;refine .p FW ?_;refine .p (A0.cO kd 8 rfl rfl rfl rfl oo) ?_;have h0:kd % 8<8:=CX _ oo;generalize kd % 8=κ at h0;have hv:κ<4\/κ=4\/κ=5\/κ=6\/κ=7:=by omega
  rcases hv with h4 | rfl | rfl | rfl | rfl
  ·have hc:κ=0\/κ=1\/κ=2\/κ=3:=by omega
   rcases hc with rfl | rfl | rfl | rfl;all_goals
    (iterate 4 try (refine A7 ?_;first | refine .cT ?_ | refine .cF ?_))
    (iterate 2 try (refine A7 ?_;first | refine .cT ?_ | refine .cF ?_))
    refine A7 ?_
    refine .s (Av.call KV rfl (Yj L Q K)) ?_
    rintro V w3 ⟨hr,y,F,rs,f,l,u⟩
    refine .r rfl ?_
    refine Nv ?_
    exact Ad.met V AL ⟨y,F,rs,f,l,fun p q T W=>by have:=u p q T W;omega⟩
  ·(iterate 9 try (refine A7 ?_;first | refine .cT ?_ | refine .cF ?_));refine A7 ?_;refine .s (Av.call HL rfl (Vq (w:=w2) K)) ?_;rintro V w3 ⟨y,rs,f,l,u⟩;obtain⟨g,cap,rfl,hg⟩:=l.addr (by rw[AU];omega);rw[AU]at l ⊢;obtain⟨a3,rr,ea,_,I,R⟩:=l.rowAt (i:=0) (by rw[AU];omega);cases ea;refine .r rfl ?_;refine Nv ?_;refine St.sub (E':=[(5,.pointer (some ⟨w1.heap.size,0,none⟩)),(6,.int .i64 n),(7,.slice (some ⟨g,0,none⟩) n cap)]) ?_ AL;refine St.any Dv rfl ?_;intro A E _ _;have C:=(L.trans y).trans E;have B:=(Q.ext y).ext E;have O:=l.ext E;obtain⟨C6,he⟩:=B.blk;obtain⟨g3,M,D,rfl,hx,hB,hj⟩:=O.cw I (BK (show 0<n by omega)) (by intro e;have:=congrArg List.length e;simp at this;omega);have H:((List.range n).map (f 0)).length=n:=by simp
   rw[H]at hj I R;have hi:(((List.range n).map (f 0)).map DZ++D)[0]?=some (.int .i64 (f 0 0)):=by rw[BM (by simp;omega)];simp[show 0<n by omega]
   refine WA.takes (fuel:=8) A8 kr (fun _ _ _ _ _ h=>h) [0,5] kr rfl ?_;refine WA.take 1 rfl rfl kr kr kr (fun _ _ _ h=>h) rfl rfl (fun w=>A0.ia) ?_;refine WA.meet 3 #[true,true,true,true,true,true,true,false,false,false] (fun z:Nat=>[(5,.pointer (some ⟨w1.heap.size,0,none⟩)),(6,.int .i64 n),(7,.slice (some ⟨g,0,none⟩) n cap),(38,.slice (some ⟨g3,0,none⟩) n M),(40,.int .i64 (f 0 0)),(42,.int .i64 z)]) (fun z w'=>CE w1.heap.size A w'/\Jh w w' w1.heap.size/\z<3) ?_ ?_
   ·rintro z k ⟨c,o,t⟩;have hw:=u (0) (0) oo oo;have hh:DK rs w2.heap.size k _ _:=DE.aI O c he de de;obtain⟨g4,ht,D4,e4,hy,N,U⟩:=hh.cw I (BK (show 0<n by omega)) (by intro e;have:=congrArg List.length e;simp at this;omega);rw[H]at e4 U;simp only[Ci,AP,FF,and_true,true_and]at e4;obtain⟨rfl,rfl⟩:=e4;refine WA.takes (fuel:=2) A8 kr (fun _ _ _ _ _ h=>h) [7] kr rfl ?_;refine WA.one (i:=8) kr (Ed.val rfl rfl rfl rfl (A0.ia).op ?_);rintro _ _ ⟨rfl,rfl⟩;simp only[Int.toNat_zero,Ak,AE];refine WA.one (i:=9) kr (Ed.eff rfl rfl rfl (Av.store A8 (off:=0) (vs:=[_]) rfl rfl rfl rfl rfl N (by rw[Bf,Bj,H];simp;omega) (by simp[Value.oneCell'])) ?_);rintro _ w8 ⟨ha,J⟩;refine WA.done kr ?_;have P:=U (0) (IntKind.i64.wrap (f 0 0+z)) w8 oo J ha;rw[K4 (show 0<n by omega) (show 0<n by omega)]at P;refine Nv ?_;refine Ad.met (.slice (some ⟨g,0,none⟩) n cap) AL ⟨(C.aj c Y.size).aj J oo,o.upd J N de,rs,_,P,fun p q T W=>?_⟩;unfold Eg;split
    ·rw[Ab oo oo];omega
    ·have:=u p q T W;omega
   ·intro meet;have G:∀ k,CE w1.heap.size A k->k.cell? ⟨g3,0,none⟩=some (.int .i64 (f 0 0)):=fun k c=>c.cell (hB.cell hi) (by show g3≠_;omega);have S:∀ k,CE w1.heap.size A k->k.cell? (Addr.add ⟨g,0,none⟩ (0))=some (.slice (some ⟨g3,0,none⟩) n M):=fun k c=>c.cell (E.cell R) (by rw[DW];show g≠_;omega);refine WA.two (i:=2) (j:=6) kr ?_ ?_
    ·refine Ed.val rfl rfl rfl rfl (A0.load A8 rfl rfl rfl (S A (CE.refl _ _))).op ?_;rintro _ _ ⟨rfl,rfl⟩;refine WA.take 3 rfl rfl kr kr kr (fun _ _ _ h=>h) rfl rfl (fun w=>A0.ia) ?_;simp only[Int.toNat_zero,Ak,AE];refine WA.two (i:=4) (j:=6) kr ?_ ?_
     ·refine Ed.val rfl rfl rfl rfl (A0.load A8 rfl rfl rfl (G A (CE.refl _ _))).op ?_;rintro _ _ ⟨rfl,rfl⟩;refine WA.one (i:=6) kr (Ed.val rfl rfl rfl rfl (Av.call Bh rfl (FP (m:=3) C B oo)) ?_);rintro _ k ⟨c,o,z,rfl,t⟩;exact meet z _ _ _ kr ⟨c,o,t⟩ AL
     ·refine Ed.val rfl rfl rfl rfl (Av.call Bh rfl (FP (m:=3) C B oo)) ?_;rintro _ k ⟨c,o,z,rfl,t⟩;refine WA.one (i:=4) kr (Ed.val rfl rfl rfl rfl (A0.load A8 rfl rfl rfl (G k c)).op ?_);rintro _ _ ⟨rfl,rfl⟩;exact meet z _ _ _ kr ⟨c,o,t⟩ AL
    ·refine Ed.val rfl rfl rfl rfl (Av.call Bh rfl (FP (m:=3) C B oo)) ?_;rintro _ k ⟨c,o,z,rfl,t⟩;refine WA.one (i:=2) kr (Ed.val rfl rfl rfl rfl (A0.load A8 rfl rfl rfl (S k c)).op ?_);rintro _ _ ⟨rfl,rfl⟩;refine WA.take 3 rfl rfl kr kr kr (fun _ _ _ h=>h) rfl rfl (fun w=>A0.ia) ?_;simp only[Int.toNat_zero,Ak,AE];refine WA.one (i:=4) kr (Ed.val rfl rfl rfl rfl (A0.load A8 rfl rfl rfl (G k c)).op ?_);rintro _ _ ⟨rfl,rfl⟩;exact meet z _ _ _ kr ⟨c,o,t⟩ AL
  ·(iterate 9 try (refine A7 ?_;first | refine .cT ?_ | refine .cF ?_));refine A7 ?_;refine .s (Av.call HL rfl (Vq (w:=w2) K)) ?_;rintro V w3 ⟨y,rs,f,l,u⟩;obtain⟨g,cap,rfl,hg⟩:=l.addr (by rw[AU];omega);rw[AU]at l ⊢;obtain⟨a3,rr,ea,_,I,R⟩:=l.rowAt (i:=n - 1) (by rw[AU];omega);cases ea;refine .r rfl ?_;refine Nv ?_;refine St.sub (E':=[(5,.pointer (some ⟨w1.heap.size,0,none⟩)),(6,.int .i64 n),(7,.slice (some ⟨g,0,none⟩) n cap)]) ?_ AL;refine St.any Dv rfl ?_;intro A E _ _;have C:=(L.trans y).trans E;have B:=(Q.ext y).ext E;have O:=l.ext E;obtain⟨C6,he⟩:=B.blk;obtain⟨g3,M,D,rfl,hx,hB,hj⟩:=O.cw I (BK (show n - 1<n by omega)) (by intro e;have:=congrArg List.length e;simp at this;omega);have H:((List.range n).map (f (n - 1))).length=n:=by simp
   rw[H]at hj I R;have hi:(((List.range n).map (f (n - 1))).map DZ++D)[n - 1]?=some (.int .i64 (f (n - 1) (n - 1))):=by rw[BM (by simp;omega)];simp[show n - 1<n by omega]
   refine WA.takes (fuel:=8) A8 kr (fun _ _ _ _ _ h=>h) [0,1,2,5,6,9] kr rfl ?_;rw[show IntKind.i64.wrap ((n:Int) - 1)=((n - 1:Nat):Int) from by rw[Ab oo oo];omega];refine WA.take 3 rfl rfl kr kr kr (fun _ _ _ h=>h) rfl rfl (fun w=>A0.ia) ?_;refine WA.meet 3 #[true,true,true,true,true,true,true,true,true,true,true,false,false,false] (fun z:Nat=>[(5,.pointer (some ⟨w1.heap.size,0,none⟩)),(6,.int .i64 n),(7,.slice (some ⟨g,0,none⟩) n cap),(53,.slice (some ⟨g3,0,none⟩) n M),(55,.int .i64 ((n - 1:Nat):Int)),(57,.int .i64 (f (n - 1) (n - 1))),(59,.int .i64 z)]) (fun z w'=>CE w1.heap.size A w'/\Jh w w' w1.heap.size/\z<2) ?_ ?_
   ·rintro z k ⟨c,o,t⟩;have hw:=u (n - 1) (n - 1) oo oo;have hh:DK rs w2.heap.size k _ _:=DE.aI O c he de de;obtain⟨g4,ht,D4,e4,hy,N,U⟩:=hh.cw I (BK (show n - 1<n by omega)) (by intro e;have:=congrArg List.length e;simp at this;omega);rw[H]at e4 U;simp only[Ci,AP,FF,and_true,true_and]at e4;obtain⟨rfl,rfl⟩:=e4;refine WA.takes (fuel:=2) A8 kr (fun _ _ _ _ _ h=>h) [11] kr rfl ?_;refine WA.one (i:=12) kr (Ed.val rfl rfl rfl rfl (A0.ia).op ?_);rintro _ _ ⟨rfl,rfl⟩;simp only[Cj,Ak,AE];refine WA.one (i:=13) kr (Ed.eff rfl rfl rfl (Av.store A8 (off:=n - 1) (vs:=[_]) rfl rfl rfl rfl rfl N (by rw[Bf,Bj,H];simp;omega) (by simp[Value.oneCell'])) ?_);rintro _ w8 ⟨ha,J⟩;refine WA.done kr ?_;have P:=U (n - 1) (IntKind.i64.wrap (f (n - 1) (n - 1)+z)) w8 oo J ha;rw[K4 (show n - 1<n by omega) (show n - 1<n by omega)]at P;refine Nv ?_;refine Ad.met (.slice (some ⟨g,0,none⟩) n cap) AL ⟨(C.aj c Y.size).aj J oo,o.upd J N de,rs,_,P,fun p q T W=>?_⟩;unfold Eg;split
    ·rw[Ab oo oo];omega
    ·have:=u p q T W;omega
   ·intro meet;have G:∀ k,CE w1.heap.size A k->k.cell? ⟨g3,n - 1,none⟩=some (.int .i64 (f (n - 1) (n - 1))):=fun k c=>c.cell (hB.cell hi) (by show g3≠_;omega);have S:∀ k,CE w1.heap.size A k->k.cell? (Addr.add ⟨g,0,none⟩ (n - 1))=some (.slice (some ⟨g3,0,none⟩) n M):=fun k c=>c.cell (E.cell R) (by rw[DW];show g≠_;omega);refine WA.two (i:=4) (j:=10) kr ?_ ?_
    ·refine Ed.val rfl rfl rfl rfl (A0.load A8 rfl rfl rfl (S A (CE.refl _ _))).op ?_;rintro _ _ ⟨rfl,rfl⟩;refine WA.take 7 rfl rfl kr kr kr (fun _ _ _ h=>h) rfl rfl (fun w=>A0.ia) ?_;simp only[Cj,Ak,AE];refine WA.two (i:=8) (j:=10) kr ?_ ?_
     ·refine Ed.val rfl rfl rfl rfl (A0.load A8 rfl rfl rfl (G A (CE.refl _ _))).op ?_;rintro _ _ ⟨rfl,rfl⟩;refine WA.one (i:=10) kr (Ed.val rfl rfl rfl rfl (Av.call Bh rfl (FP (m:=2) C B oo)) ?_);rintro _ k ⟨c,o,z,rfl,t⟩;exact meet z _ _ _ kr ⟨c,o,t⟩ AL
     ·refine Ed.val rfl rfl rfl rfl (Av.call Bh rfl (FP (m:=2) C B oo)) ?_;rintro _ k ⟨c,o,z,rfl,t⟩;refine WA.one (i:=8) kr (Ed.val rfl rfl rfl rfl (A0.load A8 rfl rfl rfl (G k c)).op ?_);rintro _ _ ⟨rfl,rfl⟩;exact meet z _ _ _ kr ⟨c,o,t⟩ AL
    ·refine Ed.val rfl rfl rfl rfl (Av.call Bh rfl (FP (m:=2) C B oo)) ?_;rintro _ k ⟨c,o,z,rfl,t⟩;refine WA.one (i:=4) kr (Ed.val rfl rfl rfl rfl (A0.load A8 rfl rfl rfl (S k c)).op ?_);rintro _ _ ⟨rfl,rfl⟩;refine WA.take 7 rfl rfl kr kr kr (fun _ _ _ h=>h) rfl rfl (fun w=>A0.ia) ?_;simp only[Cj,Ak,AE];refine WA.one (i:=8) kr (Ed.val rfl rfl rfl rfl (A0.load A8 rfl rfl rfl (G k c)).op ?_);rintro _ _ ⟨rfl,rfl⟩;exact meet z _ _ _ kr ⟨c,o,t⟩ AL
  ·(iterate 9 try (refine A7 ?_;first | refine .cT ?_ | refine .cF ?_));refine A7 ?_;refine .s (Av.call Dt rfl (II (m:=9) L Q K oo)) ?_;rintro V w3 ⟨hr,y,F,rs,f,l,u⟩;refine .r rfl ?_;refine Nv ?_;exact Ad.met V AL ⟨y,F,rs,f,l,Vr u oo⟩
  ·(iterate 9 try (refine A7 ?_;first | refine .cT ?_ | refine .cF ?_));refine A7 ?_;refine .s (Av.call Dt rfl (II (m:=1) L Q K oo)) ?_;rintro V w3 ⟨hr,y,F,rs,f,l,u⟩;refine .r rfl ?_;refine Nv ?_;exact Ad.met V AL ⟨y,F,rs,f,l,Vr u oo⟩
 ·rintro V w3 ⟨y,F,rs,f,l,u⟩;refine A7 ?_;refine .s (Av.call MU rfl (A3H l.m64 X u)) ?_;rintro _ w4 ⟨Z,b,rfl,hb⟩;cases b
  ·refine A7 ?_;refine .ct ?_;refine .s (Av.call Dt rfl (II (m:=2) (y.trans Z) (F.ext Z) K oo)) ?_;rintro V w5 ⟨ke,h6,h8,kh,f5,hu,hn⟩;obtain⟨h1,h2⟩:=A3I X.2 hn;refine A7 ?_;exact Ad.ax rfl rfl ⟨h6,n,f5,X.1,ho,hu.m64,Vr hn oo,h1,h2⟩
  ·obtain⟨h1,h2⟩:=hb.1 rfl;refine A7 ?_;refine .cf ?_;exact Ad.ax rfl rfl ⟨y.trans Z,n,f,X.1,ho,(l.ext Z).m64,u,h1,h2⟩
end Go.Qf
namespace Go.Qf
open Go Go.RowKit Go.Proofs Go.Proofs.Tryz Go.ChangeShapes Go.WideShapes Go.Joins
variable {t e:TypeId}{fuel:Nat}
section
variable {H:Type}{enc:TypeId×Value->H}{W:World}{base:Nat}{spare:Nat->Bool}{held:Bool}{r:Reach}{b0:Nat}{v:Value}{d:DataW H}{p:List MemPlace}
theorem Xa {k:IntKind}{c:Value}{y:DataW H×List MemPlace}(v:prog.underlying t=some (.slice e)) (r:prog.underlying e=some (.int k)) (q:prog.cellsOf e=1)
  (h:DataW.trod enc prog W base spare held fuel t [c]=some y):∃ zs:List Int,Jk e W c (zs.map (Value.int k))/\(∀ z ∈ zs,(Lit.int k z).wf=true)/\zs.length<=maxLen:=by
 rcases open_ints v r q h with ⟨hcs,_⟩ | ⟨a,len,cap,zs,hcs,_,hl,hm,d,_,hcell,hwz⟩
 ·simp only[Iu,and_true]at hcs;subst hcs;exact⟨[],⟨none,0,rfl,Ai _,fun _=>rfl,fun a m=>by cases m⟩,fun z d=>by simp at d,Cu _⟩
 ·simp only[Iu,and_true]at hcs;subst hcs;have b:len<=zs.length:=by rw[d];split <;> omega
  have j:(zs.take len).length=len:=by simp;omega
  refine⟨zs.take len,⟨some a,cap,by rw[Bj,j],by rw[Bj,j];exact hl,fun e=>(by cases e),?_⟩,fun z d=>hwz z (HU d),by omega⟩;intro a' o i c g;cases o;have u:i<len:=by have:=(Au.1 g).1;simp at this;omega
  rw[hcell i oo];have l:zs[i]?=some zs[i]:=by simp
  simp only[J7,Dz u,l,LP,AP]at g;rw[<- g];simp only[Bd,l,Option.getD_some]
theorem A3K {n:Int}(h:(Lit.int .i8 n).wf=true):-128<=n/\n<=127:=by simp[Lit.wf,IntKind.min,IntKind.max,IntKind.signed,IntKind.bits]at h;omega
theorem QJ {c:Value}{y:DataW H×List MemPlace}(h:DataW.trod enc prog W base spare held fuel 55 [c]=some y):∃ xs,L8 W c xs:=by obtain⟨zs,d,g,e⟩:=Xa underlying55 underlying228 kr h;exact⟨zs,d,fun z j=>A3K (g z j),by unfold maxLen at e;omega⟩
theorem A3L {c:Value}{y:DataW H×List MemPlace}(h:DataW.trod enc prog W base spare held fuel 33 [c]=some y):∃ xs,Nh W c xs/\(∀ x ∈ xs,-9223372036854775808<=x/\x<=9223372036854775807)/\xs.length<=maxLen:=by obtain⟨zs,d,g,e⟩:=Xa underlying33 underlying2 kr h;exact⟨zs,d,fun z j=>bounds_i64 (g z j),e⟩
theorem A70 (d:prog.underlying t=some (.slice e)) (hv:Value.okWide prog W r b0 t v):∃ q l c,v=.slice q l c:=by unfold Value.okWide Cell.okWide Cell.ok at hv;rw[d]at hv;cases v <;> simp at hv;exact⟨_,_,_,rfl⟩
theorem A3M {c:Value}{y:DataW H×List MemPlace}(h:DataW.trod enc prog W base spare held fuel 25 [c]=some y):∃ M,Ft W c M/\(∀ row ∈ M,∀ x ∈ row,-9223372036854775808<=x/\x<=9223372036854775807)/\M.length<=maxLen:=by
 have b:prog.cellsOf 33=1:=by kernel_rfl
 rcases DataW.trod_slice underlying25 h with ⟨hcs,_⟩ | ⟨a,len,cap,elems,rest,n,_,hcs,hx,_,hl,hm,hlen,hel,_⟩
 ·simp only[Iu,and_true]at hcs;subst hcs;exact⟨[],⟨[],⟨none,0,rfl,Ai _,fun _=>rfl,fun a z=>by cases z⟩,rfl,fun i r row l=>by simp at l⟩,fun row l=>by simp at l,Cu _⟩
 ·simp only[Iu,and_true]at hcs;subst hcs;have each:∀ i,i<len->∃ rv row,W.cell? (a.add i)=some rv/\Nh W rv row/\∀ x ∈ row,-9223372036854775808<=x/\x<=9223372036854775807:=by
   intro i d;have o:=hel i d;rw[b,LB]at o;have p:elems[i]?=some (elems[i]'oo):=by simp
   rw[p]at o;simp only[Option.bind_eq_some_iff]at o;obtain⟨c1,j,s⟩:=o;have e0:(a.add i).add 0=a.add i:=by simp[Addr.add]
   have:∃ c,c1=[c]/\W.cell? (a.add i)=some c:=by
    unfold World.cells? at j;split at j
    ·simp only[Iv,List.range_zero,HX,PW,List.mapM_nil,e0]at j;cases hcc2:W.cell? (a.add i) with
     | none=>simp[hcc2]at j
     | some c=>simp[hcc2]at j;exact⟨c,j.symm,rfl⟩
    ·cases j
   obtain⟨c,rfl,f⟩:=this;obtain⟨xs,u,v,_⟩:=A3L s;exact⟨c,xs,f,u,v⟩
  let g:Nat->Value×List Int:=fun i=>if d:i<len then ((each i d).choose,(each i d).choose_spec.choose) else (.bool false,[])
  have q:∀ i,i<len->W.cell? (a.add i)=some (g i).1/\Nh W (g i).1 (g i).2/\∀ x ∈ (g i).2,-9223372036854775808<=x/\x<=9223372036854775807:=by intro i d;have:=(each i d).choose_spec.choose_spec;simp only[g,dif_pos d];exact this
  refine⟨(List.range len).map (fun i=>(g i).2),⟨(List.range len).map (fun i=>(g i).1),⟨some a,cap,by simp,by simpa using hl,fun e=>(by cases e),?_⟩,by simp,?_⟩,?_,by simp;omega⟩
  ·intro a' t i c d;cases t;have k:=(Au.1 d).1;simp at k;simp[k]at d;rw[<- d];exact (q i k).1
  ·intro i r row l m;have k:=(Au.1 l).1;simp at k;simp[k]at l m;rw[<- l,<- m];exact (q i k).2.1
  ·intro row m;simp only[CG,CZ]at m;obtain⟨i,d,rfl⟩:=m;exact (q i d).2.2
theorem QK {c:Value}{y:DataW H×List MemPlace}(h:DataW.trod enc prog W base spare held fuel 5 [c]=some y):∃ a:Nat,c=.int .u8 a/\a<256:=by obtain⟨a,e,_,d⟩:=DataW.trod_int underlying5 h;simp only[Iu,and_true]at e;have:=bounds_u8 d;exact⟨a.toNat,by rw[e];congr 1;omega,by omega⟩
theorem open_Lat (hv:Value.okWide prog W r b0 57 v) (h:DataW.Trod enc prog W base spare held 57 v d p):Nt W v:=by obtain⟨v0,v1,v2,v3,y0,y1,y2,t,n,rfl,_,_,g,j,l,m⟩:=open_agg4 underlying57 kr kr hv h;obtain⟨d,rfl,o⟩:=QK g;obtain⟨k,rfl,u⟩:=QK j;obtain⟨xs,y⟩:=QJ l;obtain⟨ys,z⟩:=QJ m;obtain⟨q,c,e,_⟩:=z.1;exact⟨d,k,v2,v3,xs,rfl,o,u,y,by rw[e];rfl⟩
end
end Go.Qf
namespace Go.Qf
open Go Go.RowKit Go.Proofs Go.Proofs.Tryz
end Go.Qf
