/- Lemmas on the model and on the program's functions, part Une. -/
import GoSem.Core.View
import Derived.WalkKit
import Derived.Deep.Quiet
import Derived.Deep.LoopGhost
import Derived.KernelRfl
import Derived.Test.YthmendnhilghhaaGreatProg
import Derived.Laws.BytesString
import Derived.Laws.RangeString
import Derived.Lib.OthersKept
import Derived.Laws.Strings
import Derived.ProofKit
import Derived.OpenShut
import Derived.Lib.SmallJoins
import Derived.Carry
import Derived.ChangeMaps5
import Derived.Maps.AppendAt
import Derived.Laws.Externs
import Derived.Lib.Bytealg
import Derived.ChangeArms
import Derived.Laws.OwnMore
import Derived.Scope
import Derived.RangeFuncLeaves
import Derived.RangeFuncRecord
import Derived.TacticsIn
import Derived.OrdersIn
import Derived.Maps.OwnSet
import Derived.Maps.Views
import Derived.Test.YthmendnhilghhaaGreatRows
import Derived.Test.YthmendnhilghhaaGreatUna
import Derived.Test.YthmendnhilghhaaGreatUnb
import Derived.Test.YthmendnhilghhaaGreatUnc
import Derived.Test.YthmendnhilghhaaGreatUnd
set_option linter.unusedVariables false
set_option linter.unusedSimpArgs false
set_option maxRecDepth 20000
set_option maxHeartbeats 6400000
namespace Go.Qf
open Go Go.RowKit Go.Proofs Go.Proofs.Tryz
variable {n:Nat}{f:Nat->Nat->Int}{B:Int}
def tlN (f:Nat->Nat->Int) (n:Nat) (B:Int):Nat->List Int->Int
 | 0,ys=>CY f n B ys
 | j+1,ys=>Ay (CY f n B ys).toNat (fun i=>tlN f n B j ((Cc f n B ys+i)::ys))
def P7 (f:Nat->Nat->Int) (n:Nat) (B:Int) (k:Nat) (ys:List Int):Int:=Ay k (fun j=>tlN f n B j ys)
theorem A1U (h:BQ n f) (B:Int):∀ (j:Nat) (ys:List Int),0<=tlN f n B j ys
 | 0,ys=>KM h B ys
 | j+1,ys=>GW fun i _=>A1U h B j _
theorem YB (h:BQ n f) (B:Int) (k:Nat) (ys:List Int):0<=P7 f n B k ys:=GW fun j _=>A1U h B j ys
theorem A0d (f:Nat->Nat->Int) (n:Nat) (B:Int) (k:Nat) (ys:List Int):P7 f n B (k+1) ys=CY f n B ys+Ay (CY f n B ys).toNat (fun i=>P7 f n B k ((Cc f n B ys+i)::ys)):=by unfold P7;rw[FQ,X8];rfl
theorem A0e {g:Int->Int×List Int->Option (Int×List Int)}{c:Int->Int}{e:Int->Nat->Int}(d:∀ x,0<=c x)
  (k:∀ x (s:Int×List Int),0<=s.1->s.2.length=n->(s.1<c x->g x s=none)/\(c x<=s.1->∃ s',g x s=some s'/\s'.1=s.1 - c x/\s'.2.length=n/\∀ i,yv s'.2 i=yv s.2 i+e x i)) :
  ∀ (j:Nat) (x:Int) (s:Int×List Int),0<=s.1->s.2.length=n->(s.1<Ay j (fun i=>c (x+i))->Li g j x s=none)/\(Ay j (fun i=>c (x+i))<=s.1->∃ s',Li g j x s=some s'/\s'.1=s.1 - Ay j (fun i=>c (x+i))/\s'.2.length=n/\∀ i,yv s'.2 i=yv s.2 i+Ay j (fun t=>e (x+t) i))
 | 0,x,s,h0,hl=>by
  refine⟨fun h=>?_,fun _=>⟨s,rfl,?_,hl,fun i=>?_⟩⟩
  ·have:s.1<0:=h;omega
  ·show s.1=s.1 - 0;omega
  ·show _=_+(0:Int);omega
 | j+1,x,s,h0,hl=>by
  have sh:∀ q:Int->Int,Ay (j+1) (fun i=>q (x+i))=q x+Ay j (fun i=>q (x+1+i)):=by
   intro q;rw[FQ];have e0:q (x+((0:Nat):Int))=q x:=by congr 1;omega
   have e1:Ay j (fun i=>q (x+((i+1:Nat):Int)))=Ay j (fun i=>q (x+1+i)):=Bo fun i _=>by congr 1;omega
   rw[e0,e1]
  have o:0<=Ay j (fun i=>c (x+1+i)):=GW fun i _=>d _;obtain⟨g1,g2⟩:=k x s h0 hl;rw[sh c];unfold Li;rcases Gw s.1 (c x) with h1 | h1
  ·rw[g1 h1];exact⟨fun _=>rfl,fun h=>by omega⟩
  ·obtain⟨s1,l,a1,a2,a3⟩:=g2 h1;rw[l];obtain⟨i1,i2⟩:=A0e d k j (x+1) s1 oo a2;refine⟨fun h=>i1 oo,fun h=>?_⟩;obtain⟨s2,m,b1,b2,b3⟩:=i2 oo;refine⟨s2,m,by omega,b2,fun i=>?_⟩;rw[b3 i,a3 i,sh (fun z=>e z i)];omega
theorem A2D:∀ (l:List Int) (i:Nat) (c:Int) (t:Nat),i<l.length->yv (GZ l i c) t=yv l t+if t=i then c else 0
 | [],i,c,t,h=>by simp at h
 | x::l,0,c,0,h=>rfl
 | x::l,0,c,t+1,h=>by show yv l t=yv l t+_;rw[if_neg oo];omega
 | x::l,i+1,c,0,h=>by show x=x+_;rw[if_neg oo];omega
 | x::l,i+1,c,t+1,h=>by
  rw[BR]at h;show yv (GZ l i c) t=yv l t+_;rw[A2D l i c t oo];by_cases e:t=i
  ·rw[if_pos e,if_pos oo]
  ·rw[if_neg e,if_neg oo]
def exN (f:Nat->Nat->Int) (n:Nat) (B:Int) (k:Nat) (ys:List Int) (i:Nat):Int:=if ys.length<=i/\i<ys.length+k then tlN f n B (i - ys.length) ys else 0
theorem QX (h:BQ n f) (B:Int):∀ (k:Nat) (ys:List Int),ys.length+k<=n->∀ s:Int×List Int,0<=s.1->s.2.length=n ->
  (s.1<P7 f n B k ys->Dh f n B k ys s=none)/\(P7 f n B k ys<=s.1->∃ s',Dh f n B k ys s=some s'/\s'.1=s.1 - P7 f n B k ys/\s'.2.length=n/\∀ i,yv s'.2 i=yv s.2 i+exN f n B k ys i)
 | 0,ys,hk,s,h0,hl=>by
  refine⟨fun d=>?_,fun _=>⟨s,rfl,?_,hl,fun i=>?_⟩⟩
  ·have:s.1<0:=d;omega
  ·show s.1=s.1 - 0;omega
  ·unfold exN;rw[if_neg oo];omega
 | k+1,ys,hk,s,h0,hl=>by
  have q:=KM h B ys;have o:0<=Ay (CY f n B ys).toNat (fun i=>P7 f n B k ((Cc f n B ys+i)::ys)):=GW fun i _=>YB h B k _;rw[A0d];unfold Dh;show (_->(if s.1<CY f n B ys then none else Li (fun x s=>Dh f n B k (x::ys) s) (CY f n B ys).toNat (Cc f n B ys) (s.1 - CY f n B ys,GZ s.2 ys.length (CY f n B ys)))=none)/\(_->∃ s',(if s.1<CY f n B ys then none else Li (fun x s=>Dh f n B k (x::ys) s) (CY f n B ys).toNat (Cc f n B ys) (s.1 - CY f n B ys,GZ s.2 ys.length (CY f n B ys)))=some s'/\_);rcases Gw s.1 (CY f n B ys) with h1 | h1
  ·rw[if_pos h1];exact⟨fun _=>rfl,fun d=>by omega⟩
  rw[if_neg oo];obtain⟨i1,i2⟩:=A0e (g:=fun x s=>Dh f n B k (x::ys) s) (c:=fun x=>P7 f n B k (x::ys)) (e:=fun x=>exN f n B k (x::ys)) (n:=n) (fun x=>YB h B k _) (fun x s j m=>QX h B k (x::ys) (by rw[BR];omega) s j m)
   (CY f n B ys).toNat (Cc f n B ys) (s.1 - CY f n B ys,GZ s.2 ys.length (CY f n B ys)) (by show 0<=s.1 - _;omega) (by show (GZ s.2 _ _).length=n;rw[Vy];exact hl)
  refine⟨fun d=>i1 (by show s.1 - _<_;omega),fun d=>?_⟩;obtain⟨s2,l,b1,b2,b3⟩:=i2 (by show _<=s.1 - _;omega);refine⟨s2,l,by rw[b1];dsimp only;omega,b2,fun i=>?_⟩;rw[b3 i];show yv (GZ s.2 ys.length (CY f n B ys)) i+_=_;rw[A2D _ _ _ _ oo,Int.add_assoc];congr 1;unfold exN;simp only[BR];by_cases e:i=ys.length
  ·subst e;rw[if_pos rfl,if_pos oo,J6];rw[Om (fun t _=>if_neg oo)];show CY f n B ys+0=CY f n B ys;omega
  ·rw[if_neg e];by_cases e2:ys.length<=i/\i<ys.length+(k+1)
   ·rw[if_pos e2,show i - ys.length=i - (ys.length+1)+1 by omega];show 0+_=Ay (CY f n B ys).toNat _;rw[Q6];exact Bo fun t _=>if_pos oo
   ·rw[if_neg e2,Om (fun t _=>if_neg oo)];rfl
def YZ (ys:List Int):List Int:=ys.map (fun y=>-y)
theorem QY (ys:List Int):(YZ ys).length=ys.length:=by simp[YZ]
theorem VG (a:Nat) (g:Nat->Int):∀ b,Ay (a+b) g=Ay a g+Ay b (fun i=>g (a+i))
 | 0=>by show Ay a g=Ay a g+0;omega
 | b+1=>by show Ay (a+b) g+g (a+b)=Ay a g+(Ay b (fun i=>g (a+i))+g (a+b));rw[VG a g b];omega
theorem A1V (h:BQ n f) (hB:0<=B):0<=GH f n B []:=by rw[<- HG h,PK];have:=CV h.pos (Ai n);exact DI oo hB
variable {α:Type}
def JG {α:Type}(g:Int->List α):Nat->Int->List α
 | 0,_=>[]
 | j+1,x=>g x++JG g j (x+1)
def Gs (f:Nat->Nat->Int) (n:Nat) (B:Int):Nat->List Int->List (List Int)
 | 0,ys=>[ys]
 | k+1,ys=>JG (fun x=>Gs f n B k (x::ys)) (CY f n B ys).toNat (Cc f n B ys)
theorem Ot {g:Int->List α}{z:α}:∀ {j:Nat}{x:Int},z ∈ JG g j x↔∃ i:Nat,i<j/\z ∈ g (x+i)
 | 0,x=>by simp[JG]
 | j+1,x=>by
  unfold JG;rw[FB,Ot (j:=j)];constructor
  ·rintro (h | ⟨i,c,h⟩)
   ·exact⟨0,by omega,by rw[Int.natCast_zero,Q7];exact h⟩
   ·exact⟨i+1,by omega,by rw[show x+((i+1:Nat):Int)=x+1+i by omega];exact h⟩
  ·rintro⟨i,c,h⟩;cases i with
   | zero=>rw[Int.natCast_zero,Q7]at h;exact .inl h
   | succ i=>exact .inr ⟨i,by omega,by rw[show x+1+(i:Int)=x+((i+1:Nat):Int) by omega];exact h⟩
theorem NE (g:Int->List α):∀ (j:Nat) (x:Int),JG g (j+1) x=JG g j x++g (x+j)
 | 0,x=>by simp[JG]
 | j+1,x=>by rw[JG,NE g j (x+1),show JG g (j+1) x=g x++JG g j (x+1) from rfl,EO,show x+1+(j:Int)=x+((j+1:Nat):Int) by omega]
theorem YC {g:Int->List α}{c:Int->Int}(h:∀ x,((g x).length:Int)=c x):∀ (j:Nat) (x:Int),((JG g j x).length:Int)=Ay j (fun i=>c (x+i))
 | 0,x=>rfl
 | j+1,x=>by rw[NE,Bf,TW,YC h j x,h];rfl
theorem A2E:∀ {k:Nat}{ys z:List Int},z ∈ Gs f n B k ys->z.length=ys.length+k
 | 0,ys,z,h=>by unfold Gs at h;rw[Du]at h;rw[h];rfl
 | k+1,ys,z,h=>by unfold Gs at h;obtain⟨i,_,c⟩:=Ot.1 h;rw[A2E c,BR];omega
theorem S4 (h:BQ n f) (B:Int):∀ (k:Nat) (ys:List Int),((Gs f n B (k+1) ys).length:Int)=tlN f n B k ys
 | 0,ys=>by
  have d:=KM h B ys;show ((JG (fun x=>[x::ys]) (CY f n B ys).toNat (Cc f n B ys)).length:Int)=CY f n B ys;rw[YC (c:=fun _=>1) (fun x=>rfl)];have:∀ m:Nat,Ay m (fun _=>(1:Int))=m:=fun m=>by
   induction m with
   | zero=>rfl
   | succ m ih=>show Ay m (fun _=>(1:Int))+1=_;rw[ih];omega
  rw[this];omega
 | k+1,ys=>by show ((JG (fun x=>Gs f n B (k+1) (x::ys)) (CY f n B ys).toNat (Cc f n B ys)).length:Int)=_;rw[YC (c:=fun x=>tlN f n B k (x::ys)) (fun x=>S4 h B k (x::ys))];rfl
theorem A5B (h:BQ n f):∀ {k:Nat}{ys z:List Int},ys.length+k<=n->0<=HO f n B ys->z ∈ Gs f n B k ys->0<=HO f n B z
 | 0,ys,z,hl,h0,c=>by unfold Gs at c;rw[Du]at c;rw[c];exact h0
 | k+1,ys,z,hl,h0,c=>by have d:=KM h B ys;unfold Gs at c;obtain⟨i,e,c⟩:=Ot.1 c;refine A5B h (by rw[BR];omega) ?_ c;exact (NA h oo ((HG h B).1 h0) _).1 ⟨by omega,by unfold CY at *;omega⟩
theorem A7g (h:BQ n f):∀ {k:Nat}{ys zs:List Int},ys.length+k<=n->zs.length=k->0<=HO f n B (zs++ys)->(zs++ys) ∈ Gs f n B k ys:=by
 intro k;induction k with
 | zero =>
  intro ys zs m c d;obtain rfl:zs=[]:=FA c;show _ ∈ [ys];simp
 | succ k ih =>
  intro ys zs m c d;obtain⟨ws,a,rfl⟩:∃ ws a,zs=ws++[a]:=by exact⟨zs.dropLast,zs.getLast (by intro e;rw[e]at c;simp at c),(List.dropLast_concat_getLast _).symm⟩
  rw[Bf,Kk]at c;rw[EO]at d ⊢;have r:∀ (ts us:List Int),ts.length+us.length<=n->0<=HO f n B (ts++us)->0<=HO f n B us:=by
   intro ts;induction ts with
   | nil=>intro us _ h;exact h
   | cons t ts ih2 =>
    intro us o l;rw[BR]at o;exact ih2 us oo (Yu h (by rw[Bf];omega) l)
  have g:0<=HO f n B (a::ys):=r ws (a::ys) (by rw[BR];omega) d;have q:=ih (ys:=a::ys) (zs:=ws) (by rw[BR];omega) oo d;unfold Gs;have j:=Yu h (show ys.length<n by omega) g;have u:=(NA h (show ys.length<n by omega) ((HG h B).1 j) a).2 g;refine Ot.2 ⟨(a - Cc f n B ys).toNat,by unfold CY;omega,?_⟩;rw[show Cc f n B ys+((a - Cc f n B ys).toNat:Int)=a by omega];exact q
theorem QZ {z:List Int}(c:z.length=n):HO f n B z=B - IJ f n z:=by unfold HO;rw[c,J6,Nz];omega
theorem Uk (h:BQ n f) (hB:0<=B) (z:List Int):z ∈ Gs f n B n []↔z.length=n/\IJ f n z<=B:=by
 have g:0<=HO f n B []:=(HG h B).2 (A1V h hB);constructor
 ·intro e;have c:=A2E e;have d:=A5B h sm g e;simp at c;rw[QZ c]at d;exact⟨c,by omega⟩
 ·rintro⟨c,d⟩;have:=A7g h (B:=B) (k:=n) (ys:=[]) (zs:=z) sm c (by rw[D7,QZ c];omega);rwa [D7]at this
variable {i k j:Nat}
def J0:List Int->List Int->Int
 | [],[]=>0
 | [],_::_=>-1
 | _::_,[]=>1
 | x::xs,y::ys=>if x=y then J0 xs ys else if x<y then -1 else 1
theorem YD:∀ {xs ys:List Int},J0 xs ys=0->xs=ys
 | [],[],_=>rfl
 | [],_::_,h=>by simp[J0]at h
 | _::_,[],h=>by simp[J0]at h
 | x::xs,y::ys,h=>by
  unfold J0 at h;by_cases e:x=y
  ·rw[if_pos e]at h;rw[e,YD h]
  ·rw[if_neg e]at h;split at h <;> omega
theorem Xh:∀ xs:List Int,J0 xs xs=0
 | []=>rfl
 | x::xs=>by unfold J0;rw[if_pos rfl];exact Xh xs
theorem Xi:∀ xs ys:List Int,J0 ys xs=-J0 xs ys
 | [],[]=>rfl
 | [],_::_=>rfl
 | _::_,[]=>rfl
 | x::xs,y::ys=>by
  unfold J0;by_cases e:x=y
  ·rw[if_pos e,if_pos e.symm];exact Xi xs ys
  ·rw[if_neg e,if_neg (fun h=>e h.symm)];split <;> split <;> omega
def MJ:List Int->Int
 | []=>0
 | c::t=>if c=0 then MJ t else if c<0 then -1 else 1
theorem A5C:∀ xs:List Int,MJ (YZ xs)=-MJ xs
 | []=>rfl
 | c::t=>by
  show MJ (-c::YZ t)=_;unfold MJ;by_cases e:c=0
  ·rw[if_pos e,if_pos oo];exact A5C t
  ·rw[if_neg e,if_neg oo];split <;> split <;> omega
theorem YE:∀ xs:List Int,MJ xs=-1\/MJ xs=0\/MJ xs=1
 | []=>.inr (.inl rfl)
 | c::t=>by
  unfold MJ;split
  ·exact YE t
  ·split
   ·exact .inl rfl
   ·exact .inr (.inr rfl)
abbrev DF:=Int×List Int
def Jp (a b:DF):Prop:=a.1<b.1\/(a.1=b.1/\J0 a.2 b.2<0)
instance (a b:DF):Decidable (Jp a b):=by unfold Jp;exact inferInstance
def R0 {α:Type}(p:α->Prop) [DecidablePred p]:List α->Nat
 | []=>0
 | y::t=>if p y then R0 p t+1 else 0
theorem Ul (p:α->Prop) [DecidablePred p]:∀ l:List α,R0 p l<=l.length
 | []=>Ai _
 | y::t=>by unfold R0;have:=Ul p t;split <;> rw[BR] <;> omega
theorem R3 {p:α->Prop} [DecidablePred p]:∀ {l:List α}{i:Nat},(∀ (j:Nat) (y:α),j<i->l[j]?=some y->p y)->i<=l.length->(∀ y,l[i]?=some y->¬ p y)->R0 p l=i
 | [],i,_,hi,_=>by simp at hi;rw[hi];rfl
 | y::t,0,_,_,h=>by unfold R0;rw[if_neg (h y rfl)]
 | y::t,i+1,h1,hi,h2=>by unfold R0;rw[if_pos (h1 0 y oo rfl),R3 (i:=i) (fun j z d c=>h1 (j+1) z oo c) (by simpa using hi) (fun z c=>h2 z c)]
theorem A2F {p:α->Prop} [DecidablePred p]:∀ {l:List α}{y:α},l[R0 p l]?=some y->¬ p y
 | [],y,h=>by simp at h
 | x::t,y,h=>by
  unfold R0 at h;by_cases e:p x
  ·rw[if_pos e,HY]at h;exact A2F h
  ·rw[if_neg e]at h;simp at h;rw[<- h];exact e
def Lp {α:Type}(l:List α) (i:Nat) (x:α):List α:=l.take i++[x]++l.drop i
theorem Il {l:List α}{x z:α}:z ∈ Lp l i x↔z=x\/z ∈ l:=by
 unfold Lp;rw[FB,FB,Du];constructor
 ·rintro ((h | h) | h)
  ·exact .inr (HU h)
  ·exact .inl h
  ·exact .inr (NN h)
 ·rintro (h | h)
  ·exact .inl (.inr h)
  ·rw[<- Kh i l,FB]at h;rcases h with h | h
   ·exact .inl (.inl h)
   ·exact .inr h
theorem S6 (l:List α) (i:Nat) (x:α) (c:i<=l.length):(Lp l i x).length=l.length+1:=by unfold Lp;simp;omega
def OG (l:List DF) (x:DF):List DF:=match l[R0 (fun y=>Jp y x) l]? with
 | some y=>if Jp x y then Lp l (R0 (fun y=>Jp y x) l) x else l
 | none=>Lp l (R0 (fun y=>Jp y x) l) x
theorem A5D {l:List DF}{x z:DF}(h:z ∈ l):z ∈ OG l x:=by
 unfold OG;split
 ·split
  ·exact Il.2 (.inr h)
  ·exact h
 ·exact Il.2 (.inr h)
theorem A5E {l:List DF}{x:DF}:x ∈ OG l x:=by
 unfold OG;split
 ·rename_i y g;split
  ·exact Il.2 (.inl rfl)
  ·rename_i d;have c:=A2F g;have e:y=x:=by
    unfold Jp at c d;have j:=Xi y.2 x.2;have e1:y.1=x.1:=by omega
    have e2:J0 y.2 x.2=0:=by
     rcases PZ (J0 y.2 x.2) 0 with h | h | h
     ·exact absurd (.inr ⟨e1,h⟩) c
     ·exact h
     ·exact absurd (.inr ⟨e1.symm,by omega⟩) d
    exact Iw e1 (YD e2)
   rw[<- e];exact Bi g
 ·exact Il.2 (.inl rfl)
theorem A5F {l:List DF}{x z:DF}(h:z ∈ OG l x):z=x\/z ∈ l:=by
 unfold OG at h;split at h
 ·split at h
  ·exact Il.1 h
  ·exact .inr h
 ·exact Il.1 h
theorem A5G (l:List DF) (x:DF):(OG l x).length<=l.length+1:=by
 unfold OG;split
 ·split
  ·rw[S6 _ _ _ (Ul _ _)];exact Ai _
  ·omega
 ·rw[S6 _ _ _ (Ul _ _)];exact Ai _
def Jq (l:List DF):List DF->List DF
 | []=>l
 | x::t=>Jq (if MJ x.2=1 then OG l x else l) t
theorem Xj {z:DF}:∀ {t l:List DF},z ∈ l->z ∈ Jq l t
 | [],l,h=>h
 | x::t,l,h=>by
  unfold Jq;refine Xj ?_;split
  ·exact A5D h
  ·exact h
theorem Xk {z:DF}(c:MJ z.2=1):∀ {t l:List DF},z ∈ t->z ∈ Jq l t
 | x::t,l,h=>by
  unfold Jq;rcases Cw.1 h with rfl | h
  ·rw[if_pos c];exact Xj A5E
  ·exact Xk c h
theorem Ou {z:DF}:∀ {t l:List DF},z ∈ Jq l t->z ∈ l\/(z ∈ t/\MJ z.2=1)
 | [],l,h=>.inl h
 | x::t,l,h=>by
  unfold Jq at h;rcases Ou h with h | ⟨h1,h2⟩
  ·by_cases e:MJ x.2=1
   ·rw[if_pos e]at h;rcases A5F h with rfl | h
    ·exact .inr ⟨by simp,e⟩
    ·exact .inl h
   ·rw[if_neg e]at h;exact .inl h
  ·exact .inr ⟨by simp[h1],h2⟩
theorem Lr:∀ (t l:List DF),(Jq l t).length<=l.length+t.length
 | [],l=>Ai _
 | x::t,l=>by
  unfold Jq;have c:=Lr t (if MJ x.2=1 then OG l x else l);have d:=A5G l x;rw[BR];split at c <;> rename_i h
  ·rw[if_pos h];omega
  ·rw[if_neg h];omega
def Sa (l:List DF) (x:DF):List DF:=Lp l (R0 (fun y:DF=>J0 y.2 x.2<0) l) x
theorem VH {l:List DF}{x z:DF}:z ∈ Sa l x↔z=x\/z ∈ l:=Il
theorem VI (l:List DF) (x:DF):(Sa l x).length=l.length+1:=S6 _ _ _ (Ul _ _)
def J1 (l:List DF):List DF->List DF
 | []=>l
 | x::t=>J1 (Sa (Sa l x) (x.1,YZ x.2)) t
theorem Ls {z:DF}:∀ {t l:List DF},z ∈ J1 l t↔z ∈ l\/∃ x ∈ t,z=x\/z=(x.1,YZ x.2)
 | [],l=>by simp[J1]
 | x::t,l=>by
  unfold J1;rw[Ls,VH,VH];constructor
  ·rintro ((h | h | h) | ⟨y,c,h⟩)
   ·exact .inr ⟨x,by simp,.inr h⟩
   ·exact .inr ⟨x,by simp,.inl h⟩
   ·exact .inl h
   ·exact .inr ⟨y,by simp[c],h⟩
  ·rintro (h | ⟨y,c,h⟩)
   ·exact .inl (.inr (.inr h))
   ·rcases Cw.1 c with rfl | c
    ·rcases h with h | h
     ·exact .inl (.inr (.inl h))
     ·exact .inl (.inl h)
    ·exact .inr ⟨y,c,h⟩
theorem Ov:∀ (t l:List DF),(J1 l t).length=l.length+2 * t.length
 | [],l=>rfl
 | x::t,l=>by unfold J1;rw[Ov,VI,VI,BR];omega
def ipI (f:Nat->Nat->Int) (n:Nat) (x y:List Int):Int:=Ay n (fun p=>yv x p * Ay n (fun q=>f p q * yv y q))
def Wy (f:Nat->Nat->Int) (n:Nat) (cols:List (List Int)) (it:DF):Prop:=it.1=f cols.length cols.length/\∀ j,j<cols.length->ipI f n (cols.getD j []) it.2=f j cols.length
instance (f:Nat->Nat->Int) (n:Nat) (cols:List (List Int)) (it:DF):Decidable (Wy f n cols it):=by unfold Wy;exact inferInstance
def FT (f:Nat->Nat->Int) (n:Nat) (pool:List DF) (cols:List (List Int)):List (List Int):=(pool.filter (fun it=>decide (Wy f n cols it))).map (·.2)
def Ji {α β:Type}(g:α->Option β):List α->Option β
 | []=>none
 | x::t=>match g x with
  | some y=>some y
  | none=>Ji g t
theorem SM {β:Type}{g:α->Option β}{x:α}(c:(g x).isSome):∀ {l:List α},x ∈ l->(Ji g l).isSome
 | y::t,h=>by
  unfold Ji;split
  ·rfl
  ·rename_i d;rcases Cw.1 h with rfl | h
   ·rw[d]at c;cases c
   ·exact SM c h
def Jj (f:Nat->Nat->Int) (n:Nat) (pool:List DF):Nat->List (List Int)->Option (List (List Int))
 | 0,cols=>some cols
 | m+1,cols=>Ji (fun x=>Jj f n pool m (cols++[x])) (FT f n pool cols)
def Ek (n j:Nat):List Int:=(List.range n).map (fun i=>if i=j then 1 else 0)
def Co (n k:Nat):List (List Int):=(List.range k).map (Ek n)
theorem Im (n j:Nat):(Ek n j).length=n:=by simp[Ek]
theorem A0f (c:i<n):yv (Ek n j) i=if i=j then 1 else 0:=by unfold yv Ek;rw[Bd];simp[c]
theorem NF (n k:Nat):Co n (k+1)=Co n k++[Ek n k]:=by unfold Co;rw[Iv,Ev];rfl
theorem Io (n k:Nat):(Co n k).length=k:=by simp[Co]
theorem A3W (c:j<k):(Co n k).getD j []=Ek n j:=by unfold Co;rw[Bd];simp[c]
theorem Xl (c:i<n) (g:Nat->Int):Ay n (fun q=>g q * (if q=i then 1 else 0))=g i:=by rw[JO c g 1,Int.mul_one]
theorem A2G (c:i<n) (d:j<n):ipI f n (Ek n i) (Ek n j)=f i j:=by
 unfold ipI;have e1:∀ p,p<n->yv (Ek n i) p * Ay n (fun q=>f p q * yv (Ek n j) q)=f p j * (if p=i then 1 else 0):=by intro p e;rw[Bo (fun q g=>by rw[A0f g]),Xl d (f p),A0f e,HT]
 rw[Bo e1,Xl c (fun p=>f p j)]
def Wz (f:Nat->Nat->Int) (n:Nat) (pool:List DF) (i:Nat):List (List Int):=(FT f n pool (Co n i)).filter (fun x=>(Jj f n pool (n - i - 1) (Co n i++[x])).isSome)
def A1W (f:Nat->Nat->Int) (n:Nat) (pool:List DF):Nat->Int
 | 0=>1
 | i+1=>A1W f n pool i * ((Wz f n pool i).length:Int)
theorem A5H (d:i<n):Wy f n (Co n i) (f i i,Ek n i):=by refine⟨by rw[Io],fun j c=>?_⟩;rw[Io]at c ⊢;rw[A3W c];exact A2G oo d
theorem Xm {pool:List DF}(c:i<n) (d:(f i i,Ek n i) ∈ pool):Ek n i ∈ FT f n pool (Co n i):=by unfold FT;rw[CG];exact⟨_,TU.2 ⟨d,decide_eq_true (A5H c)⟩,rfl⟩
theorem A0g {pool:List DF}(c:∀ i,i<n->(f i i,Ek n i) ∈ pool):∀ (m k:Nat),m+k=n->(Jj f n pool m (Co n k)).isSome
 | 0,k,_=>rfl
 | m+1,k,h=>by unfold Jj;refine SM (x:=Ek n k) ?_ (Xm oo (c k oo));rw[<- NF];exact A0g c m (k+1) oo
theorem A2H {pool:List DF}(c:∀ i,i<n->(f i i,Ek n i) ∈ pool):∀ k,k<=n->1<=A1W f n pool k
 | 0,_=>Gy _
 | i+1,h=>by have ih:=A2H c i oo;have d:Ek n i ∈ Wz f n pool i:=TU.2 ⟨Xm oo (c i oo),by rw[<- NF];exact A0g c (n - i - 1) (i+1) oo⟩;have e:1<=(Wz f n pool i).length:=List.length_pos_of_mem d;have:=J8 (show (1:Int)<=(Wz f n pool i).length by omega) (show 0<=A1W f n pool i by omega);show 1<=A1W f n pool i * _;omega
variable {base s1 s2 cap b2:Nat}{w' w1:World}{t ty e et:TypeId}{af:Array Edge}{g:Option (Nat×Bool)}{x:Operand}{d:Option Tmp}{us cs:List Value}{u z y:Value}{ti et1:TI}{iv:Int}
structure Kp (t:TypeId) (base:Nat) (w w':World):Prop where
 ext0:∀ w0,Ac w0 w->w0.heap.size<=base->Ac w0 w'
 typed:∀ t' b C,Aj t' w b C->t'≠t->Aj t' w' b C
theorem Kp.refl (t:TypeId) (base:Nat) (w:World):Kp t base w w:=⟨fun _ h _=>h,fun _ _ _ h _=>h⟩
theorem Kp.trans {w w2:World}(h:Kp t base w w1) (k:Kp t base w1 w2):Kp t base w w2 :=
 ⟨fun w0 e c=>k.ext0 w0 (h.ext0 w0 e c) c,fun t' b C hB d=>k.typed t' b C (h.typed t' b C hB d) d⟩
theorem Ac.kp {w:World}(h:Ac w w'):Kp t base w w':=⟨fun _ c _=>c.trans h,fun _ _ _ hB _=>hB.ext h⟩
theorem Kp.ext {w:World}(h:Kp t w.heap.size w w'):Ac w w':=h.ext0 w (Ac.refl _) AO
theorem Kp.lo {w:World}{v:Value}{xs:List Int}(h:Kp t base w w') (k:LO b2 w v xs) (c:2≠t):LO b2 w' v xs:=Aq.bO k (fun _ _ _ hB=>h.typed _ _ _ hB c)
theorem Kp.row {w:World}{v:Value}(h:Kp t base w w') (d:Aq k e b2 w v us) (c:e≠t):Aq k e b2 w' v us:=Aq.bO d (fun _ _ _ hB=>h.typed _ _ _ hB c)
def HJ (w:World) (v:Value) (us:List Value):Prop:=∃ p cap,v=.slice p us.length cap/\us.length<=cap/\(p=none->cap=0)/\∀ a,p=some a->∀ (j:Nat) (c:Value),(AV us)[j]?=some c->w.cell? (a.add j)=some c
theorem HJ.ext {w:World}{v:Value}(h:HJ w v us) (o:Ac w w'):HJ w' v us:=by obtain⟨p,cap,d,e,g,k⟩:=h;exact⟨p,cap,d,e,g,fun a l j c m=>o.cell (k a l j c m)⟩
section
variable {n:Nat}{E:List (Nat×Value)}{w:World}
theorem Av.cV {s:Operand}{pos:String}{v:Value}{ds:List Value}
  (h:Aq k et base w v us) (hy:HJ w y ds) (q:M8 k ds) (X:AG TB t=some ⟨.slice et,s1,s2,z⟩) (Y:AG TB et=some ti) (W:ti.size=k) (hz:ti.zero.cells.size=k) (O:Nat.blt 0 k=true) (T:ov E s=some v) (Z:ov E x=some y)
  (R:us.length+ds.length<=1000000) (F:Nat.ble ti.bytes 1000=true) (C:base<=w.heap.size) :
  Av prog n ⟨d,.call ⟨.builtin .append,#[s,x],#[t,t]⟩,ty,pos,af,g⟩ E w (fun v' w'=>Aq k et base w' v' (us++ds)/\w.grownBy w' v.ownBlock/\(v'.ownBlock=v.ownBlock\/v'.ownBlock=some w.heap.size)):=by
 obtain⟨i,_⟩:=A8 t _ X;obtain⟨_,inf,f,V,D,hb⟩:=A8 et ti Y;have G:ti.bytes<=1000:=Jr F;have Q:0<k:=by simpa using O
 have U:M8 k (us++ds):=by
  intro c e;rcases FB.1 e with e | e
  ·exact h.1 c e
  ·exact q c e
 have M:AV (us++ds)=AV us++AV ds:=by unfold AV;rw[LU]
 obtain⟨p,cap,hv,hl,A,I⟩:=hy;have key:∃ v' w',(Builtin.append_ #[t,t] ty #[v,y]).run prog w=.ok v' w'/\Aq k et base w' v' (us++ds)/\w.grownBy w' v.ownBlock/\(v'.ownBlock=v.ownBlock\/v'.ownBlock=some w.heap.size):=by
  cases p with
  | none =>
   have e0:=A rfl;have J:ds=[]:=FA oo;subst J;subst e0;subst hv;refine⟨v,w,run_append_owned_none (P:=prog) w base t ty et inf k i f v us.length (AV us) h.owns,by rw[D7];exact h,⟨rfl,rfl,rfl,Ai _,fun _ _ _=>rfl⟩,.inl rfl⟩
  | some a =>
   subst hv;obtain⟨v',w',r,l,m,h4,o⟩:=run_append_own_at (P:=prog) w base t ty et inf ti.zero k ti.bytes i f hb (V.trans W) D hz Q v us.length (AV us) h.owns a ds.length cap (AV ds) (by rw[q.flat,AQ])
    (fun j c N=>I a rfl j c N) (fun u hu=>by
     unfold AV at hu;obtain⟨c,H,L⟩:=List.mem_flatMap.1 hu;exact (q c H).2 u L) (by unfold maxLen;omega) (by have:(us.length+ds.length) * ti.bytes<=1000000 * 1000:=Dg R G;omega) C
   refine⟨v',w',r,Aq.bU U (by rw[Bf,M];exact l),m,o⟩
 obtain⟨v',w',r,l,m,o⟩:=key;intro a b Q' K B;have e1:=b.eval T;have e2:=b.eval Z;have S:(execOp a.eval ⟨d,.call ⟨.builtin .append,#[s,x],#[t,t]⟩,ty,pos,af,g⟩).run prog w=.ok (.value v') w':=by generalize a.eval=ρ at e1 e2;simp only[execOp,resolve,invoke,builtin,Bq,AX,Bp,Js,Er,J4,e1,e2,r]
 unfold Oper.wp;rw[S,Oper.upon_value];exact B v' w' ⟨l,m,o⟩
end
theorem J2 {w:World}{v:Value}(h:Aq k e base w v us) (g:w.grownBy w' v.ownBlock):Kp e base w w':=by
 rcases CB h g with hE | ⟨b,C,_,hb,hB,hU⟩
 ·exact hE.kp
 ·refine⟨fun w0 d l=>d.aj hU oo,fun t' b' C' c j=>c.upd hU ?_⟩;rintro rfl;unfold Aj at hB c;rw[hB]at c;simp only[AP,Obj.cells.injEq]at c;exact j c.2.1.symm
theorem Lu {w:World}(c:w.grownBy w' (Value.slice none 0 0).ownBlock):Ac w w':=(J2 (k:=1) (e:=2) (base:=w.heap.size) Aq.nil c).ext
theorem Aq.cells {w:World}{v:Value}(h:Aq k e base w v us):HJ w v us:=by
 rcases h.2 with ⟨hv,h0⟩ | ⟨g,cap,D,hv,hg,hb,h1,h2,_⟩
 ·subst h0;exact⟨none,0,by rw[hv];rfl,Ai _,fun _=>rfl,fun a d=>by cases d⟩
 ·refine⟨some ⟨g,0,none⟩,cap,hv,h2,fun e=>(by cases e),?_⟩;rintro a d j c l;cases d;rw[Ak,AE];exact hb.cell (by rw[BM (Au.1 l).1];exact l)
theorem Mo (us:List Value) (j:Nat):AV us=AV (us.take j)++AV (us.drop j):=by unfold AV;rw[<- LU,Kh]
theorem HJ.take {w:World}{p:Option Addr}(h:HJ w (.slice p n cap) us) (m:i<=us.length):HJ w (.slice p i cap) (us.take i):=by obtain⟨p',cap',e,o,g,k⟩:=h;cases e;refine⟨p,cap,by rw[EE,H8 m],by rw[EE];omega,g,fun a l j c d=>k a l j c ?_⟩;rw[Mo us i,BM (Au.1 d).1];exact d
theorem HJ.drop {w:World}{p:Option Addr}(h:HJ w (.slice p n cap) us) (v:M8 k us) (q:i<=us.length):HJ w (.slice (if cap=i then p else p.map (·.add (i * k))) (us.length - i) (cap - i)) (us.drop i):=by
 obtain⟨p',cap',e,y,m,o⟩:=h;cases e;by_cases l:cap=i
 ·have e0:us.drop i=[]:=O3 oo;rw[if_pos l,e0];refine⟨p,cap - i,by rw[show us.length - i=0 by omega];rfl,Cu _,fun _=>by omega,fun a _ j c g=>by simp[AV]at g⟩
 ·rw[if_neg l];refine⟨p.map (·.add (i * k)),cap - i,by rw[Jy],by rw[Jy];omega,fun e=>?_,fun a d j c g=>?_⟩
  ·cases p with
   | none=>have:=m rfl;omega
   | some a=>cases e
  ·cases p with
   | none=>cases d
   | some b =>
    simp only[LP,AP]at d;subst d;rw[Addr.add_add];refine o b rfl _ c ?_;have r:(AV (us.take i)).length=i * k:=by rw[M8.flat (k:=k) (fun u hu=>v u (HU hu)),EE,H8 q,AQ]
    rw[Mo us i,Es oo,r,Nat.add_sub_cancel_left];exact g
theorem Lv {c:Value}(g:M8 k us) (hu:us[j]?=some u) (d:u.cells.toList[i]?=some c):(AV us)[k * j+i]?=some c:=by
 have e:=Ni (k:=k) us [] j u (fun v hv=>(g v hv).1) hu;rw[D7]at e;have l:i<k:=by have:=(Au.1 d).1;rw[(g u (Bi hu)).1]at this;exact this
 rw[<- e,Dz l,Jt]at d;exact d
theorem HJ.at {w:World}{v:Value}(h:HJ w v us) (l:M8 k us) (hu:us[j]?=some u):∃ a cap,v=.slice (some a) us.length cap/\∀ (i:Nat) (c:Value),u.cells.toList[i]?=some c->w.cell? (a.add (k * j+i))=some c:=by
 obtain⟨p,cap,hv,m,d,e⟩:=h;cases p with
 | none =>
  have:=d rfl;have:=(Au.1 hu).1;omega
 | some a=>exact⟨a,cap,hv,fun i c g=>e a rfl _ c (Lv l hu g)⟩
section
variable {P:Program}{T:List (Nat×TI)}{n:Nat}{E:List (Nat×Value)}{w:World}
theorem A0.bL (c:Aw P T) {i:Operand}{pos:String}{a:Addr}{len s:Nat}{k:IntKind}
  (r:AG T t=some ⟨.slice et,s1,s2,z⟩) (u:AG T et=some et1) (q:et1.size=s) (v:ov E x=some (.slice (some a) len cap)) (m:ov E i=some (.int k iv)) (o:iv=j) (l:j<len) :
  A0 P n ⟨d,.indexAddr t x i,ty,pos,af,g⟩ E w (.pointer (some (a.add (s * j)))):=by subst o;intro b e;have e1:=e.eval v;have e2:=e.eval m;have e3:j * s=s * j:=AQ _ _;generalize b.eval=ρ at e1 e2;simp[execOp,Instr.indexAt,e1,e2,Ag c r,AK c u,q,l,asIntOf,e3,go_sem]
theorem rK {i:Operand}{pos:String}{a:Addr}{len s:Nat}{k:IntKind}(c:j<len) (e:Aw P T:=by exact A8) (q:AG T t=some ⟨.slice et,s1,s2,z⟩:=by exact rfl) (r:AG T et=some et1:=by exact rfl) (o:et1.size=s:=by exact rfl) (u:ov E x=some (.slice (some a) len cap):=by exact rfl) (l:ov E i=some (.int k iv):=by exact rfl) (m:iv=j:=by exact rfl):
  A0 P n ⟨d,.indexAddr t x i,ty,pos,af,g⟩ E w (.pointer (some (a.add (s * j)))):=A0.bL e q r o u l m c
theorem NG {a:Addr}(h:∀ (i:Nat) (c:Value),cs[i]?=some c->w.cell? (a.add i)=some c):∀ (m i:Nat) (acc:Array Value),i+m=cs.length->(loadCellsFrom a i m acc).run P w=.ok (acc++(cs.drop i).toArray) w:=by
 intro m;induction m with
 | zero =>
  intro i acc j;rw[O3 oo];simp[loadCellsFrom,go_sem]
 | succ m ih =>
  intro i acc j;have d:i<cs.length:=by omega
  have e:=h i cs[i] (by simp[d]);unfold loadCellsFrom;simp only[Bq];have g:(Go.load (a.add i)).run P w=.ok cs[i] w:=Rk e;rw[g,Bp,ih (i+1) _ oo];congr 1;rw[ED d];simp
theorem A0.aB (e:Aw P T) {pos:String}{a:Addr}
  (k:AG T t=some ti) (l:DJ ti.desc=true) (q:ov E x=some (.pointer (some a))) (o:ti.size=cs.length) (h:∀ (i:Nat) (c:Value),cs[i]?=some c->w.cell? (a.add i)=some c) :
  A0 P n ⟨d,.load t x,ty,pos,af,g⟩ E w (.agg cs.toArray):=by intro b m;have e1:=m.eval q;generalize b.eval=ρ at e1;have j:=NG (P:=P) h cs.length 0 #[] oo;simp only[FE,Tz]at j;simp[execOp,Instr.loadAt,Instr.sureAddr,loadVar,e1,FH e k,l,AK e k,loadCells,o,j,go_sem]
end
variable {b:Nat}{xv:Value}{ys:List Int}{it:DF}
theorem A5I {xs:List Int}(c:i<xs.length) (d:i<ys.length):J0 (xs.drop i) (ys.drop i)=if xs.getD i 0=ys.getD i 0 then J0 (xs.drop (i+1)) (ys.drop (i+1)) else if xs.getD i 0<ys.getD i 0 then -1 else 1:=by
 rw[ED c,ED d];have e1:xs.getD i 0=xs[i]:=by simp[Bd,c]
 have e2:ys.getD i 0=ys[i]:=by simp[Bd,d]
 rw[e1,e2];rfl
theorem A2I {xs:List Int}(d:i<=xs.length) (g:i<=ys.length) (h:i=xs.length\/i=ys.length):J0 (xs.drop i) (ys.drop i)=if xs.length<ys.length then -1 else if ys.length<xs.length then 1 else 0:=by
 rcases h with h | h
 ·have e:xs.drop i=[]:=O3 oo;rw[e];by_cases c:xs.length<ys.length
  ·rw[if_pos c,ED (show i<ys.length by omega)];rfl
  ·rw[if_neg c,if_neg oo,O3 (show ys.length<=i by omega)];rfl
 ·have e:ys.drop i=[]:=O3 oo;rw[e,if_neg oo];by_cases c:ys.length<xs.length
  ·rw[if_pos c,ED (show i<xs.length by omega)];rfl
  ·rw[if_neg c,O3 (show xs.length<=i by omega)];rfl
theorem Mp {w:World}{v:Value}{xs:List Int}(h:Nh w u xs) (k:Nh w v ys) (D:xs.length<=1000) (E:ys.length<=1000) :
  Calls prog 229 #[u,v] w (AJ fun x w'=>Ac w w'/\x=.int .i64 (J0 xs ys)):=by
 obtain⟨p,c,e⟩:=h.len;subst e;obtain⟨q,d,e⟩:=k.len;subst e;refine cS func229 ntmps229 ?_;refine Nv ?_;refine .r rfl ?_;refine Nv ?_;refine .r rfl ?_;refine Af.nil (Ad.ak ?_);refine St.cL (fun _:Unit=>[(0,.slice p xs.length c),(1,.slice q ys.length d)]) (fun _ w'=>Ac w w'/\J0 xs ys=if xs.length<ys.length then -1 else if ys.length<xs.length then 1 else 0) ?_ ?_
 ·refine St.block ?_;refine St.loop (α:=Nat) (fun i=>[(5,.int .i64 i),(0,.slice p xs.length c),(1,.slice q ys.length d)]) (fun i w'=>Ac w w'/\i<=xs.length/\i<=ys.length/\J0 xs ys=J0 (xs.drop i) (ys.drop i)) (fun i=>xs.length - i) 0 AL ⟨Ac.refl _,Cu _,Cu _,rfl⟩ ?_;rintro i w1 ⟨j,z,t,g⟩;by_cases n:i<xs.length
  ·refine Nv ?_;refine .a 4 (.bool true) rfl (Aa oo) ?_;by_cases s:i<ys.length
   ·refine .a 5 (.bool true) rfl (Aa oo) ?_;refine A7 ?_;refine .cT ?_;obtain⟨aa,_,e1,b⟩:=(h.ext j).cell n;obtain⟨ab,_,e2,f⟩:=(k.ext j).cell s;cases e1;cases e2;rw[A5I n s]at g;refine Nv ?_;refine sF 8 ?_;refine .q ?_;refine .on (fun _ _=>A0.ia) ?_;refine .on (fun _ l=>rL (l.aq.cell b)) ?_;refine .q ?_;refine .on (fun _ _=>A0.ia) ?_;refine .on (fun _ l=>rL (l.aq.cell f)) ?_;refine FL.aG rfl ?_;rintro w2 y _ _;have o:=j.trans y;by_cases e:xs.getD i 0=ys.getD i 0
    ·refine .a 1 (.bool false) rfl (by rw[e,bne_self_eq_false]) ?_;rw[if_pos e]at g;refine A7 ?_;refine .cF ?_;refine Nv ?_;refine .a 2 (.int .i64 ((i+1:Nat):Int)) rfl (Bv oo) ?_;refine A7 ?_;exact Ad.again (i+1) AL ⟨o,by omega,by omega,g⟩ (by show xs.length - (i+1)<xs.length - i;omega)
    ·refine .a 1 (.bool true) rfl (by rw[bne_iff_ne.2 e]) ?_;rw[if_neg e]at g;refine A7 ?_;refine .cT ?_;refine Nv ?_;refine sF 8 ?_;refine .q ?_;refine .on (fun _ _=>A0.ia) ?_;refine .on (fun _ l=>rL (l.aq.cell (y.cell b))) ?_;refine .q ?_;refine .on (fun _ _=>A0.ia) ?_;refine .on (fun _ l=>rL (l.aq.cell (y.cell f))) ?_;refine FL.aG rfl ?_;rintro w3 C _ _;by_cases m:xs.getD i 0<ys.getD i 0
     ·refine .a 1 (.bool true) rfl (Aa m) ?_;rw[if_pos m]at g;refine A7 ?_;refine .ct ?_;exact uR ⟨o.trans C,by rw[g]⟩
     ·refine .a 1 (.bool false) rfl (A9 m) ?_;rw[if_neg m]at g;refine A7 ?_;refine .cf ?_;exact uR ⟨o.trans C,by rw[g]⟩
   ·refine .a 5 (.bool false) rfl (A9 oo) ?_;refine A7 ?_;refine .cF ?_;refine Nv ?_;exact Ad.met () AL ⟨j,by rw[g];exact A2I z t (.inr oo)⟩
  ·refine Nv ?_;refine .a 4 (.bool false) rfl (A9 oo) ?_;refine A7 ?_;refine .cF ?_;refine Nv ?_;exact Ad.met () AL ⟨j,by rw[g];exact A2I z t (.inl oo)⟩
 ·rintro _ w1 ⟨j,g⟩;refine Nv ?_;by_cases A:xs.length<ys.length
  ·refine .a 5 (.bool true) rfl (Aa oo) ?_;rw[if_pos A]at g;refine A7 ?_;refine .ct ?_;exact uR ⟨j,by rw[g]⟩
  refine .a 5 (.bool false) rfl (A9 oo) ?_;rw[if_neg A]at g;refine A7 ?_;refine .cF ?_;refine Nv ?_;by_cases B:ys.length<xs.length
  ·refine .a 5 (.bool true) rfl (Aa oo) ?_;rw[if_pos B]at g;refine A7 ?_;refine .ct ?_;exact uR ⟨j,by rw[g]⟩
  refine .a 5 (.bool false) rfl (A9 oo) ?_;rw[if_neg B]at g;refine A7 ?_;refine .cf ?_;exact uR ⟨j,by rw[g]⟩
def JH (w:World) (u:Value) (it:DF):Prop:=∃ xv,u=.agg #[.int .i64 it.1,xv]/\LO 0 w xv it.2
theorem JH.ext {w:World}(h:JH w u it) (d:Ac w w'):JH w' u it:=by obtain⟨xv,hu,c⟩:=h;exact⟨xv,hu,c.ext d⟩
theorem LO.one {w:World}{v:Value}{xs:List Int}(h:LO b w v xs):v.cells=#[v]/\v.oneCell'=true:=Aq.cQ h
theorem JH.cells {w:World}{n:Int}{xs:List Int}(h:LO 0 w xv xs):(Value.agg #[.int .i64 n,xv]).cells.toList=[.int .i64 n,xv]:=by obtain⟨p,cap,rfl⟩:=h.len;rfl
theorem Xn {w:World}{v:Value}{a b:DF}(h:JH w u a) (k:JH w v b) (m:a.2.length<=1000) (o:b.2.length<=1000) :
  Calls prog 236 #[u,v] w (AJ fun x w'=>Ac w w'/\x=.bool (decide (Jp a b))):=by
 obtain⟨na,xa⟩:=a;obtain⟨nb,xb⟩:=b;obtain⟨uv,rfl,hu⟩:=h;obtain⟨i,rfl,hv⟩:=k;have j:=JH.cells (n:=na) hu;have l:=JH.cells (n:=nb) hv;dsimp only at j l m o hu hv ⊢;refine cS func236 ntmps236 ?_;refine Nv ?_;refine .s (oB) ?_;rintro _ w1 ⟨rfl,B1,y,t⟩;refine .s (oB) ?_;rintro _ w2 ⟨rfl,B2,q,f⟩;have e:=y.trans q;rw[j]at B1;rw[l]at B2;replace B1:=B1.ext q;by_cases c:na<nb
 ·have d:Jp (na,xa) (nb,xb):=.inl c;rw[decide_eq_true d];refine A7 ?_;refine .p FW ?_;refine .r rfl ?_;refine .p FW ?_;refine .a 1 (.bool true) rfl (Aa c) ?_;refine A7 ?_;exact Ad.ax rfl rfl ⟨e,rfl⟩
 ·refine A7 ?_;refine .p FW ?_;refine .r rfl ?_;refine .p FW ?_;refine .a 1 (.bool false) rfl (A9 c) ?_;refine .r rfl ?_;refine .p FW ?_;refine .r rfl ?_;refine .p FW ?_;by_cases g:na=nb
  ·refine .a 1 (.bool true) rfl (by rw[beq_iff_eq.2 g]) ?_;refine .r rfl ?_;refine .p FW ?_;refine .r rfl ?_;refine .p FW ?_;refine .s (oK JX (Mp (hu.l64.ext e) (hv.l64.ext e) m o)) ?_;rintro _ w3 ⟨z,rfl⟩;have d:decide (Jp (na,xa) (nb,xb))=decide (J0 xa xb<0):=by
    refine decide_eq_decide.2 ⟨fun h=>?_,fun h=>.inr ⟨g,h⟩⟩;rcases h with h | h
    ·exact absurd h c
    ·exact h.2
   rw[d];refine A7 ?_;exact Ad.ax rfl rfl ⟨e.trans z,rfl⟩
  ·refine .a 1 (.bool false) rfl (by rw[beq_eq_false_iff_ne.2 g]) ?_;have d:¬ Jp (na,xa) (nb,xb):=fun h=>by
    rcases h with h | h
    ·exact c h
    ·exact g h.1
   rw[decide_eq_false d];refine A7 ?_;exact Ad.ax rfl rfl ⟨e,rfl⟩
theorem A5J {xs:List Int}{i:Nat}(d:i<xs.length):MJ (xs.take (i+1))=if MJ (xs.take i)=0 then (if xs.getD i 0=0 then 0 else if xs.getD i 0<0 then -1 else 1) else MJ (xs.take i):=by
 have key:∀ (ws:List Int) (z:Int),MJ (ws++[z])=if MJ ws=0 then (if z=0 then 0 else if z<0 then -1 else 1) else MJ ws:=by
  intro ws z;induction ws with
  | nil=>rfl
  | cons c t ih =>
   show MJ (c::(t++[z]))=_;unfold MJ;by_cases e:c=0
   ·rw[if_pos e,if_pos e,ih]
   ·rw[if_neg e,if_neg e];split
    ·rw[if_neg oo]
    ·rw[if_neg oo]
 have e1:xs.getD i 0=xs[i]:=by simp[Bd,d]
 rw[DA d,key,e1]
theorem A7h (xs:List Int):xs.map (fun z=>1 * z)=xs:=by simp
theorem PN {w:World}{v:Value}{xs:List Int}(h:Nh w v xs) (H:xs.length<=1000) (A:EA xs) :
  Calls prog 228 #[v] w (AJ fun x w'=>Ac w w'/\((MJ xs=0/\x=.tuple #[.slice none 0 0,.bool false])\/(MJ xs≠0/\∃ y,x=.tuple #[y,.bool true]/\LO 0 w' y (xs.map (fun z=>MJ xs * z))))):=by
 obtain⟨p,c,e⟩:=h.len;subst e;refine cS func228 ntmps228 ?_;refine A7 ?_;refine .s (oK Wm (A06 h oo)) ?_;rintro _ w1 ⟨F,b,rfl,E⟩;obtain rfl:=E.2 A;refine A7 ?_;refine .cf ?_;refine sG (15) (0) (xs.length) (fun g:Int=>[(4,.int .i64 g),(0,.slice p xs.length c),(13,.slice p xs.length c),(14,.int .i64 xs.length)]) (fun i g w'=>Ac w w'/\g=MJ (xs.take i)) (0) ?_ ?_ ?_
 ·exact⟨F,rfl⟩
 ·rintro i g w2 k ⟨j,f⟩;obtain⟨aa,_,e1,n⟩:=(h.ext j).cell k;cases e1;have d:=A5J k;rw[<- f]at d;refine Nv ?_;refine .p (A0.ia) ?_;refine .p (rL n) ?_;refine .r rfl ?_;refine Nv ?_;by_cases l:g=0
  ·rw[if_pos l]at d;refine .a 2 (.bool true) rfl (by rw[beq_iff_eq.2 l]) ?_;by_cases q:xs.getD i 0=0
   ·rw[if_pos q]at d;refine .a 3 (.bool false) rfl (by rw[q,bne_self_eq_false]) ?_;refine A7 ?_;refine .cF ?_;refine Nv ?_;exact Ad.aO g AL ⟨j,by rw[d];exact l⟩
   ·rw[if_neg q]at d;refine .a 3 (.bool true) rfl (by rw[bne_iff_ne.2 q]) ?_;refine A7 ?_;refine .cT ?_;refine Nv ?_;refine .r rfl ?_;refine Nv ?_;by_cases u:xs.getD i 0<0
    ·rw[if_pos u]at d;refine .a 2 (.bool true) rfl (Aa u) ?_;refine A7 ?_;refine .ct ?_;exact Ad.aO (-1) AL ⟨j,d.symm⟩
    ·rw[if_neg u]at d;refine .a 2 (.bool false) rfl (A9 u) ?_;refine A7 ?_;refine .cF ?_;refine Nv ?_;exact Ad.aO 1 AL ⟨j,d.symm⟩
  ·rw[if_neg l]at d;refine .a 2 (.bool false) rfl (by rw[beq_eq_false_iff_ne.2 l]) ?_;refine A7 ?_;refine .cF ?_;refine Nv ?_;exact Ad.aO g AL ⟨j,d.symm⟩
 ·rintro g w2 ⟨j,f⟩;rw[D5]at f;subst f;refine Nv ?_;by_cases o:MJ xs=0
  ·refine .a 2 (.bool true) rfl (by rw[beq_iff_eq.2 o]) ?_;refine A7 ?_;refine .ct ?_;exact Ad.aC A8 [_,_] rfl ⟨rfl,rfl,trivial⟩ ⟨j,.inl ⟨o,rfl⟩⟩
  ·refine .a 2 (.bool false) rfl (by rw[beq_eq_false_iff_ne.2 o]) ?_;have B:=YE xs;generalize J:MJ xs=s at *
   refine A7 ?_;refine .cf ?_;refine sG (32) (0) (xs.length) (fun g:Value=>[(7,g),(4,.int .i64 s),(30,.slice p xs.length c),(31,.int .i64 xs.length)]) (fun i g w'=>Ac w w'/\LO w.heap.size w' g ((xs.take i).map (fun z=>s * z))) (.slice none 0 0) ?_ ?_ ?_
   ·exact⟨j,Aq.nil⟩
   ·rintro i g w3 k ⟨m,t⟩;obtain⟨aa,_,e1,n⟩:=(h.ext m).cell k;cases e1;have G:=A.at i;unfold yv at G;have I:(xs.take i).length=i:=by rw[EE];omega
    refine Nv ?_;refine .p (A0.ia) ?_;refine .p (rL n) ?_;refine .r rfl ?_;refine Nv ?_;refine .a 4 (.int .i64 (s * xs.getD i 0)) rfl (by rw[Ab (by rcases B with rfl | rfl | rfl <;> omega) (by rcases B with rfl | rfl | rfl <;> omega)]) ?_;refine Af.aZ t (Gr (s * xs.getD i 0)) rfl rfl rfl rfl rfl rfl (fun _=>rfl) rfl rfl (by simp;omega) rfl m.size ?_;intro K g7 L C D _ _ _;refine A7 ?_;refine Ad.aO g7 AL ⟨D w m AO,?_⟩;have e1:xs.getD i 0=xs[i]:=by simp[Bd,k]
    rw[DA k,Ev];unfold LO;rw[Ev,<- e1];exact C
   ·rintro g w3 ⟨m,t⟩;rw[D5]at t;refine A7 ?_;exact Ad.aC A8 [_,_] rfl ⟨rfl,rfl,trivial⟩ ⟨m,.inr ⟨o,g,rfl,t.mono BI⟩⟩
variable {vs:List Value}{its:List DF}
def Fb (w:World) (us:List Value) (its:List DF):Prop:=us.length=its.length/\∀ (i:Nat) (u:Value) (it:DF),us[i]?=some u->its[i]?=some it->JH w u it
theorem Fb.ext {w:World}(h:Fb w us its) (e:Ac w w'):Fb w' us its:=⟨h.1,fun i u it c d=>(h.2 i u it c d).ext e⟩
theorem Fb.kp {w:World}(h:Fb w us its) (e:Kp t base w w') (j:2≠t):Fb w' us its:=⟨h.1,fun i u it c d=>by obtain⟨xv,hu,g⟩:=h.2 i u it c d;exact⟨xv,hu,e.lo g j⟩⟩
theorem Fb.nil (w:World):Fb w [] []:=⟨rfl,fun i u it h _=>by simp at h⟩
theorem Fb.single {w:World}(h:JH w u it):Fb w [u] [it]:=⟨rfl,fun i v e c d=>by
 cases i with
 | zero=>simp at c d;rw[<- c,<- d];exact h
 | succ i=>simp at c⟩
theorem Fb.append {w:World}{jts:List DF}(h:Fb w us its) (k:Fb w vs jts):Fb w (us++vs) (its++jts):=by
 refine⟨by rw[Bf,Bf,h.1,k.1],fun i u it c d=>?_⟩;by_cases e:i<us.length
 ·rw[BM e]at c;rw[BM (by rw[<- h.1];exact e)]at d;exact h.2 i u it c d
 ·rw[Es oo]at c;rw[Es (by rw[<- h.1];omega),<- h.1]at d;exact k.2 _ u it c d
theorem Fb.take {w:World}(h:Fb w us its) (k:Nat):Fb w (us.take k) (its.take k):=by refine⟨by rw[EE,EE,h.1],fun i u it c d=>?_⟩;have e:=(Au.1 c).1;rw[EE]at e;rw[Dz oo]at c d;exact h.2 i u it c d
theorem Fb.drop {w:World}(h:Fb w us its) (k:Nat):Fb w (us.drop k) (its.drop k):=by refine⟨by rw[Jy,Jy,h.1],fun i u it c d=>?_⟩;rw[Jt]at c d;exact h.2 _ u it c d
def FU (base:Nat) (w:World) (v:Value) (its:List DF):Prop:=∃ us,Aq 2 128 base w v us/\Fb w us its
theorem FU.ext {w:World}{v:Value}(h:FU base w v its) (c:Ac w w'):FU base w' v its:=by obtain⟨us,d,e⟩:=h;exact⟨us,d.ext c,e.ext c⟩
theorem FU.mono {w:World}{v:Value}(h:FU base w v its) (e:b2<=base):FU b2 w v its:=by obtain⟨us,c,d⟩:=h;exact⟨us,c.mono e,d⟩
theorem FU.nil (base:Nat) (w:World):FU base w (.slice none 0 0) []:=⟨[],Aq.nil,Fb.nil w⟩
theorem FU.len {w:World}{v:Value}(h:FU base w v its):∃ p cap,v=.slice p its.length cap:=by obtain⟨us,c,d⟩:=h;obtain⟨p,cap,e⟩:=c.len;exact⟨p,cap,by rw[e,d.1]⟩
theorem FU.at {w:World}{v:Value}(h:FU base w v its) (k:its[i]?=some it):∃ a cap xv,v=.slice (some a) its.length cap/\LO 0 w xv it.2/\∀ (j:Nat) (c:Value),[Value.int .i64 it.1,xv][j]?=some c->w.cell? ((a.add (2 * i)).add j)=some c:=by
 obtain⟨us,g,d⟩:=h;have q:=(Au.1 k).1;have hu:us[i]?=some (us[i]'(by rw[d.1];exact q)):=by simp
 obtain⟨xv,e,l⟩:=d.2 i _ it hu k;rw[e]at hu;obtain⟨a,cap,ev,m⟩:=g.cells.at g.1 hu;refine⟨a,cap,xv,by rw[ev,d.1],l,fun j c o=>?_⟩;rw[Addr.add_add];refine m j c ?_;rw[JH.cells l];exact o
theorem JH.cel {w:World}{n:Int}{xs:List Int}(h:LO 0 w xv xs):Y1 2 (.agg #[.int .i64 n,xv]):=by obtain⟨p,cap,rfl⟩:=h.len;exact .inr ⟨rfl,_,_,rfl,rfl,rfl⟩
theorem A5K {w:World}{v:Value}(h:FU 0 w v its) (k:JH w u it) (hl:its.length<=200000) (V:∀ z ∈ its,z.2.length<=1000) (X:it.2.length<=1000) :
  Calls prog 230 #[v,u] w (AJ fun x w'=>Ac w w'/\FU 0 w' x (OG its it)):=by
 obtain⟨p,cap,e⟩:=h.len;subst e;obtain⟨xv,rfl,F⟩:=k;have hc:=JH.cells (n:=it.1) F;refine cS func230 ntmps230 ?_;refine Nv ?_;refine .s (oB) ?_;rintro _ w1 ⟨rfl,B1,E,hq⟩;rw[hc]at B1;refine .r rfl ?_;refine Nv ?_;refine .r rfl ?_;refine Af.nil (Ad.ak ?_);refine St.cut (fun i:Nat=>[(0,.slice p its.length cap),(3,.pointer (some ⟨w.heap.size,0,none⟩)),(5,.int .i64 i)]) (fun i w'=>Ac w1 w'/\i<=its.length/\R0 (fun y=>Jp y it) its=i) ?_ ?_
 ·refine St.block ?_;refine St.loop (α:=Nat) (fun i=>[(5,.int .i64 i),(0,.slice p its.length cap),(3,.pointer (some ⟨w.heap.size,0,none⟩))]) (fun i w'=>Ac w1 w'/\i<=its.length/\∀ (j:Nat) (y:DF),j<i->its[j]?=some y->Jp y it) (fun i=>its.length - i) 0 AL ⟨Ac.refl _,Cu _,fun j y D=>by omega⟩ ?_;rintro i w2 ⟨g,B,K⟩;have l:=E.trans g;by_cases N:i<its.length
  ·have t:its[i]?=some its[i]:=by simp[N]
   generalize its[i]=y at t;have Q:=V y (Bi t);obtain⟨a,_,yv,e1,R,M⟩:=(h.ext l).at t;cases e1;refine Nv ?_;refine sF 10 ?_;refine FL.as A8 4 (.bool true) rfl (Aa oo) ?_;refine .q ?_;refine .on (fun _ _=>rK N) ?_;refine .on (fun _ m=>A0.aB A8 rfl rfl rfl rfl (fun j c D=>m.aq.cell (M j c D))) ?_;refine FL.aA (L:=[]) A8 rfl rfl rfl rfl rfl rfl (B1.ext g) sm AO rfl ?_;refine FL.aG rfl ?_;rintro w3 d _ _;refine .s (Av.call Sq rfl (Xn (a:=y) (b:=it) ⟨yv,rfl,R.ext d⟩ ⟨xv,rfl,F.ext (l.trans d)⟩ Q X)) ?_;rintro _ J ⟨I,rfl⟩;by_cases f:Jp y it
   ·rw[decide_eq_true f];refine A7 ?_;refine .cT ?_;refine Nv ?_;refine .a 2 (.int .i64 ((i+1:Nat):Int)) rfl (Bv oo) ?_;refine A7 ?_;refine Ad.again (i+1) AL ⟨(g.trans d).trans I,by omega,fun j z D A=>?_⟩ (by show its.length - (i+1)<its.length - i;omega);by_cases e:j=i
    ·rw[e,t]at A;cases A;exact f
    ·exact K j z oo A
   ·rw[decide_eq_false f];refine A7 ?_;refine .cF ?_;refine Nv ?_;exact Ad.met i AL ⟨(g.trans d).trans I,B,R3 K B (fun z A=>by rw[t]at A;cases A;exact f)⟩
  ·refine Nv ?_;refine sF 10 ?_;refine FL.as A8 4 (.bool false) rfl (A9 oo) ?_;refine .q ?_;refine FL.aG rfl ?_;rintro w3 d _ _;refine A7 ?_;refine .cF ?_;refine Nv ?_;exact Ad.met i AL ⟨g.trans d,B,R3 K B (fun z A=>by have:=(Au.1 A).1;omega)⟩
 ·rintro i w2 ⟨g,N,hh⟩;have l:=E.trans g;have hB:=B1.ext g;have o:OG its it=(match its[i]? with | some y=>if Jp it y then Lp its i it else its | none=>Lp its i it):=by unfold OG;rewrite [hh];rfl
  refine St.cut (fun _:Unit=>[(0,.slice p its.length cap),(3,.pointer (some ⟨w.heap.size,0,none⟩)),(5,.int .i64 i)]) (fun _ w'=>Ac w1 w'/\OG its it=Lp its i it) ?_ ?_
  ·by_cases W:i<its.length
   ·have t:its[i]?=some its[i]:=by simp[W]
    generalize its[i]=y at t;have Q:=V y (Bi t);obtain⟨a,_,yv,e1,R,M⟩:=(h.ext l).at t;cases e1;rw[t]at o;dsimp only at o;refine Nv ?_;refine sF 10 ?_;refine FL.as A8 4 (.bool true) rfl (Aa oo) ?_;refine .q ?_;refine FL.aA (L:=[]) A8 rfl rfl rfl rfl rfl rfl hB sm AO rfl ?_;refine .q ?_;refine .on (fun _ _=>rK W) ?_;refine .on (fun _ m=>A0.aB A8 rfl rfl rfl rfl (fun j c D=>m.aq.cell (M j c D))) ?_;refine FL.aG rfl ?_;rintro w3 d _ _;refine .s (Av.call Sq rfl (Xn (a:=it) (b:=y) ⟨xv,rfl,F.ext (l.trans d)⟩ ⟨yv,rfl,R.ext d⟩ X Q)) ?_;rintro _ J ⟨I,rfl⟩;have O:=(g.trans d).trans I;by_cases f:Jp it y
    ·rw[decide_eq_true f];rw[if_pos f]at o;refine A7 ?_;refine .cF ?_;refine Nv ?_;exact Ad.met () AL ⟨O,o⟩
    ·rw[decide_eq_false f];rw[if_neg f]at o;refine A7 ?_;refine .ct ?_;exact uR ⟨E.trans O,by rw[o];exact h.ext (E.trans O)⟩
   ·rw[BJ oo]at o;dsimp only at o;refine Nv ?_;refine sF 10 ?_;refine FL.as A8 4 (.bool false) rfl (A9 oo) ?_;refine .q ?_;refine FL.aG rfl ?_;rintro w3 d _ _;refine A7 ?_;refine .cF ?_;refine Nv ?_;exact Ad.met () AL ⟨g.trans d,o⟩
  ·clear o hB l g w2;rintro _ w2 ⟨g,hg⟩;have l:=E.trans g;rw[hg];obtain⟨us,m,G⟩:=h.ext l;have hk:=G.1;have hp:its.length<=cap:=by obtain⟨_,_,e,B,_⟩:=m.cells;simp only[Ci]at e;omega
   refine A7 ?_;refine .p (A0.bp A8 rfl rfl rfl rfl oo oo) ?_;refine .s (Av.cV (k:=2) (base:=w2.heap.size) Aq.nil (m.cells.take (i:=i) oo) (fun u hu=>m.1 u (HU hu)) rfl rfl rfl rfl rfl rfl rfl (by simp;omega) rfl AO) ?_;rintro v6 w3 ⟨ha,hd,_⟩;have d:Ac w2 w3:=Lu hd;have hn:=G.ext d;refine A7 ?_;refine .p (A0.aA A8 rfl rfl rfl ((B1.ext g).ext d) (Ai 2) rfl) ?_;have hm:=F.ext (l.trans d);refine Af.aZ ha (JH.cel hm) rfl rfl rfl rfl rfl rfl (fun _=>rfl) rfl rfl (by simp;omega) rfl d.size ?_;intro p7 v7 J S T Y _ _;have ho:Kp 128 w2.heap.size w3 J:=⟨T,fun t' b C h hf=>Y t' b C h (.inl hf)⟩;have P:Ac w2 J:=T w2 d AO;refine A7 ?_;refine .p (A0.bC A8 rfl rfl rfl rfl i rfl oo) ?_;have U:=(m.cells.ext P).drop (i:=i) m.1 oo;rw[hk]at U;refine .s (Av.cV (k:=2) S U (fun u hu=>m.1 u (NN hu)) rfl rfl rfl rfl rfl rfl rfl (by simp;omega) rfl P.size) ?_;rintro v8 w5 ⟨hb,he,_⟩;have Z:=J2 S he;have H:Ac w2 w5:=Z.ext0 w2 P AO;refine A7 ?_;refine uR ⟨l.trans H,_,hb.mono BI,?_⟩;unfold Lp;exact (((G.ext H).take i).append (Fb.single ⟨xv,rfl,F.ext (l.trans H)⟩)).append ((G.ext H).drop i)
def PS (f:Nat->Nat->Int):Nat->Int
 | 0=>0
 | i+1=>if f i i > PS f i then f i i else PS f i
theorem A5L {f:Nat->Nat->Int}:∀ {n i:Nat},i<n->f i i<=PS f n
 | n+1,i,h=>by
  unfold PS
  by_cases e:i=n
  ·subst e
   split <;> omega
  ·have:=A5L (f:=f) (n:=n) (i:=i) oo
   split <;> omega
theorem YF {f:Nat->Nat->Int}{c:Int}(hc:0<=c):∀ {n:Nat},(∀ i,i<n->f i i<=c)->PS f n<=c
 | 0,_=>hc
 | n+1,h=>by
  unfold PS
  have h1:=h n oo
  have:=YF hc (n:=n) (fun i hi=>h i oo)
  split <;> omega
theorem VJ (f:Nat->Nat->Int):∀ n,0<=PS f n
 | 0=>Int.le_refl _
 | n+1=>by
  unfold PS
  have:=VJ f n
  split <;> omega
theorem P8 {w:World}{hv:Value}{n:Nat}{f:Nat->Nat->Int}(h:G8 w hv n f) (hn:n<=1000) :
  Calls prog 162 #[hv] w (AJ fun x w'=>Ac w w'/\x=.int .i64 (PS f n)):=by
 have hM:=h
 obtain⟨a,cap,rfl,hcap,_⟩:=h
 refine Sj (args:=[_]) func162 rfl ntmps162 rfl ?_
 refine A7 ?_
 refine St.rngG A8 (7) (0) (n) oo (fun g:Int=>[(3,.int .i64 g),(0,.slice (some a) n cap),(5,.slice (some a) n cap),(6,.int .i64 n)]) (fun i g w'=>Ac w w'/\g=PS f i) (0) AL ?_ (fun _ _=>⟨rfl,rfl⟩) (fun _ _=>rfl) (fun _ _=>⟨rfl,rfl⟩) (fun _=>rfl) (fun _=>rfl) oo ?_ ?_
 ·exact⟨Ac.refl _,rfl⟩
 ·rintro i g w2 hi ⟨hx2,hg⟩
  obtain⟨_,_,e,_,hA⟩:=hM.ext hx2
  cases e
  obtain⟨b,c,hr,hc,hce⟩:=hA i hi
  refine A7 ?_
  refine .p (A0.ia) ?_
  refine .p (A0.load A8 rfl rfl rfl hr) ?_
  refine .r rfl ?_
  refine .p (A0.ia) ?_
  refine .p (A0.load A8 rfl rfl rfl (hce i hi)) ?_
  refine .r rfl ?_
  by_cases h1:f i i > g
  ·refine .a 1 (.bool true) rfl (Aa h1) ?_
   refine A7 ?_
   refine .ct ?_
   refine .p (A0.ia) ?_
   refine .p (A0.load A8 rfl rfl rfl hr) ?_
   refine .r rfl ?_
   refine .p (A0.ia) ?_
   refine .p (A0.load A8 rfl rfl rfl (hce i hi)) ?_
   refine A7 ?_
   exact Ad.aO (f i i) AL ⟨hx2,by unfold PS;rw[<- hg,if_pos h1]⟩
  ·refine .a 1 (.bool false) rfl (A9 h1) ?_
   refine A7 ?_
   refine .cF ?_
   refine Nv ?_
   exact Ad.aO g AL ⟨hx2,by unfold PS;rw[<- hg,if_neg h1]⟩
 ·rintro g w2 ⟨hx2,hg⟩
  subst hg
  refine A7 ?_
  exact Ad.ax rfl rfl ⟨hx2,rfl⟩
theorem YG {n:Nat}{f:Nat->Nat->Int}{ys:List Int}{B:Int}(h:BQ n f) (hn:n<=8) (hl:ys.length<=n) (hB:0<=B/\B<=1000000) (hre:0<=HO f n B ys):EA ys:=by
 have hb:=FR h hn (R:=134217728) hB.1 oo ys hl hre
 have hp:(2:Nat) ^ ys.length<=2 ^ 8:=Nat.pow_le_pow_right de oo
 have:=Nat.mul_le_mul_left 134217728 hp
 have e8:(2:Nat) ^ 8=256:=by decide
 intro y hy
 have:=A5q hy
 omega
def A0h (f:Nat->Nat->Int) (n:Nat) (z:List Int):DF:=(IJ f n z,z)
def VK (n:Nat) (f:Nat->Nat->Int) (B:Int) (j:Nat):Prop:=∀ (ys:List Int) (its:List DF) (base:Nat) (w0 w:World) (x tv out:Value),ys.length+j=n->LO 0 w tv ys->Ac w0 w->w0.heap.size=base->FrV w0 x n f->FU base w out its->its.length+(Gs f n B j ys).length<=1000000->0<=HO f n B ys ->
 Calls prog 82 #[x,.int .i64 B,tv,out] w (AJ fun r w'=>Kp 128 base w w'/\FU base w' r (its++(Gs f n B j ys).map (A0h f n)))
theorem SN {n:Nat}{f:Nat->Nat->Int}{B:Int}(hR:BQ n f) (hn:1<=n/\n<=8) (hB:0<=B/\B<=1000000) {j:Nat}(ih:∀ j',j=j'+1->1<=j->VK n f B j):VK n f B (j+1):=by
 intro ys its base w0 w x tv out hyj hL hx0 hb0 hF0 hI hcnt hre
 have hl:ys.length<n:=by omega
 have hF:=hF0.ext hx0
 have hT:=YG hR hn.2 oo hB hre
 obtain⟨hT64,blo,bhi⟩:=A0b hR hn.2 hl (show 0<=B/\B<=4611686018427387904 by omega) hre
 have hsq0:0<=GH f n B ys:=(HG hR B).1 hre
 have hhl:Cc f n B ys<=Ct f n B ys+1:=Xc hR
 obtain⟨aS,cS,bm,om,cm,ex,_,_⟩:=hF.open hn.1
 subst ex
 obtain⟨px,cx,et⟩:=hL.l64.len
 subst et
 refine Sj (args:=[_,_,_,_]) func82 rfl ntmps82 rfl ?_
 refine Nv ?_
 refine .s (Av.box rfl) ?_
 rintro _ w1 ⟨rfl,B4,hx1,hz1⟩
 replace B4:Aj 124 w1 w.heap.size [.int .i64 n,.slice (some aS) n cS,.slice (some ⟨bm,om,none⟩) (n+1) cm]:=B4
 refine A7 ?_
 refine .p (A0.aA A8 rfl rfl rfl B4 (Nat.le_refl 3) rfl) ?_
 refine .r rfl ?_
 refine .s (Av.call HM rfl (K8 (hF.ext hx1) (hL.l64.ext hx1) hl hn hR hT64 oo hsq0)) ?_
 rintro _ w2 ⟨hx2,rfl⟩
 rw[Uj blo,Uj bhi]
 have hx02:=hx1.trans hx2
 replace B4:=B4.ext hx2
 refine A7 ?_
 refine St.loop (α:=Int×Value) (fun g=>[(11,.int .i64 g.1),(3,g.2),(1,.int .i64 B),(2,.slice px ys.length cx),(4,.pointer (some ⟨w.heap.size,0,none⟩)),(10,.int .i64 (Ct f n B ys))])
  (fun g w'=>Kp 128 base w2 w'/\Cc f n B ys<=g.1/\g.1<=Ct f n B ys+1/\FU base w' g.2 (its++(JG (fun x=>Gs f n B j (x::ys)) (g.1 - Cc f n B ys).toNat (Cc f n B ys)).map (A0h f n))) (fun g=>(Ct f n B ys+1 - g.1).toNat) (Cc f n B ys,out) AL
  ⟨Kp.refl _ _ _,Int.le_refl _,hhl,by dsimp only;rw[Int.sub_self];show FU base w2 out (its++[]);rw[List.append_nil];exact hI.ext hx02⟩ ?_
 rintro⟨c,g⟩ w3 ⟨hK,hc1,hc2,hO⟩
 dsimp only at hc1 hc2 hO ⊢
 have hX3:Ac w0 w3:=hK.ext0 w0 (hx0.trans hx02) oo
 have hL3:=hK.lo (hL.ext hx02) de
 have B43:=hK.typed _ _ _ B4 de
 by_cases hc:c<=Ct f n B ys
 ·have hre2:0<=HO f n B (c::ys):=(NA hR hl hsq0 c).1 ⟨hc1,hc⟩
  have hTc:=YG hR hn.2 (show (c::ys).length<=n by rw[List.length_cons];omega) hB hre2
  obtain⟨i,hi⟩:∃ i:Nat,c=Cc f n B ys+i:=⟨(c - Cc f n B ys).toNat,by omega⟩
  have hsnoc:JG (fun x=>Gs f n B j (x::ys)) (c+1 - Cc f n B ys).toNat (Cc f n B ys)=JG (fun x=>Gs f n B j (x::ys)) (c - Cc f n B ys).toNat (Cc f n B ys)++Gs f n B j (c::ys):=by
   rw[show (c+1 - Cc f n B ys).toNat=(c - Cc f n B ys).toNat+1 by omega,NE,show Cc f n B ys+(((c - Cc f n B ys).toNat:Nat):Int)=c by omega]
  have hpart:(JG (fun x=>Gs f n B j (x::ys)) (c - Cc f n B ys).toNat (Cc f n B ys)).length+(Gs f n B j (c::ys)).length<=(Gs f n B (j+1) ys).length:=by
   have hcn:(CY f n B ys).toNat=(c - Cc f n B ys).toNat+1+(Ct f n B ys - c).toNat:=by unfold CY;omega
   have e:∀ (a b:Nat) (y:Int),(JG (fun x=>Gs f n B j (x::ys)) a y).length<=(JG (fun x=>Gs f n B j (x::ys)) (a+b) y).length:=by
    intro a b y
    induction b with
    | zero=>exact Nat.le_refl _
    | succ b ihb=>rw[<- Nat.add_assoc,NE,List.length_append];omega
   have h1:=e ((c - Cc f n B ys).toNat+1) (Ct f n B ys - c).toNat (Cc f n B ys)
   rw[<- hcn,NE,List.length_append,show Cc f n B ys+(((c - Cc f n B ys).toNat:Nat):Int)=c by omega]at h1
   exact h1
  rw[show (Gs f n B (j+1) ys)=JG (fun x=>Gs f n B j (x::ys)) (CY f n B ys).toNat (Cc f n B ys) from rfl]at hcnt hpart
  refine Nv ?_
  refine .a 3 (.bool true) rfl (Aa hc) ?_
  refine A7 ?_
  refine .ct ?_
  refine .s (Av.call OK rfl (QM (x:=c) hL3.l64 oo)) ?_
  rintro yv w4 ⟨hx4,hY⟩
  have hK4:=hK.trans (hx4.kp (t:=128) (base:=base))
  obtain⟨py,cy,rfl⟩:=hY.l64.len
  replace hY:LO 0 w4 (.slice py (c::ys).length cy) (c::ys):=hY.mono BI
  have B44:=B43.ext hx4
  have hX4:=hX3.trans hx4
  refine A7 ?_
  refine .p FW ?_
  by_cases hj:j=0
  ·subst hj
   have hfull:(c::ys).length=n:=by rw[List.length_cons];omega
   refine .a 1 (.bool false) rfl (A9 (by rw[hfull];omega)) ?_
   refine A7 ?_
   refine .cf ?_
   refine .p (A0.aA A8 rfl rfl rfl B44 (Nat.le_refl 3) rfl) ?_
   refine .r rfl ?_
   refine .s (Av.call MV rfl (QN (hF0.ext hX4) hY.l64 oo hn hR hTc)) ?_
   rintro r w5 ⟨hx5,hr⟩
   have hsc0:=RZ hR (c::ys) oo
   have hscB:IJ f n (c::ys)<=B:=by rw[QZ hfull]at hre2;omega
   have hq:pnQ f n (c::ys)=((IJ f n (c::ys):Int):Rat):=by
    unfold pnQ
    rw[hfull,Nat.sub_self,Nz,Rat.divInt_eq_div]
    show _ / (1:Rat)=_
    grind
   rw[hq]at hr
   have hnum:Ao 0 w5 (nm r) (IJ f n (c::ys)):=hr.2.1
   refine .p (A0.fieldN rfl rfl hr.1) ?_
   refine .s (Av.call JB rfl (Oh (hnum.dn (by have:=Bn (a:=IJ f n (c::ys)) oo oo;omega)))) ?_
   rintro _ w6 ⟨hx6,rfl⟩
   rw[show Je (IJ f n (c::ys))=.tuple #[.int .i64 (IJ f n (c::ys)),.bool true] from if_pos oo]
   have hx46:=hx5.trans hx6
   have hK6:=hK4.trans (hx46.kp (t:=128) (base:=base))
   refine A7 ?_
   refine .p (A0.build A8 rfl rfl rfl rfl) ?_
   obtain⟨us,hR6,hI6⟩:=hO.ext (hx4.trans hx46)
   have hul:=hI6.1
   rw[List.length_append,List.length_map]at hul
   have hX6:=hX4.trans hx46
   refine Af.aZ hR6 (JH.cel (n:=IJ f n (c::ys)) (hY.ext hx46)) rfl rfl rfl rfl rfl rfl (fun _=>rfl) rfl rfl oo rfl (by have:=hX6.size;omega) ?_
   intro p7 v7 w7 hR7 hX7 hB7 _ _
   have hK7:Kp 128 base w6 w7:=⟨hX7,fun t' b C h hne=>hB7 t' b C h (.inl hne)⟩
   refine .r rfl ?_
   refine Nv ?_
   refine .a 2 (.int .i64 (c+1)) rfl (by rw[Ab oo oo]) ?_
   refine A7 ?_
   refine Ad.again (c+1,v7) AL ⟨hK6.trans hK7,by show _<=c+1;omega,by show c+1<=_;omega,?_⟩ (by show (Ct f n B ys+1 - (c+1)).toNat<(Ct f n B ys+1 - c).toNat;omega)
   dsimp only
   rw[hsnoc,List.map_append,<- List.append_assoc]
   exact⟨_,hR7,(hI6.kp hK7 de).append (Fb.single ⟨_,rfl,hK7.lo (hY.ext hx46) de⟩)⟩
  ·refine .a 1 (.bool true) rfl (Aa (by rw[List.length_cons];omega)) ?_
   obtain⟨j',rfl⟩:∃ j',j=j'+1:=⟨j - 1,by omega⟩
   refine A7 ?_
   refine .ct ?_
   refine .p (A0.aA A8 rfl rfl rfl B44 (Nat.le_refl 3) rfl) ?_
   refine .r rfl ?_
   refine .s (Av.call Ge rfl (ih j' rfl oo (c::ys) _ base w0 w4 _ _ _ (by rw[List.length_cons];omega) hY hX4 hb0 hF0 (hO.ext hx4) (by rw[List.length_append,List.length_map];omega) hre2)) ?_
   rintro g5 w5 ⟨hK5,hO5⟩
   refine .r rfl ?_
   refine Nv ?_
   refine .a 2 (.int .i64 (c+1)) rfl (by rw[Ab oo oo]) ?_
   refine A7 ?_
   refine Ad.again (c+1,g5) AL ⟨hK4.trans hK5,by show _<=c+1;omega,by show c+1<=_;omega,?_⟩ (by show (Ct f n B ys+1 - (c+1)).toNat<(Ct f n B ys+1 - c).toNat;omega)
   dsimp only
   rw[hsnoc,List.map_append,<- List.append_assoc]
   exact hO5
 ·refine Nv ?_
  refine .a 3 (.bool false) rfl (A9 hc) ?_
  refine A7 ?_
  refine .cf ?_
  refine Ad.ax rfl rfl ⟨(hx02.kp (t:=128) (base:=base)).trans hK,?_⟩
  rw[show c=Ct f n B ys+1 by omega,show (Ct f n B ys+1 - Cc f n B ys).toNat=(CY f n B ys).toNat by unfold CY;omega]at hO
  exact hO
theorem SP {n:Nat}{f:Nat->Nat->Int}{B:Int}(hR:BQ n f) (hn:1<=n/\n<=8) (hB:0<=B/\B<=1000000):∀ j,VK n f B (j+1):=by
 intro j
 induction j with
 | zero=>exact SN hR hn hB (fun j' e h1=>by omega)
 | succ j ihj=>exact SN hR hn hB (fun j' e h1=>ihj)
variable {M:List (List Int)}{hv:Value}
theorem VL (x:DF):∀ (t l:List DF),Jq l (t++[x])=if MJ x.2=1 then OG (Jq l t) x else Jq l t
 | [],l=>rfl
 | y::t,l=>by show Jq (if MJ y.2=1 then OG l y else l) (t++[x])=_;rw[VL x t];rfl
def Sb (f:Nat->Nat->Int) (n:Nat) (B:Int):List DF:=(Gs f n B n []).map (A0h f n)
theorem Ow (f:Nat->Nat->Int) (n:Nat) (B:Int):(Sb f n B).length=(Gs f n B n []).length:=by simp[Sb]
theorem R5 (h:BQ n f) (hB:0<=B) (c:it ∈ Sb f n B):it.2.length=n/\it.1=IJ f n it.2/\IJ f n it.2<=B:=by unfold Sb at c;obtain⟨z,g,rfl⟩:=CG.1 c;obtain⟨d,e⟩:=(Uk h hB z).1 g;exact⟨d,rfl,e⟩
theorem A1X (h:BQ n f) (e:n<=8) (hB:0<=B/\B<=1000000) (d:it ∈ Sb f n B):EA it.2:=by obtain⟨c,_,g⟩:=R5 h hB.1 d;exact YG h e oo hB (by rw[QZ c];omega)
def itI (f:Nat->Nat->Int) (n:Nat) (B:Int):List DF:=Jq [] (Sb f n B)
theorem A7i {xs:List Int}(d:MJ xs≠0):J0 xs (xs.map (fun z=>MJ xs * z))=0↔MJ xs=1:=by
 rcases YE xs with h | h | h
 ·rw[h];have e:xs.map (fun z=>-1 * z)=YZ xs:=by unfold YZ;congr 1;funext z;omega
  rw[e];refine⟨fun c=>?_,fun c=>by omega⟩;have g:=A5C xs;rw[<- YD c]at g;omega
 ·exact absurd h d
 ·rw[h];refine⟨fun _=>rfl,fun _=>?_⟩;rw[A7h];exact Xh xs
theorem VN {w:World}(h:Ft w hv M) (f:Ie M) (hB:0<=B/\B<=1000000) (hk:(Gs (ent M) M.length B M.length []).length<=100000) :
  Calls prog 201 #[hv,.int .i64 B] w (AJ fun x w'=>Ac w w'/\FU 0 w' x (itI (ent M) M.length B)):=by
 have d:=f.bq.1;have F:1<=M.length/\M.length<=8:=⟨f.1.1,f.2.2.1⟩;have V:=f.mk;have S:Ft w hv (mk M.length M.length (ent M)):=by rw[<- V];exact h
 have H:=fun (it:DF) (D:it ∈ Sb (ent M) M.length B)=>R5 d hB.1 D;have R:=fun (it:DF) (D:it ∈ Sb (ent M) M.length B)=>A1X d F.2 hB D;have hh:=Ow (ent M) M.length B;have W:0<=HO (ent M) M.length B []:=(HG d B).2 (A1V d hB.1);obtain⟨j,E⟩:∃ j,M.length=j+1:=⟨M.length - 1,by omega⟩;unfold itI;refine cS func201 ntmps201 ?_;refine A7 ?_;refine .s (oK Rp (Mk S F d)) ?_;rintro fr w1 ⟨hb,P⟩;refine .r rfl ?_;refine .s (Av.call Ge rfl (SP d F hB j [] [] w1.heap.size w1 w1 _ _ _ (by rw[E];simp) Aq.nil (Ac.refl _) rfl P (FU.nil _ _) (by rw[<- E];simp;omega) W)) ?_;rintro L w2 ⟨Q,m⟩;have Z:=hb.trans Q.ext;rw[HX,<- E]at m;replace m:FU 0 w2 L (Sb (ent M) M.length B):=m.mono BI;generalize Sb (ent M) M.length B=its at *
 obtain⟨p,cap,rfl⟩:=m.len;refine A7 ?_;refine sG (15) (0) (its.length) (fun g:Value=>[(5,g),(13,.slice p its.length cap),(14,.int .i64 its.length)]) (fun i g w'=>Ac w2 w'/\FU 0 w' g (Jq [] (its.take i))) (.slice none 0 0) ?_ ?_ ?_
 ·exact⟨Ac.refl _,FU.nil _ _⟩
 ·rintro i g w3 C ⟨l,k⟩;have G:its[i]?=some its[i]:=by simp[C]
  have X:its.take (i+1)=its.take i++[its[i]]:=by rw[DA C]
  have c:=VL its[i] (its.take i) [];rw[<- X]at c;generalize its[i]=y at G c;have N:=Bi G;obtain⟨hl,_,_⟩:=H y N;have he:=R y N;obtain⟨a,_,yv,e1,v,U⟩:=(m.ext l).at G;cases e1;refine A7 ?_;refine .p (rK C) ?_;refine .p (A0.aB A8 rfl rfl rfl rfl U) ?_;refine .s (oA) ?_;rintro _ w4 ⟨rfl,B7,hc,hm⟩;refine Af.step0 rfl rfl (Av.store A8 (vs:=[.int .i64 y.1,yv]) rfl rfl rfl (JH.cells v) rfl B7 (Ai 2) (by obtain⟨_,_,rfl⟩:=v.len;simp[Value.oneCell'])) ?_;rintro _ O ⟨n,Y⟩;have o:Ac w3 O:=hc.aj Y AO;replace n:Aj 128 O w3.heap.size [.int .i64 y.1,yv]:=n;have ha:=l.trans o;refine A7 ?_;refine .p FW ?_;refine .s (oK MY (PN (v.l64.ext o) oo he)) ?_;rintro _ w6 ⟨u,⟨A,rfl⟩ | ⟨A,yy,rfl,hf⟩⟩
  ·refine A7 ?_;refine .cF ?_;refine Nv ?_;rw[A,if_neg de]at c;exact Ad.aO g AL ⟨ha.trans u,by rw[c];exact k.ext (o.trans u)⟩
  ·refine A7 ?_;refine .p FW ?_;refine .r rfl ?_;refine .s (oK JX (Mp (v.l64.ext (o.trans u)) hf.l64 oo (by rw[Bj];omega))) ?_;rintro _ w7 ⟨K,rfl⟩;have q:=(o.trans u).trans K;have J:=A7i A;by_cases b:MJ y.2=1
   ·refine .a 1 (.bool true) rfl (by rw[J.2 b];rfl) ?_;rw[if_pos b]at c;refine A7 ?_;refine .ct ?_;refine .p (A0.aA A8 rfl rfl rfl (n.ext (u.trans K)) (Ai 2) rfl) ?_;have I:=Lr (its.take i) [];rw[EE]at I;simp only[Fj]at I;have hg:∀ z ∈ Jq [] (its.take i),z.2.length<=1000:=fun z t=>by
     rcases Ou t with t | ⟨t,_⟩
     ·cases t
     ·have:=(H z (HU t)).1;omega
    refine .s (Av.call A0J rfl (A5K (it:=y) (k.ext q) ⟨yv,rfl,v.ext q⟩ oo hg oo)) ?_;rintro g8 w8 ⟨hd,T⟩;refine A7 ?_;exact Ad.aO g8 AL ⟨(l.trans q).trans hd,by rw[c];exact T⟩
   ·refine .a 1 (.bool false) rfl (by rw[beq_eq_false_iff_ne.2 (fun e=>b (J.1 e))]) ?_;rw[if_neg b]at c;refine A7 ?_;refine .cF ?_;refine Nv ?_;exact Ad.aO g AL ⟨l.trans q,by rw[c];exact k.ext q⟩
 ·rintro g w3 ⟨l,k⟩;rw[D5]at k;refine A7 ?_;exact uR ⟨Z.trans l,k⟩
theorem WB {w:World}{v:Value}(h:FU 0 w v its) (x:its.length<=200000) :
  Calls prog 200 #[v] w (AJ fun _ w'=>Ac w w'):=by
 obtain⟨p,cap,rfl⟩:=h.len;refine cS func200 ntmps200 ?_;refine A7 ?_;refine sG (8) (0) (its.length) (fun g:Value=>[(3,g),(6,.slice p its.length cap),(7,.int .i64 its.length)]) (fun i g w'=>Ac w w'/\∃ us,Aq 1 33 w.heap.size w' g us/\us.length=i) (.slice none 0 0) ?_ ?_ ?_
 ·exact⟨Ac.refl _,[],Aq.nil,rfl⟩
 ·rintro i g w3 k ⟨c,us,j,b⟩;have o:its[i]?=some its[i]:=by simp[k]
  generalize its[i]=y at o;obtain⟨a,_,yv,e1,d,z⟩:=(h.ext c).at o;cases e1;refine A7 ?_;refine .p (rK k) ?_;refine .p (A0.aB A8 rfl rfl rfl rfl z) ?_;refine .s (oA) ?_;rintro _ C ⟨rfl,B7,f,A⟩;refine Af.step0 rfl rfl (Av.store A8 (vs:=[.int .i64 y.1,yv]) rfl rfl rfl (JH.cells d) rfl B7 (Ai 2) (by obtain⟨_,_,rfl⟩:=d.len;simp[Value.oneCell'])) ?_;rintro _ q ⟨e,t⟩;have m:Ac w3 q:=f.aj t AO;replace e:Aj 128 q w3.heap.size [.int .i64 y.1,yv]:=e;have l:=c.trans m;refine A7 ?_;refine .p FW ?_;refine Af.aZ (j.ext m) (.inl ⟨rfl,d.one⟩) rfl rfl rfl rfl rfl rfl (fun _=>rfl) rfl rfl oo rfl l.size ?_;intro B n D r u _ _ _;refine A7 ?_;exact Ad.aO n AL ⟨u w l AO,_,r,by simp;omega⟩
 ·rintro g w3 ⟨c,us,j,b⟩;refine A7 ?_;exact uR c
theorem A1Y {w:World}{v:Value}{xs:List Int}(h:Nh w v xs) (l:xs.length<=1000000) :
  Calls prog 202 #[v] w (AJ fun _ w'=>Ac w w'):=by
 obtain⟨p,c,e⟩:=h.len;subst e;refine cS func202 ntmps202 ?_;refine A7 ?_;refine sG (8) (0) (xs.length) (fun g:Int=>[(3,.int .i64 g),(6,.slice p xs.length c),(7,.int .i64 xs.length)]) (fun i g w'=>Ac w w') (0) ?_ ?_ ?_
 ·exact Ac.refl _
 ·rintro i g w3 k d;obtain⟨aa,_,e1,j⟩:=(h.ext d).cell k;cases e1;refine Nv ?_;refine .p (A0.ia) ?_;refine .p (rL j) ?_;refine A7 ?_;exact Ad.aO _ AL d
 ·rintro g w3 d;refine A7 ?_;exact uR d
theorem A7j (n i:Nat):yv (List.replicate n 0) i=0:=by unfold yv;rw[Bd,TA];split <;> rfl
theorem A5N {l:List Int}(_hl:l.length=n) (h:∀ i,yv l i=yv (List.replicate n 0) i+exN f n B n [] i):∀ i,i<n->l.getD i 0=tlN f n B i []:=fun i d=>by have c:=h i;rw[A7j]at c;unfold exN at c;rw[if_pos ⟨by simp,by simpa using d⟩]at c;show yv l i=_;rw[c,Q6];rfl
theorem VO {w:World}{b:Int}(h:Ft w hv M) (C:Lj M) (d:Ie M) (hB:0<=B/\B<=1000000) (q:0<=b/\b<=100000) :
  Calls prog 161 #[hv,.int .i64 B,.int .i64 b] w (AJ fun x w'=>Ac w w'/\∃ u c e,x=.tuple #[u,c,.int .i64 e]/\(e=0->(Gs (ent M) M.length B M.length []).length<=8193)):=by
 have k:=d.bq.1;have P:1<=M.length/\M.length<=8:=⟨d.1.1,d.2.2.1⟩;have m:Fy B b:=⟨hB.1,by omega,q.1,by omega⟩;obtain⟨k1,k2⟩:=QX k B M.length [] sm (b,List.replicate M.length 0) q.1 sm;obtain⟨ph,ch,rfl⟩:=h.len;refine cS func161 ntmps161 ?_;refine A7 ?_;refine .s (oK Qh (SL h C)) ?_;rintro x w1 ⟨g,o⟩;rcases Gw b (P7 (ent M) M.length B M.length []) with hlt | hge
 ·obtain rfl:=o.2.2.1 d m (k1 hlt);refine A7 ?_;refine .ct ?_;exact Ad.aC A8 [_,_,_] rfl ⟨rfl,rfl,rfl,trivial⟩ ⟨g,_,_,9,rfl,fun e=>by cases e⟩
 ·obtain⟨s',H,_,i,J⟩:=k2 hge;obtain⟨a,rfl,l⟩:=o.2.2.2 d m s' H;have F:=A5N i J;have f:s'.2.length=M.length:=i;obtain⟨j,t⟩:∃ j,M.length=j+1:=⟨M.length - 1,by omega⟩;have y:=S4 k B j [];rw[<- t]at y;have G:=F j oo;obtain⟨aa,ca,e1,E⟩:=l.cell (j:=j) oo;subst e1;rw[f];have O:tlN (ent M) M.length B j []<=b:=by
   have L:=YB k B j [];have N:P7 (ent M) M.length B M.length []=P7 (ent M) M.length B j []+tlN (ent M) M.length B j []:=by rw[t];rfl
   omega
  refine A7 ?_;refine .cF ?_;refine Nv ?_;refine .a 4 (.int .i64 (j:Int)) rfl (by rw[Ab oo oo];congr 1;omega) ?_;refine .p (A0.ia) ?_;refine .p (rL E) ?_;rw[G,<- y];rw[f]at l;by_cases v:((Gs (ent M) M.length B M.length []).length:Int) > 8193
  ·refine .a 1 (.bool true) rfl (Aa v) ?_;refine A7 ?_;refine .ct ?_;exact Ad.aC A8 [_,_,_] rfl ⟨rfl,rfl,rfl,trivial⟩ ⟨g,_,_,7,rfl,fun e=>by cases e⟩
  ·refine .a 1 (.bool false) rfl (A9 v) ?_;refine A7 ?_;refine .cf ?_;refine .s (oK Qn (VN (h.ext g) d hB oo)) ?_;rintro I w2 ⟨n,D⟩;have z:=Lr (Sb (ent M) M.length B) [];rw[Ow]at z;refine .r rfl ?_;refine .s (oK UF (WB D (by unfold itI;simp only[Fj]at z;omega))) ?_;rintro V w3 A;refine .r rfl ?_;refine .s (oK A0I (A1Y ((l.ext n).ext A) oo)) ?_;rintro S Q K;refine A7 ?_;exact Ad.aC A8 [_,_,_] rfl ⟨rfl,rfl,rfl,trivial⟩ ⟨((g.trans n).trans A).trans K,_,_,0,rfl,fun _=>by omega⟩
variable {pool:List DF}
theorem Ao.typed {w:World}{v:Value}{a:Int}(h:Ao base w v a) (hB:∀ b C,Aj 109 w b C->Aj 109 w' b C):Ao base w' v a:=by
 obtain⟨p,cap,hv,c,d⟩:=h;refine⟨p,cap,hv,⟨⟨c.1,?_⟩,d⟩⟩;rcases c.2 with h0 | ⟨g,cap',cur,hv',hb,hg,r⟩
 ·exact .inl h0
 ·refine .inr ⟨g,cap',cur,hv',hb,?_,r⟩;have:=hB g cur.toList (by unfold Aj;simpa using hg);unfold Aj at this;simpa using this
theorem VP {w:World}{v:Value}(h:FU 0 w v its) (k:JH w u it) (hl:its.length<=200000) (U:∀ z ∈ its,z.2.length<=1000) (V:it.2.length<=1000) :
  Calls prog 203 #[v,u] w (AJ fun x w'=>Ac w w'/\FU 0 w' x (Sa its it)):=by
 obtain⟨p,cap,e⟩:=h.len;subst e;obtain⟨xv,rfl,B⟩:=k;have Q:=JH.cells (n:=it.1) B;refine cS func203 ntmps203 ?_;refine Nv ?_;refine .s (oB) ?_;rintro _ w1 ⟨rfl,B1,H,hf⟩;rw[Q]at B1;refine .r rfl ?_;refine Nv ?_;refine .r rfl ?_;refine Af.nil (Ad.ak ?_);refine St.cut (fun i:Nat=>[(0,.slice p its.length cap),(3,.pointer (some ⟨w.heap.size,0,none⟩)),(5,.int .i64 i)]) (fun i w'=>Ac w1 w'/\i<=its.length/\R0 (fun y:DF=>J0 y.2 it.2<0) its=i) ?_ ?_
 ·refine St.block ?_;refine St.loop (α:=Nat) (fun i=>[(5,.int .i64 i),(0,.slice p its.length cap),(3,.pointer (some ⟨w.heap.size,0,none⟩))]) (fun i w'=>Ac w1 w'/\i<=its.length/\∀ (j:Nat) (y:DF),j<i->its[j]?=some y->J0 y.2 it.2<0) (fun i=>its.length - i) 0 AL ⟨Ac.refl _,Cu _,fun j y T=>by omega⟩ ?_;rintro i w2 ⟨g,o,C⟩;have m:=H.trans g;by_cases D:i<its.length
  ·have t:its[i]?=some its[i]:=by simp[D]
   generalize its[i]=y at t;have ha:=U y (Bi t);obtain⟨a,_,yv,e1,hb,P⟩:=(h.ext m).at t;cases e1;refine Nv ?_;refine sF 12 ?_;refine FL.as A8 4 (.bool true) rfl (Aa oo) ?_;refine .q ?_;refine .on (fun _ _=>rK D) ?_;refine .q ?_;refine .on (fun _ d=>A0.load A8 rfl rfl rfl (d.aq.cell (P 1 yv rfl))) ?_;refine .q ?_;refine FL.load (L:=[]) A8 rfl rfl rfl rfl rfl rfl (B1.ext g) sm rfl ?_;refine FL.aG rfl ?_;rintro w3 c _ _;refine .s (oK JX (Mp (hb.l64.ext c) (B.l64.ext (m.trans c)) ha V)) ?_;rintro _ J ⟨I,rfl⟩;by_cases f:J0 y.2 it.2<0
   ·refine .a 1 (.bool true) rfl (Aa f) ?_;refine A7 ?_;refine .cT ?_;refine Nv ?_;refine .a 2 (.int .i64 ((i+1:Nat):Int)) rfl (Bv oo) ?_;refine A7 ?_;refine Ad.again (i+1) AL ⟨(g.trans c).trans I,by omega,fun j z T l=>?_⟩ (by show its.length - (i+1)<its.length - i;omega);by_cases e:j=i
    ·rw[e,t]at l;cases l;exact f
    ·exact C j z oo l
   ·refine .a 1 (.bool false) rfl (A9 f) ?_;refine A7 ?_;refine .cF ?_;refine Nv ?_;exact Ad.met i AL ⟨(g.trans c).trans I,o,R3 C o (fun z l=>by rw[t]at l;cases l;exact f)⟩
  ·refine Nv ?_;refine sF 12 ?_;refine FL.as A8 4 (.bool false) rfl (A9 oo) ?_;refine .q ?_;refine FL.aG rfl ?_;rintro w3 c _ _;refine A7 ?_;refine .cF ?_;refine Nv ?_;exact Ad.met i AL ⟨g.trans c,o,R3 C o (fun z l=>by have:=(Au.1 l).1;omega)⟩
 ·rintro i w2 ⟨g,D,X⟩;have m:=H.trans g;have W:Sa its it=Lp its i it:=by unfold Sa;rw[X]
  rw[W];obtain⟨us,d,b⟩:=h.ext m;have Y:=b.1;have he:its.length<=cap:=by obtain⟨_,_,e,o,_⟩:=d.cells;simp only[Ci]at e;omega
  refine A7 ?_;refine .p (A0.bp A8 rfl rfl rfl rfl oo oo) ?_;refine .s (Av.cV (k:=2) (base:=w2.heap.size) Aq.nil (d.cells.take (i:=i) oo) (fun u hu=>d.1 u (HU hu)) rfl rfl rfl rfl rfl rfl rfl (by simp;omega) rfl AO) ?_;rintro v6 w3 ⟨M,R,_⟩;have c:Ac w2 w3:=Lu R;have hd:=b.ext c;refine A7 ?_;refine .p (A0.aA A8 rfl rfl rfl ((B1.ext g).ext c) (Ai 2) rfl) ?_;have Z:=B.ext (m.trans c);refine Af.aZ M (JH.cel Z) rfl rfl rfl rfl rfl rfl (fun _=>rfl) rfl rfl (by simp;omega) rfl c.size ?_;intro p7 v7 J F O hc _ _;have E:Ac w2 J:=O w2 c AO;refine A7 ?_;refine .p (A0.bC A8 rfl rfl rfl rfl i rfl oo) ?_;have G:=(d.cells.ext E).drop (i:=i) d.1 oo;rw[Y]at G;refine .s (Av.cV (k:=2) F G (fun u hu=>d.1 u (NN hu)) rfl rfl rfl rfl rfl rfl rfl (by simp;omega) rfl E.size) ?_;rintro v8 w5 ⟨N,S,_⟩;have K:=J2 F S;have A:Ac w2 w5:=K.ext0 w2 E AO;refine A7 ?_;refine uR ⟨m.trans A,_,N.mono BI,?_⟩;unfold Lp;exact (((b.ext A).take i).append (Fb.single ⟨xv,rfl,B.ext (m.trans A)⟩)).append ((b.ext A).drop i)
theorem A1Z {w:World}{v:Value}{xs:List Int}(h:Nh w v xs) (y:xs.length<=1000) (m:EA xs) :
  Calls prog 204 #[v] w (AJ fun x w'=>Ac w w'/\LO 0 w' x (YZ xs)):=by
 obtain⟨p,c,e⟩:=h.len;subst e;refine cS func204 ntmps204 ?_;refine A7 ?_;refine sG (8) (0) (xs.length) (fun g:Value=>[(3,g),(6,.slice p xs.length c),(7,.int .i64 xs.length)]) (fun i g w'=>Ac w w'/\LO w.heap.size w' g (YZ (xs.take i))) (.slice none 0 0) ?_ ?_ ?_
 ·exact⟨Ac.refl _,Aq.nil⟩
 ·rintro i g w3 k ⟨d,j⟩;obtain⟨aa,_,e1,q⟩:=(h.ext d).cell k;cases e1;have u:=m.at i;unfold yv at u;have z:(YZ (xs.take i)).length=i:=by rw[QY,EE];omega
  refine Nv ?_;refine .p (A0.ia) ?_;refine .p (rL q) ?_;refine .r rfl ?_;refine Nv ?_;refine .a 3 (.int .i64 (-xs.getD i 0)) rfl (by rw[Ab oo oo];congr 1;omega) ?_;refine Af.aZ j (Gr (-xs.getD i 0)) rfl rfl rfl rfl rfl rfl (fun _=>rfl) rfl rfl (by rw[Bj];omega) rfl d.size ?_;intro t g7 b l o _ _ _;refine A7 ?_;refine Ad.aO g7 AL ⟨o w d AO,?_⟩;have e1:xs.getD i 0=xs[i]:=by simp[Bd,k]
  unfold YZ at l ⊢;rw[DA k,Ev];unfold LO;rw[Ev,<- e1];exact l
 ·rintro g w3 ⟨d,j⟩;rw[D5]at j;refine A7 ?_;exact uR ⟨d,j.mono BI⟩
def A7k (w:World) (v:Value) (n:Nat) (f:Nat->Nat->Int) (pool:List DF):Prop:=∃ us,Aq 1 122 0 w v us/\us.length=pool.length/\∀ (i:Nat) (u:Value) (it:DF),us[i]?=some u->pool[i]?=some it->∃ zs,Aq 2 37 0 w u zs/\zs.length=n/\∀ p z,zs[p]?=some z->Ao 0 w z (Ay n (fun q=>f p q * yv it.2 q))
theorem A7k.ext {w:World}{v:Value}(h:A7k w v n f pool) (c:Ac w w'):A7k w' v n f pool:=by obtain⟨us,d,e,g⟩:=h;refine⟨us,d.ext c,e,fun i u it hu j=>?_⟩;obtain⟨zs,k1,k2,k3⟩:=g i u it hu j;exact⟨zs,k1.ext c,k2,fun p z k=>(k3 p z k).ext c⟩
def NH (w:World) (x:Value) (n:Nat) (f:Nat->Nat->Int) (pool:List DF):Prop:=∃ av bv pv iv,x=.agg #[av,bv,pv,iv]/\av.oneCell'=true/\av.cells=#[av]/\G8 w bv n f/\FU 0 w pv pool/\A7k w iv n f pool
theorem NH.ext {w:World}{x:Value}(h:NH w x n f pool) (c:Ac w w'):NH w' x n f pool:=by obtain⟨d,bv,pv,iv,e,g,j,k,l,m⟩:=h;exact⟨d,bv,pv,iv,e,g,j,k.ext c,l.ext c,m.ext c⟩
def KN (f:Nat->Nat->Int) (n:Nat):List DF:=J1 [] (itI f n (PS f n))
theorem VQ (x:DF):∀ (t l:List DF),J1 l (t++[x])=Sa (Sa (J1 l t) x) (x.1,YZ x.2)
 | [],l=>rfl
 | y::t,l=>by show J1 (Sa (Sa l y) (y.1,YZ y.2)) (t++[x])=_;rw[VQ x t];rfl
theorem A5O {n:Nat}{f:Nat->Nat->Int}(h:BQ n f) (e:n<=8):∀ i j,i<n->j<n->sz (f i j)<=2:=fun i j c d=>by have:=h.ent e c d;exact Bn oo oo
variable {C:List Value}
theorem Ft.one {w:World}{v:Value}(h:Ft w v M):v.oneCell'=true/\v.cells=#[v]:=by obtain⟨p,c,rfl⟩:=h.len;exact⟨rfl,rfl⟩
def ApV (w:World) (u:Value) (n:Nat) (f:Nat->Nat->Int) (xs:List Int):Prop:=∃ zs,Aq 2 37 0 w u zs/\zs.length=n/\∀ p z,zs[p]?=some z->Ao 0 w z (Ay n (fun q=>f p q * yv xs q))
theorem ApV.ext {w:World}{xs:List Int}(h:ApV w u n f xs) (hx:Ac w w'):ApV w' u n f xs:=by obtain⟨zs,k1,k2,k3⟩:=h;exact⟨zs,k1.ext hx,k2,fun p z hz=>(k3 p z hz).ext hx⟩
theorem ApV.kp {w:World}{xs:List Int}(h:ApV w u n f xs) (hK:Kp t base w w') (h1:37≠t) (h2:109≠t):ApV w' u n f xs:=by obtain⟨zs,k1,k2,k3⟩:=h;exact⟨zs,hK.row k1 h1,k2,fun p z hz=>(k3 p z hz).typed (fun b C hB=>hK.typed _ b C hB h2)⟩
theorem CE.kp {w:World}(hu:CE b w w') (hB:Aj t w b C):Kp t b w w':=by refine⟨fun w0 h0 hb0=>h0.aj hu hb0,fun t' b' C' hB' hne=>hB'.upd hu ?_⟩;rintro rfl;unfold Aj at hB hB';rw[hB]at hB';simp only[AP,Obj.cells.injEq]at hB';exact hne hB'.2.1.symm
theorem FU.kp {w:World}{v:Value}(h:FU b2 w v its) (hK:Kp t base w w') (h1:128≠t) (h2:2≠t):FU b2 w' v its:=by obtain⟨us,k1,k2⟩:=h;exact⟨us,hK.row k1 h1,k2.kp hK h2⟩
theorem ApV.one {w:World}{xs:List Int}(h:ApV w u n f xs):u.cells=#[u]/\u.oneCell'=true:=by obtain⟨zs,k1,_⟩:=h;exact Aq.cQ k1
theorem YH {w:World}(h:Ft w hv M) (h64:Lj M) (hred:Ie M) (hcnt:(Gs (ent M) M.length (PS (ent M) M.length) M.length []).length<=8193) :
  Calls prog 163 #[hv,hv] w (AJ fun x w'=>Ac w w'/\NH w' x M.length (ent M) (KN (ent M) M.length)):=by
 have hF:=hred.bq.1;have hn:1<=M.length/\M.length<=8:=⟨hred.1.1,hred.2.2.1⟩;have hmk:=hred.mk;have hsz:=A5O hF hn.2;have hg0:=VJ (ent M) M.length;have hg1:PS (ent M) M.length<=262144:=YF oo (fun i hi=>by have:=hF.ent hn.2 hi hi;omega);have hit:=fun (it:DF) (hm:it ∈ itI (ent M) M.length (PS (ent M) M.length))=>(by
  rcases Ou hm with hm | ⟨hm,_⟩
  ·cases hm
  ·have h1:=(R5 hF hg0 hm).1;exact⟨h1,A1X hF hn.2 ⟨hg0,by omega⟩ hm⟩:it.2.length=M.length/\EA it.2)
 have hitl:(itI (ent M) M.length (PS (ent M) M.length)).length<=8193:=by have:=Lr (Sb (ent M) M.length (PS (ent M) M.length)) [];rw[Ow]at this;unfold itI;simp only[Fj]at this;omega
 have hof:∀ (w:World) (v:Value),Ft w v M->Calls prog 60 #[v] w (AJ fun r w'=>Ac w w'/\MI w' r (mk M.length M.length (ent M))):=fun w v h=>by
  refine (Y0 (base:=0) w v _ h BI h64).mono ?_;rintro e w' ⟨x,rfl,hx,⟨_,rs,hC⟩ | ⟨hno,_⟩⟩
  ·refine⟨x,rfl,hx,?_⟩;rw[hmk]at hC;exact hC.mi (Ns hsz oo)
  ·exact absurd hred.1 hno
 unfold KN;obtain⟨ph,ch,e⟩:=h.len;subst e;generalize hvv:Value.slice ph M.length ch=hv at *
 have hone:=h.one;refine cS func163 ntmps163 ?_;refine Nv ?_;refine .s (oA) ?_;rintro _ w1 ⟨rfl,B4,hx1,hz1⟩;refine A7 ?_;refine .s (oK Mw (P8 ((hred.at h).ext hx1) oo)) ?_;rintro _ w2 ⟨hx2,rfl⟩;have hx02:=hx1.trans hx2;refine .s (oK Qn (VN (h.ext hx02) hred ⟨hg0,by omega⟩ oo)) ?_;rintro L w3 ⟨hx3,hL⟩;have hx03:=hx02.trans hx3;have hB4:=(B4.ext hx2).ext hx3;generalize PS (ent M) M.length=G at *
 generalize itI (ent M) M.length G=its at *
 obtain⟨p,cap,rfl⟩:=hL.len;refine A7 ?_;refine sG (18) (0) (its.length) (fun g:Value=>[(5,g),(0,hv),(1,hv),(4,.pointer (some ⟨w.heap.size,0,none⟩)),(16,.slice p its.length cap),(17,.int .i64 its.length)]) (fun i g w'=>Ac w3 w'/\FU 0 w' g (J1 [] (its.take i))) (.slice none 0 0) ?_ ?_ ?_
 ·exact⟨Ac.refl _,FU.nil _ _⟩
 ·rintro i g w4 hi ⟨hx4,hO⟩;have hy:its[i]?=some its[i]:=by simp[hi]
  have hsn:its.take (i+1)=its.take i++[its[i]]:=by rw[DA hi]
  have hst:=VQ its[i] (its.take i) [];rw[<- hsn]at hst;generalize its[i]=y at hy hst;obtain⟨hyl,hyt⟩:=hit y (Bi hy);obtain⟨a,_,yv,e1,hyv,hcell⟩:=(hL.ext hx4).at hy;cases e1;have hpl:=Ov (its.take i) [];rw[EE]at hpl;simp only[Fj]at hpl;have hpz:∀ z ∈ J1 [] (its.take i),z.2.length<=1000:=fun z hz=>by
   rcases Ls.1 hz with hz | ⟨q,hq,hz⟩
   ·cases hz
   ·have:=(hit q (HU hq)).1;rcases hz with rfl | rfl
    ·omega
    ·dsimp only;rw[QY];omega
  have hpz2:∀ z ∈ Sa (J1 [] (its.take i)) y,z.2.length<=1000:=fun z hz=>by
   rcases VH.1 hz with rfl | hz
   ·omega
   ·exact hpz z hz
  refine A7 ?_;refine .p (rK hi) ?_;refine .p (A0.aB A8 rfl rfl rfl rfl hcell) ?_;refine .s (oA) ?_;rintro _ w5 ⟨rfl,B7,hx5,hz5⟩;refine Af.step0 rfl rfl (Av.store A8 (vs:=[.int .i64 y.1,yv]) rfl rfl rfl (JH.cells hyv) rfl B7 (Ai 2) (by obtain⟨_,_,rfl⟩:=hyv.len;simp[Value.oneCell'])) ?_;rintro _ w6 ⟨B7',hu6⟩;have hx46:Ac w4 w6:=hx5.aj hu6 AO;replace B7':Aj 128 w6 w4.heap.size [.int .i64 y.1,yv]:=B7';have hx36:=hx4.trans hx46;refine Nv ?_;refine St.sub (E':=[(18,.int .i64 i),(5,g),(0,hv),(1,hv),(4,.pointer (some ⟨w.heap.size,0,none⟩)),(16,.slice (some a) its.length cap),(17,.int .i64 its.length),(7,.pointer (some ⟨w4.heap.size,0,none⟩))]) ?_ AL;refine sD 8 [(22,Is g),(23,Is (.agg #[.int .i64 y.1,yv])),(24,fun v w'=>FU 0 w' v (Sa (J1 [] (its.take i)) y)),(25,Is (.pointer (some ⟨w4.heap.size,0,none⟩))),(26,Is (.int .i64 y.1)),(27,Is (.pointer (some ⟨w4.heap.size,1,none⟩))),(28,Is yv),(29,fun v w'=>LO 0 w' v (YZ y.2))] ?_ ?_
  ·refine⟨?_,?_,?_,?_,?_,?_,?_,?_,trivial⟩
   ·exact fun wk hxk=>oP
   ·exact fun wk hxk=>CD.run rfl rfl rfl rfl (A0.aA A8 rfl rfl rfl (B7'.ext hxk) (Ai 2) rfl) rfl
   ·rintro wk hxk _ rfl _ rfl;refine CD.call UG rfl rfl rfl (VP (it:=y) (hO.ext (hx46.trans hxk)) ⟨yv,rfl,hyv.ext (hx46.trans hxk)⟩ oo hpz oo) ?_;rintro v w' ⟨hx,hv⟩;exact⟨hx,hv⟩
   ·exact fun wk hxk=>oP
   ·rintro wk hxk _ rfl;exact CD.run rfl rfl rfl rfl (FX (B7'.ext hxk)) rfl
   ·exact fun wk hxk=>oP
   ·rintro wk hxk _ rfl;exact CD.run rfl rfl rfl rfl (FX (B7'.ext hxk)) rfl
   ·rintro wk hxk _ rfl;refine oC XK (A1Z (hyv.l64.ext (hx46.trans hxk)) oo hyt) ?_;rintro v w' ⟨hx,hv⟩;exact⟨hx,hv⟩
  rintro w7 hx7 _ rfl _ rfl t24 h24 _ rfl _ rfl _ rfl _ rfl t29 h29 _;have hl24:=VI (J1 [] (its.take i)) y;obtain⟨p29,c29,rfl⟩:=h29.len;refine .p (rB) ?_;refine .s (Av.call UG rfl (VP (it:=(y.1,YZ y.2)) h24 ⟨_,rfl,h29⟩ oo hpz2 (by dsimp only;rw[QY];omega))) ?_;rintro g8 w8 ⟨hx8,hO8⟩;refine A7 ?_;exact Ad.aO g8 AL ⟨(hx36.trans hx7).trans hx8,by rw[hst];exact hO8⟩
 ·rintro g w4 ⟨hx4,hO⟩;rw[D5]at hO;have hpm:=fun (z:DF) (hz:z ∈ J1 [] its)=>(by
   rcases Ls.1 hz with hz | ⟨q,hq,hz⟩
   ·cases hz
   ·obtain⟨h1,h2⟩:=hit q hq;rcases hz with rfl | rfl
    ·exact⟨h1,h2⟩
    ·refine⟨by dsimp only;rw[QY];exact h1,fun c hc=>?_⟩;unfold YZ at hc;obtain⟨d,hd,rfl⟩:=CG.1 hc;have:=h2 d hd;omega:z.2.length=M.length/\EA z.2)
  have hpl:=Ov its [];simp only[Fj]at hpl;generalize J1 [] its=pool at *
  clear hL hit;obtain⟨q,cq,rfl⟩:=hO.len;have hx04:=hx03.trans hx4;have hB44:=hB4.ext hx4;refine A7 ?_;refine sG (35) (0) (pool.length) (fun g:Value=>[(8,g),(0,hv),(1,hv),(4,.pointer (some ⟨w.heap.size,0,none⟩)),(5,.slice q pool.length cq),(33,.slice q pool.length cq),(34,.int .i64 pool.length)]) (fun i g w'=>Ac w4 w'/\∃ us,Aq 1 122 w4.heap.size w' g us/\us.length=i/\∀ (j:Nat) (u:Value) (it:DF),us[j]?=some u->pool[j]?=some it->∃ zs,Aq 2 37 0 w' u zs/\zs.length=M.length/\∀ p z,zs[p]?=some z->Ao 0 w' z (Ay M.length (fun q=>ent M p q * yv it.2 q))) (.slice none 0 0) ?_ ?_ ?_
  ·exact⟨Ac.refl _,[],Aq.nil,rfl,fun j u it h _=>by simp at h⟩
  ·rintro i g w5 hi ⟨hx5,us,hR,hul,hus⟩;have hy:pool[i]?=some pool[i]:=by simp[hi]
   generalize pool[i]=y at hy;obtain⟨hyl,hyt⟩:=hpm y (Bi hy);obtain⟨a,_,yv',e1,hyv,hcell⟩:=(hO.ext hx5).at hy;cases e1;have hs:∀ i j,i<M.length->j<M.length->sz (ent M i j * yv y.2 j)<=2000:=fun i j hi hj=>by have a1:=hsz i j hi hj;have a2:=hyt.sz j;have a3:=Bt (ent M i j) (yv y.2 j);omega
   refine A7 ?_;refine .p (rK hi) ?_;refine .p (A0.aB A8 rfl rfl rfl rfl hcell) ?_;refine .s (oA) ?_;rintro _ w6 ⟨rfl,B7,hx6,hz6⟩;refine Af.step0 rfl rfl (Av.store A8 (vs:=[.int .i64 y.1,yv']) rfl rfl rfl (JH.cells hyv) rfl B7 (Ai 2) (by obtain⟨_,_,rfl⟩:=hyv.len;simp[Value.oneCell'])) ?_;rintro _ w7 ⟨B7',hu7⟩;have hx57:Ac w5 w7:=hx6.aj hu7 AO;replace B7':Aj 128 w7 w5.heap.size [.int .i64 y.1,yv']:=B7';have hx07:=(hx04.trans hx5).trans hx57;refine Nv ?_;refine St.sub (E':=[(35,.int .i64 i),(8,g),(0,hv),(1,hv),(4,.pointer (some ⟨w.heap.size,0,none⟩)),(5,.slice (some a) pool.length cq),(33,.slice (some a) pool.length cq),(34,.int .i64 pool.length),(10,.pointer (some ⟨w5.heap.size,0,none⟩))]) ?_ AL;refine St.draw 10 [(40,Is hv),(41,fun v w'=>MI w' v (mk M.length M.length (ent M))),(42,Is (.pointer (some ⟨w5.heap.size,1,none⟩))),(43,Is yv'),(44,fun v w'=>LCo w' v M.length (yv y.2)),(45,fun v w'=>∃ u,v=.tuple #[u,.bool true]/\ApV w' u M.length (ent M) y.2),(39,fun v w'=>∃ u,v=.tuple #[u,.bool true]/\ApV w' u M.length (ent M) y.2),(46,fun v w'=>ApV w' v M.length (ent M) y.2),(47,Is (.bool true)),(11,fun v w'=>ApV w' v M.length (ent M) y.2)] Dv kr rfl kr kr ⟨Is.mono _,fun _ _ _ hx hv=>hv.ext hx,Is.mono _,Is.mono _,fun _ _ _ hx hv=>hv.ext hx,fun _ _ _ hx ⟨u,e,hv⟩=>⟨u,e,hv.ext hx⟩,fun _ _ _ hx ⟨u,e,hv⟩=>⟨u,e,hv.ext hx⟩,fun _ _ _ hx hv=>hv.ext hx,Is.mono _,fun _ _ _ hx hv=>hv.ext hx,trivial⟩ ?_ ?_
   ·refine⟨?_,?_,?_,?_,?_,?_,?_,?_,?_,?_,trivial⟩
    ·exact fun wk hxk=>oP
    ·rintro wk hxk _ rfl;refine oC O7 (hof _ _ (h.ext (hx07.trans hxk))) ?_;rintro v w' ⟨hx,hv⟩;exact⟨hx,hv⟩
    ·exact fun wk hxk=>oP
    ·rintro wk hxk _ rfl;exact CD.run rfl rfl rfl rfl (FX (B7'.ext hxk)) rfl
    ·rintro wk hxk _ rfl;refine oC IC (Kz (hyv.l64.ext (hx57.trans hxk)) oo hyt.t64) ?_;rintro v w' ⟨hx,hv⟩;rw[hyl]at hv;exact⟨hx,hv⟩
    ·rintro wk hxk t41 h41 t44 h44;refine oC Qo (SI h41 (h44.lp (fun j _=>by have:=hyt.sz j;omega)) ⟨hn.1,by omega⟩ hs) ?_;rintro v w' ⟨hx,u,zs,rfl,hz1,hz2,hz3⟩;exact⟨hx,u,rfl,zs,hz1.mono BI,hz2,hz3⟩
    ·rintro wk hxk _ ⟨u,rfl,hu⟩;exact CD.pure A8 rfl rfl rfl rfl rfl ⟨u,rfl,hu⟩
    ·rintro wk hxk _ ⟨u,rfl,hu⟩;exact CD.pure A8 rfl rfl rfl rfl rfl hu
    ·rintro wk hxk _ ⟨u,rfl,hu⟩;exact oP
    ·rintro wk hxk u hu;exact CD.pure A8 rfl rfl rfl rfl rfl hu
   rintro w8 hx8 _ rfl _ _ _ rfl _ rfl _ _ _ _ _ _ _ _ _ rfl t11 h11 _;have hx58:=hx57.trans hx8;have hone11:=h11.one;refine A7 ?_;refine Af.aZ (hR.ext hx58) (.inl ⟨rfl,hone11⟩) rfl rfl rfl rfl rfl rfl (fun _=>rfl) rfl rfl oo rfl (hx5.trans hx58).size ?_;intro p9 v9 w9 hR9 hX9 hB9 _ hC9;have hc9:=hC9 de;have hr9:∀ (u:Value) (it:DF),ApV w8 u M.length (ent M) it.2->ApV w9 u M.length (ent M) it.2:=fun u it ⟨zs,z1,z2,z3⟩=>⟨zs,Aq.bO z1 (fun b C _ hb=>hB9 _ b C hb (.inl de)),z2,fun p z hz=>hc9 0 z _ (z3 p z hz)⟩;refine A7 ?_;refine Ad.aO v9 AL ⟨hX9 w4 (hx5.trans hx58) AO,_,hR9,by simp;omega,fun j u it hu hj=>?_⟩;by_cases hlt:j<us.length
   ·rw[BM hlt]at hu;exact hr9 u it (ApV.ext (hus j u it hu hj) hx58)
   ·have hje:j=i:=by have:=(Au.1 hu).1;simp at this;omega
    subst hje;rw[Es oo,hul,J6]at hu;simp at hu;rw[hy]at hj;cases hj;rw[<- hu];exact hr9 t11 y h11
  ·rintro g w5 ⟨hx5,us,hR,hul,hus⟩;have hx05:=hx04.trans hx5;have hO5:=hO.ext hx5;have hpo:=(show Aq 1 122 0 w5 g us from hR.mono BI);obtain⟨pg,cg,eg⟩:=hpo.len;subst eg;subst hvv;have hMA:=(hred.at h).ext hx05;have hB45:=hB44.ext hx5;refine A7 ?_;refine .p (rB) ?_;refine Af.step0 rfl rfl (Av.store A8 (vs:=[.slice ph M.length ch,.slice ph M.length ch,.slice q pool.length cq,.slice pg us.length cg]) rfl rfl rfl rfl rfl hB45 (Ai 4) (by simp[Value.oneCell'])) ?_;rintro _ w6 ⟨B6,hu6⟩;replace B6:Aj 202 w6 w.heap.size [.slice ph M.length ch,.slice ph M.length ch,.slice q pool.length cq,.slice pg us.length cg]:=B6;have hK6:=hu6.kp hB45;have hx06:Ac w w6:=hx05.aj hu6 AO;refine A7 ?_;exact Ad.aC A8 [.agg #[.slice ph M.length ch,.slice ph M.length ch,.slice q pool.length cq,.slice pg us.length cg]] rfl ⟨⟨_,_,_,_,rfl,B6,rfl,rfl,rfl,rfl⟩,trivial⟩ ⟨hx06,_,_,_,_,rfl,rfl,rfl,(hred.at h).ext hx06,hO5.kp hK6 de de,us,hK6.row hpo de,hul,fun j u it hu hj=>ApV.kp (hus j u it hu hj) hK6 de de⟩
variable {cols:List (List Int)}{cv:Value}
def VR (n:Nat) (cols:List (List Int)):Prop:=∀ c ∈ cols,c.length=n/\EA c
theorem Ft.rowAt {w:World}{v:Value}(h:Ft w v M) (j:i<M.length):∃ a cap r,v=.slice (some a) M.length cap/\w.cell? (a.add i)=some r/\Nh w r (M.getD i []):=by
 obtain⟨rs,d,k,m⟩:=h;have c:rs[i]?=some (rs[i]'oo):=by simp
 obtain⟨a,cap,e,g⟩:=d.get c;have l:M[i]?=some (M.getD i []):=by simp[Bd,j]
 exact⟨a,cap,_,by rw[e,k],g,m i _ _ c l⟩
theorem A0i {w:World}{x:Value}(h:NH w x n f pool) (Q:BQ n f) (U:n<=8) (P:Ft w cv cols) (hs:VR n cols) (y:cols.length<n) (F:pool[i]?=some it) (kd:it.2.length=n) (ht:EA it.2) (ke:pool.length<=200000) :
  Calls prog 206 #[x,.int .i64 i,cv] w (AJ fun r w'=>Ac w w'/\r=.bool (decide (Wy f n cols it))):=by
 have hw:=(Au.1 F).1;have V:=A5O Q U;obtain⟨o,bv,pv,iv,rfl,h0,hb,hA,hP,us,g,h5,h6⟩:=h;obtain⟨pc,u,rfl⟩:=P.len;obtain⟨ap,cp,km,rfl,kf,hh⟩:=hP.at F;obtain⟨ab,cb,rfl,h9,O⟩:=hA;have H:us[i]?=some (us[i]'oo):=by simp
 generalize us[i]'oo=ui at H;obtain⟨zs,z1,z2,z3⟩:=h6 i ui it H F;obtain⟨k,ci,e,hk⟩:=g.cells.at g.1 H;rw[h5]at e;subst e;have hy:=Aq.cQ z1;have T:=hk 0 ui (by rw[hy.1];rfl);rw[Cf,Ep]at T;obtain⟨bk,ck,h3,kb,ho⟩:=O cols.length y;have hg:(Value.agg #[o,.slice (some ab) n cb,.slice (some ap) pool.length cp,.slice (some k) pool.length ci]).cells.toList=[o,.slice (some ab) n cb,.slice (some ap) pool.length cp,.slice (some k) pool.length ci]:=by show (Array.toList _)=_;simp[Value.cells,hb]
 refine cS func206 ntmps206 ?_;refine Nv ?_;refine .s (oB) ?_;rintro _ w1 ⟨rfl,B3,C,kg⟩;rw[hg]at B3;refine A7 ?_;refine St.sub (E':=[(0,.agg #[o,.slice (some ab) n cb,.slice (some ap) pool.length cp,.slice (some k) pool.length ci]),(1,.int .i64 i),(2,.slice pc cols.length u),(3,.pointer (some ⟨w.heap.size,0,none⟩)),(7,.int .i64 cols.length)]) ?_ AL;refine sF 14 ?_;refine .q ?_;refine FL.load (L:=[]) A8 rfl rfl rfl rfl rfl rfl EC sm rfl ?_;refine .q ?_;refine .on (fun _ _=>rK hw) ?_;refine .q ?_;refine .on (fun _ g=>A0.load A8 rfl rfl rfl (g.aq.cell (C.cell (hh 0 _ rfl)))) ?_;refine .q ?_;refine FL.load (L:=[]) A8 rfl rfl rfl rfl rfl rfl EC sm rfl ?_;refine .q ?_;refine .on (fun _ _=>A0.ia) ?_;refine .on (fun _ g=>rL (g.aq.cell (C.cell h3))) ?_;refine .q ?_;refine .on (fun _ _=>A0.ia) ?_;refine .on (fun _ g=>rL (g.aq.cell (C.cell (ho cols.length y)))) ?_;refine FL.aG rfl ?_;rintro w2 W _ _;have J:=C.trans W;replace B3:=B3.ext W;by_cases b:it.1=f cols.length cols.length
 ·refine .a 1 (.bool false) rfl (by rw[b,bne_self_eq_false]) ?_;refine A7 ?_;refine .cf ?_;refine H6 (29) (0) (cols.length) [(0,.agg #[o,.slice (some ab) n cb,.slice (some ap) pool.length cp,.slice (some k) pool.length ci]),(1,.int .i64 i),(2,.slice pc cols.length u),(3,.pointer (some ⟨w.heap.size,0,none⟩)),(7,.int .i64 cols.length),(27,.slice pc cols.length u),(28,.int .i64 cols.length)] (fun j w'=>Ac w2 w'/\∀ j',j'<j->ipI f n (cols.getD j' []) it.2=f j' cols.length) ?_ ?_ ?_
  ·exact⟨Ac.refl _,fun j' hu=>by omega⟩
  ·rintro j w3 G ⟨t,D⟩;have m:=J.trans t;obtain⟨ac,_,rv,e1,h4,R⟩:=(P.ext m).rowAt G;cases e1;have hl:cols.getD j [] ∈ cols:=by
    have:cols[j]?=some (cols.getD j []):=by simp[Bd,G]
    exact Bi this
   obtain⟨hr,A⟩:=hs _ hl;generalize S:cols.getD j []=col at *
   obtain⟨bj,cj,h2,ka,hm⟩:=O j oo;have K:∀ p,p<n->sz (Ay n (fun q=>f p q * yv it.2 q))<=2008:=fun p l=>Ar (Gp (s:=2000) n (fun q hq=>by have a1:=V p q l hq;have a2:=ht.sz q;have a3:=Bt (f p q) (yv it.2 q);omega)) oo
   obtain⟨Z,N,ha⟩:=R.len;subst ha;have M:=B3.ext t;refine A7 ?_;refine .p (A0.ia) ?_;refine .p (rL h4) ?_;refine A7 ?_;refine St.sub (E':=[(29,.int .i64 j),(0,.agg #[o,.slice (some ab) n cb,.slice (some ap) pool.length cp,.slice (some k) pool.length ci]),(1,.int .i64 i),(2,.slice (some ac) cols.length u),(3,.pointer (some ⟨w.heap.size,0,none⟩)),(7,.int .i64 cols.length),(27,.slice (some ac) cols.length u),(28,.int .i64 cols.length),(8,.int .i64 j),(9,.slice Z col.length N)]) ?_ AL;refine sD 16 [(34,Is (.slice Z col.length N)),(35,fun v w'=>LCo w' v n (yv col)),(36,Is (.pointer (some ⟨w.heap.size,3,none⟩))),(37,Is (.slice (some k) pool.length ci)),(38,Is (.int .i64 i)),(39,Is (.pointer (some (k.add i)))),(40,Is ui),(41,fun v w'=>Ao 0 w' v (ipI f n col it.2)),(42,Is (.pointer (some ⟨w.heap.size,1,none⟩))),(43,Is (.slice (some ab) n cb)),(44,Is (.int .i64 j)),(45,Is (.pointer (some (ab.add j)))),(46,Is (.slice (some bj) n cj)),(47,Is (.int .i64 cols.length)),(48,Is (.pointer (some (bj.add cols.length)))),(49,Is (.int .i64 (f j cols.length)))] ?_ ?_
   ·refine⟨?_,?_,?_,?_,?_,?_,?_,?_,?_,?_,?_,?_,?_,?_,?_,?_,trivial⟩
    ·exact fun d c=>oP
    ·rintro d c _ rfl;refine oC IC (Kz (R.ext c) oo A.t64) ?_;rintro v w' ⟨I,hv⟩;rw[hr]at hv;exact⟨I,hv⟩
    ·exact fun d c=>oP
    ·rintro d c _ rfl;exact CD.run rfl rfl rfl rfl (FX (M.ext c)) rfl
    ·exact fun d c=>oP
    ·rintro d c _ rfl _ rfl;exact CD.run rfl rfl rfl rfl (A0.indexAddr A8 rfl rfl rfl rfl rfl oo oo) rfl
    ·rintro d c _ rfl;exact CD.run rfl rfl rfl rfl (rL ((m.trans c).cell T)) rfl
    ·rintro d c kj hc _ rfl;refine oC I6 (Lg (s:=2011) (hc.lp (fun q _=>by have:=A.sz q;omega)) (((z1.ext (m.trans c)).lco z2 (fun p z hz=>(z3 p z hz).ext (m.trans c))).lp (fun p l=>by have:=K p l;omega)) oo (fun p l=>by have a1:=K p l;have a2:=A.sz p;have a3:=Bt (yv col p) (Ay n (fun q=>f p q * yv it.2 q));omega) oo) ?_;rintro v w' ⟨I,hv⟩;exact⟨I,hv⟩
    ·exact fun d c=>oP
    ·rintro d c _ rfl;exact CD.run rfl rfl rfl rfl (FX (M.ext c)) rfl
    ·exact fun d c=>oP
    ·rintro d c _ rfl _ rfl;exact CD.run rfl rfl rfl rfl (A0.indexAddr A8 rfl rfl rfl rfl rfl oo oo) rfl
    ·rintro d c _ rfl;exact CD.run rfl rfl rfl rfl (rL ((m.trans c).cell h2)) rfl
    ·exact fun d c=>oP
    ·rintro d c _ rfl _ rfl;exact CD.run rfl rfl rfl rfl (A0.indexAddr A8 rfl rfl rfl rfl rfl oo oo) rfl
    ·rintro d c _ rfl;exact CD.run rfl rfl rfl rfl (rL ((m.trans c).cell (hm cols.length y))) rfl
   rintro w4 h7 _ rfl _ _ _ rfl _ rfl _ rfl _ rfl _ rfl kk hd _ rfl _ rfl _ rfl _ rfl _ rfl _ rfl _ rfl _ rfl _;have kc:=Q.ent U (show j<n by omega) y;have ki:sz (ipI f n col it.2)<=2100:=Ar (Gp (s:=2011) n (fun p l=>by have a1:=K p l;have a2:=A.sz p;have a3:=Bt (yv col p) (Ay n (fun q=>f p q * yv it.2 q));omega)) oo;have kh:=V j cols.length oo y;refine .s (oK AW (Ba (base:=0) w4 (f j cols.length) oo oo BI)) ?_;rintro kl w5 ⟨Y,hf⟩;refine .s (oK Gz (Ma ((hd.ext Y).dn oo) (hf.dn oo))) ?_;rintro _ w6 ⟨h8,rfl⟩;have X:=(h7.trans Y).trans h8;by_cases B:ipI f n col it.2=f j cols.length
   ·refine .a 1 (.bool false) rfl (by rw[B,A3b,bne_self_eq_false]) ?_;refine A7 ?_;refine .cF ?_;refine Nv ?_;refine Ad.rnd AL ⟨t.trans X,fun j' hu=>?_⟩;by_cases e:j'=j
    ·rw[e,S];exact B
    ·exact D j' oo
   ·refine .a 1 (.bool true) rfl (by rw[bne_iff_ne.2 (fun e=>B (by rw[A3y]at e;exact e))]) ?_;refine A7 ?_;refine .ct ?_;refine uR ⟨m.trans X,?_⟩;rw[decide_eq_false];intro E;have:=E.2 j G;rw[S]at this;exact B this
  ·rintro w3 ⟨t,D⟩;refine A7 ?_;refine uR ⟨J.trans t,?_⟩;rw[decide_eq_true (show Wy f n cols it from ⟨b,D⟩)]
 ·refine .a 1 (.bool true) rfl (by rw[bne_iff_ne.2 b]) ?_;refine A7 ?_;refine .ct ?_;refine uR ⟨J,?_⟩;rw[decide_eq_false (fun E=>b E.1)]
def My (w:World) (us:List Value) (L:List (List Int)):Prop:=us.length=L.length/\∀ (i:Nat) (u:Value) (x:List Int),us[i]?=some u->L[i]?=some x->LO 0 w u x
theorem My.ext {w:World}{L:List (List Int)}(h:My w us L) (e:Ac w w'):My w' us L:=⟨h.1,fun i u x c d=>(h.2 i u x c d).ext e⟩
theorem My.kp {w:World}{L:List (List Int)}(h:My w us L) (e:Kp t base w w') (g:2≠t):My w' us L:=⟨h.1,fun i u x c d=>e.lo (h.2 i u x c d) g⟩
theorem My.snoc {w:World}{L:List (List Int)}{x:List Int}(h:My w us L) (k:LO 0 w u x):My w (us++[u]) (L++[x]):=by
 refine⟨by rw[Bf,Bf,h.1];rfl,fun i v y c d=>?_⟩;by_cases e:i<us.length
 ·rw[BM e]at c;rw[BM (by rw[<- h.1];exact e)]at d;exact h.2 i v y c d
 ·rw[Es oo]at c;rw[Es (by rw[<- h.1];omega),<- h.1]at d;cases hj:i - us.length with
  | zero=>rw[hj]at c d;simp at c d;rw[<- c,<- d];exact k
  | succ j=>rw[hj]at c;simp at c
def Ee (base:Nat) (w:World) (v:Value) (L:List (List Int)):Prop:=∃ us,Aq 1 33 base w v us/\My w us L
theorem Ee.ext {w:World}{v:Value}{L:List (List Int)}(h:Ee base w v L) (c:Ac w w'):Ee base w' v L:=by obtain⟨us,d,e⟩:=h;exact⟨us,d.ext c,e.ext c⟩
theorem Ee.mono {w:World}{v:Value}{L:List (List Int)}(h:Ee base w v L) (e:b2<=base):Ee b2 w v L:=by obtain⟨us,c,d⟩:=h;exact⟨us,c.mono e,d⟩
theorem Ee.nil (base:Nat) (w:World):Ee base w (.slice none 0 0) []:=⟨[],Aq.nil,rfl,fun i u x h _=>by simp at h⟩
theorem My.ones {w:World}{L:List (List Int)}(h:My w us L):∀ u ∈ us,u.cells=#[u]:=fun u hu=>by
 obtain⟨i,c⟩:=Cx.1 hu;have d:=(Au.1 c).1;have e:L[i]?=some (L[i]'(by rw[<- h.1];exact d)):=by simp
 exact (h.2 i u _ c e).one.1
theorem Ee.m64 {w:World}{v:Value}{L:List (List Int)}(h:Ee base w v L):Ft w v L:=by obtain⟨us,d,c⟩:=h;exact⟨us,d.row c.ones,c.1,fun i r row e g=>(c.2 i r row e g).l64⟩
theorem Ee.len {w:World}{v:Value}{L:List (List Int)}(h:Ee base w v L):∃ p cap,v=.slice p L.length cap:=h.m64.len
theorem A3X (c:i<pool.length):FT f n (pool.take (i+1)) cols=if Wy f n cols pool[i] then FT f n (pool.take i) cols++[pool[i].2] else FT f n (pool.take i) cols:=by
 unfold FT;rw[DA c,U7,Ev];by_cases h:Wy f n cols pool[i]
 ·rw[if_pos h];simp[h]
 ·rw[if_neg h];simp[h]
def Xo (n:Nat) (pool:List DF):Prop:=∀ z ∈ pool,z.2.length=n/\EA z.2
theorem Mz {w:World}{x:Value}(h:NH w x n f pool) (N:BQ n f) (X:n<=8) (t:Ft w cv cols) (W:VR n cols) (V:cols.length<n) (ha:Xo n pool) (Z:pool.length<=200000) :
  Calls prog 165 #[x,cv] w (AJ fun r w'=>Ac w w'/\Ee 0 w' r (FT f n pool cols)):=by
 have S:=h;obtain⟨z,bv,pv,iv,rfl,h0,K,L,B,O⟩:=h;obtain⟨pc,J,rfl⟩:=t.len;obtain⟨pp,cp,rfl⟩:=B.len;obtain⟨ab,cb,rfl,_⟩:=L;obtain⟨G,Q,_⟩:=O;obtain⟨pi,ci,ei⟩:=Q.len;subst ei;have T:(Value.agg #[z,.slice (some ab) n cb,.slice pp pool.length cp,.slice pi G.length ci]).cells.toList=[z,.slice (some ab) n cb,.slice pp pool.length cp,.slice pi G.length ci]:=by show (Array.toList _)=_;simp[Value.cells,K]
 refine cS func165 ntmps165 ?_;refine Nv ?_;refine .s (oB) ?_;rintro _ w1 ⟨rfl,B2,F,hj⟩;rw[T]at B2;refine A7 ?_;refine .p FW ?_;refine A7 ?_;refine sG (11) (0) (pool.length) (fun g:Value=>[(5,g),(1,.slice pc cols.length J),(2,.pointer (some ⟨w.heap.size,0,none⟩)),(9,.slice pp pool.length cp),(10,.int .i64 pool.length)]) (fun i g w'=>Ac w1 w'/\Ee w1.heap.size w' g (FT f n (pool.take i) cols)) (.slice none 0 0) ?_ ?_ ?_
 ·exact⟨Ac.refl _,Ee.nil _ _⟩
 ·rintro i g w3 q ⟨c,e⟩;have m:pool[i]?=some pool[i]:=by simp[q]
  have j:=A3X (f:=f) (n:=n) (cols:=cols) q;generalize pool[i]=y at m j;obtain⟨he,hf⟩:=ha y (Bi m);have u:=F.trans c;obtain⟨a,_,I,e1,o,U⟩:=(B.ext u).at m;cases e1;have hg:(FT f n (pool.take i) cols).length<=i:=by unfold FT;rw[Bj];have:=Q8 (fun it=>decide (Wy f n cols it)) (pool.take i);rw[EE]at this;omega
  refine Nv ?_;refine .r rfl ?_;refine .p (rK q) ?_;refine .p (A0.aB A8 rfl rfl rfl rfl U) ?_;refine .s (oA) ?_;rintro _ w4 ⟨rfl,B7,hc,hk⟩;refine .r rfl ?_;refine Af.step0 rfl rfl (Av.store A8 (vs:=[.int .i64 y.1,I]) rfl rfl rfl (JH.cells o) rfl B7 (Ai 2) (by obtain⟨_,_,rfl⟩:=o.len;simp[Value.oneCell'])) ?_;rintro _ H ⟨v,hb⟩;have l:Ac w3 H:=hc.aj hb AO;replace v:Aj 128 H w3.heap.size [.int .i64 y.1,I]:=v;refine A7 ?_;refine .p (A0.aA A8 rfl rfl rfl (B2.ext (c.trans l)) (Ai 4) rfl) ?_;refine .r rfl ?_;refine .s (oK Pm (A0i (i:=i) (S.ext (u.trans l)) N X (t.ext (u.trans l)) W V m he hf Z)) ?_;rintro _ w6 ⟨hd,rfl⟩;have d:=l.trans hd;by_cases k:Wy f n cols y
  ·rw[decide_eq_true k];rw[if_pos k]at j;refine A7 ?_;refine .ct ?_;refine .p FW ?_;obtain⟨us,P,D⟩:=e.ext d;have hh:=D.1;refine Af.aZ P (.inl ⟨rfl,o.one⟩) rfl rfl rfl rfl rfl rfl (fun _=>rfl) rfl rfl oo rfl (c.trans d).size ?_;intro p7 v7 w7 R E M _ _;have A:Kp 33 w1.heap.size w6 w7:=⟨E,fun t' b C h Y=>M t' b C h (.inl Y)⟩;refine A7 ?_;exact Ad.aO v7 AL ⟨E w1 (c.trans d) AO,by rw[j];exact⟨_,R,(D.kp A de).snoc (A.lo (o.ext d) de)⟩⟩
  ·rw[decide_eq_false k];rw[if_neg k]at j;refine A7 ?_;refine .cF ?_;refine Nv ?_;exact Ad.aO g AL ⟨c.trans d,by rw[j];exact e.ext d⟩
 ·rintro g w3 ⟨c,e⟩;rw[D5]at e;refine A7 ?_;exact uR ⟨F.trans c,e.mono BI⟩
theorem P9 {w:World}{x:List Int}(a:Ft w cv cols) (o:LO 0 w xv x) (F:cols.length<=1000) :
  Calls prog 167 #[cv,xv] w (AJ fun r w'=>Ac w w'/\Ft w' r (cols++[x])):=by
 obtain⟨rs,b,t,m⟩:=a;refine cS func167 ntmps167 ?_;refine A7 ?_;refine .s (Av.appL (base:=w.heap.size) Aq.nil b (fun c h=>?_) rfl rfl rfl rfl rfl rfl (by simp;omega) rfl AO) ?_
 ·obtain⟨i,g⟩:=Cx.1 h;have A:=(Au.1 g).1;have l:cols[i]?=some (cols[i]'oo):=by simp
  obtain⟨p,cap,e⟩:=(m i c _ g l).len;rw[e];exact⟨rfl,rfl⟩
 rintro v1 w1 ⟨y,n,_⟩;have q:Ac w w1:=Lu n;rw[HX]at y;refine .r rfl ?_;refine Af.aZ y (.inl ⟨rfl,(o.ext q).one⟩) rfl rfl rfl rfl rfl rfl (fun _=>rfl) rfl rfl oo rfl q.size ?_;intro G H C z f E _ _;have v:Ac w C:=f w q AO;have B:∀ u ∈ rs++[xv],u.cells=#[u]:=fun u hu=>by
  have D:=(z.1 u hu).1;rcases FB.1 hu with hu | hu
  ·obtain⟨i,g⟩:=Cx.1 hu;have A:=(Au.1 g).1;have l:cols[i]?=some (cols[i]'oo):=by simp
   obtain⟨p,cap,e⟩:=(m i u _ g l).len;rw[e];rfl
  ·rw[Du]at hu;rw[hu];exact o.one.1
 refine A7 ?_;refine Ad.ax rfl rfl ⟨v,rs++[xv],z.row B,by rw[Bf,Bf,t];rfl,fun i r row d k=>?_⟩;by_cases g:i<rs.length
 ·rw[BM g]at d;rw[BM oo]at k;exact (m i r row d k).ext v
 ·rw[Es oo]at d;rw[Es oo,<- t]at k;cases hj:i - rs.length with
  | zero =>
   rw[hj]at d k;simp at d k;rw[<- d,<- k];exact (o.ext v).l64
  | succ j=>rw[hj]at d;simp at d
theorem A0j {w:World}(l:Ft w cv cols) (z:cols.length=n) (A:∀ c ∈ cols,c.length=n) (J:n<=100) :
  Calls prog 168 #[cv] w (AJ fun r w'=>Ac w w'/\r.cells=#[r]/\r.oneCell'=true):=by
 obtain⟨pc,e,rfl⟩:=l.len;rw[z]at l ⊢;refine cS func168 ntmps168 ?_;refine A7 ?_;refine sG (9) (0) (n) (fun g:Value=>[(3,g),(0,.slice pc n e),(7,.slice pc n e),(8,.int .i64 n)]) (fun i g w'=>Ac w w'/\∃ us,Aq 1 33 w.heap.size w' g us/\us.length=i) (.slice none 0 0) ?_ ?_ ?_
 ·exact⟨Ac.refl _,[],Aq.nil,rfl⟩
 ·rintro i g w1 H ⟨k,us,o,D⟩;refine A7 ?_;refine sG (14) (0) (n) (fun q:Value=>[(9,.int .i64 i),(5,q),(4,.int .i64 i),(3,g),(0,.slice pc n e),(7,.slice pc n e),(8,.int .i64 n),(12,.slice pc n e),(13,.int .i64 n)]) (fun j q w'=>Ac w1 w'/\∃ ys,LO w1.heap.size w' q ys/\ys.length=j) (.slice none 0 0) ?_ ?_ ?_
  ·exact⟨Ac.refl _,[],Aq.nil,rfl⟩
  ·rintro j q w2 I ⟨d,ys,m,E⟩;have h:=l.ext (k.trans d);obtain⟨a,_,r,e1,t,C⟩:=h.rowAt (i:=j) oo;rw[z]at e1;cases e1;have x:(cols.getD j []).length=n:=by
    have:cols[j]?=some (cols.getD j []):=by simp[Bd,show j<cols.length by omega]
    exact A _ (Bi this)
   obtain⟨b,c,e2,s⟩:=C.cell (j:=i) oo;subst e2;rw[x]at t;refine A7 ?_;refine .p (A0.ia) ?_;refine .p (rL t) ?_;refine .r rfl ?_;refine .p (A0.ia) ?_;refine .p (rL s) ?_;refine Af.aZ m (Gr _) rfl rfl rfl rfl rfl rfl (fun _=>rfl) rfl rfl (by rw[Bj];omega) rfl d.size ?_;intro F y G u v _ _ _;refine A7 ?_;refine Ad.aO y AL ⟨v w1 d AO,ys++[(cols.getD j []).getD i 0],?_,by simp;omega⟩;unfold LO;rw[Ev];exact u
  ·rintro q w2 ⟨d,ys,m,E⟩;have f:=k.trans d;refine A7 ?_;refine Af.aZ (o.ext d) (.inl ⟨rfl,m.one⟩) rfl rfl rfl rfl rfl rfl (fun _=>rfl) rfl rfl oo rfl f.size ?_;intro F y G u v _ _ _;refine A7 ?_;exact Ad.aO y AL ⟨v w f AO,_,u,by simp;omega⟩
 ·rintro g w1 ⟨k,us,o,D⟩;have B:=Aq.cQ o;refine A7 ?_;exact uR ⟨k,B⟩
theorem A20 (w:World) (J:n<=100) (I:k<=n) :
  Calls prog 164 #[.int .i64 n,.int .i64 k] w (AJ fun r w'=>Ac w w'/\Ee 0 w' r (Co n k)):=by
 refine cS func164 ntmps164 ?_;refine A7 ?_;refine St.loop (α:=Nat×Value) (fun g=>[(6,.int .i64 g.1),(5,g.2),(0,.int .i64 n),(1,.int .i64 k)]) (fun g w'=>Ac w w'/\g.1<=k/\Ee w.heap.size w' g.2 (Co n g.1)) (fun g=>k - g.1) (0,.slice none 0 0) AL ⟨Ac.refl _,Cu _,Ee.nil _ _⟩ ?_;rintro⟨j,g⟩ w1 ⟨d,x,c⟩;dsimp only at x c ⊢;by_cases l:j<k
 ·refine Nv ?_;refine .a 3 (.bool true) rfl (Aa oo) ?_;refine A7 ?_;refine .ct ?_;refine .s (Av.make A8 n rfl rfl rfl rfl rfl rfl rfl rfl (by show n * 8<=_;omega) oo) ?_;rintro _ w2 ⟨rfl,B2,z,K⟩;have D:=d.trans z;refine A7 ?_;refine Af.put A8 j B2 rfl oo (by rw[He];omega) rfl rfl rfl rfl rfl rfl rfl rfl (fun _=>rfl) (fun _=>rfl) rfl rfl ?_;intro p3 w3 B3 v;rw[AE]at B3;have y:Ac w w3:=D.aj v d.size;have E:Ac w1 w3:=z.aj v AO;have e:(List.replicate n (Value.int .i64 0)).set j (.int .i64 1)=(Ek n j).map DZ:=by
   refine O4 (by rw[EP,He,Bj,Im]) (fun i l H=>?_);rw[List.getElem_set];simp only[Ek,List.getElem_map,List.getElem_range,List.getElem_replicate];by_cases e:j=i
   ·rw[if_pos e,if_pos e.symm]
   ·rw[if_neg e,if_neg (fun h=>e h.symm)]
  have o:LO w1.heap.size w3 (.slice (some ⟨w1.heap.size,0,none⟩) n n) (Ek n j):=by refine⟨RQ _,.inr ⟨w1.heap.size,n,[],by rw[Bj,Im],Ai _,?_,by rw[Bj,Im];simp,by rw[Bj,Im];exact Ai _,by unfold maxLen;omega⟩⟩;rw[D7,CO _ (EH _),<- e];exact B3
  obtain⟨us,f,q⟩:=c.ext E;have B:=q.1;rw[Io]at B;refine A7 ?_;refine Af.aZ f (.inl ⟨rfl,o.one⟩) rfl rfl rfl rfl rfl rfl (fun _=>rfl) rfl rfl oo rfl y.size ?_;intro L F G p u t _ _;have m:Kp 33 w.heap.size w3 G:=⟨u,fun t' b C h A=>t t' b C h (.inl A)⟩;refine .r rfl ?_;refine Nv ?_;refine .a 2 (.int .i64 ((j+1:Nat):Int)) rfl (Bv oo) ?_;refine A7 ?_;refine Ad.again (j+1,F) AL ⟨u w y AO,l,?_⟩ (by show k - (j+1)<k - j;omega);dsimp only;rw[NF];exact⟨_,p,(q.kp m de).snoc (m.lo (o.mono BI) de)⟩
 ·refine Nv ?_;refine .a 3 (.bool false) rfl (A9 oo) ?_;refine A7 ?_;refine .cf ?_;refine uR ⟨d,?_⟩;rw[show k=j by omega];exact c.mono BI
variable {m:Nat}
theorem Ee.at {w:World}{v:Value}{L:List (List Int)}(h:Ee base w v L) (hi:i<L.length):∃ a cap u,v=.slice (some a) L.length cap/\w.cell? (a.add i)=some u/\LO 0 w u (L[i]'hi):=by
 obtain⟨us,h1,h2⟩:=h;have hu:us[i]?=some (us[i]'(by rw[h2.1];exact hi)):=by simp
 have hx:L[i]?=some L[i]:=by simp
 have hL:=h2.2 i _ _ hu hx;obtain⟨a,cap,ev,hc⟩:=h1.cells.at h1.1 hu;have hone:=hL.one.1;have:=hc 0 _ (by rw[hone];rfl);rw[Cf,Ep]at this;exact⟨a,cap,_,by rw[ev,h2.1],this,hL⟩
theorem VS {x:List Int}(hpp:Xo n pool) (h:x ∈ FT f n pool cols):x.length=n/\EA x:=by unfold FT at h;obtain⟨it,hit,rfl⟩:=CG.1 h;exact hpp it (TU.1 hit).1
theorem VT (f:Nat->Nat->Int) (n:Nat) (pool:List DF) (cols:List (List Int)):(FT f n pool cols).length<=pool.length:=by unfold FT;rw[Bj];exact Q8 _ _
theorem A5P (hpp:Xo n pool):∀ (m:Nat) (cols t:List (List Int)),(∀ c ∈ cols,c.length=n)->Jj f n pool m cols=some t->t.length=cols.length+m/\∀ c ∈ t,c.length=n
 | 0,cols,t,hc,h=>by unfold Jj at h;cases h;exact⟨rfl,hc⟩
 | m+1,cols,t,hc,h=>by
  unfold Jj at h;have key:∀ L:List (List Int),(∀ x ∈ L,x.length=n)->Ji (fun x=>Jj f n pool m (cols++[x])) L=some t->t.length=cols.length+(m+1)/\∀ c ∈ t,c.length=n:=by
   intro L;induction L with
   | nil=>intro _ h;cases h
   | cons x L ih =>
    intro hL h;unfold Ji at h;split at h
    ·rename_i y hy;cases h;obtain⟨h1,h2⟩:=A5P hpp m (cols++[x]) t (fun c hcc=>by
      rcases FB.1 hcc with hcc | hcc
      ·exact hc c hcc
      ·rw[Du]at hcc;rw[hcc];exact hL x sm) hy
     rw[Bf,Kk]at h1;exact⟨by omega,h2⟩
    ·exact ih (fun z hz=>hL z (by simp[hz])) h
  exact key _ (fun x hx=>(VS hpp hx).1) h
def A5Q (o p:Option (List (List Int))):Option (List (List Int)) :=
 match o with
 | some t=>some t
 | none=>p
theorem A21 {g:List Int->Option (List (List Int))}{y:List Int}{rest:List (List Int)}{o:Option (List (List Int))}(h:g y=o):Ji g (y::rest)=A5Q o (Ji g rest):=by subst h;rw[Ji];unfold A5Q;cases g y <;> rfl
def Sc (w:World) (tv:Value) (o:Option (List (List Int))):Prop:=(tv.cells=#[tv]/\tv.oneCell'=true)/\∀ t,o=some t->Ft w tv t
theorem Sc.ext {w:World}{tv:Value}{o:Option (List (List Int))}(h:Sc w tv o) (hx:Ac w w'):Sc w' tv o:=⟨h.1,fun t e=>(h.2 t e).ext hx⟩
def A5R (n:Nat) (f:Nat->Nat->Int) (pool:List DF) (m:Nat):Prop:=∀ (cols:List (List Int)) (w:World) (x cv:Value),cols.length+m=n->NH w x n f pool->Ft w cv cols->VR n cols ->
 Calls prog 166 #[x,cv] w (AJ fun r w'=>Ac w w'/\∃ tv,r=.tuple #[tv,.bool (Jj f n pool m cols).isSome]/\Sc w' tv (Jj f n pool m cols))
theorem NH.open {w:World}{x:Value}(h:NH w x n f pool):∃ av pv iv ab cb,x=.agg #[av,.slice (some ab) n cb,pv,iv]/\(Value.agg #[av,.slice (some ab) n cb,pv,iv]).cells.toList=[av,.slice (some ab) n cb,pv,iv]/\(∀ u ∈ [av,.slice (some ab) n cb,pv,iv],u.oneCell'=true):=by
 obtain⟨av,bv,pv,iv,rfl,h0,h01,hA,hP,us,hR,hul,hus⟩:=h;obtain⟨ab,cb,rfl,_⟩:=hA;obtain⟨pp,cp,rfl⟩:=hP.len;obtain⟨pi,ci,ei⟩:=hR.len;subst ei;refine⟨av,_,_,ab,cb,rfl,?_,?_⟩
 ·show (Array.toList _)=_;simp[Value.cells,h01]
 ·intro u hu;simp only[Cw,LN,or_false]at hu;rcases hu with rfl | rfl | rfl | rfl
  ·exact h0
  ·rfl
  ·rfl
  ·rfl
theorem SQ (hF:BQ n f) (hn:n<=8) (hpp:Xo n pool) (hpl:pool.length<=200000) (ih:∀ m',m=m'+1->A5R n f pool m'):A5R n f pool m:=by
 intro cols w x cv hm hS hC hcp;obtain⟨pc,cc,rfl⟩:=hC.len;obtain⟨av,pv,iv,ab,cb,rfl,hcs,_⟩:=hS.open;refine cS func166 ntmps166 ?_;refine Nv ?_;refine .s (oB) ?_;rintro _ w1 ⟨rfl,B2,hx1,hz1⟩;rw[hcs]at B2;refine A7 ?_;refine .p FW ?_;refine .r rfl ?_;cases m with
 | zero =>
  refine .a 1 (.bool true) rfl (by rw[beq_iff_eq.2 oo]) ?_;refine A7 ?_;refine .ct ?_;exact Ad.aC A8 [_,_] rfl ⟨rfl,rfl,trivial⟩ ⟨hx1,_,rfl,⟨rfl,rfl⟩,fun t e=>by unfold Jj at e;cases e;exact hC.ext hx1⟩
 | succ m =>
  refine .a 1 (.bool false) rfl (by rw[beq_eq_false_iff_ne.2 oo]) ?_;refine A7 ?_;refine .cf ?_;refine .p (A0.aA A8 rfl rfl rfl B2 (Ai 4) rfl) ?_;refine .r rfl ?_;refine .s (oK Gi (Mz (hS.ext hx1) hF hn (hC.ext hx1) hcp oo hpp hpl)) ?_;rintro L w2 ⟨hx2,hL⟩;have hx02:=hx1.trans hx2;have hcl:=VT f n pool cols;have hlm:=fun y (hy:y ∈ FT f n pool cols)=>VS hpp hy;have hfirst:Jj f n pool (m+1) cols=Ji (fun x=>Jj f n pool m (cols++[x])) (FT f n pool cols):=rfl;rw[hfirst];generalize FT f n pool cols=cs at *
  obtain⟨pl,cl,rfl⟩:=hL.len;refine A7 ?_;refine H6 (21) (0) (cs.length) [(1,.slice pc cols.length cc),(2,.pointer (some ⟨w.heap.size,0,none⟩)),(19,.slice pl cs.length cl),(20,.int .i64 cs.length)] (fun i w'=>Ac w2 w'/\Ji (fun x=>Jj f n pool m (cols++[x])) cs=Ji (fun x=>Jj f n pool m (cols++[x])) (cs.drop i)) ?_ ?_ ?_
  ·exact⟨Ac.refl _,by rw[FE]⟩
  ·rintro i w3 hi ⟨hx3,hfi⟩;have hx03:=hx02.trans hx3;obtain⟨a,_,u,e1,hcell,hU⟩:=(hL.ext hx3).at hi;cases e1;rw[ED hi]at hfi;obtain⟨hyl,hyt⟩:=hlm _ (DU hi);generalize cs[i]=y at *
   have B23:=(B2.ext hx2).ext hx3;have hcp':VR n (cols++[y]):=fun c hc=>by
    rcases FB.1 hc with hc | hc
    ·exact hcp c hc
    ·rw[Du]at hc;rw[hc];exact⟨hyl,hyt⟩
   have hcl':(cols++[y]).length+m=n:=by rw[Bf,Kk];omega
   obtain⟨o,ho⟩:∃ o,o=Jj f n pool m (cols++[y]):=⟨_,rfl⟩;have hrec:∀ (w:World) (v:Value),NH w (.agg #[av,.slice (some ab) n cb,pv,iv]) n f pool->Ft w v (cols++[y])->Calls prog 166 #[.agg #[av,.slice (some ab) n cb,pv,iv],v] w (AJ fun r w'=>Ac w w'/\∃ tv,r=.tuple #[tv,.bool o.isSome]/\Sc w' tv o):=fun w v h1 h2=>by rw[ho];exact ih m rfl (cols++[y]) w _ v hcl' h1 h2 hcp'
   refine Nv ?_;refine .p (A0.ia) ?_;refine .p (rL hcell) ?_;refine A7 ?_;refine St.sub (E':=[(21,.int .i64 i),(1,.slice pc cols.length cc),(2,.pointer (some ⟨w.heap.size,0,none⟩)),(19,.slice (some a) cs.length cl),(20,.int .i64 cs.length),(7,u)]) ?_ AL;refine St.draw 9 [(26,Is (.agg #[av,.slice (some ab) n cb,pv,iv])),(27,Is (.slice pc cols.length cc)),(28,Is u),(29,fun v w'=>Ft w' v (cols++[y])),(30,fun v w'=>∃ tv,v=.tuple #[tv,.bool o.isSome]/\Sc w' tv o),(25,fun v w'=>∃ tv,v=.tuple #[tv,.bool o.isSome]/\Sc w' tv o),(31,fun v w'=>Sc w' v o),(32,Is (.bool o.isSome)),(8,fun v w'=>Sc w' v o)] Dv kr rfl kr kr ⟨Is.mono _,Is.mono _,Is.mono _,fun _ _ _ hx hv=>hv.ext hx,fun _ _ _ hx ⟨t,e,hv⟩=>⟨t,e,hv.ext hx⟩,fun _ _ _ hx ⟨t,e,hv⟩=>⟨t,e,hv.ext hx⟩,fun _ _ _ hx hv=>hv.ext hx,Is.mono _,fun _ _ _ hx hv=>hv.ext hx,trivial⟩ ?_ ?_
   ·refine⟨?_,?_,?_,?_,?_,?_,?_,?_,?_,trivial⟩
    ·exact fun wk hxk=>CD.run rfl rfl rfl rfl (A0.aA A8 rfl rfl rfl (B23.ext hxk) (Ai 4) rfl) rfl
    ·exact fun wk hxk=>oP
    ·exact fun wk hxk=>oP
    ·rintro wk hxk _ rfl _ rfl;refine oC OP (P9 (hC.ext (hx03.trans hxk)) (hU.ext hxk) oo) ?_;rintro v w' ⟨hx,hv⟩;exact⟨hx,hv⟩
    ·rintro wk hxk _ rfl t29 h29;refine oC IU (hrec _ _ (hS.ext (hx03.trans hxk)) h29) ?_;rintro v w' ⟨hx,tv,e,hv⟩;exact⟨hx,tv,e,hv⟩
    ·rintro wk hxk _ ⟨tv,rfl,hv⟩;exact CD.pure A8 rfl rfl rfl rfl rfl ⟨tv,rfl,hv⟩
    ·rintro wk hxk _ ⟨tv,rfl,hv⟩;exact CD.pure A8 rfl rfl rfl rfl rfl hv
    ·rintro wk hxk _ ⟨tv,rfl,hv⟩;exact oP
    ·rintro wk hxk tv hv;exact CD.pure A8 rfl rfl rfl rfl rfl hv
   rintro w4 hx4 _ rfl _ rfl _ rfl _ _ _ _ _ _ _ _ _ rfl t8 h8 _;have hx24:=hx3.trans hx4;rw[A21 ho.symm]at hfi;refine A7 ?_;cases o with
   | none =>
    refine .cF ?_;refine Nv ?_;exact Ad.rnd AL ⟨hx24,hfi⟩
   | some t =>
    refine .ct ?_;refine Ad.aC A8 [_,_] rfl ⟨rfl,rfl,trivial⟩ ⟨hx02.trans hx24,t8,?_,?_⟩
    ·rw[hfi];rfl
    ·rw[hfi];exact h8
  ·rintro w3 ⟨hx3,hfi⟩;rw[Kj]at hfi;refine A7 ?_;refine Ad.aC A8 [_,_] rfl ⟨rfl,rfl,trivial⟩ ⟨hx02.trans hx3,.slice none 0 0,?_,⟨rfl,rfl⟩,fun t e=>?_⟩
   ·rw[hfi];rfl
   ·rw[hfi]at e;cases e
theorem A0k (hF:BQ n f) (hn:n<=8) (hpp:Xo n pool) (hpl:pool.length<=200000):∀ m,A5R n f pool m:=by
 intro m;induction m with
 | zero=>exact SQ hF hn hpp hpl (fun m' e=>by omega)
 | succ m ihm=>exact SQ hF hn hpp hpl (fun m' e=>by
   have e2:m'=m:=by omega
   subst e2;exact ihm)
theorem Sd (hred:Ie M) (hcnt:(Gs (ent M) M.length (PS (ent M) M.length) M.length []).length<=8193):Xo M.length (KN (ent M) M.length)/\(KN (ent M) M.length).length<=16386:=by
 have hF:=hred.bq.1;have hn:1<=M.length/\M.length<=8:=⟨hred.1.1,hred.2.2.1⟩;have hg0:=VJ (ent M) M.length;have hg1:PS (ent M) M.length<=262144:=YF oo (fun i hi=>by have:=hF.ent hn.2 hi hi;omega);have hit:=fun (it:DF) (hm:it ∈ itI (ent M) M.length (PS (ent M) M.length))=>(by
  rcases Ou hm with hm | ⟨hm,_⟩
  ·cases hm
  ·have h1:=(R5 hF hg0 hm).1;exact⟨h1,A1X hF hn.2 ⟨hg0,by omega⟩ hm⟩:it.2.length=M.length/\EA it.2)
 have hitl:(itI (ent M) M.length (PS (ent M) M.length)).length<=8193:=by have:=Lr (Sb (ent M) M.length (PS (ent M) M.length)) [];rw[Ow]at this;unfold itI;simp only[Fj]at this;omega
 unfold KN;refine⟨fun z hz=>?_,?_⟩
 ·rcases Ls.1 hz with hz | ⟨q,hq,hz⟩
  ·cases hz
  ·obtain⟨h1,h2⟩:=hit q hq;rcases hz with rfl | rfl
   ·exact⟨h1,h2⟩
   ·refine⟨by dsimp only;rw[QY];exact h1,fun c hc=>?_⟩;unfold YZ at hc;obtain⟨d,hd,rfl⟩:=CG.1 hc;have:=h2 d hd;omega
 ·rw[Ov];simp only[Fj];omega
theorem A3Y (n j:Nat):EA (Ek n j):=fun y hy=>by unfold Ek at hy;obtain⟨i,_,rfl⟩:=CG.1 hy;split <;> omega
theorem VU:VR n (Co n k):=fun c hc=>by unfold Co at hc;obtain⟨j,_,rfl⟩:=CG.1 hc;exact⟨Im n j,A3Y n j⟩
def A9b (w:World) (v:Value) (n:Nat) (g:Nat->Nat):Prop:=∃ us,Aq 1 200 0 w v us/\us.length=n/\∀ (j:Nat) (u:Value),us[j]?=some u->∃ p c,u=.slice p (g j) c
theorem A3Z {w:World}(h:Ft w hv M) (h64:Lj M) (hred:Ie M) (hcnt:(Gs (ent M) M.length (PS (ent M) M.length) M.length []).length<=8193) :
  Calls prog 116 #[hv] w (AJ fun x w'=>Ac w w'/\A9b w' x M.length (fun i=>(Wz (ent M) M.length (KN (ent M) M.length) i).length)):=by
 have hF:=hred.bq.1;have hn:1<=M.length/\M.length<=8:=⟨hred.1.1,hred.2.2.1⟩;obtain⟨hpp,hpl⟩:=Sd hred hcnt;obtain⟨ph,ch,e⟩:=h.len;subst e;refine cS func116 ntmps116 ?_;refine A7 ?_;refine .s (oK UD (YH h h64 hred hcnt)) ?_;rintro x w1 ⟨hx1,hS⟩;generalize KN (ent M) M.length=pool at *
 generalize ent M=f at *
 clear hcnt h64 hred;obtain⟨av,pv,iv,ab,cb,rfl,hcs,hones⟩:=hS.open;generalize M.length=n at *
 clear h;refine .s (oA) ?_;rintro _ w2 ⟨rfl,B3,hx2,hz2⟩;refine Af.step0 rfl rfl (Av.store A8 (vs:=[av,.slice (some ab) n cb,pv,iv]) rfl rfl rfl hcs rfl B3 (Ai 4) hones) ?_;rintro _ w3 ⟨B4,hu3⟩;replace B4:Aj 202 w3 w1.heap.size [av,.slice (some ab) n cb,pv,iv]:=B4;have hx13:Ac w1 w3:=hx2.aj hu3 AO;have hS3:=hS.ext hx13;clear hS;refine A7 ?_;refine sG (17) (0) (n) (fun g:Value=>[(4,g),(0,.slice ph n ch),(3,.pointer (some ⟨w1.heap.size,0,none⟩)),(15,.slice ph n ch),(16,.int .i64 n)]) (fun i g w'=>Ac w3 w'/\∃ us,Aq 1 200 w3.heap.size w' g us/\us.length=i/\∀ (j:Nat) (u:Value),us[j]?=some u->∃ p c,u=.slice p (Wz f n pool j).length c) (.slice none 0 0) ?_ ?_ ?_
 ·exact⟨Ac.refl _,[],Aq.nil,rfl,fun j u hj=>by simp at hj⟩
 ·rintro i g w4 hi ⟨hx4,us,hR,hul,hus⟩;refine A7 ?_;refine .s (oK XG (A20 w4 (n:=n) (k:=i) oo oo)) ?_;rintro U w5 ⟨hx5,hU⟩;have hx35:=hx4.trans hx5;obtain⟨pu,cu,rfl⟩:=hU.len;rw[Io]at hU ⊢;refine A7 ?_;refine .p (A0.aA A8 rfl rfl rfl (B4.ext hx35) (Ai 4) rfl) ?_;refine .r rfl ?_;refine .s (oK Gi (Mz (hS3.ext hx35) hF hn.2 hU.m64 VU (by rw[Io];exact hi) hpp oo)) ?_;rintro L w6 ⟨hx6,hL⟩;have hx36:=hx35.trans hx6;have hcl:=VT f n pool (Co n i);have hlm:=fun y (hy:y ∈ FT f n pool (Co n i))=>VS hpp hy;have hlev:(Wz f n pool i).length=((FT f n pool (Co n i)).filter (fun x=>(Jj f n pool (n - i - 1) (Co n i++[x])).isSome)).length:=rfl;generalize FT f n pool (Co n i)=cs at *
  have hU6:=hU.m64.ext hx6;have hcol:VR n (Co n i):=VU;have hcoll:=Io n i;clear hU;obtain⟨pl,cl,rfl⟩:=hL.len;refine A7 ?_;refine sG (28) (0) (cs.length) (fun q:Value=>[(6,q),(7,.slice pu i cu),(26,.slice pl cs.length cl),(27,.int .i64 cs.length),(17,.int .i64 i),(5,.int .i64 i),(4,g),(0,.slice ph n ch),(3,.pointer (some ⟨w1.heap.size,0,none⟩)),(15,.slice ph n ch),(16,.int .i64 n)]) (fun k q w'=>Ac w6 w'/\∃ vs,Aq 1 25 w6.heap.size w' q vs/\vs.length=((cs.take k).filter (fun x=>(Jj f n pool (n - i - 1) (Co n i++[x])).isSome)).length) (.slice none 0 0) ?_ ?_ ?_
  ·exact⟨Ac.refl _,[],Aq.nil,rfl⟩
  ·rintro k q w7 hk ⟨hx7,vs,hQ,hvl⟩;have hx37:=hx36.trans hx7;obtain⟨a,_,u,e1,hcell,hV⟩:=(hL.ext hx7).at hk;cases e1;have htk:(cs.take (k+1)).filter (fun x=>(Jj f n pool (n - i - 1) (Co n i++[x])).isSome)=(cs.take k).filter (fun x=>(Jj f n pool (n - i - 1) (Co n i++[x])).isSome)++[cs[k]].filter (fun x=>(Jj f n pool (n - i - 1) (Co n i++[x])).isSome):=by rw[DA hk,U7]
   have hfl:=Q8 (fun x=>(Jj f n pool (n - i - 1) (Co n i++[x])).isSome) (cs.take k);rw[EE]at hfl;obtain⟨hyl,hyt⟩:=hlm _ (DU hk);generalize cs[k]=y at *
   have hcp':VR n (Co n i++[y]):=fun c hc=>by
    rcases FB.1 hc with hc | hc
    ·exact hcol c hc
    ·rw[Du]at hc;rw[hc];exact⟨hyl,hyt⟩
   have hcl':(Co n i++[y]).length+(n - i - 1)=n:=by rw[Bf,Kk,hcoll];omega
   have hrec:=fun (w:World) (v:Value) (h1:NH w (.agg #[av,.slice (some ab) n cb,pv,iv]) n f pool) (h2:Ft w v (Co n i++[y]))=>A0k hF hn.2 hpp oo (n - i - 1) (Co n i++[y]) w _ v hcl' h1 h2 hcp';have hok:=fun t (e:Jj f n pool (n - i - 1) (Co n i++[y])=some t)=>A5P hpp _ _ t (fun c hc=>(hcp' c hc).1) e;generalize ho:Jj f n pool (n - i - 1) (Co n i++[y])=o at hrec hok;have hB7:=B4.ext hx37;refine Nv ?_;refine .p (A0.ia) ?_;refine .p (rL hcell) ?_;refine A7 ?_;refine St.sub (E':=[(28,.int .i64 k),(6,q),(7,.slice pu i cu),(26,.slice (some a) cs.length cl),(27,.int .i64 cs.length),(17,.int .i64 i),(5,.int .i64 i),(4,g),(0,.slice ph n ch),(3,.pointer (some ⟨w1.heap.size,0,none⟩)),(15,.slice ph n ch),(16,.int .i64 n),(9,u)]) ?_ AL;refine St.draw 9 [(33,Is (.agg #[av,.slice (some ab) n cb,pv,iv])),(34,Is (.slice pu i cu)),(35,Is u),(36,fun v w'=>Ft w' v (Co n i++[y])),(37,fun v w'=>∃ tv,v=.tuple #[tv,.bool o.isSome]/\Sc w' tv o),(32,fun v w'=>∃ tv,v=.tuple #[tv,.bool o.isSome]/\Sc w' tv o),(38,fun v w'=>Sc w' v o),(39,Is (.bool o.isSome)),(10,fun v w'=>Sc w' v o)] Dv kr rfl kr kr ⟨Is.mono _,Is.mono _,Is.mono _,fun _ _ _ hx hv=>hv.ext hx,fun _ _ _ hx ⟨t,e,hv⟩=>⟨t,e,hv.ext hx⟩,fun _ _ _ hx ⟨t,e,hv⟩=>⟨t,e,hv.ext hx⟩,fun _ _ _ hx hv=>hv.ext hx,Is.mono _,fun _ _ _ hx hv=>hv.ext hx,trivial⟩ ?_ ?_
   ·refine⟨?_,?_,?_,?_,?_,?_,?_,?_,?_,trivial⟩
    ·exact fun wk hxk=>CD.run rfl rfl rfl rfl (A0.aA A8 rfl rfl rfl (hB7.ext hxk) (Ai 4) rfl) rfl
    ·exact fun wk hxk=>oP
    ·exact fun wk hxk=>oP
    ·rintro wk hxk _ rfl _ rfl;refine oC OP (P9 (hU6.ext (hx7.trans hxk)) (hV.ext hxk) oo) ?_;rintro v w' ⟨hx,hv⟩;exact⟨hx,hv⟩
    ·rintro wk hxk _ rfl t29 h29;refine oC IU (hrec _ _ (hS3.ext (hx37.trans hxk)) h29) ?_;rintro v w' ⟨hx,tv,e,hv⟩;exact⟨hx,tv,e,hv⟩
    ·rintro wk hxk _ ⟨tv,rfl,hv⟩;exact CD.pure A8 rfl rfl rfl rfl rfl ⟨tv,rfl,hv⟩
    ·rintro wk hxk _ ⟨tv,rfl,hv⟩;exact CD.pure A8 rfl rfl rfl rfl rfl hv
    ·rintro wk hxk _ ⟨tv,rfl,hv⟩;exact oP
    ·rintro wk hxk tv hv;exact CD.pure A8 rfl rfl rfl rfl rfl hv
   rintro w8 hx8 _ rfl _ rfl _ rfl _ _ _ _ _ _ _ _ _ rfl t10 h10 _;have hx68:=hx7.trans hx8;refine A7 ?_;cases o with
   | none =>
    refine .cF ?_;refine Nv ?_;refine Ad.aO q AL ⟨hx68,vs,hQ.ext hx8,?_⟩;rw[htk,U8,ho];simpa using hvl
   | some t =>
    obtain⟨k1,k2⟩:=hok t rfl;rw[Bf,Kk,hcoll]at k1;refine .ct ?_;refine .s (Av.call Wj rfl (A0j (n:=n) (h10.2 t rfl) oo k2 oo)) ?_;rintro m w9 ⟨hx9,hm1,hm2⟩;have hx69:=hx68.trans hx9;refine Af.aZ (hQ.ext (hx8.trans hx9)) (.inl ⟨rfl,hm1,hm2⟩) rfl rfl rfl rfl rfl rfl (fun _=>rfl) rfl rfl oo rfl hx69.size ?_;intro p7 v7 wA hR7 hX7 hB7 _ _;refine A7 ?_;refine Ad.aO v7 AL ⟨hX7 w6 hx69 AO,_,hR7,?_⟩;rw[htk,U8,ho];simp[hvl]
  ·rintro q w7 ⟨hx7,vs,hQ,hvl⟩;rw[D5,<- hlev]at hvl;have hx37:=hx36.trans hx7;have hx47:=(hx5.trans hx6).trans hx7;obtain⟨pq,cq,rfl⟩:=hQ.len;rw[hvl]at hQ ⊢;refine A7 ?_;refine Af.aZ (hR.ext hx47) (.inl ⟨rfl,rfl,rfl⟩) rfl rfl rfl rfl rfl rfl (fun _=>rfl) rfl rfl oo rfl hx37.size ?_;intro p7 v7 wA hR7 hX7 hB7 _ _;refine A7 ?_;refine Ad.aO v7 AL ⟨hX7 w3 hx37 AO,_,hR7,by simp;omega,fun j u hj=>?_⟩;by_cases hlt:j<us.length
   ·rw[BM hlt]at hj;exact hus j u hj
   ·have hje:j=i:=by have:=(Au.1 hj).1;simp at this;omega
    subst hje;rw[Es oo,hul,J6]at hj;simp at hj;exact⟨_,_,hj.symm⟩
 ·rintro g w4 ⟨hx4,us,hR,hul,hus⟩;refine A7 ?_;exact uR ⟨(hx1.trans hx13).trans hx4,us,hR.mono BI,hul,hus⟩
def A0l (g:Nat->Nat):Nat->Int
 | 0=>1
 | i+1=>A0l g i * (g i:Int)
theorem YI (f:Nat->Nat->Int) (n:Nat) (pool:List DF):∀ k,A1W f n pool k=A0l (fun i=>(Wz f n pool i).length) k
 | 0=>rfl
 | k+1=>by show A1W f n pool k * _=A0l _ k * _;rw[YI f n pool k]
theorem YJ {g:Nat->Nat}(hg:∀ i,g i<=200000):∀ k,sz (A0l g k)<=2+2 * k
 | 0=>by show sz 1<=_;have:=Bn (a:=1) oo oo;omega
 | k+1=>by have h1:=YJ hg k;have h2:=Bt (A0l g k) (g k:Int);have h3:=hg k;have h4:=Bn (a:=(g k:Int)) oo oo;show sz (A0l g k * (g k:Int))<=_;omega
theorem VV {w:World}{v:Value}{g:Nat->Nat}(h:A9b w v n g) (hn:n<=1000) (hg:∀ i,g i<=200000) :
  Calls prog 115 #[v] w (AJ fun x w'=>Ac w w'/\Ao 0 w' x (A0l g n)):=by
 obtain⟨us,hR,hul,hus⟩:=h;obtain⟨p,cap,rfl⟩:=hR.len;rw[hul];refine cS func115 ntmps115 ?_;refine Nv ?_;refine .s (oA) ?_;rintro _ w1 ⟨rfl,B2,hx1,hz1⟩;refine A7 ?_;refine .s (oK AW (Ba (base:=0) w1 1 oo oo BI)) ?_;rintro a1 w2 ⟨hx2,h1⟩;have hx02:=hx1.trans hx2;refine .s (oA) ?_;rintro _ w3 ⟨rfl,B3,hx3,hz3⟩;refine sC B3 (h1.ext hx3) hx3 AO ?_;intro w4 B4 hu4 h4 hx4;have hx04:=hx02.trans hx4;refine A7 ?_;refine sG (9) (0) (n) (fun u:Value=>[(2,.pointer (some ⟨w.heap.size,0,none⟩)),(3,.pointer (some ⟨w2.heap.size,0,none⟩)),(7,.slice p n cap),(8,.int .i64 n)]) (fun i u w'=>Ac w2 w'/\Aj 37 w' w2.heap.size u.cells.toList/\Ao 0 w' u (A0l g i)) (a1) ?_ ?_ ?_
 ·exact⟨hx4,B4,h4⟩
 ·rintro i u w5 hi ⟨hx5,B5,h5⟩;have hu:us[i]?=some us[i]:=by simp[hul,hi]
  obtain⟨pj,cj,e⟩:=hus i _ hu;have hs1:=YJ hg i;have hs2:=hg i;obtain⟨a,c',ev,hcell⟩:=(hR.ext (hx02.trans hx5)).cells.at hR.1 hu;rw[hul]at ev;cases ev;have hcl:=hcell 0 _ (by rw[e];rfl);rw[Cf,Ep]at hcl;refine Nv ?_;refine .p (A0.ia) ?_;refine .p (rL hcl) ?_;refine A7 ?_;refine St.sub (E':=[(2,.pointer (some ⟨w.heap.size,0,none⟩)),(3,.pointer (some ⟨w2.heap.size,0,none⟩)),(7,.slice (some a) n cap),(8,.int .i64 n),(9,.int .i64 i),(5,.slice pj (g i) cj)]) ?_ AL;refine sF 4 ?_;refine .on (fun _ hR=>rC (hR.blk B5 sm) h5) ?_;refine .q ?_;refine FL.au AW rfl rfl rfl (fun w6 hx6=>cM (Ba (base:=0) w6 (g i:Int) oo oo BI)) (Am.aF 0 _) ?_;refine FL.aG rfl ?_;intro w6 hx6 z hz _ _;replace h5:=h5.ext hx6;have hs3:=Bn (a:=(g i:Int)) oo oo;refine .s (oK BP (Dy (base:=0) (h5.dn oo) (hz.dn oo) BI)) ?_;rintro y w7 ⟨hx7,hy⟩;refine Af.aK rfl rfl ((B5.ext hx6).ext hx7) (h5.two.1) hy ((hx5.trans hx6).trans hx7) AO ?_;intro w8 B8 hu8 h8 hx8;refine A7 ?_;exact Ad.aO y AL ⟨hx8,B8,h8⟩
 ·rintro u w5 ⟨hx5,B5,h5⟩;refine A7 ?_;refine .p (rC B5 h5) ?_;refine sC (B2.ext (hx2.trans hx5)) h5 (hx02.trans hx5) AO ?_;intro w6 B6 hu6 h6 hx6;refine A7 ?_;exact Ad.cE rfl rfl B6 h6 ⟨hx6,h6⟩
theorem A22 {w:World}(h:Ft w hv M) (h64:Lj M) (hred:Ie M) {b:Int}(hb:0<=b/\b<=100000) :
  Calls prog 114 #[hv,.int .i64 b] w (AJ fun x w'=>Ac w w'/\∃ e,x=.int .i64 e/\(e=0->(Gs (ent M) M.length (PS (ent M) M.length) M.length []).length<=8193)):=by have hF:=hred.bq.1;have hn:1<=M.length/\M.length<=8:=⟨hred.1.1,hred.2.2.1⟩;have hg0:=VJ (ent M) M.length;have hg1:PS (ent M) M.length<=262144:=YF oo (fun i hi=>by have:=hF.ent hn.2 hi hi;omega);refine cS func114 ntmps114 ?_;refine A7 ?_;refine .s (oK G3 (Gq h h64)) ?_;rintro _ w1 ⟨hx1,c,rfl,hc⟩;obtain rfl:=hc.2 hred;refine A7 ?_;refine .cf ?_;refine .s (oK Mw (P8 ((hred.at h).ext hx1) oo)) ?_;rintro _ w2 ⟨hx2,rfl⟩;have hx02:=hx1.trans hx2;refine .r rfl ?_;refine .s (oK UC (VO (h.ext hx02) h64 hred ⟨hg0,by omega⟩ hb)) ?_;rintro _ w3 ⟨hx3,u,c,e,rfl,he⟩;refine A7 ?_;exact Ad.ax rfl rfl ⟨hx02.trans hx3,e,rfl,he⟩
theorem A2J:∀ k s,s<=i->i<s+k->MJ ((List.range' s k).map (fun j=>if j=i then (1:Int) else 0))=1
 | 0,s,h1,h2=>by omega
 | k+1,s,h1,h2=>by
  rw[List.range'_succ,Er];unfold MJ;by_cases e:s=i
  ·simp[e]
  ·rw[if_neg e,if_pos rfl];exact A2J k (s+1) oo oo
theorem A2K (hi:i<n):IJ f n (Ek n i)=f i i:=by rw[<- A2G (f:=f) hi hi];unfold IJ ipI;rw[Im,J6];exact Bo fun i _=>by rw[Bo fun j _=>by rw[Ny]]
theorem A40 (hred:Ie M):∀ i,i<M.length->(ent M i i,Ek M.length i) ∈ KN (ent M) M.length:=by
 intro i hi;have h1:Ek M.length i ∈ Gs (ent M) M.length (PS (ent M) M.length) M.length []:=(Uk hred.bq.1 (VJ _ _) _).2 ⟨Im _ _,by rw[A2K hi];exact A5L hi⟩;have h2:(ent M i i,Ek M.length i) ∈ Sb (ent M) M.length (PS (ent M) M.length):=CG.2 ⟨_,h1,by unfold A0h;rw[A2K hi]⟩;have h3:MJ (Ek M.length i)=1:=by unfold Ek;rw[List.range_eq_range'];exact A2J _ 0 BI oo
 exact Ls.2 (.inr ⟨_,Xk h3 h2,.inl rfl⟩)
def KD (M:List (List Int)):Int:=A1W (ent M) M.length (KN (ent M) M.length) M.length
theorem A41 (hred:Ie M):1<=KD M:=A2H (A40 hred) _ AO
theorem A2L (i:Nat):(Wz f n pool i).length<=pool.length:=by have h1:=Q8 (fun x=>(Jj f n pool (n - i - 1) (Co n i++[x])).isSome) (FT f n pool (Co n i));have h2:=VT f n pool (Co n i);show (List.filter _ _).length<=_;omega
theorem A5S (hred:Ie M) (hcnt:(Gs (ent M) M.length (PS (ent M) M.length) M.length []).length<=8193):sz (KD M)<=20:=by obtain⟨_,hpl⟩:=Sd hred hcnt;have hn:1<=M.length/\M.length<=8:=⟨hred.1.1,hred.2.2.1⟩;unfold KD;rw[YI];have:=YJ (g:=fun i=>(Wz (ent M) M.length (KN (ent M) M.length) i).length) (fun i=>Ar (A2L i) oo) M.length;omega
theorem A23 {w:World}(h:Ft w hv M) (h64:Lj M) (hred:Ie M) {b:Int}(hb:0<=b/\b<=100000) :
  Calls prog 64 #[hv,.int .i64 b] w (AJ fun x w'=>Ac w w'/\∃ u e,x=.tuple #[u,.int .i64 e]/\(e=0/\sz (KD M)<=20/\Ao 0 w' u (KD M)\/e≠0/\Ao 0 w' u 0)):=by
 have hn:1<=M.length/\M.length<=8:=⟨hred.1.1,hred.2.2.1⟩;refine cS func64 ntmps64 ?_;refine Nv ?_;refine .s (oA) ?_;rintro _ w1 ⟨rfl,B4,hx1,hz1⟩;refine A7 ?_;refine .s (oK XF (A22 (h.ext hx1) h64 hred hb)) ?_;rintro _ w2 ⟨hx2,e,rfl,he⟩;have hx02:=hx1.trans hx2;by_cases h0:e=0
 ·have hcnt:=he h0;subst h0;refine A7 ?_;refine .cf ?_;refine .s (oK Z7 (A3Z (h.ext hx02) h64 hred hcnt)) ?_;rintro v w3 ⟨hx3,hv⟩;obtain⟨_,hpl⟩:=Sd hred hcnt;refine .s (oK Ux (VV hv oo (fun i=>Ar (A2L i) oo))) ?_;rintro u w4 ⟨hx4,hu⟩;rw[<- YI]at hu;refine sC (((B4.ext hx2).ext hx3).ext hx4) hu ((hx02.trans hx3).trans hx4) AO ?_;intro w5 B5 hu5 h5 hx5;refine A7 ?_;exact Ad.aC A8 [u,.int .i64 0] rfl ⟨⟨_,_,_,_,rfl,B5,rfl,rfl,h5.two.1,by simpa using h5.agg⟩,rfl,trivial⟩ ⟨hx5,u,0,rfl,.inl ⟨rfl,A5S hred hcnt,h5⟩⟩
 ·refine .r rfl ?_;refine Nv ?_;refine .a 11 (.bool true) rfl (by simp[h0]) ?_;refine A7 ?_;refine .ct ?_;refine .p (rB) ?_;refine .r rfl ?_;refine Af.aK (a:=0) (base:=0) (v:=zI) rfl rfl (B4.ext hx2) rfl (DS 0 _) hx02 AO ?_;intro w5 B5 hu5 h5 hx5;refine A7 ?_;exact Ad.aC A8 [_,.int .i64 e] rfl ⟨⟨_,_,_,_,rfl,B5,rfl,rfl,h5.two.1,by simpa using h5.agg⟩,rfl,trivial⟩ ⟨hx5,_,e,rfl,.inr ⟨h0,h5⟩⟩
theorem A42 (c:i<M.length):M.take (i+1)=M.take i++[M.getD i []]:=by rw[DA c];simp[Bd,c]
theorem WC {w:World}{v:Value}(h:Ft w v M) (L:M.length<=1000) (G:∀ row ∈ M,row.length<=1000) :
  Calls prog 65 #[v] w (AJ fun x w'=>Ac w w'/\Ee 0 w' x M):=by
 obtain⟨p,cap,e⟩:=h.len;subst e;refine cS func65 ntmps65 ?_;refine A7 ?_;refine sG (8) (0) (M.length) (fun g:Value=>[(3,g),(6,.slice p M.length cap),(7,.int .i64 M.length)]) (fun i g w'=>Ac w w'/\Ee w.heap.size w' g (M.take i)) (.slice none 0 0) ?_ ?_ ?_
 ·exact⟨Ac.refl _,Ee.nil _ _⟩
 ·rintro i g w1 k ⟨j,d⟩;obtain⟨a,_,r,e1,D,H⟩:=(h.ext j).rowAt k;cases e1;rw[A42 k];have N:(M.getD i []).length<=1000:=G _ (Bi (show M[i]?=some (M.getD i []) by simp[Bd,k]));generalize M.getD i []=row at *
  refine Nv ?_;refine .p (A0.ia) ?_;refine .p (rL D) ?_;refine A7 ?_;refine .s (Av.appL (base:=w1.heap.size) Aq.nil H (fun c B=>?_) rfl rfl rfl rfl rfl rfl (by simp;omega) rfl AO) ?_
  ·obtain⟨y,_,rfl⟩:=CG.1 B;exact⟨rfl,rfl⟩
  rintro v1 w2 ⟨m,E,_⟩;have t:Ac w1 w2:=Lu E;rw[HX]at m;have o:LO w1.heap.size w2 v1 row:=m;have z:=j.trans t;obtain⟨us,n,q⟩:=d.ext t;have I:=q.1;rw[EE]at I;refine Af.aZ n (.inl ⟨rfl,o.one⟩) rfl rfl rfl rfl rfl rfl (fun _=>rfl) rfl rfl oo rfl z.size ?_;intro O J K A u f _ _;have l:Kp 33 w.heap.size w2 K:=⟨u,fun t' b C h F=>f t' b C h (.inl F)⟩;refine A7 ?_;exact Ad.aO J AL ⟨u w z AO,_,A,(q.kp l de).snoc (l.lo (o.mono BI) de)⟩
 ·rintro g w1 ⟨j,d⟩;rw[D5]at d;refine A7 ?_;exact uR ⟨j,d.mono BI⟩
theorem WD (w:World):Calls prog 63 #[.slice none 0 0] w (AJ fun x w'=>Ac w w'/\x=.slice none 0 0):=by
 refine cS func63 ntmps63 ?_;refine A7 ?_;refine H6 (8) (0) (0) [(3,.slice none 0 0),(6,.slice none 0 0),(7,.int .i64 0)] (fun i w'=>Ac w w') ?_ ?_ ?_
 ·exact Ac.refl _
 ·rintro i w1 c;exact absurd c (Nat.not_lt_zero _)
 ·rintro w1 d;refine A7 ?_;exact Ad.ax rfl rfl ⟨d,rfl⟩
theorem WE (w:World) {b:Int}(c:0<=b/\b<=1000000) :
  Calls prog 112 #[.int .i64 b] w (AJ fun x w'=>Ac w w'/\x=.bool true):=by refine cS func112 ntmps112 ?_;refine Nv ?_;refine .r rfl ?_;refine Nv ?_;refine .a 2 (.bool true) rfl (Aa oo) ?_;refine .a 3 (.bool true) rfl (Aa oo) ?_;refine A7 ?_;exact Ad.ax rfl rfl ⟨Ac.refl _,rfl⟩
theorem WG {w:World}(h:Ft w hv M) (g:Lj M) (l:Ie M) {b:Int}(j:0<=b/\b<=1000000) :
  Calls prog 62 #[.slice none 0 0,hv,.int .i64 b] w (AJ fun x w'=>Ac w w'/\x=.tuple #[.int .i64 (-1),.slice none 0 0,.int .i64 0]):=by
 refine cS func62 ntmps62 ?_;refine A7 ?_;refine .cf ?_;refine H6 (21) (0) (0) [(0,.slice none 0 0),(1,hv),(2,.int .i64 b),(19,.slice none 0 0),(20,.int .i64 0)] (fun i w'=>Ac w w') ?_ ?_ ?_
 ·exact Ac.refl _
 ·rintro i w1 d;exact absurd d (Nat.not_lt_zero _)
 ·rintro w1 e;refine A7 ?_;refine .s (oK G3 (Gq (h.ext e) g)) ?_;rintro _ w2 ⟨o,c,rfl,k⟩;obtain rfl:=k.2 l;refine A7 ?_;refine .cf ?_;refine .s (oK T9 (WE w2 j)) ?_;rintro _ w3 ⟨q,rfl⟩;refine A7 ?_;refine .cf ?_;have m:=(e.trans o).trans q;refine H6 (38) (0) (0) [(36,.slice none 0 0),(37,.int .i64 0)] (fun i w'=>Ac w w') ?_ ?_ ?_
  ·exact m
  ·rintro i w1 d;exact absurd d (Nat.not_lt_zero _)
  ·rintro u r;refine A7 ?_;exact Ad.aC A8 [_,_,_] rfl ⟨rfl,rfl,rfl,trivial⟩ ⟨r,rfl⟩
theorem YK (w:World) (z:n<=1000):Calls prog 66 #[.int .i64 n] w (AJ fun x w'=>Ac w w'):=by
 refine cS func66 ntmps66 ?_;refine A7 ?_;refine .s (Av.make A8 n rfl rfl rfl rfl rfl rfl rfl rfl (by show n * 24<=_;omega) oo) ?_;rintro _ w1 ⟨rfl,B1,v,t⟩;refine A7 ?_;refine H6 (9) (0) (n) [(0,.int .i64 n),(3,.slice (some ⟨w.heap.size,0,none⟩) n n),(7,.slice (some ⟨w.heap.size,0,none⟩) n n),(8,.int .i64 n)] (fun i w'=>Ac w w'/\∃ C,Aj 33 w' w.heap.size C/\C.length=n) ?_ ?_ ?_
 ·exact⟨v,_,B1,by simp⟩
 ·rintro i w2 q ⟨c,C,d,e⟩;refine A7 ?_;refine .s (Av.make A8 n rfl rfl rfl rfl rfl rfl rfl rfl (by show n * 8<=_;omega) oo) ?_;rintro _ w3 ⟨rfl,B3,k,a⟩;refine Af.put A8 i (d.ext k) rfl oo oo rfl rfl rfl rfl rfl rfl rfl rfl (fun _=>rfl) (fun _=>rfl) rfl rfl ?_;intro b l B4 g;rw[AE]at B4;have y:=d.lt;have m:=B3.upd g oo;have u:Ac w l:=(c.trans k).aj g AO;refine A7 ?_;have o:l.cell? ((⟨w.heap.size,0,none⟩:Addr).add i)=some (.slice (some ⟨w2.heap.size,0,none⟩) n n):=by rw[Ak,AE];exact B4.cell (by simp[e,q])
  refine .p (A0.ia) ?_;refine .p (rL o) ?_;refine .r rfl ?_;refine Af.put A8 i m rfl oo sm rfl rfl rfl rfl rfl rfl rfl rfl (fun _=>rfl) (fun _=>rfl) rfl rfl ?_;intro f h B5 j;refine A7 ?_;exact Ad.rnd AL ⟨u.aj j (by have:=c.size;omega),_,B4.upd j oo,by simp[e]⟩
 ·rintro w2 ⟨c,_⟩;refine A7 ?_;exact uR c
variable {E:List (Nat×Value)}
theorem Av.dJ {w:World}{pos:String}{a b c:Value}
  (h:AG TB t=some ⟨.slice et,s1,s2,z⟩) (e:AG TB et=some ti) (f:ti.size=3) (s:ti.zero.cells.size=3) (p:ov E x=some u) (hu:u.cells=#[a,b,c]) :
  Av prog n ⟨d,.buildSlice t 1 #[(0,x)],ty,pos,af,g⟩ E w (fun v w'=>v=.slice (some ⟨w.heap.size,0,none⟩) 1 1/\Aj et w' w.heap.size u.cells.toList/\Ac w w'/\w'.heap.size=w.heap.size+1):=by
 intro ac k Q K j;obtain⟨_,inf,o,C,B,A⟩:=A8 et ti e;have e1:=k.eval p;have y:(execOp ac.eval ⟨d,.buildSlice t 1 #[(0,x)],ty,pos,af,g⟩).run prog w=.ok (.value (.slice (some ⟨w.heap.size,0,none⟩) 1 1)) (w.alloc (.cells u.cells et (0,0))):=by
  generalize ac.eval=ρ at e1;have m:∀ zc:Array Value,zc.size=3->Instr.fill (fun i=>some (i * 3,3)) ((Array.range (1 * 3)).map (zc[· % zc.size]!)) [(0,u)]=some u.cells:=by intro zc D;unfold Instr.fill;rw[hu];simp[Instr.fill,show Array.range 3=#[0,1,2] from rfl]
  have q:¬ 1 * 3=0:=by decide
  have r:¬ 1 * 3 > 2 ^ 24:=by decide
  have l:(Instr.buildSlice t 1 #[(0,u)]).run prog w=.ok (.slice (some ⟨w.heap.size,0,none⟩) 1 1) (w.alloc (.cells u.cells et (0,0))):=by unfold Instr.buildSlice;simp only[Bq,Ag A8 h,Bp,AK A8 e,f,if_neg q,if_neg r,zeroValue,BZ o,A,AX,m _ s];simp[newRow,go_sem]
  simp only[execOp,Js,Er,J4,e1,Bq,l,Bp,AX]
 unfold Oper.wp;rw[y,Oper.upon_value];refine j _ _ ⟨rfl,?_,Da _ _,Dc _ _⟩;exact DN _ _ _
theorem Lw {w:World}(h:Aj et w b u.cells.toList):HJ w (.slice (some ⟨b,0,none⟩) 1 1) [u]:=by refine⟨_,1,rfl,Ai _,fun e=>(by cases e),?_⟩;rintro a d j c g;cases d;rw[Ak,AE];exact h.cell (by simpa[AV] using g)
def DnE (w:World) (v:Value) (a:Int):Prop:=∃ neg xs,KP w v neg xs/\sg neg (Ah xs)=a/\xs.length<=20
theorem DnE.ext {w:World}{v:Value}{a:Int}(h:DnE w v a) (e:Ac w w'):DnE w' v a:=by obtain⟨neg,xs,c,d⟩:=h;exact⟨neg,xs,c.ext e,d⟩
theorem DnE.dn {w:World}{v:Value}{a:Int}(h:DnE w v a):Dn w v a:=by obtain⟨neg,xs,c,d,e⟩:=h;exact⟨neg,xs,c,d,by omega⟩
theorem DnE.sz {w:World}{v:Value}{a:Int}(h:DnE w v a):sz a<=20:=by obtain⟨neg,xs,c,rfl,d⟩:=h;exact Ar (A81 c) d
theorem Ao.dnE {w:World}{v:Value}{a:Int}(h:Ao base w v a) (c:Go.Qf.sz a<=20):DnE w v a:=⟨_,_,h.den',WV a,c⟩
abbrev FV:=List (List Int)×Int
def Tt (w:World) (u:Value) (e:FV):Prop:=∃ fv neg mag,u=.agg #[fv,neg,mag]/\(fv.cells=#[fv]/\fv.oneCell'=true)/\(neg.oneCell'=true/\mag.oneCell'=true)/\Ft w fv e.1/\DnE w (.agg #[neg,mag]) e.2
theorem Tt.ext {w:World}{e:FV}(h:Tt w u e) (c:Ac w w'):Tt w' u e:=by obtain⟨fv,neg,mag,d,g,j,k,l⟩:=h;exact⟨fv,neg,mag,d,g,j,k.ext c,l.ext c⟩
theorem Tt.sh {w:World}{e:FV}(h:Tt w u e):∃ a b c,u=.agg #[a,b,c]/\u.cells=#[a,b,c]/\a.oneCell'=true/\b.oneCell'=true/\c.oneCell'=true:=by obtain⟨fv,neg,mag,rfl,d,j,k,l,xs,⟨p,cap,g,_⟩,_⟩:=h;unfold FM at g;cases g;exact⟨fv,_,_,rfl,by simp[Value.cells,d.1],d.2,j⟩
theorem Tt.k3 {w:World}{e:FV}(h:Tt w u e):M8 3 [u]:=by obtain⟨a,b,c,_,g,j,k,l⟩:=h.sh;intro x d;rw[Du]at d;subst d;rw[g];exact⟨rfl,by simp[j,k,l]⟩
def Tu (w:World) (u:Value) (e:FV):Prop:=∃ fv neg mag,u=.agg #[fv,neg,mag]/\Ee 0 w fv e.1/\Ao 0 w (.agg #[neg,mag]) e.2/\Go.Qf.sz e.2<=20
theorem Tu.ext {w:World}{e:FV}(h:Tu w u e) (c:Ac w w'):Tu w' u e:=by obtain⟨fv,neg,mag,d,g,j,k⟩:=h;exact⟨fv,neg,mag,d,g.ext c,j.ext c,k⟩
theorem Tu.v {w:World}{e:FV}(h:Tu w u e):Tt w u e:=by obtain⟨fv,neg,mag,rfl,g,j,l⟩:=h;have o:=j.dnE l;have m:=g.m64;obtain⟨p,c,rfl⟩:=g.len;obtain⟨q,d,k,_⟩:=j;unfold FM at k;cases k;exact⟨_,_,_,rfl,⟨rfl,rfl⟩,⟨rfl,rfl⟩,m,o⟩
theorem Tu.kp {w:World}{e:FV}(h:Tu w u e) (c:Kp 62 base w w'):Tu w' u e:=by obtain⟨fv,neg,mag,d,⟨us,g,j⟩,k,l⟩:=h;exact⟨fv,neg,mag,d,⟨us,c.row g de,j.kp c de⟩,k.typed (fun b C hB=>c.typed _ b C hB de),l⟩
def A24 (w:World) (v:Value) (e:FV):Prop:=∃ u,HJ w v [u]/\Tu w u e
theorem A24.ext {w:World}{v:Value}{e:FV}(h:A24 w v e) (c:Ac w w'):A24 w' v e:=by obtain⟨u,d,g⟩:=h;exact⟨u,d.ext c,g.ext c⟩
theorem A0m {w:World}(h:Ft w hv M) (D:Lj M) (m:Ie M) {b:Int}(L:0<=b/\b<=100000) :
  Calls prog 32 #[.slice none 0 0,hv,.int .i64 b] w (AJ fun x w'=>Ac w w'/\∃ c k t e,x=.tuple #[c,k,t,.int .i64 e]/\(e=0->A24 w' c (M,KD M))):=by
 have V:1<=M.length/\M.length<=8:=⟨m.1.1,m.2.2.1⟩;have Q:∀ row ∈ M,row.length<=1000:=fun row P=>by obtain⟨i,O⟩:=Cx.1 P;have:=m.small.2.1 i row O;omega
 obtain⟨ph,ch,e⟩:=h.len;subst e;refine cS func32 ntmps32 ?_;refine A7 ?_;refine .s (Av.call Z5 rfl (WG h D m oo)) ?_;rintro _ w1 ⟨E,rfl⟩;refine A7 ?_;refine .cf ?_;refine .cf ?_;refine .cf ?_;refine .s (oK XE (A23 (h.ext E) D m L)) ?_;rintro _ w2 ⟨S,u,e,rfl,hu⟩;have R:=E.trans S;have l:∃ a,Ao 0 w2 u a/\(e=0->sz a<=20/\a=KD M):=by
  rcases hu with ⟨h1,h2,h3⟩ | ⟨h1,h2⟩
  ·exact⟨_,h3,fun _=>⟨h2,rfl⟩⟩
  ·exact⟨_,h2,fun e=>absurd e h1⟩
 clear hu;obtain⟨a,hu,J⟩:=l;refine A7 ?_;refine .s (oA) ?_;rintro _ w3 ⟨rfl,B3,F,Y⟩;refine sC B3 (hu.ext F) F AO ?_;intro w4 B4 X p T;have f:=R.trans T;by_cases q:e=0
 ·subst q;obtain⟨K,rfl⟩:=J rfl;refine A7 ?_;refine .cF ?_;generalize W:KD M=o at *
  refine Nv ?_;refine St.sub (E':=[(0,.slice none 0 0),(1,.slice ph M.length ch),(13,.pointer (some ⟨w2.heap.size,0,none⟩))]) ?_ AL;refine sD 14 [(43,Is (.slice none 0 0)),(44,Is (.slice none 0 0)),(45,Is (.slice ph M.length ch)),(46,fun v w'=>Ee 0 w' v M),(47,fun v w'=>Ao 0 w' v o),(48,fun v w'=>Tu w' v (M,o)),(49,fun v w'=>A24 w' v (M,o)),(50,fun v w'=>A24 w' v (M,o)),(51,Is (.slice none 0 0)),(52,Is (.int .i64 0)),(53,Is (.slice ph M.length ch)),(54,Is (.int .i64 M.length)),(55,fun v w'=>True),(6,fun v w'=>A24 w' v (M,o))] ?_ ?_
  ·refine⟨?_,?_,?_,?_,?_,?_,?_,?_,?_,?_,?_,?_,?_,?_,trivial⟩
   ·exact fun g d=>oP
   ·rintro g d _ rfl;refine oC Pe (WD g) ?_;rintro v w' ⟨j,rfl⟩;exact⟨j,rfl⟩
   ·exact fun g d=>oP
   ·rintro g d _ rfl;refine CD.call SY rfl rfl rfl (WC (h.ext (f.trans d)) oo Q) ?_;rintro v w' ⟨j,hv⟩;exact⟨j,hv⟩
   ·exact fun g d=>oR (rC (B4.ext d) p) (p.ext d)
   ·rintro g d hd A he C;have H:=A;obtain⟨Z,c6,rfl⟩:=A.len;have G:=C;obtain⟨p7,c7,rfl,_⟩:=G;exact CD.run rfl rfl rfl rfl (rB) ⟨_,_,_,rfl,H,C,K⟩
   ·rintro g d u hu;obtain⟨x,y,z,e1,e2,_⟩:=hu.v.sh;refine CD.op rfl rfl rfl rfl (Av.dJ rfl rfl rfl rfl rfl e2) ?_;rintro v w' ⟨rfl,B,j,_⟩;exact⟨j,u,Lw B,hu.ext j⟩
   ·rintro g d _ rfl v ⟨u,l,hu⟩;refine CD.op rfl rfl rfl rfl (Av.cV (k:=3) (base:=g.heap.size) Aq.nil l hu.v.k3 rfl rfl rfl rfl rfl rfl rfl sm rfl AO) ?_;rintro v' w' ⟨I,N,_⟩;have j:=Lu N;exact⟨j,u,I.cells,hu.ext j⟩
   ·exact fun g d=>oP
   ·rintro g d _ rfl;exact oP
   ·exact fun g d=>oP
   ·rintro g d _ rfl;exact oP
   ·rintro g d _ rfl;refine CD.call SZ rfl rfl rfl (YK g (n:=M.length) oo) ?_;rintro v w' j;exact⟨j,trivial⟩
   ·rintro g d v hv;exact CD.pure A8 rfl rfl rfl rfl rfl hv
  rintro w5 U _ rfl _ rfl _ rfl _ _ _ _ _ _ _ _ _ _ _ rfl _ rfl _ rfl _ rfl hf _ c l _;refine A7 ?_;exact Ad.aC A8 [_,_,_,_] rfl ⟨rfl,rfl,rfl,rfl,trivial⟩ ⟨f.trans U,_,_,_,0,rfl,fun _=>l⟩
 ·refine .r rfl ?_;refine Nv ?_;refine .a 11 (.bool true) rfl (by simp[q]) ?_;refine A7 ?_;refine .ct ?_;exact Ad.aC A8 [_,_,_,_] rfl ⟨rfl,rfl,rfl,rfl,trivial⟩ ⟨f,_,_,_,e,rfl,fun e0=>absurd e0 q⟩
variable {t2:TypeId}{xs bs:List Nat}{P:Program}{T:List (Nat×TI)}
theorem A0.cJ {w:World}{y:Operand}{pos:String}(c:B8 xs) (j:B8 bs) (k:ov E x=some (MG xs)) (l:ov E y=some (MG bs)) (e:xs=bs) :
  A0 P n ⟨d,.binOp .eql 9 x y t2,ty,pos,af,g⟩ E w (.bool true):=by have:=A0.strEql (P:=P) (n:=n) (w:=w) (d:=d) (t:=9) (t2:=t2) (ty:=ty) (pos:=pos) (af:=af) (g:=g) c j k l;rwa [decide_eq_true e]at this
theorem Av.pairV {w:World}(c:Aw P T) {y:Operand}{pos:String}{p1 p2:Option Addr}{l1 l2 c1 c2:Nat}
  (q:AG T t=some ⟨.slice et,s1,s2,z⟩) (j:AG T et=some ti) (o:ti.size=1) (u:ov E x=some (.slice p1 l1 c1)) (v:ov E y=some (.slice p2 l2 c2)) :
  Av P n ⟨d,.buildSlice t 2 #[(0,x),(1,y)],ty,pos,af,g⟩ E w (fun r w'=>r=.slice (some ⟨w.heap.size,0,none⟩) 2 2/\Aj et w' w.heap.size [.slice p1 l1 c1,.slice p2 l2 c2]/\Ac w w'/\w'.heap.size=w.heap.size+1):=by
 intro a e Q K k;obtain⟨_,inf,l,h,f,b⟩:=c et ti j;have e1:=e.eval u;have e2:=e.eval v;have m:(execOp a.eval ⟨d,.buildSlice t 2 #[(0,x),(1,y)],ty,pos,af,g⟩).run P w=.ok (.value (.slice (some ⟨w.heap.size,0,none⟩) 2 2)) (w.alloc (.cells #[.slice p1 l1 c1,.slice p2 l2 c2] et (0,0))):=by generalize a.eval=ρ at e1 e2;simp[execOp,Instr.buildSlice,e1,e2,Ag c q,AK c j,o,zeroValue,BZ l,b,Instr.fill,newRow,go_sem]
 unfold Oper.wp;rw[m,Oper.upon_value];exact k _ _ ⟨rfl,DN _ _ _,Da _ _,Dc _ _⟩
theorem A2M {w:World}{xs:List Int}(h:Aj e w b (xs.map DZ)):Nh w (.slice (some ⟨b,0,none⟩) xs.length xs.length) xs:=by refine⟨some ⟨b,0,none⟩,xs.length,by rw[Bj],by rw[Bj];exact Ai _,fun e=>(by cases e),?_⟩;rintro a d i c g;cases d;rw[Ak,AE];exact h.cell g
theorem Nt.agg {w:World}{v:Value}(h:Nt w v):∃ a b c d,v=.agg #[a,b,c,d]:=by obtain⟨d,kd,s1,s2,xs,rfl,_⟩:=h;exact⟨_,_,_,_,rfl⟩
theorem A43 {n:Nat}{f:Nat->Nat->Int}(h:BQ n f) (g:n<=8):Lj (mk n n f):=by intro row l x e;obtain⟨i,c⟩:=Cx.1 l;have d:=(Au.1 c).1;rw[AU]at d;rw[BK d]at c;cases c;simp only[CG,CZ]at e;obtain⟨j,k,rfl⟩:=e;have:=h.ent g d k;omega
variable {most:Nat}{es:List FV}
def Ke (w:World) (v:Value) (es:List FV):Prop:=∃ us,HJ w v us/\M8 3 us/\us.length=es.length/\∀ (i:Nat) (u:Value) (e:FV),us[i]?=some u->es[i]?=some e->Tt w u e
theorem Ke.ext {w:World}{v:Value}(h:Ke w v es) (c:Ac w w'):Ke w' v es:=by obtain⟨us,d,g,j,k⟩:=h;exact⟨us,d.ext c,g,j,fun i u e hu l=>(k i u e hu l).ext c⟩
theorem Ke.len {w:World}{v:Value}(h:Ke w v es):∃ p cap,v=.slice p es.length cap:=by obtain⟨us,⟨p,cap,c,_⟩,_,d,_⟩:=h;exact⟨p,cap,by rw[c,d]⟩
def NI (w:World) (us:List Value) (es:List FV):Prop:=us.length=es.length/\∀ (i:Nat) (u:Value) (e:FV),us[i]?=some u->es[i]?=some e->Tu w u e
theorem NI.ext {w:World}(h:NI w us es) (g:Ac w w'):NI w' us es:=⟨h.1,fun i u e c d=>(h.2 i u e c d).ext g⟩
theorem NI.kp {w:World}(h:NI w us es) (g:Kp 62 base w w'):NI w' us es:=⟨h.1,fun i u e c d=>(h.2 i u e c d).kp g⟩
theorem NI.snoc {w:World}{e:FV}(h:NI w us es) (k:Tu w u e):NI w (us++[u]) (es++[e]):=by
 refine⟨by rw[Bf,Bf,h.1];rfl,fun i v y c d=>?_⟩;by_cases g:i<us.length
 ·rw[BM g]at c;rw[BM (by rw[<- h.1];exact g)]at d;exact h.2 i v y c d
 ·rw[Es oo]at c;rw[Es (by rw[<- h.1];omega),<- h.1]at d;cases hj:i - us.length with
  | zero=>rw[hj]at c d;simp at c d;rw[<- c,<- d];exact k
  | succ j=>rw[hj]at c;simp at c
def A0n (most:Nat) (es:List FV):Prop:=∀ e ∈ es,Ie e.1/\e.1.length<=most/\Lj e.1/\1<=e.2
def NJ (w:World) (v:Value) (us:List Value):Prop:=HJ w v us/\M8 4 us/\∀ u ∈ us,Nt w u
theorem NJ.ext {w:World}{v:Value}(h:NJ w v us) (c:Ac w w'):NJ w' v us:=⟨h.1.ext c,h.2.1,fun u hu=>(h.2.2 u hu).ext c⟩
theorem Gm {w:World}{v:Value}{ls:List Value}(h:NJ w v ls) (W:1<=most/\most<=8) :
  Calls prog 9 #[v,.int .i64 most] w (AJ fun x w'=>Ac w w'/\∃ es,Ke w' x es/\es.length<=4/\es.length<=ls.length/\A0n most es):=by
 obtain⟨p,cap,rfl,hk,hn,_⟩:=h.1;refine cS func9 ntmps9 ?_;refine Nv ?_;refine .r rfl ?_;refine Nv ?_;refine .r rfl ?_;refine Nv ?_;refine .r rfl ?_;refine Af.nil (Ad.ak ?_);refine St.cL (fun g:Value=>[(5,g)]) (fun g w'=>Ac w w'/\∃ us es,Aq 3 62 w.heap.size w' g us/\NI w' us es/\es.length<=4/\es.length<=ls.length/\A0n most es) ?_ ?_
 ·refine St.block ?_;refine St.loop (α:=Nat×Value) (fun g=>[(15,.int .i64 g.1),(5,g.2),(1,.int .i64 most),(13,.slice p ls.length cap),(14,.int .i64 ls.length)]) (fun g w'=>Ac w w'/\g.1<=ls.length/\∃ us es,Aq 3 62 w.heap.size w' g.2 us/\NI w' us es/\es.length<=4/\es.length<=g.1/\A0n most es) (fun g=>ls.length - g.1) (0,.slice none 0 0) AL ⟨Ac.refl _,Cu _,[],[],Aq.nil,⟨rfl,fun i u e h=>by simp at h⟩,by simp,by simp,fun e S=>by cases S⟩ ?_;rintro⟨i,g⟩ w1 ⟨m,U,us,es,d,l,b,E,o⟩;dsimp only at U d E ⊢;by_cases A:i<ls.length
  ·have hu:ls[i]?=some ls[i]:=by simp[A]
   have F:=DU A;generalize ls[i]=u at hu F;obtain⟨a,_,e1,R⟩:=(h.1.ext m).at h.2.1 hu;cases e1;have K:=(h.2.2 u F).ext m;have Z:=h.2.1 u F;obtain⟨a0,a1,a2,a3,rfl⟩:=K.agg;refine Nv ?_;refine .a 3 (.bool true) rfl (Aa oo) ?_;refine A7 ?_;refine .ct ?_;refine .p (rK A) ?_;refine .p (A0.aB (cs:=[a0,a1,a2,a3]) A8 rfl rfl rfl rfl (fun j c V=>by rw[Addr.add_add];exact R j c V)) ?_;refine .s (oA) ?_;rintro _ w2 ⟨rfl,B2,hf,hp⟩;refine .r rfl ?_;refine Af.step0 rfl rfl (Av.store A8 (vs:=[a0,a1,a2,a3]) rfl rfl rfl rfl rfl B2 (Ai 4) Z.2) ?_;rintro _ w3 ⟨B3,hb⟩;replace B3:Aj 57 w3 w1.heap.size [a0,a1,a2,a3]:=B3;have B:Ac w1 w3:=hf.aj hb AO;have hd:=m.trans B;by_cases hl:4<=i
   ·refine .r rfl ?_;refine Nv ?_;refine .a 3 (.bool true) rfl (Aa oo) ?_;refine A7 ?_;refine .cT ?_;refine Nv ?_;exact Ad.met g AL ⟨hd,us,es,d.ext B,l.ext B,b,by omega,o⟩
   ·refine .r rfl ?_;refine Nv ?_;refine .a 3 (.bool false) rfl (A9 oo) ?_;refine A7 ?_;refine .cf ?_;refine .p (A0.aA A8 (cs:=[a0,a1,a2,a3]) rfl rfl rfl B3 (Ai 4) rfl) ?_;refine .r rfl ?_;refine .s (oK J9 (A3P (most:=most) (K.ext B) W)) ?_;rintro hv w4 ⟨hg,n,f,X,Y,O,J⟩;have G:=Vp J X (show n<=8 by omega);have I:=A43 J (show n<=8 by omega);refine A7 ?_;refine .s (Av.call Wd rfl (A0m O I G oo)) ?_;rintro _ w5 ⟨hh,c,k,t,e,rfl,Q⟩;have q:=(B.trans hg).trans hh;have H:=m.trans q;refine .r rfl ?_;by_cases C:e=0
    ·obtain⟨u,ha,L⟩:=Q C;subst C;refine A7 ?_;refine .ct ?_;have ho:=l.1;refine .s (Av.cV (k:=3) (d.ext q) ha L.v.k3 rfl rfl rfl rfl rfl rfl rfl (by simp;omega) rfl H.size) ?_;rintro g6 w6 ⟨P,T,_⟩;have D:=J2 (d.ext q) T;refine .r rfl ?_;refine Nv ?_;refine .a 2 (.int .i64 ((i+1:Nat):Int)) rfl (Bv oo) ?_;refine A7 ?_;refine Ad.again (i+1,g6) AL ⟨D.ext0 w H AO,A,_,_,P,((l.ext q).kp D).snoc (L.kp D),by simp;omega,by simp;omega,fun y z=>?_⟩ (by show ls.length - (i+1)<ls.length - i;omega);rcases FB.1 z with z | z
     ·exact o y z
     ·rw[Du]at z;subst z;exact⟨G,by rw[AU];exact Y,I,A41 G⟩
    ·refine Nv ?_;refine .a 11 (.bool false) rfl (by simp[C]) ?_;refine A7 ?_;refine .cF ?_;refine Nv ?_;refine .a 2 (.int .i64 ((i+1:Nat):Int)) rfl (Bv oo) ?_;refine A7 ?_;exact Ad.again (i+1,g) AL ⟨H,A,us,es,d.ext q,l.ext q,b,by dsimp only;omega,o⟩ (by show ls.length - (i+1)<ls.length - i;omega)
  ·refine Nv ?_;refine .a 3 (.bool false) rfl (A9 oo) ?_;refine A7 ?_;refine .cF ?_;refine Nv ?_;exact Ad.met g AL ⟨m,us,es,d,l,b,by omega,o⟩
 ·rintro g w1 ⟨m,us,es,d,l,b,E,o⟩;refine A7 ?_;exact uR ⟨m,es,⟨us,d.cells,d.1,l.1,fun i u e M N=>(l.2 i u e M N).v⟩,b,E,o⟩
end Go.Qf
namespace Go.Qf
open Go Go.RowKit Go.Proofs Go.Proofs.Tryz Go.ChangeShapes Go.WideShapes Go.Joins
def A8q (w:World) (u:Value) (e:FV):Prop:=∃ fv neg q cap xs,u=.agg #[fv,.bool neg,.slice q xs.length cap]/\(fv.cells=#[fv]/\fv.oneCell'=true)/\Ft w fv e.1/\Lj e.1/\Sl w (.slice q xs.length cap) xs/\e.2=sg neg (Ah xs)
def A44 (w:World) (v:Value) (es:List FV):Prop:=∃ us,HJ w v us/\M8 3 us/\us.length=es.length/\∀ (i:Nat) (u:Value) (e:FV),us[i]?=some u->es[i]?=some e->A8q w u e
section
variable {H:Type}{enc:TypeId×Value->H}{W:World}{base:Nat}{spare:Nat->Bool}{held:Bool}{r:Reach}{b0:Nat}{v:Value}{d:DataW H}{p:List MemPlace}
theorem A45 {a:Addr}{k:Nat}{cs:List Value}(h:W.cells? base a k=some cs):cs.length=k/\∀ (j:Nat) (c:Value),cs[j]?=some c->W.cell? (a.add j)=some c:=by
 unfold World.cells? at h;split at h
 ·have e:=mapM_some_length h;simp at e;refine⟨e,fun j c d=>?_⟩;have l:=(Au.1 d).1;have g:=mapM_some_get h j j (by rw[List.getElem?_range oo]);exact g.trans d
 ·cases h
theorem Xp {α:Type}{t e:TypeId}{k:Nat}{R:Value->α->Prop}(z:α) (K:prog.underlying t=some (.slice e)) (S:prog.cellsOf e=k)
  (P:∀ {n:Nat} {cs:List Value} {y:DataW H×List MemPlace},DataW.trod enc prog W base spare held n e cs=some y->cs.length=k->∃ a,R (.agg cs.toArray) a/\(Value.agg cs.toArray).cells.toList=cs/\∀ c ∈ cs,c.oneCell'=true)
  (hv:Value.okWide prog W r b0 t v) (h:DataW.Trod enc prog W base spare held t v d p):∃ (us:List Value) (xs:List α),HJ W v us/\M8 k us/\us.length=xs.length/\∀ (i:Nat) (u:Value) (a:α),us[i]?=some u->xs[i]?=some a->R u a:=by
 obtain⟨q,l,c,rfl⟩:=A70 K hv;obtain⟨fuel,Q⟩:=h;rcases DataW.trod_slice K Q with ⟨o,_⟩ | ⟨a,len,cap,elems,rest,n,_,o,F,_,hl,hm,hlen,hel,_⟩
 ·have o:[Value.slice q l c]=[Value.slice none 0 0]:=o;simp only[Iu,and_true]at o;rw[o];exact⟨[],[],⟨none,0,rfl,Ai _,fun _=>rfl,fun a M=>by cases M⟩,fun u hu=>(by cases hu),rfl,fun i u a m=>by simp at m⟩
 ·have o:[Value.slice q l c]=[Value.slice (some a) len cap]:=o;simp only[Iu,and_true]at o;rw[o];have each:∀ i,i<len->∃ (cs:List Value) (x:α),cs.length=k/\(∀ (j:Nat) (c:Value),cs[j]?=some c->W.cell? ((a.add (i * k)).add j)=some c)/\R (.agg cs.toArray) x/\(Value.agg cs.toArray).cells.toList=cs/\∀ c ∈ cs,c.oneCell'=true:=by
   intro i m;have A:=hel i m;rw[S]at A;have U:elems[i]?=some (elems[i]'oo):=by simp
   rw[U]at A;simp only[Option.bind_eq_some_iff]at A;obtain⟨cs,O,V⟩:=A;obtain⟨s,B⟩:=A45 O;obtain⟨x,L,w,b⟩:=P V s;exact⟨cs,x,s,B,L,w,b⟩
  let g:Nat->List Value×α:=fun i=>if m:i<len then ((each i m).choose,(each i m).choose_spec.choose) else ([],z)
  have C:∀ i,i<len->(g i).1.length=k/\(∀ (j:Nat) (c:Value),(g i).1[j]?=some c->W.cell? ((a.add (i * k)).add j)=some c)/\R (.agg (g i).1.toArray) (g i).2/\(Value.agg (g i).1.toArray).cells.toList=(g i).1/\∀ c ∈ (g i).1,c.oneCell'=true:=by intro i m;have:=(each i m).choose_spec.choose_spec;simp only[g,dif_pos m];exact this
  have E:M8 k ((List.range len).map (fun i=>Value.agg (g i).1.toArray)):=by intro u hu;simp only[CG,CZ]at hu;obtain⟨i,m,rfl⟩:=hu;obtain⟨s,_,_,w,b⟩:=C i m;rw[w];exact⟨s,b⟩
  refine⟨(List.range len).map (fun i=>Value.agg (g i).1.toArray),(List.range len).map (fun i=>(g i).2),⟨some a,cap,by simp,by simpa using hl,fun e=>(by cases e),?_⟩,E,by simp,?_⟩
  ·intro a' N j c D;cases N;have f:=(Au.1 D).1;rw[E.flat,Bj,List.length_range]at f;have T:0<k:=by
    rcases Gu k with h0 | h0
    ·rw[h0,Nat.zero_mul]at f;omega
    ·exact h0
   have m:j / k<len:=Ki oo;obtain⟨s,B,_,w,_⟩:=C (j / k) m;have hu:((List.range len).map (fun i=>Value.agg (g i).1.toArray))[j / k]?=some (.agg (g (j / k)).1.toArray):=by simp[m]
   have X:j % k<k:=CX _ T;have J:(g (j / k)).1[j % k]?=some ((g (j / k)).1[j % k]'oo):=by simp
   have b:=Lv E hu (by rw[w];exact J);have G:=B _ _ J;have I:k * (j / k)+j % k=j:=Ho j k;rw[I]at b;rw[b]at D;cases D;rw[Addr.add_add,AQ (j / k) k,I]at G;exact G
  ·intro i u x hu F;have f:=(Au.1 hu).1;simp at f;simp[f]at hu F;rw[<- hu,<- F];exact (C i f).2.2.1
theorem open_Ents (hv:Value.okWide prog W r b0 23 v) (h:DataW.Trod enc prog W base spare held 23 v d p):∃ es,A44 W v es:=by
 have s:∀ {n:Nat} {cs:List Value} {y:DataW H×List MemPlace},DataW.trod enc prog W base spare held n 62 cs=some y->cs.length=3->∃ a:FV,(fun u e=>A8q W u e) (.agg cs.toArray) a/\(Value.agg cs.toArray).cells.toList=cs/\∀ c ∈ cs,c.oneCell'=true:=by
  intro n cs y x i;match cs,i with
  | [fv,c0,c1],_ =>
   obtain⟨xs,m,_,_,_,l,j⟩:=DataW.trod_struct underlying62 x;have f0:DataW.trod enc prog W base spare held m 25 (([fv,c0,c1].drop 0).take (prog.cellsOf 25))=xs[0]?:=j 0 _ rfl;have f1:DataW.trod enc prog W base spare held m 37 (([fv,c0,c1].drop 1).take (prog.cellsOf 37))=xs[1]?:=j 1 _ rfl;have k0:prog.cellsOf 25=1:=by kernel_rfl
   have k1:prog.cellsOf 37=2:=by kernel_rfl
   rw[k0]at f0;rw[k1]at f1;have e0:xs[0]?=some (xs[0]'(by rw[l];decide)):=by simp
   have e1:xs[1]?=some (xs[1]'(by rw[l];decide)):=by simp
   rw[e0]at f0;rw[e1]at f1;obtain⟨M,g,f,_⟩:=A3M (c:=fv) f0;obtain⟨neg,zs,q,cap,rfl,rfl,w⟩:=A3N (c0:=c0) (c1:=c1) f1;obtain⟨pf,cf,rfl⟩:=g.len;exact⟨(M,sg neg (Ah zs)),⟨_,neg,q,cap,zs,rfl,⟨rfl,rfl⟩,g,f,w,rfl⟩,rfl,by simp[Value.oneCell']⟩
 obtain⟨us,es,o,z,t,b⟩:=Xp (R:=fun u e=>A8q W u e) ([],0) (k:=3) underlying23 kr s hv h;exact⟨es,us,o,z,t,b⟩
theorem open_Lats (hv:Value.okWide prog W r b0 22 v) (h:DataW.Trod enc prog W base spare held 22 v d p):∃ us,NJ W v us:=by
 have w:∀ {n:Nat} {cs:List Value} {y:DataW H×List MemPlace},DataW.trod enc prog W base spare held n 57 cs=some y->cs.length=4->∃ a:Unit,(fun u (_:Unit)=>Nt W u) (.agg cs.toArray) a/\(Value.agg cs.toArray).cells.toList=cs/\∀ c ∈ cs,c.oneCell'=true:=by
  intro n cs y A f;match cs,f with
  | [c0,c1,c2,c3],_ =>
   obtain⟨xs,m,_,_,_,j,g⟩:=DataW.trod_struct underlying57 A;have f0:DataW.trod enc prog W base spare held m 5 (([c0,c1,c2,c3].drop 0).take (prog.cellsOf 5))=xs[0]?:=g 0 _ rfl;have f1:DataW.trod enc prog W base spare held m 5 (([c0,c1,c2,c3].drop 1).take (prog.cellsOf 5))=xs[1]?:=g 1 _ rfl;have f2:DataW.trod enc prog W base spare held m 55 (([c0,c1,c2,c3].drop 2).take (prog.cellsOf 55))=xs[2]?:=g 2 _ rfl;have f3:DataW.trod enc prog W base spare held m 55 (([c0,c1,c2,c3].drop 3).take (prog.cellsOf 55))=xs[3]?:=g 3 _ rfl;have k0:prog.cellsOf 5=1:=by kernel_rfl
   have k1:prog.cellsOf 55=1:=by kernel_rfl
   rw[k0]at f0 f1;rw[k1]at f2 f3;have e0:xs[0]?=some (xs[0]'(by rw[j];decide)):=by simp
   have e1:xs[1]?=some (xs[1]'(by rw[j];decide)):=by simp
   have e2:xs[2]?=some (xs[2]'(by rw[j];decide)):=by simp
   have e3:xs[3]?=some (xs[3]'(by rw[j];decide)):=by simp
   rw[e0]at f0;rw[e1]at f1;rw[e2]at f2;rw[e3]at f3;obtain⟨d,rfl,s⟩:=QK (c:=c0) f0;obtain⟨k,rfl,x⟩:=QK (c:=c1) f1;obtain⟨ys,o⟩:=QJ (c:=c2) f2;obtain⟨zs,B⟩:=QJ (c:=c3) f3;obtain⟨q,c,e,_⟩:=B.1;obtain⟨q',c',e',_⟩:=o.1;exact⟨(),⟨d,k,c2,c3,ys,rfl,s,x,o,by rw[e];rfl⟩,by rw[e,e'];rfl,by rw[e,e'];simp[Value.oneCell']⟩
 obtain⟨us,es,z,t,C,b⟩:=Xp (R:=fun u (_:Unit)=>Nt W u) () (k:=4) underlying22 kr w hv h;refine⟨us,z,t,fun u hu=>?_⟩;obtain⟨i,l⟩:=Cx.1 hu;have D:=(Au.1 l).1;exact b i u () l (by rw[DH oo])
end
end Go.Qf
namespace Go.Qf
open Go Go.RowKit Go.Proofs Go.Proofs.Tryz
variable {b j N:Nat}{B:Int}{M:List (List Int)}{hv:Value}
section
def Lx (B b:Int):Prop:=0<=B/\B<=1000/\0<=b/\b<=1000000
theorem Tv {w:World}{b:Int}(h:Ft w hv M) (v:Lj M) :
  Calls prog 79 #[hv,.int .i64 B,.int .i64 1000,.int .i64 b] w (AJ fun x w'=>Ac w w'/\(¬ Ie M->x=.int .i64 6)/\(Ie M->¬ Lx B b->x=.int .i64 1)/\(Ie M->Lx B b->x=.int .i64 0)):=by
 refine cS func79 ntmps79 ?_;refine A7 ?_;refine .s (oK G3 (Gq h v)) ?_;rintro _ w2 ⟨e,o,rfl,q⟩;cases o
 ·have u:¬ Ie M:=fun c=>absurd (q.2 c) sm;refine A7 ?_;refine .ct ?_;exact Ad.ax rfl rfl ⟨e,fun _=>rfl,fun c=>absurd c u,fun c=>absurd c u⟩
 have g:=q.1 rfl;refine .r rfl ?_;refine Nv ?_;refine .cF ?_;refine Nv ?_;by_cases j:B<0
 ·refine .a 2 (.bool true) rfl (Aa j) ?_;refine A7 ?_;refine .ct ?_;exact Ad.ax rfl rfl ⟨e,fun c=>absurd g c,fun _ _=>rfl,fun _ d=>absurd d (by unfold Lx;omega)⟩
 refine .a 2 (.bool false) rfl (A9 j) ?_;by_cases k:B > 1000
 ·refine .a 4 (.bool true) rfl (Aa k) ?_;refine A7 ?_;refine .ct ?_;exact Ad.ax rfl rfl ⟨e,fun c=>absurd g c,fun _ _=>rfl,fun _ d=>absurd d (by unfold Lx;omega)⟩
 refine .a 4 (.bool false) rfl (A9 k) ?_;by_cases l:b<0
 ·refine .a 4 (.bool true) rfl (Aa l) ?_;refine A7 ?_;refine .ct ?_;exact Ad.ax rfl rfl ⟨e,fun c=>absurd g c,fun _ _=>rfl,fun _ d=>absurd d (by unfold Lx;omega)⟩
 refine .a 4 (.bool false) rfl (A9 l) ?_;by_cases m:b > 1000000
 ·refine .a 4 (.bool true) rfl (Aa m) ?_;refine A7 ?_;refine .ct ?_;exact Ad.ax rfl rfl ⟨e,fun c=>absurd g c,fun _ _=>rfl,fun _ d=>absurd d (by unfold Lx;omega)⟩
 refine .a 4 (.bool false) rfl (A9 m) ?_;refine A7 ?_;refine .cf ?_;exact Ad.ax rfl rfl ⟨e,fun c=>absurd g c,fun _ d=>absurd (show Lx B b from ⟨by omega,by omega,by omega,by omega⟩) d,fun _ _=>rfl⟩
def MK (L:List DF) (m:Int):Int:=((L.filter (fun it=>decide (it.1=m))).length:Int)
def Ly (N:Nat) (L:List DF):List Int:=(List.range N).map (fun m:Nat=>MK L m)
def H7 (M:List (List Int)) (B:Int):List Int:=Ly (B.toNat+1) (Sb (ent M) M.length B)
theorem El (N:Nat) (L:List DF):(Ly N L).length=N:=by simp[Ly]
theorem A2N (L:List DF) (m:Int):0<=MK L m/\MK L m<=L.length:=by have:=Q8 (fun it:DF=>decide (it.1=m)) L;unfold MK;omega
theorem A2O {L:List DF}(c:j<N):(Ly N L).getD j 0=MK L j:=by simp[Ly,Bd,c]
theorem A5U {L:List DF}{y:DF}(c:y.1=j):(Ly N L).set j (MK L j+1)=Ly N (L++[y]):=by
 refine O4 (by rw[EP,El,El]) (fun i d g=>?_);rw[List.getElem_set];simp only[Ly,List.getElem_map,List.getElem_range];unfold MK;rw[U7,Bf,U8];by_cases e:j=i
 ·subst e;simp[c]
 ·rw[if_neg e];have:¬ y.1=(i:Int):=by rw[c];omega
  simp[this]
theorem A46 (l:List Int) (j:Nat) (c:Int):(l.map DZ).set j (DZ c)=(l.set j c).map DZ:=by rw[Gx]
def YL (w:World) (x:Value) (M:List (List Int)) (B b:Int):Prop :=
 (¬ Ie M->x=.tuple #[.slice none 0 0,.int .i64 6])/\(Ie M->¬ Lx B b->x=.tuple #[.slice none 0 0,.int .i64 1]) /\
 (Ie M->Lx B b->b<P7 (ent M) M.length B M.length []->x=.tuple #[.slice none 0 0,.int .i64 9]) /\
 (Ie M->Lx B b->P7 (ent M) M.length B M.length []<=b->∃ v,x=.tuple #[v,.int .i64 0]/\LO 0 w v (H7 M B))
theorem A5V {w:World}{xs:List Int}(h:Aj 2 w b (xs.map DZ)) (c:xs.length<=maxLen):LO 0 w (.slice (some ⟨b,0,none⟩) xs.length xs.length) xs:=by refine⟨RQ _,.inr ⟨b,xs.length,[],by rw[Bj],Cu _,?_,by rw[Bj];simp,by rw[Bj];exact Ai _,c⟩⟩;rw[D7,CO _ (EH _)];exact h
open Classical in
noncomputable def OH (M:List (List Int)) (B b:Int):Int:=if Ie M then (if Lx B b then (if b<P7 (ent M) M.length B M.length [] then 9 else 0) else 1) else 6
def A5W (w:World) (x:Value) (M:List (List Int)) (B b:Int):Prop:=∃ v,x=.tuple #[v,.int .i64 (OH M B b)]/\(OH M B b=0->LO 0 w v (H7 M B))/\(OH M B b≠0->v=.slice none 0 0)
theorem YL.w {w:World}{x:Value}{b:Int}(h:YL w x M B b):A5W w x M B b:=by
 obtain⟨j,k,l,m⟩:=h;unfold A5W OH;by_cases c:Ie M
 ·by_cases d:Lx B b
  ·by_cases g:b<P7 (ent M) M.length B M.length []
   ·rw[if_pos c,if_pos d,if_pos g];exact⟨_,l c d g,fun e=>(by cases e),fun _=>rfl⟩
   ·rw[if_pos c,if_pos d,if_neg g];obtain⟨v,e,hv⟩:=m c d oo;exact⟨v,e,fun _=>hv,fun e=>absurd rfl e⟩
  ·rw[if_pos c,if_neg d];exact⟨_,k c d,fun e=>(by cases e),fun _=>rfl⟩
 ·rw[if_neg c];exact⟨_,j c,fun e=>(by cases e),fun _=>rfl⟩
theorem R6 {b:Int}(h:OH M B b=0):Ie M/\Lx B b/\P7 (ent M) M.length B M.length []<=b:=by
 unfold OH at h;split at h
 ·rename_i c;split at h
  ·rename_i d;split at h
   ·cases h
   ·exact⟨c,d,by omega⟩
  ·cases h
 ·cases h
theorem VW {b:Int}(c:Ie M) (h:P7 (ent M) M.length B M.length []<=b):((Gs (ent M) M.length B M.length []).length:Int)<=b:=by
 have d:=c.bq.1;have m:1<=M.length/\M.length<=8:=⟨c.1.1,c.2.2.1⟩;obtain⟨j,e⟩:∃ j,M.length=j+1:=⟨M.length - 1,by omega⟩;have g:=S4 d B j [];rw[<- e]at g;have k:=YB d B j [];have l:P7 (ent M) M.length B M.length []=P7 (ent M) M.length B j []+tlN (ent M) M.length B j []:=by rw[e];rfl
 omega
theorem YM {w:World}{b:Int}(h:Ft w hv M) (S:Lj M) :
  Calls prog 49 #[hv,.int .i64 B,.int .i64 b] w (AJ fun x w'=>Ac w w'/\YL w' x M B b):=by
 obtain⟨ph,ch,e⟩:=h.len;subst e;refine cS func49 ntmps49 ?_;refine A7 ?_;refine .s (oK KT (Tv h S)) ?_;rintro av w1 ⟨n,h6,R,h0⟩;by_cases d:Ie M
 ·by_cases g:Lx B b
  ·obtain rfl:=h0 d g;have o:=d.bq.1;have Y:1<=M.length/\M.length<=8:=⟨d.1.1,d.2.2.1⟩;have T:Fy B b:=⟨g.1,by have:=g.2.1;omega,g.2.2.1,g.2.2.2⟩;obtain⟨k1,k2⟩:=QX o B M.length [] sm (b,List.replicate M.length 0) g.2.2.1 sm;refine A7 ?_;refine .cf ?_;refine .s (oK Qh (SL (h.ext n) S)) ?_;rintro x w2 ⟨h3,V⟩;have H:=n.trans h3;rcases Gw b (P7 (ent M) M.length B M.length []) with X | hge
   ·obtain rfl:=V.2.2.1 d T (k1 X);refine A7 ?_;refine .ct ?_;exact Ad.aC A8 [_,_] rfl ⟨rfl,rfl,trivial⟩ ⟨H,fun l=>absurd d l,fun _ hB=>absurd g hB,fun _ _ _=>rfl,fun _ _ v=>by omega⟩
   ·obtain⟨s',hs,_⟩:=k2 hge;obtain⟨a,rfl,_⟩:=V.2.2.2 d T s' hs;have kd:=VW d hge;obtain⟨k,rfl⟩:∃ k:Nat,B=k:=⟨B.toNat,by have:=g.1;omega⟩;have hk:k<=1000:=by have:=g.2.1;omega
    have kc:b<=1000000:=g.2.2.2;have hM:Ft w (.slice ph M.length ch) (mk M.length M.length (ent M)):=by rw[<- d.mk];exact h
    have ho:0<=HO (ent M) M.length k []:=(HG o _).2 (A1V o oo);obtain⟨j,z⟩:∃ j,M.length=j+1:=⟨M.length - 1,by omega⟩;have hf:=fun (it:DF) (F:it ∈ Sb (ent M) M.length k)=>R5 o (show (0:Int)<=k by omega) F;have kb:=Ow (ent M) M.length k;have hr:H7 M k=Ly (k+1) (Sb (ent M) M.length k):=by unfold H7;rw[Cj]
    refine A7 ?_;refine .cF ?_;refine Nv ?_;refine .a 2 (.int .i64 ((k+1:Nat):Int)) rfl (Bv oo) ?_;refine .s (Av.make A8 (k+1) rfl rfl rfl rfl rfl rfl rfl rfl (by show (k+1) * 8<=_;omega) oo) ?_;rintro _ w3 ⟨rfl,B3,ha,kh⟩;have Z:=H.trans ha;refine A7 ?_;refine .s (oK Rp (Mk (hM.ext Z) Y o)) ?_;rintro fr N ⟨h4,hd⟩;refine .r rfl ?_;refine .s (Av.call Ge rfl (SP o Y (show (0:Int)<=k/\(k:Int)<=1000000 by omega) j [] [] N.heap.size N N _ _ _ (by rw[z];simp) Aq.nil (Ac.refl _) rfl hd (FU.nil _ _) (by rw[<- z];simp;omega) ho)) ?_;rintro L w5 ⟨he,f⟩;have I:=h4.trans he.ext;have hc:=B3.ext I;have hz:=Z.trans I;rw[HX,<- z]at f;replace f:FU 0 w5 L (Sb (ent M) M.length k):=f.mono BI;have hm:=fun (it:DF) (F:it ∈ Sb (ent M) M.length k)=>(by obtain⟨g1,g2,g3⟩:=hf it F;have g4:=RZ o it.2 oo;omega:0<=it.1/\it.1<=k)
    generalize Sb (ent M) M.length k=its at *
    obtain⟨us,U,D⟩:=f;have hw:=D.1;have hp:=fun (i:Nat) (it:DF) (q:its[i]?=some it)=>(by
     have X:=(Au.1 q).1;have hu:us[i]?=some (us[i]'oo):=by simp
     obtain⟨xv,e,v⟩:=D.2 i _ it hu q;rw[e]at hu;exact⟨xv,hu,v.one.2⟩:∃ xv,us[i]?=some (.agg #[.int .i64 it.1,xv])/\xv.oneCell'=true)
    clear D;obtain⟨p,cap,rfl⟩:=U.len;rw[hw];have hb:Aj 2 w5 w2.heap.size ((Ly (k+1) []).map DZ):=by
     have e:(Ly (k+1) []).map DZ=List.replicate (k+1) (.int .i64 0):=by refine O4 (by simp[Ly]) (fun i R h2=>?_);simp[Ly,MK,DZ]
     rw[e];exact hc
    refine A7 ?_;refine H6 (39) (0) (its.length) [(11,.slice (some ⟨w2.heap.size,0,none⟩) (k+1) (k+1)),(37,.slice p its.length cap),(38,.int .i64 its.length)] (fun i w'=>Ac w w'/\w2.heap.size<=w'.heap.size/\Aj 2 w' w2.heap.size ((Ly (k+1) (its.take i)).map DZ)/\Aq 2 128 0 w' (.slice p us.length cap) us) ?_ ?_ ?_
    ·exact⟨hz,by have:=ha.size;have:=I.size;omega,hb,U⟩
    ·rintro i O q ⟨J,kf,t,E⟩;have K:its[i]?=some its[i]:=by simp[q]
     have hq:its.take (i+1)=its.take i++[its[i]]:=by rw[DA q]
     have kg:(its.take i).length<=its.length:=by rw[EE];omega
     rw[hq];generalize its.take i=done at *
     generalize its[i]=y at K;obtain⟨h7,h8⟩:=hm y (Bi K);obtain⟨yv,h9,ka⟩:=hp i y K;obtain⟨a2,_,e1,W⟩:=E.cells.at E.1 h9;cases e1;obtain⟨y1,y2⟩:=y;dsimp only at h7 h8 W;obtain⟨m,rfl⟩:∃ m:Nat,y1=m:=⟨y1.toNat,by omega⟩;have ke:=A2N done m;rw[<- A5U (y:=((m:Int),y2)) (j:=m) rfl];have hh:((Ly (k+1) done).map DZ)[m]?=some (.int .i64 (MK done m)):=by simp[Ly,DZ,show m<k+1 by omega]
     generalize MK done m=c at *
     have hx:∀ u ∈ [Value.int .i64 m,yv],u.oneCell'=true:=by
      intro u hu;rcases Cw.1 hu with rfl | hu
      ·rfl
      ·rw[Du]at hu;rw[hu];exact ka
     refine A7 ?_;refine .p (rK q) ?_;refine .p (A0.aB (cs:=[.int .i64 m,yv]) A8 rfl rfl rfl rfl (fun j c z=>by rw[Addr.add_add];exact W j c z)) ?_;refine .s (oA) ?_;rintro _ w7 ⟨rfl,B7,h5,ki⟩;refine Af.step0 rfl rfl (Av.store A8 (vs:=[.int .i64 m,yv]) rfl rfl rfl rfl rfl B7 (Ai 2) hx) ?_;rintro _ P ⟨Q,ht⟩;have A:Ac O P:=h5.aj ht AO;replace Q:Aj 128 P O.heap.size [.int .i64 m,yv]:=Q;have C:=t.ext A;have hg:P.cell? ((⟨w2.heap.size,0,none⟩:Addr).add m)=some (.int .i64 c):=by rw[Ak,AE];exact C.cell hh
     refine A7 ?_;refine .p FW ?_;refine .p (A0.ia) ?_;refine .p (rL hg) ?_;refine .a 1 (.int .i64 (c+1)) rfl (by rw[Ab oo oo]) ?_;refine Af.put A8 m C rfl oo (by rw[Bj,El];omega) rfl rfl rfl rfl rfl rfl rfl rfl (fun _=>rfl) (fun _=>rfl) rfl rfl ?_;intro p9 w9 B9 G;rw[AE,show Value.int .i64 (c+1)=DZ (c+1) from rfl,A46]at B9;refine A7 ?_;refine Ad.rnd AL ⟨(J.trans A).aj G H.size,by have:=A.size;have:=G.size;omega,B9,(G.kp C).row (E.ext A) de⟩
    ·rintro O ⟨J,_,t,_⟩;rw[D5]at t;have v:=A5V t (by rw[El];unfold maxLen;omega);rw[El]at v;refine A7 ?_;exact Ad.aC A8 [_,_] rfl ⟨rfl,rfl,trivial⟩ ⟨J,fun l=>absurd d l,fun _ hB=>absurd g hB,fun _ _ v=>by omega,fun _ _ _=>⟨_,rfl,by rw[hr];exact v⟩⟩
  ·obtain rfl:=R d g;refine A7 ?_;refine .ct ?_;exact Ad.aC A8 [_,_] rfl ⟨rfl,rfl,trivial⟩ ⟨n,fun l=>absurd d l,fun _ _=>rfl,fun _ hB=>absurd hB g,fun _ hB=>absurd hB g⟩
 ·obtain rfl:=h6 d;refine A7 ?_;refine .ct ?_;exact Ad.aC A8 [_,_] rfl ⟨rfl,rfl,trivial⟩ ⟨n,fun _=>rfl,fun l=>absurd l d,fun l=>absurd l d,fun l=>absurd l d⟩
end
noncomputable def WH (B b:Int):List FV->Int
 | []=>0
 | e::t=>if OH e.1 B b=0 then WH B b t else OH e.1 B b
noncomputable def Ox (B b:Int) (es:List FV):Int:=if 64<es.length then 7 else WH B b es
def OI (B:Int) (es:List FV):List (List Int):=es.map (fun e=>H7 e.1 B)
def R7 (w:World) (x:Value) (es:List FV) (B b:Int):Prop:=∃ v,x=.tuple #[v,.int .i64 (Ox B b es)]/\(Ox B b es=0->Ee 0 w v (OI B es))/\(Ox B b es≠0->v=.slice none 0 0)
theorem Ke.at {w:World}{v:Value}{es:List FV}(h:Ke w v es) {i:Nat}(r:i<es.length):∃ p cap fv neg mag,v=.slice (some p) es.length cap/\(∀ (j:Nat) (c:Value),[fv,neg,mag][j]?=some c->w.cell? ((p.add (3 * i)).add j)=some c)/\(∀ u ∈ [fv,neg,mag],u.oneCell'=true)/\Ft w fv es[i].1/\DnE w (.agg #[neg,mag]) es[i].2:=by
 obtain⟨us,d,g,k,l⟩:=h;have hu:us[i]?=some (us[i]'oo):=by simp
 have o:es[i]?=some es[i]:=by simp
 obtain⟨fv,neg,mag,e,k1,k2,k3,k4⟩:=l i _ _ hu o;rw[e]at hu;obtain⟨a,cap,ev,m⟩:=d.at g hu;refine⟨a,cap,fv,neg,mag,by rw[ev,k],fun j c q=>?_,fun u hu=>?_,k3,k4⟩
 ·rw[Addr.add_add];exact m j c q
 ·simp only[Cw,LN,or_false]at hu;rcases hu with rfl | rfl | rfl
  ·exact k1.2
  ·exact k2.1
  ·exact k2.2
theorem R8 {w:World}{cv:Value}{es:List FV}{B b:Int}(h:Ke w cv es) (n:∀ e ∈ es,Lj e.1) (U:es.length<=1000000) :
  Calls prog 25 #[cv,.int .i64 B,.int .i64 b] w (AJ fun x w'=>Ac w w'/\R7 w' x es B b):=by
 obtain⟨p,cap,e⟩:=h.len;subst e;unfold R7;refine cS func25 ntmps25 ?_;refine Nv ?_;refine .r rfl ?_;refine Nv ?_;by_cases q:64<es.length
 ·have m:Ox B b es=7:=if_pos q;rw[m];refine .a 3 (.bool true) rfl (Aa oo) ?_;refine A7 ?_;refine .ct ?_;exact Ad.aC A8 [_,_] rfl ⟨rfl,rfl,trivial⟩ ⟨Ac.refl _,_,rfl,fun e=>by (cases e),fun _=>rfl⟩
 ·have m:Ox B b es=WH B b es:=if_neg q;rw[m];refine .a 3 (.bool false) rfl (A9 oo) ?_;refine A7 ?_;refine .cf ?_;refine sG (18) (0) (es.length) (fun g:Value=>[(8,g),(0,.slice p es.length cap),(1,.int .i64 B),(2,.int .i64 b),(16,.slice p es.length cap),(17,.int .i64 es.length)]) (fun i g w'=>Ac w w'/\WH B b es=WH B b (es.drop i)/\Ee w.heap.size w' g (OI B (es.take i))) (.slice none 0 0) ?_ ?_ ?_
  ·exact⟨Ac.refl _,rfl,Ee.nil _ _⟩
  ·rintro i g w1 j ⟨l,c,k⟩;obtain⟨a,_,fv,neg,mag,e1,I,L,E,_⟩:=(h.ext l).at j;cases e1;have A:=n _ (DU j);have N:OI B (es.take (i+1))=OI B (es.take i)++[H7 es[i].1 B]:=by unfold OI;rw[DA j,Ev];rfl
   have J:WH B b (es.drop i)=if OH es[i].1 B b=0 then WH B b (es.drop (i+1)) else OH es[i].1 B b:=by rw[ED j];rfl
   rw[J]at c;rw[N];have V:(OI B (es.take i)).length<=64:=by unfold OI;rw[Bj,EE];omega
   generalize es[i].1=M at *
   refine A7 ?_;refine .p (rK j) ?_;refine .p (A0.aB (cs:=[fv,neg,mag]) A8 rfl rfl rfl rfl I) ?_;refine .s (oA) ?_;rintro _ w2 ⟨rfl,B2,P,X⟩;refine Af.step0 rfl rfl (Av.store A8 (vs:=[fv,neg,mag]) rfl rfl rfl rfl rfl B2 (Ai 3) L) ?_;rintro _ w3 ⟨B3,O⟩;replace B3:Aj 62 w3 w1.heap.size [fv,neg,mag]:=B3;have t:Ac w1 w3:=P.aj O AO;refine A7 ?_;refine .p FW ?_;refine .r rfl ?_;refine .s (oK XC (YM (E.ext t) A)) ?_;rintro x S ⟨Q,H⟩;obtain⟨v,rfl,k0,k1⟩:=H.w;have f:=t.trans Q;have o:=l.trans f;refine .r rfl ?_;by_cases d:OH M B b=0
   ·rw[if_pos d]at c;have hv:=k0 d;rw[d];refine A7 ?_;refine .cf ?_;obtain⟨us,F,y⟩:=k.ext f;have W:=y.1;refine Af.aZ F (.inl ⟨rfl,hv.one⟩) rfl rfl rfl rfl rfl rfl (fun _=>rfl) rfl rfl oo rfl o.size ?_;intro Y R T G z D _ _;have u:Kp 33 w.heap.size S T:=⟨z,fun t' b C h K=>D t' b C h (.inl K)⟩;refine A7 ?_;exact Ad.aO R AL ⟨z w o AO,c,_,G,(y.kp u de).snoc (u.lo hv de)⟩
   ·rw[if_neg d]at c;rw[c];refine Nv ?_;refine .a 11 (.bool true) rfl (by simp[d]) ?_;refine A7 ?_;refine .ct ?_;exact Ad.aC A8 [_,_] rfl ⟨rfl,rfl,trivial⟩ ⟨o,_,rfl,fun e=>absurd e d,fun _=>rfl⟩
  ·rintro g w1 ⟨l,c,k⟩;rw[Kj]at c;rw[D5]at k;rw[c];refine A7 ?_;exact Ad.aC A8 [_,_] rfl ⟨rfl,rfl,trivial⟩ ⟨l,_,rfl,fun _=>k.mono BI,fun e=>absurd rfl e⟩
variable {n c:Nat}{w':World}{ty:TypeId}{af:Array Edge}{g:Option (Nat×Bool)}{x:Operand}{E:List (Nat×Value)}{d:Option Tmp}
theorem A5X:prog.underlying 2=some (.int .i64):=(underlying2).trans rfl
theorem A9c:prog.underlying 92=some (.map 2 2):=(underlying92).trans rfl
theorem k64:Maps.Keyed prog 2:=Maps.int_keyed A5X
theorem A5Y {a:Int}(h:-9223372036854775808<=a/\a<=9223372036854775807):(Lit.int .i64 a).wf=true:=by
 have c:IntKind.i64.min=-9223372036854775808:=by decide
 have d:IntKind.i64.max=9223372036854775807:=by decide
 simp only[Lit.wf,c,d,Et,decide_eq_true_eq];exact h
theorem A8r (w:World):(zeroValue 2).run prog w=.ok (.int .i64 0) w:=by obtain⟨_,inf,c,_,_,d⟩:=A8 2 _ rfl;simp only[zeroValue,Bq,BZ c,Bp,d,AX]
def KO (w:World) (b n:Nat) (g:Int->Int):Prop:=∃ D:DataW Unit,w.ownsMap prog 2 (plainElem prog 2) b n D/\∀ m:Int,D.atKey (.int .i64 m) (.lit (.int .i64 0))=.lit (.int .i64 (g m))
theorem KO.obj {w:World}{g:Int->Int}(h:KO w b n g) (e:w'.heap[b]?=w.heap[b]?):KO w' b n g:=by obtain⟨D,⟨es,clock,d,r⟩,c⟩:=h;exact⟨D,⟨es,clock,e.trans d,r⟩,c⟩
theorem KO.lt {w:World}{g:Int->Int}(h:KO w b n g):b<w.heap.size:=by obtain⟨D,c,_⟩:=h;exact c.lt
theorem KO.ext {w:World}{g:Int->Int}(h:KO w b n g) (c:Ac w w'):KO w' b n g:=h.obj (c.block b h.lt)
theorem KO.upd {w:World}{g:Int->Int}(h:KO w b n g) (e:CE c w w') (d:b≠c):KO w' b n g:=h.obj (e.block b h.lt d)
theorem Av.makeMap {w:World}{pos:String} :
  Av prog n ⟨d,.makeMap 92 none,ty,pos,af,g⟩ E w (fun v w'=>v=.map (some w.heap.size)/\KO w' w.heap.size 0 (fun _=>0)/\Ac w w'):=by intro a e Q K c;unfold Oper.wp;simp only[execOp,Option.map_none,run_makeMap,Bq,Bp,AX];refine c _ _ ⟨rfl,⟨.map [],World.ownsMap_made w _ _ _,fun m=>rfl⟩,Da _ _⟩
theorem A0.eE {w:World}{y:Operand}{pos:String}{m:Int}{G:Int->Int}
  (u:ov E x=some (.map (some b))) (v:ov E y=some (.int .i64 m)) (o:-9223372036854775808<=m/\m<=9223372036854775807) (h:KO w b c G) :
  A0 prog n ⟨d,.lookup 92 x y false,ty,pos,af,g⟩ E w (.int .i64 (G m)):=by obtain⟨D,k,l⟩:=h;obtain⟨q,r,j,_⟩:=k.lookup_int k64 A9c A5X (A8r w) (Maps.keyOf_int_mk A5X (A5Y o));rw[l m]at j;cases j;intro a e;have e1:=e.eval u;have e2:=e.eval v;simp only[execOp,e1,e2,r,Bq,Bp,AX]
theorem Av.upd64 {w:World}{y z:Operand}{pos:String}{m v:Int}{G:Int->Int}
  (p:ov E x=some (.map (some b))) (s:ov E y=some (.int .i64 m)) (A:ov E z=some (.int .i64 v)) (t:-9223372036854775808<=m/\m<=9223372036854775807) (hv:-9223372036854775808<=v/\v<=9223372036854775807) (B:c<1000000000) (h:KO w b c G) :
  Av prog n ⟨d,.mapUpdate 92 x y z,ty,pos,af,g⟩ E w (fun _ w'=>KO w' b (c+1) (fun q=>if q=m then v else G q)/\CE b w w'):=by
 obtain⟨D,l,o⟩:=h;obtain⟨w',i,r1,r2⟩:=l.update k64 A9c (by unfold maxLen;omega) (Maps.keyOf_int_mk A5X (A5Y t)) (plainElem_int A5X (A5Y hv));intro a k Q K r;have e1:=k.eval p;have e2:=k.eval s;have e3:=k.eval A;unfold Oper.wp;simp only[execOp,e1,e2,e3,i,Bq,Bp,AX];refine r _ _ ⟨⟨_,r1,fun q=>?_⟩,⟨r2.os,r2.tape,r2.output,r2.size,fun j u f=>r2.block j u (fun e=>f (by simpa using e))⟩⟩;dsimp only;by_cases e:q=m
 ·subst e;rw[if_pos rfl];exact Maps.atKey_put_same (l.isMap) (show WideAt.IsKeyLit (.int .i64 q) from trivial) _ _
 ·rw[if_neg e,<- o q];exact Maps.atKey_put_other (fun e2=>e (by simpa using e2)) _ _
variable {i:Nat}{e:TypeId}{C:List Value}{G:Nat->Nat->Int}
def A9d (w:World) (v:Value) (r c:Nat) (G:Nat->Nat->Int):Prop:=∃ f fn cap,Oy prog f fn/\v=.func (.func f) #[] cap/\∀ w1,Ac w w1->∀ i j:Nat,i<r->j<c->Calls prog f (#[]++[.int .i64 i,.int .i64 j].toArray++cap) w1 (AJ fun x w2=>Ac w1 w2/\x=.int .i64 (G i j))
def prt (c j:Nat) (g:Nat->Int):List Value:=(List.range c).map (fun q=>if q<j then .int .i64 (g q) else .int .i64 0)
theorem A2P (c j:Nat) (g:Nat->Int):(prt c j g).length=c:=by simp[prt]
theorem A2Q (g:Nat->Int):(prt c j g).set j (.int .i64 (g j))=prt c (j+1) g:=by
 refine O4 (by simp[prt]) (fun i d k=>?_);rw[List.getElem_set];simp only[prt,List.getElem_map,List.getElem_range];by_cases e:j=i
 ·subst e;simp
 ·rw[if_neg e];by_cases h:i<j
  ·rw[if_pos h,if_pos oo]
  ·rw[if_neg h,if_neg oo]
theorem A0o (c:Nat) (g:Nat->Int):prt c 0 g=List.replicate c (.int .i64 0):=by refine O4 (by simp[prt]) (fun i d e=>?_);simp[prt]
theorem A2R (c:Nat) (g:Nat->Int):prt c c g=Ii c g:=by refine O4 (by simp[prt]) (fun i d e=>?_);simp only[prt,Bj,List.length_range]at d;simp[prt,d]
def A8s (w:World) (g r c i:Nat) (G:Nat->Nat->Int):Prop:=∃ rs,Aj 33 w g rs/\rs.length=r/\∀ j,j<i->∃ b,rs[j]?=some (.slice (some ⟨b,0,none⟩) c c)/\g<b/\Aj 2 w b (Ii c (G j))
theorem YN {w:World}{fv:Value}{r:Nat}(E:A9d w fv r c G) (X:r<=16) (W:c<=16) :
  Calls prog 224 #[.int .i64 r,.int .i64 c,fv] w (AJ fun x w'=>Ac w w'/\∃ g,x=.slice (some ⟨g,0,none⟩) r r/\w.heap.size<=g/\A8s w' g r c r G):=by
 obtain⟨f,fn,cp,K,rfl,J⟩:=E;refine cS func224 ntmps224 ?_;refine A7 ?_;refine .s (Av.make A8 r rfl rfl rfl rfl rfl rfl rfl rfl (by show r * 24<=_;omega) oo) ?_;rintro _ w2 ⟨rfl,B,U,Y⟩;refine A7 ?_;refine H6 (14) (0) (r) [(1,.int .i64 c),(2,.func (.func f) #[] cp),(7,.slice (some ⟨w.heap.size,0,none⟩) r r),(13,.int .i64 r)] (fun i w'=>Ac w w'/\w.heap.size<w'.heap.size/\A8s w' w.heap.size r c i G) ?_ ?_ ?_
 ·exact⟨U,by omega,_,B,by simp,fun j l=>by omega⟩
 ·rintro i w3 M ⟨z,S,rs,O,P,Q⟩;refine A7 ?_;refine .s (Av.make A8 c rfl rfl rfl rfl rfl rfl rfl rfl (by show c * 8<=_;omega) oo) ?_;rintro _ w4 ⟨rfl,B4,t,Z⟩;refine Af.put A8 i (O.ext t) rfl oo oo rfl rfl rfl rfl rfl rfl rfl rfl (fun _=>rfl) (fun _=>rfl) rfl rfl ?_;intro p5 o B5 y;rw[AE]at B5;have C:=B4.upd y oo;have V:Ac w o:=(z.trans t).aj y AO;have R:∀ j,j<i->∃ b,(rs.set i (.slice (some ⟨w3.heap.size,0,none⟩) c c))[j]?=some (.slice (some ⟨b,0,none⟩) c c)/\w.heap.size<b/\b<w3.heap.size/\Aj 2 o b (Ii c (G j)):=by intro j l;obtain⟨b,k1,k2,k3⟩:=Q j l;have N:=k3.lt;exact⟨b,by rw[Ce oo];exact k1,k2,N,(k3.ext t).upd y oo⟩
  have v:(rs.set i (.slice (some ⟨w3.heap.size,0,none⟩) c c))[i]?=some (.slice (some ⟨w3.heap.size,0,none⟩) c c):=Bx oo;have T:(rs.set i (.slice (some ⟨w3.heap.size,0,none⟩) c c)).length=r:=by simp[P]
  generalize rs.set i (.slice (some ⟨w3.heap.size,0,none⟩) c c)=rs5 at *
  have H:o.cell? ((⟨w.heap.size,0,none⟩:Addr).add i)=some (.slice (some ⟨w3.heap.size,0,none⟩) c c):=by rw[Ak,AE];exact B5.cell v
  refine A7 ?_;refine .p (A0.ia) ?_;refine .p (rL H) ?_;refine A7 ?_;refine H6 (27) (0) (c) [(14,.int .i64 i),(1,.int .i64 c),(2,.func (.func f) #[] cp),(7,.slice (some ⟨w.heap.size,0,none⟩) r r),(13,.int .i64 r),(8,.int .i64 i),(26,.int .i64 c)] (fun j w'=>Ac w w'/\CE w3.heap.size o w'/\Aj 2 w' w3.heap.size (prt c j (G i))) ?_ ?_ ?_
  ·exact⟨V,CE.refl _ _,by rw[A0o];exact C⟩
  ·rintro j n l ⟨m,k,d⟩;have D:=B5.upd k oo;have I:n.cell? ((⟨w.heap.size,0,none⟩:Addr).add i)=some (.slice (some ⟨w3.heap.size,0,none⟩) c c):=by rw[Ak,AE];exact D.cell v
   refine A7 ?_;refine St.sub (E':=[(27,.int .i64 j),(14,.int .i64 i),(1,.int .i64 c),(2,.func (.func f) #[] cp),(7,.slice (some ⟨w.heap.size,0,none⟩) r r),(13,.int .i64 r),(8,.int .i64 i),(26,.int .i64 c),(9,.int .i64 j)]) ?_ AL;refine sF 9 ?_;refine .q ?_;refine .on (fun _ _=>A0.ia) ?_;refine .on (fun _ u=>rL (u.aq.cell I)) ?_;refine .q ?_;refine FL.fact (L:=[]) (ψ:=Is (.int .i64 (G i j))) rfl rfl rfl rfl rfl (fun A u=>Av.bY K rfl rfl (J A (m.trans u.aq) i j M l)) (Am.is _ _) ?_;refine FL.aG rfl ?_;rintro A a _ rfl _ _;refine Af.put A8 j (d.ext a) rfl oo (by rw[A2P];omega) rfl rfl rfl rfl rfl rfl rfl rfl (fun _=>rfl) (fun _=>rfl) rfl rfl ?_;intro p8 w8 B8 h;rw[AE,A2Q]at B8;refine Nv ?_;exact Ad.rnd AL ⟨(m.trans a).aj h oo,(k.bf a).trans h,B8⟩
  ·rintro n ⟨m,k,d⟩;rw[A2R]at d;refine Nv ?_;refine Ad.rnd AL ⟨m,by have:=d.lt;omega,rs5,B5.upd k oo,T,fun j l=>?_⟩;by_cases e:j=i
   ·subst e;exact⟨_,v,S,d⟩
   ·obtain⟨b,k1,k2,k3,k4⟩:=R j oo;exact⟨b,k1,k2,k4.upd k oo⟩
 ·rintro w3 ⟨z,_,F⟩;refine A7 ?_;exact Ad.ax rfl rfl ⟨z,_,rfl,Ai _,F⟩
theorem Aj.ext_upd {w:World}(h:Aj e w b C) (c:Aj e w' b C) (hu:CE b w w'):Ac w w':=by
 refine⟨hu.os,hu.tape,hu.output,hu.size,fun j d=>?_⟩;by_cases e:j=b
 ·subst e;exact c.trans h.symm
 ·exact hu.block j d e
theorem WI {w:World}{v:Value}{d:Nat}(h:MC w v n n G) (B:Aj 94 w b [v]) (D:Aj 4 w d [.bool true]) (g:i<n) (k:j<n) (m:∀ i j,i<n->j<n->sz (G i j)<=1000/\-9223372036854775808<=G i j/\G i j<=9223372036854775807) :
  Calls prog 225 #[.int .i64 i,.int .i64 j,.pointer (some ⟨b,0,none⟩),.pointer (some ⟨d,0,none⟩)] w (AJ fun x w'=>Ac w w'/\x=.int .i64 (G i j)):=by obtain⟨a,cap,rfl,t,l⟩:=h;obtain⟨b1,o1,c1,q,_,o⟩:=l i g;obtain⟨u,e,C,hu,hB,k1,k2⟩:=o.at (j:=j) k;obtain⟨s1,s2,s3⟩:=m i j g k;refine cS func225 ntmps225 ?_;refine A7 ?_;refine .p FW ?_;refine .r rfl ?_;refine .p (A0.ia) ?_;refine .p (rL q) ?_;refine .r rfl ?_;refine .p (rJ oo) ?_;refine .p (A0.aH rfl hB k1 k2 hu.r2) ?_;refine .s (oK KY (Zw (hu.dn oo))) ?_;rintro _ w2 ⟨c,rfl⟩;rw[show Je (G i j)=.tuple #[.int .i64 (G i j),.bool true] from if_pos oo];refine .r rfl ?_;refine Nv ?_;refine .p (FX (D.ext c)) ?_;refine .r rfl ?_;refine Af.step0 rfl rfl (Av.store A8 (vs:=[.bool true]) rfl rfl rfl rfl rfl (D.ext c) (Ai 1) (by simp[Value.oneCell'])) ?_;rintro _ w3 ⟨B3,y⟩;have z:=Aj.ext_upd (D.ext c) B3 y;refine A7 ?_;exact Ad.ax rfl rfl ⟨c.trans z,rfl⟩
theorem YO {w:World}{v:Value}(h:MC w v n n G) (o:1<=n/\n<=16) (u:∀ i j,i<n->j<n->sz (G i j)<=1000/\-9223372036854775808<=G i j/\G i j<=9223372036854775807) :
  Calls prog 193 #[v] w (AJ fun x w'=>Ac w w'/\∃ g,x=.tuple #[.slice (some ⟨g,0,none⟩) n n,.bool true]/\w.heap.size<=g/\A8s w' g n n n G):=by obtain⟨a,cap,e,_⟩:=id h;subst e;refine cS func193 ntmps193 ?_;refine Nv ?_;refine .s (oB) ?_;rintro _ w1 ⟨rfl,B1,k,C⟩;refine A7 ?_;refine .p FW ?_;refine .s (oK GK (SG (h.ext k) o)) ?_;rintro _ w2 ⟨l,rfl⟩;replace h:=(h.ext k).ext l;replace B1:=B1.ext l;refine A7 ?_;refine .s (oA) ?_;rintro _ w3 ⟨rfl,B3,A,D⟩;refine .r rfl ?_;refine Af.step0 rfl rfl (Av.store A8 (vs:=[.bool true]) rfl rfl rfl rfl rfl B3 (Ai 1) (by simp[Value.oneCell'])) ?_;rintro _ q ⟨B4,f⟩;replace B4:Aj 4 q w2.heap.size [.bool true]:=B4;have m:Ac w2 q:=A.aj f AO;replace h:=h.ext m;replace B1:=B1.ext m;refine A7 ?_;refine .p FW ?_;refine A7 ?_;refine .cf ?_;refine .p (A0.func (us:=[]) (vs:=[_,_]) rfl rfl) ?_;refine .s (Av.call MF rfl (YN (G:=G) (w:=q) (r:=n) (c:=n) ⟨_,_,_,Pn,rfl,fun B d i j t b=>WI (h.ext d) (B1.ext d) (B4.ext d) t b u⟩ o.2 o.2)) ?_;rintro _ B ⟨d,g,rfl,z,y⟩;refine A7 ?_;refine .p (FX (B4.ext d)) ?_;refine A7 ?_;refine .cf ?_;exact Ad.aC A8 [_,_] rfl ⟨rfl,rfl,trivial⟩ ⟨((k.trans l).trans m).trans d,g,rfl,Ar ((k.trans l).trans m).size z,y⟩
variable {base k:Nat}{f:Nat->Nat->Int}{t:TypeId}{us:List Value}{lv mv:Value}
theorem VX (w:World) (a:Nat) (z:a<=4611686018427387904) :
  Calls prog 138 #[.int .i64 a] w (AJ fun r w'=>w'=w/\r=.int .i64 (Jo a)):=by
 refine cS func138 ntmps138 ?_;refine A7 ?_;by_cases c:a=0
 ·refine St.aD rfl (by subst c;rfl) ?_;refine A7 ?_;refine Ad.ax rfl rfl ⟨rfl,?_⟩;subst c;rfl
 refine St.ay rfl (beq_eq_false_iff_ne.2 oo) ?_;refine Nv ?_;refine .a 2 (.int .u64 (a:Int)) rfl (by rw[Cz];congr 1;omega) ?_;refine .s (oK JV (VA w a c oo)) ?_;rintro _ w1 ⟨rfl,L,rfl,v,y,k⟩;refine .a 1 (.int .i64 ((L+1:Nat):Int)) rfl (by rw[Ab oo oo];rfl) ?_;refine .p (A0.cU (L+1) 2 rfl rfl rfl rfl de oo) ?_;have b:(2:Nat) ^ ((L+1) / 2)<=2 ^ 32:=DB de oo;have f:0<(2:Nat) ^ ((L+1) / 2):=EM de;have m:a<2 ^ ((L+1) / 2) * 2 ^ ((L+1) / 2):=by rw[<- Df];exact CW k (DB de oo)
 have u:(2:Nat) ^ 32=4294967296:=by decide
 refine .p (A0.dW 1 ((L+1) / 2) rfl rfl rfl rfl (by show _<=64;omega) (by rw[Cf];exact Ab oo oo)) ?_;rw[Cf];generalize 2 ^ ((L+1) / 2)=r0 at *
 refine A7 ?_;refine St.loop (fun r:Nat=>[(0,.int .i64 (a:Int)),(3,.int .i64 (r:Int))]) (fun r w'=>w'=w1/\1<=r/\r<=4294967296/\a<(r+1) * (r+1)) (fun r=>r) r0 AL ?_ ?_
 ·refine⟨rfl,by omega,by omega,?_⟩;have:=Dg (LK r0) (LK r0);exact CW m this
 ·rintro r w2 ⟨rfl,d,o,j⟩;have h:a / r<=a:=EN a r;have g:=Qs (a:=a) (x:=r) d;have l:=Sy (a:=a) (x:=r);refine A7 ?_;refine .p (A0.cU a r rfl rfl rfl rfl d oo) ?_;generalize a / r=q at *
  refine .a 1 (.int .i64 ((r+q:Nat):Int)) rfl (by rw[Ab oo oo];rfl) ?_;refine .p (A0.cU (r+q) 2 rfl rfl rfl rfl de oo) ?_;generalize (r+q) / 2=x at *
  refine A7 ?_;by_cases t:x>=r
  ·refine St.aD rfl (decide_eq_true oo) ?_;refine A7 ?_;refine Ad.ax rfl rfl ⟨rfl,?_⟩;rw[EW.rt ⟨l oo,j⟩]
  ·refine St.ay rfl (decide_eq_false oo) ?_;refine A7 ?_;refine Ad.again x AL ⟨rfl,?_,by omega,g⟩ oo;rcases Gu x with e | e
   ·rw[e]at g;omega
   ·exact e
theorem SR (w:World) (a b:Int) (c:0<b) (j:-9223372036854775807<=a/\a<=9223372036854775807) :
  Calls prog 142 #[.int .i64 a,.int .i64 b] w (AJ fun r w'=>w'=w/\r=.int .i64 (a / b)):=by
 have d:a / b=if a.tmod b<0 then a.tdiv b - 1 else a.tdiv b:=by
  rw[Int.tdiv_eq_ediv,Int.tmod_eq_emod];have m:=Int.emod_nonneg a (show b≠0 by omega);have o:=Int.emod_lt_of_pos a c;have l:b.sign=1:=TX c;have k:(b.natAbs:Int)=b:=by omega
  by_cases h:0<=a\/b ∣ a
  ·rw[if_pos h,if_pos h];rw[if_neg oo];omega
  ·rw[if_neg h,if_neg h,l,k];have:a % b≠0:=fun e=>h (.inr (Int.dvd_of_emod_eq_zero e));rw[if_pos oo];omega
 have q:(a.tdiv b).natAbs<=a.natAbs:=by rw[Int.natAbs_tdiv];exact EN _ _
 have u:(a.tmod b).natAbs<=a.natAbs:=by rw[Int.natAbs_tmod];exact NU _ _
 refine cS func142 ntmps142 ?_;refine St.seq (St.region (Af.run A8 99 rfl (Af.nil (Ad.ak (St.seq (St.region (Af.run A8 99 rfl ?_)))))));refine .p (A0.quoZ rfl rfl oo j) ?_;refine .r rfl ?_;refine Af.nil (Ad.ak ?_);refine St.cut (fun g:Int=>[(5,.int .i64 g)]) (fun g w'=>w'=w/\g=a / b) ?_ ?_
 ·refine A7 ?_;refine .p (A0.bJ rfl rfl oo) ?_;by_cases h:a.tmod b<0
  ·refine .a 1 (.bool true) rfl (Aa h) ?_;refine A7 ?_;refine .ct ?_;refine Ad.met (a / b) ⟨?_,trivial⟩ ⟨rfl,rfl⟩;rw[d,if_pos h];show some (Value.int .i64 (IntKind.i64.wrap (a.tdiv b - 1)))=_;rw[Ab oo oo]
  ·refine .a 1 (.bool false) rfl (A9 h) ?_;refine A7 ?_;refine .cf ?_;refine Ad.met (a / b) ⟨?_,trivial⟩ ⟨rfl,rfl⟩;rw[d,if_neg h];rfl
 ·rintro g w1 ⟨rfl,rfl⟩;refine A7 ?_;exact Ad.ax rfl rfl ⟨rfl,rfl⟩
def YP (w:World) (mv lv:Value) (n:Nat) (f:Nat->Nat->Int):Prop:=∃ am cm al cl,mv=.slice (some am) (n+1) cm/\lv=.slice (some al) n cl/\(∀ j,j<n+1->w.cell? (am.add j)=some (.int .i64 (AY f j))) /\
 ∀ k,k<n->∃ pr cr,w.cell? (al.add k)=some (.slice pr (n - 1 - k) cr)/\(0<n - 1 - k->∃ ar,pr=some ar/\∀ j,j<n - 1 - k->w.cell? (ar.add j)=some (.int .i64 (CP f k 0 (j+1))))
theorem YP.ext {w:World}(h:YP w mv lv n f) (d:Ac w w'):YP w' mv lv n f:=by obtain⟨am,m,al,l,q,r,u,v⟩:=h;refine⟨am,m,al,l,q,r,fun j c=>d.cell (u j c),fun k y=>?_⟩;obtain⟨pr,o,k1,k2⟩:=v k y;refine⟨pr,o,d.cell k1,fun z=>?_⟩;obtain⟨g,e,k3⟩:=k2 z;exact⟨g,e,fun j c=>d.cell (k3 j c)⟩
def A5Z (b c:Nat):Value:=.slice (if c=1 then some ⟨b,0,none⟩ else some ⟨b,1,none⟩) (c - 1) (c - 1)
def WJ (w:World) (us:List Value) (mv:Value) (n:Nat) (f:Nat->Nat->Int):Prop:=∀ k,k<us.length->∃ b,us[k]?=some (A5Z b (n - k))/\Aj 2 w b (Ii (n - k) (CP f k 0))/\mv.ownBlock≠some b
theorem Aq.own_lt {q:Nat}{w:World}{v:Value}(h:Aq k e base w v us) (c:v.ownBlock=some q):q<w.heap.size:=by
 rcases h.2 with ⟨hv,_⟩ | ⟨g,cap,D,hv,_,hB,_⟩
 ·rw[hv]at c;cases c
 ·rw[hv]at c;cases c;exact hB.lt
theorem WJ.kp {w:World}(h:WJ w us mv n f) (c:Kp t base w w') (e:2≠t):WJ w' us mv n f:=fun k d=>by obtain⟨b,k1,k2,k3⟩:=h k d;exact⟨b,k1,c.typed _ _ _ k2 e,k3⟩
theorem YQ {w:World}{v:Value}(h:G8 w v n f) (z:1<=n/\n<=8) (F:BQ n f) :
  Calls prog 139 #[v] w (AJ fun x w'=>Ac w w'/\∃ mv lv,x=.agg #[mv,lv]/\YP w' mv lv n f):=by
 have ut:1<=n/\n<=16:=by omega
 refine cS func139 ntmps139 ?_;refine Nv ?_;refine .s (oA) ?_;rintro _ w1 ⟨rfl,B2,km,vc⟩;refine A7 ?_;refine .s (oK JW (Nw (h.ext km) ut (fun i j Y hj=>by have:=F.ent z.2 Y hj;omega))) ?_;rintro _ w2 ⟨kn,u,rs,rfl,hC⟩;have ud:=hC.mc z.1 z.1;refine A7 ?_;refine .s (oK Ks (SH ud z F.pos (F.szs z.2) (F.szd z.2))) ?_;rintro _ w3 ⟨ko,sv,rfl,us,h5,kk,ux⟩;obtain⟨ps,cs,kg⟩:=h5.len;rw[kk]at kg;subst kg;have kl:=(km.trans kn).trans ko;refine A7 ?_;refine .s (Av.aP (k:=1) rfl rfl rfl rfl rfl (Gr 1)) ?_;rintro _ o ⟨rfl,B4,hb,vd⟩;refine .p (rB) ?_;refine .s (oA) ?_;rintro _ w5 ⟨rfl,B5,u2,ve⟩;refine Af.step0 rfl rfl (Av.store A8 (vs:=[.slice (some ⟨w3.heap.size,0,none⟩) 1 1,.slice none 0 0]) rfl rfl rfl rfl rfl B5 (Ai 2) (by simp[Value.oneCell'])) ?_;rintro _ w6 ⟨S,uw⟩;replace S:Aj 178 w6 o.heap.size [.slice (some ⟨w3.heap.size,0,none⟩) 1 1,.slice none 0 0]:=S;have ku:Ac o w6:=u2.aj uw AO;have ks:=hb.trans ku;have vb:=kl.trans ks;have ub:Aq 1 2 w3.heap.size w6 (.slice (some ⟨w3.heap.size,0,none⟩) 1 1) (Ii 1 (AY f)):=by
  refine⟨RQ [AY f 0],.inr ⟨w3.heap.size,1,[],rfl,Ai _,?_,rfl,Ai _,by unfold maxLen;omega⟩⟩;rw[D7];have e:AV (Ii 1 (AY f))=[.int .i64 1]:=by rw[show Ii 1 (AY f)=[.int .i64 (AY f 0)] from rfl,Nz];rfl
  rw[e];exact B4.ext ku
 refine A7 ?_;refine H6 (26) (0) (n) [(2,.pointer (some ⟨w.heap.size,0,none⟩)),(7,.pointer (some ⟨o.heap.size,0,none⟩)),(24,.slice ps n cs),(25,.int .i64 n)] (fun i w'=>Ac w3 w'/\∃ mv lv m,Aj 178 w' o.heap.size [mv,lv]/\Aq 1 2 w3.heap.size w' mv (Ii (i+1) (AY f))/\Aq 1 33 w3.heap.size w' lv m/\m.length=i/\WJ w' m mv n f) ?_ ?_ ?_
 ·exact⟨ks,_,_,[],S,ub,Aq.nil,rfl,fun k d=>by simp at d⟩
 ·rintro i w7 Y ⟨G,mv,lv,m,B7,y,t,Q,O⟩;have hs:us[i]?=some (us[i]'oo):=by simp
  have h4:=(ux i _ hs).ext G;obtain⟨aS,cS,eS,h8⟩:=(h5.ext G).get hs;rw[kk]at eS;cases eS;generalize us[i]=sg at h4 h8;have hG:∀ p q,p<n - i->q<n - i->sz (CP f i p q)<=1000/\-9223372036854775808<=CP f i p q/\CP f i p q<=9223372036854775807:=fun p q Z P=>by have J:=F.st z.2 (show i<=n by omega) Z P;exact⟨F.szs z.2 i Y p q Z P,by omega,by omega⟩
  have hd:=HF f i;have up:=fun q (e:mv.ownBlock=some q)=>y.own_lt e;obtain⟨vi,u6,u8⟩:=y.len;obtain⟨vg,u4,u7⟩:=t.len;refine A7 ?_;refine .p (A0.ia) ?_;refine .p (rL h8) ?_;refine A7 ?_;refine .s (oK Rt (YO h4 oo hG)) ?_;rintro _ I ⟨H,g,rfl,hg,vj,kf,va,uv⟩;obtain⟨b,h6,u9,h7⟩:=uv 0 oo;have ha:=G.trans H;replace B7:=B7.ext H;replace y:=y.ext H;replace t:=t.ext H;have V:WJ I m mv n f:=fun k d=>by obtain⟨b',k1,k2,k3⟩:=O k d;exact⟨b',k1,k2.ext H,k3⟩
  have uq:mv.ownBlock≠some b:=fun e=>by have J:=up b e;have h2:=H.size;omega
  have um:I.cell? ((⟨g,0,none⟩:Addr).add 0)=some (.slice (some ⟨b,0,none⟩) (n - i) (n - i)):=by rw[Ak,AE];exact kf.cell h6
  have uk:I.cell? ((⟨b,0,none⟩:Addr).add 0)=some (.int .i64 (AY f (i+1))):=by rw[Ak,AE,<- hd];exact h7.cell (QU oo)
  refine A7 ?_;refine St.sub (E':=[(26,.int .i64 i),(2,.pointer (some ⟨w.heap.size,0,none⟩)),(7,.pointer (some ⟨o.heap.size,0,none⟩)),(24,.slice (some aS) n cs),(25,.int .i64 n),(10,.slice (some ⟨g,0,none⟩) (n - i) (n - i))]) ?_ AL;refine St.draw 8 [(35,Is (.pointer (some ⟨o.heap.size,0,none⟩))),(36,Is mv),(37,Is (.slice (some ⟨g,0,none⟩) (n - i) (n - i))),(38,Is (.pointer (some (Addr.add ⟨g,0,none⟩ 0)))),(39,Is (.slice (some ⟨b,0,none⟩) (n - i) (n - i))),(40,Is (.pointer (some (Addr.add ⟨b,0,none⟩ 0)))),(41,Is (.int .i64 (AY f (i+1)))),(42,fun v w'=>∃ q,v=.slice (some ⟨q,0,none⟩) 1 1/\Aj 2 w' q [.int .i64 (AY f (i+1))])] Dv kr rfl kr kr ⟨Is.mono _,Is.mono _,Is.mono _,Is.mono _,Is.mono _,Is.mono _,Is.mono _,fun _ _ _ a ⟨q,e,hv⟩=>⟨q,e,hv.ext a⟩,trivial⟩ ?_ ?_
  ·refine⟨?_,?_,?_,?_,?_,?_,?_,?_,trivial⟩
   ·exact fun l c=>oP
   ·rintro l c _ rfl;exact CD.run rfl rfl rfl rfl (FX (B7.ext c)) rfl
   ·exact fun l c=>oP
   ·rintro l c _ rfl;exact CD.run rfl rfl rfl rfl (A0.indexAddr A8 rfl rfl rfl rfl rfl oo oo) rfl
   ·rintro l c _ rfl;exact CD.run rfl rfl rfl rfl (rL (c.cell um)) rfl
   ·rintro l c _ rfl;exact CD.run rfl rfl rfl rfl (A0.indexAddr A8 rfl rfl rfl rfl rfl oo oo) rfl
   ·rintro l c _ rfl;exact CD.run rfl rfl rfl rfl (rL (c.cell uk)) rfl
   ·rintro l c _ rfl;refine CD.op rfl rfl rfl rfl (Av.aP (k:=1) rfl rfl rfl rfl rfl (Gr _)) ?_;rintro v w' ⟨rfl,B,a,_⟩;exact⟨a,_,rfl,B⟩
  rintro w9 D _ rfl kv ho _ rfl _ rfl _ rfl _ rfl _ rfl _ ⟨q,rfl,P⟩ _;replace ho:kv=mv:=ho;subst kv;have h3:=y.ext D;have k6:=t.ext D;have B9:=B7.ext D;have uj:=h7.ext D;have ua:WJ w9 m mv n f:=fun k d=>by obtain⟨b',k1,k2,k3⟩:=V k d;exact⟨b',k1,k2.ext D,k3⟩
  have kt:=ha.trans D;refine .s (Av.dc h3 (Gr (AY f (i+1))) P rfl rfl rfl rfl rfl rfl rfl (by rw[Ll];omega) rfl kt.size) ?_;rintro E he ⟨W,h9,ul⟩;rw[S1]at W;have N:=J2 h3 h9;have uy:Ac w3 he:=N.ext0 w3 kt AO;have ka:∀ b' C,Aj 2 w9 b' C->mv.ownBlock≠some b'->Aj 2 he b' C/\E.ownBlock≠some b':=fun b' C hB ke=>by
   refine⟨(h9.block b' hB.lt (fun e=>ke e.symm)).trans hB,fun e=>?_⟩;rcases ul with J | J
   ·exact ke (J ▸ e)
   ·rw[J]at e;cases e;exact absurd hB.lt oo
  obtain⟨ug,ur⟩:=ka b _ uj uq;have k7:WJ he m E n f:=fun k d=>by obtain⟨b',k1,k2,k3⟩:=ua k d;obtain⟨k4,k5⟩:=ka b' _ k2 k3;exact⟨b',k1,k4,k5⟩
  have hh:=N.typed _ _ _ B9 de;have kz:=N.row k6 de;obtain⟨vh,u5,kd⟩:=W.len;refine .r rfl ?_;refine Af.step0 rfl rfl (Av.store A8 (vs:=[E]) rfl rfl rfl (by rw[kd];rfl) rfl hh (by show 0+1<=2;decide) (by rw[kd];simp[Value.oneCell'])) ?_;rintro _ hf ⟨M,kh⟩;replace M:Aj 178 hf o.heap.size [E,lv]:=M;have K:=kh.kp hh;have uz:Ac w3 hf:=uy.aj kh hb.size;have ue:=K.row W de;have hy:=K.row kz de;have k8:=k7.kp K de;have uh:=K.typed _ _ _ ug de;have un:hf.cell? ((⟨g,0,none⟩:Addr).add 0)=some (.slice (some ⟨b,0,none⟩) (n - i) (n - i)):=by rw[Ak,AE];exact (K.typed _ _ _ (N.typed _ _ _ (kf.ext D) de) de).cell h6
  refine Nv ?_;refine St.sub (E':=[(26,.int .i64 i),(2,.pointer (some ⟨w.heap.size,0,none⟩)),(7,.pointer (some ⟨o.heap.size,0,none⟩)),(24,.slice (some aS) n cs),(25,.int .i64 n),(10,.slice (some ⟨g,0,none⟩) (n - i) (n - i))]) ?_ AL;refine St.draw 7 [(45,Is (.pointer (some ⟨o.heap.size,1,none⟩))),(46,Is lv),(47,Is (.slice (some ⟨g,0,none⟩) (n - i) (n - i))),(48,Is (.pointer (some (Addr.add ⟨g,0,none⟩ 0)))),(49,Is (.slice (some ⟨b,0,none⟩) (n - i) (n - i))),(50,Is (A5Z b (n - i))),(51,fun v w'=>∃ q,v=.slice (some ⟨q,0,none⟩) 1 1/\Aj 33 w' q [A5Z b (n - i)])] Dv kr rfl kr kr ⟨Is.mono _,Is.mono _,Is.mono _,Is.mono _,Is.mono _,Is.mono _,fun _ _ _ a ⟨q,e,hv⟩=>⟨q,e,hv.ext a⟩,trivial⟩ ?_ ?_
  ·refine⟨?_,?_,?_,?_,?_,?_,?_,trivial⟩
   ·exact fun l c=>oP
   ·rintro l c _ rfl;exact CD.run rfl rfl rfl rfl (FX (M.ext c)) rfl
   ·exact fun l c=>oP
   ·rintro l c _ rfl;exact CD.run rfl rfl rfl rfl (A0.indexAddr A8 rfl rfl rfl rfl rfl oo oo) rfl
   ·rintro l c _ rfl;exact CD.run rfl rfl rfl rfl (rL (c.cell un)) rfl
   ·rintro l c _ rfl;refine CD.run rfl rfl rfl rfl (A0.bC A8 rfl rfl rfl rfl 1 rfl oo) ?_;exact rfl
   ·rintro l c _ rfl;refine CD.op rfl rfl rfl rfl (Av.aP (k:=1) rfl rfl rfl rfl rfl (.inl ⟨rfl,rfl,rfl⟩)) ?_;rintro v w' ⟨rfl,B,a,_⟩;exact⟨a,_,rfl,B⟩
  rintro vk A _ rfl kw ht _ rfl _ rfl _ rfl _ rfl _ ⟨q2,rfl,uu⟩ _;replace ht:kw=lv:=ht;subst kw;have kq:=uz.trans A;refine .s (Av.dc (hy.ext A) (u:=A5Z b (n - i)) (.inl ⟨rfl,rfl,rfl⟩) uu rfl rfl rfl rfl rfl rfl rfl oo rfl kq.size) ?_;rintro hc kx ⟨h0,uo,_⟩;have L:=J2 (hy.ext A) uo;have u0:Ac w3 kx:=L.ext0 w3 kq AO;have hl:=L.typed _ _ _ (M.ext A) de;have uf:=L.row (ue.ext A) de;have ui:=L.typed _ _ _ (uh.ext A) de;have k9:WJ kx m E n f:=WJ.kp (fun k d=>by obtain⟨b',k1,k2,k3⟩:=k8 k d;exact⟨b',k1,k2.ext A,k3⟩) L de
  obtain⟨vf,u3,kc⟩:=h0.len;refine .r rfl ?_;refine Af.step0 rfl rfl (Av.store A8 (vs:=[hc]) rfl rfl rfl (by rw[kc];rfl) rfl hl (by show 1+1<=2;decide) (by rw[kc];simp[Value.oneCell'])) ?_;rintro _ ky ⟨R,ki⟩;replace R:Aj 178 ky o.heap.size [E,hc]:=R;have T:=ki.kp hl;have u1:Ac w3 ky:=u0.aj ki hb.size;refine A7 ?_;refine Ad.rnd AL ⟨u1,E,hc,_,R,T.row uf de,T.row h0 de,by simp;omega,?_⟩;refine WJ.kp (fun k d=>?_) T de;by_cases kb:k<m.length
  ·obtain⟨b',k1,k2,k3⟩:=k9 k kb;exact⟨b',by rw[BM kb];exact k1,k2,k3⟩
  ·have e:k=i:=by simp at d;omega
   subst e;exact⟨b,by rw[Es oo,Q,J6];rfl,ui,ur⟩
 ·rintro w7 ⟨G,mv,lv,m,B7,y,t,Q,O⟩;obtain⟨pm,cm,em⟩:=y.len;obtain⟨pl,cl,el⟩:=t.len;have hw:=B2.ext ((kn.trans ko).trans G);refine A7 ?_;refine .p (A0.aA A8 rfl rfl rfl B7 (Ai 2) rfl) ?_;refine Af.step0 rfl rfl (Av.store A8 (vs:=[mv,lv]) rfl rfl rfl rfl rfl hw (Ai 2) (by rw[em,el];simp[Value.oneCell'])) ?_;rintro _ I ⟨B8,kj⟩;replace B8:Aj 178 I w.heap.size [mv,lv]:=B8;have U:=kj.kp hw;have uc:=U.row y de;have k0:=U.row t de;have V:=O.kp U de;have ha:Ac w I:=(kl.trans G).aj kj AO;refine A7 ?_;refine Ad.aC A8 [.agg #[mv,lv]] rfl ⟨⟨_,_,_,_,rfl,B8,rfl,rfl,rfl,rfl⟩,trivial⟩ ⟨ha,mv,lv,rfl,?_⟩;obtain⟨am,cm,rfl,hm⟩:=uc.eD oo;have hr:=k0.row (fun u hu=>by obtain⟨k,d⟩:=Cx.1 hu;obtain⟨b,k1,_⟩:=O k (Au.1 d).1;rw[d]at k1;cases k1;rfl)
  have hz:m[0]?=some (m[0]'oo):=by simp
  obtain⟨al,cl,hv,_⟩:=hr.get hz;rw[Q]at hv;subst hv;refine⟨am,_,al,_,rfl,rfl,hm,fun k d=>?_⟩;obtain⟨b,k1,k2,_⟩:=V k oo;obtain⟨a',c',e',X⟩:=hr.get k1;rw[Q]at e';simp only[Ci,AP]at e';obtain⟨rfl,_,_⟩:=e';unfold A5Z at X;rw[show n - k - 1=n - 1 - k by omega]at X;refine⟨_,_,X,fun Z=>?_⟩;rw[if_neg oo];refine⟨_,rfl,fun j hj=>?_⟩;rw[Ak];exact k2.cell (by rw[FD];exact QU oo)
variable {bx:Nat}
def TF:List (Nat×TI):=(180,⟨.func #[3,2] #[] false,1,8,.nilFunc⟩)::(131,⟨.func #[3] #[] false,1,8,.nilFunc⟩)::(92,⟨.map 2 2,1,8,.map none⟩)::TB
theorem Tw:Aw prog TF:=Aw.cons underlying180 kr (Aw.cons underlying131 kr (Aw.cons underlying92 kr A8))
theorem YP.open {w:World}(h:YP w mv lv n f):∃ am l al g,mv=.slice (some am) (n+1) l/\lv=.slice (some al) n g/\(∀ w',Ac w w'->∀ j,j<n+1->w'.cell? (am.add j)=some (.int .i64 (AY f j))) /\
  ∀ w',Ac w w'->∀ k,k<n->∃ pr m,w'.cell? (al.add k)=some (.slice pr (n - 1 - k) m)/\(0<n - 1 - k->∃ c,pr=some c/\∀ j,j<n - 1 - k->w'.cell? (c.add j)=some (.int .i64 (CP f k 0 (j+1)))):=by obtain⟨am,l,al,g,q,r,u,v⟩:=h;refine⟨am,l,al,g,q,r,fun w' d j o=>d.cell (u j o),fun w' d k y=>?_⟩;obtain⟨pr,m,k1,k2⟩:=v k y;refine⟨pr,m,d.cell k1,fun z=>?_⟩;obtain⟨c,e,k3⟩:=k2 z;exact⟨c,e,fun j o=>d.cell (k3 j o)⟩
theorem A26 {w:World}{xs:List Int}(u:YP w mv lv n f) (hB:Aj 178 w b [mv,lv]) (v:Aj 2 w bx (xs.map DZ)) (d:BQ n f) (C:1<=n/\n<=8) (T:xs.length=n) (s:k<n) (z:aS (xs.drop (k+1))<=549755813888) :
  Calls prog 141 #[.pointer (some ⟨b,0,none⟩),.int .i64 k,.slice (some ⟨bx,0,none⟩) n n] w (AJ fun x w'=>w'=w/\x=.int .i64 (DG f n (xs.drop (k+1)))):=by
 obtain⟨ys,e⟩:∃ ys,ys=xs.drop (k+1):=⟨_,rfl⟩;have F:ys.length=n - 1 - k:=by rw[e,Jy];omega
 rw[<- e]at z ⊢;have h:n - ys.length - 1=k:=by omega
 have N:=d.aW C.2 (show k+1<=n by omega);obtain⟨am,I,al,H,rfl,rfl,_,A⟩:=u.open;obtain⟨pr,q,l,o⟩:=A w (Ac.refl _) k s;rw[<- F]at l o;refine cS func141 ntmps141 ?_;refine A7 ?_;refine .p FW ?_;refine .r rfl ?_;refine .p (A0.ia) ?_;refine .p (rL l) ?_;refine A7 ?_;refine sG (18) (0) (ys.length) (fun g:Int=>[(1,.int .i64 k),(2,.slice (some ⟨bx,0,none⟩) n n),(7,.int .i64 g),(16,.slice pr ys.length q),(17,.int .i64 ys.length)]) (fun i g w'=>w'=w/\g=Ay i (fun j=>CP f k 0 (j+1) * yv ys j)) (0) ?_ ?_ ?_
 ·exact⟨rfl,rfl⟩
 ·rintro i g w1 m ⟨rfl,rfl⟩;obtain⟨G,rfl,t⟩:=o oo;have E:(xs.map DZ)[k+1+i]?=some (.int .i64 (yv ys i)):=by
   have c:(xs.drop (k+1))[i]?=some (yv ys i):=by rw[<- e];unfold yv;rw[Bd,DH m];rfl
   rw[Jt]at c;simp[c]
  have S:=QP d (k:=k) (j:=i) oo;have L:=Vx ys i;have Q:=Fx (x:=CP f k 0 (i+1)) (y:=yv ys i) (a:=32768) (b:=549755813888) oo oo;have R:=QV (M:=18014398509481984) (g:=fun j=>CP f k 0 (j+1) * yv ys j) i (fun j P=>by have c:=QP d (k:=k) (j:=j) oo;have J:=Vx ys j;have K:=Fx (x:=CP f k 0 (j+1)) (y:=yv ys j) (a:=32768) (b:=549755813888) oo oo;omega)
  have O:(i:Int) * 18014398509481984<=8 * 18014398509481984:=Jz oo oo;have D:Ay (i+1) (fun j=>CP f k 0 (j+1) * yv ys j)=Ay i (fun j=>CP f k 0 (j+1) * yv ys j)+CP f k 0 (i+1) * yv ys i:=rfl;refine Nv ?_;refine .r rfl ?_;refine .p (A0.ia) ?_;refine .p (rL (t i m)) ?_;refine .r rfl ?_;refine Nv ?_;refine .a 5 (.int .i64 ((k+1:Nat):Int)) rfl (Bv oo) ?_;refine .a 2 (.int .i64 ((k+1+i:Nat):Int)) rfl (by rw[Ab oo oo];rfl) ?_;refine .p (A0.ia) ?_;refine .p (rL (show w1.cell? (Addr.add ⟨bx,0,none⟩ (k+1+i))=some (.int .i64 (yv ys i)) by rw[Ak,AE];exact v.cell E)) ?_;refine .a 1 (.int .i64 (CP f k 0 (i+1) * yv ys i)) rfl (by rw[Ab oo oo]) ?_;refine .a 1 (.int .i64 (Ay (i+1) (fun j=>CP f k 0 (j+1) * yv ys j))) rfl (by rw[D,Ab oo oo]) ?_;refine A7 ?_;exact Ad.aO _ AL ⟨rfl,rfl⟩
 ·rintro g w1 ⟨rfl,rfl⟩;have B:Ay ys.length (fun j=>CP f k 0 (j+1) * yv ys j)=DG f n ys:=by unfold DG;rw[h]
  rw[B];refine A7 ?_;exact Ad.ax rfl rfl ⟨rfl,rfl⟩
variable {b7 b8:Nat}{α:Type}{wB:World}
def Rj (f:Nat->Nat->Int) (n:Nat) (B:Int):Nat->List Int->List (Int×Int)
 | 0,ys=>[(Cc f n B ys,Ct f n B ys)]
 | k+1,ys=>(Cc f n B ys,Ct f n B ys)::JG (fun x=>Rj f n B k (x::ys)) (CY f n B ys).toNat (Cc f n B ys)
theorem A7l (g:Int->List α) (h:Nat->Int):∀ (j:Nat) (x:Int),(∀ i,i<j->((g (x+(i:Nat))).length:Int)<=h i)->((JG g j x).length:Int)<=Ay j h:=by
 intro j;induction j generalizing h with
 | zero=>intro x _;simp[JG,Ay]
 | succ j ih =>
  intro x d;have e:=d 0 oo;have k:=ih (fun i=>h (i+1)) (x+1) (fun i m=>by have:=d (i+1) oo;rw[show x+((i+1:Nat):Int)=x+1+(i:Nat) by omega]at this;exact this)
  rw[show x+((0:Nat):Int)=x by omega]at e;have l:Ay (j+1) h=h 0+Ay j (fun i=>h (i+1)):=by have c:=VG 1 h j;rw[FD 1 j]at c;rw[c,show Ay 1 h=h 0 by simp[Ay],Bo fun i _=>by rw[FD 1 i]]
  show (((g x)++JG g j (x+1)).length:Int)<=_;rw[Bf];omega
theorem A0p (h:Nat->Int):∀ c:Nat,Ay c (fun i=>1+h i)=(c:Int)+Ay c h
 | 0=>rfl
 | c+1=>by show Ay c (fun i=>1+h i)+(1+h c)=_+(Ay c h+h c);rw[A0p h c];omega
theorem A2S (h:BQ n f) (B:Int):∀ (k:Nat) (ys:List Int),((Rj f n B k ys).length:Int)<=1+P7 f n B k ys
 | 0,ys=>by show (1:Int)<=1+0;omega
 | k+1,ys=>by rw[A0d];have c:=A7l (fun x=>Rj f n B k (x::ys)) (fun i=>1+P7 f n B k ((Cc f n B ys+i)::ys)) (CY f n B ys).toNat (Cc f n B ys) (fun i _=>A2S h B k _);rw[A0p]at c;have d:=KM h B ys;show (((Cc f n B ys,Ct f n B ys)::JG (fun x=>Rj f n B k (x::ys)) (CY f n B ys).toNat (Cc f n B ys)).length:Int)<=_;rw[BR];omega
def ivV (p:Int×Int):Value:=.agg #[.int .i64 p.1,.int .i64 p.2]
theorem YR (p:Int×Int):Y1 2 (ivV p):=.inr ⟨rfl,_,_,rfl,rfl,rfl⟩
section
variable (n:Nat)(f:Nat->Nat->Int)(B:Int)(wB wE:World)(b7 b8 b9 b10 bx:Nat)
def emV:Value:=.func (.func 140) #[] #[.pointer (some ⟨b7,0,none⟩),.pointer (some ⟨b8,0,none⟩),.pointer (some ⟨b9,0,none⟩),.pointer (some ⟨b10,0,none⟩)]
def EmI (w:World) (xs:List Int) (l:List (Int×Int)):Prop:=Ac wB w/\Aj 2 w bx (xs.map DZ)/\xs.length=n/\Aj 33 w b8 [.slice (some ⟨bx,0,none⟩) n n]/\(∃ lv,Aj 89 w b9 [lv]/\Aq 2 133 wE.heap.size w lv (l.map ivV))/\Aj 180 w b10 [emV b7 b8 b9 b10]
def A27 (k:Nat):Prop:=∀ (xs:List Int) (l:List (Int×Int)) (w:World),EmI n wB wE b7 b8 b9 b10 bx w xs l->0<=HO f n B (xs.drop (k+1))->(l.length:Int)+(Rj f n B k (xs.drop (k+1))).length<=1000001 ->
 Calls prog 140 #[.int .i64 k,.int .i64 (HO f n B (xs.drop (k+1))),.pointer (some ⟨b7,0,none⟩),.pointer (some ⟨b8,0,none⟩),.pointer (some ⟨b9,0,none⟩),.pointer (some ⟨b10,0,none⟩)] w (AJ fun _ w' =>
  ∃ xs',EmI n wB wE b7 b8 b9 b10 bx w' xs' (l++Rj f n B k (xs.drop (k+1)))/\xs'.drop (k+1)=xs.drop (k+1))
end
theorem Xq {wE:World}{b9 b10:Nat}(j:BQ n f) (t:1<=n/\n<=8) (hB:0<=B/\B<1073741824) (hp:YP wB mv lv n f) (hl:Aj 178 wB b7 [mv,lv]) (Y:wB.heap.size<=bx/\wB.heap.size<=b8/\wB.heap.size<=b9/\wB.heap.size<=b10/\wB.heap.size<=wE.heap.size/\wE.heap.size<=b10+1)
 (hk:k<n) (ih:∀ k',k=k'+1->A27 n f B wB wE b7 b8 b9 b10 bx k'):A27 n f B wB wE b7 b8 b9 b10 bx k:=by
 intro xs l w hI Z hy;obtain⟨D,V,ka,P,⟨sv,h9,hS⟩,he⟩:=hI;obtain⟨ys,E⟩:∃ ys,ys=xs.drop (k+1):=⟨_,rfl⟩;have u1:ys.length=n - 1 - k:=by rw[E,Jy];omega
 have K:n - ys.length=k+1:=by omega
 have ks:n - ys.length - 1=k:=by omega
 have up:=FR j t.2 (R:=2147483648) hB.1 oo ys oo (by rw[E];exact Z);have k4:(2:Nat) ^ ys.length<=2 ^ 8:=DB de oo;have ko:aS ys<=549755813888:=by
  have:=HV 2147483648 k4;have e8:(2:Nat) ^ 8=256:=by decide
  omega
 have h3:=fun (e:World) (c:Ac w e)=>A26 (k:=k) ((hp.ext D).ext c) ((hl.ext D).ext c) (V.ext c) j t ka hk (by rw[<- E];exact ko);rw[<- E]at Z hy h3 ⊢;have L:=j.aW t.2 (show k+1<=n by omega);have ur:=j.aW t.2 (show k<=n by omega);have ux:=NC j t.2 (ys:=ys) oo hB.1;have k9:0<=GH f n B ys:=(HG j B).1 Z;have kz:=QQ j (show ys.length<n by omega);rw[K]at kz;have uu:-18014398509481984<=DG f n ys/\DG f n ys<=18014398509481984:=by have:=O2 (show AY f (k+1)<=65536 by omega) (show (aS ys:Int)<=549755813888 by omega) oo oo;omega
 obtain⟨r,H⟩:∃ r,r=Jo (GH f n B ys).natAbs:=⟨_,rfl⟩;have k7:EW (GH f n B ys).natAbs r:=by rw[H];exact EI _
 have uw:r<=2147483648:=by have h1:=(Lh k7 r).1 oo;have h2:=QS (u:=r) (R:=2147483648) oo oo;omega
 have k0:Cc f n B ys=-(((r:Int)+DG f n ys) / AY f (k+1)):=by unfold Cc Mi;rw[<- H,K,NW]
 have kv:Ct f n B ys=((r:Int) - DG f n ys) / AY f (k+1):=by unfold Ct Mj;rw[<- H,K]
 have ul:=Lm (a:=(r:Int)+DG f n ys) (d:=AY f (k+1)) (M:=18014400656965632) L.1 oo;have uk:=Lm (a:=(r:Int) - DG f n ys) (d:=AY f (k+1)) (M:=18014400656965632) L.1 oo;have kw:=Xc j (ys:=ys) (r:=r);have kx:Cc f n B ys<=Ct f n B ys+1:=by unfold Cc Ct;rw[<- H];exact kw
 obtain⟨am,cm,al,cl,rfl,rfl,h0,_⟩:=hp.open;have k2:=h0 w D (k+1) oo;have k1:=h0 w D k oo;have hm:=hl.ext D;have ua:AY f k * HO f n B ys=GH f n B ys:=by rw[KL,ks]
 have h4:((GH f n B ys).natAbs:Int)=GH f n B ys:=by omega
 refine cS func140 ntmps140 ?_;refine Nv ?_;refine sD 9 [(16,Is (.pointer (some ⟨b7,0,none⟩))),(17,Is (.slice (some am) (n+1) cm)),(18,Is (.int .i64 k)),(19,Is (.int .i64 ((k+1:Nat):Int))),(20,Is (.pointer (some (am.add (k+1))))),(21,Is (.int .i64 (AY f (k+1)))),(22,Is (.int .i64 k)),(23,Is (.slice (some ⟨bx,0,none⟩) n n)),(24,Is (.int .i64 (DG f n ys)))] ?_ ?_
 ·refine⟨?_,?_,?_,?_,?_,?_,?_,?_,?_,trivial⟩
  ·exact fun e c=>oP
  ·rintro e c _ rfl;exact CD.run rfl rfl rfl rfl (FX (hm.ext c)) rfl
  ·exact fun e c=>oP
  ·rintro e c _ rfl;exact CD.pure A8 rfl rfl rfl rfl rfl (Bv oo)
  ·rintro e c _ rfl _ rfl;exact CD.run rfl rfl rfl rfl (A0.indexAddr A8 rfl rfl rfl rfl rfl oo oo) rfl
  ·rintro e c _ rfl;exact CD.run rfl rfl rfl rfl (rL (c.cell k2)) rfl
  ·exact fun e c=>oP
  ·exact fun e c=>CD.run rfl rfl rfl rfl (FX (P.ext c)) rfl
  ·rintro e c _ rfl _ rfl;refine oC PJ (h3 e c) ?_;rintro v w' ⟨rfl,rfl⟩;exact⟨Ac.refl _,rfl⟩
 rintro w1 o _ rfl _ rfl _ rfl _ rfl _ rfl _ rfl _ rfl _ rfl _ rfl _;have uo:=hm.ext o;refine .r rfl ?_;refine Nv ?_;refine .r rfl ?_;refine .p FW ?_;refine .r rfl ?_;refine .p (A0.ia) ?_;refine .p (rL (o.cell k1)) ?_;refine .a 2 (.int .i64 (GH f n B ys)) rfl (by rw[ua,Ab oo oo]) ?_;rw[<- h4];refine A7 ?_;refine .s (Av.call Qk rfl (VX w1 (GH f n B ys).natAbs oo)) ?_;rintro _ w2 ⟨rfl,rfl⟩;rw[<- H];refine .r rfl ?_;refine Nv ?_;refine .a 3 (.int .i64 ((r:Int)+DG f n ys)) rfl (by rw[Ab oo oo]) ?_;refine .r rfl ?_;refine .s (Av.call OL rfl (SR w2 _ _ L.1 oo)) ?_;rintro _ w3 ⟨rfl,rfl⟩;refine .a 1 (.int .i64 (Cc f n B ys)) rfl (by rw[k0,Ab oo oo,Int.zero_sub]) ?_;refine .a 3 (.int .i64 ((r:Int) - DG f n ys)) rfl (by rw[Ab oo oo]) ?_;refine .r rfl ?_;refine .s (Av.call OL rfl (SR w3 _ _ L.1 oo)) ?_;rintro _ w4 ⟨rfl,rfl⟩;rw[<- kv];obtain⟨q,hq⟩:∃ q,q=(Cc f n B ys,Ct f n B ys):=⟨_,rfl⟩;have hh:=P.ext o;have Q:=h9.ext o;have O:=he.ext o;have U:=hS.ext o;have hs:=V.ext o;have uc:=D.trans o;have k8:wE.heap.size<=w4.heap.size:=by have:=O.lt;omega
 obtain⟨ps,cs,un⟩:=U.len;have uv:1<=(Rj f n B k ys).length:=by cases k <;> simp[Rj]
 refine .r rfl ?_;refine Nv ?_;refine .p (FX Q) ?_;refine .r rfl ?_;refine .p (rB) ?_;refine Af.aZ U (YR (Cc f n B ys,Ct f n B ys)) rfl rfl rfl rfl rfl rfl (fun _=>rfl) rfl rfl (by rw[Bj];omega) rfl k8 ?_;intro p5 v5 w5 J ht kh _ _;have F:Kp 133 wE.heap.size w4 w5:=⟨ht,fun t' b C h k3=>kh t' b C h (.inl k3)⟩;rw[show [ivV (Cc f n B ys,Ct f n B ys)]=[(Cc f n B ys,Ct f n B ys)].map ivV from rfl,<- Ev]at J;have hi:=F.typed _ _ _ hh de;have S:=F.typed _ _ _ Q de;have hf:=F.typed _ _ _ O de;have hx:=F.typed _ _ _ hs de;have ud:=ht wB uc Y.2.2.2.2.1;obtain⟨u2,um,hd⟩:=J.len;refine Af.step0 rfl rfl (Av.store A8 (vs:=[v5]) rfl rfl rfl (by rw[hd];rfl) rfl S (by show 0+1<=1;decide) (by rw[hd];simp[Value.oneCell'])) ?_;rintro _ w6 ⟨I,h5⟩;replace I:Aj 89 w6 b9 [v5]:=I;have G:=h5.kp S;have ho:EmI n wB wE b7 b8 b9 b10 bx w6 xs (l++[(Cc f n B ys,Ct f n B ys)]):=⟨ud.aj h5 Y.2.2.1,G.typed _ _ _ hx de,ka,G.typed _ _ _ hi de,⟨v5,I,G.row J de⟩,G.typed _ _ _ hf de⟩;clear hh Q O U hs hi S hf hx I J F G hS V P h9 he;refine A7 ?_;by_cases ky:k=0
 ·subst ky;refine .cT ?_;refine Nv ?_;refine Ad.aC A8 [] rfl trivial ⟨xs,ho,E.symm⟩
 obtain⟨k',rfl⟩:∃ k',k=k'+1:=⟨k - 1,by omega⟩;have ihk:=ih k' rfl;refine St.ay rfl (beq_eq_false_iff_ne.2 oo) ?_;have hz:Rj f n B (k'+1) ys=(Cc f n B ys,Ct f n B ys)::JG (fun x=>Rj f n B k' (x::ys)) (CY f n B ys).toNat (Cc f n B ys):=rfl;have kr:(CY f n B ys).toNat=(Ct f n B ys+1 - Cc f n B ys).toNat:=by unfold CY;congr 1;omega
 rw[kr]at hz;rw[hz]at hy ⊢;rw[h4];refine A7 ?_;refine St.loop (α:=Int×List (Int×Int)×List Int) (fun g=>[(0,.int .i64 ((k'+1:Nat):Int)),(2,.pointer (some ⟨b7,0,none⟩)),(3,.pointer (some ⟨b8,0,none⟩)),(4,.pointer (some ⟨b9,0,none⟩)),(5,.pointer (some ⟨b10,0,none⟩)),(8,.int .i64 (AY f (k'+1+1))),(9,.int .i64 (DG f n ys)),(10,.int .i64 (GH f n B ys)),(13,.int .i64 (Ct f n B ys)),(14,.int .i64 g.1)])
  (fun g w'=>(Cc f n B ys<=g.1/\g.1<=Ct f n B ys+1)/\EmI n wB wE b7 b8 b9 b10 bx w' g.2.2 g.2.1/\g.2.2.drop (k'+1+1)=ys/\g.2.1++JG (fun x=>Rj f n B k' (x::ys)) (Ct f n B ys+1 - g.1).toNat g.1=l++(Cc f n B ys,Ct f n B ys)::JG (fun x=>Rj f n B k' (x::ys)) (Ct f n B ys+1 - Cc f n B ys).toNat (Cc f n B ys)) (fun g=>(Ct f n B ys+1 - g.1).toNat) (Cc f n B ys,l++[(Cc f n B ys,Ct f n B ys)],xs) AL ⟨⟨Gy _,kx⟩,ho,E.symm,by simp⟩ ?_
 rintro⟨x,l1,z⟩ w7 ⟨⟨h7,ub⟩,T,W,m⟩;dsimp only at h7 ub T W m ⊢;refine A7 ?_;by_cases X:x<=Ct f n B ys
 ·refine St.aD rfl (decide_eq_true X) ?_;obtain⟨ue,hv,ug,kd,⟨ui,kf,kl⟩,kc⟩:=T;have ha:=(NA j (show ys.length<n by omega) k9 x).1 ⟨h7,X⟩;have uq:=FR j t.2 (R:=2147483648) hB.1 oo (x::ys) (by rw[BR];omega) ha;have k5:(2:Nat) ^ (x::ys).length<=2 ^ 8:=DB de (by rw[BR];omega);have u0:x.natAbs<=549755813888:=by
   have h1:=HV 2147483648 k5;have e8:(2:Nat) ^ 8=256:=by decide
   have h2:=Vx (x::ys) 0;rw[Ml]at h2;omega
  have ut:=Fx (x:=AY f (k'+1+1)) (y:=x) (a:=65536) (b:=549755813888) oo oo;have hb:=Oq j (show ys.length<n by omega) B x;rw[K]at hb;obtain⟨u,hu⟩:∃ u,u=AY f (k'+1+1) * x+DG f n ys:=⟨_,rfl⟩;rw[<- hu]at hb;have uy:=A09 u;have us:=DI (show 0<=AY f (k'+1+1) by omega) ha;have k6:(GH f n B ys - u * u).tdiv (AY f (k'+1+1))=HO f n B (x::ys):=by rw[hb];exact Int.mul_tdiv_cancel_left _ oo
  have ku:(z.set (k'+1) x).drop (k'+1)=x::ys:=by rw[QW oo,W]
  have hj:(Ct f n B ys+1 - x).toNat=(Ct f n B ys+1 - (x+1)).toNat+1:=by omega
  rw[hj]at m;replace m:l1++(Rj f n B k' (x::ys)++JG (fun x=>Rj f n B k' (x::ys)) (Ct f n B ys+1 - (x+1)).toNat (x+1))=l++(Cc f n B ys,Ct f n B ys)::JG (fun x=>Rj f n B k' (x::ys)) (Ct f n B ys+1 - Cc f n B ys).toNat (Cc f n B ys):=m;have kq:(l1.length:Int)+(Rj f n B k' (x::ys)).length<=1000001:=by have:=congrArg List.length m;rw[Bf,Bf,Bf]at this;omega
  refine A7 ?_;refine .p FW ?_;refine .r rfl ?_;refine Af.put A8 (k'+1) hv rfl hk (by rw[Bj];omega) rfl rfl rfl rfl rfl rfl rfl rfl (fun _=>rfl) (fun _=>rfl) rfl rfl ?_;intro p8 w8 hw h6;rw[AE,show (z.map DZ).set (k'+1) (.int .i64 x)=(z.set (k'+1) x).map DZ from by rw[Gx]]at hw;have N:=h6.kp hv;have ki:EmI n wB wE b7 b8 b9 b10 bx w8 (z.set (k'+1) x) l1:=⟨ue.aj h6 Y.1,hw,by rw[EP];exact ug,N.typed _ _ _ kd de,⟨ui,N.typed _ _ _ kf de,N.row kl de⟩,N.typed _ _ _ kc de⟩;refine Nv ?_;refine .a 3 (.int .i64 (AY f (k'+1+1) * x)) rfl (by rw[Ab oo oo]) ?_;refine .a 2 (.int .i64 u) rfl (by rw[hu,Ab oo oo]) ?_;refine .r rfl ?_;refine Nv ?_;have hc:=ihk (z.set (k'+1) x) l1;rw[ku]at hc;obtain⟨uf,kn,uh,ke,⟨uj,kg,km⟩,hg⟩:=id ki;refine St.sub (E':=[(0,.int .i64 ((k'+1:Nat):Int)),(2,.pointer (some ⟨b7,0,none⟩)),(3,.pointer (some ⟨b8,0,none⟩)),(4,.pointer (some ⟨b9,0,none⟩)),(5,.pointer (some ⟨b10,0,none⟩)),(8,.int .i64 (AY f (k'+1+1))),(9,.int .i64 (DG f n ys)),(10,.int .i64 (GH f n B ys)),(13,.int .i64 (Ct f n B ys)),(14,.int .i64 x),(15,.int .i64 u)]) ?_ AL;refine sD 10 [(68,Is (emV b7 b8 b9 b10)),(69,Is (.int .i64 ((k'+1:Nat):Int))),(70,Is (.int .i64 (k':Int))),(71,Is (.int .i64 (GH f n B ys))),(72,Is (.int .i64 u)),(73,Is (.int .i64 u)),(74,Is (.int .i64 (u * u))),(75,Is (.int .i64 (GH f n B ys - u * u))),(76,Is (.int .i64 (AY f (k'+1+1)))),(77,Is (.int .i64 (HO f n B (x::ys))))] ?_ ?_
  ·refine⟨?_,?_,?_,?_,?_,?_,?_,?_,?_,?_,trivial⟩
   ·exact fun e c=>CD.run rfl rfl rfl rfl (A0.load Tw rfl rfl rfl ((hg.ext c).cell rfl)) rfl
   ·exact fun e c=>oP
   ·rintro e c _ rfl;exact CD.pure A8 rfl rfl rfl rfl rfl (show Value.int .i64 _=_ by rw[Ab oo oo];congr 1;omega)
   ·exact fun e c=>oP
   ·exact fun e c=>oP
   ·exact fun e c=>oP
   ·rintro e c _ rfl _ rfl;exact CD.pure A8 rfl rfl rfl rfl rfl (show Value.int .i64 _=_ by rw[Ab oo oo])
   ·rintro e c _ rfl _ rfl;exact CD.pure A8 rfl rfl rfl rfl rfl (show Value.int .i64 _=_ by rw[Ab oo oo])
   ·exact fun e c=>oP
   ·rintro e c _ rfl _ rfl;exact CD.run rfl rfl rfl rfl (A0.quoZ rfl rfl oo oo) (show Value.int .i64 _=_ by rw[k6])
  rintro w9 A _ rfl _ rfl _ rfl _ rfl _ rfl _ rfl _ rfl _ rfl _ rfl _ rfl _;have kj:EmI n wB wE b7 b8 b9 b10 bx w9 (z.set (k'+1) x) l1:=⟨uf.trans A,kn.ext A,uh,ke.ext A,⟨uj,kg.ext A,km.ext A⟩,hg.ext A⟩;refine .s (Av.bY Jm rfl rfl (hc w9 kj ha kq)) ?_;rintro _ wA ⟨kb,kk,kt⟩;refine Nv ?_;refine .a 2 (.int .i64 (x+1)) rfl (by rw[Ab oo oo]) ?_;refine A7 ?_;refine Ad.again (x+1,l1++Rj f n B k' (x::ys),kb) AL ⟨⟨by show _<=x+1;omega,by show x+1<=_;omega⟩,kk,?_,by dsimp only;rw[EO];exact m⟩ (by show (Ct f n B ys+1 - (x+1)).toNat<(Ct f n B ys+1 - x).toNat;omega);show kb.drop (k'+1+1)=ys;rw[<- Hl (i:=1),kt];rfl
 ·refine St.ay rfl (decide_eq_false X) ?_;have uz:x=Ct f n B ys+1:=by omega
  rw[show (Ct f n B ys+1 - x).toNat=0 by omega]at m;replace m:l1++[]=_:=m;rw[D7]at m;refine A7 ?_;exact Ad.aC A8 [] rfl trivial ⟨z,by rw[<- m];exact T,W⟩
theorem A47 {wE:World}{b9 b10:Nat}(j:BQ n f) (m:1<=n/\n<=8) (hB:0<=B/\B<1073741824) (g:YP wB mv lv n f) (d:Aj 178 wB b7 [mv,lv]) (l:wB.heap.size<=bx/\wB.heap.size<=b8/\wB.heap.size<=b9/\wB.heap.size<=b10/\wB.heap.size<=wE.heap.size/\wE.heap.size<=b10+1):∀ k,k<n->A27 n f B wB wE b7 b8 b9 b10 bx k:=by
 intro k;induction k with
 | zero=>exact fun c=>Xq j m hB g d l c (fun k' e=>by omega)
 | succ k ihk=>exact fun c=>Xq j m hB g d l c (fun k' e=>by
   have e2:k'=k:=by omega
   subst e2;exact ihk oo)
theorem A8u {a B:Nat}(g:0<a):Jo (a * B) / a=Jo (B / a):=by
 obtain⟨j,k⟩:=EI (a * B);generalize Jo (a * B)=s at *
 refine EW.rt ⟨?_,?_⟩
 ·rw[Nat.le_div_iff_mul_le g];have c:=TQ s a;have d:=Ar (Dg c c) j;have e:s / a * a * (s / a * a)=a * (s / a * (s / a) * a):=by simp only[AQ,NS,Bb]
  rw[e]at d;exact Nat.le_of_mul_le_mul_left d g
 ·rw[Nat.div_lt_iff_lt_mul g];have c:s+1<=(s / a+1) * a:=by have:=Nat.lt_div_mul_add (a:=s) g;rw[Bw,Cf];omega
  have d:=CW k (Dg c c);have e:(s / a+1) * a * ((s / a+1) * a)=a * ((s / a+1) * (s / a+1) * a):=by simp only[AQ,NS,Bb]
  rw[e]at d;exact Nat.lt_of_mul_lt_mul_left d
theorem A8v {a:Nat}(d:0<a) (c:AY f 1=a):Rj f 1 k 0 []=[(-((Jo (k / a):Nat):Int),((Jo (k / a):Nat):Int))]:=by
 have e:DG f 1 []=0:=rfl;have g:IJ f 1 []=0:=by have:=KL (f:=f) (n:=1) (B:=0) (ys:=[]);unfold IJ;simp[Ay]
 have j:GH f 1 k []=((a * k:Nat):Int):=by unfold GH;rw[g];simp only[Fj,PT,J6];rw[Nz,c];simp
 show [(Cc f 1 k [],Ct f 1 k [])]=_;unfold Cc Ct Mi Mj;rw[j,e,Int.natAbs_natCast];simp only[Fj,PT,Q6,U6];rw[c,<- A8u d];rfl
theorem VY {w:World}(h:G8 w hv n f) (q:BQ n f) (A:1<=n/\n<=8) (hk:k<=1000) (hh:(Rj f n k (n - 1) []).length<=1000001) :
  Calls prog 94 #[hv,.int .i64 k] w (AJ fun x w'=>Ac w w'/\Aq 2 133 0 w' x ((Rj f n k (n - 1) []).map ivV)):=by
 obtain⟨ah,ch,e,hi,Y⟩:=id h;subst e;refine cS func94 ntmps94 ?_;by_cases X:n=1
 ·subst X;obtain⟨b0,c0,hb,_,i⟩:=Y 0 oo;have hc:=q.aW (n:=1) oo (show 1<=1 by omega);have he:f 0 0=AY f 1:=by rw[<- HF,Ny]
  obtain⟨a,H⟩:∃ a:Nat,AY f 1=a:=⟨(AY f 1).toNat,by omega⟩;have I:=i 0 oo;rw[he,H]at I;have v:=A8v (k:=k) (show 0<a by omega) H;rw[show 1 - 1=0 from rfl,v];have hq:=EN k a;refine A7 ?_;refine .ct ?_;refine .p (A0.ia) ?_;refine .p (rL hb) ?_;refine .p (A0.ia) ?_;refine .p (rL I) ?_;refine .p (A0.cU k a rfl rfl rfl rfl oo oo) ?_;refine .s (oK Qk (VX w (k / a) oo)) ?_;rintro _ w1 ⟨rfl,rfl⟩;have hl:Jo (k / a)<=1000:=by
   have h3:=(EI (k / a)).1;rcases Dl 1000 (Jo (k / a)) with h4 | h4
   ·have:=Dg h4 h4;omega
   ·exact h4
  generalize Jo (k / a)=r at *
  refine .r rfl ?_;refine Nv ?_;refine .a 2 (.int .i64 (-(r:Int))) rfl (by rw[Ab oo oo];simp) ?_;refine .r rfl ?_;refine .p (rB) ?_;refine .s (Av.aP (k:=2) rfl rfl rfl rfl rfl (YR (-(r:Int),(r:Int)))) ?_;rintro _ w2 ⟨rfl,B2,t,P⟩;refine A7 ?_;refine Ad.ax rfl rfl ⟨t,?_,.inr ⟨w1.heap.size,1,[],rfl,Cu _,?_,rfl,Ai _,by unfold maxLen;omega⟩⟩
  ·intro u hu;rw[List.map_singleton,Du]at hu;subst hu;exact (YR _).sh
  ·rw[D7];exact B2
 ·have hc:=q.aW A.2 (Ai n);have hj:=O2 (show AY f n<=65536 by omega) (show (k:Int)<=1000 by omega) oo oo;have i:=DI (show 0<=AY f n by omega) (show (0:Int)<=k by omega);refine A7 ?_;refine St.ay rfl (beq_eq_false_iff_ne.2 oo) ?_;refine A7 ?_;refine .s (oK Tb (YQ h A q)) ?_;rintro _ w1 ⟨M,mv,lv,rfl,o⟩;obtain⟨am,W,al,cl,G,F,J,_⟩:=o.open;refine .s (oA) ?_;rintro _ w2 ⟨rfl,B2,t,P⟩;refine Af.step0 rfl rfl (Av.store A8 (vs:=[mv,lv]) rfl rfl rfl rfl rfl B2 (Ai 2) (by rw[G,F];simp[Value.oneCell'])) ?_;rintro _ wB ⟨B7,K⟩;replace B7:Aj 178 wB w1.heap.size [mv,lv]:=B7;have z:Ac w1 wB:=t.aj K AO;have hf:=M.trans z;replace o:=o.ext z;have hm:=fun w' (hx:Ac wB w')=>J w' (z.trans hx) n oo;clear t K B2 J M z P;generalize w1.heap.size=b7 at *
  subst G F;refine A7 ?_;refine .s (Av.make A8 n rfl rfl rfl rfl rfl rfl rfl rfl (by show n * 8<=_;omega) oo) ?_;rintro _ w3 ⟨rfl,U,B,hs⟩;refine .s (oA) ?_;rintro _ w4 ⟨rfl,B4,hg,ht⟩;refine Af.step0 rfl rfl (Av.store A8 (vs:=[.slice (some ⟨wB.heap.size,0,none⟩) n n]) rfl rfl rfl rfl rfl B4 (Ai 1) (by simp[Value.oneCell'])) ?_;rintro _ g ⟨B8,L⟩;replace B8:Aj 33 g w3.heap.size [.slice (some ⟨wB.heap.size,0,none⟩) n n]:=B8;have N:Ac w3 g:=hg.aj L AO;have ho:=L.size;refine A7 ?_;refine .s (oA) ?_;rintro _ j ⟨rfl,B9,C,hw⟩;replace B9:Aj 89 j g.heap.size [.slice none 0 0]:=B9;refine A7 ?_;refine .s (Av.alloc Tw rfl) ?_;rintro _ Q ⟨rfl,R,b,hy⟩;refine A7 ?_;refine .p (A0.func (us:=[]) (vs:=[_,_,_,_]) rfl rfl) ?_;refine Af.step0 rfl rfl (Av.store Tw (vs:=[emV b7 w3.heap.size g.heap.size j.heap.size]) rfl rfl rfl rfl rfl R (Ai 1) (by simp[Value.oneCell',emV])) ?_;rintro _ E ⟨m,y⟩;replace m:Aj 180 E j.heap.size [emV b7 w3.heap.size g.heap.size j.heap.size]:=m;have hr:=B;have O:=(B.trans N).trans C;have D:Ac wB E:=(O.trans b).aj y O.size;have hp:=B.size;have V:=(((U.ext N).ext C).ext b).upd y oo;have S:=((B8.ext C).ext b).upd y oo;have T:=(B9.ext b).upd y oo;have Z:EmI n wB Q b7 w3.heap.size g.heap.size j.heap.size wB.heap.size E (List.replicate n 0) []:=⟨D,by rw[G9];exact V,by simp,S,⟨_,T,Aq.nil⟩,m⟩;have hd:(List.replicate n (0:Int)).drop (n - 1+1)=[]:=by simp;omega
  have v:=A47 q A (show (0:Int)<=k/\(k:Int)<1073741824 by omega) o B7 (wE:=Q) (bx:=wB.heap.size) (b8:=w3.heap.size) (b9:=g.heap.size) (b10:=j.heap.size) ⟨Ai _,by omega,by omega,by omega,by omega,by omega⟩ (n - 1) oo (List.replicate n 0) [];rw[hd,PK]at v;refine Nv ?_;refine St.sub (E':=[(1,.int .i64 (k:Int)),(5,.int .i64 n),(7,.pointer (some ⟨b7,0,none⟩)),(9,.pointer (some ⟨g.heap.size,0,none⟩)),(10,.pointer (some ⟨j.heap.size,0,none⟩))]) ?_ AL;refine sD 10 [(33,Is (emV b7 w3.heap.size g.heap.size j.heap.size)),(34,Is (.int .i64 n)),(35,Is (.int .i64 ((n - 1:Nat):Int))),(36,Is (.pointer (some ⟨b7,0,none⟩))),(37,Is (.slice (some am) (n+1) W)),(38,Is (.int .i64 n)),(39,Is (.pointer (some (am.add n)))),(40,Is (.int .i64 (AY f n))),(41,Is (.int .i64 k)),(42,Is (.int .i64 (AY f n * k)))] ?_ ?_
  ·refine⟨?_,?_,?_,?_,?_,?_,?_,?_,?_,?_,trivial⟩
   ·exact fun d c=>CD.run rfl rfl rfl rfl (A0.load Tw rfl rfl rfl ((m.ext c).cell rfl)) rfl
   ·exact fun d c=>oP
   ·rintro d c _ rfl;exact CD.pure A8 rfl rfl rfl rfl rfl (show Value.int .i64 _=_ by rw[Ab oo oo];congr 1;omega)
   ·exact fun d c=>oP
   ·rintro d c _ rfl;exact CD.run rfl rfl rfl rfl (A0.load A8 rfl rfl rfl (((B7.ext D).ext c).cell rfl)) rfl
   ·exact fun d c=>oP
   ·rintro d c _ rfl _ rfl;exact CD.run rfl rfl rfl rfl (A0.indexAddr A8 rfl rfl rfl rfl rfl oo oo) rfl
   ·rintro d c _ rfl;exact CD.run rfl rfl rfl rfl (rL (hm d (D.trans c))) rfl
   ·exact fun d c=>oP
   ·rintro d c _ rfl _ rfl;exact CD.pure A8 rfl rfl rfl rfl rfl (show Value.int .i64 _=_ by rw[Ab oo oo])
  rintro w9 l _ rfl _ rfl _ rfl _ rfl _ rfl _ rfl _ rfl _ rfl _ rfl _ rfl _;obtain⟨q1,q2,q3,q4,⟨lv,q5,q6⟩,q7⟩:=Z;refine .s (Av.bY Jm rfl rfl (v w9 ⟨q1.trans l,q2.ext l,q3,q4.ext l,⟨lv,q5.ext l,q6.ext l⟩,q7.ext l⟩ i (by simp only[Fj];omega))) ?_;rintro _ wA ⟨xs',⟨r1,_,_,_,⟨hz,r5,r6⟩,_⟩,_⟩;refine Nv ?_;refine .p (FX r5) ?_;refine A7 ?_;exact uR ⟨hf.trans r1,r6.mono BI⟩
def EmV (w:World) (x:Value) (M:List (List Int)) (B b:Int):Prop :=
 (¬ Lx B b->x=.tuple #[.slice none 0 0,.int .i64 1])/\(Lx B b->b<P7 (ent M) M.length B M.length []->x=.tuple #[.slice none 0 0,.int .i64 9]) /\
 (Lx B b->P7 (ent M) M.length B M.length []<=b->∃ v,x=.tuple #[v,.int .i64 0]/\Aq 2 133 0 w v ((Rj (ent M) M.length B (M.length - 1) []).map ivV))
theorem A61 {b:Int}(d:Ie M) (m:b<=1000000) (h:P7 (ent M) M.length B M.length []<=b):(Rj (ent M) M.length B (M.length - 1) []).length<=1000001:=by
 have c:=d.bq.1;obtain⟨j,e⟩:∃ j,M.length=j+1:=⟨M.length - 1,by have:=d.1.1;omega⟩;have g:=A2S c B (M.length - 1) [];have k:P7 (ent M) M.length B M.length []=P7 (ent M) M.length B (M.length - 1) []+tlN (ent M) M.length B (M.length - 1) []:=by rw[e];rfl
 have l:=A1U c B (M.length - 1) [];omega
theorem A28 {w:World}{b:Int}(h:Ft w hv M) (d:Ie M) (o:k<=1000) :
  Calls prog 57 #[hv,.int .i64 k,.int .i64 b] w (AJ fun x w'=>Ac w w'/\EmV w' x M k b):=by
 have m:=d.bq.1;have r:1<=M.length/\M.length<=8:=⟨d.1.1,d.2.2.1⟩;refine cS func57 ntmps57 ?_;refine A7 ?_;refine .s (oK Uw (Tq h oo)) ?_;rintro x w1 ⟨e,j⟩;by_cases c:Lx k b
 ·have l:Fy k b:=⟨c.1,by omega,c.2.2.1,c.2.2.2⟩;obtain⟨k1,k2⟩:=QX m k M.length [] sm (b,List.replicate M.length 0) c.2.2.1 sm;rcases Gw b (P7 (ent M) M.length k M.length []) with hlt | hge
  ·obtain rfl:=j.2.2.1 d l (k1 hlt);refine A7 ?_;refine .ct ?_;exact Ad.aC A8 [_,_] rfl ⟨rfl,rfl,trivial⟩ ⟨e,fun hB=>absurd c hB,fun _ _=>rfl,fun _ q=>by omega⟩
  ·obtain⟨s',u,_⟩:=k2 hge;obtain⟨a,rfl,_⟩:=j.2.2.2 d l s' u;refine A7 ?_;refine .cf ?_;refine .s (oK Qi (VY ((d.at h).ext e) m r o (A61 d c.2.2.2 hge))) ?_;rintro v w2 ⟨y,hv⟩;refine A7 ?_;exact Ad.aC A8 [_,_] rfl ⟨rfl,rfl,trivial⟩ ⟨e.trans y,fun hB=>absurd c hB,fun _ q=>by omega,fun _ _=>⟨v,rfl,hv⟩⟩
 ·obtain rfl:=j.2.1 d (fun g=>c ⟨g.1,by omega,g.2.2.1,g.2.2.2⟩);refine A7 ?_;refine .ct ?_;exact Ad.aC A8 [_,_] rfl ⟨rfl,rfl,trivial⟩ ⟨e,fun _=>rfl,fun hB=>absurd hB c,fun hB=>absurd hB c⟩
abbrev wr (a:Int):Int:=IntKind.i64.wrap a
theorem A62 (a:Int):∃ q,wr a=a+18446744073709551616 * q:=by refine⟨-((a+9223372036854775808) / 18446744073709551616),?_⟩;show IntKind.i64.wrap a=_;rw[IK];omega
theorem A7N (a q:Int):wr (a+18446744073709551616 * q)=wr a:=by show IntKind.i64.wrap _=IntKind.i64.wrap _;rw[IK,IK];omega
theorem A8w (a b:Int):wr (wr a+wr b)=wr (a+b):=by obtain⟨p,c⟩:=A62 a;obtain⟨q,d⟩:=A62 b;rw[c,d,show a+18446744073709551616 * p+(b+18446744073709551616 * q)=a+b+18446744073709551616 * (p+q) by omega,A7N]
theorem A8x (a b:Int):wr (wr a * b)=wr (a * b):=by obtain⟨p,c⟩:=A62 a;rw[c,Int.add_mul,O1,A7N]
theorem Xr (c:Int) (g:Nat->Int):∀ n,c * Ay n g=Ay n (fun i=>c * g i)
 | 0=>LW c
 | n+1=>by show c * (Ay n g+g n)=Ay n _+c * g n;rw[LQ,Xr c g n]
def nrI (f:Nat->Nat->Int) (n:Nat) (xs:List Int) (p:Nat):Int:=Ay n (fun q=>f p q * yv xs p * yv xs q)
theorem A9e {xs:List Int}(c:xs.length=n):Ay n (nrI f n xs)=IJ f n xs:=by unfold IJ nrI;rw[c,J6];refine Bo fun i _=>?_;rw[Xr];refine Bo fun j _=>?_;rw[Ny,HT (f i j),O1]
theorem A48 {w:World}{xs:List Int}(h:G8 w hv n f) (z:Aj 2 w bx (xs.map DZ)) (E:xs.length=n) (J:n<=1000) (r:-9223372036854775808<=IJ f n xs/\IJ f n xs<=9223372036854775807) :
  Calls prog 96 #[hv,.slice (some ⟨bx,0,none⟩) n n] w (AJ fun x w'=>Ac w w'/\x=.int .i64 (IJ f n xs)):=by
 obtain⟨o,ch,e,I,y⟩:=id h;subst e;have u:∀ w',Ac w w'->∀ i,i<n->w'.cell? (Addr.add ⟨bx,0,none⟩ i)=some (.int .i64 (yv xs i)):=fun w' F i m=>by rw[Ak,AE];refine (z.ext F).cell ?_;rw[J7];unfold yv;rw[Bd,DH oo];rfl
 refine cS func96 ntmps96 ?_;refine A7 ?_;refine sG (12) (0) (n) (fun g:Int=>[(5,.int .i64 g),(1,.slice (some ⟨bx,0,none⟩) n n),(10,.slice (some o) n ch),(11,.int .i64 n)]) (fun i g w'=>Ac w w'/\g=wr (Ay i (nrI f n xs))) (0) ?_ ?_ ?_
 ·exact⟨Ac.refl _,by show 0=wr 0;unfold wr;rw[Ab oo oo]⟩
 ·rintro i g w1 m ⟨k,rfl⟩;obtain⟨b,c,t,H,D⟩:=y i m;have s:=k.cell t;refine A7 ?_;refine .p (A0.ia) ?_;refine .p (rL s) ?_;refine A7 ?_;refine sG (19) (0) (n) (fun g:Int=>[(12,.int .i64 i),(6,.int .i64 i),(5,.int .i64 g),(1,.slice (some ⟨bx,0,none⟩) n n),(10,.slice (some o) n ch),(11,.int .i64 n),(17,.slice (some b) n c),(18,.int .i64 n)]) (fun j g w'=>Ac w w'/\g=wr (Ay i (nrI f n xs)+Ay j (fun q=>f i q * yv xs i * yv xs q))) (wr (Ay i (nrI f n xs))) ?_ ?_ ?_
  ·exact⟨k,by show _=wr (_+0);rw[Q7]⟩
  ·rintro j g w2 v ⟨d,rfl⟩;have A:=d.cell (D j v);have B:=u w2 d i m;have C:=u w2 d j v;refine A7 ?_;refine .p (A0.ia) ?_;refine .p (rL A) ?_;refine A7 ?_;refine sF 12 ?_;refine .q ?_;refine .on (fun _ _=>A0.ia) ?_;refine .on (fun _ l=>rL (l.aq.cell B)) ?_;refine .q ?_;refine .on (fun _ _=>A0.ia) ?_;refine .on (fun _ l=>rL (l.aq.cell C)) ?_;refine .q ?_;refine FL.aG rfl ?_;rintro w3 G _ _;refine .a 1 (.int .i64 (wr (Ay i (nrI f n xs)+Ay (j+1) (fun q=>f i q * yv xs i * yv xs q)))) rfl ?_ ?_
   ·show Value.int .i64 (wr (wr _+wr (wr _ * _)))=_;rw[A8x,A8w,Int.add_assoc];rfl
   refine A7 ?_;exact Ad.aO _ AL ⟨d.trans G,rfl⟩
  ·rintro g w2 ⟨d,rfl⟩;refine A7 ?_;exact Ad.aO _ AL ⟨d,rfl⟩
 ·rintro g w1 ⟨k,rfl⟩;rw[A9e E,show wr (IJ f n xs)=IJ f n xs from Ab r.1 r.2];refine A7 ?_;exact Ad.ax rfl rfl ⟨k,rfl⟩
theorem VZ {P:Program}{n:Nat}{Q:Exit->Act->World->Prop}{α:Type}(Em:α->List (Nat×Value)) (I:α->World->Prop) {y:Code}(hy:∀ g w,I g w->St P n (Em g) w y Q) {e:Exit}{a:Act}{w:World}(hq:Exit.then (Met n Em I) Q e a w):Exit.then (y.wp P Q) Q e a w:=by
 cases e with
 | normal =>
  obtain⟨g,hf,hI⟩:=hq;exact hy g w hI a hf
 | exit id=>exact hq
 | goto l=>exact hq
 | ret=>exact hq
 | panic ch=>exact hq
 | outgrown=>exact hq
theorem St.cutB {P:Program}{n:Nat}{E:List (Nat×Value)}{w:World}{Q:Exit->Act->World->Prop}{α:Type}(Em:α->List (Nat×Value)) (I:α->World->Prop) {id:Nat}{x y:Code}(hx:St P n E w x (Exit.inBlock id (Exit.then (Met n Em I) Q))) (hy:∀ g w,I g w->St P n (Em g) w y Q):St P n E w x (Exit.inBlock id (Exit.then (y.wp P Q) Q)):=by
 intro a ha;refine wp_mono (hx a ha) ?_;intro e a2 w2 hq;cases e with
 | exit i =>
  revert hq;unfold Exit.inBlock;by_cases e:i=id
  ·simp only[e,if_true];exact VZ Em I hy
  ·simp only[e,if_false];exact VZ Em I hy
 | normal=>exact VZ (e:=.normal) Em I hy hq
 | goto l=>exact hq
 | ret=>exact hq
 | panic ch=>exact hq
 | outgrown=>exact hq
def emX (f:Nat->Nat->Int) (n:Nat) (B:Int):Nat->List Int->List (Int×Int)
 | 0,_=>[]
 | k+1,zs=>Rj f n B k zs
theorem A2T {α:Type}:∀ (j:Nat) (x:Int),JG (fun _=>([]:List α)) j x=[]
 | 0,_=>rfl
 | j+1,x=>by show []++JG _ j (x+1)=[];rw[A2T j (x+1)];rfl
theorem A9f (f:Nat->Nat->Int) (n:Nat) (B:Int) (k:Nat) (ys:List Int):Rj f n B k ys=(Cc f n B ys,Ct f n B ys)::JG (fun x=>emX f n B k (x::ys)) (Ct f n B ys+1 - Cc f n B ys).toNat (Cc f n B ys):=by
 have hcn:(CY f n B ys).toNat=(Ct f n B ys+1 - Cc f n B ys).toNat:=by unfold CY;congr 1;omega
 rw[<- hcn];cases k with
 | zero =>
  show [_]=_::JG (fun _=>[]) _ _;rw[A2T]
 | succ k=>rfl
theorem A8y (f:Nat->Nat->Int) (n:Nat) (B:Int) (k:Nat) (ys:List Int):Gs f n B (k+1) ys=JG (fun x=>Gs f n B k (x::ys)) (Ct f n B ys+1 - Cc f n B ys).toNat (Cc f n B ys):=by
 have hcn:(CY f n B ys).toNat=(Ct f n B ys+1 - Cc f n B ys).toNat:=by unfold CY;congr 1;omega
 rw[<- hcn];rfl
def cG (f:Nat->Nat->Int) (n:Nat) (G:Int->Int) (L:List (List Int)) (m:Int):Int:=G m+((L.filter (fun z=>decide (IJ f n z=m))).length:Int)
theorem A8z (f:Nat->Nat->Int) (n:Nat) (G:Int->Int):cG f n G []=G:=by funext m;simp[cG]
theorem A63 (f:Nat->Nat->Int) (n:Nat) (G:Int->Int) (L L2:List (List Int)):cG f n (cG f n G L) L2=cG f n G (L++L2):=by funext m;unfold cG;rw[U7,Bf];omega
theorem A8A (f:Nat->Nat->Int) (n:Nat) (G:Int->Int) (z:List Int):(fun q=>if q=IJ f n z then G (IJ f n z)+1 else G q)=cG f n G [z]:=by
 funext m;unfold cG;rw[U8];by_cases e:IJ f n z=m
 ·rw[if_pos e.symm,e];simp
 ·rw[if_neg (fun h=>e h.symm)];simp[e]
theorem KO.ne {e:TypeId}{w:World}{b bm c:Nat}{G:Int->Int}{C:List Value}(h:KO w bm c G) (hB:Aj e w b C):bm≠b:=by rintro rfl;obtain⟨D,⟨es,clock,hb,_⟩,_⟩:=h;unfold Aj at hB;rw[hb]at hB;cases hB
section
variable (n:Nat)(f:Nat->Nat->Int)(B:Int)(IL:List (Int×Int))(wB:World)(b2 b3 b5 b6 b7 b8 bx bm:Nat)
def cnV:Value:=.func (.func 95) #[] #[.pointer (some ⟨b3,0,none⟩),.pointer (some ⟨b7,0,none⟩),.pointer (some ⟨b6,0,none⟩),.pointer (some ⟨b8,0,none⟩),.pointer (some ⟨b5,0,none⟩),.pointer (some ⟨b2,0,none⟩)]
structure CnI (w:World) (xs:List Int) (p c:Nat) (G:Int->Int):Prop where
 ext:Ac wB w
 x:Aj 2 w bx (xs.map DZ)
 len:xs.length=n
 xv:Aj 33 w b6 [.slice (some ⟨bx,0,none⟩) n n]
 next:Aj 3 w b7 [.int .i64 p]
 mv:Aj 92 w b5 [.map (some bm)]
 map:KO w bm c G
 fv:Aj 131 w b8 [cnV b2 b3 b5 b6 b7 b8]
 bnd:∀ m,0<=G m/\G m<=c
theorem CnI.more {n:Nat}{wB:World}{b2 b3 b5 b6 b7 b8 bx bm:Nat}{w w':World}{xs:List Int}{p c:Nat}{G:Int->Int}(h:CnI n wB b2 b3 b5 b6 b7 b8 bx bm w xs p c G) (hx:Ac w w'):CnI n wB b2 b3 b5 b6 b7 b8 bx bm w' xs p c G :=
 ⟨h.ext.trans hx,h.x.ext hx,h.len,h.xv.ext hx,h.next.ext hx,h.mv.ext hx,h.map.ext hx,h.fv.ext hx,h.bnd⟩
theorem CnI.setX {n:Nat}{wB:World}{b2 b3 b5 b6 b7 b8 bx bm:Nat}{w w':World}{xs ys:List Int}{p c:Nat}{G:Int->Int}(h:CnI n wB b2 b3 b5 b6 b7 b8 bx bm w xs p c G) (hu:CE bx w w') (hB:Aj 2 w' bx (ys.map DZ)) (hl:ys.length=n) (hb:wB.heap.size<=bx):CnI n wB b2 b3 b5 b6 b7 b8 bx bm w' ys p c G:=by have hK:=hu.kp h.x;exact⟨h.ext.aj hu hb,hB,hl,hK.typed _ _ _ h.xv de,hK.typed _ _ _ h.next de,hK.typed _ _ _ h.mv de,h.map.upd hu (h.map.ne h.x),hK.typed _ _ _ h.fv de,h.bnd⟩
theorem CnI.setN {n:Nat}{wB:World}{b2 b3 b5 b6 b7 b8 bx bm:Nat}{w w':World}{xs:List Int}{p q c:Nat}{G:Int->Int}(h:CnI n wB b2 b3 b5 b6 b7 b8 bx bm w xs p c G) (hu:CE b7 w w') (hB:Aj 3 w' b7 [.int .i64 q]) (hb:wB.heap.size<=b7):CnI n wB b2 b3 b5 b6 b7 b8 bx bm w' xs q c G:=by have hK:=hu.kp h.next;exact⟨h.ext.aj hu hb,hK.typed _ _ _ h.x de,h.len,hK.typed _ _ _ h.xv de,hB,hK.typed _ _ _ h.mv de,h.map.upd hu (h.map.ne h.next),hK.typed _ _ _ h.fv de,h.bnd⟩
theorem CnI.setM {n:Nat}{wB:World}{b2 b3 b5 b6 b7 b8 bx bm:Nat}{w w':World}{xs:List Int}{p c c':Nat}{G G':Int->Int}(h:CnI n wB b2 b3 b5 b6 b7 b8 bx bm w xs p c G) (hu:CE bm w w') (hM:KO w' bm c' G') (hG:∀ m,0<=G' m/\G' m<=c') (hb:wB.heap.size<=bm):CnI n wB b2 b3 b5 b6 b7 b8 bx bm w' xs p c' G' :=
 ⟨h.ext.aj hu hb,h.x.upd hu (fun e=>h.map.ne h.x e.symm),h.len,h.xv.upd hu (fun e=>h.map.ne h.xv e.symm),h.next.upd hu (fun e=>h.map.ne h.next e.symm),h.mv.upd hu (fun e=>h.map.ne h.mv e.symm),hM,h.fv.upd hu (fun e=>h.map.ne h.fv e.symm),hG⟩
def A64 (k:Nat):Prop:=∀ (xs:List Int) (p c:Nat) (G:Int->Int) (w:World) (rest:List (Int×Int)),CnI n wB b2 b3 b5 b6 b7 b8 bx bm w xs p c G->0<=HO f n B (xs.drop (k+1))->IL.drop p=Rj f n B k (xs.drop (k+1))++rest->c+(Gs f n B (k+1) (xs.drop (k+1))).length<=1000000 ->
 Calls prog 95 (#[]++[.int .i64 k].toArray++#[.pointer (some ⟨b3,0,none⟩),.pointer (some ⟨b7,0,none⟩),.pointer (some ⟨b6,0,none⟩),.pointer (some ⟨b8,0,none⟩),.pointer (some ⟨b5,0,none⟩),.pointer (some ⟨b2,0,none⟩)]) w (AJ fun _ w' =>
  ∃ xs',CnI n wB b2 b3 b5 b6 b7 b8 bx bm w' xs' (p+(Rj f n B k (xs.drop (k+1))).length) (c+(Gs f n B (k+1) (xs.drop (k+1))).length) (cG f n G (Gs f n B (k+1) (xs.drop (k+1))))/\xs'.drop (k+1)=xs.drop (k+1)/\∀ q C,Aj 133 w q C->Aj 133 w' q C)
end
theorem A65 {n:Nat}{f:Nat->Nat->Int}{B:Int}{ys:List Int}(hR:BQ n f) (hn:1<=n/\n<=8) (hB:0<=B/\B<1073741824) (hyl:ys.length<n) (hre:0<=HO f n B ys):-18014400656965632<=Cc f n B ys/\Ct f n B ys<=18014400656965632:=by
 have hbnd:=FR hR hn.2 (R:=2147483648) hB.1 oo ys oo hre;have hpow:(2:Nat) ^ ys.length<=2 ^ 8:=DB de oo;have haS:aS ys<=549755813888:=by
  have:=HV 2147483648 hpow;have e8:(2:Nat) ^ 8=256:=by decide
  omega
 have hdl:=hR.aW hn.2 (show n - ys.length<=n by omega);have hd0:=CV hR.pos (show n - ys.length<=n by omega);have hsq:=NC hR hn.2 (ys:=ys) oo hB.1;have hsq0:0<=GH f n B ys:=(HG hR B).1 hre;have hli:=QQ hR hyl;have hlb:-18014398509481984<=DG f n ys/\DG f n ys<=18014398509481984:=by have:=O2 (show AY f (n - ys.length)<=65536 by omega) (show (aS ys:Int)<=549755813888 by omega) oo oo;omega
 obtain⟨r,hr⟩:∃ r,r=Jo (GH f n B ys).natAbs:=⟨_,rfl⟩;have hroot:EW (GH f n B ys).natAbs r:=by rw[hr];exact EI _
 have hrb:r<=2147483648:=by have h1:=(Lh hroot r).1 oo;have h2:=QS (u:=r) (R:=2147483648) oo oo;omega
 have hlo:Cc f n B ys=-(((r:Int)+DG f n ys) / AY f (n - ys.length)):=by unfold Cc Mi;rw[<- hr,NW]
 have hhi:Ct f n B ys=((r:Int) - DG f n ys) / AY f (n - ys.length):=by unfold Ct Mj;rw[<- hr]
 have blo:=Lm (a:=(r:Int)+DG f n ys) (d:=AY f (n - ys.length)) (M:=18014400656965632) hdl.1 oo;have bhi:=Lm (a:=(r:Int) - DG f n ys) (d:=AY f (n - ys.length)) (M:=18014400656965632) hdl.1 oo;omega
theorem A0r {n:Nat}{f:Nat->Nat->Int}{B:Int}{IL:List (Int×Int)}{wB:World}{b2 b3 b5 b6 b7 b8 bx bm:Nat}{hv iv:Value}(hR:BQ n f) (hn:1<=n/\n<=8) (hB:0<=B/\B<=1000) (hH:G8 wB hv n f) (h2:Aj 25 wB b2 [hv]) (hI:Aq 2 133 0 wB iv (IL.map ivV)) (h3:Aj 89 wB b3 [iv]) (hlow:wB.heap.size<=bx/\wB.heap.size<=b7/\wB.heap.size<=bm) (hil:IL.length<=1000001)
  {k:Nat} (hk:k<n) (ih:∀ k',k=k'+1->A64 n f B IL wB b2 b3 b5 b6 b7 b8 bx bm k'):A64 n f B IL wB b2 b3 b5 b6 b7 b8 bx bm k:=by
 intro xs p c G w rest hC hre hIL hcc;obtain⟨ys,hys⟩:∃ ys,ys=xs.drop (k+1):=⟨_,rfl⟩;rw[<- hys]at hre hIL hcc ⊢;have hxl:=hC.len;have hyl:ys.length=n - 1 - k:=by rw[hys,Jy];omega
 have hsq0:0<=GH f n B ys:=(HG hR B).1 hre;have hhl:=Xc hR (ys:=ys) (r:=Jo (GH f n B ys).natAbs);have hhl2:Cc f n B ys<=Ct f n B ys+1:=hhl;have hnn:=KM hR B ys;rw[A9f]at hIL ⊢;rw[A8y]at hcc ⊢;have hbd:=A65 hR hn (show 0<=B/\B<1073741824 by omega) (show ys.length<n by omega) hre;have hp:IL[p]?=some (Cc f n B ys,Ct f n B ys):=by
  have:(IL.drop p)[0]?=some (Cc f n B ys,Ct f n B ys):=by rw[hIL];rfl
  rw[Jt]at this;simpa using this
 have hpl:=(Au.1 hp).1;have hIL1:IL.drop (p+1)=JG (fun x=>emX f n B k (x::ys)) (Ct f n B ys+1 - Cc f n B ys).toNat (Cc f n B ys)++rest:=by rw[<- Hl (i:=1),hIL];rfl
 have hu:(IL.map ivV)[p]?=some (ivV (Cc f n B ys,Ct f n B ys)):=by rw[J7,hp];rfl
 obtain⟨a,cap,eiv,hcell⟩:=(hI.ext hC.ext).cells.at hI.1 hu;rw[Bj]at eiv;subst eiv;have h3w:=h3.ext hC.ext;refine cS func95 ntmps95 ?_;refine A7 ?_;refine .p (FX h3w) ?_;refine .p (A0.load A8 rfl rfl rfl (hC.next.cell rfl)) ?_;refine .p (rK hpl) ?_;refine .p (A0.aB (cs:=[.int .i64 (Cc f n B ys),.int .i64 (Ct f n B ys)]) A8 rfl rfl rfl rfl (fun j c hj=>by rw[Addr.add_add];exact hcell j c hj)) ?_;refine .s (oA) ?_;rintro _ w1 ⟨rfl,B1,hx1,hz1⟩;refine Af.step0 rfl rfl (Av.store A8 (vs:=[.int .i64 (Cc f n B ys),.int .i64 (Ct f n B ys)]) rfl rfl rfl rfl rfl B1 (Ai 2) (by simp[Value.oneCell'])) ?_;rintro _ w2 ⟨B2,hu2⟩;replace B2:Aj 133 w2 w.heap.size [.int .i64 (Cc f n B ys),.int .i64 (Ct f n B ys)]:=B2;have hx02:Ac w w2:=hx1.aj hu2 AO;have hC2:=hC.more hx02;refine A7 ?_;refine .p (A0.load A8 rfl rfl rfl (hC2.next.cell rfl)) ?_;refine .a 1 (.int .i64 ((p+1:Nat):Int)) rfl (Bv oo) ?_;refine Af.step0 rfl rfl (Av.store A8 (vs:=[.int .i64 ((p+1:Nat):Int)]) rfl rfl rfl rfl rfl hC2.next (Ai 1) (by simp[Value.oneCell'])) ?_;rintro _ w3 ⟨B3,hu3⟩;replace B3:Aj 3 w3 b7 [.int .i64 ((p+1:Nat):Int)]:=B3;have hC3:=hC2.setN hu3 B3 hlow.2.1;have B23:Aj 133 w3 w.heap.size [.int .i64 (Cc f n B ys),.int .i64 (Ct f n B ys)]:=(hu3.kp hC2.next).typed _ _ _ B2 de;refine A7 ?_;refine .p (A0.load A8 rfl rfl rfl (hC3.xv.cell rfl)) ?_;refine .r rfl ?_;refine .p (FX B23) ?_;refine Af.put A8 k hC3.x rfl hk (by rw[Bj];omega) rfl rfl rfl rfl rfl rfl rfl rfl (fun _=>rfl) (fun _=>rfl) rfl rfl ?_;intro p4 w4 B4 hu4;rw[AE,show (xs.map DZ).set k (.int .i64 (Cc f n B ys))=(xs.set k (Cc f n B ys)).map DZ from by rw[Gx]]at B4;have hC4:=hC3.setX hu4 B4 (by rw[EP];exact hxl) hlow.1;have B24:Aj 133 w4 w.heap.size [.int .i64 (Cc f n B ys),.int .i64 (Ct f n B ys)]:=(hu4.kp hC3.x).typed _ _ _ B23 de;have hdr4:(xs.set k (Cc f n B ys)).drop k=Cc f n B ys::ys:=by rw[QW oo,<- hys]
 have hKI:∀ q C,Aj 133 w q C->Aj 133 w4 q C:=fun q C h=>(hu4.kp hC3.x).typed _ _ _ ((hu3.kp hC2.next).typed _ _ _ (h.ext hx02) de) de;clear hC2 hC3 B23 hu2 hu3 hu4 hx1 hx02 B1 B2 B3 B4 hz1;obtain⟨F,hF⟩:∃ F,F=JG (fun x=>Gs f n B k (x::ys)) (Ct f n B ys+1 - Cc f n B ys).toNat (Cc f n B ys):=⟨_,rfl⟩;obtain⟨e1,he1⟩:∃ e1,e1=p+1+(JG (fun x=>emX f n B k (x::ys)) (Ct f n B ys+1 - Cc f n B ys).toNat (Cc f n B ys)).length:=⟨_,rfl⟩;have hfin:p+((Cc f n B ys,Ct f n B ys)::JG (fun x=>emX f n B k (x::ys)) (Ct f n B ys+1 - Cc f n B ys).toNat (Cc f n B ys)).length=e1:=by rw[he1,BR];omega
 rw[hfin];rw[<- hF]at hcc ⊢;refine Nv ?_;refine St.loop (α:=Int×List Int×Nat×List (List Int)) (fun _=>[(0,.int .i64 (k:Int)),(1,.pointer (some ⟨b3,0,none⟩)),(2,.pointer (some ⟨b7,0,none⟩)),(3,.pointer (some ⟨b6,0,none⟩)),(4,.pointer (some ⟨b8,0,none⟩)),(5,.pointer (some ⟨b5,0,none⟩)),(6,.pointer (some ⟨b2,0,none⟩)),(8,.pointer (some ⟨w.heap.size,0,none⟩))])
  (fun g w'=>(Cc f n B ys<=g.1/\g.1<=Ct f n B ys+1)/\CnI n wB b2 b3 b5 b6 b7 b8 bx bm w' g.2.1 g.2.2.1 (c+g.2.2.2.length) (cG f n G g.2.2.2)/\g.2.1.drop k=g.1::ys/\Aj 133 w' w.heap.size [.int .i64 (Cc f n B ys),.int .i64 (Ct f n B ys)]/\(∀ q C,Aj 133 w q C->Aj 133 w' q C)/\IL.drop g.2.2.1=JG (fun x=>emX f n B k (x::ys)) (Ct f n B ys+1 - g.1).toNat g.1++rest/\g.2.2.1+(JG (fun x=>emX f n B k (x::ys)) (Ct f n B ys+1 - g.1).toNat g.1).length=e1/\g.2.2.2++JG (fun x=>Gs f n B k (x::ys)) (Ct f n B ys+1 - g.1).toNat g.1=F)
  (fun g=>(Ct f n B ys+1 - g.1).toNat) (Cc f n B ys,xs.set k (Cc f n B ys),p+1,[]) AL ⟨⟨Gy _,hhl2⟩,by rw[A8z];exact hC4,hdr4,B24,hKI,hIL1,he1.symm,by rw[hF];rfl⟩ ?_
 clear hC4 hdr4 B24 hKI hIL1 hcell hu hp hC hpl;rintro⟨x,xs1,p1,L⟩ w5 ⟨⟨hx1,hx2⟩,hC5,hdr5,B5,hK5,hIL5,hp5,hL5⟩;dsimp only at hx1 hx2 hC5 hdr5 hIL5 hp5 hL5 ⊢;have hxk:(xs1.map DZ)[k]?=some (.int .i64 x):=by
  have h1:(xs1.drop k)[0]?=some x:=by rw[hdr5];rfl
  rw[Jt,Ep]at h1;rw[J7,h1];rfl
 have hcx:∀ w',Ac w5 w'->w'.cell? (Addr.add ⟨bx,0,none⟩ k)=some (.int .i64 x):=fun w' hx=>by rw[Ak,AE];exact (hC5.x.ext hx).cell hxk
 refine Nv ?_;refine sD 6 [(20,Is (.slice (some ⟨bx,0,none⟩) n n)),(21,Is (.int .i64 k)),(22,Is (.pointer (some (Addr.add ⟨bx,0,none⟩ k)))),(23,Is (.int .i64 x)),(24,Is (.pointer (some ⟨w.heap.size,1,none⟩))),(25,Is (.int .i64 (Ct f n B ys)))] ?_ ?_
 ·refine⟨?_,?_,?_,?_,?_,?_,trivial⟩
  ·exact fun wk hxk=>CD.run rfl rfl rfl rfl (FX (hC5.xv.ext hxk)) rfl
  ·exact fun wk hxk=>oP
  ·rintro wk hxk _ rfl _ rfl;exact CD.run rfl rfl rfl rfl (A0.indexAddr A8 rfl rfl rfl rfl rfl oo oo) rfl
  ·rintro wk hxk _ rfl;exact CD.run rfl rfl rfl rfl (rL (hcx wk hxk)) rfl
  ·exact fun wk hxk=>oP
  ·rintro wk hxk _ rfl;exact CD.run rfl rfl rfl rfl (FX (B5.ext hxk)) rfl
 rintro w6 hx6 _ rfl _ rfl _ rfl _ rfl _ rfl _ rfl _;have hC6:=hC5.more hx6;have B6:=B5.ext hx6;have hK6:∀ q C,Aj 133 w q C->Aj 133 w6 q C:=fun q C h=>(hK5 q C h).ext hx6;clear hC5 B5 hK5 hcx hxk;by_cases hle:x<=Ct f n B ys
 ·refine .a 1 (.bool true) rfl (Aa hle) ?_;refine A7 ?_;refine .cT ?_;have hre':=(NA hR (show ys.length<n by omega) hsq0 x).1 ⟨hx1,hle⟩;have hj:(Ct f n B ys+1 - x).toNat=(Ct f n B ys+1 - (x+1)).toNat+1:=by omega
  rw[hj]at hIL5 hp5 hL5;replace hIL5:IL.drop p1=emX f n B k (x::ys)++JG (fun x=>emX f n B k (x::ys)) (Ct f n B ys+1 - (x+1)).toNat (x+1)++rest:=hIL5;replace hp5:p1+(emX f n B k (x::ys)++JG (fun x=>emX f n B k (x::ys)) (Ct f n B ys+1 - (x+1)).toNat (x+1)).length=e1:=hp5;replace hL5:L++(Gs f n B k (x::ys)++JG (fun x=>Gs f n B k (x::ys)) (Ct f n B ys+1 - (x+1)).toNat (x+1))=F:=hL5;rw[Bf]at hp5;have hlL:L.length+(Gs f n B k (x::ys)).length<=F.length:=by rw[<- hL5];simp
  refine Nv ?_;refine .r rfl ?_;refine Af.nil (Ad.ak ?_);refine St.cutB (fun _:List Int=>[(0,.int .i64 (k:Int)),(1,.pointer (some ⟨b3,0,none⟩)),(2,.pointer (some ⟨b7,0,none⟩)),(3,.pointer (some ⟨b6,0,none⟩)),(4,.pointer (some ⟨b8,0,none⟩)),(5,.pointer (some ⟨b5,0,none⟩)),(6,.pointer (some ⟨b2,0,none⟩)),(8,.pointer (some ⟨w.heap.size,0,none⟩))]) (fun xs2 w'=>CnI n wB b2 b3 b5 b6 b7 b8 bx bm w' xs2 (p1+(emX f n B k (x::ys)).length) (c+(L++Gs f n B k (x::ys)).length) (cG f n G (L++Gs f n B k (x::ys)))/\xs2.drop k=x::ys/\∀ q C,Aj 133 w6 q C->Aj 133 w' q C) ?_ ?_
  ·by_cases hk0:k=0
   ·subst hk0;refine St.ay rfl (decide_eq_false oo) ?_;have hxs:xs1=x::ys:=hdr5;have hzl:(x::ys).length=n:=by rw[BR];omega
    have hsc0:=RZ hR (x::ys) oo;have hsc1:=QZ (f:=f) (B:=B) hzl;have h2w:=h2.ext hC6.ext;have hno:=fun (wk:World) (hxk:Ac w6 wk)=>A48 ((hH.ext hC6.ext).ext hxk) (hC6.x.ext hxk) hC6.len oo (by rw[hxs];omega);rw[hxs]at hno;obtain⟨s,hs⟩:∃ s,s=IJ f n (x::ys):=⟨_,rfl⟩;rw[<- hs]at hsc0 hsc1 hno;have hlv:Gs f n B 0 (x::ys)=[x::ys]:=rfl;have hb:=hC6.bnd s;rw[hlv]at hlL ⊢;simp only[Kk]at hlL;refine Nv ?_;refine sD 4 [(39,Is (.map (some bm))),(40,Is hv),(41,Is (.slice (some ⟨bx,0,none⟩) n n)),(42,Is (.int .i64 s))] ?_ ?_
    ·refine⟨?_,?_,?_,?_,trivial⟩
     ·exact fun wk hxk=>CD.run rfl rfl rfl rfl (A0.load Tw rfl rfl rfl ((hC6.mv.ext hxk).cell rfl)) rfl
     ·exact fun wk hxk=>CD.run rfl rfl rfl rfl (FX (h2w.ext hxk)) rfl
     ·exact fun wk hxk=>CD.run rfl rfl rfl rfl (FX (hC6.xv.ext hxk)) rfl
     ·intro wk hxk v40 e40 _ e41;replace e40:v40=hv:=e40;subst v40;cases e41;refine oC Wg (hno wk hxk) ?_;rintro v w' ⟨hx,rfl⟩;exact⟨hx,rfl⟩
    rintro w7 hx7 _ rfl _ _ _ rfl _ rfl _;have hC7:=hC6.more hx7;refine .p (A0.eE rfl rfl oo hC7.map) ?_;refine .a 1 (.int .i64 (cG f n G L s+1)) rfl (by rw[Ab oo oo]) ?_;refine Af.step0 rfl rfl (Av.upd64 rfl rfl rfl oo oo oo hC7.map) ?_;rintro _ w8 ⟨hM8,hu8⟩;have hG8:(fun q=>if q=s then cG f n G L s+1 else cG f n G L q)=cG f n G (L++[x::ys]):=by rw[hs,A8A,A63]
    rw[hG8]at hM8;have hbn:∀ m,0<=cG f n G (L++[x::ys]) m/\cG f n G (L++[x::ys]) m<=((c+L.length+1:Nat):Int):=fun m=>by rw[<- hG8];have h1:=hC6.bnd m;dsimp only;split <;> omega
    have hC8:=hC7.setM hu8 hM8 hbn hlow.2.2;refine Nv ?_;refine Ad.met xs1 AL ⟨?_,hdr5,fun q C h=>(h.ext hx7).upd hu8 (fun e=>hC7.map.ne (h.ext hx7) e.symm)⟩;rw[Bf,Kk,<- HS];exact hC8
   ·obtain⟨k',rfl⟩:∃ k',k=k'+1:=⟨k - 1,by omega⟩;refine St.aD rfl (decide_eq_true oo) ?_;have hc:=ih k' rfl xs1 p1 (c+L.length) (cG f n G L);rw[hdr5]at hc;refine Nv ?_;refine .p (A0.load Tw rfl rfl rfl (hC6.fv.cell rfl)) ?_;refine .a 2 (.int .i64 (k':Int)) rfl (by rw[Ab oo oo];congr 1;omega) ?_;refine .s (Av.bY KU rfl rfl (hc w6 _ hC6 hre' (by rw[EO]at hIL5;exact hIL5) oo)) ?_;rintro _ w7 ⟨xs2,hC7,hdr7,hK7⟩;rw[A63,HS,<- Bf]at hC7;refine Nv ?_;exact Ad.met xs2 AL ⟨hC7,hdr7,hK7⟩
  ·rintro xs2 w7 ⟨hC7,hdr7,hK7⟩;have hxk:(xs2.map DZ)[k]?=some (.int .i64 x):=by
    have h1:(xs2.drop k)[0]?=some x:=by rw[hdr7];rfl
    rw[Jt,Ep]at h1;rw[J7,h1];rfl
   have hxl2:=hC7.len;have hcx:w7.cell? (Addr.add ⟨bx,0,none⟩ k)=some (.int .i64 x):=by rw[Ak,AE];exact hC7.x.cell hxk
   refine Nv ?_;refine .p (A0.load A8 rfl rfl rfl (hC7.xv.cell rfl)) ?_;refine .r rfl ?_;refine .p (A0.ia) ?_;refine .p (rL hcx) ?_;refine .a 1 (.int .i64 (x+1)) rfl (by rw[Ab oo oo]) ?_;refine Af.put A8 k hC7.x rfl hk (by rw[Bj];omega) rfl rfl rfl rfl rfl rfl rfl rfl (fun _=>rfl) (fun _=>rfl) rfl rfl ?_;intro p8 w8 B8 hu8;rw[AE,show (xs2.map DZ).set k (.int .i64 (x+1))=(xs2.set k (x+1)).map DZ from by rw[Gx]]at B8;have hC8:=hC7.setX hu8 B8 (by rw[EP];exact hxl2) hlow.1;have hK8:=fun q C (h:Aj 133 w7 q C)=>(hu8.kp hC7.x).typed _ _ _ h de;refine A7 ?_;refine Ad.again (x+1,xs2.set k (x+1),p1+(emX f n B k (x::ys)).length,L++Gs f n B k (x::ys)) AL ⟨⟨by show _<=x+1;omega,by show x+1<=_;omega⟩,hC8,?_,hK8 _ _ (hK7 _ _ B6),fun q C h=>hK8 _ _ (hK7 _ _ (hK6 q C h)),?_,?_,?_⟩ (by show (Ct f n B ys+1 - (x+1)).toNat<(Ct f n B ys+1 - x).toNat;omega)
   ·show (xs2.set k (x+1)).drop k=(x+1)::ys;rw[QW oo,<- Hl (i:=1),hdr7];rfl
   ·show IL.drop (p1+(emX f n B k (x::ys)).length)=_;rw[<- Hl,hIL5,EO,List.drop_left]
   ·show p1+(emX f n B k (x::ys)).length+(JG (fun x=>emX f n B k (x::ys)) (Ct f n B ys+1 - (x+1)).toNat (x+1)).length=e1;omega
   ·show L++Gs f n B k (x::ys)++_=F;rw[EO];exact hL5
 ·refine .a 1 (.bool false) rfl (A9 hle) ?_;have hz:(Ct f n B ys+1 - x).toNat=0:=by omega
  rw[hz]at hp5 hL5;replace hL5:L++[]=F:=hL5;replace hp5:p1+0=e1:=hp5;rw[D7]at hL5;rw[Ep]at hp5;subst hL5 hp5;refine A7 ?_;refine .cF ?_;refine Nv ?_;refine Ad.aC A8 [] rfl trivial ⟨xs1,hC6,?_,hK6⟩;rw[<- Hl (i:=1),hdr5];rfl
variable {b2 b5 bm b3 b6:Nat}
theorem A66 {IL:List (Int×Int)}{iv:Value}(m:BQ n f) (r:1<=n/\n<=8) (hB:0<=B/\B<=1000) (j:G8 wB hv n f) (d:Aj 25 wB b2 [hv]) (l:Aq 2 133 0 wB iv (IL.map ivV)) (g:Aj 89 wB b3 [iv]) (q:wB.heap.size<=bx/\wB.heap.size<=b7/\wB.heap.size<=bm) (o:IL.length<=1000001):∀ k,k<n->A64 n f B IL wB b2 b3 b5 b6 b7 b8 bx bm k:=by
 intro k;induction k with
 | zero=>exact fun c=>A0r m r hB j d l g q o c (fun k' e=>by omega)
 | succ k ihk=>exact fun c=>A0r m r hB j d l g q o c (fun k' e=>by
   have e2:k'=k:=by omega
   subst e2;exact ihk oo)
theorem A0s {w:World}{iv:Value}(h:G8 w hv n f) (A:BQ n f) (D:1<=n/\n<=8) (hB:0<=B/\B<=1000) (i:Aq 2 133 0 w iv ((Rj f n B (n - 1) []).map ivV)) (V:(Rj f n B (n - 1) []).length<=1000001) (hk:(Gs f n B n []).length<=1000000) :
  Calls prog 58 #[hv,iv] w (AJ fun x w'=>Ac w w'/\∃ bm c,x=.map (some bm)/\KO w' bm c (cG f n (fun _=>0) (Gs f n B n []))):=by
 obtain⟨O,ch,e,hi,hA⟩:=id h;subst e;obtain⟨pi,ci,P⟩:=i.len;refine cS func58 ntmps58 ?_;refine Nv ?_;refine .s (oB) ?_;rintro _ w1 ⟨rfl,B2,ha,hl⟩;refine .s (oB) ?_;rintro _ w2 ⟨rfl,B3,E,hm⟩;replace B2:Aj 25 w2 w.heap.size [.slice (some O) n ch]:=B2.ext E;replace B3:Aj 89 w2 w1.heap.size [iv]:=by rw[P]at B3 ⊢;exact B3
 have z:=ha.trans E;have R:=h.ext z;have S:=i.ext z;refine A7 ?_;refine Af.step rfl rfl rfl Av.makeMap ?_;rintro _ w3 ⟨rfl,T,hb⟩;refine .s (Av.alloc Tw rfl) ?_;rintro _ w4 ⟨rfl,B5,hd,ho⟩;refine Af.step0 rfl rfl (Av.store Tw (vs:=[.map (some w2.heap.size)]) rfl rfl rfl rfl rfl B5 (Ai 1) (by simp[Value.oneCell'])) ?_;rintro _ j ⟨q,W⟩;replace q:Aj 92 j w3.heap.size [.map (some w2.heap.size)]:=q;have G:Ac w3 j:=hd.aj W AO;have t:=hb.trans G;refine A7 ?_;refine .p (FX (B2.ext t)) ?_;refine .r rfl ?_;refine .s (Av.make A8 n rfl rfl rfl rfl rfl rfl rfl rfl (by show n * 8<=_;omega) oo) ?_;rintro _ k ⟨rfl,N,H,hp⟩;refine .s (oA) ?_;rintro _ w7 ⟨rfl,M,he,hq⟩;refine Af.step0 rfl rfl (Av.store A8 (vs:=[.slice (some ⟨j.heap.size,0,none⟩) n n]) rfl rfl rfl rfl rfl M (Ai 1) (by simp[Value.oneCell'])) ?_;rintro _ d ⟨u,X⟩;replace u:Aj 33 d k.heap.size [.slice (some ⟨j.heap.size,0,none⟩) n n]:=u;have I:Ac k d:=he.aj X AO;refine A7 ?_;refine .s (oA) ?_;rintro _ w9 ⟨rfl,B7,hg,hr⟩;refine Af.step0 rfl rfl (Av.store A8 (vs:=[.int .i64 0]) rfl rfl rfl rfl rfl B7 (Ai 1) (by simp[Value.oneCell'])) ?_;rintro _ g ⟨v,Y⟩;replace v:Aj 3 g d.heap.size [.int .i64 ((0:Nat):Int)]:=v;have hf:Ac d g:=hg.aj Y AO;refine A7 ?_;refine .s (Av.alloc Tw rfl) ?_;rintro _ wC ⟨rfl,B8,hh,hs⟩;refine A7 ?_;refine .p (A0.func (us:=[]) (vs:=[_,_,_,_,_,_]) rfl rfl) ?_;refine Af.step0 rfl rfl (Av.store Tw (vs:=[cnV w.heap.size w1.heap.size w3.heap.size k.heap.size d.heap.size g.heap.size]) rfl rfl rfl rfl rfl B8 (Ai 1) (by simp[Value.oneCell',cnV])) ?_;rintro _ o ⟨l,Z⟩;replace l:Aj 131 o g.heap.size [cnV w.heap.size w1.heap.size w3.heap.size k.heap.size d.heap.size g.heap.size]:=l;have L:Ac g o:=hh.aj Z AO;have K:=hf.trans L;have J:=I.trans K;have b:=H.trans J;have F:=t.trans b;have s1:=t.size;have s2:=H.size;have s3:=I.size;have Q:CnI n w2 w.heap.size w1.heap.size w3.heap.size k.heap.size d.heap.size g.heap.size j.heap.size w2.heap.size o (List.replicate n 0) 0 0 (fun _=>0) :=
  ⟨F,by rw[G9];exact N.ext J,by simp,u.ext K,v.ext L,q.ext b,(T.ext G).ext b,l,fun m=>⟨Gy _,Gy _⟩⟩
 have U:(List.replicate n (0:Int)).drop (n - 1+1)=[]:=by simp;omega
 have hj:=A.aW D.2 (Ai n);have C:=A66 A D hB R B2 S B3 (b5:=w3.heap.size) (b6:=k.heap.size) (b7:=d.heap.size) (b8:=g.heap.size) (bx:=j.heap.size) (bm:=w2.heap.size) ⟨by omega,by omega,Ai _⟩ V (n - 1) oo (List.replicate n 0) 0 0 (fun _=>0) o [] Q;rw[U,PK,show n - 1+1=n by omega]at C;refine A7 ?_;refine .p (A0.load Tw rfl rfl rfl (l.cell rfl)) ?_;refine .p (FX (B2.ext F)) ?_;refine .a 2 (.int .i64 ((n - 1:Nat):Int)) rfl (by rw[Ab oo oo];congr 1;omega) ?_;refine .s (Av.bY KU rfl rfl (C (DI oo hB.1) sm oo)) ?_;rintro _ wE ⟨xs',y,_,_⟩;refine Nv ?_;refine .p (A0.load Tw rfl rfl rfl (y.mv.cell rfl)) ?_;refine A7 ?_;exact Ad.ax rfl rfl ⟨z.trans y.ext,_,_,rfl,y.map⟩
theorem A9g (f:Nat->Nat->Int) (n:Nat) (B m:Int):cG f n (fun _=>0) (Gs f n B n []) m=MK (Sb f n B) m:=by unfold cG MK Sb;rw[List.filter_map,Bj,Q6];rfl
theorem SS {w:World}{b:Int}(h:Ft w hv M) (v:M.length<=1000000) :
  Calls prog 30 #[hv,.int .i64 B,.int .i64 b] w (AJ fun x w'=>Ac w w'/\YL w' x M B b):=by
 obtain⟨ph,ch,e⟩:=h.len;subst e;refine cS func30 ntmps30 ?_;refine A7 ?_;refine .s (oK KS (Nu h v)) ?_;rintro _ w1 ⟨q,c,rfl,C⟩;cases c with
 | false =>
  have y:¬ Ie M:=fun d=>absurd (C.2 d) sm;refine A7 ?_;refine .ct ?_;exact Ad.aC A8 [_,_] rfl ⟨rfl,rfl,trivial⟩ ⟨q,fun _=>rfl,fun d=>absurd d y,fun d=>absurd d y,fun d=>absurd d y⟩
 | true =>
  have l:=C.1 rfl;have K:=l.bq.1;have R:1<=M.length/\M.length<=8:=⟨l.1.1,l.2.2.1⟩;refine A7 ?_;refine .cF ?_;refine Nv ?_;by_cases f:B<0
  ·refine .a 2 (.bool true) rfl (Aa f) ?_;refine A7 ?_;refine .ct ?_;refine .ct ?_;exact Ad.aC A8 [_,_] rfl ⟨rfl,rfl,trivial⟩ ⟨q,fun d=>absurd l d,fun _ _=>rfl,fun _ j=>absurd j.1 oo,fun _ j=>absurd j.1 oo⟩
  refine .a 2 (.bool false) rfl (A9 f) ?_;refine A7 ?_;refine .cF ?_;refine Nv ?_;by_cases n:B > 1000
  ·refine .a 2 (.bool true) rfl (Aa n) ?_;refine A7 ?_;refine .ct ?_;exact Ad.aC A8 [_,_] rfl ⟨rfl,rfl,trivial⟩ ⟨q,fun d=>absurd l d,fun _ _=>rfl,fun _ j=>absurd j.2.1 oo,fun _ j=>absurd j.2.1 oo⟩
  refine .a 2 (.bool false) rfl (A9 n) ?_;obtain⟨k,rfl⟩:∃ k:Nat,B=k:=⟨B.toNat,by omega⟩;have Q:k<=1000:=by omega
  refine A7 ?_;refine .cf ?_;refine .s (oK XD (A28 (h.ext q) l Q)) ?_;rintro x w2 ⟨U,H,I,J⟩;have o:=q.trans U;by_cases j:Lx k b
  ·rcases Gw b (P7 (ent M) M.length k M.length []) with hlt | hge
   ·obtain rfl:=I j hlt;refine A7 ?_;refine .ct ?_;exact Ad.aC A8 [_,_] rfl ⟨rfl,rfl,trivial⟩ ⟨o,fun d=>absurd l d,fun _ hB=>absurd j hB,fun _ _ _=>rfl,fun _ _ v=>by omega⟩
   ·obtain⟨iv,rfl,N⟩:=J j hge;have X:=VW l hge;have P:b<=1000000:=j.2.2.2;have S:H7 M k=Ly (k+1) (Sb (ent M) M.length k):=by unfold H7;rw[Cj]
    refine A7 ?_;refine .cf ?_;refine .s (oK Uu (A0s ((l.at h).ext o) K R (show (0:Int)<=k/\(k:Int)<=1000 by omega) N (A61 l P hge) oo)) ?_;rintro _ w3 ⟨F,bm,c,rfl,u⟩;have L:cG (ent M) M.length (fun _=>0) (Gs (ent M) M.length k M.length [])=MK (Sb (ent M) M.length k):=funext fun m=>A9g _ _ _ m;rw[L]at u;generalize Sb (ent M) M.length k=its at *
    refine .r rfl ?_;refine Nv ?_;refine .a 2 (.int .i64 ((k+1:Nat):Int)) rfl (Bv oo) ?_;refine .s (Av.make A8 (k+1) rfl rfl rfl rfl rfl rfl rfl rfl (by show (k+1) * 8<=_;omega) oo) ?_;rintro _ w4 ⟨rfl,B4,G,Z⟩;have T:=(o.trans F).trans G;have O:=u.ext G;have W:=u.lt;refine A7 ?_;refine H6 (40) (0) ((k+1)) [(10,.map (some bm)),(11,.slice (some ⟨w3.heap.size,0,none⟩) (k+1) (k+1)),(38,.slice (some ⟨w3.heap.size,0,none⟩) (k+1) (k+1)),(39,.int .i64 ((k+1:Nat):Int))] (fun i w'=>Ac w w'/\KO w' bm c (MK its)/\Aj 2 w' w3.heap.size (prt (k+1) i (fun m=>MK its m))) ?_ ?_ ?_
    ·exact⟨T,O,by rw[A0o];exact B4⟩
    ·rintro i V Y ⟨z,A,B5⟩;refine A7 ?_;refine .p (A0.eE rfl rfl oo A) ?_;refine Af.put A8 i B5 rfl oo (by rw[A2P];omega) rfl rfl rfl rfl rfl rfl rfl rfl (fun _=>rfl) (fun _=>rfl) rfl rfl ?_;intro p6 w6 t E;rw[AE,A2Q (g:=fun m:Nat=>MK its m)]at t;refine A7 ?_;exact Ad.rnd AL ⟨z.aj E (o.trans F).size,A.upd E oo,t⟩
    ·rintro V ⟨z,_,B5⟩;rw[A2R]at B5;have D:=A5V (xs:=Ly (k+1) its) (by rw[show (Ly (k+1) its).map DZ=Ii (k+1) (fun m=>MK its m) by simp[Ly,Ii,DZ]];exact B5) (by rw[El];unfold maxLen;omega);rw[El]at D;refine A7 ?_;exact Ad.aC A8 [_,_] rfl ⟨rfl,rfl,trivial⟩ ⟨z,fun d=>absurd l d,fun _ hB=>absurd j hB,fun _ _ v=>by omega,fun _ _ _=>⟨_,rfl,by rw[S];exact D⟩⟩
  ·obtain rfl:=H j;refine A7 ?_;refine .ct ?_;exact Ad.aC A8 [_,_] rfl ⟨rfl,rfl,trivial⟩ ⟨o,fun d=>absurd l d,fun _ _=>rfl,fun _ hB=>absurd hB j,fun _ hB=>absurd hB j⟩
theorem KE {w:World}{cv:Value}{es:List FV}{B b:Int}(h:Ke w cv es) (I:∀ e ∈ es,e.1.length<=1000000) (U:es.length<=1000000) :
  Calls prog 10 #[cv,.int .i64 B,.int .i64 b] w (AJ fun x w'=>Ac w w'/\R7 w' x es B b):=by
 obtain⟨p,cap,e⟩:=h.len;subst e;unfold R7;refine cS func10 ntmps10 ?_;refine Nv ?_;refine .r rfl ?_;refine Nv ?_;by_cases q:64<es.length
 ·have m:Ox B b es=7:=if_pos q;rw[m];refine .a 3 (.bool true) rfl (Aa oo) ?_;refine A7 ?_;refine .ct ?_;exact Ad.aC A8 [_,_] rfl ⟨rfl,rfl,trivial⟩ ⟨Ac.refl _,_,rfl,fun e=>by (cases e),fun _=>rfl⟩
 ·have m:Ox B b es=WH B b es:=if_neg q;rw[m];refine .a 3 (.bool false) rfl (A9 oo) ?_;refine A7 ?_;refine .cf ?_;refine sG (18) (0) (es.length) (fun g:Value=>[(8,g),(0,.slice p es.length cap),(1,.int .i64 B),(2,.int .i64 b),(16,.slice p es.length cap),(17,.int .i64 es.length)]) (fun i g w'=>Ac w w'/\WH B b es=WH B b (es.drop i)/\Ee w.heap.size w' g (OI B (es.take i))) (.slice none 0 0) ?_ ?_ ?_
  ·exact⟨Ac.refl _,rfl,Ee.nil _ _⟩
  ·rintro i g w1 j ⟨l,c,k⟩;obtain⟨a,_,fv,neg,mag,e1,G,L,A,_⟩:=(h.ext l).at j;cases e1;have J:=I _ (DU j);have N:OI B (es.take (i+1))=OI B (es.take i)++[H7 es[i].1 B]:=by unfold OI;rw[DA j,Ev];rfl
   have H:WH B b (es.drop i)=if OH es[i].1 B b=0 then WH B b (es.drop (i+1)) else OH es[i].1 B b:=by rw[ED j];rfl
   rw[H]at c;rw[N];have V:(OI B (es.take i)).length<=64:=by unfold OI;rw[Bj,EE];omega
   generalize es[i].1=M at *
   refine A7 ?_;refine .p (rK j) ?_;refine .p (A0.aB (cs:=[fv,neg,mag]) A8 rfl rfl rfl rfl G) ?_;refine .s (oA) ?_;rintro _ w2 ⟨rfl,B2,P,X⟩;refine Af.step0 rfl rfl (Av.store A8 (vs:=[fv,neg,mag]) rfl rfl rfl rfl rfl B2 (Ai 3) L) ?_;rintro _ w3 ⟨B3,O⟩;replace B3:Aj 62 w3 w1.heap.size [fv,neg,mag]:=B3;have t:Ac w1 w3:=P.aj O AO;refine A7 ?_;refine .p FW ?_;refine .r rfl ?_;refine .s (oK MR (SS (A.ext t) J)) ?_;rintro x S ⟨Q,F⟩;obtain⟨v,rfl,k0,k1⟩:=F.w;have f:=t.trans Q;have o:=l.trans f;refine .r rfl ?_;by_cases d:OH M B b=0
   ·rw[if_pos d]at c;have hv:=k0 d;rw[d];refine A7 ?_;refine .cf ?_;obtain⟨us,D,y⟩:=k.ext f;have W:=y.1;refine Af.aZ D (.inl ⟨rfl,hv.one⟩) rfl rfl rfl rfl rfl rfl (fun _=>rfl) rfl rfl oo rfl o.size ?_;intro Y R T E z n _ _;have u:Kp 33 w.heap.size S T:=⟨z,fun t' b C h K=>n t' b C h (.inl K)⟩;refine A7 ?_;exact Ad.aO R AL ⟨z w o AO,c,_,E,(y.kp u de).snoc (u.lo hv de)⟩
   ·rw[if_neg d]at c;rw[c];refine Nv ?_;refine .a 11 (.bool true) rfl (by simp[d]) ?_;refine A7 ?_;refine .ct ?_;exact Ad.aC A8 [_,_] rfl ⟨rfl,rfl,trivial⟩ ⟨o,_,rfl,fun e=>absurd e d,fun _=>rfl⟩
  ·rintro g w1 ⟨l,c,k⟩;rw[Kj]at c;rw[D5]at k;rw[c];refine A7 ?_;exact Ad.aC A8 [_,_] rfl ⟨rfl,rfl,trivial⟩ ⟨l,_,rfl,fun _=>k.mono BI,fun e=>absurd rfl e⟩
theorem Ft.row2 {w:World}{v:Value}{L:List (List Int)}(h:Ft w v L) {i:Nat}(j:i<L.length):∃ a cap p c,v=.slice (some a) L.length cap/\w.cell? (a.add i)=some (.slice p (L.getD i []).length c)/\Nh w (.slice p (L.getD i []).length c) (L.getD i []):=by obtain⟨a,cap,r,e,g,d⟩:=h.rowAt j;obtain⟨p,c,e2⟩:=d.len;subst e2;exact⟨a,cap,p,c,e,g,d⟩
theorem WK {w:World}{u v:Value}{L:List (List Int)}(h:Ft w u L) (k:Ft w v L) (H:L.length<=1000000) (D:∀ i,(L.getD i []).length<=1000000) :
  Calls prog 26 #[u,v] w (AJ fun x w'=>Ac w w'/\x=.bool true):=by
 obtain⟨n,m,e1⟩:=h.len;obtain⟨pv,cv,e2⟩:=k.len;subst e1 e2;refine cS func26 ntmps26 ?_;refine Nv ?_;refine .r rfl ?_;refine Nv ?_;refine .a 5 (.bool false) rfl sm ?_;refine A7 ?_;refine .cf ?_;refine H6 (14) (0) (L.length) [(0,.slice n L.length m),(1,.slice pv L.length cv),(12,.slice n L.length m),(13,.int .i64 L.length)] (fun i w'=>Ac w w') ?_ ?_ ?_
 ·exact Ac.refl _
 ·rintro i w1 z l;obtain⟨a,_,p,c,e1,o,E⟩:=(h.ext l).row2 z;obtain⟨b,_,q,d,e2,y,F⟩:=(k.ext l).row2 z;cases e1;cases e2;have I:=D i;generalize L.getD i []=row at *
  refine A7 ?_;refine sF 10 ?_;refine .q ?_;refine .on (fun _ _=>A0.ia) ?_;refine .on (fun _ e=>rL (e.aq.cell o)) ?_;refine .q ?_;refine .on (fun _ _=>A0.ia) ?_;refine .on (fun _ e=>rL (e.aq.cell y)) ?_;refine .q ?_;refine FL.aG rfl ?_;rintro w2 f _ _;refine .a 1 (.bool false) rfl sm ?_;refine A7 ?_;refine .cf ?_;refine .p (A0.ia) ?_;refine .p (rL (f.cell o)) ?_;refine A7 ?_;refine H6 (33) (0) (row.length) [(14,.int .i64 i),(5,.int .i64 i),(0,.slice (some a) L.length m),(1,.slice (some b) L.length cv),(12,.slice (some a) L.length m),(13,.int .i64 L.length),(32,.int .i64 row.length)] (fun j w'=>Ac w1 w') ?_ ?_ ?_
  ·exact f
  ·rintro j w3 t g;obtain⟨a2,_,e3,A⟩:=(E.ext g).cell t;obtain⟨b2,_,e4,C⟩:=(F.ext g).cell t;cases e3;cases e4;have s:=g.cell o;have B:=g.cell y;refine A7 ?_;refine sF 14 ?_;refine .q ?_;refine .on (fun _ _=>A0.ia) ?_;refine .on (fun _ e=>rL (e.aq.cell s)) ?_;refine .q ?_;refine .on (fun _ _=>A0.ia) ?_;refine .on (fun _ e=>rL (e.aq.cell A)) ?_;refine .q ?_;refine .on (fun _ _=>A0.ia) ?_;refine .on (fun _ e=>rL (e.aq.cell B)) ?_;refine .q ?_;refine .on (fun _ _=>A0.ia) ?_;refine .on (fun _ e=>rL (e.aq.cell C)) ?_;refine FL.aG rfl ?_;rintro J G _ _;refine .a 1 (.bool false) rfl sm ?_;refine A7 ?_;refine .cF ?_;refine Nv ?_;exact Ad.rnd AL (g.trans G)
  ·rintro w3 g;refine A7 ?_;exact Ad.rnd AL (l.trans g)
 ·rintro w1 l;refine A7 ?_;exact Ad.ax rfl rfl ⟨l,rfl⟩
theorem GX (w:World) (n:Int) (b:Bool):Calls prog 24 #[.int .i64 n,.bool b] w (AJ fun x w'=>Ac w w'/\x=.int .i64 (if b then n else 100000)):=by
 refine cS func24 ntmps24 ?_;refine A7 ?_;cases b
 ·refine .cf ?_;exact Ad.ax rfl rfl ⟨Ac.refl _,rfl⟩
 ·refine .ct ?_;exact Ad.ax rfl rfl ⟨Ac.refl _,rfl⟩
theorem PO {w:World}{x y:Value}{p q:Rat}(h:DnS w x p) (k:DnS w y q) (z:rz p<=40000) (t:rz q<=40000) (u:q≠0) :
  Calls prog 53 #[x,y] w (AJ fun r w'=>Ac w w'/\Bk 0 w' r (p / q)):=by refine cS func53 ntmps53 ?_;refine Nv ?_;refine .s (oB) ?_;rintro _ w1 ⟨rfl,B1,j,A⟩;refine .s (oB) ?_;rintro _ w2 ⟨rfl,B2,e,B⟩;refine .s (oA) ?_;rintro _ w3 ⟨rfl,B3,c,C⟩;have d:Ac w w3:=(j.trans e).trans c;replace B1:=(B1.ext e).ext c;replace B2:=B2.ext c;replace h:=h.ext d;replace k:=k.ext d;clear j e c;refine A7 ?_;refine .p (rR (B1) (h.1)) ?_;refine .p (rR (B2) (k.1)) ?_;refine .s (oK A0D (A1t h k z t)) ?_;rintro _ D ⟨f,o⟩;obtain⟨v,rfl,hv⟩:=o.2 u;refine .r rfl ?_;refine Af.bn rfl rfl (fun _=>rfl) hv.1 ?_;intro b E n l B5;refine A7 ?_;refine .p (rR (B5) (hv.1)) ?_;have g:=f.trans l;refine Af.aT rfl rfl rfl hv.1 (B3.ext g) rfl (d.trans g) oo ?_;intro F m a i;refine A7 ?_;exact Ad.bA rfl rfl m hv.1 ⟨i,(hv.ext l).upd a (B3.ext g) de⟩
def Eb (L:List FV):Rat:=L.foldl (fun s e=>s+(1:Rat) / (e.2:Rat)) 0
theorem Xs (L:List FV) (e:FV):Eb (L++[e])=Eb L+1 / (e.2:Rat):=by unfold Eb;rw[Q2];rfl
theorem Se {o:Int}(h:sz o<=20) (a:Int) (j:sz a<=2):rz ((a:Rat) / (o:Rat))<=24:=by have c:=Jf a;have d:=Jf o;have e:=V5 (o:Rat);have g:=V4 (a:Rat) (o:Rat)⁻¹;rw[DV];omega
theorem R9 {L:List FV}(h:∀ e ∈ L,sz e.2<=20):∀ i,i<=L.length->rz (Eb (L.take i))<=25 * i+2
 | 0,_=>by show rz 0<=_;have c:=Jf 0;have e:((0:Int):Rat)=0:=rfl;have z:=Bn (a:=0) oo oo;rw[e]at c;omega
 | i+1,hi=>by rw[DA oo,Xs];have c:=R9 h i oo;have d:=Se (h L[i] (DU _)) 1 (by rw[RI];omega);have g:=XW (Eb (L.take i)) (1 / (L[i].2:Rat));have e1:((1:Int):Rat)=1:=rfl;rw[e1]at d;omega
def okO (es:List FV):Prop:=∀ e ∈ es,1<=e.2
def A9h (w:World) (x:Value) (es:List FV):Prop:=(okO es->∃ v,x=.tuple #[v,.int .i64 0]/\Bk 0 w v (Eb es))/\(¬ okO es->x=.tuple #[zR,.int .i64 31])
theorem W0 {w:World}{cv:Value}{es:List FV}(h:Ke w cv es) (hl:es.length<=1000) :
  Calls prog 50 #[cv] w (AJ fun x w'=>Ac w w'/\A9h w' x es):=by
 obtain⟨p,cap,e⟩:=h.len;subst e;have hf:∀ e ∈ es,sz e.2<=20:=fun e c=>by obtain⟨i,k⟩:=Cx.1 c;obtain⟨V,e1⟩:=Au.1 k;obtain⟨_,_,_,_,_,_,_,_,_,j⟩:=h.at V;rw[<- e1];exact j.sz
 refine cS func50 ntmps50 ?_;refine Nv ?_;refine .s (oA) ?_;rintro _ w1 ⟨rfl,B2,hj,h3⟩;refine A7 ?_;refine .s (oK G1 (G6 w1 0 oo oo)) ?_;rintro u0 w2 ⟨C,J⟩;have t:=hj.trans C;refine Af.bn rfl rfl (fun _=>rfl) J.1 ?_;intro b w3 T E B3;have hy:=t.trans E;refine A7 ?_;refine sG (10) (0) (es.length) (fun _:Value=>[(2,.pointer (some ⟨w.heap.size,0,none⟩)),(3,.int .i64 0),(4,.pointer (some ⟨b,0,none⟩)),(8,.slice p es.length cap),(9,.int .i64 es.length)]) (fun i u w'=>Ac w2 w'/\(∀ e ∈ es.take i,1<=e.2)/\Aj 39 w' b u.cells.toList/\Bk 0 w' u (Eb (es.take i))) (u0) ?_ ?_ ?_
 ·exact⟨E,(by intro e c;simp at c),B3,by have:=J.ext E;exact this⟩
 ·rintro i u y k ⟨r,z,B4,hu⟩;have hh:=t.trans r;obtain⟨a,_,fv,neg,mag,e1,U,Z,hM,j⟩:=(h.ext hh).at k;cases e1;have ht:=R9 hf i oo;have W:=DU k;rw[DA k,Xs];generalize es.take i=done at *
  obtain⟨o,A⟩:∃ o,o=es[i].2:=⟨_,rfl⟩;rw[<- A]at j ⊢;have hd:=j.sz;refine A7 ?_;refine .p (rK k) ?_;refine .p (A0.aB (cs:=[fv,neg,mag]) A8 rfl rfl rfl rfl U) ?_;refine .s (oA) ?_;rintro _ w5 ⟨rfl,B5,hq,h4⟩;refine Af.step0 rfl rfl (Av.store A8 (vs:=[fv,neg,mag]) rfl rfl rfl rfl rfl B5 (Ai 3) Z) ?_;rintro _ H ⟨g,B⟩;replace g:Aj 62 H y.heap.size [fv,neg,mag]:=g;have M:Ac y H:=hq.aj B AO;refine A7 ?_;refine .p (A0.aA (cs:=[neg,mag]) A8 rfl rfl rfl g (by show 1+2<=3;decide) rfl) ?_;refine .s (oK Dd (EZ (j.dn.ext M))) ?_;rintro _ w7 ⟨F,rfl⟩;have f:=M.trans F;have D:=r.trans f;by_cases h0:o<=0
  ·refine .a 1 (.bool true) rfl (Aa (by unfold AH;split <;> omega)) ?_;refine A7 ?_;refine .ct ?_;refine .p (rB) ?_;have hm:=C.trans D;refine Af.aT (v:=zR) rfl rfl rfl GR (B2.ext hm) rfl (t.trans D) AO ?_;intro w8 B8 hw l;refine A7 ?_;exact Ad.bF rfl rfl rfl B8 GR ⟨l,fun hp=>absurd (hp _ W) (by rw[<- A];omega),fun _=>rfl⟩
  ·have hc:AH o=1:=by unfold AH;rw[if_neg oo,if_neg oo]
   rw[hc];refine .a 1 (.bool false) rfl (A9 oo) ?_;refine A7 ?_;refine .cF ?_;have hz:=F;have B7:=g.ext F;have S:=j.dn.ext f;have n:=B4.ext f;have K:=hu.ext f;have Y:(o:Rat)≠0:=by
    intro e;have:o=0:=by exact_mod_cast e
    omega
   have ha:=Se hd 1 (by rw[RI];omega);have e1:((1:Int):Rat)=1:=rfl;rw[e1]at ha;have hs:=Jf o;refine Nv ?_;refine St.sub (E':=[(10,.int .i64 i),(2,.pointer (some ⟨w.heap.size,0,none⟩)),(3,.int .i64 0),(4,.pointer (some ⟨b,0,none⟩)),(8,.slice (some a) es.length cap),(9,.int .i64 es.length),(6,.pointer (some ⟨y.heap.size,0,none⟩))]) ?_ AL;refine sD 6 [(19,Is u),(20,fun v w'=>Bk 0 w' v 1),(21,Is (.pointer (some ⟨y.heap.size,1,none⟩))),(22,Is (.agg #[neg,mag])),(23,fun v w'=>Bk 0 w' v (o:Rat)),(24,fun v w'=>Bk 0 w' v (1 / (o:Rat)))] ?_ ?_
   ·refine⟨?_,?_,?_,?_,?_,?_,trivial⟩
    ·exact fun m d=>CD.run rfl rfl rfl rfl (rR (n.ext d) K.1) rfl
    ·intro m d;refine oC G1 (G6 m 1 oo oo) ?_;rintro v w' ⟨q,hv⟩;exact⟨q,hv⟩
    ·exact fun m d=>oP
    ·rintro m d _ rfl;exact CD.run rfl rfl rfl rfl (A0.aA (cs:=[neg,mag]) A8 rfl rfl rfl (B7.ext d) (by show 1+2<=3;decide) rfl) rfl
    ·rintro m d _ rfl;refine oC LY (Nm (S.ext d)) ?_;rintro v w' ⟨q,hv⟩;exact⟨q,hv⟩
    ·rintro m d v1 P v2 Q;have r1:=Jf 1;rw[RI,e1]at r1;refine oC Pd (PO (Bk.dnS P oo) (Bk.dnS Q oo) oo oo Y) ?_;rintro v w' ⟨q,hv⟩;exact⟨q,hv⟩
   rintro w8 l N I _ _ _ rfl _ rfl _ _ h5 R _;replace I:N=u:=I;subst N;refine .s (oK Pc (PG ((K.ext l).dnS oo) (Bk.dnS R oo) oo oo)) ?_;rintro v w9 ⟨G,hv⟩;refine sR hv.1 ((n.ext l).ext G) hu.1.len (D.trans (l.trans G)) T ?_;intro h6 O hg hk;refine A7 ?_;refine Ad.aO v AL ⟨hk,fun e c=>?_,O,hv.upd hg ((n.ext l).ext G) de⟩;rcases FB.1 c with c | c
   ·exact z e c
   ·rw[Du]at c;rw[c,<- A];omega
 ·rintro u y ⟨r,z,B4,hu⟩;rw[D5]at z hu;have L:=C.trans r;refine A7 ?_;refine .p (rR (B4) (hu.1)) ?_;refine Af.aT rfl rfl rfl hu.1 (B2.ext L) rfl (t.trans r) oo ?_;intro H g B hr;refine A7 ?_;exact Ad.bF rfl rfl rfl g hu.1 ⟨hr,fun _=>⟨_,rfl,hu.upd B (B2.ext L) de⟩,fun X=>absurd z X⟩
variable {m s1 s2:Nat}{et:TypeId}{u z cv:Value}{es:List FV}{ti:TI}{qs:List Rat}
section
def En (B:Int) (m:Nat) (L:List FV):Rat:=L.foldl (fun s e=>s+(((H7 e.1 B).getD m 0:Int):Rat) / (e.2:Rat)) 0
theorem Sg (B:Int) (m:Nat) (L:List FV) (e:FV):En B m (L++[e])=En B m L+(((H7 e.1 B).getD m 0:Int):Rat) / (e.2:Rat):=by unfold En;rw[Q2];rfl
theorem Um {L:List FV}(h:∀ e ∈ L,sz e.2<=20/\sz ((H7 e.1 B).getD m 0)<=2):∀ i,i<=L.length->rz (En B m (L.take i))<=25 * i+2
 | 0,_=>by show rz 0<=_;have c:=Jf 0;have e:((0:Int):Rat)=0:=rfl;have z:=Bn (a:=0) oo oo;rw[e]at c;omega
 | i+1,hi=>by rw[DA oo,Sg];have c:=Um h i oo;have d:=h L[i] (DU _);have g:=Se d.1 _ d.2;have j:=XW (En B m (L.take i)) ((((H7 L[i].1 B).getD m 0:Int):Rat) / (L[i].2:Rat));omega
def Kb (B:Int) (es:List FV):List Rat:=(List.range (B.toNat+1)).map (fun m=>En B m es)
theorem Ra {b:Int}:∀ {es:List FV},WH B b es=0->∀ e ∈ es,OH e.1 B b=0
 | [],_,e,he=>by cases he
 | x::t,h,e,he=>by
  unfold WH at h;split at h
  ·rename_i c;rcases Cw.1 he with rfl | he
   ·exact c
   ·exact Ra h e he
  ·rename_i c;exact absurd h c
theorem Kc {b:Int}(h:OH M B b=0) (m:Nat):0<=(H7 M B).getD m 0/\(H7 M B).getD m 0<=1000000:=by
 obtain⟨g,d,j⟩:=R6 h;have l:=VW g j;have k:=d.2.2.2;rcases Dl m (B.toNat+1) with hm | hm
 ·unfold H7;rw[A2O hm];have c:=A2N (Sb (ent M) M.length B) m;rw[Ow]at c;omega
 ·have e:(H7 M B).getD m 0=0:=by rw[Bd,BJ (by unfold H7;rw[El];omega)];rfl
  rw[e];omega
theorem Av.bV {w:World}{pos:String}{a b c e:Value}
  (p:AG TB t=some ⟨.slice et,s1,s2,z⟩) (j:AG TB et=some ti) (h:ti.size=4) (A:ti.zero.cells.size=4) (s:ov E x=some u) (hu:u.cells=#[a,b,c,e]) :
  Av prog n ⟨d,.buildSlice t 1 #[(0,x)],ty,pos,af,g⟩ E w (fun v w'=>v=.slice (some ⟨w.heap.size,0,none⟩) 1 1/\Aj et w' w.heap.size u.cells.toList/\Ac w w'/\w'.heap.size=w.heap.size+1):=by
 intro ac l Q K k;obtain⟨_,inf,q,D,C,B⟩:=A8 et ti j;have e1:=l.eval s;have f:(execOp ac.eval ⟨d,.buildSlice t 1 #[(0,x)],ty,pos,af,g⟩).run prog w=.ok (.value (.slice (some ⟨w.heap.size,0,none⟩) 1 1)) (w.alloc (.cells u.cells et (0,0))):=by
  generalize ac.eval=ρ at e1;have o:∀ zc:Array Value,zc.size=4->Instr.fill (fun i=>some (i * 4,4)) ((Array.range (1 * 4)).map (zc[· % zc.size]!)) [(0,u)]=some u.cells:=by intro zc F;unfold Instr.fill;rw[hu];simp[Instr.fill,show Array.range 4=#[0,1,2,3] from rfl]
  have r:¬ 1 * 4=0:=by decide
  have y:¬ 1 * 4 > 2 ^ 24:=by decide
  have m:(Instr.buildSlice t 1 #[(0,u)]).run prog w=.ok (.slice (some ⟨w.heap.size,0,none⟩) 1 1) (w.alloc (.cells u.cells et (0,0))):=by unfold Instr.buildSlice;simp only[Bq,Ag A8 p,Bp,AK A8 j,h,if_neg r,if_neg y,zeroValue,BZ q,B,AX,o _ A];simp[newRow,go_sem]
  simp only[execOp,Js,Er,J4,e1,Bq,m,Bp,AX]
 unfold Oper.wp;rw[f,Oper.upon_value];refine k _ _ ⟨rfl,?_,Da _ _,Dc _ _⟩;exact DN _ _ _
theorem R4.eF {v:Value}(h:R4 v):∃ a b c d,v.cells=#[a,b,c,d]:=by obtain⟨n,s,m,t,rfl,_,_⟩:=h;exact⟨_,_,_,_,rfl⟩
theorem R4.k4 {v:Value}(h:R4 v):M8 4 [v]:=by intro x c;rw[Du]at c;subst c;exact⟨h.len,h.ones⟩
def Lz (w:World) (us:List Value) (qs:List Rat):Prop:=us.length=qs.length/\∀ (i:Nat) (u:Value) (q:Rat),us[i]?=some u->qs[i]?=some q->Bk 0 w u q
theorem Bk.kp {w:World}{v:Value}{q:Rat}(h:Bk 0 w v q) (c:Kp t base w w') (d:109≠t):Bk 0 w' v q:=⟨h.1,h.2.1.typed (fun b C hB=>c.typed _ b C hB d),h.2.2.typed (fun b C hB=>c.typed _ b C hB d)⟩
theorem Lz.ext {w:World}(h:Lz w us qs) (e:Ac w w'):Lz w' us qs:=⟨h.1,fun i u q c d=>(h.2 i u q c d).ext e⟩
theorem Lz.kp {w:World}(h:Lz w us qs) (e:Kp t base w w') (g:109≠t):Lz w' us qs:=⟨h.1,fun i u q c d=>(h.2 i u q c d).kp e g⟩
theorem Lz.snoc {w:World}{q:Rat}(h:Lz w us qs) (k:Bk 0 w u q):Lz w (us++[u]) (qs++[q]):=by
 refine⟨by rw[Bf,Bf,h.1];rfl,fun i v y c d=>?_⟩;by_cases e:i<us.length
 ·rw[BM e]at c;rw[BM (by rw[<- h.1];exact e)]at d;exact h.2 i v y c d
 ·rw[Es oo]at c;rw[Es (by rw[<- h.1];omega),<- h.1]at d;cases hj:i - us.length with
  | zero=>rw[hj]at c d;simp at c d;rw[<- c,<- d];exact k
  | succ j=>rw[hj]at c;simp at c
open Classical in
noncomputable def ML (B b:Int) (es:List FV):Int:=if es.length=0 then 3 else if okO es then Ox B b es else 31
def YS (base:Nat) (w:World) (x:Value) (es:List FV) (B b:Int) (g:List Rat):Prop:=∃ v,x=.tuple #[v,.int .i64 (ML B b es)]/\(ML B b es=0->∃ us,Aq 4 39 base w v us/\Lz w us g)/\(ML B b es≠0->v=.slice none 0 0)
theorem Rb {w:World}{b:Int}(h:Ke w cv es) (h4:∀ e ∈ es,Lj e.1) (hl:es.length<=1000) :
  Calls prog 27 #[cv,.int .i64 B,.int .i64 b] w (AJ fun x w'=>Ac w w'/\YS w.heap.size w' x es B b (Kb B es)):=by
 obtain⟨p,cap,e⟩:=h.len;subst e;unfold YS;have kt:∀ e ∈ es,sz e.2<=20:=fun e f=>by obtain⟨i,y⟩:=Cx.1 f;obtain⟨km,e1⟩:=Au.1 y;obtain⟨_,_,_,_,_,_,_,_,_,K⟩:=h.at km;rw[<- e1];exact K.sz
 refine cS func27 ntmps27 ?_;refine Nv ?_;refine .r rfl ?_;refine Nv ?_;by_cases J:es.length=0
 ·have E:ML B b es=3:=if_pos J;rw[E];refine .a 3 (.bool true) rfl (by rw[J];rfl) ?_;refine A7 ?_;refine .ct ?_;exact Ad.aC A8 [_,_] rfl ⟨rfl,rfl,trivial⟩ ⟨Ac.refl _,_,rfl,fun e=>by (cases e),fun _=>rfl⟩
 refine .a 3 (.bool false) rfl (by rw[beq_eq_false_iff_ne.2 oo]) ?_;refine A7 ?_;refine .cf ?_;refine .s (oK Ut (W0 h hl)) ?_;rintro _ w1 ⟨hw,h8,h9⟩;by_cases D:okO es
 ·have E:ML B b es=Ox B b es:=by unfold ML;rw[if_neg J,if_pos D]
  rw[E];obtain⟨sv,rfl,ks⟩:=h8 D;refine A7 ?_;refine Af.bn rfl rfl (fun _=>rfl) ks.1 ?_;intro b8 w2 kb W B8;have ht:=hw.trans W;refine A7 ?_;refine .cf ?_;refine .s (oK Qd (R8 (h.ext ht) h4 oo)) ?_;rintro _ w3 ⟨ky,lv,rfl,k0,k1⟩;have O:=ht.trans ky;refine .r rfl ?_;by_cases z:Ox B b es=0
  ·have hV:=k0 z;have kl:¬ 64<es.length:=fun hh=>by unfold Ox at z;rw[if_pos hh]at z;cases z
   have hg:=Ra (show WH B b es=0 by unfold Ox at z;rwa [if_neg kl]at z);have hp:=fun e (f:e ∈ es) m=>Kc (hg e f) m;rw[z];have hn:(OI B es).length=es.length:=by simp[OI]
   have hj:∀ i (y:i<es.length) (kj:i<(OI B es).length),(OI B es)[i]=H7 es[i].1 B:=fun i y kj=>by simp[OI]
   obtain⟨al,I,u0,hb,kc,hd⟩:=hV.at (i:=0) oo;rw[hn]at hb;subst hb;have kk:=hj 0 oo oo;rw[kk]at hd;obtain⟨p0,c0,e0⟩:=hd.len;have V:∀ M,(H7 M B).length=B.toNat+1:=fun M=>by unfold H7;rw[El]
   rw[Bj,V]at e0;subst e0;have hA:=(R6 (hg _ (DU (show 0<es.length by omega)))).2.1;have k5:B.toNat<=1000:=by have:=hA.2.1;omega
   have hq:(Kb B es).length=B.toNat+1:=by simp[Kb]
   refine A7 ?_;refine .cf ?_;refine .p (A0.ia) ?_;refine .p (rL kc) ?_;refine A7 ?_;refine sG (42) (0) ((B.toNat+1)) (fun g:Value=>[(0,.slice p es.length cap),(10,.slice (some al) es.length I),(12,g),(41,.int .i64 ((B.toNat+1:Nat):Int))]) (fun m g w'=>Ac w3 w'/\∃ us,Aq 4 39 w3.heap.size w' g us/\Lz w' us ((Kb B es).take m)) (.slice none 0 0) ?_ ?_ ?_
   ·exact⟨Ac.refl _,[],Aq.nil,rfl,fun i u q y=>by simp at y⟩
   ·rintro m g w4 hm ⟨P,us,N,C⟩;have kx:=C.1;rw[EE,hq]at kx;have ku:(Kb B es).take (m+1)=(Kb B es).take m++[En B m es]:=by rw[DA oo];simp[Kb]
    rw[ku];refine A7 ?_;refine .s (oK G1 (G6 w4 0 oo oo)) ?_;rintro v0 w5 ⟨X,hs⟩;refine Af.bn rfl rfl (fun _=>rfl) hs.1 ?_;intro b14 w6 ka Y h3;have uc:=X.trans Y;refine A7 ?_;refine sG (48) (0) (es.length) (fun _:Value=>[(42,.int .i64 m),(13,.int .i64 m),(14,.pointer (some ⟨b14,0,none⟩)),(46,.slice p es.length cap),(47,.int .i64 es.length),(0,.slice p es.length cap),(10,.slice (some al) es.length I),(12,g),(41,.int .i64 ((B.toNat+1:Nat):Int))]) (fun i u w'=>Ac w5 w'/\Aj 39 w' b14 u.cells.toList/\Bk 0 w' u (En B m (es.take i))) (v0) ?_ ?_ ?_
    ·exact⟨Y,h3,by have:=hs.ext Y;exact this⟩
    ·rintro i u H y ⟨Q,B7,hu⟩;have n:=X.trans Q;have G:=P.trans n;obtain⟨a,_,fv,neg,mag,e1,ke,ko,hM,K⟩:=(h.ext (O.trans G)).at y;cases e1;have ho:=DU y;have k7:=D _ ho;have ub:=hp _ ho m;have ua:=Um (B:=B) (m:=m) (L:=es) (fun e f=>⟨kt e f,by have:=hp e f m;exact Bn oo oo⟩) i oo;obtain⟨k2,k3,ui,hc,hk,hf⟩:=(hV.ext G).at (i:=i) oo;rw[hn]at hc;cases hc;rw[hj i y oo]at hf;obtain⟨b2,c2,e2,kg⟩:=hf.l64.cell (j:=m) (by rw[V];exact hm);subst e2;rw[V]at hk;rw[DA y,Sg];have kr:=K.sz;generalize En B m (es.take i)=q at *
     generalize (H7 es[i].1 B).getD m 0=c at *
     generalize es[i].2=o at *
     have kq:sz c<=2:=Bn oo oo;have k8:=Jf c;have k9:=Jf o;have k6:=Se kr c kq;have kn:(o:Rat)≠0:=by
      intro e;have:o=0:=by exact_mod_cast e
      omega
     refine A7 ?_;refine .p (rK y) ?_;refine .p (A0.aB (cs:=[fv,neg,mag]) A8 rfl rfl rfl rfl ke) ?_;refine .s (oA) ?_;rintro _ w8 ⟨rfl,T,t,ud⟩;refine .r rfl ?_;refine Af.step0 rfl rfl (Av.store A8 (vs:=[fv,neg,mag]) rfl rfl rfl rfl rfl T (Ai 3) ko) ?_;rintro _ w9 ⟨B9,kv⟩;replace B9:Aj 62 w9 H.heap.size [fv,neg,mag]:=B9;have A:Ac H w9:=t.aj kv AO;have S:=B7.ext A;have hr:=hu.ext A;have h6:=K.dn.ext A;have kf:=A.cell hk;have kh:=A.cell kg;refine Nv ?_;refine St.sub (E':=[(48,.int .i64 i),(42,.int .i64 m),(13,.int .i64 m),(14,.pointer (some ⟨b14,0,none⟩)),(46,.slice (some a) es.length cap),(47,.int .i64 es.length),(0,.slice (some a) es.length cap),(10,.slice (some al) es.length I),(12,g),(41,.int .i64 ((B.toNat+1:Nat):Int)),(15,.int .i64 i),(16,.pointer (some ⟨H.heap.size,0,none⟩))]) ?_ AL;refine sD 13 [(53,Is u),(54,Is (.slice (some al) es.length I)),(55,Is (.int .i64 i)),(56,Is (.pointer (some (al.add i)))),(57,Is (.slice (some b2) (B.toNat+1) c2)),(58,Is (.int .i64 m)),(59,Is (.pointer (some (b2.add m)))),(60,Is (.int .i64 c)),(61,fun v w'=>Bk 0 w' v (c:Rat)),(62,Is (.pointer (some ⟨H.heap.size,1,none⟩))),(63,Is (.agg #[neg,mag])),(64,fun v w'=>Bk 0 w' v (o:Rat)),(65,fun v w'=>Bk 0 w' v ((c:Rat) / (o:Rat)))] ?_ ?_
     ·refine⟨?_,?_,?_,?_,?_,?_,?_,?_,?_,?_,?_,?_,?_,trivial⟩
      ·exact fun l d=>CD.run rfl rfl rfl rfl (rR (S.ext d) hr.1) rfl
      ·exact fun l d=>oP
      ·exact fun l d=>oP
      ·rintro l d _ rfl _ rfl;exact CD.run rfl rfl rfl rfl (A0.indexAddr A8 rfl rfl rfl rfl rfl oo oo) rfl
      ·rintro l d _ rfl;exact CD.run rfl rfl rfl rfl (rL (d.cell kf)) rfl
      ·exact fun l d=>oP
      ·rintro l d _ rfl _ rfl;exact CD.run rfl rfl rfl rfl (A0.indexAddr A8 rfl rfl rfl rfl rfl oo oo) rfl
      ·rintro l d _ rfl;exact CD.run rfl rfl rfl rfl (rL (d.cell kh)) rfl
      ·rintro l d _ rfl;refine oC G1 (G6 l c oo oo) ?_;rintro v w' ⟨F,hv⟩;exact⟨F,hv⟩
      ·exact fun l d=>oP
      ·rintro l d _ rfl;exact CD.run rfl rfl rfl rfl (A0.aA (cs:=[neg,mag]) A8 rfl rfl rfl (B9.ext d) (by show 1+2<=3;decide) rfl) rfl
      ·rintro l d _ rfl;refine oC LY (Nm (h6.ext d)) ?_;rintro v w' ⟨F,hv⟩;exact⟨F,hv⟩
      ·rintro l d v1 h1 v2 h2;refine oC Pd (PO (Bk.dnS h1 oo) (Bk.dnS h2 oo) oo oo kn) ?_;rintro v w' ⟨F,hv⟩;exact⟨F,hv⟩
     rintro wA R hy ha _ rfl _ rfl _ rfl _ rfl _ rfl _ rfl _ rfl _ _ _ rfl _ rfl _ _ ue h5 _;replace ha:hy=u:=ha;subst hy;refine .s (oK Pc (PG ((hr.ext R).dnS oo) (Bk.dnS h5 oo) oo oo)) ?_;rintro v wC ⟨Z,hv⟩;refine sR hv.1 ((S.ext R).ext Z) hu.1.len (Q.trans (A.trans (R.trans Z))) ka ?_;intro wD BD kw kz;refine A7 ?_;exact Ad.aO v AL ⟨kz,BD,hv.upd kw ((S.ext R).ext Z) de⟩
    ·rintro u H ⟨Q,B7,hu⟩;rw[D5]at hu;have n:=X.trans Q;have G:=P.trans n;obtain⟨x1,x2,x3,x4,kd⟩:=hu.1.eF;refine A7 ?_;refine .p (rR (B7) (hu.1)) ?_;refine .s (Av.bV rfl rfl rfl rfl rfl kd) ?_;rintro _ w8 ⟨rfl,T,t,_⟩;refine .s (Av.cV (k:=4) (N.ext (n.trans t)) (Lw T) hu.1.k4 rfl rfl rfl rfl rfl rfl rfl (by simp;omega) rfl (G.trans t).size) ?_;rintro g9 w9 ⟨h7,ki,_⟩;have U:=J2 (N.ext (n.trans t)) ki;refine A7 ?_;exact Ad.aO g9 AL ⟨U.ext0 w3 (G.trans t) AO,_,h7,((C.ext (n.trans t)).kp U de).snoc ((hu.ext t).kp U de)⟩
   ·rintro g w4 ⟨P,us,N,C⟩;rw[<- hq,D5]at C;refine A7 ?_;exact Ad.aC A8 [_,_] rfl ⟨rfl,rfl,trivial⟩ ⟨O.trans P,_,rfl,fun _=>⟨us,N.mono O.size,C⟩,fun e=>absurd rfl e⟩
  ·refine Nv ?_;refine .a 11 (.bool true) rfl (by simp[z]) ?_;refine A7 ?_;refine .ct ?_;exact Ad.aC A8 [_,_] rfl ⟨rfl,rfl,trivial⟩ ⟨O,_,rfl,fun e=>absurd e z,fun _=>rfl⟩
 ·have E:ML B b es=31:=by unfold ML;rw[if_neg J,if_neg D]
  rw[E];obtain rfl:=h9 D;refine A7 ?_;refine Af.bn rfl rfl (fun _=>rfl) GR ?_;intro b8 w2 kb W B8;refine A7 ?_;refine .ct ?_;exact Ad.aC A8 [_,_] rfl ⟨rfl,rfl,trivial⟩ ⟨hw.trans W,_,rfl,fun e=>by (cases e),fun _=>rfl⟩
end
def A2a (n:Int) (b:Bool):Int:=if b=true/\(n<0\/n > 60) then -1 else (n.tmod 20+20).tmod 20
theorem PQ {n:Int}(d:-9223372036854775808<=n/\n<=9223372036854775807):-19<=n.tmod 20/\n.tmod 20<=19:=by
 have c:(n.tmod 20).natAbs<20:=by rw[Int.natAbs_tmod];exact CX _ de
 omega
theorem Ip (w:World) (n:Int) (b:Bool) (e:-9223372036854775808<=n/\n<=9223372036854775807):Calls prog 23 #[.int .i64 n,.bool b] w (AJ fun x w'=>Ac w w'/\x=.int .i64 (A2a n b)):=by
 have g:=PQ e;refine cS func23 ntmps23 ?_;refine Nv ?_;refine .r rfl ?_;refine Nv ?_;cases b with
 | false =>
  refine .r rfl ?_;refine Nv ?_;refine .cF ?_;refine Nv ?_;refine .r rfl ?_;refine .p (A0.bJ rfl rfl oo) ?_;refine .a 1 (.int .i64 (n.tmod 20+20)) rfl (by rw[Ab oo oo]) ?_;refine .p (A0.bJ rfl rfl oo) ?_;refine A7 ?_;exact uR ⟨Ac.refl _,by unfold A2a;rw[if_neg sm]⟩
 | true =>
  by_cases c:n<0
  ·refine .a 4 (.bool true) rfl (Aa c) ?_;refine A7 ?_;refine .ct ?_;exact Ad.ax rfl rfl ⟨Ac.refl _,by unfold A2a;rw[if_pos ⟨rfl,.inl c⟩]⟩
  refine .a 4 (.bool false) rfl (A9 c) ?_;by_cases d:n > 60
  ·refine .a 3 (.bool true) rfl (Aa d) ?_;refine A7 ?_;refine .ct ?_;exact Ad.ax rfl rfl ⟨Ac.refl _,by unfold A2a;rw[if_pos ⟨rfl,.inr d⟩]⟩
  refine .a 3 (.bool false) rfl (A9 d) ?_;refine .r rfl ?_;refine Nv ?_;refine .cF ?_;refine Nv ?_;refine .r rfl ?_;refine .p (A0.bJ rfl rfl oo) ?_;refine .a 1 (.int .i64 (n.tmod 20+20)) rfl (by rw[Ab oo oo]) ?_;refine .p (A0.bJ rfl rfl oo) ?_;refine A7 ?_;exact uR ⟨Ac.refl _,by unfold A2a;rw[if_neg (by rintro⟨_,h | h⟩;exact c h;exact d h)]⟩
theorem A0t (w:World) (a:Int) (d:-9223372036854775808<=a) (e:a<=9223372036854775807) :
  Calls prog 41 #[.int .i64 a] w (AJ fun r w'=>Ac w w'/\Bk 0 w' r (a:Rat)):=by have o:sz a<=2:=Bn oo oo;refine cS func41 ntmps41 ?_;refine Nv ?_;refine .s (oA) ?_;rintro _ w1 ⟨rfl,B1,j,q⟩;refine A7 ?_;refine .s (oK BC (DY w1 a d e)) ?_;rintro u w2 ⟨k,hu⟩;refine .s (oK Dw (Ib (base:=0) (hu.dn oo) BI)) ?_;rintro v w3 ⟨l,hv⟩;have c:=k.trans l;refine Af.aT rfl rfl rfl hv.1 (B1.ext c) rfl (j.trans c) AO ?_;intro y B4 g m;refine A7 ?_;exact Ad.bA rfl rfl B4 hv.1 ⟨m,hv.upd g (B1.ext c) de⟩
def YT (qs:List Rat):Rat:=qs.foldl (·+·) 0
theorem A49 (qs:List Rat) (q:Rat):YT (qs++[q])=YT qs+q:=by unfold YT;rw[Q2];rfl
theorem A0u {w:World}{v:Value}{us:List Value}{qs:List Rat}(h:Aq 4 39 0 w v us) (z:Lz w us qs) (X:us.length<=1000000) (S:∀ i,rz (YT (qs.take i))<=40000) (J:∀ q ∈ qs,rz q<=40000) :
  Calls prog 45 #[v] w (AJ fun r w'=>Ac w w'/\Bk 0 w' r (YT qs)):=by
 obtain⟨p,cap,e⟩:=h.len;subst e;have L:=z.1;refine cS func45 ntmps45 ?_;refine Nv ?_;refine .s (oA) ?_;rintro _ w1 ⟨rfl,B2,B,Z⟩;refine A7 ?_;refine .s (oK BC (DY w1 0 oo oo)) ?_;rintro s0 w2 ⟨C,M⟩;refine .s (oK Dw (Ib (base:=0) (M.dn (by have:=Bn (a:=0) oo oo;omega)) BI)) ?_;rintro u0 w3 ⟨D,f⟩;have P:=(B.trans C).trans D;refine Af.bn rfl rfl (fun _=>rfl) f.1 ?_;intro b w4 G E B4;refine A7 ?_;refine sG (10) (0) (us.length) (fun _:Value=>[(2,.pointer (some ⟨w.heap.size,0,none⟩)),(3,.pointer (some ⟨b,0,none⟩)),(8,.slice p us.length cap),(9,.int .i64 us.length)]) (fun i u w'=>Ac w3 w'/\Aj 39 w' b u.cells.toList/\Bk 0 w' u (YT (qs.take i))) (u0) ?_ ?_ ?_
 ·exact⟨E,B4,by have:=f.ext E;exact this⟩
 ·rintro i u T t ⟨k,B5,hu⟩;have A:=P.trans k;have n:us[i]?=some us[i]:=by simp[t]
  have K:qs[i]?=some (qs[i]'oo):=by simp
  have g:=(z.2 i _ _ n K).ext A;obtain⟨a,_,e1,H⟩:=(h.cells.ext A).at h.1 n;cases e1;rw[DA oo,A49];have ha:=S i;have Y:=J _ (DU (show i<qs.length by omega));generalize us[i]=x at *
  obtain⟨x1,x2,V,x4,rfl,y1,y2⟩:=id g.1;refine A7 ?_;refine .p (rK t) ?_;refine .p (A0.aB (cs:=[.bool x1,x2,.bool V,x4]) A8 rfl rfl rfl rfl (fun j c I=>by rw[Addr.add_add];exact H j c I)) ?_;refine Af.bn rfl rfl (fun _=>rfl) g.1 ?_;intro b6 U W d l;refine A7 ?_;refine .p (rR ((B5.ext d)) (hu.1)) ?_;refine .p (rR (l) (g.1)) ?_;refine .s (oK Ms (X2 ((hu.ext d).dn oo) ((g.ext d).dn oo) oo oo)) ?_;rintro y w7 ⟨Q,F⟩;have o:=d.trans Q;refine sR F.1 (B5.ext o) hu.1.len (k.trans o) G ?_;intro w8 B8 O R;refine A7 ?_;exact Ad.aO y AL ⟨R,B8,F.upd O (B5.ext o) de⟩
 ·rintro u T ⟨k,B5,hu⟩;rw[L,D5]at hu;have m:=(C.trans D).trans k;refine A7 ?_;refine .p (rR (B5) (hu.1)) ?_;refine Af.aT rfl rfl rfl hu.1 (B2.ext m) rfl (B.trans m) AO ?_;intro U l N d;refine A7 ?_;exact Ad.bA rfl rfl l hu.1 ⟨d,hu.upd N (B2.ext m) de⟩
end Go.Qf
